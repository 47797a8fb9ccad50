/-
  Numbers, lowest byte first, taken off bytes: the plain law.
-/
import Derived.Test.YtolpcfhfcdkokaaNode
namespace Go.Proofs.Ytolpcfhfcdkokaa
open Go.RowKit

/-- The number that bytes say, the lowest first. -/
def numL : List UInt8 → Nat
  | [] => 0
  | x :: xs => x.toNat + 256 * numL xs
theorem numL_lt (l : List UInt8) : numL l < 2 ^ (8 * l.length) := by
  induction l with
  | nil => simp [numL]
  | cons x xs ih =>
    have hx : x.toNat < 256 := x.toNat_lt
    have e : 2 ^ (8 * (x :: xs).length) = 256 * 2 ^ (8 * xs.length) := by rw [List.length_cons, Nat.mul_add, Nat.pow_add]; omega
    rw [e]
    simp only [numL]
    omega
theorem numL_snoc (l : List UInt8) (x : UInt8) : numL (l ++ [x]) = numL l + x.toNat * 2 ^ (8 * l.length) := by
  induction l with
  | nil => simp [numL]
  | cons y ys ih =>
    have e : 2 ^ (8 * (y :: ys).length) = 256 * 2 ^ (8 * ys.length) := by rw [List.length_cons, Nat.mul_add, Nat.pow_add]; omega
    rw [e, List.cons_append]
    simp only [numL, ih]
    rw [Nat.mul_add, ← Nat.mul_assoc x.toNat, Nat.mul_comm x.toNat 256, Nat.mul_assoc]
    omega
theorem numL_or (l : List UInt8) (x : UInt8) : numL l ||| (x.toNat * 2 ^ (8 * l.length)) = numL (l ++ [x]) := by
  rw [numL_snoc, Nat.or_comm, Nat.mul_comm x.toNat, ← Nat.two_pow_add_eq_or_of_lt (numL_lt l), Nat.add_comm]
theorem numL_lowB (k : Nat) : ∀ m : Int, 0 ≤ m → numL (lowB m k) = (m % (256 ^ k : Nat)).toNat := by
  induction k with
  | zero =>
    intro m hm
    show 0 = (m % ((256 ^ 0 : Nat) : Int)).toNat
    rw [Nat.pow_zero]
    omega
  | succ k ih =>
    intro m hm
    have h1 : (UInt8.ofNat (m % 256).toNat).toNat = (m % 256).toNat := by have := u8_of m; omega
    simp only [lowB, numL, ih (m / 256) (by omega), h1]
    obtain ⟨n, rfl⟩ := Int.eq_ofNat_of_zero_le hm
    rw [Nat.pow_succ, Nat.mul_comm (256 ^ k) 256]
    have e2 : n % (256 * 256 ^ k) = n % 256 + 256 * (n / 256 % 256 ^ k) := Nat.mod_mul
    generalize 256 ^ k = q at *
    have e1 : ((n : Int) / 256 % (q : Int)).toNat = n / 256 % q := rfl
    have e3 : ((n : Int) % ((256 * q : Nat) : Int)).toNat = n % (256 * q) := rfl
    have e4 : ((n : Int) % 256).toNat = n % 256 := rfl
    rw [e1, e3, e4, e2]

/-- What 'take' answers, and what is left; none: bad. -/
def takeX (k : Nat) : Option (List UInt8) → List UInt8
  | none => []
  | some r => if r.length < k then [] else r.take k
def takeO (k : Nat) : Option (List UInt8) → Option (List UInt8)
  | none => none
  | some r => if r.length < k then none else some (r.drop k)
/-- A number of so many bytes, at most so great. -/
def numX (k most : Nat) (o : Option (List UInt8)) : Nat := if numL (takeX k o) ≤ most then numL (takeX k o) else 0
def numO (k most : Nat) (o : Option (List UInt8)) : Option (List UInt8) := if numL (takeX k o) ≤ most then takeO k o else none
theorem take_lay (a r : List UInt8) : takeX a.length (some (a ++ r)) = a ∧ takeO a.length (some (a ++ r)) = some r := by
  have h : ¬ (a ++ r).length < a.length := by rw [List.length_append]; omega
  refine ⟨?_, ?_⟩
  · simp only [takeX]
    rw [if_neg h, List.take_left]
  · simp only [takeO]
    rw [if_neg h, List.drop_left]
theorem num_lay (m : Int) (k most : Nat) (r : List UInt8) (hm : 0 ≤ m) (hk : m < (256 ^ k : Nat)) (hmost : m ≤ most) :
    numX k most (some (lowB m k ++ r)) = m.toNat ∧ numO k most (some (lowB m k ++ r)) = some r := by
  have h := take_lay (lowB m k) r
  rw [lowB_length] at h
  have e : numL (lowB m k) = m.toNat := by rw [numL_lowB k m hm, Int.emod_eq_of_lt hm hk]
  unfold numX numO
  rw [h.1, h.2, e, if_pos (by omega), if_pos (by omega)]
  exact ⟨rfl, rfl⟩
end Go.Proofs.Ytolpcfhfcdkokaa
