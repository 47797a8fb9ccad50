/-
  The reference's number: what bytes from a place on say, the lowest first.
-/
import Derived.Test.YtolpcfhfcdkokaaReadLaw
import Derived.Test.YtolpcfhfcdkokaaFew
namespace Go.Proofs.Ytolpcfhfcdkokaa
open Go.RowKit

theorem numL_drop (xs : List UInt8) : ∀ j, numL (xs.drop j) ≤ numL xs := by
  induction xs with
  | nil => intro j; simp
  | cons x xs ih =>
    intro j
    cases j with
    | zero => exact Nat.le_refl _
    | succ j =>
      rw [List.drop_succ_cons]
      have := ih j
      simp only [numL]
      omega
theorem numL_get (xs : List UInt8) (j : Nat) (h : j < xs.length) : numL (xs.drop j) = xs[j].toNat + 256 * numL (xs.drop (j + 1)) := by
  rw [List.drop_eq_getElem_cons h]
  rfl
/-- What number answers of the bytes r, k of them. -/
def RNum (r : List UInt8) (k : Nat) (w : World) (e : Ending) (w' : World) : Prop :=
  ((k ≤ r.length ∧ e = .returned (.tuple #[.int .i64 (numL (r.take k)), .bool true])) ∨ ((r.length < k ∨ 1099511627776 < numL (r.take k)) ∧ e = .returned (.tuple #[.int .i64 0, .bool false]))) ∧ w = w'

set_option maxHeartbeats 1600000 in
set_option maxRecDepth 100000 in
theorem rnumber_any (B : Nat) (A : Option Addr) (c : Nat) (bs : List UInt8) (at_ k : Nat) (w : World) (hs : Sees w B 1 A bs.length (bvs bs)) (hl : bs.length ≤ 1000000000) (hat : at_ ≤ 1000000000) (hk : k ≤ 8) (hk0 : 1 ≤ k) :
    Calls Try.prog 30 #[.slice A bs.length c, .int .i64 at_, .int .i64 k] w (RNum (bs.drop at_) k w) := by
  by_cases hroom : at_ + k ≤ bs.length
  · obtain ⟨b, off, rfl, hb, hc⟩ := hs.at_ (by omega)
    have hxl : ((bs.drop at_).take k).length = k := by rw [List.length_take, List.length_drop]; omega
    have hroom' : ¬ (bs.length : Int) < (at_ : Int) + (k : Int) := by omega
    obtain ⟨xs, hxs⟩ : ∃ xs, xs = (bs.drop at_).take k := ⟨_, rfl⟩
    have hxsH := Lib.hid hxs
    have hxl' : Hid (xs.length = k) := by rw [hxs]; exact hxl
    have hcell : ∀ j (h : j < xs.length), w.cell? ⟨b, off + (at_ + j), none⟩ = some (.int .u8 (xs[j].toNat : Int)) := fun j h => by
      have h1 : at_ + j < bs.length := by have := hxl'.out; omega
      have e : xs[j] = bs[at_ + j] := by subst hxs; simp
      rw [e]
      exact hc (at_ + j) _ (bvs_get bs (at_ + j) h1)
    have hrm : Hid (k ≤ (bs.drop at_).length) := by show _ ≤ _; rw [List.length_drop]; omega
    clear hxs hxl hc hs
    go_enter Try.func30, Try.ntmps30
    go_wp2
    go_loop [8, 9] (fun n i => ∃ (z : Int) (m : Nat), -1 ≤ z ∧ z < k ∧ i = .int .i64 z ∧ n = .int .i64 m ∧ Hid (m = numL (xs.drop (z + 1).toNat))) (fun _ i => (intOf i + 1).toNat)
    case atStart => exact ⟨(k : Int) - 1, 0, by omega, by omega, rfl, rfl, by
      show _ = _
      have : ((k : Int) - 1 + 1).toNat = xs.length := by have := hxl'.out; omega
      rw [this, List.drop_length]
      rfl⟩
    case round =>
      obtain ⟨z, m, hz1, hz2, rfl, rfl, hm⟩ := hrel
      by_cases hz : 0 ≤ z
      · obtain ⟨j, rfl⟩ := Int.eq_ofNat_of_zero_le hz
        have hj : j < xs.length := by have := hxl'.out; omega
        have hg := Lib.hid (numL_get xs j hj)
        have hcj := hcell j hj
        have hxb : xs[j].toNat < 256 := xs[j].toNat_lt
        have ei : Hid (((j : Int) + 1).toNat = j + 1) := by show _ = _; omega
        clear hcell
        generalize xs[j].toNat = y at *
        by_cases hbig : 1099511627776 < m
        · go_wp2
          go_ret2
          refine ⟨.inr ⟨.inr ?_, rfl⟩, rfl⟩
          have h1 := hm.out
          rw [ei.out] at h1
          have h2 := numL_drop xs (j + 1)
          rw [← hxsH.out]
          omega
        · have hj2 : (j : Int) < 8 := by omega
          go_wp2
          go_round
          case rel =>
            refine ⟨(j : Int) - 1, y + 256 * m, by omega, by omega, by go_num, by go_num, ?_⟩
            show _ = _
            have h1 := hm.out
            rw [ei.out] at h1
            have h2 : ((j : Int) - 1 + 1).toNat = j := by omega
            rw [h2, hg.out, h1]
          case measure => simp [intOf]
      · obtain rfl : z = -1 := by omega
        have h0 : Hid (m = numL xs) := hm
        clear hcell
        go_wp2
        go_ret2
        exact ⟨.inl ⟨hrm.out, by rw [← hxsH.out, h0.out]; rfl⟩, rfl⟩
  · have hr : (bs.drop at_).length < k := by rw [List.length_drop]; omega
    have hroom' : (bs.length : Int) < (at_ : Int) + (k : Int) := by omega
    clear hs
    go_enter Try.func30, Try.ntmps30
    go_wp2
    go_ret2
    exact ⟨.inr ⟨.inl hr, rfl⟩, rfl⟩
#print axioms rnumber_any
end Go.Proofs.Ytolpcfhfcdkokaa
