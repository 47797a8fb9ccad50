/-
  The taker's number.
-/
import Derived.Test.YtolpcfhfcdkokaaTake
import Derived.Laws.Bits64b
namespace Go.Proofs.Ytolpcfhfcdkokaa
open Go.RowKit

theorem takeX_len (k : Nat) (o : Option (List UInt8)) : (takeX k o).length ≤ k := by
  cases o with
  | none => exact Nat.zero_le _
  | some r =>
    show (if r.length < k then [] else r.take k).length ≤ k
    by_cases h : r.length < k
    · rw [if_pos h]
      exact Nat.zero_le _
    · rw [if_neg h]
      exact List.length_take_le _ _

theorem or_step (xs : List UInt8) (j : Nat) (hj : j < xs.length) (h8 : j < 8) :
    bits .or .u64 (numL (xs.take j) : Int) (IntKind.u64.wrap (IntKind.u64.wrap (xs[j].toNat : Int) * 2 ^ (8 * j))) = (numL (xs.take (j + 1)) : Int) := by
  have hx : xs[j].toNat < 256 := xs[j].toNat_lt
  have hp : 2 ^ (8 * j) ≤ 2 ^ 56 := Nat.pow_le_pow_right (by decide) (by omega)
  have hl : (xs.take j).length = j := by rw [List.length_take]; omega
  have ha := numL_lt (xs.take j)
  rw [hl] at ha
  have hm : xs[j].toNat * 2 ^ (8 * j) ≤ 255 * 2 ^ 56 := Nat.mul_le_mul (by omega) hp
  have e1 : IntKind.u64.wrap (xs[j].toNat : Int) = (xs[j].toNat : Int) := by rw [IntKind.wrap_u64]; omega
  have e2 : (xs[j].toNat : Int) * 2 ^ (8 * j) = ((xs[j].toNat * 2 ^ (8 * j) : Nat) : Int) := by rw [Int.natCast_mul, Int.natCast_pow]; rfl
  have h := numL_or (xs.take j) xs[j]
  rw [hl, List.take_append_getElem hj] at h
  rw [e1, e2]
  generalize xs[j].toNat * 2 ^ (8 * j) = m at *
  have e3 : IntKind.u64.wrap (m : Int) = (m : Int) := by rw [IntKind.wrap_u64]; omega
  rw [e3, bits_or_u64_nat _ _ (by omega) (by omega), h]

set_option maxHeartbeats 1600000 in
set_option maxRecDepth 100000 in
theorem number_any (B g : Nat) (o : Option (List UInt8)) (k most : Nat) (w : World) (hk : k ≤ 8) (hm : most ≤ 1099511627776) (ht : Tk w B g o) (hB : B ≤ g) (hg : g < w.heap.size) :
    Calls Try.prog 23 #[.pointer (some ⟨g, 0, none⟩), .int .i64 k, .int .i64 most] w fun e w' => e = .returned (.int .i64 (numX k most o)) ∧
      Tk w' B g (numO k most o) ∧ Chg (fun b => b = g) w w' := by
  have hT := take_any B g o k w (by omega) ht hB hg
  have hlx := takeX_len k o
  unfold numX numO
  generalize takeX k o = xs at *
  generalize takeO k o = o1 at *
  obtain ⟨len, hlen⟩ : ∃ len, len = xs.length := ⟨_, rfl⟩
  have hlenH := Lib.hid hlen
  rw [← hlen] at hT hlx
  clear hlen
  go_enter Try.func23, Try.ntmps23
  go_wp2_with fail
  refine hT.mono ?_
  rintro e w1 ⟨A, c, rfl, hs, ht1, hc1⟩
  go_wp2
  go_loopw [7, 14] (fun u i wr => ∃ j : Nat, j ≤ len ∧ i = .int .i64 j ∧ u = .int .u64 (numL (xs.take j) : Int) ∧ wr = w1) (fun _ i _ => len - (intOf i).toNat)
  case atStart => exact ⟨0, Nat.zero_le _, rfl, by simp [numL], by trivial⟩
  case round =>
    obtain ⟨j, hj, rfl, rfl, rfl⟩ := hrel
    by_cases hjk : j < len
    · have hjx : j < xs.length := by have := hlenH.out; omega
      obtain ⟨b, off, rfl, hb, hcell⟩ := hs.at_ (by omega)
      have hx := hcell j _ (bvs_get xs j hjx)
      go_wp2
      go_roundw
      case rel =>
        exact ⟨j + 1, by omega, by go_num, congrArg (Value.int .u64) (or_step xs j hjx (by omega)), by trivial⟩
      case measure => simp [intOf]; omega
    · obtain rfl : j = len := by omega
      have hxx : xs.take j = xs := by rw [hlenH.out]; exact List.take_length
      rw [hxx] at *
      by_cases hmo : numL xs ≤ most
      · go_wp2
        go_ret
        exact ⟨rfl, ht1, hc1⟩
      · obtain ⟨A1, n1, c1, k0, f0, f1, hnc1, k1, hr1⟩ := ht1
        go_wp2
        go_ret
        exact ⟨rfl, Tk.bad (o := o1) ⟨A1, n1, c1, k0, f0, f1, hnc1, k1, hr1⟩, hc1.setCell (p := ⟨g, 1, none⟩) (fun _ => rfl) _⟩
#print axioms number_any
end Go.Proofs.Ytolpcfhfcdkokaa
