/-
  The two functions that lay a number lowest byte first: dump.low (onto a row of the caller's) and the reference's low (a new row).
-/
import Derived.Test.YtolpcfhfcdkokaaBase
namespace Go.Proofs.Ytolpcfhfcdkokaa
open Go.RowKit

theorem infoU8 : (Try.prog.info? 5).map (fun i => (i.zero, i.size, i.bytes)) = some (some (.int .u8 0), 1, 1) := by kernel_rfl

/-- k bytes of a number, the lowest first. -/
def lowB (n : Int) : Nat → List UInt8
  | 0 => []
  | k + 1 => UInt8.ofNat (n % 256).toNat :: lowB (n / 256) k
theorem lowB_length (k : Nat) : ∀ n : Int, (lowB n k).length = k := by
  induction k with
  | zero => intro n; rfl
  | succ k ih => intro n; simp [lowB, ih]
theorem u8_of (m : Int) : ((UInt8.ofNat (m % 256).toNat).toNat : Int) = m % 256 := by
  have : (UInt8.ofNat (m % 256).toNat).toNat = (m % 256).toNat % 256 := UInt8.toNat_ofNat'
  omega
theorem lowB_step {m : Int} {k j : Nat} (h : j < k) : bvs (lowB m (k - j)) = .int .u8 (m % 256) :: bvs (lowB (m / 256) (k - (j + 1))) := by
  have e : k - j = (k - (j + 1)) + 1 := by omega
  rw [e]
  simp only [lowB, bvs, List.map_cons, u8_of m]

set_option maxHeartbeats 1600000 in
theorem low_any (B : Nat) (v : Value) (xs : List Value) (n0 : Nat) (n : Int) (k : Nat) (w : World) (hx : n0 ≤ 1000000000) (hk : k ≤ 8) (hn : 0 ≤ n) (hn2 : n ≤ 9223372036854775807) (hB : B ≤ w.heap.size)
    (hown : w.ownsRow B 5 1 v n0 xs) :
    Calls Try.prog 21 #[v, .int .i64 n, .int .i64 k] w fun e w' => ∃ v', e = .returned v' ∧ w'.ownsRow B 5 1 v' (n0 + k) (xs ++ bvs (lowB n k)) ∧ Grows w v w' v' := by
  obtain ⟨i0, hi, hz0, hz1, hz2⟩ := info_parts infoU8
  go_enter Try.func21, Try.ntmps21
  go_wp2
  go_loopw [0, 1, 8] (fun u q i wr => ∃ (j : Nat) (m : Int) (done : List Value), j ≤ k ∧ i = .int .i64 j ∧ q = .int .i64 m ∧ 0 ≤ m ∧ m ≤ 9223372036854775807 ∧ Hid (done ++ bvs (lowB m (k - j)) = bvs (lowB n k)) ∧
      wr.ownsRow B 5 1 u (n0 + j) (xs ++ done) ∧ Grows w v wr u)
    (fun _ _ i _ => k - (intOf i).toNat)
  case atStart => exact ⟨0, n, [], Nat.zero_le _, rfl, rfl, hn, hn2, by simp [Hid], by simpa using hown, Grows.refl _ _⟩
  case round =>
    obtain ⟨j, m, done, hj, rfl, rfl, hm0, hm1, hd, ho, hb⟩ := hrel
    have hbs := hb.chg.size
    by_cases hjk : j < k
    · have hst := Lib.hid (lowB_step (m := m) hjk)
      go_wp2_with (first
      | (at_builtin; refine wpList_append_own_at _ rfl _ _ 29 rfl B 5 i0 (.int .u8 0) 1 1 Try.underlying29 hi hz0 hz1 hz2 rfl (by decide) _ _ _ rfl (ho.alloc _) ⟨wr.heap.size, 0, none⟩ 1 1 [.int .u8 (m % 256)] rfl rfl ?c1 ?c2 ?c3 ?c4 ?c5 ?_)
      | go_in)
      case c1 => exact cell_one_new _ _ _
      case c2 => intro u hu; simp at hu; subst hu; rfl
      case c3 => unfold maxLen; omega
      case c4 => omega
      case c5 => simp; omega
      intro v' w1 ho' hg' _ hat'
      have hG := hb.trans (Grows.of_law ((Below.refl _ _).alloc (Nat.le_refl _) _) hg' hat' (by simp))
      clear hg' hat' hb ho
      go_wp2
      go_roundw
      case rel => exact ⟨j + 1, m / 256, done ++ [.int .u8 (m % 256)], by omega, by go_num, by go_num, by omega, by omega, by have := hd.out; rw [hst.out] at this; simpa [Hid] using this, by simpa [Nat.add_assoc] using ho', hG⟩
      case measure => simp [intOf]; omega
    · obtain rfl : j = k := by omega
      go_wp2
      go_ret
      have hd' := hd.out
      simp [lowB, bvs] at hd'
      exact ⟨_, rfl, by simpa [bvs, ← hd'] using ho, hb⟩
#print axioms low_any
end Go.Proofs.Ytolpcfhfcdkokaa
