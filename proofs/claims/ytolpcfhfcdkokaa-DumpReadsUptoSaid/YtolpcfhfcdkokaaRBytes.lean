/-
  The reference's Bytes: of nodes that may all be laid the bytes, in a new row; of others none, and the error.
-/
import Derived.Test.YtolpcfhfcdkokaaNode
import Derived.Deep.DeepCutAuto
import Derived.Deep.LoopGhost
namespace Go.Proofs.Ytolpcfhfcdkokaa
open Go.RowKit

set_option maxHeartbeats 4000000 in
set_option maxRecDepth 100000 in
theorem rbytes_any (A : Option Addr) (cap : Nat) (l : List Nd) (w : World) (hN : NodesAt w w.heap.size A l) (hsz : (encAll l).length ≤ 1000000000) (hln : l.length ≤ 1000000000) :
    Calls Try.prog 12 #[.slice A l.length cap] w (Bts l w) := by
  obtain ⟨i0, hi, hz0, hz1, hz2⟩ := info_parts infoU8
  obtain ⟨len, hlen⟩ : ∃ len, len = l.length := ⟨_, rfl⟩
  have hlenH := Lib.hid hlen
  rw [← hlen] at hln ⊢
  clear hlen
  go_enter Try.func12, Try.ntmps12
  go_wp2
  go_loopw [4, 5] (fun u i wr => ∃ (j : Nat), j ≤ len ∧ Hid (∀ x ∈ l.take j, ndOk x) ∧ i = .int .i64 j ∧ wr.ownsRow w.heap.size 5 1 u (encAll (l.take j)).length (bvs (encAll (l.take j))) ∧ Below w.heap.size w wr)
    (fun _ i _ => len - (intOf i).toNat)
  case atStart => exact ⟨0, Nat.zero_le _, (by simp [Hid]), rfl, by simpa [encAll, bvs] using World.ownsRow_nil _ _ _ _, Below.refl _ _⟩
  case round =>
    obtain ⟨j, hj, hpre, rfl, ho, hb⟩ := hrel
    have hbs := hb.size
    by_cases hjk : j < len
    · have hjl : j < l.length := by have := hlenH.out; omega
      obtain ⟨b, off, rfl, hbB, hc⟩ := hN.at_ (by omega)
      have hci := (hc j hjl).keep (w1 := wr) fun p hp => hb.cell (by omega)
      have hmem := List.getElem_mem hjl
      have htk2 : l.take (j + 1) = l.take j ++ [l[j]] := List.take_succ_eq_append_getElem hjl
      have hpre2 : Hid (ndOk l[j] → ∀ x ∈ l.take (j + 1), ndOk x) := by
        intro hx y hy
        rw [htk2, List.mem_append, List.mem_singleton] at hy
        rcases hy with hy | rfl
        · exact hpre.out y hy
        · exact hx
      have hbad : Hid (¬ ndOk l[j] → ¬ ∀ x ∈ l, ndOk x) := fun hn ha => hn (ha _ hmem)
      clear htk2 hmem hpre
      have hdj := hN.data _ (List.getElem_mem hjl)
      have hle := encAll_le l j hjl
      have htk := Lib.hid (encAll_take l j hjl)
      rw [enc1_length] at hle
      clear hc hN
      generalize l[j] = x at *
      generalize encAll (l.take j) = done at *
      obtain ⟨pa, ki, ma, sa, dA, dc, da⟩ := x
      obtain ⟨c0, c1, c2, c3, c4⟩ := hci
      simp only at c0 c1 c2 c3 c4 hle hdj
      have hown0 : ∀ g, u4.ownBlock = some g → g < wr.heap.size := fun g hg => (ho.lt g hg).2
      go_upto_region 6 with (fail)
      have hbx : NodeAt (wr.alloc (.cells #[.string pa, .int .i64 ki, .int .i64 ma, .string sa, .slice dA da.length dc] 47)) wr.heap.size 0 ⟨pa, ki, ma, sa, dA, dc, da⟩ := by
        refine ⟨?_, ?_, ?_, ?_, ?_⟩ <;> (rw [World.cell?_alloc_at _ _ _ _ rfl]; rfl)
      have hb1 := hb.alloc hbs (.cells #[.string pa, .int .i64 ki, .int .i64 ma, .string sa, .slice dA da.length dc] 47)
      have ho1 := ho.alloc (.cells #[.string pa, .int .i64 ki, .int .i64 ma, .string sa, .slice dA da.length dc] 47)
      have hsz1 : wr.heap.size < (wr.alloc (.cells #[.string pa, .int .i64 ki, .int .i64 ma, .string sa, .slice dA da.length dc] 47)).heap.size := by simp
      generalize wr.alloc (.cells #[.string pa, .int .i64 ki, .int .i64 ma, .string sa, .slice dA da.length dc] 47) = W1 at *
      generalize wr.heap.size = g at *
      clear ho hb c0 c1 c2 c3 c4
      obtain ⟨c0, c1, c2, c3, c4⟩ := hbx
      go_cut [52] from 7 to 93 (fun s48 wx => ∃ bad : Bool, s48 = .bool bad ∧ Hid (bad = !decide (ndOk ⟨pa, ki, ma, sa, dA, dc, da⟩)) ∧ W1 = wx)
      case first =>
        by_cases hk : ki = 1 ∨ ki = 2
        · rcases hk with rfl | rfl
          all_goals
            by_cases h1 : ma < 0
            · (go_wp2; go_meet; exact ⟨!decide (ndOk _), congrArg Value.bool (by rw [Bool.eq_iff_iff]; simp [ndOk]; omega), rfl, rfl⟩)
            · by_cases h2 : 1099511627776 < ma
              · (go_wp2; go_meet; exact ⟨!decide (ndOk _), congrArg Value.bool (by rw [Bool.eq_iff_iff]; simp [ndOk]; omega), rfl, rfl⟩)
              · by_cases h3 : 400 < pa.size
                · (go_wp2; go_meet; exact ⟨!decide (ndOk _), congrArg Value.bool (by rw [Bool.eq_iff_iff]; simp [ndOk]; omega), rfl, rfl⟩)
                · by_cases h4 : 400 < sa.size
                  · (go_wp2; go_meet; exact ⟨!decide (ndOk _), congrArg Value.bool (by rw [Bool.eq_iff_iff]; simp [ndOk]; omega), rfl, rfl⟩)
                  · by_cases h5 : 136704 < da.length
                    · (go_wp2; go_meet; exact ⟨!decide (ndOk _), congrArg Value.bool (by rw [Bool.eq_iff_iff]; simp [ndOk]; omega), rfl, rfl⟩)
                    · (go_wp2; go_meet; exact ⟨!decide (ndOk _), congrArg Value.bool (by rw [Bool.eq_iff_iff]; simp [ndOk]; omega), rfl, rfl⟩)
        · have hk1 : ki ≠ 1 := fun h => hk (.inl h)
          have hk2 : ki ≠ 2 := fun h => hk (.inr h)
          clear hk
          go_wp2
          go_meet
          exact ⟨!decide (ndOk _), congrArg Value.bool (by rw [Bool.eq_iff_iff]; simp [ndOk, hk1, hk2]), rfl, rfl⟩
      case rest =>
        obtain ⟨bad, rfl, hbd, rfl⟩ := hcut
        cases bad
        case true =>
          go_wp2
          go_ret2
          exact ⟨.inr ⟨hbad.out (by simpa using hbd.out.symm), rfl⟩, hb1⟩
        case false =>
        have hgood : ndOk ⟨pa, ki, ma, sa, dA, dc, da⟩ := by simpa using hbd.out.symm
        obtain ⟨hk, hm0, hm1, hp, hs, hd⟩ := id hgood
        simp only at hk hm0 hm1 hp hs hd
        have hpre3 := Lib.hid (hpre2.out hgood)
        clear hpre2 hbad hbd hgood
        have hle1 : done.length + 1 ≤ 1000000000 := by omega
        have hne0 : u4.ownBlock ≠ some g := fun e => by have := hown0 g e; omega
        go_wp2_with (first
          | (at_builtin; refine wpList_app _ rfl (.tmp 53) (.tmp 57) _ _ rfl w.heap.size 5 i0 (.int .u8 0) 1 1 Try.underlying29 hi hz0 hz1 hz2 rfl u4 (done.length) (bvs done) rfl (ho1.alloc _) 1 [.int .u8 ki] (src_one W1 Try.underlying29 _ _ rfl) (by unfold maxLen; omega) (by omega) (by have := hb1.size; simp; omega) ?_; intro v1 w1 o1 g1 a1; have G1 := Grows.of_law ((Below.refl W1.heap.size W1).alloc (Nat.le_refl _) _) g1 a1 (by simp); have s1 : w.heap.size ≤ w1.heap.size := Nat.le_trans hb1.size G1.chg.size; have e12 := cell_grows G1 c2 hne0)
          | (go_at_call 22; ((with_reducible refine (rlow8 ma w1 hm0 hm1).mono ?_); rintro e w2 ⟨x2, rfl, y2, b2⟩); have o2 := own_fresh o1 b2; have G2 := G1.trans (Grows.fresh v1 b2); have s2 : w.heap.size ≤ w2.heap.size := Nat.le_trans hb1.size G2.chg.size)
          | (at_builtin; refine wpList_app _ rfl (.tmp 59) (.tmp 62) _ _ rfl w.heap.size 5 i0 (.int .u8 0) 1 1 Try.underlying29 hi hz0 hz1 hz2 rfl v1 (done.length + 1) _ rfl o2 8 (bvs (lowB ma 8)) (src_own Try.underlying29 y2 (bvs_one _)) (by unfold maxLen; omega) (by omega) s2 ?_; intro v3 w3 o3 g3 a3; have G3 := G2.trans (Grows.of_law (Below.refl w2.heap.size w2) g3 a3 (Nat.le_refl _)); have s3 : w.heap.size ≤ w3.heap.size := Nat.le_trans hb1.size G3.chg.size; have e30 := cell_grows G3 c0 hne0)
          | (go_at_call 22; ((with_reducible refine (rlow4 pa.size w3 (by omega) (by omega)).mono ?_); rintro e w4 ⟨x4, rfl, y4, b4⟩); have o4 := own_fresh o3 b4; have G4 := G3.trans (Grows.fresh v3 b4); have s4 : w.heap.size ≤ w4.heap.size := Nat.le_trans hb1.size G4.chg.size)
          | (at_builtin; refine wpList_app _ rfl (.tmp 64) (.tmp 68) _ _ rfl w.heap.size 5 i0 (.int .u8 0) 1 1 Try.underlying29 hi hz0 hz1 hz2 rfl v3 (done.length + 1 + 8) _ rfl o4 4 (bvs (lowB pa.size 4)) (src_own Try.underlying29 y4 (bvs_one _)) (by unfold maxLen; omega) (by omega) s4 ?_; intro v5 w5 o5 g5 a5; have G5 := G4.trans (Grows.of_law (Below.refl w4.heap.size w4) g5 a5 (Nat.le_refl _)); have s5 : w.heap.size ≤ w5.heap.size := Nat.le_trans hb1.size G5.chg.size; have e50 := cell_grows G5 c0 hne0)
          | (at_builtin; refine wpList_app _ rfl (.tmp 70) (.tmp 72) _ _ rfl w.heap.size 5 i0 (.int .u8 0) 1 1 Try.underlying29 hi hz0 hz1 hz2 rfl v5 (done.length + 1 + 8 + 4) _ rfl o5 pa.size (byteCells pa) (Src.ofString _ Try.underlying9 pa) (by unfold maxLen; omega) (by omega) s5 ?_; intro v6 w6 o6 g6 a6; have G6 := G5.trans (Grows.of_law (Below.refl w5.heap.size w5) g6 a6 (Nat.le_refl _)); have s6 : w.heap.size ≤ w6.heap.size := Nat.le_trans hb1.size G6.chg.size; have e63 := cell_grows G6 c3 hne0)
          | (go_at_call 22; ((with_reducible refine (rlow4 sa.size w6 (by omega) (by omega)).mono ?_); rintro e w7 ⟨x7, rfl, y7, b7⟩); have o7 := own_fresh o6 b7; have G7 := G6.trans (Grows.fresh v6 b7); have s7 : w.heap.size ≤ w7.heap.size := Nat.le_trans hb1.size G7.chg.size)
          | (at_builtin; refine wpList_app _ rfl (.tmp 74) (.tmp 78) _ _ rfl w.heap.size 5 i0 (.int .u8 0) 1 1 Try.underlying29 hi hz0 hz1 hz2 rfl v6 (done.length + 1 + 8 + 4 + pa.size) _ rfl o7 4 (bvs (lowB sa.size 4)) (src_own Try.underlying29 y7 (bvs_one _)) (by unfold maxLen; omega) (by omega) s7 ?_; intro v8 w8 o8 g8 a8; have G8 := G7.trans (Grows.of_law (Below.refl w7.heap.size w7) g8 a8 (Nat.le_refl _)); have s8 : w.heap.size ≤ w8.heap.size := Nat.le_trans hb1.size G8.chg.size; have e83 := cell_grows G8 c3 hne0)
          | (at_builtin; refine wpList_app _ rfl (.tmp 80) (.tmp 82) _ _ rfl w.heap.size 5 i0 (.int .u8 0) 1 1 Try.underlying29 hi hz0 hz1 hz2 rfl v8 (done.length + 1 + 8 + 4 + pa.size + 4) _ rfl o8 sa.size (byteCells sa) (Src.ofString _ Try.underlying9 sa) (by unfold maxLen; omega) (by omega) s8 ?_; intro v9 w9 o9 g9 a9; have G9 := G8.trans (Grows.of_law (Below.refl w8.heap.size w8) g9 a9 (Nat.le_refl _)); have s9 : w.heap.size ≤ w9.heap.size := Nat.le_trans hb1.size G9.chg.size; have e94 := cell_grows G9 c4 hne0)
          | (go_at_call 22; ((with_reducible refine (rlow4 da.length w9 (by omega) (by omega)).mono ?_); rintro e w10 ⟨x10, rfl, y10, b10⟩); have o10 := own_fresh o9 b10; have G10 := G9.trans (Grows.fresh v9 b10); have s10 : w.heap.size ≤ w10.heap.size := Nat.le_trans hb1.size G10.chg.size)
          | (at_builtin; refine wpList_app _ rfl (.tmp 84) (.tmp 88) _ _ rfl w.heap.size 5 i0 (.int .u8 0) 1 1 Try.underlying29 hi hz0 hz1 hz2 rfl v9 (done.length + 1 + 8 + 4 + pa.size + 4 + sa.size) _ rfl o10 4 (bvs (lowB da.length 4)) (src_own Try.underlying29 y10 (bvs_one _)) (by unfold maxLen; omega) (by omega) s10 ?_; intro v11 w11 o11 g11 a11; have G11 := G10.trans (Grows.of_law (Below.refl w10.heap.size w10) g11 a11 (Nat.le_refl _)); have s11 : w.heap.size ≤ w11.heap.size := Nat.le_trans hb1.size G11.chg.size; have e114 := cell_grows G11 c4 hne0)
          | (at_builtin; refine wpList_app _ rfl (.tmp 90) (.tmp 92) _ _ rfl w.heap.size 5 i0 (.int .u8 0) 1 1 Try.underlying29 hi hz0 hz1 hz2 rfl v11 (done.length + 1 + 8 + 4 + pa.size + 4 + sa.size + 4) _ rfl o11 da.length (bvs da) (src_sees _ Try.underlying29 dc (hdj.below (Grows.first hb1 G11 (fun q hq => (ho1.lt q hq).1)).1) (bvs_one da)) (by unfold maxLen; omega) (by omega) s11 ?_; intro v12 w12 o12 g12 a12; have G12 := G11.trans (Grows.of_law (Below.refl w11.heap.size w11) g12 a12 (Nat.le_refl _)); have s12 : w.heap.size ≤ w12.heap.size := Nat.le_trans hb1.size G12.chg.size))
        have hbz := (Grows.first hb1 G12 (fun q hq => (ho1.lt q hq).1)).1
        have hki : ki % 256 = ki := by omega
        go_roundw
        case rel => exact ⟨j + 1, by omega, hpre3.out, by go_num, by rw [htk.out, enc_len, ← enc_row, hki]; exact o12, hbz⟩
        case measure => simp [intOf]; omega
    · obtain rfl : j = len := by omega
      go_wp2
      go_ret2
      have h9 := hlenH.out
      have hp9 := hpre.out
      rw [h9, List.take_length] at ho hp9
      exact ⟨.inl ⟨hp9, _, rfl, ho⟩, hb⟩
#print axioms rbytes_any
end Go.Proofs.Ytolpcfhfcdkokaa
