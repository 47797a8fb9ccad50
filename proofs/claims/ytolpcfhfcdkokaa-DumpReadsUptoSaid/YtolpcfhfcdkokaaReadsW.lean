/-
  DumpReads, the law's walk.
-/
import Derived.Test.YtolpcfhfcdkokaaReads
namespace Go.Proofs.Ytolpcfhfcdkokaa
open Go.RowKit

def Owned : Prop := ∀ (B p m c : Nat) (lv : Nat → Value) (L : Nat → List Nd) (w : World), Lists w B p m lv L → B ≤ w.heap.size → B ≤ p → m ≤ 10 → (∀ i, i < m → (L i).length ≤ 10000000 ∧ ∀ x ∈ L i, x.data.length ≤ 1000000000) →
    Calls Try.prog 17 #[.slice (some ⟨p, 0, none⟩) m c] w fun e w' => e = .returned (.bool true) ∧ Below B w w'

set_option maxHeartbeats 8000000 in
set_option maxRecDepth 100000 in
theorem reads_walk (howned : Owned) (A : Option Addr) (cap : Nat) (bs : List UInt8) (w : World) (hs : Sees w w.heap.size 1 A bs.length (bvs bs)) (hc : bs.length ≤ cap) (hl : bs.length ≤ 1048576) :
    Calls Try.prog 4 #[.slice A bs.length cap] w fun e w' => e = .returned (.bool true) ∧ Below w.heap.size w w' := by
  obtain ⟨i0, hi, hz0, hz1, hz2⟩ := info_parts infoU8
  have hi1s : (Try.prog.info? 5).map (·.size) = some 1 := by rw [hi]; simp [hz1]
  obtain ⟨len, hlen⟩ : ∃ len, len = bs.length := ⟨_, rfl⟩
  have hlenH := Lib.hid hlen
  rw [← hlen] at hs hc hl ⊢
  have hn0 : (0 : Int) ≤ (len : Int) := by omega
  clear hlen
  have hownedH := Lib.hid howned
  clear howned
  go_enter Try.func4, Try.ntmps4
  go_wp2_with fail
  refine (awake_any w).mono ?_
  rintro e w1 ⟨rfl, hb1⟩
  go_wp2_with (first
    | (at_make; refine wpList_make_full _ rfl (.tmp 20) (.tmp 20) _ rfl w.heap.size 5 i0 _ 1 Try.underlying29 hi hz0 hz1 .i64 .i64 ((len : Int) + 9) ((len : Int) + 9) (len + 9) rfl rfl (by omega) (by omega) (by rw [hz2]; omega) (by unfold maxLen; omega) hb1.size ?_; intro w2 ho2 hg2; have hz5 : Blk w2 w1.heap.size 5 (List.replicate (len + 9) (.int .u8 0)) := (by (have h9 := own_full ho2; rw [toList_madeCells_flat _ rfl] at h9; exact h9)); have hb2 := hb1.grown hg2 hb1.size (by simp))
    | (refine wpList_copyb rfl (.tmp 22) (.tmp 23) _ _ rfl 5 Try.underlying29 hi1s w1.heap.size _ _ _ _ _ rfl rfl 5 (List.replicate (len + 9) (.int .u8 0)) hz5 w.heap.size (bvs bs) (hs.below hb2) (by omega) (by rw [List.length_replicate]; omega) (bvs_one bs) ?_; intro w3 hz6 hb3))
  have hzq := hb1.size
  have hb3' := hb2.trans (hb3.below (B := w.heap.size) hb2.size (fun b hb e => by omega))
  clear ho2 hg2 hz5 hb2 hb3
  generalize w1.heap.size = q at *
  have hs3 : Sees w3 w3.heap.size 1 (some ⟨q, 0, none⟩) len (bvs bs) := by
    have := blk_sees hz6 (B := w3.heap.size) hz6.lt
    rw [bvs_length, ← hlenH.out] at this
    exact this
  have hqs := hz6.lt
  have hr4 := read_any (some ⟨q, 0, none⟩) (len + 9) bs w3 (by rw [← hlenH.out]; exact hs3) (by have := hlenH.out; omega) (by have := hlenH.out; omega)
  rw [← hlenH.out] at hr4
  refine hr4.mono ?_
  intro e w4 hR4
  obtain ⟨l, v4, rfl, hO4, hnn4, hP4, hb4⟩ := rd_uni hR4
  have hb4' := hb3'.trans (hb4.mono hb3'.size)
  have hq4 := hz6.fresh hb4
  have hbl4 : Hid (∀ g, blkN v4 l g → g < w4.heap.size) := fun g hg => (hO4.blk hg).2
  have hz4 := hb4.size
  clear hr4 hR4 hs3 hz6 hb4
  go_wp2_with fail
  have hr5 := rread_any A cap bs w4 (by rw [← hlenH.out]; exact (hs.below hb4').more hb4'.size) (by have := hlenH.out; omega) (by have := hlenH.out; omega)
  rw [← hlenH.out] at hr5
  refine hr5.mono ?_
  intro e w5 hR5
  obtain ⟨l5, v5, rfl, hO5, hnn5, hP5, hb5⟩ := rrd_uni hR5
  have hb5' := hb4'.trans (hb5.mono hb4'.size)
  have hq5 := hq4.fresh hb5
  have hO45 := hO4.fresh hb5
  have hz5 := hb5.size
  clear hr5 hR5 hq4 hb5
  have hs5 : Sees w5 w5.heap.size 1 (some ⟨q, 0, none⟩) len (bvs bs) := by
    have := blk_sees hq5 (B := w5.heap.size) hq5.lt
    rw [bvs_length, ← hlenH.out] at this
    exact this
  have e1 := fun n => run_str (P := Try.prog) (w := w5.drewN n) Try.underlying29 Try.underlying5 (len + 9) ⟨hs5.len, hs5.at_⟩ 9 Try.underlying9
  have hs5b := hs.below hb5'
  have e2 := fun n => run_str (P := Try.prog) (w := w5.drewN n) Try.underlying29 Try.underlying5 cap ⟨hs5b.len, hs5b.at_⟩ 9 Try.underlying9
  have n1 : (len : Int) ≤ (len : Int) + 9 := by omega
  go_upto_region 6 with (fail)
  go_quiet (fail)
  go_wp2_with fail
  have hbd : Below w5.heap.size w5 (w5.drewN nq) := below_drewN' (Below.refl _ _) nq
  have hO4d := hO45.fresh hbd
  have hO5d := hO5.fresh hbd
  have hqd := hq5.fresh hbd
  have hbd' := hb5'.trans (hbd.mono hb5'.size)
  have hzd : w5.heap.size = (w5.drewN nq).heap.size := rfl
  clear hO45 hO5 hq5 hs5 hs5b e1 e2 hbd hO4
  rw [hzd] at hz5
  clear hzd
  generalize w5.drewN nq = w5 at *
  have hs5 : Sees w5 w5.heap.size 1 (some ⟨q, 0, none⟩) len (bvs bs) := by
    have := blk_sees hqd (B := w5.heap.size) hqd.lt
    rw [bvs_length, ← hlenH.out] at this
    exact this
  have hr6 := read_any (some ⟨q, 0, none⟩) (len + 9) bs w5 (by rw [← hlenH.out]; exact hs5) (by have := hlenH.out; omega) (by have := hlenH.out; omega)
  rw [← hlenH.out] at hr6
  refine hr6.mono ?_
  intro e w6 hR6
  obtain ⟨l6, v6, rfl, hO6, hnn6, hP6, hb6⟩ := rd_uni hR6
  have hb6' := hbd'.trans (hb6.mono hbd'.size)
  have hq6 := hqd.fresh hb6
  have hO46 := hO4d.fresh hb6
  have hO56 := hO5d.fresh hb6
  have hz6 := hb6.size
  have hx6 : Blk w6 q 5 (bvs (bs ++ List.replicate 9 0)) := by
    have e : bvs (bs ++ List.replicate 9 0) = bvs bs ++ List.drop len (List.replicate (len + 9) (Value.int .u8 0)) := by
      rw [bvs_append, List.drop_replicate, show len + 9 - len = 9 by omega]
      rfl
    rw [e]
    exact hq6
  have hxl6 : Hid ((bs ++ List.replicate 9 (0 : UInt8)).length = len + 9) := by show _ = _; rw [List.length_append, List.length_replicate, ← hlenH.out]
  generalize bs ++ List.replicate 9 (0 : UInt8) = xs0 at *
  clear hr6 hR6 hqd hq6 hs5 hO4d hO5d hb6 hbd'
  go_wp2_with fail
  go_loopw [12] (fun i wr => ∃ (j : Nat) (xs : List UInt8), j ≤ len + 9 ∧ i = .int .i64 j ∧ Hid (xs.length = len + 9) ∧ Blk wr q 5 (bvs xs) ∧ Chg (fun b => b = q) w6 wr) (fun i _ => len + 9 - (intOf i).toNat)
  case atStart => exact ⟨0, xs0, by omega, rfl, hxl6, hx6, Chg.refl _ _⟩
  case round =>
    obtain ⟨j, xs, hj, rfl, hxl, hx, hC⟩ := hrel
    clear hx6
    by_cases hjn : j < len + 9
    · have hjx : j < xs.length := by have := hxl.out; omega
      have k1 : wr.cell? ⟨q, j, none⟩ = some (.int .u8 (xs[j].toNat : Int)) := (hx.cell j).trans (bvs_get xs j hjx)
      have k2 := hx.frozen j
      have hst := Lib.hid (hx.set_ j (.int .u8 ((xs[j] ^^^ 165).toNat : Int)))
      have hut := u8_turn xs[j]
      have hC2 := hC.setCell (p := ⟨q, j, none⟩) (fun _ => rfl) (.int .u8 ((xs[j] ^^^ 165).toNat : Int))
      have ebv : (bvs xs).set j (.int .u8 ((xs[j] ^^^ 165).toNat : Int)) = bvs (xs.set j (xs[j] ^^^ 165)) := by simp [bvs, List.map_set]
      rw [ebv] at hst
      have hln : Hid ((xs.set j (xs[j] ^^^ 165)).length = len + 9) := by show _ = _; rw [List.length_set]; exact hxl.out
      clear hx hC ebv
      generalize xs.set j (xs[j] ^^^ 165) = ys at *
      generalize (xs[j] ^^^ 165).toNat = y at *
      generalize xs[j].toNat = x at *
      go_wp2
      go_roundw
      case rel => exact ⟨j + 1, ys, by omega, by go_num, hln, hst.out, hC2⟩
      case measure => simp [intOf]; omega
    · obtain rfl : j = len + 9 := by omega
      have hO4 := hO46.chg hC (fun b hb e => by omega)
      have hO5 := hO56.chg hC (fun b hb e => by omega)
      have hO6' := hO6.chg hC (fun b hb e => by omega)
      have hbr := hb6'.trans (hC.below (B := w.heap.size) (by omega) (fun b hb e => by omega))
      have hzr := hC.size
      clear hx hC hO46 hO56 hO6 hb6'
      obtain ⟨hl5, hs45⟩ := same_P (hP4.trans hP5.symm) hnn4 hnn5
      obtain ⟨hl6, hs65⟩ := same_P (hP6.trans hP5.symm) hnn6 hnn5
      obtain ⟨A4, c4, hv4, hN4⟩ := hO4.nodes
      obtain ⟨A5, c5, hv5, hN5⟩ := hO5.nodes
      obtain ⟨A6, c6, hv6, hN6⟩ := hO6'.nodes
      rw [← hl5] at hv5
      rw [hl6, ← hl5] at hv6
      subst hv4 hv5 hv6
      have hnl : l.length ≤ len := by
        have h1 := lstR_le bs
        have h2 : l.length = (lstR bs).length := by rw [← hP4, List.length_map]
        have := hlenH.out
        omega
      have c45 := same_true A4 A5 c4 c5 l l5 wr hN4 hN5 hl5.symm (by omega) hs45
      have c65 := fun (W : World) (hb : Below wr.heap.size wr W) => same_true A6 A5 c6 c5 l6 l5 W ((hN6.below hb).more hb.size) ((hN5.below hb).more hb.size) hl6.symm (by omega) hs65
      rw [hl6.trans hl5.symm] at c65
      have hl65 := Lib.hid (hl6.trans hl5.symm)
      have hdl : Hid (∀ x ∈ l, x.data.length ≤ 1000000000) := lstR_data hP4
      have hdl6 : Hid (∀ x ∈ l6, x.data.length ≤ 1000000000) := lstR_data hP6
      have hback := Lib.hid (fun h => reads_back (l := l) (r := bs) h hP4 hnn4)
      clear hs45 hs65 hl5 hl6 hN5 hN6 hO5 hP4 hP5 hP6 hnn4 hnn5 hnn6 hxl hjn hj hxl6
      have c65H := Lib.hid c65
      clear c65
      go_wp2_with fail
      refine c45.mono ?_
      rintro e w7 ⟨rfl, hb7⟩
      go_wp2_with fail
      refine (c65H.out w7 hb7).mono ?_
      rintro e w8 ⟨rfl, hb8⟩
      have hb78 := hb7.trans (hb8.mono hb7.size)
      have hO48 := hO4.fresh hb78
      have hO68 := hO6'.fresh hb78
      have hN48 := (hN4.below hb78).more hb78.size
      have hb8' := hbr.trans (hb78.mono hbr.size)
      have hz8 := hb78.size
      clear c45 c65H hb7 hb8 hb78 hO4 hO6' hN4 hbr
      by_cases herr : errR bs = 0
      · obtain ⟨hok, henc⟩ := hback.out herr
        rw [herr]
        clear hback herr
        go_wp2_with fail
        have hB9 := bytes_any A4 c4 l w8 hN48 (by rw [henc]; have := hlenH.out; omega) (by omega)
        refine hB9.mono ?_
        intro e w9 hX9
        obtain ⟨v9, rfl, ho9, hb9⟩ := bts_uni hX9
        rw [show errB l = 0 from if_pos hok]
        rw [show outB l = encAll l from if_pos hok, henc] at ho9
        have hO49 := hO48.fresh hb9
        have hO69 := hO68.fresh hb9
        have hb9' := hb8'.trans (hb9.mono hb8'.size)
        have e1 := run_str_own (P := Try.prog) Try.underlying29 Try.underlying5 ho9 9 Try.underlying9
        have e2 := run_str (P := Try.prog) Try.underlying29 Try.underlying5 cap (hs.below hb9') 9 Try.underlying9
        have hz9 := hb9.size
        clear hB9 hX9 hok henc hO48 hO68 hN48 hb9 hb8' ho9
        go_wp2_with fail
        have hL := lists2 hO49 hO69 (by omega) (fun g hg hg' => by have h1 := hbl4.out g hg; have h2 := (hO69.blk hg').1; omega)
        refine (hownedH.out w3.heap.size w9.heap.size 2 2 _ _ _ hL (by simp; omega) (by omega) (by omega) (fun i hi => ?_)).mono ?_
        · by_cases e : i = 0
          · simp only [if_pos e]; exact ⟨by omega, hdl.out⟩
          · simp only [if_neg e]; exact ⟨by have := hl65.out; omega, hdl6.out⟩
        rintro e w10 ⟨rfl, hb10⟩
        have hbz := hb9'.trans (((Below.refl w9.heap.size w9).alloc (Nat.le_refl _) (.cells #[.slice A4 l.length c4, .slice A6 l.length c6] 22)).mono hb9'.size)
        have hbz2 := hbz.trans (hb10.mono (by omega))
        clear hL hb10 hbz
        go_wp2
        go_ret
        exact ⟨rfl, hbz2⟩
      · have h170 : errR bs = 170 := by
          unfold errR at herr ⊢
          split
          · rename_i h; rw [if_pos h] at herr; exact absurd rfl herr
          · rfl
        rw [h170]
        clear hback herr h170
        go_wp2_with fail
        have hL := lists2 hO48 hO68 (by omega) (fun g hg hg' => by have h1 := hbl4.out g hg; have h2 := (hO68.blk hg').1; omega)
        refine (hownedH.out w3.heap.size w8.heap.size 2 2 _ _ _ hL (by simp; omega) (by omega) (by omega) (fun i hi => ?_)).mono ?_
        · by_cases e : i = 0
          · simp only [if_pos e]; exact ⟨by omega, hdl.out⟩
          · simp only [if_neg e]; exact ⟨by have := hl65.out; omega, hdl6.out⟩
        rintro e w10 ⟨rfl, hb10⟩
        have hbz := hb8'.trans (((Below.refl w8.heap.size w8).alloc (Nat.le_refl _) (.cells #[.slice A4 l.length c4, .slice A6 l.length c6] 22)).mono hb8'.size)
        have hbz2 := hbz.trans (hb10.mono (by omega))
        clear hL hb10 hbz
        go_wp2
        go_ret
        exact ⟨rfl, hbz2⟩
#print axioms reads_walk
end Go.Proofs.Ytolpcfhfcdkokaa
