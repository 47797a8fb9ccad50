/- Joined out of the texts PAsk. -/
import Derived.Test.YtolpcfhfcdkokaaGreatDoorM32
/-
  The tree in memory: questions (read, stat, list) leave all old memory as it was.
-/
namespace Go.Proofs.YtolpcfhfcdkokaaGreatDoor
open Go.RowKit Go.Proofs

/-- What a question leaves. -/
def AskP (a : Ans) (w : World) (e : Ending) (w' : World) : Prop := (∃ v, e = .returned v ∧ AnsAt w' v a ∧ EntF w.heap.size v) ∧ Below w.heap.size w w'
theorem read_ents (n : PN) (off most : Int) : (n.read off most).ents = [] := by
  unfold PN.read
  split
  · rfl
  split <;> rfl
theorem ask_end {w w0 w1 w2 : World} {g : Nat} (hg : w.heap.size = g) (hb : Below g w w0) (hb1 : Below w0.heap.size w0 w1) (hc : Chg (fun b => b = g + 1) w1 w2) : Below w.heap.size w w2 := by
  have h1 := hb.size
  have h2 := hb1.size
  rw [hg]
  exact (hb.trans (hb1.mono (by omega))).trans (hc.below (by omega) fun b hb e => by omega)
set_option maxHeartbeats 6400000 in
set_option maxRecDepth 100000 in
theorem qasks_any (own : Nat → Option Role) (lay : Nat → NA) (p mb i : Nat) (T : PT) (n : PN) (o : Opn) (A : Option Addr) (c : Nat) (w : World) (h : PlainAt w own lay p mb T) (hT : T.Wf) (hg : getS i T.nodes = some n)
    (hkind : o.kind = 9 ∨ o.kind = 10 ∨ o.kind = 11) (hoff : o.off ≤ 9223372036854775807 ∧ -9223372036854775808 ≤ o.off) (hlen : o.len ≤ 9223372036854775807 ∧ -9223372036854775808 ≤ o.len) :
    Calls Tryz.prog 73 #[.pointer (some ⟨p, 0, none⟩), opV o A c, .int .i64 (i : Int)] w (AskP (T.asks o i).2 w) := by
  have hu := PT.asks.eq_1 T o i
  have hio := (hT.ok.get hg).2
  have hi5 := hT.ok.ino
  have hog : own (w.heap.size + 1) = none := h.free (by omega)
  unfold opV opC
  go_enter Tryz.func73, Tryz.ntmps73
  go_upto_region 1 with (fail)
  have hO0 : Blk ((w.alloc (.cells (opC o A c).toArray 70)).alloc (.cells zAns.toArray 67)) w.heap.size 70 (opC o A c) := (Blk.new w _ _).alloc _
  have hZ0 : Blk ((w.alloc (.cells (opC o A c).toArray 70)).alloc (.cells zAns.toArray 67)) (w.heap.size + 1) 67 zAns := by
    have := Blk.new (w.alloc (.cells (opC o A c).toArray 70)) 67 zAns
    simpa using this
  have hB0 : Below w.heap.size w ((w.alloc (.cells (opC o A c).toArray 70)).alloc (.cells zAns.toArray 67)) := ((Below.refl _ _).alloc (Nat.le_refl _) _).alloc (by simp) _
  have hz0 : ((w.alloc (.cells (opC o A c).toArray 70)).alloc (.cells zAns.toArray 67)).heap.size = w.heap.size + 2 := by simp
  change Code.wp _ _ _ _ ((w.alloc (.cells (opC o A c).toArray 70)).alloc (.cells zAns.toArray 67))
  generalize (w.alloc (.cells (opC o A c).toArray 70)).alloc (.cells zAns.toArray 67) = w0 at *
  have hP0 := h.fresh hB0
  obtain ⟨g, hgE⟩ : ∃ g, w.heap.size = g := ⟨_, rfl⟩
  rw [hgE] at hO0 hZ0 hB0 hz0 hog
  simp only [hgE]
  have hgH := Lib.hid hgE
  have hBH := Lib.hid hB0
  have hozH := Lib.hid hog
  have hP0H := Lib.hid hP0
  have hgetH := Lib.hid hg
  have hTH := Lib.hid hT
  have hZH := Lib.hid hZ0
  have hkH := Lib.hid hkind
  clear hgE hB0 hog h hkind
  have lkI := hP0.lookI hg (by omega)
  have x2 := hP0.c2
  have b0 := (hP0.get hg).blk.cell 0
  simp only [cells7, List.getElem?_cons_zero] at b0
  have y0 := hO0.cell 0
  have y3 := hO0.cell 3
  have y4 := hO0.cell 4
  have y5 := hO0.cell 5
  simp only [opC, List.getElem?_cons_succ, List.getElem?_cons_zero] at y0 y3 y4 y5
  clear hO0 hP0 hT hg
  by_cases k10 : o.kind = 10
  · rw [if_pos k10] at hu
    have huH := Lib.hid hu
    have t10 : decide (o.kind = 10) = true := by simpa using k10
    have s10 : (o.kind == 10) = true := by simpa using k10
    have hcs := pstat_any own lay p mb i T n w0 hP0H.out hTH.out.ok hgetH.out
    obtain ⟨st, hst⟩ : ∃ st, T.stat i = st := ⟨_, rfl⟩
    rw [hst] at hcs
    unfold stV stC at hcs
    have hstH := Lib.hid hst
    clear hu hst k10
    go_wp2_with (first
      | (go_at_call 99; refine hcs.mono ?_; rintro e w1 ⟨rfl, hb1⟩; have hZ1 := hZ0.fresh hb1; have hb1H := Lib.hid hb1; clear hb1)
      | (refine wpList_store_row rfl 67 (.tmp 6) (.tmp 21) rfl (g + 1) (ansC 0 st nilS nilS).toArray rfl (by rfl) 67 _ hZ1 rfl rfl (one10s _ _ _ _ _ _ _ _) ?_))
    have hrow := setRow_heap w1 (g + 1) _ (ansC 0 st nilS nilS).toArray _ _ hZ1
    refine bodyPost_ret (results_cell_row rfl _ _ (g + 1) 67 (ansC 0 st nilS nilS).toArray (0, 0) _ rfl hrow Tryz.underlying67 rfl rfl) rfl ?_
    have hfin : Chg (fun b => b = g + 1) w1 (w1.setRow (g + 1) (ansC 0 st nilS nilS).toArray) := (Chg.refl (fun b => b = g + 1) w1).setRow (fun _ => rfl) _
    rw [huH.out]
    rw [hstH.out]
    refine ⟨⟨_, rfl, ansAt_of _ 0 st, entF_0 (ansAt_of w0 0 st) rfl⟩, ?_⟩
    exact ask_end hgH.out hBH.out hb1H.out hfin
  have s10 : (o.kind == 10) = false := by simpa using k10
  rw [if_neg k10] at hu
  by_cases k11 : o.kind = 11
  · rw [if_pos k11] at hu
    have huH := Lib.hid hu
    have s11 : (o.kind == 11) = true := by simpa using k11
    have hcs := plist_any own lay p mb i T n w0 hP0H.out hTH.out hgetH.out
    obtain ⟨an, han⟩ : ∃ an, T.list i = an := ⟨_, rfl⟩
    rw [han] at hcs
    have hanH := Lib.hid han
    clear hu han k10 k11
    go_wp2_with (first
      | (go_at_call 105; refine hcs.mono ?_; rintro e w1 ⟨⟨v, rfl, hA, hF⟩, hb1⟩; have hFH := Lib.hid hF; clear hF; have hA1 := Lib.hid hA; obtain ⟨dA, dc, eA, ec, rfl, -, -⟩ := hA; have hZ1 := hZ0.fresh hb1; have hb1H := Lib.hid hb1; clear hb1)
      | (refine wpList_store_row rfl 67 (.tmp 6) (.tmp 26) rfl (g + 1) (ansC an.code an.stat (.slice dA an.data.length dc) (.slice eA an.ents.length ec)).toArray rfl (by rfl) 67 _ hZ1 rfl rfl (one10s _ _ _ _ _ _ _ _) ?_))
    have hrow := setRow_heap w1 (g + 1) _ (ansC an.code an.stat (.slice dA an.data.length dc) (.slice eA an.ents.length ec)).toArray _ _ hZ1
    refine bodyPost_ret (results_cell_row rfl _ _ (g + 1) 67 (ansC an.code an.stat (.slice dA an.data.length dc) (.slice eA an.ents.length ec)).toArray (0, 0) _ rfl hrow Tryz.underlying67 rfl rfl) rfl ?_
    have hfin : Chg (fun b => b = g + 1) w1 (w1.setRow (g + 1) (ansC an.code an.stat (.slice dA an.data.length dc) (.slice eA an.ents.length ec)).toArray) := (Chg.refl (fun b => b = g + 1) w1).setRow (fun _ => rfl) _
    rw [huH.out]
    rw [hanH.out]
    refine ⟨⟨_, rfl, hA1.out.row hZ1 _, hFH.out.mono (by have := hBH.out.size; have := hgH.out; omega)⟩, ?_⟩
    exact ask_end hgH.out hBH.out hb1H.out hfin
  have s11 : (o.kind == 11) = false := by simpa using k11
  rw [if_neg k11, isDir_of hgetH.out] at hu
  cases hd : n.dir with
  | true =>
    rw [hd, if_pos rfl] at hu
    have huH := Lib.hid hu
    have sd : (n.kind == 2) = true := by unfold PN.kind; rw [hd]; rfl
    clear hu k10 k11
    go_wp2_with (first
      | (refine wpList_store_row rfl 67 (.tmp 6) (.tmp 32) rfl (g + 1) (ansC 102 st0 nilS nilS).toArray rfl (by rfl) 67 _ hZ0 rfl rfl (one10s _ _ _ _ _ _ _ _) ?_))
    have hrow := setRow_heap w0 (g + 1) _ (ansC 102 st0 nilS nilS).toArray _ _ hZ0
    refine bodyPost_ret (results_cell_row rfl _ _ (g + 1) 67 (ansC 102 st0 nilS nilS).toArray (0, 0) _ rfl hrow Tryz.underlying67 rfl rfl) rfl ?_
    have hfin : Chg (fun b => b = g + 1) w0 (w0.setRow (g + 1) (ansC 102 st0 nilS nilS).toArray) := (Chg.refl (fun b => b = g + 1) w0).setRow (fun _ => rfl) _
    rw [huH.out]
    refine ⟨⟨_, rfl, ansAt_of _ 102 st0, entF_0 (ansAt_of w0 102 st0) rfl⟩, ?_⟩
    exact ask_end hgH.out hBH.out (Below.refl _ _) hfin
  | false =>
    rw [hd, if_neg (by simp)] at hu
    have sd : (n.kind == 2) = false := by unfold PN.kind; rw [hd]; rfl
    have hfile := Lib.hid hd
    obtain ⟨db, hdb⟩ := (hP0H.out.get hgetH.out).files hd
    have hdbH := Lib.hid hdb
    clear hd hdb
    have k7 : ¬ o.kind = 7 := by have := hkH.out; omega
    have s7 : (o.kind == 7) = false := by simpa using k7
    rw [if_neg k7] at hu
    have k8 : ¬ o.kind = 8 := by have := hkH.out; omega
    have s8 : (o.kind == 8) = false := by simpa using k8
    rw [if_neg k8] at hu
    by_cases k9 : o.kind = 9
    · rw [if_pos k9, node_of hgetH.out] at hu
      have huH := Lib.hid hu
      have s9 : (o.kind == 9) = true := by simpa using k9
      have hcs := pread_any (lay i) n db o.off o.len w0 (hP0H.out.get hgetH.out) (hTH.out.ok.get hgetH.out).1 hdbH.out hoff hlen
      obtain ⟨an, han⟩ : ∃ an, n.read o.off o.len = an := ⟨_, rfl⟩
      rw [han] at hcs
      unfold ptrV at hcs
      have hanH := Lib.hid han
      clear hu han k7 k8 k9 k10 k11
      go_wp2_with (first
        | (go_at_call 108; refine hcs.mono ?_; rintro e w1 ⟨⟨v, rfl, hA⟩, hb1⟩; have hA1 := Lib.hid hA; obtain ⟨dA, dc, eA, ec, rfl, -, -⟩ := hA; have hZ1 := hZ0.fresh hb1; have hb1H := Lib.hid hb1; clear hb1)
        | (refine wpList_store_row rfl 67 (.tmp 6) (.tmp 59) rfl (g + 1) (ansC an.code an.stat (.slice dA an.data.length dc) (.slice eA an.ents.length ec)).toArray rfl (by rfl) 67 _ hZ1 rfl rfl (one10s _ _ _ _ _ _ _ _) ?_))
      have hrow := setRow_heap w1 (g + 1) _ (ansC an.code an.stat (.slice dA an.data.length dc) (.slice eA an.ents.length ec)).toArray _ _ hZ1
      refine bodyPost_ret (results_cell_row rfl _ _ (g + 1) 67 (ansC an.code an.stat (.slice dA an.data.length dc) (.slice eA an.ents.length ec)).toArray (0, 0) _ rfl hrow Tryz.underlying67 rfl rfl) rfl ?_
      have hfin : Chg (fun b => b = g + 1) w1 (w1.setRow (g + 1) (ansC an.code an.stat (.slice dA an.data.length dc) (.slice eA an.ents.length ec)).toArray) := (Chg.refl (fun b => b = g + 1) w1).setRow (fun _ => rfl) _
      rw [huH.out]
      rw [hanH.out]
      refine ⟨⟨_, rfl, hA1.out.row hZ1 _, entF_0 hA1.out (by rw [← hanH.out]; exact read_ents n _ _)⟩, ?_⟩
      exact ask_end hgH.out hBH.out hb1H.out hfin
    · exact absurd hkH.out (by omega)
set_option maxHeartbeats 6400000 in
set_option maxRecDepth 100000 in
theorem qdoes_any (own : Nat → Option Role) (lay : Nat → NA) (p mb : Nat) (T : PT) (o : Opn) (A : Option Addr) (c : Nat) (A1 : Option Addr) (c1 : Nat) (l : List ByteArray) (A2 : Option Addr) (c2 : Nat) (m : List ByteArray) (w : World) (h : PlainAt w own lay p mb T) (hT : T.Wf)
    (hkind : o.kind = 9 ∨ o.kind = 10 ∨ o.kind = 11) (hoff : o.off ≤ 9223372036854775807 ∧ -9223372036854775808 ≤ o.off) (hlen : o.len ≤ 9223372036854775807 ∧ -9223372036854775808 ≤ o.len)
    (hmade : 0 ≤ o.made ∧ o.made ≤ 1099511627776) (hn1 : NmAt w w.heap.size A1 c1 l) (hn2 : NmAt w w.heap.size A2 c2 m) :
    Calls Tryz.prog 43 #[.pointer (some ⟨p, 0, none⟩), opV o A c, .slice A1 l.length c1, .slice A2 m.length c2] w (AskP (T.does o l m).2 w) := by
  have hu := PT.does.eq_1 T o l m
  have hog : own (w.heap.size + 1) = none := h.free (by omega)
  unfold opV opC
  go_enter Tryz.func43, Tryz.ntmps43
  go_upto_region 1 with (fail)
  have hO0 : Blk ((w.alloc (.cells (opC o A c).toArray 70)).alloc (.cells zAns.toArray 67)) w.heap.size 70 (opC o A c) := (Blk.new w _ _).alloc _
  have hZ0 : Blk ((w.alloc (.cells (opC o A c).toArray 70)).alloc (.cells zAns.toArray 67)) (w.heap.size + 1) 67 zAns := by
    have := Blk.new (w.alloc (.cells (opC o A c).toArray 70)) 67 zAns
    simpa using this
  have hB0 : Below w.heap.size w ((w.alloc (.cells (opC o A c).toArray 70)).alloc (.cells zAns.toArray 67)) := ((Below.refl _ _).alloc (Nat.le_refl _) _).alloc (by simp) _
  have hz0 : ((w.alloc (.cells (opC o A c).toArray 70)).alloc (.cells zAns.toArray 67)).heap.size = w.heap.size + 2 := by simp
  change Code.wp _ _ _ _ ((w.alloc (.cells (opC o A c).toArray 70)).alloc (.cells zAns.toArray 67))
  generalize (w.alloc (.cells (opC o A c).toArray 70)).alloc (.cells zAns.toArray 67) = w0 at *
  have hP0 := h.fresh hB0
  have hn10 := hn1.fresh hB0
  have hn20 := hn2.fresh hB0
  obtain ⟨g, hgE⟩ : ∃ g, w.heap.size = g := ⟨_, rfl⟩
  rw [hgE] at hO0 hZ0 hB0 hz0 hog
  simp only [hgE]
  have hgH := Lib.hid hgE
  have hBH := Lib.hid hB0
  have hozH := Lib.hid hog
  have hP0H := Lib.hid hP0
  have hTH := Lib.hid hT
  have hZH := Lib.hid hZ0
  have hOH := Lib.hid hO0
  have hn1H := Lib.hid hn10
  have hn2H := Lib.hid hn20
  have hkH := Lib.hid hkind
  clear hgE hB0 hog h hkind hP0 hT hn1 hn2 hn10 hn20
  have y0 := hO0.cell 0
  have y6 := hO0.cell 6
  simp only [opC, List.getElem?_cons_succ, List.getElem?_cons_zero] at y0 y6
  clear hO0
  obtain ⟨made, hmd⟩ : ∃ made : Nat, o.made = (made : Int) := ⟨o.made.toNat, by omega⟩
  rw [hmd] at y6
  have k1 : ¬ o.kind = 1 := by have := hkH.out; omega
  have s1 : (o.kind == 1) = false := by simpa using k1
  rw [if_neg k1] at hu
  have k2 : ¬ o.kind = 2 := by have := hkH.out; omega
  have s2 : (o.kind == 2) = false := by simpa using k2
  rw [if_neg k2] at hu
  have k3 : ¬ o.kind = 3 := by have := hkH.out; omega
  have s3 : (o.kind == 3) = false := by simpa using k3
  rw [if_neg k3] at hu
  have k4 : ¬ o.kind = 4 := by have := hkH.out; omega
  have s4 : (o.kind == 4) = false := by simpa using k4
  rw [if_neg k4] at hu
  have k5 : ¬ o.kind = 5 := by have := hkH.out; omega
  have s5 : (o.kind == 5) = false := by simpa using k5
  rw [if_neg k5] at hu
  have k6 : ¬ o.kind = 6 := by have := hkH.out; omega
  have s6 : (o.kind == 6) = false := by simpa using k6
  rw [if_neg k6] at hu
  have k12 : ¬ o.kind = 12 := by have := hkH.out; omega
  have s12 : (o.kind == 12) = false := by simpa using k12
  have k14 : ¬ o.kind = 14 := by have := hkH.out; omega
  have s14 : (o.kind == 14) = false := by simpa using k14
  rw [if_neg (by rintro (h | h); exact k12 h; exact k14 h)] at hu
  have hcw := pwalk_any own lay p mb T _ A1 c1 l w0 hP0H.out hTH.out hn1H.out.sees hn1H.out.len hn1H.out.big
  have hwi := walk_stays hTH.out l 1 (let ⟨n, h, _⟩ := hTH.out.root; ⟨n, h⟩)
  obtain ⟨r, hr⟩ : ∃ r, T.walk l 1 = r := ⟨_, rfl⟩
  rw [hr] at hcw hwi hu
  obtain ⟨i, e1⟩ := r
  simp only at hcw hwi hu
  unfold natV at hcw
  have hwiH := Lib.hid hwi
  clear hr hwi k1 k2 k3 k4 k5 k6 k12 k14
  by_cases he1 : e1 ≠ 0
  · rw [if_pos he1] at hu
    have huH := Lib.hid hu
    have hne1 : ((e1 : Int) != 0) = true := by simp; omega
    clear hu he1
    go_wp2_with (first
      | (go_at_call 72; refine hcw.mono ?_; rintro e w1 ⟨rfl, rfl⟩)
      | (refine wpList_store_row rfl 67 (.tmp 8) (.tmp 66) rfl (g + 1) (ansC e1 st0 nilS nilS).toArray rfl (by rfl) 67 _ hZ0 rfl rfl (one10s _ _ _ _ _ _ _ _) ?_))
    have hrow := setRow_heap w0 (g + 1) _ (ansC e1 st0 nilS nilS).toArray _ _ hZ0
    refine bodyPost_ret (results_cell_row rfl _ _ (g + 1) 67 (ansC e1 st0 nilS nilS).toArray (0, 0) _ rfl hrow Tryz.underlying67 rfl rfl) rfl ?_
    have hfin : Chg (fun b => b = g + 1) w0 (w0.setRow (g + 1) (ansC e1 st0 nilS nilS).toArray) := (Chg.refl (fun b => b = g + 1) w0).setRow (fun _ => rfl) _
    rw [huH.out]
    refine ⟨⟨_, rfl, ansAt_of _ e1 st0, entF_0 (ansAt_of w0 e1 st0) rfl⟩, ?_⟩
    exact ask_end hgH.out hBH.out (Below.refl _ _) hfin
  · have he1 : e1 = 0 := by omega
    subst he1
    rw [if_neg (by simp)] at hu
    have huH := Lib.hid hu
    obtain ⟨n, hn⟩ := hwiH.out rfl
    have hcs := qasks_any own lay p mb i T n o A c w0 hP0H.out hTH.out hn hkH.out hoff hlen
    have yc := fun j => hOH.out.cell j
    have z1 := yc 1
    have z2 := yc 2
    have z3 := yc 3
    have z4 := yc 4
    have z5 := yc 5
    have z7 := yc 7
    simp only [opC, List.getElem?_cons_succ, List.getElem?_cons_zero] at z1 z2 z3 z4 z5 z7
    unfold opV opC at hcs
    rw [hmd] at hcs
    obtain ⟨r, hr⟩ : ∃ r, T.asks o i = r := ⟨_, rfl⟩
    rw [hr] at hcs
    have hrH := Lib.hid hr
    obtain ⟨T1, an⟩ := r
    clear hu hr hn yc
    go_wp2_with (first
      | (go_at_call 72; refine hcw.mono ?_; rintro e w1 ⟨rfl, rfl⟩)
      | (go_at_call 73; refine hcs.mono ?_; rintro e w1 ⟨⟨v, rfl, hA, hF⟩, hb1⟩; have hFH := Lib.hid hF; clear hF; have hA1 := Lib.hid hA; obtain ⟨dA, dc, eA, ec, rfl, -, -⟩ := hA; have hb1H := Lib.hid hb1; have hZ1 := hZ0.fresh hb1; clear hb1)
      | (refine wpList_store_row rfl 67 (.tmp 8) (.tmp 70) rfl (g + 1) (ansC an.code an.stat (.slice dA an.data.length dc) (.slice eA an.ents.length ec)).toArray rfl (by rfl) 67 _ hZ1 rfl rfl (one10s _ _ _ _ _ _ _ _) ?_))
    have hrow := setRow_heap w1 (g + 1) _ (ansC an.code an.stat (.slice dA an.data.length dc) (.slice eA an.ents.length ec)).toArray _ _ hZ1
    refine bodyPost_ret (results_cell_row rfl _ _ (g + 1) 67 (ansC an.code an.stat (.slice dA an.data.length dc) (.slice eA an.ents.length ec)).toArray (0, 0) _ rfl hrow Tryz.underlying67 rfl rfl) rfl ?_
    have hfin : Chg (fun b => b = g + 1) w1 (w1.setRow (g + 1) (ansC an.code an.stat (.slice dA an.data.length dc) (.slice eA an.ents.length ec)).toArray) := (Chg.refl (fun b => b = g + 1) w1).setRow (fun _ => rfl) _
    rw [huH.out]
    rw [hrH.out]
    refine ⟨⟨_, rfl, hA1.out.row hZ1 _, hFH.out.mono (by have := hBH.out.size; have := hgH.out; omega)⟩, ?_⟩
    exact ask_end hgH.out hBH.out hb1H.out hfin
set_option maxHeartbeats 6400000 in
set_option maxRecDepth 100000 in
theorem qdo_any (own : Nat → Option Role) (lay : Nat → NA) (p mb : Nat) (T : PT) (o : Opn) (A : Option Addr) (c : Nat) (m0 : Int) (w : World) (h : PlainAt w own lay p mb T) (hT : T.Wf) (hkind : o.kind = 9 ∨ o.kind = 10 ∨ o.kind = 11) (hf : o.fine = true) (hoff : o.off ≤ 9223372036854775807 ∧ -9223372036854775808 ≤ o.off) (hlen : o.len ≤ 9223372036854775807 ∧ -9223372036854775808 ≤ o.len) (hpa : o.path.size ≤ 100000) (hm : w.cell? ⟨0, 0, none⟩ = some (.int .i64 m0)) :
    Calls Tryz.prog 24 #[.pointer (some ⟨p, 0, none⟩), opV o A c] w (AskP (T.run o).2 w) := by
  have hu := PT.run.eq_1 T o
  have hog : own (w.heap.size + 1) = none := h.free (by omega)
  unfold opV
  go_enter Tryz.func24, Tryz.ntmps24
  go_upto_region 1 with (fail)
  have hO0 : Blk ((w.alloc (.cells (opC o A c).toArray 70)).alloc (.cells zAns.toArray 67)) w.heap.size 70 (opC o A c) := (Blk.new w _ _).alloc _
  have hZ0 : Blk ((w.alloc (.cells (opC o A c).toArray 70)).alloc (.cells zAns.toArray 67)) (w.heap.size + 1) 67 zAns := by
    have := Blk.new (w.alloc (.cells (opC o A c).toArray 70)) 67 zAns
    simpa using this
  have hB0 : Below w.heap.size w ((w.alloc (.cells (opC o A c).toArray 70)).alloc (.cells zAns.toArray 67)) := ((Below.refl _ _).alloc (Nat.le_refl _) _).alloc (by simp) _
  have hz0 : ((w.alloc (.cells (opC o A c).toArray 70)).alloc (.cells zAns.toArray 67)).heap.size = w.heap.size + 2 := by simp
  change Code.wp _ _ _ _ ((w.alloc (.cells (opC o A c).toArray 70)).alloc (.cells zAns.toArray 67))
  generalize (w.alloc (.cells (opC o A c).toArray 70)).alloc (.cells zAns.toArray 67) = w0 at *
  have hP0 := h.fresh hB0
  have hm00 : w0.cell? ⟨0, 0, none⟩ = some (.int .i64 m0) := (hB0.cell (p := ⟨0, 0, none⟩) (World.block_lt_of_cell? _ _ hm)).trans hm
  obtain ⟨g, hgE⟩ : ∃ g, w.heap.size = g := ⟨_, rfl⟩
  rw [hgE] at hO0 hZ0 hB0 hz0 hog
  simp only [hgE]
  have hgH := Lib.hid hgE
  have hBH := Lib.hid hB0
  have hozH := Lib.hid hog
  have hP0H := Lib.hid hP0
  have hTH := Lib.hid hT
  have hkH := Lib.hid hkind
  have hmH := Lib.hid hm00
  have hOH := Lib.hid hO0
  clear hgE hB0 hog h hP0 hT hm hm00 hkind
  have yc := fun j => hO0.cell j
  have y0 := yc 0
  have y1 := yc 1
  have y2 := yc 2
  have y3 := yc 3
  have y4 := yc 4
  have y5 := yc 5
  have y6 := yc 6
  have y7 := yc 7
  simp only [opC, List.getElem?_cons_succ, List.getElem?_cons_zero] at y0 y1 y2 y3 y4 y5 y6 y7
  have hcf := fine_any o A c w0
  unfold opV opC at hcf
  clear hO0 yc
  unfold opC
  rw [hf, if_neg (by simp)] at hu
  rw [hf] at hcf
  have hmade : 0 ≤ o.made ∧ o.made ≤ 1099511627776 := by
    unfold Opn.fine at hf
    have := of_decide_eq_true hf
    exact ⟨this.2.2.1, this.2.2.2.1⟩
  have hmadeH := Lib.hid hmade
  have huH := Lib.hid hu
  clear hu hf hmade
  go_upto_region 5 with (go_at_call 41; refine hcf.mono ?_; rintro e w1 ⟨rfl, hb1⟩)
  have hZ1 := Lib.hid (hZ0.fresh hb1)
  have hO1 := Lib.hid (hOH.out.fresh hb1)
  have hb1H := Lib.hid hb1
  have hm1 : w1.cell? ⟨0, 0, none⟩ = some (.int .i64 m0) := (hb1.cell (p := ⟨0, 0, none⟩) (World.block_lt_of_cell? _ _ hmH.out)).trans hmH.out
  have hm1H := Lib.hid hm1
  clear hb1 hm1 hcf y0 y1 y2 y3 y4 y5 y6 y7 hZ0
  have u0 : w1.cell? ⟨g, 0, none⟩ = some (.int .i64 o.kind) := hO1.out.cell 0
  have u1 : w1.cell? ⟨g, 1, none⟩ = some (.string o.path) := hO1.out.cell 1
  have kA : ¬ (o.kind = 12 ∨ o.kind = 14) := by have := hkH.out; omega
  have hk1 : o.code1 = (spl o.path).2 ∧ o.from_ = (spl o.path).1 := by unfold Opn.code1 Opn.from_; rw [if_neg kA, if_neg kA]; exact ⟨rfl, rfl⟩
  have hu2 := huH.out
  rw [hk1.1, hk1.2] at hu2
  obtain ⟨r, hr⟩ : ∃ r, spl o.path = r := ⟨_, rfl⟩
  obtain ⟨l, e1⟩ := r
  rw [hr] at hu2
  simp only at hu2
  have hcs := psplit_q o.path l e1 m0 w1 hr (Nat.le_trans hpa (by decide)) hm1H.out
  have hu2H := Lib.hid hu2
  have s12 : (o.kind != 12) = true := by simp; omega
  have s14 : (o.kind != 14) = true := by simp; omega
  clear hu2 hk1 hr huH kA
  go_upto_region 7 with (go_at_call 42; refine hcs.mono ?_; rintro e w2 ⟨⟨A1, c1, rfl, hn1⟩, hb2⟩)
  have hZ2 := hZ1.out.fresh hb2
  have hO2 := Lib.hid (hO1.out.fresh hb2)
  have hb2H := Lib.hid (hb1H.out.trans (hb2.mono hb1H.out.size))
  have hm2H := Lib.hid ((hb2.cell (p := ⟨0, 0, none⟩) (World.block_lt_of_cell? _ _ hm1H.out)).trans hm1H.out)
  have hn1H := Lib.hid hn1
  clear hn1 hb2 hcs u0 u1 s12 s14
  by_cases he1 : e1 ≠ 0
  · have hu3 := hu2H.out
    rw [if_pos he1] at hu3
    have hu3H := Lib.hid hu3
    have hne1 : ((e1 : Int) != 0) = true := by simp; omega
    clear hu3 he1
    go_wp2_with (first
      | (refine wpList_store_row rfl 67 (.tmp 4) (.tmp 30) rfl (g + 1) (ansC e1 st0 nilS nilS).toArray rfl (by rfl) 67 _ hZ2 rfl rfl (one10s _ _ _ _ _ _ _ _) ?_))
    have hrow := setRow_heap w2 (g + 1) _ (ansC e1 st0 nilS nilS).toArray _ _ hZ2
    refine bodyPost_ret (results_cell_row rfl _ _ (g + 1) 67 (ansC e1 st0 nilS nilS).toArray (0, 0) _ rfl hrow Tryz.underlying67 rfl rfl) rfl ?_
    have hfin : Chg (fun b => b = g + 1) w2 (w2.setRow (g + 1) (ansC e1 st0 nilS nilS).toArray) := (Chg.refl (fun b => b = g + 1) w2).setRow (fun _ => rfl) _
    rw [hu3H.out]
    refine ⟨⟨_, rfl, ansAt_of _ e1 st0, entF_0 (ansAt_of w0 e1 st0) rfl⟩, ?_⟩
    exact ask_end hgH.out hBH.out hb2H.out hfin
  · have he1 : e1 = 0 := by omega
    subst he1
    have hu3 := hu2H.out
    rw [if_neg (by simp)] at hu3
    have hu3H := Lib.hid hu3
    clear hu3
    go_upto_region 9 with (fail)
    have u0 : w2.cell? ⟨g, 0, none⟩ = some (.int .i64 o.kind) := hO2.out.cell 0
    have u2 : w2.cell? ⟨g, 2, none⟩ = some (.string o.dst) := hO2.out.cell 2
    have kB : ¬ (o.kind = 3 ∨ o.kind = 6) := by have := hkH.out; omega
    have hrun : T.run o = ((T.does o l []).1, (T.does o l []).2.told) := by
      rw [hu3H.out]
      unfold Opn.code2 Opn.to_
      rw [if_neg kB, if_neg kB]
      rfl
    have hrunH := Lib.hid hrun
    have hn2H : Hid (NmAt w2 w2.heap.size none 0 []) := Lib.hid (nmAt_nil w2 _)
    have s3 : (o.kind == 3) = false := by simp; omega
    have s6 : (o.kind == 6) = false := by simp; omega
    have hZ2H := Lib.hid hZ2
    clear hrun kB hZ2
    go_upto_region 13 with (fail)
    clear s3 s6 u0 u2
    have hPX := hP0H.out.fresh hb2H.out
    have hcd := qdoes_any own lay p mb T o A c A1 c1 l none 0 [] w2 hPX hTH.out hkH.out hoff hlen hmadeH.out hn1H.out hn2H.out
    clear hPX
    have vc := fun j => hO2.out.cell j
    have v0 := vc 0
    have v1 := vc 1
    have v2 := vc 2
    have v3 := vc 3
    have v4 := vc 4
    have v5 := vc 5
    have v6 := vc 6
    have v7 := vc 7
    simp only [opC, List.getElem?_cons_succ, List.getElem?_cons_zero] at v0 v1 v2 v3 v4 v5 v6 v7
    unfold opV opC at hcd
    obtain ⟨r, hr⟩ : ∃ r, T.does o l [] = r := ⟨_, rfl⟩
    rw [hr] at hcd
    have hrH := Lib.hid hr
    obtain ⟨T1, an⟩ := r
    clear hr vc
    go_upto_region 14 with (first
      | (go_at_call 43; refine hcd.mono ?_; rintro e w4 ⟨⟨v, rfl, hA, hF⟩, hb4⟩; have hFH := Lib.hid hF; clear hF; have hA1 := Lib.hid hA; obtain ⟨dA, dc, eA, ec, rfl, -, -⟩ := hA; have hb4H := Lib.hid hb4; have hZ4 := Lib.hid (hZ2H.out.fresh hb4); have hz4 := hb4.size; have hN4 := Blk.new w4 67 zAns; clear hb4)
      | (refine wpList_store_row rfl 67 (.tmp 8) (.tmp 53) rfl w4.heap.size (ansC an.code an.stat (.slice dA an.data.length dc) (.slice eA an.ents.length ec)).toArray rfl (by rfl) 67 _ hN4 rfl rfl (one10s _ _ _ _ _ _ _ _) ?_))
    have hQ5 := setRow_heap (w4.alloc (.cells zAns.toArray 67)) w4.heap.size _ (ansC an.code an.stat (.slice dA an.data.length dc) (.slice eA an.ents.length ec)).toArray _ _ hN4
    have hQ5 : Blk ((w4.alloc (.cells zAns.toArray 67)).setRow w4.heap.size (ansC an.code an.stat (.slice dA an.data.length dc) (.slice eA an.ents.length ec)).toArray) w4.heap.size 67 (ansC an.code an.stat (.slice dA an.data.length dc) (.slice eA an.ents.length ec)) := hQ5
    have hb5 : Below w4.heap.size w4 ((w4.alloc (.cells zAns.toArray 67)).setRow w4.heap.size (ansC an.code an.stat (.slice dA an.data.length dc) (.slice eA an.ents.length ec)).toArray) := ((Chg.refl (fun b => w4.heap.size ≤ b) w4).alloc _ |>.setRow (fun _ => Nat.le_refl _) _).below (Nat.le_refl _) fun b hb e => by omega
    have hZ5 := hZ4.out.fresh hb5
    have hA5 := Lib.hid (hA1.out.fresh hb5)
    have hb5H := Lib.hid hb5
    clear hN4 hb5 hZ4 hA1 v0 v1 v2 v3 v4 v5 v6 v7 hcd
    change Code.wp _ _ _ _ ((w4.alloc (.cells zAns.toArray 67)).setRow w4.heap.size (ansC an.code an.stat (.slice dA an.data.length dc) (.slice eA an.ents.length ec)).toArray)
    generalize (w4.alloc (.cells zAns.toArray 67)).setRow w4.heap.size (ansC an.code an.stat (.slice dA an.data.length dc) (.slice eA an.ents.length ec)).toArray = w5 at *
    have xc := fun j => hQ5.cell j
    have x0 := xc 0
    have x1 := xc 1
    have x2 := xc 2
    have x3 := xc 3
    have x4 := xc 4
    have x5 := xc 5
    have x6 := xc 6
    have x7 := xc 7
    have x8 := xc 8
    have x9 := xc 9
    simp only [ansC, List.getElem?_cons_succ, List.getElem?_cons_zero] at x0 x1 x2 x3 x4 x5 x6 x7 x8 x9
    clear xc hQ5
    by_cases hcd : an.code = 0
    · have hne : ((an.code : Int) != 0) = false := by simp; omega
      have htold : Hid (an.told = an) := Lib.hid (by unfold Ans.told; rw [if_pos hcd])
      clear hcd
      go_wp2_with (first
        | (refine wpList_store_row rfl 67 (.tmp 4) (.tmp 60) rfl (g + 1) (ansC an.code an.stat (.slice dA an.data.length dc) (.slice eA an.ents.length ec)).toArray rfl (by rfl) 67 _ hZ5 rfl rfl (one10s _ _ _ _ _ _ _ _) ?_))
      have hrow := setRow_heap w5 (g + 1) _ (ansC an.code an.stat (.slice dA an.data.length dc) (.slice eA an.ents.length ec)).toArray _ _ hZ5
      refine bodyPost_ret (results_cell_row rfl _ _ (g + 1) 67 (ansC an.code an.stat (.slice dA an.data.length dc) (.slice eA an.ents.length ec)).toArray (0, 0) _ rfl hrow Tryz.underlying67 rfl rfl) rfl ?_
      have hfin : Chg (fun b => b = g + 1) w5 (w5.setRow (g + 1) (ansC an.code an.stat (.slice dA an.data.length dc) (.slice eA an.ents.length ec)).toArray) := (Chg.refl (fun b => b = g + 1) w5).setRow (fun _ => rfl) _
      rw [hrunH.out, hrH.out]
      refine ⟨⟨_, rfl, ?_, hFH.out.mono (by have := hBH.out.size; have := hgH.out; have := hb2H.out.size; omega)⟩, ?_⟩
      · show AnsAt _ _ an.told
        rw [htold.out]
        exact hA5.out.row hZ5 _
      exact ask_end hgH.out hBH.out ((hb2H.out.trans (hb4H.out.mono hb2H.out.size)).trans (hb5H.out.mono (Nat.le_trans hb2H.out.size hb4H.out.size))) hfin
    · have hne : ((an.code : Int) != 0) = true := by simp; omega
      have htold : Hid (an.told = .err an.code) := Lib.hid (by unfold Ans.told; rw [if_neg hcd])
      clear hcd
      go_wp2_with (first
        | (refine wpList_store_row rfl 67 (.tmp 4) (.tmp 59) rfl (g + 1) (ansC an.code st0 nilS nilS).toArray rfl (by rfl) 67 _ hZ5 rfl rfl (one10s _ _ _ _ _ _ _ _) ?_))
      have hrow := setRow_heap w5 (g + 1) _ (ansC an.code st0 nilS nilS).toArray _ _ hZ5
      refine bodyPost_ret (results_cell_row rfl _ _ (g + 1) 67 (ansC an.code st0 nilS nilS).toArray (0, 0) _ rfl hrow Tryz.underlying67 rfl rfl) rfl ?_
      have hfin : Chg (fun b => b = g + 1) w5 (w5.setRow (g + 1) (ansC an.code st0 nilS nilS).toArray) := (Chg.refl (fun b => b = g + 1) w5).setRow (fun _ => rfl) _
      rw [hrunH.out, hrH.out]
      refine ⟨⟨_, rfl, ?_, entF_0 (ansAt_of w0 an.code st0) rfl⟩, ?_⟩
      · show AnsAt _ _ an.told
        rw [htold.out]
        exact ansAt_of _ an.code st0
      exact ask_end hgH.out hBH.out ((hb2H.out.trans (hb4H.out.mono hb2H.out.size)).trans (hb5H.out.mono (Nat.le_trans hb2H.out.size hb4H.out.size))) hfin
#print axioms qdo_any
end Go.Proofs.YtolpcfhfcdkokaaGreatDoor
