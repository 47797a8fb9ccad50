/- Joined out of the texts PAsks. -/
import Derived.Test.YtolpcfhfcdkokaaGreatDoorM16
import Derived.Test.YtolpcfhfcdkokaaGreatDoorM28
import Derived.Test.YtolpcfhfcdkokaaGreatDoorM29
/-
  The tree in memory: what is asked of an inode.
-/
namespace Go.Proofs.YtolpcfhfcdkokaaGreatDoor
open Go.RowKit Go.Proofs

/-- What a call that answers leaves. -/
def AnsP (own : Nat → Option Role) (p mb : Nat) (r : PT × Ans) (w : World) (e : Ending) (w' : World) : Prop := (∃ v, e = .returned v ∧ AnsAt w' v r.2) ∧ PTurn own p mb r.1 w w'
theorem node_done {own : Nat → Option Role} {lay : Nat → NA} {p mb i : Nat} {T : PT} {n n' : PN} {w w1 : World} (h : PlainAt w own lay p mb T) (hT : T.Ok) (hg : getS i T.nodes = some n) (hN : PnAt w1 (lay i) n') (hC : Chg (Of own i) w w1) : PTurn own p mb (T.upd i n') w w1 :=
  PTurn.of (h.upd hT.ris hg hC (fun _ _ h => h) hN rfl (Ext.refl _ _) (fun b r e => Nat.lt_of_lt_of_le (h.lt b r e) hC.size) (h.owns _ (mem_of_getS hg))) (Ext.refl _ _) hC.of_of
theorem Chg.of_of_ne {own : Nat → Option Role} {i z : Nat} {w w1 : World} (_ : Chg (Of own i) w w1) (hz : own z = none) (h : Of own i z) : False := by
  rcases h with h | h | h | h <;> rw [hz] at h <;> cases h
theorem zAns_val {off : Nat} {u : Value} (h : zAns[off]? = some u) : (∃ k v, u = .int k v ∧ k = .i64) ∨ (∃ A n c, u = .slice A n c) ∨ ∃ b, u = .bool b := by
  have hm := List.mem_of_getElem? h
  simp only [zAns, List.mem_cons, List.not_mem_nil, or_false] at hm
  rcases hm with rfl | rfl | rfl | rfl | rfl | rfl | rfl | rfl | rfl | rfl
  · exact .inl ⟨_, _, rfl, rfl⟩
  · exact .inl ⟨_, _, rfl, rfl⟩
  · exact .inl ⟨_, _, rfl, rfl⟩
  · exact .inl ⟨_, _, rfl, rfl⟩
  · exact .inl ⟨_, _, rfl, rfl⟩
  · exact .inl ⟨_, _, rfl, rfl⟩
  · exact .inl ⟨_, _, rfl, rfl⟩
  · exact .inr (.inl ⟨_, _, _, rfl⟩)
  · exact .inr (.inl ⟨_, _, _, rfl⟩)
  · exact .inr (.inr ⟨_, rfl⟩)
/-- What is read stays where a row that it does not lie in is written over. -/
theorem Sees.row {w : World} {B size n z : Nat} {A : Option Addr} {xs : List Value} (h : Sees w B size A n xs) (hs : 0 < size) {t : TypeId} {cs : List Value} (hz : Blk w z t cs) (hd : ∀ u, xs[0]? = some u → ∀ off : Nat, cs[off]? ≠ some u) (ds : Array Value) : Sees (w.setRow z ds) B size A n xs := by
  refine ⟨h.len, fun hn => ?_⟩
  obtain ⟨b, off, e, hb, hc⟩ := h.at_ hn
  have hne : b ≠ z := fun e => by
    subst e
    have hl : 0 < xs.length := by rw [h.len]; exact Nat.mul_pos hn hs
    have h0 : xs[0]? = some xs[0] := List.getElem?_eq_getElem hl
    have h1 := hc 0 _ h0
    rw [Nat.add_zero, hz.cell off] at h1
    exact hd _ h0 off h1
  refine ⟨b, off, e, hb, fun j u hu => ?_⟩
  rw [← hc j u hu]
  exact ((Chg.refl (fun b => b = z) w).setRow (fun _ => rfl) ds).cell (p := ⟨b, off + j, none⟩) (World.block_lt_of_cell? _ _ (hc j u hu)) hne
theorem bvs_0 {d : List UInt8} {u : Value} (h : (bvs d)[0]? = some u) : ∃ x, u = .int .u8 x := by
  cases d with
  | nil => simp [bvs] at h
  | cons x r => simp [bvs] at h; exact ⟨_, h.symm⟩
theorem ent_0 {l : List (ByteArray × Nat × Int)} {u : Value} (h : (l.flatMap entC)[0]? = some u) : ∃ x, u = .string x := by
  cases l with
  | nil => simp at h
  | cons x r => simp [entC] at h; exact ⟨_, h.symm⟩
theorem AnsAt.row {w : World} {v : Value} {a : Ans} (h : AnsAt w v a) {z : Nat} (hz : Blk w z 67 zAns) (ds : Array Value) : AnsAt (w.setRow z ds) v a := by
  obtain ⟨dA, dc, eA, ec, h1, h2, h3⟩ := h
  have hC := (Chg.refl (fun b => b = z) w).setRow (fun _ => rfl) ds
  refine ⟨dA, dc, eA, ec, h1, (h2.row (by decide) hz (fun u hu off e => ?_) ds).more hC.size, (h3.row (by decide) hz (fun u hu off e => ?_) ds).more hC.size⟩
  · obtain ⟨x, rfl⟩ := bvs_0 hu
    rcases zAns_val e with ⟨_, _, e, e2⟩ | ⟨_, _, _, e⟩ | ⟨_, e⟩
    · cases e; cases e2
    · cases e
    · cases e
  · obtain ⟨x, rfl⟩ := ent_0 hu
    rcases zAns_val e with ⟨_, _, e, _⟩ | ⟨_, _, _, e⟩ | ⟨_, e⟩ <;> cases e
theorem ansAt_of (w : World) (c : Nat) (s : St) : AnsAt w (.agg (ansC c s nilS nilS).toArray) ⟨c, s, [], []⟩ := ansAt_plain w ⟨c, s, [], []⟩ rfl rfl
set_option maxHeartbeats 6400000 in
set_option maxRecDepth 100000 in
theorem pasks_any (own : Nat → Option Role) (lay : Nat → NA) (p mb i : Nat) (T : PT) (n : PN) (o : Opn) (A : Option Addr) (c : Nat) (w : World) (h : PlainAt w own lay p mb T) (hT : T.Wf) (hg : getS i T.nodes = some n)
    (hs : Sees w w.heap.size 1 A o.data.length (bvs o.data)) (hc : o.data.length ≤ c) (hlm : o.data.length < 1000000000000) (hoff : o.off ≤ 9223372036854775807 ∧ -9223372036854775808 ≤ o.off) (hlen : o.len ≤ 9223372036854775807 ∧ -9223372036854775808 ≤ o.len) :
    Calls Tryz.prog 73 #[.pointer (some ⟨p, 0, none⟩), opV o A c, .int .i64 (i : Int)] w (AnsP own p mb (T.asks o i) w) := by
  have hu := PT.asks.eq_1 T o i
  have hio := (hT.ok.get hg).2
  have hi5 := hT.ok.ino
  have hog : own (w.heap.size + 1) = none := h.free (by omega)
  unfold opV opC
  go_enter Tryz.func73, Tryz.ntmps73
  go_upto_region 1 with (fail)
  have hO0 : Blk ((w.alloc (.cells (opC o A c).toArray 70)).alloc (.cells zAns.toArray 67)) w.heap.size 70 (opC o A c) := (Blk.new w _ _).alloc _
  have hZ0 : Blk ((w.alloc (.cells (opC o A c).toArray 70)).alloc (.cells zAns.toArray 67)) (w.heap.size + 1) 67 zAns := by
    have := Blk.new (w.alloc (.cells (opC o A c).toArray 70)) 67 zAns
    simpa using this
  have hB0 : Below w.heap.size w ((w.alloc (.cells (opC o A c).toArray 70)).alloc (.cells zAns.toArray 67)) := ((Below.refl _ _).alloc (Nat.le_refl _) _).alloc (by simp) _
  have hz0 : ((w.alloc (.cells (opC o A c).toArray 70)).alloc (.cells zAns.toArray 67)).heap.size = w.heap.size + 2 := by simp
  change Code.wp _ _ _ _ ((w.alloc (.cells (opC o A c).toArray 70)).alloc (.cells zAns.toArray 67))
  generalize (w.alloc (.cells (opC o A c).toArray 70)).alloc (.cells zAns.toArray 67) = w0 at *
  have hP0 := h.fresh hB0
  have hs0 := (hs.below hB0).more hB0.size
  obtain ⟨g, hgE⟩ : ∃ g, w.heap.size = g := ⟨_, rfl⟩
  rw [hgE] at hO0 hZ0 hB0 hz0 hog
  simp only [hgE]
  have hgH := Lib.hid hgE
  have hBH := Lib.hid hB0
  have hozH := Lib.hid hog
  have hP0H := Lib.hid hP0
  have hs0H := Lib.hid hs0
  have hgetH := Lib.hid hg
  have hTH := Lib.hid hT
  have hcH := Lib.hid hc
  have hZH := Lib.hid hZ0
  clear hgE hB0 hog hs0 hs hc h
  have lkI := hP0.lookI hg (by omega)
  have x2 := hP0.c2
  have b0 := (hP0.get hg).blk.cell 0
  simp only [cells7, List.getElem?_cons_zero] at b0
  have y0 := hO0.cell 0
  have y3 := hO0.cell 3
  have y4 := hO0.cell 4
  have y5 := hO0.cell 5
  simp only [opC, List.getElem?_cons_succ, List.getElem?_cons_zero] at y0 y3 y4 y5
  clear hO0 hP0 hT hg
  by_cases k10 : o.kind = 10
  · rw [if_pos k10] at hu
    have huH := Lib.hid hu
    have t10 : decide (o.kind = 10) = true := by simpa using k10
    have s10 : (o.kind == 10) = true := by simpa using k10
    have hcs := pstat_any own lay p mb i T n w0 hP0H.out hTH.out.ok hgetH.out
    obtain ⟨st, hst⟩ : ∃ st, T.stat i = st := ⟨_, rfl⟩
    rw [hst] at hcs
    unfold stV stC at hcs
    have hstH := Lib.hid hst
    clear hu hst k10
    go_wp2_with (first
      | (go_at_call 99; refine hcs.mono ?_; rintro e w1 ⟨rfl, hb1⟩; have hZ1 := hZ0.fresh hb1; have hb1H := Lib.hid hb1; clear hb1)
      | (refine wpList_store_row rfl 67 (.tmp 6) (.tmp 21) rfl (g + 1) (ansC 0 st nilS nilS).toArray rfl (by rfl) 67 _ hZ1 rfl rfl (one10s _ _ _ _ _ _ _ _) ?_))
    have hrow := setRow_heap w1 (g + 1) _ (ansC 0 st nilS nilS).toArray _ _ hZ1
    refine bodyPost_ret (results_cell_row rfl _ _ (g + 1) 67 (ansC 0 st nilS nilS).toArray (0, 0) _ rfl hrow Tryz.underlying67 rfl rfl) rfl ?_
    have hfin : Chg (fun b => b = g + 1) w1 (w1.setRow (g + 1) (ansC 0 st nilS nilS).toArray) := (Chg.refl (fun b => b = g + 1) w1).setRow (fun _ => rfl) _
    rw [huH.out]
    rw [hstH.out]
    refine ⟨⟨_, rfl, ansAt_of _ 0 st⟩, ?_⟩
    exact (PTurn.same hP0H.out hb1H.out).after (by rw [hgH.out]; exact hBH.out) (by rw [hgH.out]; omega) (by omega) hozH.out hfin
  have s10 : (o.kind == 10) = false := by simpa using k10
  rw [if_neg k10] at hu
  by_cases k11 : o.kind = 11
  · rw [if_pos k11] at hu
    have huH := Lib.hid hu
    have s11 : (o.kind == 11) = true := by simpa using k11
    have hcs := plist_any own lay p mb i T n w0 hP0H.out hTH.out hgetH.out
    obtain ⟨an, han⟩ : ∃ an, T.list i = an := ⟨_, rfl⟩
    rw [han] at hcs
    have hanH := Lib.hid han
    clear hu han k10 k11
    go_wp2_with (first
      | (go_at_call 105; refine hcs.mono ?_; rintro e w1 ⟨⟨v, rfl, hA, hF⟩, hb1⟩; have hFH := Lib.hid hF; clear hF; have hA1 := Lib.hid hA; obtain ⟨dA, dc, eA, ec, rfl, -, -⟩ := hA; have hZ1 := hZ0.fresh hb1; have hb1H := Lib.hid hb1; clear hb1)
      | (refine wpList_store_row rfl 67 (.tmp 6) (.tmp 26) rfl (g + 1) (ansC an.code an.stat (.slice dA an.data.length dc) (.slice eA an.ents.length ec)).toArray rfl (by rfl) 67 _ hZ1 rfl rfl (one10s _ _ _ _ _ _ _ _) ?_))
    have hrow := setRow_heap w1 (g + 1) _ (ansC an.code an.stat (.slice dA an.data.length dc) (.slice eA an.ents.length ec)).toArray _ _ hZ1
    refine bodyPost_ret (results_cell_row rfl _ _ (g + 1) 67 (ansC an.code an.stat (.slice dA an.data.length dc) (.slice eA an.ents.length ec)).toArray (0, 0) _ rfl hrow Tryz.underlying67 rfl rfl) rfl ?_
    have hfin : Chg (fun b => b = g + 1) w1 (w1.setRow (g + 1) (ansC an.code an.stat (.slice dA an.data.length dc) (.slice eA an.ents.length ec)).toArray) := (Chg.refl (fun b => b = g + 1) w1).setRow (fun _ => rfl) _
    rw [huH.out]
    rw [hanH.out]
    refine ⟨⟨_, rfl, hA1.out.row hZ1 _⟩, ?_⟩
    exact (PTurn.same hP0H.out hb1H.out).after (by rw [hgH.out]; exact hBH.out) (by rw [hgH.out]; omega) (by omega) hozH.out hfin
  have s11 : (o.kind == 11) = false := by simpa using k11
  rw [if_neg k11, isDir_of hgetH.out] at hu
  cases hd : n.dir with
  | true =>
    rw [hd, if_pos rfl] at hu
    have huH := Lib.hid hu
    have sd : (n.kind == 2) = true := by unfold PN.kind; rw [hd]; rfl
    clear hu k10 k11
    go_wp2_with (first
      | (refine wpList_store_row rfl 67 (.tmp 6) (.tmp 32) rfl (g + 1) (ansC 102 st0 nilS nilS).toArray rfl (by rfl) 67 _ hZ0 rfl rfl (one10s _ _ _ _ _ _ _ _) ?_))
    have hrow := setRow_heap w0 (g + 1) _ (ansC 102 st0 nilS nilS).toArray _ _ hZ0
    refine bodyPost_ret (results_cell_row rfl _ _ (g + 1) 67 (ansC 102 st0 nilS nilS).toArray (0, 0) _ rfl hrow Tryz.underlying67 rfl rfl) rfl ?_
    have hfin : Chg (fun b => b = g + 1) w0 (w0.setRow (g + 1) (ansC 102 st0 nilS nilS).toArray) := (Chg.refl (fun b => b = g + 1) w0).setRow (fun _ => rfl) _
    rw [huH.out]
    refine ⟨⟨_, rfl, ansAt_of _ 102 st0⟩, ?_⟩
    exact (PTurn.same hP0H.out (Below.refl _ _)).after (by rw [hgH.out]; exact hBH.out) (by rw [hgH.out]; omega) (by omega) hozH.out hfin
  | false =>
    rw [hd, if_neg (by simp)] at hu
    have sd : (n.kind == 2) = false := by unfold PN.kind; rw [hd]; rfl
    have hfile := Lib.hid hd
    obtain ⟨db, hdb⟩ := (hP0H.out.get hgetH.out).files hd
    have hdbH := Lib.hid hdb
    clear hd hdb
    by_cases k7 : o.kind = 7
    · rw [if_pos k7] at hu
      have huH := Lib.hid hu
      have s7 : (o.kind == 7) = true := by simpa using k7
      have hcs := pwrite_any own lay p mb i T n o.off A o.data.length c o.data w0 hP0H.out hTH.out.ok hgetH.out hfile.out hs0H.out rfl hcH.out hlm hoff
      obtain ⟨r, hr⟩ : ∃ r, T.write i o.off o.data = r := ⟨_, rfl⟩
      rw [hr] at hcs
      have hrH := Lib.hid hr
      obtain ⟨T1, cd⟩ := r
      simp only at hcs
      unfold ptrV natV at hcs
      clear hu hr k7 k10 k11
      go_wp2_with (first
        | (go_at_call 106; refine hcs.mono ?_; rintro e w1 ⟨rfl, hT1⟩; have hT1H := Lib.hid hT1; obtain ⟨own1, lay1, hP1, hE1, hC1⟩ := hT1; have hZ1 := hZ0.chg hC1 (fun h => h hozH.out); clear hP1 hE1 hC1)
        | (refine wpList_store_row rfl 67 (.tmp 6) (.tmp 44) rfl (g + 1) (ansC cd st0 nilS nilS).toArray rfl (by rfl) 67 _ hZ1 rfl rfl (one10s _ _ _ _ _ _ _ _) ?_))
      have hrow := setRow_heap w1 (g + 1) _ (ansC cd st0 nilS nilS).toArray _ _ hZ1
      refine bodyPost_ret (results_cell_row rfl _ _ (g + 1) 67 (ansC cd st0 nilS nilS).toArray (0, 0) _ rfl hrow Tryz.underlying67 rfl rfl) rfl ?_
      have hfin : Chg (fun b => b = g + 1) w1 (w1.setRow (g + 1) (ansC cd st0 nilS nilS).toArray) := (Chg.refl (fun b => b = g + 1) w1).setRow (fun _ => rfl) _
      rw [huH.out]
      rw [hrH.out]
      refine ⟨⟨_, rfl, ansAt_of _ cd st0⟩, ?_⟩
      exact hT1H.out.after (by rw [hgH.out]; exact hBH.out) (by rw [hgH.out]; omega) (by omega) hozH.out hfin
    have s7 : (o.kind == 7) = false := by simpa using k7
    rw [if_neg k7] at hu
    by_cases k8 : o.kind = 8
    · rw [if_pos k8] at hu
      have huH := Lib.hid hu
      have s8 : (o.kind == 8) = true := by simpa using k8
      by_cases hbad : o.off < 0 ∨ 136704 < o.off
      · have hr : T.trunc i o.off = (T, 101) := by unfold PT.trunc; rw [if_pos hbad]
        have hrH := Lib.hid hr
        have hcs := ptrunc_bad (lay i) o.off w0 hbad ⟨hoff.2, hoff.1⟩
        unfold ptrV at hcs
        clear hu hr k7 k8 k10 k11 hbad
        go_wp2_with (first
          | (go_at_call 107; refine hcs.mono ?_; rintro e w1 ⟨rfl, rfl⟩)
          | (refine wpList_store_row rfl 67 (.tmp 6) (.tmp 51) rfl (g + 1) (ansC 101 st0 nilS nilS).toArray rfl (by rfl) 67 _ hZ0 rfl rfl (one10s _ _ _ _ _ _ _ _) ?_))
        have hrow := setRow_heap w0 (g + 1) _ (ansC 101 st0 nilS nilS).toArray _ _ hZ0
        refine bodyPost_ret (results_cell_row rfl _ _ (g + 1) 67 (ansC 101 st0 nilS nilS).toArray (0, 0) _ rfl hrow Tryz.underlying67 rfl rfl) rfl ?_
        have hfin : Chg (fun b => b = g + 1) w0 (w0.setRow (g + 1) (ansC 101 st0 nilS nilS).toArray) := (Chg.refl (fun b => b = g + 1) w0).setRow (fun _ => rfl) _
        rw [huH.out]
        rw [hrH.out]
        refine ⟨⟨_, rfl, ansAt_of _ 101 st0⟩, ?_⟩
        exact (PTurn.same hP0H.out (Below.refl _ _)).after (by rw [hgH.out]; exact hBH.out) (by rw [hgH.out]; omega) (by omega) hozH.out hfin
      · obtain ⟨of, hof⟩ : ∃ of : Nat, o.off = (of : Int) := ⟨o.off.toNat, by omega⟩
        have hr : T.trunc i o.off = (T.upd i (n.cut of), 0) := by
          unfold PT.trunc
          rw [if_neg hbad, node_of hgetH.out, hof, Int.toNat_natCast]
        have hrH := Lib.hid hr
        have hcs := ptrunc_ok own i (lay i) n db of w0 (hP0H.out.get hgetH.out) (hP0H.out.owns _ (mem_of_getS hgetH.out)) (hTH.out.ok.get hgetH.out).1 hdbH.out (by omega)
        unfold ptrV natV at hcs
        rw [hof] at y3
        clear hu hr k7 k8 k10 k11 hbad
        go_wp2_with (first
          | (go_at_call 107; refine hcs.mono ?_; rintro e w1 ⟨rfl, hN1, hC1⟩; have hT1H := Lib.hid (node_done hP0H.out hTH.out.ok hgetH.out hN1 hC1); have hZ1 := hZ0.chg hC1 (fun h => hC1.of_of_ne hozH.out h); clear hN1 hC1)
          | (refine wpList_store_row rfl 67 (.tmp 6) (.tmp 51) rfl (g + 1) (ansC 0 st0 nilS nilS).toArray rfl (by rfl) 67 _ hZ1 rfl rfl (one10s _ _ _ _ _ _ _ _) ?_))
        have hrow := setRow_heap w1 (g + 1) _ (ansC 0 st0 nilS nilS).toArray _ _ hZ1
        refine bodyPost_ret (results_cell_row rfl _ _ (g + 1) 67 (ansC 0 st0 nilS nilS).toArray (0, 0) _ rfl hrow Tryz.underlying67 rfl rfl) rfl ?_
        have hfin : Chg (fun b => b = g + 1) w1 (w1.setRow (g + 1) (ansC 0 st0 nilS nilS).toArray) := (Chg.refl (fun b => b = g + 1) w1).setRow (fun _ => rfl) _
        rw [huH.out]
        rw [hrH.out]
        refine ⟨⟨_, rfl, ansAt_of _ 0 st0⟩, ?_⟩
        exact hT1H.out.after (by rw [hgH.out]; exact hBH.out) (by rw [hgH.out]; omega) (by omega) hozH.out hfin
    have s8 : (o.kind == 8) = false := by simpa using k8
    rw [if_neg k8] at hu
    by_cases k9 : o.kind = 9
    · rw [if_pos k9, node_of hgetH.out] at hu
      have huH := Lib.hid hu
      have s9 : (o.kind == 9) = true := by simpa using k9
      have hcs := pread_any (lay i) n db o.off o.len w0 (hP0H.out.get hgetH.out) (hTH.out.ok.get hgetH.out).1 hdbH.out hoff hlen
      obtain ⟨an, han⟩ : ∃ an, n.read o.off o.len = an := ⟨_, rfl⟩
      rw [han] at hcs
      unfold ptrV at hcs
      have hanH := Lib.hid han
      clear hu han k7 k8 k9 k10 k11
      go_wp2_with (first
        | (go_at_call 108; refine hcs.mono ?_; rintro e w1 ⟨⟨v, rfl, hA⟩, hb1⟩; have hA1 := Lib.hid hA; obtain ⟨dA, dc, eA, ec, rfl, -, -⟩ := hA; have hZ1 := hZ0.fresh hb1; have hb1H := Lib.hid hb1; clear hb1)
        | (refine wpList_store_row rfl 67 (.tmp 6) (.tmp 59) rfl (g + 1) (ansC an.code an.stat (.slice dA an.data.length dc) (.slice eA an.ents.length ec)).toArray rfl (by rfl) 67 _ hZ1 rfl rfl (one10s _ _ _ _ _ _ _ _) ?_))
      have hrow := setRow_heap w1 (g + 1) _ (ansC an.code an.stat (.slice dA an.data.length dc) (.slice eA an.ents.length ec)).toArray _ _ hZ1
      refine bodyPost_ret (results_cell_row rfl _ _ (g + 1) 67 (ansC an.code an.stat (.slice dA an.data.length dc) (.slice eA an.ents.length ec)).toArray (0, 0) _ rfl hrow Tryz.underlying67 rfl rfl) rfl ?_
      have hfin : Chg (fun b => b = g + 1) w1 (w1.setRow (g + 1) (ansC an.code an.stat (.slice dA an.data.length dc) (.slice eA an.ents.length ec)).toArray) := (Chg.refl (fun b => b = g + 1) w1).setRow (fun _ => rfl) _
      rw [huH.out]
      rw [hanH.out]
      refine ⟨⟨_, rfl, hA1.out.row hZ1 _⟩, ?_⟩
      exact (PTurn.same hP0H.out hb1H.out).after (by rw [hgH.out]; exact hBH.out) (by rw [hgH.out]; omega) (by omega) hozH.out hfin
    have s9 : (o.kind == 9) = false := by simpa using k9
    rw [if_neg k9] at hu
    have huH := Lib.hid hu
    clear hu k7 k8 k9 k10 k11
    go_wp2_with (first
      | (refine wpList_store_row rfl 67 (.tmp 6) (.tmp 60) rfl (g + 1) (ansC 0 st0 nilS nilS).toArray rfl (by rfl) 67 _ hZ0 rfl rfl (one10s _ _ _ _ _ _ _ _) ?_))
    have hrow := setRow_heap w0 (g + 1) _ (ansC 0 st0 nilS nilS).toArray _ _ hZ0
    refine bodyPost_ret (results_cell_row rfl _ _ (g + 1) 67 (ansC 0 st0 nilS nilS).toArray (0, 0) _ rfl hrow Tryz.underlying67 rfl rfl) rfl ?_
    have hfin : Chg (fun b => b = g + 1) w0 (w0.setRow (g + 1) (ansC 0 st0 nilS nilS).toArray) := (Chg.refl (fun b => b = g + 1) w0).setRow (fun _ => rfl) _
    rw [huH.out]
    refine ⟨⟨_, rfl, ansAt_of _ 0 st0⟩, ?_⟩
    exact (PTurn.same hP0H.out (Below.refl _ _)).after (by rw [hgH.out]; exact hBH.out) (by rw [hgH.out]; omega) (by omega) hozH.out hfin
#print axioms pasks_any
end Go.Proofs.YtolpcfhfcdkokaaGreatDoor
