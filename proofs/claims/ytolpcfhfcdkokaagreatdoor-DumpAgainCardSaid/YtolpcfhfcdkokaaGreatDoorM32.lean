/- Joined out of the texts PDo. -/
import Derived.Test.YtolpcfhfcdkokaaGreatDoorM31
/-
  The tree in memory: an operation.
-/
namespace Go.Proofs.YtolpcfhfcdkokaaGreatDoor
open Go.RowKit Go.Proofs

theorem AnsAt.fresh {w w1 : World} {v : Value} {a : Ans} (h : AnsAt w v a) (hb : Below w.heap.size w w1) : AnsAt w1 v a := by
  obtain ⟨dA, dc, eA, ec, h1, h2, h3⟩ := h
  exact ⟨dA, dc, eA, ec, h1, (h2.below hb).more hb.size, (h3.below hb).more hb.size⟩
theorem nmAt_spl {w' : World} {x : ByteArray} {A : Option Addr} {c : Nat} (hx : x.size ≤ 100000000) (h1 : (spl x).1.length ≤ c) (h2 : c ≤ x.size + 1) (hs : Sees w' w'.heap.size 1 A (spl x).1.length (strs (spl x).1)) : NmAt w' w'.heap.size A c (spl x).1 :=
  ⟨hs, by by_cases hz : 400 < x.size; (rw [spl_long hz]; simp); omega, h1, fun y hy => chk_40 (spl_chk x y hy)⟩
theorem nmAt_nil (w : World) (B : Nat) : NmAt w B none 0 [] := ⟨Sees.nil, by simp, by simp, by simp⟩
theorem PTurn.then_ {own : Nat → Option Role} {p mb : Nat} {T' : PT} {w w1 w2 : World} (h : PTurn own p mb T' w w1) (hb : Below w1.heap.size w1 w2) : PTurn own p mb T' w w2 := by
  obtain ⟨own', lay', h1, h2, h3⟩ := h
  exact ⟨own', lay', h1.fresh hb, h2, h3.trans (Chg.of_fresh hb) (fun _ _ h => h) fun _ _ h => h⟩
def SplQ (_x : ByteArray) (l : List ByteArray) (e1 : Nat) (w : World) (e : Ending) (w' : World) : Prop :=
  (∃ A c, e = .returned (.tuple #[.slice A l.length c, .int .i64 (e1 : Int)]) ∧ NmAt w' w'.heap.size A c l) ∧ Below w.heap.size w w'
theorem splQ_of {x : ByteArray} {l : List ByteArray} {e1 : Nat} (hr : spl x = (l, e1)) (hx : x.size ≤ 100000000) {w w' : World} {e : Ending} (h : SplP x w e w') : SplQ x l e1 w e w' := by
  obtain ⟨⟨A, c, h1, h2, h3, h4⟩, hb⟩ := h
  have h5 := nmAt_spl hx h2 h3 h4
  rw [hr] at h1 h5
  exact ⟨⟨A, c, h1, h5⟩, hb⟩
theorem psplit_q (x : ByteArray) (l : List ByteArray) (e1 : Nat) (m0 : Int) (w : World) (hr : spl x = (l, e1)) (hx : x.size ≤ 100000000) (hm : w.cell? ⟨0, 0, none⟩ = some (.int .i64 m0)) :
    Calls Tryz.prog 42 #[.string x] w (SplQ x l e1 w) := (psplit_any x m0 w (by omega) hm).mono fun _ _ h => splQ_of hr hx h
/-- What an operation in memory is like. -/
structure OpAt (w : World) (B : Nat) (o : Opn) (A : Option Addr) (c : Nat) : Prop where
  sees : Sees w B 1 A o.data.length (bvs o.data)
  cap : o.data.length ≤ c
  len : o.data.length < 1000000000000
  off : o.off ≤ 9223372036854775807 ∧ -9223372036854775808 ≤ o.off
  most : o.len ≤ 9223372036854775807 ∧ -9223372036854775808 ≤ o.len
  path : o.path.size ≤ 100000000
  dst : o.dst.size ≤ 100000000
set_option maxHeartbeats 6400000 in
set_option maxRecDepth 100000 in
theorem pdo_any (own : Nat → Option Role) (lay : Nat → NA) (p mb : Nat) (T : PT) (o : Opn) (A : Option Addr) (c : Nat) (m0 : Int) (w : World) (h : PlainAt w own lay p mb T) (hT : T.Wf) (hop : OpAt w w.heap.size o A c) (hm : w.cell? ⟨0, 0, none⟩ = some (.int .i64 m0)) :
    Calls Tryz.prog 24 #[.pointer (some ⟨p, 0, none⟩), opV o A c] w (AnsP own p mb (T.run o) w) := by
  have hu := PT.run.eq_1 T o
  have hog : own (w.heap.size + 1) = none := h.free (by omega)
  unfold opV
  go_enter Tryz.func24, Tryz.ntmps24
  go_upto_region 1 with (fail)
  have hO0 : Blk ((w.alloc (.cells (opC o A c).toArray 70)).alloc (.cells zAns.toArray 67)) w.heap.size 70 (opC o A c) := (Blk.new w _ _).alloc _
  have hZ0 : Blk ((w.alloc (.cells (opC o A c).toArray 70)).alloc (.cells zAns.toArray 67)) (w.heap.size + 1) 67 zAns := by
    have := Blk.new (w.alloc (.cells (opC o A c).toArray 70)) 67 zAns
    simpa using this
  have hB0 : Below w.heap.size w ((w.alloc (.cells (opC o A c).toArray 70)).alloc (.cells zAns.toArray 67)) := ((Below.refl _ _).alloc (Nat.le_refl _) _).alloc (by simp) _
  have hz0 : ((w.alloc (.cells (opC o A c).toArray 70)).alloc (.cells zAns.toArray 67)).heap.size = w.heap.size + 2 := by simp
  change Code.wp _ _ _ _ ((w.alloc (.cells (opC o A c).toArray 70)).alloc (.cells zAns.toArray 67))
  generalize (w.alloc (.cells (opC o A c).toArray 70)).alloc (.cells zAns.toArray 67) = w0 at *
  have hP0 := h.fresh hB0
  have hm00 : w0.cell? ⟨0, 0, none⟩ = some (.int .i64 m0) := (hB0.cell (p := ⟨0, 0, none⟩) (World.block_lt_of_cell? _ _ hm)).trans hm
  have hs0 := (hop.sees.below hB0).more hB0.size
  obtain ⟨g, hgE⟩ : ∃ g, w.heap.size = g := ⟨_, rfl⟩
  rw [hgE] at hO0 hZ0 hB0 hz0 hog
  simp only [hgE]
  have hgH := Lib.hid hgE
  have hBH := Lib.hid hB0
  have hozH := Lib.hid hog
  have hP0H := Lib.hid hP0
  have hs0H := Lib.hid hs0
  have hTH := Lib.hid hT
  have hopH := Lib.hid hop
  have hmH := Lib.hid hm00
  have hOH := Lib.hid hO0
  clear hgE hB0 hog hs0 hop h hP0 hT hm hm00
  have yc := fun j => hO0.cell j
  have y0 := yc 0
  have y1 := yc 1
  have y2 := yc 2
  have y3 := yc 3
  have y4 := yc 4
  have y5 := yc 5
  have y6 := yc 6
  have y7 := yc 7
  simp only [opC, List.getElem?_cons_succ, List.getElem?_cons_zero] at y0 y1 y2 y3 y4 y5 y6 y7
  have hcf := fine_any o A c w0
  unfold opV opC at hcf
  clear hO0 yc
  unfold opC
  cases hf : o.fine with
  | false =>
    rw [hf, if_pos rfl] at hu
    rw [hf] at hcf
    have huH := Lib.hid hu
    clear hu hf
    go_wp2_with (first
      | (go_at_call 41; refine hcf.mono ?_; rintro e w1 ⟨rfl, hb1⟩; have hZ1 := hZ0.fresh hb1; have hb1H := Lib.hid hb1; clear hb1)
      | (refine wpList_store_row rfl 67 (.tmp 4) (.tmp 12) rfl (g + 1) (ansC 150 st0 nilS nilS).toArray rfl (by rfl) 67 _ hZ1 rfl rfl (one10s _ _ _ _ _ _ _ _) ?_))
    have hrow := setRow_heap w1 (g + 1) _ (ansC 150 st0 nilS nilS).toArray _ _ hZ1
    refine bodyPost_ret (results_cell_row rfl _ _ (g + 1) 67 (ansC 150 st0 nilS nilS).toArray (0, 0) _ rfl hrow Tryz.underlying67 rfl rfl) rfl ?_
    have hfin : Chg (fun b => b = g + 1) w1 (w1.setRow (g + 1) (ansC 150 st0 nilS nilS).toArray) := (Chg.refl (fun b => b = g + 1) w1).setRow (fun _ => rfl) _
    rw [huH.out]
    refine ⟨⟨_, rfl, ansAt_of _ 150 st0⟩, ?_⟩
    exact (PTurn.same hP0H.out hb1H.out).after (by rw [hgH.out]; exact hBH.out) (by rw [hgH.out]; omega) (by omega) hozH.out hfin
  | true =>
    rw [hf, if_neg (by simp)] at hu
    rw [hf] at hcf
    have hmade : 0 ≤ o.made ∧ o.made ≤ 1099511627776 := by
      unfold Opn.fine at hf
      have := of_decide_eq_true hf
      exact ⟨this.2.2.1, this.2.2.2.1⟩
    have hmadeH := Lib.hid hmade
    have huH := Lib.hid hu
    clear hu hf hmade
    go_upto_region 5 with (go_at_call 41; refine hcf.mono ?_; rintro e w1 ⟨rfl, hb1⟩)
    have hZ1 := Lib.hid (hZ0.fresh hb1)
    have hO1 := Lib.hid (hOH.out.fresh hb1)
    have hb1H := Lib.hid hb1
    have hm1 : w1.cell? ⟨0, 0, none⟩ = some (.int .i64 m0) := (hb1.cell (p := ⟨0, 0, none⟩) (World.block_lt_of_cell? _ _ hmH.out)).trans hmH.out
    have hm1H := Lib.hid hm1
    clear hb1 hm1 hcf y0 y1 y2 y3 y4 y5 y6 y7 hZ0
    have u0 : w1.cell? ⟨g, 0, none⟩ = some (.int .i64 o.kind) := hO1.out.cell 0
    have u1 : w1.cell? ⟨g, 1, none⟩ = some (.string o.path) := hO1.out.cell 1
    by_cases kA : o.kind = 12 ∨ o.kind = 14
    · have hrun : T.run o = ((T.does o [] []).1, (T.does o [] []).2.told) := by
        rw [huH.out]
        unfold Opn.code1 Opn.code2 Opn.from_ Opn.to_
        have nB : ¬ (o.kind = 3 ∨ o.kind = 6) := by omega
        simp only [if_pos kA, if_neg nB]
        rfl
      have hrunH := Lib.hid hrun
      have hn1H : Hid (NmAt w1 w1.heap.size none 0 []) := Lib.hid (nmAt_nil w1 _)
      have hn2H : Hid (NmAt w1 w1.heap.size none 0 []) := Lib.hid (nmAt_nil w1 _)
      have s3 : (o.kind == 3) = false := by simp; omega
      have s6 : (o.kind == 6) = false := by simp; omega
      have kAH := Lib.hid kA
      clear hrun kA
      by_cases k12 : o.kind = 12
      case' pos =>
        have s12 : (o.kind != 12) = false := by simp; omega
        clear k12
      case' neg =>
        have s12 : (o.kind != 12) = true := by simp; omega
        have s14 : (o.kind != 14) = false := by have := kAH.out; simp; omega
        clear k12
      all_goals
        go_upto_region 13 with (fail)
        clear s3 s6 s12
        clear u0 u1
        have hPX := hP0H.out.fresh hb1H.out
        have hsX := (hs0H.out.below hb1H.out).more hb1H.out.size
        have hcd := pdoes_any own lay p mb T o A c none 0 [] none 0 [] w1 hPX hTH.out hsX hopH.out.cap hopH.out.len hopH.out.off hopH.out.most hmadeH.out hn1H.out hn2H.out
        clear hPX hsX
        have vc := fun j => hO1.out.cell j
        have v0 := vc 0
        have v1 := vc 1
        have v2 := vc 2
        have v3 := vc 3
        have v4 := vc 4
        have v5 := vc 5
        have v6 := vc 6
        have v7 := vc 7
        simp only [opC, List.getElem?_cons_succ, List.getElem?_cons_zero] at v0 v1 v2 v3 v4 v5 v6 v7
        unfold opV opC at hcd
        obtain ⟨r, hr⟩ : ∃ r, T.does o [] [] = r := ⟨_, rfl⟩
        rw [hr] at hcd
        have hrH := Lib.hid hr
        obtain ⟨T1, an⟩ := r
        clear hr vc
        go_upto_region 14 with (first
          | (go_at_call 43; refine hcd.mono ?_; rintro e w4 ⟨⟨v, rfl, hA⟩, hT1⟩; have hA1 := Lib.hid hA; obtain ⟨dA, dc, eA, ec, rfl, -, -⟩ := hA; have hT1H := Lib.hid hT1; obtain ⟨own1, lay1, hP1, hE1, hC1⟩ := hT1; have hZ4 := Lib.hid (hZ1.out.chg hC1 (fun h => h hozH.out)); have hz4 := hC1.size; have hN4 := Blk.new w4 67 zAns; clear hP1 hE1 hC1)
          | (refine wpList_store_row rfl 67 (.tmp 8) (.tmp 53) rfl w4.heap.size (ansC an.code an.stat (.slice dA an.data.length dc) (.slice eA an.ents.length ec)).toArray rfl (by rfl) 67 _ hN4 rfl rfl (one10s _ _ _ _ _ _ _ _) ?_))
        have hQ5 := setRow_heap (w4.alloc (.cells zAns.toArray 67)) w4.heap.size _ (ansC an.code an.stat (.slice dA an.data.length dc) (.slice eA an.ents.length ec)).toArray _ _ hN4
        have hQ5 : Blk ((w4.alloc (.cells zAns.toArray 67)).setRow w4.heap.size (ansC an.code an.stat (.slice dA an.data.length dc) (.slice eA an.ents.length ec)).toArray) w4.heap.size 67 (ansC an.code an.stat (.slice dA an.data.length dc) (.slice eA an.ents.length ec)) := hQ5
        have hb5 : Below w4.heap.size w4 ((w4.alloc (.cells zAns.toArray 67)).setRow w4.heap.size (ansC an.code an.stat (.slice dA an.data.length dc) (.slice eA an.ents.length ec)).toArray) := ((Chg.refl (fun b => w4.heap.size ≤ b) w4).alloc _ |>.setRow (fun _ => Nat.le_refl _) _).below (Nat.le_refl _) fun b hb e => by omega
        have hZ5 := hZ4.out.fresh hb5
        have hA5 := Lib.hid (hA1.out.fresh hb5)
        have hb5H := Lib.hid hb5
        clear hN4 hb5 hZ4 hA1 v0 v1 v2 v3 v4 v5 v6 v7 hcd
        change Code.wp _ _ _ _ ((w4.alloc (.cells zAns.toArray 67)).setRow w4.heap.size (ansC an.code an.stat (.slice dA an.data.length dc) (.slice eA an.ents.length ec)).toArray)
        generalize (w4.alloc (.cells zAns.toArray 67)).setRow w4.heap.size (ansC an.code an.stat (.slice dA an.data.length dc) (.slice eA an.ents.length ec)).toArray = w5 at *
        have xc := fun j => hQ5.cell j
        have x0 := xc 0
        have x1 := xc 1
        have x2 := xc 2
        have x3 := xc 3
        have x4 := xc 4
        have x5 := xc 5
        have x6 := xc 6
        have x7 := xc 7
        have x8 := xc 8
        have x9 := xc 9
        simp only [ansC, List.getElem?_cons_succ, List.getElem?_cons_zero] at x0 x1 x2 x3 x4 x5 x6 x7 x8 x9
        clear xc hQ5
        by_cases hcd : an.code = 0
        · have hne : ((an.code : Int) != 0) = false := by simp; omega
          have htold : Hid (an.told = an) := Lib.hid (by unfold Ans.told; rw [if_pos hcd])
          clear hcd
          go_wp2_with (first
            | (refine wpList_store_row rfl 67 (.tmp 4) (.tmp 60) rfl (g + 1) (ansC an.code an.stat (.slice dA an.data.length dc) (.slice eA an.ents.length ec)).toArray rfl (by rfl) 67 _ hZ5 rfl rfl (one10s _ _ _ _ _ _ _ _) ?_))
          have hrow := setRow_heap w5 (g + 1) _ (ansC an.code an.stat (.slice dA an.data.length dc) (.slice eA an.ents.length ec)).toArray _ _ hZ5
          refine bodyPost_ret (results_cell_row rfl _ _ (g + 1) 67 (ansC an.code an.stat (.slice dA an.data.length dc) (.slice eA an.ents.length ec)).toArray (0, 0) _ rfl hrow Tryz.underlying67 rfl rfl) rfl ?_
          have hfin : Chg (fun b => b = g + 1) w5 (w5.setRow (g + 1) (ansC an.code an.stat (.slice dA an.data.length dc) (.slice eA an.ents.length ec)).toArray) := (Chg.refl (fun b => b = g + 1) w5).setRow (fun _ => rfl) _
          rw [hrunH.out, hrH.out]
          refine ⟨⟨_, rfl, ?_⟩, ?_⟩
          · show AnsAt _ _ an.told
            rw [htold.out]
            exact hA5.out.row hZ5 _
          exact ((PTurn.fst (Ext.refl _ _) (Chg.of_fresh hb1H.out) hT1H.out).then_ hb5H.out).after (by rw [hgH.out]; exact hBH.out) (by rw [hgH.out]; omega) (by omega) hozH.out hfin
        · have hne : ((an.code : Int) != 0) = true := by simp; omega
          have htold : Hid (an.told = .err an.code) := Lib.hid (by unfold Ans.told; rw [if_neg hcd])
          clear hcd
          go_wp2_with (first
            | (refine wpList_store_row rfl 67 (.tmp 4) (.tmp 59) rfl (g + 1) (ansC an.code st0 nilS nilS).toArray rfl (by rfl) 67 _ hZ5 rfl rfl (one10s _ _ _ _ _ _ _ _) ?_))
          have hrow := setRow_heap w5 (g + 1) _ (ansC an.code st0 nilS nilS).toArray _ _ hZ5
          refine bodyPost_ret (results_cell_row rfl _ _ (g + 1) 67 (ansC an.code st0 nilS nilS).toArray (0, 0) _ rfl hrow Tryz.underlying67 rfl rfl) rfl ?_
          have hfin : Chg (fun b => b = g + 1) w5 (w5.setRow (g + 1) (ansC an.code st0 nilS nilS).toArray) := (Chg.refl (fun b => b = g + 1) w5).setRow (fun _ => rfl) _
          rw [hrunH.out, hrH.out]
          refine ⟨⟨_, rfl, ?_⟩, ?_⟩
          · show AnsAt _ _ an.told
            rw [htold.out]
            exact ansAt_of _ an.code st0
          exact ((PTurn.fst (Ext.refl _ _) (Chg.of_fresh hb1H.out) hT1H.out).then_ hb5H.out).after (by rw [hgH.out]; exact hBH.out) (by rw [hgH.out]; omega) (by omega) hozH.out hfin
    · have hk1 : o.code1 = (spl o.path).2 ∧ o.from_ = (spl o.path).1 := by unfold Opn.code1 Opn.from_; rw [if_neg kA, if_neg kA]; exact ⟨rfl, rfl⟩
      have hu2 := huH.out
      rw [hk1.1, hk1.2] at hu2
      obtain ⟨r, hr⟩ : ∃ r, spl o.path = r := ⟨_, rfl⟩
      obtain ⟨l, e1⟩ := r
      rw [hr] at hu2
      simp only at hu2
      have hcs := psplit_q o.path l e1 m0 w1 hr hopH.out.path hm1H.out
      have hu2H := Lib.hid hu2
      have s12 : (o.kind != 12) = true := by simp; omega
      have s14 : (o.kind != 14) = true := by simp; omega
      clear hu2 hk1 hr huH kA
      go_upto_region 7 with (go_at_call 42; refine hcs.mono ?_; rintro e w2 ⟨⟨A1, c1, rfl, hn1⟩, hb2⟩)
      have hZ2 := hZ1.out.fresh hb2
      have hO2 := Lib.hid (hO1.out.fresh hb2)
      have hb2H := Lib.hid (hb1H.out.trans (hb2.mono hb1H.out.size))
      have hm2H := Lib.hid ((hb2.cell (p := ⟨0, 0, none⟩) (World.block_lt_of_cell? _ _ hm1H.out)).trans hm1H.out)
      have hn1H := Lib.hid hn1
      clear hn1 hb2 hcs u0 u1 s12 s14
      by_cases he1 : e1 ≠ 0
      · have hu3 := hu2H.out
        rw [if_pos he1] at hu3
        have hu3H := Lib.hid hu3
        have hne1 : ((e1 : Int) != 0) = true := by simp; omega
        clear hu3 he1
        go_wp2_with (first
          | (refine wpList_store_row rfl 67 (.tmp 4) (.tmp 30) rfl (g + 1) (ansC e1 st0 nilS nilS).toArray rfl (by rfl) 67 _ hZ2 rfl rfl (one10s _ _ _ _ _ _ _ _) ?_))
        have hrow := setRow_heap w2 (g + 1) _ (ansC e1 st0 nilS nilS).toArray _ _ hZ2
        refine bodyPost_ret (results_cell_row rfl _ _ (g + 1) 67 (ansC e1 st0 nilS nilS).toArray (0, 0) _ rfl hrow Tryz.underlying67 rfl rfl) rfl ?_
        have hfin : Chg (fun b => b = g + 1) w2 (w2.setRow (g + 1) (ansC e1 st0 nilS nilS).toArray) := (Chg.refl (fun b => b = g + 1) w2).setRow (fun _ => rfl) _
        rw [hu3H.out]
        refine ⟨⟨_, rfl, ansAt_of _ e1 st0⟩, ?_⟩
        exact (PTurn.same hP0H.out hb2H.out).after (by rw [hgH.out]; exact hBH.out) (by rw [hgH.out]; omega) (by omega) hozH.out hfin
      · have he1 : e1 = 0 := by omega
        subst he1
        have hu3 := hu2H.out
        rw [if_neg (by simp)] at hu3
        have hu3H := Lib.hid hu3
        clear hu3
        go_upto_region 9 with (fail)
        have u0 : w2.cell? ⟨g, 0, none⟩ = some (.int .i64 o.kind) := hO2.out.cell 0
        have u2 : w2.cell? ⟨g, 2, none⟩ = some (.string o.dst) := hO2.out.cell 2
        by_cases kB : o.kind = 3 ∨ o.kind = 6
        · have hk1 : o.code2 = (spl o.dst).2 ∧ o.to_ = (spl o.dst).1 := by unfold Opn.code2 Opn.to_; rw [if_pos kB, if_pos kB]; exact ⟨rfl, rfl⟩
          have hu4 := hu3H.out
          rw [hk1.1, hk1.2] at hu4
          obtain ⟨r, hr⟩ : ∃ r, spl o.dst = r := ⟨_, rfl⟩
          obtain ⟨m, e2⟩ := r
          rw [hr] at hu4
          simp only at hu4
          have hcs := psplit_q o.dst m e2 m0 w2 hr hopH.out.dst hm2H.out
          have hu4H := Lib.hid hu4
          have kBH := Lib.hid kB
          clear hu4 hk1 hr hu3H hu2H kB
          have hZ2H := Lib.hid hZ2
          clear hZ2
          by_cases k3 : o.kind = 3
          case' pos =>
            have s3 : (o.kind == 3) = true := by simp; omega
            clear k3
          case' neg =>
            have s3 : (o.kind == 3) = false := by simp; omega
            have s6 : (o.kind == 6) = true := by have := kBH.out; simp; omega
            clear k3
          all_goals
            go_upto_region 11 with (go_at_call 42; refine hcs.mono ?_; rintro e w3 ⟨⟨A2, c2, rfl, hn2⟩, hb3⟩)
            have hZ3 := hZ2H.out.fresh hb3
            have hO3 := Lib.hid (hO2.out.fresh hb3)
            have hb3H := Lib.hid (hb2H.out.trans (hb3.mono hb2H.out.size))
            have hn2H := Lib.hid hn2
            have hn3H := Lib.hid (hn1H.out.fresh hb3)
            clear hn2 hb3 hcs u0 u2 s3
            by_cases he2 : e2 ≠ 0
            · have hu5 := hu4H.out
              rw [if_pos he2] at hu5
              have hu5H := Lib.hid hu5
              have hne1 : ((e2 : Int) != 0) = true := by simp; omega
              clear hu5 he2
              go_wp2_with (first
                | (refine wpList_store_row rfl 67 (.tmp 4) (.tmp 48) rfl (g + 1) (ansC e2 st0 nilS nilS).toArray rfl (by rfl) 67 _ hZ3 rfl rfl (one10s _ _ _ _ _ _ _ _) ?_))
              have hrow := setRow_heap w3 (g + 1) _ (ansC e2 st0 nilS nilS).toArray _ _ hZ3
              refine bodyPost_ret (results_cell_row rfl _ _ (g + 1) 67 (ansC e2 st0 nilS nilS).toArray (0, 0) _ rfl hrow Tryz.underlying67 rfl rfl) rfl ?_
              have hfin : Chg (fun b => b = g + 1) w3 (w3.setRow (g + 1) (ansC e2 st0 nilS nilS).toArray) := (Chg.refl (fun b => b = g + 1) w3).setRow (fun _ => rfl) _
              rw [hu5H.out]
              refine ⟨⟨_, rfl, ansAt_of _ e2 st0⟩, ?_⟩
              exact (PTurn.same hP0H.out hb3H.out).after (by rw [hgH.out]; exact hBH.out) (by rw [hgH.out]; omega) (by omega) hozH.out hfin
            · have he2 : e2 = 0 := by omega
              subst he2
              have hrun := hu4H.out
              rw [if_neg (by simp)] at hrun
              have hrunH := Lib.hid hrun
              have hZ3H := Lib.hid hZ3
              clear hrun hZ3
              go_upto_region 13 with (fail)
              have hPX := hP0H.out.fresh hb3H.out
              have hsX := (hs0H.out.below hb3H.out).more hb3H.out.size
              have hcd := pdoes_any own lay p mb T o A c A1 c1 l A2 c2 m w3 hPX hTH.out hsX hopH.out.cap hopH.out.len hopH.out.off hopH.out.most hmadeH.out hn3H.out hn2H.out
              clear hPX hsX
              have vc := fun j => hO3.out.cell j
              have v0 := vc 0
              have v1 := vc 1
              have v2 := vc 2
              have v3 := vc 3
              have v4 := vc 4
              have v5 := vc 5
              have v6 := vc 6
              have v7 := vc 7
              simp only [opC, List.getElem?_cons_succ, List.getElem?_cons_zero] at v0 v1 v2 v3 v4 v5 v6 v7
              unfold opV opC at hcd
              obtain ⟨r, hr⟩ : ∃ r, T.does o l m = r := ⟨_, rfl⟩
              rw [hr] at hcd
              have hrH := Lib.hid hr
              obtain ⟨T1, an⟩ := r
              clear hr vc
              go_upto_region 14 with (first
                | (go_at_call 43; refine hcd.mono ?_; rintro e w4 ⟨⟨v, rfl, hA⟩, hT1⟩; have hA1 := Lib.hid hA; obtain ⟨dA, dc, eA, ec, rfl, -, -⟩ := hA; have hT1H := Lib.hid hT1; obtain ⟨own1, lay1, hP1, hE1, hC1⟩ := hT1; have hZ4 := Lib.hid (hZ3H.out.chg hC1 (fun h => h hozH.out)); have hz4 := hC1.size; have hN4 := Blk.new w4 67 zAns; clear hP1 hE1 hC1)
                | (refine wpList_store_row rfl 67 (.tmp 8) (.tmp 53) rfl w4.heap.size (ansC an.code an.stat (.slice dA an.data.length dc) (.slice eA an.ents.length ec)).toArray rfl (by rfl) 67 _ hN4 rfl rfl (one10s _ _ _ _ _ _ _ _) ?_))
              have hQ5 := setRow_heap (w4.alloc (.cells zAns.toArray 67)) w4.heap.size _ (ansC an.code an.stat (.slice dA an.data.length dc) (.slice eA an.ents.length ec)).toArray _ _ hN4
              have hQ5 : Blk ((w4.alloc (.cells zAns.toArray 67)).setRow w4.heap.size (ansC an.code an.stat (.slice dA an.data.length dc) (.slice eA an.ents.length ec)).toArray) w4.heap.size 67 (ansC an.code an.stat (.slice dA an.data.length dc) (.slice eA an.ents.length ec)) := hQ5
              have hb5 : Below w4.heap.size w4 ((w4.alloc (.cells zAns.toArray 67)).setRow w4.heap.size (ansC an.code an.stat (.slice dA an.data.length dc) (.slice eA an.ents.length ec)).toArray) := ((Chg.refl (fun b => w4.heap.size ≤ b) w4).alloc _ |>.setRow (fun _ => Nat.le_refl _) _).below (Nat.le_refl _) fun b hb e => by omega
              have hZ5 := hZ4.out.fresh hb5
              have hA5 := Lib.hid (hA1.out.fresh hb5)
              have hb5H := Lib.hid hb5
              clear hN4 hb5 hZ4 hA1 v0 v1 v2 v3 v4 v5 v6 v7 hcd
              change Code.wp _ _ _ _ ((w4.alloc (.cells zAns.toArray 67)).setRow w4.heap.size (ansC an.code an.stat (.slice dA an.data.length dc) (.slice eA an.ents.length ec)).toArray)
              generalize (w4.alloc (.cells zAns.toArray 67)).setRow w4.heap.size (ansC an.code an.stat (.slice dA an.data.length dc) (.slice eA an.ents.length ec)).toArray = w5 at *
              have xc := fun j => hQ5.cell j
              have x0 := xc 0
              have x1 := xc 1
              have x2 := xc 2
              have x3 := xc 3
              have x4 := xc 4
              have x5 := xc 5
              have x6 := xc 6
              have x7 := xc 7
              have x8 := xc 8
              have x9 := xc 9
              simp only [ansC, List.getElem?_cons_succ, List.getElem?_cons_zero] at x0 x1 x2 x3 x4 x5 x6 x7 x8 x9
              clear xc hQ5
              by_cases hcd : an.code = 0
              · have hne : ((an.code : Int) != 0) = false := by simp; omega
                have htold : Hid (an.told = an) := Lib.hid (by unfold Ans.told; rw [if_pos hcd])
                clear hcd
                go_wp2_with (first
                  | (refine wpList_store_row rfl 67 (.tmp 4) (.tmp 60) rfl (g + 1) (ansC an.code an.stat (.slice dA an.data.length dc) (.slice eA an.ents.length ec)).toArray rfl (by rfl) 67 _ hZ5 rfl rfl (one10s _ _ _ _ _ _ _ _) ?_))
                have hrow := setRow_heap w5 (g + 1) _ (ansC an.code an.stat (.slice dA an.data.length dc) (.slice eA an.ents.length ec)).toArray _ _ hZ5
                refine bodyPost_ret (results_cell_row rfl _ _ (g + 1) 67 (ansC an.code an.stat (.slice dA an.data.length dc) (.slice eA an.ents.length ec)).toArray (0, 0) _ rfl hrow Tryz.underlying67 rfl rfl) rfl ?_
                have hfin : Chg (fun b => b = g + 1) w5 (w5.setRow (g + 1) (ansC an.code an.stat (.slice dA an.data.length dc) (.slice eA an.ents.length ec)).toArray) := (Chg.refl (fun b => b = g + 1) w5).setRow (fun _ => rfl) _
                rw [hrunH.out, hrH.out]
                refine ⟨⟨_, rfl, ?_⟩, ?_⟩
                · show AnsAt _ _ an.told
                  rw [htold.out]
                  exact hA5.out.row hZ5 _
                exact ((PTurn.fst (Ext.refl _ _) (Chg.of_fresh hb3H.out) hT1H.out).then_ hb5H.out).after (by rw [hgH.out]; exact hBH.out) (by rw [hgH.out]; omega) (by omega) hozH.out hfin
              · have hne : ((an.code : Int) != 0) = true := by simp; omega
                have htold : Hid (an.told = .err an.code) := Lib.hid (by unfold Ans.told; rw [if_neg hcd])
                clear hcd
                go_wp2_with (first
                  | (refine wpList_store_row rfl 67 (.tmp 4) (.tmp 59) rfl (g + 1) (ansC an.code st0 nilS nilS).toArray rfl (by rfl) 67 _ hZ5 rfl rfl (one10s _ _ _ _ _ _ _ _) ?_))
                have hrow := setRow_heap w5 (g + 1) _ (ansC an.code st0 nilS nilS).toArray _ _ hZ5
                refine bodyPost_ret (results_cell_row rfl _ _ (g + 1) 67 (ansC an.code st0 nilS nilS).toArray (0, 0) _ rfl hrow Tryz.underlying67 rfl rfl) rfl ?_
                have hfin : Chg (fun b => b = g + 1) w5 (w5.setRow (g + 1) (ansC an.code st0 nilS nilS).toArray) := (Chg.refl (fun b => b = g + 1) w5).setRow (fun _ => rfl) _
                rw [hrunH.out, hrH.out]
                refine ⟨⟨_, rfl, ?_⟩, ?_⟩
                · show AnsAt _ _ an.told
                  rw [htold.out]
                  exact ansAt_of _ an.code st0
                exact ((PTurn.fst (Ext.refl _ _) (Chg.of_fresh hb3H.out) hT1H.out).then_ hb5H.out).after (by rw [hgH.out]; exact hBH.out) (by rw [hgH.out]; omega) (by omega) hozH.out hfin
        · have hrun : T.run o = ((T.does o l []).1, (T.does o l []).2.told) := by
            rw [hu3H.out]
            unfold Opn.code2 Opn.to_
            rw [if_neg kB, if_neg kB]
            rfl
          have hrunH := Lib.hid hrun
          have hn2H : Hid (NmAt w2 w2.heap.size none 0 []) := Lib.hid (nmAt_nil w2 _)
          have s3 : (o.kind == 3) = false := by simp; omega
          have s6 : (o.kind == 6) = false := by simp; omega
          have hZ2H := Lib.hid hZ2
          clear hrun kB hZ2
          go_upto_region 13 with (fail)
          clear s3 s6 u0 u2
          have hPX := hP0H.out.fresh hb2H.out
          have hsX := (hs0H.out.below hb2H.out).more hb2H.out.size
          have hcd := pdoes_any own lay p mb T o A c A1 c1 l none 0 [] w2 hPX hTH.out hsX hopH.out.cap hopH.out.len hopH.out.off hopH.out.most hmadeH.out hn1H.out hn2H.out
          clear hPX hsX
          have vc := fun j => hO2.out.cell j
          have v0 := vc 0
          have v1 := vc 1
          have v2 := vc 2
          have v3 := vc 3
          have v4 := vc 4
          have v5 := vc 5
          have v6 := vc 6
          have v7 := vc 7
          simp only [opC, List.getElem?_cons_succ, List.getElem?_cons_zero] at v0 v1 v2 v3 v4 v5 v6 v7
          unfold opV opC at hcd
          obtain ⟨r, hr⟩ : ∃ r, T.does o l [] = r := ⟨_, rfl⟩
          rw [hr] at hcd
          have hrH := Lib.hid hr
          obtain ⟨T1, an⟩ := r
          clear hr vc
          go_upto_region 14 with (first
            | (go_at_call 43; refine hcd.mono ?_; rintro e w4 ⟨⟨v, rfl, hA⟩, hT1⟩; have hA1 := Lib.hid hA; obtain ⟨dA, dc, eA, ec, rfl, -, -⟩ := hA; have hT1H := Lib.hid hT1; obtain ⟨own1, lay1, hP1, hE1, hC1⟩ := hT1; have hZ4 := Lib.hid (hZ2H.out.chg hC1 (fun h => h hozH.out)); have hz4 := hC1.size; have hN4 := Blk.new w4 67 zAns; clear hP1 hE1 hC1)
            | (refine wpList_store_row rfl 67 (.tmp 8) (.tmp 53) rfl w4.heap.size (ansC an.code an.stat (.slice dA an.data.length dc) (.slice eA an.ents.length ec)).toArray rfl (by rfl) 67 _ hN4 rfl rfl (one10s _ _ _ _ _ _ _ _) ?_))
          have hQ5 := setRow_heap (w4.alloc (.cells zAns.toArray 67)) w4.heap.size _ (ansC an.code an.stat (.slice dA an.data.length dc) (.slice eA an.ents.length ec)).toArray _ _ hN4
          have hQ5 : Blk ((w4.alloc (.cells zAns.toArray 67)).setRow w4.heap.size (ansC an.code an.stat (.slice dA an.data.length dc) (.slice eA an.ents.length ec)).toArray) w4.heap.size 67 (ansC an.code an.stat (.slice dA an.data.length dc) (.slice eA an.ents.length ec)) := hQ5
          have hb5 : Below w4.heap.size w4 ((w4.alloc (.cells zAns.toArray 67)).setRow w4.heap.size (ansC an.code an.stat (.slice dA an.data.length dc) (.slice eA an.ents.length ec)).toArray) := ((Chg.refl (fun b => w4.heap.size ≤ b) w4).alloc _ |>.setRow (fun _ => Nat.le_refl _) _).below (Nat.le_refl _) fun b hb e => by omega
          have hZ5 := hZ4.out.fresh hb5
          have hA5 := Lib.hid (hA1.out.fresh hb5)
          have hb5H := Lib.hid hb5
          clear hN4 hb5 hZ4 hA1 v0 v1 v2 v3 v4 v5 v6 v7 hcd
          change Code.wp _ _ _ _ ((w4.alloc (.cells zAns.toArray 67)).setRow w4.heap.size (ansC an.code an.stat (.slice dA an.data.length dc) (.slice eA an.ents.length ec)).toArray)
          generalize (w4.alloc (.cells zAns.toArray 67)).setRow w4.heap.size (ansC an.code an.stat (.slice dA an.data.length dc) (.slice eA an.ents.length ec)).toArray = w5 at *
          have xc := fun j => hQ5.cell j
          have x0 := xc 0
          have x1 := xc 1
          have x2 := xc 2
          have x3 := xc 3
          have x4 := xc 4
          have x5 := xc 5
          have x6 := xc 6
          have x7 := xc 7
          have x8 := xc 8
          have x9 := xc 9
          simp only [ansC, List.getElem?_cons_succ, List.getElem?_cons_zero] at x0 x1 x2 x3 x4 x5 x6 x7 x8 x9
          clear xc hQ5
          by_cases hcd : an.code = 0
          · have hne : ((an.code : Int) != 0) = false := by simp; omega
            have htold : Hid (an.told = an) := Lib.hid (by unfold Ans.told; rw [if_pos hcd])
            clear hcd
            go_wp2_with (first
              | (refine wpList_store_row rfl 67 (.tmp 4) (.tmp 60) rfl (g + 1) (ansC an.code an.stat (.slice dA an.data.length dc) (.slice eA an.ents.length ec)).toArray rfl (by rfl) 67 _ hZ5 rfl rfl (one10s _ _ _ _ _ _ _ _) ?_))
            have hrow := setRow_heap w5 (g + 1) _ (ansC an.code an.stat (.slice dA an.data.length dc) (.slice eA an.ents.length ec)).toArray _ _ hZ5
            refine bodyPost_ret (results_cell_row rfl _ _ (g + 1) 67 (ansC an.code an.stat (.slice dA an.data.length dc) (.slice eA an.ents.length ec)).toArray (0, 0) _ rfl hrow Tryz.underlying67 rfl rfl) rfl ?_
            have hfin : Chg (fun b => b = g + 1) w5 (w5.setRow (g + 1) (ansC an.code an.stat (.slice dA an.data.length dc) (.slice eA an.ents.length ec)).toArray) := (Chg.refl (fun b => b = g + 1) w5).setRow (fun _ => rfl) _
            rw [hrunH.out, hrH.out]
            refine ⟨⟨_, rfl, ?_⟩, ?_⟩
            · show AnsAt _ _ an.told
              rw [htold.out]
              exact hA5.out.row hZ5 _
            exact ((PTurn.fst (Ext.refl _ _) (Chg.of_fresh hb2H.out) hT1H.out).then_ hb5H.out).after (by rw [hgH.out]; exact hBH.out) (by rw [hgH.out]; omega) (by omega) hozH.out hfin
          · have hne : ((an.code : Int) != 0) = true := by simp; omega
            have htold : Hid (an.told = .err an.code) := Lib.hid (by unfold Ans.told; rw [if_neg hcd])
            clear hcd
            go_wp2_with (first
              | (refine wpList_store_row rfl 67 (.tmp 4) (.tmp 59) rfl (g + 1) (ansC an.code st0 nilS nilS).toArray rfl (by rfl) 67 _ hZ5 rfl rfl (one10s _ _ _ _ _ _ _ _) ?_))
            have hrow := setRow_heap w5 (g + 1) _ (ansC an.code st0 nilS nilS).toArray _ _ hZ5
            refine bodyPost_ret (results_cell_row rfl _ _ (g + 1) 67 (ansC an.code st0 nilS nilS).toArray (0, 0) _ rfl hrow Tryz.underlying67 rfl rfl) rfl ?_
            have hfin : Chg (fun b => b = g + 1) w5 (w5.setRow (g + 1) (ansC an.code st0 nilS nilS).toArray) := (Chg.refl (fun b => b = g + 1) w5).setRow (fun _ => rfl) _
            rw [hrunH.out, hrH.out]
            refine ⟨⟨_, rfl, ?_⟩, ?_⟩
            · show AnsAt _ _ an.told
              rw [htold.out]
              exact ansAt_of _ an.code st0
            exact ((PTurn.fst (Ext.refl _ _) (Chg.of_fresh hb2H.out) hT1H.out).then_ hb5H.out).after (by rw [hgH.out]; exact hBH.out) (by rw [hgH.out]; omega) (by omega) hozH.out hfin
#print axioms pdo_any
end Go.Proofs.YtolpcfhfcdkokaaGreatDoor
