/- Joined out of the texts PDoes. -/
import Derived.Test.YtolpcfhfcdkokaaGreatDoorM15
import Derived.Test.YtolpcfhfcdkokaaGreatDoorM30
/-
  The tree in memory: an operation of names.
-/
namespace Go.Proofs.YtolpcfhfcdkokaaGreatDoor
open Go.RowKit Go.Proofs

theorem make_plain (T : PT) (l : List ByteArray) (dir : Bool) (made : Nat) : (T.make l dir made).2.data = [] ∧ (T.make l dir made).2.ents = [] := by
  unfold PT.make
  split
  · exact ⟨rfl, rfl⟩
  split
  · exact ⟨rfl, rfl⟩
  split
  · exact ⟨rfl, rfl⟩
  split <;> exact ⟨rfl, rfl⟩
/-- Names in memory. -/
structure NmAt (w : World) (B : Nat) (A : Option Addr) (c : Nat) (l : List ByteArray) : Prop where
  sees : Sees w B 1 A l.length (strs l)
  len : l.length ≤ 1000000
  cap : l.length ≤ c
  small : ∀ x ∈ l, x.size ≤ 40
theorem NmAt.big {w : World} {B : Nat} {A : Option Addr} {c : Nat} {l : List ByteArray} (h : NmAt w B A c l) : ∀ x ∈ l, x.size ≤ 1000000 := fun x hx => by have := h.small x hx; omega
theorem NmAt.fresh {w w1 : World} {A : Option Addr} {c : Nat} {l : List ByteArray} (h : NmAt w w.heap.size A c l) (hb : Below w.heap.size w w1) : NmAt w1 w1.heap.size A c l := ⟨(h.sees.below hb).more hb.size, h.len, h.cap, h.small⟩
set_option maxHeartbeats 6400000 in
set_option maxRecDepth 100000 in
theorem pdoes_any (own : Nat → Option Role) (lay : Nat → NA) (p mb : Nat) (T : PT) (o : Opn) (A : Option Addr) (c : Nat) (A1 : Option Addr) (c1 : Nat) (l : List ByteArray) (A2 : Option Addr) (c2 : Nat) (m : List ByteArray) (w : World) (h : PlainAt w own lay p mb T) (hT : T.Wf)
    (hs : Sees w w.heap.size 1 A o.data.length (bvs o.data)) (hc : o.data.length ≤ c) (hlm : o.data.length < 1000000000000) (hoff : o.off ≤ 9223372036854775807 ∧ -9223372036854775808 ≤ o.off) (hlen : o.len ≤ 9223372036854775807 ∧ -9223372036854775808 ≤ o.len)
    (hmade : 0 ≤ o.made ∧ o.made ≤ 1099511627776) (hn1 : NmAt w w.heap.size A1 c1 l) (hn2 : NmAt w w.heap.size A2 c2 m) :
    Calls Tryz.prog 43 #[.pointer (some ⟨p, 0, none⟩), opV o A c, .slice A1 l.length c1, .slice A2 m.length c2] w (AnsP own p mb (T.does o l m) w) := by
  have hu := PT.does.eq_1 T o l m
  have hog : own (w.heap.size + 1) = none := h.free (by omega)
  unfold opV opC
  go_enter Tryz.func43, Tryz.ntmps43
  go_upto_region 1 with (fail)
  have hO0 : Blk ((w.alloc (.cells (opC o A c).toArray 70)).alloc (.cells zAns.toArray 67)) w.heap.size 70 (opC o A c) := (Blk.new w _ _).alloc _
  have hZ0 : Blk ((w.alloc (.cells (opC o A c).toArray 70)).alloc (.cells zAns.toArray 67)) (w.heap.size + 1) 67 zAns := by
    have := Blk.new (w.alloc (.cells (opC o A c).toArray 70)) 67 zAns
    simpa using this
  have hB0 : Below w.heap.size w ((w.alloc (.cells (opC o A c).toArray 70)).alloc (.cells zAns.toArray 67)) := ((Below.refl _ _).alloc (Nat.le_refl _) _).alloc (by simp) _
  have hz0 : ((w.alloc (.cells (opC o A c).toArray 70)).alloc (.cells zAns.toArray 67)).heap.size = w.heap.size + 2 := by simp
  change Code.wp _ _ _ _ ((w.alloc (.cells (opC o A c).toArray 70)).alloc (.cells zAns.toArray 67))
  generalize (w.alloc (.cells (opC o A c).toArray 70)).alloc (.cells zAns.toArray 67) = w0 at *
  have hP0 := h.fresh hB0
  have hs0 := (hs.below hB0).more hB0.size
  have hn10 := hn1.fresh hB0
  have hn20 := hn2.fresh hB0
  obtain ⟨g, hgE⟩ : ∃ g, w.heap.size = g := ⟨_, rfl⟩
  rw [hgE] at hO0 hZ0 hB0 hz0 hog
  simp only [hgE]
  have hgH := Lib.hid hgE
  have hBH := Lib.hid hB0
  have hozH := Lib.hid hog
  have hP0H := Lib.hid hP0
  have hs0H := Lib.hid hs0
  have hTH := Lib.hid hT
  have hcH := Lib.hid hc
  have hZH := Lib.hid hZ0
  have hOH := Lib.hid hO0
  have hn1H := Lib.hid hn10
  have hn2H := Lib.hid hn20
  clear hgE hB0 hog hs0 hs hc h hP0 hT hn1 hn2 hn10 hn20
  have y0 := hO0.cell 0
  have y6 := hO0.cell 6
  simp only [opC, List.getElem?_cons_succ, List.getElem?_cons_zero] at y0 y6
  clear hO0
  obtain ⟨made, hmd⟩ : ∃ made : Nat, o.made = (made : Int) := ⟨o.made.toNat, by omega⟩
  rw [hmd] at y6
  by_cases k1 : o.kind = 1
  · rw [if_pos k1, hmd, Int.toNat_natCast] at hu
    have huH := Lib.hid hu
    have s1 : (o.kind == 1) = true := by simpa using k1
    have hcs := pmake_any own lay p mb T _ A1 c1 l false made w0 hP0H.out hTH.out (Nat.le_refl _) hn1H.out.sees hn1H.out.len hn1H.out.cap hn1H.out.small (by omega)
    have hpl := make_plain T l false made
    obtain ⟨r, hr⟩ : ∃ r, T.make l false made = r := ⟨_, rfl⟩
    rw [hr] at hcs hpl
    have hrH := Lib.hid hr
    have hplH := Lib.hid hpl
    obtain ⟨T1, an⟩ := r
    simp only [newN, PN.kind, ansV] at hcs
    clear hu hr hpl k1
    go_wp2_with (first
      | (go_at_call 67; refine hcs.mono ?_; rintro e w1 ⟨rfl, hT1⟩; have hT1H := Lib.hid hT1; obtain ⟨own1, lay1, hP1, hE1, hC1⟩ := hT1; have hZ1 := hZ0.chg hC1 (fun h => h hozH.out); clear hP1 hE1 hC1)
      | (refine wpList_store_row rfl 67 (.tmp 8) (.tmp 19) rfl (g + 1) (ansC an.code an.stat nilS nilS).toArray rfl (by rfl) 67 _ hZ1 rfl rfl (one10s _ _ _ _ _ _ _ _) ?_))
    have hrow := setRow_heap w1 (g + 1) _ (ansC an.code an.stat nilS nilS).toArray _ _ hZ1
    refine bodyPost_ret (results_cell_row rfl _ _ (g + 1) 67 (ansC an.code an.stat nilS nilS).toArray (0, 0) _ rfl hrow Tryz.underlying67 rfl rfl) rfl ?_
    have hfin : Chg (fun b => b = g + 1) w1 (w1.setRow (g + 1) (ansC an.code an.stat nilS nilS).toArray) := (Chg.refl (fun b => b = g + 1) w1).setRow (fun _ => rfl) _
    rw [huH.out]
    rw [hrH.out]
    refine ⟨⟨_, rfl, ansAt_plain _ an hplH.out.1 hplH.out.2⟩, ?_⟩
    exact hT1H.out.after (by rw [hgH.out]; exact hBH.out) (by rw [hgH.out]; omega) (by omega) hozH.out hfin
  have s1 : (o.kind == 1) = false := by simpa using k1
  rw [if_neg k1] at hu
  by_cases k2 : o.kind = 2
  · rw [if_pos k2, hmd, Int.toNat_natCast] at hu
    have huH := Lib.hid hu
    have s2 : (o.kind == 2) = true := by simpa using k2
    have hcs := pmake_any own lay p mb T _ A1 c1 l true made w0 hP0H.out hTH.out (Nat.le_refl _) hn1H.out.sees hn1H.out.len hn1H.out.cap hn1H.out.small (by omega)
    have hpl := make_plain T l true made
    obtain ⟨r, hr⟩ : ∃ r, T.make l true made = r := ⟨_, rfl⟩
    rw [hr] at hcs hpl
    have hrH := Lib.hid hr
    have hplH := Lib.hid hpl
    obtain ⟨T1, an⟩ := r
    simp only [newN, PN.kind, ansV] at hcs
    clear hu hr hpl k2
    go_wp2_with (first
      | (go_at_call 67; refine hcs.mono ?_; rintro e w1 ⟨rfl, hT1⟩; have hT1H := Lib.hid hT1; obtain ⟨own1, lay1, hP1, hE1, hC1⟩ := hT1; have hZ1 := hZ0.chg hC1 (fun h => h hozH.out); clear hP1 hE1 hC1)
      | (refine wpList_store_row rfl 67 (.tmp 8) (.tmp 26) rfl (g + 1) (ansC an.code an.stat nilS nilS).toArray rfl (by rfl) 67 _ hZ1 rfl rfl (one10s _ _ _ _ _ _ _ _) ?_))
    have hrow := setRow_heap w1 (g + 1) _ (ansC an.code an.stat nilS nilS).toArray _ _ hZ1
    refine bodyPost_ret (results_cell_row rfl _ _ (g + 1) 67 (ansC an.code an.stat nilS nilS).toArray (0, 0) _ rfl hrow Tryz.underlying67 rfl rfl) rfl ?_
    have hfin : Chg (fun b => b = g + 1) w1 (w1.setRow (g + 1) (ansC an.code an.stat nilS nilS).toArray) := (Chg.refl (fun b => b = g + 1) w1).setRow (fun _ => rfl) _
    rw [huH.out]
    rw [hrH.out]
    refine ⟨⟨_, rfl, ansAt_plain _ an hplH.out.1 hplH.out.2⟩, ?_⟩
    exact hT1H.out.after (by rw [hgH.out]; exact hBH.out) (by rw [hgH.out]; omega) (by omega) hozH.out hfin
  have s2 : (o.kind == 2) = false := by simpa using k2
  rw [if_neg k2] at hu
  by_cases k3 : o.kind = 3
  · rw [if_pos k3] at hu
    have huH := Lib.hid hu
    have s3 : (o.kind == 3) = true := by simpa using k3
    have hcs := plink_any own lay p mb T _ A1 c1 l A2 c2 m w0 hP0H.out hTH.out hn1H.out.sees hn1H.out.len hn1H.out.big hn2H.out.sees hn2H.out.len hn2H.out.cap hn2H.out.big
    obtain ⟨r, hr⟩ : ∃ r, T.link l m = r := ⟨_, rfl⟩
    rw [hr] at hcs
    have hrH := Lib.hid hr
    obtain ⟨T1, cd⟩ := r
    simp only at hcs
    unfold natV at hcs
    clear hu hr k3
    go_wp2_with (first
      | (go_at_call 68; refine hcs.mono ?_; rintro e w1 ⟨rfl, hT1⟩; have hT1H := Lib.hid hT1; obtain ⟨own1, lay1, hP1, hE1, hC1⟩ := hT1; have hZ1 := hZ0.chg hC1 (fun h => h hozH.out); clear hP1 hE1 hC1)
      | (refine wpList_store_row rfl 67 (.tmp 8) (.tmp 33) rfl (g + 1) (ansC cd st0 nilS nilS).toArray rfl (by rfl) 67 _ hZ1 rfl rfl (one10s _ _ _ _ _ _ _ _) ?_))
    have hrow := setRow_heap w1 (g + 1) _ (ansC cd st0 nilS nilS).toArray _ _ hZ1
    refine bodyPost_ret (results_cell_row rfl _ _ (g + 1) 67 (ansC cd st0 nilS nilS).toArray (0, 0) _ rfl hrow Tryz.underlying67 rfl rfl) rfl ?_
    have hfin : Chg (fun b => b = g + 1) w1 (w1.setRow (g + 1) (ansC cd st0 nilS nilS).toArray) := (Chg.refl (fun b => b = g + 1) w1).setRow (fun _ => rfl) _
    rw [huH.out]
    rw [hrH.out]
    refine ⟨⟨_, rfl, ansAt_of _ cd st0⟩, ?_⟩
    exact hT1H.out.after (by rw [hgH.out]; exact hBH.out) (by rw [hgH.out]; omega) (by omega) hozH.out hfin
  have s3 : (o.kind == 3) = false := by simpa using k3
  rw [if_neg k3] at hu
  by_cases k4 : o.kind = 4
  · rw [if_pos k4] at hu
    have huH := Lib.hid hu
    have s4 : (o.kind == 4) = true := by simpa using k4
    have hcs := punlink_any own lay p mb T _ A1 c1 l w0 hP0H.out hTH.out hn1H.out.sees hn1H.out.len hn1H.out.cap hn1H.out.big
    obtain ⟨r, hr⟩ : ∃ r, T.unlink l = r := ⟨_, rfl⟩
    rw [hr] at hcs
    have hrH := Lib.hid hr
    obtain ⟨T1, cd⟩ := r
    simp only at hcs
    unfold natV at hcs
    clear hu hr k4
    go_wp2_with (first
      | (go_at_call 69; refine hcs.mono ?_; rintro e w1 ⟨rfl, hT1⟩; have hT1H := Lib.hid hT1; obtain ⟨own1, lay1, hP1, hE1, hC1⟩ := hT1; have hZ1 := hZ0.chg hC1 (fun h => h hozH.out); clear hP1 hE1 hC1)
      | (refine wpList_store_row rfl 67 (.tmp 8) (.tmp 39) rfl (g + 1) (ansC cd st0 nilS nilS).toArray rfl (by rfl) 67 _ hZ1 rfl rfl (one10s _ _ _ _ _ _ _ _) ?_))
    have hrow := setRow_heap w1 (g + 1) _ (ansC cd st0 nilS nilS).toArray _ _ hZ1
    refine bodyPost_ret (results_cell_row rfl _ _ (g + 1) 67 (ansC cd st0 nilS nilS).toArray (0, 0) _ rfl hrow Tryz.underlying67 rfl rfl) rfl ?_
    have hfin : Chg (fun b => b = g + 1) w1 (w1.setRow (g + 1) (ansC cd st0 nilS nilS).toArray) := (Chg.refl (fun b => b = g + 1) w1).setRow (fun _ => rfl) _
    rw [huH.out]
    rw [hrH.out]
    refine ⟨⟨_, rfl, ansAt_of _ cd st0⟩, ?_⟩
    exact hT1H.out.after (by rw [hgH.out]; exact hBH.out) (by rw [hgH.out]; omega) (by omega) hozH.out hfin
  have s4 : (o.kind == 4) = false := by simpa using k4
  rw [if_neg k4] at hu
  by_cases k5 : o.kind = 5
  · rw [if_pos k5] at hu
    have huH := Lib.hid hu
    have s5 : (o.kind == 5) = true := by simpa using k5
    have hcs := prmdir_any own lay p mb T _ A1 c1 l w0 hP0H.out hTH.out hn1H.out.sees hn1H.out.len hn1H.out.cap hn1H.out.big
    obtain ⟨r, hr⟩ : ∃ r, T.rmdir l = r := ⟨_, rfl⟩
    rw [hr] at hcs
    have hrH := Lib.hid hr
    obtain ⟨T1, cd⟩ := r
    simp only at hcs
    unfold natV at hcs
    clear hu hr k5
    go_wp2_with (first
      | (go_at_call 70; refine hcs.mono ?_; rintro e w1 ⟨rfl, hT1⟩; have hT1H := Lib.hid hT1; obtain ⟨own1, lay1, hP1, hE1, hC1⟩ := hT1; have hZ1 := hZ0.chg hC1 (fun h => h hozH.out); clear hP1 hE1 hC1)
      | (refine wpList_store_row rfl 67 (.tmp 8) (.tmp 45) rfl (g + 1) (ansC cd st0 nilS nilS).toArray rfl (by rfl) 67 _ hZ1 rfl rfl (one10s _ _ _ _ _ _ _ _) ?_))
    have hrow := setRow_heap w1 (g + 1) _ (ansC cd st0 nilS nilS).toArray _ _ hZ1
    refine bodyPost_ret (results_cell_row rfl _ _ (g + 1) 67 (ansC cd st0 nilS nilS).toArray (0, 0) _ rfl hrow Tryz.underlying67 rfl rfl) rfl ?_
    have hfin : Chg (fun b => b = g + 1) w1 (w1.setRow (g + 1) (ansC cd st0 nilS nilS).toArray) := (Chg.refl (fun b => b = g + 1) w1).setRow (fun _ => rfl) _
    rw [huH.out]
    rw [hrH.out]
    refine ⟨⟨_, rfl, ansAt_of _ cd st0⟩, ?_⟩
    exact hT1H.out.after (by rw [hgH.out]; exact hBH.out) (by rw [hgH.out]; omega) (by omega) hozH.out hfin
  have s5 : (o.kind == 5) = false := by simpa using k5
  rw [if_neg k5] at hu
  by_cases k6 : o.kind = 6
  · rw [if_pos k6] at hu
    have huH := Lib.hid hu
    have s6 : (o.kind == 6) = true := by simpa using k6
    have hcs := prename_any own lay p mb T _ A1 c1 l A2 c2 m w0 hP0H.out hTH.out (Nat.le_refl _) hn1H.out.sees hn1H.out.len hn1H.out.cap hn1H.out.small hn2H.out.sees hn2H.out.len hn2H.out.cap hn2H.out.small
    obtain ⟨r, hr⟩ : ∃ r, T.rename l m = r := ⟨_, rfl⟩
    rw [hr] at hcs
    have hrH := Lib.hid hr
    obtain ⟨T1, cd⟩ := r
    simp only at hcs
    unfold natV at hcs
    clear hu hr k6
    go_wp2_with (first
      | (go_at_call 71; refine hcs.mono ?_; rintro e w1 ⟨rfl, hT1⟩; have hT1H := Lib.hid hT1; obtain ⟨own1, lay1, hP1, hE1, hC1⟩ := hT1; have hZ1 := hZ0.chg hC1 (fun h => h hozH.out); clear hP1 hE1 hC1)
      | (refine wpList_store_row rfl 67 (.tmp 8) (.tmp 52) rfl (g + 1) (ansC cd st0 nilS nilS).toArray rfl (by rfl) 67 _ hZ1 rfl rfl (one10s _ _ _ _ _ _ _ _) ?_))
    have hrow := setRow_heap w1 (g + 1) _ (ansC cd st0 nilS nilS).toArray _ _ hZ1
    refine bodyPost_ret (results_cell_row rfl _ _ (g + 1) 67 (ansC cd st0 nilS nilS).toArray (0, 0) _ rfl hrow Tryz.underlying67 rfl rfl) rfl ?_
    have hfin : Chg (fun b => b = g + 1) w1 (w1.setRow (g + 1) (ansC cd st0 nilS nilS).toArray) := (Chg.refl (fun b => b = g + 1) w1).setRow (fun _ => rfl) _
    rw [huH.out]
    rw [hrH.out]
    refine ⟨⟨_, rfl, ansAt_of _ cd st0⟩, ?_⟩
    exact hT1H.out.after (by rw [hgH.out]; exact hBH.out) (by rw [hgH.out]; omega) (by omega) hozH.out hfin
  have s6 : (o.kind == 6) = false := by simpa using k6
  rw [if_neg k6] at hu
  by_cases k12 : o.kind = 12
  · rw [if_pos (.inl k12)] at hu
    have huH := Lib.hid hu
    have s12 : (o.kind == 12) = true := by simpa using k12
    clear hu k12
    go_wp2_with (first
      | (refine wpList_store_row rfl 67 (.tmp 8) (.tmp 56) rfl (g + 1) (ansC 0 st0 nilS nilS).toArray rfl (by rfl) 67 _ hZ0 rfl rfl (one10s _ _ _ _ _ _ _ _) ?_))
    have hrow := setRow_heap w0 (g + 1) _ (ansC 0 st0 nilS nilS).toArray _ _ hZ0
    refine bodyPost_ret (results_cell_row rfl _ _ (g + 1) 67 (ansC 0 st0 nilS nilS).toArray (0, 0) _ rfl hrow Tryz.underlying67 rfl rfl) rfl ?_
    have hfin : Chg (fun b => b = g + 1) w0 (w0.setRow (g + 1) (ansC 0 st0 nilS nilS).toArray) := (Chg.refl (fun b => b = g + 1) w0).setRow (fun _ => rfl) _
    rw [huH.out]
    refine ⟨⟨_, rfl, ansAt_of _ 0 st0⟩, ?_⟩
    exact (PTurn.same hP0H.out (Below.refl _ _)).after (by rw [hgH.out]; exact hBH.out) (by rw [hgH.out]; omega) (by omega) hozH.out hfin
  have s12 : (o.kind == 12) = false := by simpa using k12
  by_cases k14 : o.kind = 14
  · rw [if_pos (.inr k14)] at hu
    have huH := Lib.hid hu
    have s14 : (o.kind == 14) = true := by simpa using k14
    clear hu k14
    go_wp2_with (first
      | (refine wpList_store_row rfl 67 (.tmp 8) (.tmp 56) rfl (g + 1) (ansC 0 st0 nilS nilS).toArray rfl (by rfl) 67 _ hZ0 rfl rfl (one10s _ _ _ _ _ _ _ _) ?_))
    have hrow := setRow_heap w0 (g + 1) _ (ansC 0 st0 nilS nilS).toArray _ _ hZ0
    refine bodyPost_ret (results_cell_row rfl _ _ (g + 1) 67 (ansC 0 st0 nilS nilS).toArray (0, 0) _ rfl hrow Tryz.underlying67 rfl rfl) rfl ?_
    have hfin : Chg (fun b => b = g + 1) w0 (w0.setRow (g + 1) (ansC 0 st0 nilS nilS).toArray) := (Chg.refl (fun b => b = g + 1) w0).setRow (fun _ => rfl) _
    rw [huH.out]
    refine ⟨⟨_, rfl, ansAt_of _ 0 st0⟩, ?_⟩
    exact (PTurn.same hP0H.out (Below.refl _ _)).after (by rw [hgH.out]; exact hBH.out) (by rw [hgH.out]; omega) (by omega) hozH.out hfin
  have s14 : (o.kind == 14) = false := by simpa using k14
  rw [if_neg (by rintro (h | h); exact k12 h; exact k14 h)] at hu
  have hcw := pwalk_any own lay p mb T _ A1 c1 l w0 hP0H.out hTH.out hn1H.out.sees hn1H.out.len hn1H.out.big
  have hwi := walk_stays hTH.out l 1 (let ⟨n, h, _⟩ := hTH.out.root; ⟨n, h⟩)
  obtain ⟨r, hr⟩ : ∃ r, T.walk l 1 = r := ⟨_, rfl⟩
  rw [hr] at hcw hwi hu
  obtain ⟨i, e1⟩ := r
  simp only at hcw hwi hu
  unfold natV at hcw
  have hwiH := Lib.hid hwi
  clear hr hwi k1 k2 k3 k4 k5 k6 k12 k14
  by_cases he1 : e1 ≠ 0
  · rw [if_pos he1] at hu
    have huH := Lib.hid hu
    have hne1 : ((e1 : Int) != 0) = true := by simp; omega
    clear hu he1
    go_wp2_with (first
      | (go_at_call 72; refine hcw.mono ?_; rintro e w1 ⟨rfl, rfl⟩)
      | (refine wpList_store_row rfl 67 (.tmp 8) (.tmp 66) rfl (g + 1) (ansC e1 st0 nilS nilS).toArray rfl (by rfl) 67 _ hZ0 rfl rfl (one10s _ _ _ _ _ _ _ _) ?_))
    have hrow := setRow_heap w0 (g + 1) _ (ansC e1 st0 nilS nilS).toArray _ _ hZ0
    refine bodyPost_ret (results_cell_row rfl _ _ (g + 1) 67 (ansC e1 st0 nilS nilS).toArray (0, 0) _ rfl hrow Tryz.underlying67 rfl rfl) rfl ?_
    have hfin : Chg (fun b => b = g + 1) w0 (w0.setRow (g + 1) (ansC e1 st0 nilS nilS).toArray) := (Chg.refl (fun b => b = g + 1) w0).setRow (fun _ => rfl) _
    rw [huH.out]
    refine ⟨⟨_, rfl, ansAt_of _ e1 st0⟩, ?_⟩
    exact (PTurn.same hP0H.out (Below.refl _ _)).after (by rw [hgH.out]; exact hBH.out) (by rw [hgH.out]; omega) (by omega) hozH.out hfin
  · have he1 : e1 = 0 := by omega
    subst he1
    rw [if_neg (by simp)] at hu
    have huH := Lib.hid hu
    obtain ⟨n, hn⟩ := hwiH.out rfl
    have hcs := pasks_any own lay p mb i T n o A c w0 hP0H.out hTH.out hn hs0H.out hcH.out hlm hoff hlen
    have yc := fun j => hOH.out.cell j
    have z1 := yc 1
    have z2 := yc 2
    have z3 := yc 3
    have z4 := yc 4
    have z5 := yc 5
    have z7 := yc 7
    simp only [opC, List.getElem?_cons_succ, List.getElem?_cons_zero] at z1 z2 z3 z4 z5 z7
    unfold opV opC at hcs
    rw [hmd] at hcs
    obtain ⟨r, hr⟩ : ∃ r, T.asks o i = r := ⟨_, rfl⟩
    rw [hr] at hcs
    have hrH := Lib.hid hr
    obtain ⟨T1, an⟩ := r
    clear hu hr hn yc
    go_wp2_with (first
      | (go_at_call 72; refine hcw.mono ?_; rintro e w1 ⟨rfl, rfl⟩)
      | (go_at_call 73; refine hcs.mono ?_; rintro e w1 ⟨⟨v, rfl, hA⟩, hT1⟩; have hA1 := Lib.hid hA; obtain ⟨dA, dc, eA, ec, rfl, -, -⟩ := hA; have hT1H := Lib.hid hT1; obtain ⟨own1, lay1, hP1, hE1, hC1⟩ := hT1; have hZ1 := hZ0.chg hC1 (fun h => h hozH.out); clear hP1 hE1 hC1)
      | (refine wpList_store_row rfl 67 (.tmp 8) (.tmp 70) rfl (g + 1) (ansC an.code an.stat (.slice dA an.data.length dc) (.slice eA an.ents.length ec)).toArray rfl (by rfl) 67 _ hZ1 rfl rfl (one10s _ _ _ _ _ _ _ _) ?_))
    have hrow := setRow_heap w1 (g + 1) _ (ansC an.code an.stat (.slice dA an.data.length dc) (.slice eA an.ents.length ec)).toArray _ _ hZ1
    refine bodyPost_ret (results_cell_row rfl _ _ (g + 1) 67 (ansC an.code an.stat (.slice dA an.data.length dc) (.slice eA an.ents.length ec)).toArray (0, 0) _ rfl hrow Tryz.underlying67 rfl rfl) rfl ?_
    have hfin : Chg (fun b => b = g + 1) w1 (w1.setRow (g + 1) (ansC an.code an.stat (.slice dA an.data.length dc) (.slice eA an.ents.length ec)).toArray) := (Chg.refl (fun b => b = g + 1) w1).setRow (fun _ => rfl) _
    rw [huH.out]
    rw [hrH.out]
    refine ⟨⟨_, rfl, hA1.out.row hZ1 _⟩, ?_⟩
    exact hT1H.out.after (by rw [hgH.out]; exact hBH.out) (by rw [hgH.out]; omega) (by omega) hozH.out hfin
#print axioms pdoes_any
end Go.Proofs.YtolpcfhfcdkokaaGreatDoor
