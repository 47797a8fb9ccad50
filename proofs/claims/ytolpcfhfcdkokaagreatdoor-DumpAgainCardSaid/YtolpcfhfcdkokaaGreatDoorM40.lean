/- Joined out of the texts DFill. -/
import Derived.Test.YtolpcfhfcdkokaaGreatDoorM38
/-
  Package dump: nodes are made.
-/
namespace Go.Proofs.YtolpcfhfcdkokaaGreatDoor
open Go.RowKit Go.Proofs

/-- May a node be, behind files of these paths? -/
def mayT (x : Tn) (fs : List (ByteArray × Unit)) : Bool :=
  if x.made < 0 ∨ 1099511627776 < x.made ∨ 136704 < x.data.length then false else if x.kind = 2 then decide (x.same = emp) && decide (x.data = []) else if x.kind ≠ 1 then false else decide (x.same = emp) || (decide (x.data = []) && (getS x.same fs).isSome)
def opM (x : Tn) : Opn := ⟨2, x.path, emp, 0, 0, [], x.made, 0⟩
def opK (x : Tn) : Opn := ⟨3, x.same, x.path, 0, 0, [], 0, 0⟩
def opC1 (x : Tn) : Opn := ⟨1, x.path, emp, 0, 0, [], x.made, 0⟩
/-- A node is made. -/
noncomputable def fillT (T : PT) (x : Tn) : PT × Nat :=
  if x.kind = 2 then ((T.run (opM x)).1, (T.run (opM x)).2.code) else if x.same ≠ emp then ((T.run (opK x)).1, (T.run (opK x)).2.code) else
  if (T.run (opC1 x)).2.code ≠ 0 then ((T.run (opC1 x)).1, (T.run (opC1 x)).2.code) else layT x.path x.data 1100 (T.run (opC1 x)).1 0
/-- Nodes are made, from some on; how many, the code. -/
noncomputable def fillsT : List Tn → Nat → List (ByteArray × Unit) → PT → PT × Nat × Nat
  | [], k, _, T => (T, k, 0)
  | x :: r, k, fs, T => if mayT x fs = false then (T, k, 171) else if (fillT T x).2 ≠ 0 then ((fillT T x).1, k, (fillT T x).2) else fillsT r (k + 1) (if x.kind = 1 then putS strK x.path () fs else fs) (fillT T x).1
noncomputable def PT.fill (T : PT) (l : List Tn) : PT × Nat × Nat := fillsT l 0 [] T
def oneV (_ : Unit) : Value := .int .i64 1
set_option maxHeartbeats 3200000 in
set_option maxRecDepth 100000 in
theorem may_any (x : Tn) (A : Option Addr) (c fb : Nat) (fs : List (ByteArray × Unit)) (w : World) (hm : MapAt w strK oneV 9 fb fs) (hs : x.same.size ≤ 1000000000) (hd : x.data.length ≤ 1000000000000) :
    Calls Tryz.prog 37 #[.agg (ndC x.path x.kind x.made x.same A x.data.length c).toArray, .map (some fb)] w fun e w' => e = .returned (.bool (mayT x fs)) ∧ Below w.heap.size w w' := by
  obtain ⟨rb, hrb⟩ : ∃ rb, mayT x fs = rb := ⟨_, rfl⟩
  rw [hrb]
  have hrbH := Lib.hid hrb
  have hm1 : MapAt (w.alloc (.cells (ndC x.path x.kind x.made x.same A x.data.length c).toArray 75)) strK oneV 9 fb fs := hm.chg ((Chg.refl (fun _ => False) w).alloc _) id
  have hzv : (zeroValue 3).run Tryz.prog (w.alloc (.cells (ndC x.path x.kind x.made x.same A x.data.length c).toArray 75)) = .ok (.int .i64 0) (w.alloc (.cells (ndC x.path x.kind x.made x.same A x.data.length c).toArray 75)) := by kernel_rfl
  have lk := hm1.look (t := 101) kStr Tryz.underlying101 hzv (keyS x.same (by unfold maxLen; omega))
  have hb0 : Below w.heap.size w (w.alloc (.cells (ndC x.path x.kind x.made x.same A x.data.length c).toArray 75)) := (Below.refl _ _).alloc (Nat.le_refl _) _
  have hb0H := Lib.hid hb0
  have hlv : orV oneV (.int .i64 0) (getS x.same fs) = .int .i64 (if (getS x.same fs).isSome = true then 1 else 0) := by cases getS x.same fs <;> rfl
  rw [hlv] at lk
  simp only [strK] at lk
  obtain ⟨pa, ki, ma, sa, da⟩ := x
  simp only at *
  obtain ⟨len, hlen⟩ : ∃ len, da.length = len := ⟨_, rfl⟩
  have hlenH := Lib.hid hlen
  have hnil : da = [] ↔ len = 0 := by rw [← hlen]; exact List.length_eq_zero_iff.symm
  have hnilH := Lib.hid hnil
  simp only [hlen] at lk hb0H ⊢
  clear hrb hm hm1 hzv hb0 hlv hlen hnil
  unfold ndC at *
  go_enter Tryz.func37, Tryz.ntmps37
  by_cases h1 : ma < 0
  · have t1 : decide (ma < 0) = true := by simpa using h1
    have hv : rb = false := by rw [← hrbH.out]; unfold mayT; rw [if_pos (.inl h1)]
    subst hv
    clear hrbH lk
    go_wp2
    go_ret
    exact ⟨rfl, hb0H.out⟩
  have t1 : decide (ma < 0) = false := by simpa using h1
  by_cases h2 : 1099511627776 < ma
  · have t2 : decide (1099511627776 < ma) = true := by simpa using h2
    have hv : rb = false := by rw [← hrbH.out]; unfold mayT; rw [if_pos (.inr (.inl h2))]
    subst hv
    clear hrbH lk
    go_wp2
    go_ret
    exact ⟨rfl, hb0H.out⟩
  have t2 : decide (1099511627776 < ma) = false := by simpa using h2
  by_cases h3 : 136704 < len
  · have t3 : decide (136704 < (len : Int)) = true := by simp; omega
    have hv : rb = false := by rw [← hrbH.out]; unfold mayT; rw [if_pos (.inr (.inr (by show 136704 < da.length; rw [hlenH.out]; exact h3)))]
    subst hv
    clear hrbH lk
    go_wp2
    go_ret
    exact ⟨rfl, hb0H.out⟩
  have t3 : decide (136704 < (len : Int)) = false := by simp; omega
  have hr2 : Hid (rb = if ki = 2 then decide (sa = emp) && decide (da = []) else if ki ≠ 1 then false else decide (sa = emp) || (decide (da = []) && (getS sa fs).isSome)) := Lib.hid (by
    rw [← hrbH.out]
    unfold mayT
    rw [if_neg (by simp only; rw [hlenH.out]; omega)])
  clear hrbH h1 h2 h3
  by_cases k2 : ki = 2
  · have s2 : (ki == 2) = true := by simpa using k2
    by_cases hs : sa = emp
    · have t4 : sa.toList.isEmpty = true := isE_yes hs
      by_cases hl : len = 0
      · have t5 : ((len : Int) == 0) = true := by simp; omega
        have hv : rb = true := by rw [hr2.out, if_pos k2]; simp [hs, hnilH.out.2 hl]
        subst hv
        clear hr2 lk k2 hs hl
        go_wp2
        go_ret
        exact ⟨rfl, hb0H.out⟩
      · have t5 : ((len : Int) == 0) = false := by simp; omega
        have hv : rb = false := by rw [hr2.out, if_pos k2]; simp [hs]; exact fun h => hl (hnilH.out.1 h)
        subst hv
        clear hr2 lk k2 hs hl
        go_wp2
        go_ret
        exact ⟨rfl, hb0H.out⟩
    · have t4 : sa.toList.isEmpty = false := isE_no hs
      have hv : rb = false := by rw [hr2.out, if_pos k2]; simp [hs]
      subst hv
      clear hr2 lk k2 hs
      go_wp2
      go_ret
      exact ⟨rfl, hb0H.out⟩
  have s2 : (ki == 2) = false := by simpa using k2
  by_cases k1 : ki = 1
  case neg =>
    have s1 : (ki != 1) = true := by simpa using k1
    have hv : rb = false := by rw [hr2.out, if_neg k2, if_pos k1]
    subst hv
    clear hr2 lk k2 k1
    go_wp2
    go_ret
    exact ⟨rfl, hb0H.out⟩
  have s1 : (ki != 1) = false := by simpa using k1
  by_cases hs : sa = emp
  · have t4 : sa.toList.isEmpty = true := isE_yes hs
    have hv : rb = true := by rw [hr2.out, if_neg k2, if_neg (by simpa using k1)]; simp [hs]
    subst hv
    clear hr2 lk k2 k1 hs
    go_wp2
    go_ret
    exact ⟨rfl, hb0H.out⟩
  have t4 : sa.toList.isEmpty = false := isE_no hs
  by_cases hl : len = 0
  case neg =>
    have t5 : ((len : Int) == 0) = false := by simp; omega
    have hv : rb = false := by rw [hr2.out, if_neg k2, if_neg (by simpa using k1)]; simp [hs]; exact fun h => absurd (hnilH.out.1 h) hl
    subst hv
    clear hr2 lk k2 k1 hs hl
    go_wp2
    go_ret
    exact ⟨rfl, hb0H.out⟩
  have t5 : ((len : Int) == 0) = true := by simp; omega
  cases hg : (getS sa fs).isSome with
  | true =>
    rw [hg] at lk
    simp only [if_true] at lk
    have hv : rb = true := by rw [hr2.out, if_neg k2, if_neg (by simpa using k1)]; simp [hg, hnilH.out.2 hl]
    subst hv
    clear hr2 k2 k1 hs hl
    go_wp2
    go_ret
    exact ⟨rfl, hb0H.out⟩
  | false =>
    rw [hg] at lk
    simp only [Bool.false_eq_true, if_false] at lk
    have hv : rb = false := by rw [hr2.out, if_neg k2, if_neg (by simpa using k1)]; simp [hg, hs]
    subst hv
    clear hr2 k2 k1 hs hl
    go_wp2
    go_ret
    exact ⟨rfl, hb0H.out⟩
/-- A question to a tree in memory whose operation has no bytes. -/
theorem ask_0 (own : Nat → Option Role) (lay : Nat → NA) (p mb : Nat) (T : PT) (m0 : Int) (w : World) (h : PlainAt w own lay p mb T) (hI : T.Inv) (hm : w.cell? ⟨0, 0, none⟩ = some (.int .i64 m0)) (k : Int) (a b : ByteArray) (md : Int) (ha : a.size ≤ 100000) (hb : b.size ≤ 100000) :
    Calls Tryz.prog 51 #[.iface 25 (.pointer (some ⟨p, 0, none⟩)), .agg #[.int .i64 k, .string a, .string b, .int .i64 0, .int .i64 0, .slice none 0 0, .int .i64 md, .int .i64 0]] w (AskT own p mb (T.run ⟨k, a, b, 0, 0, [], md, 0⟩) w) :=
  ask_t own lay p mb T ⟨k, a, b, 0, 0, [], md, 0⟩ none 0 m0 w h hI.wf ⟨Sees.nil, Nat.le_refl _, (by decide : (0 : Nat) < 1000000000000), ⟨(by decide : (0 : Int) ≤ 9223372036854775807), (by decide : (-9223372036854775808 : Int) ≤ 0)⟩, ⟨(by decide : (0 : Int) ≤ 9223372036854775807), (by decide : (-9223372036854775808 : Int) ≤ 0)⟩, Nat.le_trans ha (by decide), Nat.le_trans hb (by decide)⟩ hm
set_option maxHeartbeats 6400000 in
set_option maxRecDepth 100000 in
theorem dfill1_any (own : Nat → Option Role) (lay : Nat → NA) (p mb : Nat) (T : PT) (m0 : Int) (w : World) (h : PlainAt w own lay p mb T) (hI : T.Inv) (hm : w.cell? ⟨0, 0, none⟩ = some (.int .i64 m0)) (ho0 : own 0 = none)
    (x : Tn) (A : Option Addr) (c : Nat) (hs : Sees w w.heap.size 1 A x.data.length (bvs x.data)) (hoff : Off own A x.data.length) (hc : x.data.length ≤ c) (hd : x.data.length ≤ 136704) (hp : x.path.size ≤ 100000) (hsm : x.same.size ≤ 100000) (hk : x.kind = 1 ∨ x.kind = 2) :
    Calls Tryz.prog 38 #[ifV p, .agg (ndC x.path x.kind x.made x.same A x.data.length c).toArray] w (LayP own p mb (fillT T x) w) := by
  obtain ⟨R, hR⟩ : ∃ R, fillT T x = R := ⟨_, rfl⟩
  rw [hR]
  have hRH := Lib.hid hR.symm
  have hask := fun W hW (k : Int) (a b : ByteArray) (md : Int) ha hb => ask_0 own lay p mb T m0 W (h.fresh hW) hI ((hW.cell (p := ⟨0, 0, none⟩) (World.block_lt_of_cell? _ _ hm)).trans hm) k a b md ha hb
  have haskH := Lib.hid hask
  have hltH := Lib.hid h.lt
  have hIH := Lib.hid hI
  have hmH := Lib.hid hm
  have hsH := Lib.hid hs
  have hoH := Lib.hid hoff
  have hlay := fun own1 lay1 T1 W h1 hI1 hm1 ho1 hs1 hoff1 => dlay_any own1 lay1 p mb T1 m0 W h1 hI1 hm1 ho1 x.path x.kind x.made x.same A c x.data hs1 hoff1 hc hd hp
  have hlayH := Lib.hid hlay
  clear hR hask h hI hm hs hoff hlay
  unfold fillT opM opK opC1 at hRH
  obtain ⟨pa, ki, ma, sa, da⟩ := x
  simp only at *
  obtain ⟨len, hlen⟩ : ∃ len, da.length = len := ⟨_, rfl⟩
  simp only [hlen] at hd hc hsH hoH hlayH ⊢
  have hlenH := Lib.hid hlen
  clear hlen
  unfold ifV ndC
  go_enter Tryz.func38, Tryz.ntmps38
  -- CASES
  by_cases k2 : ki = 2
  · subst k2
    have s2 : ((2 : Int) == 2) = true := rfl
    go_upto_region 6 with (fail)
    have hN0 : Blk ((w.alloc (.cells [.string pa, .int .i64 2, .int .i64 ma, .string sa, .slice A len c].toArray 75)).alloc (.cells [.int .i64 2, .string pa, .string ⟨#[]⟩, .int .i64 0, .int .i64 0, .slice none 0 0, .int .i64 ma, .int .i64 0].toArray 70)) w.heap.size 75 [.string pa, .int .i64 2, .int .i64 ma, .string sa, .slice A len c] := (Blk.new w _ _).alloc _
    have hQ0 : Blk ((w.alloc (.cells [.string pa, .int .i64 2, .int .i64 ma, .string sa, .slice A len c].toArray 75)).alloc (.cells [.int .i64 2, .string pa, .string ⟨#[]⟩, .int .i64 0, .int .i64 0, .slice none 0 0, .int .i64 ma, .int .i64 0].toArray 70)) (w.heap.size + 1) 70 [.int .i64 2, .string pa, .string ⟨#[]⟩, .int .i64 0, .int .i64 0, .slice none 0 0, .int .i64 ma, .int .i64 0] := by
      have h9 := Blk.new (w.alloc (.cells [.string pa, .int .i64 2, .int .i64 ma, .string sa, .slice A len c].toArray 75)) 70 [.int .i64 2, .string pa, .string ⟨#[]⟩, .int .i64 0, .int .i64 0, .slice none 0 0, .int .i64 ma, .int .i64 0]
      simpa using h9
    have hb0 : Below w.heap.size w ((w.alloc (.cells [.string pa, .int .i64 2, .int .i64 ma, .string sa, .slice A len c].toArray 75)).alloc (.cells [.int .i64 2, .string pa, .string ⟨#[]⟩, .int .i64 0, .int .i64 0, .slice none 0 0, .int .i64 ma, .int .i64 0].toArray 70)) := ((Below.refl _ _).alloc (Nat.le_refl _) _).alloc (by simp) _
    change Code.wp _ _ _ _ ((w.alloc (.cells [.string pa, .int .i64 2, .int .i64 ma, .string sa, .slice A len c].toArray 75)).alloc (.cells [.int .i64 2, .string pa, .string ⟨#[]⟩, .int .i64 0, .int .i64 0, .slice none 0 0, .int .i64 ma, .int .i64 0].toArray 70))
    generalize (w.alloc (.cells [.string pa, .int .i64 2, .int .i64 ma, .string sa, .slice A len c].toArray 75)).alloc (.cells [.int .i64 2, .string pa, .string ⟨#[]⟩, .int .i64 0, .int .i64 0, .slice none 0 0, .int .i64 ma, .int .i64 0].toArray 70) = w0 at *
    obtain ⟨g, hgE⟩ : ∃ g, w.heap.size = g := ⟨_, rfl⟩
    have hog : own g = none ∧ own (g + 1) = none := by
      rw [← hgE]
      constructor
      · cases e : own w.heap.size with
        | none => rfl
        | some r => exact absurd (hltH.out _ _ e) (by omega)
      · cases e : own (w.heap.size + 1) with
        | none => rfl
        | some r => exact absurd (hltH.out _ _ e) (by omega)
    have hask := haskH.out w0 hb0 2 pa ⟨#[]⟩ ma hp (by decide)
    obtain ⟨r, hr⟩ : ∃ r, T.run ⟨2, pa, ⟨#[]⟩, 0, 0, [], ma, 0⟩ = r := ⟨_, rfl⟩
    rw [hr] at hask
    have hrH := Lib.hid hr
    obtain ⟨T2, an⟩ := r
    have hR2 := hRH.out
    rw [if_pos rfl, show (⟨2, pa, emp, 0, 0, [], ma, 0⟩ : Opn) = ⟨2, pa, ⟨#[]⟩, 0, 0, [], ma, 0⟩ from rfl, hr] at hR2
    have hR2H := Lib.hid hR2
    rw [hgE] at hN0 hQ0
    simp only [hgE]
    have hb0H := Lib.hid hb0
    have hgH := Lib.hid hgE
    have hogH := Lib.hid hog
    have hQH := Lib.hid hQ0
    have hNH := Lib.hid hN0
    have yc := fun j => hQ0.cell j
    have y0 := yc 0
    have y1 := yc 1
    have y2 := yc 2
    have y3 := yc 3
    have y4 := yc 4
    have y5 := yc 5
    have y6 := yc 6
    have y7 := yc 7
    simp only [List.getElem?_cons_succ, List.getElem?_cons_zero] at y0 y1 y2 y3 y4 y5 y6 y7
    clear hr hR2 hgE hog hN0 hQ0 hb0 yc
    go_upto_region 7 with (first
      | (go_at_call 51; refine hask.mono ?_; rintro e w6 ⟨v6, rfl, hA6, hT6⟩; obtain ⟨dA, dc, eA, ec, rfl, -, -⟩ := hA6; have hT6H := Lib.hid hT6; have hN6 := Blk.new w6 67 zAns; clear hT6)
      | (refine wpList_store_row rfl 67 (.tmp 6) (.tmp 31) rfl w6.heap.size (ansC an.code an.stat (.slice dA an.data.length dc) (.slice eA an.ents.length ec)).toArray rfl (by rfl) 67 _ hN6 rfl rfl (one10s _ _ _ _ _ _ _ _) ?_))
    have hb7 : Below w6.heap.size w6 ((w6.alloc (.cells zAns.toArray 67)).setRow w6.heap.size (ansC an.code an.stat (.slice dA an.data.length dc) (.slice eA an.ents.length ec)).toArray) := ((Chg.refl (fun b => w6.heap.size ≤ b) w6).alloc _ |>.setRow (fun _ => Nat.le_refl _) _).below (Nat.le_refl _) fun b hb e => by omega
    have hT7 := hT6H.out.then_ hb7
    change Code.wp _ _ _ _ ((w6.alloc (.cells zAns.toArray 67)).setRow w6.heap.size (ansC an.code an.stat (.slice dA an.data.length dc) (.slice eA an.ents.length ec)).toArray)
    generalize (w6.alloc (.cells zAns.toArray 67)).setRow w6.heap.size (ansC an.code an.stat (.slice dA an.data.length dc) (.slice eA an.ents.length ec)).toArray = w7 at *
    obtain ⟨own7, lay7, hP7, hE7, hC7⟩ := hT7
    have hQ7 := hQH.out.chg hC7 (fun hh => hh hogH.out.2)
    have x0 := hQ7.cell 0
    simp only [List.getElem?_cons_zero] at x0
    have hfin : Hid (PTurn own p mb T2 w w7) := Lib.hid (PTurn.fst (Ext.refl _ _) (Chg.of_fresh hb0H.out) ⟨own7, lay7, hP7, hE7, hC7⟩)
    have hP7H := Lib.hid hP7
    have hE7H := Lib.hid hE7
    have hC7H := Lib.hid hC7
    clear hN6 hb7 hask y0 y1 y2 y3 y4 y5 y6 y7 hQ7 hP7 hE7 hC7 hT6H
    by_cases hcd : an.code = 0
    · have hne : ((an.code : Int) != 0) = false := by simp; omega
      clear hcd
      go_wp2
      go_ret
      rw [hR2H.out]
      exact ⟨rfl, hfin.out⟩
    · have hne : ((an.code : Int) != 0) = true := by simp; omega
      clear hcd
      go_wp2
      go_ret
      rw [hR2H.out]
      exact ⟨rfl, hfin.out⟩
  · have k1 : ki = 1 := by rcases hk with h | h; exact h; exact absurd h k2
    subst k1
    have s2 : ((1 : Int) == 2) = false := rfl
    clear k2 hk
    by_cases hsa : sa = emp
    case neg =>
      have t4 : sa.toList.isEmpty = false := isE_no hsa
      go_upto_region 6 with (fail)
      have hN0 : Blk ((w.alloc (.cells [.string pa, .int .i64 1, .int .i64 ma, .string sa, .slice A len c].toArray 75)).alloc (.cells [.int .i64 3, .string sa, .string pa, .int .i64 0, .int .i64 0, .slice none 0 0, .int .i64 0, .int .i64 0].toArray 70)) w.heap.size 75 [.string pa, .int .i64 1, .int .i64 ma, .string sa, .slice A len c] := (Blk.new w _ _).alloc _
      have hQ0 : Blk ((w.alloc (.cells [.string pa, .int .i64 1, .int .i64 ma, .string sa, .slice A len c].toArray 75)).alloc (.cells [.int .i64 3, .string sa, .string pa, .int .i64 0, .int .i64 0, .slice none 0 0, .int .i64 0, .int .i64 0].toArray 70)) (w.heap.size + 1) 70 [.int .i64 3, .string sa, .string pa, .int .i64 0, .int .i64 0, .slice none 0 0, .int .i64 0, .int .i64 0] := by
        have h9 := Blk.new (w.alloc (.cells [.string pa, .int .i64 1, .int .i64 ma, .string sa, .slice A len c].toArray 75)) 70 [.int .i64 3, .string sa, .string pa, .int .i64 0, .int .i64 0, .slice none 0 0, .int .i64 0, .int .i64 0]
        simpa using h9
      have hb0 : Below w.heap.size w ((w.alloc (.cells [.string pa, .int .i64 1, .int .i64 ma, .string sa, .slice A len c].toArray 75)).alloc (.cells [.int .i64 3, .string sa, .string pa, .int .i64 0, .int .i64 0, .slice none 0 0, .int .i64 0, .int .i64 0].toArray 70)) := ((Below.refl _ _).alloc (Nat.le_refl _) _).alloc (by simp) _
      change Code.wp _ _ _ _ ((w.alloc (.cells [.string pa, .int .i64 1, .int .i64 ma, .string sa, .slice A len c].toArray 75)).alloc (.cells [.int .i64 3, .string sa, .string pa, .int .i64 0, .int .i64 0, .slice none 0 0, .int .i64 0, .int .i64 0].toArray 70))
      generalize (w.alloc (.cells [.string pa, .int .i64 1, .int .i64 ma, .string sa, .slice A len c].toArray 75)).alloc (.cells [.int .i64 3, .string sa, .string pa, .int .i64 0, .int .i64 0, .slice none 0 0, .int .i64 0, .int .i64 0].toArray 70) = w0 at *
      obtain ⟨g, hgE⟩ : ∃ g, w.heap.size = g := ⟨_, rfl⟩
      have hog : own g = none ∧ own (g + 1) = none := by
        rw [← hgE]
        constructor
        · cases e : own w.heap.size with
          | none => rfl
          | some r => exact absurd (hltH.out _ _ e) (by omega)
        · cases e : own (w.heap.size + 1) with
          | none => rfl
          | some r => exact absurd (hltH.out _ _ e) (by omega)
      have hask := haskH.out w0 hb0 3 sa pa 0 hsm hp
      obtain ⟨r, hr⟩ : ∃ r, T.run ⟨3, sa, pa, 0, 0, [], 0, 0⟩ = r := ⟨_, rfl⟩
      rw [hr] at hask
      have hrH := Lib.hid hr
      obtain ⟨T2, an⟩ := r
      have hR2 := hRH.out
      rw [if_neg (by decide), if_pos hsa, hr] at hR2
      have hR2H := Lib.hid hR2
      rw [hgE] at hN0 hQ0
      simp only [hgE]
      have hb0H := Lib.hid hb0
      have hgH := Lib.hid hgE
      have hogH := Lib.hid hog
      have hQH := Lib.hid hQ0
      have hNH := Lib.hid hN0
      have yc := fun j => hQ0.cell j
      have y0 := yc 0
      have y1 := yc 1
      have y2 := yc 2
      have y3 := yc 3
      have y4 := yc 4
      have y5 := yc 5
      have y6 := yc 6
      have y7 := yc 7
      simp only [List.getElem?_cons_succ, List.getElem?_cons_zero] at y0 y1 y2 y3 y4 y5 y6 y7
      clear hr hR2 hgE hog hN0 hQ0 hb0 yc
      go_upto_region 7 with (first
        | (go_at_call 51; refine hask.mono ?_; rintro e w6 ⟨v6, rfl, hA6, hT6⟩; obtain ⟨dA, dc, eA, ec, rfl, -, -⟩ := hA6; have hT6H := Lib.hid hT6; have hN6 := Blk.new w6 67 zAns; clear hT6)
        | (refine wpList_store_row rfl 67 (.tmp 6) (.tmp 31) rfl w6.heap.size (ansC an.code an.stat (.slice dA an.data.length dc) (.slice eA an.ents.length ec)).toArray rfl (by rfl) 67 _ hN6 rfl rfl (one10s _ _ _ _ _ _ _ _) ?_))
      have hb7 : Below w6.heap.size w6 ((w6.alloc (.cells zAns.toArray 67)).setRow w6.heap.size (ansC an.code an.stat (.slice dA an.data.length dc) (.slice eA an.ents.length ec)).toArray) := ((Chg.refl (fun b => w6.heap.size ≤ b) w6).alloc _ |>.setRow (fun _ => Nat.le_refl _) _).below (Nat.le_refl _) fun b hb e => by omega
      have hT7 := hT6H.out.then_ hb7
      change Code.wp _ _ _ _ ((w6.alloc (.cells zAns.toArray 67)).setRow w6.heap.size (ansC an.code an.stat (.slice dA an.data.length dc) (.slice eA an.ents.length ec)).toArray)
      generalize (w6.alloc (.cells zAns.toArray 67)).setRow w6.heap.size (ansC an.code an.stat (.slice dA an.data.length dc) (.slice eA an.ents.length ec)).toArray = w7 at *
      obtain ⟨own7, lay7, hP7, hE7, hC7⟩ := hT7
      have hQ7 := hQH.out.chg hC7 (fun hh => hh hogH.out.2)
      have x0 := hQ7.cell 0
      simp only [List.getElem?_cons_zero] at x0
      have hfin : Hid (PTurn own p mb T2 w w7) := Lib.hid (PTurn.fst (Ext.refl _ _) (Chg.of_fresh hb0H.out) ⟨own7, lay7, hP7, hE7, hC7⟩)
      have hP7H := Lib.hid hP7
      have hE7H := Lib.hid hE7
      have hC7H := Lib.hid hC7
      clear hN6 hb7 hask y0 y1 y2 y3 y4 y5 y6 y7 hQ7 hP7 hE7 hC7 hT6H
      by_cases hcd : an.code = 0
      · have hne : ((an.code : Int) != 0) = false := by simp; omega
        clear hcd
        go_wp2
        go_ret
        rw [hR2H.out]
        exact ⟨rfl, hfin.out⟩
      · have hne : ((an.code : Int) != 0) = true := by simp; omega
        clear hcd
        go_wp2
        go_ret
        rw [hR2H.out]
        exact ⟨rfl, hfin.out⟩
    case pos =>
      have t4 : sa.toList.isEmpty = true := isE_yes hsa
      have hsaH := Lib.hid hsa
      clear hsa
      go_upto_region 6 with (fail)
      have hN0 : Blk ((w.alloc (.cells [.string pa, .int .i64 1, .int .i64 ma, .string sa, .slice A len c].toArray 75)).alloc (.cells [.int .i64 1, .string pa, .string ⟨#[]⟩, .int .i64 0, .int .i64 0, .slice none 0 0, .int .i64 ma, .int .i64 0].toArray 70)) w.heap.size 75 [.string pa, .int .i64 1, .int .i64 ma, .string sa, .slice A len c] := (Blk.new w _ _).alloc _
      have hQ0 : Blk ((w.alloc (.cells [.string pa, .int .i64 1, .int .i64 ma, .string sa, .slice A len c].toArray 75)).alloc (.cells [.int .i64 1, .string pa, .string ⟨#[]⟩, .int .i64 0, .int .i64 0, .slice none 0 0, .int .i64 ma, .int .i64 0].toArray 70)) (w.heap.size + 1) 70 [.int .i64 1, .string pa, .string ⟨#[]⟩, .int .i64 0, .int .i64 0, .slice none 0 0, .int .i64 ma, .int .i64 0] := by
        have h9 := Blk.new (w.alloc (.cells [.string pa, .int .i64 1, .int .i64 ma, .string sa, .slice A len c].toArray 75)) 70 [.int .i64 1, .string pa, .string ⟨#[]⟩, .int .i64 0, .int .i64 0, .slice none 0 0, .int .i64 ma, .int .i64 0]
        simpa using h9
      have hb0 : Below w.heap.size w ((w.alloc (.cells [.string pa, .int .i64 1, .int .i64 ma, .string sa, .slice A len c].toArray 75)).alloc (.cells [.int .i64 1, .string pa, .string ⟨#[]⟩, .int .i64 0, .int .i64 0, .slice none 0 0, .int .i64 ma, .int .i64 0].toArray 70)) := ((Below.refl _ _).alloc (Nat.le_refl _) _).alloc (by simp) _
      change Code.wp _ _ _ _ ((w.alloc (.cells [.string pa, .int .i64 1, .int .i64 ma, .string sa, .slice A len c].toArray 75)).alloc (.cells [.int .i64 1, .string pa, .string ⟨#[]⟩, .int .i64 0, .int .i64 0, .slice none 0 0, .int .i64 ma, .int .i64 0].toArray 70))
      generalize (w.alloc (.cells [.string pa, .int .i64 1, .int .i64 ma, .string sa, .slice A len c].toArray 75)).alloc (.cells [.int .i64 1, .string pa, .string ⟨#[]⟩, .int .i64 0, .int .i64 0, .slice none 0 0, .int .i64 ma, .int .i64 0].toArray 70) = w0 at *
      obtain ⟨g, hgE⟩ : ∃ g, w.heap.size = g := ⟨_, rfl⟩
      have hog : own g = none ∧ own (g + 1) = none := by
        rw [← hgE]
        constructor
        · cases e : own w.heap.size with
          | none => rfl
          | some r => exact absurd (hltH.out _ _ e) (by omega)
        · cases e : own (w.heap.size + 1) with
          | none => rfl
          | some r => exact absurd (hltH.out _ _ e) (by omega)
      have hask := haskH.out w0 hb0 1 pa ⟨#[]⟩ ma hp (by decide)
      obtain ⟨r, hr⟩ : ∃ r, T.run ⟨1, pa, ⟨#[]⟩, 0, 0, [], ma, 0⟩ = r := ⟨_, rfl⟩
      rw [hr] at hask
      have hrH := Lib.hid hr
      obtain ⟨T2, an⟩ := r
      have hR2 := hRH.out
      rw [if_neg (by decide), if_neg (by simpa using hsaH.out), show (⟨1, pa, emp, 0, 0, [], ma, 0⟩ : Opn) = ⟨1, pa, ⟨#[]⟩, 0, 0, [], ma, 0⟩ from rfl, hr] at hR2
      have hR2H := Lib.hid hR2
      rw [hgE] at hN0 hQ0
      simp only [hgE]
      have hb0H := Lib.hid hb0
      have hgH := Lib.hid hgE
      have hogH := Lib.hid hog
      have hQH := Lib.hid hQ0
      have hNH := Lib.hid hN0
      have yc := fun j => hQ0.cell j
      have y0 := yc 0
      have y1 := yc 1
      have y2 := yc 2
      have y3 := yc 3
      have y4 := yc 4
      have y5 := yc 5
      have y6 := yc 6
      have y7 := yc 7
      simp only [List.getElem?_cons_succ, List.getElem?_cons_zero] at y0 y1 y2 y3 y4 y5 y6 y7
      clear hr hR2 hgE hog hN0 hQ0 hb0 yc
      go_upto_region 7 with (first
        | (go_at_call 51; refine hask.mono ?_; rintro e w6 ⟨v6, rfl, hA6, hT6⟩; obtain ⟨dA, dc, eA, ec, rfl, -, -⟩ := hA6; have hT6H := Lib.hid hT6; have hN6 := Blk.new w6 67 zAns; clear hT6)
        | (refine wpList_store_row rfl 67 (.tmp 6) (.tmp 31) rfl w6.heap.size (ansC an.code an.stat (.slice dA an.data.length dc) (.slice eA an.ents.length ec)).toArray rfl (by rfl) 67 _ hN6 rfl rfl (one10s _ _ _ _ _ _ _ _) ?_))
      have hb7 : Below w6.heap.size w6 ((w6.alloc (.cells zAns.toArray 67)).setRow w6.heap.size (ansC an.code an.stat (.slice dA an.data.length dc) (.slice eA an.ents.length ec)).toArray) := ((Chg.refl (fun b => w6.heap.size ≤ b) w6).alloc _ |>.setRow (fun _ => Nat.le_refl _) _).below (Nat.le_refl _) fun b hb e => by omega
      have hT7 := hT6H.out.then_ hb7
      change Code.wp _ _ _ _ ((w6.alloc (.cells zAns.toArray 67)).setRow w6.heap.size (ansC an.code an.stat (.slice dA an.data.length dc) (.slice eA an.ents.length ec)).toArray)
      generalize (w6.alloc (.cells zAns.toArray 67)).setRow w6.heap.size (ansC an.code an.stat (.slice dA an.data.length dc) (.slice eA an.ents.length ec)).toArray = w7 at *
      obtain ⟨own7, lay7, hP7, hE7, hC7⟩ := hT7
      have hQ7 := hQH.out.chg hC7 (fun hh => hh hogH.out.2)
      have x0 := hQ7.cell 0
      simp only [List.getElem?_cons_zero] at x0
      have hfin : Hid (PTurn own p mb T2 w w7) := Lib.hid (PTurn.fst (Ext.refl _ _) (Chg.of_fresh hb0H.out) ⟨own7, lay7, hP7, hE7, hC7⟩)
      have hP7H := Lib.hid hP7
      have hE7H := Lib.hid hE7
      have hC7H := Lib.hid hC7
      clear hN6 hb7 hask y0 y1 y2 y3 y4 y5 y6 y7 hQ7 hP7 hE7 hC7 hT6H
      by_cases hcd : an.code = 0
      · have hne : ((an.code : Int) != 0) = false := by simp; omega
        have hR3 : Hid (R = layT pa da 1100 T2 0) := Lib.hid (by rw [hR2H.out, if_neg (by simpa using hcd)])
        have hI2 : Hid T2.Inv := Lib.hid (by have h9 := inv_run hIH.out ⟨1, pa, ⟨#[]⟩, 0, 0, [], ma, 0⟩; rw [hrH.out] at h9; exact h9)
        have hnew : Hid (∀ b, b < w0.heap.size → own b = none → own7 b = none) := Lib.hid fun b hb e => by
          cases e7 : own7 b with
          | none => rfl
          | some r => rcases hE7H.out.new b r e7 with e2 | e2
                      · rw [e] at e2; cases e2
                      · omega
        have hs0 := hsH.out.below hb0H.out
        have hs7 := (hs0.chgS (by decide) hC7H.out (fun b off e hn hh => hh (hoH.out b off e hn))).more (Nat.le_trans hb0H.out.size hC7H.out.size)
        have h00 : 0 < w0.heap.size := Nat.lt_of_lt_of_le (World.block_lt_of_cell? _ _ hmH.out) hb0H.out.size
        have hcl := hlayH.out own7 lay7 T2 w7 hP7H.out hI2.out ((hC7H.out.cell (p := ⟨0, 0, none⟩) h00 (fun hh => hh ho0)).trans ((hb0H.out.cell (p := ⟨0, 0, none⟩) (World.block_lt_of_cell? _ _ hmH.out)).trans hmH.out)) (hnew.out 0 h00 ho0) hs7 (fun b off e hn => by
          obtain ⟨b', off', e', hb', hcl'⟩ := hsH.out.at_ hn
          rw [e] at e'
          have e' := Option.some.inj e'
          injection e' with e1 e2
          exact hnew.out b (by rw [e1]; exact Nat.lt_of_lt_of_le hb' hb0H.out.size) (hoH.out b off e hn))
        unfold ifV ndC at hcl
        have hN7 := hNH.out.chg hC7H.out (fun hh => hh hogH.out.1)
        have u0 := hN7.cell 0
        have u1 := hN7.cell 1
        have u2 := hN7.cell 2
        have u3 := hN7.cell 3
        have u4 := hN7.cell 4
        simp only [List.getElem?_cons_succ, List.getElem?_cons_zero] at u0 u1 u2 u3 u4
        clear hcd hN7 hs0 hs7
        go_wp2_with (go_at_call 59; refine hcl.mono ?_; rintro e w8 ⟨rfl, hT8⟩)
        go_ret
        rw [hR3.out]
        exact ⟨rfl, PTurn.fst (Ext.refl _ _) (Chg.of_fresh hb0H.out) (PTurn.fst hE7H.out hC7H.out hT8)⟩
      · have hne : ((an.code : Int) != 0) = true := by simp; omega
        have hR3 : Hid (R = (T2, an.code)) := Lib.hid (by rw [hR2H.out, if_pos (by simpa using hcd)])
        clear hcd
        go_wp2
        go_ret
        rw [hR3.out]
        exact ⟨rfl, hfin.out⟩
#print axioms dfill1_any
end Go.Proofs.YtolpcfhfcdkokaaGreatDoor
