/- Joined out of the texts DEntry. -/
import Derived.Deep.RegionLaw
import Derived.Test.YtolpcfhfcdkokaaGreatDoorM07
import Derived.Test.YtolpcfhfcdkokaaGreatDoorM25
import Derived.Test.YtolpcfhfcdkokaaGreatDoorM34
/-
  Package dump: an entry is told.
-/
namespace Go.Proofs.YtolpcfhfcdkokaaGreatDoor
open Go.RowKit Go.Proofs

theorem under_any (p nm : ByteArray) (w : World) (hp : p.size ≤ 1000000) (hn : nm.size ≤ 1000000) : Calls Tryz.prog 53 #[.string p, .string nm] w fun e w' => e = .returned (.string (undP p nm)) ∧ w = w' := by
  have h1 := fun (W : World) => run_string_add_sum (P := Tryz.prog) (w := W) p ⟨#[47]⟩ (by have : (⟨#[47]⟩ : ByteArray).size = 1 := rfl; omega)
  have h2 := fun (W : World) => run_string_add_sum (P := Tryz.prog) (w := W) (p ++ ⟨#[47]⟩) nm (by rw [ByteArray.size_append]; have : (⟨#[47]⟩ : ByteArray).size = 1 := rfl; omega)
  have h3 := fun (W : World) => run_string_add_sum (P := Tryz.prog) (w := W) ⟨#[]⟩ ⟨#[47]⟩ (by decide)
  have h4 := fun (W : World) => run_string_add_sum (P := Tryz.prog) (w := W) (⟨#[]⟩ ++ ⟨#[47]⟩) nm (by rw [ByteArray.size_append]; have : (⟨#[47]⟩ : ByteArray).size = 1 := rfl; have : (⟨#[]⟩ : ByteArray).size = 0 := rfl; omega)
  obtain ⟨r, hr⟩ : ∃ r, undP p nm = r := ⟨_, rfl⟩
  rw [hr]
  have hrH := Lib.hid hr
  clear hr
  go_enter Tryz.func53, Tryz.ntmps53
  by_cases h : p = slash
  · have t : (p.toList == [47]) = true := by rw [h, toList_data]; rfl
    have hv : r = ⟨#[]⟩ ++ ⟨#[47]⟩ ++ nm := by rw [← hrH.out]; unfold undP; rw [if_pos h]; rfl
    clear h h1 h2
    go_wp2
    go_ret
    exact ⟨(by rw [hv]; rfl), rfl⟩
  · have t : (p.toList == [47]) = false := by
      have : ¬ p.toList = [47] := fun e => h (by rw [toList_data] at e; cases p with | mk d => exact congrArg ByteArray.mk (Array.toList_inj.1 e))
      simpa using this
    have hv : r = p ++ ⟨#[47]⟩ ++ nm := by rw [← hrH.out]; unfold undP; rw [if_neg h]; rfl
    clear h h3 h4
    go_wp2
    go_ret
    exact ⟨(by rw [hv]; rfl), rfl⟩
/-- What a dump has in memory so far. -/
structure DmpAt (p : Nat) (w0 wr : World) (v : Value) (l : List Nd) (s : DS) : Prop where
  below : Below w0.heap.size w0 wr
  wk : Blk wr (w0.heap.size + 1) 89 [ifV p, v, .map (some w0.heap.size)]
  fst : MapAt wr natK Value.string 3 w0.heap.size s.first
  own : OwnN wr (w0.heap.size + 2) v l
  tn : l.map Nd.tn = s.nodes
  fne : ∀ i q, getS i s.first = some q → q ≠ emp
  flen : s.first.length ≤ s.nodes.length
theorem DmpAt.fresh {p : Nat} {w0 wr w1 : World} {v : Value} {l : List Nd} {s : DS} (h : DmpAt p w0 wr v l s) (hb : Below wr.heap.size wr w1) : DmpAt p w0 w1 v l s :=
  ⟨h.below.trans (hb.mono h.below.size), h.wk.fresh hb, h.fst.chg (Chg.of_fresh (S := fun _ => False) hb) id, h.own.fresh hb, h.tn, h.fne, h.flen⟩
/-- What of old memory a dump's step may have changed: the dump's own. -/
structure GrD (B : Nat) (w : World) (v : Value) (w' : World) (v' : Value) : Prop where
  chg : Chg (fun b => b = B ∨ b = B + 1 ∨ v.ownBlock = some b) w w'
  at_ : v'.ownBlock = v.ownBlock ∨ ∃ g, v'.ownBlock = some g ∧ w.heap.size ≤ g
theorem GrD.fresh {B : Nat} {w w' : World} (v : Value) (hb : Below w.heap.size w w') : GrD B w v w' v := ⟨Chg.of_fresh hb, .inl rfl⟩
theorem GrD.trans {B : Nat} {w w1 w2 : World} {v v1 v2 : Value} (h : GrD B w v w1 v1) (k : GrD B w1 v1 w2 v2) : GrD B w v w2 v2 := by
  have hs := h.chg.size
  refine ⟨h.chg.trans k.chg (fun _ _ h => h) fun b hb e => ?_, ?_⟩
  · rcases e with e | e | e
    · exact .inl e
    · exact .inr (.inl e)
    · rcases h.at_ with h1 | ⟨g, h1, h2⟩
      · rw [h1] at e; exact .inr (.inr e)
      · rw [h1] at e; injection e with e; omega
  · rcases k.at_ with k1 | ⟨g, k1, k2⟩
    · rw [k1]; exact h.at_
    · exact .inr ⟨g, k1, by omega⟩
def DmpP (p : Nat) (w0 : World) (v : Value) (wr : World) (r : DS × Nat) (e : Ending) (w' : World) : Prop := e = .returned (.int .i64 (r.2 : Int)) ∧ ∃ v' l, DmpAt p w0 w' v' l r.1 ∧ GrD w0.heap.size wr v w' v'
/-- One node more in memory. -/
theorem DmpAt.node {p : Nat} {w0 wr w2 : World} {v v' : Value} {l : List Nd} {s s' : DS} {x : Nd} (h : DmpAt p w0 wr v l s) (hx : s'.nodes = s.nodes ++ [x.tn]) (hb : Below w0.heap.size w0 w2) (hk : Blk w2 (w0.heap.size + 1) 89 [ifV p, v', .map (some w0.heap.size)])
    (hf : MapAt w2 natK Value.string 3 w0.heap.size s'.first) (ho : OwnN w2 (w0.heap.size + 2) v' (l ++ [x])) (hn : ∀ i q, getS i s'.first = some q → q ≠ emp) (hl : s'.first.length ≤ s.first.length + 1) : DmpAt p w0 w2 v' (l ++ [x]) s' :=
  ⟨hb, hk, hf, ho, by rw [List.map_append, h.tn, hx]; rfl, hn, by rw [hx, List.length_append, List.length_singleton]; have := h.flen; omega⟩
/-- One node more, appended to the dump's row. -/
theorem DmpAt.push {p B : Nat} {w0 w W1 w4 : World} {v v' : Value} {l : List Nd} {s s' : DS} {x : Nd} (h : DmpAt p w0 w v l s) (hB : w0.heap.size = B) (hc : Chg (fun b => b = B) w W1) (hd : W1.ownsRow w.heap.size 5 1 (ndV x) x.data.length (bvs x.data))
    (ho : w4.ownsRow (B + 2) 75 5 v' (l.length + 1) (ncs l ++ cells5 x)) (hg : W1.grownBy w4 v.ownBlock) (hat : v'.ownBlock = v.ownBlock ∨ v'.ownBlock = some W1.heap.size) (hf : MapAt W1 natK Value.string 3 B s'.first) (hx : s'.nodes = s.nodes ++ [x.tn])
    (hn : ∀ i q, getS i s'.first = some q → q ≠ emp) (hl : s'.first.length ≤ s.first.length + 1) : DmpAt p w0 (w4.setCell ⟨B + 1, 1, none⟩ v') v' (l ++ [x]) s' ∧ GrD B w v (w4.setCell ⟨B + 1, 1, none⟩ v') v' := by
  subst hB
  have hvb : ∀ g, v.ownBlock = some g → w0.heap.size + 2 ≤ g ∧ g < w.heap.size := fun g e => h.own.row.lt g e
  have hsz : w0.heap.size + 2 ≤ w.heap.size := h.wk.lt
  have hcs := hc.size
  have hG : Grows W1 v w4 v' := Grows.of_law (Below.refl _ W1) hg hat (Nat.le_refl _)
  have hO4 : OwnN w4 (w0.heap.size + 2) v' (l ++ [x]) := h.own.step hc (fun b hb e => by omega) hsz hd ho hG
  have hC4 : Chg (fun b => b = w0.heap.size + 1) w4 (w4.setCell ⟨w0.heap.size + 1, 1, none⟩ v') := (Chg.refl (fun b => b = w0.heap.size + 1) w4).setCell (p := ⟨w0.heap.size + 1, 1, none⟩) (fun _ => rfl) v'
  have hk1 : Blk W1 (w0.heap.size + 1) 89 [ifV p, v, .map (some w0.heap.size)] := h.wk.chg hc (by omega)
  have hk4 : Blk w4 (w0.heap.size + 1) 89 [ifV p, v, .map (some w0.heap.size)] := hk1.law hg fun e => by have := (hvb _ e).1; omega
  have hf4 : MapAt w4 natK Value.string 3 w0.heap.size s'.first := hf.chg hG.chg fun e => by have := (hvb _ e).1; omega
  refine ⟨h.node hx ?_ (hk4.set_ 1 v') (hf4.chg hC4 (by omega)) (hO4.chg hC4 fun b hb e => by omega) hn hl, ⟨((hc.mono fun b _ e => .inl e).trans hG.chg (fun _ _ h => h) (fun _ _ e => .inr (.inr e))).trans hC4 (fun _ _ h => h) (fun b _ e => .inr (.inl e)), hG.at_.imp id fun ⟨g, e, hg⟩ => ⟨g, e, by omega⟩⟩⟩
  refine ((h.below.trans (hc.below (B := w0.heap.size) (by omega) fun b hb e => by omega)).trans (hG.chg.below (B := w0.heap.size) (by omega) fun b hb e => ?_)).trans (hC4.below (by have := hG.chg.size; omega) fun b hb e => by omega)
  have := (hvb _ e).1
  omega
theorem ask_S (own : Nat → Option Role) (lay : Nat → NA) (p mb : Nat) (T : PT) (x : ByteArray) (a : Ans) (m0 : Int) (w : World) (h : PlainAt w own lay p mb T) (hT : T.Wf) (hx : x.size ≤ 100000) (hm : w.cell? ⟨0, 0, none⟩ = some (.int .i64 m0)) (ha : (T.run (opS x)).2 = a) :
    Calls Tryz.prog 51 #[ifV p, .agg #[.int .i64 10, .string x, .string ⟨#[]⟩, .int .i64 0, .int .i64 0, .slice none 0 0, .int .i64 0, .int .i64 0]] w (AskA a w) := by
  have h9 := ask_q own lay p mb T (opS x) none 0 m0 w h hT (.inr (.inl rfl)) (fine_S x) ⟨(by decide : (0 : Int) ≤ 9223372036854775807), (by decide : (-9223372036854775808 : Int) ≤ 0)⟩ ⟨(by decide : (0 : Int) ≤ 9223372036854775807), (by decide : (-9223372036854775808 : Int) ≤ 0)⟩ hx hm
  rw [ha] at h9
  exact h9
theorem ask_L (own : Nat → Option Role) (lay : Nat → NA) (p mb : Nat) (T : PT) (x : ByteArray) (a : Ans) (m0 : Int) (w : World) (h : PlainAt w own lay p mb T) (hT : T.Wf) (hx : x.size ≤ 100000) (hm : w.cell? ⟨0, 0, none⟩ = some (.int .i64 m0)) (ha : (T.run (opL x)).2 = a) :
    Calls Tryz.prog 51 #[ifV p, .agg #[.int .i64 11, .string x, .string ⟨#[]⟩, .int .i64 0, .int .i64 0, .slice none 0 0, .int .i64 0, .int .i64 0]] w (AskA a w) := by
  have h9 := ask_q own lay p mb T (opL x) none 0 m0 w h hT (.inr (.inr rfl)) (fine_L x) ⟨(by decide : (0 : Int) ≤ 9223372036854775807), (by decide : (-9223372036854775808 : Int) ≤ 0)⟩ ⟨(by decide : (0 : Int) ≤ 9223372036854775807), (by decide : (-9223372036854775808 : Int) ≤ 0)⟩ hx hm
  rw [ha] at h9
  exact h9
theorem run_bad_S {T : PT} {x : ByteArray} (h : 400 < x.size) : (T.run (opS x)).2 = .err 70 :=
  run_bad (fine_S x) (show ¬ ((10 : Int) = 12 ∨ (10 : Int) = 14) by decide) (show spl x = ([], 70) by unfold spl; rw [if_pos (.inl h)]) (by decide)
theorem run_bad_L {T : PT} {x : ByteArray} (h : 400 < x.size) : (T.run (opL x)).2 = .err 70 :=
  run_bad (fine_L x) (show ¬ ((11 : Int) = 12 ∨ (11 : Int) = 14) by decide) (show spl x = ([], 70) by unfold spl; rw [if_pos (.inl h)]) (by decide)
theorem MapAt.some_blk {w : World} {b : Nat} {s : List (Nat × ByteArray)} (h : MapAt w natK Value.string 3 b s) : b < w.heap.size := h.lt
set_option maxHeartbeats 3200000 in
set_option maxRecDepth 100000 in
theorem dentry_any (own : Nat → Option Role) (lay : Nat → NA) (p mb : Nat) (T : PT) (m0 : Int) (w0 : World) (h0 : PlainAt w0 own lay p mb T) (hT : T.Wf) (hm : w0.cell? ⟨0, 0, none⟩ = some (.int .i64 m0)) (f : Nat)
    (ns : List ByteArray) (j : Nat) (n : PN) (s : DS) (v : Value) (l : List Nd) (wr : World) (hD : DmpAt p w0 wr v l s) (hw : T.walk ns 1 = (j, 0)) (hg : getS j T.nodes = some n) (hc : ∀ x ∈ ns, chk x = true) (hsz : (pth ns).size ≤ 1000)
    (hlist : n.dir = true → ∀ s v l wr, DmpAt p w0 wr v l s → s.nodes.length + (tl T f ns j).length ≤ 1000000 → Calls Tryz.prog 33 #[.pointer (some ⟨w0.heap.size + 1, 0, none⟩), .string (pth ns)] wr (DmpP p w0 v wr (dList T f ns j s)))
    (hcnt : s.nodes.length + (1 + if n.dir = true then (tl T f ns j).length else 0) ≤ 1000000) :
    Calls Tryz.prog 52 #[.pointer (some ⟨w0.heap.size + 1, 0, none⟩), .string (pth ns), .int .i64 n.kind] wr (DmpP p w0 v wr (dEnt T (dList T f) ns j s)) := by
  have hu : dEnt T (dList T f) ns j s = if 400 < (pth ns).size then (s, 70) else if T.isDir j = true then dList T f ns j (T.step s (ns, j)) else (T.step s (ns, j), 0) := rfl
  obtain ⟨R, hR⟩ : ∃ R, dEnt T (dList T f) ns j s = R := ⟨_, rfl⟩
  rw [hR] at hu ⊢
  have hm1 : wr.cell? ⟨0, 0, none⟩ = some (.int .i64 m0) := (hD.below.cell (p := ⟨0, 0, none⟩) (World.block_lt_of_cell? _ _ hm)).trans hm
  have hP1 := h0.fresh hD.below
  obtain ⟨B, hBE⟩ : ∃ B, w0.heap.size = B := ⟨_, rfl⟩
  rw [hBE] at hlist ⊢
  have hBH := Lib.hid hBE
  have hwk := hD.wk
  rw [hBE] at hwk
  have y0 := hwk.cell 0
  simp only [List.getElem?_cons_zero, ifV] at y0
  have hDH := Lib.hid hD
  have hlH := Lib.hid hlist
  clear hR hBE hD hlist hwk
  by_cases hlong : 400 < (pth ns).size
  · rw [if_pos hlong] at hu
    have hcs := ask_S own lay p mb T (pth ns) _ m0 wr hP1 hT (by omega) hm1 (run_bad_S hlong)
    unfold ifV at hcs
    have huH := Lib.hid hu
    obtain ⟨x, hx⟩ : ∃ x, pth ns = x := ⟨_, rfl⟩
    rw [hx] at hcs ⊢
    clear hu hx hP1 hm1 hlong
    go_enter Tryz.func52, Tryz.ntmps52
    go_upto_region 3 with (first
      | (go_at_call 51; refine hcs.mono ?_; rintro e w1 ⟨va, rfl, hA, -, hb1⟩; obtain ⟨dA, dc, eA, ec, rfl, -, -⟩ := hA; simp only [Ans.err, List.length_nil]; have hN1 := Blk.new w1 67 zAns)
      | (refine wpList_store_row rfl 67 (.tmp 7) (.tmp 18) rfl w1.heap.size (ansC 70 st0 (.slice dA 0 dc) (.slice eA 0 ec)).toArray rfl (by rfl) 67 _ hN1 rfl rfl (one10s _ _ _ _ _ _ _ _) ?_))
    have hb2 : Below w1.heap.size w1 ((w1.alloc (.cells zAns.toArray 67)).setRow w1.heap.size (ansC 70 st0 (.slice dA 0 dc) (.slice eA 0 ec)).toArray) := ((Chg.refl (fun b => w1.heap.size ≤ b) w1).alloc _ |>.setRow (fun _ => Nat.le_refl _) _).below (Nat.le_refl _) fun b hb e => by omega
    go_wp2
    go_ret
    rw [huH.out]
    exact ⟨rfl, v, l, hDH.out.fresh (hb1.trans (hb2.mono hb1.size)), GrD.fresh v (hb1.trans (hb2.mono hb1.size))⟩
  · rw [if_neg hlong] at hu
    have hle : (pth ns).size ≤ 400 := by omega
    have hsp := spl_pth hc hle
    have hst : T.stat j = ⟨j, n.kind, n.links, n.size, n.made, n.count⟩ := by unfold PT.stat; rw [hg]
    have hrs := run_stat (T := T) hsp hw
    rw [hst] at hrs
    have hcs := ask_S own lay p mb T (pth ns) _ m0 wr hP1 hT (by omega) hm1 hrs
    unfold ifV at hcs
    have hdir := isDir_of hg
    rw [hdir] at hu
    have hnd : ∀ q d, (⟨pth ns, n.kind, (n.made : Int), q, d⟩ : Tn) = ⟨pth ns, n.kind, ((T.node j).made : Int), q, d⟩ := fun q d => by rw [node_of hg]
    go_enter Tryz.func52, Tryz.ntmps52
    obtain ⟨x, hx⟩ : ∃ x, pth ns = x := ⟨_, rfl⟩
    simp only [hx] at hcs ⊢
    go_upto_region 4 with (first
      | (go_at_call 51; refine hcs.mono ?_; rintro e w1 ⟨va, rfl, hA, -, hb1⟩; obtain ⟨dA, dc, eA, ec, rfl, -, -⟩ := hA; simp only [List.length_nil]; have hN1 := Blk.new w1 67 zAns)
      | (refine wpList_store_row rfl 67 (.tmp 7) (.tmp 18) rfl w1.heap.size (ansC 0 ⟨j, n.kind, n.links, n.size, n.made, n.count⟩ (.slice dA 0 dc) (.slice eA 0 ec)).toArray rfl (by rfl) 67 _ hN1 rfl rfl (one10s _ _ _ _ _ _ _ _) ?_))
    have hQ2 : Blk ((w1.alloc (.cells zAns.toArray 67)).setRow w1.heap.size (ansC 0 ⟨j, n.kind, n.links, n.size, n.made, n.count⟩ (.slice dA 0 dc) (.slice eA 0 ec)).toArray) w1.heap.size 67 (ansC 0 ⟨j, n.kind, n.links, n.size, n.made, n.count⟩ (.slice dA 0 dc) (.slice eA 0 ec)) := setRow_heap (w1.alloc (.cells zAns.toArray 67)) w1.heap.size _ (ansC 0 ⟨j, n.kind, n.links, n.size, n.made, n.count⟩ (.slice dA 0 dc) (.slice eA 0 ec)).toArray _ _ hN1
    have hb2 : Below w1.heap.size w1 ((w1.alloc (.cells zAns.toArray 67)).setRow w1.heap.size (ansC 0 ⟨j, n.kind, n.links, n.size, n.made, n.count⟩ (.slice dA 0 dc) (.slice eA 0 ec)).toArray) := ((Chg.refl (fun b => w1.heap.size ≤ b) w1).alloc _ |>.setRow (fun _ => Nat.le_refl _) _).below (Nat.le_refl _) fun b hb e => by omega
    have hD2 := Lib.hid (hDH.out.fresh (hb1.trans (hb2.mono hb1.size)))
    have hG2 := Lib.hid (GrD.fresh (B := w0.heap.size) v (hb1.trans (hb2.mono hb1.size)))
    change Code.wp _ _ _ _ ((w1.alloc (.cells zAns.toArray 67)).setRow w1.heap.size (ansC 0 ⟨j, n.kind, n.links, n.size, n.made, n.count⟩ (.slice dA 0 dc) (.slice eA 0 ec)).toArray)
    generalize (w1.alloc (.cells zAns.toArray 67)).setRow w1.heap.size (ansC 0 ⟨j, n.kind, n.links, n.size, n.made, n.count⟩ (.slice dA 0 dc) (.slice eA 0 ec)).toArray = w2 at *
    have hzB : Hid (w1.heap.size ≠ B) := Lib.hid (by have h1 := hDH.out.wk.lt; have h2 := hb1.size; have h3 := hBH.out; omega)
    generalize w1.heap.size = z at *
    have x1 : w2.cell? ⟨z, 1, none⟩ = some (.int .i64 (j : Int)) := hQ2.cell 1
    have x4 : w2.cell? ⟨z, 4, none⟩ = some (.int .i64 (n.size : Int)) := hQ2.cell 4
    have x5 : w2.cell? ⟨z, 5, none⟩ = some (.int .i64 (n.made : Int)) := hQ2.cell 5
    have hQH := Lib.hid hQ2
    have hDHo := hDH
    clear hN1 hb2 hb1 hcs hQ2 y0 hDH hP1 hm1
    go_upto_region 5 with (fail)
    have hq3 : Blk (w2.alloc (.cells [.string x, .int .i64 n.kind, .int .i64 (n.made : Int), .string ⟨#[]⟩, .slice none 0 0].toArray 75)) w2.heap.size 75 [.string x, .int .i64 n.kind, .int .i64 (n.made : Int), .string ⟨#[]⟩, .slice none 0 0] := Blk.new w2 _ _
    have hb3 : Below w2.heap.size w2 (w2.alloc (.cells [.string x, .int .i64 n.kind, .int .i64 (n.made : Int), .string ⟨#[]⟩, .slice none 0 0].toArray 75)) := (Below.refl _ _).alloc (Nat.le_refl _) _
    have hz3 : (w2.alloc (.cells [.string x, .int .i64 n.kind, .int .i64 (n.made : Int), .string ⟨#[]⟩, .slice none 0 0].toArray 75)).heap.size = w2.heap.size + 1 := by simp
    have hD3 := hD2.out.fresh hb3
    have hQ3 := hQH.out.fresh hb3
    have hzq : z < w2.heap.size := hQH.out.lt
    change Code.wp _ _ _ _ (w2.alloc (.cells [.string x, .int .i64 n.kind, .int .i64 (n.made : Int), .string ⟨#[]⟩, .slice none 0 0].toArray 75))
    generalize w2.alloc (.cells [.string x, .int .i64 n.kind, .int .i64 (n.made : Int), .string ⟨#[]⟩, .slice none 0 0].toArray 75) = w3 at *
    generalize hqE : w2.heap.size = q at *
    have hwk := hD3.wk
    rw [hBH.out] at hwk
    obtain ⟨A8, c8, hv8, -⟩ := Sees.of_own (B := w3.heap.size) hD3.own.row fun g hg => (hD3.own.row.lt g hg).2
    subst hv8
    have hlB : B + 2 ≤ q := by have h1 := hD2.out.wk.lt; rw [hBH.out, hqE] at h1; omega
    have hDH := Lib.hid hD3
    have hq3H := Lib.hid hq3
    have hwkH := Lib.hid hwk
    have hQ3H := Lib.hid hQ3
    have hll := Lib.hid (show l.length = s.nodes.length by have := congrArg List.length hD3.tn; simpa using this)
    have hlb : l.length ≤ 1000000 := by have := hll.out; omega
    have hb3H := Lib.hid hb3
    clear x1 x4 x5 hQH hb3 hDHo
    have e0 := hq3.cell 0
    have e1 := hq3.cell 1
    have e2 := hq3.cell 2
    have e3 := hq3.cell 3
    have e4 := hq3.cell 4
    simp only [List.getElem?_cons_succ, List.getElem?_cons_zero] at e0 e1 e2 e3 e4
    have y1 := hwk.cell 1
    simp only [List.getElem?_cons_succ, List.getElem?_cons_zero] at y1
    obtain ⟨iN, hiN, hzN0, hzN1, hzN2⟩ := info_parts infoNode
    clear hq3 hwk hQ3 hD3
    by_cases hd : n.dir = true
    · have hk2 : (n.kind == 2) = true := by unfold PN.kind; rw [hd]; rfl
      go_upto_region 6 with (fail)
      have hrow := Lib.hid hDH.out.own.row
      rw [hBH.out] at hrow
      have hn5 : Blk (w3.alloc (.cells [.string x, .int .i64 n.kind, .int .i64 (n.made : Int), .string ⟨#[]⟩, .slice none 0 0].toArray 75)).drew (q + 1) 75 [.string x, .int .i64 n.kind, .int .i64 (n.made : Int), .string ⟨#[]⟩, .slice none 0 0] := by
        have h9 := Blk.new w3 75 [.string x, .int .i64 n.kind, .int .i64 (n.made : Int), .string ⟨#[]⟩, .slice none 0 0]
        rw [hz3] at h9
        exact h9.drew
      have hsrc := Lib.hid (src_row (P := Tryz.prog) (tx := 31) Tryz.underlying31 hn5 (by intro u hu; simp only [List.mem_cons, List.not_mem_nil, or_false] at hu; rcases hu with rfl | rfl | rfl | rfl | rfl <;> rfl))
      have hneB : Hid (∀ g, (Value.slice A8 l.length c8).ownBlock = some g → B + 2 ≤ g) := Lib.hid fun g hg => (hrow.out.lt g hg).1
      have y1' := (hwkH.out.alloc (.cells [.string x, .int .i64 n.kind, .int .i64 (n.made : Int), .string ⟨#[]⟩, .slice none 0 0].toArray 75)).cell 1
      simp only [List.getElem?_cons_succ, List.getElem?_cons_zero] at y1'
      clear hn5
      go_region_law (refine step_app _ (by rfl) (.tmp 35) (.tmp 37) _ _ (by rfl) (B + 2) 75 iN _ 5 72 Tryz.underlying31 hiN hzN0 hzN1 hzN2 rfl (.slice A8 l.length c8) l.length (ncs l) (by rfl) ((hrow.out.alloc _).drew) 1 [.string x, .int .i64 n.kind, .int .i64 (n.made : Int), .string ⟨#[]⟩, .slice none 0 0] hsrc.out (by unfold maxLen; omega) (by omega) (by simp; omega) ?_; intro v4 w4 ho4 hg4 hat4; have hk4 := (((hwkH.out.alloc _).drew).law hg4 (fun e => by have := hneB.out _ e; omega)); obtain ⟨A9, c9, hv9, -⟩ := Sees.of_own (B := w4.heap.size) ho4 fun g hg => (ho4.lt g hg).2; subst hv9; have y4 := hk4.cell 1; have f4 := hk4.frozen 1; simp only [List.getElem?_cons_succ, List.getElem?_cons_zero] at y4)
      all_goals
        have hD5 : DmpAt p w0 (w4.setCell ⟨B + 1, 1, none⟩ (.slice A9 (l.length + 1) c9)) (.slice A9 (l.length + 1) c9) (l ++ [⟨x, n.kind, n.made, ⟨#[]⟩, none, 0, []⟩]) (T.step s (ns, j)) ∧ GrD B w2 (.slice A8 l.length c8) (w4.setCell ⟨B + 1, 1, none⟩ (.slice A9 (l.length + 1) c9)) (.slice A9 (l.length + 1) c9) := by
          have hst : T.step s (ns, j) = ⟨s.nodes ++ [⟨x, n.kind, n.made, ⟨#[]⟩, []⟩], s.first⟩ := by
            unfold PT.step
            rw [if_pos (by rw [hdir]; exact hd), node_of hg, hx]
            unfold PN.kind
            rw [if_pos hd]
            rfl
          rw [hst]
          refine hD2.out.push hBH.out (W1 := (w3.alloc (.cells [.string x, .int .i64 n.kind, .int .i64 (n.made : Int), .string ⟨#[]⟩, .slice none 0 0].toArray 75)).drew) (((Chg.of_fresh (by rw [hqE]; exact hb3H.out)).alloc _).drew) (World.ownsRow_nil _ _ _ _) ho4 hg4 hat4 ?_ rfl (hDH.out.fne) (Nat.le_succ _)
          have h9 := hDH.out.fst
          rw [hBH.out] at h9
          exact (h9.chg ((Chg.refl (fun _ => False) w3).alloc _) id).chg ((Chg.refl (fun _ => False) _).drew) id
        obtain ⟨hD5, hG5⟩ := hD5
        have hcl := hlH.out hd _ _ _ _ hD5 (by
          have : (T.step s (ns, j)).nodes.length = s.nodes.length + 1 := by
            have h9 := congrArg List.length hD5.tn
            simp only [List.length_map, List.length_append, List.length_singleton] at h9
            have := hll.out
            omega
          rw [if_pos hd] at hcnt
          omega)
        rw [hx] at hcl
        rw [if_pos hd] at hu
        rw [← hu] at hcl
        clear hu
        have h2 := hG2.out
        rw [hBH.out] at h2
        have hG5H := Lib.hid (h2.trans hG5)
        clear hk4 y4 f4 ho4 hg4 hat4 hD5 hG5 h2
        generalize w4.setCell ⟨B + 1, 1, none⟩ (.slice A9 (l.length + 1) c9) = w5 at *
        go_wp2_with (go_at_call 33; refine hcl.mono ?_; rintro e w6 ⟨rfl, hfin⟩)
        go_ret
        obtain ⟨v6, l6, hD6, hG6⟩ := hfin
        rw [hBH.out] at hG6
        exact ⟨rfl, v6, l6, hD6, by rw [hBH.out]; exact hG5H.out.trans hG6⟩
    · have hk2 : (n.kind == 2) = false := by unfold PN.kind; simp [hd]
      have hkv : Hid (n.kind = 1) := Lib.hid (by unfold PN.kind; simp [hd])
      have hio := (hT.ok.get hg).2
      have hi5 := hT.ok.ino
      rw [if_neg hd] at hu
      have huH := Lib.hid hu
      clear hu
      have z1 := hQ3H.out.cell 1
      have z4 := hQ3H.out.cell 4
      simp only [ansC, List.getElem?_cons_succ, List.getElem?_cons_zero] at z1 z4
      have y2 := hwkH.out.cell 2
      simp only [List.getElem?_cons_succ, List.getElem?_cons_zero] at y2
      have f3 := hq3H.out.frozen 3
      have hfst := hDH.out.fst
      rw [hBH.out] at hfst
      have hfd : MapAt w3.drew natK Value.string 3 B s.first := hfst.chg (Chg.refl (fun _ => False) w3).drew id
      have hzv : ∀ W : World, (zeroValue 9).run Tryz.prog W = .ok (.string ⟨#[]⟩) W := fun W => by kernel_rfl
      have lk := hfd.look (t := 87) kInt Tryz.underlying87 (hzv _) (keyN j (by omega))
      have lk2 := hfst.look (t := 87) kInt Tryz.underlying87 (hzv _) (keyN j (by omega))
      simp only [natK] at lk lk2
      clear y1
      cases hgf : getS j s.first with
      | some qn =>
        rw [hgf] at lk lk2
        simp only [orV] at lk lk2
        go_upto_region 8 with (fail)
        go_region
        go_upto_region 9 with (fail)
        have hCa : Chg (fun b => b = q) w3 (w3.setCell ⟨q, 3, none⟩ (.string qn)).drew := ((Chg.refl (fun b => b = q) w3).setCell (p := ⟨q, 3, none⟩) (fun _ => rfl) (.string qn)).drew
        have hqa : Blk (w3.setCell ⟨q, 3, none⟩ (.string qn)).drew q 75 [.string x, .int .i64 n.kind, .int .i64 (n.made : Int), .string qn, .slice none 0 0] := (hq3H.out.set_ 3 (.string qn)).drew
        have hka := Lib.hid (hwkH.out.chg hCa (by omega))
        have hfa := Lib.hid (hfst.chg hCa (by omega))
        have hcc : Hid (Chg (fun b => b = B) w2 (w3.setCell ⟨q, 3, none⟩ (.string qn)).drew) := Lib.hid ((Chg.of_fresh (by rw [hqE]; exact hb3H.out)).trans hCa (fun _ _ h => h) (fun b hb e => by rw [hqE] at hb; omega))
        have hqaH := Lib.hid hqa
        have hqe : qn.toList.isEmpty = false := isE_no (hDH.out.fne _ _ hgf)
        have e3a : (w3.setCell ⟨q, 3, none⟩ (.string qn)).drew.cell? ⟨q, 3, none⟩ = some (.string qn) := hqa.cell 3
        clear lk lk2 hfst hfd hCa e0 e1 e2 e3 e4 z1 z4 y2 f3 hqa
        generalize (w3.setCell ⟨q, 3, none⟩ (.string qn)).drew = wa at *
        have hsp2 : Hid (T.step s (ns, j) = ⟨s.nodes ++ [⟨x, n.kind, n.made, qn, []⟩], s.first⟩) := Lib.hid (by
          unfold PT.step
          rw [if_neg (by rw [hdir]; exact hd), hgf, node_of hg, hx, hkv.out])
        have hsp2ne := hDH.out.fne
        have hsp2ne := Lib.hid hsp2ne
        have hsp2ln : Hid (s.first.length ≤ s.first.length + 1) := Lib.hid (Nat.le_succ _)
        have hrw : Hid (wa.ownsRow (B + 2) 75 5 (.slice A8 l.length c8) l.length (ncs l)) := Lib.hid (by
          have h9 := own_chg hD2.out.own.row hcc.out fun g hg e => by have h8 := (hD2.out.own.row.lt g hg).1; rw [hBH.out] at h8; omega
          rw [hBH.out] at h9
          exact h9)
        have hB1 : Hid (B + 1 < wa.heap.size) := Lib.hid hka.out.lt
        have hn5 : Blk (wa.alloc (.cells [.string x, .int .i64 n.kind, .int .i64 (n.made : Int), .string qn, .slice none 0 0].toArray 75)).drew wa.heap.size 75 [.string x, .int .i64 n.kind, .int .i64 (n.made : Int), .string qn, .slice none 0 0] := (Blk.new wa _ _).drew
        have hsrc := Lib.hid (src_row (P := Tryz.prog) (tx := 31) Tryz.underlying31 hn5 (by intro u hu; simp only [List.mem_cons, List.not_mem_nil, or_false] at hu; rcases hu with rfl | rfl | rfl | rfl | rfl <;> rfl))
        have hneB : Hid (∀ g, (Value.slice A8 l.length c8).ownBlock = some g → B + 2 ≤ g) := Lib.hid fun g hg => (hrw.out.lt g hg).1
        have y1 := hka.out.cell 1
        simp only [List.getElem?_cons_succ, List.getElem?_cons_zero] at y1
        have y1' := (hka.out.alloc (.cells [.string x, .int .i64 n.kind, .int .i64 (n.made : Int), .string qn, .slice none 0 0].toArray 75)).cell 1
        simp only [List.getElem?_cons_succ, List.getElem?_cons_zero] at y1'
        have e0 := hqaH.out.cell 0
        have e1 := hqaH.out.cell 1
        have e2 := hqaH.out.cell 2
        have e3 := hqaH.out.cell 3
        have e4 := hqaH.out.cell 4
        simp only [List.getElem?_cons_succ, List.getElem?_cons_zero] at e0 e1 e2 e3 e4
        clear hn5
        go_upto_region 14 with (fail)
        go_region_law (refine step_app _ (by rfl) (.tmp 81) (.tmp 83) _ _ (by rfl) (B + 2) 75 iN _ 5 72 Tryz.underlying31 hiN hzN0 hzN1 hzN2 rfl (.slice A8 l.length c8) l.length (ncs l) (by rfl) ((hrw.out.alloc _).drew) 1 [.string x, .int .i64 n.kind, .int .i64 (n.made : Int), .string qn, .slice none 0 0] hsrc.out (by unfold maxLen; omega) (by omega) (by have := hB1.out; simp; omega) ?_; intro v4 w4 ho4 hg4 hat4; have hk4 := (((hka.out.alloc _).drew).law hg4 (fun e => by have := hneB.out _ e; omega)); obtain ⟨A9, c9, hv9, -⟩ := Sees.of_own (B := w4.heap.size) ho4 fun g hg => (ho4.lt g hg).2; subst hv9; have y4 := hk4.cell 1; have f4 := hk4.frozen 1; simp only [List.getElem?_cons_succ, List.getElem?_cons_zero] at y4)
        all_goals
          have hD5 : DmpAt p w0 (w4.setCell ⟨B + 1, 1, none⟩ (.slice A9 (l.length + 1) c9)) (.slice A9 (l.length + 1) c9) (l ++ [⟨x, n.kind, n.made, qn, none, 0, []⟩]) (T.step s (ns, j)) ∧ GrD B w2 (.slice A8 l.length c8) (w4.setCell ⟨B + 1, 1, none⟩ (.slice A9 (l.length + 1) c9)) (.slice A9 (l.length + 1) c9) := by
            rw [hsp2.out]
            refine hD2.out.push hBH.out (W1 := (wa.alloc (.cells [.string x, .int .i64 n.kind, .int .i64 (n.made : Int), .string qn, .slice none 0 0].toArray 75)).drew) ((hcc.out.alloc _).drew) (World.ownsRow_nil _ _ _ _) ho4 hg4 hat4 ?_ rfl hsp2ne.out hsp2ln.out
            exact (hfa.out.chg ((Chg.refl (fun _ => False) wa).alloc _) id).chg ((Chg.refl (fun _ => False) _).drew) id
          obtain ⟨hD5, hG5⟩ := hD5
          have h2 := hG2.out
          rw [hBH.out] at h2
          have hD5H := Lib.hid hD5
          have hG5H := Lib.hid (h2.trans hG5)
          clear hk4 y4 f4 ho4 hg4 hat4 hD5 hG5 h2
          generalize w4.setCell ⟨B + 1, 1, none⟩ (.slice A9 (l.length + 1) c9) = w5 at *
          go_wp2
          go_ret
          rw [huH.out]
          exact ⟨rfl, _, _, hD5H.out, by rw [hBH.out]; exact hG5H.out⟩
      | none =>
        rw [hgf] at lk lk2
        simp only [orV] at lk lk2
        go_upto_region 8 with (fail)
        go_region
        go_upto_region 9 with (fail)
        have hCa : Chg (fun b => b = q) w3 (w3.setCell ⟨q, 3, none⟩ (.string ⟨#[]⟩)).drew := ((Chg.refl (fun b => b = q) w3).setCell (p := ⟨q, 3, none⟩) (fun _ => rfl) (.string ⟨#[]⟩)).drew
        have hqa : Blk (w3.setCell ⟨q, 3, none⟩ (.string ⟨#[]⟩)).drew q 75 [.string x, .int .i64 n.kind, .int .i64 (n.made : Int), .string ⟨#[]⟩, .slice none 0 0] := (hq3H.out.set_ 3 (.string ⟨#[]⟩)).drew
        have hka := Lib.hid (hwkH.out.chg hCa (by omega))
        have hza := Lib.hid (hQ3H.out.chg hCa (by omega))
        have hfa := hfst.chg hCa (by omega)
        have hcc : Hid (Chg (fun b => b = B) w2 (w3.setCell ⟨q, 3, none⟩ (.string ⟨#[]⟩)).drew) := Lib.hid ((Chg.of_fresh (by rw [hqE]; exact hb3H.out)).trans hCa (fun _ _ h => h) (fun b hb e => by rw [hqE] at hb; omega))
        have hqaH := Lib.hid hqa
        have e3a : (w3.setCell ⟨q, 3, none⟩ (.string ⟨#[]⟩)).drew.cell? ⟨q, 3, none⟩ = some (.string ⟨#[]⟩) := hqa.cell 3
        clear lk lk2 hfst hfd hCa e0 e1 e2 e3 e4 z1 z4 y2 f3 hqa
        generalize (w3.setCell ⟨q, 3, none⟩ (.string ⟨#[]⟩)).drew = wa at *
        have z1 := hza.out.cell 1
        have z4 := hza.out.cell 4
        simp only [ansC, List.getElem?_cons_succ, List.getElem?_cons_zero] at z1 z4
        have y2 := hka.out.cell 2
        simp only [List.getElem?_cons_succ, List.getElem?_cons_zero] at y2
        have hqe : (⟨#[]⟩ : ByteArray).toList.isEmpty = true := isE_yes rfl
        have hfl : s.first.length < maxLen := by have := hDH.out.flen; unfold maxLen; omega
        obtain ⟨wm, hrun, hmM, htm⟩ := (hfa.chg ((Chg.refl (fun _ => False) wa).drew) id : MapAt wa.drew natK Value.string 3 B s.first).store (t := 87) kInt Tryz.underlying87 hfl (a := j) (v := x) (keyN j (by omega))
        simp only [natK] at hrun
        have hCm := Lib.hid (turned_chg htm)
        have hmMH := Lib.hid hmM
        clear htm hmM hfa
        go_upto_region 10 with (fail)
        go_region
        go_upto_region 11 with (fail)
        have hcm := Lib.hid (hcc.out.trans ((Chg.refl (fun _ => False) wa).drew) (fun _ _ h => h) (fun _ _ h => h.elim) |>.trans hCm.out (fun _ _ h => h) (fun _ _ h => h))
        have hkm := Lib.hid (hka.out.drew.chg hCm.out (by omega))
        have hqm := Lib.hid (hqaH.out.drew.chg hCm.out (by omega))
        have hzm := Lib.hid (hza.out.drew.chg hCm.out hzB.out)
        have hBm : Below w0.heap.size w0 wm := hD2.out.below.trans (hcm.out.below (by have := hD2.out.wk.lt; omega) fun b hb e => by rw [hBH.out] at hb; omega)
        have hcr := dread_any own lay p mb T x ns j n m0 (B + 1) (.slice A8 l.length c8) (.map (some B)) wm (h0.fresh hBm) hT (by rw [← hx]; exact hsp) hw hg (by simpa using hd) (by rw [← hx]; omega) ((hBm.cell (p := ⟨0, 0, none⟩) (World.block_lt_of_cell? _ _ hm)).trans hm) hkm.out
        clear z1 z4 y2 e3a hqe hrun hka hqaH hza hcc
        have z4 := hzm.out.cell 4
        simp only [ansC, List.getElem?_cons_succ, List.getElem?_cons_zero] at z4
        obtain ⟨dd, hdd⟩ : ∃ dd, rdL n.data 0 n.size = dd := ⟨_, rfl⟩
        have hdl := rdL_length n.data 0 n.size
        unfold RdP at hcr
        rw [hdd] at hdl hcr
        obtain ⟨dl, hdlE⟩ : ∃ dl, n.size = dl := ⟨_, rfl⟩
        rw [hdlE] at hdl hcr z4
        have hddH := Lib.hid hdd
        have hdlH := Lib.hid hdl
        have hdlE2 := Lib.hid hdlE
        clear hdd hdl hdlE
        go_upto_region 12 with (first
          | (go_at_call 87; refine hcr.mono ?_; rintro e w5 ⟨v5, rfl, ho5, hb5⟩; obtain ⟨A5, c5, hv5, -⟩ := Sees.of_own (B := w5.heap.size) ho5 fun g hg => (ho5.lt g hg).2; subst hv5; have hq5 := hqm.out.fresh hb5; have y5 := hq5.cell 4; have f5 := hq5.frozen 4; simp only [List.getElem?_cons_succ, List.getElem?_cons_zero] at y5; have ho5H := Lib.hid ho5; have hb5H := Lib.hid hb5; have hq5H := Lib.hid hq5; clear ho5 hb5 hq5))
        have hC5 : Chg (fun b => b = q) w5 (w5.setCell ⟨q, 4, none⟩ (.slice A5 dl c5)) := (Chg.refl (fun b => b = q) w5).setCell (p := ⟨q, 4, none⟩) (fun _ => rfl) (.slice A5 dl c5)
        have hqm2 : q < wm.heap.size := hqm.out.lt
        have hqdH : Hid (Blk (w5.setCell ⟨q, 4, none⟩ (.slice A5 dl c5)) q 75 [.string x, .int .i64 n.kind, .int .i64 (n.made : Int), .string ⟨#[]⟩, .slice A5 dl c5]) := Lib.hid (hq5H.out.set_ 4 (.slice A5 dl c5))
        have hkd := Lib.hid ((hkm.out.fresh hb5H.out).chg hC5 (by omega))
        have hcd : Hid (Chg (fun b => b = B) w2 (w5.setCell ⟨q, 4, none⟩ (.slice A5 dl c5))) := Lib.hid ((hcm.out.trans (Chg.of_fresh hb5H.out) (fun _ _ h => h) (fun _ _ h => h)).trans hC5 (fun _ _ h => h) (fun b hb e => by rw [hqE] at hb; omega))
        have hfd2 := Lib.hid ((hmMH.out.chg (Chg.of_fresh (S := fun _ => False) hb5H.out) id).chg hC5 (by omega))
        have hdrow : Hid ((w5.setCell ⟨q, 4, none⟩ (.slice A5 dl c5)).ownsRow w2.heap.size 5 1 (ndV ⟨x, n.kind, n.made, ⟨#[]⟩, A5, c5, dd⟩) dd.length (bvs dd)) := Lib.hid (by
          have h9 := own_chg ho5H.out hC5 fun g hg e => by have := (ho5H.out.lt g hg).1; omega
          have h8 := own_base (base' := w2.heap.size) h9 (fun g hg => by have := (h9.lt g hg).1; rw [hqE]; omega)
          unfold ndV
          simp only
          rw [hdlH.out]
          exact h8)
        clear y5 f5 z4 hC5 hcr
        generalize w5.setCell ⟨q, 4, none⟩ (.slice A5 dl c5) = wd at *
        have hxe : x ≠ emp := by rw [← hx]; exact pth_ne_emp ns
        have hsp2 : Hid (T.step s (ns, j) = ⟨s.nodes ++ [⟨x, n.kind, n.made, ⟨#[]⟩, dd⟩], putS natK j x s.first⟩) := Lib.hid (by
          unfold PT.step
          rw [if_neg (by rw [hdir]; exact hd), hgf, node_of hg, hx, hkv.out, hdlE2.out, ← hdlE2.out, hddH.out]
          rfl)
        have hsp2ne : Hid (∀ i q, getS i (putS natK j x s.first) = some q → q ≠ emp) := Lib.hid fun i q' e => by
          by_cases h : i = j
          · subst h; rw [getS_put_same] at e; injection e with e; rw [← e]; exact hxe
          · rw [getS_put_other natK x h] at e; exact hDH.out.fne i q' e
        have hsp2ln : Hid ((putS natK j x s.first).length ≤ s.first.length + 1) := Lib.hid (length_put_le natK j x s.first)
        clear hxe
        have hrw : Hid (wd.ownsRow (B + 2) 75 5 (.slice A8 l.length c8) l.length (ncs l)) := Lib.hid (by
          have h9 := own_chg hD2.out.own.row hcd.out fun g hg e => by have h8 := (hD2.out.own.row.lt g hg).1; rw [hBH.out] at h8; omega
          rw [hBH.out] at h9
          exact h9)
        have hB1 : Hid (B + 1 < wd.heap.size) := Lib.hid hkd.out.lt
        have hn5 : Blk (wd.alloc (.cells [.string x, .int .i64 n.kind, .int .i64 (n.made : Int), .string ⟨#[]⟩, .slice A5 dl c5].toArray 75)).drew wd.heap.size 75 [.string x, .int .i64 n.kind, .int .i64 (n.made : Int), .string ⟨#[]⟩, .slice A5 dl c5] := (Blk.new wd _ _).drew
        have hsrc := Lib.hid (src_row (P := Tryz.prog) (tx := 31) Tryz.underlying31 hn5 (by intro u hu; simp only [List.mem_cons, List.not_mem_nil, or_false] at hu; rcases hu with rfl | rfl | rfl | rfl | rfl <;> rfl))
        have hneB : Hid (∀ g, (Value.slice A8 l.length c8).ownBlock = some g → B + 2 ≤ g) := Lib.hid fun g hg => (hrw.out.lt g hg).1
        have y1 := hkd.out.cell 1
        simp only [List.getElem?_cons_succ, List.getElem?_cons_zero] at y1
        have y1' := (hkd.out.alloc (.cells [.string x, .int .i64 n.kind, .int .i64 (n.made : Int), .string ⟨#[]⟩, .slice A5 dl c5].toArray 75)).cell 1
        simp only [List.getElem?_cons_succ, List.getElem?_cons_zero] at y1'
        have e0 := hqdH.out.cell 0
        have e1 := hqdH.out.cell 1
        have e2 := hqdH.out.cell 2
        have e3 := hqdH.out.cell 3
        have e4 := hqdH.out.cell 4
        simp only [List.getElem?_cons_succ, List.getElem?_cons_zero] at e0 e1 e2 e3 e4
        clear hn5
        go_upto_region 14 with (fail)
        go_region_law (refine step_app _ (by rfl) (.tmp 81) (.tmp 83) _ _ (by rfl) (B + 2) 75 iN _ 5 72 Tryz.underlying31 hiN hzN0 hzN1 hzN2 rfl (.slice A8 l.length c8) l.length (ncs l) (by rfl) ((hrw.out.alloc _).drew) 1 [.string x, .int .i64 n.kind, .int .i64 (n.made : Int), .string ⟨#[]⟩, .slice A5 dl c5] hsrc.out (by unfold maxLen; omega) (by omega) (by have := hB1.out; simp; omega) ?_; intro v4 w4 ho4 hg4 hat4; have hk4 := (((hkd.out.alloc _).drew).law hg4 (fun e => by have := hneB.out _ e; omega)); obtain ⟨A9, c9, hv9, -⟩ := Sees.of_own (B := w4.heap.size) ho4 fun g hg => (ho4.lt g hg).2; subst hv9; have y4 := hk4.cell 1; have f4 := hk4.frozen 1; simp only [List.getElem?_cons_succ, List.getElem?_cons_zero] at y4)
        all_goals
          have hD5 : DmpAt p w0 (w4.setCell ⟨B + 1, 1, none⟩ (.slice A9 (l.length + 1) c9)) (.slice A9 (l.length + 1) c9) (l ++ [⟨x, n.kind, n.made, ⟨#[]⟩, A5, c5, dd⟩]) (T.step s (ns, j)) ∧ GrD B w2 (.slice A8 l.length c8) (w4.setCell ⟨B + 1, 1, none⟩ (.slice A9 (l.length + 1) c9)) (.slice A9 (l.length + 1) c9) := by
            rw [hsp2.out]
            refine hD2.out.push hBH.out (W1 := (wd.alloc (.cells [.string x, .int .i64 n.kind, .int .i64 (n.made : Int), .string ⟨#[]⟩, .slice A5 dl c5].toArray 75)).drew) ((hcd.out.alloc _).drew) ((hdrow.out.alloc _).drew) (by have h9 := ho4; rw [← hdlH.out] at h9; exact h9) hg4 hat4 ?_ rfl hsp2ne.out hsp2ln.out
            exact (hfd2.out.chg ((Chg.refl (fun _ => False) wd).alloc _) id).chg ((Chg.refl (fun _ => False) _).drew) id
          obtain ⟨hD5, hG5⟩ := hD5
          have h2 := hG2.out
          rw [hBH.out] at h2
          have hD5H := Lib.hid hD5
          have hG5H := Lib.hid (h2.trans hG5)
          clear hk4 y4 f4 ho4 hg4 hat4 hD5 hG5 h2
          generalize w4.setCell ⟨B + 1, 1, none⟩ (.slice A9 (l.length + 1) c9) = w5 at *
          go_wp2
          go_ret
          rw [huH.out]
          exact ⟨rfl, _, _, hD5H.out, by rw [hBH.out]; exact hG5H.out⟩
#print axioms under_any
end Go.Proofs.YtolpcfhfcdkokaaGreatDoor
