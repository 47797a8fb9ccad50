/- Joined out of the texts Lists, LTrees, Kept, LSet, LOwn. -/
import Derived.Test.YtolpcfhfcdkokaaGreatDoorM05
import Derived.Test.YtolpcfhfcdkokaaGreatDoorM24
import Derived.Test.YtolpcfhfcdkokaaGreatDoorM39
import Derived.Test.YtolpcfhfcdkokaaGreatDoorM41
/-
  Lists of nodes that are the caller's alone; one node as what is appended.
-/
namespace Go.Proofs.YtolpcfhfcdkokaaGreatDoor
open Go.RowKit

def nd0 : Nd := ⟨⟨#[]⟩, 0, 0, ⟨#[]⟩, none, 0, []⟩
theorem own_baseN {w : World} {B B' : Nat} {v : Value} {l : List Nd} (h : OwnN w B v l) (hB : B' ≤ B) : OwnN w B' v l :=
  ⟨own_base h.row fun g hg => Nat.le_trans hB (h.row.lt g hg).1, fun i hi => own_base (h.data i hi) fun g hg => Nat.le_trans hB ((h.data i hi).lt g hg).1, h.apart, h.aside⟩
theorem src_node {P : Program} (w : World) {tx e' : TypeId} (hk : P.underlying tx = some (.slice e')) (x : Nd) (t : TypeId) :
    Src P 5 tx (.slice (some ⟨w.heap.size, 0, none⟩) 1 1) 1 (cells5 x) (w.alloc (.cells #[.string x.path, .int .i64 x.kind, .int .i64 x.made, .string x.same, .slice x.dA x.data.length x.dc] t)) :=
  Src.ofSlice _ hk ⟨w.heap.size, 0, none⟩ 1 1 (cells5 x) rfl (World.news_of_block (cs := #[.string x.path, .int .i64 x.kind, .int .i64 x.made, .string x.same, .slice x.dA x.data.length x.dc]) (heap_alloc_new w _)) (by
    intro u hu
    simp only [cells5, List.mem_cons, List.not_mem_nil, or_false] at hu
    rcases hu with rfl | rfl | rfl | rfl | rfl <;> rfl)
/-- Is this the block of a list's row, or of some node's bytes? -/
def blkN (v : Value) (l : List Nd) (g : Nat) : Prop := v.ownBlock = some g ∨ ∃ x ∈ l, (ndV x).ownBlock = some g
/-- Lists of nodes that are the caller's alone, told in a row of slices. -/
structure Lists (w : World) (B p m : Nat) (lv : Nat → Value) (L : Nat → List Nd) : Prop where
  par : Blk w p 31 ((List.range m).map lv)
  own : ∀ i, i < m → OwnN w B (lv i) (L i)
  apart : ∀ i j g, i < m → j < m → i ≠ j → blkN (lv i) (L i) g → ¬ blkN (lv j) (L j) g
  aside : ∀ i, i < m → ¬ blkN (lv i) (L i) p
theorem OwnN.blk {w : World} {B : Nat} {v : Value} {l : List Nd} (h : OwnN w B v l) {g : Nat} (hg : blkN v l g) : B ≤ g ∧ g < w.heap.size := by
  rcases hg with hg | ⟨x, hx, hg⟩
  · exact h.row.lt g hg
  · obtain ⟨i, hi, rfl⟩ := List.getElem_of_mem hx
    exact (h.data i hi).lt g hg
theorem lists2 {w : World} {B1 B2 : Nat} {v1 v2 : Value} {l1 l2 : List Nd} (h1 : OwnN w B1 v1 l1) (h2 : OwnN w B2 v2 l2) (hB : B1 ≤ B2) (hd : ∀ g, blkN v1 l1 g → ¬ blkN v2 l2 g) :
    Lists (w.alloc (.cells #[v1, v2] 31)) B1 w.heap.size 2 (fun i => if i = 0 then v1 else v2) (fun i => if i = 0 then l1 else l2) := by
  have hb : Below w.heap.size w (w.alloc (.cells #[v1, v2] 31)) := (Below.refl _ _).alloc (Nat.le_refl _) _
  refine ⟨Blk.new w 31 [v1, v2], fun i hi => ?_, fun i j g hi hj hij hg => ?_, fun i hi hg => ?_⟩
  · by_cases e : i = 0
    · simp only [if_pos e]; exact h1.fresh hb
    · simp only [if_neg e]; exact own_baseN (h2.fresh hb) hB
  · by_cases e : i = 0
    · simp only [if_pos e] at hg
      simp only [if_neg (show ¬ j = 0 by omega)]
      exact hd g hg
    · simp only [if_neg e] at hg
      simp only [if_pos (show j = 0 by omega)]
      exact fun h => hd g h hg
  · by_cases e : i = 0
    · simp only [if_pos e] at hg; have := (h1.blk hg).2; omega
    · simp only [if_neg e] at hg; have := (h2.blk hg).2; omega
#print axioms lists2
end Go.Proofs.YtolpcfhfcdkokaaGreatDoor
/-
  Both trees side by side, and what lies beside both: the calls on either, told in these words.
-/
namespace Go.Proofs.YtolpcfhfcdkokaaGreatDoor
open Go.RowKit Go.Proofs

/-- Both trees; the blocks of K lie outside both; what was there at w0 is as it was. -/
def Both (w0 : World) (K : Nat → Prop) (p1 m1 : Nat) (T1 : PT) (p2 m2 : Nat) (T2 : PT) (w : World) : Prop :=
  ∃ o1 l1 o2 l2, PlainAt w o1 l1 p1 m1 T1 ∧ PlainAt w o2 l2 p2 m2 T2 ∧ Apart o1 o2 ∧ (∀ b, K b → b < w.heap.size ∧ o1 b = none ∧ o2 b = none) ∧ (∀ b, b < w0.heap.size → K b) ∧ Below w0.heap.size w0 w
def New (w w' : World) (b : Nat) : Prop := w.heap.size ≤ b ∧ b < w'.heap.size
section
variable {w0 w w' : World} {K K' : Nat → Prop} {p1 m1 p2 m2 : Nat} {T1 T2 : PT}
theorem Both.swap (h : Both w0 K p1 m1 T1 p2 m2 T2 w) : Both w0 K p2 m2 T2 p1 m1 T1 w := by
  obtain ⟨o1, l1, o2, l2, a, b, c, d, e, f⟩ := h
  exact ⟨o2, l2, o1, l1, b, a, c.symm, fun x hx => ⟨(d x hx).1, (d x hx).2.2, (d x hx).2.1⟩, e, f⟩
theorem Both.below (h : Both w0 K p1 m1 T1 p2 m2 T2 w) : Below w0.heap.size w0 w := let ⟨_, _, _, _, _, _, _, _, _, f⟩ := h; f
theorem Both.old (h : Both w0 K p1 m1 T1 p2 m2 T2 w) {b : Nat} (hb : b < w0.heap.size) : K b := let ⟨_, _, _, _, _, _, _, _, e, _⟩ := h; e b hb
theorem Both.lt (h : Both w0 K p1 m1 T1 p2 m2 T2 w) {b : Nat} (hb : K b) : b < w.heap.size := let ⟨_, _, _, _, _, _, _, d, _, _⟩ := h; (d b hb).1
/-- New memory lies outside both. -/
theorem Both.fresh (h : Both w0 K p1 m1 T1 p2 m2 T2 w) (hb : Below w.heap.size w w') : Both w0 (fun b => K b ∨ New w w' b) p1 m1 T1 p2 m2 T2 w' := by
  obtain ⟨o1, l1, o2, l2, a, b, c, d, e, f⟩ := h
  refine ⟨o1, l1, o2, l2, a.fresh hb, b.fresh hb, c, fun x hx => ?_, fun x hx => .inl (e x hx), f.trans (hb.mono f.size)⟩
  rcases hx with hx | ⟨h1, h2⟩
  · exact ⟨Nat.lt_of_lt_of_le (d x hx).1 hb.size, (d x hx).2⟩
  · exact ⟨h2, a.free h1, b.free h1⟩
theorem Both.less (h : Both w0 K p1 m1 T1 p2 m2 T2 w) (hK : ∀ b, K' b → K b) (h0 : ∀ b, b < w0.heap.size → K' b) : Both w0 K' p1 m1 T1 p2 m2 T2 w := by
  obtain ⟨o1, l1, o2, l2, a, b, c, d, e, f⟩ := h
  exact ⟨o1, l1, o2, l2, a, b, c, fun x hx => d x (hK x hx), h0, f⟩
/-- What changes within K changes neither tree. -/
theorem Both.chg {S : Nat → Prop} (h : Both w0 K p1 m1 T1 p2 m2 T2 w) (hc : Chg S w w') (hS : ∀ b, S b → K b) (h0 : ∀ b, b < w0.heap.size → ¬ S b) : Both w0 K p1 m1 T1 p2 m2 T2 w' := by
  obtain ⟨o1, l1, o2, l2, a, b, c, d, e, f⟩ := h
  exact ⟨o1, l1, o2, l2, a.chg hc fun x hx => (d x (hS x hx)).2.1, b.chg hc fun x hx => (d x (hS x hx)).2.2, c, fun x hx => ⟨Nat.lt_of_lt_of_le (d x hx).1 hc.size, (d x hx).2⟩, e, f.trans (hc.below f.size h0)⟩
theorem Both.turn {o1 : Nat → Option Role} {l1 : Nat → NA} {o2 : Nat → Option Role} {l2 : Nat → NA} {T' : PT} (_a : PlainAt w o1 l1 p1 m1 T1) (b : PlainAt w o2 l2 p2 m2 T2) (c : Apart o1 o2) (d : ∀ b, K b → b < w.heap.size ∧ o1 b = none ∧ o2 b = none) (e : ∀ b, b < w0.heap.size → K b) (f : Below w0.heap.size w0 w)
    (ht : PTurn o1 p1 m1 T' w w') : Both w0 K p1 m1 T' p2 m2 T2 w' ∧ Chg (fun b => ¬ K b) w w' := by
  obtain ⟨o1', l1', h1, h2, h3, h4, h5⟩ := ht.two b c
  have hc : Chg (fun b => ¬ K b) w w' := h3.mono fun x hx hs hk => hs (d x hk).2.1
  refine ⟨⟨o1', l1', o2, l2, h1, h4, h5, fun x hx => ⟨Nat.lt_of_lt_of_le (d x hx).1 hc.size, ?_, (d x hx).2.2⟩, e, f.trans (hc.below f.size fun x hx hn => hn (e x hx))⟩, hc⟩
  cases e7 : o1' x with
  | none => rfl
  | some r =>
    rcases h2.new x r e7 with e2 | e2
    · rw [(d x hx).2.1] at e2; cases e2
    · have := (d x hx).1; omega
end
section
variable {w0 w w' : World} {K : Nat → Prop} {p1 m1 p2 m2 : Nat} {T1 T2 : PT} {m0 : Int}
theorem zero_cell (hb : Below w0.heap.size w0 w) (hm : w0.cell? ⟨0, 0, none⟩ = some (.int .i64 m0)) : w.cell? ⟨0, 0, none⟩ = some (.int .i64 m0) :=
  (hb.cell (p := ⟨0, 0, none⟩) (World.block_lt_of_cell? _ _ hm)).trans hm
/-- Both empty trees. -/
theorem two_new {n m : Nat} {own1 : Nat → Option Role} {lay1 : Nat → NA} {own2 : Nat → Option Role} {lay2 : Nat → NA} {w1 w2 : World} (h1 : PlainAt w1 own1 lay1 p1 m1 (PT.new n m)) (f1 : ∀ b, b < w.heap.size → own1 b = none) (b1 : Below w.heap.size w w1)
    (h2 : PlainAt w2 own2 lay2 p2 m2 (PT.new n m)) (f2 : ∀ b, b < w1.heap.size → own2 b = none) (b2 : Below w1.heap.size w1 w2) (h0 : Below w0.heap.size w0 w) :
    Both w0 (fun b => b < w0.heap.size) p1 m1 (PT.new n m) p2 m2 (PT.new n m) w2 :=
  ⟨own1, lay1, own2, lay2, h1.fresh b2, h2, fun b hb => f2 b (by
    cases e : own1 b with
    | none => exact absurd e hb
    | some r => exact h1.lt b r e), fun b hb => ⟨by have := h0.size; have := b1.size; have := b2.size; omega, f1 b (by have := h0.size; omega), f2 b (by have := h0.size; have := b1.size; omega)⟩, fun _ h => h, (h0.trans (b1.mono h0.size)).trans (b2.mono (Nat.le_trans h0.size b1.size))⟩
/-- An operation on the first. -/
theorem do_two (h : Both w0 K p1 m1 T1 p2 m2 T2 w) (hI : T1.Inv) (hm : w0.cell? ⟨0, 0, none⟩ = some (.int .i64 m0)) (o : Opn) (A : Option Addr) (c : Nat) (hop : OpAt w w.heap.size o A c) :
    Calls Tryz.prog 24 #[.pointer (some ⟨p1, 0, none⟩), opV o A c] w fun e w' => (∃ v, e = .returned v) ∧ Both w0 K p1 m1 (T1.run o).1 p2 m2 T2 w' ∧ Chg (fun b => ¬ K b) w w' := by
  obtain ⟨o1, l1, o2, l2, a, b, c', d, e, f⟩ := h
  refine (pdo_any o1 l1 p1 m1 T1 o A c m0 w a hI.wf hop (zero_cell f hm)).mono ?_
  rintro e' w' ⟨⟨v, rfl, _⟩, ht⟩
  obtain ⟨h1, h2⟩ := Both.turn a b c' d e f ht
  exact ⟨⟨v, rfl⟩, h1, h2⟩
/-- A dump of the first. -/
def DumpTwo (w0 : World) (K : Nat → Prop) (p1 m1 : Nat) (T1 : PT) (p2 m2 : Nat) (T2 : PT) (w : World) (e : Ending) (w' : World) : Prop :=
  ∃ v l, e = .returned (.tuple #[v, .int .i64 (T1.dump.2 : Int)]) ∧ OwnN w' w.heap.size v l ∧ l.map Nd.tn = T1.dump.1 ∧ Both w0 (fun b => K b ∨ New w w' b) p1 m1 T1 p2 m2 T2 w' ∧ Below w.heap.size w w'
theorem dump_two (h : Both w0 K p1 m1 T1 p2 m2 T2 w) (hI : T1.Inv) (hm : w0.cell? ⟨0, 0, none⟩ = some (.int .i64 m0)) :
    Calls Tryz.prog 10 #[ifV p1] w (DumpTwo w0 K p1 m1 T1 p2 m2 T2 w) := by
  have h' := h
  obtain ⟨o1, l1, o2, l2, a, b, c', d, e, f⟩ := h
  refine (ddump_any o1 l1 p1 m1 T1 m0 w a hI (zero_cell f hm) (spots_le hI)).mono ?_
  rintro e' w' ⟨⟨v, l, rfl, h1, h2⟩, hb⟩
  exact ⟨v, l, rfl, h1, h2, h'.fresh hb, hb⟩
/-- Nodes are filled into the first. -/
def FillTwo (w0 : World) (K : Nat → Prop) (p1 m1 : Nat) (p2 m2 : Nat) (T2 : PT) (r : PT × Nat × Nat) (w : World) (e : Ending) (w' : World) : Prop :=
  e = .returned (.tuple #[.int .i64 (r.2.1 : Int), .int .i64 (r.2.2 : Int)]) ∧ Both w0 K p1 m1 r.1 p2 m2 T2 w' ∧ Chg (fun b => ¬ K b) w w'
theorem fill_two (h : Both w0 K p1 m1 T1 p2 m2 T2 w) (hI : T1.Inv) (hm : w0.cell? ⟨0, 0, none⟩ = some (.int .i64 m0)) (A : Option Addr) (cap : Nat) (l : List Nd) (hN : NodesAt w w.heap.size A l)
    (hK : ∀ b off, A = some ⟨b, off, none⟩ → 0 < l.length → K b) (hKd : ∀ x ∈ l, ∀ b off, x.dA = some ⟨b, off, none⟩ → 0 < x.data.length → K b)
    (hln : l.length ≤ 1000000000) (hcap : l.length ≤ cap) (hsz : ∀ x ∈ l, x.path.size ≤ 100000 ∧ x.same.size ≤ 100000 ∧ x.data.length ≤ x.dc ∧ x.data.length ≤ 1000000000000) :
    Calls Tryz.prog 18 #[ifV p1, .slice A l.length cap] w (FillTwo w0 K p1 m1 p2 m2 T2 (T1.fill (l.map Nd.tn)) w) := by
  obtain ⟨o1, l1, o2, l2, a, b, c', d, e, f⟩ := h
  have h0 : (0 : Nat) < w0.heap.size := World.block_lt_of_cell? w0 ⟨0, 0, none⟩ hm
  refine (fill_any o1 l1 p1 m1 T1 m0 w a hI (zero_cell f hm) (d 0 (e 0 h0)).2.1 A cap l hN ⟨fun b off e1 h1 => (d b (hK b off e1 h1)).2.1, fun x hx b off e1 h1 => (d b (hKd x hx b off e1 h1)).2.1⟩ hln hcap hsz).mono ?_
  rintro e' w' ⟨rfl, ht⟩
  obtain ⟨h1, h2⟩ := Both.turn a b c' d e f ht
  exact ⟨rfl, h1, h2⟩
end
/-- Nodes of one's own that lie in K stay. -/
theorem OwnN.keep {S : Nat → Prop} {w w1 : World} {B : Nat} {v : Value} {l : List Nd} (h : OwnN w B v l) (hc : Chg S w w1) (hS : ∀ g, blkN v l g → ¬ S g) : OwnN w1 B v l :=
  ⟨own_chg h.row hc fun g hg => hS g (.inl hg), fun i hi => own_chg (h.data i hi) hc fun g hg => hS g (.inr ⟨_, List.getElem_mem hi, hg⟩), h.apart, h.aside⟩
#print axioms fill_two
end Go.Proofs.YtolpcfhfcdkokaaGreatDoor
/-
  kept: nodes that were lent and have not been touched are as they were, marks and all.
-/
namespace Go.Proofs.YtolpcfhfcdkokaaGreatDoor
open Go.RowKit

/-- The lent nodes as a list. -/
def lentL (l : List Nd) (bs : Nat → Nat) : List Nd := l.mapIdx fun i x => lentNd x (bs i)
theorem lentL_length (l : List Nd) (bs : Nat → Nat) : (lentL l bs).length = l.length := by simp [lentL]
theorem lentL_get (l : List Nd) (bs : Nat → Nat) (i : Nat) (h : i < (lentL l bs).length) (h' : i < l.length) : (lentL l bs)[i] = lentNd l[i] (bs i) := by simp [lentL]
theorem blk_sees {w : World} {g : Nat} {t : TypeId} {cs rest : List Value} (h : Blk w g t (cs ++ rest)) {B : Nat} (hB : g < B) : Sees w B 1 (some ⟨g, 0, none⟩) cs.length cs :=
  ⟨by simp, fun _ => ⟨g, 0, rfl, hB, fun j u hu => by
    rw [Nat.zero_add, h.cell]
    have hj : j < cs.length := by
      rcases Nat.lt_or_ge j cs.length with h | h
      · exact h
      · rw [List.getElem?_eq_none h] at hu; cases hu
    rw [List.getElem?_append_left hj]
    exact hu⟩⟩
theorem lent_nodes {w : World} {B g : Nat} {vb : Value} {bs : Nat → Nat} {l : List Nd} (h : LentAt w B g vb bs l) : NodesAt w w.heap.size (some ⟨g, 0, none⟩) (lentL l bs) := by
  obtain ⟨cs, hr, hl⟩ := h.row
  refine ⟨fun _ => ⟨g, 0, rfl, hr.lt, fun i hi => ?_⟩, fun x hx => ?_⟩
  · have hi' : i < l.length := by rw [lentL_length] at hi; exact hi
    rw [lentL_get l bs i hi hi', Nat.zero_add]
    exact h.mem.node i hi' hi'
  · obtain ⟨i, hi, rfl⟩ := List.getElem_of_mem hx
    have hi' : i < l.length := by rw [lentL_length] at hi; exact hi
    rw [lentL_get l bs i hi hi']
    have hd := h.mem.data i hi' hi'
    have := blk_sees hd (B := w.heap.size) hd.lt
    rw [bvs_length] at this
    exact this
theorem lent_same (l : List Nd) (bs : Nat → Nat) : ∀ i (h1 : i < (lentL l bs).length) (h2 : i < l.length), ndSame (lentL l bs)[i] l[i] := fun i h1 h2 => by
  rw [lentL_get l bs i h1 h2]
  exact ⟨rfl, rfl, rfl, rfl, rfl⟩
theorem lentSl_get (l : List Nd) (bs : Nat → Nat) (n i : Nat) (h : i < n) : (lentSl l bs n)[i]? = some (.slice (some ⟨bs i, 0, none⟩) (lenAt l i + 5) (lenAt l i + 5)) := by simp [lentSl, h]

set_option maxHeartbeats 4000000 in
set_option maxRecDepth 100000 in
theorem kept_true (B g : Nat) (vb : Value) (bs : Nat → Nat) (A : Option Addr) (cap : Nat) (l : List Nd) (w : World) (hL : LentAt w B g vb bs l) (hN : NodesAt w w.heap.size A l) (hln : l.length ≤ 5000) (hdl : ∀ x ∈ l, x.data.length ≤ 2097152) :
    Calls Tryz.prog 19 #[.agg #[.slice (some ⟨g, 0, none⟩) (l.length + 3) (l.length + 3), vb], .slice A l.length cap] w fun e w' => e = .returned (.bool true) ∧ Below w.heap.size w w' := by
  obtain ⟨Av, cv, rfl, hvs⟩ := Sees.of_own (B := w.heap.size) hL.own fun g' hg' => (hL.own.lt g' hg').2
  have hgl : g < w.heap.size := by obtain ⟨cs, hr, _⟩ := hL.row; exact hr.lt
  obtain ⟨len, hlen⟩ : ∃ len, len = l.length := ⟨_, rfl⟩
  have hlenH := Lib.hid hlen
  have hp := Blk.new w 49 [.slice (some ⟨g, 0, none⟩) (len + 3) (len + 3), .slice Av len cv]
  have hb0 := (Below.refl w.heap.size w).alloc (Nat.le_refl _) (.cells #[.slice (some ⟨g, 0, none⟩) (len + 3) (len + 3), .slice Av len cv] 49)
  rw [← hlen] at hln ⊢
  have hmk : ∀ i, len ≤ i → i < len + 3 → w.cell? ⟨g, i * 5, none⟩ = some (.string ⟨#[109, 97, 114, 107]⟩) ∧ w.cell? ⟨g, i * 5 + 4, none⟩ = some (.slice none 0 0) := by rw [hlen]; exact hL.marked
  rw [← hlen] at hvs
  clear hlen
  go_enter Tryz.func19, Tryz.ntmps19
  go_wp2
  generalize w.alloc (.cells #[.slice (some ⟨g, 0, none⟩) (len + 3) (len + 3), .slice Av len cv] 49) = W1 at *
  have hp1 : Blk W1 w.heap.size 49 [.slice (some ⟨g, 0, none⟩) (len + 3) (len + 3), .slice Av len cv] := hp
  clear hp
  go_loopw [5] (fun i wr => ∃ m : Nat, m ≤ 3 ∧ i = .int .i64 ((len : Int) + m) ∧ Below w.heap.size w wr ∧ Blk wr w.heap.size 49 [.slice (some ⟨g, 0, none⟩) (len + 3) (len + 3), .slice Av len cv])
    (fun i _ => len + 3 - (intOf i).toNat)
  case atStart => exact ⟨0, by omega, by simp, hb0, hp1⟩
  case round =>
    obtain ⟨m, hm, rfl, hb, hpb⟩ := hrel
    have q0 := hpb.cell 0
    by_cases hm3 : m < 3
    · obtain ⟨m1, m2⟩ := hmk (len + m) (by omega) (by omega)
      have m3 := (hb.cell (p := ⟨g, (len + m) * 5, none⟩) hgl).trans m1
      have m4 := (hb.cell (p := ⟨g, (len + m) * 5 + 4, none⟩) hgl).trans m2
      clear m1 m2 hmk
      go_wp2
      go_roundw
      case rel => exact ⟨m + 1, by omega, by go_num, hb, hpb⟩
      case measure => simp [intOf]; omega
    · obtain rfl : m = 3 := by omega
      clear hmk
      go_wp2
      obtain ⟨wo, rfl⟩ : ∃ wo : World, wo = wr := ⟨_, rfl⟩
      go_loopw [6] (fun i wr => ∃ j : Nat, j ≤ len ∧ i = .int .i64 j ∧ ∃ nd, wr = wo.drewN nd) (fun i _ => len - (intOf i).toNat)
      case atStart => exact ⟨0, by omega, rfl, 0, rfl⟩
      case round =>
        obtain ⟨j, hj, rfl, nd, rfl⟩ := hrel
        by_cases hjk : j < len
        · have hjl : j < l.length := by have := hlenH.out; omega
          obtain ⟨b, off, rfl, hbB, hc⟩ := hN.at_ (by omega)
          have c4 := (hb.cell (p := ⟨b, off + j * 5 + 4, none⟩) hbB).trans (hc j hjl).2.2.2.2
          have hd := (hN.data _ (List.getElem_mem hjl)).below hb
          have hdl' := hdl _ (List.getElem_mem hjl)
          have hbk := (hL.mem.data j hjl hjl).fresh hb
          have hlj := lenAt_get l j hjl
          obtain ⟨bv, ov, hAv, hbv, hcv⟩ := hvs.at_ (by omega)
          subst hAv
          have v0 := (hb.cell (p := ⟨bv, ov + j, none⟩) hbv).trans (hcv j _ (lentSl_get l bs _ j hjk))
          rw [hlj] at v0
          have q1 := hpb.cell 1
          clear hN hc hdl hL hcv hvs hlj
          generalize l[j] = x at *
          obtain ⟨pa, ki, ma, sa, dA, dc, da⟩ := x
          simp only at c4 hd hdl' hbk v0
          generalize bs j = h at *
          go_wp2
          obtain ⟨wo2, hwo2⟩ : ∃ wo2 : World, wo2 = wo.drewN nd := ⟨_, rfl⟩
          go_loopw [8] (fun i wr => ∃ k : Nat, k ≤ da.length + 5 ∧ i = .int .i64 k ∧ ∃ nd, wr = wo.drewN nd) (fun i _ => da.length + 5 - (intOf i).toNat)
          case atStart => exact ⟨0, by omega, rfl, nd, rfl⟩
          case round =>
            obtain ⟨k, hk, rfl, nd2, rfl⟩ := hrel
            have k0 : (0 : Int) ≤ (k : Int) := by omega
            have j0 : (0 : Int) ≤ (j : Int) := by omega
            have j1 : (j : Int) < (len : Int) := by omega
            by_cases hk1 : k < da.length
            · have hcell : wo.cell? ⟨h, k, none⟩ = some (.int .u8 ((da[k]'hk1).toNat : Int)) := by rw [hbk.cell, List.getElem?_append_left (by rw [bvs_length]; exact hk1)]; exact bvs_get da k hk1
              obtain ⟨bd, od, rfl, hbd, hcd⟩ := hd.at_ (by omega)
              have hcell2 := hcd k _ (bvs_get da k hk1)
              have k1 : (k : Int) < (da.length : Int) := by omega
              have k2 : (k : Int) < (da.length : Int) + 5 := by omega
              have k3 : decide (da.length ≤ k) = false := by simp; omega
              clear hcd hd hbk
              generalize (da[k]'hk1) = by8 at *
              go_wp2
              go_quiet (fail)
              go_wp2
              go_roundw
              case rel => exact ⟨k + 1, by omega, by go_num, nd2 + nq, by simp [World.drewN]⟩
              case measure => simp [intOf]; omega
            · by_cases hk5 : k < da.length + 5
              · have hcell : wo.cell? ⟨h, k, none⟩ = some (.int .u8 201) := by
                  rw [hbk.cell, List.getElem?_append_right (by rw [bvs_length]; omega), bvs_length, mark5, List.getElem?_replicate, if_pos (by omega)]
                have k1 : ¬ (k : Int) < (da.length : Int) := by omega
                have k2 : (k : Int) < (da.length : Int) + 5 := by omega
                have k3 : decide ((k : Int) < (da.length : Int)) = false := by simpa using k1
                have k4 : (da.length : Int) ≤ (k : Int) := by omega
                clear hd hbk
                go_wp2
                go_quiet (fail)
                go_wp2
                go_roundw
                case rel => first | exact ⟨k + 1, by omega, by go_num, nd2 + nq, by simp [World.drewN]⟩ | ((repeat apply Exists.intro); exact ⟨⟨k + 1, by omega, by go_num, nd2 + nq, by simp [World.drewN]⟩, rfl⟩)
                case measure => simp [intOf]; omega
              · obtain rfl : k = da.length + 5 := by omega
                clear hd hbk
                go_wp2
                go_roundw
                case rel => exact ⟨j + 1, by omega, by go_num, nd2, rfl⟩
                case measure => simp [intOf]; omega
        · obtain rfl : j = len := by omega
          have q0' := (hpb.cell 0)
          clear hvs hdl
          go_wp2_with fail
          have hL2 := lent_nodes hL
          have hbz : Below w.heap.size w (wo.drewN nd) := below_drewN' hb nd
          have hc := same_true (some ⟨g, 0, none⟩) A (j + 3) cap (lentL l bs) l (wo.drewN nd) ((hL2.below hbz).more hbz.size) ((hN.below hbz).more hbz.size) (lentL_length l bs).symm (by rw [lentL_length]; have := hlenH.out; omega) (lent_same l bs)
          rw [lentL_length, ← hlenH.out] at hc
          refine hc.mono ?_
          rintro e w5 ⟨rfl, hb5⟩
          go_wp2
          go_ret
          exact ⟨rfl, hbz.trans (hb5.mono hbz.size)⟩
#print axioms kept_true
end Go.Proofs.YtolpcfhfcdkokaaGreatDoor
/-
  One node of a list written anew.
-/
namespace Go.Proofs.YtolpcfhfcdkokaaGreatDoor
open Go.RowKit

theorem nodes_set {w w' : World} {g B j : Nat} {L : List Nd} (h : NodesAt w B (some ⟨g, 0, none⟩) L) (hj : j < L.length) (x : Nd) (hC : Chg (fun b => b = g) w w') (hx : NodeAt w' g (j * 5) x)
    (ho : ∀ i, i < j * 5 ∨ j * 5 + 5 ≤ i → w'.cell? ⟨g, i, none⟩ = w.cell? ⟨g, i, none⟩) (hd : Sees w' B 1 x.dA x.data.length (bvs x.data)) (hn : ∀ y ∈ L, ∀ b off, y.dA = some ⟨b, off, none⟩ → 0 < y.data.length → b ≠ g) :
    NodesAt w' B (some ⟨g, 0, none⟩) (L.set j x) := by
  obtain ⟨b, off, e, hb, hc⟩ := h.at_ (by omega)
  injection e with e
  injection e with e1 e2 _
  subst e1 e2
  refine ⟨fun _ => ⟨g, 0, rfl, hb, fun i hi => ?_⟩, fun y hy => ?_⟩
  · rw [List.length_set] at hi
    rw [List.getElem_set]
    by_cases hij : j = i
    · rw [if_pos hij, ← hij, Nat.zero_add]
      exact hx
    · rw [if_neg hij]
      obtain ⟨a0, a1, a2, a3, a4⟩ := hc i hi
      rw [Nat.zero_add] at a0 a1 a2 a3 a4 ⊢
      have go : ∀ o u, (o < j * 5 ∨ j * 5 + 5 ≤ o) → w.cell? ⟨g, o, none⟩ = some u → w'.cell? ⟨g, o, none⟩ = some u := fun o u h1 h2 => (ho o h1).trans h2
      exact ⟨go _ _ (by omega) a0, go _ _ (by omega) a1, go _ _ (by omega) a2, go _ _ (by omega) a3, go _ _ (by omega) a4⟩
  · rcases List.mem_or_eq_of_mem_set hy with hy | rfl
    · exact (h.data y hy).chgS (by decide) hC fun b off e h1 h2 => hn y hy b off e h1 h2
    · exact hd
/-- A cell of a node. -/
theorem cell_set {w : World} {g j k : Nat} {u v : Value} (_hk : k < 5) (h : w.cell? ⟨g, j * 5 + k, none⟩ = some u) :
    (w.setCell ⟨g, j * 5 + k, none⟩ v).cell? ⟨g, j * 5 + k, none⟩ = some v ∧ (∀ o, o ≠ j * 5 + k → (w.setCell ⟨g, j * 5 + k, none⟩ v).cell? ⟨g, o, none⟩ = w.cell? ⟨g, o, none⟩) ∧ Chg (fun b => b = g) w (w.setCell ⟨g, j * 5 + k, none⟩ v) :=
  ⟨World.cell?_setCell_same _ _ _ h, fun o ho => World.cell?_setCell_other w _ _ _ (by intro e; injection e with _ e2; exact ho e2.symm), (Chg.refl (fun b => b = g) w).setCell (p := ⟨g, j * 5 + k, none⟩) (fun _ => rfl) _⟩
section
variable {w : World} {g j : Nat} {x : Nd}
theorem nodeAt_kind (h : NodeAt w g (j * 5) x) (k : Int) : NodeAt (w.setCell ⟨g, j * 5 + 1, none⟩ (.int .i64 k)) g (j * 5) { x with kind := k } := by
  obtain ⟨a0, a1, a2, a3, a4⟩ := h
  obtain ⟨c1, c2, _⟩ := cell_set (v := .int .i64 k) (by decide) a1
  exact ⟨(c2 (j * 5) (by omega)).trans a0, c1, (c2 (j * 5 + 2) (by omega)).trans a2, (c2 (j * 5 + 3) (by omega)).trans a3, (c2 (j * 5 + 4) (by omega)).trans a4⟩
theorem nodeAt_made (h : NodeAt w g (j * 5) x) (k : Int) : NodeAt (w.setCell ⟨g, j * 5 + 2, none⟩ (.int .i64 k)) g (j * 5) { x with made := k } := by
  obtain ⟨a0, a1, a2, a3, a4⟩ := h
  obtain ⟨c1, c2, _⟩ := cell_set (v := .int .i64 k) (by decide) a2
  exact ⟨(c2 (j * 5) (by omega)).trans a0, (c2 (j * 5 + 1) (by omega)).trans a1, c1, (c2 (j * 5 + 3) (by omega)).trans a3, (c2 (j * 5 + 4) (by omega)).trans a4⟩
theorem nodeAt_same (h : NodeAt w g (j * 5) x) (s : ByteArray) : NodeAt (w.setCell ⟨g, j * 5 + 3, none⟩ (.string s)) g (j * 5) { x with same := s } := by
  obtain ⟨a0, a1, a2, a3, a4⟩ := h
  obtain ⟨c1, c2, _⟩ := cell_set (v := .string s) (by decide) a3
  exact ⟨(c2 (j * 5) (by omega)).trans a0, (c2 (j * 5 + 1) (by omega)).trans a1, (c2 (j * 5 + 2) (by omega)).trans a2, c1, (c2 (j * 5 + 4) (by omega)).trans a4⟩
theorem nodeAt_data (h : NodeAt w g (j * 5) x) (A : Option Addr) (c : Nat) (d : List UInt8) : NodeAt (w.setCell ⟨g, j * 5 + 4, none⟩ (.slice A d.length c)) g (j * 5) { x with dA := A, dc := c, data := d } := by
  obtain ⟨a0, a1, a2, a3, a4⟩ := h
  obtain ⟨c1, c2, _⟩ := cell_set (v := .slice A d.length c) (by decide) a4
  exact ⟨(c2 (j * 5) (by omega)).trans a0, (c2 (j * 5 + 1) (by omega)).trans a1, (c2 (j * 5 + 2) (by omega)).trans a2, (c2 (j * 5 + 3) (by omega)).trans a3, c1⟩
end
/-- A list in which one node stands written anew: its cells set at one place. -/
theorem nodes_put {w : World} {g B j k : Nat} {L : List Nd} (h : NodesAt w B (some ⟨g, 0, none⟩) L) (hj : j < L.length) (x : Nd) (v u : Value) (hk : k < 5) (hu : w.cell? ⟨g, j * 5 + k, none⟩ = some u) (hx : NodeAt (w.setCell ⟨g, j * 5 + k, none⟩ v) g (j * 5) x)
    (hd : Sees w B 1 x.dA x.data.length (bvs x.data)) (hnx : ∀ b off, x.dA = some ⟨b, off, none⟩ → 0 < x.data.length → b ≠ g) (hn : ∀ y ∈ L, ∀ b off, y.dA = some ⟨b, off, none⟩ → 0 < y.data.length → b ≠ g) :
    NodesAt (w.setCell ⟨g, j * 5 + k, none⟩ v) B (some ⟨g, 0, none⟩) (L.set j x) := by
  obtain ⟨_, c2, hC⟩ := cell_set (v := v) hk hu
  exact nodes_set h hj x hC hx (fun i hi => c2 i (by omega)) (hd.chgS (by decide) hC fun b off e h1 h2 => hnx b off e h1 h2) hn
theorem set_tn {L : List Nd} {j : Nat} (hj : j < L.length) (x : Nd) : (L.set j x).map Nd.tn = (L.map Nd.tn).take j ++ x.tn :: (L.map Nd.tn).drop (j + 1) := by
  rw [List.set_eq_take_append_cons_drop, if_pos hj, List.map_append, List.map_cons, List.map_take, List.map_drop]
#print axioms nodes_put
end Go.Proofs.YtolpcfhfcdkokaaGreatDoor
/-
  own: copies of nodes, at the bounds a dump can have (DumpBad).
-/
namespace Go.Proofs.YtolpcfhfcdkokaaGreatDoor
open Go.RowKit

theorem own_big (A : Option Addr) (cap : Nat) (l : List Nd) (w : World) (hN : NodesAt w w.heap.size A l) (hln : l.length ≤ 5000) (htot : totB l ≤ 1000000000) :
    Calls Tryz.prog 26 #[.slice A l.length cap] w fun e w' => ∃ (g : Nat) (vb : Value) (bs : Nat → Nat), e = .returned (.slice (some ⟨g, 0, none⟩) (l.length + 3) (l.length + 3)) ∧ LentAt w' w.heap.size g vb bs l ∧ Below w.heap.size w w' := by
  go_enter Tryz.func26, Tryz.ntmps26
  go_wp2_with fail
  refine (lend_big A cap l w hN hln htot).mono ?_
  rintro e w1 ⟨g, vb, bs, rfl, hL, hb⟩
  obtain ⟨Av, cv, rfl, _⟩ := Sees.of_own (B := w1.heap.size) hL.own fun g' hg' => (hL.own.lt g' hg').2
  have hf := fun (u : World) => (by kernel_rfl : (Instr.field 49 (.agg #[.slice (some ⟨g, 0, none⟩) (l.length + 3) (l.length + 3), .slice Av l.length cv]) 0).run Tryz.prog u = .ok (.slice (some ⟨g, 0, none⟩) (l.length + 3) (l.length + 3)) u)
  go_wp2
  go_ret
  exact ⟨g, _, bs, rfl, hL, hb⟩
#print axioms own_big
end Go.Proofs.YtolpcfhfcdkokaaGreatDoor
