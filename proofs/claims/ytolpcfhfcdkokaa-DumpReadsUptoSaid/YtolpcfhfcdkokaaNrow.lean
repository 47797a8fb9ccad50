/-
  Rows of nodes: a slice of nodes as cells; nodes of one's own, each with its bytes in a row of its own, no two rows in one block.
-/
import Derived.Test.YtolpcfhfcdkokaaReadLaw
import Derived.Test.YtolpcfhfcdkokaaClone
import Derived.Test.YtolpcfhfcdkokaaSame
namespace Go.Proofs.Ytolpcfhfcdkokaa
open Go.RowKit

/-- A node's five cells. -/
def cells5 (x : Nd) : List Value := [.string x.path, .int .i64 x.kind, .int .i64 x.made, .string x.same, .slice x.dA x.data.length x.dc]
def ncs (l : List Nd) : List Value := l.flatMap cells5
/-- The slice of a node's bytes. -/
def ndV (x : Nd) : Value := .slice x.dA x.data.length x.dc

theorem ncs_length (l : List Nd) : (ncs l).length = l.length * 5 := by
  induction l with
  | nil => rfl
  | cons x l ih =>
    simp only [ncs, List.flatMap_cons, List.length_append, List.length_cons] at *
    rw [ih]
    simp only [cells5, List.length_cons, List.length_nil]
    omega
theorem ncs_append (a b : List Nd) : ncs (a ++ b) = ncs a ++ ncs b := by unfold ncs; rw [List.flatMap_append]
theorem ncs_snoc (a : List Nd) (x : Nd) : ncs (a ++ [x]) = ncs a ++ cells5 x := by rw [ncs_append]; simp [ncs]
theorem ncs_one (l : List Nd) : ∀ u ∈ ncs l, u.oneCell' = true := by
  intro u hu
  obtain ⟨x, _, hx⟩ := List.mem_flatMap.1 hu
  simp only [cells5, List.mem_cons, List.not_mem_nil, or_false] at hx
  rcases hx with rfl | rfl | rfl | rfl | rfl <;> rfl
theorem ncs_get : ∀ (l : List Nd) (i : Nat) (h : i < l.length) (k : Nat), k < 5 → (ncs l)[i * 5 + k]? = (cells5 l[i])[k]? := by
  intro l
  induction l with
  | nil => intro i h; exact absurd h (by simp)
  | cons x l ih =>
    intro i h k hk
    have e : ncs (x :: l) = cells5 x ++ ncs l := rfl
    have h5 : (cells5 x).length = 5 := rfl
    rw [e]
    cases i with
    | zero => rw [List.getElem?_append_left (by omega)]; simp
    | succ i =>
      rw [List.getElem?_append_right (by omega), h5, show (i + 1) * 5 + k - 5 = i * 5 + k by omega, ih i (by simpa using h) k hk]
      simp
section
variable {w w1 : World} {B : Nat} {A : Option Addr} {l : List Nd}
theorem NodesAt.sees (h : NodesAt w B A l) : Sees w B 5 A l.length (ncs l) :=
  ⟨ncs_length l, fun hn => by
    obtain ⟨b, off, e, hb, hc⟩ := h.at_ hn
    refine ⟨b, off, e, hb, fun j u hu => ?_⟩
    have hj : j < l.length * 5 := by
      rcases Nat.lt_or_ge j (l.length * 5) with h | h
      · exact h
      · rw [List.getElem?_eq_none (by rw [ncs_length]; exact h)] at hu; cases hu
    have hi : j / 5 < l.length := by omega
    obtain ⟨c0, c1, c2, c3, c4⟩ := hc (j / 5) hi
    have hg := ncs_get l (j / 5) hi (j % 5) (by omega)
    rw [show j / 5 * 5 + j % 5 = j by omega, hu] at hg
    have hm : j % 5 = 0 ∨ j % 5 = 1 ∨ j % 5 = 2 ∨ j % 5 = 3 ∨ j % 5 = 4 := by omega
    rcases hm with m | m | m | m | m <;> rw [m] at hg <;> injection hg with hg <;> subst hg
    · rw [show off + j = off + j / 5 * 5 by omega]; exact c0
    · rw [show off + j = off + j / 5 * 5 + 1 by omega]; exact c1
    · rw [show off + j = off + j / 5 * 5 + 2 by omega]; exact c2
    · rw [show off + j = off + j / 5 * 5 + 3 by omega]; exact c3
    · rw [show off + j = off + j / 5 * 5 + 4 by omega]; exact c4⟩
theorem nodes_of_sees (h : Sees w B 5 A l.length (ncs l)) (hd : ∀ x ∈ l, Sees w B 1 x.dA x.data.length (bvs x.data)) : NodesAt w B A l :=
  ⟨fun hn => by
    obtain ⟨b, off, e, hb, hc⟩ := h.at_ hn
    refine ⟨b, off, e, hb, fun i hi => ?_⟩
    have go : ∀ k u, k < 5 → (cells5 l[i])[k]? = some u → w.cell? ⟨b, off + (i * 5 + k), none⟩ = some u := fun k u hk hu => hc (i * 5 + k) u ((ncs_get l i hi k hk).trans hu)
    exact ⟨go 0 _ (by omega) rfl, go 1 _ (by omega) rfl, go 2 _ (by omega) rfl, go 3 _ (by omega) rfl, go 4 _ (by omega) rfl⟩, hd⟩
end

/-- Nodes of one's own from block B on. -/
structure OwnN (w : World) (B : Nat) (v : Value) (l : List Nd) : Prop where
  row : w.ownsRow B 47 5 v l.length (ncs l)
  data : ∀ i (h : i < l.length), w.ownsRow B 5 1 (ndV l[i]) l[i].data.length (bvs l[i].data)
  apart : ∀ i j (hi : i < l.length) (hj : j < l.length) g, i ≠ j → (ndV l[i]).ownBlock = some g → (ndV l[j]).ownBlock ≠ some g
  aside : ∀ i (h : i < l.length) g, v.ownBlock = some g → (ndV l[i]).ownBlock ≠ some g

theorem OwnN.nil (w : World) (B : Nat) : OwnN w B (.slice none 0 0) [] :=
  ⟨World.ownsRow_nil _ _ _ _, fun i h => absurd h (by simp), fun i j h => absurd h (by simp), fun i h => absurd h (by simp)⟩
theorem OwnN.chg {S : Nat → Prop} {w w1 : World} {B : Nat} {v : Value} {l : List Nd} (h : OwnN w B v l) (hc : Chg S w w1) (hS : ∀ b, B ≤ b → ¬ S b) : OwnN w1 B v l :=
  ⟨own_chg h.row hc fun g hg => hS g (h.row.lt g hg).1, fun i hi => own_chg (h.data i hi) hc fun g hg => hS g ((h.data i hi).lt g hg).1, h.apart, h.aside⟩
theorem OwnN.fresh {w w1 : World} {B : Nat} {v : Value} {l : List Nd} (h : OwnN w B v l) (hc : Below w.heap.size w w1) : OwnN w1 B v l :=
  ⟨own_fresh h.row hc, fun i hi => own_fresh (h.data i hi) hc, h.apart, h.aside⟩
theorem OwnN.nodes {w : World} {B : Nat} {v : Value} {l : List Nd} (h : OwnN w B v l) : ∃ A c, v = .slice A l.length c ∧ NodesAt w w.heap.size A l := by
  obtain ⟨A, c, e, hs⟩ := Sees.of_own (B := w.heap.size) h.row fun g hg => (h.row.lt g hg).2
  refine ⟨A, c, e, nodes_of_sees hs fun x hx => ?_⟩
  obtain ⟨i, hi, rfl⟩ := List.getElem_of_mem hx
  obtain ⟨A', c', e', hs'⟩ := Sees.of_own (B := w.heap.size) (h.data i hi) fun g hg => ((h.data i hi).lt g hg).2
  unfold ndV at e'
  injection e' with e1 e2 e3
  rw [e1]
  exact hs'
/-- One node more: its bytes in a row that was made since; the row of nodes has grown. -/
theorem OwnN.step {S : Nat → Prop} {w w1 w2 : World} {B : Nat} {v v' : Value} {l : List Nd} {x : Nd} (h : OwnN w B v l) (hc : Chg S w w1) (hS : ∀ b, B ≤ b → ¬ S b) (hB : B ≤ w.heap.size)
    (hd : w1.ownsRow w.heap.size 5 1 (ndV x) x.data.length (bvs x.data)) (hrow : w2.ownsRow B 47 5 v' (l.length + 1) (ncs l ++ cells5 x)) (hg : Grows w1 v w2 v') : OwnN w2 B v' (l ++ [x]) := by
  have hr1 := own_chg h.row hc fun g hg => hS g (h.row.lt g hg).1
  have hd1 : ∀ i (hi : i < l.length), w1.ownsRow B 5 1 (ndV l[i]) l[i].data.length (bvs l[i].data) := fun i hi => own_chg (h.data i hi) hc fun g hg => hS g ((h.data i hi).lt g hg).1
  have hlt : ∀ i (hi : i < l.length) g, (ndV l[i]).ownBlock = some g → g < w.heap.size := fun i hi g hg => ((h.data i hi).lt g hg).2
  have hvx : ∀ g, v.ownBlock = some g → (ndV x).ownBlock ≠ some g := fun g hv hx => by
    have h1 := (h.row.lt g hv).2
    have h2 := (hd.lt g hx).1
    omega
  have hd2 : ∀ i (hi : i < l.length), w2.ownsRow B 5 1 (ndV l[i]) l[i].data.length (bvs l[i].data) := fun i hi => own_chg (hd1 i hi) hg.chg fun g hi' hv => h.aside i hi g hv hi'
  have hx2 : w2.ownsRow w.heap.size 5 1 (ndV x) x.data.length (bvs x.data) := own_chg hd hg.chg fun g hx hv => hvx g hv hx
  have hget : ∀ i (hi : i < l.length) (hi' : i < (l ++ [x]).length), (l ++ [x])[i] = l[i] := fun i hi hi' => List.getElem_append_left hi
  have hlast : ∀ (hi' : l.length < (l ++ [x]).length), (l ++ [x])[l.length] = x := fun hi' => by simp
  refine ⟨by rw [ncs_snoc]; simpa using hrow, fun i hi => ?_, fun i j hi hj g hij hgi => ?_, fun i hi g hv => ?_⟩
  · rcases Nat.lt_or_ge i l.length with h1 | h1
    · rw [hget i h1]; exact hd2 i h1
    · obtain rfl : i = l.length := by rw [List.length_append, List.length_singleton] at hi; omega
      rw [hlast]; exact own_base hx2 fun g hg => by have := (hx2.lt g hg).1; omega
  · rw [List.length_append, List.length_singleton] at hi hj
    rcases Nat.lt_or_ge i l.length with h1 | h1
    · rw [hget i h1] at hgi
      rcases Nat.lt_or_ge j l.length with h2 | h2
      · rw [hget j h2]; exact h.apart i j h1 h2 g hij hgi
      · obtain rfl : j = l.length := by omega
        rw [hlast]
        intro e
        have h3 := (hd.lt g e).1
        have h4 := hlt i h1 g hgi
        omega
    · obtain rfl : i = l.length := by omega
      rw [hlast] at hgi
      have h3 := (hd.lt g hgi).1
      have h2 : j < l.length := by omega
      rw [hget j h2]
      intro e
      have h4 := hlt j h2 g e
      omega
  · rw [List.length_append, List.length_singleton] at hi
    have hcs := hc.size
    rcases Nat.lt_or_ge i l.length with h1 | h1
    · rw [hget i h1]
      intro e
      rcases hg.at_ with e1 | ⟨g', e1, hg'⟩
      · rw [e1] at hv; exact h.aside i h1 g hv e
      · rw [e1] at hv; injection hv with hv; subst hv
        have h4 := hlt i h1 _ e
        omega
    · obtain rfl : i = l.length := by omega
      rw [hlast]
      intro e
      rcases hg.at_ with e1 | ⟨g', e1, hg'⟩
      · rw [e1] at hv; exact hvx g hv e
      · rw [e1] at hv; injection hv with hv; subst hv
        have h4 := (hd.lt _ e).2
        omega
#print axioms OwnN.step
end Go.Proofs.Ytolpcfhfcdkokaa
