/-
  DumpBack: words for its walk: two lists of nodes that were lent, one behind the other in a row of the law's own.
-/
import Derived.Test.YtolpcfhfcdkokaaRead
import Derived.Test.YtolpcfhfcdkokaaWrites
import Derived.Test.YtolpcfhfcdkokaaNothing
namespace Go.Proofs.Ytolpcfhfcdkokaa
open Go.RowKit

structure AllAt (w : World) (lo : Nat) (v : Value) (l1 : List Nd) (bs1 : Nat → Nat) (l2 : List Nd) (bs2 : Nat → Nat) : Prop where
  row : w.ownsRow lo 47 5 v (l1.length + l2.length) (ncs (lentL l1 bs1) ++ ncs (lentL l2 bs2))
  d1 : ∀ i (h : i < l1.length), Blk w (bs1 i) 5 (bvs l1[i].data ++ mark5)
  d2 : ∀ i (h : i < l2.length), Blk w (bs2 i) 5 (bvs l2[i].data ++ mark5)
  lo1 : ∀ i, i < l1.length → lo ≤ bs1 i
  lo2 : ∀ i, i < l2.length → lo ≤ bs2 i
theorem lent_data {w : World} {l : List Nd} {bs : Nat → Nat} (h : ∀ i (h : i < l.length), Blk w (bs i) 5 (bvs l[i].data ++ mark5)) : ∀ x ∈ lentL l bs, Sees w w.heap.size 1 x.dA x.data.length (bvs x.data) := by
  intro x hx
  obtain ⟨i, hi, rfl⟩ := List.getElem_of_mem hx
  have hi' : i < l.length := by rw [lentL_length] at hi; exact hi
  rw [lentL_get l bs i hi hi']
  have := blk_sees (h i hi') (B := w.heap.size) (h i hi').lt
  rw [bvs_length] at this
  exact this
section
variable {w w1 : World} {lo : Nat} {v : Value} {l1 l2 : List Nd} {bs1 bs2 : Nat → Nat}
theorem AllAt.chg {S : Nat → Prop} (h : AllAt w lo v l1 bs1 l2 bs2) (hc : Chg S w w1) (hS : ∀ b, lo ≤ b → b < w.heap.size → ¬ S b) : AllAt w1 lo v l1 bs1 l2 bs2 :=
  ⟨own_chg h.row hc fun g hg => hS g (h.row.lt g hg).1 (h.row.lt g hg).2, fun i hi => (h.d1 i hi).chg hc (hS _ (h.lo1 i hi) (h.d1 i hi).lt), fun i hi => (h.d2 i hi).chg hc (hS _ (h.lo2 i hi) (h.d2 i hi).lt), h.lo1, h.lo2⟩
theorem AllAt.fresh (h : AllAt w lo v l1 bs1 l2 bs2) (hc : Below w.heap.size w w1) : AllAt w1 lo v l1 bs1 l2 bs2 := h.chg (Chg.of_below hc) fun b _ hb e => by omega
theorem AllAt.nodes (h : AllAt w lo v l1 bs1 l2 bs2) : ∃ A c, v = .slice A (l1.length + l2.length) c ∧ NodesAt w w.heap.size A (lentL l1 bs1 ++ lentL l2 bs2) := by
  obtain ⟨A, c, e, hs⟩ := Sees.of_own (B := w.heap.size) h.row fun g hg => (h.row.lt g hg).2
  refine ⟨A, c, e, nodes_of_sees ?_ fun x hx => ?_⟩
  · rw [List.length_append, lentL_length, lentL_length, ncs_append]
    exact hs
  · rcases List.mem_append.1 hx with hx | hx
    · exact lent_data h.d1 x hx
    · exact lent_data h.d2 x hx
end
theorem own_cap {w : World} {base : Nat} {e : TypeId} {size : Nat} {v : Value} {n : Nat} {xs : List Value} (h : w.ownsRow base e size v n xs) : ∃ A c, v = .slice A n c ∧ n ≤ c ∧ Sees w w.heap.size size A n xs := by
  obtain ⟨A, c, e1, hs⟩ := Sees.of_own (B := w.heap.size) h fun g hg => (h.lt g hg).2
  refine ⟨A, c, e1, ?_, hs⟩
  rcases h.2 with ⟨h1, rfl⟩ | ⟨g, cap, cur, h1, _, _, hnc, _⟩
  · exact Nat.zero_le _
  · rw [e1] at h1
    injection h1 with _ _ h1
    omega
theorem ba_ext {a b : ByteArray} (h : a.data.toList = b.data.toList) : a = b := by
  cases a with | mk a =>
  cases b with | mk b =>
  simp only at h
  rw [show a = b from Array.ext' h]
theorem nd_of_P {x y : Nd} (h : ndP x = ndP y) (hx : 0 ≤ x.kind ∧ 0 ≤ x.made) (hy : 0 ≤ y.kind ∧ 0 ≤ y.made) : ndSame x y := by
  unfold ndP at h
  injection h with h1 h2 h3 h4 h5
  exact ⟨ba_ext h1, by omega, by omega, ba_ext h4, h5⟩
theorem ok_nn {x : Nd} (h : ndOk x) : 0 ≤ x.kind ∧ 0 ≤ x.made := by
  obtain ⟨h1, h2, _⟩ := h
  exact ⟨by omega, h2⟩
theorem read_some {all : List Nd} (hok : ∀ x ∈ all, ndOk x) : readL (encAll all).length (some (encAll all)) = some (all.map ndP) := by
  have h1 := readL_enc (all.map ndP) (encAll all).length (fun p hp => by
    obtain ⟨x, hx, rfl⟩ := List.mem_map.1 hp
    exact pnOk_ndP x (hok x hx)) (by rw [encAll_P all hok]; exact Nat.le_refl _)
  rw [encAll_P all hok] at h1
  exact h1
theorem AllAt.nodesAt {w : World} {lo : Nat} {A : Option Addr} {n c : Nat} {l1 l2 : List Nd} {bs1 bs2 : Nat → Nat} (h : AllAt w lo (.slice A n c) l1 bs1 l2 bs2) : NodesAt w w.heap.size A (lentL l1 bs1 ++ lentL l2 bs2) := by
  obtain ⟨A', c', e, hN⟩ := h.nodes
  injection e with e1 e2 e3
  rw [e1]
  exact hN
/-- Nodes that were read off the bytes of nodes are these. -/
theorem read_same {l all : List Nd} (hok : ∀ x ∈ all, ndOk x) (hr : readL (encAll all).length (some (encAll all)) = some (l.map ndP)) (hn : NN l) : l.length = all.length ∧ ∀ i (h1 : i < l.length) (h2 : i < all.length), ndSame l[i] all[i] := by
  have h1 := readL_enc (all.map ndP) (encAll all).length (fun p hp => by
    obtain ⟨x, hx, rfl⟩ := List.mem_map.1 hp
    exact pnOk_ndP x (hok x hx)) (by rw [encAll_P all hok]; exact Nat.le_refl _)
  rw [encAll_P all hok, hr] at h1
  injection h1 with h1
  have hl : l.length = all.length := by simpa using congrArg List.length h1
  refine ⟨hl, fun i hi1 hi2 => nd_of_P ?_ (hn _ (List.getElem_mem hi1)) (ok_nn (hok _ (List.getElem_mem hi2)))⟩
  have h2 : (l.map ndP)[i]? = (all.map ndP)[i]? := by rw [h1]
  simpa [hi1, hi2] using h2
theorem all_ok (l1 l2 : List Nd) (bs1 bs2 : Nat → Nat) : (∀ x ∈ lentL l1 bs1 ++ lentL l2 bs2, ndOk x) ↔ (∀ x ∈ l1, ndOk x) ∧ ∀ x ∈ l2, ndOk x := by
  rw [← (encL l1 bs1).2, ← (encL l2 bs2).2]
  constructor
  · intro h
    exact ⟨fun x hx => h x (List.mem_append_left _ hx), fun x hx => h x (List.mem_append_right _ hx)⟩
  · intro h x hx
    rcases List.mem_append.1 hx with hx | hx
    · exact h.1 x hx
    · exact h.2 x hx
theorem all_enc (l1 l2 : List Nd) (bs1 bs2 : Nat → Nat) : encAll (lentL l1 bs1 ++ lentL l2 bs2) = encAll l1 ++ encAll l2 := by rw [encAll_append, (encL l1 bs1).1, (encL l2 bs2).1]
#print axioms read_same
end Go.Proofs.Ytolpcfhfcdkokaa
