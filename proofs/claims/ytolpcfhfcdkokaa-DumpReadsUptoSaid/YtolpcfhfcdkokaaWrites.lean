/-
  DumpWrites, the law's walk: every Bytes; nodes stay as they are, and are not remembered by their place; what comes out is its asker's alone.
-/
import Derived.Test.YtolpcfhfcdkokaaTurn
import Derived.Test.YtolpcfhfcdkokaaRBytes
namespace Go.Proofs.Ytolpcfhfcdkokaa
open Go.RowKit

theorem turn_any (B g : Nat) (vb : Value) (bs : Nat → Nat) (cap : Nat) (l : List Nd) (w : World) (hL : LentAt w B g vb bs l) (hln : l.length ≤ 5000) (hdl : ∀ x ∈ l, x.data.length ≤ 2097152) :
    Calls Try.prog 13 #[.slice (some ⟨g, 0, none⟩) l.length cap] w fun e w' => e = .returned (.tuple #[]) ∧ ∃ l', l'.length = l.length ∧ totB l' = totB l ∧ NodesAt w' w'.heap.size (some ⟨g, 0, none⟩) l' ∧
      Chg (fun b => b = g ∨ ∃ i, i < l.length ∧ b = bs i) w w' := by
  refine (turn_walk B g vb bs cap l w hL hln hdl).mono ?_
  rintro e w' ⟨rfl, X, hX⟩
  refine ⟨rfl, (List.range l.length).map X, by simp, ?_, ⟨fun _ => ?_, fun x hx => ?_⟩, hX.chg⟩
  · unfold totB
    congr 1
    apply List.ext_getElem
    · simp
    · intro i h1 h2
      have hi : i < l.length := by simpa using h2
      obtain ⟨e1, e2, e3⟩ := hX.size i hi
      simp [e1, e2, e3]
  · obtain ⟨cs, hr, _⟩ := hX.row
    refine ⟨g, 0, rfl, hr.lt, fun i hi => ?_⟩
    have hi' : i < l.length := by simpa using hi
    simp only [List.getElem_map, List.getElem_range, Nat.zero_add]
    exact hX.node i hi'
  · obtain ⟨i, hi, rfl⟩ := List.mem_map.1 hx
    have hi' : i < l.length := List.mem_range.1 hi
    have hd := hX.data i hi'
    have := blk_sees hd (B := w'.heap.size) hd.lt
    rw [bvs_length] at this
    rw [hX.adr i hi']
    exact this

/-- The answer of Bytes in one form. -/
def errB (l : List Nd) : Int := if ∀ x ∈ l, ndOk x then 0 else 170
def outB (l : List Nd) : List UInt8 := if ∀ x ∈ l, ndOk x then encAll l else []
theorem outB_le (l : List Nd) : (outB l).length ≤ (encAll l).length := by unfold outB; split <;> simp
theorem bts_uni {l : List Nd} {w : World} {e : Ending} {w' : World} (h : Bts l w e w') : ∃ v', e = .returned (.tuple #[v', .int .i64 (errB l)]) ∧ w'.ownsRow w.heap.size 5 1 v' (outB l).length (bvs (outB l)) ∧ Below w.heap.size w w' := by
  obtain ⟨⟨hok, v', rfl, ho⟩ | ⟨hno, rfl⟩, hb⟩ := h
  · refine ⟨v', by rw [errB, if_pos hok], ?_, hb⟩
    rw [outB, if_pos hok]
    exact ho
  · refine ⟨_, by rw [errB, if_neg hno], ?_, hb⟩
    rw [outB, if_neg hno]
    exact World.ownsRow_nil _ _ _ _
theorem enc_same {x y : Nd} (h : ndSame x y) : enc1 x = enc1 y ∧ (ndOk x ↔ ndOk y) := by
  obtain ⟨a, b, c, d, e⟩ := h
  unfold enc1 ndOk
  rw [a, b, c, d, e]
  exact ⟨rfl, Iff.rfl⟩
theorem encL (l : List Nd) (bs : Nat → Nat) : encAll (lentL l bs) = encAll l ∧ ((∀ x ∈ lentL l bs, ndOk x) ↔ ∀ x ∈ l, ndOk x) := by
  constructor
  · unfold encAll
    rw [List.flatMap_def, List.flatMap_def]
    congr 1
    apply List.ext_getElem
    · simp [lentL_length]
    · intro i h1 h2
      have hi : i < l.length := by simpa using h2
      have hi' : i < (lentL l bs).length := by rw [lentL_length]; exact hi
      simp only [List.getElem_map]
      exact (enc_same (lent_same l bs i hi' hi)).1
  · constructor
    · intro h x hx
      obtain ⟨i, hi, rfl⟩ := List.getElem_of_mem hx
      have hi' : i < (lentL l bs).length := by rw [lentL_length]; exact hi
      exact (enc_same (lent_same l bs i hi' hi)).2.1 (h _ (List.getElem_mem hi'))
    · intro h x hx
      obtain ⟨i, hi', rfl⟩ := List.getElem_of_mem hx
      have hi : i < l.length := by rw [lentL_length] at hi'; exact hi'
      exact (enc_same (lent_same l bs i hi' hi)).2.2 (h _ (List.getElem_mem hi))
theorem errL (l : List Nd) (bs : Nat → Nat) : errB (lentL l bs) = errB l := by
  unfold errB
  by_cases h : ∀ x ∈ l, ndOk x
  · rw [if_pos h, if_pos ((encL l bs).2.2 h)]
  · rw [if_neg h, if_neg fun h' => h ((encL l bs).2.1 h')]
theorem outL (l : List Nd) (bs : Nat → Nat) : outB (lentL l bs) = outB l := by
  unfold outB
  by_cases h : ∀ x ∈ l, ndOk x
  · rw [if_pos h, if_pos ((encL l bs).2.2 h), (encL l bs).1]
  · rw [if_neg h, if_neg fun h' => h ((encL l bs).2.1 h')]
theorem lent_chg {w w1 : World} {B g : Nat} {vb : Value} {bs : Nat → Nat} {l : List Nd} (h : LentAt w B g vb bs l) (hb : Below w.heap.size w w1) : LentAt w1 B g vb bs l := by
  obtain ⟨cs, hr, hl⟩ := h.row
  refine ⟨h.gB, h.mem.keep (S := fun b => w.heap.size ≤ b) (Chg.of_below hb) (by have := hr.lt; omega) (fun i hi e => by have := (h.mem.data i hi hi).lt; omega) hr.lt, ⟨cs, hr.fresh hb, hl⟩, fun i h1 h2 => ?_, own_fresh h.own hb⟩
  obtain ⟨m1, m2⟩ := h.marked i h1 h2
  exact ⟨(hb.cell (p := ⟨g, i * 5, none⟩) hr.lt).trans m1, (hb.cell (p := ⟨g, i * 5 + 4, none⟩) hr.lt).trans m2⟩
/-- Four rows of the law's own, no two of which share a block with a written one. -/
structure Rows4 (w0 w : World) (va : Value) (xa : List UInt8) (vb : Value) (xb : List UInt8) (vc vt : Value) (xc xt : List UInt8) : Prop where
  a : w.ownsRow w0.heap.size 5 1 va xa.length (bvs xa)
  b : w.ownsRow w0.heap.size 5 1 vb xb.length (bvs xb)
  c : w.ownsRow w0.heap.size 5 1 vc xc.length (bvs xc)
  t : w.ownsRow w0.heap.size 5 1 vt xt.length (bvs xt)
  ab : ∀ g, va.ownBlock = some g → vb.ownBlock ≠ some g
  ac : ∀ g, va.ownBlock = some g → vc.ownBlock ≠ some g
  at_ : ∀ g, va.ownBlock = some g → vt.ownBlock ≠ some g
  bc : ∀ g, vb.ownBlock = some g → vc.ownBlock ≠ some g
  bt : ∀ g, vb.ownBlock = some g → vt.ownBlock ≠ some g
  below : Below w0.heap.size w0 w
section
variable {w0 w w' : World} {va vb vc vt : Value} {xa xb xc xt : List UInt8}
theorem Rows4.swap (h : Rows4 w0 w va xa vb xb vc vt xc xt) : Rows4 w0 w vb xb va xa vc vt xc xt :=
  ⟨h.b, h.a, h.c, h.t, fun g e e' => h.ab g e' e, h.bc, h.bt, h.ac, h.at_, h.below⟩
theorem Rows4.form (h : Rows4 w0 w va xa vb xb vc vt xc xt) (hn : 0 < xa.length) : ∃ g cap, va = .slice (some ⟨g, 0, none⟩) xa.length cap ∧ w0.heap.size ≤ g ∧ g < w.heap.size := h.a.form hn
theorem Rows4.step (h : Rows4 w0 w va xa vb xb vc vt xc xt) {va' : Value} {xa' : List UInt8} (hc : Chg (fun b => va.ownBlock = some b) w w') (ho : w'.ownsRow w0.heap.size 5 1 va' xa'.length (bvs xa')) (hat : va'.ownBlock = va.ownBlock ∨ ∃ g, va'.ownBlock = some g ∧ w.heap.size ≤ g) :
    Rows4 w0 w' va' xa' vb xb vc vt xc xt := by
  have hd : ∀ v : Value, (∀ g, v.ownBlock = some g → g < w.heap.size) → (∀ g, va.ownBlock = some g → v.ownBlock ≠ some g) → ∀ g, va'.ownBlock = some g → v.ownBlock ≠ some g := fun v hlt hv g e e' => by
    rcases hat with h1 | ⟨g', h1, h2⟩
    · rw [h1] at e; exact hv g e e'
    · rw [h1] at e; injection e with e; have := hlt g e'; omega
  exact ⟨ho, own_chg h.b hc fun g e e' => h.ab g e' e, own_chg h.c hc fun g e e' => h.ac g e' e, own_chg h.t hc fun g e e' => h.at_ g e' e,
    hd vb (fun g e => (h.b.lt g e).2) h.ab, hd vc (fun g e => (h.c.lt g e).2) h.ac, hd vt (fun g e => (h.t.lt g e).2) h.at_, h.bc, h.bt,
    h.below.trans (hc.below h.below.size fun b hb e => by have := (h.a.lt b e).1; omega)⟩
theorem Rows4.set_ {g cap : Nat} (h : Rows4 w0 w (.slice (some ⟨g, 0, none⟩) xa.length cap) xa vb xb vc vt xc xt) (j : Nat) (u : UInt8) :
    Rows4 w0 (w.setCell ⟨g, j, none⟩ (.int .u8 (u.toNat : Int))) (.slice (some ⟨g, 0, none⟩) xa.length cap) (xa.set j u) vb xb vc vt xc xt := by
  obtain ⟨h1, h2⟩ := h.a.stored j (.int .u8 (u.toNat : Int))
  have e2 : (bvs xa).set j (.int .u8 (u.toNat : Int)) = bvs (xa.set j u) := by simp [bvs, List.map_set]
  rw [e2] at h1
  exact h.step ((Chg.refl _ w).grown h2 fun g' e _ => by injection e with e; subst e; rfl) (by rw [List.length_set]; exact h1) (.inl rfl)
theorem Rows4.setN {n g cap : Nat} (hn : xa.length = n) (h : Rows4 w0 w (.slice (some ⟨g, 0, none⟩) n cap) xa vb xb vc vt xc xt) (j : Nat) (u : UInt8) :
    Rows4 w0 (w.setCell ⟨g, j, none⟩ (.int .u8 (u.toNat : Int))) (.slice (some ⟨g, 0, none⟩) n cap) (xa.set j u) vb xb vc vt xc xt := by
  subst hn
  exact h.set_ j u
theorem Rows4.cellN {n g cap : Nat} (hn : xa.length = n) (h : Rows4 w0 w (.slice (some ⟨g, 0, none⟩) n cap) xa vb xb vc vt xc xt) (j : Nat) (hj : j < n) :
    (∃ b : UInt8, xa[j]? = some b ∧ w.cell? ⟨g, j, none⟩ = some (.int .u8 (b.toNat : Int))) ∧ w.frozen? ⟨g, j, none⟩ = false := by
  subst hn
  refine ⟨⟨xa[j], List.getElem?_eq_getElem hj, ?_⟩, h.a.frozenAt j⟩
  rw [h.a.cellAt j (by omega)]
  exact bvs_get xa j hj
theorem Rows4.formN {A : Option Addr} {n c : Nat} (hn : xa.length = n) (h : Rows4 w0 w (.slice A n c) xa vb xb vc vt xc xt) (h0 : 0 < n) : ∃ g, A = some ⟨g, 0, none⟩ := by
  obtain ⟨g, cap, e, _⟩ := h.form (by omega)
  injection e with e1 e2 e3
  exact ⟨g, e1⟩
theorem Rows4.formM {n : Nat} (hn : xa.length = n) (h : Rows4 w0 w va xa vb xb vc vt xc xt) (h0 : 0 < n) : ∃ g cap, va = .slice (some ⟨g, 0, none⟩) n cap := by
  subst hn
  obtain ⟨g, cap, e, _⟩ := h.form h0
  exact ⟨g, cap, e⟩
/-- The first j bytes are u. -/
def headU (xs : List UInt8) (j : Nat) (u : UInt8) : Prop := ∀ k, k < j → xs[k]? = some u
theorem headU_set {xs : List UInt8} {j n : Nat} {u : UInt8} (h : headU xs j u) (hn : xs.length = n) (hj : j < n) : headU (xs.set j u) (j + 1) u := by
  intro k hk
  by_cases e : k = j
  · subst e; rw [List.getElem?_set_self (by omega)]
  · rw [List.getElem?_set_ne (by omega)]; exact h k (by omega)
theorem headU_snoc {xs : List UInt8} {n : Nat} {u : UInt8} (h : headU xs n u) (hn : xs.length = n) : headU (xs ++ [u]) (n + 1) u := by
  intro k hk
  by_cases e : k = n
  · subst e; subst hn; simp
  · rw [List.getElem?_append_left (by omega)]; exact h k (by omega)
theorem Rows4.grow (h : Rows4 w0 w va xa vb xb vc vt xc xt) {o : Obj} {va' : Value} (u : UInt8) (ho : w'.ownsRow w0.heap.size 5 1 va' (xa.length + 1) (bvs xa ++ [.int .u8 (u.toNat : Int)])) (hg : (w.alloc o).grownBy w' va.ownBlock)
    (hat : va'.ownBlock = va.ownBlock ∨ va'.ownBlock = some (w.alloc o).heap.size) : Rows4 w0 w' va' (xa ++ [u]) vb xb vc vt xc xt :=
  h.step (((Chg.refl _ w).alloc o).grown hg fun g' e _ => e) (by rw [List.length_append, bvs_append]; exact ho) (hat.imp id fun e => ⟨_, e, by simp⟩)
end
#print axioms turn_any
end Go.Proofs.Ytolpcfhfcdkokaa
