/-
  Words for memory that this seat's proofs share: which old blocks may have changed (Chg); a slice that reads as a row of cells (Sees); rows of the call's own; how append, string conversion and the like act on them.
-/
import Derived.Test.YtolpcfhfcdkokaaRows
import Derived.WalkKit
import Derived.WalkLawsBesides
import Derived.WalkSpells
import Derived.Deep.RegionHeld3
import Derived.Deep.AppendLies
import Derived.Deep.AppendSrc
import Derived.Maps.AppendAt
import Derived.Deep.QuietTactic
import Derived.BigQuiet
import Derived.Laws.CopyOwn
import Derived.Lib.Hide
namespace Go.Proofs.Ytolpcfhfcdkokaa
open Go.RowKit

/-! ### Which old blocks may have changed -/

/-- Of the blocks that were there only those in S may have changed; the streams are as they were. -/
structure Chg (S : Nat → Prop) (w w' : World) : Prop where
  os : w'.os = w.os
  tape : w'.tape = w.tape
  output : w'.output = w.output
  size : w.heap.size ≤ w'.heap.size
  block : ∀ k, k < w.heap.size → ¬ S k → w'.heap[k]? = w.heap[k]?

section
variable {S T U : Nat → Prop} {w w1 w2 : World} {B : Nat}

theorem Chg.refl (S : Nat → Prop) (w : World) : Chg S w w := ⟨rfl, rfl, rfl, Nat.le_refl _, fun _ _ _ => rfl⟩
theorem Chg.trans (h : Chg S w w1) (k : Chg T w1 w2) (hs : ∀ b, b < w.heap.size → S b → U b) (ht : ∀ b, b < w.heap.size → T b → U b) : Chg U w w2 :=
  ⟨k.os.trans h.os, k.tape.trans h.tape, k.output.trans h.output, Nat.le_trans h.size k.size, fun b hb hn =>
    (k.block b (Nat.lt_of_lt_of_le hb h.size) (fun hT => hn (ht b hb hT))).trans (h.block b hb (fun hS => hn (hs b hb hS)))⟩
theorem Chg.mono (h : Chg S w w1) (hs : ∀ b, b < w.heap.size → S b → U b) : Chg U w w1 := ⟨h.os, h.tape, h.output, h.size, fun b hb hn => h.block b hb fun hS => hn (hs b hb hS)⟩
theorem Chg.drew (h : Chg S w w1) : Chg S w w1.drew := ⟨h.os, h.tape, h.output, h.size, h.block⟩
theorem Chg.drewN (h : Chg S w w1) (n : Nat) : Chg S w (w1.drewN n) := ⟨h.os, h.tape, h.output, h.size, h.block⟩
theorem Chg.alloc (h : Chg S w w1) (o : Obj) : Chg S w (w1.alloc o) :=
  ⟨h.os, h.tape, h.output, by have := h.size; simp; omega, fun b hb hn => (Below.heap_alloc w1 o b (Nat.lt_of_lt_of_le hb h.size)).trans (h.block b hb hn)⟩
theorem Chg.setCell (h : Chg S w w1) {p : Addr} (hp : p.block < w.heap.size → S p.block) (u : Value) : Chg S w (w1.setCell p u) :=
  ⟨h.os, h.tape, h.output, by have := h.size; simp [World.setCell]; omega, fun b hb hn => (Below.heap_setCell w1 p u b (fun e => hn (e ▸ hp (e ▸ hb)))).trans (h.block b hb hn)⟩
theorem Chg.setRow (h : Chg S w w1) {g : Nat} (hp : g < w.heap.size → S g) (cs : Array Value) : Chg S w (w1.setRow g cs) :=
  ⟨h.os, h.tape, h.output, by have := h.size; simp; omega, fun b hb hn => (setRow_other w1 g b cs (fun e => hn (e ▸ hp (e ▸ hb)))).trans (h.block b hb hn)⟩
theorem Chg.grown {row : Option Nat} (h : Chg S w w1) (hg : w1.grownBy w2 row) (hr : ∀ g, row = some g → g < w.heap.size → S g) : Chg S w w2 :=
  ⟨hg.os.trans h.os, hg.tape.trans h.tape, hg.output.trans h.output, Nat.le_trans h.size hg.size, fun b hb hn =>
    (hg.block b (Nat.lt_of_lt_of_le hb h.size) (fun e => hn (hr b e.symm hb))).trans (h.block b hb hn)⟩
theorem below_drewN' (h : Below B w w1) (n : Nat) : Below B w (w1.drewN n) := ⟨h.os, h.tape, h.output, h.size, h.block⟩
theorem Chg.of_below (h : Below B w w1) : Chg (fun b => B ≤ b) w w1 := ⟨h.os, h.tape, h.output, h.size, fun b _ hn => h.block b (by omega)⟩
theorem Chg.of_fresh (h : Below w.heap.size w w1) : Chg S w w1 := ⟨h.os, h.tape, h.output, h.size, fun b hb _ => h.block b hb⟩
theorem Chg.below (h : Chg S w w1) (hB : B ≤ w.heap.size) (hs : ∀ b, b < B → ¬ S b) : Below B w w1 := ⟨h.os, h.tape, h.output, h.size, fun b hb => h.block b (by omega) (hs b hb)⟩
theorem Chg.cell (h : Chg S w w1) {p : Addr} (hp : p.block < w.heap.size) (hn : ¬ S p.block) : w1.cell? p = w.cell? p := World.cell?_of_block (w := w) (h.block p.block hp hn)
theorem Chg.frozen (h : Chg S w w1) {p : Addr} (hp : p.block < w.heap.size) (hn : ¬ S p.block) : w1.frozen? p = w.frozen? p := World.frozen?_of_block (w := w) (h.block p.block hp hn)
theorem own_chg {base : Nat} {e : TypeId} {size : Nat} {v : Value} {n : Nat} {xs : List Value} (h : w.ownsRow base e size v n xs) (hc : Chg S w w1) (hn : ∀ g, v.ownBlock = some g → ¬ S g) : w1.ownsRow base e size v n xs := by
  obtain ⟨h1, h2⟩ := h
  refine ⟨h1, ?_⟩
  rcases h2 with h2 | ⟨g, cap, cur, hv, hg, hh, r⟩
  · exact Or.inl h2
  · refine Or.inr ⟨g, cap, cur, hv, hg, ?_, r⟩
    have hlt : g < w.heap.size := (Array.getElem?_eq_some_iff.1 hh).1
    rw [hc.block g hlt (hn g (by rw [hv]; rfl))]
    exact hh
theorem own_below {B : Nat} {base : Nat} {e : TypeId} {size : Nat} {v : Value} {n : Nat} {xs : List Value} (h : w.ownsRow base e size v n xs) (hc : Below B w w1) (hn : ∀ g, v.ownBlock = some g → g < B) : w1.ownsRow base e size v n xs :=
  own_chg h (Chg.of_below hc) fun g hg => by have := hn g hg; omega
theorem own_base {base base' : Nat} {e : TypeId} {size : Nat} {v : Value} {n : Nat} {xs : List Value} (h : w.ownsRow base e size v n xs) (hb : ∀ g, v.ownBlock = some g → base' ≤ g) : w.ownsRow base' e size v n xs := by
  obtain ⟨h1, h2⟩ := h
  refine ⟨h1, ?_⟩
  rcases h2 with h2 | ⟨g, cap, cur, hv, hg, r⟩
  · exact Or.inl h2
  · exact Or.inr ⟨g, cap, cur, hv, hb g (by rw [hv]; rfl), r⟩
end

/-- A slice of one's own that has grown: in its row, or in a new one. -/
structure Grows (w : World) (v : Value) (w' : World) (v' : Value) : Prop where
  chg : Chg (fun b => v.ownBlock = some b) w w'
  at_ : v'.ownBlock = v.ownBlock ∨ ∃ g, v'.ownBlock = some g ∧ w.heap.size ≤ g
theorem Grows.refl (w : World) (v : Value) : Grows w v w v := ⟨Chg.refl _ _, .inl rfl⟩
theorem Grows.trans {w w1 w2 : World} {v v1 v2 : Value} (h : Grows w v w1 v1) (k : Grows w1 v1 w2 v2) : Grows w v w2 v2 := by
  have hs := h.chg.size
  constructor
  · refine h.chg.trans k.chg (fun b _ hb => hb) (fun b hb hb1 => ?_)
    rcases h.at_ with e | ⟨g, e, hg⟩
    · rw [← e]; exact hb1
    · rw [e] at hb1; injection hb1; omega
  · rcases k.at_ with e | ⟨g, e, hg⟩
    · rw [e]; exact h.at_
    · exact .inr ⟨g, e, by omega⟩
theorem Grows.drew {w w1 : World} {v v1 : Value} (h : Grows w v w1 v1) : Grows w v w1.drew v1 := ⟨h.chg.drew, h.at_⟩
theorem Grows.first {w0 w w1 : World} {v v1 : Value} (hb : Below w0.heap.size w0 w) (h : Grows w v w1 v1) (hv : ∀ g, v.ownBlock = some g → w0.heap.size ≤ g) : Below w0.heap.size w0 w1 ∧ ∀ g, v1.ownBlock = some g → w0.heap.size ≤ g := by
  have hs := hb.size
  refine ⟨hb.trans (h.chg.below hs fun b hb e => by have := hv b e; omega), fun g hg => ?_⟩
  rcases h.at_ with e | ⟨g', e, hg'⟩
  · exact hv g (e ▸ hg)
  · rw [e] at hg; injection hg; omega
theorem Grows.of_law {w0 w w1 : World} {v v1 : Value} {k : Nat} (hb : Below w0.heap.size w0 w) (hg : w.grownBy w1 v.ownBlock) (hat : v1.ownBlock = v.ownBlock ∨ v1.ownBlock = some k) (hk : w0.heap.size ≤ k) : Grows w0 v w1 v1 :=
  ⟨(Chg.of_fresh hb).grown hg fun _ e _ => e, hat.imp id fun e => ⟨k, e, hk⟩⟩

/-! ### Rows that are read -/

/-- The slice value '.slice A n c' reads as the cells xs (n elements of 'size' cells), and lies below block B. -/
structure Sees (w : World) (B size : Nat) (A : Option Addr) (n : Nat) (xs : List Value) : Prop where
  len : xs.length = n * size
  at_ : 0 < n → ∃ b off, A = some ⟨b, off, none⟩ ∧ b < B ∧ ∀ j u, xs[j]? = some u → w.cell? ⟨b, off + j, none⟩ = some u

section
variable {w w1 : World} {B B' size n : Nat} {A : Option Addr} {xs : List Value}
theorem Sees.nil : Sees w B size none 0 [] := ⟨by simp, fun h => absurd h (by omega)⟩
theorem Sees.keep (h : Sees w B size A n xs) (hk : ∀ p : Addr, p.block < B → w1.cell? p = w.cell? p) : Sees w1 B size A n xs :=
  ⟨h.len, fun hn => let ⟨b, off, e, hb, hc⟩ := h.at_ hn; ⟨b, off, e, hb, fun j u hu => (hk ⟨b, off + j, none⟩ hb).trans (hc j u hu)⟩⟩
theorem Sees.below (h : Sees w B size A n xs) (hb : Below B w w1) : Sees w1 B size A n xs := h.keep fun _ hp => hb.cell hp
theorem Sees.more (h : Sees w B size A n xs) (hB : B ≤ B') : Sees w B' size A n xs := ⟨h.len, fun hn => let ⟨b, off, e, hb, hc⟩ := h.at_ hn; ⟨b, off, e, by omega, hc⟩⟩
theorem Sees.of_own {base : Nat} {e : TypeId} {v : Value} (h : w.ownsRow base e size v n xs) (hv : ∀ g, v.ownBlock = some g → g < B) : ∃ A c, v = .slice A n c ∧ Sees w B size A n xs := by
  rcases h.2 with ⟨rfl, rfl⟩ | ⟨g, cap, cur, rfl, hb, hg, hnc, hcm, hcs, ht⟩
  · refine ⟨none, 0, rfl, h.1, fun hn => absurd hn (by omega)⟩
  · refine ⟨_, _, rfl, h.1, fun _ => ⟨g, 0, rfl, hv g rfl, fun j u hu => ?_⟩⟩
    rw [Nat.zero_add, cell_of_row w g j cur e (0, 0) hg]
    rw [← ht, List.getElem?_take] at hu
    split at hu
    · simpa using hu
    · cases hu
theorem Sees.take {k : Nat} (h : Sees w B size A n xs) (hk : k ≤ n) : Sees w B size A k (xs.take (k * size)) :=
  ⟨by rw [List.length_take, h.len]; exact Nat.min_eq_left (Nat.mul_le_mul_right _ hk), fun hn => by
    obtain ⟨b, off, e, hb, hc⟩ := h.at_ (by omega)
    refine ⟨b, off, e, hb, fun j u hu => hc j u ?_⟩
    rw [List.getElem?_take] at hu
    split at hu
    · exact hu
    · cases hu⟩
end

/-- Bytes as cells. -/
def bvs (l : List UInt8) : List Value := l.map fun b => Value.int .u8 (b.toNat : Int)
theorem bvs_length (l : List UInt8) : (bvs l).length = l.length := by simp [bvs]
theorem bvs_append (a b : List UInt8) : bvs (a ++ b) = bvs a ++ bvs b := by simp [bvs]
theorem bvs_one (l : List UInt8) : ∀ u ∈ bvs l, u.oneCell' = true := by
  intro u hu
  obtain ⟨b, _, rfl⟩ := List.mem_map.1 hu
  rfl
theorem bvs_get (l : List UInt8) (j : Nat) (h : j < l.length) : (bvs l)[j]? = some (.int .u8 (l[j].toNat : Int)) := by simp [bvs, h]
theorem byteCells_eq (s : ByteArray) : byteCells s = bvs s.data.toList := rfl

#print axioms Grows.trans
end Go.Proofs.Ytolpcfhfcdkokaa
