/- Joined out of the texts Base, App. -/
import Derived.Test.YtolpcfhfcdkokaaGreatDoorRows
import Derived.WalkKit
import Derived.WalkLawsBesides
import Derived.WalkSpells
import Derived.Deep.RegionHeld3
import Derived.Deep.AppendLies
import Derived.Deep.AppendSrc
import Derived.Maps.AppendAt
import Derived.Deep.QuietTactic
import Derived.BigQuiet
import Derived.Laws.CopyOwn
import Derived.Lib.Hide
/-
  Words for memory that this seat's proofs share: which old blocks may have changed (Chg); a slice that reads as a row of cells (Sees); rows of the call's own; how append, string conversion and the like act on them.
-/
namespace Go.Proofs.YtolpcfhfcdkokaaGreatDoor
open Go.RowKit

/-! ### Which old blocks may have changed -/

/-- Of the blocks that were there only those in S may have changed; the streams are as they were. -/
structure Chg (S : Nat → Prop) (w w' : World) : Prop where
  os : w'.os = w.os
  tape : w'.tape = w.tape
  output : w'.output = w.output
  size : w.heap.size ≤ w'.heap.size
  block : ∀ k, k < w.heap.size → ¬ S k → w'.heap[k]? = w.heap[k]?

section
variable {S T U : Nat → Prop} {w w1 w2 : World} {B : Nat}

theorem Chg.refl (S : Nat → Prop) (w : World) : Chg S w w := ⟨rfl, rfl, rfl, Nat.le_refl _, fun _ _ _ => rfl⟩
theorem Chg.trans (h : Chg S w w1) (k : Chg T w1 w2) (hs : ∀ b, b < w.heap.size → S b → U b) (ht : ∀ b, b < w.heap.size → T b → U b) : Chg U w w2 :=
  ⟨k.os.trans h.os, k.tape.trans h.tape, k.output.trans h.output, Nat.le_trans h.size k.size, fun b hb hn =>
    (k.block b (Nat.lt_of_lt_of_le hb h.size) (fun hT => hn (ht b hb hT))).trans (h.block b hb (fun hS => hn (hs b hb hS)))⟩
theorem Chg.mono (h : Chg S w w1) (hs : ∀ b, b < w.heap.size → S b → U b) : Chg U w w1 := ⟨h.os, h.tape, h.output, h.size, fun b hb hn => h.block b hb fun hS => hn (hs b hb hS)⟩
theorem Chg.drew (h : Chg S w w1) : Chg S w w1.drew := ⟨h.os, h.tape, h.output, h.size, h.block⟩
theorem Chg.drewN (h : Chg S w w1) (n : Nat) : Chg S w (w1.drewN n) := ⟨h.os, h.tape, h.output, h.size, h.block⟩
theorem Chg.alloc (h : Chg S w w1) (o : Obj) : Chg S w (w1.alloc o) :=
  ⟨h.os, h.tape, h.output, by have := h.size; simp; omega, fun b hb hn => (Below.heap_alloc w1 o b (Nat.lt_of_lt_of_le hb h.size)).trans (h.block b hb hn)⟩
theorem Chg.setCell (h : Chg S w w1) {p : Addr} (hp : p.block < w.heap.size → S p.block) (u : Value) : Chg S w (w1.setCell p u) :=
  ⟨h.os, h.tape, h.output, by have := h.size; simp [World.setCell]; omega, fun b hb hn => (Below.heap_setCell w1 p u b (fun e => hn (e ▸ hp (e ▸ hb)))).trans (h.block b hb hn)⟩
theorem Chg.setRow (h : Chg S w w1) {g : Nat} (hp : g < w.heap.size → S g) (cs : Array Value) : Chg S w (w1.setRow g cs) :=
  ⟨h.os, h.tape, h.output, by have := h.size; simp; omega, fun b hb hn => (setRow_other w1 g b cs (fun e => hn (e ▸ hp (e ▸ hb)))).trans (h.block b hb hn)⟩
theorem Chg.grown {row : Option Nat} (h : Chg S w w1) (hg : w1.grownBy w2 row) (hr : ∀ g, row = some g → g < w.heap.size → S g) : Chg S w w2 :=
  ⟨hg.os.trans h.os, hg.tape.trans h.tape, hg.output.trans h.output, Nat.le_trans h.size hg.size, fun b hb hn =>
    (hg.block b (Nat.lt_of_lt_of_le hb h.size) (fun e => hn (hr b e.symm hb))).trans (h.block b hb hn)⟩
theorem below_drewN' (h : Below B w w1) (n : Nat) : Below B w (w1.drewN n) := ⟨h.os, h.tape, h.output, h.size, h.block⟩
theorem Chg.of_below (h : Below B w w1) : Chg (fun b => B ≤ b) w w1 := ⟨h.os, h.tape, h.output, h.size, fun b _ hn => h.block b (by omega)⟩
theorem Chg.of_fresh (h : Below w.heap.size w w1) : Chg S w w1 := ⟨h.os, h.tape, h.output, h.size, fun b hb _ => h.block b hb⟩
theorem Chg.below (h : Chg S w w1) (hB : B ≤ w.heap.size) (hs : ∀ b, b < B → ¬ S b) : Below B w w1 := ⟨h.os, h.tape, h.output, h.size, fun b hb => h.block b (by omega) (hs b hb)⟩
theorem Chg.cell (h : Chg S w w1) {p : Addr} (hp : p.block < w.heap.size) (hn : ¬ S p.block) : w1.cell? p = w.cell? p := World.cell?_of_block (w := w) (h.block p.block hp hn)
theorem Chg.frozen (h : Chg S w w1) {p : Addr} (hp : p.block < w.heap.size) (hn : ¬ S p.block) : w1.frozen? p = w.frozen? p := World.frozen?_of_block (w := w) (h.block p.block hp hn)
theorem own_chg {base : Nat} {e : TypeId} {size : Nat} {v : Value} {n : Nat} {xs : List Value} (h : w.ownsRow base e size v n xs) (hc : Chg S w w1) (hn : ∀ g, v.ownBlock = some g → ¬ S g) : w1.ownsRow base e size v n xs := by
  obtain ⟨h1, h2⟩ := h
  refine ⟨h1, ?_⟩
  rcases h2 with h2 | ⟨g, cap, cur, hv, hg, hh, r⟩
  · exact Or.inl h2
  · refine Or.inr ⟨g, cap, cur, hv, hg, ?_, r⟩
    have hlt : g < w.heap.size := (Array.getElem?_eq_some_iff.1 hh).1
    rw [hc.block g hlt (hn g (by rw [hv]; rfl))]
    exact hh
theorem own_below {B : Nat} {base : Nat} {e : TypeId} {size : Nat} {v : Value} {n : Nat} {xs : List Value} (h : w.ownsRow base e size v n xs) (hc : Below B w w1) (hn : ∀ g, v.ownBlock = some g → g < B) : w1.ownsRow base e size v n xs :=
  own_chg h (Chg.of_below hc) fun g hg => by have := hn g hg; omega
theorem own_base {base base' : Nat} {e : TypeId} {size : Nat} {v : Value} {n : Nat} {xs : List Value} (h : w.ownsRow base e size v n xs) (hb : ∀ g, v.ownBlock = some g → base' ≤ g) : w.ownsRow base' e size v n xs := by
  obtain ⟨h1, h2⟩ := h
  refine ⟨h1, ?_⟩
  rcases h2 with h2 | ⟨g, cap, cur, hv, hg, r⟩
  · exact Or.inl h2
  · exact Or.inr ⟨g, cap, cur, hv, hb g (by rw [hv]; rfl), r⟩
end

/-- A slice of one's own that has grown: in its row, or in a new one. -/
structure Grows (w : World) (v : Value) (w' : World) (v' : Value) : Prop where
  chg : Chg (fun b => v.ownBlock = some b) w w'
  at_ : v'.ownBlock = v.ownBlock ∨ ∃ g, v'.ownBlock = some g ∧ w.heap.size ≤ g
theorem Grows.refl (w : World) (v : Value) : Grows w v w v := ⟨Chg.refl _ _, .inl rfl⟩
theorem Grows.trans {w w1 w2 : World} {v v1 v2 : Value} (h : Grows w v w1 v1) (k : Grows w1 v1 w2 v2) : Grows w v w2 v2 := by
  have hs := h.chg.size
  constructor
  · refine h.chg.trans k.chg (fun b _ hb => hb) (fun b hb hb1 => ?_)
    rcases h.at_ with e | ⟨g, e, hg⟩
    · rw [← e]; exact hb1
    · rw [e] at hb1; injection hb1; omega
  · rcases k.at_ with e | ⟨g, e, hg⟩
    · rw [e]; exact h.at_
    · exact .inr ⟨g, e, by omega⟩
theorem Grows.drew {w w1 : World} {v v1 : Value} (h : Grows w v w1 v1) : Grows w v w1.drew v1 := ⟨h.chg.drew, h.at_⟩
theorem Grows.first {w0 w w1 : World} {v v1 : Value} (hb : Below w0.heap.size w0 w) (h : Grows w v w1 v1) (hv : ∀ g, v.ownBlock = some g → w0.heap.size ≤ g) : Below w0.heap.size w0 w1 ∧ ∀ g, v1.ownBlock = some g → w0.heap.size ≤ g := by
  have hs := hb.size
  refine ⟨hb.trans (h.chg.below hs fun b hb e => by have := hv b e; omega), fun g hg => ?_⟩
  rcases h.at_ with e | ⟨g', e, hg'⟩
  · exact hv g (e ▸ hg)
  · rw [e] at hg; injection hg; omega
theorem Grows.of_law {w0 w w1 : World} {v v1 : Value} {k : Nat} (hb : Below w0.heap.size w0 w) (hg : w.grownBy w1 v.ownBlock) (hat : v1.ownBlock = v.ownBlock ∨ v1.ownBlock = some k) (hk : w0.heap.size ≤ k) : Grows w0 v w1 v1 :=
  ⟨(Chg.of_fresh hb).grown hg fun _ e _ => e, hat.imp id fun e => ⟨k, e, hk⟩⟩

/-! ### Rows that are read -/

/-- The slice value '.slice A n c' reads as the cells xs (n elements of 'size' cells), and lies below block B. -/
structure Sees (w : World) (B size : Nat) (A : Option Addr) (n : Nat) (xs : List Value) : Prop where
  len : xs.length = n * size
  at_ : 0 < n → ∃ b off, A = some ⟨b, off, none⟩ ∧ b < B ∧ ∀ j u, xs[j]? = some u → w.cell? ⟨b, off + j, none⟩ = some u

section
variable {w w1 : World} {B B' size n : Nat} {A : Option Addr} {xs : List Value}
theorem Sees.nil : Sees w B size none 0 [] := ⟨by simp, fun h => absurd h (by omega)⟩
theorem Sees.keep (h : Sees w B size A n xs) (hk : ∀ p : Addr, p.block < B → w1.cell? p = w.cell? p) : Sees w1 B size A n xs :=
  ⟨h.len, fun hn => let ⟨b, off, e, hb, hc⟩ := h.at_ hn; ⟨b, off, e, hb, fun j u hu => (hk ⟨b, off + j, none⟩ hb).trans (hc j u hu)⟩⟩
theorem Sees.below (h : Sees w B size A n xs) (hb : Below B w w1) : Sees w1 B size A n xs := h.keep fun _ hp => hb.cell hp
theorem Sees.more (h : Sees w B size A n xs) (hB : B ≤ B') : Sees w B' size A n xs := ⟨h.len, fun hn => let ⟨b, off, e, hb, hc⟩ := h.at_ hn; ⟨b, off, e, by omega, hc⟩⟩
theorem Sees.of_own {base : Nat} {e : TypeId} {v : Value} (h : w.ownsRow base e size v n xs) (hv : ∀ g, v.ownBlock = some g → g < B) : ∃ A c, v = .slice A n c ∧ Sees w B size A n xs := by
  rcases h.2 with ⟨rfl, rfl⟩ | ⟨g, cap, cur, rfl, hb, hg, hnc, hcm, hcs, ht⟩
  · refine ⟨none, 0, rfl, h.1, fun hn => absurd hn (by omega)⟩
  · refine ⟨_, _, rfl, h.1, fun _ => ⟨g, 0, rfl, hv g rfl, fun j u hu => ?_⟩⟩
    rw [Nat.zero_add, cell_of_row w g j cur e (0, 0) hg]
    rw [← ht, List.getElem?_take] at hu
    split at hu
    · simpa using hu
    · cases hu
theorem Sees.take {k : Nat} (h : Sees w B size A n xs) (hk : k ≤ n) : Sees w B size A k (xs.take (k * size)) :=
  ⟨by rw [List.length_take, h.len]; exact Nat.min_eq_left (Nat.mul_le_mul_right _ hk), fun hn => by
    obtain ⟨b, off, e, hb, hc⟩ := h.at_ (by omega)
    refine ⟨b, off, e, hb, fun j u hu => hc j u ?_⟩
    rw [List.getElem?_take] at hu
    split at hu
    · exact hu
    · cases hu⟩
end

/-- Bytes as cells. -/
def bvs (l : List UInt8) : List Value := l.map fun b => Value.int .u8 (b.toNat : Int)
theorem bvs_length (l : List UInt8) : (bvs l).length = l.length := by simp [bvs]
theorem bvs_append (a b : List UInt8) : bvs (a ++ b) = bvs a ++ bvs b := by simp [bvs]
theorem bvs_one (l : List UInt8) : ∀ u ∈ bvs l, u.oneCell' = true := by
  intro u hu
  obtain ⟨b, _, rfl⟩ := List.mem_map.1 hu
  rfl
theorem bvs_get (l : List UInt8) (j : Nat) (h : j < l.length) : (bvs l)[j]? = some (.int .u8 (l[j].toNat : Int)) := by simp [bvs, h]
theorem byteCells_eq (s : ByteArray) : byteCells s = bvs s.data.toList := rfl

#print axioms Grows.trans
end Go.Proofs.YtolpcfhfcdkokaaGreatDoor
/-
  append onto a row of the call's own, of whatever is appended: one law for slices that are read, for strings and for nothing.
-/
namespace Go.Proofs.YtolpcfhfcdkokaaGreatDoor
open Go.RowKit

section
variable {P : Program} (w : World)

theorem src_sees {B size : Nat} {tx e' : TypeId} (hk : P.underlying tx = some (.slice e')) {A : Option Addr} {n : Nat} (c : Nat) {xs : List Value} (h : Sees w B size A n xs) (h1 : ∀ u ∈ xs, u.oneCell' = true) :
    Src P size tx (.slice A n c) n xs w := by
  rcases A with _ | ad
  · have hn : n = 0 := by
      rcases Nat.eq_zero_or_pos n with h0 | h0
      · exact h0
      · obtain ⟨b, off, e, _⟩ := h.at_ h0; cases e
    subst hn
    have hx : xs = [] := List.eq_nil_of_length_eq_zero (by simpa using h.len)
    subst hx
    exact Src.ofNil w hk c
  · refine Src.ofSlice w hk ad n c xs h.len (fun j u hu => ?_) h1
    rcases Nat.eq_zero_or_pos n with h0 | h0
    · subst h0
      have hx : xs = [] := List.eq_nil_of_length_eq_zero (by simpa using h.len)
      subst hx; simp at hu
    · obtain ⟨b, off, e, hb, hc⟩ := h.at_ h0
      injection e with e
      subst e
      rw [Addr.add_lit]
      exact hc j u hu

theorem run_app (base : Nat) (t tx ty e : TypeId) (i : TypeInfo) (z : Value) (size bytes : Nat) (ht : P.underlying t = some (.slice e)) (hi : P.info? e = some i) (hz : i.zero = some z)
    (hsize : i.size = size) (hby : i.bytes = bytes) (hzs : z.cells.size = size)
    (v : Value) (n : Nat) (xs : List Value) (hown : w.ownsRow base e size v n xs) (x : Value) (m : Nat) (news : List Value) (hs : Src P size tx x m news w)
    (h63 : n + m ≤ maxLen) (hbytes : (n + m) * bytes ≤ 140737488355328) (hbase : base ≤ w.heap.size) :
    ∃ v' w', (Builtin.append_ #[t, tx] ty #[v, x]).run P w = .ok v' w' ∧ w'.ownsRow base e size v' (n + m) (xs ++ news) ∧ w.grownBy w' v.ownBlock ∧
      (v'.ownBlock = v.ownBlock ∨ v'.ownBlock = some w.heap.size) := by
  subst hsize
  subst hby
  have hsmall : ((n + m : Nat) : Int) ≤ 9223372036854775807 := by simp only [maxLen] at h63; omega
  have hlen : (xs ++ news).length = (n + m) * i.size := by rw [List.length_append, hown.1, hs.newsLen, Nat.add_mul]
  have grown : ∀ (old : Nat), old < n + m → ∀ (row : Option Nat),
      (w.drew.alloc (.cells ((xs ++ news).toArray ++ Builtin.zeroCells z.cells (grownCap w (n + m) old e - (n + m))) e)).ownsRow base e i.size
        (.slice (some ⟨w.heap.size, 0, none⟩) (n + m) (grownCap w (n + m) old e)) (n + m) (xs ++ news) ∧
      w.grownBy (w.drew.alloc (.cells ((xs ++ news).toArray ++ Builtin.zeroCells z.cells (grownCap w (n + m) old e - (n + m))) e)) row := by
    intro old ho row
    have hge := grownCap_ge w (n + m) old e
    have hcm : grownCap w (n + m) old e ≤ maxLen := grownCap_le_maxLen w (n + m) old e h63
    refine ⟨⟨hlen, .inr ⟨w.heap.size, _, _, rfl, hbase, heap_alloc_new w.drew _, hge, hcm, ?_, ?_⟩⟩, ⟨rfl, rfl, rfl, by simp, fun k hk _ => Below.heap_alloc w.drew _ k hk⟩⟩
    · simp only [Array.size_append, List.size_toArray, size_zeroCells, hzs, hlen, ← Nat.add_mul]
      congr 1
      omega
    · simp only [Array.toList_append]
      rw [← hlen]
      exact List.take_left
  rcases hown.2 with ⟨rfl, rfl⟩ | ⟨g, cap, cur, rfl, hbg, hg, hnc, hcm, hcs, htake⟩
  · have hx : xs = [] := List.eq_nil_of_length_eq_zero (by simpa using hown.1)
    subst hx
    by_cases hm : m = 0
    · subst hm
      have hn : news = [] := List.eq_nil_of_length_eq_zero (by simpa using hs.newsLen)
      subst hn
      refine ⟨.slice none 0 0, w, ?_, World.ownsRow_nil w base e i.size, ⟨rfl, rfl, rfl, Nat.le_refl _, fun _ _ _ => rfl⟩, Or.inl rfl⟩
      rcases hs.kind with ⟨e', hk⟩ | hk <;> simp [Builtin.append_, run_underlying ht, run_underlying hk, sizeOf, typeInfo, hi, hs.len, hs.cells]
    · have hr := run_append_grow_src (P := P) w t tx ty e i z ht hi hz none 0 0 [] (by exact run_firstCells_none w.drew i.size 0 0 0) x m news hs (by omega) hsmall (growslice_fits (by omega) hbytes)
      have hgr := grown 0 (by omega) (Value.ownBlock (.slice none 0 0))
      simp only [Nat.zero_add, List.nil_append] at hgr hr ⊢
      exact ⟨_, _, hr, hgr.1, hgr.2, Or.inr rfl⟩
  · by_cases hroom : n + m ≤ cap
    · have hfit : n * i.size + news.length ≤ cur.size := by rw [hs.newsLen, hcs, ← Nat.add_mul]; exact Nat.mul_le_mul_right _ hroom
      have hst := run_storeCells_at P g (n * i.size) e news 0 cur w hg (by simpa using hfit) hs.one
      simp only [Nat.add_zero] at hst
      have hr : (Builtin.append_ #[t, tx] ty #[.slice (some ⟨g, 0, none⟩) n cap, x]).run P w =
          .ok (.slice (some ⟨g, 0, none⟩) (n + m) cap) (w.setRow g (cur.toList.take (n * i.size) ++ news ++ cur.toList.drop (n * i.size + news.length)).toArray) := by
        rcases hs.kind with ⟨e', hk⟩ | hk <;> simp [Builtin.append_, run_underlying ht, run_underlying hk, sizeOf, typeInfo, hi, hs.len, hroom, hs.cells, Addr.add_lit, hst]
      refine ⟨_, _, hr, ⟨hlen, .inr ⟨g, cap, _, rfl, hbg, setRow_heap w g cur _ e _ hg, hroom, hcm, ?_, ?_⟩⟩, ⟨rfl, rfl, rfl, by simp, fun k _ hk => setRow_other w g k _ (fun e => hk (by simp [Value.ownBlock, e]))⟩, Or.inl rfl⟩
      · simp only [List.size_toArray, List.length_append, List.length_take, List.length_drop, Array.length_toList]
        omega
      · rw [htake, ← hlen]
        exact List.take_left
    · have hold : (Builtin.firstCells i.size n (.slice (some ⟨g, 0, none⟩) n cap)).run P w.drew = .ok xs.toArray w.drew :=
        run_firstCells_some w.drew i.size n ⟨g, 0, none⟩ n cap xs hown.1 (fun j u hu => by simpa using hown.cells (g := g) rfl j u hu)
      have hr := run_append_grow_src (P := P) w t tx ty e i z ht hi hz (some ⟨g, 0, none⟩) n cap xs hold x m news hs (by omega) hsmall (growslice_fits (by omega) hbytes)
      have hgr := grown cap (by omega) (Value.ownBlock (.slice (some ⟨g, 0, none⟩) n cap))
      exact ⟨_, _, hr, hgr.1, hgr.2, Or.inr rfl⟩

theorem wp_app {o : Oper} {a : Act} {K : Act → World → Prop} {Q : Exit → Act → World → Prop} (s x : Operand) (t tx : TypeId)
    (ho : o.op = .call { callee := .builtin .append, args := #[s, x], argTypes := #[t, tx] })
    (base : Nat) (e : TypeId) (i : TypeInfo) (z : Value) (size bytes : Nat) (ht : P.underlying t = some (.slice e)) (hi : P.info? e = some i) (hz : i.zero = some z)
    (hsize : i.size = size) (hby : i.bytes = bytes) (hzs : z.cells.size = size)
    (v : Value) (n : Nat) (xs : List Value) (hs : a.eval s = v) (hown : w.ownsRow base e size v n xs) (m : Nat) (news : List Value) (hsrc : Src P size tx (a.eval x) m news w)
    (h63 : n + m ≤ maxLen) (hbytes : (n + m) * bytes ≤ 140737488355328) (hbase : base ≤ w.heap.size)
    (h : ∀ v' w', w'.ownsRow base e size v' (n + m) (xs ++ news) → w.grownBy w' v.ownBlock → (v'.ownBlock = v.ownBlock ∨ v'.ownBlock = some w.heap.size) → K (a.put o.dst v') w') : o.wp P a w K Q := by
  obtain ⟨v', w', hrun, h2, h3, h4⟩ := run_app (P := P) w base t tx o.type e i z size bytes ht hi hz hsize hby hzs v n xs hown (a.eval x) m news hsrc h63 hbytes hbase
  unfold Oper.wp execOp
  simp only [ho, resolve, invoke, builtin, Sem.run_bind, Sem.run_pure, Result.andThen_ok, List.map_toArray, List.map_cons, List.map_nil, hs, hrun]
  exact h v' w' h2 h3 h4

theorem wpList_app {ops : Array Oper} {rest : List Oper} {o : Oper} {a : Act} {Q : Exit → Act → World → Prop} (hgd : o.guard = none) (s x : Operand) (t tx : TypeId)
    (ho : o.op = .call { callee := .builtin .append, args := #[s, x], argTypes := #[t, tx] })
    (base : Nat) (e : TypeId) (i : TypeInfo) (z : Value) (size bytes : Nat) (ht : P.underlying t = some (.slice e)) (hi : P.info? e = some i) (hz : i.zero = some z)
    (hsize : i.size = size) (hby : i.bytes = bytes) (hzs : z.cells.size = size)
    (v : Value) (n : Nat) (xs : List Value) (hs : a.eval s = v) (hown : w.ownsRow base e size v n xs) (m : Nat) (news : List Value) (hsrc : Src P size tx (a.eval x) m news w)
    (h63 : n + m ≤ maxLen) (hbytes : (n + m) * bytes ≤ 140737488355328) (hbase : base ≤ w.heap.size)
    (h : ∀ v' w', w'.ownsRow base e size v' (n + m) (xs ++ news) → w.grownBy w' v.ownBlock → (v'.ownBlock = v.ownBlock ∨ v'.ownBlock = some w.heap.size) → wpList P ops Q rest (a.put o.dst v') w') : wpList P ops Q (o :: rest) a w :=
  wpList_plain hgd fun _ hK => wp_app w s x t tx ho base e i z size bytes ht hi hz hsize hby hzs v n xs hs hown m news hsrc h63 hbytes hbase fun v' w' h2 h3 h4 => hK _ _ (h v' w' h2 h3 h4)

theorem step_app {ops : Array Oper} {o : Oper} {a : Act} {K : Act → World → Prop} {Q : Exit → Act → World → Prop} {E : Prop} (hgd : o.guard = none) (s x : Operand) (t tx : TypeId)
    (ho : o.op = .call { callee := .builtin .append, args := #[s, x], argTypes := #[t, tx] })
    (base : Nat) (e : TypeId) (i : TypeInfo) (z : Value) (size bytes : Nat) (ht : P.underlying t = some (.slice e)) (hi : P.info? e = some i) (hz : i.zero = some z)
    (hsize : i.size = size) (hby : i.bytes = bytes) (hzs : z.cells.size = size)
    (v : Value) (n : Nat) (xs : List Value) (hs : a.eval s = v) (hown : w.ownsRow base e size v n xs) (m : Nat) (news : List Value) (hsrc : Src P size tx (a.eval x) m news w)
    (h63 : n + m ≤ maxLen) (hbytes : (n + m) * bytes ≤ 140737488355328) (hbase : base ≤ w.heap.size)
    (h : ∀ v' w', w'.ownsRow base e size v' (n + m) (xs ++ news) → w.grownBy w' v.ownBlock → (v'.ownBlock = v.ownBlock ∨ v'.ownBlock = some w.heap.size) → K (a.put o.dst v') w') :
    if Region.wanted o (yielded ops a.tmps) = true then Oper.wp P o a w K Q else E := by
  have hw : Region.wanted o (yielded ops a.tmps) = true := by simp [Region.wanted, hgd]
  rw [if_pos hw]
  exact wp_app w s x t tx ho base e i z size bytes ht hi hz hsize hby hzs v n xs hs hown m news hsrc h63 hbytes hbase h

end
/-- The one element of append(s, x), in the block that was just made for it. -/
theorem src_one {P : Program} (w : World) {tx e' : TypeId} (hk : P.underlying tx = some (.slice e')) (x : Value) (t : TypeId) (h1 : x.oneCell' = true) : Src P 1 tx (.slice (some ⟨w.heap.size, 0, none⟩) 1 1) 1 [x] (w.alloc (.cells #[x] t)) :=
  Src.ofSlice _ hk ⟨w.heap.size, 0, none⟩ 1 1 [x] rfl (cell_one_new w x t) (by intro u hu; rw [List.mem_singleton] at hu; subst hu; exact h1)
theorem src_one_drew {P : Program} (w : World) {tx e' : TypeId} (hk : P.underlying tx = some (.slice e')) (x : Value) (t : TypeId) (h1 : x.oneCell' = true) : Src P 1 tx (.slice (some ⟨w.heap.size, 0, none⟩) 1 1) 1 [x] (w.alloc (.cells #[x] t)).drew :=
  Src.ofSlice _ hk ⟨w.heap.size, 0, none⟩ 1 1 [x] rfl (cell_one_new w x t) (by intro u hu; rw [List.mem_singleton] at hu; subst hu; exact h1)
/-- A row of one's own as what is appended. -/
theorem src_own {P : Program} {w : World} {base : Nat} {e : TypeId} {size : Nat} {v : Value} {n : Nat} {xs : List Value} {tx e' : TypeId} (hk : P.underlying tx = some (.slice e')) (h : w.ownsRow base e size v n xs) (h1 : ∀ u ∈ xs, u.oneCell' = true) :
    Src P size tx v n xs w := by
  obtain ⟨A, c, rfl, hs⟩ := Sees.of_own (B := w.heap.size) h fun g hg => (h.lt g hg).2
  exact src_sees w hk c hs h1
theorem Grows.fresh {w w1 : World} (v : Value) (hb : Below w.heap.size w w1) : Grows w v w1 v := ⟨Chg.of_fresh hb, .inl rfl⟩
theorem own_fresh {w w1 : World} {base : Nat} {e : TypeId} {size : Nat} {v : Value} {n : Nat} {xs : List Value} (h : w.ownsRow base e size v n xs) (hb : Below w.heap.size w w1) : w1.ownsRow base e size v n xs :=
  own_below h hb fun g hg => (h.lt g hg).2
theorem cell_law {W w2 : World} {row : Option Nat} (hg : W.grownBy w2 row) {p : Addr} {u : Value} (hc : W.cell? p = some u) (hne : row ≠ some p.block) : w2.cell? p = some u :=
  (hg.cell_far p (World.block_lt_of_cell? W p hc) (fun e => hne e.symm)).trans hc
theorem cell_law1 {W w2 : World} {o : Obj} {row : Option Nat} (hg : (W.alloc o).drew.grownBy w2 row) {p : Addr} {u : Value} (hc : W.cell? p = some u) (hne : row ≠ some p.block) : w2.cell? p = some u :=
  cell_law hg ((World.cell?_alloc_lt W o p (World.block_lt_of_cell? W p hc)).trans hc) hne
theorem cell_grows {w w1 : World} {v v1 : Value} (hG : Grows w v w1 v1) {p : Addr} {u : Value} (hc : w.cell? p = some u) (hne : v.ownBlock ≠ some p.block) : w1.cell? p = some u :=
  (hG.chg.cell (World.block_lt_of_cell? w p hc) hne).trans hc
/-- A row of one's own that was made ahead of block g does not lie there, however it has grown since. -/
theorem ne_grows {w w1 : World} {v v1 : Value} {g : Nat} (hG : Grows w v w1 v1) (hne : v.ownBlock ≠ some g) (hg : g < w.heap.size) : v1.ownBlock ≠ some g := by
  rcases hG.at_ with e | ⟨g', e, hg'⟩
  · rw [e]; exact hne
  · rw [e]; intro h; injection h; omega
theorem ne_law {W : World} {v v1 : Value} {g k : Nat} (hat : v1.ownBlock = v.ownBlock ∨ v1.ownBlock = some k) (hne : v.ownBlock ≠ some g) (hg : g < W.heap.size) (hk : W.heap.size ≤ k) : v1.ownBlock ≠ some g := by
  rcases hat with e | e
  · rw [e]; exact hne
  · rw [e]; intro h; injection h; omega
#print axioms step_app
end Go.Proofs.YtolpcfhfcdkokaaGreatDoor
