/- Joined out of the texts Lend. -/
import Derived.Test.YtolpcfhfcdkokaaGreatDoorM04
/-
  lend: nodes in memory of their own, each one's bytes with marks behind, three marked nodes behind all.
-/
namespace Go.Proofs.YtolpcfhfcdkokaaGreatDoor
open Go.RowKit

theorem infoNode : (Tryz.prog.info? 75).map (fun i => (i.zero, i.size, i.bytes)) = some (some (.agg #[.string ByteArray.empty, .int .i64 0, .int .i64 0, .string ByteArray.empty, .slice none 0 0]), 5, 72) := by kernel_rfl
theorem infoBytes : (Tryz.prog.info? 64).map (fun i => (i.zero, i.size, i.bytes)) = some (some (.slice none 0 0), 1, 24) := by kernel_rfl

/-- A block known whole, none of its cells frozen. -/
def Blk (w : World) (g : Nat) (t : TypeId) (cs : List Value) : Prop := w.heap[g]? = some (.cells cs.toArray t (0, 0))
section
variable {w w1 : World} {g : Nat} {t : TypeId} {cs : List Value}
theorem Blk.lt (h : Blk w g t cs) : g < w.heap.size := (Array.getElem?_eq_some_iff.1 h).1
theorem Blk.cell (h : Blk w g t cs) (i : Nat) : w.cell? ⟨g, i, none⟩ = cs[i]? := by rw [cell_of_row w g i cs.toArray t (0, 0) h]; simp
theorem Blk.frozen (h : Blk w g t cs) (i : Nat) : w.frozen? ⟨g, i, none⟩ = false := frozen_of_row w g i cs.toArray t h
theorem Blk.chg {S : Nat → Prop} (h : Blk w g t cs) (hc : Chg S w w1) (hn : ¬ S g) : Blk w1 g t cs := (hc.block g h.lt hn).trans h
theorem Blk.below {B : Nat} (h : Blk w g t cs) (hc : Below B w w1) (hn : g < B) : Blk w1 g t cs := (hc.block g hn).trans h
theorem Blk.fresh (h : Blk w g t cs) (hc : Below w.heap.size w w1) : Blk w1 g t cs := (hc.block g h.lt).trans h
theorem Blk.law {row : Option Nat} (h : Blk w g t cs) (hc : w.grownBy w1 row) (hn : row ≠ some g) : Blk w1 g t cs := (hc.block g h.lt (fun e => hn e.symm)).trans h
theorem Blk.alloc (h : Blk w g t cs) (o : Obj) : Blk (w.alloc o) g t cs := (Below.heap_alloc w o g h.lt).trans h
theorem Blk.new (w : World) (t : TypeId) (cs : List Value) : Blk (w.alloc (.cells cs.toArray t)) w.heap.size t cs := heap_alloc_new w _
theorem Blk.set_ (h : Blk w g t cs) (i : Nat) (u : Value) : Blk (w.setCell ⟨g, i, none⟩ u) g t (cs.set i u) := by
  unfold Blk at h ⊢
  simp [World.setCell, Array.getElem?_modify, h]
theorem Blk.far (h : Blk w g t cs) {p : Addr} (hp : g ≠ p.block) (u : Value) : Blk (w.setCell p u) g t cs := (Below.heap_setCell w p u g hp).trans h
theorem Blk.eq (h : Blk w g t cs) {t' : TypeId} {cs' : List Value} (h' : Blk w g t' cs') : t = t' ∧ cs = cs' := by
  unfold Blk at h h'
  rw [h] at h'
  injection h' with h'
  injection h' with h1 h2
  exact ⟨h2, by simpa using h1⟩
theorem own_full {base : Nat} {e : TypeId} {size n : Nat} {xs : List Value} (h : w.ownsRow base e size (.slice (some ⟨g, 0, none⟩) n n) n xs) : Blk w g e xs := by
  rcases h.2 with ⟨h0, _⟩ | ⟨g', cap, cur, hv, hb, hg, hnc, hcm, hcs, ht⟩
  · cases h0
  · injection hv with h1 h2 h3
    injection h1 with h1
    injection h1 with h1
    subst h1
    have hc : cap = n := h3.symm
    subst hc
    have : cur.toList = xs := by rw [← ht, List.take_of_length_le (by simp [hcs])]
    unfold Blk
    rw [hg, ← this]
end

/-- copy into a block of one's own, from its head on, of a row that is read and has room there. -/
theorem wpList_copyb {P : Program} {w : World} {ops : Array Oper} {rest : List Oper} {o : Oper} {a : Act} {Q : Exit → Act → World → Prop} (hgd : o.guard = none) (d s : Operand) (dT sT : TypeId)
    (ho : o.op = .call { callee := .builtin .copy, args := #[d, s], argTypes := #[dT, sT] }) (elem : TypeId) (hu : P.underlying dT = some (.slice elem)) (hsz : (P.info? elem).map (·.size) = some 1)
    (g dLen dCap : Nat) (sp : Option Addr) (sLen sCap : Nat) (hd : a.eval d = .slice (some ⟨g, 0, none⟩) dLen dCap) (hs : a.eval s = .slice sp sLen sCap)
    (t : TypeId) (cur : List Value) (hg : Blk w g t cur) (B : Nat) (cs : List Value) (hsrc : Sees w B 1 sp sLen cs) (hle : sLen ≤ dLen) (hfit : sLen ≤ cur.length) (h1 : ∀ v ∈ cs, v.oneCell' = true)
    (h : ∀ w', Blk w' g t (cs ++ cur.drop sLen) → Chg (fun b => b = g) w w' → wpList P ops Q rest (a.put o.dst (goInt sLen)) w') :
    wpList P ops Q (o :: rest) a w := by
  have hl : cs.length = sLen := by have := hsrc.len; omega
  by_cases h0 : sLen = 0
  · subst h0
    have hc0 : cs = [] := List.eq_nil_of_length_eq_zero hl
    subst hc0
    exact wpList_copy_nothing hgd d s dT sT ho elem hu hsz _ sp dLen dCap 0 sCap hd hs (by simp) (h w (by simpa using hg) (Chg.refl _ _))
  · obtain ⟨b, off, rfl, _, hc⟩ := hsrc.at_ (by omega)
    have hfit' : 0 + cs.length ≤ cur.toArray.size := by rw [List.size_toArray]; omega
    refine wpList_copy_own hgd d s dT sT ho elem hu hsz g 0 dLen dCap ⟨b, off, none⟩ sLen sCap hd hs cur.toArray t hg cs (by rw [hl]; exact (Nat.min_eq_left hle).symm) (fun j v hv => by rw [Addr.add_lit]; exact hc j v hv) hfit' h1 ?_
    rw [hl]
    refine h _ ?_ ((Chg.refl (fun b => b = g) w).setRow (g := g) (fun _ => rfl) _)
    have := setRow_heap w g cur.toArray (cur.take 0 ++ (cs ++ cur.drop (0 + sLen))).toArray t _ hg
    simpa [Blk] using this
theorem toList_madeCells_flat (z : Value) (hz : z.cells = #[z]) (n : Nat) : (madeCells z.cells (n * 1)).toList = List.replicate n z := by rw [hz, Nat.mul_one, toList_madeCells_one]
/-- A node's five cells stored into a row. -/
theorem store_node {w : World} {g : Nat} {t : TypeId} {cs : List Value} (h : Blk w g t cs) (o : Nat) (ho : o + 5 ≤ cs.length) (x0 x1 x2 x3 x4 : Value) (X : World)
    (hX : X = ((((w.setCell ⟨g, o, none⟩ x0).setCell ⟨g, o + 1, none⟩ x1).setCell ⟨g, o + 2, none⟩ x2).setCell ⟨g, o + 3, none⟩ x3).setCell ⟨g, o + 4, none⟩ x4) :
    ∃ cs', Blk X g t cs' ∧ cs'.length = cs.length ∧ X.cell? ⟨g, o, none⟩ = some x0 ∧ X.cell? ⟨g, o + 1, none⟩ = some x1 ∧ X.cell? ⟨g, o + 2, none⟩ = some x2 ∧ X.cell? ⟨g, o + 3, none⟩ = some x3 ∧ X.cell? ⟨g, o + 4, none⟩ = some x4 ∧
      Chg (fun b => b = g) w X ∧ ∀ i, i < o ∨ o + 5 ≤ i → X.cell? ⟨g, i, none⟩ = w.cell? ⟨g, i, none⟩ := by
  have hB := ((((h.set_ o x0).set_ (o + 1) x1).set_ (o + 2) x2).set_ (o + 3) x3).set_ (o + 4) x4
  rw [← hX] at hB
  refine ⟨_, hB, by simp, ?_, ?_, ?_, ?_, ?_, ?_, ?_⟩
  · rw [hB.cell]; simp [List.getElem?_set]; omega
  · rw [hB.cell]; simp [List.getElem?_set]; omega
  · rw [hB.cell]; simp [List.getElem?_set]; omega
  · rw [hB.cell]; simp [List.getElem?_set]; omega
  · rw [hB.cell]; simp [List.getElem?_set]; omega
  · rw [hX]
    exact (((((Chg.refl (fun b => b = g) w).setCell (fun _ => rfl) x0).setCell (fun _ => rfl) x1).setCell (fun _ => rfl) x2).setCell (fun _ => rfl) x3).setCell (fun _ => rfl) x4
  · intro i hi
    rw [hB.cell, h.cell]
    rw [List.getElem?_set_ne (by omega), List.getElem?_set_ne (by omega), List.getElem?_set_ne (by omega), List.getElem?_set_ne (by omega), List.getElem?_set_ne (by omega)]
def marks (m : Nat) : List Value := List.replicate m (.int .u8 201) ++ List.replicate (5 - m) (.int .u8 0)
theorem marks_set (xs : List Value) (n m : Nat) (hn : xs.length = n) (hm : m < 5) : (xs ++ marks m).set (n + m) (.int .u8 201) = xs ++ marks (m + 1) := by
  subst hn
  rw [List.set_append_right _ _ (by omega)]
  congr 1
  have : m = 0 ∨ m = 1 ∨ m = 2 ∨ m = 3 ∨ m = 4 := by omega
  rcases this with rfl | rfl | rfl | rfl | rfl <;> simp [marks, List.replicate]
theorem marks_get (xs : List Value) (n m : Nat) (hn : xs.length = n) (hm : m < 5) : (xs ++ marks m)[n + m]? = some (.int .u8 0) := by
  subst hn
  rw [List.getElem?_append_right (by omega)]
  have : m = 0 ∨ m = 1 ∨ m = 2 ∨ m = 3 ∨ m = 4 := by omega
  rcases this with rfl | rfl | rfl | rfl | rfl <;> simp [marks, List.replicate]
/-- How many bytes node i has. -/
def lenAt (l : List Nd) (i : Nat) : Nat := (l.map fun x => x.data.length).getD i 0
theorem lenAt_get (l : List Nd) (i : Nat) (h : i < l.length) : lenAt l i = l[i].data.length := by simp [lenAt, h]
/-- A node that was lent: its bytes in block b. -/
def lentNd (x : Nd) (b : Nat) : Nd := ⟨x.path, x.kind, x.made, x.same, some ⟨b, 0, none⟩, x.data.length + 5, x.data⟩
def mark5 : List Value := List.replicate 5 (.int .u8 201)
/-- The first j nodes of l as they were lent: in the row g, their bytes in blocks of their own, from block lo on. -/
structure LMem (w : World) (g : Nat) (l : List Nd) (j : Nat) (bs : Nat → Nat) (lo : Nat) : Prop where
  node : ∀ i (h : i < l.length), i < j → NodeAt w g (i * 5) (lentNd l[i] (bs i))
  data : ∀ i (h : i < l.length), i < j → Blk w (bs i) 5 (bvs l[i].data ++ mark5)
  low : ∀ i, i < j → lo ≤ bs i
  inj : ∀ i k, i < j → k < j → bs i = bs k → i = k
theorem LMem.keep {w w1 : World} {g : Nat} {l : List Nd} {j : Nat} {bs : Nat → Nat} {lo : Nat} {S : Nat → Prop} (h : LMem w g l j bs lo) (hc : Chg S w w1) (hg : ¬ S g) (hb : ∀ i, i < j → ¬ S (bs i)) (hgl : g < w.heap.size) : LMem w1 g l j bs lo :=
  ⟨fun i hi hj => (h.node i hi hj).keep fun p hp => hc.cell (by omega) (by rw [hp]; exact hg), fun i hi hj => (h.data i hi hj).chg hc (hb i hj), h.low, h.inj⟩
theorem LMem.step {wo wr Y W : World} {g : Nat} {l : List Nd} {j : Nat} {bs : Nat → Nat} {lo h : Nat} {x : Nd} {S : Nat → Prop} (hM : LMem wo g l j bs lo) (hbw : Below wo.heap.size wo wr) (hC : Chg (fun b => b = g) wr Y)
    (hO : ∀ i, i < j * 5 ∨ j * 5 + 5 ≤ i → Y.cell? ⟨g, i, none⟩ = wr.cell? ⟨g, i, none⟩) (hn : NodeAt Y g (j * 5) (lentNd x h)) (hd : Blk wr h 5 (bvs x.data ++ mark5)) (hC2 : Chg S Y W) (hSg : ¬ S g) (hSb : ∀ i, i < j → ¬ S (bs i)) (hSh : ¬ S h)
    (hjl : j < l.length) (hx : l[j] = x) (hh : wo.heap.size ≤ h) (hgl : g < wo.heap.size) (hglo : g < lo) (hlo : lo ≤ h) : LMem W g l (j + 1) (fun i => if i = j then h else bs i) lo := by
  have hsz1 := hbw.size
  have hsz2 := hC.size
  have hlt : ∀ i, i < j → bs i < wo.heap.size := fun i hi => (hM.data i (by omega) hi).lt
  refine ⟨fun i hi hij => ?_, fun i hi hij => ?_, fun i hij => ?_, fun i k hi hk e => ?_⟩
  · by_cases e : i = j
    · subst e
      simp only [if_true]
      rw [hx]
      exact hn.keep fun p hp => hC2.cell (by omega) (by rw [hp]; exact hSg)
    · simp only [if_neg e]
      obtain ⟨a0, a1, a2, a3, a4⟩ := hM.node i hi (by omega)
      have go : ∀ o u, o < j * 5 → wo.cell? ⟨g, o, none⟩ = some u → W.cell? ⟨g, o, none⟩ = some u := fun o u ho hu =>
        (hC2.cell (p := ⟨g, o, none⟩) (show g < _ by omega) hSg).trans ((hO o (.inl ho)).trans ((hbw.cell (p := ⟨g, o, none⟩) hgl).trans hu))
      exact ⟨go _ _ (by omega) a0, go _ _ (by omega) a1, go _ _ (by omega) a2, go _ _ (by omega) a3, go _ _ (by omega) a4⟩
  · by_cases e : i = j
    · subst e
      simp only [if_true]
      rw [hx]
      exact (hd.chg hC (by omega)).chg hC2 hSh
    · simp only [if_neg e]
      have h1 := hM.low i (by omega)
      exact (((hM.data i hi (by omega)).fresh hbw).chg hC (by omega)).chg hC2 (hSb i (by omega))
  · by_cases e : i = j
    · simp only [if_pos e]; exact hlo
    · simp only [if_neg e]; exact hM.low i (by omega)
  · by_cases e1 : i = j <;> by_cases e2 : k = j
    · omega
    · simp only [if_pos e1, if_neg e2] at e
      have := hlt k (by omega)
      omega
    · simp only [if_neg e1, if_pos e2] at e
      have := hlt i (by omega)
      omega
    · simp only [if_neg e1, if_neg e2] at e
      exact hM.inj i k (by omega) (by omega) e
/-- The list of their bytes, marks and all. -/
def lentSl (l : List Nd) (bs : Nat → Nat) (j : Nat) : List Value := (List.range j).map fun i => .slice (some ⟨bs i, 0, none⟩) (lenAt l i + 5) (lenAt l i + 5)

/-- What lend leaves: the nodes in row g, their bytes in blocks of their own (bs), the list of these (vb), three marked nodes behind all. -/
structure LentAt (w : World) (B g : Nat) (vb : Value) (bs : Nat → Nat) (l : List Nd) : Prop where
  gB : B ≤ g
  mem : LMem w g l l.length bs (g + 1)
  row : ∃ cs, Blk w g 75 cs ∧ cs.length = (l.length + 3) * 5
  marked : ∀ i, l.length ≤ i → i < l.length + 3 → w.cell? ⟨g, i * 5, none⟩ = some (.string ⟨#[109, 97, 114, 107]⟩) ∧ w.cell? ⟨g, i * 5 + 4, none⟩ = some (.slice none 0 0)
  own : w.ownsRow (g + 1) 64 1 vb l.length (lentSl l bs l.length)
def LentPost (l : List Nd) (w : World) (e : Ending) (w' : World) : Prop :=
  ∃ (g : Nat) (vb : Value) (bs : Nat → Nat), e = .returned (.agg #[.slice (some ⟨g, 0, none⟩) (l.length + 3) (l.length + 3), vb]) ∧ LentAt w' w.heap.size g vb bs l ∧ Below w.heap.size w w'
theorem lentSl_step (l : List Nd) (bs : Nat → Nat) (j h n : Nat) (hn : lenAt l j = n) : lentSl l (fun i => if i = j then h else bs i) (j + 1) = lentSl l bs j ++ [.slice (some ⟨h, 0, none⟩) (n + 5) (n + 5)] := by
  subst hn
  unfold lentSl
  rw [List.range_succ, List.map_append]
  congr 1
  · refine List.map_congr_left fun i hi => ?_
    have := List.mem_range.1 hi
    simp only [if_neg (show ¬ i = j by omega)]
  · simp
theorem src_blk {P : Program} {w : World} {g : Nat} {t : TypeId} {x : Value} {tx e' : TypeId} (hk : P.underlying tx = some (.slice e')) (hg : w.heap[g]? = some (.cells #[x] t (0, 0))) (h1 : x.oneCell' = true) :
    Src P 1 tx (.slice (some ⟨g, 0, none⟩) 1 1) 1 [x] w :=
  Src.ofSlice w hk ⟨g, 0, none⟩ 1 1 [x] rfl (World.news_of_block (cs := #[x]) hg) (by intro u hu; rw [List.mem_singleton] at hu; subst hu; exact h1)

set_option maxHeartbeats 4000000 in
set_option maxRecDepth 100000 in
theorem lend_big (A : Option Addr) (cap : Nat) (l : List Nd) (w : World) (hN : NodesAt w w.heap.size A l) (hln : l.length ≤ 5000) (htot : totB l ≤ 1000000000) :
    Calls Tryz.prog 17 #[.slice A l.length cap] w (LentPost l w) := by
  obtain ⟨i0, hi, hz0, hz1, hz2⟩ := info_parts infoU8
  obtain ⟨i1, hi1, hy0, hy1, hy2⟩ := info_parts infoNode
  obtain ⟨i2, hi2, hx0, hx1, hx2⟩ := info_parts infoBytes
  have hi1s : (Tryz.prog.info? 5).map (·.size) = some 1 := by rw [hi]; simp [hz1]
  obtain ⟨len, hlen⟩ : ∃ len, len = l.length := ⟨_, rfl⟩
  have hlenH := Lib.hid hlen
  rw [← hlen] at hln ⊢
  clear hlen
  go_enter Tryz.func17, Tryz.ntmps17
  go_wp2_with (first
    | (at_make; refine wpList_make_full _ rfl (.tmp 10) (.tmp 10) _ rfl w.heap.size 75 i1 _ 5 Tryz.underlying31 hi1 hy0 hy1 .i64 .i64 ((len : Int) + 3) ((len : Int) + 3) (len + 3) rfl rfl (by omega) (by omega) (by rw [hy2]; omega) (by unfold maxLen; omega) (by simp) ?_; intro w1 ho1 hg1))
  have hp0 := Blk.new w 49 [.slice none 0 0, .slice none 0 0]
  have hrow := own_full ho1
  have hg1' : Below w.heap.size w w1 := ((Below.refl _ _).alloc (Nat.le_refl _) _).grown hg1 (by simp) (by simp)
  have hp1 := hp0.law hg1 (by simp)
  have hsz1 := hrow.lt
  simp only [World.size_alloc] at hsz1 hrow
  clear ho1 hg1 hp0
  generalize hgg : w.heap.size + 1 = g at *
  have hq := Blk.new w1 49 [.slice (some ⟨g, 0, none⟩) (len + 3) (len + 3), .slice none 0 0]
  have hp2 := hp1.alloc (.cells #[.slice (some ⟨g, 0, none⟩) (len + 3) (len + 3), .slice none 0 0] 49)
  have hrow2 := hrow.alloc (.cells #[.slice (some ⟨g, 0, none⟩) (len + 3) (len + 3), .slice none 0 0] 49)
  have hb2 := hg1'.alloc hg1'.size (.cells #[.slice (some ⟨g, 0, none⟩) (len + 3) (len + 3), .slice none 0 0] 49)
  have hsz2 : w1.heap.size < (w1.alloc (.cells #[.slice (some ⟨g, 0, none⟩) (len + 3) (len + 3), .slice none 0 0] 49)).heap.size := by simp
  clear hp1 hrow hg1'
  have hrl : ∃ cs, Blk (w1.alloc (.cells #[.slice (some ⟨g, 0, none⟩) (len + 3) (len + 3), .slice none 0 0] 49)) g 75 cs ∧ cs.length = (len + 3) * 5 := ⟨_, hrow2, by rw [Array.length_toList, size_madeCells]⟩
  clear hrow2
  generalize w1.alloc (.cells #[.slice (some ⟨g, 0, none⟩) (len + 3) (len + 3), .slice none 0 0] 49) = W at *
  generalize hqq : w1.heap.size = q at *
  have hqqH := Lib.hid hqq
  have hggH := Lib.hid hgg
  have hpg : w.heap.size < g := by omega
  clear hqq hgg
  go_loopw [4] (fun i wr => ∃ (j : Nat) (vb : Value) (bs : Nat → Nat), j ≤ len ∧ i = .int .i64 j ∧ Below w.heap.size w wr ∧ q < wr.heap.size ∧ Blk wr q 49 [.slice (some ⟨g, 0, none⟩) (len + 3) (len + 3), vb] ∧
      Blk wr w.heap.size 49 [.slice none 0 0, .slice none 0 0] ∧ (∃ cs, Blk wr g 75 cs ∧ cs.length = (len + 3) * 5) ∧ LMem wr g l j bs (q + 1) ∧ wr.ownsRow (q + 1) 64 1 vb j (lentSl l bs j))
    (fun i _ => len - (intOf i).toNat)
  case atStart => exact ⟨0, _, fun _ => 0, Nat.zero_le _, rfl, hb2, hsz2, hq, hp2, hrl, ⟨fun i h hi => absurd hi (by omega), fun i h hi => absurd hi (by omega), fun i hi => absurd hi (by omega), fun i k hi => absurd hi (by omega)⟩, World.ownsRow_nil _ _ _ _⟩
  case round =>
    obtain ⟨j, vb, bs, hj, rfl, hb, hqs, hqb, hpb, ⟨cs, hrw, hcl⟩, hM, hown⟩ := hrel
    by_cases hjk : j < len
    · have hjl : j < l.length := by have := hlenH.out; omega
      obtain ⟨b, off, rfl, hbB, hc⟩ := hN.at_ (by omega)
      have hci := (hc j hjl).keep (w1 := wr) fun p hp => hb.cell (by omega)
      have hdj := (hN.data _ (List.getElem_mem hjl)).below hb
      have hlt := totB_take l j hjl
      have hle := totB_le l (j + 1)
      have hdl : l[j].data.length ≤ 1000000000 := by omega
      clear hlt hle hc hN
      have hlj := Lib.hid (lenAt_get l j hjl)
      generalize hxe : l[j] = x at *
      have hxh := Lib.hid hxe
      clear hxe
      obtain ⟨pa, ki, ma, sa, dA, dc, da⟩ := x
      obtain ⟨c0, c1, c2, c3, c4⟩ := hci
      simp only at c0 c1 c2 c3 c4 hdl hdj
      have hbr : b < wr.heap.size := by have := hb.size; omega
      have hbr' : ¬ b = wr.heap.size := by omega
      go_wp2_with (first
        | (at_make; refine wpList_make_full _ rfl (.tmp 25) (.tmp 25) _ rfl (q + 1) 5 i0 _ 1 Tryz.underlying64 hi hz0 hz1 .i64 .i64 ((da.length : Int) + 5) ((da.length : Int) + 5) (da.length + 5) rfl rfl (by omega) (by omega) (by rw [hz2]; omega) (by unfold maxLen; omega) (by omega) ?_; intro w2 ho2 hg2; have c4' := hg2.cell c4 (by simp); have hz5 : Blk w2 wr.heap.size 5 (List.replicate (da.length + 5) (.int .u8 0)) := by (have h9 := own_full ho2; rw [toList_madeCells_flat _ rfl] at h9; exact h9))
        | (refine wpList_copyb rfl (.tmp 27) (.tmp 32) _ _ rfl 5 Tryz.underlying64 hi1s wr.heap.size _ _ _ _ _ rfl rfl 5 (List.replicate (da.length + 5) (.int .u8 0)) hz5 w.heap.size (bvs da) (hdj.keep fun p hp => hg2.cell_far p (Nat.lt_of_lt_of_le hp hb.size) (by simp)) (by omega) (by rw [List.length_replicate]; omega) (bvs_one da) ?_; intro w3 hz6 hb3; have c4'' := (hb3.cell (p := ⟨b, off + j * 5 + 4, none⟩) (World.block_lt_of_cell? w2 _ c4') (show ¬ b = wr.heap.size from hbr')).trans c4'))
      have hB3 : Below wr.heap.size wr w3 := ((Below.refl wr.heap.size wr).grown hg2 (Nat.le_refl _) (by simp)).trans (hb3.below hg2.size (fun b' hb' e => by omega))
      have hz7 : Blk w3 wr.heap.size 5 (bvs da ++ marks 0) := by
        have e : List.drop da.length (List.replicate (da.length + 5) (Value.int .u8 0)) = marks 0 := by rw [List.drop_replicate]; simp [marks]
        rw [e] at hz6
        exact hz6
      clear hz6 hz5 ho2 hb3 hg2 c4' c4''
      obtain ⟨wo, rfl⟩ : ∃ wo : World, wo = wr := ⟨_, rfl⟩
      go_loopw [6] (fun k wr => ∃ m : Nat, m ≤ 5 ∧ k = .int .i64 ((da.length : Int) + m) ∧ Blk wr wo.heap.size 5 (bvs da ++ marks m) ∧ Below wo.heap.size wo wr)
        (fun k _ => da.length + 5 - (intOf k).toNat)
      case atStart => exact ⟨0, by omega, by simp, hz7, hB3⟩
      case round =>
        obtain ⟨m, hm, rfl, hbk, hbw⟩ := hrel
        by_cases hm5 : m < 5
        · have k1 := (hbk.cell (da.length + m)).trans (marks_get _ _ m (bvs_length da) hm5)
          have k2 := hbk.frozen (da.length + m)
          go_wp2
          have hst := hbk.set_ (da.length + m) (.int .u8 201)
          rw [marks_set _ _ m (bvs_length da) hm5] at hst
          go_roundw
          case rel => exact ⟨m + 1, by omega, by go_num, hst, hbw.setCell (Nat.le_refl _) _⟩
          case measure => simp [intOf]; omega
        · obtain rfl : m = 5 := by omega
          go_wp2
          have hgq : g < wo.heap.size := by omega
          have hqb' := hqb.below hbw hqs
          have hrw' := hrw.below hbw hgq
          have q0 := hqb'.cell 0
          have e0 := (hbw.cell (p := ⟨b, off + j * 5, none⟩) hbr).trans c0
          have e1 := (hbw.cell (p := ⟨b, off + j * 5 + 1, none⟩) hbr).trans c1
          have e2 := (hbw.cell (p := ⟨b, off + j * 5 + 2, none⟩) hbr).trans c2
          have e3 := (hbw.cell (p := ⟨b, off + j * 5 + 3, none⟩) hbr).trans c3
          have e4 := (hbw.cell (p := ⟨b, off + j * 5 + 4, none⟩) hbr).trans c4
          have y0 := (hrw'.cell (j * 5)).trans (List.getElem?_eq_getElem (by omega))
          have y1 := (hrw'.cell (j * 5 + 1)).trans (List.getElem?_eq_getElem (by omega))
          have y2 := (hrw'.cell (j * 5 + 2)).trans (List.getElem?_eq_getElem (by omega))
          have y3 := (hrw'.cell (j * 5 + 3)).trans (List.getElem?_eq_getElem (by omega))
          have y4 := (hrw'.cell (j * 5 + 4)).trans (List.getElem?_eq_getElem (by omega))
          have z0 := hrw'.frozen (j * 5)
          have z1 := hrw'.frozen (j * 5 + 1)
          have z2 := hrw'.frozen (j * 5 + 2)
          have z3 := hrw'.frozen (j * 5 + 3)
          have z4 := hrw'.frozen (j * 5 + 4)
          have j0 : (0 : Int) ≤ (j : Int) := by omega
          have j1 : (j : Int) < (len : Int) := by omega
          have j2 : (j : Int) < (len : Int) + 3 := by omega
          have j3 : b ≠ g := by have := hggH.out; omega
          clear c0 c1 c2 c3 c4
          go_region
          go_upto_region 12 with (fail)
          obtain ⟨cs2, n1, n2, x0, x1, x2, x3, x4, nC, nO⟩ := store_node hrw' (j * 5) (by omega) (.string pa) (.int .i64 ki) (.int .i64 ma) (.string sa) (.slice dA da.length dc) _ rfl
          generalize ((((wr.setCell ⟨g, j * 5, none⟩ (.string pa)).setCell ⟨g, j * 5 + 1, none⟩ (.int .i64 ki)).setCell ⟨g, j * 5 + 2, none⟩ (.int .i64 ma)).setCell ⟨g, j * 5 + 3, none⟩ (.string sa)).setCell ⟨g, j * 5 + 4, none⟩ (.slice dA da.length dc) = X at *
          clear e0 e1 e2 e3 y0 y1 y2 y3 y4 z0 z1 z2 z3 z4 q0
          have q0 := (hqb'.chg nC (by omega)).cell 0
          have e4' := (nC.cell (p := ⟨b, off + j * 5 + 4, none⟩) (World.block_lt_of_cell? wr _ e4) (by show ¬ b = g; exact j3)).trans e4
          have z4 := n1.frozen (j * 5 + 4)
          clear e4
          go_region
          have hrX := n1.set_ (j * 5 + 4) (.slice (some ⟨wo.heap.size, 0, none⟩) da.length (da.length + 5))
          have hCX := nC.setCell (p := ⟨g, j * 5 + 4, none⟩) (fun _ => rfl) (.slice (some ⟨wo.heap.size, 0, none⟩) da.length (da.length + 5))
          have hnX : NodeAt (X.setCell ⟨g, j * 5 + 4, none⟩ (.slice (some ⟨wo.heap.size, 0, none⟩) da.length (da.length + 5))) g (j * 5) (lentNd ⟨pa, ki, ma, sa, dA, dc, da⟩ wo.heap.size) :=
            ⟨(World.cell?_setCell_other X _ _ _ (by simp)).trans x0, (World.cell?_setCell_other X _ _ _ (by simp)).trans x1, (World.cell?_setCell_other X _ _ _ (by simp)).trans x2, (World.cell?_setCell_other X _ _ _ (by simp)).trans x3, World.cell?_setCell_same X _ _ x4⟩
          have hoX : ∀ i, i < j * 5 ∨ j * 5 + 5 ≤ i → (X.setCell ⟨g, j * 5 + 4, none⟩ (.slice (some ⟨wo.heap.size, 0, none⟩) da.length (da.length + 5))).cell? ⟨g, i, none⟩ = wr.cell? ⟨g, i, none⟩ := fun i hi => (World.cell?_setCell_other X _ _ _ (by intro e; injection e with _ e; omega)).trans (nO i hi)
          generalize X.setCell ⟨g, j * 5 + 4, none⟩ (.slice (some ⟨wo.heap.size, 0, none⟩) da.length (da.length + 5)) = Y at *
          have hqY := hqb'.chg hCX (by omega)
          have q1 := hqY.cell 1
          have hsY := hCX.size
          clear n1 nC nO x0 x1 x2 x3 x4 q0 e4' z4 hrw'
          have hvq : ∀ b', vb.ownBlock = some b' → q + 1 ≤ b' := fun b' hb' => (hown.lt b' hb').1
          have howY := own_chg (own_fresh hown hbw) hCX (fun b' hb' => by have := hvq b' hb'; omega)
          have hvY : vb.ownBlock ≠ some q := fun e => by have := hvq q e; omega
          have hqsY : q < Y.heap.size := hqY.lt
          have hqY1 : q + 1 ≤ Y.heap.size := hqsY
          go_wp2_with (first
            | (at_builtin; refine wpList_app _ rfl (.tmp 71) (.tmp 73) _ _ rfl (q + 1) 64 i2 _ 1 24 Tryz.underlying47 hi2 hx0 hx1 hx2 rfl vb j (lentSl l bs j) rfl (howY.alloc _) 1 [.slice (some ⟨wo.heap.size, 0, none⟩) (da.length + 5) (da.length + 5)] (src_blk Tryz.underlying47 (heap_alloc_new Y _) rfl) (by unfold maxLen; omega) (by omega) (by simp; omega) ?_; intro v5 w5 ho5 hg5 hat5; obtain ⟨g5, c5, rfl, hge5, hlt5⟩ := ho5.form (by omega); have hq5 := Blk.law (w := (Y.alloc _).drew.drew) (hqY.alloc _) hg5 hvY; have c51 := hq5.cell 1; have f51 := hq5.frozen 1))
          have CT : Chg (fun b' => b' = q ∨ vb.ownBlock = some b') Y (w5.setCell ⟨q, 1, none⟩ (.slice (some ⟨g5, 0, none⟩) (j + 1) c5)) :=
            ((((Chg.refl _ Y).alloc _).drew.drew).grown hg5 (fun g' e _ => .inr e)).setCell (fun _ => .inl rfl) _
          have hSg : ¬ (g = q ∨ vb.ownBlock = some g) := fun h => h.elim (by omega) (fun e => by have := hvq g e; omega)
          have hSp : ¬ (w.heap.size = q ∨ vb.ownBlock = some w.heap.size) := fun h => h.elim (by omega) (fun e => by have := hvq _ e; omega)
          have hSh : ¬ (wo.heap.size = q ∨ vb.ownBlock = some wo.heap.size) := fun h => h.elim (by omega) (fun e => by have := (hown.lt _ e).2; omega)
          have hdisj : ∀ i, i < j → ¬ (bs i = q ∨ vb.ownBlock = some (bs i)) := fun i hi h => h.elim (fun e => by have := hM.low i hi; omega) (fun e => by
            have h1 := hM.data i (by omega) hi
            rcases hown.2 with ⟨h2, _⟩ | ⟨g', cap', cur', h2, _, h3, _⟩
            · rw [h2] at e; cases e
            · rw [h2] at e
              injection e with e
              subst e
              have := (Blk.eq (t' := 64) (cs' := cur'.toList) h1 (by unfold Blk; simpa using h3)).1
              exact absurd this (by decide))
          have hMn := LMem.step hM hbw hCX hoX hnX (by simpa [marks, mark5] using hbk) CT hSg hdisj hSh hjl hxh.out (Nat.le_refl _) hgq (by omega) (by omega)
          have hsW := CT.size
          have hqW := hq5.set_ 1 (.slice (some ⟨g5, 0, none⟩) (j + 1) c5)
          have hge : ∀ b' : Nat, (Value.slice (some ⟨g5, 0, none⟩) (j + 1) c5).ownBlock = some b' → ¬ b' = q := by
            intro b' e
            have e' : g5 = b' := by simpa [Value.ownBlock] using e
            omega
          have hoW := own_chg ho5 ((Chg.refl (fun b' => b' = q) w5).setCell (p := ⟨q, 1, none⟩) (fun _ => rfl) (.slice (some ⟨g5, 0, none⟩) (j + 1) c5)) hge
          have hBW : Below w.heap.size w (w5.setCell ⟨q, 1, none⟩ (.slice (some ⟨g5, 0, none⟩) (j + 1) c5)) :=
            (hb.trans (hbw.mono hb.size)).trans (((hCX.trans CT (U := fun b' => b' = g ∨ b' = q ∨ vb.ownBlock = some b') (fun b' _ e => .inl e) (fun b' _ e => .inr e)).below (by have := hb.size; have := hbw.size; omega) (fun b' hb' e => e.elim (by omega) fun e => e.elim (by omega) fun e => by have := hvq b' e; omega)))
          go_roundw
          case rel =>
            exact ⟨j + 1, .slice (some ⟨g5, 0, none⟩) (j + 1) c5, _, by omega, by go_num, hBW, by omega, hqW, (((hpb.fresh hbw).chg hCX (by omega)).chg CT hSp), ⟨_, hrX.chg CT hSg, by simpa using n2.trans hcl⟩, hMn, by rw [lentSl_step _ _ _ _ _ hlj.out]; exact hoW⟩
          case measure => simp [intOf]; omega
    · obtain rfl : j = len := by omega
      go_wp2
      obtain ⟨wo, rfl⟩ : ∃ wo : World, wo = wr := ⟨_, rfl⟩
      go_loopw [7] (fun k wr => ∃ m : Nat, m ≤ 3 ∧ k = .int .i64 ((j : Int) + m) ∧ Chg (fun b' => b' = g) wo wr ∧ (∃ cs, Blk wr g 75 cs ∧ cs.length = (j + 3) * 5) ∧
          (∀ i, i < j * 5 → wr.cell? ⟨g, i, none⟩ = wo.cell? ⟨g, i, none⟩) ∧
          (∀ k, k < m → wr.cell? ⟨g, (j + k) * 5, none⟩ = some (.string ⟨#[109, 97, 114, 107]⟩) ∧ wr.cell? ⟨g, (j + k) * 5 + 4, none⟩ = some (.slice none 0 0)))
        (fun k _ => j + 3 - (intOf k).toNat)
      case atStart => exact ⟨0, by omega, by simp, Chg.refl _ _, ⟨cs, hrw, hcl⟩, fun _ _ => rfl, fun k hk => absurd hk (by omega)⟩
      case round =>
        obtain ⟨m, hm, rfl, hC, ⟨cs2, hr2, hl2⟩, hlow, hmk⟩ := hrel
        have hqw := hqb.chg hC (by omega)
        have q0 := hqw.cell 0
        by_cases hm3 : m < 3
        · have y0 := (hr2.cell ((j + m) * 5)).trans (List.getElem?_eq_getElem (by omega))
          have y1 := (hr2.cell ((j + m) * 5 + 1)).trans (List.getElem?_eq_getElem (by omega))
          have y2 := (hr2.cell ((j + m) * 5 + 2)).trans (List.getElem?_eq_getElem (by omega))
          have y3 := (hr2.cell ((j + m) * 5 + 3)).trans (List.getElem?_eq_getElem (by omega))
          have y4 := (hr2.cell ((j + m) * 5 + 4)).trans (List.getElem?_eq_getElem (by omega))
          have z0 := hr2.frozen ((j + m) * 5)
          have z1 := hr2.frozen ((j + m) * 5 + 1)
          have z2 := hr2.frozen ((j + m) * 5 + 2)
          have z3 := hr2.frozen ((j + m) * 5 + 3)
          have z4 := hr2.frozen ((j + m) * 5 + 4)
          go_wp2
          obtain ⟨cs3, n1, n2, x0, x1, x2, x3, x4, nC, nO⟩ := store_node hr2 ((j + m) * 5) (by omega) (.string ⟨#[109, 97, 114, 107]⟩) (.int .i64 0) (.int .i64 0) (.string ByteArray.empty) (.slice none 0 0) _ rfl
          go_roundw
          case rel =>
            refine ⟨m + 1, by omega, by go_num, hC.trans nC (fun _ _ e => e) (fun _ _ e => e), ⟨cs3, n1, by omega⟩, fun i hi => (nO i (.inl (by omega))).trans (hlow i hi), fun k hk => ?_⟩
            by_cases e : k = m
            · subst e; exact ⟨x0, x4⟩
            · have := hmk k (by omega)
              exact ⟨(nO _ (.inl (by omega))).trans this.1, (nO _ (.inl (by omega))).trans this.2⟩
          case measure => simp [intOf]; omega
        · obtain rfl : m = 3 := by omega
          have q1 := hqw.cell 1
          have hpw := (hpb.chg hC (by omega))
          have p0 := hpw.cell 0
          have p1 := hpw.cell 1
          have p2 := hpw.frozen 0
          have p3 := hpw.frozen 1
          obtain ⟨Av, cv, rfl, _⟩ := Sees.of_own (B := wo.heap.size) hown fun g' hg' => (hown.lt g' hg').2
          go_wp2
          have hp9 := (hpw.set_ 0 (.slice (some ⟨g, 0, none⟩) (j + 3) (j + 3))).set_ 1 (.slice Av j cv)
          have hCW := ((Chg.refl (fun b' => b' = w.heap.size) wr).setCell (p := ⟨w.heap.size, 0, none⟩) (fun _ => rfl) (.slice (some ⟨g, 0, none⟩) (j + 3) (j + 3))).setCell (p := ⟨w.heap.size, 1, none⟩) (fun _ => rfl) (.slice Av j cv)
          have hg0 : ¬ g = w.heap.size := by omega
          have hbw' := (hC.trans hCW (U := fun b' => b' = g ∨ b' = w.heap.size) (fun _ _ e => .inl e) (fun _ _ e => .inr e))
          have hBz := hb.trans (hbw'.below (B := w.heap.size) (by have := hb.size; omega) (fun b' hb' e => e.elim (by omega) (by omega)))
          have hjl : j = l.length := hlenH.out
          refine bodyPost_ret (v := .agg #[.slice (some ⟨g, 0, none⟩) (j + 3) (j + 3), .slice Av j cv]) (results_cell_row rfl _ _ w.heap.size 49 _ (0, 0) _ rfl hp9 Tryz.underlying49 rfl (by kernel_rfl)) rfl ?_
          subst hjl
          have hlo : g + 1 ≤ q + 1 := by omega
          have hMz : LMem ((wr.setCell ⟨w.heap.size, 0, none⟩ (.slice (some ⟨g, 0, none⟩) (l.length + 3) (l.length + 3))).setCell ⟨w.heap.size, 1, none⟩ (.slice Av l.length cv)) g l l.length bs (g + 1) := by
            refine ⟨fun i hi hj => ?_, fun i hi hj => ?_, fun i hi => by have := hM.low i hi; omega, hM.inj⟩
            · obtain ⟨a0, a1, a2, a3, a4⟩ := hM.node i hi hj
              have go : ∀ o u, o < l.length * 5 → wo.cell? ⟨g, o, none⟩ = some u → ((wr.setCell ⟨w.heap.size, 0, none⟩ (.slice (some ⟨g, 0, none⟩) (l.length + 3) (l.length + 3))).setCell ⟨w.heap.size, 1, none⟩ (.slice Av l.length cv)).cell? ⟨g, o, none⟩ = some u := fun o u ho hu =>
                (hCW.cell (p := ⟨g, o, none⟩) hr2.lt hg0).trans ((hlow o ho).trans hu)
              exact ⟨go _ _ (by omega) a0, go _ _ (by omega) a1, go _ _ (by omega) a2, go _ _ (by omega) a3, go _ _ (by omega) a4⟩
            · have := hM.low i hj
              exact ((hM.data i hi hj).chg hC (by omega)).chg hCW (by omega)
          refine ⟨g, .slice Av l.length cv, bs, rfl, ⟨by omega, hMz, ⟨cs2, hr2.chg hCW hg0, hl2⟩, fun i h1 h2 => ?_, ?_⟩, hBz⟩
          · obtain ⟨m1, m2⟩ := hmk (i - l.length) (by omega)
            have e : l.length + (i - l.length) = i := by omega
            rw [e] at m1 m2
            exact ⟨(hCW.cell (p := ⟨g, i * 5, none⟩) hr2.lt hg0).trans m1, (hCW.cell (p := ⟨g, i * 5 + 4, none⟩) hr2.lt hg0).trans m2⟩
          · refine own_base (own_chg (own_chg hown hC fun b' e => ?_) hCW fun b' e => ?_) fun b' e => ?_
            · have := (hown.lt b' e).1; omega
            · have := (hown.lt b' e).1; omega
            · have := (hown.lt b' e).1; omega
theorem lend_any (A : Option Addr) (cap : Nat) (l : List Nd) (w : World) (hN : NodesAt w w.heap.size A l) (hln : l.length ≤ 5000) (htot : totB l ≤ 2097152) :
    Calls Tryz.prog 17 #[.slice A l.length cap] w (LentPost l w) := lend_big A cap l w hN hln (by omega)
#print axioms lend_any
end Go.Proofs.YtolpcfhfcdkokaaGreatDoor
