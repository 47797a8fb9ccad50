/- Joined out of the texts Ba, Pl, PCount. -/
import Derived.ChangeKeysEq
import Derived.Laws.StructEq
import Derived.Deep.LoopGhost
import Derived.Great.BuildSlice
import Derived.Test.YtolpcfhfcdkokaaGreatDoorM01
import Derived.Test.YtolpcfhfcdkokaaGreatDoorM03
import Derived.Test.YtolpcfhfcdkokaaGreatDoorM05
import Derived.Test.YtolpcfhfcdkokaaGreatDoorM06
/-
  Small things: rows of parts of one size; texts that are the same bytes; a slice literal of one element.
-/
namespace Go.Proofs.YtolpcfhfcdkokaaGreatDoor
open Go.RowKit

theorem flat_get {α : Type} (f : α → List Value) (k : Nat) : ∀ (l : List α) (_ : ∀ x ∈ l, (f x).length = k) (i : Nat) (h : i < l.length) (j : Nat), j < k → (l.flatMap f)[i * k + j]? = (f l[i])[j]? := by
  intro l
  induction l with
  | nil => intro _ i h; exact absurd h (by simp)
  | cons x l ih =>
    intro hk i h j hj
    have hx := hk x List.mem_cons_self
    rw [List.flatMap_cons]
    cases i with
    | zero => rw [List.getElem?_append_left (by rw [hx]; omega)]; simp
    | succ i =>
      have e : (i + 1) * k = k + i * k := by rw [Nat.succ_mul, Nat.add_comm]
      rw [List.getElem?_append_right (by rw [hx]; omega), hx, show (i + 1) * k + j - k = i * k + j by omega, ih (fun y hy => hk y (List.mem_cons_of_mem _ hy)) i (by simpa using h) j hj]
      simp
theorem flat_len {α : Type} (f : α → List Value) (k : Nat) : ∀ l : List α, (∀ x ∈ l, (f x).length = k) → (l.flatMap f).length = l.length * k := by
  intro l
  induction l with
  | nil => intro _; simp
  | cons x l ih => intro hk; rw [List.flatMap_cons, List.length_append, hk x List.mem_cons_self, ih (fun y hy => hk y (List.mem_cons_of_mem _ hy)), List.length_cons, Nat.succ_mul, Nat.add_comm]
theorem ba_ext0 {a b : ByteArray} (h : a.data.toList = b.data.toList) : a = b := by
  cases a with | mk a =>
  cases b with | mk b =>
  simp only at h
  rw [show a = b from Array.ext' h]
theorem ba_list {a b : ByteArray} : a.toList = b.toList ↔ a = b := by
  constructor
  · intro h
    rw [ByteArray.toList_eq, ByteArray.toList_eq] at h
    exact ba_ext0 h
  · intro h; rw [h]
section
variable {P : Program}
theorem fill_one (s : Nat) (hs : 0 < s) (z cs : Array Value) (hz : z.size = s) (hc : cs.size = s) : Instr.fill (fun i => some (i * s, s)) z [(0, .agg cs)] = some cs := by
  obtain ⟨r, hr, hsz, hk⟩ := Great.fill_dense hs [.agg cs] 0 z (by intro v hv; rw [List.mem_singleton] at hv; subst hv; exact hc) (by simp [hz])
  have e : ([Value.agg cs].zipIdx 0).map (fun x => (x.2, x.1)) = [(0, .agg cs)] := rfl
  rw [e] at hr
  rw [hr]
  congr 1
  refine Array.ext (by omega) fun k h1 h2 => ?_
  have := hk k
  rw [if_pos ⟨by omega, by simp; omega⟩, Nat.div_eq_of_lt (by omega), Nat.mod_eq_of_lt (by omega)] at this
  have e2 : ([Value.agg cs][0 - 0]?).bind (fun v => v.cells[k]?) = cs[k]? := rfl
  rw [e2, Array.getElem?_eq_getElem h1, Array.getElem?_eq_getElem h2] at this
  injection this
theorem wpList_build1 {w : World} {ops : Array Oper} {rest : List Oper} {o : Oper} {a : Act} {Q : Exit → Act → World → Prop} (hg : o.guard = none) (t e : TypeId) (x : Operand) (ho : o.op = .buildSlice t 1 #[(0, x)])
    (cs : Array Value) (hx : a.eval x = .agg cs) (size : Nat) (hu : P.underlying t = some (.slice e)) (hsz : (P.info? e).map (·.size) = some size) (hz : ((P.info? e).bind (·.zero)).map (·.cells.size) = some size)
    (hc : cs.size = size) (hpos : 0 < size) (hsm : size ≤ 2 ^ 20)
    (h : wpList P ops Q rest (a.put o.dst (.slice (some ⟨w.heap.size, 0, none⟩) 1 1)) (w.alloc (.cells cs e))) : wpList P ops Q (o :: rest) a w := by
  cases hie : P.info? e with
  | none => simp [hie] at hsz
  | some ie =>
    cases hzz : ie.zero with
    | none => simp [hie, hzz] at hz
    | some z =>
      simp only [hie, hzz, Option.map_some, Option.some.injEq, Option.bind_some] at hsz hz
      refine wpList_buildSlice hg t e 1 _ ho cs ie z hu hie hzz (by rw [hsz]; omega) (by rw [hsz]; omega) ?_ h
      rw [hsz]
      simp only [List.map_toArray, List.map_cons, List.map_nil, hx]
      exact fill_one size hpos _ cs (by simp) hc
theorem src_row {w : World} {g : Nat} {t : TypeId} {cs : List Value} {tx e' : TypeId} (hk : P.underlying tx = some (.slice e')) (hg : Blk w g t cs) (h1 : ∀ u ∈ cs, u.oneCell' = true) :
    Src P cs.length tx (.slice (some ⟨g, 0, none⟩) 1 1) 1 cs w :=
  Src.ofSlice w hk ⟨g, 0, none⟩ 1 1 cs (by simp) (fun j u hu => by rw [Addr.add_lit, Nat.zero_add]; exact (hg.cell j).trans hu) h1
end

#print axioms wpList_build1
end Go.Proofs.YtolpcfhfcdkokaaGreatDoor
/-
  The tree in memory (package plain): where its blocks lie, and whose they are.
-/
namespace Go.Proofs.YtolpcfhfcdkokaaGreatDoor
open Go.RowKit
open Go.Maps (Keyed)

theorem kInt : Keyed Tryz.prog 3 := Go.Maps.int_keyed Tryz.underlying3
theorem kStr : Keyed Tryz.prog 9 := Go.Maps.string_keyed Tryz.underlying9
theorem keyN (n : Nat) (h : n ≤ 1000000000) : keyOf Tryz.prog 3 (natK.val n) = some (natK.enc n) := Go.Maps.keyOf_int_mk Tryz.underlying3 (WalkArith.wf_i64 (by omega))
theorem keyI (n : Int) (h : -1000000000 ≤ n ∧ n ≤ 1000000000) : keyOf Tryz.prog 3 (intK.val n) = some (intK.enc n) := Go.Maps.keyOf_int_mk Tryz.underlying3 (WalkArith.wf_i64 (by omega))
theorem keyS (s : ByteArray) (h : s.size ≤ maxLen) : keyOf Tryz.prog 9 (strK.val s) = some (strK.enc s) := Go.WideMaps.keyOf_string_mk Tryz.underlying9 h
theorem invN (key : Value) (a : Nat) (h : keyOf Tryz.prog 3 key = some (natK.enc a)) : key = natK.val a := natK_inv Tryz.underlying3 key a h
theorem invS (key : Value) (a : ByteArray) (h : keyOf Tryz.prog 9 key = some (strK.enc a)) : key = strK.val a := strK_inv Tryz.underlying9 key a h

def ptrV (n : Nat) : Value := .pointer (some ⟨n, 0, none⟩)
def natV (n : Nat) : Value := .int .i64 (n : Int)
def strs (l : List ByteArray) : List Value := l.map Value.string
/-- Where a node's parts lie. -/
structure NA where
  nb : Nat
  d : Option Nat
  s : Value
  nm : Option Nat
/-- A map that may be nil. -/
def MapOpt (w : World) {α β : Type} (K : KE α) (V : β → Value) (k : TypeId) (o : Option Nat) (l : List (α × β)) : Prop :=
  match o with
  | some b => MapAt w K V k b l
  | none => l = []
def cells7 (a : NA) (n : PN) : List Value := [.int .i64 n.kind, .int .i64 (n.links : Int), .int .i64 (n.size : Int), .int .i64 (n.made : Int), .map a.d, a.s, .map a.nm]
structure PnAt (w : World) (a : NA) (n : PN) : Prop where
  blk : Blk w a.nb 110 (cells7 a n)
  data : MapOpt w natK secV 3 a.d n.data
  slots : w.ownsRow 0 9 1 a.s n.slots.length (strs n.slots)
  names : MapOpt w strK natV 9 a.nm n.names
  dirs : n.dir = true → ∃ b, a.nm = some b
  files : n.dir = false → ∃ b, a.d = some b
/-- Whose a block is. -/
inductive Role where
  | top
  | nodes
  | node (i : Nat)
  | data (i : Nat)
  | slots (i : Nat)
  | names (i : Nat)
deriving DecidableEq
structure Owns (own : Nat → Option Role) (i : Nat) (a : NA) : Prop where
  nb : own a.nb = some (.node i)
  d : ∀ b, a.d = some b → own b = some (.data i)
  s : ∀ b, a.s.ownBlock = some b → own b = some (.slots i)
  nm : ∀ b, a.nm = some b → own b = some (.names i)
structure PlainAt (w : World) (own : Nat → Option Role) (lay : Nat → NA) (p mb : Nat) (T : PT) : Prop where
  top : Blk w p 98 [.int .i64 (T.sectors : Int), .int .i64 (T.inodes : Int), .map (some mb)]
  ownp : own p = some .top
  ownm : own mb = some .nodes
  nodes : MapAt w natK ptrV 3 mb (T.nodes.map fun x => (x.1, (lay x.1).nb))
  node : ∀ x ∈ T.nodes, PnAt w (lay x.1) x.2
  owns : ∀ x ∈ T.nodes, Owns own x.1 (lay x.1)
  lt : ∀ b r, own b = some r → b < w.heap.size

section
variable {w w' : World} {a : NA} {n : PN} {own : Nat → Option Role} {lay : Nat → NA} {p mb i : Nat} {T : PT} {S : Nat → Prop}
theorem MapOpt.chg {α β : Type} [DecidableEq α] {K : KE α} {V : β → Value} {k : TypeId} {o : Option Nat} {l : List (α × β)} (h : MapOpt w K V k o l) (hc : Chg S w w') (hn : ∀ b, o = some b → ¬ S b) : MapOpt w' K V k o l := by
  cases o with
  | none => exact h
  | some b => exact MapAt.chg h hc (hn b rfl)
theorem PnAt.chg (h : PnAt w a n) (hc : Chg S w w') (h1 : ¬ S a.nb) (h2 : ∀ b, a.d = some b → ¬ S b) (h3 : ∀ b, a.s.ownBlock = some b → ¬ S b) (h4 : ∀ b, a.nm = some b → ¬ S b) : PnAt w' a n :=
  ⟨h.blk.chg hc h1, h.data.chg hc h2, own_chg h.slots hc h3, h.names.chg hc h4, h.dirs, h.files⟩
theorem PnAt.chg_owns (h : PnAt w a n) (ho : Owns own i a) (hc : Chg S w w') (hS : ∀ b, S b → ∀ r, own b = some r → r ≠ .node i ∧ r ≠ .data i ∧ r ≠ .slots i ∧ r ≠ .names i) : PnAt w' a n :=
  h.chg hc (fun hb => (hS _ hb _ ho.nb).1 rfl) (fun b e hb => (hS _ hb _ (ho.d b e)).2.1 rfl) (fun b e hb => (hS _ hb _ (ho.s b e)).2.2.1 rfl) (fun b e hb => (hS _ hb _ (ho.nm b e)).2.2.2 rfl)
/-- What is done outside keeps the tree. -/
theorem PlainAt.chg (h : PlainAt w own lay p mb T) (hc : Chg S w w') (hS : ∀ b, S b → own b = none) : PlainAt w' own lay p mb T := by
  have hn : ∀ {b r}, own b = some r → ¬ S b := fun e hb => by rw [hS _ hb] at e; cases e
  exact ⟨h.top.chg hc (hn h.ownp), h.ownp, h.ownm, h.nodes.chg hc (hn h.ownm), fun x hx => (h.node x hx).chg_owns (h.owns x hx) hc fun b hb r e => absurd hb (hn e), h.owns, fun b r e => Nat.lt_of_lt_of_le (h.lt b r e) hc.size⟩
theorem PlainAt.free (h : PlainAt w own lay p mb T) {g : Nat} (hg : w.heap.size ≤ g) : own g = none := by
  cases e : own g with
  | none => rfl
  | some r => have := h.lt g r e; omega
theorem PlainAt.drew (h : PlainAt w own lay p mb T) : PlainAt w.drew own lay p mb T := h.chg ((Chg.refl (fun _ => False) w).drew) fun _ h => h.elim
theorem PlainAt.fresh (h : PlainAt w own lay p mb T) (hb : Below w.heap.size w w') : PlainAt w' own lay p mb T := h.chg (Chg.of_fresh (S := fun _ => False) hb) fun _ h => h.elim
end
#print axioms PlainAt.chg
end Go.Proofs.YtolpcfhfcdkokaaGreatDoor
/-
  The tree in memory: count: how many sectors a node has.
-/
namespace Go.Proofs.YtolpcfhfcdkokaaGreatDoor
open Go.RowKit
open Go.Maps (Keyed)

def truV (_ : Unit) : Value := .bool true
set_option maxHeartbeats 1600000 in
set_option maxRecDepth 100000 in
theorem add_any (k n g h m : Nat) (tl : List (Int × Unit)) (w : World) (hA : Blk w g 3 [.int .i64 (n : Int)]) (hT : Blk w h 158 [.map (some m)]) (hm : MapAt w intK truV 3 m tl) (hgh : h ≠ g) (hk : k ≤ 1067) (hn : n ≤ 1000000) (htl : tl.length ≤ 1000000) :
    Calls Tryz.prog 89 #[.int .i64 (k : Int), .pointer (some ⟨g, 0, none⟩), .pointer (some ⟨h, 0, none⟩)] w fun e w' => e = .returned (.tuple #[]) ∧ Blk w' g 3 [.int .i64 ((n + 1 : Nat) : Int)] ∧ MapAt w' intK truV 3 m (addTab k tl) ∧ Chg (fun b => b = g ∨ b = m) w w' := by
  have a0 : w.cell? ⟨g, 0, none⟩ = some (.int .i64 (n : Int)) := hA.cell 0
  have f0 := hA.frozen 0
  have hmg : m ≠ g := fun e => by subst e; obtain ⟨es, clock, hb, _⟩ := hm; rw [hA] at hb; cases hb
  have hhm : h ≠ m := fun e => by subst e; obtain ⟨es, clock, hb, _⟩ := hm; rw [hT] at hb; cases hb
  have hA1 : Blk (w.setCell ⟨g, 0, none⟩ (.int .i64 ((n : Int) + 1))) g 3 [.int .i64 ((n + 1 : Nat) : Int)] := hA.set_ 0 _
  have hC1 : Chg (fun b => b = g) w (w.setCell ⟨g, 0, none⟩ (.int .i64 ((n : Int) + 1))) := (Chg.refl (fun b => b = g) w).setCell (p := ⟨g, 0, none⟩) (fun _ => rfl) _
  have hm1 := hm.chg hC1 hmg
  have t1 : (w.setCell ⟨g, 0, none⟩ (.int .i64 ((n : Int) + 1))).cell? ⟨h, 0, none⟩ = some (.map (some m)) := (hT.far (by simpa using hgh) _).cell 0
  go_enter Tryz.func89, Tryz.ntmps89
  by_cases h44 : 44 ≤ k
  · have hd1 : decide ((44 : Int) ≤ (k : Int)) = true := by simpa using (by omega : (44 : Int) ≤ k)
    have hkey : Value.int .i64 (((k : Int) - 12 - 32) / 32) = .int .i64 (((k - 44) / 32 : Nat) : Int) := by congr 1; omega
    have hput := length_put_le intK (-2) () tl
    go_wp2_with (first
      | (at_mapUpdate; refine wpList_mput _ rfl (.tmp 9) (.const (.int .i64 (-2))) _ 158 (.inl rfl) kInt Tryz.underlying158 hm1 (by unfold maxLen; omega) rfl (-2) rfl (keyI _ (by omega)) () rfl ?_; intro w2 hm2 ht2; have hC2 := turned_chg ht2; have hA2 := hA1.chg hC2 (Ne.symm hmg); have t2 := (hC2.cell (p := ⟨h, 0, none⟩) (World.block_lt_of_cell? _ _ t1) hhm).trans t1)
      | (at_mapUpdate; refine wpList_mput _ rfl (.tmp 10) (.tmp 14) _ 158 (.inl rfl) kInt Tryz.underlying158 hm2 (by unfold maxLen; omega) rfl (((k - 44) / 32 : Nat) : Int) (show Value.int .i64 (((k : Int) - 12 - 32) / 32) = .int .i64 _ from hkey) (keyI _ (by omega)) () rfl ?_; intro w3 hm3 ht3))
    go_end0
    have hC3 := turned_chg ht3
    refine ⟨rfl, hA2.chg hC3 (Ne.symm hmg), ?_, (hC1.trans hC2 (fun _ _ h => .inl h) (fun _ _ h => .inr h)).trans hC3 (fun _ _ h => h) (fun _ _ h => .inr h)⟩
    unfold addTab
    rw [if_pos h44]
    exact hm3
  · have hd1 : decide ((44 : Int) ≤ (k : Int)) = false := by simpa using (by omega : (k : Int) < 44)
    by_cases h12 : 12 ≤ k
    · have hd2 : decide ((12 : Int) ≤ (k : Int)) = true := by simpa using (by omega : (12 : Int) ≤ k)
      go_wp2_with (first
        | (at_mapUpdate; refine wpList_mput _ rfl (.tmp 18) (.const (.int .i64 (-1))) _ 158 (.inl rfl) kInt Tryz.underlying158 hm1 (by unfold maxLen; omega) rfl (-1) rfl (keyI _ (by omega)) () rfl ?_; intro w2 hm2 ht2))
      go_end0
      have hC2 := turned_chg ht2
      refine ⟨rfl, hA1.chg hC2 (Ne.symm hmg), ?_, hC1.trans hC2 (fun _ _ h => .inl h) (fun _ _ h => .inr h)⟩
      unfold addTab
      rw [if_neg h44, if_pos h12]
      exact hm2
    · have hd2 : decide ((12 : Int) ≤ (k : Int)) = false := by simpa using (by omega : (k : Int) < 12)
      go_wp2
      go_end0
      refine ⟨rfl, hA1, ?_, hC1.mono fun _ _ h => .inl h⟩
      unfold addTab
      rw [if_neg h44, if_neg h12]
      exact hm1
#print axioms add_any
/-- A node of which the blocks are known. -/
structure CntAt (w : World) (nb : Nat) (d : Option Nat) (l : List (Nat × List UInt8)) (A : Option Addr) (sl c : Nat) : Prop where
  c4 : w.cell? ⟨nb, 4, none⟩ = some (.map d)
  c5 : w.cell? ⟨nb, 5, none⟩ = some (.slice A sl c)
  map : MapOpt w natK secV 3 d l
theorem CntAt.below {w w1 : World} {nb : Nat} {d : Option Nat} {l : List (Nat × List UInt8)} {A : Option Addr} {sl c : Nat} (h : CntAt w nb d l A sl c) (hb : Below w.heap.size w w1) : CntAt w1 nb d l A sl c :=
  ⟨(hb.cell (p := ⟨nb, 4, none⟩) (World.block_lt_of_cell? _ _ h.c4)).trans h.c4, (hb.cell (p := ⟨nb, 5, none⟩) (World.block_lt_of_cell? _ _ h.c5)).trans h.c5, h.map.chg (Chg.of_fresh (S := fun _ => False) hb) fun _ _ h => h⟩
/-- The memory of 'count' under way: these blocks have been counted. -/
structure CntI (w : World) (g : Nat) (ks : List Nat) (wr : World) : Prop where
  tb : Blk wr (g + 1) 158 [.map (some g)]
  al : Blk wr (g + 2) 3 [.int .i64 (ks.length : Int)]
  tl : ∃ tl, MapAt wr intK truV 3 g tl ∧ TabsAre tl ks ∧ tl.length ≤ 34
  ks : ∀ k ∈ ks, k ≤ 1067
  ch : Below g w wr
theorem tabs_len {w : World} {m : Nat} {tl : List (Int × Unit)} {ks : List Nat} (hm : MapAt w intK truV 3 m tl) (ht : TabsAre tl ks) (hk : ∀ k ∈ ks, k ≤ 1067) : tl.length = tabsOf ks := ht.len (hm.ris kInt) hk
theorem CntI.chg {w wr w1 : World} {g : Nat} {ks : List Nat} (h : CntI w g ks wr) (hc : Below (g + 3) wr w1) : CntI w g ks w1 := by
  obtain ⟨tl, h1, h2⟩ := h.tl
  have hC := Chg.of_below hc
  exact ⟨h.tb.chg hC (by omega), h.al.chg hC (by omega), ⟨tl, h1.chg hC (by omega), h2⟩, h.ks, h.ch.trans (hc.mono (by omega))⟩
/-- One block more has been counted. -/
theorem CntI.snoc {w wr w1 : World} {g k : Nat} {ks : List Nat} {tl : List (Int × Unit)} (h : CntI w g ks wr) (hk : k ≤ 1067) (ht : TabsAre tl ks)
    (h1 : Blk w1 (g + 2) 3 [.int .i64 ((ks.length + 1 : Nat) : Int)]) (h2 : MapAt w1 intK truV 3 g (addTab k tl)) (hc : Chg (fun b => b = g + 2 ∨ b = g) wr w1) : CntI w g (ks ++ [k]) w1 := by
  have hks : ∀ x ∈ ks ++ [k], x ≤ 1067 := by
    intro x hx
    rcases List.mem_append.1 hx with hx | hx
    · exact h.ks x hx
    · rw [List.mem_singleton] at hx; omega
  have h3 := ht.snoc k
  refine ⟨h.tb.chg hc (by omega), ?_, ⟨_, h2, h3, ?_⟩, hks, h.ch.trans (hc.below (by have := h.al.lt; omega) fun b hb h => by omega)⟩
  · rw [List.length_append]; exact h1
  · rw [tabs_len h2 h3 hks]; exact tabsOf_le _
theorem keys_len {ks : List Nat} {l : List (Nat × List UInt8)} (hn : ks.Nodup) (h : ∀ k ∈ ks, (getS k l).isSome = true) : ks.length ≤ l.length := by
  have e : (l.map (·.1)).length = l.length := List.length_map _
  rw [← e]
  refine length_le_of_subset hn fun k hk => ?_
  have := h k hk
  cases hg : getS k l with
  | none => rw [hg] at this; cases this
  | some u => exact List.mem_map.2 ⟨_, mem_of_getS hg, rfl⟩
set_option maxHeartbeats 1600000 in
set_option maxRecDepth 100000 in
theorem pcount_any (nb db : Nat) (l : List (Nat × List UInt8)) (A : Option Addr) (sl c : Nat) (w : World) (hC : CntAt w nb (some db) l A sl c) (hl : ∀ p ∈ l, p.1 ≤ 1067) (hll : l.length ≤ 1068) (hsl : sl ≤ 1068) :
    Calls Tryz.prog 57 #[.pointer (some ⟨nb, 0, none⟩)] w fun e w' => e = .returned (.int .i64 ((cntK (l.map (·.1) ++ List.range sl) : Nat) : Int)) ∧ Below w.heap.size w w' := by
  have hmm := @run_makeMap Tryz.prog
  have hI0 : CntI w w.heap.size [] (((w.alloc (.map #[] 0)).alloc (.cells #[.map (some w.heap.size)] 158)).alloc (.cells #[.int .i64 0] 3)) := by
    have h1 := Blk.new (w.alloc (.map #[] 0)) 158 [.map (some w.heap.size)]
    have h2 := Blk.new ((w.alloc (.map #[] 0)).alloc (.cells #[.map (some w.heap.size)] 158)) 3 [.int .i64 0]
    refine ⟨?_, ?_, ⟨[], ((MapAt.made w intK truV 3).alloc _).alloc _, TabsAre.nil, by simp⟩, by simp, (((Below.refl _ _).alloc (Nat.le_refl _) _).alloc (by simp) _).alloc (by simp; omega) _⟩
    · simpa using h1.alloc (.cells #[.int .i64 0] 3)
    · simpa using h2
  go_enter Tryz.func57, Tryz.ntmps57
  go_upto_region 4 with (fail)
  have hC0 := hC.below hI0.ch
  generalize ((w.alloc (.map #[] 0)).alloc (.cells #[.map (some w.heap.size)] 158)).alloc (.cells #[.int .i64 0] 3) = w0 at *
  generalize hg : w.heap.size = g at *
  have hgH := Lib.hid hg
  have hCH := Lib.hid hC
  clear hg hC
  have c4 := hC0.c4
  have hgz := hI0.al.lt
  have hmap : MapAt w0 natK secV 3 db l := hC0.map
  go_wp2_with (first
    | (at_range; refine wpList_mrange _ rfl _ 107 rfl kInt Tryz.underlying107 hmap rfl ?_; intro w1 hr1 hb1 hs1))
  go_frame
  have hI1 := hI0.chg (hb1.mono (by omega))
  have hC1 := hC0.below hb1
  generalize w0.heap.size = r at *
  have hdb : db < g := by rw [← hgH.out]; exact MapAt.lt (K := natK) (V := secV) (k := 3) (l := l) hCH.out.map
  have hnb : nb < g := by rw [← hgH.out]; exact World.block_lt_of_cell? _ _ hCH.out.c4
  go_loopw [6] (fun _ wr => ∃ ks todo, RangeAt wr natK secV 3 db r l.length l todo ∧ CntI w g ks wr ∧ Hid (∀ k, k ∈ ks ↔ (getS k l).isSome = true ∧ todo k = false) ∧ Hid ks.Nodup) (fun _ wr => wr.rangeLeft db r)
  case atStart => exact ⟨[], _, hr1, hI1, fun k => by cases getS k l <;> simp, List.nodup_nil⟩
  case round =>
    obtain ⟨ks, todo, hr, hI, hks, hnd⟩ := hrel
    go_wp2_with (first
      | (at_next; refine wpList_mnext _ rfl _ rfl kInt invN rfl hr ?_ ?_))
    · intro h0
      have h0H := Lib.hid h0
      clear h0
      have hriH := Lib.hid (hr.owns.ris kInt)
      have hksH := hks
      have hndH := hnd
      clear hks hnd
      have hkn : ks.length ≤ 1068 := Nat.le_trans (keys_len hndH.out fun k hk => (hksH.out k).1 hk |>.1) hll
      obtain ⟨wa, hwa⟩ : ∃ wa, wa = wr := ⟨_, rfl⟩
      have hCr : CntAt wr nb (some db) l A sl c := hCH.out.below (by rw [hgH.out]; exact hI.ch)
      have c5 := hCr.c5
      rw [← hwa] at hI c5 ⊢
      clear hwa hr hCr
      go_wp2
      go_loopw [7, 27] (fun _ i wr => ∃ k : Nat, k ≤ sl ∧ i = .int .i64 (k : Int) ∧ CntI w g (ks ++ List.range k) wr) (fun _ i _ => sl - (intOf i).toNat)
      case atStart => exact ⟨0, Nat.zero_le _, rfl, by simpa using hI⟩
      case round =>
        obtain ⟨k, hk, rfl, hI2⟩ := hrel
        clear hI
        by_cases hlt : k < sl
        · obtain ⟨tl, ht1, ht2, ht3⟩ := hI2.tl
          have hnl : (ks ++ List.range k).length ≤ 3000 := by rw [List.length_append, List.length_range]; omega
          have ht2H := Lib.hid ht2
          have hIH := Lib.hid hI2
          have hA3 := hI2.al
          have hT3 := hI2.tb
          clear hI2 ht2 hl
          generalize hn3 : (ks ++ List.range k).length = n3 at *
          have hn3H := Lib.hid hn3
          clear hn3
          go_wp2_with (first
            | (go_at_call 89; refine (add_any k n3 (g + 2) (g + 1) g tl wr hA3 hT3 ht1 (by omega) (by omega) (by omega) (by omega)).mono ?_; rintro e w3 ⟨rfl, hA4, hT4, hC4⟩))
          go_roundw
          case rel => exact ⟨k + 1, by omega, by go_num, by rw [List.range_succ, ← List.append_assoc]; exact hIH.out.snoc (by omega) ht2H.out (by rw [hn3H.out]; exact hA4) hT4 hC4⟩
          case measure => simp [intOf]; omega
        · obtain rfl : k = sl := by omega
          obtain ⟨tl, ht1, ht2, ht3⟩ := hI2.tl
          have hlen := Lib.hid (tabs_len ht1 ht2 hI2.ks)
          have hnl : (ks ++ List.range k).length ≤ 3000 := by rw [List.length_append, List.length_range]; omega
          have hA3 : wr.cell? ⟨g + 2, 0, none⟩ = some (.int .i64 (((ks ++ List.range k).length : Nat) : Int)) := hI2.al.cell 0
          have hT3 : wr.cell? ⟨g + 1, 0, none⟩ = some (.map (some g)) := hI2.tb.cell 0
          have hchH := Lib.hid hI2.ch
          clear ht2 hl hI2
          generalize hn3 : (ks ++ List.range k).length = n3 at *
          have hn3H := Lib.hid hn3
          clear hn3
          obtain ⟨m3, hm3⟩ : ∃ m3, m3 = tl.length := ⟨_, rfl⟩
          rw [← hm3] at ht3
          have hm3H := Lib.hid hm3
          go_wp2_with (first
            | (at_len; refine wpList_mlen _ rfl _ 158 rfl Tryz.underlying158 ht1 rfl m3 hm3.symm ?_; clear hm3))
          go_ret
          refine ⟨?_, by rw [hgH.out]; exact hchH.out⟩
          have hfin : n3 + m3 = cntK (l.map (·.1) ++ List.range k) := by
            have hmem : ∀ x, x ∈ ks ↔ x ∈ l.map (·.1) := fun x => by
              rw [hksH.out, h0H.out, List.mem_map]
              constructor
              · rintro ⟨h, -⟩
                cases hg : getS x l with
                | none => rw [hg] at h; cases h
                | some u => exact ⟨_, mem_of_getS hg, rfl⟩
              · rintro ⟨p, hp, rfl⟩
                refine ⟨?_, rfl⟩
                cases hg : getS p.1 l with
                | none => exact absurd rfl (getS_none.1 hg p hp)
                | some u => rfl
            have hnd2 : (l.map (·.1)).Nodup := by rw [List.Nodup, List.pairwise_map]; exact hriH.out.nd
            unfold cntK
            rw [hm3H.out, ← hn3H.out, hlen.out, List.length_append, List.length_append, length_eq_of_same hndH.out hnd2 hmem]
            congr 1
            exact tabsOf_perm fun x => by rw [List.mem_append, List.mem_append, hmem]
          rw [← hfin]
          rfl
    · intro k s w2 hk1 hk2 hr2 hlt hch hsz hen hkey
      have hr2H := Lib.hid hr2
      have hI2 := hI.chg (hch.below (show g + 3 ≤ wr.heap.size by have := hI.al.lt; omega) fun b hb h => by subst h; omega)
      obtain ⟨tl, ht1, ht2, ht3⟩ := hI2.tl
      have hkl : k ≤ 1067 := hl _ (mem_of_getS hk2)
      have hkn : ks.length ≤ 1068 := Nat.le_trans (keys_len hnd.out fun k hk => (hks.out k).1 hk |>.1) hll
      have hksH := Lib.hid hI2.ks
      have ht2H := Lib.hid ht2
      go_wp2_with (first
        | (go_at_call 89; refine (add_any k ks.length (g + 2) (g + 1) g tl w2 hI2.al hI2.tb ht1 (by omega) hkl (by omega) (by omega)).mono ?_; rintro e w3 ⟨rfl, hA3, hT3, hC3⟩))
      have hr3 := hr2H.out.chg hC3 (fun e => by rcases e with e | e <;> omega) (fun e => by rcases e with e | e <;> omega)
      have hlt3 := rangeLeft_chg (b := db) (r := r) hC3 hr2H.out.owns.lt hr2H.out.lt (fun e => by rcases e with e | e <;> omega) (fun e => by rcases e with e | e <;> omega)
      have hlt4 : w3.rangeLeft db r < wr.rangeLeft db r := by rw [hlt3]; exact hlt
      have hlt4H := Lib.hid hlt4
      have hI3 := Lib.hid (hI2.snoc hkl ht2H.out hA3 hT3 hC3)
      have hr3H := Lib.hid hr3
      have hk1H := Lib.hid hk1
      have hk2H := Lib.hid hk2
      clear hlt4 hlt3 hr3 hI2 hk1 hk2
      go_roundw
      case rel =>
        refine ⟨ks ++ [k], _, hr3H.out, hI3.out, fun x => ?_, ?_⟩
        · rw [List.mem_append, hks.out, List.mem_singleton]
          by_cases e : x = k
          · subst e; rw [hk2H.out]; simp
          · simp [e]
        · rw [Hid, List.nodup_append]
          refine ⟨hnd.out, by simp, fun a ha b hb => ?_⟩
          rw [List.mem_singleton] at hb
          subst hb
          rintro rfl
          have := ((hks.out a).1 ha).2
          rw [hk1H.out] at this
          cases this
      case measure => exact hlt4H.out
#print axioms pcount_any
set_option maxHeartbeats 1600000 in
set_option maxRecDepth 100000 in
theorem pcount_nil (nb : Nat) (A : Option Addr) (sl c : Nat) (w : World) (c4 : w.cell? ⟨nb, 4, none⟩ = some (.map none)) (c5 : w.cell? ⟨nb, 5, none⟩ = some (.slice A sl c)) (hsl : sl ≤ 1068) :
    Calls Tryz.prog 57 #[.pointer (some ⟨nb, 0, none⟩)] w fun e w' => e = .returned (.int .i64 ((cntK (List.range sl) : Nat) : Int)) ∧ Below w.heap.size w w' := by
  have hmm := @run_makeMap Tryz.prog
  have hI0 : CntI w w.heap.size [] (((w.alloc (.map #[] 0)).alloc (.cells #[.map (some w.heap.size)] 158)).alloc (.cells #[.int .i64 0] 3)) := by
    have h1 := Blk.new (w.alloc (.map #[] 0)) 158 [.map (some w.heap.size)]
    have h2 := Blk.new ((w.alloc (.map #[] 0)).alloc (.cells #[.map (some w.heap.size)] 158)) 3 [.int .i64 0]
    refine ⟨?_, ?_, ⟨[], ((MapAt.made w intK truV 3).alloc _).alloc _, TabsAre.nil, by simp⟩, by simp, (((Below.refl _ _).alloc (Nat.le_refl _) _).alloc (by simp) _).alloc (by simp; omega) _⟩
    · simpa using h1.alloc (.cells #[.int .i64 0] 3)
    · simpa using h2
  go_enter Tryz.func57, Tryz.ntmps57
  go_upto_region 4 with (fail)
  have b4 := World.block_lt_of_cell? _ _ c4
  have b5 := World.block_lt_of_cell? _ _ c5
  have c4' := (hI0.ch.cell (p := ⟨nb, 4, none⟩) b4).trans c4
  have c5' := (hI0.ch.cell (p := ⟨nb, 5, none⟩) b5).trans c5
  generalize ((w.alloc (.map #[] 0)).alloc (.cells #[.map (some w.heap.size)] 158)).alloc (.cells #[.int .i64 0] 3) = w0 at *
  generalize hg : w.heap.size = g at *
  have hgH := Lib.hid hg
  clear hg c4 c5
  have hgz := hI0.al.lt
  have hI := hI0.chg ((Below.refl _ w0).alloc (show g + 3 ≤ w0.heap.size by omega) (.mapIter none 0 #[] 0))
  have c5 := (World.cell?_alloc_lt w0 (.mapIter none 0 #[] 0) ⟨nb, 5, none⟩ (World.block_lt_of_cell? _ _ c5')).trans c5'
  have hrg := run_range_nilMap (P := Tryz.prog) w0 107 3 187 Tryz.underlying107
  have hnx : ∀ ty, (Instr.next (.pointer (some ⟨w0.heap.size, 0, none⟩)) false ty).run Tryz.prog (w0.alloc (.mapIter none 0 #[] 0)) = _ := fun ty => run_next_nilMap w0 ty 0 0 #[]
  clear hI0 c5'
  go_wp2
  refine wp_loop_rounds 1 ?_
  rw [rounds_succ]
  clear hrg
  generalize hw1 : w0.alloc (.mapIter none 0 #[] 0) = w1 at *
  clear hw1
  go_wp2
  go_loopw [7, 27] (fun _ i wr => ∃ k : Nat, k ≤ sl ∧ i = .int .i64 (k : Int) ∧ CntI w g (List.range k) wr) (fun _ i _ => sl - (intOf i).toNat)
  case atStart => exact ⟨0, Nat.zero_le _, rfl, hI⟩
  case round =>
    obtain ⟨k, hk, rfl, hI2⟩ := hrel
    clear hI
    by_cases hlt : k < sl
    · obtain ⟨tl, ht1, ht2, ht3⟩ := hI2.tl
      have hnl : (List.range k).length ≤ 3000 := by rw [List.length_range]; omega
      have ht2H := Lib.hid ht2
      have hIH := Lib.hid hI2
      have hA3 := hI2.al
      have hT3 := hI2.tb
      clear hI2 ht2
      generalize hn3 : (List.range k).length = n3 at *
      have hn3H := Lib.hid hn3
      clear hn3
      go_wp2_with (first
        | (go_at_call 89; refine (add_any k n3 (g + 2) (g + 1) g tl wr hA3 hT3 ht1 (by omega) (by omega) (by omega) (by omega)).mono ?_; rintro e w3 ⟨rfl, hA4, hT4, hC4⟩))
      go_roundw
      case rel => exact ⟨k + 1, by omega, by go_num, by rw [List.range_succ]; exact hIH.out.snoc (by omega) ht2H.out (by rw [hn3H.out]; exact hA4) hT4 hC4⟩
      case measure => simp [intOf]; omega
    · obtain rfl : k = sl := by omega
      obtain ⟨tl, ht1, ht2, ht3⟩ := hI2.tl
      have hlen := Lib.hid (tabs_len ht1 ht2 hI2.ks)
      have hnl : (List.range k).length ≤ 3000 := by rw [List.length_range]; omega
      have hA3 : wr.cell? ⟨g + 2, 0, none⟩ = some (.int .i64 (((List.range k).length : Nat) : Int)) := hI2.al.cell 0
      have hT3 : wr.cell? ⟨g + 1, 0, none⟩ = some (.map (some g)) := hI2.tb.cell 0
      have hchH := Lib.hid hI2.ch
      clear ht2 hI2
      generalize hn3 : (List.range k).length = n3 at *
      have hn3H := Lib.hid hn3
      clear hn3
      obtain ⟨m3, hm3⟩ : ∃ m3, m3 = tl.length := ⟨_, rfl⟩
      rw [← hm3] at ht3
      have hm3H := Lib.hid hm3
      go_wp2_with (first
        | (at_len; refine wpList_mlen _ rfl _ 158 rfl Tryz.underlying158 ht1 rfl m3 hm3.symm ?_; clear hm3))
      go_ret
      refine ⟨?_, by rw [hgH.out]; exact hchH.out⟩
      have hfin : n3 + m3 = cntK (List.range k) := by unfold cntK; rw [hm3H.out, ← hn3H.out, hlen.out]
      rw [← hfin]
      rfl
#print axioms pcount_nil
end Go.Proofs.YtolpcfhfcdkokaaGreatDoor
