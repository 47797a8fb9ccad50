/- Joined out of the texts Po. -/
import Derived.Test.YtolpcfhfcdkokaaGreatDoorM03
/-
  The tree in memory as a pure value: what its operations do.
-/
namespace Go.Proofs.YtolpcfhfcdkokaaGreatDoor

def firstIdx (x : ByteArray) : List ByteArray → Option Nat
  | [] => none
  | y :: r => if y = x then some 0 else (firstIdx x r).map (· + 1)
def emp : ByteArray := ⟨#[]⟩
/-- From an inode by names: where to, or the error. -/
def PT.walk (T : PT) : List ByteArray → Nat → Nat × Nat
  | [], i => (i, 0)
  | nm :: r, i => match getS i T.nodes with
    | none => (0, 999)
    | some d => if d.dir = false then (0, 113) else match getS nm d.names with
      | none => (0, 110)
      | some j => T.walk r j
def PT.isDir (T : PT) (i : Nat) : Bool := match getS i T.nodes with | some d => d.dir | none => false
/-- To the last of names: a directory; the code of the error. -/
def PT.last (T : PT) (l : List ByteArray) : Nat × Nat :=
  if l = [] then (0, 143) else
  let r := T.walk l.dropLast 1
  if r.2 = 0 ∧ T.isDir r.1 = false then (r.1, 113) else r
def lastN (l : List ByteArray) : ByteArray := l.getLastD emp
def PT.room (T : PT) (was is : Nat) : Bool := decide ((is : Int) - was ≤ (T.sectors : Int) - 1 - T.inodes - T.used)
/-- A directory's least place. -/
def PT.place (T : PT) (d : PN) : Nat × Nat :=
  match firstIdx emp d.slots with
  | some k => (k, 0)
  | none => if d.slots.length = 1068 then (0, 112) else if T.room d.count (cntK (List.range (d.slots.length + 1))) then (d.slots.length, 0) else (0, 80)
def PN.set (d : PN) (k : Nat) (nm : ByteArray) (i : Nat) : PN :=
  { d with slots := if k = d.slots.length then d.slots ++ [nm] else d.slots.set k nm, size := if k = d.slots.length then (d.slots.length + 1) * 128 else d.size, names := putS strK nm i d.names }
def PN.clear (d : PN) (nm : ByteArray) : PN :=
  { d with slots := match firstIdx nm d.slots with | some k => d.slots.set k emp | none => d.slots, names := delS nm d.names }
def PT.upd (T : PT) (i : Nat) (n : PN) : PT := { T with nodes := putS natK i n T.nodes }
def PT.del (T : PT) (i : Nat) : PT := { T with nodes := delS i T.nodes }
def PT.less (T : PT) (i : Nat) : PT := match getS i T.nodes with
  | some n => if n.links - 1 = 0 ∨ n.dir = true then T.del i else T.upd i { n with links := n.links - 1 }
  | none => T
def freeFrom (T : PT) : Nat → Nat → Nat
  | 0, _ => 0
  | f + 1, i => if T.inodes < i then 0 else if (getS i T.nodes).isSome then freeFrom T f (i + 1) else i
def PT.free (T : PT) : Nat := freeFrom T (T.inodes + 1) 2
theorem firstIdx_lt {x : ByteArray} : ∀ {l : List ByteArray} {k : Nat}, firstIdx x l = some k → k < l.length ∧ l[k]? = some x
  | [], k, h => by cases h
  | y :: r, k, h => by
    unfold firstIdx at h
    split at h
    · rename_i e
      injection h with h
      subst h
      exact ⟨by simp, by simp [e]⟩
    · cases hr : firstIdx x r with
      | none => rw [hr] at h; cases h
      | some j =>
        rw [hr] at h
        injection h with h
        subst h
        have := firstIdx_lt hr
        exact ⟨by simp; omega, by simpa using this.2⟩
theorem firstIdx_none {x : ByteArray} : ∀ {l : List ByteArray}, firstIdx x l = none ↔ ∀ y ∈ l, y ≠ x
  | [] => by simp [firstIdx]
  | y :: r => by
    unfold firstIdx
    split
    · rename_i e
      constructor
      · intro h; cases h
      · intro h; exact absurd e (h y List.mem_cons_self)
    · rename_i e
      rw [Option.map_eq_none_iff, firstIdx_none]
      simp [e]
theorem firstIdx_drop {x : ByteArray} {l : List ByteArray} : ∀ (k : Nat), (∀ j (_hj : j < k) (h : j < l.length), l[j] ≠ x) → k ≤ l.length → firstIdx x l = (firstIdx x (l.drop k)).map (· + k) := by
  induction l with
  | nil => intro k _ hk; have : k = 0 := by simpa using hk
           subst this; simp [firstIdx]
  | cons y r ih =>
    intro k h hk
    cases k with
    | zero => simp
    | succ k =>
      have hy : y ≠ x := h 0 (by omega) (by simp)
      rw [firstIdx, if_neg hy, ih k (fun j hj h' => by have := h (j + 1) (by omega) (by simp; omega); simpa using this) (by simpa using hk), List.drop_succ_cons]
      cases firstIdx x (r.drop k) with
      | none => rfl
      | some j => simp; omega
/-- What is told of an inode. -/
structure St where
  ino : Int
  kind : Int
  links : Int
  size : Int
  made : Int
  blocks : Int
def st0 : St := ⟨0, 0, 0, 0, 0, 0⟩
def PT.stat (T : PT) (i : Nat) : St := match getS i T.nodes with
  | some n => ⟨i, n.kind, n.links, n.size, n.made, n.count⟩
  | none => st0
/-- An answer. -/
structure Ans where
  code : Nat
  stat : St
  data : List UInt8
  ents : List (ByteArray × Nat × Int)
def Ans.err (c : Nat) : Ans := ⟨c, st0, [], []⟩
/-- What the last of names names: the directory, the inode; the code. -/
def PT.entry (T : PT) (l : List ByteArray) : Nat × ByteArray × Nat × Nat :=
  let r := T.last l
  if r.2 ≠ 0 then (0, emp, 0, r.2) else
  match (getS r.1 T.nodes).bind fun d => getS (lastN l) d.names with
  | none => (0, emp, 0, 110)
  | some j => (r.1, lastN l, j, 0)
def PT.clr (T : PT) (d : Nat) (nm : ByteArray) : PT := match getS d T.nodes with | some n => T.upd d (n.clear nm) | none => T
def PT.ins (T : PT) (d k : Nat) (nm : ByteArray) (i : Nat) : PT := match getS d T.nodes with | some n => T.upd d (n.set k nm i) | none => T
def PT.node (T : PT) (i : Nat) : PN := (getS i T.nodes).getD ⟨false, 0, 0, 0, [], [], []⟩
def PT.linksUp (T : PT) (i : Nat) : PT := T.upd i { T.node i with links := (T.node i).links + 1 }
def PT.unlink (T : PT) (l : List ByteArray) : PT × Nat :=
  if (T.entry l).2.2.2 ≠ 0 then (T, (T.entry l).2.2.2) else if T.isDir (T.entry l).2.2.1 = true then (T, 102) else ((T.clr (T.entry l).1 (T.entry l).2.1).less (T.entry l).2.2.1, 0)
def PT.rmdir (T : PT) (l : List ByteArray) : PT × Nat :=
  if (T.entry l).2.2.2 ≠ 0 then (T, (T.entry l).2.2.2) else if T.isDir (T.entry l).2.2.1 = false then (T, 113) else if 0 < (T.node (T.entry l).2.2.1).names.length then (T, 140) else ((T.clr (T.entry l).1 (T.entry l).2.1).less (T.entry l).2.2.1, 0)
def PT.link (T : PT) (l m : List ByteArray) : PT × Nat :=
  if (T.walk l 1).2 ≠ 0 then (T, (T.walk l 1).2) else if (T.last m).2 ≠ 0 then (T, (T.last m).2) else
  if (getS (lastN m) (T.node (T.last m).1).names).isSome then (T, 111) else if T.isDir (T.walk l 1).1 = true then (T, 102) else if (T.node (T.walk l 1).1).links = 100 then (T, 142) else
  if (T.place (T.node (T.last m).1)).2 ≠ 0 then (T, (T.place (T.node (T.last m).1)).2) else
  ((T.linksUp (T.walk l 1).1).ins (T.last m).1 (T.place (T.node (T.last m).1)).1 (lastN m) (T.walk l 1).1, 0)
/-- The node that is made. -/
def newN (dir : Bool) (made : Nat) : PN := ⟨dir, 1, 0, made, [], [], []⟩
def PT.make (T : PT) (l : List ByteArray) (dir : Bool) (made : Nat) : PT × Ans :=
  if (T.last l).2 ≠ 0 then (T, .err (T.last l).2) else if (getS (lastN l) (T.node (T.last l).1).names).isSome then (T, .err 111) else if T.free = 0 then (T, .err 81) else
  if (T.place (T.node (T.last l).1)).2 ≠ 0 then (T, .err (T.place (T.node (T.last l).1)).2) else
  (((T.upd T.free (newN dir made)).ins (T.last l).1 (T.place (T.node (T.last l).1)).1 (lastN l) T.free), ⟨0, ((T.upd T.free (newN dir made)).ins (T.last l).1 (T.place (T.node (T.last l).1)).1 (lastN l) T.free).stat T.free, [], []⟩)
/-- A directory is another one, or lies below it. -/
inductive PT.Und (T : PT) (d : Nat) : Nat → Prop where
  | here : PT.Und T d d
  | step {i k : Nat} {n : PN} {nm : ByteArray} : getS i T.nodes = some n → getS nm n.names = some k → T.isDir k = true → PT.Und T d k → PT.Und T d i
/-- Directories have ranks: whatever lies in one has a greater one. -/
def PT.Ranked (T : PT) (rk : Nat → Nat) : Prop := ∀ i n nm j, getS i T.nodes = some n → getS nm n.names = some j → T.isDir j = true → rk i < rk j
open Classical in
/-- A file, or a directory, has another name. -/
noncomputable def PT.rename (T : PT) (l m : List ByteArray) : PT × Nat :=
  if (T.last l).2 ≠ 0 then (T, (T.last l).2) else if (T.last m).2 ≠ 0 then (T, (T.last m).2) else
  match getS (lastN l) (T.node (T.last l).1).names with
  | none => (T, 110)
  | some i =>
    if (T.last l).1 = (T.last m).1 ∧ lastN l = lastN m then (T, 0) else
    if T.isDir i = true then
      if (getS (lastN m) (T.node (T.last m).1).names).isSome then (T, 111) else if T.Und (T.last m).1 i then (T, 141) else
      if (T.place (T.node (T.last m).1)).2 ≠ 0 then (T, (T.place (T.node (T.last m).1)).2) else
      ((T.ins (T.last m).1 (T.place (T.node (T.last m).1)).1 (lastN m) i).clr (T.last l).1 (lastN l), 0)
    else match getS (lastN m) (T.node (T.last m).1).names with
      | some j => if T.isDir j = true then (T, 111) else if i = j then (T, 0) else if (T.node i).links = 100 then (T, 142) else
        (((T.ins (T.last m).1 ((firstIdx (lastN m) (T.node (T.last m).1).slots).getD 0) (lastN m) i).clr (T.last l).1 (lastN l)).less j, 0)
      | none => if (T.node i).links = 100 then (T, 142) else if (T.place (T.node (T.last m).1)).2 ≠ 0 then (T, (T.place (T.node (T.last m).1)).2) else
        ((T.ins (T.last m).1 (T.place (T.node (T.last m).1)).1 (lastN m) i).clr (T.last l).1 (lastN l), 0)
/-- What the operations rely on. -/
structure PT.Wf (T : PT) : Prop where
  ok : T.Ok
  root : ∃ n, getS 1 T.nodes = some n ∧ n.dir = true
  ents : ∀ i n nm j, getS i T.nodes = some n → getS nm n.names = some j → ∃ m, getS j T.nodes = some m
  slotn : ∀ i n nm j, getS i T.nodes = some n → getS nm n.names = some j → ∃ k, firstIdx nm n.slots = some k
  lnk : ∀ i n, getS i T.nodes = some n → 1 ≤ n.links
  nemp : ∀ i n, getS i T.nodes = some n → getS emp n.names = none
  rank : ∃ rk : Nat → Nat, ∀ i n nm j, getS i T.nodes = some n → getS nm n.names = some j → T.isDir j = true → rk i < rk j
theorem PT.Ok.get {T : PT} (h : T.Ok) {i : Nat} {n : PN} (hg : getS i T.nodes = some n) : n.Ok ∧ 1 ≤ i ∧ i ≤ T.inodes := h.node _ (mem_of_getS hg)
theorem PT.Ok.upd {T : PT} (h : T.Ok) {i : Nat} {n : PN} (hn : n.Ok) (hi : 1 ≤ i ∧ i ≤ T.inodes) : (T.upd i n).Ok := by
  refine ⟨h.ris.put natK natK_tot i n, fun p hp => ?_, h.ino, h.s8, h.sec⟩
  rcases (mem_putS natK).1 hp with rfl | ⟨hp, -⟩
  · exact ⟨hn, hi⟩
  · exact h.node p hp
theorem PT.Ok.del {T : PT} (h : T.Ok) (i : Nat) : (T.del i).Ok := ⟨h.ris.del natK i, fun p hp => h.node p (mem_delS.1 hp).1, h.ino, h.s8, h.sec⟩
theorem PN.Ok.clear {n : PN} (h : n.Ok) (nm : ByteArray) : (n.clear nm).Ok := by
  refine ⟨h.keys, h.dlen, h.secs, ?_, h.links, h.size, h.made, fun p hp => h.nm p (mem_delS.1 hp).1, ?_, h.dd, fun e => ?_, ?_, ?_⟩
  · unfold PN.clear
    simp only
    split
    · rw [List.length_set]; exact h.slots
    · exact h.slots
  · have h1 : (delS nm n.names).length ≤ n.names.length := List.length_filter_le _ _
    have h2 := h.nlen
    unfold PN.clear
    simp only
    split
    · rw [List.length_set]; omega
    · omega
  · obtain ⟨h1, h2⟩ := h.df e
    unfold PN.clear
    simp only [h1, h2]
    exact ⟨by simp [firstIdx], rfl⟩
  · exact h.nris.del strK nm
  · exact h.dris
theorem PN.Ok.set {n : PN} (h : n.Ok) (hd : n.dir = true) {k : Nat} {nm : ByteArray} {j : Nat} (_hk : k ≤ n.slots.length) (hk2 : k < 1068) (hnm : nm.size ≤ 40) (hj : j ≤ 512) (hl : (putS strK nm j n.names).length ≤ (n.set k nm j).slots.length) : (n.set k nm j).Ok := by
  refine ⟨h.keys, h.dlen, h.secs, ?_, h.links, ?_, h.made, fun p hp => ?_, ?_, h.dd, fun e => ?_, h.nris.put strK strK_tot nm j, h.dris⟩
  · unfold PN.set
    simp only
    split
    · rw [List.length_append, List.length_singleton]; omega
    · rw [List.length_set]; exact h.slots
  · unfold PN.set
    simp only
    split
    · omega
    · exact h.size
  · rcases (mem_putS strK).1 hp with rfl | ⟨hp, -⟩
    · exact ⟨hnm, hj⟩
    · exact h.nm p hp
  · exact hl
  · have e' : n.dir = false := e
    rw [hd] at e'; cases e'
theorem node_of {T : PT} {i : Nat} {n : PN} (h : getS i T.nodes = some n) : T.node i = n := by unfold PT.node; rw [h]; rfl
theorem mem_of_firstIdx {x : ByteArray} {l : List ByteArray} {k : Nat} (h : firstIdx x l = some k) : x ∈ l := by
  have := (firstIdx_lt h).2
  exact List.mem_of_getElem? this
theorem firstIdx_of_mem {x : ByteArray} {l : List ByteArray} (h : x ∈ l) : ∃ k, firstIdx x l = some k := by
  cases hf : firstIdx x l with
  | some k => exact ⟨k, rfl⟩
  | none => exact absurd rfl (firstIdx_none.1 hf x h)
/-- A place that may have an entry: a new one, an empty one, or the name's own. -/
def PN.Fit (n : PN) (k : Nat) (nm : ByteArray) : Prop := (k = n.slots.length ∧ n.slots.length < 1068) ∨ (k < n.slots.length ∧ n.slots[k]? = some emp) ∨ ((getS nm n.names).isSome = true ∧ n.slots[k]? = some nm)
theorem PN.Fit.le {n : PN} {k : Nat} {nm : ByteArray} (h : n.Fit k nm) : k ≤ n.slots.length := by
  rcases h with h | h | h
  · omega
  · omega
  · have := (List.getElem?_eq_some_iff.1 h.2).1; omega
theorem PN.Fit.lt {n : PN} {k : Nat} {nm : ByteArray} (h : n.Fit k nm) (hn : n.Ok) : k < 1068 := by
  have := hn.slots
  rcases h with h | h | h
  · omega
  · omega
  · have := (List.getElem?_eq_some_iff.1 h.2).1; omega
theorem fit_place {T : PT} {n : PN} (hn : n.Ok) {nm : ByteArray} (h : (T.place n).2 = 0) : n.Fit (T.place n).1 nm := by
  have hs := hn.slots
  unfold PT.place at h ⊢
  cases hf : firstIdx emp n.slots with
  | some k => exact .inr (.inl (firstIdx_lt hf))
  | none =>
    rw [hf] at h
    simp only at h ⊢
    split
    · rename_i h1; rw [if_pos h1] at h; cases h
    · rename_i h1
      rw [if_neg h1] at h
      split
      · exact .inl ⟨rfl, by omega⟩
      · rename_i h2; rw [if_neg h2] at h; cases h
theorem set_ok {T : PT} (hT : T.Wf) {d : Nat} {n : PN} (hg : getS d T.nodes = some n) (hd : n.dir = true) {k j : Nat} {nm : ByteArray} (hf : n.Fit k nm) (hs : nm.size ≤ 40) (hj : j ≤ 512) : (n.set k nm j).Ok := by
  have hn := (hT.ok.get hg).1
  refine hn.set hd hf.le (hf.lt hn) hs hj ?_
  have hrn := hn.nris
  have hl := hn.nlen
  have hput := length_put_le strK nm j n.names
  rcases hf with ⟨rfl, -⟩ | ⟨h1, h2⟩ | ⟨h1, h2⟩
  · simp only [PN.set, if_true, List.length_append, List.length_singleton]
    omega
  · simp only [PN.set, if_neg (Nat.ne_of_lt h1), List.length_set]
    have hlt : n.names.length ≤ (n.slots.eraseIdx k).length := by
      have e : (n.names.map (·.1)).length = n.names.length := List.length_map _
      rw [← e]
      refine length_le_of_subset (ris_keys hrn) fun x hx => ?_
      have hx' := mem_keys.1 hx
      cases hgx : getS x n.names with
      | none => rw [hgx] at hx'; cases hx'
      | some u =>
        obtain ⟨q, hq⟩ := hT.slotn d n x u hg hgx
        have hq' := firstIdx_lt hq
        have hne : q ≠ k := fun e => by
          subst e
          have := Option.some.inj (hq'.2.symm.trans h2)
          rw [this, hT.nemp d n hg] at hgx
          cases hgx
        rw [List.mem_eraseIdx_iff_getElem?]
        exact ⟨q, hne, hq'.2⟩
    rw [List.length_eraseIdx, if_pos h1] at hlt
    omega
  · have hlt := (List.getElem?_eq_some_iff.1 h2).1
    simp only [PN.set, if_neg (Nat.ne_of_lt hlt), List.length_set]
    have : (putS strK nm j n.names).length ≤ n.names.length := by
      unfold putS
      rw [length_insS]
      have hm : nm ∈ n.names.map (·.1) := mem_keys.2 h1
      have : (delS nm n.names).length < n.names.length := by
        unfold delS
        rcases Nat.lt_or_ge (List.filter (fun p => decide (p.1 ≠ nm)) n.names).length n.names.length with h | h
        · exact h
        · have hle := List.length_filter_le (fun p : ByteArray × Nat => decide (p.1 ≠ nm)) n.names
          have heq := List.length_filter_eq_length_iff.1 (Nat.le_antisymm hle h)
          obtain ⟨p, hp, e⟩ := List.mem_map.1 hm
          have := heq p hp
          simp [e] at this
      omega
    omega
theorem firstIdx_set {x y : ByteArray} : ∀ {l : List ByteArray} {k q : Nat}, firstIdx x l = some q → y ≠ x → l[k]? ≠ some x → firstIdx x (l.set k y) = some q
  | [], _, _, h, _, _ => by cases h
  | z :: r, 0, q, h, hy, hk => by
    unfold firstIdx at h
    have hz : z ≠ x := fun e => hk (by simp [e])
    rw [if_neg hz] at h
    rw [List.set_cons_zero, firstIdx, if_neg hy]
    exact h
  | z :: r, k + 1, q, h, hy, hk => by
    unfold firstIdx at h
    rw [List.set_cons_succ, firstIdx]
    split
    · rename_i e; rw [if_pos e] at h; exact h
    · rename_i e
      rw [if_neg e] at h
      cases hr : firstIdx x r with
      | none => rw [hr] at h; cases h
      | some j =>
        rw [hr] at h
        rw [firstIdx_set hr hy (by simpa using hk)]
        exact h
theorem firstIdx_snoc {x y : ByteArray} : ∀ {l : List ByteArray} {q : Nat}, firstIdx x l = some q → firstIdx x (l ++ [y]) = some q
  | [], _, h => by cases h
  | z :: r, q, h => by
    unfold firstIdx at h
    rw [List.cons_append, firstIdx]
    split
    · rename_i e; rw [if_pos e] at h; exact h
    · rename_i e
      rw [if_neg e] at h
      cases hr : firstIdx x r with
      | none => rw [hr] at h; cases h
      | some j =>
        rw [hr] at h
        rw [firstIdx_snoc hr]
        exact h
/-- Another name's place stays. -/
theorem set_keeps {n : PN} {k j q : Nat} {nm x : ByteArray} (hf : n.Fit k nm) (hne : nm ≠ x) (hx : x ≠ emp) (hq : firstIdx x n.slots = some q) : firstIdx x (n.set k nm j).slots = some q := by
  unfold PN.set
  simp only
  split
  · exact firstIdx_snoc hq
  · refine firstIdx_set hq hne fun e => ?_
    rcases hf with ⟨h, -⟩ | ⟨-, h⟩ | ⟨-, h⟩
    · exact absurd h (by assumption)
    · rw [h] at e; exact hx (Option.some.inj e).symm
    · rw [h] at e; exact hne (Option.some.inj e)
#print axioms firstIdx_drop
end Go.Proofs.YtolpcfhfcdkokaaGreatDoor
