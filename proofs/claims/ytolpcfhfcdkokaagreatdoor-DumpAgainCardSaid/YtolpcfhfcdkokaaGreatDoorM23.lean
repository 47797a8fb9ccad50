/- Joined out of the texts QPath, QDo, ReadLaw. -/
import Derived.Lib.SplitLaws
import Derived.Test.YtolpcfhfcdkokaaGreatDoorM06
import Derived.Test.YtolpcfhfcdkokaaGreatDoorM18
import Derived.Test.YtolpcfhfcdkokaaGreatDoorM22
/-
  Paths and their names: the pure law.
-/
namespace Go.Proofs.YtolpcfhfcdkokaaGreatDoor

def slash : ByteArray := ⟨#[47]⟩
def spB (p : ByteArray) : ByteArray := p.extract 1 p.size
/-- A path's names; the code. -/
def spl (p : ByteArray) : List ByteArray × Nat :=
  if 400 < p.size ∨ Lib.hasPrefix p.data.toList [47] = false then ([], 70) else if p = slash then ([], 0) else if Lib.hasSuffix p.data.toList [47] = true ∨ Lib.contains p.data.toList [47, 47] = true then ([], 70) else
  if (Lib.splitB slash 0 (Lib.countB (spB p) slash) (spB p)).all chk = true then (Lib.splitB slash 0 (Lib.countB (spB p) slash) (spB p), 0) else ([], 71)
theorem spl_chk (p : ByteArray) : ∀ x ∈ (spl p).1, chk x = true := by
  unfold spl
  split
  · intro x hx; cases hx
  split
  · intro x hx; cases hx
  split
  · intro x hx; cases hx
  split
  · rename_i h; exact List.all_eq_true.1 h
  · intro x hx; cases hx
/-- The path of names. -/
def pthL : List ByteArray → List UInt8
  | [] => []
  | n :: r => 47 :: (n.data.toList ++ pthL r)
def pth (ns : List ByteArray) : ByteArray := if ns = [] then slash else ⟨(pthL ns).toArray⟩
theorem pthL_append (a b : List ByteArray) : pthL (a ++ b) = pthL a ++ pthL b := by
  induction a with
  | nil => rfl
  | cons n r ih => simp [pthL, ih]
theorem chk_47 {x : ByteArray} (h : chk x = true) : (47 : UInt8) ∉ x.data.toList := by
  unfold chk at h
  intro h1
  exact ((of_decide_eq_true h).2.2.2.2 47 h1).2 rfl
theorem chk_pos {x : ByteArray} (h : chk x = true) : 0 < x.data.toList.length := by
  unfold chk at h
  have := (of_decide_eq_true h).1
  rw [Array.length_toList]
  exact this
theorem pth_data {ns : List ByteArray} (h : ns ≠ []) : (pth ns).data.toList = pthL ns := by unfold pth; rw [if_neg h]
theorem pth_size {ns : List ByteArray} (h : ns ≠ []) : (pth ns).size = (pthL ns).length := by unfold pth; rw [if_neg h]; simp [ByteArray.size]
theorem pthL_len : ∀ {ns : List ByteArray}, (∀ x ∈ ns, chk x = true) → 2 * ns.length ≤ (pthL ns).length
  | [], _ => Nat.le_refl _
  | n :: r, h => by
    have h1 := chk_pos (h n List.mem_cons_self)
    have h2 := pthL_len (ns := r) fun x hx => h x (List.mem_cons_of_mem _ hx)
    simp only [pthL, List.length_cons, List.length_append]
    omega
theorem pth_ne {ns : List ByteArray} (h : ns ≠ []) (hc : ∀ x ∈ ns, chk x = true) : pth ns ≠ slash := fun e => by
  have h1 := pthL_len hc
  have h2 := List.length_pos_iff.2 h
  have h3 := pth_size h
  rw [e] at h3
  have h4 : slash.size = 1 := rfl
  omega
theorem pth_ne_emp (ns : List ByteArray) : pth ns ≠ emp := fun e => by
  unfold pth at e
  split at e
  · exact absurd e (by decide)
  · rename_i h
    cases ns with
    | nil => exact h rfl
    | cons n r =>
      have e2 : (pthL (n :: r)).toArray = #[] := congrArg ByteArray.data e
      have e3 : (pthL (n :: r)) = [] := congrArg Array.toList e2
      rw [pthL] at e3
      cases e3
/-- A path with a name behind it. -/
def undP (p nm : ByteArray) : ByteArray := (if p = slash then emp else p) ++ slash ++ nm
theorem ba_ext {a b : ByteArray} (h : a.data.toList = b.data.toList) : a = b := ba_ext1 h
theorem undP_pth {ns : List ByteArray} (hc : ∀ x ∈ ns, chk x = true) (nm : ByteArray) : undP (pth ns) nm = pth (ns ++ [nm]) := by
  apply ba_ext
  rw [pth_data (by simp), pthL_append]
  unfold undP
  by_cases h : ns = []
  · subst h
    simp [pth, pthL, emp, slash]
  · rw [if_neg (pth_ne h hc)]
    simp only [ByteArray.data_append, Array.toList_append, pth_data h, List.append_assoc]
    simp [pthL, slash]

/-! ### Split of a path of names -/
theorem index_miss47 : ∀ {a : List UInt8}, (47 : UInt8) ∉ a → Lib.index a [47] = -1
  | [], _ => rfl
  | b :: l, h => by
    have hb : (47 : UInt8) ≠ b := fun e => h (by rw [e]; exact List.mem_cons_self)
    have hp : ([47] : List UInt8).isPrefixOf (b :: l) = false := by simp [List.isPrefixOf, hb]
    have ih := index_miss47 (a := l) fun e => h (List.mem_cons_of_mem _ e)
    unfold Lib.index
    rw [hp, ih]
    rfl
theorem index_at47 (r : List UInt8) : ∀ {a : List UInt8}, (47 : UInt8) ∉ a → Lib.index (a ++ 47 :: r) [47] = (a.length : Nat)
  | [], _ => by
    rw [List.nil_append]
    unfold Lib.index
    rw [if_pos (by simp [List.isPrefixOf])]
    rfl
  | b :: l, h => by
    have hb : (47 : UInt8) ≠ b := fun e => h (by rw [e]; exact List.mem_cons_self)
    have hp : ([47] : List UInt8).isPrefixOf (b :: (l ++ 47 :: r)) = false := by simp [List.isPrefixOf, hb]
    have ih := index_at47 r (a := l) fun e => h (List.mem_cons_of_mem _ e)
    rw [List.cons_append]
    unfold Lib.index
    rw [hp, ih]
    have h1 : ((l.length : Int) == -1) = false := by rw [beq_eq_false_iff_ne]; omega
    simp [h1]
theorem count47 : ∀ {r : List ByteArray}, (∀ x ∈ r, chk x = true) → (pthL r).count 47 = r.length
  | [], _ => rfl
  | n :: r, h => by
    rw [pthL, List.count_cons_self, List.count_append, count47 (fun x hx => h x (List.mem_cons_of_mem _ hx)), List.count_eq_zero_of_not_mem (chk_47 (h n List.mem_cons_self))]
    simp
theorem splitK_pth : ∀ (r : List ByteArray) (a : ByteArray), chk a = true → (∀ x ∈ r, chk x = true) → Lib.splitK [47] 0 r.length (a.data.toList ++ pthL r) = a.data.toList :: r.map (·.data.toList)
  | [], a, _, _ => by simp [pthL, Lib.splitK]
  | b :: r, a, ha, h => by
    have hi := index_at47 (b.data.toList ++ pthL r) (chk_47 ha)
    have ih := splitK_pth r b (h b List.mem_cons_self) fun x hx => h x (List.mem_cons_of_mem _ hx)
    have hm : ¬ (Lib.index (a.data.toList ++ 47 :: (b.data.toList ++ pthL r)) [47] == -1) = true := fun e => by
      have := beq_iff_eq.1 e
      rw [hi] at this
      omega
    rw [pthL, List.length_cons, Lib.splitK, if_neg hm, hi]
    simp only [Int.toNat_natCast, Nat.add_zero, List.length_cons, List.length_nil, Nat.zero_add]
    rw [List.take_left, show a.data.toList ++ 47 :: (b.data.toList ++ pthL r) = (a.data.toList ++ [47]) ++ (b.data.toList ++ pthL r) by simp, show a.data.toList.length + 1 = (a.data.toList ++ [47]).length by simp, List.drop_left, ih]
    rfl
/-- No two slashes side by side. -/
def nd : List UInt8 → Bool
  | [] => true
  | x :: r => !(x == 47 && r.head? == some 47) && nd r
theorem index_nd : ∀ {s : List UInt8}, nd s = true → Lib.index s [47, 47] = -1
  | [], _ => rfl
  | b :: l, h => by
    rw [nd, Bool.and_eq_true] at h
    have ih := index_nd h.2
    have hp : ([47, 47] : List UInt8).isPrefixOf (b :: l) = false := by
      have h1 := h.1
      cases l with
      | nil => simp [List.isPrefixOf]
      | cons c l =>
        simp only [List.isPrefixOf, List.head?_cons, Bool.and_true] at h1 ⊢
        revert h1
        by_cases e1 : b = 47 <;> by_cases e2 : c = 47 <;> simp [e1, e2, Ne.symm] <;> exact fun e => e1 e.symm
    unfold Lib.index
    rw [hp, ih]
    rfl
theorem nd_app : ∀ {a s : List UInt8}, (47 : UInt8) ∉ a → nd s = true → nd (a ++ s) = true
  | [], _, _, h => h
  | b :: l, s, h1, h => by
    have hb : b ≠ 47 := fun e => h1 (by rw [e]; exact List.mem_cons_self)
    rw [List.cons_append, nd, nd_app (fun e => h1 (List.mem_cons_of_mem _ e)) h]
    simp [hb]
theorem nd_pth : ∀ {r : List ByteArray}, (∀ x ∈ r, chk x = true) → nd (pthL r) = true
  | [], _ => rfl
  | n :: r, h => by
    have h1 := h n List.mem_cons_self
    have ih := nd_pth (r := r) fun x hx => h x (List.mem_cons_of_mem _ hx)
    rw [pthL, nd, nd_app (chk_47 h1) ih]
    have h2 := chk_pos h1
    have h3 := chk_47 h1
    cases hl : n.data.toList with
    | nil => rw [hl] at h2; simp at h2
    | cons x t =>
      rw [hl] at h3
      have : x ≠ 47 := fun e => h3 (by rw [e]; exact List.mem_cons_self)
      simp [this]
theorem last_pth : ∀ {r : List ByteArray}, r ≠ [] → (∀ x ∈ r, chk x = true) → ∃ x t, pthL r = t ++ [x] ∧ x ≠ 47
  | [], h, _ => absurd rfl h
  | n :: r, _, h => by
    by_cases hr : r = []
    · subst hr
      have h1 := chk_pos (h n List.mem_cons_self)
      have h2 := chk_47 (h n List.mem_cons_self)
      have hne : n.data.toList ≠ [] := List.ne_nil_of_length_pos h1
      refine ⟨n.data.toList.getLast hne, 47 :: n.data.toList.dropLast, ?_, fun e => h2 (by rw [← e]; exact List.getLast_mem hne)⟩
      simp only [pthL, List.append_nil, List.cons_append]
      rw [List.dropLast_concat_getLast]
    · obtain ⟨x, t, h1, h2⟩ := last_pth hr fun x hx => h x (List.mem_cons_of_mem _ hx)
      exact ⟨x, 47 :: (n.data.toList ++ t), by simp [pthL, h1], h2⟩
theorem map_data_inj : ∀ {a b : List ByteArray}, a.map (·.data.toList) = b.map (·.data.toList) → a = b
  | [], [], _ => rfl
  | [], _ :: _, h => by simp at h
  | _ :: _, [], h => by simp at h
  | x :: a, y :: b, h => by
    simp only [List.map_cons, List.cons.injEq] at h
    rw [ba_ext h.1, map_data_inj h.2]
theorem spl_root : spl slash = ([], 0) := by
  unfold spl
  rw [if_neg, if_pos rfl]
  rintro (h | h)
  · exact absurd h (by decide)
  · exact absurd h (by decide)
theorem spl_long {p : ByteArray} (h : 400 < p.size) : spl p = ([], 70) := by unfold spl; rw [if_pos (.inl h)]
theorem spl_pth {ns : List ByteArray} (hc : ∀ x ∈ ns, chk x = true) (hs : (pth ns).size ≤ 400) : spl (pth ns) = (ns, 0) := by
  cases ns with
  | nil => exact spl_root
  | cons a r =>
    have hne : a :: r ≠ [] := by simp
    have hd := pth_data hne
    have ha := hc a List.mem_cons_self
    have hr : ∀ x ∈ r, chk x = true := fun x hx => hc x (List.mem_cons_of_mem _ hx)
    have hB : (spB (pth (a :: r))).data.toList = a.data.toList ++ pthL r := by
      unfold spB
      rw [Lib.extract_to_end, hd]
      rfl
    have hK : Lib.splitB slash 0 (Lib.countB (spB (pth (a :: r))) slash) (spB (pth (a :: r))) = a :: r := by
      apply map_data_inj
      rw [Lib.splitB_data]
      unfold Lib.countB
      rw [hB]
      show Lib.splitK [47] 0 (Lib.count _ [47]) _ = _
      rw [Lib.count_one, List.count_append, count47 hr, List.count_eq_zero_of_not_mem (chk_47 ha), Nat.zero_add, splitK_pth r a ha hr]
      rfl
    unfold spl
    rw [if_neg, if_neg (pth_ne hne hc), if_neg, hK, if_pos (List.all_eq_true.2 hc)]
    · rw [hd]
      rintro (h | h)
      · obtain ⟨x, t, h1, h2⟩ := last_pth hne hc
        rw [h1] at h
        unfold Lib.hasSuffix at h
        rw [List.isSuffixOf_iff_suffix] at h
        obtain ⟨u, hu⟩ := h
        have := congrArg List.getLast? hu
        simp at this
        exact h2 this.symm
      · unfold Lib.contains at h
        rw [index_nd (nd_pth hc)] at h
        exact absurd h (by decide)
    · rw [hd]
      rintro (h | h)
      · omega
      · unfold Lib.hasPrefix at h
        simp [pthL, List.isPrefixOf] at h
#print axioms spl_pth
end Go.Proofs.YtolpcfhfcdkokaaGreatDoor
/-
  What an operation does with a tree in memory: the pure law.
-/
namespace Go.Proofs.YtolpcfhfcdkokaaGreatDoor

/-- An operation. -/
structure Opn where
  kind : Int
  path : ByteArray
  dst : ByteArray
  off : Int
  len : Int
  data : List UInt8
  made : Int
  pick : Int
def useP (k : Int) : Bool := decide (1 ≤ k ∧ k ≤ 11 ∨ k = 13)
def useT (k : Int) : Bool := decide (k = 3 ∨ k = 6)
def useO (k : Int) : Bool := decide (k = 7 ∨ k = 8 ∨ k = 9)
def useL (k : Int) : Bool := decide (k = 9)
def useD (k : Int) : Bool := decide (k = 7)
def useM (k : Int) : Bool := decide (k = 1 ∨ k = 2)
def useF (k : Int) : Bool := decide (k = 14)
/-- May an operation be? -/
def Opn.fine (o : Opn) : Bool :=
  decide (1 ≤ o.kind ∧ o.kind ≤ 14 ∧ 0 ≤ o.made ∧ o.made ≤ 1099511627776 ∧ (useP o.kind = true ∨ o.path = emp) ∧ (useT o.kind = true ∨ o.dst = emp) ∧ (useO o.kind = true ∨ o.off = 0) ∧ (useL o.kind = true ∨ o.len = 0) ∧ (useD o.kind = true ∨ o.data.length = 0) ∧ (useM o.kind = true ∨ o.made = 0) ∧ (useF o.kind = true ∨ o.pick = 0))
/-- What is done with an inode. -/
def PT.asks (T : PT) (o : Opn) (i : Nat) : PT × Ans :=
  if o.kind = 10 then (T, ⟨0, T.stat i, [], []⟩) else if o.kind = 11 then (T, T.list i) else if T.isDir i = true then (T, .err 102) else
  if o.kind = 7 then ((T.write i o.off o.data).1, .err (T.write i o.off o.data).2) else if o.kind = 8 then ((T.trunc i o.off).1, .err (T.trunc i o.off).2) else if o.kind = 9 then (T, (T.node i).read o.off o.len) else (T, .err 0)
/-- What is done with names. -/
noncomputable def PT.does (T : PT) (o : Opn) (l m : List ByteArray) : PT × Ans :=
  if o.kind = 1 then T.make l false o.made.toNat else if o.kind = 2 then T.make l true o.made.toNat else if o.kind = 3 then ((T.link l m).1, .err (T.link l m).2) else
  if o.kind = 4 then ((T.unlink l).1, .err (T.unlink l).2) else if o.kind = 5 then ((T.rmdir l).1, .err (T.rmdir l).2) else if o.kind = 6 then ((T.rename l m).1, .err (T.rename l m).2) else
  if o.kind = 12 ∨ o.kind = 14 then (T, .err 0) else if (T.walk l 1).2 ≠ 0 then (T, .err (T.walk l 1).2) else T.asks o (T.walk l 1).1
/-- An answer that is an error says nothing else. -/
def Ans.told (a : Ans) : Ans := if a.code = 0 then a else .err a.code
/-- The codes of an operation's paths. -/
def Opn.code1 (o : Opn) : Nat := if o.kind = 12 ∨ o.kind = 14 then 0 else (spl o.path).2
def Opn.code2 (o : Opn) : Nat := if o.kind = 3 ∨ o.kind = 6 then (spl o.dst).2 else 0
def Opn.from_ (o : Opn) : List ByteArray := if o.kind = 12 ∨ o.kind = 14 then [] else (spl o.path).1
def Opn.to_ (o : Opn) : List ByteArray := if o.kind = 3 ∨ o.kind = 6 then (spl o.dst).1 else []
noncomputable def PT.run (T : PT) (o : Opn) : PT × Ans :=
  if o.fine = false then (T, .err 150) else if o.code1 ≠ 0 then (T, .err o.code1) else if o.code2 ≠ 0 then (T, .err o.code2) else ((T.does o o.from_ o.to_).1, (T.does o o.from_ o.to_).2.told)
theorem from_chk (o : Opn) : ∀ x ∈ o.from_, chk x = true := by
  unfold Opn.from_
  split
  · intro x hx; cases hx
  · exact spl_chk _
theorem to_chk (o : Opn) : ∀ x ∈ o.to_, chk x = true := by
  unfold Opn.to_
  split
  · exact spl_chk _
  · intro x hx; cases hx
theorem inv_asks {T : PT} (h : T.Inv) (o : Opn) {i : Nat} {n : PN} (hg : getS i T.nodes = some n) : (T.asks o i).1.Inv := by
  unfold PT.asks
  split
  · exact h
  split
  · exact h
  split
  · exact h
  rename_i hd
  rw [isDir_of hg] at hd
  have hd : n.dir = false := by simpa using hd
  split
  · exact inv_write h hg hd _ _
  split
  · exact inv_trunc h hg hd _
  split <;> exact h
theorem inv_does {T : PT} (h : T.Inv) (o : Opn) (hf : o.fine = true) (l m : List ByteArray) (hl : ∀ x ∈ l, chk x = true) (hm : ∀ x ∈ m, chk x = true) : (T.does o l m).1.Inv := by
  have hmade : o.made.toNat ≤ 1099511627776 := by
    unfold Opn.fine at hf
    have := (of_decide_eq_true hf).2.2.2.1
    omega
  unfold PT.does
  split
  · exact inv_make h _ _ _ hmade hl
  split
  · exact inv_make h _ _ _ hmade hl
  split
  · exact inv_link h _ _ hm
  split
  · exact inv_unlink h _
  split
  · exact inv_rmdir h _
  split
  · exact inv_rename h _ _ hm
  split
  · exact h
  split
  · exact h
  rename_i h0
  obtain ⟨n, hn⟩ := walk_stays h.wf l 1 (let ⟨n, h, _⟩ := h.wf.root; ⟨n, h⟩) (by simpa using h0)
  exact inv_asks h o hn
/-- What always holds, holds behind any operation. -/
theorem inv_run {T : PT} (h : T.Inv) (o : Opn) : (T.run o).1.Inv := by
  unfold PT.run
  split
  · exact h
  rename_i hf
  split
  · exact h
  split
  · exact h
  exact inv_does h o (by simpa using hf) _ _ (from_chk o) (to_chk o)
/-- The empty tree. -/
def PT.new (n m : Nat) : PT := ⟨n, m, [(1, ⟨true, 1, 0, 0, [], [], []⟩)]⟩
theorem inv_new {n m : Nat} (h1 : 8 ≤ n ∧ n ≤ 4096) (h2 : 1 ≤ m ∧ m ≤ 512) (h3 : m + 2 ≤ n) : (PT.new n m).Inv := by
  have hg : ∀ {i x}, getS i (PT.new n m).nodes = some x → i = 1 ∧ x = ⟨true, 1, 0, 0, [], [], []⟩ := fun {i x} h => by
    unfold PT.new at h
    simp only [getS] at h
    split at h
    · rename_i e; exact ⟨e.symm, (Option.some.inj h).symm⟩
    · cases h
  have hnm : ∀ {i x nm j}, getS i (PT.new n m).nodes = some x → getS nm x.names = some j → False := fun {i x nm j} h h' => by
    obtain ⟨_, rfl⟩ := hg h
    cases h'
  have hr : ∀ j, (PT.new n m).refs j = 0 := fun j => rfl
  refine ⟨⟨⟨?_, fun p hp => ?_, h2.2, h1.1, h1.2⟩, ⟨_, rfl, rfl⟩, fun i x nm j h h' => (hnm h h').elim, fun i x nm j h h' => (hnm h h').elim, ⟨fun _ => 0, fun i x nm j h h' => (hnm h h').elim⟩, fun i x nm j h h' => (hnm h h').elim, hr 1⟩, fun j x h => ?_, ?_⟩
  · exact List.pairwise_singleton _ _
  · have : p = (1, ⟨true, 1, 0, 0, [], [], []⟩) := by simpa [PT.new] using hp
    subst this
    refine ⟨⟨by simp, by simp, by simp, by simp, by simp, by simp, by simp, by simp, by simp, fun _ => rfl, fun e => (by cases e), List.Pairwise.nil, List.Pairwise.nil⟩, Nat.le_refl _, h2.1⟩
  · obtain ⟨rfl, rfl⟩ := hg h
    exact ⟨Nat.le_refl _, fun _ => rfl, fun e => absurd rfl e⟩
  · show 0 + m + 1 ≤ n
    omega
#print axioms inv_run
end Go.Proofs.YtolpcfhfcdkokaaGreatDoor
/-
  dump.Read in plain words: nodes taken off bytes, one behind the other.
-/
namespace Go.Proofs.YtolpcfhfcdkokaaGreatDoor
open Go.RowKit

/-- A node's content, wherever its bytes lie. -/
structure Pn where
  path : List UInt8
  kind : Nat
  made : Nat
  same : List UInt8
  data : List UInt8

/-- What is left behind each of a node's numbers and texts. -/
def s1 (o : Option (List UInt8)) : Option (List UInt8) := numO 1 2 o
def s2 (o : Option (List UInt8)) : Option (List UInt8) := numO 8 1099511627776 (s1 o)
def s3 (o : Option (List UInt8)) : Option (List UInt8) := numO 4 400 (s2 o)
def s4 (o : Option (List UInt8)) : Option (List UInt8) := takeO (numX 4 400 (s2 o)) (s3 o)
def s5 (o : Option (List UInt8)) : Option (List UInt8) := numO 4 400 (s4 o)
def s6 (o : Option (List UInt8)) : Option (List UInt8) := takeO (numX 4 400 (s4 o)) (s5 o)
def s7 (o : Option (List UInt8)) : Option (List UInt8) := numO 4 136704 (s6 o)
def s8 (o : Option (List UInt8)) : Option (List UInt8) := takeO (numX 4 136704 (s6 o)) (s7 o)
/-- The node at the head of bytes; what is left behind it. -/
def rdN (o : Option (List UInt8)) : Pn :=
  ⟨takeX (numX 4 400 (s2 o)) (s3 o), numX 1 2 o, numX 8 1099511627776 (s1 o), takeX (numX 4 400 (s4 o)) (s5 o), takeX (numX 4 136704 (s6 o)) (s7 o)⟩
def rdO (o : Option (List UInt8)) : Option (List UInt8) := if numX 1 2 o = 0 then none else s8 o
/-- All nodes of bytes; none: they are bad. -/
def readL : Nat → Option (List UInt8) → Option (List Pn)
  | _, none => none
  | _, some [] => some []
  | 0, some (_ :: _) => none
  | f + 1, some (x :: r) => (readL f (rdO (some (x :: r)))).map (rdN (some (x :: r)) :: ·)

theorem numX_le (k most : Nat) (o : Option (List UInt8)) : numX k most o ≤ most := by
  unfold numX
  split <;> omega
theorem takeO_some {k : Nat} {o : Option (List UInt8)} {r' : List UInt8} (h : takeO k o = some r') : ∃ r, o = some r ∧ k ≤ r.length ∧ takeX k o = r.take k ∧ r' = r.drop k := by
  cases o with
  | none => cases h
  | some r =>
    have h' : (if r.length < k then none else some (r.drop k)) = some r' := h
    by_cases hk : r.length < k
    · rw [if_pos hk] at h'; cases h'
    · rw [if_neg hk] at h'
      injection h' with h'
      exact ⟨r, rfl, by omega, if_neg hk, h'.symm⟩
theorem numO_some {k most : Nat} {o : Option (List UInt8)} {r' : List UInt8} (h : numO k most o = some r') :
    ∃ r, o = some r ∧ k ≤ r.length ∧ numL (r.take k) ≤ most ∧ numX k most o = numL (r.take k) ∧ r' = r.drop k := by
  unfold numO at h
  by_cases hm : numL (takeX k o) ≤ most
  · rw [if_pos hm] at h
    obtain ⟨r, e1, e2, e3, e4⟩ := takeO_some h
    refine ⟨r, e1, e2, by rw [← e3]; exact hm, ?_, e4⟩
    unfold numX
    rw [if_pos hm, e3]
  · rw [if_neg hm] at h; cases h

theorem lowB_numL : ∀ l : List UInt8, lowB (numL l) l.length = l := by
  intro l
  induction l with
  | nil => rfl
  | cons x xs ih =>
    have hx : x.toNat < 256 := x.toNat_lt
    simp only [List.length_cons, lowB, numL]
    have e1 : ((x.toNat + 256 * numL xs : Nat) : Int) % 256 = x.toNat := by omega
    have e2 : ((x.toNat + 256 * numL xs : Nat) : Int) / 256 = numL xs := by omega
    rw [e1, e2, ih]
    congr 1
    simp

/-- A node's bytes, out of its content. -/
def encP (p : Pn) : List UInt8 :=
  UInt8.ofNat p.kind :: (lowB p.made 8 ++ (lowB p.path.length 4 ++ (p.path ++ (lowB p.same.length 4 ++ (p.same ++ (lowB p.data.length 4 ++ p.data))))))
def pnOk (p : Pn) : Prop := (p.kind = 1 ∨ p.kind = 2) ∧ p.made ≤ 1099511627776 ∧ p.path.length ≤ 400 ∧ p.same.length ≤ 400 ∧ p.data.length ≤ 136704
def ndP (x : Nd) : Pn := ⟨x.path.data.toList, x.kind.toNat, x.made.toNat, x.same.data.toList, x.data⟩
theorem encP_length (p : Pn) : (encP p).length = 21 + p.path.length + p.same.length + p.data.length := by
  simp only [encP, List.length_cons, List.length_append, lowB_length]
  omega
theorem encP_ndP (x : Nd) (h : ndOk x) : encP (ndP x) = enc1 x := by
  obtain ⟨hk, hm, _⟩ := h
  have h1 : (x.path.data.toList.length : Int) = x.path.size := by rw [Array.length_toList]; rfl
  have h2 : (x.same.data.toList.length : Int) = x.same.size := by rw [Array.length_toList]; rfl
  have h3 : (x.kind % 256).toNat = x.kind.toNat := by omega
  have h4 : ((x.made.toNat : Nat) : Int) = x.made := by omega
  simp only [encP, enc1, ndP, h1, h2, h3, h4]
theorem pnOk_ndP (x : Nd) (h : ndOk x) : pnOk (ndP x) := by
  obtain ⟨hk, hm, hm2, h3, h4, h5⟩ := h
  have h1 : x.path.data.toList.length = x.path.size := by rw [Array.length_toList]; rfl
  have h2 : x.same.data.toList.length = x.same.size := by rw [Array.length_toList]; rfl
  refine ⟨?_, ?_, by simp only [ndP]; omega, by simp only [ndP]; omega, h5⟩
  · simp only [ndP]; omega
  · simp only [ndP]; omega

/-- Bytes that begin with a node's are read as that node, and the rest is left. -/
theorem rd_enc (p : Pn) (hp : pnOk p) (r : List UInt8) : rdN (some (encP p ++ r)) = p ∧ rdO (some (encP p ++ r)) = some r := by
  obtain ⟨hk, hm, h1, h2, h3⟩ := hp
  have e0 : encP p ++ r = lowB p.kind 1 ++ (lowB p.made 8 ++ (lowB p.path.length 4 ++ (p.path ++ (lowB p.same.length 4 ++ (p.same ++ (lowB p.data.length 4 ++ (p.data ++ r))))))) := by
    have : lowB p.kind 1 = [UInt8.ofNat p.kind] := by
      show [UInt8.ofNat (((p.kind : Nat) : Int) % 256).toNat] = _
      congr 2
      omega
    rw [this]
    simp [encP]
  rw [e0]
  obtain ⟨a1, b1⟩ := num_lay p.kind 1 2 (lowB p.made 8 ++ (lowB p.path.length 4 ++ (p.path ++ (lowB p.same.length 4 ++ (p.same ++ (lowB p.data.length 4 ++ (p.data ++ r))))))) (by omega) (by simp; omega) (by omega)
  obtain ⟨a2, b2⟩ := num_lay p.made 8 1099511627776 (lowB p.path.length 4 ++ (p.path ++ (lowB p.same.length 4 ++ (p.same ++ (lowB p.data.length 4 ++ (p.data ++ r)))))) (by omega) (by simp; omega) (by omega)
  obtain ⟨a3, b3⟩ := num_lay p.path.length 4 400 (p.path ++ (lowB p.same.length 4 ++ (p.same ++ (lowB p.data.length 4 ++ (p.data ++ r))))) (by omega) (by simp; omega) (by omega)
  obtain ⟨a4, b4⟩ := take_lay p.path (lowB p.same.length 4 ++ (p.same ++ (lowB p.data.length 4 ++ (p.data ++ r))))
  obtain ⟨a5, b5⟩ := num_lay p.same.length 4 400 (p.same ++ (lowB p.data.length 4 ++ (p.data ++ r))) (by omega) (by simp; omega) (by omega)
  obtain ⟨a6, b6⟩ := take_lay p.same (lowB p.data.length 4 ++ (p.data ++ r))
  obtain ⟨a7, b7⟩ := num_lay p.data.length 4 136704 (p.data ++ r) (by omega) (by simp; omega) (by omega)
  obtain ⟨a8, b8⟩ := take_lay p.data r
  have n1 : ((p.kind : Nat) : Int).toNat = p.kind := by omega
  have n2 : ((p.made : Nat) : Int).toNat = p.made := by omega
  have n3 : ((p.path.length : Nat) : Int).toNat = p.path.length := by omega
  have n5 : ((p.same.length : Nat) : Int).toNat = p.same.length := by omega
  have n7 : ((p.data.length : Nat) : Int).toNat = p.data.length := by omega
  rw [n1] at a1
  rw [n2] at a2
  rw [n3] at a3
  rw [n5] at a5
  rw [n7] at a7
  refine ⟨?_, ?_⟩
  · simp only [rdN, s1, s2, s3, s4, s5, s6, s7, a1, b1, a2, b2, a3, b3, a4, b4, a5, b5, a6, b6, a7, b7, a8]
  · simp only [rdO, s1, s2, s3, s4, s5, s6, s7, s8, a1, b1, b2, a3, b3, b4, a5, b5, b6, a7, b7, b8]
    rw [if_neg (by omega)]

/-- What was read was a node's bytes, ahead of what is left. -/
theorem rd_back (r r' : List UInt8) (h : rdO (some r) = some r') : pnOk (rdN (some r)) ∧ r = encP (rdN (some r)) ++ r' := by
  unfold rdO at h
  by_cases h0 : numX 1 2 (some r) = 0
  · rw [if_pos h0] at h; cases h
  rw [if_neg h0] at h
  unfold s8 at h
  obtain ⟨r7, e7, l7, x8, f8⟩ := takeO_some h
  have h7 := e7
  unfold s7 at h7
  obtain ⟨r6, e6, l6, m7, x7, f7⟩ := numO_some h7
  have h6 := e6
  unfold s6 at h6
  obtain ⟨r5, e5, l5, x6, f6⟩ := takeO_some h6
  have h5 := e5
  unfold s5 at h5
  obtain ⟨r4, e4, l4, m5, x5, f5⟩ := numO_some h5
  have h4 := e4
  unfold s4 at h4
  obtain ⟨r3, e3, l3, x4, f4⟩ := takeO_some h4
  have h3 := e3
  unfold s3 at h3
  obtain ⟨r2, e2, l2, m3, x3, f3⟩ := numO_some h3
  have h2 := e2
  unfold s2 at h2
  obtain ⟨r1, e1, l1, m2, x2, f2⟩ := numO_some h2
  have h1 := e1
  unfold s1 at h1
  obtain ⟨r0, e0, l0, m1, x1, f1⟩ := numO_some h1
  injection e0 with e0
  subst e0
  rw [x1] at h0
  have g8 : (r7.take (numX 4 136704 (s6 (some r)))).length = numX 4 136704 (s6 (some r)) := by rw [List.length_take]; omega
  have g6 : (r5.take (numX 4 400 (s4 (some r)))).length = numX 4 400 (s4 (some r)) := by rw [List.length_take]; omega
  have g4 : (r3.take (numX 4 400 (s2 (some r)))).length = numX 4 400 (s2 (some r)) := by rw [List.length_take]; omega
  have lw : ∀ (k : Nat) (l : List UInt8), k ≤ l.length → lowB (numL (l.take k)) k = l.take k := fun k l hk => by
    have := lowB_numL (l.take k)
    rwa [show (l.take k).length = k by rw [List.length_take]; omega] at this
  have q1 := numX_le 4 400 (s2 (some r))
  have q2 := numX_le 4 400 (s4 (some r))
  have q3 := numX_le 4 136704 (s6 (some r))
  refine ⟨⟨?_, ?_, ?_, ?_, ?_⟩, ?_⟩
  · simp only [rdN]; rw [x1]; omega
  · exact numX_le 8 1099511627776 _
  · simp only [rdN]; rw [x4, g4]; exact q1
  · simp only [rdN]; rw [x6, g6]; exact q2
  · simp only [rdN]; rw [x8, g8]; exact q3
  · simp only [encP, rdN]
    rw [x8, x6, x4, g8, g6, g4, x7, x5, x3, x2, x1, lw 4 r6 l6, lw 4 r4 l4, lw 4 r2 l2, lw 8 r1 l1]
    have hk : UInt8.ofNat (numL (r.take 1)) = r[0]'(by omega) := by
      cases r with
      | nil => exact absurd l0 (by simp)
      | cons x xs => simp [numL]
    have hr : r = r[0]'(by omega) :: r1 := by
      rw [f1]
      cases r with
      | nil => exact absurd l0 (by simp)
      | cons x xs => simp
    rw [hk]
    have t8 : r7 = r7.take (numX 4 136704 (s6 (some r))) ++ r' := by rw [f8, List.take_append_drop]
    have t7 : r6 = r6.take 4 ++ r7 := by rw [f7, List.take_append_drop]
    have t6 : r5 = r5.take (numX 4 400 (s4 (some r))) ++ r6 := by rw [f6, List.take_append_drop]
    have t5 : r4 = r4.take 4 ++ r5 := by rw [f5, List.take_append_drop]
    have t4 : r3 = r3.take (numX 4 400 (s2 (some r))) ++ r4 := by rw [f4, List.take_append_drop]
    have t3 : r2 = r2.take 4 ++ r3 := by rw [f3, List.take_append_drop]
    have t2 : r1 = r1.take 8 ++ r2 := by rw [f2, List.take_append_drop]
    rw [x7] at t8
    rw [x5] at t6
    rw [x3] at t4
    simp only [List.cons_append, List.append_assoc]
    rw [← t8, ← t7, ← t6, ← t5, ← t4, ← t3, ← t2]
    exact hr

theorem readL_nil (f : Nat) : readL f (some []) = some [] := by cases f <;> rfl
theorem readL_none (f : Nat) : readL f none = none := by cases f <;> rfl
theorem readL_step (f : Nat) (r : List UInt8) (h : r ≠ []) : readL (f + 1) (some r) = (readL f (rdO (some r))).map (rdN (some r) :: ·) := by
  cases r with
  | nil => exact absurd rfl h
  | cons x r => rfl
theorem rdO_short {r r' : List UInt8} (h : rdO (some r) = some r') : r'.length + 21 ≤ r.length := by
  obtain ⟨_, e⟩ := rd_back r r' h
  have h1 := congrArg List.length e
  rw [List.length_append, encP_length] at h1
  omega
/-- Bytes of nodes that may be are read as these. -/
theorem readL_enc : ∀ (l : List Pn) (f : Nat), (∀ p ∈ l, pnOk p) → (l.flatMap encP).length ≤ f → readL f (some (l.flatMap encP)) = some l := by
  intro l
  induction l with
  | nil => intro f _ _; exact readL_nil f
  | cons p l ih =>
    intro f hp hf
    have hl := encP_length p
    rw [List.flatMap_cons, List.length_append] at hf
    obtain ⟨f, rfl⟩ : ∃ f', f = f' + 1 := ⟨f - 1, by omega⟩
    have hne : List.flatMap encP (p :: l) ≠ [] := by
      intro e
      have := congrArg List.length e
      rw [List.flatMap_cons, List.length_append, List.length_nil] at this
      omega
    obtain ⟨h1, h2⟩ := rd_enc p (hp p List.mem_cons_self) (l.flatMap encP)
    rw [readL_step f _ hne, List.flatMap_cons, h1, h2, ih f (fun q hq => hp q (List.mem_cons_of_mem _ hq)) (by omega)]
    rfl
/-- What was read is written as it was. -/
theorem readL_back : ∀ (f : Nat) (r : List UInt8) (l : List Pn), readL f (some r) = some l → (∀ p ∈ l, pnOk p) ∧ l.flatMap encP = r := by
  intro f
  induction f with
  | zero =>
    intro r l h
    cases r with
    | nil => cases h; exact ⟨fun p hp => absurd hp (by simp), rfl⟩
    | cons x r => cases h
  | succ f ih =>
    intro r l h
    by_cases hr : r = []
    · subst hr; cases h; exact ⟨fun p hp => absurd hp (by simp), rfl⟩
    · rw [readL_step f r hr] at h
      cases ho : rdO (some r) with
      | none => rw [ho, readL_none] at h; cases h
      | some r' =>
        rw [ho] at h
        obtain ⟨k1, k2⟩ := rd_back r r' ho
        cases hl : readL f (some r') with
        | none => rw [hl] at h; cases h
        | some l' =>
          rw [hl] at h
          injection h with h
          subst h
          obtain ⟨i1, i2⟩ := ih r' l' hl
          refine ⟨fun p hp => ?_, ?_⟩
          · rcases List.mem_cons.1 hp with rfl | hp
            · exact k1
            · exact i1 p hp
          · rw [List.flatMap_cons, i2]; exact k2.symm
theorem encAll_P (l : List Nd) (h : ∀ x ∈ l, ndOk x) : (l.map ndP).flatMap encP = encAll l := by
  induction l with
  | nil => rfl
  | cons x l ih =>
    rw [List.map_cons, List.flatMap_cons, ih fun y hy => h y (List.mem_cons_of_mem _ hy), encP_ndP x (h x List.mem_cons_self)]
    rfl
#print axioms readL_back
end Go.Proofs.YtolpcfhfcdkokaaGreatDoor
