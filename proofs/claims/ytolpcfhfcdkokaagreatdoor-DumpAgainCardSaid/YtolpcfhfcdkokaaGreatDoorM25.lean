/- Joined out of the texts QDump, QTell. -/
import Derived.Test.YtolpcfhfcdkokaaGreatDoorM23
import Derived.Test.YtolpcfhfcdkokaaGreatDoorM24
/-
  A tree told whole: the pure law.
-/
namespace Go.Proofs.YtolpcfhfcdkokaaGreatDoor

/-- A node that is told. -/
structure Tn where
  path : ByteArray
  kind : Int
  made : Int
  same : ByteArray
  data : List UInt8
deriving DecidableEq
def Nd.tn (x : Nd) : Tn := ⟨x.path, x.kind, x.made, x.same, x.data⟩
/-- What has been told so far; of an inode: the path that was told first. -/
structure DS where
  nodes : List Tn
  first : List (Nat × ByteArray)
abbrev Spot := List ByteArray × Nat
def PT.step (T : PT) (s : DS) (x : Spot) : DS :=
  if T.isDir x.2 = true then ⟨s.nodes ++ [⟨pth x.1, 2, ((T.node x.2).made : Int), emp, []⟩], s.first⟩ else
  match getS x.2 s.first with
  | some q => ⟨s.nodes ++ [⟨pth x.1, 1, ((T.node x.2).made : Int), q, []⟩], s.first⟩
  | none => ⟨s.nodes ++ [⟨pth x.1, 1, ((T.node x.2).made : Int), emp, rdL (T.node x.2).data 0 (T.node x.2).size⟩], putS natK x.2 (pth x.1) s.first⟩
/-- One entry; the rest of the directory's. -/
def dEnt (T : PT) (rec : List ByteArray → Nat → DS → DS × Nat) (ns : List ByteArray) (j : Nat) (s : DS) : DS × Nat :=
  if 400 < (pth ns).size then (s, 70) else if T.isDir j = true then rec ns j (T.step s (ns, j)) else (T.step s (ns, j), 0)
def dEnts (T : PT) (rec : List ByteArray → Nat → DS → DS × Nat) (ns : List ByteArray) : List (ByteArray × Nat) → DS → DS × Nat
  | [], s => (s, 0)
  | x :: r, s => if (dEnt T rec (ns ++ [x.1]) x.2 s).2 ≠ 0 then dEnt T rec (ns ++ [x.1]) x.2 s else dEnts T rec ns r (dEnt T rec (ns ++ [x.1]) x.2 s).1
def dList (T : PT) : Nat → List ByteArray → Nat → DS → DS × Nat
  | 0, _, _, s => (s, 70)
  | f + 1, ns, i, s => if 400 < (pth ns).size then (s, 70) else dEnts T (dList T f) ns (T.node i).names s
/-- What lies below a directory, in the order in which it is told. -/
def tlE (T : PT) (rec : List ByteArray → Nat → List Spot) (ns : List ByteArray) : List (ByteArray × Nat) → List Spot
  | [] => []
  | x :: r => (ns ++ [x.1], x.2) :: ((if T.isDir x.2 = true then rec (ns ++ [x.1]) x.2 else []) ++ tlE T rec ns r)
def tl (T : PT) : Nat → List ByteArray → Nat → List Spot
  | 0, _, _ => []
  | f + 1, ns, i => tlE T (tl T f) ns (T.node i).names
def shorts (L : List Spot) : Prop := ∀ x ∈ L, (pth x.1).size ≤ 400
theorem dEnts_ok {T : PT} {f : Nat} (ih : ∀ ns j s, (dList T f ns j s).2 = 0 → (dList T f ns j s).1 = (tl T f ns j).foldl T.step s ∧ shorts (tl T f ns j)) (ns : List ByteArray) :
    ∀ (l : List (ByteArray × Nat)) (s : DS), (dEnts T (dList T f) ns l s).2 = 0 → (dEnts T (dList T f) ns l s).1 = (tlE T (tl T f) ns l).foldl T.step s ∧ shorts (tlE T (tl T f) ns l)
  | [], s, _ => ⟨rfl, fun x hx => by cases hx⟩
  | x :: r, s, h => by
    rw [dEnts] at h ⊢
    split at h
    · rename_i h1; exact absurd h h1
    · rename_i h1
      rw [if_neg h1]
      have h1 : (dEnt T (dList T f) (ns ++ [x.1]) x.2 s).2 = 0 := by simpa using h1
      obtain ⟨h2, h3⟩ := dEnts_ok ih ns r _ h
      have h4 : (pth (ns ++ [x.1])).size ≤ 400 ∧ (dEnt T (dList T f) (ns ++ [x.1]) x.2 s).1 = ((ns ++ [x.1], x.2) :: (if T.isDir x.2 = true then tl T f (ns ++ [x.1]) x.2 else [])).foldl T.step s ∧ shorts (if T.isDir x.2 = true then tl T f (ns ++ [x.1]) x.2 else []) := by
        unfold dEnt at h1 ⊢
        split at h1
        · cases h1
        rename_i h5
        rw [if_neg h5]
        refine ⟨by omega, ?_⟩
        by_cases hd : T.isDir x.2 = true
        · rw [if_pos hd] at h1
          rw [if_pos hd, if_pos hd]
          exact ih _ _ _ h1
        · rw [if_neg hd, if_neg hd]
          exact ⟨rfl, fun x hx => by cases hx⟩
      refine ⟨?_, ?_⟩
      · rw [h2, h4.2.1, tlE, ← List.foldl_append]
        rfl
      · intro y hy
        rw [tlE] at hy
        rcases List.mem_cons.1 hy with rfl | hy
        · exact h4.1
        rcases List.mem_append.1 hy with hy | hy
        · exact h4.2.2 y hy
        · exact h3 y hy
/-- Where there is no error, it is told in that order. -/
theorem dList_ok {T : PT} : ∀ (f : Nat) (ns : List ByteArray) (i : Nat) (s : DS), (dList T f ns i s).2 = 0 → (dList T f ns i s).1 = (tl T f ns i).foldl T.step s ∧ shorts (tl T f ns i)
  | 0, _, _, _, h => by cases h
  | f + 1, ns, i, s, h => by
    rw [dList] at h ⊢
    split at h
    · cases h
    · rename_i h1
      rw [if_neg h1]
      exact dEnts_ok (fun ns j s => dList_ok f ns j s) ns _ s h
theorem dEnts_all {T : PT} {f : Nat} (ih : ∀ ns j s, (pth ns).size ≤ 400 → shorts (tl T f ns j) → 202 ≤ ns.length + f → (∀ x ∈ ns, chk x = true) → (dList T f ns j s).2 = 0) (ns : List ByteArray) (hf : 202 ≤ ns.length + f + 1) (hc : ∀ x ∈ ns, chk x = true) :
    ∀ (l : List (ByteArray × Nat)) (s : DS), (∀ p ∈ l, chk p.1 = true) → shorts (tlE T (tl T f) ns l) → (dEnts T (dList T f) ns l s).2 = 0
  | [], s, _, _ => rfl
  | x :: r, s, hl, h => by
    rw [tlE] at h
    have h1 : (pth (ns ++ [x.1])).size ≤ 400 := h (ns ++ [x.1], x.2) List.mem_cons_self
    have h2 : (dEnt T (dList T f) (ns ++ [x.1]) x.2 s).2 = 0 := by
      unfold dEnt
      rw [if_neg (by omega)]
      split
      · rename_i hd
        rw [if_pos hd] at h
        refine ih _ _ _ h1 (fun y hy => h y (List.mem_cons_of_mem _ (List.mem_append_left _ hy))) (by simp; omega) fun y hy => ?_
        rcases List.mem_append.1 hy with hy | hy
        · exact hc y hy
        · rw [List.mem_singleton.1 hy]; exact hl x List.mem_cons_self
      · rfl
    rw [dEnts, if_neg (by rw [h2]; simp)]
    exact dEnts_all ih ns hf hc r _ (fun p hp => hl p (List.mem_cons_of_mem _ hp)) fun y hy => h y (List.mem_cons_of_mem _ (List.mem_append_right _ hy))
/-- Where all paths are short enough there is no error. -/
theorem dList_all {T : PT} (hn : ∀ i, ∀ p ∈ (T.node i).names, chk p.1 = true) : ∀ (f : Nat) (ns : List ByteArray) (i : Nat) (s : DS), (pth ns).size ≤ 400 → shorts (tl T f ns i) → 202 ≤ ns.length + f → (∀ x ∈ ns, chk x = true) → (dList T f ns i s).2 = 0
  | 0, ns, _, _, h, _, hf, hc => by
    have h1 := pthL_len hc
    have h2 := pth_size (ns := ns) (fun e => by subst e; simp at hf)
    omega
  | f + 1, ns, i, s, h, hs, hf, hc => by
    rw [dList, if_neg (by omega)]
    exact dEnts_all (fun ns j s => dList_all hn f ns j s) ns (by omega) hc _ s (hn i) hs
/-- A tree, told whole: the nodes; the code. -/
def PT.spots (T : PT) : List Spot := tl T 202 [] 1
def PT.dump (T : PT) : List Tn × Nat := if (dList T 202 [] 1 ⟨[], []⟩).2 = 0 then ((dList T 202 [] 1 ⟨[], []⟩).1.nodes, 0) else ([], (dList T 202 [] 1 ⟨[], []⟩).2)

/-! ### The nodes, one by one -/
/-- The node of a spot, behind others. -/
def PT.tn1 (T : PT) (pre : List Spot) (x : Spot) : Tn :=
  if T.isDir x.2 = true then ⟨pth x.1, 2, ((T.node x.2).made : Int), emp, []⟩ else
  match pre.find? fun y => decide (y.2 = x.2) with
  | some y => ⟨pth x.1, 1, ((T.node x.2).made : Int), pth y.1, []⟩
  | none => ⟨pth x.1, 1, ((T.node x.2).made : Int), emp, rdL (T.node x.2).data 0 (T.node x.2).size⟩
def PT.mks (T : PT) (pre : List Spot) : List Spot → List Tn
  | [] => []
  | x :: r => T.tn1 pre x :: T.mks (pre ++ [x]) r
def FstOk (T : PT) (pre : List Spot) (fs : List (Nat × ByteArray)) : Prop := ∀ i, T.isDir i = false → getS i fs = (pre.find? fun y => decide (y.2 = i)).map fun y => pth y.1
theorem foldl_mks {T : PT} : ∀ (L pre : List Spot) (s : DS), FstOk T pre s.first → (L.foldl T.step s).nodes = s.nodes ++ T.mks pre L
  | [], pre, s, _ => by simp [PT.mks]
  | x :: r, pre, s, h => by
    rw [List.foldl_cons]
    have key : (T.step s x).nodes = s.nodes ++ [T.tn1 pre x] ∧ FstOk T (pre ++ [x]) (T.step s x).first := by
      unfold PT.step PT.tn1
      by_cases hd : T.isDir x.2 = true
      · rw [if_pos hd, if_pos hd]
        refine ⟨rfl, fun i hi => ?_⟩
        have hne : x.2 ≠ i := fun e => by rw [e, hi] at hd; cases hd
        simp only
        rw [h i hi, List.find?_append]
        cases pre.find? fun y => decide (y.2 = i) with
        | none => simp [hne]
        | some y => simp
      · rw [if_neg hd, if_neg hd]
        have hd' : T.isDir x.2 = false := by simpa using hd
        have hx := h x.2 hd'
        cases hp : pre.find? fun y => decide (y.2 = x.2) with
        | some y =>
          rw [hp] at hx
          rw [hx]
          refine ⟨rfl, fun i hi => ?_⟩
          simp only [Option.map_some]
          rw [h i hi, List.find?_append]
          cases hq : pre.find? fun y => decide (y.2 = i) with
          | some z => simp
          | none =>
            have hne : x.2 ≠ i := fun e => by rw [← e, hp] at hq; cases hq
            simp [hne]
        | none =>
          rw [hp] at hx
          simp only [Option.map_none] at hx
          rw [hx]
          refine ⟨rfl, fun i hi => ?_⟩
          simp only
          rw [List.find?_append]
          by_cases e : i = x.2
          · subst e
            rw [getS_put_same, hp]
            simp
          · rw [getS_put_other natK _ e, h i hi]
            have hne : x.2 ≠ i := fun e' => e e'.symm
            cases pre.find? fun y => decide (y.2 = i) with
            | none => simp [hne]
            | some y => simp
    rw [foldl_mks r (pre ++ [x]) _ key.2, key.1, PT.mks, List.append_assoc]
    rfl
theorem PT.mks_len (T : PT) : ∀ (L pre : List Spot), (T.mks pre L).length = L.length
  | [], _ => rfl
  | _ :: r, _ => by simp [PT.mks, PT.mks_len T r]
theorem PT.mks_append (T : PT) : ∀ (L M pre : List Spot), T.mks pre (L ++ M) = T.mks pre L ++ T.mks (pre ++ L) M
  | [], M, pre => by simp [PT.mks]
  | x :: r, M, pre => by simp [PT.mks, PT.mks_append T r M]
/-- What a dump tells. -/
theorem dump_ok {T : PT} (h : (T.dump).2 = 0) : T.dump.1 = T.mks [] T.spots ∧ shorts T.spots := by
  unfold PT.dump at h ⊢
  split at h
  · rename_i h1
    rw [if_pos h1]
    obtain ⟨h2, h3⟩ := dList_ok _ _ _ _ h1
    refine ⟨?_, h3⟩
    simp only
    rw [h2]
    exact (foldl_mks _ [] ⟨[], []⟩ fun i _ => rfl).trans (List.nil_append _)
  · rename_i h1; exact absurd h h1
theorem dump_all {T : PT} (h : T.Inv) (hs : shorts T.spots) : T.dump = (T.mks [] T.spots, 0) := by
  have h1 : (T.dump).2 = 0 := by
    unfold PT.dump
    have h2 := dList_all (T := T) (fun i p hp => by
      unfold PT.node at hp
      cases hg : getS i T.nodes with
      | none => rw [hg] at hp; cases hp
      | some n => rw [hg] at hp; exact h.gr.names _ _ _ _ hg (getS_of_mem (h.gr.ok.get hg).1.nris.nd hp)) 202 [] 1 ⟨[], []⟩ (by decide) hs (by simp) (by simp)
    rw [if_pos h2]
  exact Prod.ext (dump_ok h1).1 h1
theorem dump_err {T : PT} (h : (T.dump).2 ≠ 0) : T.dump.1 = [] := by
  unfold PT.dump at h ⊢
  split at h
  · exact absurd rfl h
  · rename_i h1; rw [if_neg h1]
#print axioms dump_all
end Go.Proofs.YtolpcfhfcdkokaaGreatDoor
/-
  A tree told whole: which spots are told, and in which order.
-/
namespace Go.Proofs.YtolpcfhfcdkokaaGreatDoor

/-- Paths in the order in which they are told. -/
def plt : List ByteArray → List ByteArray → Prop
  | _, [] => False
  | [], _ :: _ => True
  | a :: r, b :: s => strK.lt a b = true ∨ a = b ∧ plt r s
theorem plt_irrefl : ∀ a, ¬ plt a a
  | [] => fun h => h
  | a :: r => fun h => by
    rcases h with h | ⟨_, h⟩
    · rw [lt_irrefl'] at h; cases h
    · exact plt_irrefl r h
theorem plt_trans : ∀ {a b c}, plt a b → plt b c → plt a c
  | _, _, [], _, h => by cases ‹List ByteArray› <;> exact h.elim
  | [], _, _ :: _, _, _ => trivial
  | _ :: _, [], _ :: _, h, _ => h.elim
  | a :: r, b :: s, c :: t, h1, h2 => by
    rcases h1 with h1 | ⟨rfl, h1⟩ <;> rcases h2 with h2 | ⟨rfl, h2⟩
    · exact .inl (lt_trans' strK h1 h2)
    · exact .inl h1
    · exact .inl h2
    · exact .inr ⟨rfl, plt_trans h1 h2⟩
theorem plt_asymm {a b} (h : plt a b) : ¬ plt b a := fun h' => plt_irrefl a (plt_trans h h')
theorem plt_app : ∀ (n : List ByteArray) {a b}, plt a b → plt (n ++ a) (n ++ b)
  | [], _, _, h => h
  | _ :: r, _, _, h => .inr ⟨rfl, plt_app r h⟩
theorem plt_pre : ∀ (a : List ByteArray) {m}, m ≠ [] → plt a (a ++ m)
  | [], m, h => by
    cases m with
    | nil => exact absurd rfl h
    | cons x r => exact trivial
  | _ :: r, _, h => .inr ⟨rfl, plt_pre r h⟩
/-- Rising lists of the same members are the same. -/
theorem sorted_ext {α : Type} {R : α → α → Prop} (hi : ∀ a, ¬ R a a) (ht : ∀ {a b c}, R a b → R b c → R a c) : ∀ {l m : List α}, l.Pairwise R → m.Pairwise R → (∀ x, x ∈ l ↔ x ∈ m) → l = m
  | [], [], _, _, _ => rfl
  | [], y :: m, _, _, h => absurd ((h y).2 List.mem_cons_self) (by simp)
  | x :: l, [], _, _, h => absurd ((h x).1 List.mem_cons_self) (by simp)
  | x :: l, y :: m, h1, h2, h => by
    obtain ⟨a1, a2⟩ := List.pairwise_cons.1 h1
    obtain ⟨b1, b2⟩ := List.pairwise_cons.1 h2
    have hxy : x = y := by
      rcases List.mem_cons.1 ((h x).1 List.mem_cons_self) with e | e
      · exact e
      · rcases List.mem_cons.1 ((h y).2 List.mem_cons_self) with e' | e'
        · exact e'.symm
        · exact absurd (ht (b1 x e) (a1 y e')) (hi y)
    subst hxy
    have h3 : ∀ z, z ∈ l ↔ z ∈ m := fun z => by
      constructor
      · intro hz
        rcases List.mem_cons.1 ((h z).1 (List.mem_cons_of_mem _ hz)) with e | e
        · exact absurd (e ▸ a1 z hz) (hi x)
        · exact e
      · intro hz
        rcases List.mem_cons.1 ((h z).2 (List.mem_cons_of_mem _ hz)) with e | e
        · exact absurd (e ▸ b1 z hz) (hi x)
        · exact e
    rw [sorted_ext hi ht a2 b2 h3]
theorem mem_tlE {T : PT} {rec : List ByteArray → Nat → List Spot} {ns : List ByteArray} {x : Spot} : ∀ {l : List (ByteArray × Nat)}, x ∈ tlE T rec ns l ↔ ∃ p ∈ l, x = (ns ++ [p.1], p.2) ∨ T.isDir p.2 = true ∧ x ∈ rec (ns ++ [p.1]) p.2
  | [] => by simp [tlE]
  | q :: r => by
    rw [tlE, List.mem_cons, List.mem_append, mem_tlE (l := r)]
    constructor
    · rintro (h | h | ⟨p, hp, h⟩)
      · exact ⟨q, List.mem_cons_self, .inl h⟩
      · split at h
        · rename_i hd; exact ⟨q, List.mem_cons_self, .inr ⟨hd, h⟩⟩
        · cases h
      · exact ⟨p, List.mem_cons_of_mem _ hp, h⟩
    · rintro ⟨p, hp, h⟩
      rcases List.mem_cons.1 hp with rfl | hp
      · rcases h with h | ⟨hd, h⟩
        · exact .inl h
        · rw [if_pos hd]; exact .inr (.inl h)
      · exact .inr (.inr ⟨p, hp, h⟩)
theorem walk_nil (T : PT) (i : Nat) : T.walk [] i = (i, 0) := rfl
theorem walk_cons {T : PT} {i : Nat} {n : PN} (hg : getS i T.nodes = some n) (hd : n.dir = true) {nm : ByteArray} {j : Nat} (hj : getS nm n.names = some j) (r : List ByteArray) : T.walk (nm :: r) i = T.walk r j := by
  rw [PT.walk, hg]
  simp only
  rw [if_neg (by rw [hd]; simp), hj]
theorem walk_cons_inv {T : PT} {i j : Nat} {nm : ByteArray} {r : List ByteArray} (h : T.walk (nm :: r) i = (j, 0)) : ∃ n k, getS i T.nodes = some n ∧ n.dir = true ∧ getS nm n.names = some k ∧ T.walk r k = (j, 0) := by
  rw [PT.walk] at h
  cases hg : getS i T.nodes with
  | none => rw [hg] at h; simp at h
  | some n =>
    rw [hg] at h
    simp only at h
    by_cases hd : n.dir = true
    · rw [if_neg (by rw [hd]; simp)] at h
      cases hj : getS nm n.names with
      | none => rw [hj] at h; simp at h
      | some k => rw [hj] at h; exact ⟨n, k, rfl, hd, hj, h⟩
    · rw [if_pos (by simpa using hd)] at h
      simp at h
theorem mem_names {T : PT} (hT : T.Ok) {i : Nat} {p : ByteArray × Nat} (h : p ∈ (T.node i).names) : ∃ n, getS i T.nodes = some n ∧ n.dir = true ∧ getS p.1 n.names = some p.2 := by
  unfold PT.node at h
  cases hg : getS i T.nodes with
  | none => rw [hg] at h; cases h
  | some n =>
    rw [hg] at h
    have h : p ∈ n.names := h
    refine ⟨n, rfl, ?_, getS_of_mem (hT.get hg).1.nris.nd h⟩
    cases hd : n.dir with
    | true => rfl
    | false => rw [((hT.get hg).1.df hd).2] at h; cases h
theorem mem_tl {T : PT} (hT : T.Ok) : ∀ (f : Nat) (ns : List ByteArray) (i : Nat) (x : Spot), x ∈ tl T f ns i ↔ ∃ ms, ms ≠ [] ∧ ms.length ≤ f ∧ x.1 = ns ++ ms ∧ T.walk ms i = (x.2, 0)
  | 0, ns, i, x => by
    constructor
    · intro h; cases h
    · rintro ⟨ms, h1, h2, _⟩
      exact absurd (List.eq_nil_of_length_eq_zero (Nat.le_zero.1 h2)) h1
  | f + 1, ns, i, x => by
    rw [tl, mem_tlE]
    constructor
    · rintro ⟨p, hp, h⟩
      obtain ⟨n, hg, hd, hj⟩ := mem_names hT hp
      rcases h with rfl | ⟨hdj, h⟩
      · exact ⟨[p.1], by simp, by simp, rfl, by rw [walk_cons hg hd hj]; rfl⟩
      · obtain ⟨ms, h1, h2, h3, h4⟩ := (mem_tl hT f _ _ _).1 h
        exact ⟨p.1 :: ms, by simp, by simp; omega, by rw [h3, List.append_assoc]; rfl, by rw [walk_cons hg hd hj]; exact h4⟩
    · rintro ⟨ms, h1, h2, h3, h4⟩
      cases ms with
      | nil => exact absurd rfl h1
      | cons nm r =>
        obtain ⟨n, k, hg, hd, hk, h5⟩ := walk_cons_inv h4
        refine ⟨(nm, k), by rw [node_of hg]; exact mem_of_getS hk, ?_⟩
        cases r with
        | nil =>
          have h6 : k = x.2 := congrArg Prod.fst h5
          exact .inl (Prod.ext h3 h6.symm)
        | cons nm2 r2 =>
          obtain ⟨n2, k2, hg2, hd2, _, _⟩ := walk_cons_inv h5
          exact .inr ⟨by rw [isDir_of hg2, hd2], (mem_tl hT f _ _ _).2 ⟨nm2 :: r2, by simp, by simpa using h2, by rw [h3, List.append_assoc]; rfl, h5⟩⟩
theorem tl_sorted {T : PT} (hT : T.Ok) : ∀ (f : Nat) (ns : List ByteArray) (i : Nat), (tl T f ns i).Pairwise fun x y => plt x.1 y.1
  | 0, _, _ => List.Pairwise.nil
  | f + 1, ns, i => by
    have hris : RisS strK (T.node i).names := by
      unfold PT.node
      cases hg : getS i T.nodes with
      | none => exact List.Pairwise.nil
      | some n => exact (hT.get hg).1.nris
    rw [tl]
    generalize (T.node i).names = l at hris
    induction l with
    | nil => exact List.Pairwise.nil
    | cons p r ih =>
      obtain ⟨h1, h2⟩ := List.pairwise_cons.1 hris
      have hsub : ∀ y ∈ (if T.isDir p.2 = true then tl T f (ns ++ [p.1]) p.2 else []), ∃ ms, ms ≠ [] ∧ y.1 = ns ++ [p.1] ++ ms := fun y hy => by
        split at hy
        · obtain ⟨ms, a, _, b, _⟩ := (mem_tl hT f _ _ _).1 hy; exact ⟨ms, a, b⟩
        · cases hy
      have hrest : ∀ y ∈ tlE T (tl T f) ns r, ∃ nm ms, strK.lt p.1 nm = true ∧ y.1 = ns ++ (nm :: ms) := fun y hy => by
        obtain ⟨q, hq, h⟩ := mem_tlE.1 hy
        rcases h with rfl | ⟨_, h⟩
        · exact ⟨q.1, [], h1 q hq, rfl⟩
        · obtain ⟨ms, _, _, b, _⟩ := (mem_tl hT f _ _ _).1 h
          exact ⟨q.1, ms, h1 q hq, by rw [b, List.append_assoc]; rfl⟩
      rw [tlE, List.pairwise_cons, List.pairwise_append]
      refine ⟨fun y hy => ?_, ?_, ih h2, fun x hx y hy => ?_⟩
      · rcases List.mem_append.1 hy with hy | hy
        · obtain ⟨ms, h3, h4⟩ := hsub y hy
          rw [h4]
          exact plt_pre _ h3
        · obtain ⟨nm, ms, h3, h4⟩ := hrest y hy
          rw [h4]
          exact plt_app ns (.inl h3)
      · split
        · exact tl_sorted hT f _ _
        · exact List.Pairwise.nil
      · obtain ⟨ms, _, h4⟩ := hsub x hx
        obtain ⟨nm, ms', h5, h6⟩ := hrest y hy
        rw [h4, h6, List.append_assoc]
        exact plt_app ns (.inl h5)
theorem walk_append {T : PT} : ∀ (a b : List ByteArray) {i j : Nat}, T.walk a i = (j, 0) → T.walk (a ++ b) i = T.walk b j
  | [], b, i, j, h => by (have e : i = j := congrArg Prod.fst h); rw [e]; rfl
  | x :: a, b, i, j, h => by
    obtain ⟨n, k, hg, hd, hk, h5⟩ := walk_cons_inv h
    rw [List.cons_append, walk_cons hg hd hk]
    exact walk_append a b h5
theorem walk_append_inv {T : PT} : ∀ (a b : List ByteArray) {i j : Nat}, T.walk (a ++ b) i = (j, 0) → ∃ k, T.walk a i = (k, 0) ∧ T.walk b k = (j, 0)
  | [], b, i, j, h => ⟨i, rfl, h⟩
  | x :: a, b, i, j, h => by
    obtain ⟨n, k, hg, hd, hk, h5⟩ := walk_cons_inv h
    obtain ⟨k', h6, h7⟩ := walk_append_inv a b h5
    exact ⟨k', by rw [walk_cons hg hd hk]; exact h6, h7⟩
theorem walk_chk {T : PT} (h : T.Gr) : ∀ (a : List ByteArray) {i j : Nat}, T.walk a i = (j, 0) → ∀ x ∈ a, chk x = true
  | [], _, _, _, _, hx => by cases hx
  | y :: a, i, j, hw, x, hx => by
    obtain ⟨n, k, hg, hd, hk, h5⟩ := walk_cons_inv hw
    rcases List.mem_cons.1 hx with rfl | hx
    · exact h.names _ _ _ _ hg hk
    · exact walk_chk h a h5 x hx
theorem spots_sorted {T : PT} (hT : T.Ok) : T.spots.Pairwise fun x y => plt x.1 y.1 := tl_sorted hT _ _ _
theorem mem_spots {T : PT} (h : T.Gr) (hs : shorts T.spots) (x : Spot) : x ∈ T.spots ↔ x.1 ≠ [] ∧ T.walk x.1 1 = (x.2, 0) := by
  constructor
  · intro hx
    obtain ⟨ms, h1, _, h3, h4⟩ := (mem_tl h.ok _ _ _ _).1 hx
    rw [List.nil_append] at h3
    rw [h3]
    exact ⟨h1, h4⟩
  · rintro ⟨h1, h2⟩
    by_cases hl : x.1.length ≤ 202
    · exact (mem_tl h.ok _ _ _ _).2 ⟨x.1, h1, hl, rfl, h2⟩
    · exfalso
      have h3 : T.walk (x.1.take 202 ++ x.1.drop 202) 1 = (x.2, 0) := by rw [List.take_append_drop]; exact h2
      obtain ⟨k, h4, _⟩ := walk_append_inv _ _ h3
      have h5 : (x.1.take 202).length = 202 := by rw [List.length_take]; omega
      have h6 : x.1.take 202 ≠ [] := fun e => by rw [e] at h5; simp at h5
      have h7 : (x.1.take 202, k) ∈ T.spots := (mem_tl h.ok _ _ _ _).2 ⟨_, h6, by omega, rfl, h4⟩
      have h8 := hs _ h7
      have h9 := pthL_len (walk_chk h _ h4)
      rw [pth_size h6] at h8
      omega
/-- Which spots are told: without the paths being known to be short. -/
theorem spots_walk {T : PT} (hT : T.Ok) {x : Spot} (hx : x ∈ T.spots) : x.1 ≠ [] ∧ T.walk x.1 1 = (x.2, 0) := by
  obtain ⟨ms, h1, _, h3, h4⟩ := (mem_tl hT _ _ _ _).1 hx
  rw [List.nil_append] at h3
  rw [h3]
  exact ⟨h1, h4⟩
#print axioms mem_spots
end Go.Proofs.YtolpcfhfcdkokaaGreatDoor
