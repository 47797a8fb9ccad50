/- Joined out of the texts QSum, QInv. -/
import Derived.Test.YtolpcfhfcdkokaaGreatDoorM15
import Derived.Test.YtolpcfhfcdkokaaGreatDoorM20
/-
  Sums over rising lists; what a pure tree's nodes have together.
-/
namespace Go.Proofs.YtolpcfhfcdkokaaGreatDoor

section
variable {α β : Type} [DecidableEq α]
def sumV (f : β → Nat) (l : List (α × β)) : Nat := (l.map fun p => f p.2).sum
def atV (f : β → Nat) (a : α) (l : List (α × β)) : Nat := match getS a l with | some v => f v | none => 0
theorem delS_cons (a : α) (y : α × β) (r : List (α × β)) : delS a (y :: r) = if y.1 = a then delS a r else y :: delS a r := by
  unfold delS
  by_cases h : y.1 = a <;> simp [h]
theorem sumV_cons (f : β → Nat) (y : α × β) (r : List (α × β)) : sumV f (y :: r) = f y.2 + sumV f r := have _ := (inferInstance : DecidableEq α); rfl
theorem sumV_ins (K : KE α) (f : β → Nat) (x : α × β) : ∀ l : List (α × β), sumV f (insS K x l) = f x.2 + sumV f l
  | [] => rfl
  | y :: r => by
    unfold insS
    split
    · rfl
    · rw [sumV_cons, sumV_ins K f x r, sumV_cons]; omega
theorem atV_cons (f : β → Nat) (a : α) (y : α × β) (r : List (α × β)) : atV f a (y :: r) = if y.1 = a then f y.2 else atV f a r := by
  unfold atV
  rw [getS]
  by_cases h : y.1 = a <;> simp [h]
theorem atV_none {f : β → Nat} {a : α} {l : List (α × β)} (h : getS a l = none) : atV f a l = 0 := by unfold atV; rw [h]
theorem atV_some {f : β → Nat} {a : α} {v : β} {l : List (α × β)} (h : getS a l = some v) : atV f a l = f v := by unfold atV; rw [h]
theorem sumV_del (f : β → Nat) (a : α) : ∀ {l : List (α × β)}, (l.Pairwise fun p q => p.1 ≠ q.1) → sumV f (delS a l) + atV f a l = sumV f l
  | [], _ => rfl
  | y :: r, h => by
    obtain ⟨h1, h2⟩ := List.pairwise_cons.1 h
    have ih := sumV_del f a h2
    rw [delS_cons, atV_cons, sumV_cons]
    by_cases e : y.1 = a
    · rw [if_pos e, if_pos e]
      have hn : getS a r = none := getS_none.2 fun p hp e' => h1 p hp (by rw [e, e'])
      rw [atV_none hn] at ih
      omega
    · rw [if_neg e, if_neg e, sumV_cons]
      omega
theorem sumV_put (K : KE α) (f : β → Nat) (a : α) (v : β) {l : List (α × β)} (h : RisS K l) : sumV f (putS K a v l) + atV f a l = f v + sumV f l := by
  unfold putS
  rw [sumV_ins]
  have := sumV_del f a h.nd
  show f v + sumV f (delS a l) + atV f a l = _
  omega
theorem atV_le_sum (f : β → Nat) (a : α) : ∀ l : List (α × β), atV f a l ≤ sumV f l
  | [] => Nat.le_refl _
  | y :: r => by
    rw [atV_cons, sumV_cons]
    have := atV_le_sum f a r
    split <;> omega
theorem le_sumV {f : β → Nat} {p : α × β} : ∀ {l : List (α × β)}, p ∈ l → f p.2 ≤ sumV f l
  | y :: r, h => by
    rw [sumV_cons]
    rcases List.mem_cons.1 h with rfl | h
    · omega
    · have := le_sumV (f := f) h; omega
theorem sumV_zero {f : β → Nat} : ∀ {l : List (α × β)}, sumV f l = 0 → ∀ p ∈ l, f p.2 = 0 := fun h p hp => by have := le_sumV (f := f) hp; omega
theorem sumV_all0 {f : β → Nat} : ∀ {l : List (α × β)}, (∀ p ∈ l, f p.2 = 0) → sumV f l = 0
  | [], _ => rfl
  | y :: r, h => by rw [sumV_cons, h y List.mem_cons_self, sumV_all0 fun p hp => h p (List.mem_cons_of_mem _ hp)]
/-- Where the sum is not nought one summand is not. -/
theorem sumV_pos {f : β → Nat} {l : List (α × β)} (h : sumV f l ≠ 0) : ∃ p ∈ l, f p.2 ≠ 0 := by
  by_cases hx : ∃ p ∈ l, f p.2 ≠ 0
  · exact hx
  · exact absurd (sumV_all0 fun p hp => by by_cases e : f p.2 = 0; exact e; exact absurd ⟨p, hp, e⟩ hx) h
/-- Two different summands. -/
theorem sumV_two {f : β → Nat} {l : List (α × β)} (hn : l.Pairwise fun p q => p.1 ≠ q.1) {p q : α × β} (hp : p ∈ l) (hq : q ∈ l) (h : p.1 ≠ q.1) : f p.2 + f q.2 ≤ sumV f l := by
  have h1 := sumV_del f p.1 hn
  have h2 := atV_some (f := f) (getS_of_mem hn hp)
  have h3 := le_sumV (f := f) (mem_delS.2 ⟨hq, fun e => h e.symm⟩)
  omega
end

/-! ### How often an inode is named -/
def one_ (j v : Nat) : Nat := if v = j then 1 else 0
def PN.refs (n : PN) (j : Nat) : Nat := sumV (one_ j) n.names
def PT.refs (T : PT) (j : Nat) : Nat := sumV (fun n : PN => n.refs j) T.nodes
theorem PT.used_eq (T : PT) : T.used = sumV PN.count T.nodes := rfl
theorem PT.refs_upd {T : PT} (hr : RisS natK T.nodes) {i : Nat} {n n' : PN} (h : getS i T.nodes = some n) (j : Nat) : (T.upd i n').refs j + n.refs j = n'.refs j + T.refs j := by
  have := sumV_put natK (fun n : PN => n.refs j) i n' hr
  rw [atV_some h] at this
  exact this
theorem PT.used_upd {T : PT} (hr : RisS natK T.nodes) {i : Nat} {n n' : PN} (h : getS i T.nodes = some n) : (T.upd i n').used + n.count = n'.count + T.used := by
  have := sumV_put natK PN.count i n' hr
  rw [atV_some h] at this
  exact this
theorem PT.refs_new {T : PT} (hr : RisS natK T.nodes) {i : Nat} {n' : PN} (h : getS i T.nodes = none) (j : Nat) : (T.upd i n').refs j = n'.refs j + T.refs j := by
  have := sumV_put natK (fun n : PN => n.refs j) i n' hr
  rw [atV_none h] at this
  exact this
theorem PT.used_new {T : PT} (hr : RisS natK T.nodes) {i : Nat} {n' : PN} (h : getS i T.nodes = none) : (T.upd i n').used = n'.count + T.used := by
  have := sumV_put natK PN.count i n' hr
  rw [atV_none h] at this
  exact this
theorem PT.refs_del {T : PT} (hr : RisS natK T.nodes) {i : Nat} {n : PN} (h : getS i T.nodes = some n) (j : Nat) : (T.del i).refs j + n.refs j = T.refs j := by
  have := sumV_del (fun n : PN => n.refs j) i hr.nd
  rw [atV_some h] at this
  exact this
theorem PT.used_del {T : PT} (hr : RisS natK T.nodes) {i : Nat} {n : PN} (h : getS i T.nodes = some n) : (T.del i).used + n.count = T.used := by
  have := sumV_del PN.count i hr.nd
  rw [atV_some h] at this
  exact this
theorem PN.refs_set {n : PN} (hr : RisS strK n.names) (k : Nat) (nm : ByteArray) (i j : Nat) : (n.set k nm i).refs j + atV (one_ j) nm n.names = one_ j i + n.refs j :=
  sumV_put strK (one_ j) nm i hr
theorem PN.refs_clear {n : PN} (hr : RisS strK n.names) {nm : ByteArray} {i : Nat} (h : getS nm n.names = some i) (j : Nat) : (n.clear nm).refs j + one_ j i = n.refs j := by
  have := sumV_del (one_ j) nm hr.nd
  rw [atV_some h] at this
  exact this
theorem PN.refs_nil {n : PN} (h : n.names = []) (j : Nat) : n.refs j = 0 := by unfold PN.refs; rw [h]; rfl
theorem PN.refs_pos {n : PN} (hr : RisS strK n.names) {j : Nat} : n.refs j ≠ 0 ↔ ∃ nm, getS nm n.names = some j := by
  constructor
  · intro h
    obtain ⟨p, hp, h1⟩ := sumV_pos h
    refine ⟨p.1, ?_⟩
    rw [getS_of_mem hr.nd hp]
    unfold one_ at h1
    by_cases e : p.2 = j
    · rw [e]
    · rw [if_neg e] at h1; exact absurd rfl h1
  · rintro ⟨nm, h⟩ h0
    have := sumV_zero h0 _ (mem_of_getS h)
    simp [one_] at this
theorem PT.refs_pos {T : PT} (hT : T.Ok) {j : Nat} : T.refs j ≠ 0 ↔ ∃ i n nm, getS i T.nodes = some n ∧ getS nm n.names = some j := by
  constructor
  · intro h
    obtain ⟨p, hp, h1⟩ := sumV_pos h
    obtain ⟨nm, h2⟩ := (PN.refs_pos (hT.node p hp).1.nris).1 h1
    exact ⟨p.1, p.2, nm, getS_of_mem hT.ris.nd hp, h2⟩
  · rintro ⟨i, n, nm, h1, h2⟩ h0
    have := sumV_zero h0 _ (mem_of_getS h1)
    exact (PN.refs_pos (hT.get h1).1.nris).2 ⟨nm, h2⟩ this
/-- What is named once is named at one place. -/
theorem PT.refs_one {T : PT} (hT : T.Ok) {j : Nat} (h1 : T.refs j ≤ 1) {i i' : Nat} {n n' : PN} {nm nm' : ByteArray} (ha : getS i T.nodes = some n) (hb : getS nm n.names = some j) (ha' : getS i' T.nodes = some n') (hb' : getS nm' n'.names = some j) : i = i' ∧ nm = nm' := by
  have hp : 1 ≤ n.refs j := Nat.one_le_iff_ne_zero.2 ((PN.refs_pos (hT.get ha).1.nris).2 ⟨_, hb⟩)
  have hp' : 1 ≤ n'.refs j := Nat.one_le_iff_ne_zero.2 ((PN.refs_pos (hT.get ha').1.nris).2 ⟨_, hb'⟩)
  have hi : i = i' := by
    by_cases e : i = i'
    · exact e
    · have := sumV_two (f := fun n : PN => n.refs j) hT.ris.nd (mem_of_getS ha) (mem_of_getS ha') e
      have h2 : T.refs j = sumV (fun n : PN => n.refs j) T.nodes := rfl
      simp only at this
      omega
  subst hi
  have hn : n = n' := Option.some.inj (ha.symm.trans ha')
  subst hn
  refine ⟨rfl, ?_⟩
  by_cases e : nm = nm'
  · exact e
  · have := sumV_two (f := one_ j) (hT.get ha).1.nris.nd (mem_of_getS hb) (mem_of_getS hb') e
    have h3 : n.refs j ≤ T.refs j := le_sumV (f := fun n : PN => n.refs j) (mem_of_getS ha)
    have h4 : n.refs j = sumV (one_ j) n.names := rfl
    simp [one_] at this
    omega
#print axioms PT.refs_one
end Go.Proofs.YtolpcfhfcdkokaaGreatDoor
/-
  What always holds of a tree in memory: the pure law, for each way a tree turns.
-/
namespace Go.Proofs.YtolpcfhfcdkokaaGreatDoor

/-- A name that may be. -/
def chk (x : ByteArray) : Bool := decide (0 < x.size ∧ x.size ≤ 40 ∧ x.data.toList ≠ [46] ∧ x.data.toList ≠ [46, 46] ∧ ∀ b ∈ x.data.toList, b ≠ 0 ∧ b ≠ 47)
theorem chk_ne {x : ByteArray} (h : chk x = true) : x ≠ emp := by
  rintro rfl
  revert h
  decide
theorem chk_40 {x : ByteArray} (h : chk x = true) : x.size ≤ 40 := by
  unfold chk at h
  exact (of_decide_eq_true h).2.1

/-- The shape of a tree. -/
structure PT.Gr (T : PT) : Prop where
  ok : T.Ok
  root : ∃ n, getS 1 T.nodes = some n ∧ n.dir = true
  ents : ∀ i n nm j, getS i T.nodes = some n → getS nm n.names = some j → ∃ m, getS j T.nodes = some m
  slotn : ∀ i n nm j, getS i T.nodes = some n → getS nm n.names = some j → ∃ k, firstIdx nm n.slots = some k
  rank : ∃ rk : Nat → Nat, T.Ranked rk
  names : ∀ i n nm j, getS i T.nodes = some n → getS nm n.names = some j → chk nm = true
  root0 : T.refs 1 = 0
/-- How far links are from how often each is named. -/
def PT.Dev (T : PT) (e : Nat → Int) : Prop := ∀ j n, getS j T.nodes = some n → 1 ≤ n.links ∧ (n.dir = true → n.links = 1) ∧ (j ≠ 1 → (T.refs j : Int) = n.links + e j)
def no : Nat → Int := fun _ => 0
def at1 (i : Nat) (v : Int) : Nat → Int := fun j => if j = i then v else 0
/-- What always holds. -/
structure PT.Inv (T : PT) : Prop where
  gr : T.Gr
  dev : T.Dev no
  room : T.used + T.inodes + 1 ≤ T.sectors
theorem PT.Gr.nemp {T : PT} (h : T.Gr) (i : Nat) (n : PN) (hg : getS i T.nodes = some n) : getS emp n.names = none := by
  cases hc : getS emp n.names with
  | none => rfl
  | some j => exact absurd rfl (chk_ne (h.names i n emp j hg hc))
theorem PT.Inv.wf {T : PT} (h : T.Inv) : T.Wf := ⟨h.gr.ok, h.gr.root, h.gr.ents, h.gr.slotn, fun i n hg => (h.dev i n hg).1, h.gr.nemp, h.gr.rank⟩

/-! ### A node turned, its names left -/
theorem isDir_upd {T : PT} {i : Nat} {n n' : PN} (h : getS i T.nodes = some n) (hd : n'.dir = n.dir) (j : Nat) : (T.upd i n').isDir j = T.isDir j := by
  unfold PT.isDir
  by_cases e : j = i
  · subst e; rw [upd_same, h]; exact hd
  · rw [upd_other _ e]
theorem getS_upd {T : PT} {i j : Nat} {n' m : PN} (h : getS j (T.upd i n').nodes = some m) : (j = i ∧ m = n') ∨ (j ≠ i ∧ getS j T.nodes = some m) := by
  by_cases e : j = i
  · subst e; rw [upd_same] at h; exact .inl ⟨rfl, (Option.some.inj h).symm⟩
  · rw [upd_other _ e] at h; exact .inr ⟨e, h⟩
theorem upd_some {T : PT} {i j : Nat} {n' m : PN} (h : getS j T.nodes = some m) : ∃ m', getS j (T.upd i n').nodes = some m' := by
  by_cases e : j = i
  · subst e; exact ⟨_, upd_same _ _⟩
  · exact ⟨m, by rw [upd_other _ e]; exact h⟩
theorem PN.refs_names {n n' : PN} (h : n'.names = n.names) (j : Nat) : n'.refs j = n.refs j := by unfold PN.refs; rw [h]
theorem refs_upd_names {T : PT} (hT : T.Ok) {i : Nat} {n n' : PN} (h : getS i T.nodes = some n) (hn : n'.names = n.names) (j : Nat) : (T.upd i n').refs j = T.refs j := by
  have := PT.refs_upd hT.ris (n' := n') h j
  rw [PN.refs_names hn] at this
  omega
/-- A node turned whose kind, names and slots are as they were. -/
theorem PT.Gr.turn {T : PT} (h : T.Gr) {i : Nat} {n n' : PN} (hg : getS i T.nodes = some n) (hd : n'.dir = n.dir) (hn : n'.names = n.names) (hs : n'.slots = n.slots) (ho : n'.Ok) : (T.upd i n').Gr := by
  have back : ∀ {j m}, getS j (T.upd i n').nodes = some m → ∃ m0, getS j T.nodes = some m0 ∧ m.names = m0.names ∧ m.slots = m0.slots := fun {j m} h1 => by
    rcases getS_upd h1 with ⟨rfl, rfl⟩ | ⟨_, h2⟩
    · exact ⟨n, hg, hn, hs⟩
    · exact ⟨m, h2, rfl, rfl⟩
  refine ⟨h.ok.upd ho (h.ok.get hg).2, ?_, fun j m nm k h1 h2 => ?_, fun j m nm k h1 h2 => ?_, ?_, fun j m nm k h1 h2 => ?_, by rw [refs_upd_names h.ok hg hn]; exact h.root0⟩
  · obtain ⟨m, h1, h2⟩ := h.root
    by_cases e : 1 = i
    · subst e
      refine ⟨n', upd_same _ _, ?_⟩
      rw [hd, ← h2, Option.some.inj (hg.symm.trans h1)]
    · exact ⟨m, by rw [upd_other _ e]; exact h1, h2⟩
  · obtain ⟨m0, h3, h4, _⟩ := back h1
    rw [h4] at h2
    obtain ⟨x, hx⟩ := h.ents _ _ _ _ h3 h2
    exact upd_some hx
  · obtain ⟨m0, h3, h4, h5⟩ := back h1
    rw [h4] at h2
    rw [h5]
    exact h.slotn _ _ _ _ h3 h2
  · obtain ⟨rk, hr⟩ := h.rank
    refine ⟨rk, fun j m nm k h1 h2 h3 => ?_⟩
    obtain ⟨m0, h4, h5, _⟩ := back h1
    rw [h5] at h2
    rw [isDir_upd hg hd] at h3
    exact hr _ _ _ _ h4 h2 h3
  · obtain ⟨m0, h3, h4, _⟩ := back h1
    rw [h4] at h2
    exact h.names _ _ _ _ h3 h2
theorem PT.Dev.turn {T : PT} (hT : T.Ok) {e e' : Nat → Int} (h : T.Dev e) {i : Nat} {n n' : PN} (hg : getS i T.nodes = some n) (hd : n'.dir = n.dir) (hn : n'.names = n.names) (hl : 1 ≤ n'.links) (hl2 : n.dir = true → n'.links = 1)
    (he : i ≠ 1 → (n.links : Int) + e i = n'.links + e' i) (ho : ∀ j, j ≠ i → e j = e' j) : (T.upd i n').Dev e' := fun j m h1 => by
  rcases getS_upd h1 with ⟨rfl, rfl⟩ | ⟨h3, h2⟩
  · obtain ⟨_, _, h6⟩ := h j n hg
    refine ⟨hl, fun h7 => hl2 (by rw [← hd]; exact h7), fun h7 => ?_⟩
    rw [refs_upd_names hT hg hn, h6 h7]
    exact he h7
  · obtain ⟨h4, h5, h6⟩ := h j m h2
    refine ⟨h4, h5, fun h7 => ?_⟩
    rw [refs_upd_names hT hg hn, h6 h7, ho j h3]
/-- A file turned, with room. -/
theorem PT.Inv.turn {T : PT} (h : T.Inv) {i : Nat} {n n' : PN} (hg : getS i T.nodes = some n) (hd : n'.dir = n.dir) (hn : n'.names = n.names) (hs : n'.slots = n.slots) (hl : n'.links = n.links) (ho : n'.Ok) (hr : n'.count + T.used + T.inodes + 1 ≤ T.sectors + n.count) : (T.upd i n').Inv := by
  refine ⟨h.gr.turn hg hd hn hs ho, h.dev.turn h.gr.ok hg hd hn (by rw [hl]; exact (h.dev i n hg).1) (fun h1 => by rw [hl]; exact (h.dev i n hg).2.1 h1) (fun _ => by rw [hl]) (fun _ _ => rfl), ?_⟩
  have := PT.used_upd h.gr.ok.ris (n' := n') hg
  show (T.upd i n').used + T.inodes + 1 ≤ T.sectors
  omega

/-! ### A name set -/
theorem getS_set {n : PN} {k j : Nat} {nm x : ByteArray} {v : Nat} (h : getS x (n.set k nm j).names = some v) : (x = nm ∧ v = j) ∨ (x ≠ nm ∧ getS x n.names = some v) := by
  have h' : getS x (putS strK nm j n.names) = some v := h
  by_cases e : x = nm
  · subst e; rw [getS_put_same] at h'; exact .inl ⟨rfl, (Option.some.inj h').symm⟩
  · rw [getS_put_other strK j e] at h'; exact .inr ⟨e, h'⟩
theorem firstIdx_set_self {x : ByteArray} : ∀ {l : List ByteArray} {k : Nat}, k < l.length → ∃ q, firstIdx x (l.set k x) = some q := fun {l k} h => firstIdx_of_mem (List.mem_iff_getElem.2 ⟨k, by rw [List.length_set]; exact h, by simp⟩)
theorem PN.Fit.slot {n : PN} {k j : Nat} {nm : ByteArray} (h : n.Fit k nm) : ∃ q, firstIdx nm (n.set k nm j).slots = some q := by
  have hle := h.le
  unfold PN.set
  simp only
  split
  · exact firstIdx_of_mem (by simp)
  · exact firstIdx_set_self (by omega)
theorem PT.Gr.set {T : PT} (h : T.Gr) {d : Nat} {n : PN} (hg : getS d T.nodes = some n) (hd : n.dir = true) {k j : Nat} {nm : ByteArray} (hf : n.Fit k nm) (hc : chk nm = true) {m : PN} (hj : getS j T.nodes = some m) (hj1 : j ≠ 1) (ho : (n.set k nm j).Ok)
    (hr : ∃ rk : Nat → Nat, T.Ranked rk ∧ (T.isDir j = true → rk d < rk j)) : (T.upd d (n.set k nm j)).Gr := by
  refine ⟨h.ok.upd ho (h.ok.get hg).2, ?_, fun i x nm' v h1 h2 => ?_, fun i x nm' v h1 h2 => ?_, ?_, fun i x nm' v h1 h2 => ?_, ?_⟩
  · obtain ⟨m, h1, h2⟩ := h.root
    by_cases e : 1 = d
    · subst e; exact ⟨_, upd_same _ _, hd⟩
    · exact ⟨m, by rw [upd_other _ e]; exact h1, h2⟩
  · rcases getS_upd h1 with ⟨rfl, rfl⟩ | ⟨_, h3⟩
    · rcases getS_set h2 with ⟨_, rfl⟩ | ⟨_, h4⟩
      · exact upd_some hj
      · obtain ⟨y, hy⟩ := h.ents _ _ _ _ hg h4
        exact upd_some hy
    · obtain ⟨y, hy⟩ := h.ents _ _ _ _ h3 h2
      exact upd_some hy
  · rcases getS_upd h1 with ⟨rfl, rfl⟩ | ⟨_, h3⟩
    · rcases getS_set h2 with ⟨rfl, _⟩ | ⟨h5, h4⟩
      · exact hf.slot
      · obtain ⟨q, hq⟩ := h.slotn _ _ _ _ hg h4
        exact ⟨q, set_keeps hf (fun e => h5 e.symm) (chk_ne (h.names _ _ _ _ hg h4)) hq⟩
    · exact h.slotn _ _ _ _ h3 h2
  · obtain ⟨rk, hr1, hr2⟩ := hr
    refine ⟨rk, fun i x nm' v h1 h2 h3 => ?_⟩
    rw [isDir_upd (n' := n.set k nm j) hg rfl] at h3
    rcases getS_upd h1 with ⟨rfl, rfl⟩ | ⟨_, h4⟩
    · rcases getS_set h2 with ⟨_, rfl⟩ | ⟨_, h4⟩
      · exact hr2 h3
      · exact hr1 _ _ _ _ hg h4 h3
    · exact hr1 _ _ _ _ h4 h2 h3
  · rcases getS_upd h1 with ⟨rfl, rfl⟩ | ⟨_, h3⟩
    · rcases getS_set h2 with ⟨rfl, _⟩ | ⟨_, h4⟩
      · exact hc
      · exact h.names _ _ _ _ hg h4
    · exact h.names _ _ _ _ h3 h2
  · have h1 := PT.refs_upd h.ok.ris (n' := n.set k nm j) hg 1
    have h2 := PN.refs_set (h.ok.get hg).1.nris k nm j 1
    have h3 := h.root0
    have h4 : one_ 1 j = 0 := if_neg hj1
    omega
theorem refs_ins {T : PT} (h : T.Ok) {d : Nat} {n : PN} (hg : getS d T.nodes = some n) (k : Nat) (nm : ByteArray) (i j : Nat) : (T.upd d (n.set k nm i)).refs j + atV (one_ j) nm n.names = one_ j i + T.refs j := by
  have h1 := PT.refs_upd h.ris (n' := n.set k nm i) hg j
  have h2 := PN.refs_set (h.get hg).1.nris k nm i j
  omega
theorem PT.Dev.set {T : PT} (hT : T.Ok) {e e' : Nat → Int} (h : T.Dev e) {d : Nat} {n : PN} (hg : getS d T.nodes = some n) (k : Nat) (nm : ByteArray) (i : Nat)
    (he : ∀ j, e' j = e j + one_ j i - (atV (one_ j) nm n.names : Nat)) : (T.upd d (n.set k nm i)).Dev e' := fun j m h1 => by
  have h9 := refs_ins hT hg k nm i j
  have h8 := he j
  rcases getS_upd h1 with ⟨rfl, rfl⟩ | ⟨h3, h2⟩
  · obtain ⟨h4, h5, h6⟩ := h j n hg
    refine ⟨h4, h5, fun h7 => ?_⟩
    have := h6 h7
    show _ = (n.links : Int) + _
    omega
  · obtain ⟨h4, h5, h6⟩ := h j m h2
    refine ⟨h4, h5, fun h7 => ?_⟩
    have := h6 h7
    omega

/-! ### A name taken away -/
theorem getS_clear {n : PN} {nm x : ByteArray} {v : Nat} (h : getS x (n.clear nm).names = some v) : x ≠ nm ∧ getS x n.names = some v := by
  have h' : getS x (delS nm n.names) = some v := h
  by_cases e : x = nm
  · subst e; rw [getS_del_same] at h'; cases h'
  · rw [getS_del_other e] at h'; exact ⟨e, h'⟩
theorem PT.Gr.clear {T : PT} (h : T.Gr) {d : Nat} {n : PN} (hg : getS d T.nodes = some n) (hd : n.dir = true) {j : Nat} {nm : ByteArray} (hj : getS nm n.names = some j) : (T.upd d (n.clear nm)).Gr := by
  obtain ⟨k, hk⟩ := h.slotn _ _ _ _ hg hj
  refine ⟨h.ok.upd ((h.ok.get hg).1.clear nm) (h.ok.get hg).2, ?_, fun i x nm' v h1 h2 => ?_, fun i x nm' v h1 h2 => ?_, ?_, fun i x nm' v h1 h2 => ?_, ?_⟩
  · obtain ⟨m, h1, h2⟩ := h.root
    by_cases e : 1 = d
    · subst e; exact ⟨_, upd_same _ _, hd⟩
    · exact ⟨m, by rw [upd_other _ e]; exact h1, h2⟩
  · rcases getS_upd h1 with ⟨rfl, rfl⟩ | ⟨_, h3⟩
    · obtain ⟨y, hy⟩ := h.ents _ _ _ _ hg (getS_clear h2).2
      exact upd_some hy
    · obtain ⟨y, hy⟩ := h.ents _ _ _ _ h3 h2
      exact upd_some hy
  · rcases getS_upd h1 with ⟨rfl, rfl⟩ | ⟨_, h3⟩
    · obtain ⟨h5, h4⟩ := getS_clear h2
      obtain ⟨q, hq⟩ := h.slotn _ _ _ _ hg h4
      refine ⟨q, ?_⟩
      unfold PN.clear
      simp only [hk]
      refine firstIdx_set hq (fun e => chk_ne (h.names _ _ _ _ hg h4) e.symm) fun e => h5 ?_
      rw [(firstIdx_lt hk).2] at e
      exact (Option.some.inj e).symm
    · exact h.slotn _ _ _ _ h3 h2
  · obtain ⟨rk, hr⟩ := h.rank
    refine ⟨rk, fun i x nm' v h1 h2 h3 => ?_⟩
    rw [isDir_upd (n' := n.clear nm) hg rfl] at h3
    rcases getS_upd h1 with ⟨rfl, rfl⟩ | ⟨_, h4⟩
    · exact hr _ _ _ _ hg (getS_clear h2).2 h3
    · exact hr _ _ _ _ h4 h2 h3
  · rcases getS_upd h1 with ⟨rfl, rfl⟩ | ⟨_, h3⟩
    · exact h.names _ _ _ _ hg (getS_clear h2).2
    · exact h.names _ _ _ _ h3 h2
  · have h1 := PT.refs_upd h.ok.ris (n' := n.clear nm) hg 1
    have h2 := PN.refs_clear (h.ok.get hg).1.nris hj 1
    have h3 := h.root0
    omega
theorem PT.Dev.clear {T : PT} (hT : T.Ok) {e e' : Nat → Int} (h : T.Dev e) {d : Nat} {n : PN} (hg : getS d T.nodes = some n) {nm : ByteArray} {i : Nat} (hi : getS nm n.names = some i)
    (he : ∀ j, e' j = e j - one_ j i) : (T.upd d (n.clear nm)).Dev e' := fun j m h1 => by
  have h9 := PT.refs_upd hT.ris (n' := n.clear nm) hg j
  have h10 := PN.refs_clear (hT.get hg).1.nris hi j
  have h8 := he j
  rcases getS_upd h1 with ⟨rfl, rfl⟩ | ⟨h3, h2⟩
  · obtain ⟨h4, h5, h6⟩ := h j n hg
    refine ⟨h4, h5, fun h7 => ?_⟩
    have := h6 h7
    show _ = (n.links : Int) + _
    omega
  · obtain ⟨h4, h5, h6⟩ := h j m h2
    refine ⟨h4, h5, fun h7 => ?_⟩
    have := h6 h7
    omega
theorem count_clear (n : PN) (nm : ByteArray) : (n.clear nm).count = n.count := by
  unfold PN.count PN.keys PN.clear
  simp only
  split
  · rw [List.length_set]
  · rfl

/-! ### An inode given up, or made -/
theorem getS_pdel {T : PT} {i j : Nat} {m : PN} (h : getS j (T.del i).nodes = some m) : j ≠ i ∧ getS j T.nodes = some m := by
  have h' : getS j (delS i T.nodes) = some m := h
  by_cases e : j = i
  · subst e; rw [getS_del_same] at h'; cases h'
  · rw [getS_del_other e] at h'; exact ⟨e, h'⟩
theorem del_other {T : PT} {i j : Nat} (h : j ≠ i) : getS j (T.del i).nodes = getS j T.nodes := getS_del_other h _
theorem PT.Gr.del {T : PT} (h : T.Gr) {i : Nat} {n : PN} (hg : getS i T.nodes = some n) (h1 : i ≠ 1) (h0 : T.refs i = 0) (hn : n.names = []) : (T.del i).Gr := by
  have hr : ∀ j, (T.del i).refs j = T.refs j := fun j => by
    have := PT.refs_del h.ok.ris hg j
    rw [PN.refs_nil hn] at this
    omega
  refine ⟨h.ok.del i, ?_, fun j x nm v ha hb => ?_, fun j x nm v ha hb => h.slotn _ _ _ _ (getS_pdel ha).2 hb, ?_, fun j x nm v ha hb => h.names _ _ _ _ (getS_pdel ha).2 hb, by rw [hr]; exact h.root0⟩
  · obtain ⟨m, h2, h3⟩ := h.root
    exact ⟨m, by rw [del_other (fun e => h1 e.symm)]; exact h2, h3⟩
  · obtain ⟨y, hy⟩ := h.ents _ _ _ _ (getS_pdel ha).2 hb
    refine ⟨y, ?_⟩
    rw [del_other]
    · exact hy
    · rintro rfl
      exact (PT.refs_pos h.ok).2 ⟨_, _, _, (getS_pdel ha).2, hb⟩ h0
  · obtain ⟨rk, hr⟩ := h.rank
    refine ⟨rk, fun j x nm v ha hb hc => hr _ _ _ _ (getS_pdel ha).2 hb ?_⟩
    unfold PT.isDir at hc ⊢
    cases hv : getS v (T.del i).nodes with
    | none => rw [hv] at hc; cases hc
    | some m => rw [(getS_pdel hv).2]; rw [hv] at hc; exact hc
theorem PT.Dev.del {T : PT} (hT : T.Ok) {e e' : Nat → Int} (h : T.Dev e) {i : Nat} {n : PN} (hg : getS i T.nodes = some n) (hn : n.names = []) (he : ∀ j, j ≠ i → e' j = e j) : (T.del i).Dev e' := fun j m h1 => by
  obtain ⟨h2, h3⟩ := getS_pdel h1
  obtain ⟨h4, h5, h6⟩ := h j m h3
  refine ⟨h4, h5, fun h7 => ?_⟩
  have := PT.refs_del hT.ris hg j
  rw [PN.refs_nil hn] at this
  have := h6 h7
  rw [he j h2]
  omega
/-- One entry less: of an inode whose links are one above. -/
theorem less_of {T : PT} {i : Nat} {n : PN} (hg : getS i T.nodes = some n) : T.less i = if n.links - 1 = 0 ∨ n.dir = true then T.del i else T.upd i { n with links := n.links - 1 } := by unfold PT.less; rw [hg]
theorem PN.Ok.lnk {n : PN} (h : n.Ok) {l : Nat} (hl : l ≤ 100) : ({ n with links := l } : PN).Ok := ⟨h.keys, h.dlen, h.secs, h.slots, hl, h.size, h.made, h.nm, h.nlen, h.dd, h.df, h.nris, h.dris⟩
theorem PT.Gr.less {T : PT} {i : Nat} (h : T.Gr) (hv : T.Dev (at1 i (-1))) {n : PN} (hg : getS i T.nodes = some n) (h1 : i ≠ 1) (hn : n.names = []) : (T.less i).Gr ∧ (T.less i).Dev no ∧ (T.less i).used ≤ T.used := by
  obtain ⟨l1, l2, l3⟩ := hv i n hg
  have l4 := l3 h1
  simp only [at1, if_true] at l4
  rw [less_of hg]
  split
  · rename_i hc
    have h0 : T.refs i = 0 := by
      rcases hc with hc | hc
      · omega
      · have := l2 hc; omega
    refine ⟨h.del hg h1 h0 hn, hv.del h.ok hg hn fun j hj => by simp [no, at1, hj], ?_⟩
    have := PT.used_del h.ok.ris hg
    omega
  · rename_i hc
    have hc2 : n.links - 1 ≠ 0 := fun e => hc (.inl e)
    have hlk := (h.ok.get hg).1.links
    refine ⟨h.turn hg rfl rfl rfl ((h.ok.get hg).1.lnk (by omega)), hv.turn h.ok hg rfl rfl (by show 1 ≤ n.links - 1; omega) (fun e => absurd (.inr e) hc) (fun _ => by simp only [at1, no, if_true]; show _ = ((n.links - 1 : Nat) : Int) + _; omega) (fun j hj => by simp [at1, no, hj]), ?_⟩
    have := PT.used_upd h.ok.ris (n' := { n with links := n.links - 1 }) hg
    have e : ({ n with links := n.links - 1 } : PN).count = n.count := rfl
    omega
#print axioms PT.Gr.set
end Go.Proofs.YtolpcfhfcdkokaaGreatDoor
