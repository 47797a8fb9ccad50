/- Joined out of the texts QAgain, QLaw, QBad, QTot, QRuns. -/
import Derived.Test.YtolpcfhfcdkokaaGreatDoorM04
import Derived.Test.YtolpcfhfcdkokaaGreatDoorM23
import Derived.Test.YtolpcfhfcdkokaaGreatDoorM36
import Derived.Test.YtolpcfhfcdkokaaGreatDoorM41
import Derived.Test.YtolpcfhfcdkokaaGreatDoorM43
/-
  A tree that is filled again: all of it.
-/
namespace Go.Proofs.YtolpcfhfcdkokaaGreatDoor

/-- Files' paths that have been told. -/
def FsOk (P : PT) (pre : List Spot) (fs : List (ByteArray × Unit)) : Prop := (∀ y ∈ pre, P.isDir y.2 = false → (getS (pth y.1) fs).isSome = true) ∧ ∀ q, (getS q fs).isSome = true → ∃ y ∈ pre, q = pth y.1
theorem tn1_path (P : PT) (pre : List Spot) (x : Spot) : (P.tn1 pre x).path = pth x.1 := by
  unfold PT.tn1
  split
  · rfl
  · split <;> rfl
theorem tn1_kind (P : PT) (pre : List Spot) (x : Spot) : (P.tn1 pre x).kind = if P.isDir x.2 = true then 2 else 1 := by
  unfold PT.tn1
  split
  · rfl
  · split <;> rfl
theorem node_made {P : PT} (h : P.Inv) (i : Nat) : (P.node i).made ≤ 1099511627776 ∧ (P.node i).size ≤ 136704 := by
  unfold PT.node
  cases e : getS i P.nodes with
  | none => simp
  | some n => exact ⟨(h.gr.ok.get e).1.made, (h.gr.ok.get e).1.size⟩
theorem tn1_may {P : PT} (h : P.Inv) {pre : List Spot} {fs : List (ByteArray × Unit)} (hf : FsOk P pre fs) (x : Spot) : mayT (P.tn1 pre x) fs = true := by
  obtain ⟨hm, hz⟩ := node_made h x.2
  unfold PT.tn1
  by_cases hd : P.isDir x.2 = true
  · rw [if_pos hd]
    unfold mayT
    rw [if_neg (by simp; omega)]
    simp
  · rw [if_neg hd]
    cases hp : pre.find? fun y => decide (y.2 = x.2) with
    | none =>
      unfold mayT
      rw [if_neg (by simp [rdL_length]; omega)]
      simp
    | some y =>
      have hy : y.2 = x.2 := by simpa using List.find?_some hp
      have := hf.1 y (List.mem_of_find?_eq_some hp) (by rw [hy]; simpa using hd)
      unfold mayT
      rw [if_neg (by simp; omega)]
      simp [this]
theorem FsOk.snoc {P : PT} {pre : List Spot} {fs : List (ByteArray × Unit)} (hf : FsOk P pre fs) (x : Spot) : FsOk P (pre ++ [x]) (if (P.tn1 pre x).kind = 1 then putS strK (P.tn1 pre x).path () fs else fs) := by
  rw [tn1_path, tn1_kind]
  cases hx : P.isDir x.2 with
  | true =>
    rw [if_pos rfl, if_neg (by decide)]
    refine ⟨fun y hy hd => ?_, fun q hq => ?_⟩
    · rcases List.mem_append.1 hy with hy | hy
      · exact hf.1 y hy hd
      · rw [List.mem_singleton.1 hy, hx] at hd; cases hd
    · obtain ⟨y, hy, e⟩ := hf.2 q hq
      exact ⟨y, List.mem_append_left _ hy, e⟩
  | false =>
    rw [if_pos (by decide)]
    refine ⟨fun y hy hd => ?_, fun q hq => ?_⟩
    · by_cases e : pth y.1 = pth x.1
      · rw [e, getS_put_same]; rfl
      · rw [getS_put_other strK () e]
        rcases List.mem_append.1 hy with hy | hy
        · exact hf.1 y hy hd
        · rw [List.mem_singleton.1 hy] at e; exact absurd rfl e
    · by_cases e : q = pth x.1
      · exact ⟨x, by simp, e⟩
      · rw [getS_put_other strK () e] at hq
        obtain ⟨y, hy, e⟩ := hf.2 q hq
        exact ⟨y, List.mem_append_left _ hy, e⟩
theorem spots_at {P : PT} (h : P.Inv) (hsh : shorts P.spots) {pre r : List Spot} {x : Spot} (hs : P.spots = pre ++ x :: r) :
    x ∈ P.spots ∧ (∀ j, (x.1, j) ∉ pre) ∧ (∀ a nm, x.1 = a ++ [nm] → a = [] ∨ ∃ d, (a, d) ∈ pre) ∧ (pre.map (·.1)).Nodup := by
  have hso := spots_sorted h.gr.ok
  rw [hs] at hso
  obtain ⟨h1, h2, h3⟩ := List.pairwise_append.1 hso
  refine ⟨by rw [hs]; simp, fun j hj => ?_, fun a nm e => ?_, ?_⟩
  · exact plt_irrefl _ (h3 _ hj x List.mem_cons_self)
  · by_cases ha : a = []
    · exact .inl ha
    have hx : x ∈ P.spots := by rw [hs]; simp
    have hw := (spots_walk h.gr.ok hx).2
    rw [e] at hw
    obtain ⟨d, h4, _⟩ := walk_snoc.1 hw
    have hm := (mem_spots h.gr hsh (a, d)).2 ⟨ha, h4⟩
    have hlt : plt a x.1 := by rw [e]; exact plt_pre a (by simp)
    rw [hs] at hm
    rcases List.mem_append.1 hm with hm | hm
    · exact .inr ⟨d, hm⟩
    · rcases List.mem_cons.1 hm with hm | hm
      · rw [← hm] at hlt; exact absurd hlt (plt_irrefl _)
      · exact absurd ((List.pairwise_cons.1 h2).1 _ hm) (plt_asymm hlt)
  · rw [List.Nodup, List.pairwise_map]
    exact h1.imp fun hp e => by rw [e] at hp; exact plt_irrefl _ hp
theorem fills_go {P : PT} (hP : P.Inv) (hsh : shorts P.spots) (rest : List Tn) : ∀ (L pre r : List Spot) (k : Nat) (fs : List (ByteArray × Unit)) (Q : PT) (φ : Nat → Nat), P.spots = pre ++ (L ++ r) → Rel P Q pre φ → Dt P Q pre φ → FsOk P pre fs →
    ∃ Q' φ' fs', fillsT (P.mks pre L ++ rest) k fs Q = fillsT rest (k + L.length) fs' Q' ∧ Rel P Q' (pre ++ L) φ' ∧ Dt P Q' (pre ++ L) φ' ∧ FsOk P (pre ++ L) fs'
  | [], pre, r, k, fs, Q, φ, hs, h, hd, hf => ⟨Q, φ, fs, rfl, by simpa using h, by simpa using hd, by simpa using hf⟩
  | x :: L, pre, r, k, fs, Q, φ, hs, h, hd, hf => by
    obtain ⟨h1, h2, h3, h4⟩ := spots_at hP hsh (x := x) (r := L ++ r) hs
    obtain ⟨Q1, φ1, e1, hR1, hD1⟩ := fill_step hP h hd h1 hsh h2 h3 h4
    obtain ⟨Q2, φ2, fs2, e2, hR2, hD2, hF2⟩ := fills_go hP hsh rest L (pre ++ [x]) r (k + 1) _ Q1 φ1 (by rw [hs]; simp) hR1 hD1 (hf.snoc x)
    refine ⟨Q2, φ2, fs2, ?_, by simpa using hR2, by simpa using hD2, by simpa using hF2⟩
    rw [PT.mks, List.cons_append, fillsT_go rfl (tn1_may hP hf x) (by rw [e1]), e1, e2, List.length_cons]
    congr 1
    omega
#print axioms fills_go
theorem rel_new {P : PT} (hP : P.Inv) (hI : (PT.new P.sectors P.inodes).Inv) : Rel P (PT.new P.sectors P.inodes) [] (fun k => k) ∧ Dt P (PT.new P.sectors P.inodes) [] (fun k => k) := by
  have hkn : ∀ i, Kn [] i → i = 1 := fun i h => by
    rcases h with h | ⟨_, h⟩
    · exact h
    · cases h
  obtain ⟨r, hr, hrd⟩ := hP.gr.root
  refine ⟨⟨hI, rfl, rfl, fun x hx => (by cases hx), rfl, fun ns j => ?_, fun i i' h h' _ => (hkn i h).trans (hkn i' h').symm, fun j m hj => ?_, fun i hi => ?_, fun i hi hi1 => absurd (hkn i hi) hi1⟩, fun i n m hi hn hm hd => ?_⟩
  · constructor
    · intro h
      cases ns with
      | nil => exact .inl ⟨rfl, (congrArg Prod.fst h).symm⟩
      | cons nm a =>
        obtain ⟨n, k, c1, c2, c3, _⟩ := walk_cons_inv h
        have e : n = ⟨true, 1, 0, 0, [], [], []⟩ := (Option.some.inj c1).symm
        rw [e] at c3; cases c3
    · rintro (⟨rfl, rfl⟩ | ⟨i, hi, _⟩)
      · rfl
      · cases hi
  · refine ⟨j, .inl ?_, rfl⟩
    unfold PT.new at hj
    simp only [getS] at hj
    split at hj
    · rename_i e; exact e.symm
    · cases hj
  · obtain rfl := hkn i hi
    exact ⟨r, _, hr, rfl, hrd.symm, fun e => absurd rfl e, Nat.zero_le _, rfl, fun y hy => by cases hy⟩
  · obtain rfl := hkn i hi
    rw [Option.some.inj (hn.symm.trans hr), hrd] at hd; cases hd
/-- The spots of what has been filled so far. -/
theorem Rel.spots {P Q : PT} {pre r : List Spot} {φ : Nat → Nat} (hP : P.Inv) (h : Rel P Q pre φ) (hs : P.spots = pre ++ r) : Q.spots = pre.map fun y => (y.1, φ y.2) := by
  have hso := spots_sorted hP.gr.ok
  rw [hs] at hso
  refine sorted_ext (R := fun x y : Spot => plt x.1 y.1) (fun a => plt_irrefl _) (fun h1 h2 => plt_trans h1 h2) (spots_sorted h.inv.gr.ok) ?_ fun x => ?_
  · rw [List.pairwise_map]
    exact (List.pairwise_append.1 hso).1
  · constructor
    · intro hx
      obtain ⟨h1, h2⟩ := spots_walk h.inv.gr.ok hx
      rcases (h.wlk _ _).1 h2 with ⟨e, _⟩ | ⟨i, hi, e⟩
      · exact absurd e h1
      · exact List.mem_map.2 ⟨(x.1, i), hi, Prod.ext rfl e.symm⟩
    · intro hx
      obtain ⟨y, hy, rfl⟩ := List.mem_map.1 hx
      obtain ⟨ms, h1, h2, h3, _⟩ := (mem_tl hP.gr.ok 202 [] 1 y).1 (h.sub y hy)
      refine (mem_tl h.inv.gr.ok 202 [] 1 _).2 ⟨ms, h1, h2, h3, ?_⟩
      rw [List.nil_append] at h3
      rw [← h3]
      exact (h.wlk _ _).2 (.inr ⟨y.2, hy, rfl⟩)
theorem find_map {pre : List Spot} {φ : Nat → Nat} {i : Nat} : ∀ l : List Spot, (∀ y ∈ l, φ y.2 = φ i → y.2 = i) → ((l.map fun y => (y.1, φ y.2)).find? fun y => decide (y.2 = φ i)) = (l.find? fun y => decide (y.2 = i)).map fun y => (y.1, φ y.2)
  | [], _ => rfl
  | y :: l, h => by
    rw [List.map_cons, List.find?_cons, List.find?_cons]
    by_cases e : y.2 = i
    · simp [e]
    · have e2 : ¬ φ y.2 = φ i := fun e' => e (h y List.mem_cons_self e')
      simp only [e, e2, decide_false]
      exact find_map (pre := pre) l fun z hz => h z (List.mem_cons_of_mem _ hz)
theorem Rel.mks {P Q : PT} {pre : List Spot} {φ : Nat → Nat} (hP : P.Inv) (h : Rel P Q pre φ) (hd : Dt P Q pre φ) : ∀ (L p0 : List Spot), (∀ y ∈ p0 ++ L, y ∈ pre) → Q.mks (p0.map fun y => (y.1, φ y.2)) (L.map fun y => (y.1, φ y.2)) = P.mks p0 L
  | [], _, _ => rfl
  | x :: L, p0, hm => by
    rw [List.map_cons, PT.mks, PT.mks]
    have ih := Rel.mks hP h hd L (p0 ++ [x]) (fun y hy => hm y (by simpa using hy))
    rw [List.map_append, List.map_singleton] at ih
    rw [ih]
    congr 1
    have hx : x ∈ pre := hm x (by simp)
    have hk : Kn pre x.2 := .inr ⟨x.1, hx⟩
    have hx1 : x.2 ≠ 1 := h.ne1 hP hx
    obtain ⟨n, m, b1, b2, b3, b4, _⟩ := h.node x.2 hk
    have hf := find_map (pre := pre) (φ := φ) (i := x.2) p0 fun y hy e => h.inj _ _ (.inr ⟨y.1, hm y (List.mem_append_left _ hy)⟩) hk e
    unfold PT.tn1
    simp only [isDir_of b1, isDir_of b2, node_of b1, node_of b2, b3, b4 hx1, hf]
    cases hdir : n.dir with
    | true => rfl
    | false =>
      cases p0.find? fun y => decide (y.2 = x.2) with
      | some y => rfl
      | none => simp [hd x.2 n m hk b1 b2 hdir]
/-- What a tree that has been filled so far is dumped as. -/
theorem Rel.dump {P Q : PT} {pre r : List Spot} {φ : Nat → Nat} (hP : P.Inv) (h : Rel P Q pre φ) (hd : Dt P Q pre φ) (hs : P.spots = pre ++ r) (hsh : shorts P.spots) : Q.dump = (P.mks [] pre, 0) := by
  have hq := h.spots hP hs
  have hq2 : shorts Q.spots := by
    rw [hq]
    intro x hx
    obtain ⟨y, hy, rfl⟩ := List.mem_map.1 hx
    exact hsh y (h.sub y hy)
  rw [dump_all h.inv hq2, hq]
  exact Prod.ext (Rel.mks hP h hd pre [] (fun y hy => by simpa using hy)) rfl
#print axioms Rel.dump
end Go.Proofs.YtolpcfhfcdkokaaGreatDoor
/-
  A dump filled again; a dump with a bad node; a dump filled into its own tree: the pure laws.
-/
namespace Go.Proofs.YtolpcfhfcdkokaaGreatDoor

theorem fsOk_nil (P : PT) : FsOk P [] [] := ⟨fun y hy => (by cases hy), fun q hq => by cases hq⟩
/-- Whatever is there has a path. -/
theorem reach_dir {P : PT} (h : P.Inv) {rk : Nat → Nat} (hr : P.Ranked rk) : ∀ (k d : Nat) (n : PN), rk d ≤ k → getS d P.nodes = some n → n.dir = true → ∃ a, P.walk a 1 = (d, 0) := by
  intro k
  induction k with
  | zero =>
    intro d n hk hn hd
    by_cases h1 : d = 1
    · subst h1; exact ⟨[], rfl⟩
    obtain ⟨e, nm, m, h2, h3⟩ := (show ∃ e nm m, getS e P.nodes = some m ∧ getS nm m.names = some d from by
      have h4 := (h.dev d n hn)
      have h5 := h4.2.2 h1
      simp only [no] at h5
      have h6 := h4.1
      have h7 : 0 < P.refs d := by omega
      rw [← edgesTo_len] at h7
      obtain ⟨z, hz⟩ := List.exists_mem_of_length_pos h7
      unfold edgesTo at hz
      obtain ⟨p, hp, hz⟩ := List.mem_flatMap.1 hz
      obtain ⟨q, hq, rfl⟩ := List.mem_map.1 hz
      obtain ⟨hq1, hq2⟩ := List.mem_filter.1 hq
      have hg := getS_of_mem h.gr.ok.ris.nd hp
      refine ⟨p.1, q.1, p.2, hg, ?_⟩
      rw [← of_decide_eq_true hq2]
      exact getS_of_mem (h.gr.ok.get hg).1.nris.nd hq1)
    have := hr e m nm d h2 h3 (by rw [isDir_of hn, hd])
    omega
  | succ k ih =>
    intro d n hk hn hd
    by_cases h1 : d = 1
    · subst h1; exact ⟨[], rfl⟩
    obtain ⟨e, nm, m, h2, h3⟩ := (show ∃ e nm m, getS e P.nodes = some m ∧ getS nm m.names = some d from by
      have h4 := (h.dev d n hn)
      have h5 := h4.2.2 h1
      simp only [no] at h5
      have h6 := h4.1
      have h7 : 0 < P.refs d := by omega
      rw [← edgesTo_len] at h7
      obtain ⟨z, hz⟩ := List.exists_mem_of_length_pos h7
      unfold edgesTo at hz
      obtain ⟨p, hp, hz⟩ := List.mem_flatMap.1 hz
      obtain ⟨q, hq, rfl⟩ := List.mem_map.1 hz
      obtain ⟨hq1, hq2⟩ := List.mem_filter.1 hq
      have hg := getS_of_mem h.gr.ok.ris.nd hp
      refine ⟨p.1, q.1, p.2, hg, ?_⟩
      rw [← of_decide_eq_true hq2]
      exact getS_of_mem (h.gr.ok.get hg).1.nris.nd hq1)
    have hlt := hr e m nm d h2 h3 (by rw [isDir_of hn, hd])
    have hmd : m.dir = true := by
      cases e2 : m.dir with
      | true => rfl
      | false => rw [((h.gr.ok.get h2).1.df e2).2] at h3; cases h3
    obtain ⟨a, ha⟩ := ih e m (by omega) h2 hmd
    exact ⟨a ++ [nm], walk_snoc.2 ⟨e, ha, m, h2, hmd, h3⟩⟩
theorem reach {P : PT} (h : P.Inv) (hsh : shorts P.spots) {i : Nat} {n : PN} (hn : getS i P.nodes = some n) : Kn P.spots i := by
  by_cases h1 : i = 1
  · exact .inl h1
  obtain ⟨rk, hr⟩ := h.gr.rank
  have h4 := (h.dev i n hn)
  have h5 := h4.2.2 h1
  simp only [no] at h5
  have h6 := h4.1
  have h7 : 0 < P.refs i := by omega
  rw [← edgesTo_len] at h7
  obtain ⟨z, hz⟩ := List.exists_mem_of_length_pos h7
  unfold edgesTo at hz
  obtain ⟨p, hp, hz⟩ := List.mem_flatMap.1 hz
  obtain ⟨q, hq, rfl⟩ := List.mem_map.1 hz
  obtain ⟨hq1, hq2⟩ := List.mem_filter.1 hq
  have hg := getS_of_mem h.gr.ok.ris.nd hp
  have h3 : getS q.1 p.2.names = some i := by
    rw [← of_decide_eq_true hq2]
    exact getS_of_mem (h.gr.ok.get hg).1.nris.nd hq1
  have hmd : p.2.dir = true := by
    cases e2 : p.2.dir with
    | true => rfl
    | false => rw [((h.gr.ok.get hg).1.df e2).2] at h3; cases h3
  obtain ⟨a, ha⟩ := reach_dir h hr _ p.1 p.2 (Nat.le_refl _) hg hmd
  exact .inr ⟨a ++ [q.1], (mem_spots h.gr hsh _).2 ⟨by simp, walk_snoc.2 ⟨p.1, ha, p.2, hg, hmd, h3⟩⟩⟩
theorem Rel.used {P Q : PT} {pre : List Spot} {φ : Nat → Nat} (hP : P.Inv) (h : Rel P Q pre φ) : Q.used ≤ P.used := by
  refine sum_inj (fun p : Nat × PN => p.2.count) PN.count (fun j y => Kn pre y ∧ j = φ y) Q.nodes P.nodes h.inv.gr.ok.ris.nd hP.gr.ok.ris.nd (fun p hp => ?_) (fun p hp q hq y h5 h6 => by rw [h5.2, h6.2])
  have hg := getS_of_mem h.inv.gr.ok.ris.nd hp
  obtain ⟨y, hy, e⟩ := h.all _ _ hg
  obtain ⟨n', m', a1, a2, _, _, a5, _⟩ := h.node y hy
  rw [e, a2] at hg
  exact ⟨y, n', ⟨hy, e⟩, a1, by rw [← Option.some.inj hg]; exact a5⟩
theorem Rel.same {P Q : PT} {φ : Nat → Nat} (hP : P.Inv) (hsh : shorts P.spots) (h : Rel P Q P.spots φ) : Q.nodes.length = P.nodes.length := by
  have a : (Q.nodes.map fun _ => 1).sum ≤ sumV (fun _ => 1) P.nodes := by
    refine sum_inj (fun _ : Nat × PN => 1) (fun _ => 1) (fun j y => Kn P.spots y ∧ j = φ y) Q.nodes P.nodes h.inv.gr.ok.ris.nd hP.gr.ok.ris.nd (fun p hp => ?_) (fun p hp q hq y h5 h6 => by rw [h5.2, h6.2])
    have hg := getS_of_mem h.inv.gr.ok.ris.nd hp
    obtain ⟨y, hy, e⟩ := h.all _ _ hg
    obtain ⟨n', m', a1, _⟩ := h.node y hy
    exact ⟨y, n', ⟨hy, e⟩, a1, Nat.le_refl _⟩
  have b : (P.nodes.map fun _ => 1).sum ≤ sumV (fun _ => 1) Q.nodes := by
    refine sum_inj (fun _ : Nat × PN => 1) (fun _ => 1) (fun y j => Kn P.spots y ∧ j = φ y) P.nodes Q.nodes hP.gr.ok.ris.nd h.inv.gr.ok.ris.nd (fun p hp => ?_) (fun p hp q hq j h5 h6 => h.inj _ _ h5.1 h6.1 (h5.2.symm.trans h6.2))
    have hk := reach hP hsh (getS_of_mem hP.gr.ok.ris.nd hp)
    obtain ⟨n', m', _, a2, _⟩ := h.node _ hk
    exact ⟨_, m', ⟨hk, rfl⟩, a2, Nat.le_refl _⟩
  have c : (Q.nodes.map fun _ => 1).sum = Q.nodes.length := sumV_one Q.nodes
  have d : (P.nodes.map fun _ => 1).sum = P.nodes.length := sumV_one P.nodes
  have e := sumV_one P.nodes
  have f := sumV_one Q.nodes
  omega
/-- A dump is filled again. -/
theorem again_law {P : PT} (hP : P.Inv) (hI : (PT.new P.sectors P.inodes).Inv) (h0 : P.dump.2 = 0) :
    ∃ Q, (PT.new P.sectors P.inodes).fill P.dump.1 = (Q, P.dump.1.length, 0) ∧ Q.Inv ∧ Q.dump = (P.dump.1, 0) ∧ Q.used ≤ P.used ∧ Q.nodes.length = P.nodes.length ∧ Q.sectors = P.sectors ∧ Q.inodes = P.inodes := by
  obtain ⟨h1, hsh⟩ := dump_ok h0
  obtain ⟨hR, hD⟩ := rel_new hP hI
  obtain ⟨Q, φ, fs, e, hR2, hD2, _⟩ := fills_go hP hsh [] P.spots [] [] 0 [] _ _ (by simp) hR hD (fsOk_nil P)
  rw [List.nil_append] at hR2 hD2
  refine ⟨Q, ?_, hR2.inv, ?_, hR2.used hP, hR2.same hP hsh, hR2.sec, hR2.ino⟩
  · unfold PT.fill
    rw [h1, ← List.append_nil (P.mks [] P.spots), e, List.append_nil, P.mks_len]
    simp [fillsT]
  · rw [h1]; exact hR2.dump hP hD2 (r := []) (by simp) hsh
/-- A dump with a bad node. -/
theorem bad_law {P : PT} (hP : P.Inv) (hI : (PT.new P.sectors P.inodes).Inv) (h0 : P.dump.2 = 0) (k : Nat) (hk : k < P.dump.1.length) (x : Tn) (rest : List Tn)
    (hx : ∀ fs : List (ByteArray × Unit), (∀ q, (getS q fs).isSome = true → ∃ ns, q = pth ns) → mayT x fs = false) :
    ∃ Q, (PT.new P.sectors P.inodes).fill (P.dump.1.take k ++ x :: rest) = (Q, k, 171) ∧ Q.Inv ∧ Q.dump = (P.dump.1.take k, 0) := by
  obtain ⟨h1, hsh⟩ := dump_ok h0
  obtain ⟨hR, hD⟩ := rel_new hP hI
  obtain ⟨Q, φ, fs, e, hR2, hD2, hF2⟩ := fills_go hP hsh (x :: rest) (P.spots.take k) [] (P.spots.drop k) 0 [] _ _ (by simp) hR hD (fsOk_nil P)
  rw [List.nil_append] at hR2 hD2 hF2
  have ht : P.dump.1.take k = P.mks [] (P.spots.take k) := by
    have := P.mks_append (P.spots.take k) (P.spots.drop k) []
    rw [List.take_append_drop] at this
    rw [h1, this, List.take_append_of_le_length, List.take_of_length_le]
    · rw [P.mks_len, List.length_take]; omega
    · rw [P.mks_len, List.length_take]; rw [h1, P.mks_len] at hk; omega
  refine ⟨Q, ?_, hR2.inv, ?_⟩
  · unfold PT.fill
    rw [ht, e, fillsT_no rfl (hx fs fun q hq => let ⟨y, _, e⟩ := hF2.2 q hq; ⟨y.1, e⟩)]
    rw [h1, P.mks_len] at hk
    simp [List.length_take]
    omega
  · rw [ht]; exact hR2.dump hP hD2 (r := P.spots.drop k) (by simp) hsh
/-- A dump filled into its own tree. -/
theorem first_law {P : PT} (hP : P.Inv) (h0 : P.dump.2 = 0) (hne : P.dump.1 ≠ []) : P.fill P.dump.1 = (P, 0, 111) := by
  obtain ⟨h1, hsh⟩ := dump_ok h0
  rw [h1] at hne ⊢
  cases hs : P.spots with
  | nil => rw [hs] at hne; exact absurd rfl hne
  | cons x r =>
    have hx : x ∈ P.spots := by rw [hs]; simp
    obtain ⟨h2, h3⟩ := spots_walk hP.gr.ok hx
    have hsz := hsh x hx
    obtain ⟨ns, i⟩ := x
    rcases List.eq_nil_or_concat ns with rfl | ⟨a, nm, rfl⟩
    · exact absurd rfl h2
    rw [List.concat_eq_append] at *
    simp only at h3 hsz
    have hc := walk_chk hP.gr _ h3
    have hsp := spl_pth hc hsz
    obtain ⟨d, h4, n, h5, h6, h7⟩ := walk_snoc.1 h3
    obtain ⟨m, hm⟩ := hP.gr.ents _ _ _ _ h5 h7
    have hmk : ∀ dir made, P.make (a ++ [nm]) dir made = (P, .err 111) := fun dir made => by
      unfold PT.make
      rw [last_snoc nm h4 h5 h6, lastN_snoc]
      simp only [node_of h5]
      rw [if_neg (by simp), if_pos (by rw [h7]; rfl)]
    have hmm := (hP.gr.ok.get hm).1.made
    have hrun : ∀ k : Int, k = 1 ∨ k = 2 → P.run ⟨k, pth (a ++ [nm]), emp, 0, 0, [], (m.made : Int), 0⟩ = (P, .err 111) := fun k hk => by
      rcases hk with rfl | rfl
      · unfold PT.run
        rw [if_neg (by unfold Opn.fine useP useT useO useL useD useM useF; simp; omega), if_neg (by simp [Opn.code1, hsp]), if_neg (by simp [Opn.code2])]
        simp [PT.does, Opn.from_, hsp, hmk, Ans.told, Ans.err]
      · unfold PT.run
        rw [if_neg (by unfold Opn.fine useP useT useO useL useD useM useF; simp; omega), if_neg (by simp [Opn.code1, hsp]), if_neg (by simp [Opn.code2])]
        simp [PT.does, Opn.from_, hsp, hmk, Ans.told, Ans.err]
    have hf : fillT P (P.tn1 [] (a ++ [nm], i)) = (P, 111) := by
      unfold PT.tn1 fillT
      cases hd : m.dir with
      | true =>
        simp only [isDir_of hm, node_of hm, hd, if_true]
        unfold opM
        rw [hrun 2 (.inr rfl)]
        rfl
      | false =>
        simp only [isDir_of hm, node_of hm, hd, Bool.false_eq_true, if_false, List.find?_nil]
        unfold opC1
        rw [if_neg (by decide), if_neg (by decide), hrun 1 (.inl rfl), if_pos (by show (111 : Nat) ≠ 0; decide)]
        rfl
    unfold PT.fill
    rw [PT.mks, fillsT_bad rfl (tn1_may hP (fsOk_nil P) _) (by rw [hf]; show (111 : Nat) ≠ 0; decide), hf]
#print axioms again_law
#print axioms bad_law
#print axioms first_law
end Go.Proofs.YtolpcfhfcdkokaaGreatDoor
/-
  Nodes that may not be made: DumpBad's six.
-/
namespace Go.Proofs.YtolpcfhfcdkokaaGreatDoor

theorem bad_kind (x : Tn) (k : Int) (h1 : k ≠ 1) (h2 : k ≠ 2) (fs : List (ByteArray × Unit)) : mayT { x with kind := k } fs = false := by
  unfold mayT
  split
  · rfl
  · first | simp | simp [h1] | simp [h1, h2]
theorem bad_made (x : Tn) (m : Int) (h : m < 0 ∨ 1099511627776 < m) (fs : List (ByteArray × Unit)) : mayT { x with made := m } fs = false := by
  unfold mayT
  rw [if_pos (by simp only; omega)]
theorem bad_same (x : Tn) (q : ByteArray) (hq : q ≠ emp) (fs : List (ByteArray × Unit)) (hn : (getS q fs).isSome = false) : mayT { x with same := q } fs = false := by
  unfold mayT
  split
  · rfl
  · split
    · simp [hq]
    · split
      · rfl
      · simp [hq, hn]
theorem bad_data (x : Tn) (q : ByteArray) (hq : q ≠ emp) (d : List UInt8) (hd : d ≠ []) (fs : List (ByteArray × Unit)) : mayT { x with same := q, data := d } fs = false := by
  unfold mayT
  split
  · rfl
  · split
    · simp [hq]
    · split
      · rfl
      · simp [hq, hd]
/-- 'no path'. -/
def noP : ByteArray := ⟨#[110, 111, 32, 112, 97, 116, 104]⟩
theorem pth_head (ns : List ByteArray) : (pth ns).data.toList.head? = some 47 := by
  cases ns with
  | nil => rfl
  | cons a r => rw [pth_data (by simp)]; rfl
theorem noP_no (ns : List ByteArray) : noP ≠ pth ns := fun e => by
  have h := pth_head ns
  rw [← e] at h
  exact absurd h (by decide)
theorem bad_noP (x : Tn) (fs : List (ByteArray × Unit)) (h : ∀ q, (getS q fs).isSome = true → ∃ ns, q = pth ns) : mayT { x with same := noP } fs = false := by
  refine bad_same x noP (fun e => ?_) fs ?_
  · have := congrArg (fun b : ByteArray => b.data.size) e
    exact absurd this (by decide)
  · cases e : (getS noP fs).isSome with
    | false => rfl
    | true =>
      obtain ⟨ns, h9⟩ := h _ e
      exact absurd h9 (noP_no ns)
#print axioms bad_noP
end Go.Proofs.YtolpcfhfcdkokaaGreatDoor
/-
  How much a dump holds.
-/
namespace Go.Proofs.YtolpcfhfcdkokaaGreatDoor

theorem mks_mem {P : PT} : ∀ (L pre : List Spot) (x : Tn), x ∈ P.mks pre L → ∃ p y, y ∈ L ∧ (∀ z ∈ p, z ∈ pre ∨ z ∈ L) ∧ x = P.tn1 p y
  | [], _, x, h => by cases h
  | y :: r, pre, x, h => by
    rw [PT.mks] at h
    rcases List.mem_cons.1 h with rfl | h
    · exact ⟨pre, y, List.mem_cons_self, fun z hz => .inl hz, rfl⟩
    · obtain ⟨p, y', h1, h2, h3⟩ := mks_mem r (pre ++ [y]) x h
      refine ⟨p, y', List.mem_cons_of_mem _ h1, fun z hz => ?_, h3⟩
      rcases h2 z hz with h4 | h4
      · rcases List.mem_append.1 h4 with h4 | h4
        · exact .inl h4
        · exact .inr (by rw [List.mem_singleton.1 h4]; exact List.mem_cons_self)
      · exact .inr (List.mem_cons_of_mem _ h4)
/-- A dump's node. -/
theorem dump_node {P : PT} (h : P.Inv) (h0 : P.dump.2 = 0) (x : Tn) (hx : x ∈ P.dump.1) : x.path.size ≤ 400 ∧ x.same.size ≤ 400 ∧ x.data.length ≤ 136704 ∧ 0 ≤ x.made ∧ x.made ≤ 1099511627776 ∧ (x.kind = 1 ∨ x.kind = 2) := by
  obtain ⟨h1, hsh⟩ := dump_ok h0
  rw [h1] at hx
  obtain ⟨p, y, hy, hp, rfl⟩ := mks_mem _ _ _ hx
  have hs := hsh y hy
  obtain ⟨hm, hz⟩ := node_made h y.2
  have e0 : emp.size = 0 := rfl
  unfold PT.tn1
  split
  · exact ⟨hs, by simp [e0], by simp, by simp, by simp only; omega, .inr rfl⟩
  · split
    · rename_i z hf
      have hz2 : z ∈ P.spots := by
        rcases hp z (List.mem_of_find?_eq_some hf) with h9 | h9
        · cases h9
        · exact h9
      exact ⟨hs, hsh z hz2, by simp, by simp, by simp only; omega, .inl rfl⟩
    · exact ⟨hs, by simp [e0], by simp only [rdL_length]; exact hz, by simp, by simp only; omega, .inl rfl⟩
#print axioms dump_node
theorem sum_bound {α : Type} (f : α → Nat) (c : Nat) : ∀ l : List α, (∀ x ∈ l, f x ≤ c) → (l.map f).sum ≤ l.length * c
  | [], _ => by simp
  | x :: r, h => by
    have h1 := h x List.mem_cons_self
    have h2 := sum_bound f c r fun y hy => h y (List.mem_cons_of_mem _ hy)
    simp only [List.map_cons, List.sum_cons, List.length_cons, Nat.succ_mul]
    omega
theorem dump_tot {P : PT} (h : P.Inv) (h0 : P.dump.2 = 0) (l : List Nd) (hl : l.map Nd.tn = P.dump.1) : l.length ≤ 4096 ∧ totB l ≤ 1000000000 := by
  have hn : l.length ≤ 4096 := by
    have h1 := congrArg List.length hl
    rw [List.length_map, (dump_ok h0).1, P.mks_len] at h1
    have := spots_few h
    omega
  refine ⟨hn, ?_⟩
  have h2 : totB l ≤ l.length * 137504 := by
    refine sum_bound _ _ l fun x hx => ?_
    obtain ⟨h3, h4, h5, _⟩ := dump_node h h0 x.tn (by rw [← hl]; exact List.mem_map.2 ⟨x, hx, rfl⟩)
    simp only [Nd.tn] at h3 h4 h5
    omega
  omega
#print axioms dump_tot
end Go.Proofs.YtolpcfhfcdkokaaGreatDoor
/-
  A script's operations, one behind the other: the pure law.
-/
namespace Go.Proofs.YtolpcfhfcdkokaaGreatDoor

noncomputable def PT.runs (T : PT) (l : List Opn) : PT := l.foldl (fun T o => (T.run o).1) T
theorem inv_runs : ∀ (l : List Opn) {T : PT}, T.Inv → (T.runs l).Inv
  | [], _, h => h
  | o :: r, _, h => inv_runs r (inv_run h o)
/-- What the sizes are, they stay. -/
noncomputable def PT.after (T : PT) (l : List Os) (j : Nat) : PT := T.runs ((l.take j).map (·.o))
theorem after_zero (T : PT) (l : List Os) : T.after l 0 = T := rfl
theorem after_succ (T : PT) (l : List Os) (j : Nat) (h : j < l.length) : T.after l (j + 1) = ((T.after l j).run l[j].o).1 := by
  unfold PT.after PT.runs
  rw [List.take_succ_eq_append_getElem h, List.map_append, List.foldl_append]
  rfl
theorem inv_after {T : PT} (h : T.Inv) (l : List Os) (j : Nat) : (T.after l j).Inv := inv_runs _ h
theorem after_all (T : PT) (l : List Os) (j : Nat) (h : j = l.length) : T.after l j = T.runs (l.map (·.o)) := by
  unfold PT.after
  rw [h, List.take_length]
theorem mem_le_sum {α : Type} (f : α → Nat) : ∀ {l : List α} {x : α}, x ∈ l → f x ≤ (l.map f).sum
  | y :: r, x, h => by
    rw [List.map_cons, List.sum_cons]
    rcases List.mem_cons.1 h with rfl | h
    · omega
    · have := mem_le_sum f h; omega
theorem light_parts {l : List Os} (h : lightB l = true) : totO l ≤ 2097152 ∧ l.length ≤ 400 := by simpa [lightB] using h
theorem light_one {l : List Os} (h : totO l ≤ 2097152) {x : Os} (hx : x ∈ l) : x.o.data.length ≤ 2097152 ∧ x.o.path.size ≤ 2097152 ∧ x.o.dst.size ≤ 2097152 := by
  have h1 : wtO x ≤ totO l := mem_le_sum wtO hx
  unfold wtO at h1
  omega
/-- The numbers of an operation fit. -/
def osWf (x : Os) : Prop := (x.o.off ≤ 9223372036854775807 ∧ -9223372036854775808 ≤ x.o.off) ∧ (x.o.len ≤ 9223372036854775807 ∧ -9223372036854775808 ≤ x.o.len)
/-- The sizes stay. -/
def Sz (T T' : PT) : Prop := T'.sectors = T.sectors ∧ T'.inodes = T.inodes
theorem Sz.refl (T : PT) : Sz T T := ⟨rfl, rfl⟩
theorem Sz.trans {T T1 T2 : PT} (h : Sz T T1) (k : Sz T1 T2) : Sz T T2 := ⟨k.1.trans h.1, k.2.trans h.2⟩
theorem sz_upd (T : PT) (i : Nat) (n : PN) : Sz T (T.upd i n) := ⟨rfl, rfl⟩
theorem sz_less (T : PT) (i : Nat) : Sz T (T.less i) := by
  unfold PT.less
  split
  · split
    · exact ⟨rfl, rfl⟩
    · exact ⟨rfl, rfl⟩
  · exact Sz.refl T
theorem sz_clr (T : PT) (i : Nat) (nm : ByteArray) : Sz T (T.clr i nm) := by
  unfold PT.clr
  split
  · exact ⟨rfl, rfl⟩
  · exact Sz.refl T
theorem sz_ins (T : PT) (d k : Nat) (nm : ByteArray) (i : Nat) : Sz T (T.ins d k nm i) := by
  unfold PT.ins
  split
  · exact ⟨rfl, rfl⟩
  · exact Sz.refl T
theorem sz_make (T : PT) (l : List ByteArray) (dir : Bool) (made : Nat) : Sz T (T.make l dir made).1 := by
  unfold PT.make
  repeat' split
  all_goals first | exact Sz.refl T | exact (sz_upd _ _ _).trans (sz_ins _ _ _ _ _)
theorem sz_link (T : PT) (l m : List ByteArray) : Sz T (T.link l m).1 := by
  unfold PT.link
  repeat' split
  all_goals first | exact Sz.refl T | exact (sz_upd _ _ _).trans (sz_ins _ _ _ _ _)
theorem sz_unlink (T : PT) (l : List ByteArray) : Sz T (T.unlink l).1 := by
  unfold PT.unlink
  repeat' split
  all_goals first | exact Sz.refl T | exact (sz_clr _ _ _).trans (sz_less _ _)
theorem sz_rmdir (T : PT) (l : List ByteArray) : Sz T (T.rmdir l).1 := by
  unfold PT.rmdir
  repeat' split
  all_goals first | exact Sz.refl T | exact ((sz_clr _ _ _).trans (sz_less _ _)) | exact (((sz_clr _ _ _).trans (sz_less _ _)).trans (sz_less _ _))
theorem sz_rename (T : PT) (l m : List ByteArray) : Sz T (T.rename l m).1 := by
  unfold PT.rename
  repeat' split
  all_goals first | exact Sz.refl T | exact (sz_ins _ _ _ _ _).trans (sz_clr _ _ _) | exact ((sz_ins _ _ _ _ _).trans (sz_clr _ _ _)).trans (sz_less _ _)
theorem sz_write (T : PT) (i : Nat) (off : Int) (d : List UInt8) : Sz T (T.write i off d).1 := by
  unfold PT.write
  split
  · exact Sz.refl T
  · simp only
    split
    · exact sz_upd _ _ _
    · exact Sz.refl T
theorem sz_trunc (T : PT) (i : Nat) (n : Int) : Sz T (T.trunc i n).1 := by
  unfold PT.trunc
  repeat' split
  all_goals first | exact Sz.refl T | exact sz_upd _ _ _
theorem sz_asks (T : PT) (o : Opn) (i : Nat) : Sz T (T.asks o i).1 := by
  unfold PT.asks
  repeat' split
  all_goals first | exact Sz.refl T | exact sz_write _ _ _ _ | exact sz_trunc _ _ _
theorem sz_does (T : PT) (o : Opn) (l m : List ByteArray) : Sz T (T.does o l m).1 := by
  unfold PT.does
  repeat' split
  all_goals first | exact Sz.refl T | exact sz_make _ _ _ _ | exact sz_link _ _ _ | exact sz_unlink _ _ | exact sz_rmdir _ _ | exact sz_rename _ _ _ | exact sz_asks _ _ _
theorem sz_run (T : PT) (o : Opn) : Sz T (T.run o).1 := by
  unfold PT.run
  repeat' split
  all_goals first | exact Sz.refl T | exact sz_does _ _ _ _
theorem sz_runs : ∀ (l : List Opn) (T : PT), Sz T (T.runs l)
  | [], T => Sz.refl T
  | o :: r, T => (sz_run T o).trans (sz_runs r _)
#print axioms inv_runs
end Go.Proofs.YtolpcfhfcdkokaaGreatDoor
