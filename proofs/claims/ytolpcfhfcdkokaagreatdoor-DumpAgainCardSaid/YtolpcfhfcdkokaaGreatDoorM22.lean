/- Joined out of the texts QOps. -/
import Derived.Test.YtolpcfhfcdkokaaGreatDoorM21
/-
  What always holds of a tree in memory holds behind each operation.
-/
namespace Go.Proofs.YtolpcfhfcdkokaaGreatDoor

/-! ### How many sectors -/
theorem tabsOf_mono {a b : List Nat} (h : ∀ k ∈ a, k ∈ b) : tabsOf a ≤ tabsOf b := by
  unfold tabsOf
  rw [← List.countP_eq_length_filter, ← List.countP_eq_length_filter]
  refine List.countP_mono_left fun z _ hz => ?_
  obtain ⟨k, hk, h1⟩ := List.any_eq_true.1 hz
  exact List.any_eq_true.2 ⟨k, h k hk, h1⟩
theorem cntK_mono {a b : List Nat} (ha : a.Nodup) (h : ∀ k ∈ a, k ∈ b) : cntK a ≤ cntK b := by
  have := tabsOf_mono h
  have := length_le_of_subset ha h
  unfold cntK
  omega
theorem count_dir {n : PN} (h : n.Ok) (hd : n.dir = true) : n.count = cntK (List.range n.slots.length) := by
  unfold PN.count PN.keys
  rw [h.dd hd]
  rfl
theorem count_file {n : PN} (h : n.Ok) (hd : n.dir = false) : n.count = cntK (n.data.map (·.1)) := by
  unfold PN.count PN.keys
  rw [(h.df hd).1]
  simp
theorem place_room {T : PT} {n : PN} (hn : n.Ok) (hd : n.dir = true) (hr : T.used + T.inodes + 1 ≤ T.sectors) (h : (T.place n).2 = 0) (nm : ByteArray) (i : Nat) : (n.set (T.place n).1 nm i).count + T.used + T.inodes + 1 ≤ T.sectors + n.count := by
  have h1 : (n.set (T.place n).1 nm i).count = cntK (List.range (n.set (T.place n).1 nm i).slots.length) := by
    unfold PN.count PN.keys
    have : (n.set (T.place n).1 nm i).data = [] := hn.dd hd
    rw [this]
    rfl
  have h2 := count_dir hn hd
  rw [h1]
  unfold PT.place at h ⊢
  cases hf : firstIdx emp n.slots with
  | some k =>
    have := (firstIdx_lt hf).1
    simp only [PN.set, if_neg (Nat.ne_of_lt this), List.length_set]
    omega
  | none =>
    rw [hf] at h
    simp only at h ⊢
    by_cases h3 : n.slots.length = 1068
    · rw [if_pos h3] at h; cases h
    · rw [if_neg h3] at h ⊢
      by_cases h4 : T.room n.count (cntK (List.range (n.slots.length + 1))) = true
      · rw [if_pos h4]
        unfold PT.room at h4
        have h5 := of_decide_eq_true h4
        simp only [PN.set, if_true, List.length_append, List.length_singleton]
        omega
      · rw [if_neg h4] at h; cases h

/-! ### What an inode is named by -/
theorem PT.Gr.ne1 {T : PT} (h : T.Gr) {i j : Nat} {n : PN} {nm : ByteArray} (hg : getS i T.nodes = some n) (hj : getS nm n.names = some j) : j ≠ 1 := by
  rintro rfl
  exact (PT.refs_pos h.ok).2 ⟨_, _, _, hg, hj⟩ h.root0
theorem PT.Gr.loop {T : PT} (h : T.Gr) {i : Nat} {n : PN} {nm : ByteArray} (hg : getS i T.nodes = some n) : getS nm n.names ≠ some i := fun hj => by
  obtain ⟨rk, hr⟩ := h.rank
  cases hd : n.dir with
  | true =>
    have := hr i n nm i hg hj (by rw [isDir_of hg, hd])
    omega
  | false =>
    rw [((h.ok.get hg).1.df hd).2] at hj
    cases hj
theorem PT.wf_of {T : PT} {e : Nat → Int} (h : T.Gr) (hv : T.Dev e) : T.Wf := ⟨h.ok, h.root, h.ents, h.slotn, fun i n hg => (hv i n hg).1, h.nemp, h.rank⟩

/-! ### unlink, rmdir -/
theorem one_at1 (i j : Nat) (_e : Nat → Int) : at1 i (-1) j = no j - one_ j i := by
  unfold at1 no one_
  by_cases h : j = i
  · subst h; simp
  · rw [if_neg h, if_neg (fun e => h e.symm)]; simp
theorem inv_take {T : PT} (h : T.Inv) {d i : Nat} {n m : PN} {nm : ByteArray} (hn : getS d T.nodes = some n) (hd : n.dir = true) (hnm : getS nm n.names = some i) (hm : getS i T.nodes = some m) (hmn : m.names = []) : ((T.clr d nm).less i).Inv := by
  have hid : i ≠ d := fun e => h.gr.loop hn (e ▸ hnm)
  rw [clr_of hn]
  have hG := h.gr.clear hn hd hnm
  have hD : (T.upd d (n.clear nm)).Dev (at1 i (-1)) := h.dev.clear h.gr.ok hn hnm fun j => one_at1 i j no
  obtain ⟨h1, h2, h3⟩ := hG.less hD ((upd_other _ hid).trans hm) (h.gr.ne1 hn hnm) hmn
  refine ⟨h1, h2, ?_⟩
  have h4 := PT.used_upd h.gr.ok.ris (n' := n.clear nm) hn
  rw [count_clear] at h4
  have h5 := h.room
  have h6 : ((T.upd d (n.clear nm)).less i).inodes = T.inodes ∧ ((T.upd d (n.clear nm)).less i).sectors = T.sectors := by
    unfold PT.less
    split
    · split <;> exact ⟨rfl, rfl⟩
    · exact ⟨rfl, rfl⟩
  rw [h6.1, h6.2]
  omega
theorem inv_unlink {T : PT} (h : T.Inv) (l : List ByteArray) : (T.unlink l).1.Inv := by
  have hin := entry_in h.wf l
  unfold PT.unlink
  split
  · exact h
  · rename_i h0
    obtain ⟨n, m, hn, hd, hnm, hm, -⟩ := hin (by simpa using h0)
    split
    · exact h
    · rename_i h1
      rw [isDir_of hm] at h1
      exact inv_take h hn hd hnm hm ((h.gr.ok.get hm).1.df (by simpa using h1)).2
theorem inv_rmdir {T : PT} (h : T.Inv) (l : List ByteArray) : (T.rmdir l).1.Inv := by
  have hin := entry_in h.wf l
  unfold PT.rmdir
  split
  · exact h
  · rename_i h0
    obtain ⟨n, m, hn, hd, hnm, hm, -⟩ := hin (by simpa using h0)
    split
    · exact h
    · split
      · exact h
      · rename_i h1 h2
        rw [node_of hm] at h2
        exact inv_take h hn hd hnm hm (List.eq_nil_of_length_eq_zero (by omega))

/-! ### link -/
theorem inv_ins {T : PT} {e : Nat → Int} (h : T.Gr) (hv : T.Dev e) (hr : T.used + T.inodes + 1 ≤ T.sectors) {d i : Nat} {n m : PN} {nm : ByteArray} (hn : getS d T.nodes = some n) (hd : n.dir = true) (hp : (T.place n).2 = 0) (hc : chk nm = true) (h0 : getS nm n.names = none) (hm : getS i T.nodes = some m) (hi : i ≠ 1)
    (hk : ∃ rk : Nat → Nat, T.Ranked rk ∧ (T.isDir i = true → rk d < rk i)) {e' : Nat → Int} (he : ∀ j, e' j = e j + one_ j i) :
    (T.upd d (n.set (T.place n).1 nm i)).Gr ∧ (T.upd d (n.set (T.place n).1 nm i)).Dev e' ∧ (T.upd d (n.set (T.place n).1 nm i)).used + T.inodes + 1 ≤ T.sectors := by
  have hw := PT.wf_of h hv
  have hok := (h.ok.get hn).1
  have hf : n.Fit (T.place n).1 nm := fit_place hok hp
  have hio := h.ok.ino
  have hi2 := (h.ok.get hm).2
  refine ⟨h.set hn hd hf hc hm hi (set_ok hw hn hd hf (chk_40 hc) (by omega)) hk, hv.set h.ok hn _ _ _ fun j => by rw [atV_none h0, he]; simp, ?_⟩
  have h1 := PT.used_upd h.ok.ris (n' := n.set (T.place n).1 nm i) hn
  have h2 := place_room hok hd hr hp nm i
  omega
theorem upd_inodes (T : PT) (i : Nat) (n : PN) : (T.upd i n).inodes = T.inodes := rfl
theorem place_of {T T' : PT} (n : PN) (h1 : T'.sectors = T.sectors) (h2 : T'.inodes = T.inodes) (h3 : T'.used = T.used) : T'.place n = T.place n := by
  unfold PT.place PT.room
  rw [h1, h2, h3]
theorem inv_link {T : PT} (h : T.Inv) (l m : List ByteArray) (hc : ∀ x ∈ m, chk x = true) : (T.link l m).1.Inv := by
  have hlast := last_in h.wf m
  have hwalk := walk_stays h.wf l 1 (let ⟨n, h, _⟩ := h.wf.root; ⟨n, h⟩)
  unfold PT.link
  split
  · exact h
  rename_i h0
  obtain ⟨x, hx⟩ := hwalk (by simpa using h0)
  split
  · exact h
  rename_i h1
  obtain ⟨n, hn, hd⟩ := hlast (by simpa using h1)
  rw [node_of hn, node_of hx, isDir_of hx]
  split
  · exact h
  rename_i h2
  split
  · exact h
  rename_i h3
  split
  · exact h
  rename_i h4
  split
  · exact h
  rename_i h5
  have hxf : x.dir = false := by simpa using h3
  have hp : (T.place n).2 = 0 := by simpa using h5
  have h0' : getS (lastN m) n.names = none := by simpa using h2
  have hne : (T.last m).1 ≠ (T.walk l 1).1 := fun e => by
    rw [e, hx] at hn
    rw [Option.some.inj hn, hd] at hxf
    cases hxf
  have hi1 : (T.walk l 1).1 ≠ 1 := fun e => by
    obtain ⟨r, hr, hrd⟩ := h.gr.root
    rw [e, hr] at hx
    rw [← Option.some.inj hx, hrd] at hxf
    cases hxf
  have hml : m ≠ [] := fun e => by
    unfold PT.last at h1
    rw [if_pos e] at h1
    exact h1 (by simp)
  have hcn : chk (lastN m) = true := by
    unfold lastN
    rw [List.getLastD_eq_getLast?, List.getLast?_eq_some_getLast hml]
    exact hc _ (List.getLast_mem hml)
  generalize (T.last m).1 = d at *
  generalize (T.walk l 1).1 = i at *
  unfold PT.linksUp
  rw [node_of hx]
  have hlx := (h.gr.ok.get hx).1.links
  have hG := h.gr.turn (n' := { x with links := x.links + 1 }) hx rfl rfl rfl ((h.gr.ok.get hx).1.lnk (by omega))
  have hD : (T.upd i { x with links := x.links + 1 }).Dev (at1 i (-1)) := h.dev.turn h.gr.ok hx rfl rfl (by simp) (fun e => by rw [hxf] at e; cases e) (fun _ => by simp only [at1, no, if_true]; omega) fun j hj => by simp [at1, no, hj]
  have hU : (T.upd i { x with links := x.links + 1 }).used = T.used := by
    have := PT.used_upd h.gr.ok.ris (n' := { x with links := x.links + 1 }) hx
    have e : ({ x with links := x.links + 1 } : PN).count = x.count := rfl
    omega
  have hn' : getS d (T.upd i { x with links := x.links + 1 }).nodes = some n := (upd_other _ hne).trans hn
  rw [ins_of hn']
  have hpl := place_of (T := T) (T' := T.upd i { x with links := x.links + 1 }) n rfl rfl hU
  rw [← hpl]
  obtain ⟨rk, hrk⟩ := hG.rank
  obtain ⟨a1, a2, a3⟩ := inv_ins (e' := no) hG hD (by rw [hU]; exact h.room) hn' hd (by rw [hpl]; exact hp) hcn h0' (upd_same _ _) hi1 ⟨rk, hrk, fun e => by rw [isDir_upd (n' := { x with links := x.links + 1 }) hx rfl, isDir_of hx, hxf] at e; cases e⟩ fun j => by
    have := one_at1 i j no
    omega
  exact ⟨a1, a2, a3⟩
#print axioms inv_link

/-! ### make -/
theorem PT.Gr.new {T : PT} (h : T.Gr) {i : Nat} {n : PN} (hg : getS i T.nodes = none) (hi : 1 ≤ i ∧ i ≤ T.inodes) (hn : n.names = []) (ho : n.Ok) : (T.upd i n).Gr := by
  have hr : ∀ j, (T.upd i n).refs j = T.refs j := fun j => by
    have := PT.refs_new h.ok.ris (n' := n) hg j
    rw [PN.refs_nil hn] at this
    omega
  have hne : ∀ {j x nm v}, getS j (T.upd i n).nodes = some x → getS nm x.names = some v → getS j T.nodes = some x ∧ v ≠ i := fun {j x nm v} h1 h2 => by
    rcases getS_upd h1 with ⟨_, rfl⟩ | ⟨_, h3⟩
    · rw [hn] at h2; cases h2
    · refine ⟨h3, ?_⟩
      rintro rfl
      obtain ⟨y, hy⟩ := h.ents _ _ _ _ h3 h2
      rw [hg] at hy; cases hy
  refine ⟨h.ok.upd ho hi, ?_, fun j x nm v h1 h2 => ?_, fun j x nm v h1 h2 => h.slotn _ _ _ _ (hne h1 h2).1 h2, ?_, fun j x nm v h1 h2 => h.names _ _ _ _ (hne h1 h2).1 h2, by rw [hr]; exact h.root0⟩
  · obtain ⟨m, h1, h2⟩ := h.root
    refine ⟨m, ?_, h2⟩
    rw [upd_other]
    · exact h1
    · rintro rfl; rw [hg] at h1; cases h1
  · obtain ⟨y, hy⟩ := h.ents _ _ _ _ (hne h1 h2).1 h2
    exact upd_some hy
  · obtain ⟨rk, hrk⟩ := h.rank
    refine ⟨rk, fun j x nm v h1 h2 h3 => hrk _ _ _ _ (hne h1 h2).1 h2 ?_⟩
    unfold PT.isDir at h3 ⊢
    rw [upd_other _ (hne h1 h2).2] at h3
    exact h3
theorem PT.Gr.unnamed {T : PT} (h : T.Gr) {i : Nat} (hg : getS i T.nodes = none) : T.refs i = 0 := by
  by_cases e : T.refs i = 0
  · exact e
  · obtain ⟨j, n, nm, h1, h2⟩ := (PT.refs_pos h.ok).1 e
    obtain ⟨y, hy⟩ := h.ents _ _ _ _ h1 h2
    rw [hg] at hy; cases hy
theorem inv_make {T : PT} (h : T.Inv) (l : List ByteArray) (dir : Bool) (made : Nat) (hm : made ≤ 1099511627776) (hc : ∀ x ∈ l, chk x = true) : (T.make l dir made).1.Inv := by
  have hlast := last_in h.wf l
  unfold PT.make
  split
  · exact h
  rename_i h1
  obtain ⟨n, hn, hd⟩ := hlast (by simpa using h1)
  rw [node_of hn]
  split
  · exact h
  rename_i h2
  split
  · exact h
  rename_i h3
  split
  · exact h
  rename_i h5
  have hp : (T.place n).2 = 0 := by simpa using h5
  have h0' : getS (lastN l) n.names = none := by simpa using h2
  obtain ⟨f1, f2, f3⟩ := free_spec h3
  have hml : l ≠ [] := fun e => by
    unfold PT.last at h1
    rw [if_pos e] at h1
    exact h1 (by simp)
  have hcn : chk (lastN l) = true := by
    unfold lastN
    rw [List.getLastD_eq_getLast?, List.getLast?_eq_some_getLast hml]
    exact hc _ (List.getLast_mem hml)
  generalize (T.last l).1 = d at *
  generalize T.free = i at *
  have hne : d ≠ i := by rintro rfl; rw [f3] at hn; cases hn
  have hG := h.gr.new (n := newN dir made) f3 ⟨by omega, f2⟩ rfl (newN_ok dir hm)
  have hR : ∀ j, (T.upd i (newN dir made)).refs j = T.refs j := fun j => by
    have := PT.refs_new h.gr.ok.ris (n' := newN dir made) f3 j
    rw [PN.refs_nil rfl] at this
    omega
  have hD : (T.upd i (newN dir made)).Dev (at1 i (-1)) := fun j m hj => by
    rcases getS_upd hj with ⟨rfl, rfl⟩ | ⟨h7, h6⟩
    · refine ⟨Nat.le_refl _, fun _ => rfl, fun _ => ?_⟩
      rw [hR, h.gr.unnamed f3]
      simp [at1, newN]
    · obtain ⟨b1, b2, b3⟩ := h.dev j m h6
      refine ⟨b1, b2, fun b4 => ?_⟩
      rw [hR, b3 b4]
      simp [at1, no, h7]
  have hU : (T.upd i (newN dir made)).used = T.used := by
    have := PT.used_new h.gr.ok.ris (n' := newN dir made) f3
    have e : (newN dir made).count = 0 := by cases dir <;> rfl
    omega
  have hn' : getS d (T.upd i (newN dir made)).nodes = some n := (upd_other _ hne).trans hn
  rw [ins_of hn']
  have hpl := place_of (T := T) (T' := T.upd i (newN dir made)) n rfl rfl hU
  rw [← hpl]
  obtain ⟨rk, hrk⟩ := hG.rank
  have hnm : ∀ {j x nm v}, getS j (T.upd i (newN dir made)).nodes = some x → getS nm x.names = some v → j ≠ i ∧ v ≠ i := fun {j x nm v} b1 b2 => by
    rcases getS_upd b1 with ⟨_, rfl⟩ | ⟨b4, b3⟩
    · cases b2
    · refine ⟨b4, ?_⟩
      rintro rfl
      obtain ⟨y, hy⟩ := h.gr.ents _ _ _ _ b3 b2
      rw [f3] at hy; cases hy
  obtain ⟨a1, a2, a3⟩ := inv_ins (e' := no) hG hD (by rw [hU]; exact h.room) hn' hd (by rw [hpl]; exact hp) hcn h0' (upd_same _ _) (by omega) ⟨fun x => if x = i then rk d + 1 else rk x, fun j x nm v b1 b2 b3 => by
      obtain ⟨b4, b5⟩ := hnm b1 b2
      show (if j = i then rk d + 1 else rk j) < if v = i then rk d + 1 else rk v
      rw [if_neg b4, if_neg b5]
      exact hrk _ _ _ _ b1 b2 b3, fun _ => by show (if d = i then rk d + 1 else rk d) < if i = i then rk d + 1 else rk i; rw [if_neg hne, if_pos rfl]; omega⟩ fun j => by
    have := one_at1 i j no
    omega
  exact ⟨a1, a2, a3⟩
#print axioms inv_make
/-! ### rename -/
theorem und_snoc {T : PT} {i j v : Nat} {n : PN} {nm : ByteArray} (h : T.Und j i) (hg : getS j T.nodes = some n) (hv : getS nm n.names = some v) (hd : T.isDir v = true) : T.Und v i := by
  induction h with
  | here => exact .step hg hv hd .here
  | step h1 h2 h3 _ ih => exact .step h1 h2 h3 ih
open Classical in
theorem rank_move {T : PT} {rk : Nat → Nat} (h : T.Ranked rk) {t i : Nat} (hu : ¬ T.Und t i) : ∃ rk' : Nat → Nat, T.Ranked rk' ∧ rk' t < rk' i := by
  refine ⟨fun y => rk y + if T.Und y i then rk t + 1 else 0, fun j n nm v h1 h2 h3 => ?_, ?_⟩
  · have := h j n nm v h1 h2 h3
    simp only
    by_cases e : T.Und j i
    · rw [if_pos e, if_pos (und_snoc e h1 h2 h3)]; omega
    · rw [if_neg e]; omega
  · simp only
    rw [if_neg hu, if_pos .here]
    omega
theorem clr_inv {T : PT} {i : Nat} {e : Nat → Int} (h : T.Gr) (hv : T.Dev e) {d : Nat} {n : PN} {nm : ByteArray} (hn : getS d T.nodes = some n) (hd : n.dir = true) (hi : getS nm n.names = some i) {e' : Nat → Int} (he : ∀ j, e' j = e j - one_ j i) :
    (T.clr d nm).Gr ∧ (T.clr d nm).Dev e' ∧ (T.clr d nm).used = T.used := by
  rw [clr_of hn]
  refine ⟨h.clear hn hd hi, hv.clear h.ok hn hi he, ?_⟩
  have := PT.used_upd h.ok.ris (n' := n.clear nm) hn
  rw [count_clear] at this
  omega
theorem one_at2 (i j : Nat) : at1 i 1 j = no j + one_ j i := by
  unfold at1 no one_
  by_cases h : j = i
  · subst h; simp
  · rw [if_neg h, if_neg (fun e => h e.symm)]; simp
/-- The node from which a name goes, behind the entry that it has got. -/
theorem from_set {T : PT} {d t k i : Nat} {n nt : PN} {old nm : ByteArray} (hn : getS d T.nodes = some n) (hd : n.dir = true) (ho : getS old n.names = some i) (ht : getS t T.nodes = some nt) (hne : d = t → old ≠ nm) : ∃ n1, getS d (T.upd t (nt.set k nm i)).nodes = some n1 ∧ n1.dir = true ∧ getS old n1.names = some i := by
  by_cases e : d = t
  · subst e
    have := Option.some.inj (hn.symm.trans ht)
    subst this
    refine ⟨_, upd_same _ _, hd, ?_⟩
    show getS old (putS strK nm i n.names) = some i
    rw [getS_put_other strK i (hne rfl)]
    exact ho
  · exact ⟨n, (upd_other _ e).trans hn, hd, ho⟩
theorem inv_move {T : PT} (h : T.Inv) {d t i : Nat} {n nt x : PN} {old nm : ByteArray} (hn : getS d T.nodes = some n) (hd : n.dir = true) (ho : getS old n.names = some i) (ht : getS t T.nodes = some nt) (htd : nt.dir = true) (hx : getS i T.nodes = some x)
    (hp : (T.place nt).2 = 0) (hc : chk nm = true) (h0 : getS nm nt.names = none) (hk : ∃ rk : Nat → Nat, T.Ranked rk ∧ (T.isDir i = true → rk t < rk i)) : ((T.ins t (T.place nt).1 nm i).clr d old).Inv := by
  rw [ins_of ht]
  obtain ⟨a1, a2, a3⟩ := inv_ins (e' := at1 i 1) h.gr h.dev h.room ht htd hp hc h0 hx (h.gr.ne1 hn ho) hk fun j => one_at2 i j
  have hne : d = t → old ≠ nm := fun e e2 => by
    subst e; subst e2
    have := Option.some.inj (hn.symm.trans ht)
    subst this
    rw [ho] at h0; cases h0
  obtain ⟨n1, b1, b2, b3⟩ := from_set (k := (T.place nt).1) hn hd ho ht hne
  obtain ⟨c1, c2, c3⟩ := clr_inv (e' := no) a1 a2 b1 b2 b3 fun j => by have := one_at2 i j; omega
  have h6 : ∀ (T : PT) d nm, (T.clr d nm).inodes = T.inodes ∧ (T.clr d nm).sectors = T.sectors := fun T d nm => by
    unfold PT.clr
    split <;> exact ⟨rfl, rfl⟩
  refine ⟨c1, c2, ?_⟩
  rw [c3, (h6 _ _ _).1, (h6 _ _ _).2]
  exact a3
theorem inv_over {T : PT} (h : T.Inv) {d t i j k : Nat} {n nt x y : PN} {old nm : ByteArray} (hn : getS d T.nodes = some n) (hd : n.dir = true) (ho : getS old n.names = some i) (ht : getS t T.nodes = some nt) (htd : nt.dir = true) (hx : getS i T.nodes = some x) (hxf : x.dir = false)
    (hk : firstIdx nm nt.slots = some k) (hj : getS nm nt.names = some j) (hy : getS j T.nodes = some y) (hyf : y.dir = false) (hij : i ≠ j) : (((T.ins t k nm i).clr d old).less j).Inv := by
  rw [ins_of ht]
  have hw := h.wf
  have hc := h.gr.names _ _ _ _ ht hj
  have hf : nt.Fit k nm := .inr (.inr ⟨by rw [hj]; rfl, (firstIdx_lt hk).2⟩)
  have hio := h.gr.ok.ino
  have hi2 := (h.gr.ok.get hx).2
  obtain ⟨rk, hrk⟩ := h.gr.rank
  have a1 := h.gr.set ht htd hf hc hx (h.gr.ne1 hn ho) (set_ok hw ht htd hf (chk_40 hc) (by omega)) ⟨rk, hrk, fun e => by rw [isDir_of hx, hxf] at e; cases e⟩
  have a2 : (T.upd t (nt.set k nm i)).Dev (fun q => at1 i 1 q - one_ q j) := h.dev.set h.gr.ok ht _ _ _ fun q => by
    rw [atV_some hj]
    have := one_at2 i q
    omega
  have hne : d = t → old ≠ nm := fun e e2 => by
    subst e; subst e2
    have := Option.some.inj (hn.symm.trans ht)
    subst this
    rw [ho] at hj
    exact hij (Option.some.inj hj)
  obtain ⟨n1, b1, b2, b3⟩ := from_set (k := k) hn hd ho ht hne
  obtain ⟨c1, c2, c3⟩ := clr_inv (e' := at1 j (-1)) a1 a2 b1 b2 b3 fun q => by
    have := one_at2 i q
    have := one_at1 j q no
    simp only [no] at *
    omega
  have hjt : j ≠ t := fun e => by subst e; rw [ht] at hy; rw [← Option.some.inj hy, htd] at hyf; cases hyf
  have hjd : j ≠ d := fun e => by subst e; rw [hn] at hy; rw [← Option.some.inj hy, hd] at hyf; cases hyf
  have hy2 : getS j ((T.upd t (nt.set k nm i)).clr d old).nodes = some y := by
    rw [clr_of b1, upd_other _ hjd, upd_other _ hjt]
    exact hy
  obtain ⟨d1, d2, d3⟩ := c1.less c2 hy2 (h.gr.ne1 ht hj) ((h.gr.ok.get hy).1.df hyf).2
  have h6 : ∀ (T : PT) d nm, (T.clr d nm).inodes = T.inodes ∧ (T.clr d nm).sectors = T.sectors := fun T d nm => by
    unfold PT.clr
    split <;> exact ⟨rfl, rfl⟩
  have h7 : ∀ (T : PT) d, (T.less d).inodes = T.inodes ∧ (T.less d).sectors = T.sectors := fun T d => by
    unfold PT.less
    split
    · split <;> exact ⟨rfl, rfl⟩
    · exact ⟨rfl, rfl⟩
  refine ⟨d1, d2, ?_⟩
  rw [(h7 _ _).1, (h7 _ _).2, (h6 _ _ _).1, (h6 _ _ _).2]
  have e1 := PT.used_upd h.gr.ok.ris (n' := nt.set k nm i) ht
  have e2 : (nt.set k nm i).count = nt.count := by
    have := (firstIdx_lt hk).1
    unfold PN.count PN.keys PN.set
    simp only [if_neg (Nat.ne_of_lt this), List.length_set]
  have e3 := h.room
  show _ + T.inodes + 1 ≤ T.sectors
  omega
theorem lastN_chk {T : PT} {m : List ByteArray} (h : (T.last m).2 = 0) (hc : ∀ x ∈ m, chk x = true) : chk (lastN m) = true := by
  have hml : m ≠ [] := fun e => by
    unfold PT.last at h
    rw [if_pos e] at h
    cases h
  unfold lastN
  rw [List.getLastD_eq_getLast?, List.getLast?_eq_some_getLast hml]
  exact hc _ (List.getLast_mem hml)
theorem inv_rename {T : PT} (h : T.Inv) (l m : List ByteArray) (hc : ∀ x ∈ m, chk x = true) : (T.rename l m).1.Inv := by
  have hlast := last_in h.wf l
  have hlast2 := last_in h.wf m
  have hcn := lastN_chk (T := T) (m := m)
  unfold PT.rename
  split
  · exact h
  rename_i h1
  split
  · exact h
  rename_i h2
  obtain ⟨n, hn, hd⟩ := hlast (by simpa using h1)
  obtain ⟨nt, ht, htd⟩ := hlast2 (by simpa using h2)
  have hcm := hcn (by simpa using h2) hc
  rw [node_of hn, node_of ht]
  generalize (T.last l).1 = d at *
  generalize (T.last m).1 = t at *
  generalize lastN l = old at *
  generalize lastN m = nm at *
  cases hi : getS old n.names with
  | none => exact h
  | some i =>
    simp only
    obtain ⟨x, hx⟩ := h.gr.ents _ _ _ _ hn hi
    rw [isDir_of hx]
    split
    · exact h
    rename_i h3
    split
    · rename_i h4
      split
      · exact h
      rename_i h5
      split
      · exact h
      rename_i h6
      split
      · exact h
      rename_i h7
      obtain ⟨rk, hrk⟩ := h.gr.rank
      obtain ⟨rk', hr1, hr2⟩ := rank_move hrk h6
      exact inv_move h hn hd hi ht htd hx (by simpa using h7) hcm (by simpa using h5) ⟨rk', hr1, fun _ => hr2⟩
    · rename_i h4
      have hxf : x.dir = false := by simpa using h4
      cases hj : getS nm nt.names with
      | none =>
        simp only
        split
        · exact h
        split
        · exact h
        rename_i h7
        obtain ⟨rk, hrk⟩ := h.gr.rank
        exact inv_move h hn hd hi ht htd hx (by simpa using h7) hcm hj ⟨rk, hrk, fun e => by rw [isDir_of hx, hxf] at e; cases e⟩
      | some j =>
        simp only
        obtain ⟨y, hy⟩ := h.gr.ents _ _ _ _ ht hj
        rw [isDir_of hy]
        split
        · exact h
        rename_i h5
        split
        · exact h
        rename_i h6
        split
        · exact h
        obtain ⟨k, hk⟩ := h.gr.slotn _ _ _ _ ht hj
        rw [hk]
        exact inv_over h hn hd hi ht htd hx hxf hk hj hy (by simpa using h5) h6
#print axioms inv_rename

/-! ### write, truncate -/
theorem wrote_ok {n : PN} (h : n.Ok) (hd : n.dir = false) {off : Nat} {ds : List UInt8} (ho : off + ds.length ≤ 136704) : (n.wrote off ds).Ok := by
  have hk := h.dOk.wrB (q := off) (bs := ds) ho
  refine ⟨hk.keys, hk.dlen, hk.secs, h.slots, h.links, ?_, h.made, h.nm, h.nlen, fun e => ?_, h.df, h.nris, hk.ris⟩
  · have := h.size
    unfold PN.wrote
    simp only
    split <;> omega
  · have e' : n.dir = true := e
    rw [hd] at e'; cases e'
theorem inv_write {T : PT} (h : T.Inv) {i : Nat} {n : PN} (hg : getS i T.nodes = some n) (hd : n.dir = false) (off : Int) (ds : List UInt8) : (T.write i off ds).1.Inv := by
  unfold PT.write
  split
  · exact h
  rename_i h1
  simp only
  rw [node_of hg]
  split
  · rename_i h2
    have h3 := h.room
    exact h.turn hg rfl rfl rfl rfl (wrote_ok (h.gr.ok.get hg).1 hd (by omega)) (by omega)
  · exact h
theorem cut_ok {n : PN} (h : n.Ok) {size : Nat} (hs : size ≤ 136704) : (n.cut size).Ok := by
  have hm : ∀ p ∈ cutData size n.data, (∃ s, (p.1, s) ∈ n.data) ∧ p.2.length = 128 := fun p hp => by
    unfold cutData at hp
    obtain ⟨q, hq, h1⟩ := List.mem_filterMap.1 hp
    have hq2 := h.secs q hq
    unfold cutE at h1
    split at h1
    · cases h1
    · rename_i h2
      simp only [Option.map_some, Option.some.injEq] at h1
      subst h1
      refine ⟨⟨q.2, hq⟩, ?_⟩
      simp only
      split
      · exact cut_len size q.1 q.2 hq2 (by omega) (by omega)
      · exact hq2
  refine ⟨fun p hp => ?_, ?_, fun p hp => (hm p hp).2, h.slots, h.links, hs, h.made, h.nm, h.nlen, fun e => ?_, h.df, h.nris, ris_cut h.dris⟩
  · obtain ⟨⟨s, h1⟩, _⟩ := hm p hp
    exact h.keys (p.1, s) h1
  · exact Nat.le_trans (List.length_filterMap_le _ _) h.dlen
  · show cutData size n.data = []
    rw [h.dd e]
    rfl
theorem cut_count {n : PN} (h : n.Ok) (hd : n.dir = false) (size : Nat) (hs : size ≤ 136704) : (n.cut size).count ≤ n.count := by
  rw [count_file h hd, count_file (cut_ok h hs) hd]
  refine cntK_mono (ris_keys (cut_ok h hs).dris) fun k hk => ?_
  obtain ⟨p, hp, rfl⟩ := List.mem_map.1 hk
  have hp' : p ∈ cutData size n.data := hp
  unfold cutData at hp'
  obtain ⟨q, hq, h1⟩ := List.mem_filterMap.1 hp'
  cases hc : cutE size q.1 q.2 with
  | none => rw [hc] at h1; cases h1
  | some s =>
    rw [hc] at h1
    simp only [Option.map_some, Option.some.injEq] at h1
    rw [← h1]
    exact List.mem_map.2 ⟨q, hq, rfl⟩
/-- A file is made so long. -/
def PT.trunc (T : PT) (i : Nat) (off : Int) : PT × Nat := if off < 0 ∨ 136704 < off then (T, 101) else (T.upd i ((T.node i).cut off.toNat), 0)
theorem inv_trunc {T : PT} (h : T.Inv) {i : Nat} {n : PN} (hg : getS i T.nodes = some n) (hd : n.dir = false) (off : Int) : (T.trunc i off).1.Inv := by
  unfold PT.trunc
  split
  · exact h
  rename_i h1
  rw [node_of hg]
  have h2 := cut_count (h.gr.ok.get hg).1 hd off.toNat (by omega)
  have h3 := h.room
  exact h.turn hg rfl rfl rfl rfl (cut_ok (h.gr.ok.get hg).1 (by omega)) (by omega)
#print axioms inv_trunc
end Go.Proofs.YtolpcfhfcdkokaaGreatDoor
