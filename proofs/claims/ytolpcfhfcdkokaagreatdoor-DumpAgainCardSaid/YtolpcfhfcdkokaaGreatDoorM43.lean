/- Joined out of the texts QGrow, QStep, QOne. -/
import Derived.Test.YtolpcfhfcdkokaaGreatDoorM41
/-
  A tree that is filled again: one spot more.
-/
namespace Go.Proofs.YtolpcfhfcdkokaaGreatDoor

theorem chk_emp : chk emp = false := by
  cases h : chk emp with
  | false => rfl
  | true => exact absurd rfl (chk_ne h)
theorem Rel.grow {P Q Q' : PT} {pre : List Spot} {φ : Nat → Nat} (hP : P.Inv) (h : Rel P Q pre φ) {a : List ByteArray} {nm : ByteArray} {d i fr : Nat} {n mD mf : PN} (hI : Q'.Inv) (hs : Q'.sectors = Q.sectors) (hi : Q'.inodes = Q.inodes)
    (hx : (a ++ [nm], i) ∈ P.spots) (hpar : a = [] ∧ d = 1 ∨ (a, d) ∈ pre) (hmD : getS (φ d) Q.nodes = some mD) (h0 : getS nm mD.names = none)
    (hQD : getS (φ d) Q'.nodes = some (mD.set mD.slots.length nm fr)) (hQF : getS fr Q'.nodes = some mf) (hO : ∀ j, j ≠ φ d → j ≠ fr → getS j Q'.nodes = getS j Q.nodes) (hne : fr ≠ φ d)
    (hpn : getS i P.nodes = some n) (hfd : mf.dir = n.dir) (hfm : mf.made = n.made) (hfc : mf.count ≤ n.count) (hfs : mf.slots = []) (hfn : mf.names = []) (hfo : ∀ z, getS fr Q.nodes = some z → z.names = [])
    (hlk : mf.links = (pre.filter fun y => decide (y.2 = i)).length + 1) (hfr : ∀ k, Kn pre k → (φ k = fr ↔ k = i)) :
    Rel P Q' (pre ++ [(a ++ [nm], i)]) (fun k => if k = i then fr else φ k) := by
  obtain ⟨hpa, hqa, hkd⟩ := h.pwalk hP hpar
  have hxw := (spots_walk hP.gr.ok hx).2
  simp only at hxw
  have hE : P.E d nm i := by
    obtain ⟨k, h5, h6⟩ := walk_snoc.1 hxw
    have e2 : d = k := congrArg Prod.fst (hpa.symm.trans h5)
    exact e2 ▸ h6
  have hi1 : i ≠ 1 := by
    obtain ⟨y, h5, _, h7⟩ := hE
    exact hP.gr.ne1 h5 h7
  have hphi : ∀ k, Kn pre k → (if k = i then fr else φ k) = φ k := fun k hk => by
    split
    · rename_i e; exact ((hfr k hk).2 e).symm
    · rfl
  have hdi : d ≠ i := fun e => hne ((hfr d hkd).2 e).symm
  have hDdir : mD.dir = true := by
    obtain ⟨n', m', a1, a2, a3, _⟩ := h.node d hkd
    obtain rfl : m' = mD := Option.some.inj (a2.symm.trans hmD)
    obtain ⟨y, h5, h6, _⟩ := hE
    obtain rfl : y = n' := Option.some.inj (h5.symm.trans a1)
    rw [a3, h6]
  have hchk : chk nm = true := by
    obtain ⟨y, h5, _, h7⟩ := hE
    exact hP.gr.names _ _ _ _ h5 h7
  have hEE : ∀ b x j, Q'.E b x j ↔ Q.E b x j ∨ (b = φ d ∧ x = nm ∧ j = fr) := fun b x j => by
    constructor
    · rintro ⟨y, b1, b2, b3⟩
      by_cases e1 : b = φ d
      · subst e1
        obtain rfl := Option.some.inj (b1.symm.trans hQD)
        rcases getS_set b3 with ⟨rfl, rfl⟩ | ⟨_, b5⟩
        · exact .inr ⟨rfl, rfl, rfl⟩
        · exact .inl ⟨mD, hmD, hDdir, b5⟩
      · by_cases e2 : b = fr
        · subst e2
          obtain rfl := Option.some.inj (b1.symm.trans hQF)
          rw [hfn] at b3; cases b3
        · exact .inl ⟨y, by rw [← hO b e1 e2]; exact b1, b2, b3⟩
    · rintro (⟨y, b1, b2, b3⟩ | ⟨rfl, rfl, rfl⟩)
      · by_cases e1 : b = φ d
        · subst e1
          obtain rfl := Option.some.inj (b1.symm.trans hmD)
          refine ⟨_, hQD, hDdir, ?_⟩
          have hx : x ≠ nm := fun e => by subst e; rw [h0] at b3; cases b3
          show getS x (putS strK nm fr y.names) = _
          rw [getS_put_other strK _ hx]
          exact b3
        · by_cases e2 : b = fr
          · subst e2
            rw [hfo _ b1] at b3; cases b3
          · exact ⟨y, by rw [hO b e1 e2]; exact b1, b2, b3⟩
      · refine ⟨_, hQD, hDdir, ?_⟩
        show getS x (putS strK x j mD.names) = _
        rw [getS_put_same]
  have hleaf : ∀ x j, ¬ Q'.E fr x j := fun x j ⟨y, b1, _, b3⟩ => by
    obtain rfl := Option.some.inj (b1.symm.trans hQF)
    rw [hfn] at b3; cases b3
  have hwalk := walk_add hEE hleaf
  have hpu : ∀ b, Q.walk b 1 = (φ d, 0) → b = a := fun b hb => by
    have hbd : P.walk b 1 = (d, 0) := by
      rcases (h.wlk b _).1 hb with ⟨rfl, e⟩ | ⟨k, hk, e⟩
      · have : d = 1 := h.inj d 1 hkd (.inl rfl) (e.trans h.one.symm)
        rw [this]; rfl
      · have : d = k := h.inj d k hkd (.inr ⟨b, hk⟩) e
        rw [this]
        exact (spots_walk hP.gr.ok (h.sub _ hk)).2
    exact dir_path hP b a hbd hpa (E_dir hE)
  refine ⟨hI, hs.trans h.sec, hi.trans h.ino, ?_, ?_, ?_, ?_, ?_, ?_, ?_⟩
  · intro x hx'
    rcases List.mem_append.1 hx' with hx' | hx'
    · exact h.sub x hx'
    · rw [List.mem_singleton.1 hx']; exact hx
  · show (if 1 = i then fr else φ 1) = 1
    rw [if_neg (Ne.symm hi1)]
    exact h.one
  · intro ns j
    rw [hwalk, h.wlk]
    constructor
    · rintro ((⟨rfl, rfl⟩ | ⟨k, hk, rfl⟩) | ⟨b, rfl, hb, rfl⟩)
      · exact .inl ⟨rfl, rfl⟩
      · exact .inr ⟨k, List.mem_append_left _ hk, (hphi k (.inr ⟨_, hk⟩)).symm⟩
      · rw [hpu b hb]
        exact .inr ⟨i, List.mem_append_right _ (List.mem_singleton.2 rfl), (if_pos rfl).symm⟩
    · rintro (⟨rfl, rfl⟩ | ⟨k, hk, rfl⟩)
      · exact .inl (.inl ⟨rfl, rfl⟩)
      · rcases List.mem_append.1 hk with hk | hk
        · exact .inl (.inr ⟨k, hk, hphi k (.inr ⟨_, hk⟩)⟩)
        · have e := List.mem_singleton.1 hk
          obtain ⟨rfl, rfl⟩ := Prod.mk.inj e
          exact .inr ⟨a, rfl, hqa, if_pos rfl⟩
  · intro k k' hk hk' e
    rcases hk.snoc with u | u
    · rw [hphi k u] at e
      rcases hk'.snoc with v | v
      · rw [hphi k' v] at e
        exact h.inj k k' u v e
      · rw [if_pos v] at e
        exact ((hfr k u).1 e).trans v.symm
    · rw [if_pos u] at e
      rcases hk'.snoc with v | v
      · rw [hphi k' v] at e
        exact u.trans ((hfr k' v).1 e.symm).symm
      · exact u.trans v.symm
  · intro j m hj
    by_cases e2 : j = fr
    · exact ⟨i, .inr ⟨_, List.mem_append_right _ (List.mem_singleton.2 rfl)⟩, by rw [e2]; exact (if_pos rfl).symm⟩
    · have : ∃ m', getS j Q.nodes = some m' := by
        by_cases e1 : j = φ d
        · exact ⟨mD, e1 ▸ hmD⟩
        · exact ⟨m, by rw [← hO j e1 e2]; exact hj⟩
      obtain ⟨m', hm'⟩ := this
      obtain ⟨k, hk, e⟩ := h.all j m' hm'
      exact ⟨k, hk.mono _, by rw [e]; exact (hphi k hk).symm⟩
  · intro k hk
    show ∃ n m, getS k P.nodes = some n ∧ getS (if k = i then fr else φ k) Q'.nodes = some m ∧ _
    by_cases e : k = i
    · subst e
      rw [if_pos rfl]
      exact ⟨n, mf, hpn, hQF, hfd, fun _ => hfm, hfc, by rw [hfs, hfn]; rfl, by rw [hfs]; intro y hy; cases hy⟩
    · rw [if_neg e]
      have hk0 : Kn pre k := hk.snoc.resolve_right e
      obtain ⟨n', m', a1, a2, a3, a4, a5, a6, a7⟩ := h.node k hk0
      have hkf : φ k ≠ fr := fun e' => e ((hfr k hk0).1 e')
      by_cases e1 : k = d
      · subst e1
        obtain rfl : m' = mD := Option.some.inj (a2.symm.trans hmD)
        obtain ⟨_, hsl⟩ := h.place hP hkd a1 hmD hE h0
        have hPn := (hP.gr.ok.get a1).1
        refine ⟨n', _, a1, hQD, a3, a4, ?_, ?_, ?_⟩
        · rw [count_set ((h.inv.gr.ok.get hmD).1.dd hDdir), count_dir hPn (by rw [← a3]; exact hDdir)]
          refine cntK_mono List.nodup_range fun x hx => ?_
          rw [List.mem_range] at hx ⊢
          omega
        · show (if m'.slots.length = m'.slots.length then m'.slots ++ [nm] else m'.slots.set m'.slots.length nm).length = (putS strK nm fr m'.names).length
          rw [if_pos rfl, length_put_new strK h0, List.length_append, List.length_singleton, a6]
        · intro y hy
          change y ∈ (if m'.slots.length = m'.slots.length then m'.slots ++ [nm] else m'.slots.set m'.slots.length nm) at hy
          rw [if_pos rfl] at hy
          rcases List.mem_append.1 hy with hy | hy
          · exact a7 y hy
          · rw [List.mem_singleton.1 hy]
            exact fun e' => by rw [e', chk_emp] at hchk; cases hchk
      · have hkd' : φ k ≠ φ d := fun e' => e1 (h.inj k d hk0 hkd e')
        exact ⟨n', m', a1, by rw [hO _ hkd' hkf]; exact a2, a3, a4, a5, a6, a7⟩
  · intro k hk hk1
    show Q'.refs (if k = i then fr else φ k) = _
    rw [List.filter_append, List.length_append]
    by_cases e : k = i
    · subst e
      rw [if_pos rfl]
      have h5 := (hI.dev fr mf hQF).2.2 (fun e' => by
        have := (hfr 1 (.inl rfl)).1 (by rw [h.one, e'])
        exact hk1 this.symm)
      simp only [no] at h5
      simp
      omega
    · rw [if_neg e]
      have hk0 : Kn pre k := hk.snoc.resolve_right e
      obtain ⟨n', m', a1, a2, _⟩ := h.node k hk0
      have hkf : φ k ≠ fr := fun e' => e ((hfr k hk0).1 e')
      have hphi1 : φ k ≠ 1 := fun e' => hk1 (h.inj k 1 hk0 (.inl rfl) (e'.trans h.one.symm))
      have h6 := (h.inv.dev _ m' a2).2.2 hphi1
      have h7 : ∃ m2, getS (φ k) Q'.nodes = some m2 ∧ m2.links = m'.links := by
        by_cases e1 : k = d
        · subst e1
          obtain rfl : m' = mD := Option.some.inj (a2.symm.trans hmD)
          exact ⟨_, hQD, rfl⟩
        · have hkd' : φ k ≠ φ d := fun e' => e1 (h.inj k d hk0 hkd e')
          exact ⟨m', by rw [hO _ hkd' hkf]; exact a2, rfl⟩
      obtain ⟨m2, b1, b2⟩ := h7
      have h8 := (hI.dev _ m2 b1).2.2 hphi1
      have h9 := h.lnk k hk0 hk1
      simp only [no] at h6 h8
      have e' : ¬ i = k := fun e'' => e e''.symm
      simp [e']
      omega
/-- Files' bytes are the first one's. -/
def Dt (P Q : PT) (pre : List Spot) (φ : Nat → Nat) : Prop := ∀ i n m, Kn pre i → getS i P.nodes = some n → getS (φ i) Q.nodes = some m → n.dir = false → rdL m.data 0 m.size = rdL n.data 0 n.size
theorem Dt.grow {P Q Q' : PT} {pre : List Spot} {φ : Nat → Nat} (h : Rel P Q pre φ) (hd : Dt P Q pre φ) {a : List ByteArray} {nm : ByteArray} {d i fr : Nat} {n mD mf nD : PN} (hkd : Kn pre d) (hnD : getS d P.nodes = some nD) (hdd : nD.dir = true)
    (hQD : getS (φ d) Q'.nodes = some mD) (hQF : getS fr Q'.nodes = some mf) (hO : ∀ j, j ≠ φ d → j ≠ fr → getS j Q'.nodes = getS j Q.nodes)
    (hpn : getS i P.nodes = some n) (hfr : ∀ k, Kn pre k → (φ k = fr ↔ k = i)) (hdat : n.dir = false → rdL mf.data 0 mf.size = rdL n.data 0 n.size) :
    Dt P Q' (pre ++ [(a ++ [nm], i)]) (fun k => if k = i then fr else φ k) := by
  intro k n' m' hk hn' hm' hd'
  change getS (if k = i then fr else φ k) Q'.nodes = some m' at hm'
  by_cases e : k = i
  · subst e
    rw [if_pos rfl] at hm'
    obtain rfl := Option.some.inj (hm'.symm.trans hQF)
    obtain rfl := Option.some.inj (hn'.symm.trans hpn)
    exact hdat hd'
  · rw [if_neg e] at hm'
    have hk0 : Kn pre k := hk.snoc.resolve_right e
    have hkf : φ k ≠ fr := fun e' => e ((hfr k hk0).1 e')
    have hkd' : φ k ≠ φ d := fun e' => by
      have e1 := h.inj k d hk0 hkd e'
      subst e1
      obtain rfl := Option.some.inj (hnD.symm.trans hn')
      rw [hd'] at hdd; cases hdd
    rw [hO _ hkd' hkf] at hm'
    exact hd k n' m' hk0 hn' hm' hd'
#print axioms Rel.grow
end Go.Proofs.YtolpcfhfcdkokaaGreatDoor
/-
  A tree that is filled again: one node is made.
-/
namespace Go.Proofs.YtolpcfhfcdkokaaGreatDoor

theorem last_snoc {T : PT} {a : List ByteArray} {D : Nat} {mD : PN} (nm : ByteArray) (hw : T.walk a 1 = (D, 0)) (hg : getS D T.nodes = some mD) (hd : mD.dir = true) : T.last (a ++ [nm]) = (D, 0) := by
  unfold PT.last
  rw [if_neg (by simp)]
  simp only [List.dropLast_concat, hw]
  rw [if_neg (by simp [isDir_of hg, hd])]
theorem lastN_snoc (a : List ByteArray) (nm : ByteArray) : lastN (a ++ [nm]) = nm := by simp [lastN]
theorem make_go {T : PT} {a : List ByteArray} {nm : ByteArray} {D : Nat} {mD : PN} (hw : T.walk a 1 = (D, 0)) (hg : getS D T.nodes = some mD) (hd : mD.dir = true) (h0 : getS nm mD.names = none) (hf : T.free ≠ 0) (hp : (T.place mD).2 = 0) (dir : Bool) (made : Nat) :
    ∃ st, T.make (a ++ [nm]) dir made = ((T.upd T.free (newN dir made)).upd D (mD.set (T.place mD).1 nm T.free), ⟨0, st, [], []⟩) := by
  have hne : D ≠ T.free := fun e => by rw [e, (free_spec hf).2.2] at hg; cases hg
  have hi : ∀ k, (T.upd T.free (newN dir made)).ins D k nm T.free = (T.upd T.free (newN dir made)).upd D (mD.set k nm T.free) := fun k => ins_of ((upd_other _ hne).trans hg)
  unfold PT.make
  rw [last_snoc nm hw hg hd, lastN_snoc]
  simp only [node_of hg]
  rw [if_neg (by simp), if_neg (by rw [h0]; simp), if_neg hf, if_neg (by rw [hp]; simp), hi]
  exact ⟨_, rfl⟩
theorem run_mk {T : PT} {a : List ByteArray} {nm : ByteArray} {D : Nat} {mD : PN} (hw : T.walk a 1 = (D, 0)) (hg : getS D T.nodes = some mD) (hd : mD.dir = true) (h0 : getS nm mD.names = none) (hf : T.free ≠ 0) (hp : (T.place mD).2 = 0) (dir : Bool) (made : Nat) (hm : made ≤ 1099511627776)
    (hc : ∀ x ∈ a ++ [nm], chk x = true) (hs : (pth (a ++ [nm])).size ≤ 400) (k : Int) (hk : k = if dir then 2 else 1) :
    ∃ an, an.code = 0 ∧ T.run ⟨k, pth (a ++ [nm]), emp, 0, 0, [], (made : Int), 0⟩ = ((T.upd T.free (newN dir made)).upd D (mD.set (T.place mD).1 nm T.free), an) := by
  have hsp := spl_pth hc hs
  obtain ⟨st, hmk⟩ := make_go hw hg hd h0 hf hp dir made
  refine ⟨⟨0, st, [], []⟩, rfl, ?_⟩
  subst hk
  cases dir
  · unfold PT.run
    rw [if_neg (by unfold Opn.fine useP useT useO useL useD useM useF; simp; omega), if_neg (by simp [Opn.code1, hsp]), if_neg (by simp [Opn.code2])]
    simp [PT.does, Opn.from_, hsp, hmk, Ans.told]
  · unfold PT.run
    rw [if_neg (by unfold Opn.fine useP useT useO useL useD useM useF; simp; omega), if_neg (by simp [Opn.code1, hsp]), if_neg (by simp [Opn.code2])]
    simp [PT.does, Opn.from_, hsp, hmk, Ans.told]
theorem link_go {T : PT} {l a : List ByteArray} {nm : ByteArray} {D fr : Nat} {mD x : PN} (hl : T.walk l 1 = (fr, 0)) (hx : getS fr T.nodes = some x) (hxd : x.dir = false) (hlk : x.links ≠ 100) (hw : T.walk a 1 = (D, 0)) (hg : getS D T.nodes = some mD) (hd : mD.dir = true) (h0 : getS nm mD.names = none) (hp : (T.place mD).2 = 0) :
    T.link l (a ++ [nm]) = ((T.upd fr { x with links := x.links + 1 }).upd D (mD.set (T.place mD).1 nm fr), 0) := by
  have hne : D ≠ fr := fun e => by
    subst e
    rw [Option.some.inj (hg.symm.trans hx), hxd] at hd; cases hd
  have hi : ∀ k, (T.upd fr { x with links := x.links + 1 }).ins D k nm fr = (T.upd fr { x with links := x.links + 1 }).upd D (mD.set k nm fr) := fun k => ins_of ((upd_other _ hne).trans hg)
  unfold PT.link
  rw [hl, last_snoc nm hw hg hd, lastN_snoc]
  simp only [node_of hg, node_of hx, isDir_of hx]
  rw [if_neg (by simp), if_neg (by simp), if_neg (by rw [h0]; simp), if_neg (by rw [hxd]; simp), if_neg hlk, if_neg (by rw [hp]; simp)]
  unfold PT.linksUp
  rw [node_of hx, hi]
theorem run_lk {T : PT} {l a : List ByteArray} {nm : ByteArray} {D fr : Nat} {mD x : PN} (hl : T.walk l 1 = (fr, 0)) (hx : getS fr T.nodes = some x) (hxd : x.dir = false) (hlk : x.links ≠ 100) (hw : T.walk a 1 = (D, 0)) (hg : getS D T.nodes = some mD) (hd : mD.dir = true) (h0 : getS nm mD.names = none) (hp : (T.place mD).2 = 0)
    (hcl : ∀ x ∈ l, chk x = true) (hsl : (pth l).size ≤ 400) (hc : ∀ x ∈ a ++ [nm], chk x = true) (hs : (pth (a ++ [nm])).size ≤ 400) :
    ∃ an, an.code = 0 ∧ T.run ⟨3, pth l, pth (a ++ [nm]), 0, 0, [], 0, 0⟩ = ((T.upd fr { x with links := x.links + 1 }).upd D (mD.set (T.place mD).1 nm fr), an) := by
  have hsp := spl_pth hc hs
  have hspl := spl_pth hcl hsl
  have hmk := link_go hl hx hxd hlk hw hg hd h0 hp
  refine ⟨.err 0, rfl, ?_⟩
  unfold PT.run
  rw [if_neg (by unfold Opn.fine useP useT useO useL useD useM useF; simp), if_neg (by simp [Opn.code1, hspl]), if_neg (by simp [Opn.code2, hsp])]
  simp [PT.does, Opn.from_, Opn.to_, hsp, hspl, hmk, Ans.told, Ans.err]
theorem upd_self {T : PT} (h : T.Ok) {i : Nat} {n : PN} (hg : getS i T.nodes = some n) : T.upd i n = T := by
  have e : putS natK i n T.nodes = T.nodes := RisS.ext natK (h.ris.put natK natK_tot i n) h.ris fun a => by
    by_cases e : a = i
    · subst e; rw [getS_put_same, hg]
    · rw [getS_put_other natK n e]
  unfold PT.upd
  rw [e]
theorem zSec_get (k : Nat) : zSec.getD k 0 = 0 := by
  unfold zSec
  rw [List.getD_eq_getElem?_getD, List.getElem?_replicate]
  split <;> rfl
theorem byteAt_none {d : List (Nat × List UInt8)} {q : Nat} (h : getS (q / 128) d = none) : byteAt d q = 0 := by
  unfold byteAt blkOf
  rw [h]
  exact zSec_get _
theorem rdL_get (d : List (Nat × List UInt8)) (m x : Nat) (hx : x < m) : (rdL d 0 m).getD x 0 = byteAt d x := by
  unfold rdL
  rw [List.getD_eq_getElem?_getD, List.getElem?_map, List.getElem?_range hx]
  simp
theorem zch_not {d : List UInt8} {e : Nat} (h : zch d e = false) : ∃ x, e ≤ x ∧ x < e + 128 ∧ x < d.length ∧ d.getD x 0 ≠ 0 := by
  unfold zch at h
  rw [List.all_eq_false] at h
  obtain ⟨y, hy, hn⟩ := h
  obtain ⟨k, hk, rfl⟩ := List.getElem_of_mem hy
  rw [List.length_take, List.length_drop] at hk
  refine ⟨e + k, by omega, by omega, by omega, ?_⟩
  rw [List.getD_eq_getElem?_getD, List.getElem?_eq_getElem (by omega), Option.getD_some]
  simpa using hn
theorem nz_count {n : PN} (_h : n.Ok) : cntK (nzB (rdL n.data 0 n.size)) ≤ n.count := by
  unfold PN.count
  refine cntK_mono (List.Pairwise.filter _ List.nodup_range) fun k hk => ?_
  unfold nzB at hk
  obtain ⟨hk1, hk2⟩ := List.mem_filter.1 hk
  have hk2 : zch (rdL n.data 0 n.size) (128 * k) = false := by simpa using hk2
  obtain ⟨x, h1, h2, h3, h4⟩ := zch_not hk2
  rw [rdL_length] at h3
  rw [rdL_get _ _ _ h3] at h4
  unfold PN.keys
  refine List.mem_append_left _ ?_
  have e : x / 128 = k := by omega
  cases hg : getS k n.data with
  | none => exact absurd (byteAt_none (by rw [e]; exact hg)) h4
  | some s => exact List.mem_map.2 ⟨(k, s), mem_of_getS hg, rfl⟩
#print axioms nz_count
/-- A new node's place in the relation. -/
theorem Rel.fresh {P Q : PT} {pre : List Spot} {φ : Nat → Nat} (h : Rel P Q pre φ) (hf : Q.free ≠ 0) {i : Nat} (hi : ¬ Kn pre i) : ∀ k, Kn pre k → (φ k = Q.free ↔ k = i) := fun k hk => by
  constructor
  · intro e
    obtain ⟨n, m, _, a2, _⟩ := h.node k hk
    rw [e, (free_spec hf).2.2] at a2; cases a2
  · intro e; exact absurd (e ▸ hk) hi
theorem kn_find {pre : List Spot} {i : Nat} (hi : i ≠ 1) : (pre.find? fun y => decide (y.2 = i)) = none ↔ ¬ Kn pre i := by
  rw [List.find?_eq_none]
  constructor
  · rintro h (e | ⟨ns, hn⟩)
    · exact hi e
    · exact h _ hn (by simp)
  · intro h y hy e
    exact h (.inr ⟨y.1, by rw [← of_decide_eq_true e]; exact hy⟩)
theorem filter_none {pre : List Spot} {i : Nat} (h : ¬ Kn pre i) : (pre.filter fun y => decide (y.2 = i)).length = 0 := by
  rw [List.length_eq_zero_iff, List.filter_eq_nil_iff]
  intro y hy e
  exact h (.inr ⟨y.1, by rw [← of_decide_eq_true e]; exact hy⟩)
theorem PT.upd2_get {T : PT} {D fr : Nat} (x m : PN) (j : Nat) (h1 : j ≠ D) (h2 : j ≠ fr) : getS j ((T.upd fr x).upd D m).nodes = getS j T.nodes := by rw [upd_other _ h1, upd_other _ h2]
/-- What is known where a spot is made. -/
theorem Rel.at_ {P Q : PT} {pre : List Spot} {φ : Nat → Nat} (hP : P.Inv) (h : Rel P Q pre φ) {a : List ByteArray} {nm : ByteArray} {d i : Nat} (hx : (a ++ [nm], i) ∈ P.spots) (hnx : ∀ j, (a ++ [nm], j) ∉ pre) (hpar : a = [] ∧ d = 1 ∨ (a, d) ∈ pre) :
    ∃ nD mD n, P.E d nm i ∧ Kn pre d ∧ Q.walk a 1 = (φ d, 0) ∧ getS d P.nodes = some nD ∧ nD.dir = true ∧ getS (φ d) Q.nodes = some mD ∧ mD.dir = true ∧ getS nm mD.names = none ∧ Q.place mD = (mD.slots.length, 0) ∧ getS i P.nodes = some n ∧ i ≠ 1 ∧ (∀ x ∈ a ++ [nm], chk x = true) ∧ P.walk (a ++ [nm]) 1 = (i, 0) := by
  obtain ⟨hpa, hqa, hkd⟩ := h.pwalk hP hpar
  have hxw := (spots_walk hP.gr.ok hx).2
  simp only at hxw
  have hE : P.E d nm i := by
    obtain ⟨k, h5, h6⟩ := walk_snoc.1 hxw
    have e2 : d = k := congrArg Prod.fst (hpa.symm.trans h5)
    exact e2 ▸ h6
  obtain ⟨nD, mD, a1, a2, a3, _⟩ := h.node d hkd
  have hE' := hE
  obtain ⟨y, h5, h6, h7⟩ := hE'
  obtain rfl : y = nD := Option.some.inj (h5.symm.trans a1)
  have h0 : getS nm mD.names = none := by
    cases hv : getS nm mD.names with
    | none => rfl
    | some v =>
      obtain ⟨i', b, _, _, hb, hbw⟩ := h.ents hP hkd (nm := nm) (v := v) ⟨mD, a2, by rw [a3, h6], hv⟩
      rw [dir_path hP b a hbw hpa (E_dir hE)] at hb
      exact absurd hb (hnx _)
  obtain ⟨n, hn⟩ := hP.gr.ents _ _ _ _ h5 h7
  exact ⟨y, mD, n, hE, hkd, hqa, a1, h6, a2, by rw [a3, h6], h0, (h.place hP hkd a1 a2 hE h0).1, hn, hP.gr.ne1 h5 h7, walk_chk hP.gr _ hxw, hxw⟩
theorem Rel.free_ {P Q : PT} {pre : List Spot} {φ : Nat → Nat} (hP : P.Inv) (h : Rel P Q pre φ) {i : Nat} {n : PN} (hi : ¬ Kn pre i) (hn : getS i P.nodes = some n) : Q.free ≠ 0 := by
  have h1 := h.fewer hP hi hn
  have h2 := nodes_le hP.gr.ok
  obtain ⟨r, hr, _⟩ := h.inv.gr.root
  exact free_some h.inv.gr.ok (by rw [h.ino]; omega) ⟨r, hr⟩
#print axioms Rel.free_
end Go.Proofs.YtolpcfhfcdkokaaGreatDoor
/-
  A tree that is filled again: one spot is made, whatever it is.
-/
namespace Go.Proofs.YtolpcfhfcdkokaaGreatDoor

theorem fill_step {P Q : PT} {pre : List Spot} {φ : Nat → Nat} (hP : P.Inv) (h : Rel P Q pre φ) (hd : Dt P Q pre φ) {x : Spot} (hx : x ∈ P.spots) (hsh : shorts P.spots) (hnx : ∀ j, (x.1, j) ∉ pre)
    (hpar : ∀ a nm, x.1 = a ++ [nm] → a = [] ∨ ∃ d, (a, d) ∈ pre) (hnd : (pre.map (·.1)).Nodup) :
    ∃ Q' φ', fillT Q (P.tn1 pre x) = (Q', 0) ∧ Rel P Q' (pre ++ [x]) φ' ∧ Dt P Q' (pre ++ [x]) φ' := by
  obtain ⟨ns, i⟩ := x
  have hne := (spots_walk hP.gr.ok hx).1
  have hs : (pth ns).size ≤ 400 := hsh _ hx
  rcases List.eq_nil_or_concat ns with rfl | ⟨a, nm, rfl⟩
  · exact absurd rfl hne
  rw [List.concat_eq_append] at *
  simp only at hnx
  have hpar : ∃ d, a = [] ∧ d = 1 ∨ (a, d) ∈ pre := by
    rcases hpar a nm rfl with e | ⟨d, e⟩
    · exact ⟨1, .inl ⟨e, rfl⟩⟩
    · exact ⟨d, .inr e⟩
  obtain ⟨d, hpar⟩ := hpar
  obtain ⟨nD, mD, n, hE, hkd, hqa, hnD, hnDd, hmD, hmDd, h0, hpl, hn, hi1, hc, hpw⟩ := h.at_ hP hx hnx hpar
  have hnok := (hP.gr.ok.get hn).1
  by_cases hk : Kn pre i
  case neg =>
    have hf := h.free_ hP hk hn
    have hfk := h.fresh hf hk
    have hfn := (free_spec hf).2.2
    have hneD : Q.free ≠ φ d := fun e => by rw [← e, hfn] at hmD; cases hmD
    obtain ⟨an, han, hrun⟩ := run_mk hqa hmD hmDd h0 hf (by rw [hpl]) n.dir n.made hnok.made hc hs _ rfl
    rw [hpl] at hrun
    simp only at hrun
    obtain ⟨Q1, hQ1⟩ : ∃ Q1, (Q.upd Q.free (newN n.dir n.made)).upd (φ d) (mD.set mD.slots.length nm Q.free) = Q1 := ⟨_, rfl⟩
    rw [hQ1] at hrun
    have hI1 : Q1.Inv := by
      have := inv_run h.inv ⟨if n.dir then 2 else 1, pth (a ++ [nm]), emp, 0, 0, [], (n.made : Int), 0⟩
      rw [hrun] at this; exact this
    have g1 : getS (φ d) Q1.nodes = some (mD.set mD.slots.length nm Q.free) := by rw [← hQ1]; exact upd_same _ _
    have g2 : getS Q.free Q1.nodes = some (newN n.dir n.made) := by rw [← hQ1, upd_other _ hneD]; exact upd_same _ _
    have g3 : ∀ j, j ≠ φ d → j ≠ Q.free → getS j Q1.nodes = getS j Q.nodes := fun j e1 e2 => by rw [← hQ1]; exact PT.upd2_get _ _ j e1 e2
    have hs1 : Q1.sectors = Q.sectors := by rw [← hQ1]; rfl
    have hi1' : Q1.inodes = Q.inodes := by rw [← hQ1]; rfl
    have hR1 : Rel P Q1 (pre ++ [(a ++ [nm], i)]) (fun k => if k = i then Q.free else φ k) :=
      h.grow hP hI1 hs1 hi1' hx hpar hmD h0 g1 g2 g3 hneD hn rfl rfl (by
        have : (newN n.dir n.made).count = 0 := rfl
        omega) rfl rfl (fun z hz => by rw [hfn] at hz; cases hz) (by rw [filter_none hk]; rfl) hfk
    cases hdir : n.dir with
    | true =>
      refine ⟨Q1, _, ?_, hR1, hd.grow h hkd hnD hnDd g1 g2 g3 hn hfk (fun e => by rw [hdir] at e; cases e)⟩
      unfold PT.tn1 fillT
      simp only [isDir_of hn, hdir, node_of hn, if_true]
      unfold opM
      simp only
      rw [hdir] at hrun
      simp only [if_true] at hrun
      rw [hrun, han]
    | false =>
      rw [hdir] at hrun g2
      simp only [Bool.false_eq_true, if_false] at hrun
      have hfd := (kn_find (pre := pre) hi1).2 hk
      have hw1 : Q1.walk (a ++ [nm]) 1 = (Q.free, 0) := (hR1.wlk _ _).2 (.inr ⟨i, List.mem_append_right _ (List.mem_singleton.2 rfl), (if_pos rfl).symm⟩)
      obtain ⟨D, hD⟩ : ∃ D, rdL n.data 0 n.size = D := ⟨_, rfl⟩
      have hDl : D.length = n.size := by rw [← hD, rdL_length]
      have hDm : D.length ≤ 136704 := by rw [hDl]; exact hnok.size
      have hnz : cntK (nzB D) ≤ n.count := by rw [← hD]; exact nz_count hnok
      have hroom := hR1.room hP (i := i) (.inr ⟨_, List.mem_append_right _ (List.mem_singleton.2 rfl)⟩) hn (by rw [if_pos rfl]; exact g2) hnz
      obtain ⟨m', hl1, hl2, hl3⟩ := lay_go hI1 hw1 g2 rfl D hDm hs hroom 1100 0 (newN false n.made) ⟨rfl, rfl, rfl, rfl, rfl, (hI1.gr.ok.get g2).1, fun x hx => by
        rw [if_neg (by omega)]
        exact byteAt_none rfl, fun p hp => by cases hp⟩ (.inl rfl) (by omega) (by omega)
      rw [upd_self hI1.gr.ok g2] at hl1
      have hI2 : (Q1.upd Q.free m').Inv := by
        have := inv_layT (pth (a ++ [nm])) D 1100 Q1 0 hI1
        rw [hl1] at this; exact this
      have k1 : getS (φ d) (Q1.upd Q.free m').nodes = some (mD.set mD.slots.length nm Q.free) := by rw [upd_other _ (Ne.symm hneD)]; exact g1
      have k2 : getS Q.free (Q1.upd Q.free m').nodes = some m' := upd_same _ _
      have k3 : ∀ j, j ≠ φ d → j ≠ Q.free → getS j (Q1.upd Q.free m').nodes = getS j Q.nodes := fun j e1 e2 => by rw [upd_other _ e2]; exact g3 j e1 e2
      refine ⟨Q1.upd Q.free m', _, ?_, h.grow hP hI2 hs1 hi1' hx hpar hmD h0 k1 k2 k3 hneD hn (by rw [hl2.dir, hdir]; rfl) (by rw [hl2.made]; rfl) (Nat.le_trans (count_lay hl2 rfl) hnz) (by rw [hl2.slots]; rfl) (by rw [hl2.names]; rfl) (fun z hz => by rw [hfn] at hz; cases hz) (by rw [filter_none hk, hl2.links]; rfl) hfk,
        hd.grow h hkd hnD hnDd k1 k2 k3 hn hfk (fun _ => ?_)⟩
      · unfold PT.tn1 fillT
        simp only [isDir_of hn, hdir, node_of hn, hfd, hD, Bool.false_eq_true, if_false]
        unfold opC1
        rw [if_neg (by decide), if_neg (by decide), hrun, if_neg (by rw [han]; simp), hl1]
      · rw [hD, hl3]
        refine List.ext_getElem (by rw [rdL_length]) fun j h1 h2 => ?_
        have h3 := rdL_get m'.data D.length j h2
        rw [hl2.bytes j h2, if_pos h2, List.getD_eq_getElem?_getD, List.getD_eq_getElem?_getD, List.getElem?_eq_getElem h1, List.getElem?_eq_getElem h2] at h3
        exact h3
  case pos =>
    obtain ⟨n', m, b1, b2, b3, b4, b5, b6, b7⟩ := h.node i hk
    obtain rfl : n' = n := Option.some.inj (b1.symm.trans hn)
    have hdir : n'.dir = false := by
      cases e : n'.dir with
      | false => rfl
      | true =>
        rcases hk with e1 | ⟨b, hb⟩
        · exact absurd e1 hi1
        · have hbw := (spots_walk hP.gr.ok (h.sub _ hb)).2
          rw [dir_path hP b _ hbw hpw (by rw [isDir_of hn, e])] at hb
          exact absurd hb (hnx _)
    obtain ⟨y, hy⟩ : ∃ y, (pre.find? fun y => decide (y.2 = i)) = some y := by
      cases e : pre.find? fun y => decide (y.2 = i) with
      | some y => exact ⟨y, rfl⟩
      | none => exact absurd hk ((kn_find hi1).1 e)
    have hyi : y.2 = i := by simpa using List.find?_some hy
    have hym : (y.1, i) ∈ pre := by rw [← hyi]; exact List.mem_of_find?_eq_some hy
    have hyw := (h.wlk y.1 (φ i)).2 (.inr ⟨i, hym, rfl⟩)
    have hfe : (h.inv.gr.ok.get b2).1 = (h.inv.gr.ok.get b2).1 := rfl
    have hmf := (h.inv.gr.ok.get b2).1.df (by rw [b3, hdir])
    have hphi1 : φ i ≠ 1 := fun e' => hi1 (h.inj i 1 hk (.inl rfl) (e'.trans h.one.symm))
    have hl := h.lnk i hk hi1
    have hdv := (h.inv.dev _ m b2).2.2 hphi1
    have hpd := (hP.dev _ n' hn).2.2 hi1
    simp only [no] at hdv hpd
    have hlk : m.links + 1 ≤ n'.links := by
      have ht := told_refs hP i (((pre.filter fun y => decide (y.2 = i)) ++ [(a ++ [nm], i)]).map (·.1)) ?_ ?_
      · rw [List.length_map, List.length_append, List.length_singleton] at ht
        omega
      · rw [List.map_append, List.nodup_append]
        refine ⟨hnd.sublist (List.filter_sublist.map _), by simp, fun z hz w hw e => ?_⟩
        obtain ⟨u, hu, rfl⟩ := List.mem_map.1 hz
        rw [List.map_singleton, List.mem_singleton] at hw
        have e2 : u = (a ++ [nm], u.2) := Prod.ext (e.trans hw) rfl
        exact hnx u.2 (by rw [← e2]; exact (List.mem_filter.1 hu).1)
      · intro z hz
        obtain ⟨w, hw, rfl⟩ := List.mem_map.1 hz
        rcases List.mem_append.1 hw with hw | hw
        · obtain ⟨hw1, hw2⟩ := List.mem_filter.1 hw
          have := spots_walk hP.gr.ok (h.sub _ hw1)
          rw [of_decide_eq_true hw2] at this
          exact this
        · rw [List.mem_singleton.1 hw]
          exact ⟨by simp, hpw⟩
    have hl100 := hnok.links
    have hneD : φ i ≠ φ d := fun e => by
      rw [e, hmD] at b2
      rw [← Option.some.inj b2, hmDd, hdir] at b3; cases b3
    obtain ⟨an, han, hrun⟩ := run_lk hyw b2 (by rw [b3, hdir]) (by omega) hqa hmD hmDd h0 (by rw [hpl]) (walk_chk hP.gr _ (spots_walk hP.gr.ok (h.sub _ hym)).2) (hsh (y.1, i) (h.sub _ hym)) hc hs
    rw [hpl] at hrun
    simp only at hrun
    obtain ⟨Q1, hQ1⟩ : ∃ Q1, (Q.upd (φ i) { m with links := m.links + 1 }).upd (φ d) (mD.set mD.slots.length nm (φ i)) = Q1 := ⟨_, rfl⟩
    rw [hQ1] at hrun
    have hI1 : Q1.Inv := by
      have := inv_run h.inv ⟨3, pth y.1, pth (a ++ [nm]), 0, 0, [], 0, 0⟩
      rw [hrun] at this; exact this
    have g1 : getS (φ d) Q1.nodes = some (mD.set mD.slots.length nm (φ i)) := by rw [← hQ1]; exact upd_same _ _
    have g2 : getS (φ i) Q1.nodes = some { m with links := m.links + 1 } := by rw [← hQ1, upd_other _ hneD]; exact upd_same _ _
    have g3 : ∀ j, j ≠ φ d → j ≠ φ i → getS j Q1.nodes = getS j Q.nodes := fun j e1 e2 => by rw [← hQ1]; exact PT.upd2_get _ _ j e1 e2
    have hfk : ∀ k, Kn pre k → (φ k = φ i ↔ k = i) := fun k hk' => ⟨h.inj k i hk' hk, fun e => by rw [e]⟩
    refine ⟨Q1, _, ?_, h.grow hP hI1 (by rw [← hQ1]; rfl) (by rw [← hQ1]; rfl) hx hpar hmD h0 g1 g2 g3 hneD hn b3 (b4 hi1) b5 hmf.1 hmf.2 (fun z hz => by rw [← Option.some.inj (b2.symm.trans hz)]; exact hmf.2) (by show m.links + 1 = _; omega) hfk,
      hd.grow h hkd hnD hnDd g1 g2 g3 hn hfk (fun e => hd i n' m hk hn b2 e)⟩
    unfold PT.tn1 fillT
    simp only [isDir_of hn, hdir, node_of hn, hy, Bool.false_eq_true, if_false]
    unfold opK
    rw [if_neg (by decide), if_pos (pth_ne_emp _), hrun, han]
#print axioms fill_step
end Go.Proofs.YtolpcfhfcdkokaaGreatDoor
