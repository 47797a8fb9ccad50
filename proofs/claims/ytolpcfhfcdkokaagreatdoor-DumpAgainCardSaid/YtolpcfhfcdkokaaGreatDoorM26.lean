/- Joined out of the texts QLay, QRel. -/
import Derived.Test.YtolpcfhfcdkokaaGreatDoorM25
/-
  A file's bytes laid by writes of what is not zeros: the pure law.
-/
namespace Go.Proofs.YtolpcfhfcdkokaaGreatDoor

/-- Is a chunk of a block's length all zeros? -/
def zch (d : List UInt8) (e : Nat) : Bool := ((d.drop e).take 128).all (· == 0)
/-- The end of what is not zeros. -/
def runE (d : List UInt8) (a : Nat) : Nat → Nat → Nat
  | 0, e => e
  | f + 1, e => if e < d.length ∧ e - a < 131072 ∧ zch d e = false then runE d a f (min (e + 128) d.length) else e
def opW (p : ByteArray) (a : Nat) (ch : List UInt8) : Opn := ⟨7, p, emp, a, 0, ch, 0, 0⟩
def opT (p : ByteArray) (n : Nat) : Opn := ⟨8, p, emp, n, 0, [], 0, 0⟩
noncomputable def layT (p : ByteArray) (d : List UInt8) : Nat → PT → Nat → PT × Nat
  | 0, T, _ => (T, 999)
  | f + 1, T, a =>
    if a < d.length then
      if runE d a 1100 a = a then layT p d f T (a + 128)
      else if (T.run (opW p a ((d.drop a).take (runE d a 1100 a - a)))).2.code ≠ 0 then ((T.run (opW p a ((d.drop a).take (runE d a 1100 a - a)))).1, (T.run (opW p a ((d.drop a).take (runE d a 1100 a - a)))).2.code)
      else layT p d f (T.run (opW p a ((d.drop a).take (runE d a 1100 a - a)))).1 (runE d a 1100 a)
    else ((T.run (opT p d.length)).1, (T.run (opT p d.length)).2.code)
/-- The blocks that are not all zeros. -/
def nzB (d : List UInt8) : List Nat := (List.range 1068).filter fun k => zch d (128 * k) == false
theorem runE_spec (d : List UInt8) (a : Nat) (ha : a % 128 = 0) : ∀ (f e : Nat), a ≤ e → e ≤ a + 131072 → (e % 128 = 0 ∨ e = d.length) → e ≤ d.length →
    e ≤ runE d a f e ∧ runE d a f e ≤ a + 131072 ∧ (runE d a f e % 128 = 0 ∨ runE d a f e = d.length) ∧ runE d a f e ≤ d.length ∧ (∀ x, e ≤ x → x < runE d a f e → zch d (128 * (x / 128)) = false) ∧ (0 < f → e < d.length → e - a < 131072 → runE d a f e = e → zch d e = true)
  | 0, e, h1, h2, h3, h4 => ⟨Nat.le_refl _, h2, h3, h4, fun x hx hx' => by simp only [runE] at hx'; omega, fun h => by omega⟩
  | f + 1, e, h1, h2, h3, h4 => by
    rw [runE]
    split
    · rename_i h
      obtain ⟨h5, h6, h7⟩ := h
      have he : e % 128 = 0 := by omega
      obtain ⟨a1, a2, a3, a4, a5, _⟩ := runE_spec d a ha f (min (e + 128) d.length) (by omega) (by omega) (by omega) (by omega)
      refine ⟨by omega, a2, a3, a4, fun x hx hx' => ?_, fun _ _ _ h8 => by omega⟩
      by_cases h8 : x < e + 128
      · have : 128 * (x / 128) = e := by omega
        rw [this]; exact h7
      · exact a5 x (by omega) hx'
    · rename_i h
      refine ⟨Nat.le_refl _, h2, h3, h4, fun x hx hx' => by omega, fun _ h5 h6 _ => ?_⟩
      cases hz : zch d e with
      | true => rfl
      | false => exact absurd ⟨h5, h6, hz⟩ h
theorem zch_zero {d : List UInt8} {e x : Nat} (h : zch d e = true) (h1 : e ≤ x) (h2 : x < e + 128) : d.getD x 0 = 0 := by
  unfold zch at h
  by_cases hx : x < d.length
  · have := List.all_eq_true.1 h (d[x]) (List.mem_iff_getElem.2 ⟨x - e, by rw [List.length_take, List.length_drop]; omega, by
      rw [List.getElem_take, List.getElem_drop]
      congr 1
      omega⟩)
    rw [List.getD_eq_getElem?_getD, List.getElem?_eq_getElem hx]
    simpa using this
  · rw [List.getD_eq_getElem?_getD, List.getElem?_eq_none (by omega)]
    rfl
theorem keys_wrB {k : Nat} : ∀ {bs : List UInt8} {d : Dat} {q : Nat} {s : List UInt8}, (k, s) ∈ wrB d q bs → (∃ s', (k, s') ∈ d) ∨ ∃ x, q ≤ x ∧ x < q + bs.length ∧ k = x / 128
  | [], d, q, s, h => .inl ⟨s, h⟩
  | b :: bs, d, q, s, h => by
    rw [wrB] at h
    rcases keys_wrB h with ⟨s', h'⟩ | ⟨x, h1, h2, h3⟩
    · unfold wr1 at h'
      rcases (mem_putS natK).1 h' with e | ⟨h', _⟩
      · exact .inr ⟨q, Nat.le_refl _, by simp, congrArg Prod.fst e⟩
      · exact .inl ⟨s', h'⟩
    · exact .inr ⟨x, by omega, by simp; omega, h3⟩
/-- How far a file's bytes are laid. -/
structure LayI (n : PN) (d : List UInt8) (a : Nat) (m : PN) : Prop where
  dir : m.dir = n.dir
  links : m.links = n.links
  made : m.made = n.made
  slots : m.slots = n.slots
  names : m.names = n.names
  ok : m.Ok
  bytes : ∀ x, x < d.length → byteAt m.data x = if x < a then d.getD x 0 else 0
  keys : ∀ p ∈ m.data, p.1 ∈ nzB d
theorem count_lay {n m : PN} {d : List UInt8} {a : Nat} (h : LayI n d a m) (hd : n.dir = false) : m.count ≤ cntK (nzB d) := by
  rw [count_file h.ok (by rw [h.dir]; exact hd)]
  refine cntK_mono (ris_keys h.ok.dris) fun k hk => ?_
  obtain ⟨p, hp, rfl⟩ := List.mem_map.1 hk
  exact h.keys p hp
theorem nz_mem {d : List UInt8} {x : Nat} (h : zch d (128 * (x / 128)) = false) (hx : x < 136704) : x / 128 ∈ nzB d := by
  unfold nzB
  rw [List.mem_filter, List.mem_range]
  exact ⟨by omega, by rw [h]; rfl⟩
theorem upd_upd (T : PT) (i : Nat) (n m : PN) : (T.upd i n).upd i m = T.upd i m := by
  unfold PT.upd
  simp only [putS_put]
theorem walk_upd {T : PT} {i : Nat} {n m : PN} (hg : getS i T.nodes = some n) (hd : m.dir = n.dir) (hn : m.names = n.names) : ∀ (l : List ByteArray) (j : Nat), (T.upd i m).walk l j = T.walk l j
  | [], _ => rfl
  | nm :: r, j => by
    rw [PT.walk, PT.walk]
    by_cases e : j = i
    · subst e
      rw [upd_same, hg]
      simp only
      rw [hd, hn]
      split
      · rfl
      · split
        · rfl
        · exact walk_upd hg hd hn r _
    · rw [upd_other _ e]
      split
      · rfl
      · split
        · rfl
        · split
          · rfl
          · exact walk_upd hg hd hn r _
theorem run_file {T : PT} {ns : List ByteArray} {i : Nat} {n : PN} (hw : T.walk ns 1 = (i, 0)) (hg : getS i T.nodes = some n) (hd : n.dir = false) (hc : ∀ x ∈ ns, chk x = true) (hs : (pth ns).size ≤ 400) (a : Nat) (ch : List UInt8) :
    T.run (opW (pth ns) a ch) = ((T.write i a ch).1, .err (T.write i a ch).2) ∧ T.run (opT (pth ns) a) = ((T.trunc i a).1, .err (T.trunc i a).2) := by
  have hsp := spl_pth hc hs
  have h1 : (opW (pth ns) a ch).fine = true := by
    unfold Opn.fine opW useP useT useO useL useD useM useF
    simp
  have h2 : (opT (pth ns) a).fine = true := by
    unfold Opn.fine opT useP useT useO useL useD useM useF
    simp
  have hi := isDir_of hg
  rw [hd] at hi
  have told : ∀ c, (Ans.err c).told = .err c := fun c => by
    unfold Ans.told Ans.err
    split
    · rfl
    · rfl
  constructor
  · unfold PT.run
    rw [if_neg (by rw [h1]; simp), if_neg (by simp [Opn.code1, opW, hsp]), if_neg (by simp [Opn.code2, opW])]
    simp [PT.does, PT.asks, opW, Opn.from_, hsp, hw, hi, told]
  · unfold PT.run
    rw [if_neg (by rw [h2]; simp), if_neg (by simp [Opn.code1, opT, hsp]), if_neg (by simp [Opn.code2, opT])]
    simp [PT.does, PT.asks, opT, Opn.from_, hsp, hw, hi, told]
theorem byte_cut {d : Dat} (h : RisS natK d) (hl : ∀ p ∈ d, p.2.length = 128) {size x : Nat} (hx : x < size) : byteAt (cutData size d) x = byteAt d x := by
  unfold byteAt blkOf
  rw [get_cut _ h]
  cases hg : getS (x / 128) d with
  | none => rfl
  | some s =>
    have hs : s.length = 128 := hl _ (mem_of_getS hg)
    simp only [Option.bind_some]
    unfold cutE
    rw [if_neg (by omega)]
    split
    · simp only [Option.getD_some]
      unfold cutBlk
      rw [List.getD_eq_getElem?_getD, List.getElem?_append_left (by rw [List.length_take]; omega), List.getElem?_take, if_pos (by omega), List.getD_eq_getElem?_getD]
    · rfl
theorem keys_cut {d : Dat} {size : Nat} {p : Nat × List UInt8} (h : p ∈ cutData size d) : ∃ s, (p.1, s) ∈ d := by
  unfold cutData at h
  obtain ⟨q, hq, h1⟩ := List.mem_filterMap.1 h
  cases hc : cutE size q.1 q.2 with
  | none => rw [hc] at h1; cases h1
  | some s =>
    rw [hc] at h1
    simp only [Option.map_some, Option.some.injEq] at h1
    rw [← h1]
    exact ⟨q.2, hq⟩
theorem wr_room {T : PT} {i : Nat} {n m : PN} (hT : T.Ok) (hg : getS i T.nodes = some n) {c : Nat} (hc : c + T.used + T.inodes + 1 ≤ T.sectors + n.count) : c + (T.upd i m).used + T.inodes + 1 ≤ T.sectors + m.count := by
  have := PT.used_upd hT.ris (n' := m) hg
  omega
theorem lay_go {T : PT} (h : T.Inv) {ns : List ByteArray} {i : Nat} {n : PN} (hw : T.walk ns 1 = (i, 0)) (hg : getS i T.nodes = some n) (hdir : n.dir = false) (d : List UInt8) (hd : d.length ≤ 136704) (hs : (pth ns).size ≤ 400)
    (hroom : cntK (nzB d) + T.used + T.inodes + 1 ≤ T.sectors + n.count) : ∀ (f a : Nat) (m : PN), LayI n d a m → (a % 128 = 0 ∨ a = d.length) → d.length + 128 ≤ a + 128 * f → a < d.length + 128 → ∃ m', layT (pth ns) d f (T.upd i m) a = (T.upd i m', 0) ∧ LayI n d d.length m' ∧ m'.size = d.length
  | 0, a, m, hm, h1, h2, h3 => by omega
  | f + 1, a, m, hm, h1, h2, h3 => by
    have hgm : getS i (T.upd i m).nodes = some m := upd_same _ _
    have hdm : m.dir = false := by rw [hm.dir]; exact hdir
    have hwm : (T.upd i m).walk ns 1 = (i, 0) := by rw [walk_upd hg hm.dir hm.names]; exact hw
    have hc := walk_chk h.gr _ hw
    rw [layT]
    split
    · rename_i hlt
      have ha : a % 128 = 0 := by omega
      obtain ⟨a1, a2, a3, a4, a5, a6⟩ := runE_spec d a ha 1100 a (Nat.le_refl _) (by omega) h1 (by omega)
      split
      · rename_i he
        have hz := a6 (by omega) hlt (by omega) he
        refine lay_go h hw hg hdir d hd hs hroom f (a + 128) m ⟨hm.dir, hm.links, hm.made, hm.slots, hm.names, hm.ok, fun x hxd => ?_, hm.keys⟩ (.inl (by omega)) (by omega) (by omega)
        rw [hm.bytes x hxd]
        by_cases hx : x < a
        · rw [if_pos hx, if_pos (by omega)]
        · rw [if_neg hx]
          split
          · rw [zch_zero hz (by omega) (by omega)]
          · rfl
      · rename_i he
        generalize runE d a 1100 a = e at *
        have hch : ((d.drop a).take (e - a)).length = e - a := by rw [List.length_take, List.length_drop]; omega
        have hrun := (run_file hwm hgm hdm hc hs a ((d.drop a).take (e - a))).1
        have hwok : ((m.wrote a ((d.drop a).take (e - a)))).Ok := wrote_ok hm.ok hdm (by omega)
        have hI : LayI n d e (m.wrote a ((d.drop a).take (e - a))) := by
          refine ⟨hm.dir, hm.links, hm.made, hm.slots, hm.names, hwok, fun x hxd => ?_, fun p hp => ?_⟩
          · show byteAt (wrB m.data a _) x = _
            rw [byteAt_wrB hm.ok.dOk x a _ (by omega)]
            split
            · rename_i hx
              rw [if_pos (by omega), List.getElem_take, List.getElem_drop, List.getD_eq_getElem?_getD, List.getElem?_eq_getElem (by omega)]
              simp only [Option.getD_some]
              congr 1
              omega
            · rename_i hx
              rw [hm.bytes x hxd]
              by_cases h3 : x < a
              · rw [if_pos h3, if_pos (by omega)]
              · rw [if_neg h3, if_neg (by omega)]
          · have hp' : p ∈ wrB m.data a ((d.drop a).take (e - a)) := hp
            rcases keys_wrB hp' with ⟨s', h3⟩ | ⟨x, h3, h4, h5⟩
            · exact hm.keys (p.1, s') h3
            · rw [h5]
              exact nz_mem (a5 x h3 (by omega)) (by omega)
        have hcnt := count_lay hI hdir
        have hroom2 := wr_room (m := m) h.gr.ok hg hroom
        have hwr : (T.upd i m).write i a ((d.drop a).take (e - a)) = (T.upd i (m.wrote a ((d.drop a).take (e - a))), 0) := by
          unfold PT.write
          rw [if_neg (by omega)]
          simp only [Int.toNat_natCast]
          rw [node_of hgm, if_pos, upd_upd]
          have e1 : (T.upd i m).sectors = T.sectors := rfl
          have e2 : (T.upd i m).inodes = T.inodes := rfl
          rw [e1, e2]
          omega
        rw [hwr] at hrun
        rw [if_neg (by rw [hrun]; exact fun e => e rfl), hrun]
        exact lay_go h hw hg hdir d hd hs hroom f e _ hI a3 (by omega) (by omega)
    · rename_i hlt
      have hrun := (run_file hwm hgm hdm hc hs d.length []).2
      have htr : (T.upd i m).trunc i (d.length : Nat) = (T.upd i (m.cut d.length), 0) := by
        unfold PT.trunc
        rw [if_neg (by omega)]
        simp only [Int.toNat_natCast]
        rw [node_of hgm, upd_upd]
      rw [htr] at hrun
      rw [hrun]
      refine ⟨_, rfl, ⟨hm.dir, hm.links, hm.made, hm.slots, hm.names, cut_ok hm.ok hd, fun x hxd => ?_, fun p hp => ?_⟩, rfl⟩
      · show byteAt (cutData d.length m.data) x = _
        rw [byte_cut hm.ok.dris hm.ok.secs hxd, hm.bytes x hxd, if_pos (by omega), if_pos hxd]
      · obtain ⟨s, h3⟩ := keys_cut (size := d.length) hp
        exact hm.keys (p.1, s) h3
#print axioms lay_go
end Go.Proofs.YtolpcfhfcdkokaaGreatDoor
/-
  A tree that is filled again: what it has of the first one's; the pure law of one entry more.
-/
namespace Go.Proofs.YtolpcfhfcdkokaaGreatDoor

/-- An entry. -/
def PT.E (T : PT) (i : Nat) (nm : ByteArray) (j : Nat) : Prop := ∃ n, getS i T.nodes = some n ∧ n.dir = true ∧ getS nm n.names = some j
theorem walk_E {T : PT} {nm : ByteArray} {r : List ByteArray} {i j : Nat} : T.walk (nm :: r) i = (j, 0) ↔ ∃ k, T.E i nm k ∧ T.walk r k = (j, 0) := by
  constructor
  · intro h
    obtain ⟨n, k, h1, h2, h3, h4⟩ := walk_cons_inv h
    exact ⟨k, ⟨n, h1, h2, h3⟩, h4⟩
  · rintro ⟨k, ⟨n, h1, h2, h3⟩, h4⟩
    rw [walk_cons h1 h2 h3]; exact h4
theorem walk_snoc {T : PT} {nm : ByteArray} {a : List ByteArray} {i j : Nat} : T.walk (a ++ [nm]) i = (j, 0) ↔ ∃ k, T.walk a i = (k, 0) ∧ T.E k nm j := by
  constructor
  · intro h
    obtain ⟨k, h1, h2⟩ := walk_append_inv _ _ h
    obtain ⟨k', h3, h4⟩ := walk_E.1 h2
    have e : k' = j := congrArg Prod.fst h4
    exact ⟨k, h1, e ▸ h3⟩
  · rintro ⟨k, h1, h2⟩
    rw [walk_append _ _ h1]
    exact walk_E.2 ⟨j, h2, rfl⟩
theorem E_fun {T : PT} {i : Nat} {nm : ByteArray} {j k : Nat} (h1 : T.E i nm j) (h2 : T.E i nm k) : j = k := by
  obtain ⟨n, a1, _, a3⟩ := h1
  obtain ⟨m, b1, _, b3⟩ := h2
  have := Option.some.inj (a1.symm.trans b1)
  subst this
  exact Option.some.inj (a3.symm.trans b3)
theorem E_dir {T : PT} {i : Nat} {nm : ByteArray} {j : Nat} (h : T.E i nm j) : T.isDir i = true := by
  obtain ⟨n, a1, a2, _⟩ := h
  rw [isDir_of a1, a2]
/-- A directory has one path. -/
theorem dir_path {P : PT} (h : P.Inv) : ∀ (a b : List ByteArray) {i : Nat}, P.walk a 1 = (i, 0) → P.walk b 1 = (i, 0) → P.isDir i = true → a = b := by
  intro a
  induction hl : a.length generalizing a with
  | zero =>
    obtain rfl := List.eq_nil_of_length_eq_zero hl
    intro b i h1 h2 h3
    have e : 1 = i := congrArg Prod.fst h1
    subst e
    rcases List.eq_nil_or_concat b with rfl | ⟨b', y, rfl⟩
    · rfl
    · rw [List.concat_eq_append] at h2
      obtain ⟨k, _, n, h5, _, h7⟩ := walk_snoc.1 h2
      exact absurd rfl (h.gr.ne1 h5 h7)
  | succ m ih =>
    intro b i h1 h2 h3
    rcases List.eq_nil_or_concat a with rfl | ⟨a', x, rfl⟩
    · cases hl
    rw [List.concat_eq_append] at h1 hl ⊢
    obtain ⟨k, h4, h4e⟩ := walk_snoc.1 h1
    have h4e' := h4e
    obtain ⟨n, h5, h6, h7⟩ := h4e
    have hi1 := h.gr.ne1 h5 h7
    rcases List.eq_nil_or_concat b with rfl | ⟨b', y, rfl⟩
    · exact absurd (congrArg Prod.fst h2).symm hi1
    rw [List.concat_eq_append] at h2 ⊢
    obtain ⟨k', h8, h8e⟩ := walk_snoc.1 h2
    obtain ⟨n', h9, h10, h11⟩ := h8e
    obtain ⟨z, hz⟩ := h.gr.ents _ _ _ _ h5 h7
    rw [isDir_of hz] at h3
    obtain ⟨_, d2, d3⟩ := h.dev i z hz
    have d4 := d3 hi1
    rw [d2 h3] at d4
    simp only [no] at d4
    obtain ⟨e1, e2⟩ := PT.refs_one h.gr.ok (j := i) (by omega) h5 h7 h9 h11
    subst e1; subst e2
    rw [ih a' (by simpa using hl) b' h4 h8 (E_dir h4e')]
theorem E_set {T : PT} {D k fr : Nat} {nm : ByteArray} {nD : PN} (hg : getS D T.nodes = some nD) (hd : nD.dir = true) (h0 : getS nm nD.names = none) (i : Nat) (x : ByteArray) (j : Nat) : (T.upd D (nD.set k nm fr)).E i x j ↔ T.E i x j ∨ (i = D ∧ x = nm ∧ j = fr) := by
  constructor
  · rintro ⟨n, h1, h2, h3⟩
    rcases getS_upd h1 with ⟨rfl, rfl⟩ | ⟨_, h4⟩
    · rcases getS_set h3 with ⟨rfl, rfl⟩ | ⟨_, h5⟩
      · exact .inr ⟨rfl, rfl, rfl⟩
      · exact .inl ⟨nD, hg, hd, h5⟩
    · exact .inl ⟨n, h4, h2, h3⟩
  · rintro (⟨n, h1, h2, h3⟩ | ⟨rfl, rfl, rfl⟩)
    · by_cases e : i = D
      · subst e
        have := Option.some.inj (hg.symm.trans h1)
        subst this
        refine ⟨_, upd_same _ _, hd, ?_⟩
        have hx : x ≠ nm := fun e => by subst e; rw [h0] at h3; cases h3
        show getS x (putS strK nm fr nD.names) = _
        rw [getS_put_other strK _ hx]
        exact h3
      · exact ⟨n, by rw [upd_other _ e]; exact h1, h2, h3⟩
    · refine ⟨_, upd_same _ _, hd, ?_⟩
      show getS x (putS strK x j nD.names) = _
      rw [getS_put_same]
theorem E_turn {T : PT} {D : Nat} {n m : PN} (hg : getS D T.nodes = some n) (hd : m.dir = n.dir) (hn : m.names = n.names) (i : Nat) (x : ByteArray) (j : Nat) : (T.upd D m).E i x j ↔ T.E i x j := by
  constructor
  · rintro ⟨y, h1, h2, h3⟩
    rcases getS_upd h1 with ⟨rfl, rfl⟩ | ⟨_, h4⟩
    · exact ⟨n, hg, by rw [← hd]; exact h2, by rw [← hn]; exact h3⟩
    · exact ⟨y, h4, h2, h3⟩
  · rintro ⟨y, h1, h2, h3⟩
    by_cases e : i = D
    · subst e
      have := Option.some.inj (hg.symm.trans h1)
      subst this
      exact ⟨m, upd_same _ _, by rw [hd]; exact h2, by rw [hn]; exact h3⟩
    · exact ⟨y, by rw [upd_other _ e]; exact h1, h2, h3⟩
theorem E_new {T : PT} {D : Nat} {m : PN} (hg : getS D T.nodes = none) (hn : m.names = []) (i : Nat) (x : ByteArray) (j : Nat) : (T.upd D m).E i x j ↔ T.E i x j := by
  constructor
  · rintro ⟨y, h1, h2, h3⟩
    rcases getS_upd h1 with ⟨rfl, rfl⟩ | ⟨_, h4⟩
    · rw [hn] at h3; cases h3
    · exact ⟨y, h4, h2, h3⟩
  · rintro ⟨y, h1, h2, h3⟩
    have e : i ≠ D := fun e => by subst e; rw [hg] at h1; cases h1
    exact ⟨y, by rw [upd_other _ e]; exact h1, h2, h3⟩
theorem walk_add {T T' : PT} {D fr : Nat} {nm : ByteArray} (hE : ∀ i x j, T'.E i x j ↔ T.E i x j ∨ (i = D ∧ x = nm ∧ j = fr)) (hleaf : ∀ x j, ¬ T'.E fr x j) : ∀ (ms : List ByteArray) (i j : Nat), T'.walk ms i = (j, 0) ↔ T.walk ms i = (j, 0) ∨ ∃ a, ms = a ++ [nm] ∧ T.walk a i = (D, 0) ∧ j = fr
  | [], i, j => by
    constructor
    · intro h; exact .inl h
    · rintro (h | ⟨a, h, _⟩)
      · exact h
      · simp at h
  | x :: r, i, j => by
    rw [walk_E]
    constructor
    · rintro ⟨k, h1, h2⟩
      rcases (hE _ _ _).1 h1 with h1 | ⟨rfl, rfl, rfl⟩
      · rcases (walk_add hE hleaf r k j).1 h2 with h2 | ⟨a, rfl, h3, h4⟩
        · exact .inl (walk_E.2 ⟨k, h1, h2⟩)
        · exact .inr ⟨x :: a, rfl, walk_E.2 ⟨k, h1, h3⟩, h4⟩
      · cases r with
        | nil => exact .inr ⟨[], rfl, rfl, (congrArg Prod.fst h2).symm⟩
        | cons y r =>
          obtain ⟨k', h3, _⟩ := walk_E.1 h2
          exact absurd h3 (hleaf _ _)
    · rintro (h | ⟨a, h1, h2, rfl⟩)
      · obtain ⟨k, h1, h2⟩ := walk_E.1 h
        exact ⟨k, (hE _ _ _).2 (.inl h1), (walk_add hE hleaf r k j).2 (.inl h2)⟩
      · cases a with
        | nil =>
          simp only [List.nil_append, List.cons.injEq] at h1
          obtain ⟨rfl, rfl⟩ := h1
          have e : i = D := congrArg Prod.fst h2
          exact ⟨j, (hE _ _ _).2 (.inr ⟨e, rfl, rfl⟩), rfl⟩
        | cons y a =>
          simp only [List.cons_append, List.cons.injEq] at h1
          obtain ⟨rfl, rfl⟩ := h1
          obtain ⟨k, h3, h4⟩ := walk_E.1 h2
          exact ⟨k, (hE _ _ _).2 (.inl h3), (walk_add hE hleaf _ k j).2 (.inr ⟨a, rfl, h4, rfl⟩)⟩
theorem walk_same {T T' : PT} (hE : ∀ i x j, T'.E i x j ↔ T.E i x j) : ∀ (ms : List ByteArray) (i j : Nat), T'.walk ms i = (j, 0) ↔ T.walk ms i = (j, 0)
  | [], _, _ => Iff.rfl
  | x :: r, i, j => by
    rw [walk_E, walk_E]
    constructor
    · rintro ⟨k, h1, h2⟩; exact ⟨k, (hE _ _ _).1 h1, (walk_same hE r k j).1 h2⟩
    · rintro ⟨k, h1, h2⟩; exact ⟨k, (hE _ _ _).2 h1, (walk_same hE r k j).2 h2⟩

/-! ### Sums -/
theorem sum_inj {γ δ : Type} (f : Nat × γ → Nat) (g : δ → Nat) (R : Nat → Nat → Prop) : ∀ (l : List (Nat × γ)) (m : List (Nat × δ)), (l.Pairwise fun p q => p.1 ≠ q.1) → (m.Pairwise fun p q => p.1 ≠ q.1) →
    (∀ p ∈ l, ∃ i v, R p.1 i ∧ getS i m = some v ∧ f p ≤ g v) → (∀ p ∈ l, ∀ q ∈ l, ∀ i, R p.1 i → R q.1 i → p.1 = q.1) → (l.map f).sum ≤ sumV g m
  | [], m, _, _, _, _ => Nat.zero_le _
  | p :: r, m, h1, h2, h3, h4 => by
    obtain ⟨a1, a2⟩ := List.pairwise_cons.1 h1
    obtain ⟨i, v, b1, b2, b3⟩ := h3 p List.mem_cons_self
    have ih := sum_inj f g R r (delS i m) a2 (List.Pairwise.filter _ h2) (fun q hq => by
      obtain ⟨i', v', c1, c2, c3⟩ := h3 q (List.mem_cons_of_mem _ hq)
      refine ⟨i', v', c1, ?_, c3⟩
      have hne : i' ≠ i := fun e => by
        subst e
        exact a1 q hq (h4 p List.mem_cons_self q (List.mem_cons_of_mem _ hq) i' b1 c1)
      rw [getS_del_other hne]
      exact c2) fun p hp q hq => h4 p (List.mem_cons_of_mem _ hp) q (List.mem_cons_of_mem _ hq)
    have h5 := sumV_del g i h2
    rw [atV_some b2] at h5
    simp only [List.map_cons, List.sum_cons]
    omega
theorem sumV_one {γ : Type} : ∀ l : List (Nat × γ), sumV (fun _ => 1) l = l.length
  | [] => rfl
  | x :: r => by rw [sumV_cons, sumV_one r, List.length_cons]; omega

/-! ### How often a file is told -/
theorem filt_one (i : Nat) : ∀ l : List (ByteArray × Nat), (l.filter fun q => decide (q.2 = i)).length = sumV (one_ i) l
  | [] => rfl
  | x :: r => by
    rw [sumV_cons, List.filter_cons]
    unfold one_
    by_cases e : x.2 = i
    · rw [if_pos (by simpa using e), if_pos e, List.length_cons, filt_one i r]
      show _ = 1 + sumV (one_ i) r
      omega
    · rw [if_neg (by simpa using e), if_neg e, filt_one i r]
      show _ = 0 + sumV (one_ i) r
      omega
def edgesTo (P : PT) (i : Nat) : List (Nat × ByteArray) := P.nodes.flatMap fun p => (p.2.names.filter fun q => decide (q.2 = i)).map fun q => (p.1, q.1)
theorem edgesTo_len (P : PT) (i : Nat) : (edgesTo P i).length = P.refs i := by
  unfold edgesTo PT.refs sumV
  rw [List.length_flatMap]
  congr 1
  refine List.map_congr_left fun p _ => ?_
  rw [List.length_map, filt_one]
  rfl
theorem mem_edgesTo {P : PT} {i d : Nat} {nm : ByteArray} (h : P.E d nm i) : (d, nm) ∈ edgesTo P i := by
  obtain ⟨n, h1, _, h3⟩ := h
  unfold edgesTo
  refine List.mem_flatMap.2 ⟨(d, n), mem_of_getS h1, List.mem_map.2 ⟨(nm, i), List.mem_filter.2 ⟨mem_of_getS h3, by simp⟩, rfl⟩⟩
theorem told_refs {P : PT} (h : P.Inv) (i : Nat) (M : List (List ByteArray)) (hn : M.Nodup) (hM : ∀ y ∈ M, y ≠ [] ∧ P.walk y 1 = (i, 0)) : M.length ≤ P.refs i := by
  rw [← edgesTo_len]
  have key : ∀ y ∈ M, ∃ a nm d, y = a ++ [nm] ∧ P.walk a 1 = (d, 0) ∧ P.E d nm i := fun y hy => by
    obtain ⟨h1, h2⟩ := hM y hy
    rcases List.eq_nil_or_concat y with rfl | ⟨a, nm, rfl⟩
    · exact absurd rfl h1
    rw [List.concat_eq_append] at h2 ⊢
    obtain ⟨d, h3, h4⟩ := walk_snoc.1 h2
    exact ⟨a, nm, d, rfl, h3, h4⟩
  have hl : (M.map fun y => ((P.walk y.dropLast 1).1, lastN y)).length = M.length := List.length_map _
  rw [← hl]
  refine length_le_of_subset ?_ fun z hz => ?_
  · rw [List.Nodup, List.pairwise_map]
    refine hn.imp_of_mem fun {y z} hy hz hne e => hne ?_
    obtain ⟨a, nm, d, rfl, h3, h4⟩ := key y hy
    obtain ⟨b, nm', d', rfl, h3', h4'⟩ := key z hz
    have e1 : d = d' := by
      have := congrArg Prod.fst e
      simp only [List.dropLast_concat, h3, h3'] at this
      exact this
    have e2 : nm = nm' := by
      have := congrArg Prod.snd e
      simpa [lastN] using this
    subst e1; subst e2
    rw [dir_path h a b h3 h3' (E_dir h4)]
  · obtain ⟨y, hy, rfl⟩ := List.mem_map.1 hz
    obtain ⟨a, nm, d, rfl, h3, h4⟩ := key y hy
    simp only [List.dropLast_concat, h3, lastN, List.getLastD_concat]
    exact mem_edgesTo h4
#print axioms told_refs
end Go.Proofs.YtolpcfhfcdkokaaGreatDoor
