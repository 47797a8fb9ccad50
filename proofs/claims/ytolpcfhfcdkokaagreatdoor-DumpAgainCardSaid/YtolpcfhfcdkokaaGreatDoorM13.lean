/- Joined out of the texts PUnder, POps1. -/
import Derived.Test.YtolpcfhfcdkokaaGreatDoorM12
/-
  The tree in memory: does a directory lie in another one?
-/
namespace Go.Proofs.YtolpcfhfcdkokaaGreatDoor
open Go.RowKit
open Go.Maps (Keyed)

theorem PT.rk_le (T : PT) (rk : Nat → Nat) {j : Nat} (h : T.isDir j = true) : rk j ≤ (T.nodes.map fun p => rk p.1).sum := by
  unfold PT.isDir at h
  cases hg : getS j T.nodes with
  | none => rw [hg] at h; cases h
  | some n =>
    have hm := mem_of_getS hg
    have : ∀ (l : List (Nat × PN)), (j, n) ∈ l → rk j ≤ (l.map fun p => rk p.1).sum := by
      intro l
      induction l with
      | nil => intro h; cases h
      | cons y r ih =>
        intro h
        rw [List.map_cons, List.sum_cons]
        rcases List.mem_cons.1 h with rfl | h
        · simp
        · have := ih h; omega
    exact this _ hm
theorem isDir_of {T : PT} {i : Nat} {n : PN} (h : getS i T.nodes = some n) : T.isDir i = n.dir := by unfold PT.isDir; rw [h]
def UndP (T : PT) (d i : Nat) (w : World) (e : Ending) (w' : World) : Prop := (∃ b : Bool, e = .returned (.bool b) ∧ (b = true ↔ T.Und d i)) ∧ Below w.heap.size w w'
set_option maxHeartbeats 1600000 in
set_option maxRecDepth 100000 in
theorem punder_any (own : Nat → Option Role) (lay : Nat → NA) (p mb : Nat) (T : PT) (hT : T.Wf) (rk : Nat → Nat) (hr : T.Ranked rk) (N : Nat) (hN : ∀ j, T.isDir j = true → rk j ≤ N) (d : Nat) (_hd : d ≤ 512) (m : Nat) : ∀ (i : Nat) (w : World), T.isDir i = true → N < rk i + m → PlainAt w own lay p mb T →
    Calls Tryz.prog 103 #[.pointer (some ⟨p, 0, none⟩), .int .i64 (d : Int), .int .i64 (i : Int)] w (UndP T d i w) := by
  induction m with
  | zero => intro i w hi hm; have := hN i hi; omega
  | succ m ih =>
    intro i w hi hm h
    obtain ⟨n, hn⟩ : ∃ n, getS i T.nodes = some n := by
      cases hg : getS i T.nodes with
      | none => unfold PT.isDir at hi; rw [hg] at hi; cases hi
      | some n => exact ⟨n, rfl⟩
    have hnd : n.dir = true := by rw [← isDir_of hn]; exact hi
    have hok := hT.ok.get hn
    have hio := hT.ok.ino
    have hpn := h.get hn
    obtain ⟨nb, hnb⟩ := hpn.dirs hnd
    by_cases he : d = i
    · subst he
      have heq : ((d : Int) == (d : Int)) = true := by simp
      clear ih hr hN hpn h hT hok hnd hi hm hn hnb
      go_enter Tryz.func103, Tryz.ntmps103
      go_wp2_with fail
      go_ret
      exact ⟨⟨true, rfl, fun _ => .here, fun _ => rfl⟩, Below.refl _ _⟩
    · have hne : ((d : Int) == (i : Int)) = false := by simp; omega
      have c2 := h.c2
      have hlk := h.lookI hn (by omega)
      have k6 := hpn.c6
      rw [hnb] at k6
      have hm' := hpn.names
      rw [hnb] at hm'
      have hmap : MapAt w strK natV 9 nb n.names := hm'
      have hH := Lib.hid h
      have hTH := Lib.hid hT
      have hnH := Lib.hid hn
      have hrH := Lib.hid hr
      have hihH := Lib.hid ih
      have hNH := Lib.hid hN
      have heH := Lib.hid he
      have hokN := Lib.hid hok.1.nm
      have hi512 : i ≤ 512 := by omega
      clear ih hr hN hpn h hT hok hnd hi hn hnb he hm'
      generalize hg : w.heap.size = g at *
      have hgH := Lib.hid hg
      clear hg
      go_enter Tryz.func103, Tryz.ntmps103
      go_wp2_with (first
        | (at_range; refine wpList_mrange _ rfl _ 101 rfl kStr Tryz.underlying101 hmap rfl ?_; intro w1 hr1 hb1 hs1))
      go_frame
      rw [hgH.out] at hb1 hr1
      simp only [hgH.out]
      clear hmap hs1
      go_loopw [8] (fun _ wr => ∃ todo : ByteArray → Bool, RangeAt wr strK natV 9 nb g n.names.length n.names todo ∧ Below g w wr ∧ Hid (∀ nm k, getS nm n.names = some k → todo nm = false → T.isDir k = true → ¬ T.Und d k)) (fun _ wr => wr.rangeLeft nb g)
      case atStart => exact ⟨_, hr1, hb1, fun nm k h1 h2 => by rw [h1] at h2; cases h2⟩
      case round =>
        obtain ⟨todo, hr, hb, hno⟩ := hrel
        go_wp2_with (first
          | (at_next; refine wpList_mnext _ rfl _ rfl kStr invS rfl hr ?_ ?_))
        · intro h0
          have h0H := Lib.hid h0
          have hbH := Lib.hid hb
          clear h0 hb hr
          go_wp2_with fail
          go_ret
          refine ⟨⟨false, rfl, ⟨fun h => (by cases h), fun hu => ?_⟩⟩, by rw [hgH.out]; exact hbH.out⟩
          exfalso
          cases hu with
          | here => exact heH.out rfl
          | step h1 h2 h3 h4 =>
            rw [hnH.out] at h1
            obtain rfl := Option.some.inj h1
            exact hno.out _ _ h2 (h0H.out _) h3 h4
        · intro nm k w2 hk1 hk2 hr2 hlt hch hsz hen hkey
          obtain ⟨nk, hnk⟩ := hTH.out.ents i n nm k hnH.out hk2
          have hokk := hTH.out.ok.get hnk
          have hsz1 : g ≤ wr.heap.size := by have := hb.size; rw [hgH.out] at this; exact this
          have hb2 := hb.trans (hch.below hsz1 fun b hb h => by omega)
          have hP2 := hH.out.fresh (by rw [hgH.out]; exact hb2)
          have d2 := hP2.c2
          have hlkk := hP2.lookI hnk (by omega)
          have kk0 := (hP2.get hnk).c0
          have hk512 : k ≤ 512 := by omega
          have hdk := isDir_of hnk
          have hk2H := Lib.hid hk2
          have hk1H := Lib.hid hk1
          have hr2H := Lib.hid hr2
          have hltH := Lib.hid hlt
          have hP2H := Lib.hid hP2
          have hb2H := Lib.hid hb2
          clear hk1 hk2 hr2 hlt hr hsz hP2 hb2 hnk hokk
          unfold natV at hen
          cases hdd : nk.dir with
          | false =>
            rw [kind_file hdd] at kk0
            have hdkH := Lib.hid (show T.isDir k = false by rw [hdk, hdd])
            clear hdk hdd
            go_wp2_with fail
            go_roundw
            case rel =>
              refine ⟨_, hr2H.out, hb2H.out, fun nm' k' h1 h2 h3 => ?_⟩
              by_cases e : nm' = nm
              · subst e
                rw [hk2H.out] at h1
                obtain rfl := Option.some.inj h1
                rw [hdkH.out] at h3; cases h3
              · exact hno.out nm' k' h1 (by simpa [e] using h2) h3
            case measure => exact hltH.out
          | true =>
            rw [kind_dir hdd] at kk0
            have hdk' : T.isDir k = true := by rw [hdk, hdd]
            have hdkH := Lib.hid hdk'
            have hcall := hihH.out k w2 hdk' (by have := hrH.out i n nm k hnH.out hk2H.out hdk'; omega) hP2H.out
            clear hdk hdd hdk'
            go_wp2_with (first | (go_at_call 103; refine hcall.mono ?_; rintro e w3 ⟨⟨b, rfl, hbu⟩, hb3⟩; have hbuH := Lib.hid hbu; clear hbu; cases b))
            · have hr3 := hr2H.out.chg (Chg.of_fresh (S := fun _ => False) hb3) id id
              have hlt3 := rangeLeft_chg (b := nb) (r := g) (Chg.of_fresh (S := fun _ => False) hb3) hr2H.out.owns.lt hr2H.out.lt id id
              have hlt4 := Lib.hid (show w3.rangeLeft nb g < wr.rangeLeft nb g by rw [hlt3]; exact hltH.out)
              clear hlt3
              go_wp2_with fail
              go_roundw
              case rel =>
                refine ⟨_, hr3, hb2H.out.trans (hb3.mono (Nat.le_of_lt hr2H.out.lt)), fun nm' k' h1 h2 h3 => ?_⟩
                by_cases e : nm' = nm
                · subst e
                  rw [hk2H.out] at h1
                  obtain rfl := Option.some.inj h1
                  intro hu
                  have := hbuH.out.2 hu
                  cases this
                · exact hno.out nm' k' h1 (by simpa [e] using h2) h3
              case measure => exact hlt4.out
            · go_wp2_with fail
              go_ret
              refine ⟨⟨true, rfl, fun _ => .step hnH.out hk2H.out hdkH.out (hbuH.out.1 (by simp)), fun _ => rfl⟩, ?_⟩
              rw [hgH.out]
              exact hb2H.out.trans (hb3.mono (Nat.le_of_lt hr2H.out.lt))
#print axioms punder_any
end Go.Proofs.YtolpcfhfcdkokaaGreatDoor
/-
  The tree in memory: unlink, rmdir.
-/
namespace Go.Proofs.YtolpcfhfcdkokaaGreatDoor
open Go.RowKit
open Go.Maps (Keyed)

theorem entry_in {T : PT} (hT : T.Wf) (l : List ByteArray) (h : (T.entry l).2.2.2 = 0) : ∃ n m, getS (T.entry l).1 T.nodes = some n ∧ n.dir = true ∧ getS (T.entry l).2.1 n.names = some (T.entry l).2.2.1 ∧ getS (T.entry l).2.2.1 T.nodes = some m ∧ (T.entry l).2.1 = lastN l := by
  unfold PT.entry at h ⊢
  simp only at h ⊢
  by_cases h0 : (T.last l).2 = 0
  · rw [if_neg (by simpa using h0)] at h ⊢
    obtain ⟨n, hn, hd⟩ := last_in hT l h0
    rw [hn] at h ⊢
    simp only [Option.bind_some] at h ⊢
    cases hg : getS (lastN l) n.names with
    | none => rw [hg] at h; cases h
    | some j =>
      obtain ⟨m, hm⟩ := hT.ents _ n _ j hn hg
      exact ⟨n, m, hn, hd, hg, hm, rfl⟩
  · rw [if_pos (by simpa using h0)] at h
    exact absurd h h0
theorem entry_le {T : PT} (hT : T.Wf) (l : List ByteArray) : (T.entry l).1 ≤ 512 ∧ (T.entry l).2.2.1 ≤ 512 := by
  have hio := hT.ok.ino
  by_cases h : (T.entry l).2.2.2 = 0
  · obtain ⟨n, m, h1, -, -, h2, -⟩ := entry_in hT l h
    have := hT.ok.get h1
    have := hT.ok.get h2
    omega
  · unfold PT.entry at h ⊢
    simp only at h ⊢
    split
    · simp
    · rename_i h0
      rw [if_neg h0] at h
      split
      · simp
      · rename_i j hj
        rw [hj] at h
        exact absurd rfl h
/-- A node turned keeps what the others are. -/
theorem upd_same {T : PT} (i : Nat) (n : PN) : getS i (T.upd i n).nodes = some n := getS_put_same natK i n _
theorem upd_other {T : PT} {i j : Nat} (n : PN) (h : j ≠ i) : getS j (T.upd i n).nodes = getS j T.nodes := getS_put_other natK n h _
theorem clr_of {T : PT} {d : Nat} {n : PN} {nm : ByteArray} (h : getS d T.nodes = some n) : T.clr d nm = T.upd d (n.clear nm) := by unfold PT.clr; rw [h]
theorem ins_of {T : PT} {d k j : Nat} {n : PN} {nm : ByteArray} (h : getS d T.nodes = some n) : T.ins d k nm j = T.upd d (n.set k nm j) := by unfold PT.ins; rw [h]
theorem PTurn.fst {own own1 : Nat → Option Role} {p mb : Nat} {T2 : PT} {w w1 w2 : World} (h : Ext w own own1) (hc : Chg (fun b => own b ≠ none) w w1) (k : PTurn own1 p mb T2 w1 w2) : PTurn own p mb T2 w w2 := by
  obtain ⟨o2, l2, k1, k2, k3⟩ := k
  exact ⟨o2, l2, k1, h.trans k2 hc.size, hc.ext h k3⟩
set_option maxHeartbeats 3200000 in
set_option maxRecDepth 100000 in
theorem punlink_any (own : Nat → Option Role) (lay : Nat → NA) (p mb : Nat) (T : PT) (B : Nat) (A : Option Addr) (c : Nat) (l : List ByteArray) (w : World) (h : PlainAt w own lay p mb T) (hT : T.Wf)
    (hs : Sees w B 1 A l.length (strs l)) (hl : l.length ≤ 1000000) (hc : l.length ≤ c) (hx : ∀ x ∈ l, x.size ≤ 1000000) :
    Calls Tryz.prog 69 #[.pointer (some ⟨p, 0, none⟩), .slice A l.length c] w fun e w' => e = .returned (natV (T.unlink l).2) ∧ PTurn own p mb (T.unlink l).1 w w' := by
  have hcall := pentry_any own lay p mb T B A c l w h hT hs hl hc hx
  have hin := entry_in hT l
  have hle := entry_le hT l
  have hu : T.unlink l = if (T.entry l).2.2.2 ≠ 0 then (T, (T.entry l).2.2.2) else if T.isDir (T.entry l).2.2.1 = true then (T, 102) else ((T.clr (T.entry l).1 (T.entry l).2.1).less (T.entry l).2.2.1, 0) := rfl
  have hnS := lastN_size hx
  generalize T.entry l = r at *
  obtain ⟨d, nm, i, e⟩ := r
  simp only at hcall hin hle hu
  have hH := Lib.hid h
  have hTH := Lib.hid hT
  have hTok := Lib.hid hT.ok
  clear h hs hx
  generalize l.length = len at *
  unfold natV at hcall
  go_enter Tryz.func69, Tryz.ntmps69
  by_cases he : e = 0
  · subst he
    obtain ⟨n, m, hn, hd, hnm, hm, rfl⟩ := hin rfl
    rw [if_neg (by simp)] at hu
    have hdm := isDir_of hm
    have hiH := Lib.hid hm
    have hnH := Lib.hid hn
    have hnmH := Lib.hid hnm
    have hdH := Lib.hid hd
    clear hin hT hd hnm hm hn
    cases hmd : m.dir with
    | true =>
      rw [hdm, hmd, if_pos rfl] at hu
      have huH := Lib.hid hu
      have hmdH := Lib.hid hmd
      clear hu hdm hmd
      go_wp2_with (first | (go_at_call 100; refine hcall.mono ?_; rintro e w1 ⟨rfl, hb1⟩; have hP1 := hH.out.fresh hb1; have c2 := hP1.c2; have hlk := hP1.lookI hiH.out (by omega); have k0 := (hP1.get hiH.out).c0; rw [kind_dir hmdH.out] at k0; clear hP1))
      go_ret
      refine ⟨by rw [huH.out]; rfl, ?_⟩
      rw [huH.out]
      exact .same hH.out hb1
    | false =>
      rw [hdm, hmd, if_neg (by simp)] at hu
      have huH := Lib.hid hu
      have hmdH := Lib.hid hmd
      have hid : i ≠ d := fun e => by
        subst e
        have := hiH.out.symm.trans hnH.out
        have := Option.some.inj this
        rw [this, hdH.out] at hmd; cases hmd
      clear hu hdm hmd
      obtain ⟨k, hk⟩ := hTH.out.slotn d n (lastN l) i hnH.out hnmH.out
      have hkH := Lib.hid hk
      clear hk
      have hidH := Lib.hid hid
      clear hid
      go_wp2_with (first
        | (go_at_call 100; refine hcall.mono ?_; rintro e w1 ⟨rfl, hb1⟩; have hP1 := hH.out.fresh hb1; have c2 := hP1.c2; have hlk := hP1.lookI hiH.out (by omega); have hlkd := hP1.lookI hnH.out (by omega); have k0 := (hP1.get hiH.out).c0; rw [kind_file hmdH.out] at k0; have hP1H := Lib.hid hP1; clear hP1)
        | (go_at_call 101; refine (clear_plain hP1H.out hTok.out hnH.out hdH.out hkH.out hnS).mono ?_; rintro e w2 ⟨rfl, hP2, hC2⟩; have hP2H := Lib.hid hP2; clear hP2)
        | (go_at_call 102; refine (pless_any own lay p mb i (T.upd d (n.clear (lastN l))) m w2 hP2H.out (hTok.out.upd ((hTok.out.get hnH.out).1.clear _) (hTok.out.get hnH.out).2) ((upd_other _ hidH.out).trans hiH.out) (hTH.out.lnk _ _ hiH.out)).mono ?_; rintro e w3 ⟨rfl, hP3⟩))
      go_ret
      refine ⟨by rw [huH.out]; rfl, ?_⟩
      rw [huH.out, clr_of hnH.out]
      exact PTurn.fst (own1 := own) (Ext.refl _ _) ((Chg.of_fresh hb1).trans hC2 (fun _ _ h => h) (fun _ _ h => h)) hP3
  · rw [if_pos he] at hu
    have hne : ((e : Int) != 0) = true := by simp; omega
    have huH := Lib.hid hu
    clear hu hin he
    go_wp2_with (first | (go_at_call 100; refine hcall.mono ?_; rintro e w1 ⟨rfl, hb1⟩))
    go_ret
    refine ⟨by rw [huH.out]; rfl, ?_⟩
    rw [huH.out]
    exact .same hH.out hb1
#print axioms punlink_any
set_option maxHeartbeats 3200000 in
set_option maxRecDepth 100000 in
theorem prmdir_any (own : Nat → Option Role) (lay : Nat → NA) (p mb : Nat) (T : PT) (B : Nat) (A : Option Addr) (c : Nat) (l : List ByteArray) (w : World) (h : PlainAt w own lay p mb T) (hT : T.Wf)
    (hs : Sees w B 1 A l.length (strs l)) (hl : l.length ≤ 1000000) (hc : l.length ≤ c) (hx : ∀ x ∈ l, x.size ≤ 1000000) :
    Calls Tryz.prog 70 #[.pointer (some ⟨p, 0, none⟩), .slice A l.length c] w fun e w' => e = .returned (natV (T.rmdir l).2) ∧ PTurn own p mb (T.rmdir l).1 w w' := by
  have hcall := pentry_any own lay p mb T B A c l w h hT hs hl hc hx
  have hin := entry_in hT l
  have hle := entry_le hT l
  have hu : T.rmdir l = if (T.entry l).2.2.2 ≠ 0 then (T, (T.entry l).2.2.2) else if T.isDir (T.entry l).2.2.1 = false then (T, 113) else if 0 < (T.node (T.entry l).2.2.1).names.length then (T, 140) else ((T.clr (T.entry l).1 (T.entry l).2.1).less (T.entry l).2.2.1, 0) := rfl
  have hnS := lastN_size hx
  generalize T.entry l = r at *
  obtain ⟨d, nm, i, e⟩ := r
  simp only at hcall hin hle hu
  have hH := Lib.hid h
  have hTH := Lib.hid hT
  have hTok := Lib.hid hT.ok
  clear h hs hx
  generalize l.length = len at *
  unfold natV at hcall
  go_enter Tryz.func70, Tryz.ntmps70
  by_cases he : e = 0
  · subst he
    obtain ⟨n, m, hn, hd, hnm, hm, rfl⟩ := hin rfl
    rw [if_neg (by simp)] at hu
    have hdm := isDir_of hm
    have hiH := Lib.hid hm
    have hnH := Lib.hid hn
    have hnmH := Lib.hid hnm
    have hdH := Lib.hid hd
    clear hin hT hd hnm hm hn
    cases hmd : m.dir with
    | false =>
      rw [hdm, hmd, if_pos rfl] at hu
      have huH := Lib.hid hu
      have hmdH := Lib.hid hmd
      clear hu hdm hmd
      go_wp2_with (first | (go_at_call 100; refine hcall.mono ?_; rintro e w1 ⟨rfl, hb1⟩; have hP1 := hH.out.fresh hb1; have c2 := hP1.c2; have hlk := hP1.lookI hiH.out (by omega); have k0 := (hP1.get hiH.out).c0; rw [kind_file hmdH.out] at k0; clear hP1))
      go_ret
      refine ⟨by rw [huH.out]; rfl, ?_⟩
      rw [huH.out]
      exact .same hH.out hb1
    | true =>
      rw [hdm, hmd, if_neg (by simp), node_of hiH.out] at hu
      have hmdH := Lib.hid hmd
      obtain ⟨rk, hrk⟩ := hTH.out.rank
      have hid : i ≠ d := fun e => by
        subst e
        have := hrk i n (lastN l) i hnH.out hnmH.out (by rw [hdm, hmd])
        omega
      clear hdm hmd hrk
      obtain ⟨k, hk⟩ := hTH.out.slotn d n (lastN l) i hnH.out hnmH.out
      have hkH := Lib.hid hk
      clear hk
      have hidH := Lib.hid hid
      clear hid
      obtain ⟨nl, hnl⟩ : ∃ nl, m.names.length = nl := ⟨_, rfl⟩
      have hnlH := Lib.hid hnl
      rw [hnl] at hu
      clear hnl
      by_cases h0 : 0 < nl
      · rw [if_pos h0] at hu
        have huH := Lib.hid hu
        have hlt : decide (0 < nl) = true := by simpa using h0
        clear hu
        go_wp2_with (first
          | (go_at_call 100; refine hcall.mono ?_; rintro e w1 ⟨rfl, hb1⟩; have hP1 := hH.out.fresh hb1; have c2 := hP1.c2; have hlk := hP1.lookI hiH.out (by omega); have k0 := (hP1.get hiH.out).c0; rw [kind_dir hmdH.out] at k0; obtain ⟨nbm, hnbm⟩ := (hP1.get hiH.out).dirs hmdH.out; have k6 := (hP1.get hiH.out).c6; rw [hnbm] at k6; have hmm := (hP1.get hiH.out).names; rw [hnbm] at hmm; have hmmH := Lib.hid hmm; clear hP1 hmm hnbm)
          | (at_len; refine wpList_mlen _ rfl _ 101 rfl Tryz.underlying101 (hmmH.out : MapAt _ strK natV 9 nbm m.names) rfl nl hnlH.out ?_))
        go_ret
        refine ⟨by rw [huH.out]; rfl, ?_⟩
        rw [huH.out]
        exact .same hH.out hb1
      · rw [if_neg h0] at hu
        have huH := Lib.hid hu
        have hlt : decide (0 < nl) = false := by simpa using h0
        clear hu
        go_wp2_with (first
          | (go_at_call 100; refine hcall.mono ?_; rintro e w1 ⟨rfl, hb1⟩; have hP1 := hH.out.fresh hb1; have c2 := hP1.c2; have hlk := hP1.lookI hiH.out (by omega); have hlkd := hP1.lookI hnH.out (by omega); have k0 := (hP1.get hiH.out).c0; rw [kind_dir hmdH.out] at k0; obtain ⟨nbm, hnbm⟩ := (hP1.get hiH.out).dirs hmdH.out; have k6 := (hP1.get hiH.out).c6; rw [hnbm] at k6; have hmm := (hP1.get hiH.out).names; rw [hnbm] at hmm; have hmmH := Lib.hid hmm; have hP1H := Lib.hid hP1; clear hP1 hmm hnbm)
          | (at_len; refine wpList_mlen _ rfl _ 101 rfl Tryz.underlying101 (hmmH.out : MapAt _ strK natV 9 nbm m.names) rfl nl hnlH.out ?_)
          | (go_at_call 101; refine (clear_plain hP1H.out hTok.out hnH.out hdH.out hkH.out hnS).mono ?_; rintro e w2 ⟨rfl, hP2, hC2⟩; have hP2H := Lib.hid hP2; clear hP2)
          | (go_at_call 102; refine (pless_any own lay p mb i (T.upd d (n.clear (lastN l))) m w2 hP2H.out (hTok.out.upd ((hTok.out.get hnH.out).1.clear _) (hTok.out.get hnH.out).2) ((upd_other _ hidH.out).trans hiH.out) (hTH.out.lnk _ _ hiH.out)).mono ?_; rintro e w3 ⟨rfl, hP3⟩))
        go_ret
        refine ⟨by rw [huH.out]; rfl, ?_⟩
        rw [huH.out, clr_of hnH.out]
        exact PTurn.fst (own1 := own) (Ext.refl _ _) ((Chg.of_fresh hb1).trans hC2 (fun _ _ h => h) (fun _ _ h => h)) hP3
  · rw [if_pos he] at hu
    have hne : ((e : Int) != 0) = true := by simp; omega
    have huH := Lib.hid hu
    clear hu hin he
    go_wp2_with (first | (go_at_call 100; refine hcall.mono ?_; rintro e w1 ⟨rfl, hb1⟩))
    go_ret
    refine ⟨by rw [huH.out]; rfl, ?_⟩
    rw [huH.out]
    exact .same hH.out hb1
#print axioms prmdir_any
end Go.Proofs.YtolpcfhfcdkokaaGreatDoor
