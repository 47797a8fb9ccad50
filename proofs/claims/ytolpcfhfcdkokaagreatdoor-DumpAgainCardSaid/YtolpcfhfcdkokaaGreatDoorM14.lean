/- Joined out of the texts POps2. -/
import Derived.Test.YtolpcfhfcdkokaaGreatDoorM13
/-
  The tree in memory: link.
-/
namespace Go.Proofs.YtolpcfhfcdkokaaGreatDoor
open Go.RowKit
open Go.Maps (Keyed)

theorem place_ok {T : PT} {n : PN} (h : (T.place n).2 = 0) : (T.place n).1 ≤ n.slots.length ∧ ((T.place n).1 < n.slots.length ∨ n.slots.length ≠ 1068) := by
  unfold PT.place at h ⊢
  cases hf : firstIdx emp n.slots with
  | some k => have := (firstIdx_lt hf).1; simp only; omega
  | none =>
    rw [hf] at h
    simp only at h ⊢
    split
    · rename_i h1; rw [if_pos h1] at h; cases h
    · rename_i h1
      split
      · exact ⟨Nat.le_refl _, .inr h1⟩
      · exact ⟨Nat.zero_le _, .inr h1⟩
theorem place_lt {T : PT} {n : PN} (hn : n.Ok) (h : (T.place n).2 = 0) : (T.place n).1 < 1068 := by
  have h1 := place_ok h
  have h2 := hn.slots
  omega
theorem place_code (T : PT) (n : PN) : (T.place n).2 ≤ 112 := by
  unfold PT.place
  split
  · simp
  · split
    · simp
    · split <;> simp
theorem lastN_size40 {l : List ByteArray} (h : ∀ x ∈ l, x.size ≤ 40) : (lastN l).size ≤ 40 := by
  unfold lastN
  rw [List.getLastD_eq_getLast?]
  cases hl : l.getLast? with
  | none => simp [emp, ByteArray.size]
  | some x => exact h x (List.mem_of_getLast? hl)
section
variable {w : World} {own : Nat → Option Role} {lay : Nat → NA} {p mb i : Nat} {T : PT} {n : PN}
theorem links_plain (h : PlainAt w own lay p mb T) (hT : T.Ok) (hg : getS i T.nodes = some n) (m : Nat) (v : Int) (hv : v = (m : Int)) :
    PlainAt (w.setCell ⟨(lay i).nb, 1, none⟩ (.int .i64 v)) own lay p mb (T.upd i { n with links := m }) ∧ Chg (fun b => own b ≠ none) w (w.setCell ⟨(lay i).nb, 1, none⟩ (.int .i64 v)) := by
  subst hv
  have hpn := h.get hg
  have ho := h.owns _ (mem_of_getS hg)
  have hc1 : Chg (fun b => b = (lay i).nb) w (w.setCell ⟨(lay i).nb, 1, none⟩ (.int .i64 (m : Int))) := (Chg.refl (fun b => b = (lay i).nb) w).setCell (p := ⟨(lay i).nb, 1, none⟩) (fun _ => rfl) _
  have hn1 : PnAt (w.setCell ⟨(lay i).nb, 1, none⟩ (.int .i64 (m : Int))) (lay i) { n with links := m } := by
    have hap := ho.apart
    refine ⟨?_, hpn.data.chg hc1 fun b e => hap.1 b e, own_chg hpn.slots hc1 fun b e => hap.2.1 b e, hpn.names.chg hc1 fun b e => hap.2.2.1 b e, hpn.dirs, hpn.files⟩
    exact hpn.blk.set_ 1 _
  have hP1 := h.upd hT.ris hg hc1 (fun b _ e => by subst e; exact .inl ho.nb) hn1 rfl (Ext.refl _ _) (fun b r e => Nat.lt_of_lt_of_le (h.lt b r e) hc1.size) ho
  rw [lay1_self] at hP1
  exact ⟨hP1, hc1.mono fun b _ e => by subst e; rw [ho.nb]; simp⟩
end
set_option maxHeartbeats 3200000 in
set_option maxRecDepth 100000 in
theorem plink_any (own : Nat → Option Role) (lay : Nat → NA) (p mb : Nat) (T : PT) (B : Nat) (A : Option Addr) (c : Nat) (l : List ByteArray) (A2 : Option Addr) (c2 : Nat) (l2 : List ByteArray) (w : World) (h : PlainAt w own lay p mb T) (hT : T.Wf)
    (hs : Sees w B 1 A l.length (strs l)) (hl : l.length ≤ 1000000) (hx : ∀ x ∈ l, x.size ≤ 1000000)
    (hs2 : Sees w B 1 A2 l2.length (strs l2)) (hl2 : l2.length ≤ 1000000) (hc2 : l2.length ≤ c2) (hx2 : ∀ x ∈ l2, x.size ≤ 1000000) :
    Calls Tryz.prog 68 #[.pointer (some ⟨p, 0, none⟩), .slice A l.length c, .slice A2 l2.length c2] w fun e w' => e = .returned (natV (T.link l l2).2) ∧ PTurn own p mb (T.link l l2).1 w w' := by
  have hcallw := pwalk_any own lay p mb T B A c l w h hT hs hl hx
  have hcalll := plast_any own lay p mb T B A2 c2 l2 w h hT hs2 hl2 hc2 hx2
  have hwi := walk_stays hT l 1 (let ⟨n, h, _⟩ := hT.root; ⟨n, h⟩)
  have hwle := walk_le hT l
  have hlin := last_in hT l2
  have hlle := last_le hT l2
  have hnS := lastN_size hx2
  have hu : T.link l l2 = if (T.walk l 1).2 ≠ 0 then (T, (T.walk l 1).2) else if (T.last l2).2 ≠ 0 then (T, (T.last l2).2) else
    if (getS (lastN l2) (T.node (T.last l2).1).names).isSome then (T, 111) else if T.isDir (T.walk l 1).1 = true then (T, 102) else if (T.node (T.walk l 1).1).links = 100 then (T, 142) else
    if (T.place (T.node (T.last l2).1)).2 ≠ 0 then (T, (T.place (T.node (T.last l2).1)).2) else
    ((T.linksUp (T.walk l 1).1).ins (T.last l2).1 (T.place (T.node (T.last l2).1)).1 (lastN l2) (T.walk l 1).1, 0) := rfl
  generalize T.walk l 1 = r1 at *
  generalize T.last l2 = r2 at *
  obtain ⟨i, e1⟩ := r1
  obtain ⟨d, e2⟩ := r2
  generalize lastN l2 = nm at *
  simp only at hcallw hcalll hwi hwle hlin hlle hu
  have hH := Lib.hid h
  have hTH := Lib.hid hT
  have hTok := Lib.hid hT.ok
  have hio := hT.ok.ino
  clear h hT hs hx hs2 hx2
  generalize l.length = len at *
  generalize l2.length = len2 at *
  unfold natV at hcallw hcalll
  go_enter Tryz.func68, Tryz.ntmps68
  by_cases he1 : e1 = 0
  · subst he1
    rw [if_neg (by simp)] at hu
    obtain ⟨n, hn⟩ := hwi rfl
    have hnH := Lib.hid hn
    have hdn := isDir_of hn
    rw [node_of hn, hdn] at hu
    clear hwi hdn hn
    by_cases he2 : e2 = 0
    · subst he2
      rw [if_neg (by simp)] at hu
      obtain ⟨m, hm, hmd⟩ := hlin rfl
      have hmH := Lib.hid hm
      have hmdH := Lib.hid hmd
      rw [node_of hm] at hu
      clear hlin hm hmd
      have hmok := Lib.hid (hTok.out.get hmH.out).1
      have hnok := hTok.out.get hnH.out
      have hlnk := hnok.1.links
      have hi1 := hnok.2
      clear hnok
      cases hg : getS nm m.names with
      | some j =>
        rw [hg, if_pos (show (some j).isSome = true from rfl)] at hu
        have huH := Lib.hid hu
        clear hu
        have hgH := Lib.hid hg
        clear hg
        go_wp2_with (first
          | (go_at_call 72; refine hcallw.mono ?_; rintro e w' ⟨rfl, rfl⟩)
          | (go_at_call 95; refine hcalll.mono ?_; rintro e w1 ⟨rfl, hb1⟩; have hP1 := hH.out.fresh hb1; have x2 := hP1.c2; have hlk := hP1.lookI hmH.out (by omega); have k6 := (hP1.get hmH.out).c6; have hlN := (hP1.get hmH.out).lookN nm (by omega); rw [hgH.out] at hlN; simp only [orV, Option.isSome_some, natV] at hlN; clear hP1))
        go_ret
        refine ⟨by rw [huH.out]; rfl, ?_⟩
        rw [huH.out]
        exact .same hH.out hb1
      | none =>
        rw [hg, if_neg (by simp)] at hu
        have hgH := Lib.hid hg
        clear hg
        cases hnd : n.dir with
        | true =>
          rw [hnd, if_pos rfl] at hu
          have huH := Lib.hid hu
          have hndH := Lib.hid hnd
          clear hu hnd
          go_wp2_with (first
            | (go_at_call 72; refine hcallw.mono ?_; rintro e w' ⟨rfl, rfl⟩)
            | (go_at_call 95; refine hcalll.mono ?_; rintro e w1 ⟨rfl, hb1⟩; have hP1 := hH.out.fresh hb1; have x2 := hP1.c2; have hlk := hP1.lookI hmH.out (by omega); have hlki := hP1.lookI hnH.out (by omega); have k6 := (hP1.get hmH.out).c6; have hlN := (hP1.get hmH.out).lookN nm (by omega); rw [hgH.out] at hlN; simp only [orV, Option.isSome_none] at hlN; have k0 := (hP1.get hnH.out).c0; have k1 := (hP1.get hnH.out).c1; rw [kind_dir hndH.out] at k0; clear hP1))
          go_ret
          refine ⟨by rw [huH.out]; rfl, ?_⟩
          rw [huH.out]
          exact .same hH.out hb1
        | false =>
          rw [hnd, if_neg (by simp)] at hu
          have hndH := Lib.hid hnd
          clear hnd
          obtain ⟨lk, hlkE⟩ : ∃ lk, n.links = lk := ⟨_, rfl⟩
          have hlkH := Lib.hid hlkE
          rw [hlkE] at hu hlnk
          clear hlkE
          by_cases h100 : lk = 100
          · rw [if_pos h100] at hu
            have huH := Lib.hid hu
            have heq : ((lk : Int) == 100) = true := by simp; omega
            clear hu h100
            go_wp2_with (first
              | (go_at_call 72; refine hcallw.mono ?_; rintro e w' ⟨rfl, rfl⟩)
              | (go_at_call 95; refine hcalll.mono ?_; rintro e w1 ⟨rfl, hb1⟩; have hP1 := hH.out.fresh hb1; have x2 := hP1.c2; have hlk := hP1.lookI hmH.out (by omega); have hlki := hP1.lookI hnH.out (by omega); have k6 := (hP1.get hmH.out).c6; have hlN := (hP1.get hmH.out).lookN nm (by omega); rw [hgH.out] at hlN; simp only [orV, Option.isSome_none] at hlN; have k0 := (hP1.get hnH.out).c0; have k1 := (hP1.get hnH.out).c1; rw [kind_file hndH.out] at k0; rw [hlkH.out] at k1; clear hP1))
            go_ret
            refine ⟨by rw [huH.out]; rfl, ?_⟩
            rw [huH.out]
            exact .same hH.out hb1
          · rw [if_neg h100] at hu
            have heq : ((lk : Int) == 100) = false := by simp; omega
            have hpok := place_ok (T := T) (n := m)
            have hplt := place_lt (T := T) hmok.out
            have hcallp := fun W hP => pplace_any own lay p mb d T m W hP hTH.out hmH.out
            generalize T.place m = r3 at *
            obtain ⟨k, e3⟩ := r3
            simp only at hpok hplt hu hcallp
            unfold natV at hcallp
            have hcpH := Lib.hid hcallp
            clear hcallp
            by_cases he3 : e3 = 0
            · subst he3
              rw [if_neg (by simp)] at hu
              have hk1 := (hpok rfl).1
              have hk2 := hplt rfl
              have hid : i ≠ d := fun e => by
                subst e
                have := Option.some.inj (hnH.out.symm.trans hmH.out)
                subst this
                have := hmdH.out
                rw [hndH.out] at this; cases this
              have hlu : T.linksUp i = T.upd i { n with links := lk + 1 } := by unfold PT.linksUp; rw [node_of hnH.out, hlkH.out]
              rw [hlu, ins_of ((upd_other _ hid.symm).trans hmH.out)] at hu
              have huH := Lib.hid hu
              have hidH := Lib.hid hid
              have hTok1 := Lib.hid (hTok.out.upd (n := { n with links := lk + 1 }) (let h := (hTok.out.get hnH.out).1; ⟨h.keys, h.dlen, h.secs, h.slots, by show lk + 1 ≤ 100; omega, h.size, h.made, h.nm, h.nlen, h.dd, h.df, h.nris, h.dris⟩) (hTok.out.get hnH.out).2)
              clear hu hpok hplt hlu hid h100
              go_wp2_with (first
                | (go_at_call 72; refine hcallw.mono ?_; rintro e w' ⟨rfl, rfl⟩)
                | (go_at_call 95; refine hcalll.mono ?_; rintro e w1 ⟨rfl, hb1⟩; have hP1 := hH.out.fresh hb1; have x2 := hP1.c2; have hlk := hP1.lookI hmH.out (by omega); have hlki := hP1.lookI hnH.out (by omega); have k6 := (hP1.get hmH.out).c6; have hlN := (hP1.get hmH.out).lookN nm (by omega); rw [hgH.out] at hlN; simp only [orV, Option.isSome_none] at hlN; have k0 := (hP1.get hnH.out).c0; have k1 := (hP1.get hnH.out).c1; rw [kind_file hndH.out] at k0; rw [hlkH.out] at k1; have hP1H := Lib.hid hP1; clear hP1)
                | (go_at_call 97; refine (hcpH.out w1 hP1H.out).mono ?_; rintro e w2 ⟨rfl, hb2⟩; have hP2 := hP1H.out.fresh hb2; have y2 := hP2.c2; have hlk2 := hP2.lookI hnH.out (by omega); have j1 := (hP2.get hnH.out).c1; rw [hlkH.out] at j1; have g1 := (hP2.get hnH.out).blk.frozen 1; obtain ⟨hP3, hC3⟩ := links_plain hP2 hTok.out hnH.out (lk + 1) ((lk : Int) + 1) rfl; have z2 := hP3.c2; have hlk3 := hP3.lookI ((upd_other _ (Ne.symm hidH.out)).trans hmH.out) (by omega); have hP3H := Lib.hid hP3; have hC3H := Lib.hid hC3; clear hP2 hP3 hC3)
                | (go_at_call 98; refine (set_plain hP3H.out hTok1.out ((upd_other _ (Ne.symm hidH.out)).trans hmH.out) hmdH.out hk1 hk2 hnS).mono ?_; rintro e w3 ⟨rfl, hP4⟩))
              go_ret
              refine ⟨by rw [huH.out]; rfl, ?_⟩
              rw [huH.out]
              exact PTurn.fst (own1 := own) (Ext.refl _ _) ((Chg.of_fresh (hb1.trans (hb2.mono hb1.size))).trans hC3H.out (fun _ _ h => h) (fun _ _ h => h)) hP4
            · rw [if_pos he3] at hu
              have huH := Lib.hid hu
              have hne3 : ((e3 : Int) != 0) = true := by simp; omega
              clear hu hpok hplt he3 h100
              go_wp2_with (first
                | (go_at_call 72; refine hcallw.mono ?_; rintro e w' ⟨rfl, rfl⟩)
                | (go_at_call 95; refine hcalll.mono ?_; rintro e w1 ⟨rfl, hb1⟩; have hP1 := hH.out.fresh hb1; have x2 := hP1.c2; have hlk := hP1.lookI hmH.out (by omega); have hlki := hP1.lookI hnH.out (by omega); have k6 := (hP1.get hmH.out).c6; have hlN := (hP1.get hmH.out).lookN nm (by omega); rw [hgH.out] at hlN; simp only [orV, Option.isSome_none] at hlN; have k0 := (hP1.get hnH.out).c0; have k1 := (hP1.get hnH.out).c1; rw [kind_file hndH.out] at k0; rw [hlkH.out] at k1; have hP1H := Lib.hid hP1; clear hP1)
                | (go_at_call 97; refine (hcpH.out w1 hP1H.out).mono ?_; rintro e w2 ⟨rfl, hb2⟩))
              go_ret
              refine ⟨by rw [huH.out]; rfl, ?_⟩
              rw [huH.out]
              exact .same hH.out (hb1.trans (hb2.mono hb1.size))
    · rw [if_pos he2] at hu
      have hne2 : ((e2 : Int) != 0) = true := by simp; omega
      have huH := Lib.hid hu
      clear hu hlin he2
      go_wp2_with (first
        | (go_at_call 72; refine hcallw.mono ?_; rintro e w' ⟨rfl, rfl⟩)
        | (go_at_call 95; refine hcalll.mono ?_; rintro e w1 ⟨rfl, hb1⟩))
      go_ret
      refine ⟨by rw [huH.out]; rfl, ?_⟩
      rw [huH.out]
      exact .same hH.out hb1
  · rw [if_pos he1] at hu
    have hne1 : ((e1 : Int) != 0) = true := by simp; omega
    have huH := Lib.hid hu
    clear hu hwi he1
    go_wp2_with (first | (go_at_call 72; refine hcallw.mono ?_; rintro e w' ⟨rfl, rfl⟩))
    go_ret
    refine ⟨by rw [huH.out]; rfl, ?_⟩
    rw [huH.out]
    exact .same hH.out (Below.refl _ _)
#print axioms plink_any
end Go.Proofs.YtolpcfhfcdkokaaGreatDoor
