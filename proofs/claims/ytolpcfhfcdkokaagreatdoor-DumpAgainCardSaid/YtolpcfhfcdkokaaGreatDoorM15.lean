/- Joined out of the texts PRename. -/
import Derived.Test.YtolpcfhfcdkokaaGreatDoorM14
/-
  The tree in memory: rename. (Printed by wip/tools/rename.py.)
-/
namespace Go.Proofs.YtolpcfhfcdkokaaGreatDoor
open Go.RowKit
open Go.Maps (Keyed)

theorem lastN_ne {T : PT} (hT : T.Wf) {d : Nat} {n : PN} {nm : ByteArray} {i : Nat} (hg : getS d T.nodes = some n) (h : getS nm n.names = some i) : nm ≠ emp := fun e => by
  rw [e, hT.nemp d n hg] at h; cases h
theorem PnAt.seesAt {w : World} {a : NA} {n : PN} (h : PnAt w a n) : ∃ A c, w.cell? ⟨a.nb, 5, none⟩ = some (.slice A n.slots.length c) ∧ Sees w w.heap.size 1 A n.slots.length (strs n.slots) := by
  obtain ⟨A, c, hs, -, h1⟩ := h.sees
  exact ⟨A, c, by rw [← hs]; exact h.c5, h1⟩
set_option maxHeartbeats 6400000 in
set_option maxRecDepth 100000 in
theorem prename_any (own : Nat → Option Role) (lay : Nat → NA) (p mb : Nat) (T : PT) (B : Nat) (A : Option Addr) (c : Nat) (l : List ByteArray) (A2 : Option Addr) (c2 : Nat) (l2 : List ByteArray) (w : World) (h : PlainAt w own lay p mb T) (hT : T.Wf) (hB : B ≤ w.heap.size)
    (hs : Sees w B 1 A l.length (strs l)) (hl : l.length ≤ 1000000) (hc : l.length ≤ c) (hx : ∀ x ∈ l, x.size ≤ 40)
    (hs2 : Sees w B 1 A2 l2.length (strs l2)) (hl2 : l2.length ≤ 1000000) (hc2 : l2.length ≤ c2) (hx2 : ∀ x ∈ l2, x.size ≤ 40) :
    Calls Tryz.prog 71 #[.pointer (some ⟨p, 0, none⟩), .slice A l.length c, .slice A2 l2.length c2] w fun e w' => e = .returned (natV (T.rename l l2).2) ∧ PTurn own p mb (T.rename l l2).1 w w' := by
  have big : ∀ {l : List ByteArray}, (∀ x ∈ l, x.size ≤ 40) → ∀ x ∈ l, x.size ≤ 1000000 := fun h x hx => by have := h x hx; omega
  have hcalll := plast_any own lay p mb T B A c l w h hT hs hl hc (big hx)
  have hcallm := fun W (hb : Below w.heap.size w W) => plast_any own lay p mb T B A2 c2 l2 W (h.fresh hb) hT (hs2.below (hb.mono hB)) hl2 hc2 (big hx2)
  have hlin := last_in hT l
  have hlle := last_le hT l
  have hmin := last_in hT l2
  have hmle := last_le hT l2
  have hnS := lastN_size (big hx)
  have hnS2 : (lastN l2).size ≤ 40 := lastN_size40 hx2
  have hu0 := PT.rename.eq_1 T l l2
  generalize T.last l = r1 at *
  generalize T.last l2 = r2 at *
  obtain ⟨d, e1⟩ := r1
  obtain ⟨t, e2⟩ := r2
  generalize lastN l = old at *
  generalize lastN l2 = nm at *
  simp only at hcalll hcallm hlin hlle hmin hmle hu0
  have hu := hu0
  clear hu0
  have hH := Lib.hid h
  have hTH := Lib.hid hT
  have hTok := Lib.hid hT.ok
  have hio := hT.ok.ino
  have hcmH := Lib.hid hcallm
  clear h hT hs hx hs2 hx2 big hcallm
  generalize l.length = len at *
  generalize l2.length = len2 at *
  unfold natV at hcalll hcmH
  go_enter Tryz.func71, Tryz.ntmps71
  by_cases he1 : e1 = 0
  · subst he1
    rw [if_neg (by simp)] at hu
    obtain ⟨n, hn, hnd⟩ := hlin rfl
    have hnH := Lib.hid hn
    have hndH := Lib.hid hnd
    rw [node_of hn] at hu
    clear hlin hn hnd
    by_cases he2 : e2 = 0
    · subst he2
      rw [if_neg (by simp)] at hu
      obtain ⟨m, hm, hmd⟩ := hmin rfl
      have hmH := Lib.hid hm
      have hmdH := Lib.hid hmd
      rw [node_of hm] at hu
      clear hmin hm hmd
      cases hg : getS old n.names with
      | none =>
        rw [hg] at hu
        have huH := Lib.hid hu
        have hgH := Lib.hid hg
        clear hu hg
        have tok1 : True := trivial
        go_wp2_with (first
          | (go_at_call 95; have _t := tok1; refine hcalll.mono ?_; rintro e w1 ⟨rfl, hb1⟩; have hcall2 := hcmH.out w1 hb1; have tok2 : True := trivial; clear _t tok1)
          | (go_at_call 95; have _t := tok2; refine hcall2.mono ?_; rintro e w2 ⟨rfl, hb2⟩; have hb12 := hb1.trans (hb2.mono hb1.size); clear hcall2 _t tok2; have hP2 := hH.out.fresh hb12; have x2 := hP2.c2; have hlkd := hP2.lookI hnH.out (by omega); have hlkt := hP2.lookI hmH.out (by omega); have k6 := (hP2.get hnH.out).c6; have m6 := (hP2.get hmH.out).c6; have hlN := (hP2.get hnH.out).lookN old (by omega); have hlM := (hP2.get hmH.out).lookN nm (by omega); rw [hgH.out] at hlN; simp only [orV, Option.isSome_none] at hlN; clear hP2 hlM))
        go_ret
        refine ⟨by rw [huH.out]; rfl, ?_⟩
        rw [huH.out]
        exact .same hH.out hb12
      | some i =>
        rw [hg] at hu
        simp only at hu
        have hgH := Lib.hid hg
        obtain ⟨o, ho⟩ := hTH.out.ents d n old i hnH.out hg
        have hoH := Lib.hid ho
        have hok := hTok.out.get ho
        have hi512 : i ≤ 512 := by omega
        have hlnk := hok.1.links
        rw [isDir_of ho, node_of ho] at hu
        obtain ⟨q, hq⟩ := hTH.out.slotn d n old i hnH.out hg
        have hqH := Lib.hid hq
        have hoeH := Lib.hid (lastN_ne hTH.out hnH.out hg)
        clear hg ho hok hq
        by_cases hsame : d = t ∧ old = nm
        · obtain ⟨rfl, rfl⟩ := hsame
          rw [if_pos ⟨rfl, rfl⟩] at hu
          have huH := Lib.hid hu
          have heq : ((d : Int) == (d : Int)) = true := by simp
          have heq2 : (old.toList == old.toList) = true := by simp
          clear hu
          have tok1 : True := trivial
          go_wp2_with (first
            | (go_at_call 95; have _t := tok1; refine hcalll.mono ?_; rintro e w1 ⟨rfl, hb1⟩; have hcall2 := hcmH.out w1 hb1; have tok2 : True := trivial; clear _t tok1)
            | (go_at_call 95; have _t := tok2; refine hcall2.mono ?_; rintro e w2 ⟨rfl, hb2⟩; have hb12 := hb1.trans (hb2.mono hb1.size); clear hcall2 _t tok2; have hP2 := hH.out.fresh hb12; have x2 := hP2.c2; have hlkd := hP2.lookI hnH.out (by omega); have hlkt := hP2.lookI hmH.out (by omega); have k6 := (hP2.get hnH.out).c6; have m6 := (hP2.get hmH.out).c6; have hlN := (hP2.get hnH.out).lookN old (by omega); have hlM := (hP2.get hmH.out).lookN old (by omega); rw [hgH.out] at hlN; simp only [orV, Option.isSome_some, natV] at hlN; have hlki := hP2.lookI hoH.out (by omega); have o0 := (hP2.get hoH.out).c0; have o1 := (hP2.get hoH.out).c1; clear hP2 hlM))
          go_ret
          refine ⟨by rw [huH.out]; rfl, ?_⟩
          rw [huH.out]
          exact .same hH.out hb12
        · rw [if_neg hsame] at hu
          by_cases hdt : d = t
          · subst hdt
            have hne : old ≠ nm := fun e => hsame ⟨rfl, e⟩
            have hmn : m = n := Option.some.inj (hmH.out.symm.trans hnH.out)
            subst hmn
            have heq : ((d : Int) == (d : Int)) = true := by simp
            have heq2 : (old.toList == nm.toList) = false := by simpa using fun h => hne (ba_list.1 h)
            have heq3 : ¬ old.toList = nm.toList := fun h => hne (ba_list.1 h)
            have hneH := Lib.hid hne
            clear hsame hne
            cases hod : o.dir with
            | true =>
              rw [hod, if_pos rfl] at hu
              have hodH := Lib.hid hod
              have hiD := Lib.hid (show T.isDir i = true by rw [isDir_of hoH.out, hod])
              clear hod
              cases hth : getS nm m.names with
              | some j =>
                rw [hth, if_pos (show (some j).isSome = true from rfl)] at hu
                have huH := Lib.hid hu
                have hthH := Lib.hid hth
                clear hu hth
                have tok1 : True := trivial
                go_wp2_with (first
                  | (go_at_call 95; have _t := tok1; refine hcalll.mono ?_; rintro e w1 ⟨rfl, hb1⟩; have hcall2 := hcmH.out w1 hb1; have tok2 : True := trivial; clear _t tok1)
                  | (go_at_call 95; have _t := tok2; refine hcall2.mono ?_; rintro e w2 ⟨rfl, hb2⟩; have hb12 := hb1.trans (hb2.mono hb1.size); clear hcall2 _t tok2; have hP2 := hH.out.fresh hb12; have x2 := hP2.c2; have hlkd := hP2.lookI hnH.out (by omega); have hlkt := hP2.lookI hmH.out (by omega); have k6 := (hP2.get hnH.out).c6; have m6 := (hP2.get hmH.out).c6; have hlN := (hP2.get hnH.out).lookN old (by omega); have hlM := (hP2.get hmH.out).lookN nm (by omega); rw [hgH.out] at hlN; simp only [orV, Option.isSome_some, natV] at hlN; have hlki := hP2.lookI hoH.out (by omega); have o0 := (hP2.get hoH.out).c0; have o1 := (hP2.get hoH.out).c1; rw [kind_dir hodH.out] at o0; rw [hthH.out] at hlM; simp only [orV, Option.isSome_some, natV] at hlM; clear hP2))
                go_ret
                refine ⟨by rw [huH.out]; rfl, ?_⟩
                rw [huH.out]
                exact .same hH.out hb12
              | none =>
                rw [hth, if_neg (by simp)] at hu
                have hthH := Lib.hid hth
                clear hth
                obtain ⟨rk, hrk⟩ := hTH.out.rank
                have hund := fun W hP => punder_any own lay p mb T hTH.out rk hrk _ (fun j hj => T.rk_le rk hj) d (by omega) ((T.nodes.map fun p => rk p.1).sum + 1) i W hiD.out (by omega) hP
                have hundH := Lib.hid hund
                clear hund hrk
                by_cases hU : T.Und d i
                · rw [if_pos hU] at hu
                  have huH := Lib.hid hu
                  have hbv : ∀ b : Bool, (b = true ↔ T.Und d i) → b = true := fun b hb => hb.2 hU
                  clear hu hU
                  have tok1 : True := trivial
                  go_wp2_with (first
                    | (go_at_call 95; have _t := tok1; refine hcalll.mono ?_; rintro e w1 ⟨rfl, hb1⟩; have hcall2 := hcmH.out w1 hb1; have tok2 : True := trivial; clear _t tok1)
                    | (go_at_call 95; have _t := tok2; refine hcall2.mono ?_; rintro e w2 ⟨rfl, hb2⟩; have hb12 := hb1.trans (hb2.mono hb1.size); clear hcall2 _t tok2; have hP2 := hH.out.fresh hb12; have x2 := hP2.c2; have hlkd := hP2.lookI hnH.out (by omega); have hlkt := hP2.lookI hmH.out (by omega); have k6 := (hP2.get hnH.out).c6; have m6 := (hP2.get hmH.out).c6; have hlN := (hP2.get hnH.out).lookN old (by omega); have hlM := (hP2.get hmH.out).lookN nm (by omega); rw [hgH.out] at hlN; simp only [orV, Option.isSome_some, natV] at hlN; have hlki := hP2.lookI hoH.out (by omega); have o0 := (hP2.get hoH.out).c0; have o1 := (hP2.get hoH.out).c1; rw [kind_dir hodH.out] at o0; rw [hthH.out] at hlM; simp only [orV, Option.isSome_none] at hlM; have hP2H := Lib.hid hP2; clear hP2)
                    | (go_at_call 103; refine (hundH.out w2 hP2H.out).mono ?_; rintro e w3 ⟨⟨b, rfl, hbu⟩, hb3⟩; obtain rfl : b = true := hbv b hbu; clear hbu; skip))
                  go_ret
                  refine ⟨by rw [huH.out]; rfl, ?_⟩
                  rw [huH.out]
                  exact .same hH.out (hb12.trans (hb3.mono hb12.size))
                · rw [if_neg hU] at hu
                  have hbv : ∀ b : Bool, (b = true ↔ T.Und d i) → b = false := fun b hb => by cases b; rfl; exact absurd (hb.1 rfl) hU
                  clear hU
                  have hfp := fit_place (T := T) (n := m) (nm := nm) (hTok.out.get hmH.out).1
                  have hcallp := fun W hP => pplace_any own lay p mb d T m W hP hTH.out hmH.out
                  generalize T.place m = r3 at *
                  obtain ⟨k, e3⟩ := r3
                  simp only at hfp hu hcallp
                  unfold natV at hcallp
                  have hcpH := Lib.hid hcallp
                  clear hcallp
                  by_cases he3 : e3 = 0
                  · subst he3
                    rw [if_neg (by simp)] at hu
                    have hfit := Lib.hid (show m.Fit k nm from hfp rfl)
                    have hT1 := Lib.hid (hTok.out.upd (set_ok hTH.out hmH.out hmdH.out hfit.out hnS2 hi512) (hTok.out.get hmH.out).2)
                    have hkl := hfit.out.le
                    have hk8 := hfit.out.lt (hTok.out.get hmH.out).1
                    have hd1 := Lib.hid (show getS d (T.upd d (m.set k nm i)).nodes = some (m.set k nm i) from upd_same _ _)
                    have hd1d := Lib.hid (show (m.set k nm i).dir = true from hmdH.out)
                    have hq1 := Lib.hid (set_keeps (j := i) hfit.out (Ne.symm hneH.out) hoeH.out hqH.out)
                    have hT2 := Lib.hid (hT1.out.upd ((hT1.out.get hd1.out).1.clear old) (hT1.out.get hd1.out).2)
                    rw [ins_of hmH.out, clr_of hd1.out] at hu
                    have huH := Lib.hid hu
                    clear hu
                    clear hfp
                    have tok1 : True := trivial
                    go_wp2_with (first
                      | (go_at_call 95; have _t := tok1; refine hcalll.mono ?_; rintro e w1 ⟨rfl, hb1⟩; have hcall2 := hcmH.out w1 hb1; have tok2 : True := trivial; clear _t tok1)
                      | (go_at_call 95; have _t := tok2; refine hcall2.mono ?_; rintro e w2 ⟨rfl, hb2⟩; have hb12 := hb1.trans (hb2.mono hb1.size); clear hcall2 _t tok2; have hP2 := hH.out.fresh hb12; have x2 := hP2.c2; have hlkd := hP2.lookI hnH.out (by omega); have hlkt := hP2.lookI hmH.out (by omega); have k6 := (hP2.get hnH.out).c6; have m6 := (hP2.get hmH.out).c6; have hlN := (hP2.get hnH.out).lookN old (by omega); have hlM := (hP2.get hmH.out).lookN nm (by omega); rw [hgH.out] at hlN; simp only [orV, Option.isSome_some, natV] at hlN; have hlki := hP2.lookI hoH.out (by omega); have o0 := (hP2.get hoH.out).c0; have o1 := (hP2.get hoH.out).c1; rw [kind_dir hodH.out] at o0; rw [hthH.out] at hlM; simp only [orV, Option.isSome_none] at hlM; have hP2H := Lib.hid hP2; clear hP2)
                      | (go_at_call 103; refine (hundH.out w2 hP2H.out).mono ?_; rintro e w3 ⟨⟨b, rfl, hbu⟩, hb3⟩; obtain rfl : b = false := hbv b hbu; clear hbu; have hb13 := hb12.trans (hb3.mono hb12.size); have hPu := hH.out.fresh hb13; have v2 := hPu.c2; have hlku := hPu.lookI hmH.out (by omega); have hPuH := Lib.hid hPu; clear hPu)
                      | (go_at_call 97; refine (hcpH.out w3 hPuH.out).mono ?_; rintro e w4p ⟨rfl, hb4⟩; have hb14 := hb13.trans (hb4.mono hb13.size); have hP3 := hH.out.fresh hb14; have y2 := hP3.c2; have hlk3 := hP3.lookI hmH.out (by omega); have hP3H := Lib.hid hP3; clear hP3)
                      | (go_at_call 98; refine (set_plain hP3H.out hTok.out hmH.out hmdH.out hkl hk8 (by omega)).mono ?_; rintro e w4 ⟨rfl, own4, lay4, hP4, hE4, hC4⟩; have u2 := hP4.c2; have hlk4 := hP4.lookI hd1.out (by omega); have hP4H := Lib.hid hP4; have hE4H := Lib.hid hE4; clear hP4 hE4)
                      | (go_at_call 101; refine (clear_plain hP4H.out hT1.out hd1.out hd1d.out hq1.out hnS).mono ?_; rintro e w5 ⟨rfl, hP5, hC5⟩; have hP5H := Lib.hid hP5; clear hP5))
                    go_ret
                    refine ⟨by rw [huH.out]; rfl, ?_⟩
                    rw [huH.out]
                    exact .of hP5H.out (hE4H.out.back hb14.size) (((Chg.of_fresh hb14).trans hC4 (fun _ _ h => h) (fun _ _ h => h)).ext (hE4H.out.back hb14.size) hC5)
                  · rw [if_pos he3] at hu
                    have huH := Lib.hid hu
                    have hne3 : ((e3 : Int) != 0) = true := by simp; omega
                    clear hu hfp he3
                    have tok1 : True := trivial
                    go_wp2_with (first
                      | (go_at_call 95; have _t := tok1; refine hcalll.mono ?_; rintro e w1 ⟨rfl, hb1⟩; have hcall2 := hcmH.out w1 hb1; have tok2 : True := trivial; clear _t tok1)
                      | (go_at_call 95; have _t := tok2; refine hcall2.mono ?_; rintro e w2 ⟨rfl, hb2⟩; have hb12 := hb1.trans (hb2.mono hb1.size); clear hcall2 _t tok2; have hP2 := hH.out.fresh hb12; have x2 := hP2.c2; have hlkd := hP2.lookI hnH.out (by omega); have hlkt := hP2.lookI hmH.out (by omega); have k6 := (hP2.get hnH.out).c6; have m6 := (hP2.get hmH.out).c6; have hlN := (hP2.get hnH.out).lookN old (by omega); have hlM := (hP2.get hmH.out).lookN nm (by omega); rw [hgH.out] at hlN; simp only [orV, Option.isSome_some, natV] at hlN; have hlki := hP2.lookI hoH.out (by omega); have o0 := (hP2.get hoH.out).c0; have o1 := (hP2.get hoH.out).c1; rw [kind_dir hodH.out] at o0; rw [hthH.out] at hlM; simp only [orV, Option.isSome_none] at hlM; have hP2H := Lib.hid hP2; clear hP2)
                      | (go_at_call 103; refine (hundH.out w2 hP2H.out).mono ?_; rintro e w3 ⟨⟨b, rfl, hbu⟩, hb3⟩; obtain rfl : b = false := hbv b hbu; clear hbu; have hb13 := hb12.trans (hb3.mono hb12.size); have hPu := hH.out.fresh hb13; have v2 := hPu.c2; have hlku := hPu.lookI hmH.out (by omega); have hPuH := Lib.hid hPu; clear hPu)
                      | (go_at_call 97; refine (hcpH.out w3 hPuH.out).mono ?_; rintro e w4p ⟨rfl, hb4⟩; have hb14 := hb13.trans (hb4.mono hb13.size)))
                    go_ret
                    refine ⟨by rw [huH.out]; rfl, ?_⟩
                    rw [huH.out]
                    exact .same hH.out hb14
            | false =>
              rw [hod, if_neg (by simp)] at hu
              have hodH := Lib.hid hod
              clear hod
              obtain ⟨lk, hlkE⟩ : ∃ lk, o.links = lk := ⟨_, rfl⟩
              have hlkH := Lib.hid hlkE
              rw [hlkE] at hu hlnk
              clear hlkE
              cases hth : getS nm m.names with
              | some j =>
                rw [hth] at hu
                simp only at hu
                have hthH := Lib.hid hth
                obtain ⟨v, hv⟩ := hTH.out.ents d m nm j hmH.out hth
                have hvH := Lib.hid hv
                have hvok := hTok.out.get hv
                have hj512 : j ≤ 512 := by omega
                rw [isDir_of hv] at hu
                clear hth hvok hv
                cases hvd : v.dir with
                | true =>
                  rw [hvd, if_pos rfl] at hu
                  have huH := Lib.hid hu
                  have hvdH := Lib.hid hvd
                  clear hu hvd
                  have tok1 : True := trivial
                  go_wp2_with (first
                    | (go_at_call 95; have _t := tok1; refine hcalll.mono ?_; rintro e w1 ⟨rfl, hb1⟩; have hcall2 := hcmH.out w1 hb1; have tok2 : True := trivial; clear _t tok1)
                    | (go_at_call 95; have _t := tok2; refine hcall2.mono ?_; rintro e w2 ⟨rfl, hb2⟩; have hb12 := hb1.trans (hb2.mono hb1.size); clear hcall2 _t tok2; have hP2 := hH.out.fresh hb12; have x2 := hP2.c2; have hlkd := hP2.lookI hnH.out (by omega); have hlkt := hP2.lookI hmH.out (by omega); have k6 := (hP2.get hnH.out).c6; have m6 := (hP2.get hmH.out).c6; have hlN := (hP2.get hnH.out).lookN old (by omega); have hlM := (hP2.get hmH.out).lookN nm (by omega); rw [hgH.out] at hlN; simp only [orV, Option.isSome_some, natV] at hlN; have hlki := hP2.lookI hoH.out (by omega); have o0 := (hP2.get hoH.out).c0; have o1 := (hP2.get hoH.out).c1; rw [kind_file hodH.out] at o0; rw [hlkH.out] at o1; rw [hthH.out] at hlM; simp only [orV, Option.isSome_some, natV] at hlM; have hlkj := hP2.lookI hvH.out (by omega); have j0 := (hP2.get hvH.out).c0; rw [kind_dir hvdH.out] at j0; clear hP2))
                  go_ret
                  refine ⟨by rw [huH.out]; rfl, ?_⟩
                  rw [huH.out]
                  exact .same hH.out hb12
                | false =>
                  rw [hvd, if_neg (by simp)] at hu
                  have hvdH := Lib.hid hvd
                  clear hvd
                  by_cases hij : i = j
                  · subst hij
                    rw [if_pos rfl] at hu
                    have huH := Lib.hid hu
                    have hijE : ((i : Int) == (i : Int)) = true := by simp
                    clear hu
                    have tok1 : True := trivial
                    go_wp2_with (first
                      | (go_at_call 95; have _t := tok1; refine hcalll.mono ?_; rintro e w1 ⟨rfl, hb1⟩; have hcall2 := hcmH.out w1 hb1; have tok2 : True := trivial; clear _t tok1)
                      | (go_at_call 95; have _t := tok2; refine hcall2.mono ?_; rintro e w2 ⟨rfl, hb2⟩; have hb12 := hb1.trans (hb2.mono hb1.size); clear hcall2 _t tok2; have hP2 := hH.out.fresh hb12; have x2 := hP2.c2; have hlkd := hP2.lookI hnH.out (by omega); have hlkt := hP2.lookI hmH.out (by omega); have k6 := (hP2.get hnH.out).c6; have m6 := (hP2.get hmH.out).c6; have hlN := (hP2.get hnH.out).lookN old (by omega); have hlM := (hP2.get hmH.out).lookN nm (by omega); rw [hgH.out] at hlN; simp only [orV, Option.isSome_some, natV] at hlN; have hlki := hP2.lookI hoH.out (by omega); have o0 := (hP2.get hoH.out).c0; have o1 := (hP2.get hoH.out).c1; rw [kind_file hodH.out] at o0; rw [hlkH.out] at o1; rw [hthH.out] at hlM; simp only [orV, Option.isSome_some, natV] at hlM; have hlkj := hP2.lookI hvH.out (by omega); have j0 := (hP2.get hvH.out).c0; rw [kind_file hvdH.out] at j0; clear hP2))
                    go_ret
                    refine ⟨by rw [huH.out]; rfl, ?_⟩
                    rw [huH.out]
                    exact .same hH.out hb12
                  · rw [if_neg hij] at hu
                    have hijE : ((i : Int) == (j : Int)) = false := by simp; omega
                    have hijH := Lib.hid hij
                    clear hij
                    by_cases h100 : lk = 100
                    · rw [if_pos h100] at hu
                      have huH := Lib.hid hu
                      have h1E : ((lk : Int) == 100) = true := by simp; omega
                      clear hu h100
                      have tok1 : True := trivial
                      go_wp2_with (first
                        | (go_at_call 95; have _t := tok1; refine hcalll.mono ?_; rintro e w1 ⟨rfl, hb1⟩; have hcall2 := hcmH.out w1 hb1; have tok2 : True := trivial; clear _t tok1)
                        | (go_at_call 95; have _t := tok2; refine hcall2.mono ?_; rintro e w2 ⟨rfl, hb2⟩; have hb12 := hb1.trans (hb2.mono hb1.size); clear hcall2 _t tok2; have hP2 := hH.out.fresh hb12; have x2 := hP2.c2; have hlkd := hP2.lookI hnH.out (by omega); have hlkt := hP2.lookI hmH.out (by omega); have k6 := (hP2.get hnH.out).c6; have m6 := (hP2.get hmH.out).c6; have hlN := (hP2.get hnH.out).lookN old (by omega); have hlM := (hP2.get hmH.out).lookN nm (by omega); rw [hgH.out] at hlN; simp only [orV, Option.isSome_some, natV] at hlN; have hlki := hP2.lookI hoH.out (by omega); have o0 := (hP2.get hoH.out).c0; have o1 := (hP2.get hoH.out).c1; rw [kind_file hodH.out] at o0; rw [hlkH.out] at o1; rw [hthH.out] at hlM; simp only [orV, Option.isSome_some, natV] at hlM; have hlkj := hP2.lookI hvH.out (by omega); have j0 := (hP2.get hvH.out).c0; rw [kind_file hvdH.out] at j0; clear hP2))
                      go_ret
                      refine ⟨by rw [huH.out]; rfl, ?_⟩
                      rw [huH.out]
                      exact .same hH.out hb12
                    · rw [if_neg h100] at hu
                      have h1E : ((lk : Int) == 100) = false := by simp; omega
                      clear h100
                      obtain ⟨s, hs⟩ := hTH.out.slotn d m nm j hmH.out hthH.out
                      rw [hs] at hu
                      simp only [Option.getD_some] at hu
                      have hix := idxV_some hs
                      have hslt := (firstIdx_lt hs)
                      have hfit := Lib.hid (show m.Fit s nm from by exact .inr (.inr ⟨by rw [hthH.out]; rfl, hslt.2⟩))
                      have hT1 := Lib.hid (hTok.out.upd (set_ok hTH.out hmH.out hmdH.out hfit.out hnS2 hi512) (hTok.out.get hmH.out).2)
                      have hkl := hfit.out.le
                      have hk8 := hfit.out.lt (hTok.out.get hmH.out).1
                      have hd1 := Lib.hid (show getS d (T.upd d (m.set s nm i)).nodes = some (m.set s nm i) from upd_same _ _)
                      have hd1d := Lib.hid (show (m.set s nm i).dir = true from hmdH.out)
                      have hq1 := Lib.hid (set_keeps (j := i) hfit.out (Ne.symm hneH.out) hoeH.out hqH.out)
                      have hT2 := Lib.hid (hT1.out.upd ((hT1.out.get hd1.out).1.clear old) (hT1.out.get hd1.out).2)
                      rw [ins_of hmH.out, clr_of hd1.out] at hu
                      have huH := Lib.hid hu
                      clear hu
                      have hjd : j ≠ d := fun e => by have h1 := hvH.out; rw [e, hmH.out] at h1; have h1 := Option.some.inj h1; have h2 := hvdH.out; rw [← h1, hmdH.out] at h2; cases h2
                      have hvj := Lib.hid (show getS j ((T.upd d (m.set s nm i)).upd d ((m.set s nm i).clear old)).nodes = some v from (upd_other _ hjd).trans ((upd_other _ hjd).trans hvH.out))
                      have hv1 := Lib.hid (hTH.out.lnk j v hvH.out)
                      have hslots := (hTok.out.get hmH.out).1.slots
                      have hsix := fun W (hP : PnAt W (lay d) m) => hP.seesAt
                      have hsixH := Lib.hid hsix
                      clear hs hslt hsix
                      have tok1 : True := trivial
                      go_wp2_with (first
                        | (go_at_call 95; have _t := tok1; refine hcalll.mono ?_; rintro e w1 ⟨rfl, hb1⟩; have hcall2 := hcmH.out w1 hb1; have tok2 : True := trivial; clear _t tok1)
                        | (go_at_call 95; have _t := tok2; refine hcall2.mono ?_; rintro e w2 ⟨rfl, hb2⟩; have hb12 := hb1.trans (hb2.mono hb1.size); clear hcall2 _t tok2; have hP2 := hH.out.fresh hb12; have x2 := hP2.c2; have hlkd := hP2.lookI hnH.out (by omega); have hlkt := hP2.lookI hmH.out (by omega); have k6 := (hP2.get hnH.out).c6; have m6 := (hP2.get hmH.out).c6; have hlN := (hP2.get hnH.out).lookN old (by omega); have hlM := (hP2.get hmH.out).lookN nm (by omega); rw [hgH.out] at hlN; simp only [orV, Option.isSome_some, natV] at hlN; have hlki := hP2.lookI hoH.out (by omega); have o0 := (hP2.get hoH.out).c0; have o1 := (hP2.get hoH.out).c1; rw [kind_file hodH.out] at o0; rw [hlkH.out] at o1; rw [hthH.out] at hlM; simp only [orV, Option.isSome_some, natV] at hlM; have hlkj := hP2.lookI hvH.out (by omega); have j0 := (hP2.get hvH.out).c0; rw [kind_file hvdH.out] at j0; obtain ⟨A5, c5, x5, hs5⟩ := hsixH.out w2 (hP2.get hmH.out); have hcS := sindex_any w2.heap.size A5 c5 nm m.slots w2 hs5 (by omega); rw [hix] at hcS; have hP2H := Lib.hid hP2; clear hP2 hs5)
                        | (go_at_call 104; refine hcS.mono ?_; rintro e w' ⟨rfl, rfl⟩)
                        | (go_at_call 98; refine (set_plain hP2H.out hTok.out hmH.out hmdH.out hkl hk8 (by omega)).mono ?_; rintro e w4 ⟨rfl, own4, lay4, hP4, hE4, hC4⟩; have u2 := hP4.c2; have hlk4 := hP4.lookI hd1.out (by omega); have hP4H := Lib.hid hP4; have hE4H := Lib.hid hE4; clear hP4 hE4)
                        | (go_at_call 101; refine (clear_plain hP4H.out hT1.out hd1.out hd1d.out hq1.out hnS).mono ?_; rintro e w5 ⟨rfl, hP5, hC5⟩; have hP5H := Lib.hid hP5; clear hP5)
                        | (go_at_call 102; refine (pless_any own4 lay4 p mb j _ v w5 hP5H.out hT2.out hvj.out hv1.out).mono ?_; rintro e w6 ⟨rfl, hP6⟩))
                      go_ret
                      refine ⟨by rw [huH.out]; rfl, ?_⟩
                      rw [huH.out]
                      exact PTurn.fst (hE4H.out.back hb12.size) (((Chg.of_fresh hb12).trans hC4 (fun _ _ h => h) (fun _ _ h => h)).ext (hE4H.out.back hb12.size) hC5) hP6
              | none =>
                rw [hth] at hu
                simp only at hu
                have hthH := Lib.hid hth
                clear hth
                by_cases h100 : lk = 100
                · rw [if_pos h100] at hu
                  have huH := Lib.hid hu
                  have h1E : ((lk : Int) == 100) = true := by simp; omega
                  clear hu h100
                  have tok1 : True := trivial
                  go_wp2_with (first
                    | (go_at_call 95; have _t := tok1; refine hcalll.mono ?_; rintro e w1 ⟨rfl, hb1⟩; have hcall2 := hcmH.out w1 hb1; have tok2 : True := trivial; clear _t tok1)
                    | (go_at_call 95; have _t := tok2; refine hcall2.mono ?_; rintro e w2 ⟨rfl, hb2⟩; have hb12 := hb1.trans (hb2.mono hb1.size); clear hcall2 _t tok2; have hP2 := hH.out.fresh hb12; have x2 := hP2.c2; have hlkd := hP2.lookI hnH.out (by omega); have hlkt := hP2.lookI hmH.out (by omega); have k6 := (hP2.get hnH.out).c6; have m6 := (hP2.get hmH.out).c6; have hlN := (hP2.get hnH.out).lookN old (by omega); have hlM := (hP2.get hmH.out).lookN nm (by omega); rw [hgH.out] at hlN; simp only [orV, Option.isSome_some, natV] at hlN; have hlki := hP2.lookI hoH.out (by omega); have o0 := (hP2.get hoH.out).c0; have o1 := (hP2.get hoH.out).c1; rw [kind_file hodH.out] at o0; rw [hlkH.out] at o1; rw [hthH.out] at hlM; simp only [orV, Option.isSome_none] at hlM; clear hP2))
                  go_ret
                  refine ⟨by rw [huH.out]; rfl, ?_⟩
                  rw [huH.out]
                  exact .same hH.out hb12
                · rw [if_neg h100] at hu
                  have h1E : ((lk : Int) == 100) = false := by simp; omega
                  clear h100
                  have hslots := (hTok.out.get hmH.out).1.slots
                  have hsix := fun W (hP : PnAt W (lay d) m) => hP.seesAt
                  have hsixH := Lib.hid hsix
                  clear hsix
                  obtain ⟨ix, hix⟩ : ∃ ix, idxV nm m.slots = ix := ⟨_, rfl⟩
                  have hfp := fit_place (T := T) (n := m) (nm := nm) (hTok.out.get hmH.out).1
                  have hcallp := fun W hP => pplace_any own lay p mb d T m W hP hTH.out hmH.out
                  generalize T.place m = r3 at *
                  obtain ⟨k, e3⟩ := r3
                  simp only at hfp hu hcallp
                  unfold natV at hcallp
                  have hcpH := Lib.hid hcallp
                  clear hcallp
                  by_cases he3 : e3 = 0
                  · subst he3
                    rw [if_neg (by simp)] at hu
                    have hfit := Lib.hid (show m.Fit k nm from hfp rfl)
                    have hT1 := Lib.hid (hTok.out.upd (set_ok hTH.out hmH.out hmdH.out hfit.out hnS2 hi512) (hTok.out.get hmH.out).2)
                    have hkl := hfit.out.le
                    have hk8 := hfit.out.lt (hTok.out.get hmH.out).1
                    have hd1 := Lib.hid (show getS d (T.upd d (m.set k nm i)).nodes = some (m.set k nm i) from upd_same _ _)
                    have hd1d := Lib.hid (show (m.set k nm i).dir = true from hmdH.out)
                    have hq1 := Lib.hid (set_keeps (j := i) hfit.out (Ne.symm hneH.out) hoeH.out hqH.out)
                    have hT2 := Lib.hid (hT1.out.upd ((hT1.out.get hd1.out).1.clear old) (hT1.out.get hd1.out).2)
                    rw [ins_of hmH.out, clr_of hd1.out] at hu
                    have huH := Lib.hid hu
                    clear hu
                    clear hfp
                    have tok1 : True := trivial
                    go_wp2_with (first
                      | (go_at_call 95; have _t := tok1; refine hcalll.mono ?_; rintro e w1 ⟨rfl, hb1⟩; have hcall2 := hcmH.out w1 hb1; have tok2 : True := trivial; clear _t tok1)
                      | (go_at_call 95; have _t := tok2; refine hcall2.mono ?_; rintro e w2 ⟨rfl, hb2⟩; have hb12 := hb1.trans (hb2.mono hb1.size); clear hcall2 _t tok2; have hP2 := hH.out.fresh hb12; have x2 := hP2.c2; have hlkd := hP2.lookI hnH.out (by omega); have hlkt := hP2.lookI hmH.out (by omega); have k6 := (hP2.get hnH.out).c6; have m6 := (hP2.get hmH.out).c6; have hlN := (hP2.get hnH.out).lookN old (by omega); have hlM := (hP2.get hmH.out).lookN nm (by omega); rw [hgH.out] at hlN; simp only [orV, Option.isSome_some, natV] at hlN; have hlki := hP2.lookI hoH.out (by omega); have o0 := (hP2.get hoH.out).c0; have o1 := (hP2.get hoH.out).c1; rw [kind_file hodH.out] at o0; rw [hlkH.out] at o1; rw [hthH.out] at hlM; simp only [orV, Option.isSome_none] at hlM; obtain ⟨A5, c5, x5, hs5⟩ := hsixH.out w2 (hP2.get hmH.out); have hcS := sindex_any w2.heap.size A5 c5 nm m.slots w2 hs5 (by omega); rw [hix] at hcS; have hP2H := Lib.hid hP2; clear hP2 hs5)
                      | (go_at_call 104; refine hcS.mono ?_; rintro e w' ⟨rfl, rfl⟩)
                      | (go_at_call 97; refine (hcpH.out w2 hP2H.out).mono ?_; rintro e w4p ⟨rfl, hb4⟩; have hb14 := hb12.trans (hb4.mono hb12.size); have hP3 := hH.out.fresh hb14; have y2 := hP3.c2; have hlk3 := hP3.lookI hmH.out (by omega); have hP3H := Lib.hid hP3; clear hP3)
                      | (go_at_call 98; refine (set_plain hP3H.out hTok.out hmH.out hmdH.out hkl hk8 (by omega)).mono ?_; rintro e w4 ⟨rfl, own4, lay4, hP4, hE4, hC4⟩; have u2 := hP4.c2; have hlk4 := hP4.lookI hd1.out (by omega); have hP4H := Lib.hid hP4; have hE4H := Lib.hid hE4; clear hP4 hE4)
                      | (go_at_call 101; refine (clear_plain hP4H.out hT1.out hd1.out hd1d.out hq1.out hnS).mono ?_; rintro e w5 ⟨rfl, hP5, hC5⟩; have hP5H := Lib.hid hP5; clear hP5))
                    go_ret
                    refine ⟨by rw [huH.out]; rfl, ?_⟩
                    rw [huH.out]
                    exact .of hP5H.out (hE4H.out.back hb14.size) (((Chg.of_fresh hb14).trans hC4 (fun _ _ h => h) (fun _ _ h => h)).ext (hE4H.out.back hb14.size) hC5)
                  · rw [if_pos he3] at hu
                    have huH := Lib.hid hu
                    have hne3 : ((e3 : Int) != 0) = true := by simp; omega
                    clear hu hfp he3
                    have tok1 : True := trivial
                    go_wp2_with (first
                      | (go_at_call 95; have _t := tok1; refine hcalll.mono ?_; rintro e w1 ⟨rfl, hb1⟩; have hcall2 := hcmH.out w1 hb1; have tok2 : True := trivial; clear _t tok1)
                      | (go_at_call 95; have _t := tok2; refine hcall2.mono ?_; rintro e w2 ⟨rfl, hb2⟩; have hb12 := hb1.trans (hb2.mono hb1.size); clear hcall2 _t tok2; have hP2 := hH.out.fresh hb12; have x2 := hP2.c2; have hlkd := hP2.lookI hnH.out (by omega); have hlkt := hP2.lookI hmH.out (by omega); have k6 := (hP2.get hnH.out).c6; have m6 := (hP2.get hmH.out).c6; have hlN := (hP2.get hnH.out).lookN old (by omega); have hlM := (hP2.get hmH.out).lookN nm (by omega); rw [hgH.out] at hlN; simp only [orV, Option.isSome_some, natV] at hlN; have hlki := hP2.lookI hoH.out (by omega); have o0 := (hP2.get hoH.out).c0; have o1 := (hP2.get hoH.out).c1; rw [kind_file hodH.out] at o0; rw [hlkH.out] at o1; rw [hthH.out] at hlM; simp only [orV, Option.isSome_none] at hlM; obtain ⟨A5, c5, x5, hs5⟩ := hsixH.out w2 (hP2.get hmH.out); have hcS := sindex_any w2.heap.size A5 c5 nm m.slots w2 hs5 (by omega); rw [hix] at hcS; have hP2H := Lib.hid hP2; clear hP2 hs5)
                      | (go_at_call 104; refine hcS.mono ?_; rintro e w' ⟨rfl, rfl⟩)
                      | (go_at_call 97; refine (hcpH.out w2 hP2H.out).mono ?_; rintro e w4p ⟨rfl, hb4⟩; have hb14 := hb12.trans (hb4.mono hb12.size)))
                    go_ret
                    refine ⟨by rw [huH.out]; rfl, ?_⟩
                    rw [huH.out]
                    exact .same hH.out hb14
          · have heq : ((d : Int) == (t : Int)) = false := by simp; omega
            have hdtH := Lib.hid hdt
            clear hsame hdt
            cases hod : o.dir with
            | true =>
              rw [hod, if_pos rfl] at hu
              have hodH := Lib.hid hod
              have hiD := Lib.hid (show T.isDir i = true by rw [isDir_of hoH.out, hod])
              clear hod
              cases hth : getS nm m.names with
              | some j =>
                rw [hth, if_pos (show (some j).isSome = true from rfl)] at hu
                have huH := Lib.hid hu
                have hthH := Lib.hid hth
                clear hu hth
                have tok1 : True := trivial
                go_wp2_with (first
                  | (go_at_call 95; have _t := tok1; refine hcalll.mono ?_; rintro e w1 ⟨rfl, hb1⟩; have hcall2 := hcmH.out w1 hb1; have tok2 : True := trivial; clear _t tok1)
                  | (go_at_call 95; have _t := tok2; refine hcall2.mono ?_; rintro e w2 ⟨rfl, hb2⟩; have hb12 := hb1.trans (hb2.mono hb1.size); clear hcall2 _t tok2; have hP2 := hH.out.fresh hb12; have x2 := hP2.c2; have hlkd := hP2.lookI hnH.out (by omega); have hlkt := hP2.lookI hmH.out (by omega); have k6 := (hP2.get hnH.out).c6; have m6 := (hP2.get hmH.out).c6; have hlN := (hP2.get hnH.out).lookN old (by omega); have hlM := (hP2.get hmH.out).lookN nm (by omega); rw [hgH.out] at hlN; simp only [orV, Option.isSome_some, natV] at hlN; have hlki := hP2.lookI hoH.out (by omega); have o0 := (hP2.get hoH.out).c0; have o1 := (hP2.get hoH.out).c1; rw [kind_dir hodH.out] at o0; rw [hthH.out] at hlM; simp only [orV, Option.isSome_some, natV] at hlM; clear hP2))
                go_ret
                refine ⟨by rw [huH.out]; rfl, ?_⟩
                rw [huH.out]
                exact .same hH.out hb12
              | none =>
                rw [hth, if_neg (by simp)] at hu
                have hthH := Lib.hid hth
                clear hth
                obtain ⟨rk, hrk⟩ := hTH.out.rank
                have hund := fun W hP => punder_any own lay p mb T hTH.out rk hrk _ (fun j hj => T.rk_le rk hj) t (by omega) ((T.nodes.map fun p => rk p.1).sum + 1) i W hiD.out (by omega) hP
                have hundH := Lib.hid hund
                clear hund hrk
                by_cases hU : T.Und t i
                · rw [if_pos hU] at hu
                  have huH := Lib.hid hu
                  have hbv : ∀ b : Bool, (b = true ↔ T.Und t i) → b = true := fun b hb => hb.2 hU
                  clear hu hU
                  have tok1 : True := trivial
                  go_wp2_with (first
                    | (go_at_call 95; have _t := tok1; refine hcalll.mono ?_; rintro e w1 ⟨rfl, hb1⟩; have hcall2 := hcmH.out w1 hb1; have tok2 : True := trivial; clear _t tok1)
                    | (go_at_call 95; have _t := tok2; refine hcall2.mono ?_; rintro e w2 ⟨rfl, hb2⟩; have hb12 := hb1.trans (hb2.mono hb1.size); clear hcall2 _t tok2; have hP2 := hH.out.fresh hb12; have x2 := hP2.c2; have hlkd := hP2.lookI hnH.out (by omega); have hlkt := hP2.lookI hmH.out (by omega); have k6 := (hP2.get hnH.out).c6; have m6 := (hP2.get hmH.out).c6; have hlN := (hP2.get hnH.out).lookN old (by omega); have hlM := (hP2.get hmH.out).lookN nm (by omega); rw [hgH.out] at hlN; simp only [orV, Option.isSome_some, natV] at hlN; have hlki := hP2.lookI hoH.out (by omega); have o0 := (hP2.get hoH.out).c0; have o1 := (hP2.get hoH.out).c1; rw [kind_dir hodH.out] at o0; rw [hthH.out] at hlM; simp only [orV, Option.isSome_none] at hlM; have hP2H := Lib.hid hP2; clear hP2)
                    | (go_at_call 103; refine (hundH.out w2 hP2H.out).mono ?_; rintro e w3 ⟨⟨b, rfl, hbu⟩, hb3⟩; obtain rfl : b = true := hbv b hbu; clear hbu; skip))
                  go_ret
                  refine ⟨by rw [huH.out]; rfl, ?_⟩
                  rw [huH.out]
                  exact .same hH.out (hb12.trans (hb3.mono hb12.size))
                · rw [if_neg hU] at hu
                  have hbv : ∀ b : Bool, (b = true ↔ T.Und t i) → b = false := fun b hb => by cases b; rfl; exact absurd (hb.1 rfl) hU
                  clear hU
                  have hfp := fit_place (T := T) (n := m) (nm := nm) (hTok.out.get hmH.out).1
                  have hcallp := fun W hP => pplace_any own lay p mb t T m W hP hTH.out hmH.out
                  generalize T.place m = r3 at *
                  obtain ⟨k, e3⟩ := r3
                  simp only at hfp hu hcallp
                  unfold natV at hcallp
                  have hcpH := Lib.hid hcallp
                  clear hcallp
                  by_cases he3 : e3 = 0
                  · subst he3
                    rw [if_neg (by simp)] at hu
                    have hfit := Lib.hid (show m.Fit k nm from hfp rfl)
                    have hT1 := Lib.hid (hTok.out.upd (set_ok hTH.out hmH.out hmdH.out hfit.out hnS2 hi512) (hTok.out.get hmH.out).2)
                    have hkl := hfit.out.le
                    have hk8 := hfit.out.lt (hTok.out.get hmH.out).1
                    have hd1 := Lib.hid (show getS d (T.upd t (m.set k nm i)).nodes = some n from (upd_other _ hdtH.out).trans hnH.out)
                    have hd1d := hndH
                    have hq1 := hqH
                    have hT2 := Lib.hid (hT1.out.upd ((hT1.out.get hd1.out).1.clear old) (hT1.out.get hd1.out).2)
                    rw [ins_of hmH.out, clr_of hd1.out] at hu
                    have huH := Lib.hid hu
                    clear hu
                    clear hfp
                    have tok1 : True := trivial
                    go_wp2_with (first
                      | (go_at_call 95; have _t := tok1; refine hcalll.mono ?_; rintro e w1 ⟨rfl, hb1⟩; have hcall2 := hcmH.out w1 hb1; have tok2 : True := trivial; clear _t tok1)
                      | (go_at_call 95; have _t := tok2; refine hcall2.mono ?_; rintro e w2 ⟨rfl, hb2⟩; have hb12 := hb1.trans (hb2.mono hb1.size); clear hcall2 _t tok2; have hP2 := hH.out.fresh hb12; have x2 := hP2.c2; have hlkd := hP2.lookI hnH.out (by omega); have hlkt := hP2.lookI hmH.out (by omega); have k6 := (hP2.get hnH.out).c6; have m6 := (hP2.get hmH.out).c6; have hlN := (hP2.get hnH.out).lookN old (by omega); have hlM := (hP2.get hmH.out).lookN nm (by omega); rw [hgH.out] at hlN; simp only [orV, Option.isSome_some, natV] at hlN; have hlki := hP2.lookI hoH.out (by omega); have o0 := (hP2.get hoH.out).c0; have o1 := (hP2.get hoH.out).c1; rw [kind_dir hodH.out] at o0; rw [hthH.out] at hlM; simp only [orV, Option.isSome_none] at hlM; have hP2H := Lib.hid hP2; clear hP2)
                      | (go_at_call 103; refine (hundH.out w2 hP2H.out).mono ?_; rintro e w3 ⟨⟨b, rfl, hbu⟩, hb3⟩; obtain rfl : b = false := hbv b hbu; clear hbu; have hb13 := hb12.trans (hb3.mono hb12.size); have hPu := hH.out.fresh hb13; have v2 := hPu.c2; have hlku := hPu.lookI hmH.out (by omega); have hPuH := Lib.hid hPu; clear hPu)
                      | (go_at_call 97; refine (hcpH.out w3 hPuH.out).mono ?_; rintro e w4p ⟨rfl, hb4⟩; have hb14 := hb13.trans (hb4.mono hb13.size); have hP3 := hH.out.fresh hb14; have y2 := hP3.c2; have hlk3 := hP3.lookI hmH.out (by omega); have hP3H := Lib.hid hP3; clear hP3)
                      | (go_at_call 98; refine (set_plain hP3H.out hTok.out hmH.out hmdH.out hkl hk8 (by omega)).mono ?_; rintro e w4 ⟨rfl, own4, lay4, hP4, hE4, hC4⟩; have u2 := hP4.c2; have hlk4 := hP4.lookI hd1.out (by omega); have hP4H := Lib.hid hP4; have hE4H := Lib.hid hE4; clear hP4 hE4)
                      | (go_at_call 101; refine (clear_plain hP4H.out hT1.out hd1.out hd1d.out hq1.out hnS).mono ?_; rintro e w5 ⟨rfl, hP5, hC5⟩; have hP5H := Lib.hid hP5; clear hP5))
                    go_ret
                    refine ⟨by rw [huH.out]; rfl, ?_⟩
                    rw [huH.out]
                    exact .of hP5H.out (hE4H.out.back hb14.size) (((Chg.of_fresh hb14).trans hC4 (fun _ _ h => h) (fun _ _ h => h)).ext (hE4H.out.back hb14.size) hC5)
                  · rw [if_pos he3] at hu
                    have huH := Lib.hid hu
                    have hne3 : ((e3 : Int) != 0) = true := by simp; omega
                    clear hu hfp he3
                    have tok1 : True := trivial
                    go_wp2_with (first
                      | (go_at_call 95; have _t := tok1; refine hcalll.mono ?_; rintro e w1 ⟨rfl, hb1⟩; have hcall2 := hcmH.out w1 hb1; have tok2 : True := trivial; clear _t tok1)
                      | (go_at_call 95; have _t := tok2; refine hcall2.mono ?_; rintro e w2 ⟨rfl, hb2⟩; have hb12 := hb1.trans (hb2.mono hb1.size); clear hcall2 _t tok2; have hP2 := hH.out.fresh hb12; have x2 := hP2.c2; have hlkd := hP2.lookI hnH.out (by omega); have hlkt := hP2.lookI hmH.out (by omega); have k6 := (hP2.get hnH.out).c6; have m6 := (hP2.get hmH.out).c6; have hlN := (hP2.get hnH.out).lookN old (by omega); have hlM := (hP2.get hmH.out).lookN nm (by omega); rw [hgH.out] at hlN; simp only [orV, Option.isSome_some, natV] at hlN; have hlki := hP2.lookI hoH.out (by omega); have o0 := (hP2.get hoH.out).c0; have o1 := (hP2.get hoH.out).c1; rw [kind_dir hodH.out] at o0; rw [hthH.out] at hlM; simp only [orV, Option.isSome_none] at hlM; have hP2H := Lib.hid hP2; clear hP2)
                      | (go_at_call 103; refine (hundH.out w2 hP2H.out).mono ?_; rintro e w3 ⟨⟨b, rfl, hbu⟩, hb3⟩; obtain rfl : b = false := hbv b hbu; clear hbu; have hb13 := hb12.trans (hb3.mono hb12.size); have hPu := hH.out.fresh hb13; have v2 := hPu.c2; have hlku := hPu.lookI hmH.out (by omega); have hPuH := Lib.hid hPu; clear hPu)
                      | (go_at_call 97; refine (hcpH.out w3 hPuH.out).mono ?_; rintro e w4p ⟨rfl, hb4⟩; have hb14 := hb13.trans (hb4.mono hb13.size)))
                    go_ret
                    refine ⟨by rw [huH.out]; rfl, ?_⟩
                    rw [huH.out]
                    exact .same hH.out hb14
            | false =>
              rw [hod, if_neg (by simp)] at hu
              have hodH := Lib.hid hod
              clear hod
              obtain ⟨lk, hlkE⟩ : ∃ lk, o.links = lk := ⟨_, rfl⟩
              have hlkH := Lib.hid hlkE
              rw [hlkE] at hu hlnk
              clear hlkE
              cases hth : getS nm m.names with
              | some j =>
                rw [hth] at hu
                simp only at hu
                have hthH := Lib.hid hth
                obtain ⟨v, hv⟩ := hTH.out.ents t m nm j hmH.out hth
                have hvH := Lib.hid hv
                have hvok := hTok.out.get hv
                have hj512 : j ≤ 512 := by omega
                rw [isDir_of hv] at hu
                clear hth hvok hv
                cases hvd : v.dir with
                | true =>
                  rw [hvd, if_pos rfl] at hu
                  have huH := Lib.hid hu
                  have hvdH := Lib.hid hvd
                  clear hu hvd
                  have tok1 : True := trivial
                  go_wp2_with (first
                    | (go_at_call 95; have _t := tok1; refine hcalll.mono ?_; rintro e w1 ⟨rfl, hb1⟩; have hcall2 := hcmH.out w1 hb1; have tok2 : True := trivial; clear _t tok1)
                    | (go_at_call 95; have _t := tok2; refine hcall2.mono ?_; rintro e w2 ⟨rfl, hb2⟩; have hb12 := hb1.trans (hb2.mono hb1.size); clear hcall2 _t tok2; have hP2 := hH.out.fresh hb12; have x2 := hP2.c2; have hlkd := hP2.lookI hnH.out (by omega); have hlkt := hP2.lookI hmH.out (by omega); have k6 := (hP2.get hnH.out).c6; have m6 := (hP2.get hmH.out).c6; have hlN := (hP2.get hnH.out).lookN old (by omega); have hlM := (hP2.get hmH.out).lookN nm (by omega); rw [hgH.out] at hlN; simp only [orV, Option.isSome_some, natV] at hlN; have hlki := hP2.lookI hoH.out (by omega); have o0 := (hP2.get hoH.out).c0; have o1 := (hP2.get hoH.out).c1; rw [kind_file hodH.out] at o0; rw [hlkH.out] at o1; rw [hthH.out] at hlM; simp only [orV, Option.isSome_some, natV] at hlM; have hlkj := hP2.lookI hvH.out (by omega); have j0 := (hP2.get hvH.out).c0; rw [kind_dir hvdH.out] at j0; clear hP2))
                  go_ret
                  refine ⟨by rw [huH.out]; rfl, ?_⟩
                  rw [huH.out]
                  exact .same hH.out hb12
                | false =>
                  rw [hvd, if_neg (by simp)] at hu
                  have hvdH := Lib.hid hvd
                  clear hvd
                  by_cases hij : i = j
                  · subst hij
                    rw [if_pos rfl] at hu
                    have huH := Lib.hid hu
                    have hijE : ((i : Int) == (i : Int)) = true := by simp
                    clear hu
                    have tok1 : True := trivial
                    go_wp2_with (first
                      | (go_at_call 95; have _t := tok1; refine hcalll.mono ?_; rintro e w1 ⟨rfl, hb1⟩; have hcall2 := hcmH.out w1 hb1; have tok2 : True := trivial; clear _t tok1)
                      | (go_at_call 95; have _t := tok2; refine hcall2.mono ?_; rintro e w2 ⟨rfl, hb2⟩; have hb12 := hb1.trans (hb2.mono hb1.size); clear hcall2 _t tok2; have hP2 := hH.out.fresh hb12; have x2 := hP2.c2; have hlkd := hP2.lookI hnH.out (by omega); have hlkt := hP2.lookI hmH.out (by omega); have k6 := (hP2.get hnH.out).c6; have m6 := (hP2.get hmH.out).c6; have hlN := (hP2.get hnH.out).lookN old (by omega); have hlM := (hP2.get hmH.out).lookN nm (by omega); rw [hgH.out] at hlN; simp only [orV, Option.isSome_some, natV] at hlN; have hlki := hP2.lookI hoH.out (by omega); have o0 := (hP2.get hoH.out).c0; have o1 := (hP2.get hoH.out).c1; rw [kind_file hodH.out] at o0; rw [hlkH.out] at o1; rw [hthH.out] at hlM; simp only [orV, Option.isSome_some, natV] at hlM; have hlkj := hP2.lookI hvH.out (by omega); have j0 := (hP2.get hvH.out).c0; rw [kind_file hvdH.out] at j0; clear hP2))
                    go_ret
                    refine ⟨by rw [huH.out]; rfl, ?_⟩
                    rw [huH.out]
                    exact .same hH.out hb12
                  · rw [if_neg hij] at hu
                    have hijE : ((i : Int) == (j : Int)) = false := by simp; omega
                    have hijH := Lib.hid hij
                    clear hij
                    by_cases h100 : lk = 100
                    · rw [if_pos h100] at hu
                      have huH := Lib.hid hu
                      have h1E : ((lk : Int) == 100) = true := by simp; omega
                      clear hu h100
                      have tok1 : True := trivial
                      go_wp2_with (first
                        | (go_at_call 95; have _t := tok1; refine hcalll.mono ?_; rintro e w1 ⟨rfl, hb1⟩; have hcall2 := hcmH.out w1 hb1; have tok2 : True := trivial; clear _t tok1)
                        | (go_at_call 95; have _t := tok2; refine hcall2.mono ?_; rintro e w2 ⟨rfl, hb2⟩; have hb12 := hb1.trans (hb2.mono hb1.size); clear hcall2 _t tok2; have hP2 := hH.out.fresh hb12; have x2 := hP2.c2; have hlkd := hP2.lookI hnH.out (by omega); have hlkt := hP2.lookI hmH.out (by omega); have k6 := (hP2.get hnH.out).c6; have m6 := (hP2.get hmH.out).c6; have hlN := (hP2.get hnH.out).lookN old (by omega); have hlM := (hP2.get hmH.out).lookN nm (by omega); rw [hgH.out] at hlN; simp only [orV, Option.isSome_some, natV] at hlN; have hlki := hP2.lookI hoH.out (by omega); have o0 := (hP2.get hoH.out).c0; have o1 := (hP2.get hoH.out).c1; rw [kind_file hodH.out] at o0; rw [hlkH.out] at o1; rw [hthH.out] at hlM; simp only [orV, Option.isSome_some, natV] at hlM; have hlkj := hP2.lookI hvH.out (by omega); have j0 := (hP2.get hvH.out).c0; rw [kind_file hvdH.out] at j0; clear hP2))
                      go_ret
                      refine ⟨by rw [huH.out]; rfl, ?_⟩
                      rw [huH.out]
                      exact .same hH.out hb12
                    · rw [if_neg h100] at hu
                      have h1E : ((lk : Int) == 100) = false := by simp; omega
                      clear h100
                      obtain ⟨s, hs⟩ := hTH.out.slotn t m nm j hmH.out hthH.out
                      rw [hs] at hu
                      simp only [Option.getD_some] at hu
                      have hix := idxV_some hs
                      have hslt := (firstIdx_lt hs)
                      have hfit := Lib.hid (show m.Fit s nm from by exact .inr (.inr ⟨by rw [hthH.out]; rfl, hslt.2⟩))
                      have hT1 := Lib.hid (hTok.out.upd (set_ok hTH.out hmH.out hmdH.out hfit.out hnS2 hi512) (hTok.out.get hmH.out).2)
                      have hkl := hfit.out.le
                      have hk8 := hfit.out.lt (hTok.out.get hmH.out).1
                      have hd1 := Lib.hid (show getS d (T.upd t (m.set s nm i)).nodes = some n from (upd_other _ hdtH.out).trans hnH.out)
                      have hd1d := hndH
                      have hq1 := hqH
                      have hT2 := Lib.hid (hT1.out.upd ((hT1.out.get hd1.out).1.clear old) (hT1.out.get hd1.out).2)
                      rw [ins_of hmH.out, clr_of hd1.out] at hu
                      have huH := Lib.hid hu
                      clear hu
                      have hjd : j ≠ d := fun e => by have h1 := hvH.out; rw [e, hnH.out] at h1; have h1 := Option.some.inj h1; have h2 := hvdH.out; rw [← h1, hndH.out] at h2; cases h2
                      have hjt : j ≠ t := fun e => by have h1 := hvH.out; rw [e, hmH.out] at h1; have h1 := Option.some.inj h1; have h2 := hvdH.out; rw [← h1, hmdH.out] at h2; cases h2
                      have hvj := Lib.hid (show getS j ((T.upd t (m.set s nm i)).upd d (n.clear old)).nodes = some v from (upd_other _ hjd).trans ((upd_other _ hjt).trans hvH.out))
                      have hv1 := Lib.hid (hTH.out.lnk j v hvH.out)
                      have hslots := (hTok.out.get hmH.out).1.slots
                      have hsix := fun W (hP : PnAt W (lay t) m) => hP.seesAt
                      have hsixH := Lib.hid hsix
                      clear hs hslt hsix
                      have tok1 : True := trivial
                      go_wp2_with (first
                        | (go_at_call 95; have _t := tok1; refine hcalll.mono ?_; rintro e w1 ⟨rfl, hb1⟩; have hcall2 := hcmH.out w1 hb1; have tok2 : True := trivial; clear _t tok1)
                        | (go_at_call 95; have _t := tok2; refine hcall2.mono ?_; rintro e w2 ⟨rfl, hb2⟩; have hb12 := hb1.trans (hb2.mono hb1.size); clear hcall2 _t tok2; have hP2 := hH.out.fresh hb12; have x2 := hP2.c2; have hlkd := hP2.lookI hnH.out (by omega); have hlkt := hP2.lookI hmH.out (by omega); have k6 := (hP2.get hnH.out).c6; have m6 := (hP2.get hmH.out).c6; have hlN := (hP2.get hnH.out).lookN old (by omega); have hlM := (hP2.get hmH.out).lookN nm (by omega); rw [hgH.out] at hlN; simp only [orV, Option.isSome_some, natV] at hlN; have hlki := hP2.lookI hoH.out (by omega); have o0 := (hP2.get hoH.out).c0; have o1 := (hP2.get hoH.out).c1; rw [kind_file hodH.out] at o0; rw [hlkH.out] at o1; rw [hthH.out] at hlM; simp only [orV, Option.isSome_some, natV] at hlM; have hlkj := hP2.lookI hvH.out (by omega); have j0 := (hP2.get hvH.out).c0; rw [kind_file hvdH.out] at j0; obtain ⟨A5, c5, x5, hs5⟩ := hsixH.out w2 (hP2.get hmH.out); have hcS := sindex_any w2.heap.size A5 c5 nm m.slots w2 hs5 (by omega); rw [hix] at hcS; have hP2H := Lib.hid hP2; clear hP2 hs5)
                        | (go_at_call 104; refine hcS.mono ?_; rintro e w' ⟨rfl, rfl⟩)
                        | (go_at_call 98; refine (set_plain hP2H.out hTok.out hmH.out hmdH.out hkl hk8 (by omega)).mono ?_; rintro e w4 ⟨rfl, own4, lay4, hP4, hE4, hC4⟩; have u2 := hP4.c2; have hlk4 := hP4.lookI hd1.out (by omega); have hP4H := Lib.hid hP4; have hE4H := Lib.hid hE4; clear hP4 hE4)
                        | (go_at_call 101; refine (clear_plain hP4H.out hT1.out hd1.out hd1d.out hq1.out hnS).mono ?_; rintro e w5 ⟨rfl, hP5, hC5⟩; have hP5H := Lib.hid hP5; clear hP5)
                        | (go_at_call 102; refine (pless_any own4 lay4 p mb j _ v w5 hP5H.out hT2.out hvj.out hv1.out).mono ?_; rintro e w6 ⟨rfl, hP6⟩))
                      go_ret
                      refine ⟨by rw [huH.out]; rfl, ?_⟩
                      rw [huH.out]
                      exact PTurn.fst (hE4H.out.back hb12.size) (((Chg.of_fresh hb12).trans hC4 (fun _ _ h => h) (fun _ _ h => h)).ext (hE4H.out.back hb12.size) hC5) hP6
              | none =>
                rw [hth] at hu
                simp only at hu
                have hthH := Lib.hid hth
                clear hth
                by_cases h100 : lk = 100
                · rw [if_pos h100] at hu
                  have huH := Lib.hid hu
                  have h1E : ((lk : Int) == 100) = true := by simp; omega
                  clear hu h100
                  have tok1 : True := trivial
                  go_wp2_with (first
                    | (go_at_call 95; have _t := tok1; refine hcalll.mono ?_; rintro e w1 ⟨rfl, hb1⟩; have hcall2 := hcmH.out w1 hb1; have tok2 : True := trivial; clear _t tok1)
                    | (go_at_call 95; have _t := tok2; refine hcall2.mono ?_; rintro e w2 ⟨rfl, hb2⟩; have hb12 := hb1.trans (hb2.mono hb1.size); clear hcall2 _t tok2; have hP2 := hH.out.fresh hb12; have x2 := hP2.c2; have hlkd := hP2.lookI hnH.out (by omega); have hlkt := hP2.lookI hmH.out (by omega); have k6 := (hP2.get hnH.out).c6; have m6 := (hP2.get hmH.out).c6; have hlN := (hP2.get hnH.out).lookN old (by omega); have hlM := (hP2.get hmH.out).lookN nm (by omega); rw [hgH.out] at hlN; simp only [orV, Option.isSome_some, natV] at hlN; have hlki := hP2.lookI hoH.out (by omega); have o0 := (hP2.get hoH.out).c0; have o1 := (hP2.get hoH.out).c1; rw [kind_file hodH.out] at o0; rw [hlkH.out] at o1; rw [hthH.out] at hlM; simp only [orV, Option.isSome_none] at hlM; clear hP2))
                  go_ret
                  refine ⟨by rw [huH.out]; rfl, ?_⟩
                  rw [huH.out]
                  exact .same hH.out hb12
                · rw [if_neg h100] at hu
                  have h1E : ((lk : Int) == 100) = false := by simp; omega
                  clear h100
                  have hslots := (hTok.out.get hmH.out).1.slots
                  have hsix := fun W (hP : PnAt W (lay t) m) => hP.seesAt
                  have hsixH := Lib.hid hsix
                  clear hsix
                  obtain ⟨ix, hix⟩ : ∃ ix, idxV nm m.slots = ix := ⟨_, rfl⟩
                  have hfp := fit_place (T := T) (n := m) (nm := nm) (hTok.out.get hmH.out).1
                  have hcallp := fun W hP => pplace_any own lay p mb t T m W hP hTH.out hmH.out
                  generalize T.place m = r3 at *
                  obtain ⟨k, e3⟩ := r3
                  simp only at hfp hu hcallp
                  unfold natV at hcallp
                  have hcpH := Lib.hid hcallp
                  clear hcallp
                  by_cases he3 : e3 = 0
                  · subst he3
                    rw [if_neg (by simp)] at hu
                    have hfit := Lib.hid (show m.Fit k nm from hfp rfl)
                    have hT1 := Lib.hid (hTok.out.upd (set_ok hTH.out hmH.out hmdH.out hfit.out hnS2 hi512) (hTok.out.get hmH.out).2)
                    have hkl := hfit.out.le
                    have hk8 := hfit.out.lt (hTok.out.get hmH.out).1
                    have hd1 := Lib.hid (show getS d (T.upd t (m.set k nm i)).nodes = some n from (upd_other _ hdtH.out).trans hnH.out)
                    have hd1d := hndH
                    have hq1 := hqH
                    have hT2 := Lib.hid (hT1.out.upd ((hT1.out.get hd1.out).1.clear old) (hT1.out.get hd1.out).2)
                    rw [ins_of hmH.out, clr_of hd1.out] at hu
                    have huH := Lib.hid hu
                    clear hu
                    clear hfp
                    have tok1 : True := trivial
                    go_wp2_with (first
                      | (go_at_call 95; have _t := tok1; refine hcalll.mono ?_; rintro e w1 ⟨rfl, hb1⟩; have hcall2 := hcmH.out w1 hb1; have tok2 : True := trivial; clear _t tok1)
                      | (go_at_call 95; have _t := tok2; refine hcall2.mono ?_; rintro e w2 ⟨rfl, hb2⟩; have hb12 := hb1.trans (hb2.mono hb1.size); clear hcall2 _t tok2; have hP2 := hH.out.fresh hb12; have x2 := hP2.c2; have hlkd := hP2.lookI hnH.out (by omega); have hlkt := hP2.lookI hmH.out (by omega); have k6 := (hP2.get hnH.out).c6; have m6 := (hP2.get hmH.out).c6; have hlN := (hP2.get hnH.out).lookN old (by omega); have hlM := (hP2.get hmH.out).lookN nm (by omega); rw [hgH.out] at hlN; simp only [orV, Option.isSome_some, natV] at hlN; have hlki := hP2.lookI hoH.out (by omega); have o0 := (hP2.get hoH.out).c0; have o1 := (hP2.get hoH.out).c1; rw [kind_file hodH.out] at o0; rw [hlkH.out] at o1; rw [hthH.out] at hlM; simp only [orV, Option.isSome_none] at hlM; obtain ⟨A5, c5, x5, hs5⟩ := hsixH.out w2 (hP2.get hmH.out); have hcS := sindex_any w2.heap.size A5 c5 nm m.slots w2 hs5 (by omega); rw [hix] at hcS; have hP2H := Lib.hid hP2; clear hP2 hs5)
                      | (go_at_call 104; refine hcS.mono ?_; rintro e w' ⟨rfl, rfl⟩)
                      | (go_at_call 97; refine (hcpH.out w2 hP2H.out).mono ?_; rintro e w4p ⟨rfl, hb4⟩; have hb14 := hb12.trans (hb4.mono hb12.size); have hP3 := hH.out.fresh hb14; have y2 := hP3.c2; have hlk3 := hP3.lookI hmH.out (by omega); have hP3H := Lib.hid hP3; clear hP3)
                      | (go_at_call 98; refine (set_plain hP3H.out hTok.out hmH.out hmdH.out hkl hk8 (by omega)).mono ?_; rintro e w4 ⟨rfl, own4, lay4, hP4, hE4, hC4⟩; have u2 := hP4.c2; have hlk4 := hP4.lookI hd1.out (by omega); have hP4H := Lib.hid hP4; have hE4H := Lib.hid hE4; clear hP4 hE4)
                      | (go_at_call 101; refine (clear_plain hP4H.out hT1.out hd1.out hd1d.out hq1.out hnS).mono ?_; rintro e w5 ⟨rfl, hP5, hC5⟩; have hP5H := Lib.hid hP5; clear hP5))
                    go_ret
                    refine ⟨by rw [huH.out]; rfl, ?_⟩
                    rw [huH.out]
                    exact .of hP5H.out (hE4H.out.back hb14.size) (((Chg.of_fresh hb14).trans hC4 (fun _ _ h => h) (fun _ _ h => h)).ext (hE4H.out.back hb14.size) hC5)
                  · rw [if_pos he3] at hu
                    have huH := Lib.hid hu
                    have hne3 : ((e3 : Int) != 0) = true := by simp; omega
                    clear hu hfp he3
                    have tok1 : True := trivial
                    go_wp2_with (first
                      | (go_at_call 95; have _t := tok1; refine hcalll.mono ?_; rintro e w1 ⟨rfl, hb1⟩; have hcall2 := hcmH.out w1 hb1; have tok2 : True := trivial; clear _t tok1)
                      | (go_at_call 95; have _t := tok2; refine hcall2.mono ?_; rintro e w2 ⟨rfl, hb2⟩; have hb12 := hb1.trans (hb2.mono hb1.size); clear hcall2 _t tok2; have hP2 := hH.out.fresh hb12; have x2 := hP2.c2; have hlkd := hP2.lookI hnH.out (by omega); have hlkt := hP2.lookI hmH.out (by omega); have k6 := (hP2.get hnH.out).c6; have m6 := (hP2.get hmH.out).c6; have hlN := (hP2.get hnH.out).lookN old (by omega); have hlM := (hP2.get hmH.out).lookN nm (by omega); rw [hgH.out] at hlN; simp only [orV, Option.isSome_some, natV] at hlN; have hlki := hP2.lookI hoH.out (by omega); have o0 := (hP2.get hoH.out).c0; have o1 := (hP2.get hoH.out).c1; rw [kind_file hodH.out] at o0; rw [hlkH.out] at o1; rw [hthH.out] at hlM; simp only [orV, Option.isSome_none] at hlM; obtain ⟨A5, c5, x5, hs5⟩ := hsixH.out w2 (hP2.get hmH.out); have hcS := sindex_any w2.heap.size A5 c5 nm m.slots w2 hs5 (by omega); rw [hix] at hcS; have hP2H := Lib.hid hP2; clear hP2 hs5)
                      | (go_at_call 104; refine hcS.mono ?_; rintro e w' ⟨rfl, rfl⟩)
                      | (go_at_call 97; refine (hcpH.out w2 hP2H.out).mono ?_; rintro e w4p ⟨rfl, hb4⟩; have hb14 := hb12.trans (hb4.mono hb12.size)))
                    go_ret
                    refine ⟨by rw [huH.out]; rfl, ?_⟩
                    rw [huH.out]
                    exact .same hH.out hb14
    · rw [if_pos he2] at hu
      have huH := Lib.hid hu
      have hne2 : ((e2 : Int) != 0) = true := by simp; omega
      clear hu hmin he2
      have tok1 : True := trivial
      go_wp2_with (first
        | (go_at_call 95; have _t := tok1; refine hcalll.mono ?_; rintro e w1 ⟨rfl, hb1⟩; have hcall2 := hcmH.out w1 hb1; have tok2 : True := trivial; clear _t tok1)
        | (go_at_call 95; have _t := tok2; refine hcall2.mono ?_; rintro e w2 ⟨rfl, hb2⟩; have hb12 := hb1.trans (hb2.mono hb1.size); clear hcall2 _t tok2; skip))
      go_ret
      refine ⟨by rw [huH.out]; rfl, ?_⟩
      rw [huH.out]
      exact .same hH.out hb12
  · rw [if_pos he1] at hu
    have huH := Lib.hid hu
    have hne1 : ((e1 : Int) != 0) = true := by simp; omega
    clear hu hlin he1
    have tok1 : True := trivial
    go_wp2_with (first
      | (go_at_call 95; have _t := tok1; refine hcalll.mono ?_; rintro e w1 ⟨rfl, hb1⟩; clear _t tok1))
    go_ret
    refine ⟨by rw [huH.out]; rfl, ?_⟩
    rw [huH.out]
    exact .same hH.out hb1
#print axioms prename_any
end Go.Proofs.YtolpcfhfcdkokaaGreatDoor
