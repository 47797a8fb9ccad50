/- Joined out of the texts DFills, LTwo, QAdd, QSpot, QFew. -/
import Derived.Test.YtolpcfhfcdkokaaGreatDoorM26
import Derived.Test.YtolpcfhfcdkokaaGreatDoorM40
/-
  Package dump: nodes are made, all of them.
-/
namespace Go.Proofs.YtolpcfhfcdkokaaGreatDoor
open Go.RowKit Go.Proofs

theorem mayT_fit {x : Tn} {fs : List (ByteArray × Unit)} (h : mayT x fs = true) : (x.kind = 1 ∨ x.kind = 2) ∧ x.data.length ≤ 136704 := by
  unfold mayT at h
  split at h
  · cases h
  · rename_i hn
    have hd : x.data.length ≤ 136704 := by omega
    split at h
    · rename_i hk; exact ⟨.inr hk, hd⟩
    · split at h
      · cases h
      · rename_i hk; exact ⟨.inl (by omega), hd⟩
theorem inv_layT (p : ByteArray) (d : List UInt8) : ∀ (f : Nat) (T : PT) (a : Nat), T.Inv → (layT p d f T a).1.Inv
  | 0, T, a, h => by unfold layT; exact h
  | f + 1, T, a, h => by
    unfold layT
    split
    · split
      · exact inv_layT p d f T (a + 128) h
      · split
        · exact inv_run h _
        · exact inv_layT p d f _ _ (inv_run h _)
    · exact inv_run h _
theorem inv_fillT {T : PT} (h : T.Inv) (x : Tn) : (fillT T x).1.Inv := by
  unfold fillT
  split
  · exact inv_run h _
  · split
    · exact inv_run h _
    · split
      · exact inv_run h _
      · exact inv_layT _ _ _ _ _ (inv_run h _)
theorem fillsT_no {l : List Tn} {k : Nat} {fs : List (ByteArray × Unit)} {T : PT} {x : Tn} {r : List Tn} (hl : l = x :: r) (h : mayT x fs = false) : fillsT l k fs T = (T, k, 171) := by
  rw [hl, fillsT, if_pos h]
theorem fillsT_bad {l : List Tn} {k : Nat} {fs : List (ByteArray × Unit)} {T : PT} {x : Tn} {r : List Tn} (hl : l = x :: r) (h : mayT x fs = true) (hc : (fillT T x).2 ≠ 0) : fillsT l k fs T = ((fillT T x).1, k, (fillT T x).2) := by
  rw [hl, fillsT, if_neg (by simp [h]), if_pos hc]
theorem fillsT_go {l : List Tn} {k : Nat} {fs : List (ByteArray × Unit)} {T : PT} {x : Tn} {r : List Tn} (hl : l = x :: r) (h : mayT x fs = true) (hc : (fillT T x).2 = 0) : fillsT l k fs T = fillsT r (k + 1) (if x.kind = 1 then putS strK x.path () fs else fs) (fillT T x).1 := by
  rw [hl, fillsT, if_neg (by simp [h]), if_neg (by simp [hc])]
/-- What Fill leaves. -/
def FillP (own : Nat → Option Role) (p mb : Nat) (r : PT × Nat × Nat) (w : World) (e : Ending) (w' : World) : Prop :=
  e = .returned (.tuple #[.int .i64 (r.2.1 : Int), .int .i64 (r.2.2 : Int)]) ∧ PTurn own p mb r.1 w w'
/-- The nodes lie off the tree's memory. -/
structure NOff (own : Nat → Option Role) (A : Option Addr) (l : List Nd) : Prop where
  row : ∀ b off, A = some ⟨b, off, none⟩ → 0 < l.length → own b = none
  data : ∀ x ∈ l, Off own x.dA x.data.length
/-- Where the loop stands. -/
def FillI (own : Nat → Option Role) (p mb fb : Nat) (w : World) (l : List Nd) (R : PT × Nat × Nat) (wr : World) (j : Nat) (fs : List (ByteArray × Unit)) (T1 : PT) : Prop :=
  R = fillsT ((l.map Nd.tn).drop j) j fs T1 ∧ T1.Inv ∧ fs.length ≤ j ∧ MapAt wr strK oneV 9 fb fs ∧ ∃ own1 lay1, PlainAt wr own1 lay1 p mb T1 ∧ Ext w own own1 ∧ own1 fb = none ∧ Chg (fun b => own b ≠ none) w wr ∧ fb < wr.heap.size
theorem putS_le {fs : List (ByteArray × Unit)} {j : Nat} (h : fs.length ≤ j) (x : Tn) : (if x.kind = 1 then putS strK x.path () fs else fs).length ≤ j + 1 := by
  split
  · have := length_put_le strK x.path () fs; omega
  · omega
set_option maxHeartbeats 6400000 in
set_option maxRecDepth 100000 in
theorem fill_any (own : Nat → Option Role) (lay : Nat → NA) (p mb : Nat) (T : PT) (m0 : Int) (w : World) (h : PlainAt w own lay p mb T) (hI : T.Inv) (hm : w.cell? ⟨0, 0, none⟩ = some (.int .i64 m0)) (ho0 : own 0 = none)
    (A : Option Addr) (cap : Nat) (l : List Nd) (hN : NodesAt w w.heap.size A l) (hO : NOff own A l) (hln : l.length ≤ 1000000000) (hcap : l.length ≤ cap) (hsz : ∀ x ∈ l, x.path.size ≤ 100000 ∧ x.same.size ≤ 100000 ∧ x.data.length ≤ x.dc ∧ x.data.length ≤ 1000000000000) :
    Calls Tryz.prog 18 #[ifV p, .slice A l.length cap] w (FillP own p mb (T.fill (l.map Nd.tn)) w) := by
  obtain ⟨R, hR⟩ : ∃ R, T.fill (l.map Nd.tn) = R := ⟨_, rfl⟩
  rw [hR]
  obtain ⟨fb, hfb⟩ : ∃ fb, w.heap.size = fb := ⟨_, rfl⟩
  have hb0 : Below w.heap.size w (w.alloc (.map #[] 0)) := (Below.refl _ _).alloc (Nat.le_refl _) _
  have hst : FillI own p mb fb w l R (w.alloc (.map #[] 0)) 0 [] T := by
    refine ⟨hR.symm, hI, Nat.le_refl _, ?_, own, lay, h.fresh hb0, Ext.refl _ _, ?_, Chg.of_fresh hb0, by simp [hfb]⟩
    · rw [← hfb]; exact MapAt.made w strK oneV _
    · exact h.free (by omega)
  obtain ⟨len, hlen⟩ : ∃ len, l.length = len := ⟨_, rfl⟩
  rw [hlen] at hln hcap ⊢
  have hlenH := Lib.hid hlen
  have hNH := Lib.hid hN
  have hOH := Lib.hid hO
  have hszH := Lib.hid hsz
  have hmH := Lib.hid hm
  have hltH := Lib.hid h.lt
  have hfbH := Lib.hid hfb
  have hmm := @run_makeMap Tryz.prog
  clear hR hlen hN hO hsz hm h hI hb0
  unfold ifV
  go_enter Tryz.func18, Tryz.ntmps18
  go_wp2
  go_loopw [15] (fun v wr => ∃ (j : Nat) (fs : List (ByteArray × Unit)) (T1 : PT), v = .int .i64 (j : Int) ∧ j ≤ len ∧ FillI own p mb fb w l R wr j fs T1) (fun v _ => len - (intOf v).toNat)
  case atStart => exact ⟨0, [], T, rfl, Nat.zero_le _, hst⟩
  case round =>
    obtain ⟨j, fs, T1, rfl, hj, hRe, hI1, hfl, hmp, own1, lay1, hP1, hE1, hof, hC1, hfs⟩ := hrel
    clear hst
    have hReH := Lib.hid hRe
    have hI1H := Lib.hid hI1
    have hE1H := Lib.hid hE1
    have hofH := Lib.hid hof
    have hC1H := Lib.hid hC1
    have hP1H := Lib.hid hP1
    have hmpH := Lib.hid hmp
    have hflH := Lib.hid hfl
    have hfsH := Lib.hid hfs
    have h0r : Hid (own1 0 = none) := Lib.hid (by
      cases e : own1 0 with
      | none => rfl
      | some r => rcases hE1.new 0 r e with h9 | h9
                  · rw [ho0] at h9; cases h9
                  · have := World.block_lt_of_cell? _ _ hmH.out
                    omega)
    have hnw : Hid (∀ b, b < w.heap.size → own b = none → own1 b = none) := Lib.hid fun b hb e => by
      cases e7 : own1 b with
      | none => rfl
      | some r => rcases hE1.new b r e7 with e2 | e2
                  · rw [e] at e2; cases e2
                  · omega
    have hmr := Lib.hid ((hC1.cell (p := ⟨0, 0, none⟩) (World.block_lt_of_cell? _ _ hmH.out) (fun hh => hh ho0)).trans hmH.out)
    clear hRe hI1 hfl hmp hP1 hE1 hof hC1 hfs
    by_cases hlt : j < len
    · have hjl : j < l.length := by rw [hlenH.out]; exact hlt
      have t1 : decide ((j : Int) < (len : Int)) = true := by simpa using hlt
      obtain ⟨b, off, rfl, hbB, hc⟩ := hNH.out.at_ (by omega)
      have hbn : own b = none := hOH.out.row b off rfl (by omega)
      have hci := (hc j hjl).keep (w1 := wr) fun q hq => hC1H.out.cell (by omega) (by rw [hq]; exact fun hh => hh hbn)
      have hxm := List.getElem_mem hjl
      have hds := (hNH.out.data _ hxm)
      have hdo := hOH.out.data _ hxm
      have hxz := hszH.out _ hxm
      have hds1 := hds.chgS (by decide) hC1H.out (fun b off e hn hh => hh (hdo b off e hn)) |>.more hC1H.out.size
      have hdo1 : Off own1 l[j].dA l[j].data.length := fun b off e hn => by
        obtain ⟨b', off', e', hb', hcl'⟩ := hds.at_ hn
        rw [e] at e'
        have e' := Option.some.inj e'
        injection e' with e1 e2
        exact hnw.out b (by rw [e1]; exact hb') (hdo b off e hn)
      have hdr : Hid ((l.map Nd.tn).drop j = l[j].tn :: (l.map Nd.tn).drop (j + 1)) := Lib.hid (by
        rw [List.drop_eq_getElem_cons (by simpa using hjl)]; simp)
      clear hc hxm hds hdo hbB hbn
      generalize l[j] = x at *
      obtain ⟨pa, ki, ma, sa, dA, dc, da⟩ := x
      obtain ⟨c0, c1, c2, c3, c4⟩ := hci
      simp only [Nd.tn] at c0 c1 c2 c3 c4 hds1 hdo1 hxz hdr
      obtain ⟨dl, hdl⟩ : ∃ dl, da.length = dl := ⟨_, rfl⟩
      rw [hdl] at c4
      have hdlH := Lib.hid hdl
      have hds1H := Lib.hid hds1
      have hdo1H := Lib.hid hdo1
      have hxzH := Lib.hid hxz
      clear hdl hds1 hdo1 hxz
      go_upto_region 7 with (fail)
      have hb1 : Below wr.heap.size wr (wr.alloc (.cells [.string pa, .int .i64 ki, .int .i64 ma, .string sa, .slice dA dl dc].toArray 75)) := (Below.refl _ _).alloc (Nat.le_refl _) _
      have hk1 : Blk (wr.alloc (.cells [.string pa, .int .i64 ki, .int .i64 ma, .string sa, .slice dA dl dc].toArray 75)) wr.heap.size 75 [.string pa, .int .i64 ki, .int .i64 ma, .string sa, .slice dA dl dc] := Blk.new wr _ _
      change Code.wp _ _ _ _ (wr.alloc (.cells [.string pa, .int .i64 ki, .int .i64 ma, .string sa, .slice dA dl dc].toArray 75))
      generalize wr.alloc (.cells [.string pa, .int .i64 ki, .int .i64 ma, .string sa, .slice dA dl dc].toArray 75) = W1 at *
      obtain ⟨g, hgE⟩ : ∃ g, wr.heap.size = g := ⟨_, rfl⟩
      have hog1 : own1 g = none := hP1H.out.free (by omega)
      have hog : own g = none := by
        cases e : own g with
        | none => rfl
        | some r => have := hE1H.out.keep g r e; rw [hog1] at this; cases this
      rw [hgE] at hk1
      simp only [hgE]
      have y0 := hk1.cell 0
      have y1 := hk1.cell 1
      have y2 := hk1.cell 2
      have y3 := hk1.cell 3
      have y4 := hk1.cell 4
      simp only [List.getElem?_cons_succ, List.getElem?_cons_zero] at y0 y1 y2 y3 y4
      have hcm := may_any ⟨pa, ki, ma, sa, da⟩ dA dc fb fs W1 (hmpH.out.fresh hb1) (by have := hxzH.out.2.1; simp only; omega) hxzH.out.2.2.2
      simp only [hdlH.out] at hcm
      obtain ⟨bm, hbm⟩ : ∃ bm, mayT ⟨pa, ki, ma, sa, da⟩ fs = bm := ⟨_, rfl⟩
      rw [hbm] at hcm
      have hbmH := Lib.hid hbm
      unfold ndC at hcm
      have hb1H := Lib.hid hb1
      have hk1H := Lib.hid hk1
      have hog1H := Lib.hid hog1
      have hogH := Lib.hid hog
      have hgH := Lib.hid hgE
      have hT1 : Hid (PTurn own p mb T1 w W1) := Lib.hid (PTurn.then_ ⟨own1, lay1, hP1H.out, hE1H.out, hC1H.out⟩ hb1)
      clear hbm hb1 hk1 hog1 hog hgE c0 c1 c2 c3 c4
      cases bm with
      | false =>
        go_wp2_with (go_at_call 37; refine hcm.mono ?_; rintro e w2 ⟨rfl, hb2⟩)
        go_ret2
        rw [hReH.out, fillsT_no hdr.out hbmH.out]
        exact ⟨rfl, hT1.out.then_ hb2⟩
      | true =>
        have hfit := mayT_fit hbmH.out
        obtain ⟨r, hr⟩ : ∃ r, fillT T1 ⟨pa, ki, ma, sa, da⟩ = r := ⟨_, rfl⟩
        have hcf := fun (W : World) (hW : Below wr.heap.size wr W) => dfill1_any own1 lay1 p mb T1 m0 W (hP1H.out.fresh hW) hI1H.out ((hW.cell (p := ⟨0, 0, none⟩) (World.block_lt_of_cell? _ _ hmr.out)).trans hmr.out) h0r.out ⟨pa, ki, ma, sa, da⟩ dA dc ((hds1H.out.below hW).more hW.size) hdo1H.out hxzH.out.2.2.1 hfit.2 hxzH.out.1 hxzH.out.2.1 hfit.1
        rw [hr] at hcf
        simp only [hdlH.out] at hcf
        unfold ndC ifV at hcf
        have hcfH := Lib.hid hcf
        have hi2 : Hid (r.1.Inv) := Lib.hid (by rw [← hr]; exact inv_fillT hI1H.out _)
        obtain ⟨T2, cd⟩ := r
        have hrH := Lib.hid hr
        simp only at hi2
        clear hfit hcf hr
        go_upto_region 10 with (first
          | (go_at_call 37; refine hcm.mono ?_; rintro e w2 ⟨rfl, hb2⟩; have hc2 := hcfH.out w2 (hb1H.out.trans (hb2.mono hb1H.out.size)); have z0 := (hb2.cell (p := ⟨g, 0, none⟩) (World.block_lt_of_cell? _ _ y0)).trans y0; have z1 := (hb2.cell (p := ⟨g, 1, none⟩) (World.block_lt_of_cell? _ _ y1)).trans y1; have z2 := (hb2.cell (p := ⟨g, 2, none⟩) (World.block_lt_of_cell? _ _ y2)).trans y2; have z3 := (hb2.cell (p := ⟨g, 3, none⟩) (World.block_lt_of_cell? _ _ y3)).trans y3; have z4 := (hb2.cell (p := ⟨g, 4, none⟩) (World.block_lt_of_cell? _ _ y4)).trans y4)
          | (go_at_call 38; refine hc2.mono ?_; rintro e w3 ⟨rfl, hT3⟩))
        have hb12 : Below wr.heap.size wr w2 := hb1H.out.trans (hb2.mono hb1H.out.size)
        have hc13 : Chg (fun b => own1 b ≠ none) wr w2 := Chg.of_fresh hb12
        by_cases hcd : cd = 0
        case neg =>
          have hne : ((cd : Int) != 0) = true := by simp; omega
          have hfin : Hid (PTurn own p mb T2 w w3) := Lib.hid (PTurn.fst hE1H.out hC1H.out (PTurn.fst (Ext.refl _ _) hc13 hT3))
          have hcdH := Lib.hid hcd
          clear hT3 hb12 hc13 hcd
          go_wp2
          go_ret2
          rw [hReH.out, fillsT_bad hdr.out hbmH.out (by rw [hrH.out]; exact hcdH.out), hrH.out]
          exact ⟨rfl, hfin.out⟩
        case pos =>
        have hne : ((cd : Int) != 0) = false := by simp; omega
        have hgo : Hid (R = fillsT ((l.map Nd.tn).drop (j + 1)) (j + 1) (if ki = 1 then putS strK pa () fs else fs) T2) := Lib.hid (by
          have h9 := fillsT_go hdr.out (k := j) (T := T1) hbmH.out (by rw [hrH.out]; exact hcd)
          rw [hrH.out] at h9
          rw [hReH.out, h9])
        obtain ⟨own2, lay2, hP2, hE2, hC2⟩ := hT3
        have hk3 := (hk1H.out.chg (Chg.of_fresh (S := fun _ => False) hb2) id).chg hC2 (fun hh => hh hog1H.out)
        have x0 := hk3.cell 0
        have x1 := hk3.cell 1
        simp only [List.getElem?_cons_succ, List.getElem?_cons_zero] at x0 x1
        have hm3 := (hmpH.out.fresh hb12).chg hC2 (fun hh => hh hofH.out)
        have hC3 : Hid (Chg (fun b => own b ≠ none) w w3) := Lib.hid (hC1H.out.ext hE1H.out (hc13.trans hC2 (fun _ _ h => h) (fun _ _ h => h)))
        have hE3 : Hid (Ext w own own2) := Lib.hid (hE1H.out.trans hE2 (Nat.le_trans hC1H.out.size hb12.size))
        have hof2 : Hid (own2 fb = none) := Lib.hid (by
          cases e : own2 fb with
          | none => rfl
          | some r => rcases hE2.new fb r e with h9 | h9
                      · rw [hofH.out] at h9; cases h9
                      · have := hfsH.out; have := hb12.size; omega)
        have hfs3 : Hid (fb < w3.heap.size) := Lib.hid (by have := hfsH.out; have := hb12.size; have := hC2.size; omega)
        have hP2H := Lib.hid hP2
        have hm3H := Lib.hid hm3
        have hpz := hxzH.out.1
        have hfl1 := hflH.out
        clear hP2 hE2 hC2 hk3 hb12 hc13 hcd y0 y1 y2 y3 y4 z0 z1 z2 z3 z4 hb2 hc2
        by_cases hk : ki = 1
        · have s1 : (ki == 1) = true := by simpa using hk
          have hkH := Lib.hid hk
          clear hk hm3
          go_wp2_with (first
            | (at_mapUpdate; refine wpList_mput _ rfl _ _ _ 101 (.inl rfl) kStr Tryz.underlying101 hm3H.out (by unfold maxLen; omega) rfl pa rfl (keyS pa (by unfold maxLen; omega)) () rfl ?_; intro w4 hm4 ht4))
          go_roundw
          case rel =>
            have hc4 := turned_chg ht4
            have h9 := hgo.out
            have h8 := putS_le hfl1 (⟨pa, ki, ma, sa, da⟩ : Tn)
            simp only [hkH.out, if_true] at h9 h8
            exact ⟨j + 1, putS strK pa () fs, T2, by simp, by omega, h9, hi2.out, h8, hm4, own2, lay2, hP2H.out.chg hc4 (fun b e => by subst e; exact hof2.out), hE3.out, hof2.out, hC3.out.trans hc4 (fun _ _ h => h) (fun b hb e => by have := hfbH.out; omega), Nat.lt_of_lt_of_le hfs3.out hc4.size⟩
          case measure =>
            simp [intOf]
            omega
        · have s1 : (ki == 1) = false := by simpa using hk
          have hkH := Lib.hid hk
          clear hk hm3
          go_wp2
          go_roundw
          case rel =>
            have h9 := hgo.out
            rw [if_neg hkH.out] at h9
            exact ⟨j + 1, fs, T2, by simp, by omega, h9, hi2.out, by omega, hm3H.out, own2, lay2, hP2H.out, hE3.out, hof2.out, hC3.out, hfs3.out⟩
          case measure =>
            simp [intOf]
            omega
    · have t1 : decide ((j : Int) < (len : Int)) = false := by simp; omega
      have hjl : j = len := by omega
      subst hjl
      go_wp2
      go_ret2
      rw [hReH.out, List.drop_eq_nil_of_le (by rw [List.length_map, hlenH.out]; exact Nat.le_refl _), fillsT]
      exact ⟨rfl, own1, lay1, hP1H.out, hE1H.out, hC1H.out⟩
#print axioms fill_any
end Go.Proofs.YtolpcfhfcdkokaaGreatDoor
/-
  Two trees side by side: what is done with one leaves the other.
-/
namespace Go.Proofs.YtolpcfhfcdkokaaGreatDoor
open Go.RowKit Go.Proofs

def Apart (o1 o2 : Nat → Option Role) : Prop := ∀ b, o1 b ≠ none → o2 b = none
theorem Apart.symm {o1 o2 : Nat → Option Role} (h : Apart o1 o2) : Apart o2 o1 := fun b hb => by
  cases e : o1 b with
  | none => rfl
  | some r => exact absurd (h b (by rw [e]; simp)) hb
theorem PTurn.two {own1 own2 : Nat → Option Role} {lay2 : Nat → NA} {p mb q mb2 : Nat} {T' T2 : PT} {w w' : World} (h : PTurn own1 p mb T' w w') (hq : PlainAt w own2 lay2 q mb2 T2) (ha : Apart own1 own2) :
    ∃ own1' lay1', PlainAt w' own1' lay1' p mb T' ∧ Ext w own1 own1' ∧ Chg (fun b => own1 b ≠ none) w w' ∧ PlainAt w' own2 lay2 q mb2 T2 ∧ Apart own1' own2 := by
  obtain ⟨own', lay', h1, h2, h3⟩ := h
  refine ⟨own', lay', h1, h2, h3, hq.chg h3 ha, fun b hb => ?_⟩
  cases e : own' b with
  | none => exact absurd e hb
  | some r =>
    rcases h2.new b r e with e2 | e2
    · exact ha b (by rw [e2]; simp)
    · exact hq.free e2
#print axioms PTurn.two
end Go.Proofs.YtolpcfhfcdkokaaGreatDoor
/-
  A tree that is filled again: the relation to the first one, and what one entry more does to it.
-/
namespace Go.Proofs.YtolpcfhfcdkokaaGreatDoor

def Kn (pre : List Spot) (i : Nat) : Prop := i = 1 ∨ ∃ ns, (ns, i) ∈ pre
theorem Kn.mono {pre : List Spot} {i : Nat} (h : Kn pre i) (x : Spot) : Kn (pre ++ [x]) i := by
  rcases h with h | ⟨ns, h⟩
  · exact .inl h
  · exact .inr ⟨ns, List.mem_append_left _ h⟩
theorem Kn.snoc {pre : List Spot} {x : Spot} {i : Nat} (h : Kn (pre ++ [x]) i) : Kn pre i ∨ i = x.2 := by
  rcases h with h | ⟨ns, h⟩
  · exact .inl (.inl h)
  · rcases List.mem_append.1 h with h | h
    · exact .inl (.inr ⟨ns, h⟩)
    · exact .inr (congrArg Prod.snd (List.mem_singleton.1 h))
/-- What a tree that has been filled so far has of the first one. -/
structure Rel (P Q : PT) (pre : List Spot) (φ : Nat → Nat) : Prop where
  inv : Q.Inv
  sec : Q.sectors = P.sectors
  ino : Q.inodes = P.inodes
  sub : ∀ x ∈ pre, x ∈ P.spots
  one : φ 1 = 1
  wlk : ∀ ns j, Q.walk ns 1 = (j, 0) ↔ (ns = [] ∧ j = 1) ∨ ∃ i, (ns, i) ∈ pre ∧ j = φ i
  inj : ∀ i i', Kn pre i → Kn pre i' → φ i = φ i' → i = i'
  all : ∀ j m, getS j Q.nodes = some m → ∃ i, Kn pre i ∧ j = φ i
  node : ∀ i, Kn pre i → ∃ n m, getS i P.nodes = some n ∧ getS (φ i) Q.nodes = some m ∧ m.dir = n.dir ∧ (i ≠ 1 → m.made = n.made) ∧ m.count ≤ n.count ∧ m.slots.length = m.names.length ∧ ∀ y ∈ m.slots, y ≠ emp
  lnk : ∀ i, Kn pre i → i ≠ 1 → Q.refs (φ i) = (pre.filter fun y => decide (y.2 = i)).length
theorem Rel.pwalk {P Q : PT} {pre : List Spot} {φ : Nat → Nat} (hP : P.Inv) (h : Rel P Q pre φ) {a : List ByteArray} {d : Nat} (hq : a = [] ∧ d = 1 ∨ (a, d) ∈ pre) : P.walk a 1 = (d, 0) ∧ Q.walk a 1 = (φ d, 0) ∧ Kn pre d := by
  rcases hq with ⟨rfl, rfl⟩ | hq
  · exact ⟨rfl, by rw [h.one]; rfl, .inl rfl⟩
  · exact ⟨(spots_walk hP.gr.ok (h.sub _ hq)).2, (h.wlk a _).2 (.inr ⟨d, hq, rfl⟩), .inr ⟨a, hq⟩⟩
theorem Rel.ne1 {P Q : PT} {pre : List Spot} {φ : Nat → Nat} (hP : P.Inv) (h : Rel P Q pre φ) {a : List ByteArray} {i : Nat} (hq : (a, i) ∈ pre) : i ≠ 1 := by
  obtain ⟨h1, h2⟩ := spots_walk hP.gr.ok (h.sub _ hq)
  rcases List.eq_nil_or_concat a with rfl | ⟨b, nm, rfl⟩
  · exact absurd rfl h1
  · rw [List.concat_eq_append] at h2
    obtain ⟨k, _, n, h3, _, h4⟩ := walk_snoc.1 h2
    exact hP.gr.ne1 h3 h4
/-- What a directory has so far, the first one's has. -/
theorem Rel.ents {P Q : PT} {pre : List Spot} {φ : Nat → Nat} (hP : P.Inv) (h : Rel P Q pre φ) {y : Nat} (hy : Kn pre y) {nm : ByteArray} {v : Nat} (hE : Q.E (φ y) nm v) : ∃ i b, P.E y nm i ∧ v = φ i ∧ (b ++ [nm], i) ∈ pre ∧ P.walk b 1 = (y, 0) := by
  have hb : ∃ b, b = [] ∧ y = 1 ∨ (b, y) ∈ pre := by
    rcases hy with rfl | ⟨b, hb⟩
    · exact ⟨[], .inl ⟨rfl, rfl⟩⟩
    · exact ⟨b, .inr hb⟩
  obtain ⟨b, hb⟩ := hb
  obtain ⟨h1, h2, _⟩ := h.pwalk hP hb
  have h3 : Q.walk (b ++ [nm]) 1 = (v, 0) := walk_snoc.2 ⟨_, h2, hE⟩
  rcases (h.wlk _ _).1 h3 with ⟨e, _⟩ | ⟨i, hi, e⟩
  · simp at e
  · have h4 := (spots_walk hP.gr.ok (h.sub _ hi)).2
    obtain ⟨k, h5, h6⟩ := walk_snoc.1 h4
    have e2 : y = k := congrArg Prod.fst (h1.symm.trans h5)
    exact ⟨i, b, e2 ▸ h6, e, hi, h1⟩
/-- Room for what the first one has. -/
theorem Rel.room {P Q : PT} {pre : List Spot} {φ : Nat → Nat} (hP : P.Inv) (h : Rel P Q pre φ) {i : Nat} {n m : PN} (_hi : Kn pre i) (hn : getS i P.nodes = some n) (hm : getS (φ i) Q.nodes = some m) {c : Nat} (hc : c ≤ n.count) : c + Q.used + Q.inodes + 1 ≤ Q.sectors + m.count := by
  have h1 := PT.used_del h.inv.gr.ok.ris hm
  have h2 := PT.used_del hP.gr.ok.ris hn
  have h3 := hP.room
  have h4 : (Q.del (φ i)).used ≤ (P.del i).used := by
    refine sum_inj (fun p : Nat × PN => p.2.count) PN.count (fun j y => Kn pre y ∧ j = φ y) (delS (φ i) Q.nodes) (delS i P.nodes) (List.Pairwise.filter _ h.inv.gr.ok.ris.nd) (List.Pairwise.filter _ hP.gr.ok.ris.nd) (fun p hp => ?_) (fun p hp q hq y h5 h6 => by rw [h5.2, h6.2])
    obtain ⟨hp1, hp2⟩ := mem_delS.1 hp
    have hg := getS_of_mem h.inv.gr.ok.ris.nd hp1
    obtain ⟨y, hy, e⟩ := h.all _ _ hg
    obtain ⟨n', m', a1, a2, _, _, a5, _⟩ := h.node y hy
    have hyi : y ≠ i := fun e' => hp2 (by rw [e, e'])
    refine ⟨y, n', ⟨hy, e⟩, ?_, ?_⟩
    · rw [getS_del_other hyi]; exact a1
    · rw [e, a2] at hg
      rw [← Option.some.inj hg]
      exact a5
  have h5 := h.sec
  have h6 := h.ino
  omega
theorem Rel.fewer {P Q : PT} {pre : List Spot} {φ : Nat → Nat} (hP : P.Inv) (h : Rel P Q pre φ) {i : Nat} {n : PN} (hi : ¬ Kn pre i) (hn : getS i P.nodes = some n) : Q.nodes.length < P.nodes.length := by
  have h4 : (Q.nodes.map fun _ => 1).sum ≤ sumV (fun _ => 1) (delS i P.nodes) := by
    refine sum_inj (fun _ : Nat × PN => 1) (fun _ => 1) (fun j y => Kn pre y ∧ j = φ y) Q.nodes (delS i P.nodes) h.inv.gr.ok.ris.nd (List.Pairwise.filter _ hP.gr.ok.ris.nd) (fun p hp => ?_) (fun p hp q hq y h5 h6 => by rw [h5.2, h6.2])
    have hg := getS_of_mem h.inv.gr.ok.ris.nd hp
    obtain ⟨y, hy, e⟩ := h.all _ _ hg
    obtain ⟨n', m', a1, _⟩ := h.node y hy
    have hyi : y ≠ i := fun e' => hi (e' ▸ hy)
    exact ⟨y, n', ⟨hy, e⟩, by rw [getS_del_other hyi]; exact a1, Nat.le_refl _⟩
  have h5 := sumV_del (fun _ : PN => 1) i hP.gr.ok.ris.nd
  rw [atV_some hn, sumV_one P.nodes] at h5
  have h6 : (Q.nodes.map fun _ => 1).sum = Q.nodes.length := sumV_one Q.nodes
  omega
theorem nodes_le {P : PT} (h : P.Ok) : P.nodes.length ≤ P.inodes := by
  have e : (P.nodes.map (·.1)).length = P.nodes.length := List.length_map _
  rw [← e]
  refine Nat.le_trans (length_le_of_subset (l2 := (List.range P.inodes).map (· + 1)) (ris_keys h.ris) fun a ha => ?_) (by simp)
  obtain ⟨p, hp, rfl⟩ := List.mem_map.1 ha
  have h1 := (h.node p hp).2
  exact List.mem_map.2 ⟨p.1 - 1, List.mem_range.2 (by omega), by omega⟩
theorem freeFrom_zero (T : PT) : ∀ (f i : Nat), 1 ≤ i → T.inodes < i + f → freeFrom T f i = 0 → ∀ k, i ≤ k → k ≤ T.inodes → (getS k T.nodes).isSome = true
  | 0, i, h1, h2, _, k, h4, h5 => by omega
  | f + 1, i, h1, h2, h3, k, h4, h5 => by
    rw [freeFrom] at h3
    rw [if_neg (by omega)] at h3
    split at h3
    · rename_i hs
      by_cases e : i = k
      · rw [← e]; exact hs
      · exact freeFrom_zero T f (i + 1) (by omega) (by omega) h3 k (by omega) h5
    · omega
theorem free_some {T : PT} (_hT : T.Ok) (h : T.nodes.length < T.inodes) (h1 : ∃ n, getS 1 T.nodes = some n) : T.free ≠ 0 := fun h0 => by
  have h2 := freeFrom_zero T (T.inodes + 1) 2 (by omega) (by omega) h0
  have h3 : ((List.range T.inodes).map (· + 1)).length ≤ (T.nodes.map (·.1)).length := by
    refine length_le_of_subset ?_ fun a ha => ?_
    · rw [List.Nodup, List.pairwise_map]
      exact List.nodup_range.imp fun h e => h (by omega)
    · obtain ⟨k, hk, rfl⟩ := List.mem_map.1 ha
      rw [mem_keys]
      rw [List.mem_range] at hk
      by_cases e : k = 0
      · subst e
        obtain ⟨n, hn⟩ := h1
        simp [hn]
      · exact h2 _ (by omega) (by omega)
  simp at h3
  omega
/-- A place for one entry more. -/
theorem Rel.place {P Q : PT} {pre : List Spot} {φ : Nat → Nat} (hP : P.Inv) (h : Rel P Q pre φ) {d i : Nat} {nm : ByteArray} {nD mD : PN} (hd : Kn pre d) (hnD : getS d P.nodes = some nD) (hmD : getS (φ d) Q.nodes = some mD) (hE : P.E d nm i) (h0 : getS nm mD.names = none) :
    Q.place mD = (mD.slots.length, 0) ∧ mD.slots.length + 1 ≤ nD.slots.length := by
  obtain ⟨n', m', a1, a2, a3, _, _, a6, a7⟩ := h.node d hd
  obtain rfl : n' = nD := Option.some.inj (a1.symm.trans hnD)
  obtain rfl : m' = mD := Option.some.inj (a2.symm.trans hmD)
  obtain ⟨x, b1, b2, b3⟩ := hE
  obtain rfl : x = n' := Option.some.inj (b1.symm.trans hnD)
  have hPn := (hP.gr.ok.get hnD).1
  have hQn := (h.inv.gr.ok.get hmD).1
  have hsub : (nm :: m'.names.map (·.1)).length ≤ (x.names.map (·.1)).length := by
    refine length_le_of_subset (List.nodup_cons.2 ⟨fun hm => ?_, ris_keys hQn.nris⟩) fun y hy => ?_
    · rw [mem_keys, h0] at hm; cases hm
    · rw [mem_keys]
      rcases List.mem_cons.1 hy with rfl | hy
      · rw [b3]; rfl
      · rw [mem_keys] at hy
        cases hv : getS y m'.names with
        | none => rw [hv] at hy; cases hy
        | some v =>
          obtain ⟨i', b, ⟨n2, c1, _, c3⟩, _⟩ := h.ents hP hd (nm := y) (v := v) ⟨m', hmD, by rw [a3, b2], hv⟩
          obtain rfl : n2 = x := Option.some.inj (c1.symm.trans hnD)
          rw [c3]; rfl
  simp only [List.length_cons, List.length_map] at hsub
  have hnl := hPn.nlen
  have hsl := hPn.slots
  refine ⟨?_, by omega⟩
  have hc : cntK (List.range (m'.slots.length + 1)) ≤ x.count := by
    rw [count_dir hPn b2]
    refine cntK_mono List.nodup_range fun k hk => ?_
    rw [List.mem_range] at hk ⊢
    omega
  have hroom := h.room hP hd hnD hmD hc
  unfold PT.place
  rw [firstIdx_none.2 a7]
  simp only
  rw [if_neg (by omega), if_pos]
  unfold PT.room
  simp only [decide_eq_true_eq]
  omega
theorem count_set {n : PN} (hd : n.data = []) (nm : ByteArray) (j : Nat) : (n.set n.slots.length nm j).count = cntK (List.range (n.slots.length + 1)) := by
  unfold PN.count PN.keys PN.set
  simp [hd]
#print axioms Rel.place
end Go.Proofs.YtolpcfhfcdkokaaGreatDoor
/-
  How many spots a tree has.
-/
namespace Go.Proofs.YtolpcfhfcdkokaaGreatDoor

def edges (P : PT) : List (Nat × ByteArray) := P.nodes.flatMap fun p => p.2.names.map fun q => (p.1, q.1)
theorem mem_edges {P : PT} {i d : Nat} {nm : ByteArray} (h : P.E d nm i) : (d, nm) ∈ edges P := by
  obtain ⟨n, h1, _, h3⟩ := h
  unfold edges
  exact List.mem_flatMap.2 ⟨(d, n), mem_of_getS h1, List.mem_map.2 ⟨(nm, i), mem_of_getS h3, rfl⟩⟩
theorem edges_len {P : PT} (h : P.Ok) : (edges P).length ≤ 512 * 1068 := by
  unfold edges
  rw [List.length_flatMap]
  have h1 : ((P.nodes.map fun p => (p.2.names.map fun q => (p.1, q.1)).length)).sum ≤ (P.nodes.map fun p => (p.2.names.map fun q => (p.1, q.1)).length).length * 1068 := sum_le fun x hx => by
    obtain ⟨p, hp, rfl⟩ := List.mem_map.1 hx
    have h2 := (h.node p hp).1
    have h3 := h2.nlen
    have h4 := h2.slots
    rw [List.length_map]
    omega
  rw [List.length_map] at h1
  have h2 := h.len
  refine Nat.le_trans h1 (Nat.mul_le_mul_right _ h2)
theorem spots_edges {P : PT} (h : P.Inv) : P.spots.length ≤ (edges P).length := by
  have key : ∀ y ∈ P.spots, ∃ a nm d, y.1 = a ++ [nm] ∧ P.walk a 1 = (d, 0) ∧ P.E d nm y.2 := fun y hy => by
    obtain ⟨h1, h2⟩ := spots_walk h.gr.ok hy
    rcases List.eq_nil_or_concat y.1 with e | ⟨a, nm, e⟩
    · exact absurd e h1
    rw [List.concat_eq_append] at e
    rw [e] at h2
    obtain ⟨d, h3, h4⟩ := walk_snoc.1 h2
    exact ⟨a, nm, d, e, h3, h4⟩
  have hl : (P.spots.map fun y => ((P.walk y.1.dropLast 1).1, lastN y.1)).length = P.spots.length := List.length_map _
  rw [← hl]
  refine length_le_of_subset ?_ fun z hz => ?_
  · rw [List.Nodup, List.pairwise_map]
    refine (spots_sorted h.gr.ok).imp_of_mem fun {y z} hy hz hp e => ?_
    obtain ⟨a, nm, d, e1, h3, h4⟩ := key y hy
    obtain ⟨b, nm', d', e2, h3', h4'⟩ := key z hz
    rw [e1, e2] at e hp
    have e3 : d = d' := by
      have := congrArg Prod.fst e
      simp only [List.dropLast_concat, h3, h3'] at this
      exact this
    have e4 : nm = nm' := by
      have := congrArg Prod.snd e
      simpa [lastN] using this
    subst e3; subst e4
    rw [dir_path h a b h3 h3' (E_dir h4)] at hp
    exact plt_irrefl _ hp
  · obtain ⟨y, hy, rfl⟩ := List.mem_map.1 hz
    obtain ⟨a, nm, d, e1, h3, h4⟩ := key y hy
    rw [e1]
    simp only [List.dropLast_concat, h3, lastN, List.getLastD_concat]
    exact mem_edges h4
theorem spots_le {P : PT} (h : P.Inv) : P.spots.length ≤ 1000000 := by
  have h1 := spots_edges h
  have h2 := edges_len h.gr.ok
  omega
#print axioms spots_le
end Go.Proofs.YtolpcfhfcdkokaaGreatDoor
/-
  A tree has no more spots than sectors.
-/
namespace Go.Proofs.YtolpcfhfcdkokaaGreatDoor

theorem sum_le_sum {α : Type} (f g : α → Nat) : ∀ l : List α, (∀ x ∈ l, f x ≤ g x) → (l.map f).sum ≤ (l.map g).sum
  | [], _ => Nat.le_refl _
  | x :: r, h => by
    have h1 := h x List.mem_cons_self
    have h2 := sum_le_sum f g r fun y hy => h y (List.mem_cons_of_mem _ hy)
    simp only [List.map_cons, List.sum_cons]
    omega
theorem spots_few {P : PT} (h : P.Inv) : P.spots.length ≤ 4096 := by
  have h1 := spots_edges h
  have h2 : (edges P).length ≤ P.used := by
    unfold edges PT.used
    rw [List.length_flatMap]
    refine sum_le_sum _ _ _ fun p hp => ?_
    have hok := (h.gr.ok.node p hp).1
    have h3 := hok.nlen
    have h4 : p.2.keys.length ≤ p.2.count := by unfold PN.count cntK; omega
    have h5 : p.2.keys.length = p.2.data.length + p.2.slots.length := by simp [PN.keys]
    simp only [List.length_map]
    omega
  have h6 := h.room
  have h7 := h.gr.ok.sec
  omega
#print axioms spots_few
end Go.Proofs.YtolpcfhfcdkokaaGreatDoor
