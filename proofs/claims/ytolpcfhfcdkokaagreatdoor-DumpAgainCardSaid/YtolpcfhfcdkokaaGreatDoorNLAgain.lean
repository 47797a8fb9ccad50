/-
  DumpAgain's walk.
-/
import Derived.Test.YtolpcfhfcdkokaaGreatDoorM48

namespace Go.Proofs.YtolpcfhfcdkokaaGreatDoor
open Go.RowKit Go.Proofs

set_option maxRecDepth 100000 in
set_option maxHeartbeats 6400000 in
theorem again_any (s i m0 : Int) (A : Option Addr) (c : Nat) (l : List Os) (w : World) (hN : ScrAt w w.heap.size A l) (hln : l.length ≤ 281474976710656)
    (hbig : ∀ x ∈ l, x.o.path.size ≤ 140737488351232 ∧ x.o.dst.size ≤ 140737488351232 ∧ x.o.data.length ≤ 140737488351232) (hwf : ∀ x ∈ l, osWf x) (hm : w.cell? ⟨0, 0, none⟩ = some (.int .i64 m0))
    (hs : -9223372036854775808 ≤ s ∧ s ≤ 9223372036854775807) (hi : -9223372036854775808 ≤ i ∧ i ≤ 9223372036854775807) :
    Calls Tryz.prog 6 #[.int .i64 s, .int .i64 i, .slice A l.length c] w fun e w' => e = .returned (.bool true) ∧ Below w.heap.size w w' := by
  have hlt := fun (W : World) (hW : ScrAt W W.heap.size A l) => light_any A c l W hW hln hbig
  have hltH := Lib.hid hlt
  obtain ⟨len, hlen⟩ : ∃ len, l.length = len := ⟨_, rfl⟩
  have hlenH := Lib.hid hlen
  rw [hlen] at hln ⊢
  have hwfH := Lib.hid hwf
  have hmH := Lib.hid hm
  have hNH := Lib.hid hN
  clear hlt hlen hwf hm hN hbig
  go_enter Tryz.func6, Tryz.ntmps6
  go_upto_region 2 with (go_at_call 7; refine (awake_any _).mono ?_; rintro e w2 ⟨rfl, hb2⟩)
  have hb2H := Lib.hid hb2
  have hl2 := hltH.out w2 ((hNH.out.below hb2H.out).more hb2H.out.size)
  rw [hlenH.out] at hl2
  clear hb2
  go_upto_region 3 with (go_at_call 8; refine hl2.mono ?_; rintro e w3 ⟨rfl, nq, rfl⟩)
  have hb3 : Below w.heap.size w (w2.drewN nq) := below_drewN' hb2H.out nq
  generalize w2.drewN nq = w3 at *
  have hb3H := Lib.hid hb3
  clear hl2 hb3 hb2H
  cases hlb : lightB l with
  | false =>
    clear hlb
    go_wp2
    go_ret
    exact ⟨rfl, hb3H.out⟩
  | true =>
  obtain ⟨htot, hlen4⟩ := light_parts hlb
  have hmostH := Lib.hid fun (x : Os) (hx : x ∈ l) => light_one htot hx
  have hlen4H := Lib.hid hlen4
  clear hlb htot hlen4
  have hsz := sizes_any s i w3 hs.1 hs.2 hi.1 hi.2
  obtain ⟨z1, z2, z3⟩ := sz_ok s i
  obtain ⟨n, hn⟩ : ∃ n, szN s = n := ⟨_, rfl⟩
  obtain ⟨m, hmm⟩ : ∃ m, szM s i = m := ⟨_, rfl⟩
  rw [hn] at z1 z3
  rw [hmm] at z2 z3
  rw [hn, hmm] at hsz
  clear hn hmm
  have hinv := Lib.hid (inv_new z1 z2 z3)
  go_upto_region 6 with (go_at_call 22; refine hsz.mono ?_; rintro e w4 ⟨rfl, rfl⟩)
  clear hsz
  have hnw := pnew_any n m w3 z1 z2 z3
  unfold NewP ptrV at hnw
  go_upto_region 7 with (go_at_call 23; refine hnw.mono ?_; rintro e w4 ⟨o1, a1, p1, m1, rfl, hP1, hf1, hb4⟩)
  clear hnw
  have hnw := pnew_any n m w4 z1 z2 z3
  unfold NewP ptrV at hnw
  go_upto_region 8 with (go_at_call 23; refine hnw.mono ?_; rintro e w5 ⟨o2, a2, p2, m2, rfl, hP2, hf2, hb5⟩)
  clear hnw
  have hT0 := Lib.hid (two_new (w0 := w) hP1 hf1 hb4 hP2 hf2 hb5 hb3H.out)
  clear hP1 hf1 hb4 hP2 hf2 hb5 hs hi z1 z2 z3
  go_wp2_with (fail)
  go_loopw [15] (fun v wr => ∃ j : Nat, j ≤ len ∧ v = .int .i64 j ∧ Both w (fun b => b < w.heap.size) p1 m1 ((PT.new n m).after l j) p2 m2 (PT.new n m) wr) (fun v _ => len - (intOf v).toNat)
  case atStart => exact ⟨0, Nat.zero_le _, rfl, hT0.out⟩
  case round =>
    obtain ⟨j, hj, rfl, hB⟩ := hrel
    have hBH := Lib.hid hB
    clear hB
    by_cases hjk : j < len
    · have t1 : decide ((j : Int) < (len : Int)) = true := by simpa using hjk
      have hjl : j < l.length := by rw [hlenH.out]; exact hjk
      have hNr := (hNH.out.below hBH.out.below).more hBH.out.below.size
      obtain ⟨b, off, rfl, hbB, hc⟩ := hNr.at_ (by omega)
      have hci := hc j hjl
      have hxm := List.getElem_mem hjl
      have hds := Lib.hid (hNr.data _ hxm)
      have hmost := hmostH.out _ hxm
      have hwfj := hwfH.out _ hxm
      have hnext := Lib.hid (after_succ (PT.new n m) l j hjl)
      clear hNr hc hxm
      generalize l[j] = x at *
      obtain ⟨⟨ok, pa, ds, oo, ol, da, om, op⟩, dA, dc⟩ := x
      obtain ⟨c0, c1, c2, c3, c4, c5, c6, c7⟩ := hci
      simp only at c0 c1 c2 c3 c4 c5 c6 c7 hds hmost hwfj hnext
      have htw := twin_any ⟨ok, pa, ds, oo, ol, da, om, op⟩ dA dc wr hds.out (by have := hmost.1; simp only; omega)
      have hdoH := Lib.hid fun (W : World) (A' : Option Addr) (c' : Nat) (hW : Below wr.heap.size wr W) (hs' : Sees W W.heap.size 1 A' da.length (bvs da)) (hc' : da.length ≤ c') =>
        do_two (m0 := m0) ((hBH.out.fresh hW).less (K' := fun b => b < w.heap.size) (fun b h => .inl h) (fun b h => h)) (inv_after hinv.out l j) hmH.out ⟨ok, pa, ds, oo, ol, da, om, op⟩ A' c' ⟨hs', hc', by have := hmost.1; simp only; omega, hwfj.1, hwfj.2, by have := hmost.2.1; simp only; omega, by have := hmost.2.2; simp only; omega⟩
      unfold TwinP opV opC at htw
      unfold opV opC at hdoH
      simp only at htw hdoH
      clear hmost hwfj hjl
      go_wp2_with (first
        | (go_at_call 25; refine htw.mono ?_; rintro e w6 ⟨⟨A6, c6, rfl, hs6, hc6⟩, hb6⟩; have hdo := hdoH.out w6 A6 c6 hb6 hs6 hc6)
        | (go_at_call 24; refine hdo.mono ?_; rintro e w7 ⟨⟨v7, rfl⟩, hB7, hC7⟩))
      go_roundw
      case rel => exact ⟨j + 1, by omega, by go_num, by rw [hnext.out]; exact hB7⟩
      case measure => simp [intOf]; omega
    · obtain rfl : j = len := by omega
      have t1 : decide ((j : Int) < (j : Int)) = false := by simp
      have hBf : Hid (Both w (fun b => b < w.heap.size) p1 m1 ((PT.new n m).runs (l.map (·.o))) p2 m2 (PT.new n m) wr) := Lib.hid (by rw [← after_all (PT.new n m) l j hlenH.out.symm]; exact hBH.out)
      have hIP := Lib.hid (inv_runs (l.map (·.o)) hinv.out)
      have hSz := Lib.hid (sz_runs (l.map (·.o)) (PT.new n m))
      clear hBH
      generalize (PT.new n m).runs (l.map (·.o)) = P at *
      go_upto_region 14 with (fail)
      have hdm := dump_two (m0 := m0) hBf.out hIP.out hmH.out
      unfold DumpTwo ifV at hdm
      obtain ⟨cd, hcd⟩ : ∃ cd, P.dump.2 = cd := ⟨_, rfl⟩
      rw [hcd] at hdm
      have hcdH := Lib.hid hcd
      clear hcd
      go_upto_region 15 with (go_at_call 10; refine hdm.mono ?_; rintro e w8 ⟨v8, l1, rfl, hO8, htn8, hB8, hb8⟩)
      obtain ⟨A8, c8, rfl, hN8⟩ := hO8.nodes
      have hO8H := Lib.hid hO8
      have htn8H := Lib.hid htn8
      have hB8H := Lib.hid hB8
      have hN8H := Lib.hid hN8
      have hb8H := Lib.hid hb8
      clear hdm hO8 htn8 hB8 hN8 hb8
      by_cases hc0 : cd = 0
      case neg =>
        have q1 : ((cd : Int) != 0) = true := by simp; omega
        have hl0 : l1 = [] := by
          have h1 := dump_err (T := P) (by rw [hcdH.out]; exact hc0)
          rw [h1] at htn8H
          exact List.map_eq_nil_iff.1 htn8H.out
        subst hl0
        have hend : Hid (Below w.heap.size w w8) := Lib.hid hB8H.out.below
        clear hc0
        simp only [List.length_nil]
        go_wp2
        go_ret
        exact ⟨rfl, hend.out⟩
      subst hc0
      have q0 : ((0 : Int) != 0) = false := rfl
      have hokN := Lib.hid (dump_ndOk hIP.out hcdH.out htn8H.out)
      have hdt := Lib.hid (dump_tot hIP.out hcdH.out l1 htn8H.out)
      have henc := Lib.hid (dump_enc hIP.out hcdH.out htn8H.out)
      obtain ⟨ln, hln1⟩ : ∃ ln, l1.length = ln := ⟨_, rfl⟩
      have hln1H := Lib.hid hln1
      have hby := bytes_ok A8 c8 l1 w8 hN8H.out henc.out (by have := hdt.out.1; omega) hokN.out
      rw [hln1] at hby ⊢
      clear hln1
      go_upto_region 18 with (go_at_call 28; refine hby.mono ?_; rintro e w9 ⟨A9, c9, rfl, hc9, hs9, hb9⟩)
      have hrd := read_ok A9 c9 l1 w9 hs9 hc9 henc.out hokN.out
      have hb9H := Lib.hid hb9
      generalize (encAll l1).length = en at *
      clear hby hc9 hs9 hb9
      go_upto_region 19 with (go_at_call 29; refine hrd.mono ?_; rintro e w10 ⟨l2, v10, rfl, hO10, htn10, hb10⟩)
      obtain ⟨A10, c10, rfl, hc10, hN10, hdc10, hrow10, hdat10⟩ := hO10.parts
      have hO10H := Lib.hid hO10
      have htn10H := Lib.hid htn10
      have hb10H := Lib.hid hb10
      have hll : l2.length = ln := by
        have := congrArg List.length htn10
        rw [List.length_map, List.length_map, hln1H.out] at this
        exact this
      have hllH := Lib.hid hll
      have hc10H := Lib.hid hc10
      have hN10H := Lib.hid hN10
      have hdc10H := Lib.hid hdc10
      have hrow10H := Lib.hid hrow10
      have hdat10H := Lib.hid hdat10
      have hb810 : Hid (Below w8.heap.size w8 w10) := Lib.hid (hb9H.out.trans (hb10.mono hb9H.out.size))
      rw [hll]
      clear hrd hO10 htn10 hb10 hll hc10 hN10 hdc10 hrow10 hdat10
      have hct := counted_any A8 c8 l1 w10 ((hN8H.out.below hb810.out).more hb810.out.size) (by have := hdt.out.1; omega) (fun x hx => by have := (hokN.out x hx).2.2.2.1; omega) (counted_nd hIP.out hcdH.out l1 htn8H.out)
      rw [hln1H.out] at hct
      go_upto_region 20 with (go_at_call 30; refine hct.mono ?_; rintro e w11 ⟨rfl, hb11⟩)
      have hb811 : Hid (Below w8.heap.size w8 w11) := Lib.hid (hb810.out.trans (hb11.mono hb810.out.size))
      have hB11 := Lib.hid ((hB8H.out.fresh hb811.out))
      clear hct
      have hPq : Hid (PT.new n m = PT.new P.sectors P.inodes) := Lib.hid (by rw [hSz.out.1, hSz.out.2]; rfl)
      have hIq := Lib.hid (show (PT.new P.sectors P.inodes).Inv by rw [← hPq.out]; exact hinv.out)
      obtain ⟨Q, hQf, hQi, hQd, hQu, hQn, hQs, hQo⟩ := again_law hIP.out hIq.out hcdH.out
      have hfill := fill_two (m0 := m0) hB11.out.swap hinv.out hmH.out A10 c10 l2 ((hN10H.out.below hb11).more hb11.size)
        (fun b off e hn => .inr (newIn hb810.out hb11 (hO10H.out.blk (hrow10H.out b off e hn)) hb9H.out.size)) (fun x hx b off e hn => .inr (newIn hb810.out hb11 (hO10H.out.blk (hdat10H.out x hx b off e hn)) hb9H.out.size))
        (by rw [hllH.out, ← hln1H.out]; have := hdt.out.1; omega) hc10H.out (fun x hx => by
          obtain ⟨y, hy, e⟩ := tn_mem htn10H.out hx
          have h1 := hokN.out y hy
          simp only [Nd.tn, Tn.mk.injEq] at e
          obtain ⟨e1, _, _, e4, e5⟩ := e
          refine ⟨?_, ?_, hdc10H.out x hx, ?_⟩
          · rw [e1]; have := h1.2.2.2.1; omega
          · rw [e4]; have := h1.2.2.2.2.1; omega
          · rw [e5]; have := h1.2.2.2.2.2; omega)
      rw [htn10H.out, htn8H.out, hPq.out, hQf, hllH.out] at hfill
      have hpl : P.dump.1.length = ln := by rw [← htn8H.out, List.length_map]; exact hln1H.out
      rw [hpl] at hfill
      unfold FillTwo ifV at hfill
      have hQH := Lib.hid (show Q.Inv ∧ Q.dump = (P.dump.1, 0) ∧ Q.used ≤ P.used ∧ Q.nodes.length = P.nodes.length ∧ Q.sectors = P.sectors ∧ Q.inodes = P.inodes from ⟨hQi, hQd, hQu, hQn, hQs, hQo⟩)
      have hb11H := Lib.hid hb11
      clear hQf hQi hQd hQu hQn hQs hQo hpl hb11
      go_upto_region 23 with (go_at_call 18; refine hfill.mono ?_; rintro e w14 ⟨rfl, hB14, hC14⟩)
      have hO11 := hO8H.out.fresh hb811.out
      have hO14 := Lib.hid (hO11.keep hC14 (fun b hb hn => hn (.inl (.inr (hO8H.out.blk hb)))))
      have hdm2 := dump_two (m0 := m0) hB14 hQH.out.1 hmH.out
      unfold DumpTwo ifV at hdm2
      rw [hQH.out.2.1] at hdm2
      simp only at hdm2
      clear hfill hO11 hC14
      go_upto_region 24 with (go_at_call 10; refine hdm2.mono ?_; rintro e w15 ⟨v15, l3, rfl, hO15, htn15, hB15, hb15⟩)
      obtain ⟨A15, c15, rfl, hN15⟩ := hO15.nodes
      have hN8' : NodesAt w15 w15.heap.size A8 l1 := by
        obtain ⟨A', c', e, h⟩ := (hO14.out.fresh hb15).nodes
        injection e with e1 _ _
        rw [e1]; exact h
      have htt : l3.map Nd.tn = l1.map Nd.tn := by rw [htn15, htn8H.out]
      have hll3 : l3.length = ln := by
        have := congrArg List.length htt
        rw [List.length_map, List.length_map, hln1H.out] at this
        exact this
      have hsm := same_true A15 A8 c15 c8 l3 l1 w15 hN15 hN8' (by rw [hll3]; exact hln1H.out) (by rw [hll3, ← hln1H.out]; have := hdt.out.1; omega) (fun i h1 h2 => tn_same htt i h1 h2)
      rw [hll3] at hsm ⊢
      have hrq := Lib.hid (room_two hB15 hQH.out.1)
      have hrp := Lib.hid (room_two hB15.swap hIP.out)
      have hend := Lib.hid hB15.below
      clear hdm2 hO15 htn15 hB15 hb15 hN15 hN8' htt hll3 hB14
      go_upto_region 25 with (go_at_call 12; refine hsm.mono ?_; rintro e w16 ⟨rfl, hb16⟩)
      have hb16H := Lib.hid hb16
      obtain ⟨bq, hbq⟩ : ∃ bq : Int, (Q.sectors : Int) - 1 - Q.inodes - Q.used = bq := ⟨_, rfl⟩
      obtain ⟨bp, hbp⟩ : ∃ bp : Int, (P.sectors : Int) - 1 - P.inodes - P.used = bp := ⟨_, rfl⟩
      obtain ⟨bi, hbi⟩ : ∃ bi : Int, (P.inodes : Int) - P.nodes.length = bi := ⟨_, rfl⟩
      have hle : decide (bp ≤ bq) = true := by
        obtain ⟨_, _, h3, h4, h5, h6⟩ := hQH.out
        rw [decide_eq_true_iff, ← hbq, ← hbp, h5, h6]
        omega
      have hbi2 : (Q.inodes : Int) - Q.nodes.length = bi := by
        obtain ⟨_, _, h3, h4, h5, h6⟩ := hQH.out
        rw [h4, h6]; exact hbi
      have fld0 : ∀ (a b : Int) (W : World), (Instr.field 40 (.agg #[.int .i64 a, .int .i64 0, .int .i64 b]) 0).run Tryz.prog W = .ok (.int .i64 a) W := fun _ _ _ => by kernel_rfl
      have fld2 : ∀ (a b : Int) (W : World), (Instr.field 40 (.agg #[.int .i64 a, .int .i64 0, .int .i64 b]) 2).run Tryz.prog W = .ok (.int .i64 b) W := fun _ _ _ => by kernel_rfl
      unfold roomV at hrq hrp
      rw [hbq, hbi2] at hrq
      rw [hbp, hbi] at hrp
      have hr1 := hrq.out w16 hb16
      clear hbq hbp hbi hbi2 hb16 hsm
      go_wp2_with (first
        | (go_at_call 14; (with_reducible refine hr1.mono ?_); rintro e w17 ⟨rfl, hb17⟩; have hb17H := Lib.hid (hb16H.out.trans (hb17.mono hb16H.out.size)); have hr2 := hrp.out w17 hb17H.out; clear hb17)
        | (go_at_call 14; (with_reducible refine hr2.mono ?_); rintro e w18 ⟨rfl, hb18⟩; have hb18H := Lib.hid (hb17H.out.trans (hb18.mono hb17H.out.size)); have hr3 := hrq.out w18 hb18H.out; clear hb18)
        | (go_at_call 14; (with_reducible refine hr3.mono ?_); rintro e w19 ⟨rfl, hb19⟩; have hb19H := Lib.hid (hb18H.out.trans (hb19.mono hb18H.out.size)); have hr4 := hrp.out w19 hb19H.out; clear hb19)
        | (go_at_call 14; (with_reducible refine hr4.mono ?_); rintro e w20 ⟨rfl, hb20⟩; have hb20H := Lib.hid (hb19H.out.trans (hb20.mono hb19H.out.size)); clear hb20))
      go_ret
      exact ⟨rfl, hend.out.trans (hb20H.out.mono hend.out.size)⟩
#print axioms again_any
end Go.Proofs.YtolpcfhfcdkokaaGreatDoor
