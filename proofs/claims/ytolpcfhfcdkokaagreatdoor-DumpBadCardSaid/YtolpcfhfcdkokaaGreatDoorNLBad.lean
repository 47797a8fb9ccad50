/-
  DumpBad's walk.
-/
import Derived.Deep.CutRange
import Derived.Deep.CutBlock
import Derived.Lib.SlBytesConst
import Derived.Test.YtolpcfhfcdkokaaGreatDoorM45
import Derived.Test.YtolpcfhfcdkokaaGreatDoorM46

namespace Go.Proofs.YtolpcfhfcdkokaaGreatDoor
open Go.RowKit Go.Proofs

/-- Is a node alike among the first k? -/
def thK (l2 : List Nd) (x : Nd) (k : Nat) : Bool := (l2.take k).any fun y => decide (y.path = x.path ∧ y.kind = x.kind ∧ y.made = x.made)
theorem thK_step {l2 : List Nd} (x : Nd) {k : Nat} (h : k < l2.length) : thK l2 x (k + 1) = (thK l2 x k || decide (l2[k].path = x.path ∧ l2[k].kind = x.kind ∧ l2[k].made = x.made)) := any_step h _
theorem thK_all {l2 : List Nd} {x : Nd} {i a : Nat} (h : i < l2.length) (hia : i < a) (e : l2[i].tn = x.tn) : thK l2 x a = true := by
  unfold thK
  rw [List.any_eq_true]
  refine ⟨l2[i], List.mem_take_iff_getElem.2 ⟨i, by omega, rfl⟩, ?_⟩
  simp only [Nd.tn, Tn.mk.injEq] at e
  simp [e]
set_option maxRecDepth 100000 in
set_option maxHeartbeats 6400000 in
theorem bad_any (s i at_ how m0 : Int) (A A2 : Option Addr) (c n2 c2 : Nat) (l : List Os) (w : World) (hN : ScrAt w w.heap.size A l) (hln : l.length ≤ 281474976710656)
    (hbig : ∀ x ∈ l, x.o.path.size ≤ 140737488351232 ∧ x.o.dst.size ≤ 140737488351232 ∧ x.o.data.length ≤ 140737488351232) (hwf : ∀ x ∈ l, osWf x) (hm : w.cell? ⟨0, 0, none⟩ = some (.int .i64 m0))
    (hs : -9223372036854775808 ≤ s ∧ s ≤ 9223372036854775807) (hi : -9223372036854775808 ≤ i ∧ i ≤ 9223372036854775807)
    (hat : -9223372036854775808 ≤ at_ ∧ at_ ≤ 9223372036854775807) (hhow : -9223372036854775808 ≤ how ∧ how ≤ 9223372036854775807) :
    Calls Tryz.prog 5 #[.agg #[.int .i64 s, .int .i64 i, .slice A l.length c, .slice A2 n2 c2], .int .i64 at_, .int .i64 how] w fun e w' => e = .returned (.bool true) ∧ Below w.heap.size w w' := by
  have hlt := fun (W : World) (hW : ScrAt W W.heap.size A l) => light_any A c l W hW hln hbig
  have hltH := Lib.hid hlt
  obtain ⟨len, hlen⟩ : ∃ len, l.length = len := ⟨_, rfl⟩
  have hlenH := Lib.hid hlen
  rw [hlen] at hln ⊢
  have hwfH := Lib.hid hwf
  have hmH := Lib.hid hm
  have hNH := Lib.hid hN
  have hb0 : Below w.heap.size w (w.alloc (.cells #[.int .i64 s, .int .i64 i, .slice A len c, .slice A2 n2 c2] 45)) := (Below.refl _ _).alloc (Nat.le_refl _) _
  have hk0 : Blk (w.alloc (.cells #[.int .i64 s, .int .i64 i, .slice A len c, .slice A2 n2 c2] 45)) w.heap.size 45 [.int .i64 s, .int .i64 i, .slice A len c, .slice A2 n2 c2] := Blk.new w _ _
  clear hlt hlen hwf hm hN hbig
  go_enter Tryz.func5, Tryz.ntmps5
  go_upto_region 1 with (fail)
  change Code.wp _ _ _ _ (w.alloc (.cells #[.int .i64 s, .int .i64 i, .slice A len c, .slice A2 n2 c2] 45))
  generalize w.alloc (.cells #[.int .i64 s, .int .i64 i, .slice A len c, .slice A2 n2 c2] 45) = w1 at *
  obtain ⟨g0, hg0⟩ : ∃ g0, w.heap.size = g0 := ⟨_, rfl⟩
  rw [hg0] at hk0
  simp only [hg0]
  have hg0H := Lib.hid hg0
  have hb0H := Lib.hid hb0
  have hk0H := Lib.hid hk0
  clear hg0 hb0 hk0
  go_upto_region 2 with (go_at_call 7; refine (awake_any _).mono ?_; rintro e w2 ⟨rfl, hb2⟩)
  have hk2 := hk0H.out.fresh hb2
  have hb2H : Hid (Below w.heap.size w w2) := Lib.hid (hb0H.out.trans (hb2.mono hb0H.out.size))
  have y0 := hk2.cell 0
  have y1 := hk2.cell 1
  have y2 := hk2.cell 2
  simp only [List.getElem?_cons_succ, List.getElem?_cons_zero] at y0 y1 y2
  have hk2H := Lib.hid hk2
  have hl2 := hltH.out w2 ((hNH.out.below hb2H.out).more hb2H.out.size)
  rw [hlenH.out] at hl2
  have hb2' := hb2
  clear hk2 hb2
  go_upto_region 3 with (go_at_call 8; refine hl2.mono ?_; rintro e w3 ⟨rfl, nq, rfl⟩)
  have hb3 : Below w1.heap.size w1 (w2.drewN nq) := below_drewN' hb2' nq
  have hk3 : Blk (w2.drewN nq) g0 45 [.int .i64 s, .int .i64 i, .slice A len c, .slice A2 n2 c2] := hk2H.out
  generalize w2.drewN nq = w3 at *
  have hb3H := Lib.hid hb3
  clear hl2 y0 y1 y2 hb3 hb2'
  have y0 := hk3.cell 0
  have y1 := hk3.cell 1
  simp only [List.getElem?_cons_succ, List.getElem?_cons_zero] at y0 y1
  clear hk3
  cases hlb : lightB l with
  | false =>
    clear hlb
    go_wp2
    go_ret
    exact ⟨rfl, hg0H.out ▸ hb0H.out.trans (hb3H.out.mono hb0H.out.size)⟩
  | true =>
  obtain ⟨htot, hlen4⟩ := light_parts hlb
  have hmostH := Lib.hid fun (x : Os) (hx : x ∈ l) => light_one htot hx
  have hlen4H := Lib.hid hlen4
  clear hlb htot hlen4
  have hsz := sizes_any s i w3 hs.1 hs.2 hi.1 hi.2
  obtain ⟨z1, z2, z3⟩ := sz_ok s i
  obtain ⟨n, hn⟩ : ∃ n, szN s = n := ⟨_, rfl⟩
  obtain ⟨m, hmm⟩ : ∃ m, szM s i = m := ⟨_, rfl⟩
  rw [hn] at z1 z3
  rw [hmm] at z2 z3
  rw [hn, hmm] at hsz
  clear hn hmm
  have hinv := Lib.hid (inv_new z1 z2 z3)
  go_upto_region 6 with (go_at_call 22; refine hsz.mono ?_; rintro e w4 ⟨rfl, rfl⟩)
  clear hsz y0 y1
  have hnw := pnew_any n m w3 z1 z2 z3
  unfold NewP ptrV at hnw
  go_upto_region 7 with (go_at_call 23; refine hnw.mono ?_; rintro e w4 ⟨o1, a1, p1, m1, rfl, hP1, hf1, hb4⟩)
  clear hnw
  have hnw := pnew_any n m w4 z1 z2 z3
  unfold NewP ptrV at hnw
  go_upto_region 8 with (go_at_call 23; refine hnw.mono ?_; rintro e w5 ⟨o2, a2, p2, m2, rfl, hP2, hf2, hb5⟩)
  clear hnw
  have hT0 := Lib.hid (two_new (w0 := w1) hP1 hf1 hb4 hP2 hf2 hb5 hb3H.out)
  clear hP1 hf1 hb4 hP2 hf2 hb5 hs hi z1 z2 z3
  go_wp2_with (fail)
  go_loopw [15] (fun v wr => ∃ j : Nat, j ≤ len ∧ v = .int .i64 j ∧ Both w1 (fun b => b < w1.heap.size) p1 m1 ((PT.new n m).after l j) p2 m2 (PT.new n m) wr) (fun v _ => len - (intOf v).toNat)
  case atStart => exact ⟨0, Nat.zero_le _, rfl, hT0.out⟩
  case round =>
    obtain ⟨j, hj, rfl, hB⟩ := hrel
    have hBH := Lib.hid hB
    have hkr := hk0H.out.below hB.below hk0H.out.lt
    have y2 := hkr.cell 2
    simp only [List.getElem?_cons_succ, List.getElem?_cons_zero] at y2
    clear hB hkr
    by_cases hjk : j < len
    · have t1 : decide ((j : Int) < (len : Int)) = true := by simpa using hjk
      have hjl : j < l.length := by rw [hlenH.out]; exact hjk
      have hNr := (hNH.out.below (hb0H.out.trans (hBH.out.below.mono hb0H.out.size))).more (Nat.le_trans hb0H.out.size hBH.out.below.size)
      obtain ⟨b, off, rfl, hbB, hc⟩ := hNr.at_ (by omega)
      have hci := hc j hjl
      have hxm := List.getElem_mem hjl
      have hds := Lib.hid (hNr.data _ hxm)
      have hmost := hmostH.out _ hxm
      have hwfj := hwfH.out _ hxm
      have hnext := Lib.hid (after_succ (PT.new n m) l j hjl)
      clear hNr hc hxm
      generalize l[j] = x at *
      obtain ⟨⟨ok, pa, ds, oo, ol, da, om, op⟩, dA, dc⟩ := x
      obtain ⟨c0, c1, c2, c3, c4, c5, c6, c7⟩ := hci
      simp only at c0 c1 c2 c3 c4 c5 c6 c7 hds hmost hwfj hnext
      have htw := twin_any ⟨ok, pa, ds, oo, ol, da, om, op⟩ dA dc wr hds.out (by have := hmost.1; simp only; omega)
      have hdoH := Lib.hid fun (W : World) (A' : Option Addr) (c' : Nat) (hW : Below wr.heap.size wr W) (hs' : Sees W W.heap.size 1 A' da.length (bvs da)) (hc' : da.length ≤ c') =>
        do_two (m0 := m0) ((hBH.out.fresh hW).less (K' := fun b => b < w1.heap.size) (fun b h => .inl h) (fun b h => h)) (inv_after hinv.out l j) (zero_cell hb0H.out hmH.out) ⟨ok, pa, ds, oo, ol, da, om, op⟩ A' c' ⟨hs', hc', by have := hmost.1; simp only; omega, hwfj.1, hwfj.2, by have := hmost.2.1; simp only; omega, by have := hmost.2.2; simp only; omega⟩
      unfold TwinP opV opC at htw
      unfold opV opC at hdoH
      simp only at htw hdoH
      clear hmost hwfj hjl
      go_wp2_with (first
        | (go_at_call 25; refine htw.mono ?_; rintro e w6 ⟨⟨A6, c6, rfl, hs6, hc6⟩, hb6⟩; have hdo := hdoH.out w6 A6 c6 hb6 hs6 hc6)
        | (go_at_call 24; refine hdo.mono ?_; rintro e w7 ⟨⟨v7, rfl⟩, hB7, hC7⟩))
      go_roundw
      case rel => exact ⟨j + 1, by omega, by go_num, by rw [hnext.out]; exact hB7⟩
      case measure => simp [intOf]; omega
    · obtain rfl : j = len := by omega
      have t1 : decide ((j : Int) < (j : Int)) = false := by simp
      have hBf : Hid (Both w1 (fun b => b < w1.heap.size) p1 m1 ((PT.new n m).runs (l.map (·.o))) p2 m2 (PT.new n m) wr) := Lib.hid (by rw [← after_all (PT.new n m) l j hlenH.out.symm]; exact hBH.out)
      have hIP := Lib.hid (inv_runs (l.map (·.o)) hinv.out)
      have hSz := Lib.hid (sz_runs (l.map (·.o)) (PT.new n m))
      clear hBH
      generalize (PT.new n m).runs (l.map (·.o)) = P at *
      go_upto_region 14 with (fail)
      have hm1 := zero_cell hb0H.out hmH.out
      have hdm := dump_two (m0 := m0) hBf.out hIP.out hm1
      unfold DumpTwo ifV at hdm
      obtain ⟨cd, hcd⟩ : ∃ cd, P.dump.2 = cd := ⟨_, rfl⟩
      rw [hcd] at hdm
      have hcdH := Lib.hid hcd
      have hm1H := Lib.hid hm1
      clear hcd hm1
      go_upto_region 15 with (go_at_call 10; refine hdm.mono ?_; rintro e w8 ⟨v8, l1, rfl, hO8, htn8, hB8, hb8⟩)
      obtain ⟨A8, c8, rfl, hN8⟩ := hO8.nodes
      have hO8H := Lib.hid hO8
      have htn8H := Lib.hid htn8
      have hB8H := Lib.hid hB8
      have hN8H := Lib.hid hN8
      have hb8H := Lib.hid hb8
      clear hdm hO8 htn8 hB8 hN8 hb8
      have hend : Hid (Below w.heap.size w w8) := Lib.hid (hb0H.out.trans (hB8H.out.below.mono hb0H.out.size))
      by_cases hne : l1 = []
      · subst hne
        by_cases hc0 : cd = 0
        · have q1 : ((cd : Int) != 0) = false := by simp; omega
          clear hc0
          simp only [List.length_nil]
          go_wp2
          go_ret
          exact ⟨rfl, hend.out⟩
        · have q1 : ((cd : Int) != 0) = true := by simp; omega
          clear hc0
          simp only [List.length_nil]
          go_wp2
          go_ret
          exact ⟨rfl, hend.out⟩
      have hc0 : cd = 0 := by
        by_cases h : cd = 0
        · exact h
        · exfalso
          have h1 := dump_err (T := P) (by rw [hcdH.out]; exact h)
          rw [h1] at htn8H
          exact hne (List.map_eq_nil_iff.1 htn8H.out)
      subst hc0
      have hdt := dump_tot hIP.out hcdH.out l1 htn8H.out
      have hszN : Hid (∀ x ∈ l1, x.path.size ≤ 400 ∧ x.same.size ≤ 400 ∧ x.data.length ≤ 136704) := Lib.hid fun x hx => by
        obtain ⟨h1, h2, h3, _⟩ := dump_node hIP.out hcdH.out x.tn (by rw [← htn8H.out]; exact List.mem_map.2 ⟨x, hx, rfl⟩)
        exact ⟨h1, h2, h3⟩
      have hpos : 0 < l1.length := List.length_pos_iff.2 hne
      obtain ⟨ln, hln1⟩ : ∃ ln, l1.length = ln := ⟨_, rfl⟩
      have hln1H := Lib.hid hln1
      have hown1 := own_big A8 c8 l1 w8 hN8H.out (by omega) hdt.2
      have hdtH := Lib.hid hdt
      rw [hln1] at hown1 hpos ⊢
      clear hln1 hdt hne
      have hne2 : ((ln : Int) == 0) = false := by simp; omega
      have hle4 : ln ≤ 4096 := by have := hdtH.out.1; have := hln1H.out; omega
      have hOK8 : Hid (∀ b, blkN (.slice A8 l1.length c8) l1 b → (fun b => b < w1.heap.size) b ∨ New wr w8 b) := Lib.hid fun b hb => .inr (hO8H.out.blk hb)
      have hfl := fun (W : World) (g : Nat) (vb : Value) (bs : Nat → Nat) (hL : LentAt W w8.heap.size g vb bs l1) (hbW : Below w8.heap.size w8 W) =>
        (lent_lst hB8H.out hO8H.out hOK8.out hL hbW hszN.out).fill1 (m0 := m0) hIP.out hm1H.out (ln + 3) (by rw [lentL_length]; have := hdtH.out.1; omega) (by rw [lentL_length]; have := hln1H.out; omega)
      have hflw := first_law hIP.out hcdH.out (by rw [← htn8H.out]; intro e; have := hln1H.out; rw [List.map_eq_nil_iff.1 e] at this; simp at this; omega)
      simp only [lentL_tn, lentL_length, htn8H.out, hflw, hln1H.out] at hfl
      unfold FillTwo ifV at hfl
      have hflH := Lib.hid hfl
      clear hfl hflw
      go_upto_region 18 with (first
        | (go_at_call 26; refine hown1.mono ?_; rintro e w9 ⟨g9, vb9, bs9, rfl, hL9, hb9⟩; have hf9 := hflH.out w9 g9 vb9 bs9 hL9 hb9; have hL9H := Lib.hid hL9; have hb9H := Lib.hid hb9; clear hL9 hb9)
        | (go_at_call 18; refine hf9.mono ?_; rintro e w10 ⟨rfl, hB10, hC10⟩))
      have hO9 := hO8H.out.fresh hb9H.out
      have hO10 := hO9.keep hC10 (fun b hb hn => hn (.inl (hOK8.out b hb)))
      have hOKx : Hid (∀ b, blkN (.slice A8 l1.length c8) l1 b → (fun b => ((fun b => b < w1.heap.size) b ∨ New wr w8 b) ∨ New w8 w9 b) b) := Lib.hid fun b hb => .inl (hOK8.out b hb)
      generalize hKx : (fun b => ((fun b => b < w1.heap.size) b ∨ New wr w8 b) ∨ New w8 w9 b) = Kx at hOKx
      have hB10 : Both w1 Kx p1 m1 P p2 m2 (PT.new n m) w10 := by rw [← hKx]; exact hB10
      have hO10H := Lib.hid hO10
      have hB10H := Lib.hid hB10
      clear hO9 hO10 hB10 hC10 hKx hf9 hown1
      have hpk := pick_any at_ ln w10 hat.1 hat.2 hpos (by omega)
      have hpl := pkN_lt at_ hpos
      obtain ⟨a', ha'⟩ : ∃ a', pkN at_ ln = a' := ⟨_, rfl⟩
      rw [ha'] at hpk hpl
      clear ha'
      go_upto_region 21 with (go_at_call 27; refine hpk.mono ?_; rintro e w11 ⟨rfl, rfl⟩)
      clear hpk
      have hN10 : Hid (NodesAt w10 w10.heap.size A8 l1) := Lib.hid (by
        obtain ⟨A', c', e, h⟩ := hO10H.out.nodes
        injection e with e1 _ _
        rw [e1]; exact h)
      have hown2 := own_big A8 c8 l1 w10 hN10.out (by have := hdtH.out.1; omega) hdtH.out.2
      rw [hln1H.out] at hown2
      go_upto_region 22 with (go_at_call 26; refine hown2.mono ?_; rintro e w11 ⟨g11, vb11, bs11, rfl, hL11, hb11⟩)
      have hLst := Lib.hid (lent_lst hB10H.out hO10H.out hOKx.out hL11 hb11 hszN.out)
      have hnd := hLst.out.at_ (j := a') (by rw [lentL_length, hln1H.out]; exact hpl)
      obtain ⟨csL, hrowL, _⟩ := hL11.row
      have fz1 := hrowL.frozen (a' * 5 + 1)
      have fz2 := hrowL.frozen (a' * 5 + 2)
      have fz3 := hrowL.frozen (a' * 5 + 3)
      have fz4 := hrowL.frozen (a' * 5 + 4)
      clear hown2 hL11 hb11
      have hpk := pick_any how 6 w11 hhow.1 hhow.2 (by decide) (by decide)
      have hpl6 := pkN_lt how (n := 6) (by decide)
      obtain ⟨kI, hkI⟩ : ∃ kI : Int, ((pkN how 6 : Nat) : Int) = kI := ⟨_, rfl⟩
      rw [hkI, show ((6 : Nat) : Int) = 6 from rfl] at hpk
      have hk6 : kI = 0 ∨ kI = 1 ∨ kI = 2 ∨ kI = 3 ∨ kI = 4 ∨ kI = 5 := by omega
      clear hkI hpl6
      go_upto_block 2 with (go_at_call 27; refine hpk.mono ?_; rintro e w12 ⟨rfl, rfl⟩)
      clear hpk
      go_cut [] from 132 to 176 (fun wx => BadAt w1 p1 m1 P p2 m2 (PT.new n m) wr.heap.size (.slice A8 l1.length c8) l1 g11 a' wx)
      case first =>
        have hal : a' < l1.length := by rw [hln1H.out]; exact hpl
        have hpth : ∃ ns, ((lentL l1 bs11)[a']'(by rw [lentL_length]; exact hal)).path = pth ns := by
          rw [lentL_get l1 bs11 a' _ hal]
          exact dump_path (x := l1[a']) hcdH.out htn8H.out (List.getElem_mem hal)
        have hkd := Lib.hid fun k => BadAt.kind hLst.out (lentL_tn l1 bs11) hal k
        have hmd := Lib.hid fun k => BadAt.made hLst.out (lentL_tn l1 bs11) hal k
        have hnp := Lib.hid (BadAt.noPath hLst.out (lentL_tn l1 bs11) hal)
        have hla := Lib.hid fun w1' fz h1 => BadAt.last hLst.out (lentL_tn l1 bs11) hal hpth (w1 := w1') fz h1
        generalize (lentL l1 bs11)[a']'(by rw [lentL_length]; exact hal) = y at *
        obtain ⟨pa, ki, ma, sa, dA, dc, da⟩ := y
        obtain ⟨x0, x1, x2, x3, x4⟩ := hnd
        simp only at x0 x1 x2 x3 x4 hla
        clear hal hpth
        rcases hk6 with rfl | rfl | rfl | rfl | rfl | rfl
        · go_wp2
          go_meet
          exact hkd.out 3 (by decide) (by decide)
        · go_wp2
          go_meet
          exact hkd.out 0 (by decide) (by decide)
        · go_wp2
          go_meet
          exact hmd.out (-1) (by decide)
        · go_wp2
          go_meet
          exact hmd.out 1099511627777 (by decide)
        · go_wp2
          go_meet
          exact hnp.out
        · have hcv := fun (W : World) (C : Array Value) (n c : Nat) => Lib.run_convert_bytes_const (P := Tryz.prog) W 64 5 C n c Tryz.underlying64 Tryz.underlying5
          go_upto_region 24 with (fail)
          have hC13 : Chg (fun b => b = g11) w11 (w11.setCell ⟨g11, a' * 5 + 3, none⟩ (.string pa)) := (Chg.refl (fun b => b = g11) w11).setCell (p := ⟨g11, a' * 5 + 3, none⟩) (fun _ => rfl) _
          have y4 : (w11.setCell ⟨g11, a' * 5 + 3, none⟩ (.string pa)).cell? ⟨g11, a' * 5 + 4, none⟩ = some (.slice dA da.length dc) := (World.cell?_setCell_other w11 _ _ _ (by simp)).trans x4
          have hgl : g11 < (w11.setCell ⟨g11, a' * 5 + 3, none⟩ (.string pa)).heap.size := World.block_lt_of_cell? _ _ y4
          have z4 : ((w11.setCell ⟨g11, a' * 5 + 3, none⟩ (.string pa)).alloc (.cells #[.int .u8 120] 5 (1, 2))).cell? ⟨g11, a' * 5 + 4, none⟩ = some (.slice dA da.length dc) := (World.cell?_alloc_lt _ _ ⟨g11, a' * 5 + 4, none⟩ hgl).trans y4
          have hzs : (w11.setCell ⟨g11, a' * 5 + 3, none⟩ (.string pa)).heap.size = w11.heap.size := by simp
          have fz : ((w11.setCell ⟨g11, a' * 5 + 3, none⟩ (.string pa)).alloc (.cells #[.int .u8 120] 5 (1, 2))).frozen? ⟨g11, a' * 5 + 4, none⟩ = false := by
            have hr2 := (hrowL.set_ (a' * 5 + 3) (.string pa)).alloc (.cells #[.int .u8 120] 5 (1, 2))
            exact hr2.frozen (a' * 5 + 4)
          have hla2 := Lib.hid (hla.out _ (1, 2) rfl)
          clear x0 x1 x2 x3 x4 fz1 fz2 fz3 fz4 hC13 y4 hrowL hla
          generalize w11.setCell ⟨g11, a' * 5 + 3, none⟩ (.string pa) = w13 at *
          have hzsH := Lib.hid hzs
          clear hzs
          go_wp2
          go_meet
          rw [hzsH.out]
          have h9 := hla2.out
          rw [World.setCell_alloc_past _ _ _ _ (by simpa using hgl)] at h9
          exact h9
      case rest =>
        obtain ⟨K13, L13, x13, r13, hL13, hl13, hm13, hx13⟩ := hcut
        rw [htn8H.out] at hm13
        have hIq := Lib.hid (show (PT.new P.sectors P.inodes).Inv by
          rw [hSz.out.1, hSz.out.2]; exact hinv.out)
        have hPq : Hid (PT.new n m = PT.new P.sectors P.inodes) := Lib.hid (by rw [hSz.out.1, hSz.out.2]; rfl)
        have hadl : a' < P.dump.1.length := by rw [← htn8H.out, List.length_map, hln1H.out]; exact hpl
        obtain ⟨Q, hQf, hQi, hQd⟩ := bad_law hIP.out hIq.out hcdH.out a' hadl x13 r13 hx13
        have hfill := hL13.fill2 (m0 := m0) hinv.out hm1H.out (ln + 3) (by rw [hl13]; have := hdtH.out.1; omega) (by rw [hl13]; have := hln1H.out; omega)
        rw [hm13, hPq.out, hQf, hl13, hln1H.out] at hfill
        unfold FillTwo ifV at hfill
        have hQiH := Lib.hid hQi
        have hQdH := Lib.hid hQd
        have hL13H := Lib.hid hL13
        clear hL13 hl13 hm13 hx13 hQf hQi hQd hadl hnd
        go_upto_region 36 with (go_at_call 18; refine hfill.mono ?_; rintro e w14 ⟨rfl, hB14, hC14⟩)
        have hO14 := Lib.hid (hL13H.out.own.keep hC14 (fun b hb hn => hn (hL13H.out.ownK b hb).1))
        have hdm2 := dump_two (m0 := m0) hB14 hQiH.out hm1H.out
        unfold DumpTwo ifV at hdm2
        rw [hQdH.out] at hdm2
        simp only at hdm2
        have hB14H := Lib.hid hB14
        clear hfill hB14 hC14
        go_upto_region 37 with (go_at_call 10; refine hdm2.mono ?_; rintro e w15 ⟨v15, l2, rfl, hO15, htn15, hB15, hb15⟩)
        have hll : l2.length = a' := by
          have := congrArg List.length htn15
          rw [List.length_map, List.length_take, ← htn8H.out, List.length_map, hln1H.out] at this
          omega
        have hsame : Hid (∀ k (h1 : k < a') (h2 : k < l1.length) (h3 : k < l2.length), l2[k].tn = l1[k].tn) := Lib.hid fun k h1 h2 h3 => by
          have h4 : (l2.map Nd.tn)[k]? = ((l1.map Nd.tn).take a')[k]? := by rw [htn15, htn8H.out]
          rw [List.getElem?_take, if_pos h1, List.getElem?_map, List.getElem?_map, List.getElem?_eq_getElem h2, List.getElem?_eq_getElem h3] at h4
          exact Option.some.inj h4
        obtain ⟨A15, c15, rfl, hN15⟩ := hO15.nodes
        have hN8' : NodesAt w15 w15.heap.size A8 l1 := by
          obtain ⟨A', c', e, h⟩ := (hO14.out.fresh hb15).nodes
          injection e with e1 _ _
          rw [e1]; exact h
        have hendH := Lib.hid (hb0H.out.trans (hB15.below.mono hb0H.out.size))
        have hllH := Lib.hid hll
        rw [hll]
        have hN15H := Lib.hid hN15
        have hN8H' := Lib.hid hN8'
        clear hll htn15 hO15 hN15 hN8' hB15 hb15 hdm2
        go_wp2_with (fail)
        go_loopw [25] (fun v wr2 => ∃ (k nq : Nat), k ≤ a' ∧ v = .int .i64 k ∧ wr2 = w15.drewN nq) (fun v _ => a' - (intOf v).toNat)
        case atStart => exact ⟨0, 0, Nat.zero_le _, rfl, rfl⟩
        case round =>
          obtain ⟨k, nq2, hk, rfl, rfl⟩ := hrel
          by_cases hka : k < a'
          · have t1 : decide ((k : Int) < (a' : Int)) = true := by simpa using hka
            have hk1 : k < l1.length := by rw [hln1H.out]; omega
            obtain ⟨b1, f1, rfl, hb1, hc1⟩ := hN8H'.out.at_ (by omega)
            have hci := hc1 k hk1
            have hst := Lib.hid fun o (ho : o < l2.length) => thK_step l1[k] ho
            have hal2 := Lib.hid (thK_all (l2 := l2) (x := l1[k]) (i := k) (a := a') (by rw [hllH.out]; exact hka) hka (hsame.out k hka hk1 (by rw [hllH.out]; exact hka)))
            generalize l1[k] = x at *
            obtain ⟨pa, ki, ma, sa, dA, dc, da⟩ := x
            obtain ⟨x0, x1, x2, x3, x4⟩ := hci
            simp only at x0 x1 x2 x3 x4
            clear hc1
            go_wp2_with (fail)
            go_loopw [26, 27] (fun th o wr3 => ∃ (q nq : Nat) (bb : Bool), q ≤ a' ∧ o = .int .i64 q ∧ th = .bool bb ∧ Hid (bb = thK l2 ⟨pa, ki, ma, sa, dA, dc, da⟩ q) ∧ wr3 = w15.drewN nq) (fun _ o _ => a' - (intOf o).toNat)
            case atStart => exact ⟨0, nq2, false, Nat.zero_le _, rfl, rfl, Lib.hid rfl, rfl⟩
            case round =>
              obtain ⟨q, nq3, bb, hq, rfl, rfl, hbb, rfl⟩ := hrel
              by_cases hqa : q < a'
              · have t2 : decide ((q : Int) < (a' : Int)) = true := by simpa using hqa
                have hq2 : q < l2.length := by rw [hllH.out]; exact hqa
                obtain ⟨b2, f2, rfl, hb2, hc2⟩ := hN15H.out.at_ (by omega)
                have hcj := hc2 q hq2
                have hstq := Lib.hid (hst.out q hq2)
                generalize l2[q] = y at *
                obtain ⟨pa2, ki2, ma2, sa2, dA2, dc2, da2⟩ := y
                obtain ⟨y0, y1, y2, y3, y4⟩ := hcj
                simp only at y0 y1 y2 y3 y4 hstq
                clear hc2
                cases bb with
                | true =>
                  have hfin : Hid (true = thK l2 ⟨pa, ki, ma, sa, dA, dc, da⟩ (q + 1)) := Lib.hid (by rw [hstq.out, ← hbb.out]; rfl)
                  clear hstq hbb
                  go_wp2
                  go_quiet (fail)
                  go_wp2
                  go_roundw
                  case rel => exact ⟨q + 1, nq3 + nq, true, by omega, by go_num, rfl, hfin, rfl⟩
                  case measure => simp [intOf]; omega
                | false =>
                  have hfin : Hid (∀ c : Bool, c = decide (pa2 = pa ∧ ki2 = ki ∧ ma2 = ma) → c = thK l2 ⟨pa, ki, ma, sa, dA, dc, da⟩ (q + 1)) := Lib.hid fun c hc => by rw [hstq.out, ← hbb.out, Bool.false_or]; exact hc
                  clear hstq hbb
                  by_cases hp : pa2 = pa
                  · by_cases hk2 : ki2 = ki
                    · by_cases hma : ma2 = ma
                      · have hf2 := Lib.hid (hfin.out true (by simp [hp, hk2, hma]))
                        clear hfin
                        subst hp hk2 hma
                        go_wp2
                        go_quiet (fail)
                        go_wp2
                        go_roundw
                        case rel => exact ⟨q + 1, nq3 + nq, true, by omega, by go_num, rfl, hf2, rfl⟩
                        case measure => simp [intOf]; omega
                      · have hme : (ma2 == ma) = false := by simpa using hma
                        have hf2 := Lib.hid (hfin.out false (by simp [hma]))
                        clear hfin hma
                        subst hp hk2
                        go_wp2
                        go_quiet (fail)
                        go_wp2
                        go_roundw
                        case rel => exact ⟨q + 1, nq3 + nq, false, by omega, by go_num, rfl, hf2, rfl⟩
                        case measure => simp [intOf]; omega
                    · have hke : (ki2 == ki) = false := by simpa using hk2
                      have hf2 := Lib.hid (hfin.out false (by simp [hk2]))
                      clear hfin hk2
                      subst hp
                      go_wp2
                      go_quiet (fail)
                      go_wp2
                      go_roundw
                      case rel => exact ⟨q + 1, nq3 + nq, false, by omega, by go_num, rfl, hf2, rfl⟩
                      case measure => simp [intOf]; omega
                  · have hpe := str_no hp
                    have hf2 := Lib.hid (hfin.out false (by simp [hp]))
                    clear hfin hp
                    go_wp2
                    go_quiet (fail)
                    go_wp2
                    go_roundw
                    case rel => exact ⟨q + 1, nq3 + nq, false, by omega, by go_num, rfl, hf2, rfl⟩
                    case measure => simp [intOf]; omega
              · obtain rfl : q = a' := by omega
                have t2 : decide ((q : Int) < (q : Int)) = false := by simp
                have hbt : bb = true := by rw [hbb.out]; exact hal2.out
                subst hbt
                clear hbb
                go_wp2
                exact ⟨⟨k + 1, nq3, by omega, by go_num, rfl⟩, by simp [intOf]; omega⟩
          · obtain rfl : k = a' := by omega
            have t1 : decide ((k : Int) < (k : Int)) = false := by simp
            go_wp2
            go_ret
            exact ⟨rfl, below_drewN' hendH.out nq2⟩
#print axioms bad_any
end Go.Proofs.YtolpcfhfcdkokaaGreatDoor
