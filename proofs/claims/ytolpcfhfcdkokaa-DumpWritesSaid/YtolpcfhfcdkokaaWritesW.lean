/-
  DumpWrites, the law's walk.
-/
import Derived.Test.YtolpcfhfcdkokaaWrites
namespace Go.Proofs.Ytolpcfhfcdkokaa
open Go.RowKit

set_option maxHeartbeats 8000000 in
set_option maxRecDepth 100000 in
theorem writes_walk (A : Option Addr) (cap : Nat) (l : List Nd) (w : World) (hN : NodesAt w w.heap.size A l) (hln : l.length ≤ 281474976710656)
    (hbig : ∀ x ∈ l, x.path.size ≤ 140737488351232 ∧ x.same.size ≤ 140737488351232 ∧ x.data.length ≤ 140737488351232) :
    Calls Try.prog 3 #[.slice A l.length cap] w fun e w' => e = .returned (.bool true) ∧ Below w.heap.size w w' := by
  go_enter Try.func3, Try.ntmps3
  go_wp2_with fail
  refine (awake_any w).mono ?_
  rintro e w1 ⟨rfl, hb1⟩
  go_wp2_with fail
  refine (few_any A cap l w1 ((hN.below hb1).more hb1.size) hln hbig).mono ?_
  rintro e w2 ⟨rfl, nq, rfl⟩
  by_cases hf : fewB l = true
  · obtain ⟨ht, hl5⟩ : totB l ≤ 2097152 ∧ l.length ≤ 5000 := by simpa [fewB] using hf
    have hdl : ∀ x ∈ l, x.data.length ≤ 2097152 := by
      intro x hx
      obtain ⟨i, hi, rfl⟩ := List.getElem_of_mem hx
      have h1 := totB_take l i hi
      have h2 := totB_le l (i + 1)
      omega
    have hel : (encAll l).length ≤ 10000000 := by have := encAll_tot l; omega
    have hol : (outB l).length ≤ 10000000 := by have := outB_le l; omega
    rw [hf]
    clear hf hbig
    go_wp2_with fail
    have hN2 := ((hN.below hb1).more hb1.size).drewN nq
    have hb2 : Below w.heap.size w (w1.drewN nq) := below_drewN' hb1 nq
    clear hb1 hln
    generalize w1.drewN nq = w2 at *
    refine (lend_any A cap l w2 hN2 hl5 ht).mono ?_
    rintro e w3 ⟨g, vb, bs, rfl, hL3, hb3⟩
    have hb3' := hb2.trans (hb3.mono hb2.size)
    obtain ⟨Av, cv, rfl, _⟩ := Sees.of_own (B := w3.heap.size) hL3.own fun g' hg' => (hL3.own.lt g' hg').2
    have hL4 := lent_chg hL3 ((Below.refl _ _).alloc (Nat.le_refl _) (.cells #[.slice (some ⟨g, 0, none⟩) (l.length + 3) (l.length + 3), .slice Av l.length cv] 27))
    have hp4 := Blk.new w3 27 [.slice (some ⟨g, 0, none⟩) (l.length + 3) (l.length + 3), .slice Av l.length cv]
    have hb4 := hb3'.alloc hb3'.size (.cells #[.slice (some ⟨g, 0, none⟩) (l.length + 3) (l.length + 3), .slice Av l.length cv] 27)
    have hgl : g < w3.heap.size := by obtain ⟨cs, hr, _⟩ := hL3.row; exact hr.lt
    have hbl : ∀ i, i < l.length → bs i < w3.heap.size := fun i hi => (hL3.mem.data i hi hi).lt
    clear hL3 hb3 hb3'
    go_upto_region 6 with (fail)
    have hs4 : w3.heap.size < (w3.alloc (.cells #[.slice (some ⟨g, 0, none⟩) (l.length + 3) (l.length + 3), .slice Av l.length cv] 27)).heap.size := by simp
    generalize w3.alloc (.cells #[.slice (some ⟨g, 0, none⟩) (l.length + 3) (l.length + 3), .slice Av l.length cv] 27) = w4 at *
    have hp4' : Blk w4 w3.heap.size 27 [.slice (some ⟨g, 0, none⟩) (l.length + 3) (l.length + 3), .slice Av l.length cv] := hp4
    clear hp4
    have q0 := hp4'.cell 0
    have q1 := hp4'.cell 1
    have n0 : (0 : Int) ≤ (l.length : Int) := by omega
    have hNl4 := lent_nodes hL4
    go_wp2_with fail
    -- a
    have hca := bytes_any (some ⟨g, 0, none⟩) (l.length + 3) (lentL l bs) w4 hNl4 (by rw [(encL l bs).1]; omega) (by rw [lentL_length]; omega)
    rw [lentL_length] at hca
    refine hca.mono ?_
    intro e w5 hB5
    obtain ⟨va, rfl, hoa, hb5⟩ := bts_uni hB5
    rw [outL] at hoa
    rw [errL]
    clear hB5 hca
    have q0' := (hp4'.fresh hb5).cell 0
    have q1' := (hp4'.fresh hb5).cell 1
    have hb5' := hb4.trans (hb5.mono hb4.size)
    have hL5 := lent_chg hL4 hb5
    go_wp2_with fail
    refine (kept_true w2.heap.size g (.slice Av l.length cv) bs A cap l w5 hL5 ((hN.below hb5').more hb5'.size) hl5 hdl).mono ?_
    rintro e w6 ⟨rfl, hb6⟩
    have hb6' := hb5'.trans (hb6.mono hb5'.size)
    have hL6 := lent_chg hL5 hb6
    have hoa6 := own_fresh hoa hb6
    go_wp2_with fail
    -- b
    have hcb := bytes_any (some ⟨g, 0, none⟩) (l.length + 3) (lentL l bs) w6 (lent_nodes hL6) (by rw [(encL l bs).1]; omega) (by rw [lentL_length]; omega)
    rw [lentL_length] at hcb
    refine hcb.mono ?_
    intro e w7 hB7
    obtain ⟨vb7, rfl, hob, hb7⟩ := bts_uni hB7
    rw [outL] at hob
    rw [errL]
    clear hB7 hcb
    have hb7' := hb6'.trans (hb7.mono hb6'.size)
    go_wp2_with fail
    -- the reference's
    refine (rbytes_any A cap l w7 ((hN.below hb7').more hb7'.size) (by omega) (by omega)).mono ?_
    intro e w8 hB8
    obtain ⟨vw, rfl, how, hb8⟩ := bts_uni hB8
    clear hB8
    have hb8' := hb7'.trans (hb8.mono hb7'.size)
    have hoa8 := own_fresh (own_fresh hoa6 hb7) hb8
    have hob8 := own_fresh hob hb8
    have hL8 := lent_chg (lent_chg hL6 hb7) hb8
    have sa := run_str_own (P := Try.prog) Try.underlying29 Try.underlying5 hoa8 9 Try.underlying9
    have sb := run_str_own (P := Try.prog) Try.underlying29 Try.underlying5 hob8 9 Try.underlying9
    have sw := run_str_own (P := Try.prog) Try.underlying29 Try.underlying5 how 9 Try.underlying9
    go_wp2_with fail
    refine (turn_any w2.heap.size g (.slice Av l.length cv) bs (l.length + 3) l w8 hL8 hl5 hdl).mono ?_
    rintro e w9 ⟨rfl, l', hl1, hl2, hN9, hC9⟩
    have hz5 := hb5.size
    have hz6 := hb6.size
    have hz7 := hb7.size
    have hz8 := hb8.size
    have hz9 := hC9.size
    have hS : ∀ b, w4.heap.size ≤ b → ¬ (b = g ∨ ∃ i, i < l.length ∧ b = bs i) := fun b hb e => e.elim (by omega) fun ⟨i, hi, e⟩ => by have := hbl i hi; omega
    have hoa9 := own_chg hoa8 hC9 fun b e => hS b (hoa8.lt b e).1
    have hob9 := own_chg hob8 hC9 fun b e => hS b (by have := (hob8.lt b e).1; omega)
    have how9 := own_chg how hC9 fun b e => hS b (by have := (how.lt b e).1; omega)
    have hgw : w.heap.size ≤ g := Nat.le_trans hb2.size hL8.gB
    have hbw : ∀ i, i < l.length → w.heap.size ≤ bs i := fun i hi => by have := hL8.mem.low i hi; omega
    have hb9' : Below w.heap.size w w9 := hb8'.trans (hC9.below hb8'.size (fun b hb e => e.elim (by omega) fun ⟨i, hi, e⟩ => by have := hbw i hi; omega))
    have hel' : (encAll l').length ≤ 10000000 := by have := encAll_tot l'; have := encAll_tot l; omega
    have hol' : (outB l').length ≤ 10000000 := by have := outB_le l'; omega
    have hl1H := Lib.hid hl1
    clear hL8 hL6 hL5 hL4 hp4' hNl4 hN hN2 q0 q1 q0' q1' sa sb sw hC9 hoa6 hdl hl1 hl2
    go_wp2_with fail
    -- c
    have hcc := bytes_any (some ⟨g, 0, none⟩) (l.length + 3) l' w9 hN9 (by omega) (by have := hl1H.out; omega)
    rw [hl1H.out] at hcc
    refine hcc.mono ?_
    intro e w10 hB10
    obtain ⟨vc, rfl, hoc, hb10⟩ := bts_uni hB10
    clear hB10 hcc
    go_wp2_with fail
    have hct := rbytes_any (some ⟨g, 0, none⟩) (l.length + 3) l' w10 ((hN9.below hb10).more hb10.size) (by omega) (by have := hl1H.out; omega)
    rw [hl1H.out] at hct
    refine hct.mono ?_
    intro e w11 hB11
    obtain ⟨vt, rfl, hot, hb11⟩ := bts_uni hB11
    clear hB11 hct hN9
    have hoa11 := own_fresh (own_fresh hoa9 hb10) hb11
    have hob11 := own_fresh (own_fresh hob9 hb10) hb11
    have how11 := own_fresh (own_fresh how9 hb10) hb11
    have hoc11 := own_fresh hoc hb11
    have hb11' : Below w.heap.size w w11 := (hb9'.trans (hb10.mono hb9'.size)).trans (hb11.mono (Nat.le_trans hb9'.size hb10.size))
    have hz10 := hb10.size
    have hz11 := hb11.size
    have sa := run_str_own (P := Try.prog) Try.underlying29 Try.underlying5 hoa11 9 Try.underlying9
    have sb := run_str_own (P := Try.prog) Try.underlying29 Try.underlying5 hob11 9 Try.underlying9
    have sw := run_str_own (P := Try.prog) Try.underlying29 Try.underlying5 how11 9 Try.underlying9
    have sc := run_str_own (P := Try.prog) Try.underlying29 Try.underlying5 hoc11 9 Try.underlying9
    have st := run_str_own (P := Try.prog) Try.underlying29 Try.underlying5 hot 9 Try.underlying9
    go_upto_region 18 with (fail)
    have dab : ∀ b, va.ownBlock = some b → vb7.ownBlock ≠ some b := fun b e e' => by have := (hoa.lt b e).2; have := (hob.lt b e').1; omega
    have dac : ∀ b, va.ownBlock = some b → vc.ownBlock ≠ some b := fun b e e' => by have := (hoa.lt b e).2; have := (hoc.lt b e').1; omega
    have dat : ∀ b, va.ownBlock = some b → vt.ownBlock ≠ some b := fun b e e' => by have := (hoa.lt b e).2; have := (hot.lt b e').1; omega
    have dbc : ∀ b, vb7.ownBlock = some b → vc.ownBlock ≠ some b := fun b e e' => by have := (hob.lt b e).2; have := (hoc.lt b e').1; omega
    have dbt : ∀ b, vb7.ownBlock = some b → vt.ownBlock ≠ some b := fun b e e' => by have := (hob.lt b e).2; have := (hot.lt b e').1; omega
    have base : ∀ b, w4.heap.size ≤ b → w.heap.size ≤ b := fun b hb => Nat.le_trans hb4.size hb
    have ra := own_base hoa11 (base' := w.heap.size) fun b e => base b (hoa11.lt b e).1
    have rb := own_base hob11 (base' := w.heap.size) fun b e => base b (by have := (hob11.lt b e).1; omega)
    have rc := own_base hoc11 (base' := w.heap.size) fun b e => base b (by have := (hoc11.lt b e).1; omega)
    have rt := own_base hot (base' := w.heap.size) fun b e => base b (by have := (hot.lt b e).1; omega)
    clear sa sb sw sc st hoa8 hob8 how hoa9 hob9 how9 hoa11 hob11 how11 hoc11 hot hoc hoa hob hb2 hb4 hb5 hb6 hb7 hb8 hb10 hb11 hb5' hb6' hb7' hb8' hb9' hz5 hz6 hz7 hz8 hz9 hz10 hz11 hS base hbl hgl hbw hgw hs4 hel hel' hl1H ht n0
    have hR : Rows4 w w11 va (outB l) vb7 (outB l) vc vt (outB l') (outB l') := ⟨ra, rb, rc, rt, dab, dac, dat, dbc, dbt, hb11'⟩
    clear ra rb rc rt dab dac dat dbc dbt hb11'
    generalize hxo : outB l = xo at *
    clear hxo
    generalize outB l' = xc at *
    go_wp2
    obtain ⟨n, hn⟩ : ∃ n, n = xo.length := ⟨_, rfl⟩
    have hnH := Lib.hid hn
    rw [← hn] at hol
    clear hn
    obtain ⟨A7, c7, hA7, _⟩ := Sees.of_own (B := w11.heap.size) hR.a fun g e => (hR.a.lt g e).2
    obtain ⟨A8, c8, hA8, _⟩ := Sees.of_own (B := w11.heap.size) hR.b fun g e => (hR.b.lt g e).2
    subst hA7 hA8
    rw [← hnH.out] at hR ⊢
    go_loopw [18] (fun i wr => ∃ (j : Nat) (xa : List UInt8), j ≤ n ∧ i = .int .i64 j ∧ Hid (xa.length = n) ∧ headU xa j 1 ∧ Rows4 w wr (.slice A7 n c7) xa (.slice A8 n c8) xo vc vt xc xc) (fun i _ => n - (intOf i).toNat)
    case atStart => exact ⟨0, xo, Nat.zero_le _, rfl, hnH.out.symm, fun k hk => absurd hk (by omega), hR⟩
    case round =>
      obtain ⟨j, xa, hj, rfl, hxl, hh, hR1⟩ := hrel
      clear hR
      by_cases hjn : j < n
      · obtain ⟨ga, hga⟩ := hR1.formN hxl.out (by omega)
        subst hga
        obtain ⟨⟨b0, _, k1⟩, k2⟩ := hR1.cellN hxl.out j hjn
        have hst := Lib.hid (hR1.setN hxl.out j 1)
        have hh2 := headU_set hh hxl.out hjn
        clear hR1 hh
        go_wp2
        go_roundw
        case rel => exact ⟨j + 1, _, by omega, by go_num, by show _ = _; rw [List.length_set]; exact hxl.out, hh2, hst.out⟩
        case measure => simp [intOf]; omega
      · obtain rfl : j = n := by omega
        go_wp2
        obtain ⟨wo, rfl⟩ : ∃ wo : World, wo = wr := ⟨_, rfl⟩
        go_loopw [19] (fun i wr => ∃ (k : Nat) (xb : List UInt8), k ≤ j ∧ i = .int .i64 k ∧ Hid (xb.length = j) ∧ headU xb k 2 ∧ Rows4 w wr (.slice A8 j c8) xb (.slice A7 j c7) xa vc vt xc xc) (fun i _ => j - (intOf i).toNat)
        case atStart => exact ⟨0, xo, Nat.zero_le _, rfl, hnH.out.symm, fun k hk => absurd hk (by omega), hR1.swap⟩
        case round =>
          obtain ⟨k, xb, hk, rfl, hxb, hhb, hR2⟩ := hrel
          clear hR1
          by_cases hkn : k < j
          · obtain ⟨ga, hga⟩ := hR2.formN hxb.out (by omega)
            subst hga
            obtain ⟨⟨b0, _, k1⟩, k2⟩ := hR2.cellN hxb.out k hkn
            have hst := Lib.hid (hR2.setN hxb.out k 2)
            have hh2 := headU_set hhb hxb.out hkn
            clear hR2 hhb
            go_wp2
            go_roundw
            case rel => exact ⟨k + 1, _, by omega, by go_num, by show _ = _; rw [List.length_set]; exact hxb.out, hh2, hst.out⟩
            case measure => simp [intOf]; omega
          · obtain rfl : k = j := by omega
            go_wp2
            obtain ⟨i0, hi, hz0, hz1, hz2⟩ := info_parts infoU8
            obtain ⟨wp, rfl⟩ : ∃ wp : World, wp = wr := ⟨_, rfl⟩
            have hR3 := hR2.swap
            clear hR2
            go_loopw [7, 20] (fun v i wr => ∃ (m : Nat) (xa : List UInt8), m ≤ 40 ∧ i = .int .i64 m ∧ Hid (xa.length = k + m) ∧ headU xa (k + m) 1 ∧ Rows4 w wr v xa (.slice A8 k c8) xb vc vt xc xc) (fun _ i _ => 40 - (intOf i).toNat)
            case atStart => exact ⟨0, xa, by omega, rfl, hxl.out, hh, hR3⟩
            case round =>
              obtain ⟨m, xa2, hm, rfl, hx2, hh2, hR4⟩ := hrel
              clear hR3
              by_cases hm40 : m < 40
              · have own := hR4.a
                rw [hx2.out] at own
                have hws := hR4.below.size
                go_wp2_with (first
                  | (at_builtin; refine wpList_app _ rfl (.tmp 154) (.tmp 155) _ _ rfl w.heap.size 5 i0 (.int .u8 0) 1 1 Try.underlying29 hi hz0 hz1 hz2 rfl _ (k + m) (bvs xa2) rfl (own.alloc _) 1 [.int .u8 1] (src_one wr Try.underlying29 _ _ rfl) (by unfold maxLen; omega) (by omega) (by simp; omega) ?_; intro v5 w5 ho5 hg5 hat5))
                have hR5 := hR4.grow 1 (by rw [hx2.out]; exact ho5) hg5 hat5
                have hh5 := headU_snoc hh2 hx2.out
                clear hR4 own ho5 hg5 hat5 hh2
                go_wp2
                go_roundw
                case rel => exact ⟨m + 1, _, by omega, by go_num, by show _ = _; rw [List.length_append, hx2.out]; rfl, hh5, hR5⟩
                case measure => simp [intOf]; omega
              · obtain rfl : m = 40 := by omega
                go_wp2
                obtain ⟨wq, rfl⟩ : ∃ wq : World, wq = wr := ⟨_, rfl⟩
                have hR5 := hR4.swap
                clear hR4 hh
                go_loopw [10, 21] (fun v i wr => ∃ (m : Nat) (xb : List UInt8), m ≤ 40 ∧ i = .int .i64 m ∧ Hid (xb.length = k + m) ∧ headU xb (k + m) 2 ∧ Rows4 w wr v xb u7 xa2 vc vt xc xc) (fun _ i _ => 40 - (intOf i).toNat)
                case atStart => exact ⟨0, xb, by omega, rfl, hxb.out, hhb, hR5⟩
                case round =>
                  obtain ⟨m, xb2, hm, rfl, hx3, hh3, hR6⟩ := hrel
                  clear hR5
                  by_cases hm40 : m < 40
                  · have own := hR6.a
                    rw [hx3.out] at own
                    have hws := hR6.below.size
                    go_wp2_with (first
                      | (at_builtin; refine wpList_app _ rfl (.tmp 161) (.tmp 162) _ _ rfl w.heap.size 5 i0 (.int .u8 0) 1 1 Try.underlying29 hi hz0 hz1 hz2 rfl _ (k + m) (bvs xb2) rfl (own.alloc _) 1 [.int .u8 2] (src_one wr Try.underlying29 _ _ rfl) (by unfold maxLen; omega) (by omega) (by simp; omega) ?_; intro v5 w5 ho5 hg5 hat5))
                    have hR7 := hR6.grow 2 (by rw [hx3.out]; exact ho5) hg5 hat5
                    have hh5 := headU_snoc hh3 hx3.out
                    clear hR6 own ho5 hg5 hat5 hh3
                    go_wp2
                    go_roundw
                    case rel => first | exact ⟨m + 1, _, by omega, by go_num, by show _ = _; rw [List.length_append, hx3.out]; rfl, hh5, hR7⟩ | ((repeat apply Exists.intro); exact ⟨⟨m + 1, _, by omega, by go_num, by show _ = _; rw [List.length_append, hx3.out]; rfl, hh5, hR7⟩, rfl⟩)
                    case measure => simp [intOf]; omega
                  · obtain rfl : m = 40 := by omega
                    obtain ⟨gb, cb, hvb⟩ := hR6.formM hx3.out (by omega)
                    have hR8 := hR6.swap
                    obtain ⟨ga, ca, hva⟩ := hR8.formM hx2.out (by omega)
                    subst hvb hva
                    clear hR6
                    have hR6 := hR8.swap
                    have hab : ga ≠ gb := fun e => hR8.ab ga rfl (by rw [e]; rfl)
                    have sc := run_str_own (P := Try.prog) Try.underlying29 Try.underlying5 hR8.c 9 Try.underlying9
                    have st := run_str_own (P := Try.prog) Try.underlying29 Try.underlying5 hR8.t 9 Try.underlying9
                    go_wp2
                    go_loop [22] (fun i => ∃ q : Nat, q ≤ k + 40 ∧ i = .int .i64 q) (fun i => k + 40 - (intOf i).toNat)
                    case atStart => exact ⟨0, by omega, rfl⟩
                    case round =>
                      obtain ⟨q, hq, rfl⟩ := hrel
                      by_cases hqk : q < k + 40
                      · obtain ⟨⟨b1, e1, k1⟩, _⟩ := hR8.cellN hx2.out q hqk
                        obtain ⟨⟨b2, e2, k2⟩, _⟩ := hR6.cellN hx3.out q hqk
                        have f1 := hh2 q hqk
                        have f2 := hh3 q hqk
                        rw [e1] at f1
                        rw [e2] at f2
                        injection f1 with f1
                        injection f2 with f2
                        subst f1 f2
                        have k1' : wr.cell? ⟨ga, q, none⟩ = some (.int .u8 1) := k1
                        have k2' : wr.cell? ⟨gb, q, none⟩ = some (.int .u8 2) := k2
                        clear k1 k2 e1 e2 hR6 hR8 hh2 hh3
                        go_wp2
                        go_round
                        case rel => exact ⟨q + 1, by omega, by go_num⟩
                        case measure => simp [intOf]; omega
                      · obtain rfl : q = k + 40 := by omega
                        have hbz := hR8.below
                        clear hR6 hR8 hh2 hh3
                        go_wp2
                        go_ret
                        exact ⟨by simp, hbz⟩
  · have hff : fewB l = false := by simpa using hf
    rw [hff]
    clear hf
    go_wp2
    go_ret
    exact ⟨rfl, below_drewN' hb1 nq⟩
#print axioms writes_walk
end Go.Proofs.Ytolpcfhfcdkokaa
