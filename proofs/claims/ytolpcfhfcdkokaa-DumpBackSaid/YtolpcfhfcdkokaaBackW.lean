/-
  DumpBack, the law's walk.
-/
import Derived.Test.YtolpcfhfcdkokaaBack
namespace Go.Proofs.Ytolpcfhfcdkokaa
open Go.RowKit

theorem few_parts {l : List Nd} (h : fewB l = true) : totB l ≤ 2097152 ∧ l.length ≤ 5000 := by simpa [fewB] using h

set_option maxHeartbeats 8000000 in
set_option maxRecDepth 100000 in
theorem back_walk (A1 A2 : Option Addr) (cap1 cap2 : Nat) (l1 l2 : List Nd) (w : World) (hN1 : NodesAt w w.heap.size A1 l1) (hN2 : NodesAt w w.heap.size A2 l2) (hln1 : l1.length ≤ 281474976710656) (hln2 : l2.length ≤ 281474976710656)
    (hbig1 : ∀ x ∈ l1, x.path.size ≤ 140737488351232 ∧ x.same.size ≤ 140737488351232 ∧ x.data.length ≤ 140737488351232)
    (hbig2 : ∀ x ∈ l2, x.path.size ≤ 140737488351232 ∧ x.same.size ≤ 140737488351232 ∧ x.data.length ≤ 140737488351232) :
    Calls Try.prog 5 #[.slice A1 l1.length cap1, .slice A2 l2.length cap2] w fun e w' => e = .returned (.bool true) ∧ Below w.heap.size w w' := by
  go_enter Try.func5, Try.ntmps5
  go_wp2_with fail
  refine (awake_any w).mono ?_
  rintro e w1 ⟨rfl, hb1⟩
  go_wp2_with fail
  refine (few_any A1 cap1 l1 w1 ((hN1.below hb1).more hb1.size) hln1 hbig1).mono ?_
  rintro e w2 ⟨rfl, nq, rfl⟩
  go_wp2_with fail
  refine (few_any A2 cap2 l2 (w1.drewN nq) (((hN2.below hb1).more hb1.size).drewN nq) hln2 hbig2).mono ?_
  rintro e w3 ⟨rfl, nq2, rfl⟩
  have hb3 : Below w.heap.size w ((w1.drewN nq).drewN nq2) := below_drewN' (below_drewN' hb1 nq) nq2
  generalize (w1.drewN nq).drewN nq2 = w3 at *
  by_cases hf1 : fewB l1 = true
  · rw [hf1]
    by_cases hf2 : fewB l2 = true
    · rw [hf2]
      obtain ⟨ht1, hl1⟩ := few_parts hf1
      obtain ⟨ht2, hl2⟩ := few_parts hf2
      have he1 : (encAll l1).length ≤ 10000000 := by have := encAll_tot l1; omega
      have he2 : (encAll l2).length ≤ 10000000 := by have := encAll_tot l2; omega
      have n1 : (0 : Int) ≤ (l1.length : Int) := by omega
      have n2 : (0 : Int) ≤ (l2.length : Int) := by omega
      clear hf1 hf2 hbig1 hbig2 hln1 hln2
      go_wp2_with fail
      -- a
      refine (own_any A1 cap1 l1 w3 ((hN1.below hb3).more hb3.size) hl1 ht1).mono ?_
      rintro e w4 ⟨g1, vb1, bs1, rfl, hL4, hb4⟩
      have hb4' := hb3.trans (hb4.mono hb3.size)
      go_wp2_with fail
      have hca := bytes_any (some ⟨g1, 0, none⟩) (l1.length + 3) (lentL l1 bs1) w4 (lent_nodes hL4) (by rw [(encL l1 bs1).1]; omega) (by rw [lentL_length]; omega)
      rw [lentL_length] at hca
      refine hca.mono ?_
      intro e w5 hB5
      obtain ⟨va, rfl, hoa, hb5⟩ := bts_uni hB5
      rw [outL] at hoa
      rw [errL]
      have hb5' := hb4'.trans (hb5.mono hb4'.size)
      have hz5 := hb5.size
      have hz4 := hb4'.size
      clear hB5 hca hL4 hb4 hb4' hb5 hb1
      go_wp2_with fail
      -- b
      refine (own_any A2 cap2 l2 w5 ((hN2.below hb5').more hb5'.size) hl2 ht2).mono ?_
      rintro e w6 ⟨g2, vb2, bs2, rfl, hL6, hb6⟩
      have hb6' := hb5'.trans (hb6.mono hb5'.size)
      have hoa6 := own_fresh hoa hb6
      go_wp2_with fail
      have hcb := bytes_any (some ⟨g2, 0, none⟩) (l2.length + 3) (lentL l2 bs2) w6 (lent_nodes hL6) (by rw [(encL l2 bs2).1]; omega) (by rw [lentL_length]; omega)
      rw [lentL_length] at hcb
      refine hcb.mono ?_
      intro e w7 hB7
      obtain ⟨vb, rfl, hob, hb7⟩ := bts_uni hB7
      rw [outL] at hob
      rw [errL]
      have hb7' := hb6'.trans (hb7.mono hb6'.size)
      have hoa7 := own_fresh hoa6 hb7
      have hob7 := hob
      have hz6 := hb6.size
      have hz7 := hb7.size
      clear hB7 hcb hL6 hb6 hb6' hb7 hoa6 hb5'
      go_wp2_with fail
      -- all
      refine (own_any A1 cap1 l1 w7 ((hN1.below hb7').more hb7'.size) hl1 ht1).mono ?_
      rintro e w8 ⟨g3, vb3, bs3, rfl, hL8, hb8⟩
      have hb8' := hb7'.trans (hb8.mono hb7'.size)
      have hoa8 := own_fresh hoa7 hb8
      have hob8 := own_fresh hob hb8
      have hd8 : ∀ i (h : i < l1.length), Blk w8 (bs3 i) 5 (bvs l1[i].data ++ mark5) := fun i hi => hL8.mem.data i hi hi
      have hlo8 : ∀ i, i < l1.length → w7.heap.size ≤ bs3 i := fun i hi => by have := hL8.mem.low i hi; have := hL8.gB; omega
      have hs8 := (lent_nodes hL8).sees
      rw [lentL_length] at hs8
      obtain ⟨iN, hiN, hzN0, hzN1, hzN2⟩ := info_parts infoNode
      have hz8 := hb8.size
      go_wp2_with (first
        | (at_builtin; refine wpList_app _ rfl (.tmp 48) (.tmp 53) _ _ rfl w7.heap.size 47 iN _ 5 72 Try.underlying22 hiN hzN0 hzN1 hzN2 rfl (.slice none 0 0) 0 [] rfl (World.ownsRow_nil w8 _ _ _) l1.length (ncs (lentL l1 bs3)) (src_sees w8 Try.underlying22 _ hs8 (ncs_one _)) (by unfold maxLen; omega) (by omega) hz8 ?_; intro v9 w9 ho9 hg9 hat9))
      have hb9 : Below w8.heap.size w8 w9 := (Grows.of_law (Below.refl w8.heap.size w8) hg9 hat9 (Nat.le_refl _)).chg.below (Nat.le_refl _) (fun b _ e => by cases e)
      have hb9' := hb8'.trans (hb9.mono hb8'.size)
      have hz9 := hb9.size
      have hoa9 := own_fresh hoa8 hb9
      have hob9 := own_fresh hob8 hb9
      have hd9 : ∀ i (h : i < l1.length), Blk w9 (bs3 i) 5 (bvs l1[i].data ++ mark5) := fun i hi => (hd8 i hi).fresh hb9
      rw [Nat.zero_add, List.nil_append] at ho9
      have hv9b : ∀ g, v9.ownBlock = some g → w8.heap.size ≤ g := fun g e => by
        rcases hat9 with h | h
        · rw [h] at e; cases e
        · rw [h] at e; injection e with e; omega
      have hlt8 : ∀ i, i < l1.length → bs3 i < w8.heap.size := fun i hi => (hd8 i hi).lt
      clear hL8 hb8 hd8 hs8 hg9 hat9 hb9 hoa8 hob8 hob hb8'
      go_wp2_with fail
      refine (own_any A2 cap2 l2 w9 ((hN2.below hb9').more hb9'.size) hl2 ht2).mono ?_
      rintro e w10 ⟨g4, vb4, bs4, rfl, hL10, hb10⟩
      have hb10' := hb9'.trans (hb10.mono hb9'.size)
      have hoa10 := own_fresh hoa9 hb10
      have hob10 := own_fresh hob9 hb10
      have ho10 := own_fresh ho9 hb10
      have hd10 : ∀ i (h : i < l1.length), Blk w10 (bs3 i) 5 (bvs l1[i].data ++ mark5) := fun i hi => (hd9 i hi).fresh hb10
      have hdd10 : ∀ i (h : i < l2.length), Blk w10 (bs4 i) 5 (bvs l2[i].data ++ mark5) := fun i hi => hL10.mem.data i hi hi
      have hlo10 : ∀ i, i < l2.length → w9.heap.size ≤ bs4 i := fun i hi => by have := hL10.mem.low i hi; have := hL10.gB; omega
      have hs10 := (lent_nodes hL10).sees
      rw [lentL_length] at hs10
      have hz10 := hb10.size
      clear hL10 hb10 hoa9 hob9 hd9
      go_wp2_with (first
        | (at_builtin; refine wpList_app _ rfl (.tmp 55) (.tmp 60) _ _ rfl w7.heap.size 47 iN _ 5 72 Try.underlying22 hiN hzN0 hzN1 hzN2 rfl v9 l1.length (ncs (lentL l1 bs3)) rfl ho10 l2.length (ncs (lentL l2 bs4)) (src_sees w10 Try.underlying22 _ hs10 (ncs_one _)) (by unfold maxLen; omega) (by omega) (by omega) ?_; intro v11 w11 ho11 hg11 hat11))
      have hC11 := (Grows.of_law (Below.refl w10.heap.size w10) hg11 hat11 (Nat.le_refl _)).chg
      have hv9 : ∀ g, v9.ownBlock = some g → w7.heap.size ≤ g ∧ g < w9.heap.size := fun g e => ho9.lt g e
      have hz11 := hC11.size
      have hAll : AllAt w11 w7.heap.size v11 l1 bs3 l2 bs4 :=
        ⟨ho11, fun i hi => (hd10 i hi).chg hC11 (fun e => by have := hv9b _ e; have := hlt8 i hi; omega), fun i hi => (hdd10 i hi).chg hC11 (fun e => by have := (hv9 _ e).2; have := hlo10 i hi; omega), hlo8, fun i hi => by have := hlo10 i hi; omega⟩
      have hb11 : Below w7.heap.size w10 w11 := hC11.below (by omega) (fun b hb e => by have := (hv9 _ e).1; omega)
      have hoa11 := own_below hoa10 hb11 (fun g e => by have := (hoa7.lt g e).2; omega)
      have hob11 := own_below hob10 hb11 (fun g e => by have := (hob7.lt g e).2; omega)
      have hb11' := hb10'.trans (hb11.mono (by have := hb7'.size; omega))
      clear ho11 hg11 hat11 hC11 hb11 hoa10 hob10 hd10 hdd10 hs10 hv9 hv9b hlt8 hlo8 hlo10 ho9 ho10 hb10' hb9'
      obtain ⟨Aa, ca, rfl, hNa⟩ := hAll.nodes
      have hLl : (lentL l1 bs3 ++ lentL l2 bs4).length = l1.length + l2.length := by rw [List.length_append, lentL_length, lentL_length]
      have hLe := all_enc l1 l2 bs3 bs4
      have hLo := all_ok l1 l2 bs3 bs4
      generalize hL : lentL l1 bs3 ++ lentL l2 bs4 = L at hNa hLl hLe hLo
      go_wp2_with fail
      have hcc := bytes_any Aa ca L w11 hNa (by rw [hLe, List.length_append]; omega) (by omega)
      rw [hLl] at hcc
      refine hcc.mono ?_
      intro e w12 hB12
      obtain ⟨vc, rfl, hoc, hb12⟩ := bts_uni hB12
      have hoa12 := own_fresh hoa11 hb12
      have hob12 := own_fresh hob11 hb12
      have hAll12 := hAll.fresh hb12
      have hb12' := hb11'.trans (hb12.mono hb11'.size)
      have hz12 := hb12.size
      clear hcc hB12 hoa11 hob11 hb11' hAll hNa hb12
      by_cases hok1 : ∀ x ∈ l1, ndOk x
      · by_cases hok2 : ∀ x ∈ l2, ndOk x
        · have hokL := hLo.2 ⟨hok1, hok2⟩
          rw [show errB l1 = 0 from if_pos hok1, show errB l2 = 0 from if_pos hok2, show errB L = 0 from if_pos hokL]
          rw [show outB l1 = encAll l1 from if_pos hok1] at hoa12
          rw [show outB l2 = encAll l2 from if_pos hok2] at hob12
          rw [show outB L = encAll L from if_pos hokL, hLe, List.length_append] at hoc
          have hrs := read_some hokL
          have hlea : (encAll l1).length ≤ 10000000 := he1
          obtain ⟨Ac, cc, rfl, _, _⟩ := own_cap hoc
          obtain ⟨Ava, cva, rfl, _, _⟩ := own_cap hoa12
          obtain ⟨Avb, cvb, rfl, _, _⟩ := own_cap hob12
          obtain ⟨i0, hi, hz0, hz1, hz2⟩ := info_parts infoU8
          have hLlen : (encAll L).length = (encAll l1).length + (encAll l2).length := by rw [hLe, List.length_append]
          clear hok1 hok2 hLo hoc
          go_wp2_with (first
            | (at_builtin; refine wpList_app _ rfl (.tmp 84) (.tmp 85) _ _ rfl w4.heap.size 5 i0 (.int .u8 0) 1 1 Try.underlying29 hi hz0 hz1 hz2 rfl (.slice Ava (encAll l1).length cva) (encAll l1).length (bvs (encAll l1)) rfl hoa12 (encAll l2).length (bvs (encAll l2)) (src_own Try.underlying29 hob12 (bvs_one _)) (by unfold maxLen; omega) (by omega) (by omega) ?_; intro v13 w13 ho13 hg13 hat13))
          have hC13 := (Grows.of_law (Below.refl w12.heap.size w12) hg13 hat13 (Nat.le_refl _)).chg
          have hz13 := hC13.size
          have hva : ∀ b, (Value.slice Ava (encAll l1).length cva).ownBlock = some b → w4.heap.size ≤ b ∧ b < w7.heap.size := fun b e => hoa7.lt b e
          have hAll13 := hAll12.chg hC13 (fun b hb _ e => by have := (hva b e).2; omega)
          have hb13' := hb12'.trans (hC13.below (by omega) (fun b hb e => by have := (hva b e).1; omega))
          rw [← bvs_append, ← hLe, ← hLlen] at ho13
          clear hg13 hat13 hC13 hva hoa12 hob12 hoa7 hob7 hoa hAll12 hb12'
          obtain ⟨A13, c13, rfl, hc13, hs13⟩ := own_cap ho13
          refine (read_any A13 c13 (encAll L) w13 hs13 hc13 (by omega)).mono ?_
          rintro e w14 ⟨⟨l, v14, hrl, hnn, rfl, hO14⟩ | ⟨hrn, _⟩, hb14⟩
          case inr => rw [hrs] at hrn; cases hrn
          obtain ⟨hll, hsm⟩ := read_same hokL hrl hnn
          have hAll14 := hAll13.fresh hb14
          have hN14 := hAll14.nodesAt
          rw [hL] at hN14
          have hb14' := hb13'.trans (hb14.mono (by omega))
          obtain ⟨A14, c14, rfl, hNl⟩ := hO14.nodes
          clear hrs hrl hnn hokL hO14 hAll13 hAll14 ho13 hs13 hb14 hb13' hL hLe
          go_wp2_with fail
          try rw [← hLl]
          try rw [hll]
          have hcs := same_true A14 Aa c14 ca l L w14 hNl hN14 hll.symm (by omega) hsm
          rw [hll] at hcs
          refine hcs.mono ?_
          rintro e w15 ⟨rfl, hb15⟩
          have hb15' := hb14'.trans (hb15.mono hb14'.size)
          clear hcs hNl hN14 hsm hll hLl hLlen hb15 hb14'
          go_wp2
          go_ret
          exact ⟨rfl, hb15'⟩
        · have hokL : ¬ ∀ x ∈ L, ndOk x := fun h => hok2 (hLo.1 h).2
          rw [show errB l1 = 0 from if_pos hok1, show errB l2 = 170 from if_neg hok2, show errB L = 170 from if_neg hokL]
          rw [show outB L = [] from if_neg hokL] at hoc
          obtain ⟨Ac, cc, rfl, _, _⟩ := own_cap hoc
          clear hok1 hok2 hokL hLo hLe
          go_wp2
          go_ret
          exact ⟨rfl, hb12'⟩
      · have hokL : ¬ ∀ x ∈ L, ndOk x := fun h => hok1 (hLo.1 h).1
        rw [show errB l1 = 170 from if_neg hok1, show errB L = 170 from if_neg hokL]
        rw [show outB L = [] from if_neg hokL] at hoc
        obtain ⟨Ac, cc, rfl, _, _⟩ := own_cap hoc
        clear hok1 hokL hLo hLe
        go_wp2
        go_ret
        exact ⟨rfl, hb12'⟩
    · have hff : fewB l2 = false := by simpa using hf2
      rw [hff]
      clear hf1 hf2 hff
      go_wp2
      go_ret
      exact ⟨rfl, hb3⟩
  · have hff : fewB l1 = false := by simpa using hf1
    rw [hff]
    clear hf1 hff
    go_wp2
    go_ret
    exact ⟨rfl, hb3⟩
#print axioms back_walk
end Go.Proofs.Ytolpcfhfcdkokaa
