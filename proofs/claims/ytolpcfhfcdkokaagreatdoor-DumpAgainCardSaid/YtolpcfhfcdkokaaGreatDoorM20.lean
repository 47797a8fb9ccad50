/- Joined out of the texts PRead, PWLaw. -/
import Derived.IntWalk
import Derived.Test.YtolpcfhfcdkokaaGreatDoorM05
import Derived.Test.YtolpcfhfcdkokaaGreatDoorM19
/-
  The tree in memory: read.
-/
namespace Go.Proofs.YtolpcfhfcdkokaaGreatDoor
open Go.RowKit Go.Proofs
open Go.Maps (Keyed)

/-! ### The plain law -/
def blkOf (d : List (Nat × List UInt8)) (k : Nat) : List UInt8 := (getS k d).getD zSec
def byteAt (d : List (Nat × List UInt8)) (q : Nat) : UInt8 := (blkOf d (q / 128)).getD (q % 128) 0
def rdL (d : List (Nat × List UInt8)) (off m : Nat) : List UInt8 := (List.range m).map fun j => byteAt d (off + j)
def PN.read (n : PN) (off most : Int) : Ans :=
  if off < 0 ∨ most < 0 ∨ 131072 < most then .err 101 else if (n.size : Int) ≤ off then ⟨0, st0, [], []⟩ else ⟨0, st0, rdL n.data off.toNat (min most.toNat (n.size - off.toNat)), []⟩
theorem rdL_length (d : List (Nat × List UInt8)) (off m : Nat) : (rdL d off m).length = m := by simp [rdL]
theorem rdL_take (d : List (Nat × List UInt8)) (off m k : Nat) (h : k ≤ m) : (rdL d off m).take k = rdL d off k := by
  unfold rdL
  rw [← List.map_take, List.take_range, Nat.min_eq_left h]
theorem blkOf_len {n : PN} (hn : n.Ok) (k : Nat) : (blkOf n.data k).length = 128 := by
  unfold blkOf
  cases hg : getS k n.data with
  | none => exact zSec_length
  | some s => exact hn.secs _ (mem_of_getS hg)
theorem rdL_chunk (d : List (Nat × List UInt8)) (off a mm : Nat) (hl : (blkOf d ((off + a) / 128)).length = 128) (h : (off + a) % 128 + mm ≤ 128) :
    rdL d off (a + mm) = rdL d off a ++ ((blkOf d ((off + a) / 128)).drop ((off + a) % 128)).take mm := by
  apply List.ext_getElem
  · rw [List.length_append, List.length_take, List.length_drop, rdL_length, rdL_length, hl]; omega
  · intro i h1 h2
    rw [rdL_length] at h1
    by_cases hi : i < a
    · rw [List.getElem_append_left (by rw [rdL_length]; exact hi)]
      simp [rdL]
    · rw [List.getElem_append_right (by rw [rdL_length]; omega)]
      simp only [rdL, List.getElem_map, List.getElem_range, List.getElem_take, List.getElem_drop, List.length_map, List.length_range]
      unfold byteAt
      have e1 : (off + i) / 128 = (off + a) / 128 := by omega
      have e2 : (off + i) % 128 = (off + a) % 128 + (i - a) := by omega
      rw [e1, e2, List.getD_eq_getElem?_getD, List.getElem?_eq_getElem (by rw [hl]; omega)]
      rfl
theorem splice_chunk (d : List (Nat × List UInt8)) (off m a mm : Nat) (ham : a + mm ≤ m) (hl : (blkOf d ((off + a) / 128)).length = 128) (h : (off + a) % 128 + mm ≤ 128) :
    splice (bvs (rdL d off a) ++ List.replicate (m - a) (Value.int .u8 0)) a (bvs (((blkOf d ((off + a) / 128)).drop ((off + a) % 128)).take mm)) = bvs (rdL d off (a + mm)) ++ List.replicate (m - (a + mm)) (Value.int .u8 0) := by
  have hcl : (bvs (((blkOf d ((off + a) / 128)).drop ((off + a) % 128)).take mm)).length = mm := by rw [bvs_length, List.length_take, List.length_drop, hl]; omega
  have hal : (bvs (rdL d off a)).length = a := by rw [bvs_length, rdL_length]
  unfold splice
  rw [hcl, List.take_append_of_le_length (by omega), List.take_of_length_le (by omega), rdL_chunk d off a mm hl h, bvs_append, List.append_assoc]
  congr 2
  rw [List.drop_append, hal, List.drop_eq_nil_of_le (by omega), List.nil_append, List.drop_replicate]
  congr 1
  omega
theorem zSecV (w : World) : (zeroValue 187).run Tryz.prog w = .ok (secV zSec) w := by kernel_rfl
/-- 'out[at:]' of a whole row of bytes. -/
theorem slice_out (w : World) (o m l : Nat) (L : Int) (h : L = (l : Int)) (hl : l < m) : (Instr.sliceAt 64 (.slice (some ⟨o, 0, none⟩) m m) (some (.int .i64 L)) none none).run Tryz.prog w = .ok (.slice (some ⟨o, l, none⟩) (m - l) (m - l)) w := by
  subst h
  have hu : Tryz.prog.underlying 64 = some (.slice (Tryz.prog.elem 64)) := by kernel_rfl
  have hs : (sizeOf (Tryz.prog.elem 64)).run Tryz.prog w = .ok 1 w := by kernel_rfl
  rw [run_sliceAt_slice w 64 _ _ _ _ hu, run_slice_l w 64 (some ⟨o, 0, none⟩) m m hu .i64 l (by omega) (by omega), hs]
  have hne : ¬ m = l := by omega
  simp [Result.andThen, sliced, hne, Addr.add_lit]
set_option maxHeartbeats 3200000 in
set_option maxRecDepth 100000 in
theorem pread_any (a : NA) (n : PN) (db : Nat) (off most : Int) (w : World) (h : PnAt w a n) (hn : n.Ok) (hdb : a.d = some db) (hoff : off ≤ 9223372036854775807 ∧ -9223372036854775808 ≤ off) (hmost : most ≤ 9223372036854775807 ∧ -9223372036854775808 ≤ most) :
    Calls Tryz.prog 108 #[ptrV a.nb, .int .i64 off, .int .i64 most] w fun e w' => (∃ v, e = .returned v ∧ AnsAt w' v (n.read off most)) ∧ Below w.heap.size w w' := by
  have hb0 : Below w.heap.size w (w.alloc (.cells zAns.toArray 67)) := (Below.refl _ _).alloc (Nat.le_refl _) _
  have hZ0 := Blk.new w 67 zAns
  have hP0 : PnAt (w.alloc (.cells zAns.toArray 67)) a n := h.chg (Chg.of_fresh (S := fun _ => False) hb0) id (fun _ _ h => h) (fun _ _ h => h) (fun _ _ h => h)
  have hu := PN.read.eq_1 n off most
  have hnz := hn.size
  unfold ptrV
  clear h
  go_enter Tryz.func108, Tryz.ntmps108
  go_upto_region 1 with (fail)
  replace hZ0 : Blk (w.alloc (.cells zAns.toArray 67)) w.heap.size 67 zAns := hZ0
  have hsz0 : (w.alloc (.cells zAns.toArray 67)).heap.size = w.heap.size + 1 := by simp
  generalize w.alloc (.cells zAns.toArray 67) = w0 at *
  generalize hgg : w.heap.size = g at *
  have hgH := Lib.hid hgg
  have hbH := Lib.hid hb0
  have c2 := hP0.c2
  clear hgg hb0
  by_cases hbad : off < 0 ∨ most < 0 ∨ 131072 < most
  · rw [if_pos hbad] at hu
    have huH := Lib.hid hu
    clear hu
    by_cases h1 : off < 0
    case' pos => have t1 : decide (off < 0) = true := by simpa using h1
    case' neg =>
      have t1 : decide (off < 0) = false := by simpa using h1
      by_cases h2 : most < 0
      case' pos => have t2 : decide (most < 0) = true := by simpa using h2
      case' neg =>
        have t2 : decide (most < 0) = false := by simpa using h2
        have t3 : decide (131072 < most) = true := by simp; omega
    all_goals
      clear hbad
      go_wp2_with (first | (refine wpList_store_row rfl 67 (.tmp 6) (.tmp 22) rfl g (ansC 101 st0 nilS nilS).toArray rfl (by rfl) 67 _ hZ0 rfl rfl (one10 _ _) ?_))
      have hrow := setRow_heap w0 g _ (ansC 101 st0 nilS nilS).toArray _ _ hZ0
      refine bodyPost_ret (results_cell_row rfl _ _ g 67 (ansC 101 st0 nilS nilS).toArray (0, 0) _ rfl hrow Tryz.underlying67 rfl rfl) rfl ⟨⟨_, rfl, ?_⟩, ?_⟩
      · rw [huH.out]; exact ansAt_plain _ (.err 101) rfl rfl
      · rw [hgH.out]
        exact hbH.out.trans (((Chg.refl (fun b => b = g) w0).setRow (fun _ => rfl) _).below (by omega) fun b hb e => by omega)
  · rw [if_neg hbad] at hu
    have t1 : decide (off < 0) = false := by simp; omega
    have t2 : decide (most < 0) = false := by simp; omega
    have t3 : decide (131072 < most) = false := by simp; omega
    have hm131 : most ≤ 131072 := by omega
    obtain ⟨of, rfl⟩ : ∃ of : Nat, off = (of : Int) := ⟨off.toNat, by omega⟩
    obtain ⟨mo, rfl⟩ : ∃ mo : Nat, most = (mo : Int) := ⟨most.toNat, by omega⟩
    clear hbad
    by_cases hend : (n.size : Int) ≤ (of : Int)
    · rw [if_pos hend] at hu
      have huH := Lib.hid hu
      have t4 : decide (n.size ≤ of) = true := by simp; omega
      clear hu hend
      go_wp2_with (first | (refine wpList_store_row rfl 67 (.tmp 6) (.tmp 29) rfl g (ansC 0 st0 nilS nilS).toArray rfl (by rfl) 67 _ hZ0 rfl rfl (one10 _ _) ?_))
      have hrow := setRow_heap w0 g _ (ansC 0 st0 nilS nilS).toArray _ _ hZ0
      refine bodyPost_ret (results_cell_row rfl _ _ g 67 (ansC 0 st0 nilS nilS).toArray (0, 0) _ rfl hrow Tryz.underlying67 rfl rfl) rfl ⟨⟨_, rfl, ?_⟩, ?_⟩
      · rw [huH.out]; exact ansAt_plain _ ⟨0, st0, [], []⟩ rfl rfl
      · rw [hgH.out]
        exact hbH.out.trans (((Chg.refl (fun b => b = g) w0).setRow (fun _ => rfl) _).below (by omega) fun b hb e => by omega)
    · rw [if_neg hend] at hu
      have t4 : decide (n.size ≤ of) = false := by simp; omega
      simp only [Int.toNat_natCast] at hu
      obtain ⟨m, hm⟩ : ∃ m, min mo (n.size - of) = m := ⟨_, rfl⟩
      rw [hm] at hu
      have huH := Lib.hid hu
      have hmin : min (mo : Int) ((n.size : Int) - of) = (m : Int) := by omega
      have hmle : m ≤ 131072 := by omega
      have hofm : of + m ≤ 136704 := by omega
      have hmH := Lib.hid hm
      obtain ⟨i0, hi, hz0, hz1, hz2⟩ := info_parts infoU8
      clear hu hend hm
      go_upto_region 6 with (first
        | (at_make; refine wpList_make_full _ rfl (.tmp 37) (.tmp 37) _ rfl (g + 1) 5 i0 _ 1 Tryz.underlying64 hi hz0 hz1 .i64 .i64 (m : Int) (m : Int) m rfl rfl rfl rfl (by rw [hz2]; omega) (by unfold maxLen; omega) (by omega) ?_; intro w1 ho1 hg1; have hz5 : Blk w1 w0.heap.size 5 (List.replicate m (.int .u8 0)) := (by (have h9 := own_full ho1; rw [toList_madeCells_flat _ rfl] at h9; exact h9))))
      have hB1 : Below (g + 1) w0 w1 := ((Chg.refl (fun _ => False) w0).grown hg1 (by intro g' e; simp at e)).below (by omega) fun _ _ e => e
      rw [hsz0] at hz5
      have hz5' : Blk w1 (g + 1) 5 (bvs (rdL n.data of 0) ++ List.replicate (m - 0) (.int .u8 0)) := by simpa [rdL, bvs] using hz5
      have hz5H := Lib.hid hz5'
      have hB1H := Lib.hid hB1
      have hmap := hP0.data
      rw [hdb] at hmap
      have hmap' : MapAt w0 natK secV 3 db n.data := hmap
      have hdlt := hmap'.lt
      have hmapH := Lib.hid hmap'
      have c4 := hP0.c4
      rw [hdb] at c4
      have hnlt := hP0.blk.lt
      have hnH := Lib.hid hn
      clear ho1 hg1 hz5 hz5' hB1 hmap hmap' hP0 c2 hn hnz
      go_wp2_with (fail)
      go_loopw [8, 9, 10, 11] (fun i _ _ _ wr => ∃ ix : Nat, ix ≤ m ∧ i = .int .i64 ix ∧ Hid (Blk wr (g + 1) 5 (bvs (rdL n.data of ix) ++ List.replicate (m - ix) (.int .u8 0))) ∧ Hid (Below (g + 1) w0 wr)) (fun i _ _ _ _ => m - (intOf i).toNat)
      case atStart => exact ⟨0, by omega, rfl, hz5H, hB1H⟩
      case round =>
        obtain ⟨ix, hix, rfl, hxb, hxB⟩ := hrel
        clear hz5H hB1H
        have x4 : wr.cell? ⟨a.nb, 4, none⟩ = some (.map (some db)) := ((Chg.of_below hxB.out).cell (p := ⟨a.nb, 4, none⟩) hnlt (by simp; omega)).trans c4
        by_cases hlt : ix < m
        · have t5 : decide ((ix : Int) < (m : Int)) = true := by simpa using hlt
          obtain ⟨k, hkE⟩ : ∃ k, (of + ix) / 128 = k := ⟨_, rfl⟩
          obtain ⟨fr, hfE⟩ : ∃ fr, (of + ix) % 128 = fr := ⟨_, rfl⟩
          have hq : ((of : Int) + ix) / 128 = (k : Int) := by omega
          have hr : ((of : Int) + ix) % 128 = (fr : Int) := by omega
          have hk : k ≤ 1067 := by omega
          have hfr : fr < 128 := by omega
          have hltH := Lib.hid hlt
          have hkH := Lib.hid hkE
          have hfH := Lib.hid hfE
          have hmr := Lib.hid (hmapH.out.chg (Chg.of_below hxB.out) (by omega))
          have hbl : (blkOf n.data k).length = 128 := blkOf_len hnH.out k
          obtain ⟨bk, hbk⟩ : ∃ bk, blkOf n.data k = bk := ⟨_, rfl⟩
          rw [hbk] at hbl
          have hv : orV secV (secV zSec) (getS k n.data) = .agg (bvs bk).toArray := by rw [← hbk]; unfold blkOf; cases getS k n.data <;> rfl
          have hbkH := Lib.hid hbk
          have hS2 : Blk (wr.alloc (.cells Tryz.zeroCells187 187)) wr.heap.size 187 (bvs zSec) := blk_zero rfl
          clear hlt hkE hfE hbk
          go_upto_region 9 with (fail)
          rw [hq, hr]
          clear hq hr
          go_upto_region 10 with (first
            | (at_lookup; refine wpList_mlook _ rfl (.tmp 54) (.tmp 55) 107 rfl kInt Tryz.underlying107 (zSecV _) hmr.out rfl k rfl (keyN k (by omega)) _ hv ?_)
            | (refine wpList_store_row rfl 187 (.tmp 11) (.tmp 56) rfl wr.heap.size (bvs bk).toArray rfl (by rfl) 187 _ hS2 (sec_size hbl) (by rw [List.size_toArray, List.size_toArray, bvs_length, bvs_length, zSec_length, hbl]) (secs_one bk) ?_))
          have hS3 : Blk ((wr.alloc (.cells Tryz.zeroCells187 187)).setRow wr.heap.size (bvs bk).toArray) wr.heap.size 187 (bvs bk) := setRow_heap _ _ _ _ _ _ hS2
          have hC3 : Chg (fun b => wr.heap.size ≤ b) wr ((wr.alloc (.cells Tryz.zeroCells187 187)).setRow wr.heap.size (bvs bk).toArray) := ((Chg.refl _ wr).alloc _).setRow (fun _ => Nat.le_refl _) _
          have hgz : g + 1 < wr.heap.size := hxb.out.lt
          have hx3 := Lib.hid (hxb.out.chg hC3 (by omega))
          have hB3 := Lib.hid (hxB.out.trans (hC3.below (B := g + 1) (by omega) fun b hb h => by omega))
          clear hS2 hC3 hxb hxB hmr x4
          generalize (wr.alloc (.cells Tryz.zeroCells187 187)).setRow wr.heap.size (bvs bk).toArray = w3 at *
          generalize wr.heap.size = z at *
          obtain ⟨mm, hmm⟩ : ∃ mm, min (128 - fr) (m - ix) = mm := ⟨_, rfl⟩
          have hmm1 : fr + mm ≤ 128 := by omega
          have hmm2 : ix + mm ≤ m := by have := hltH.out; omega
          have hmm3 : 0 < mm := by have := hltH.out; omega
          have hcl : (bvs ((bk.drop fr).take mm)).length = mm := by rw [bvs_length, List.length_take, List.length_drop, hbl]; omega
          obtain ⟨cs, hcs⟩ : ∃ cs, bvs ((bk.drop fr).take mm) = cs := ⟨_, rfl⟩
          rw [hcs] at hcl
          have hS3d : Blk w3.drew z 187 (bvs bk) := hS3
          have hx3d : Blk w3.drew (g + 1) 5 (bvs (rdL n.data of ix) ++ List.replicate (m - ix) (.int .u8 0)) := hx3.out
          have hsrc : ∀ (j : Nat) (v : Value), cs[j]? = some v → w3.drew.cell? ((⟨z, fr, none⟩ : Addr).add j) = some v := by
            intro j v hj
            rw [Addr.add_lit, hS3d.cell, ← hj, ← hcs]
            have hjm : j < mm := by have := (List.getElem?_eq_some_iff.1 hj).1; omega
            simp only [bvs, List.getElem?_map, List.getElem?_take, List.getElem?_drop, if_pos hjm]
          have h1cs : ∀ v ∈ cs, v.oneCell' = true := by rw [← hcs]; exact bvs_one _
          have hspl : splice (bvs (rdL n.data of ix) ++ List.replicate (m - ix) (Value.int .u8 0)) ix cs = bvs (rdL n.data of (ix + mm)) ++ List.replicate (m - (ix + mm)) (Value.int .u8 0) := by
            have := splice_chunk n.data of m ix mm hmm2 (by rw [hkH.out, hbkH.out]; exact hbl) (by rw [hfH.out]; exact hmm1)
            rw [hkH.out, hfH.out, hbkH.out, hcs] at this
            exact this
          have hfit : ix + cs.length ≤ (bvs (rdL n.data of ix) ++ List.replicate (m - ix) (Value.int .u8 0)).length := by rw [hcl, List.length_append, bvs_length, rdL_length, List.length_replicate]; omega
          have hsplH := Lib.hid hspl
          have hso : ∀ W : World, (Instr.sliceAt 64 (.slice (some ⟨g + 1, 0, none⟩) m m) (some (.int .i64 (ix : Int))) none none).run Tryz.prog W = .ok (.slice (some ⟨g + 1, ix, none⟩) (m - ix) (m - ix)) W := fun W => slice_out W _ _ _ _ rfl hltH.out
          have hse : ∀ W : World, (Instr.sliceAt 187 (.pointer (some ⟨z, 0, none⟩)) (some (.int .i64 (fr : Int))) none none).run Tryz.prog W = .ok (.slice (some ⟨z, fr, none⟩) (128 - fr) (128 - fr)) W := fun W => slice_sec W _ _ _ rfl hfr
          have hmn := Lib.hid (show cs.length = Nat.min (128 - fr) (m - ix) by rw [hcl]; exact hmm.symm)
          have hwr : IntKind.i64.wrap ((ix : Int) + (mm : Int)) = ((ix + mm : Nat) : Int) := by rw [IntWalk.i64_in _ (by omega)]; omega
          clear hspl hmm hcs
          have hi1 : (Tryz.prog.info? 5).map (·.size) = some 1 := by kernel_rfl
          go_region_law (refine step_copy_splice rfl (.tmp 60) (.tmp 62) 64 64 rfl 5 Tryz.underlying64 hi1 _ _ (m - ix) (m - ix) (128 - fr) (128 - fr) rfl rfl (g + 1) ix _ 5 hx3d cs hmn.out (fun _ => ⟨rfl, _, rfl, hsrc⟩) hfit h1cs (g + 1) w0 ⟨hB3.out.os, hB3.out.tape, hB3.out.output, hB3.out.size, hB3.out.block⟩ (Nat.le_refl _) ?_; intro w5 HG5 hB5; have hx5 : Hid (Blk w5 (g + 1) 5 (bvs (rdL n.data of (ix + mm)) ++ List.replicate (m - (ix + mm)) (.int .u8 0))) := (by (have h9 := HG5.out; rw [hsplH.out] at h9; exact h9)); have hB5H := Lib.hid hB5; rw [hcl]; clear HG5 hB5)
          simp only [List.getElem_toArray, List.getElem_cons_succ, List.getElem_cons_zero]
          go_frame
          refine ⟨?_, ?measure⟩
          · repeat apply Exists.intro
            refine ⟨?_, rfl⟩
            exact ⟨ix + mm, hmm2, by go_num, hx5, hB5H⟩
          case measure =>
            simp [intOf]
            omega
        · obtain rfl : ix = m := by omega
          have t5 : decide ((ix : Int) < (ix : Int)) = false := by simp
          have hEnd := Lib.hid (show Blk wr (g + 1) 5 (bvs (rdL n.data of ix)) by simpa using hxb.out)
          have hZr := hZ0.below hxB.out (by omega)
          clear hxb
          go_wp2_with (first | (refine wpList_store_row rfl 67 (.tmp 6) (.tmp 66) rfl g (ansC 0 st0 (.slice (some ⟨g + 1, 0, none⟩) ix ix) nilS).toArray rfl (by rfl) 67 _ hZr rfl rfl (one10s 0 st0 _ _ _ none 0 0) ?_))
          have hrow := setRow_heap wr g _ (ansC 0 st0 (.slice (some ⟨g + 1, 0, none⟩) ix ix) nilS).toArray _ _ hZr
          refine bodyPost_ret (results_cell_row rfl _ _ g 67 (ansC 0 st0 (.slice (some ⟨g + 1, 0, none⟩) ix ix) nilS).toArray (0, 0) _ rfl hrow Tryz.underlying67 rfl rfl) rfl ⟨⟨_, rfl, ?_⟩, ?_⟩
          · rw [huH.out]
            have hE2 := hEnd.out.chg ((Chg.refl (fun b => b = g) wr).setRow (fun _ => rfl) (ansC 0 st0 (.slice (some ⟨g + 1, 0, none⟩) ix ix) nilS).toArray) (by omega)
            refine ⟨some ⟨g + 1, 0, none⟩, ix, none, 0, ?_, ?_, ?_⟩
            · rw [rdL_length]; rfl
            · rw [rdL_length]
              exact ⟨by rw [bvs_length, rdL_length, Nat.mul_one], fun _ => ⟨g + 1, 0, rfl, hE2.lt, fun j u hu => by rw [Nat.zero_add, hE2.cell]; exact hu⟩⟩
            · exact Sees.nil
          · rw [hgH.out]
            exact (hbH.out.trans (hxB.out.mono (by omega))).trans (((Chg.refl (fun b => b = g) wr).setRow (fun _ => rfl) _).below (by have := hxB.out.size; omega) fun b hb e => by omega)
#print axioms pread_any
end Go.Proofs.YtolpcfhfcdkokaaGreatDoor
/-
  Bytes written into a file: the plain law.
-/
namespace Go.Proofs.YtolpcfhfcdkokaaGreatDoor
open Go.RowKit Go.Proofs
open Go.Maps (Keyed)

abbrev Dat := List (Nat × List UInt8)
/-- One byte written at place q. -/
def wr1 (d : Dat) (q : Nat) (b : UInt8) : Dat := putS natK (q / 128) ((blkOf d (q / 128)).set (q % 128) b) d
/-- Bytes written from place q on. -/
def wrB (d : Dat) (q : Nat) : List UInt8 → Dat
  | [] => d
  | b :: bs => wrB (wr1 d q b) (q + 1) bs
theorem wrB_append (d : Dat) (q : Nat) (xs ys : List UInt8) : wrB d q (xs ++ ys) = wrB (wrB d q xs) (q + xs.length) ys := by
  induction xs generalizing d q with
  | nil => rfl
  | cons x xs ih => simp only [List.cons_append, wrB, ih, List.length_cons]; congr 1; omega
theorem blkOf_put (d : Dat) (k : Nat) (s : List UInt8) : blkOf (putS natK k s d) k = s := by simp [blkOf, getS_put_same]
theorem blkOf_put_other (d : Dat) {k j : Nat} (h : j ≠ k) (s : List UInt8) : blkOf (putS natK k s d) j = blkOf d j := by simp [blkOf, getS_put_other natK s h]
theorem splice_snoc (s cs : List UInt8) (fr : Nat) (b : UInt8) (h : fr + cs.length < s.length) : (splice s fr cs).set (fr + cs.length) b = splice s fr (cs ++ [b]) := by
  unfold splice
  apply List.ext_getElem
  · simp; omega
  · intro i h1 h2
    rw [List.getElem_set]
    simp only [List.getElem_append, List.length_take, List.length_append, List.length_cons, List.length_nil, List.getElem_take, List.getElem_drop, List.getElem_cons]
    simp only [List.length_set, List.length_append, List.length_take, List.length_drop] at h1
    have hm : min fr s.length = fr := by omega
    simp only [hm]
    split
    · rename_i e
      subst e
      rw [dif_neg (by omega), dif_pos (by omega), dif_neg (by omega)]
      simp
    · rename_i e
      by_cases a1 : i < fr
      · rw [dif_pos a1, dif_pos a1]
      · rw [dif_neg a1, dif_neg a1]
        by_cases a2 : i - fr < cs.length
        · rw [dif_pos a2, dif_pos (by omega), dif_pos a2]
        · rw [dif_neg a2, dif_neg (by omega)]
          congr 1
          omega
/-- A chunk within one block. -/
theorem wrB_chunk (d : Dat) (q : Nat) (cs : List UInt8) (h0 : 0 < cs.length) (hl : (blkOf d (q / 128)).length = 128) (h : q % 128 + cs.length ≤ 128) :
    wrB d q cs = putS natK (q / 128) (splice (blkOf d (q / 128)) (q % 128) cs) d := by
  obtain ⟨xs, b, rfl⟩ : ∃ xs b, cs = xs ++ [b] := ⟨cs.dropLast, cs.getLast (List.ne_nil_of_length_pos h0), (List.dropLast_concat_getLast _).symm⟩
  clear h0
  induction hn : xs.length generalizing xs b with
  | zero =>
    obtain rfl := List.eq_nil_of_length_eq_zero hn
    simp only [List.nil_append, wrB, wr1]
    congr 1
    unfold splice
    rw [List.set_eq_take_append_cons_drop, if_pos (by simp at h; omega)]
    simp
  | succ n ih =>
    obtain ⟨ys, c, rfl⟩ : ∃ ys c, xs = ys ++ [c] := ⟨xs.dropLast, xs.getLast (List.ne_nil_of_length_pos (by omega)), (List.dropLast_concat_getLast _).symm⟩
    simp only [List.length_append, List.length_cons, List.length_nil] at h hn
    rw [wrB_append, ih ys c (by simp; omega) (by omega)]
    have e1 : (q + (ys ++ [c]).length) / 128 = q / 128 := by simp; omega
    have e2 : (q + (ys ++ [c]).length) % 128 = q % 128 + (ys ++ [c]).length := by simp; omega
    simp only [wrB, wr1, e1, e2]
    rw [blkOf_put, putS_put, splice_snoc _ _ _ _ (by simp; omega)]
theorem wrB_take (d : Dat) (off : Nat) (ds : List UInt8) (a mm : Nat) (h : a + mm ≤ ds.length) (h0 : 0 < mm) (hl : (blkOf (wrB d off (ds.take a)) ((off + a) / 128)).length = 128) (hf : (off + a) % 128 + mm ≤ 128) :
    wrB d off (ds.take (a + mm)) = putS natK ((off + a) / 128) (splice (blkOf (wrB d off (ds.take a)) ((off + a) / 128)) ((off + a) % 128) ((ds.drop a).take mm)) (wrB d off (ds.take a)) := by
  rw [List.take_add, wrB_append]
  have e : (ds.take a).length = a := by rw [List.length_take]; omega
  have e2 : ((ds.drop a).take mm).length = mm := by rw [List.length_take, List.length_drop]; omega
  rw [e, wrB_chunk _ _ _ (by omega) hl (by omega)]
/-- What a written file is like. -/
structure DOk (d : Dat) : Prop where
  keys : ∀ p ∈ d, p.1 ≤ 1067
  dlen : d.length ≤ 1068
  secs : ∀ p ∈ d, p.2.length = 128
  ris : RisS natK d
theorem DOk.blk {d : Dat} (h : DOk d) (k : Nat) : (blkOf d k).length = 128 := by
  unfold blkOf
  cases hg : getS k d with
  | none => exact zSec_length
  | some s => exact h.secs _ (mem_of_getS hg)
theorem ris_len : ∀ (l : Dat) (m : Nat), RisS natK l → (∀ p ∈ l, m ≤ p.1 ∧ p.1 ≤ 1067) → l.length ≤ 1068 - m
  | [], _, _, _ => by simp
  | p :: l, m, hr, hk => by
    have h1 := hk p (by simp)
    have hr' := List.pairwise_cons.1 hr
    have := ris_len l (p.1 + 1) hr'.2 fun q hq => ⟨by have := hr'.1 q hq; simp [natK] at this; omega, (hk q (List.mem_cons_of_mem _ hq)).2⟩
    simp only [List.length_cons]
    omega
theorem DOk.put {d : Dat} (h : DOk d) {k : Nat} (hk : k ≤ 1067) {s : List UInt8} (hs : s.length = 128) : DOk (putS natK k s d) := by
  have hr : RisS natK (putS natK k s d) := h.ris.put natK natK_tot k s
  have hkeys : ∀ p ∈ putS natK k s d, p.1 ≤ 1067 := fun p hp => by
    rcases (mem_putS natK).1 hp with rfl | hp
    · exact hk
    · exact h.keys p hp.1
  refine ⟨hkeys, ?_, fun p hp => ?_, hr⟩
  · have := ris_len _ 0 hr fun p hp => ⟨Nat.zero_le _, hkeys p hp⟩
    omega
  · rcases (mem_putS natK).1 hp with rfl | hp
    · exact hs
    · exact h.secs p hp.1
theorem DOk.wr1 {d : Dat} (h : DOk d) {q : Nat} (hq : q < 136704) (b : UInt8) : DOk (wr1 d q b) := h.put (by omega) (by rw [List.length_set]; exact h.blk _)
theorem DOk.wrB {d : Dat} (h : DOk d) : ∀ {q : Nat} {bs : List UInt8}, q + bs.length ≤ 136704 → DOk (wrB d q bs) := by
  intro q bs
  induction bs generalizing d q with
  | nil => intro _; exact h
  | cons b bs ih =>
    intro hq
    simp only [List.length_cons] at hq
    exact ih (h.wr1 (by omega) b) (by omega)
theorem PN.Ok.dOk {n : PN} (h : n.Ok) : DOk n.data := ⟨h.keys, h.dlen, h.secs, h.dris⟩
/-- What a byte of a file is, behind a write. -/
theorem byteAt_wr1 {d : Dat} (h : DOk d) (q : Nat) (b : UInt8) (x : Nat) : byteAt (Go.Proofs.YtolpcfhfcdkokaaGreatDoor.wr1 d q b) x = if x = q then b else byteAt d x := by
  unfold byteAt Go.Proofs.YtolpcfhfcdkokaaGreatDoor.wr1
  by_cases hk : x / 128 = q / 128
  · rw [hk, blkOf_put]
    have hl := h.blk (q / 128)
    by_cases e : x = q
    · subst e
      rw [if_pos rfl, List.getD_eq_getElem?_getD, List.getElem?_set_self (by omega)]
      rfl
    · rw [if_neg e, List.getD_eq_getElem?_getD, List.getElem?_set_ne (by omega), ← List.getD_eq_getElem?_getD]
  · rw [blkOf_put_other _ hk, if_neg (fun e => hk (by rw [e]))]
theorem byteAt_wrB {d : Dat} (h : DOk d) (x : Nat) : ∀ (q : Nat) (bs : List UInt8), q + bs.length ≤ 136704 → byteAt (Go.Proofs.YtolpcfhfcdkokaaGreatDoor.wrB d q bs) x = if h : q ≤ x ∧ x < q + bs.length then bs[x - q]'(by omega) else byteAt d x := by
  intro q bs
  induction bs generalizing d q with
  | nil => intro _; rw [dif_neg (by simp)]; rfl
  | cons b bs ih =>
    intro hq
    simp only [List.length_cons] at hq
    show byteAt (Go.Proofs.YtolpcfhfcdkokaaGreatDoor.wrB (Go.Proofs.YtolpcfhfcdkokaaGreatDoor.wr1 d q b) (q + 1) bs) x = _
    rw [ih (h.wr1 (by omega) b) (q + 1) (by omega), byteAt_wr1 h]
    simp only [List.length_cons]
    by_cases h1 : q + 1 ≤ x ∧ x < q + 1 + bs.length
    · rw [dif_pos h1, dif_pos (by omega)]
      have e : x - q = (x - (q + 1)) + 1 := by omega
      simp only [e, List.getElem_cons_succ]
    · rw [dif_neg h1]
      by_cases h2 : x = q
      · subst h2
        rw [if_pos rfl, dif_pos (by omega)]
        simp
      · rw [if_neg h2, dif_neg (by omega)]
/-- The bytes of a file written. -/
def PN.wrote (n : PN) (off : Nat) (ds : List UInt8) : PN := { n with data := Go.Proofs.YtolpcfhfcdkokaaGreatDoor.wrB n.data off ds, size := if ds.length = 0 then n.size else max n.size (off + ds.length) }
def PT.write (T : PT) (i : Nat) (off : Int) (ds : List UInt8) : PT × Nat :=
  if off < 0 ∨ 131072 < ds.length ∨ 136704 < off + ds.length then (T, 101) else
  let n := T.node i
  let n' := n.wrote off.toNat ds
  if (n'.count : Int) - n.count ≤ (T.sectors : Int) - 1 - T.inodes - T.used then (T.upd i n', 0) else (T, 80)
#print axioms wrB_take
#print axioms byteAt_wrB
end Go.Proofs.YtolpcfhfcdkokaaGreatDoor
