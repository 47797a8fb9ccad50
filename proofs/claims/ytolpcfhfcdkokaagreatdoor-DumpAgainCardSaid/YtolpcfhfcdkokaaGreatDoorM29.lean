/- Joined out of the texts PWrite. -/
import Derived.Test.YtolpcfhfcdkokaaGreatDoorM17
import Derived.Test.YtolpcfhfcdkokaaGreatDoorM20
/-
  The tree in memory: write.
-/
namespace Go.Proofs.YtolpcfhfcdkokaaGreatDoor
open Go.RowKit Go.Proofs
open Go.Maps (Keyed)

theorem mclone_data (w : World) (b : Nat) (d : Dat) (h : MapAt w natK secV 3 b d) :
    Calls Tryz.prog 133 #[.map (some b)] w fun e w' => e = .returned (.map (some w.heap.size)) ∧ MapAt w' natK secV 3 w.heap.size d ∧ Below w.heap.size w w' := by
  have := AnyW.maps_Clone_owns Tryz.mclone 3 rawR b d.length _ w h
  change Calls Tryz.prog 133 _ _ _ at this
  refine this.mono ?_
  rintro e w' ⟨h1, h2, _, h3⟩
  exact ⟨h1, h2, h3⟩
/-- 's[at:]' of bytes. -/
theorem slice_row (w : World) (o f len cap l : Nat) (L : Int) (h : L = (l : Int)) (hl : l < len) (hc : len ≤ cap) : (Instr.sliceAt 64 (.slice (some ⟨o, f, none⟩) len cap) (some (.int .i64 L)) none none).run Tryz.prog w = .ok (.slice (some ⟨o, f + l, none⟩) (len - l) (cap - l)) w := by
  subst h
  have hu : Tryz.prog.underlying 64 = some (.slice (Tryz.prog.elem 64)) := by kernel_rfl
  have hs : (sizeOf (Tryz.prog.elem 64)).run Tryz.prog w = .ok 1 w := by kernel_rfl
  rw [run_sliceAt_slice w 64 _ _ _ _ hu, run_slice_l w 64 (some ⟨o, f, none⟩) len cap hu .i64 l (by omega) (by omega), hs]
  have hne : ¬ cap = l := by omega
  simp [Result.andThen, sliced, hne, Addr.add_lit]
theorem bvs_splice (s cs : List UInt8) (fr : Nat) : splice (bvs s) fr (bvs cs) = bvs (splice s fr cs) := by simp [splice, bvs, List.map_take, List.map_drop]
theorem splice_len (s cs : List UInt8) (fr : Nat) (h : fr + cs.length ≤ s.length) : (splice s fr cs).length = s.length := length_splice s fr cs h
/-- The new node laid over the old one. -/
theorem write_done {own : Nat → Option Role} {lay : Nat → NA} {p mb i : Nat} {T : PT} {n : PN} {w w2 : World} (h : PlainAt w own lay p mb T) (hT : T.Ok) (hg : getS i T.nodes = some n) (hb : Below w.heap.size w w2) {z : Nat} (hz : w.heap.size ≤ z) {d : Dat} (s : Nat)
    (hm : MapAt w2 natK secV 3 z d) : PTurn own p mb (T.upd i { n with data := d, size := s }) w (w2.setRow (lay i).nb (cells7 ⟨(lay i).nb, some z, (lay i).s, (lay i).nm⟩ { n with data := d, size := s }).toArray) := by
  have hP := h.get hg
  have ho : Owns own i (lay i) := h.owns _ (mem_of_getS hg)
  have hC : Chg (fun b => b = (lay i).nb) w (w2.setRow (lay i).nb (cells7 ⟨(lay i).nb, some z, (lay i).s, (lay i).nm⟩ { n with data := d, size := s }).toArray) := (Chg.of_fresh (S := fun b => b = (lay i).nb) hb).setRow (fun _ => rfl) _
  have hC2 : Chg (fun b => b = (lay i).nb) w2 (w2.setRow (lay i).nb (cells7 ⟨(lay i).nb, some z, (lay i).s, (lay i).nm⟩ { n with data := d, size := s }).toArray) := (Chg.refl (fun b => b = (lay i).nb) w2).setRow (fun _ => rfl) _
  have hnb := hP.blk.lt
  have hzs := hm.lt
  have hne : ∀ {b : Nat} {r : Role}, own b = some r → r ≠ .node i → b ≠ (lay i).nb := fun e hr hb => by
    subst hb
    rw [ho.nb] at e
    exact hr (Option.some.inj e).symm
  have hN : PnAt (w2.setRow (lay i).nb (cells7 ⟨(lay i).nb, some z, (lay i).s, (lay i).nm⟩ { n with data := d, size := s }).toArray) ⟨(lay i).nb, some z, (lay i).s, (lay i).nm⟩ { n with data := d, size := s } := by
    refine ⟨setRow_heap w2 _ _ _ _ _ (hP.blk.fresh hb), hm.chg hC2 (by omega), own_chg hP.slots hC fun g e => hne (ho.s g e) (fun e => by cases e), hP.names.chg hC fun b e => hne (ho.nm b e) (fun e => by cases e), hP.dirs, fun _ => ⟨_, rfl⟩⟩
  have he : Ext w own (own1 own z (.data i)) := own1_ext hz h.lt
  refine PTurn.of (h.upd hT.ris hg hC (fun b _ hb => by subst hb; exact .inl ho.nb) hN rfl he (fun b r e => ?_) ⟨?_, ?_, ?_, ?_⟩) he (hC.mono fun b _ e => by subst e; rw [ho.nb]; simp)
  · unfold own1 at e
    split at e
    · rename_i e1; subst e1; exact Nat.lt_of_lt_of_le hzs hC2.size
    · exact Nat.lt_of_lt_of_le (h.lt b r e) hC.size
  · exact he.keep _ _ ho.nb
  · intro b e
    cases e
    simp [own1]
  · exact fun b e => he.keep _ _ (ho.s b e)
  · exact fun b e => he.keep _ _ (ho.nm b e)
#print axioms write_done
set_option maxHeartbeats 3200000 in
set_option maxRecDepth 100000 in
theorem pwrite_any (own : Nat → Option Role) (lay : Nat → NA) (p mb i : Nat) (T : PT) (n : PN) (off : Int) (A : Option Addr) (len cap : Nat) (bs : List UInt8) (w : World) (h : PlainAt w own lay p mb T) (hT : T.Ok) (hg : getS i T.nodes = some n)
    (hfile : n.dir = false) (hs : Sees w w.heap.size 1 A len (bvs bs)) (hlen : bs.length = len) (hcap : len ≤ cap) (hlm : len < 1000000000000) (hoff : off ≤ 9223372036854775807 ∧ -9223372036854775808 ≤ off) :
    Calls Tryz.prog 106 #[.pointer (some ⟨p, 0, none⟩), ptrV (lay i).nb, .int .i64 off, .slice A len cap] w fun e w' => e = .returned (natV (T.write i off bs).2) ∧ PTurn own p mb (T.write i off bs).1 w w' := by
  have hu := PT.write.eq_1 T i off bs
  rw [hlen] at hu
  have hn := (hT.get hg).1
  have hPn := h.get hg
  obtain ⟨db, hdb⟩ := hPn.files hfile
  unfold ptrV natV
  go_enter Tryz.func106, Tryz.ntmps106
  by_cases hbad : off < 0 ∨ 131072 < len ∨ 136704 < off + len
  · rw [if_pos hbad] at hu
    rw [hu]
    clear hu
    have hsame := Lib.hid (PTurn.same h (Below.refl _ w))
    clear h hPn hn hdb hs
    by_cases h1 : off < 0
    case' pos => have t1 : decide (off < 0) = true := by simpa using h1
    case' neg =>
      have t1 : decide (off < 0) = false := by simpa using h1
      by_cases h2 : 131072 < len
      case' pos => have t2 : decide (131072 < len) = true := by simpa using h2
      case' neg =>
        have t2 : decide (131072 < len) = false := by simpa using h2
        have t3 : decide (136704 - (len : Int) < off) = true := by simp; omega
    all_goals
      clear hbad
      go_wp2
      go_ret
      exact ⟨rfl, hsame.out⟩
  · rw [if_neg hbad] at hu
    have t1 : decide (off < 0) = false := by simp; omega
    have t2 : decide ((131072 : Int) < (len : Int)) = false := by simp; omega
    have t3 : decide (136704 - (len : Int) < off) = false := by simp; omega
    obtain ⟨of, rfl⟩ : ∃ of : Nat, off = (of : Int) := ⟨off.toNat, by omega⟩
    simp only [Int.toNat_natCast] at hu
    have huH := Lib.hid hu
    have hof : of + len ≤ 136704 := by omega
    clear hbad hu
    have b0 : w.cell? ⟨(lay i).nb, 0, none⟩ = some (.int .i64 n.kind) := hPn.blk.cell 0
    have b1 : w.cell? ⟨(lay i).nb, 1, none⟩ = some (.int .i64 (n.links : Int)) := hPn.blk.cell 1
    have b2 : w.cell? ⟨(lay i).nb, 2, none⟩ = some (.int .i64 (n.size : Int)) := hPn.blk.cell 2
    have b3 : w.cell? ⟨(lay i).nb, 3, none⟩ = some (.int .i64 (n.made : Int)) := hPn.blk.cell 3
    have b4 : w.cell? ⟨(lay i).nb, 4, none⟩ = some (.map (lay i).d) := hPn.blk.cell 4
    have b5 : w.cell? ⟨(lay i).nb, 5, none⟩ = some (lay i).s := hPn.blk.cell 5
    have b6 : w.cell? ⟨(lay i).nb, 6, none⟩ = some (.map (lay i).nm) := hPn.blk.cell 6
    rw [hdb] at b4
    have hmap := hPn.data
    rw [hdb] at hmap
    have hmap' : MapAt w natK secV 3 db n.data := hmap
    have hH := Lib.hid h
    have hPH := Lib.hid hPn
    have hnH := Lib.hid hn
    have hdH := Lib.hid hdb
    have hsH := Lib.hid hs
    have hTH := Lib.hid hT
    have hmH := Lib.hid hmap'
    clear h hPn hn hdb hs hT hmap hmap'
    obtain ⟨A1, c1, hsf⟩ := hPH.out.form
    rw [hsf] at b5
    go_upto_region 4 with (fail)
    have hq0 : Blk (w.alloc (.cells #[.int .i64 n.kind, .int .i64 (n.links : Int), .int .i64 (n.size : Int), .int .i64 (n.made : Int), .map (some db), .slice A1 n.slots.length c1, .map (lay i).nm] 110)) w.heap.size 110 [.int .i64 n.kind, .int .i64 (n.links : Int), .int .i64 (n.size : Int), .int .i64 (n.made : Int), .map (some db), .slice A1 n.slots.length c1, .map (lay i).nm] := Blk.new w _ _
    have hB0 : Below w.heap.size w (w.alloc (.cells #[.int .i64 n.kind, .int .i64 (n.links : Int), .int .i64 (n.size : Int), .int .i64 (n.made : Int), .map (some db), .slice A1 n.slots.length c1, .map (lay i).nm] 110)) := (Below.refl _ _).alloc (Nat.le_refl _) _
    have hz0 : (w.alloc (.cells #[.int .i64 n.kind, .int .i64 (n.links : Int), .int .i64 (n.size : Int), .int .i64 (n.made : Int), .map (some db), .slice A1 n.slots.length c1, .map (lay i).nm] 110)).heap.size = w.heap.size + 1 := by simp
    generalize w.alloc (.cells #[.int .i64 n.kind, .int .i64 (n.links : Int), .int .i64 (n.size : Int), .int .i64 (n.made : Int), .map (some db), .slice A1 n.slots.length c1, .map (lay i).nm] 110) = w0 at *
    obtain ⟨q, hq⟩ : ∃ q, w.heap.size = q := ⟨_, rfl⟩
    have hnblt : (lay i).nb < q := by have := hPH.out.blk.lt; omega
    rw [hq] at hq0 hB0 hz0
    simp only [hq]
    have hqH := Lib.hid hq
    have e4 : w0.cell? ⟨(lay i).nb, 4, none⟩ = some (.map (some db)) := by rw [hB0.cell (p := ⟨(lay i).nb, 4, none⟩) hnblt]; exact b4
    have hm0 : MapAt w0 natK secV 3 db n.data := hmH.out.fresh (by rw [hq]; exact hB0)
    have hB0H := Lib.hid hB0
    have hq0H := Lib.hid hq0
    clear hq b0 b1 b2 b3 b4 b5 b6 hB0 hq0
    go_upto_region 5 with (first
      | (go_at_call 133; refine (mclone_data w0 db n.data hm0).mono ?_; rintro e w1 ⟨rfl, hm1, hb1⟩; have x1 := (hq0H.out.fresh hb1).cell 4; have x2 := (hq0H.out.fresh hb1).frozen 4; simp only [hz0] at hm1 hb1 x1 x2))
    have hqS : Blk (w1.setCell ⟨q, 4, none⟩ (.map (some (q + 1)))) q 110 [.int .i64 n.kind, .int .i64 (n.links : Int), .int .i64 (n.size : Int), .int .i64 (n.made : Int), .map (some (q + 1)), .slice A1 n.slots.length c1, .map (lay i).nm] := ((hq0H.out.fresh (by rw [hz0]; exact hb1)).set_ 4 _)
    have hCS : Chg (fun b => b = q) w1 (w1.setCell ⟨q, 4, none⟩ (.map (some (q + 1)))) := (Chg.refl (fun b => b = q) w1).setCell (p := ⟨q, 4, none⟩) (fun _ => rfl) _
    have hmS : MapAt (w1.setCell ⟨q, 4, none⟩ (.map (some (q + 1)))) natK secV 3 (q + 1) n.data := hm1.chg hCS (by omega)
    have hbS : Below q w (w1.setCell ⟨q, 4, none⟩ (.map (some (q + 1)))) := (hB0H.out.trans (hb1.mono (by omega))).trans (hCS.below (by have := hB0H.out.size; have := hb1.size; omega) fun b hb e => by omega)
    clear hm0 e4 hm1 hb1 x1 x2 hCS
    generalize w1.setCell ⟨q, 4, none⟩ (.map (some (q + 1))) = wS at *
    have hqSH := Lib.hid hqS
    have hmSH := Lib.hid hmS
    have hbSH := Lib.hid hbS
    clear hqS hmS hbS hq0H hB0H
    go_wp2_with (fail)
    go_loopw [10, 11, 12, 13] (fun x _ _ _ wr => ∃ ix : Nat, ix ≤ len ∧ x = .int .i64 ix ∧ Hid (Blk wr q 110 [.int .i64 n.kind, .int .i64 (n.links : Int), .int .i64 (n.size : Int), .int .i64 (n.made : Int), .map (some (q + 1)), .slice A1 n.slots.length c1, .map (lay i).nm]) ∧ Hid (MapAt wr natK secV 3 (q + 1) (wrB n.data of (bs.take ix))) ∧ Hid (Below q w wr)) (fun x _ _ _ _ => len - (intOf x).toNat)
    case atStart => exact ⟨0, by omega, rfl, hqSH, hmSH, hbSH⟩
    case round =>
      obtain ⟨ix, hix, rfl, hxq, hxm, hxb⟩ := hrel
      clear hqSH hmSH hbSH
      have x4 : wr.cell? ⟨q, 4, none⟩ = some (.map (some (q + 1))) := hxq.out.cell 4
      by_cases hlt : ix < len
      · have t5 : decide ((ix : Int) < (len : Int)) = true := by simpa using hlt
        obtain ⟨k, hkE⟩ : ∃ k, (of + ix) / 128 = k := ⟨_, rfl⟩
        obtain ⟨fr, hfE⟩ : ∃ fr, (of + ix) % 128 = fr := ⟨_, rfl⟩
        have hqq : ((of : Int) + ix) / 128 = (k : Int) := by omega
        have hrr : ((of : Int) + ix) % 128 = (fr : Int) := by omega
        have hk : k ≤ 1067 := by omega
        have hfr : fr < 128 := by omega
        have hltH := Lib.hid hlt
        have hkH := Lib.hid hkE
        have hfH := Lib.hid hfE
        have hdok := hnH.out.dOk.wrB (q := of) (bs := bs.take ix) (by rw [List.length_take]; omega)
        have hlxm := hdok.dlen
        have hbl : (blkOf (wrB n.data of (bs.take ix)) k).length = 128 := hdok.blk k
        obtain ⟨l, hlE⟩ : ∃ l, wrB n.data of (bs.take ix) = l := ⟨_, rfl⟩
        have hlH := Lib.hid hlE
        rw [hlE] at hbl hlxm hxm
        obtain ⟨bk, hbk⟩ : ∃ bk, blkOf l k = bk := ⟨_, rfl⟩
        rw [hbk] at hbl
        have hv : orV secV (secV zSec) (getS k l) = .agg (bvs bk).toArray := by rw [← hbk]; unfold blkOf; cases getS k l <;> rfl
        have hbkH := Lib.hid hbk
        have hxmo := Lib.hid hxm.out
        have hS2 : Blk (wr.alloc (.cells Tryz.zeroCells187 187)) wr.heap.size 187 (bvs zSec) := blk_zero rfl
        clear hlt hkE hfE hbk hlE hdok
        go_upto_region 8 with (fail)
        rw [hqq, hrr]
        clear hqq hrr
        go_upto_region 9 with (first
          | (at_lookup; refine wpList_mlook _ rfl (.tmp 50) (.tmp 51) 107 rfl kInt Tryz.underlying107 (zSecV _) hxmo.out rfl k rfl (keyN k (by omega)) _ hv ?_)
          | (refine wpList_store_row rfl 187 (.tmp 13) (.tmp 52) rfl wr.heap.size (bvs bk).toArray rfl (by rfl) 187 _ hS2 (sec_size hbl) (by rw [List.size_toArray, List.size_toArray, bvs_length, bvs_length, zSec_length, hbl]) (secs_one bk) ?_))
        have hS3 : Blk ((wr.alloc (.cells Tryz.zeroCells187 187)).setRow wr.heap.size (bvs bk).toArray) wr.heap.size 187 (bvs bk) := setRow_heap _ _ _ _ _ _ hS2
        have hC3 : Chg (fun b => wr.heap.size ≤ b) wr ((wr.alloc (.cells Tryz.zeroCells187 187)).setRow wr.heap.size (bvs bk).toArray) := ((Chg.refl _ wr).alloc _).setRow (fun _ => Nat.le_refl _) _
        have hgz : q + 1 < wr.heap.size := hxm.out.lt
        have hxq3 := Lib.hid (hxq.out.chg hC3 (by omega))
        have hxm3 := Lib.hid (hxm.out.chg hC3 (by omega))
        have hb3 := Lib.hid (hxb.out.trans (hC3.below (B := q) (by omega) fun b hb h => by omega))
        clear hS2 hC3 hxq hxm hxmo hxb x4
        generalize (wr.alloc (.cells Tryz.zeroCells187 187)).setRow wr.heap.size (bvs bk).toArray = w3 at *
        generalize wr.heap.size = z at *
        obtain ⟨mm, hmm⟩ : ∃ mm, min (len - ix) (128 - fr) = mm := ⟨_, rfl⟩
        have hmm1 : fr + mm ≤ 128 := by omega
        have hmm2 : ix + mm ≤ len := by have := hltH.out; omega
        have hmm3 : 0 < mm := by have := hltH.out; omega
        obtain ⟨ch, hch⟩ : ∃ ch, (bs.drop ix).take mm = ch := ⟨_, rfl⟩
        have hchl : ch.length = mm := by rw [← hch, List.length_take, List.length_drop]; omega
        obtain ⟨cs, hcs⟩ : ∃ cs, bvs ch = cs := ⟨_, rfl⟩
        have hcl : cs.length = mm := by rw [← hcs, bvs_length]; exact hchl
        obtain ⟨ab, ao, hA, hab, hac⟩ := (hsH.out.below (by rw [hqH.out]; exact hb3.out) : Sees w3 w.heap.size 1 A len (bvs bs)).at_ (by have := hltH.out; omega)
        subst hA
        have hsrc : ∀ (j : Nat) (v : Value), cs[j]? = some v → w3.cell? ((⟨ab, ao + ix, none⟩ : Addr).add j) = some v := by
          intro j v hj
          have hjm : j < mm := by have := (List.getElem?_eq_some_iff.1 hj).1; omega
          rw [Addr.add_lit, Nat.add_assoc]
          refine hac (ix + j) v ?_
          rw [← hj, ← hcs, ← hch]
          simp only [bvs, List.getElem?_map, List.getElem?_take, List.getElem?_drop, if_pos hjm]
        have h1cs : ∀ v ∈ cs, v.oneCell' = true := by rw [← hcs]; exact bvs_one _
        have hspl : splice (bvs bk) fr cs = bvs (splice bk fr ch) := by rw [← hcs, bvs_splice]
        have hspH := Lib.hid hspl
        have hfit : fr + cs.length ≤ (bvs bk).length := by rw [hcl, bvs_length, hbl]; exact hmm1
        have hso : ∀ W : World, (Instr.sliceAt 64 (.slice (some ⟨ab, ao, none⟩) len cap) (some (.int .i64 (ix : Int))) none none).run Tryz.prog W = .ok (.slice (some ⟨ab, ao + ix, none⟩) (len - ix) (cap - ix)) W := fun W => slice_row W _ _ _ _ _ _ rfl hltH.out hcap
        have hse : ∀ W : World, (Instr.sliceAt 187 (.pointer (some ⟨z, 0, none⟩)) (some (.int .i64 (fr : Int))) none none).run Tryz.prog W = .ok (.slice (some ⟨z, fr, none⟩) (128 - fr) (128 - fr)) W := fun W => slice_sec W _ _ _ rfl hfr
        have hmn := Lib.hid (show cs.length = Nat.min (len - ix) (128 - fr) by rw [hcl]; exact hmm.symm)
        have hwr : IntKind.i64.wrap ((ix : Int) + (mm : Int)) = ((ix + mm : Nat) : Int) := by rw [IntWalk.i64_in _ (by omega)]; omega
        have hi1 : (Tryz.prog.info? 5).map (·.size) = some 1 := by kernel_rfl
        have hchH := Lib.hid hch
        clear hspl hmm hcs hch
        go_region_law (refine step_copy_splice rfl (.tmp 55) (.tmp 58) 64 64 rfl 5 Tryz.underlying64 hi1 _ _ (128 - fr) (128 - fr) (len - ix) (cap - ix) rfl rfl z fr _ 187 hS3 cs hmn.out (fun _ => ⟨rfl, _, rfl, hsrc⟩) hfit h1cs z _ (Below.refl _ _) (Nat.le_refl _) ?_; intro w5 HG5 hB5; have hS5 : Blk w5 z 187 (bvs (splice bk fr ch)) := (by (have h9 := HG5.out; rw [hspH.out] at h9; exact h9)); have hB5H : Hid (Below z w3 w5) := ⟨hB5.os, hB5.tape, hB5.output, hB5.size, hB5.block⟩; rw [hcl]; clear HG5 hB5)
        simp only [List.getElem_toArray, List.getElem_cons_succ, List.getElem_cons_zero]
        go_frame
        have hxq5 := hxq3.out.below hB5H.out (by omega)
        have hxm5 := hxm3.out.chg (Chg.of_below hB5H.out) (by omega)
        have hb5 := Lib.hid (hb3.out.trans (hB5H.out.mono (by omega)))
        have x5 : w5.cell? ⟨q, 4, none⟩ = some (.map (some (q + 1))) := hxq5.cell 4
        have hspl : (splice bk fr ch).length = 128 := by rw [splice_len _ _ _ (by omega)]; exact hbl
        have hxq5H := Lib.hid hxq5
        have hput : Hid (putS natK k (splice bk fr ch) l = wrB n.data of (bs.take (ix + mm))) := by
          have h9 := wrB_take n.data of bs ix mm (by omega) hmm3 (by rw [hlH.out, hkH.out, hbkH.out]; exact hbl) (by rw [hfH.out]; exact hmm1)
          rw [hlH.out, hkH.out, hfH.out, hbkH.out, hchH.out] at h9
          exact h9.symm
        generalize splice bk fr ch = sp at *
        clear hxq5 hxq3 hxm3 hb3 hS3 hspH hfit hmn hsrc h1cs hso hse hv
        go_wp2_with (first
          | (refine wpList_load_row rfl 187 (.tmp 13) rfl z rfl 187 (bvs sp).toArray (0, 0) _ hS5 Tryz.underlying187 rfl (sec_size hspl) ?_)
          | (at_mapUpdate; refine wpList_mput _ rfl _ _ _ 107 (.inl rfl) kInt Tryz.underlying107 hxm5 (by unfold maxLen; omega) rfl k rfl (keyN k (by omega)) sp rfl ?_; intro w6 hm6 ht6; have hC6 := turned_chg ht6; have hm6H := Lib.hid hm6; have hC6H := Lib.hid hC6; clear hm6 hC6 ht6))
        go_frame
        refine ⟨?_, ?measure⟩
        · repeat apply Exists.intro
          refine ⟨?_, rfl⟩
          refine ⟨ix + mm, hmm2, by go_num, Lib.hid (hxq5H.out.chg hC6H.out (by omega)), ?_, Lib.hid (hb5.out.trans (hC6H.out.below (by have := hb5.out.size; rw [hqH.out] at this; exact this) fun b hb e => by omega))⟩
          rw [← hput.out]
          exact hm6H
        case measure =>
          simp [intOf]
          omega
      · obtain rfl : ix = len := by omega
        have t5 : decide ((ix : Int) < (ix : Int)) = false := by simp
        have hdok := hnH.out.dOk.wrB (q := of) (bs := bs) (by omega)
        have hxm' := hxm.out
        rw [List.take_of_length_le (by omega)] at hxm'
        have hNok : ({ n with data := wrB n.data of bs } : PN).Ok := ⟨hdok.keys, hdok.dlen, hdok.secs, hnH.out.slots, hnH.out.links, hnH.out.size, hnH.out.made, hnH.out.nm, hnH.out.nlen, fun e => by (have e' : n.dir = true := e; rw [hfile] at e'; cases e'), hnH.out.df, hnH.out.nris, hdok.ris⟩
        have hbw : Below w.heap.size w wr := by rw [hqH.out]; exact hxb.out
        have hPr := hPH.out.chg (Chg.of_fresh (S := fun _ => False) hbw) id (fun _ _ h => h) (fun _ _ h => h) (fun _ _ h => h)
        have hN : PnAt wr ⟨q, some (q + 1), (lay i).s, (lay i).nm⟩ { n with data := wrB n.data of bs } := by
          refine ⟨?_, hxm', hPr.slots, hPr.names, hPr.dirs, fun _ => ⟨_, rfl⟩⟩
          have h9 := hxq.out
          rw [← hsf] at h9
          exact h9
        obtain ⟨n2, hn2⟩ : ∃ n2 : PN, ({ n with data := wrB n.data of bs } : PN) = n2 := ⟨_, rfl⟩
        rw [hn2] at hN hNok
        have hcx : ∀ W, Below wr.heap.size wr W → Calls Tryz.prog 57 #[ptrV (lay i).nb] W fun e w' => e = .returned (.int .i64 ((n.count : Nat) : Int)) ∧ Below W.heap.size W w' := fun W hW => cnt_node (hPr.chg (Chg.of_fresh (S := fun _ => False) hW) id (fun _ _ h => h) (fun _ _ h => h) (fun _ _ h => h)) hnH.out
        have hcy0 : ∀ W, Below wr.heap.size wr W → Calls Tryz.prog 57 #[ptrV q] W fun e w' => e = .returned (.int .i64 ((n2.count : Nat) : Int)) ∧ Below W.heap.size W w' := fun W hW => cnt_node (a := ⟨q, some (q + 1), (lay i).s, (lay i).nm⟩) (hN.chg (Chg.of_fresh (S := fun _ => False) hW) id (fun _ _ h => h) (fun _ _ h => h) (fun _ _ h => h)) hNok
        have hroom := room_any own lay p mb T (lay i).nb q n.count n2.count wr (hH.out.fresh hbw) hTH.out hcx hnH.out.count hcy0 hNok.count
        rw [← hn2] at hroom
        clear hcx hcy0
        unfold ptrV at hroom
        have hbwH := Lib.hid hbw
        have hxm'H := Lib.hid hxm'
        have hcnt : Hid ((T.node i).wrote of bs = { n with data := wrB n.data of bs, size := if ix = 0 then n.size else max n.size (of + ix) }) := by
          show _ = _
          rw [node_of hg]
          unfold PN.wrote
          rw [hlen]
        obtain ⟨cy, hcy⟩ : ∃ cy, ({ n with data := wrB n.data of bs } : PN).count = cy := ⟨_, rfl⟩
        have hcy2 : ((T.node i).wrote of bs).count = cy := by
          rw [hcnt.out, ← hcy]
          unfold PN.count PN.keys
          rfl
        have huN := huH.out
        rw [hcy2, node_of hg] at huN
        rw [hcy] at hroom
        have hwN : n.wrote of bs = { n with data := wrB n.data of bs, size := if ix = 0 then n.size else max n.size (of + ix) } := by have := hcnt.out; rw [node_of hg] at this; exact this
        rw [hwN] at huN
        obtain ⟨lim, hlim⟩ : ∃ lim, (T.sectors : Int) - 1 - T.inodes - T.used = lim := ⟨_, rfl⟩
        rw [hlim] at huN hroom
        clear hcy hcy2 hwN huH hcnt hlim
        clear hN hNok hPr hbw hxm' hxm hdok x4
        by_cases hR : (cy : Int) - n.count ≤ lim
        · rw [decide_eq_true hR] at hroom
          rw [if_pos hR] at huN
          have hW := Lib.hid huN
          clear huN hR
          have hone : ∀ (v : Nat), ([.int .i64 n.kind, .int .i64 (n.links : Int), .int .i64 (v : Int), .int .i64 (n.made : Int), .map (some (q + 1)), .slice A1 n.slots.length c1, .map (lay i).nm] : List Value).toArray.all (·.oneCell') = true := fun v => by simp [Value.oneCell']
          by_cases hz : ix = 0
          · have t6 : decide ((0 : Int) < (ix : Int)) = false := by simp; omega
            have t7 : decide (0 < ix) = false := by simp; omega
            have hzH := Lib.hid hz
            clear hz
            go_wp2_with (first
              | (go_at_call 129; refine hroom.mono ?_; rintro e w2 ⟨rfl, hb2⟩; have hQ2 := hxq.out.fresh hb2; have hX2 := hPH.out.blk.fresh (hbwH.out.trans (hb2.mono hbwH.out.size)); have hb2H := Lib.hid hb2; have z0 := hQ2.cell 0; have z1 := hQ2.cell 1; have z2 := hQ2.cell 2; have z3 := hQ2.cell 3; have z4 := hQ2.cell 4; have z5 := hQ2.cell 5; have z6 := hQ2.cell 6; clear hb2)
              | (refine wpList_store_row rfl 110 (.tmp 84) (.tmp 83) rfl (lay i).nb [.int .i64 n.kind, .int .i64 (n.links : Int), .int .i64 (n.size : Int), .int .i64 (n.made : Int), .map (some (q + 1)), .slice A1 n.slots.length c1, .map (lay i).nm].toArray rfl (by rfl) 110 _ hX2 rfl rfl (hone _) ?_))
            go_ret
            rw [hW.out]
            refine ⟨rfl, ?_⟩
            have h9 := write_done hH.out hTH.out hg (hbwH.out.trans (hb2H.out.mono hbwH.out.size)) (z := q + 1) (by have := hqH.out; omega) n.size (hxm'H.out.fresh hb2H.out)
            rw [hsf] at h9
            rw [if_pos hzH.out]
            exact h9
          · have t6 : decide ((0 : Int) < (ix : Int)) = true := by simp; omega
            have t7 : decide (0 < ix) = true := by simp; omega
            have hY : Hid (∀ W, Below wr.heap.size wr W → W.cell? ⟨(lay i).nb, 2, none⟩ = some (.int .i64 (n.size : Int)) ∧ W.cell? ⟨q, 2, none⟩ = some (.int .i64 (n.size : Int)) ∧ W.frozen? ⟨q, 2, none⟩ = false) := fun W hW => ⟨(hPH.out.blk.fresh (hbwH.out.trans (hW.mono hbwH.out.size))).cell 2, (hxq.out.fresh hW).cell 2, (hxq.out.fresh hW).frozen 2⟩
            have hzH := Lib.hid hz
            clear hz
            go_upto_region 15 with (first
              | (go_at_call 129; refine hroom.mono ?_; rintro e w2 ⟨rfl, hb2⟩; obtain ⟨y3, y4, y5⟩ := hY.out w2 hb2))
            have hmx : max ((n.size : Nat) : Int) ((of : Int) + (ix : Int)) = ((max n.size (of + ix) : Nat) : Int) := by omega
            rw [hmx]
            clear hmx
            obtain ⟨mx, hmx⟩ : ∃ mx, max n.size (of + ix) = mx := ⟨_, rfl⟩
            rw [hmx]
            have hC3 : Chg (fun b => b = q) w2 (w2.setCell ⟨q, 2, none⟩ (.int .i64 (mx : Int))) := (Chg.refl (fun b => b = q) w2).setCell (p := ⟨q, 2, none⟩) (fun _ => rfl) _
            have hQ3 : Blk (w2.setCell ⟨q, 2, none⟩ (.int .i64 (mx : Int))) q 110 [.int .i64 n.kind, .int .i64 (n.links : Int), .int .i64 (mx : Int), .int .i64 (n.made : Int), .map (some (q + 1)), .slice A1 n.slots.length c1, .map (lay i).nm] := (hxq.out.fresh hb2).set_ 2 _
            have hX3 := (hPH.out.blk.fresh (hbwH.out.trans (hb2.mono hbwH.out.size))).chg hC3 (by omega)
            have hm3 := Lib.hid ((hxm'H.out.fresh hb2).chg hC3 (by omega))
            have hb3 := Lib.hid ((hbwH.out.trans (hb2.mono hbwH.out.size)).trans (hC3.below (B := w.heap.size) (by have := hbwH.out.size; have := hb2.size; omega) fun b hb e => by have := hqH.out; omega))
            have hmxH := Lib.hid hmx
            clear hC3 hmx y3 y4 y5 hb2 hY
            generalize w2.setCell ⟨q, 2, none⟩ (.int .i64 (mx : Int)) = w3 at *
            have z0 := hQ3.cell 0
            have z1 := hQ3.cell 1
            have z2 := hQ3.cell 2
            have z3 := hQ3.cell 3
            have z4 := hQ3.cell 4
            have z5 := hQ3.cell 5
            have z6 := hQ3.cell 6
            go_wp2_with (first
              | (refine wpList_store_row rfl 110 (.tmp 84) (.tmp 83) rfl (lay i).nb [.int .i64 n.kind, .int .i64 (n.links : Int), .int .i64 (mx : Int), .int .i64 (n.made : Int), .map (some (q + 1)), .slice A1 n.slots.length c1, .map (lay i).nm].toArray rfl (by rfl) 110 _ hX3 rfl rfl (hone _) ?_))
            go_ret
            rw [hW.out]
            refine ⟨rfl, ?_⟩
            have h9 := write_done hH.out hTH.out hg hb3.out (z := q + 1) (by have := hqH.out; omega) mx hm3.out
            rw [hsf] at h9
            rw [if_neg hzH.out, hmxH.out]
            exact h9
        · rw [decide_eq_false hR] at hroom
          rw [if_neg hR] at huN
          have hW := Lib.hid huN
          clear huN hR
          go_wp2_with (go_at_call 129; refine hroom.mono ?_; rintro e w2 ⟨rfl, hb2⟩)
          go_ret
          rw [hW.out]
          exact ⟨rfl, PTurn.same hH.out (hbwH.out.trans (hb2.mono hbwH.out.size))⟩
#print axioms pwrite_any
end Go.Proofs.YtolpcfhfcdkokaaGreatDoor
