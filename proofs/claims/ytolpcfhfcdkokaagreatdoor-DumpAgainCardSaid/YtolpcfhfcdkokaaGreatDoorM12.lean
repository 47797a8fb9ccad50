/- Joined out of the texts PPlace, PLess, PStat. -/
import Derived.Test.YtolpcfhfcdkokaaGreatDoorM11
/-
  The tree in memory: the least free inode; a directory's least place; one entry less.
-/
namespace Go.Proofs.YtolpcfhfcdkokaaGreatDoor
open Go.RowKit
open Go.Maps (Keyed)

section
variable {w : World} {own : Nat → Option Role} {lay : Nat → NA} {p mb i : Nat} {T : PT}
theorem PlainAt.lookNo (h : PlainAt w own lay p mb T) (hg : getS i T.nodes = none) (hi : i ≤ 1000000000) : (Instr.lookup 96 (.map (some mb)) (.int .i64 (i : Int)) false).run Tryz.prog w = .ok (.pointer none) w := by
  have := h.nodes.look kInt Tryz.underlying96 (zPtr w) (keyN i hi)
  rw [PlainAt.look, hg] at this
  exact this
end
set_option maxHeartbeats 1600000 in
set_option maxRecDepth 100000 in
theorem pfree_any (own : Nat → Option Role) (lay : Nat → NA) (p mb : Nat) (T : PT) (w : World) (h : PlainAt w own lay p mb T) (hT : T.Wf) :
    Calls Tryz.prog 96 #[.pointer (some ⟨p, 0, none⟩)] w fun e w' => e = .returned (natV T.free) ∧ w = w' := by
  have c1 := h.c1
  have c2 := h.c2
  have hio := hT.ok.ino
  have hHT := Lib.hid hT
  have hH := Lib.hid h
  go_enter Tryz.func96, Tryz.ntmps96
  obtain ⟨io, hio2⟩ : ∃ io, io = T.inodes := ⟨_, rfl⟩
  have hioH := Lib.hid hio2
  rw [← hio2] at c1 hio
  clear hio2 hT h
  go_wp2
  go_loop [3] (fun i => ∃ k : Nat, 2 ≤ k ∧ i = .int .i64 (k : Int) ∧ k ≤ io + 3 ∧ Hid (freeFrom T (T.inodes + 3 - k) k = T.free)) (fun i => io + 3 - (intOf i).toNat)
  case atStart => exact ⟨2, Nat.le_refl _, rfl, by omega, rfl⟩
  case round =>
    obtain ⟨k, hk, rfl, hk3, hf⟩ := hrel
    by_cases hle : k ≤ io
    · have hf2 := hf.out
      rw [← hioH.out, show io + 3 - k = (io + 2 - k) + 1 by omega, freeFrom, ← hioH.out, if_neg (by omega)] at hf2
      have hlt : decide ((k : Int) ≤ (io : Int)) = true := by simpa using hle
      cases hg : getS k T.nodes with
      | none =>
        rw [hg] at hf2
        have hf3 := Lib.hid hf2
        have hlk := hH.out.lookNo hg (by omega)
        clear hf2 hf hg
        go_wp2
        go_ret
        exact ⟨by rw [← hf3.out]; rfl, rfl⟩
      | some n =>
        rw [hg] at hf2
        have hf3 := Lib.hid hf2
        have hlk := hH.out.lookI hg (by omega)
        clear hf2 hf hg
        go_wp2
        go_round
        case rel => exact ⟨k + 1, by omega, by go_num, by omega, by rw [← hioH.out, show io + 3 - (k + 1) = io + 2 - k by omega]; exact hf3.out⟩
        case measure => simp [intOf]; omega
    · have hlt : decide ((k : Int) ≤ (io : Int)) = false := by simpa using hle
      have hf2 := hf.out
      have hz : freeFrom T (T.inodes + 3 - k) k = 0 := by
        cases hm : T.inodes + 3 - k with
        | zero => rfl
        | succ m => rw [freeFrom, if_pos (by have := hioH.out; omega)]
      rw [hz] at hf2
      have hf3 := Lib.hid hf2
      clear hf2 hf hz
      go_wp2
      go_ret
      exact ⟨by rw [← hf3.out]; rfl, rfl⟩
#print axioms pfree_any
set_option maxHeartbeats 1600000 in
set_option maxRecDepth 100000 in
theorem sclone_any (B : Nat) (A : Option Addr) (c : Nat) (xs : List ByteArray) (w : World) (hs : Sees w B 1 A xs.length (strs xs)) (hB : B ≤ w.heap.size) (hl : xs.length ≤ 1000000) :
    Calls Tryz.prog 128 #[.slice A xs.length c] w fun e w' => ∃ v', e = .returned v' ∧ w'.ownsRow w.heap.size 9 1 v' xs.length (strs xs) ∧ Below w.heap.size w w' := by
  go_enter Tryz.func128, Tryz.ntmps128
  have hq : ∀ n c', (binOp .eql 108 (.slice A n c') (.slice none 0 0)).run Tryz.prog w = .ok (.bool A.isNone) w := fun n c' => by
    have h : ∀ d : Nat, (Op.equalIn (d + 1) 108 (.slice A n c') (.slice none 0 0)).run Tryz.prog w = .ok A.isNone w := fun d => by
      cases A <;> simp [Op.equalIn, run_underlying (P := Tryz.prog) Tryz.underlying108]
    simp only [binOp]
    simp [Op.equal, Op.maxDepth, h 9999]
  have hq1 := hq xs.length c
  clear hq
  rcases A with _ | ad
  · have hx : xs = [] := by
      cases xs with
      | nil => rfl
      | cons x xs => obtain ⟨b, off, e, _⟩ := hs.at_ (by simp); cases e
    subst hx
    simp only [List.length_nil, Option.isNone_none] at hq1
    simp only [List.length_nil]
    go_wp2
    go_ret
    exact ⟨_, rfl, ⟨rfl, .inl ⟨rfl, rfl⟩⟩, Below.refl _ _⟩
  · simp only [Option.isNone_some] at hq1
    obtain ⟨i0, hi, hz0, hz1, hz2⟩ := info_parts infoStr
    have hbl : Below w.heap.size w (w.alloc (.cells #[] 9)) := (Below.refl _ _).alloc (Nat.le_refl _) _
    have ho0 : (w.alloc (.cells #[] 9)).ownsRow w.heap.size 9 1 (.slice (some ⟨w.heap.size, 0, none⟩) 0 0) 0 [] := ⟨rfl, .inr ⟨w.heap.size, 0, #[], rfl, Nat.le_refl _, heap_alloc_new w _, Nat.le_refl _, by unfold maxLen; omega, rfl, rfl⟩⟩
    have h1 : ∀ u ∈ strs xs, u.oneCell' = true := by
      intro u hu
      obtain ⟨b, _, rfl⟩ := List.mem_map.1 hu
      rfl
    go_wp2_with (first
      | (at_builtin; refine wpList_app _ rfl _ _ _ _ rfl w.heap.size 9 i0 (.string ⟨#[]⟩) 1 16 Tryz.underlying108 hi hz0 hz1 hz2 rfl _ 0 [] rfl ho0 xs.length (strs xs) (src_sees _ Tryz.underlying108 c ((hs.more hB).below hbl) h1) (by unfold maxLen; omega) (by omega) (by simp) ?_; intro v' w' ho' hg' hat')
      | go_in)
    go_wp2
    go_ret
    exact ⟨_, rfl, by simpa using ho', hbl.grown hg' (by simp) (fun g e => by simp [Act.eval, Value.ownBlock] at e; omega)⟩
#print axioms sclone_any
theorem idxV_none {x : ByteArray} {l : List ByteArray} (h : firstIdx x l = none) : idxV x l = -1 := by unfold idxV; rw [h]
theorem idxV_some {x : ByteArray} {l : List ByteArray} {k : Nat} (h : firstIdx x l = some k) : idxV x l = k := by unfold idxV; rw [h]
theorem PnAt.sees {w : World} {a : NA} {n : PN} (h : PnAt w a n) : ∃ A c, a.s = .slice A n.slots.length c ∧ n.slots.length ≤ c ∧ Sees w w.heap.size 1 A n.slots.length (strs n.slots) := by
  have hrow := h.slots
  obtain ⟨A, c, hv, h1⟩ := Sees.of_own (B := w.heap.size) hrow fun g hg => (World.ownsRow.lt hrow g hg).2
  refine ⟨A, c, hv, ?_, h1⟩
  rcases hrow.2 with ⟨e, e2⟩ | ⟨g, cap, cur, e, _, _, hnc, _⟩
  · omega
  · rw [hv] at e
    injection e with e1 e2 e3
    omega
set_option maxHeartbeats 1600000 in
set_option maxRecDepth 100000 in
theorem pplace_any (own : Nat → Option Role) (lay : Nat → NA) (p mb i : Nat) (T : PT) (n : PN) (w : World) (h : PlainAt w own lay p mb T) (hT : T.Wf) (hg : getS i T.nodes = some n) :
    Calls Tryz.prog 97 #[.pointer (some ⟨p, 0, none⟩), .pointer (some ⟨(lay i).nb, 0, none⟩)] w fun e w' => e = .returned (.tuple #[natV (T.place n).1, natV (T.place n).2]) ∧ Below w.heap.size w w' := by
  have hn := (hT.ok.get hg).1
  have hpn := h.get hg
  obtain ⟨A, c, hsl, hlc, hs⟩ := hpn.sees
  have c5 := hpn.c5
  rw [hsl] at c5
  have hsl5 := hn.slots
  have hcallS := sindex_any w.heap.size A c emp n.slots w hs (by omega)
  have hcallC := sclone_any w.heap.size A c n.slots w hs (Nat.le_refl _) (by omega)
  have hH := Lib.hid h
  have hHT := Lib.hid hT
  have hHn := Lib.hid hpn
  have hHo := Lib.hid hn
  have hgH := Lib.hid hg
  go_enter Tryz.func97, Tryz.ntmps97
  generalize hnb : (lay i).nb = nb at *
  have hnbH := Lib.hid hnb
  cases hf : firstIdx emp n.slots with
  | some k =>
    have hpl : T.place n = (k, 0) := by unfold PT.place; rw [hf]
    rw [idxV_some hf] at hcallS
    rw [hpl]
    clear hf hpl hnb h hpn hs hsl hT hn hg hcallC
    unfold emp at hcallS
    go_wp2_with (first | (go_at_call 104; refine hcallS.mono ?_; rintro e w' ⟨rfl, rfl⟩))
    go_ret2
    exact ⟨rfl, Below.refl _ _⟩
  | none =>
    rw [idxV_none hf] at hcallS
    unfold emp at hcallS
    have hpl0 : T.place n = if n.slots.length = 1068 then (0, 112) else if T.room n.count (cntK (List.range (n.slots.length + 1))) then (n.slots.length, 0) else (0, 80) := by unfold PT.place; rw [hf]
    obtain ⟨len, hlen⟩ : ∃ len, len = n.slots.length := ⟨_, rfl⟩
    have hlenH := Lib.hid hlen
    rw [← hlen] at hpl0 hcallS hcallC hsl5 c5 hlc
    by_cases hfull : len = 1068
    · subst hfull
      rw [if_pos rfl] at hpl0
      rw [hpl0]
      clear hf hpl0 hnb h hpn hs hsl hT hn hg hcallC hlen
      go_wp2_with (first | (go_at_call 104; refine hcallS.mono ?_; rintro e w' ⟨rfl, rfl⟩))
      go_ret2
      exact ⟨rfl, Below.refl _ _⟩
    · rw [if_neg hfull] at hpl0
      have hne : ((len : Int) == 1068) = false := by simp; omega
      have hlt8 : len < 1068 := by omega
      have hplH := Lib.hid hpl0
      obtain ⟨i0, hi, hz0, hz1, hz2⟩ := info_parts infoStr
      clear hf hpl0 hnb h hpn hs hsl hT hn hg hlen hfull
      go_upto_region 7 with (first
        | (go_at_call 104; refine hcallS.mono ?_; rintro e w' ⟨rfl, rfl⟩)
        | (go_at_call 128; refine hcallC.mono ?_; rintro e w1 ⟨v1, rfl, ho1, hb1⟩; obtain ⟨A1, k1, hv1, hs1⟩ := Sees.of_own (B := w1.heap.size) ho1 (fun g hg => (World.ownsRow.lt ho1 g hg).2); subst hv1; have hw1 := hb1.size)
        | (at_builtin; refine wpList_app _ rfl _ _ _ _ rfl w.heap.size 9 i0 (.string ⟨#[]⟩) 1 16 Tryz.underlying108 hi hz0 hz1 hz2 rfl (.slice A1 len k1) len (strs n.slots) rfl (ho1.alloc _) 1 [.string ⟨#[]⟩] (src_one w1 Tryz.underlying108 _ _ rfl) (by unfold maxLen; omega) (by omega) (by simp; omega) ?_; intro v2 w2 ho2 hg2 hat2; obtain ⟨A2, k2, hv2, hs2⟩ := Sees.of_own (B := w2.heap.size) ho2 (fun g hg => (World.ownsRow.lt ho2 g hg).2); subst hv2))
      have hb2 : Below w.heap.size w w2 := (hb1.trans ((Below.refl _ w1).alloc hw1 _)).grown hg2 (Nat.le_trans hw1 (by simp)) (fun g e => (World.ownsRow.lt ho1 g e).1)
      have hb3 := hb2.alloc hb2.size (.cells #[.int .i64 0, .int .i64 0, .int .i64 0, .int .i64 0, .map none, .slice A2 (len + 1) k2, .map none] 110)
      have hN3 := Blk.new w2 110 [.int .i64 0, .int .i64 0, .int .i64 0, .int .i64 0, .map none, .slice A2 (len + 1) k2, .map none]
      have hP3 := hH.out.fresh hb3
      have hgi := hgH.out
      have hlen1 := hlenH.out
      have hcr := room_any own lay p mb T nb w2.heap.size n.count (cntK (List.range (len + 1))) _ hP3 hHT.out.ok (fun W hb => by rw [← hnbH.out]; exact cnt_node ((hP3.fresh hb).get hgi) hHo.out) hHo.out.count
        (fun W hb => pcount_nil w2.heap.size A2 (len + 1) k2 W ((hb.cell (p := ⟨w2.heap.size, 4, none⟩) hN3.lt).trans (hN3.cell 4)) ((hb.cell (p := ⟨w2.heap.size, 5, none⟩) hN3.lt).trans (hN3.cell 5)) (by omega)) (by have := cntK_le (List.range (len + 1)); rw [List.length_range] at this; omega)
      unfold ptrV at hcr
      have hrm : decide (((cntK (List.range (len + 1)) : Nat) : Int) - (n.count : Int) ≤ (T.sectors : Int) - 1 - T.inodes - T.used) = T.room n.count (cntK (List.range (len + 1))) := rfl
      rw [hrm] at hcr
      clear hrm
      have hplH2 := hplH.out
      have c5' := (hb3.cell (p := ⟨nb, 5, none⟩) (World.block_lt_of_cell? _ _ c5)).trans c5
      generalize T.room n.count (cntK (List.range (len + 1))) = r at *
      have hb3H := Lib.hid hb3
      clear hb2 hb3 hN3 hP3 hgi hlen1 c5 hplH ho1 ho2 hs1 hs2 hat2 hg2 hb1 hcallC hcallS
      generalize w2.alloc (.cells #[.int .i64 0, .int .i64 0, .int .i64 0, .int .i64 0, .map none, .slice A2 (len + 1) k2, .map none] 110) = w3 at *
      generalize w2.heap.size = z at *
      cases r with
      | true =>
        simp only [if_true] at hplH2
        have hplE := Lib.hid hplH2
        clear hplH2
        go_wp2_with (first | (go_at_call 129; refine hcr.mono ?_; rintro e w4 ⟨rfl, hb4⟩; have c5'' := (hb4.cell (p := ⟨nb, 5, none⟩) (World.block_lt_of_cell? _ _ c5')).trans c5'))
        go_ret2
        exact ⟨by rw [hplE.out]; rfl, hb3H.out.trans (hb4.mono hb3H.out.size)⟩
      | false =>
        simp only [Bool.false_eq_true, if_false] at hplH2
        have hplE := Lib.hid hplH2
        clear hplH2
        go_wp2_with (first | (go_at_call 129; refine hcr.mono ?_; rintro e w4 ⟨rfl, hb4⟩))
        go_ret2
        exact ⟨by rw [hplE.out]; rfl, hb3H.out.trans (hb4.mono hb3H.out.size)⟩
#print axioms pplace_any
end Go.Proofs.YtolpcfhfcdkokaaGreatDoor
/-
  The tree in memory: an inode has one entry less.
-/
namespace Go.Proofs.YtolpcfhfcdkokaaGreatDoor
open Go.RowKit
open Go.Maps (Keyed)

set_option maxHeartbeats 1600000 in
set_option maxRecDepth 100000 in
theorem pless_any (own : Nat → Option Role) (lay : Nat → NA) (p mb i : Nat) (T : PT) (n : PN) (w : World) (h : PlainAt w own lay p mb T) (hT : T.Ok) (hg : getS i T.nodes = some n) (hl : 1 ≤ n.links) :
    Calls Tryz.prog 102 #[ptrV p, natV i] w fun e w' => e = .returned (.tuple #[]) ∧ PTurn own p mb (T.less i) w w' := by
  have hok := hT.get hg
  have hio := hT.ino
  have hlk2 := hok.1.links
  have c2 := h.c2
  have hlk := h.lookI hg (by omega)
  have hpn := h.get hg
  have k1 := hpn.c1
  have k0 := hpn.c0
  have f1 := hpn.blk.frozen 1
  have ho := h.owns _ (mem_of_getS hg)
  obtain ⟨m, hm⟩ : ∃ m, n.links = m + 1 := ⟨n.links - 1, by omega⟩
  have hc1 : Chg (fun b => b = (lay i).nb) w (w.setCell ⟨(lay i).nb, 1, none⟩ (.int .i64 (m : Int))) := (Chg.refl (fun b => b = (lay i).nb) w).setCell (p := ⟨(lay i).nb, 1, none⟩) (fun _ => rfl) _
  have hn1 : PnAt (w.setCell ⟨(lay i).nb, 1, none⟩ (.int .i64 (m : Int))) (lay i) { n with links := m } := by
    have hap := ho.apart
    refine ⟨?_, hpn.data.chg hc1 fun b e => hap.1 b e, own_chg hpn.slots hc1 fun b e => hap.2.1 b e, hpn.names.chg hc1 fun b e => hap.2.2.1 b e, hpn.dirs, hpn.files⟩
    exact hpn.blk.set_ 1 _
  have hP1 := h.upd hT.ris hg hc1 (fun b _ e => by subst e; exact .inl ho.nb) hn1 rfl (Ext.refl _ _) (fun b r e => Nat.lt_of_lt_of_le (h.lt b r e) hc1.size) ho
  rw [lay1_self] at hP1
  have hg1 : getS i (T.upd i { n with links := m }).nodes = some { n with links := m } := getS_put_same natK i _ _
  have d2 := hP1.c2
  have hlk1 := hP1.lookI hg1 (by omega)
  have k1' := (hP1.get hg1).c1
  have k0' := (hP1.get hg1).c0
  have hnd := hP1.nodes
  have hT1 : PTurn own p mb (T.upd i { n with links := m }) w (w.setCell ⟨(lay i).nb, 1, none⟩ (.int .i64 (m : Int))) := .of hP1 (Ext.refl _ _) (hc1.mono fun b _ e => by subst e; rw [ho.nb]; simp)
  have hTH := Lib.hid hT1
  have hPH := Lib.hid hP1
  have hoH := Lib.hid ho
  have hlen : (List.map (fun x => (x.1, (lay x.1).nb)) (T.upd i { n with links := m }).nodes).length ≤ 1000 := by
    rw [List.length_map]
    have := length_put_le natK i { n with links := m } T.nodes
    have := hT.len
    show (putS natK i _ T.nodes).length ≤ 1000
    omega
  have hless : T.less i = if m = 0 ∨ n.dir = true then T.del i else T.upd i { n with links := m } := by
    unfold PT.less; rw [hg]; simp only [hm, Nat.add_sub_cancel]
  have hlH := Lib.hid hless
  rw [hm] at k1 hlk2
  simp only at k1' k0'
  unfold ptrV natV
  clear hless hT1 hP1 ho hn1 hpn h hg hg1 hT hc1 hm
  go_enter Tryz.func102, Tryz.ntmps102
  generalize (lay i).nb = nb at *
  generalize hkd : ({ n with links := m } : PN).kind = kd at k0' k0
  have hkd2 : n.kind = kd := hkd
  rw [hkd2] at k0
  by_cases hz : m = 0
  · have hz1 : ((m : Int) == 0) = true := by simp; omega
    have hzH := Lib.hid hz
    clear hz
    go_wp2_with (first
      | (at_delete; refine wpList_mdel _ rfl _ _ 96 rfl kInt Tryz.underlying96 hnd rfl i rfl (keyN i (by omega)) ?_; intro w2 hm2 ht2))
    go_end0
    refine ⟨rfl, ?_⟩
    have hC2 := turned_chg ht2
    obtain ⟨-, -, hPt, hEt, hCt⟩ := hTH.out
    have hP2 := hPH.out.del (i := i) hC2 (fun b _ e => .inr e) hm2
    have e : (T.upd i { n with links := m }).del i = T.del i := by unfold PT.del PT.upd; simp only [delS_put]
    rw [e] at hP2
    rw [hlH.out, if_pos (.inl hzH.out)]
    exact .of hP2 (Ext.refl _ _) (hCt.trans hC2 (fun _ _ h => h) fun b _ e => by subst e; rw [hPH.out.ownm]; simp)
  · have hz1 : ((m : Int) == 0) = false := by simp; omega
    have hzH := Lib.hid hz
    clear hz
    cases hd : n.dir with
    | true =>
      have hkd3 : kd = 2 := by rw [← hkd2]; exact kind_dir hd
      subst hkd3
      have hdH := Lib.hid hd
      clear hd hkd hkd2
      go_wp2_with (first
      | (at_delete; refine wpList_mdel _ rfl _ _ 96 rfl kInt Tryz.underlying96 hnd rfl i rfl (keyN i (by omega)) ?_; intro w2 hm2 ht2))
      go_end0
      refine ⟨rfl, ?_⟩
      have hC2 := turned_chg ht2
      obtain ⟨-, -, hPt, hEt, hCt⟩ := hTH.out
      have hP2 := hPH.out.del (i := i) hC2 (fun b _ e => .inr e) hm2
      have e : (T.upd i { n with links := m }).del i = T.del i := by unfold PT.del PT.upd; simp only [delS_put]
      rw [e] at hP2
      rw [hlH.out, if_pos (.inr hdH.out)]
      exact .of hP2 (Ext.refl _ _) (hCt.trans hC2 (fun _ _ h => h) fun b _ e => by subst e; rw [hPH.out.ownm]; simp)
    | false =>
      have hkd3 : kd = 1 := by rw [← hkd2]; exact kind_file hd
      subst hkd3
      have hdH := Lib.hid hd
      clear hd hkd hkd2
      go_wp2
      go_end0
      refine ⟨rfl, ?_⟩
      rw [hlH.out, if_neg (fun h => h.elim hzH.out (fun h => by rw [hdH.out] at h; cases h))]
      exact hTH.out
#print axioms pless_any
end Go.Proofs.YtolpcfhfcdkokaaGreatDoor
/-
  The tree in memory: stat, entry.
-/
namespace Go.Proofs.YtolpcfhfcdkokaaGreatDoor
open Go.RowKit
open Go.Maps (Keyed)

def stC (s : St) : List Value := [.int .i64 s.ino, .int .i64 s.kind, .int .i64 s.links, .int .i64 s.size, .int .i64 s.made, .int .i64 s.blocks]
def stV (s : St) : Value := .agg (stC s).toArray
theorem chg6 (w : World) (g : Nat) (v0 v1 v2 v3 v4 v5 : Value) : Chg (fun b => b = g) w ((((((w.setCell ⟨g, 0, none⟩ v0).setCell ⟨g, 1, none⟩ v1).setCell ⟨g, 2, none⟩ v2).setCell ⟨g, 3, none⟩ v3).setCell ⟨g, 4, none⟩ v4).setCell ⟨g, 5, none⟩ v5) :=
  ((((((Chg.refl (fun b => b = g) w).setCell (p := ⟨g, 0, none⟩) (fun _ => rfl) v0).setCell (p := ⟨g, 1, none⟩) (fun _ => rfl) v1).setCell (p := ⟨g, 2, none⟩) (fun _ => rfl) v2).setCell (p := ⟨g, 3, none⟩) (fun _ => rfl) v3).setCell (p := ⟨g, 4, none⟩) (fun _ => rfl) v4).setCell (p := ⟨g, 5, none⟩) (fun _ => rfl) v5
theorem blk_set6 {w : World} {g : Nat} {t : TypeId} {a0 a1 a2 a3 a4 a5 : Value} (h : Blk w g t [a0, a1, a2, a3, a4, a5]) (v0 v1 v2 v3 v4 v5 : Value) :
    Blk ((((((w.setCell ⟨g, 0, none⟩ v0).setCell ⟨g, 1, none⟩ v1).setCell ⟨g, 2, none⟩ v2).setCell ⟨g, 3, none⟩ v3).setCell ⟨g, 4, none⟩ v4).setCell ⟨g, 5, none⟩ v5) g t [v0, v1, v2, v3, v4, v5] := ((((((h.set_ 0 v0).set_ 1 v1).set_ 2 v2).set_ 3 v3).set_ 4 v4).set_ 5 v5)
set_option maxHeartbeats 3200000 in
set_option maxRecDepth 100000 in
theorem pstat_any (own : Nat → Option Role) (lay : Nat → NA) (p mb i : Nat) (T : PT) (n : PN) (w : World) (h : PlainAt w own lay p mb T) (hT : T.Ok) (hg : getS i T.nodes = some n) :
    Calls Tryz.prog 99 #[.pointer (some ⟨p, 0, none⟩), .int .i64 (i : Int)] w fun e w' => e = .returned (stV (T.stat i)) ∧ Below w.heap.size w w' := by
  have hok := hT.get hg
  have hio := hT.ino
  have hb0 : Below w.heap.size w (w.alloc (.cells #[.int .i64 0, .int .i64 0, .int .i64 0, .int .i64 0, .int .i64 0, .int .i64 0] 63)) := (Below.refl _ _).alloc (Nat.le_refl _) _
  have hP0 := h.fresh hb0
  have hR0 := Blk.new w 63 [.int .i64 0, .int .i64 0, .int .i64 0, .int .i64 0, .int .i64 0, .int .i64 0]
  have hst : T.stat i = ⟨i, n.kind, n.links, n.size, n.made, n.count⟩ := by unfold PT.stat; rw [hg]
  have hpn0 := h.get hg
  have hnlt := hpn0.blk.lt
  go_enter Tryz.func99, Tryz.ntmps99
  go_upto_region 1 with (fail)
  replace hR0 : Blk (w.alloc (.cells #[.int .i64 0, .int .i64 0, .int .i64 0, .int .i64 0, .int .i64 0, .int .i64 0] 63)) w.heap.size 63 [.int .i64 0, .int .i64 0, .int .i64 0, .int .i64 0, .int .i64 0, .int .i64 0] := hR0
  generalize w.alloc (.cells #[.int .i64 0, .int .i64 0, .int .i64 0, .int .i64 0, .int .i64 0, .int .i64 0] 63) = w0 at *
  generalize hgg : w.heap.size = g at *
  have hgH := Lib.hid hgg
  clear hgg
  have c2 := hP0.c2
  have hlk := hP0.lookI hg (by omega)
  have hpn := hP0.get hg
  have k0 := hpn.c0
  have k1 := hpn.c1
  have k2 := hpn.c2
  have k3 := hpn.c3
  have hgz := hR0.lt
  have hpd : PnAt w0.drew (lay i) n := (hP0.drew).get hg
  have hng : (lay i).nb ≠ g := by omega
  have hnn : ∀ w1, Below w0.heap.size w0 w1 → PnAt w1 (lay i) n := fun w1 hb => (hP0.fresh hb).get hg
  have hset : ∀ w1 v0 v1 v2 v3 v4 v5, PnAt w1 (lay i) n → PnAt ((((((w1.setCell ⟨g, 0, none⟩ v0).setCell ⟨g, 1, none⟩ v1).setCell ⟨g, 2, none⟩ v2).setCell ⟨g, 3, none⟩ v3).setCell ⟨g, 4, none⟩ v4).setCell ⟨g, 5, none⟩ v5) (lay i) n := fun w1 v0 v1 v2 v3 v4 v5 h1 => by
    have ho := hP0.owns _ (mem_of_getS hg)
    have hlt : ∀ b r, own b = some r → b < g := fun b r e => by rw [← hgH.out]; exact h.lt b r e
    refine h1.chg (chg6 w1 g v0 v1 v2 v3 v4 v5) hng (fun b e hb => ?_) (fun b e hb => ?_) (fun b e hb => ?_)
    · have := hlt _ _ (ho.d b e); omega
    · have := hlt _ _ (ho.s b e); omega
    · have := hlt _ _ (ho.nm b e); omega
  have hcnt := fun W (hn : PnAt W (lay i) n) => cnt_node hn hok.1
  have hnH := Lib.hid hnn
  have hsH := Lib.hid hset
  have hRH := Lib.hid hR0
  have hbH := Lib.hid hb0
  have hpdH := Lib.hid hpd
  have hstH := Lib.hid hst
  have hcH := Lib.hid hcnt
  clear hnn hset hR0 hb0 hpd hst hpn hP0 hpn0 h hcnt hT hok
  unfold ptrV at hcH
  generalize hnb : (lay i).nb = nb at *
  have hnbH := Lib.hid hnb
  clear hnb
  go_upto_region 2 with (fail)
  go_region_held3 (fun w' => w'.cell? ⟨nb, 0, none⟩ = some (.int .i64 n.kind) ∧ w'.cell? ⟨nb, 1, none⟩ = some (.int .i64 (n.links : Int)) ∧ w'.cell? ⟨nb, 2, none⟩ = some (.int .i64 (n.size : Int)) ∧ w'.cell? ⟨nb, 3, none⟩ = some (.int .i64 (n.made : Int)))
    (first | go_keep)
    (first
      | (go_at_call 57; refine (hcH.out w0.drew hpdH.out).mono ?_; rintro e w1 ⟨rfl, hb1⟩; have hn1 := hnH.out w1 (below_drew' hb1); have d0 := hn1.c0; have d1 := hn1.c1; have d2 := hn1.c2; have d3 := hn1.c3; have hR1 := hRH.out.fresh (below_drew' hb1); have f0 := hR1.frozen 0; have q0 := hR1.cell 0; have f1 := hR1.frozen 1; have q1 := hR1.cell 1; have f2 := hR1.frozen 2; have q2 := hR1.cell 2; have f3 := hR1.frozen 3; have q3 := hR1.cell 3; have f4 := hR1.frozen 4; have q4 := hR1.cell 4; have f5 := hR1.frozen 5; have q5 := hR1.cell 5; have hn3 := hsH.out w1 (.int .i64 (i : Int)) (.int .i64 n.kind) (.int .i64 (n.links : Int)) (.int .i64 (n.size : Int)) (.int .i64 (n.made : Int)) (.int .i64 (n.count : Int)) hn1; have e0 := hn3.c0; have e1 := hn3.c1; have e2 := hn3.c2; have e3 := hn3.c3; rw [hnbH.out] at d0 d1 d2 d3 e0 e1 e2 e3; clear hn3 hn1))
  have hrow := blk_set6 hR1 (.int .i64 (i : Int)) (.int .i64 n.kind) (.int .i64 (n.links : Int)) (.int .i64 (n.size : Int)) (.int .i64 (n.made : Int)) (.int .i64 (n.count : Int))
  have hbl := (hbH.out.trans ((below_drew' hb1).mono (Nat.le_of_lt hgz))).trans ((chg6 w1 g (.int .i64 (i : Int)) (.int .i64 n.kind) (.int .i64 (n.links : Int)) (.int .i64 (n.size : Int)) (.int .i64 (n.made : Int)) (.int .i64 (n.count : Int))).below (show g ≤ w1.heap.size by have := (below_drew' hb1).size; omega) fun b hb e => by omega)
  go_wp2
  refine bodyPost_ret (results_cell_row rfl _ _ g 63 (#[.int .i64 (i : Int), .int .i64 n.kind, .int .i64 (n.links : Int), .int .i64 (n.size : Int), .int .i64 (n.made : Int), .int .i64 (n.count : Int)] : Array Value) (0, 0) _ rfl hrow Tryz.underlying63 rfl rfl) rfl ⟨?_, ?_⟩
  · rw [hstH.out]; rfl
  · rw [hgH.out]
    exact hbl
#print axioms pstat_any
theorem results_tmp4 {fn : Func} {t u v x : Tmp} (h : fn.results = #[.tmp t, .tmp u, .tmp v, .tmp x]) (tmps : Array Value) (P : Program) (w : World) :
    (results fn tmps).run P w = .ok (.tuple #[tmps.getD t undef, tmps.getD u undef, tmps.getD v undef, tmps.getD x undef]) w := by
  simp [results, h]
theorem last_in {T : PT} (hT : T.Wf) (l : List ByteArray) (h0 : (T.last l).2 = 0) : ∃ n, getS (T.last l).1 T.nodes = some n ∧ n.dir = true := by
  unfold PT.last at h0 ⊢
  split
  · rename_i h; rw [if_pos h] at h0; cases h0
  · rename_i h
    rw [if_neg h] at h0
    simp only at h0 ⊢
    by_cases hc : (T.walk l.dropLast 1).2 = 0 ∧ T.isDir (T.walk l.dropLast 1).1 = false
    · rw [if_pos hc] at h0; cases h0
    · rw [if_neg hc] at h0 ⊢
      obtain ⟨n, hn⟩ := walk_stays hT l.dropLast 1 (let ⟨n, h, _⟩ := hT.root; ⟨n, h⟩) h0
      refine ⟨n, hn, ?_⟩
      have hd : T.isDir (T.walk l.dropLast 1).1 = n.dir := by unfold PT.isDir; rw [hn]
      cases hnd : n.dir with
      | true => rfl
      | false => exact absurd ⟨h0, by rw [hd, hnd]⟩ hc
theorem last_le {T : PT} (hT : T.Wf) (l : List ByteArray) : (T.last l).1 ≤ 512 := by
  have := walk_le hT l.dropLast
  unfold PT.last
  split
  · simp
  · simp only
    split
    · exact this
    · exact this
theorem lastN_size {l : List ByteArray} (h : ∀ x ∈ l, x.size ≤ 1000000) : (lastN l).size ≤ 1000000 := by
  unfold lastN
  rw [List.getLastD_eq_getLast?]
  cases hl : l.getLast? with
  | none => simp [emp, ByteArray.size]
  | some x => exact h x (List.mem_of_getLast? hl)
set_option maxHeartbeats 1600000 in
set_option maxRecDepth 100000 in
theorem pentry_any (own : Nat → Option Role) (lay : Nat → NA) (p mb : Nat) (T : PT) (B : Nat) (A : Option Addr) (c : Nat) (l : List ByteArray) (w : World) (h : PlainAt w own lay p mb T) (hT : T.Wf)
    (hs : Sees w B 1 A l.length (strs l)) (hl : l.length ≤ 1000000) (hc : l.length ≤ c) (hx : ∀ x ∈ l, x.size ≤ 1000000) :
    Calls Tryz.prog 100 #[.pointer (some ⟨p, 0, none⟩), .slice A l.length c] w fun e w' => e = .returned (.tuple #[natV (T.entry l).1, .string (T.entry l).2.1, natV (T.entry l).2.2.1, natV (T.entry l).2.2.2]) ∧ Below w.heap.size w w' := by
  have hcall := plast_any own lay p mb T B A c l w h hT hs hl hc hx
  have hH := Lib.hid h
  have hTH := Lib.hid hT
  have hnS := lastN_size hx
  have hlin := last_in hT l
  have hlle := last_le hT l
  have hen : T.entry l = if (T.last l).2 ≠ 0 then (0, emp, 0, (T.last l).2) else match (getS (T.last l).1 T.nodes).bind fun d => getS (lastN l) d.names with | none => (0, emp, 0, 110) | some j => ((T.last l).1, lastN l, j, 0) := rfl
  go_enter Tryz.func100, Tryz.ntmps100
  generalize T.last l = r at *
  obtain ⟨i, e⟩ := r
  generalize lastN l = nm at *
  simp only at hlin hlle hen hcall
  unfold natV at hcall
  clear h hT hs hx
  generalize l.length = len at *
  by_cases he : e = 0
  · subst he
    obtain ⟨n, hn, hd⟩ := hlin rfl
    rw [if_neg (by simp), hn] at hen
    simp only [Option.bind_some] at hen
    cases hg : getS nm n.names with
    | none =>
      rw [hg] at hen
      have heH := Lib.hid hen
      clear hen hlin hd
      go_wp2_with (first | (go_at_call 95; refine hcall.mono ?_; rintro e w1 ⟨rfl, hb1⟩; have hP1 := hH.out.fresh hb1; have c2 := hP1.c2; have hlk := hP1.lookI hn (by omega); have k6 := (hP1.get hn).c6; have hlN := (hP1.get hn).lookN nm (by omega); rw [hg] at hlN; simp only [orV, Option.isSome_none] at hlN; have hgH := Lib.hid hg; have hnH := Lib.hid hn; clear hg hn hP1))
      refine bodyPost_ret (results_tmp4 rfl _ _ _) rfl ⟨?_, hb1⟩
      rw [heH.out]
      rfl
    | some j =>
      rw [hg] at hen
      have heH := Lib.hid hen
      clear hen hlin hd
      go_wp2_with (first | (go_at_call 95; refine hcall.mono ?_; rintro e w1 ⟨rfl, hb1⟩; have hP1 := hH.out.fresh hb1; have c2 := hP1.c2; have hlk := hP1.lookI hn (by omega); have k6 := (hP1.get hn).c6; have hlN := (hP1.get hn).lookN nm (by omega); rw [hg] at hlN; simp only [orV, Option.isSome_some, natV] at hlN; have hgH := Lib.hid hg; have hnH := Lib.hid hn; clear hg hn hP1))
      refine bodyPost_ret (results_tmp4 rfl _ _ _) rfl ⟨?_, hb1⟩
      rw [heH.out]
      rfl
  · rw [if_pos he] at hen
    have hne : ((e : Int) != 0) = true := by simp; omega
    have heH := Lib.hid hen
    clear hen hlin he
    go_wp2_with (first | (go_at_call 95; refine hcall.mono ?_; rintro e w1 ⟨rfl, hb1⟩))
    refine bodyPost_ret (results_tmp4 rfl _ _ _) rfl ⟨?_, hb1⟩
    rw [heH.out]
    rfl
#print axioms pentry_any
end Go.Proofs.YtolpcfhfcdkokaaGreatDoor
