/- Joined out of the texts PTrunc. -/
import Derived.StillTailTactics
import Derived.Test.YtolpcfhfcdkokaaGreatDoorM18
/-
  The tree in memory: truncate.
-/
namespace Go.Proofs.YtolpcfhfcdkokaaGreatDoor
open Go.RowKit Go.Proofs
open Go.Maps (Keyed)

section
variable {P : Program}
theorem wpStill_load_row {ops : Array Oper} {o : Oper} {a : Act} {w : World} {rest : List Oper} {Q : Act → Prop} (hgd : o.guard = none) (ty : TypeId) (x : Operand) (ho : o.op = .load ty x)
    (g : Nat) (hx : a.eval x = .pointer (some ⟨g, 0, none⟩)) (cs : Array Value) (hrun : (loadVar ty ⟨g, 0, none⟩).run P w = .ok (.agg cs) w)
    (h : wpStill P ops w Q rest (a.put o.dst (.agg cs))) : wpStill P ops w Q (o :: rest) a := by
  have hw : Region.wanted o (yielded ops a.tmps) = true := by simp [Region.wanted, hgd]
  unfold wpStill
  rw [if_pos hw]
  unfold Oper.still execOp
  simp only [ho, hx, Instr.loadAt, Instr.sureAddr, Sem.run_bind, Sem.run_pure, Result.andThen_ok, hrun]
  exact ⟨rfl, h⟩
/-- 'clear(s)' on a slice of bytes within a block known whole. -/
theorem wpList_clearb {w : World} {ops : Array Oper} {rest : List Oper} {o : Oper} {a : Act} {Q : Exit → Act → World → Prop} (hgd : o.guard = none) (x : Operand) (t elem : TypeId)
    (ho : o.op = .call { callee := .builtin .clear, args := #[x], argTypes := #[t] }) (hu : P.underlying t = some (.slice elem)) (hz : (zeroValue elem).run P w = .ok (Value.int .u8 0) w)
    (g off n c : Nat) (hx : a.eval x = .slice (some ⟨g, off, none⟩) n c) (hn : 0 < n) (tt : TypeId) (cur : List Value) (hg : Blk w g tt cur) (hfit : off + n ≤ cur.length)
    (h : wpList P ops Q rest (a.put o.dst (.tuple #[])) (w.setRow g (cur.take off ++ List.replicate n (Value.int .u8 0) ++ cur.drop (off + n)).toArray)) : wpList P ops Q (o :: rest) a w := by
  refine wpList_plain hgd fun K' hK' => ?_
  have hzc : (Builtin.zeroCells (Value.int .u8 0).cells n).toList = List.replicate n (Value.int .u8 0) := by
    apply List.ext_getElem
    · simp [Builtin.zeroCells, Value.cells]
    · intro i h1 h2
      have hc : (Value.int .u8 0).cells = #[Value.int .u8 0] := rfl
      simp [Builtin.zeroCells, hc, Nat.mod_one]
  have hst := run_storeCells_at (P := P) g off tt (List.replicate n (Value.int .u8 0)) 0 cur.toArray w hg (by simpa using hfit) (fun v hv => by rw [List.eq_of_mem_replicate hv]; rfl)
  simp only [Nat.add_zero, List.length_replicate] at hst
  have hrun : (Builtin.clear_ #[t] o.type #[.slice (some ⟨g, off, none⟩) n c]).run P w = .ok (.tuple #[]) (w.setRow g (cur.take off ++ List.replicate n (Value.int .u8 0) ++ cur.drop (off + n)).toArray) := by
    obtain ⟨m, rfl⟩ : ∃ m, n = m + 1 := ⟨n - 1, by omega⟩
    simp [Builtin.clear_, run_underlying hu, hz, hzc, hst, Result.andThen]
  unfold Oper.wp
  simp only [List.append_assoc] at hrun h
  simp [execOp, ho, resolve, invoke, builtin, hx, hrun, Result.andThen]
  exact hK' _ _ h
end
theorem arrLen : Tryz.prog.arrayLen 187 = 128 := by kernel_rfl
theorem arrUnd : Tryz.prog.underlying 187 = some (.array (Tryz.prog.arrayLen 187) (Tryz.prog.elem 187)) := by kernel_rfl
theorem arrSize (w : World) : (sizeOf (Tryz.prog.elem 187)).run Tryz.prog w = .ok 1 w := by kernel_rfl
/-- 's[lo:]' of a sector. -/
theorem slice_sec (w : World) (z l : Nat) (L : Int) (h : L = (l : Int)) (hl : l < 128) : (Instr.sliceAt 187 (.pointer (some ⟨z, 0, none⟩)) (some (.int .i64 L)) none none).run Tryz.prog w = .ok (.slice (some ⟨z, l, none⟩) (128 - l) (128 - l)) w := by
  subst h
  rw [run_sliceAt_array_l w 187 ⟨z, 0, none⟩ arrUnd .i64 l (by omega) (by rw [arrLen]; omega), arrSize, arrLen]
  have hne : ¬ (128 : Nat) = l := by omega
  simp [Result.andThen, slicedAt, hne, Addr.add_lit]
/-! ### The plain law -/
def cutBlk (size k : Nat) (s : List UInt8) : List UInt8 := s.take (size - k * 128) ++ List.replicate (128 - (size - k * 128)) 0
/-- What is left of a block when a file is cut. -/
def cutE (size k : Nat) (s : List UInt8) : Option (List UInt8) := if size ≤ k * 128 then none else some (if size < k * 128 + 128 then cutBlk size k s else s)
def cutData (size : Nat) (d : List (Nat × List UInt8)) : List (Nat × List UInt8) := d.filterMap fun p => (cutE size p.1 p.2).map fun s => (p.1, s)
def PN.cut (n : PN) (size : Nat) : PN := { n with data := cutData size n.data, size := size }
theorem ris_cut {size : Nat} {d : List (Nat × List UInt8)} (h : RisS natK d) : RisS natK (cutData size d) := by
  unfold RisS cutData at *
  rw [List.pairwise_filterMap]
  refine h.imp fun {a b} hab x hx y hy => ?_
  rw [Option.map_eq_some_iff] at hx hy
  obtain ⟨_, _, rfl⟩ := hx
  obtain ⟨_, _, rfl⟩ := hy
  exact hab
theorem get_cut {size : Nat} (k : Nat) : ∀ {d : List (Nat × List UInt8)}, RisS natK d → getS k (cutData size d) = (getS k d).bind (cutE size k)
  | [], _ => rfl
  | y :: r, h => by
    obtain ⟨h1, h2⟩ := List.pairwise_cons.1 h
    have ih := get_cut (size := size) k h2
    unfold cutData at ih ⊢
    simp only [List.filterMap_cons, getS]
    by_cases e : y.1 = k
    · subst e
      rw [if_pos rfl]
      simp only [Option.bind_some]
      cases hc : cutE size y.1 y.2 with
      | some s => simp [getS]
      | none =>
        simp only [Option.map_none]
        rw [ih]
        have : getS y.1 r = none := getS_none.2 fun p hp e => by have := h1 p hp; rw [e, lt_irrefl'] at this; cases this
        rw [this]; rfl
    · rw [if_neg e]
      cases hc : cutE size y.1 y.2 with
      | some s =>
        simp only [Option.map_some, getS]
        rw [if_neg e]
        exact ih
      | none => exact ih
theorem cut_len (size k : Nat) (s : List UInt8) (h : s.length = 128) (h1 : k * 128 < size) (h2 : size < k * 128 + 128) : (cutBlk size k s).length = 128 := by
  unfold cutBlk
  rw [List.length_append, List.length_take, List.length_replicate]
  omega
theorem bvs_cut (size k : Nat) (s : List UInt8) (h : s.length = 128) :
    bvs (cutBlk size k s) = (bvs s).take (size - k * 128) ++ List.replicate (128 - (size - k * 128)) (.int .u8 0) ++ (bvs s).drop (size - k * 128 + (128 - (size - k * 128))) := by
  rw [List.drop_eq_nil_of_le (by rw [bvs_length]; omega), List.append_nil]
  simp [cutBlk, bvs, List.map_take]
set_option maxHeartbeats 3200000 in
set_option maxRecDepth 100000 in
theorem ptrunc_bad (a : NA) (sz : Int) (w : World) (hsz : sz < 0 ∨ 136704 < sz) (hsz0 : -9223372036854775808 ≤ sz ∧ sz ≤ 9223372036854775807) :
    Calls Tryz.prog 107 #[ptrV a.nb, .int .i64 sz] w fun e w' => e = .returned (.int .i64 101) ∧ w = w' := by
  unfold ptrV
  go_enter Tryz.func107, Tryz.ntmps107
  by_cases h0 : sz < 0
  · have hd0 : decide (sz < 0) = true := by simpa using h0
    go_wp2
    go_ret
    exact ⟨rfl, rfl⟩
  · have hd0 : decide (sz < 0) = false := by simpa using h0
    have hd1 : decide (136704 < sz) = true := by simp; omega
    go_wp2
    go_ret
    exact ⟨rfl, rfl⟩
set_option maxHeartbeats 3200000 in
set_option maxRecDepth 100000 in
theorem ptrunc_ok (own : Nat → Option Role) (i0 : Nat) (a : NA) (n : PN) (db size : Nat) (w : World) (h : PnAt w a n) (ho : Owns own i0 a) (hn : n.Ok) (hdb : a.d = some db) (hsle : size ≤ 136704) :
    Calls Tryz.prog 107 #[ptrV a.nb, natV size] w fun e w' => e = .returned (.int .i64 0) ∧ PnAt w' a (n.cut size) ∧ Chg (Of own i0) w w' := by
  have c4 := h.c4
  rw [hdb] at c4
  unfold ptrV natV
  go_enter Tryz.func107, Tryz.ntmps107
  have hd0 : decide ((size : Int) < 0) = false := by simp
  have hd1 : decide (136704 < (size : Int)) = false := by simp; omega
  have hm := h.data
  rw [hdb] at hm
  have hmap : MapAt w natK secV 3 db n.data := hm
  have hap := ho.apart
  have hne := hap.1 db hdb
  have hdlt := hmap.lt
  have hnlt := h.blk.lt
  have hn0 : n.data.length < maxLen := by have := hn.dlen; unfold maxLen; omega
  have hHn := Lib.hid h
  have hHo := Lib.hid ho
  have hHk := Lib.hid hn
  have hHa := Lib.hid hap
  have hHd := Lib.hid hdb
  clear h ho hn hap hm hdb
  go_wp2_with (first
    | (at_range; refine wpList_mrange _ rfl _ 107 rfl kInt Tryz.underlying107 hmap rfl ?_; intro w1 hr1 hb1 hs1))
  go_frame
  have hris := hmap.ris kInt
  clear hmap
  generalize hg : w.heap.size = g at *
  have hgH := Lib.hid hg
  clear hg
  go_loopw [5, 6, 7] (fun _ _ _ wr => ∃ (l : List (Nat × List UInt8)) (todo : Nat → Bool), RangeAt wr natK secV 3 db g n.data.length l todo ∧ Hid (Chg (fun b => b = db) w wr) ∧ Hid (∀ k, getS k l = if todo k then getS k n.data else (getS k n.data).bind (cutE size k))) (fun _ _ _ wr => wr.rangeLeft db g)
  case atStart => exact ⟨_, _, hr1, Chg.of_fresh (by rw [hgH.out]; exact hb1), fun k => by cases getS k n.data <;> simp⟩
  case round =>
    obtain ⟨l, todo, hr, hc, hl⟩ := hrel
    clear hr1 hb1 hs1
    have x4 : wr.cell? ⟨a.nb, 4, none⟩ = some (.map (some db)) := (hc.out.cell (p := ⟨a.nb, 4, none⟩) (by rw [hgH.out]; exact hnlt) (fun e => hne e.symm)).trans c4
    go_wp2_with (first
      | (at_next; refine wpList_mnext _ rfl _ rfl kInt invN rfl hr ?_ ?_))
    · intro hz
      have hB := hHn.out.blk.chg hc.out (fun e => hne e.symm)
      have y2 : wr.cell? ⟨a.nb, 2, none⟩ = some (.int .i64 (n.size : Int)) := hB.cell 2
      have z2 := hB.frozen 2
      have hlE : l = cutData size n.data := RisS.ext natK (hr.owns.ris kInt) (ris_cut hris) fun k => by rw [hl.out, hz, get_cut k hris]; simp
      have hlH := Lib.hid hlE
      have hmp := hr.owns
      have hmH := Lib.hid hmp
      have hBH := Lib.hid hB
      clear hz hlE hmp hr hB hl
      go_wp2
      go_ret
      have hC2 : Chg (fun b => b = a.nb) wr (wr.setCell ⟨a.nb, 2, none⟩ (.int .i64 (size : Int))) := (Chg.refl (fun b => b = a.nb) wr).setCell (p := ⟨a.nb, 2, none⟩) (fun _ => rfl) _
      refine ⟨rfl, ⟨?_, ?_, ?_, ?_, hHn.out.dirs, hHn.out.files⟩, (hc.out.mono fun b _ e => .inr (.inl (by rw [e]; exact hHo.out.d db hHd.out))).trans hC2 (fun _ _ h => h) (fun b _ e => .inl (by rw [e]; exact hHo.out.nb))⟩
      · exact hBH.out.set_ 2 _
      · have hm2 := hmH.out.chg hC2 hne
        rw [hlH.out] at hm2
        rw [hHd.out]
        exact hm2
      · exact own_chg (own_chg hHn.out.slots hc.out fun g' hg' e => hHa.out.2.2.2.2.1 g' db hg' hHd.out e) hC2 fun g' hg' e => hHa.out.2.1 g' hg' e
      · exact (hHn.out.names.chg hc.out fun b e h => hHa.out.2.2.2.2.2 b db e hHd.out h).chg hC2 fun b e h => hHa.out.2.2.1 b e h
    · intro k s w2 hk1 hk2 hr2 hlt hch hsz hen hkey
      have hk0 : getS k n.data = some s := by have := hl.out k; rw [hk1, if_pos rfl, hk2] at this; exact this.symm
      have hkle : k ≤ 1067 := hHk.out.keys _ (mem_of_getS hk0)
      have hsl : s.length = 128 := hHk.out.secs _ (mem_of_getS hk0)
      have hc2 : Chg (fun b => b = db) w w2 := hc.out.trans hch (fun _ _ h => h) (fun b hb e => by subst e; rw [hgH.out] at hb; omega)
      have x4' : w2.cell? ⟨a.nb, 4, none⟩ = some (.map (some db)) := (hc2.cell (p := ⟨a.nb, 4, none⟩) (by rw [hgH.out]; exact hnlt) (fun e => hne e.symm)).trans c4
      have hen2 : (Instr.entry (.pointer (some ⟨g, 0, none⟩))).run Tryz.prog w2 = .ok (.tuple #[.int .i64 (k : Int), .agg (bvs s).toArray]) w2 := hen
      have hS2 : Blk (w2.alloc (.cells Tryz.zeroCells187 187)) w2.heap.size 187 (bvs zSec) := blk_zero rfl
      have hr2lt := hr2.lt
      have hr2H := Lib.hid hr2
      have hltH := Lib.hid hlt
      have hk1H := Lib.hid hk1
      have hk2H := Lib.hid hk2
      have hk0H := Lib.hid hk0
      have hc2H := Lib.hid hc2
      clear hr hr2 hlt hch hsz hen hkey hk1 hk2 hk0 hc hc2 x4
      go_upto_region 6 with (first
        | (refine wpList_store_row rfl 187 (.tmp 6) (.tmp 23) rfl w2.heap.size (bvs s).toArray rfl (by rfl) 187 _ hS2 (sec_size hsl) (by rw [List.size_toArray, List.size_toArray, bvs_length, bvs_length, zSec_length, hsl]) (secs_one s) ?_))
      have hC3 : Chg (fun b => w2.heap.size ≤ b) w2 ((w2.alloc (.cells Tryz.zeroCells187 187)).setRow w2.heap.size (bvs s).toArray) := ((Chg.refl _ w2).alloc _).setRow (fun _ => Nat.le_refl _) _
      have hS3 : Blk ((w2.alloc (.cells Tryz.zeroCells187 187)).setRow w2.heap.size (bvs s).toArray) w2.heap.size 187 (bvs s) := setRow_heap _ _ _ _ _ _ hS2
      have hsz3 : w2.heap.size < ((w2.alloc (.cells Tryz.zeroCells187 187)).setRow w2.heap.size (bvs s).toArray).heap.size := hS3.lt
      have hw2s := hc2H.out.size
      have hdb2 : db < w2.heap.size := by rw [hgH.out] at hw2s; omega
      have hr3 := hr2H.out.chg hC3 (by omega) (by omega)
      have hlt3 := rangeLeft_chg (b := db) (r := g) hC3 hr2H.out.owns.lt hr2H.out.lt (by omega) (by omega)
      have hlt3H := Lib.hid (show ((w2.alloc (.cells Tryz.zeroCells187 187)).setRow w2.heap.size (bvs s).toArray).rangeLeft db g < wr.rangeLeft db g by rw [hlt3]; exact hltH.out)
      have hc3 : Chg (fun b => b = db) w ((w2.alloc (.cells Tryz.zeroCells187 187)).setRow w2.heap.size (bvs s).toArray) := hc2H.out.trans hC3 (fun _ _ h => h) (fun b hb h => by rw [hgH.out] at hb; omega)
      have x43 : ((w2.alloc (.cells Tryz.zeroCells187 187)).setRow w2.heap.size (bvs s).toArray).cell? ⟨a.nb, 4, none⟩ = some (.map (some db)) := (hc3.cell (p := ⟨a.nb, 4, none⟩) (by rw [hgH.out]; exact hnlt) (fun e => hne e.symm)).trans c4
      have hr3H := Lib.hid hr3
      have hc3H := Lib.hid hc3
      clear hlt3 hr3 hc3 hS2 hC3 hen2
      generalize (w2.alloc (.cells Tryz.zeroCells187 187)).setRow w2.heap.size (bvs s).toArray = w3 at *
      generalize w2.heap.size = z at *
      by_cases hA : size ≤ k * 128
      · have t1 : decide ((size : Int) ≤ (k : Int) * 128) = true := by simp; omega
        have hAH := Lib.hid hA
        clear hA
        go_wp2_with (first
          | (at_delete; refine wpList_mrdel _ rfl _ _ 107 rfl kInt Tryz.underlying107 hr3H.out rfl k rfl (keyN k (by omega)) ?_; intro w4 hr4 hl4 ht4))
        have hr4H := Lib.hid hr4
        have hl4H := Lib.hid hl4
        have ht4H := Lib.hid ht4
        clear hr4 hl4 ht4
        go_frame
        go_roundw
        case rel =>
          refine ⟨_, _, hr4H.out, hc3H.out.trans (turned_chg ht4H.out) (fun _ _ h => h) (fun _ _ h => h), fun x => ?_⟩
          by_cases e : x = k
          · subst e
            rw [getS_del_same, hk0H.out]
            simp [cutE, hAH.out]
          · rw [getS_del_other e, hl.out]
            simp [e]
        case measure => exact Nat.lt_of_le_of_lt hl4H.out hlt3H.out
      · have t1 : decide ((size : Int) ≤ (k : Int) * 128) = false := by simp; omega
        by_cases hB : size < k * 128 + 128
        · have t2 : decide ((size : Int) < (k : Int) * 128 + 128) = true := by simp; omega
          have hk128 : k * 128 < size := by omega
          have hAH := Lib.hid hA
          have hBH := Lib.hid hB
          have hzr : ∀ W : World, (zeroValue 5).run Tryz.prog W = .ok (.int .u8 0) W := fun W => by kernel_rfl
          have hfl : size - k * 128 + (128 - (size - k * 128)) ≤ (bvs s).length := by rw [bvs_length, hsl]; omega
          have hpos : 0 < 128 - (size - k * 128) := by omega
          have hle1 : size - k * 128 ≤ 128 := by omega
          have hse := slice_sec w3 z (size - k * 128) ((size : Int) - (k : Int) * 128) (by omega) (by omega)
          clear hA hB
          go_upto_region 11 with (first
            | (refine wpList_clearb rfl (.tmp 43) 64 5 rfl Tryz.underlying64 (hzr _) z (size - k * 128) (128 - (size - k * 128)) (128 - (size - k * 128)) rfl hpos 187 (bvs s) hS3 hfl ?_))
          rw [← bvs_cut size k s hsl]
          have hS4 : Blk (w3.setRow z (bvs (cutBlk size k s)).toArray) z 187 (bvs (cutBlk size k s)) := setRow_heap w3 z _ _ _ _ hS3
          have hC4 : Chg (fun b => b = z) w3 (w3.setRow z (bvs (cutBlk size k s)).toArray) := (Chg.refl (fun b => b = z) w3).setRow (fun _ => rfl) _
          have hr4 := hr3H.out.chg hC4 (by omega) (by omega)
          have hlt4 := rangeLeft_chg (b := db) (r := g) hC4 hr3H.out.owns.lt hr3H.out.lt (by omega) (by omega)
          have hlt4H := Lib.hid (show (w3.setRow z (bvs (cutBlk size k s)).toArray).rangeLeft db g < wr.rangeLeft db g by rw [hlt4]; exact hlt3H.out)
          have hc4 : Chg (fun b => b = db) w (w3.setRow z (bvs (cutBlk size k s)).toArray) := hc3H.out.trans hC4 (fun _ _ h => h) (fun b hb h => by rw [hgH.out] at hb; omega)
          have x44 := (hc4.cell (p := ⟨a.nb, 4, none⟩) (by rw [hgH.out]; exact hnlt) (fun e => hne e.symm)).trans c4
          have hcl : (cutBlk size k s).length = 128 := cut_len size k s hsl hk128 hBH.out
          have hr4H := Lib.hid hr4
          have hc4H := Lib.hid hc4
          clear hr4 hc4 hlt4 hC4 x43 hS3
          generalize hs4E : cutBlk size k s = s4 at *
          have hs4 := Lib.hid hs4E
          clear hs4E
          generalize w3.setRow z (bvs s4).toArray = w4 at *
          have hr4d := Lib.hid (hr4H.out.chg ((Chg.refl (fun _ => False) w4).drew) id id)
          have hS4d : Blk w4.drew z 187 (bvs s4) := hS4
          have hld : (loadVar 187 ⟨z, 0, none⟩).run Tryz.prog ({ heap := w4.heap, tape := w4.tape, drawn := w4.drawn + 1, os := w4.os, output := w4.output } : World) = .ok (.agg (bvs s4).toArray) ({ heap := w4.heap, tape := w4.tape, drawn := w4.drawn + 1, os := w4.os, output := w4.output } : World) := run_loadVar_row w4.drew z _ _ _ _ _ hS4d Tryz.underlying187 rfl (sec_size hcl)
          go_still_tail 6, (by kernel_rfl)
          refine wpStill_load_row rfl 187 (.tmp 6) rfl z rfl (bvs s4).toArray hld ?_
          refine wpStill_nil ?_
          change wpList _ _ _ _ _ w4.drew
          have hlt4d : w4.drew.rangeLeft db g = w4.rangeLeft db g := rfl
          have hlt5H := Lib.hid (show w4.drew.rangeLeft db g < wr.rangeLeft db g from hlt4H.out)
          have hc5H := Lib.hid (hc4H.out.drew)
          clear hld hS4 hS4d hlt4d x44
          generalize w4.drew = w5 at *
          go_wp2_with (first
            | (at_mapUpdate; refine wpList_mrput _ rfl (.tmp 47) (.tmp 48) (.tmp 49) 107 rfl kInt Tryz.underlying107 hr4d.out hn0 rfl k rfl (keyN k (by omega)) s hk2H.out s4 rfl ?_; intro w6 hr6 hl6 ht6; have hr6H := Lib.hid hr6; have hl6H := Lib.hid hl6; have ht6H := Lib.hid ht6; clear hr6 hl6 ht6; go_frame))
          go_roundw
          case rel =>
            refine ⟨_, _, hr6H.out, hc5H.out.trans (turned_chg ht6H.out) (fun _ _ h => h) (fun _ _ h => h), fun x => ?_⟩
            by_cases e : x = k
            · subst e
              rw [getS_put_same, hk0H.out]
              simp [cutE, hAH.out, hBH.out, hs4.out]
            · rw [getS_put_other natK _ e, hl.out]
              simp [e]
          case measure => exact Nat.lt_of_le_of_lt hl6H.out hlt5H.out
        · have t2 : decide ((size : Int) < (k : Int) * 128 + 128) = false := by simp; omega
          have hAH := Lib.hid hA
          have hBH := Lib.hid hB
          clear hA hB
          go_wp2
          go_roundw
          case rel =>
            refine ⟨_, _, hr3H.out, hc3H.out, fun x => ?_⟩
            by_cases e : x = k
            · subst e
              rw [hk2H.out, hk0H.out]
              simp [cutE, hAH.out, hBH.out]
            · rw [hl.out]
              simp [e]
          case measure => exact hlt3H.out
#print axioms ptrunc_ok
end Go.Proofs.YtolpcfhfcdkokaaGreatDoor
