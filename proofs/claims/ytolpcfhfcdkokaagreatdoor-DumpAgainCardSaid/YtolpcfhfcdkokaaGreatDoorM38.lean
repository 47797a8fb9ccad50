/- Joined out of the texts DLay. -/
import Derived.Test.YtolpcfhfcdkokaaGreatDoorM37
/-
  Package dump: a file's bytes are laid.
-/
namespace Go.Proofs.YtolpcfhfcdkokaaGreatDoor
open Go.RowKit Go.Proofs

theorem Sees.chgS {w w1 : World} {B size n : Nat} {A : Option Addr} {xs : List Value} {S : Nat → Prop} (h : Sees w B size A n xs) (hs : 0 < size) (hc : Chg S w w1) (hn : ∀ b off, A = some ⟨b, off, none⟩ → 0 < n → ¬ S b) : Sees w1 B size A n xs := by
  refine ⟨h.len, fun h0 => ?_⟩
  obtain ⟨b, off, e, hb, hcl⟩ := h.at_ h0
  have hl : 0 < xs.length := by rw [h.len]; exact Nat.mul_pos h0 hs
  have hbl : b < w.heap.size := World.block_lt_of_cell? _ _ (hcl 0 _ (List.getElem?_eq_getElem hl))
  exact ⟨b, off, e, hb, fun j u hu => (hc.cell (p := ⟨b, off + j, none⟩) hbl (hn b off e h0)).trans (hcl j u hu)⟩
/-- What is read lies in none of a tree's blocks. -/
def Off (own : Nat → Option Role) (A : Option Addr) (n : Nat) : Prop := ∀ b off, A = some ⟨b, off, none⟩ → 0 < n → own b = none
theorem slice_lh (W : World) (b off len c lo hi : Nat) (h1 : lo < hi) (h2 : hi ≤ len) (h3 : len ≤ c) : (Instr.sliceAt 64 (.slice (some ⟨b, off, none⟩) len c) (some (.int .i64 (lo : Int))) (some (.int .i64 (hi : Int))) none).run Tryz.prog W = .ok (.slice (some ⟨b, off + lo, none⟩) (hi - lo) (c - lo)) W := by
  have hu : Tryz.prog.underlying 64 = some (.slice (Tryz.prog.elem 64)) := by kernel_rfl
  have hs : (sizeOf (Tryz.prog.elem 64)).run Tryz.prog W = .ok 1 W := by kernel_rfl
  rw [run_sliceAt_slice W 64 _ _ _ _ hu, run_slice_lh W 64 (some ⟨b, off, none⟩) len c hu .i64 .i64 lo hi (by omega) (by omega) (by omega), hs]
  have hne : ¬ c = lo := by omega
  simp [Result.andThen, sliced, hne, Addr.add_lit]
theorem sees_part {w : World} {B : Nat} {b off len : Nat} {d : List UInt8} (h : Sees w B 1 (some ⟨b, off, none⟩) len (bvs d)) (hl : d.length = len) {lo hi : Nat} (h1 : lo < hi) (h2 : hi ≤ len) : Sees w B 1 (some ⟨b, off + lo, none⟩) (hi - lo) (bvs ((d.drop lo).take (hi - lo))) := by
  obtain ⟨b', off', e, hb, hcl⟩ := h.at_ (by omega)
  have e := Option.some.inj e
  injection e with e1 e2
  subst e1; subst e2
  refine ⟨by rw [bvs_length, List.length_take, List.length_drop]; omega, fun _ => ⟨b, off + lo, rfl, hb, fun j u hu => ?_⟩⟩
  rw [Nat.add_assoc]
  refine hcl (lo + j) u ?_
  simp only [bvs, List.getElem?_map, List.getElem?_take, List.getElem?_drop] at hu ⊢
  split at hu
  · exact hu
  · simp at hu
theorem zch_eq (d : List UInt8) (e : Nat) : ((d.drop e).take (min (e + 128) d.length - e)).all (· == 0) = zch d e := by
  unfold zch
  congr 1
  by_cases h : e + 128 ≤ d.length
  · rw [show min (e + 128) d.length - e = 128 by omega]
  · rw [List.take_of_length_le (by rw [List.length_drop]; omega), List.take_of_length_le (by rw [List.length_drop]; omega)]
theorem runE_stop (d : List UInt8) (a : Nat) (f e : Nat) (h : ¬ (e < d.length ∧ e - a < 131072 ∧ zch d e = false)) : runE d a f e = e := by
  cases f with
  | zero => rfl
  | succ f => rw [runE, if_neg h]
theorem runE_go (d : List UInt8) (a : Nat) (f e : Nat) (h : e < d.length ∧ e - a < 131072 ∧ zch d e = false) : runE d a (f + 1) e = runE d a f (min (e + 128) d.length) := by rw [runE, if_pos h]
theorem fin_in {own : Nat → Option Role} {p mb z : Nat} {T : PT} {wr W w6 : World} (h : PTurn own p mb T W w6) (hb : Below wr.heap.size wr W) (hlt : ∀ b r, own b = some r → b < wr.heap.size) (hz : wr.heap.size ≤ z) (hz2 : z < W.heap.size) : ∀ wf, Chg (fun b => b = z) w6 wf → PTurn own p mb T wr wf := fun wf hc =>
  h.after2 hb hlt (hc.mono fun b _ e => by rw [e]; exact ⟨hz, hz2⟩)
theorem fin_new {own : Nat → Option Role} {p mb : Nat} {T : PT} {wr W w6 : World} (h : PTurn own p mb T W w6) (hb : Below wr.heap.size wr W) (hlt : ∀ b r, own b = some r → b < wr.heap.size) : ∀ wf, Chg (fun b => b = w6.heap.size) (w6.alloc (.cells zAns.toArray 67)) wf → PTurn own p mb T wr wf := fun wf hc =>
  (h.after2 hb hlt (Chg.refl _ _)).then_ ((((Chg.refl (fun b => w6.heap.size ≤ b) w6).alloc _).trans hc (fun _ _ h => h) (fun b _ e => by rw [e]; exact Nat.le_refl _)).below (Nat.le_refl _) fun b hb e => by omega)
/-- The round's end is sought. -/
def EndI (d : List UInt8) (a : Nat) (v : Value) : Prop := ∃ e f : Nat, v = .int .i64 (e : Int) ∧ a ≤ e ∧ e ≤ d.length ∧ e ≤ a + 131072 ∧ runE d a 1100 a = runE d a f e ∧ (e = d.length ∨ 140800 ≤ (e - a) + 128 * f) ∧ (e = a ∨ e = d.length ∨ a + 128 ≤ e) ∧ ((e - a) % 128 = 0 ∨ e = d.length)
/-- Behind some rounds. -/
def LoopL (own : Nat → Option Role) (p mb : Nat) (w0 : World) (x : ByteArray) (d : List UInt8) (R : PT × Nat) (v : Value) (wr : World) : Prop :=
  ∃ a f T1, v = .int .i64 (a : Nat) ∧ a ≤ d.length + 127 ∧ R = layT x d f T1 a ∧ T1.Inv ∧ PTurn own p mb T1 w0 wr ∧ d.length + 128 ≤ a + 128 * f
def LayP (own : Nat → Option Role) (p mb : Nat) (r : PT × Nat) (w : World) (e : Ending) (w' : World) : Prop := e = .returned (.int .i64 (r.2 : Int)) ∧ PTurn own p mb r.1 w w'
def ndC (x : ByteArray) (kd md : Int) (sm : ByteArray) (A : Option Addr) (n c : Nat) : List Value := [.string x, .int .i64 kd, .int .i64 md, .string sm, .slice A n c]
set_option maxHeartbeats 12800000 in
set_option maxRecDepth 100000 in
theorem dlay_any (own : Nat → Option Role) (lay : Nat → NA) (p mb : Nat) (T : PT) (m0 : Int) (w : World) (h : PlainAt w own lay p mb T) (hI : T.Inv) (hm : w.cell? ⟨0, 0, none⟩ = some (.int .i64 m0)) (ho0 : own 0 = none)
    (x : ByteArray) (kd md : Int) (sm : ByteArray) (A : Option Addr) (c : Nat) (d : List UInt8) (hs : Sees w w.heap.size 1 A d.length (bvs d)) (hoff : Off own A d.length) (hc : d.length ≤ c) (hd : d.length ≤ 136704) (hx : x.size ≤ 100000) :
    Calls Tryz.prog 59 #[ifV p, .agg (ndC x kd md sm A d.length c).toArray] w (LayP own p mb (layT x d 1100 T 0) w) := by
  obtain ⟨R, hR⟩ : ∃ R, layT x d 1100 T 0 = R := ⟨_, rfl⟩
  rw [hR]
  obtain ⟨len, hlen⟩ : ∃ len, d.length = len := ⟨_, rfl⟩
  have hN0 : Blk (w.alloc (.cells (ndC x kd md sm A len c).toArray 75)) w.heap.size 75 (ndC x kd md sm A len c) := Blk.new w _ _
  have hB0 : Below w.heap.size w (w.alloc (.cells (ndC x kd md sm A len c).toArray 75)) := (Below.refl _ _).alloc (Nat.le_refl _) _
  have hz0 : (w.alloc (.cells (ndC x kd md sm A len c).toArray 75)).heap.size = w.heap.size + 1 := by simp
  have hT0 := PTurn.same h hB0
  have hT1 : PTurn own p mb T (w.alloc (.cells (ndC x kd md sm A len c).toArray 75)) (w.alloc (.cells (ndC x kd md sm A len c).toArray 75)) := PTurn.same (h.fresh hB0) (Below.refl _ _)
  have hs0 := (hs.below hB0).more hB0.size
  have hog : own w.heap.size = none := h.free (Nat.le_refl _)
  have hm00 : (w.alloc (.cells (ndC x kd md sm A len c).toArray 75)).cell? ⟨0, 0, none⟩ = some (.int .i64 m0) := (hB0.cell (p := ⟨0, 0, none⟩) (World.block_lt_of_cell? _ _ hm)).trans hm
  have hown := Lib.hid h.lt
  unfold ifV
  rw [hlen] at hs0 hoff hc hd ⊢
  have hlenH := Lib.hid hlen
  unfold ndC
  go_enter Tryz.func59, Tryz.ntmps59
  go_upto_region 1 with (fail)
  change Code.wp _ _ _ _ (w.alloc (.cells (ndC x kd md sm A len c).toArray 75))
  generalize w.alloc (.cells (ndC x kd md sm A len c).toArray 75) = w0 at *
  obtain ⟨g, hgE⟩ : ∃ g, w.heap.size = g := ⟨_, rfl⟩
  rw [hgE] at hN0 hB0 hz0 hog
  simp only [hgE]
  have hgH := Lib.hid hgE
  have hBH := Lib.hid hB0
  have hNH := Lib.hid hN0
  have hsH := Lib.hid hs0
  have hoH := Lib.hid hoff
  have hogH := Lib.hid hog
  have hmH := Lib.hid hm00
  clear hgE hB0 hN0 hs0 hs hoff hog hm00 hm h hT0 hlen
  go_wp2
  go_loopw [5] (fun v wr => LoopL own p mb w0 x d R v wr) (fun v _ => len + 128 - (intOf v).toNat)
  case atStart => exact ⟨0, 1100, T, rfl, by omega, hR.symm, hI, hT1, by have := hlenH.out; omega⟩
  case round =>
    obtain ⟨a, f, T1, rfl, ha, hRe, hI1, hTn, hf⟩ := hrel
    have hTnH := Lib.hid hTn
    obtain ⟨own1, lay1, hP1, hE1, hC1⟩ := hTn
    have hNr := Lib.hid (hNH.out.chg hC1 (fun hh => hh hogH.out))
    have hsr := Lib.hid (hsH.out.chgS (by decide) hC1 (fun b off e hn hh => hh (hoH.out b off e hn)) |>.more hC1.size)
    have hmr := Lib.hid ((hC1.cell (p := ⟨0, 0, none⟩) (World.block_lt_of_cell? _ _ hmH.out) (fun hh => hh ho0)).trans hmH.out)
    have hIH := Lib.hid hI1
    have hP1H := Lib.hid hP1
    have hE1H := Lib.hid hE1
    have hC1H := Lib.hid hC1
    have hReH := Lib.hid hRe
    rw [hlenH.out] at ha hf
    have y0 := hNr.out.cell 0
    have y4 := hNr.out.cell 4
    simp only [ndC, List.getElem?_cons_succ, List.getElem?_cons_zero] at y0 y4
    clear hI1 hP1 hE1 hC1 hRe hT1
    by_cases hlt : a < len
    · have t1 : decide ((a : Int) < (len : Int)) = true := by simpa using hlt
      obtain ⟨b, off, hA, hbl, -⟩ := hsr.out.at_ (by omega)
      subst hA
      go_upto_region 4 with (fail)
      go_loopw [6] (fun v wr' => EndI d a v ∧ wr' = wr) (fun v _ => len - (intOf v).toNat)
      case atStart => exact ⟨⟨a, 1100, rfl, Nat.le_refl _, by rw [hlenH.out]; omega, by omega, rfl, .inr (by omega), .inl rfl, .inl (by simp)⟩, rfl⟩
      case round =>
        obtain ⟨⟨e, f1, rfl, he1, he2, he3, he4, he5, he6, he7⟩, rfl⟩ := hrel
        rw [hlenH.out] at he2 he5 he6 he7
        have he7H := Lib.hid he7
        have he4H := Lib.hid he4
        have he5H := Lib.hid he5
        have he6H := Lib.hid he6
        clear he4 he5 he6 he7
        have y4 := hNr.out.cell 4
        simp only [ndC, List.getElem?_cons_succ, List.getElem?_cons_zero] at y4
        by_cases hel : e < len
        · have t2 : decide ((e : Int) < (len : Int)) = true := by simpa using hel
          by_cases hem : e - a < 131072
          · have t3 : decide ((e : Int) - (a : Int) < 131072) = true := by simp; omega
            obtain ⟨hh, hhE⟩ : ∃ hh, min (e + 128) len = hh := ⟨_, rfl⟩
            have hmn : min ((e : Int) + 128) (len : Int) = (hh : Int) := by omega
            have hsl : ∀ W : World, _ := fun W => slice_lh W b off len c e hh (by omega) (by omega) hc
            have hse := sees_part hsr.out hlenH.out (lo := e) (hi := hh) (by omega) (by omega)
            obtain ⟨ch, hch⟩ : ∃ ch, (d.drop e).take (hh - e) = ch := ⟨_, rfl⟩
            have hchl : ch.length = hh - e := by rw [← hch, List.length_take, List.length_drop, hlenH.out]; omega
            rw [hch, ← hchl] at hse
            have hcE := empty_any (some ⟨b, off + e, none⟩) (c - e) ch _ hse (by omega)
            rw [hchl, ← hch, show hh - e = min (e + 128) d.length - e by rw [hlenH.out, hhE], zch_eq] at hcE
            rw [show min (e + 128) d.length - e = hh - e by rw [hlenH.out, hhE]] at hcE
            have hhH := Lib.hid hhE
            clear hhE hse hch hchl
            cases hzc : zch d e with
            | false =>
              rw [hzc] at hcE
              have hzcH := Lib.hid hzc
              clear hzc
              go_wp2_with (go_at_call 90; refine hcE.mono ?_; rintro e' w' ⟨rfl, rfl⟩)
              go_roundw
              case rel =>
                obtain ⟨f2, rfl⟩ : ∃ f2, f1 = f2 + 1 := ⟨f1 - 1, by have := he5H.out; omega⟩
                refine ⟨⟨hh, f2, rfl, by have := hhH.out; omega, by rw [hlenH.out]; have := hhH.out; omega, by have := hhH.out; have := he7H.out; omega, ?_, ?_, ?_, ?_⟩, trivial⟩
                · rw [he4H.out, runE_go _ _ _ _ ⟨by rw [hlenH.out]; exact hel, hem, hzcH.out⟩, hlenH.out, hhH.out]
                · rw [hlenH.out]; have h1 := he5H.out; have h2 := hhH.out; omega
                · rw [hlenH.out]; have h1 := he6H.out; have h2 := hhH.out; omega
                · rw [hlenH.out]; have h1 := he7H.out; have h2 := hhH.out; omega
              case measure =>
                have := hhH.out
                simp [intOf]
                omega
            | true =>
              rw [hzc] at hcE
              have hrun : Hid (runE d a 1100 a = e) := Lib.hid (by rw [he4H.out, runE_stop]; rw [hzc]; simp)
              clear hzc
              go_upto_region 6 with (go_at_call 90; refine hcE.mono ?_; rintro e' w' ⟨rfl, rfl⟩)
              -- TAIL
              by_cases hea : e = a
              · have t9 : ((e : Int) == (a : Int)) = true := by simp; omega
                have hstep : Hid (R = layT x d (f - 1) T1 (a + 128)) := Lib.hid (by
                  have h1 := hReH.out
                  obtain ⟨f2, hf2⟩ : ∃ f2, f = f2 + 1 := ⟨f - 1, by omega⟩
                  rw [hf2, layT, if_pos (by rw [hlenH.out]; exact hlt), if_pos (by rw [hrun.out, hea])] at h1
                  rw [hf2]
                  exact h1)
                have hwr : IntKind.i64.wrap ((a : Int) + 128) = ((a + 128 : Nat) : Int) := by rw [IntWalk.i64_in _ (by omega)]; omega
                clear hrun
                subst hea
                go_wp2
                go_roundw
                case rel => exact ⟨e + 128, f - 1, T1, by go_num, by rw [hlenH.out]; omega, hstep.out, hIH.out, hTnH.out, by rw [hlenH.out]; omega⟩
                case measure =>
                  simp [intOf]
                  omega
              · have t9 : ((e : Int) == (a : Int)) = false := by simp; omega
                have hae : a < e := by omega
                have hstep : Hid (R = if (T1.run (opW x a ((d.drop a).take (e - a)))).2.code ≠ 0 then ((T1.run (opW x a ((d.drop a).take (e - a)))).1, (T1.run (opW x a ((d.drop a).take (e - a)))).2.code) else layT x d (f - 1) (T1.run (opW x a ((d.drop a).take (e - a)))).1 e) := Lib.hid (by
                  have h1 := hReH.out
                  obtain ⟨f2, hf2⟩ : ∃ f2, f = f2 + 1 := ⟨f - 1, by omega⟩
                  rw [hf2, layT, if_pos (by rw [hlenH.out]; exact hlt), hrun.out, if_neg hea] at h1
                  rw [hf2]
                  exact h1)
                have hfe : Hid (d.length + 128 ≤ e + 128 * (f - 1)) := Lib.hid (by rw [hlenH.out]; have := he6H.out; omega)
                obtain ⟨ch, hch⟩ : ∃ ch, (d.drop a).take (e - a) = ch := ⟨_, rfl⟩
                have hchl : ch.length = e - a := by rw [← hch, List.length_take, List.length_drop, hlenH.out]; omega
                have hsl2 : ∀ W : World, _ := fun W => slice_lh W b off len c a e (by omega) (by omega) hc
                have hse2 := sees_part hsr.out hlenH.out (lo := a) (hi := e) (by omega) (by omega)
                rw [hch] at hstep hse2
                rw [← hchl] at hse2
                have hse2H := Lib.hid hse2
                have hchH := Lib.hid hchl
                have hlt2 := Lib.hid hP1H.out.lt
                have y0 := hNr.out.cell 0
                have y4 := hNr.out.cell 4
                simp only [ndC, List.getElem?_cons_succ, List.getElem?_cons_zero] at y0 y4
                have hgr : g < wr.heap.size := hNr.out.lt
                have b0 : (0 : Int) ≤ (a : Int) := by omega
                have b1 : (a : Int) ≤ (e : Int) := by omega
                have b2 : (e : Int) ≤ (c : Int) := by omega
                clear hrun hse2 hch hchl
                have hcl : Hid (∀ W : World, Below wr.heap.size wr W → Calls Tryz.prog 47 #[.slice (some ⟨b, off + a, none⟩) (e - a) (c - a)] W fun e w' => ∃ v', e = .returned v' ∧ w'.ownsRow wr.heap.size 5 1 v' ch.length (bvs ch) ∧ Below wr.heap.size wr w' ∧ Below W.heap.size W w') := Lib.hid fun W hW => by
                  have h9 := clone_any wr.heap.size (some ⟨b, off + a, none⟩) (c - a) ch W (hse2H.out.below hW) hW.size (by rw [hchH.out]; omega)
                  rw [hchH.out] at h9
                  rw [hchH.out]
                  exact h9.mono fun _ _ ⟨v, h1, h2, h3⟩ => ⟨v, h1, own_base h2 (fun g hg => by have := (h2.lt g hg).1; have := hW.size; omega), hW.trans (h3.mono hW.size), h3⟩
                have hog1 : Hid (own1 g = none) := Lib.hid (by
                  cases ee : own1 g with
                  | none => rfl
                  | some r => rcases hE1H.out.new g r ee with e2 | e2
                              · rw [hogH.out] at e2; cases e2
                              · omega)
                have hask : Hid (∀ (w5 : World) (A5 : Option Addr) (c5 : Nat), Below wr.heap.size wr w5 → Sees w5 w5.heap.size 1 A5 ch.length (bvs ch) → ch.length ≤ c5 → Calls Tryz.prog 51 #[.iface 25 (.pointer (some ⟨p, 0, none⟩)), .agg #[.int .i64 7, .string x, .string ⟨#[]⟩, .int .i64 (a : Int), .int .i64 0, .slice A5 ch.length c5, .int .i64 0, .int .i64 0]] w5 (AskT own1 p mb (T1.run (opW x a ch)) w5)) := Lib.hid fun w5 A5 c5 hb hs hc => ask_t own1 lay1 p mb T1 (opW x a ch) A5 c5 m0 w5 (hP1H.out.fresh hb) hIH.out.wf ⟨hs, hc, by show ch.length < _; rw [hchH.out]; omega, by show (a : Int) ≤ _ ∧ _ ≤ (a : Int); omega, ⟨(by decide : (0 : Int) ≤ 9223372036854775807), (by decide : (-9223372036854775808 : Int) ≤ 0)⟩, Nat.le_trans hx (by decide), (by decide : (0 : Nat) ≤ 100000000)⟩ ((hb.cell (p := ⟨0, 0, none⟩) (World.block_lt_of_cell? _ _ hmr.out)).trans hmr.out)
                obtain ⟨r, hr⟩ : ∃ r, T1.run (opW x a ch) = r := ⟨_, rfl⟩
                rw [hr] at hstep hask
                obtain ⟨T2, an⟩ := r
                have hrH := Lib.hid hr
                clear hr
                go_upto_region 8 with (fail)
                have hd0 : Below wr.heap.size wr wr.drew := (Below.refl _ _).drew
                have hN0' := (Blk.new wr 67 zAns).drew
                have ha0 : Below wr.heap.size wr (wr.alloc (.cells zAns.toArray 67)).drew := ((Below.refl wr.heap.size wr).alloc (Nat.le_refl _) _).drew
                have hd0H := Lib.hid hd0
                have ha0H := Lib.hid ha0
                have hN0H := Lib.hid hN0'
                clear hd0 ha0 hN0'
                go_region_held3 (fun w' => w'.cell? ⟨g, 0, none⟩ = some (.string x) ∧ w'.cell? ⟨g, 4, none⟩ = some (.slice (some ⟨b, off, none⟩) len c))
                  (first | go_keep)
                  (first
                    | (go_at_call 47; first
                        | ((with_reducible refine (hcl.out wr.drew hd0H.out).mono ?_); rintro e' w5 ⟨v5, rfl, ho5, hb5, -⟩; obtain ⟨g5, c5, rfl, hnc5, -⟩ := own_some ho5 (by rw [hchH.out]; omega); have hs5H : Hid (Sees w5 w5.heap.size 1 (some ⟨g5, 0, none⟩) ch.length (bvs ch)) := Lib.hid (by obtain ⟨A', c', e', hs'⟩ := Sees.of_own (B := w5.heap.size) ho5 (fun g hg => (ho5.lt g hg).2); injection e' with e1 e2 e3; rw [e1]; exact hs'); have hszH : Hid (w5.heap.size < (w5.alloc (.cells zAns.toArray 67)).heap.size) := Lib.hid (by simp); have hN5 := hNr.out.fresh hb5; have u0 := hN5.cell 0; have u4 := hN5.cell 4; simp only [ndC, List.getElem?_cons_succ, List.getElem?_cons_zero] at u0 u4; have hb5H := Lib.hid hb5; have hZB := Lib.hid (Blk.new w5 67 zAns); have hN5H := Lib.hid hN5; clear ho5 hb5 hN5)
                        | ((with_reducible refine (hcl.out (wr.alloc (.cells zAns.toArray 67)).drew ha0H.out).mono ?_); rintro e' w5 ⟨v5, rfl, ho5, hb5, hbW⟩; obtain ⟨g5, c5, rfl, hnc5, -⟩ := own_some ho5 (by rw [hchH.out]; omega); have hs5H : Hid (Sees w5 w5.heap.size 1 (some ⟨g5, 0, none⟩) ch.length (bvs ch)) := Lib.hid (by obtain ⟨A', c', e', hs'⟩ := Sees.of_own (B := w5.heap.size) ho5 (fun g hg => (ho5.lt g hg).2); injection e' with e1 e2 e3; rw [e1]; exact hs'); have hszH : Hid (w5.heap.size < (w5.alloc (.cells zAns.toArray 67)).heap.size) := Lib.hid (by simp); have hN5 := hNr.out.fresh hb5; have u0 := hN5.cell 0; have u4 := hN5.cell 4; simp only [ndC, List.getElem?_cons_succ, List.getElem?_cons_zero] at u0 u4; have hb5H := Lib.hid hb5; have hZA := Lib.hid (hN0H.out.fresh hbW); have hN5H := Lib.hid hN5; clear ho5 hb5 hbW hN5))
                    | (go_at_call 51; first
                        | ((with_reducible refine (hask.out w5 (some ⟨g5, 0, none⟩) c5 hb5H.out hs5H.out hnc5).mono ?_); rintro e' w6 ⟨v6, rfl, hA6, hT6⟩; obtain ⟨dA, dc, eA, ec, rfl, -, -⟩ := hA6; have hT6H := Lib.hid hT6; obtain ⟨own6, lay6, -, -, hC6⟩ := hT6H.out; have hN6 := hN5H.out.chg hC6 (fun hh => hh hog1.out); have k0 := hN6.cell 0; have k4 := hN6.cell 4; simp only [ndC, ansC, List.getElem?_cons_succ, List.getElem?_cons_zero] at k0 k4 ⊢; first
                            | (have hZ6 := hZA.out.chg hC6 (fun hh => by (have h9 := hlt2.out _ _ (Option.ne_none_iff_exists'.1 hh).choose_spec; exact absurd h9 (Nat.lt_irrefl _))); have hzc := fun j => hZ6.cell j; have hzf := fun j => hZ6.frozen j; have z0 := hzc 0; have z1 := hzc 1; have z2 := hzc 2; have z3 := hzc 3; have z4 := hzc 4; have z5 := hzc 5; have z6 := hzc 6; have z7 := hzc 7; have z8 := hzc 8; have z9 := hzc 9; have f0 := hzf 0; have f1 := hzf 1; have f2 := hzf 2; have f3 := hzf 3; have f4 := hzf 4; have f5 := hzf 5; have f6 := hzf 6; have f7 := hzf 7; have f8 := hzf 8; have f9 := hzf 9; simp only [zAns, List.getElem?_cons_succ, List.getElem?_cons_zero] at z0 z1 z2 z3 z4 z5 z6 z7 z8 z9; clear hzc hzf; have hszc : w5.heap.size ≤ w6.heap.size := hC6.size; obtain ⟨wf, hwf⟩ : ∃ wf : World, ((((((((((w6.setCell ⟨wr.heap.size, 0, none⟩ (.int .i64 (an.code : Int))).setCell ⟨wr.heap.size, 1, none⟩ (.int .i64 an.stat.ino)).setCell ⟨wr.heap.size, 2, none⟩ (.int .i64 an.stat.kind)).setCell ⟨wr.heap.size, 3, none⟩ (.int .i64 an.stat.links)).setCell ⟨wr.heap.size, 4, none⟩ (.int .i64 an.stat.size)).setCell ⟨wr.heap.size, 5, none⟩ (.int .i64 an.stat.made)).setCell ⟨wr.heap.size, 6, none⟩ (.int .i64 an.stat.blocks)).setCell ⟨wr.heap.size, 7, none⟩ (.slice dA an.data.length dc)).setCell ⟨wr.heap.size, 8, none⟩ (.slice eA an.ents.length ec)).setCell ⟨wr.heap.size, 9, none⟩ (.bool false)) = wf := ⟨_, rfl⟩; have hwfH := Lib.hid hwf; clear hwf; have hNf := (hN6).chg (chg10 w6 wr.heap.size (.int .i64 (an.code : Int)) (.int .i64 an.stat.ino) (.int .i64 an.stat.kind) (.int .i64 an.stat.links) (.int .i64 an.stat.size) (.int .i64 an.stat.made) (.int .i64 an.stat.blocks) (.slice dA an.data.length dc) (.slice eA an.ents.length ec) (.bool false)) (by have h7 := hNr.out.lt; have h6 := hb5H.out.size; have h5 : w5.heap.size ≤ w6.heap.size := hszc; omega); have q0 := hNf.cell 0; have q4 := hNf.cell 4; simp only [ndC, List.getElem?_cons_succ, List.getElem?_cons_zero] at q0 q4; clear hNf; have hPTw : Hid (PTurn own1 p mb T2 wr wf) := Lib.hid (by rw [← hwfH.out]; exact fin_in hT6H.out hb5H.out hlt2.out (z := wr.heap.size) (Nat.le_refl _) hZA.out.lt _ (chg10 _ _ (.int .i64 (an.code : Int)) (.int .i64 an.stat.ino) (.int .i64 an.stat.kind) (.int .i64 an.stat.links) (.int .i64 an.stat.size) (.int .i64 an.stat.made) (.int .i64 an.stat.blocks) (.slice dA an.data.length dc) (.slice eA an.ents.length ec) (.bool false))); have hZ6H := Lib.hid hZ6; have hszH2 := Lib.hid hszc; clear hZ6 hN6 hT6 hC6 hszc u0 u4)
                            | (have hZ6 := Blk.new w6 67 zAns; have hzc := fun j => hZ6.cell j; have hzf := fun j => hZ6.frozen j; have z0 := hzc 0; have z1 := hzc 1; have z2 := hzc 2; have z3 := hzc 3; have z4 := hzc 4; have z5 := hzc 5; have z6 := hzc 6; have z7 := hzc 7; have z8 := hzc 8; have z9 := hzc 9; have f0 := hzf 0; have f1 := hzf 1; have f2 := hzf 2; have f3 := hzf 3; have f4 := hzf 4; have f5 := hzf 5; have f6 := hzf 6; have f7 := hzf 7; have f8 := hzf 8; have f9 := hzf 9; simp only [zAns, List.getElem?_cons_succ, List.getElem?_cons_zero] at z0 z1 z2 z3 z4 z5 z6 z7 z8 z9; clear hzc hzf; have hszc : w5.heap.size ≤ w6.heap.size := hC6.size; obtain ⟨wf, hwf⟩ : ∃ wf : World, w6.alloc (.cells #[.int .i64 (an.code : Int), .int .i64 an.stat.ino, .int .i64 an.stat.kind, .int .i64 an.stat.links, .int .i64 an.stat.size, .int .i64 an.stat.made, .int .i64 an.stat.blocks, .slice dA an.data.length dc, .slice eA an.ents.length ec, .bool false] 67) = wf := ⟨_, rfl⟩; have hwfH := Lib.hid hwf; clear hwf; have hNf := (hN6.alloc _).chg (chg10 (w6.alloc (.cells zAns.toArray 67)) w6.heap.size (.int .i64 (an.code : Int)) (.int .i64 an.stat.ino) (.int .i64 an.stat.kind) (.int .i64 an.stat.links) (.int .i64 an.stat.size) (.int .i64 an.stat.made) (.int .i64 an.stat.blocks) (.slice dA an.data.length dc) (.slice eA an.ents.length ec) (.bool false)) (by have h7 := hNr.out.lt; have h6 := hb5H.out.size; have h5 : w5.heap.size ≤ w6.heap.size := hszc; omega); have q0 := hNf.cell 0; have q4 := hNf.cell 4; simp only [ndC, List.getElem?_cons_succ, List.getElem?_cons_zero] at q0 q4; clear hNf; have hPTw : Hid (PTurn own1 p mb T2 wr wf) := Lib.hid (by rw [← hwfH.out]; exact (hT6H.out.after2 hb5H.out hlt2.out (Chg.refl _ _)).then_ ((Below.refl _ _).alloc (Nat.le_refl _) _)); have hZ6H := Lib.hid hZ6; have hszH2 := Lib.hid hszc; clear hZ6 hN6 hT6 hC6 hszc u0 u4))
                        | ((with_reducible refine (hask.out (w5.alloc (.cells zAns.toArray 67)) (some ⟨g5, 0, none⟩) c5 (hb5H.out.trans (((Below.refl w5.heap.size w5).alloc (Nat.le_refl _) _).mono hb5H.out.size)) ((hs5H.out.below ((Below.refl w5.heap.size w5).alloc (Nat.le_refl _) _)).more (Nat.le_of_lt hszH.out)) hnc5).mono ?_); rintro e' w6 ⟨v6, rfl, hA6, hT6⟩; obtain ⟨dA, dc, eA, ec, rfl, -, -⟩ := hA6; have hT6H := Lib.hid hT6; obtain ⟨own6, lay6, -, -, hC6⟩ := hT6H.out; have hN6 := (hN5H.out.alloc _).chg hC6 (fun hh => hh hog1.out); have k0 := hN6.cell 0; have k4 := hN6.cell 4; simp only [ndC, ansC, List.getElem?_cons_succ, List.getElem?_cons_zero] at k0 k4 ⊢; have hZ6 := hZB.out.chg hC6 (fun hh => by (have h9 := hlt2.out _ _ (Option.ne_none_iff_exists'.1 hh).choose_spec; have h8 := hb5H.out.size; omega)); have hzc := fun j => hZ6.cell j; have hzf := fun j => hZ6.frozen j; have z0 := hzc 0; have z1 := hzc 1; have z2 := hzc 2; have z3 := hzc 3; have z4 := hzc 4; have z5 := hzc 5; have z6 := hzc 6; have z7 := hzc 7; have z8 := hzc 8; have z9 := hzc 9; have f0 := hzf 0; have f1 := hzf 1; have f2 := hzf 2; have f3 := hzf 3; have f4 := hzf 4; have f5 := hzf 5; have f6 := hzf 6; have f7 := hzf 7; have f8 := hzf 8; have f9 := hzf 9; simp only [zAns, List.getElem?_cons_succ, List.getElem?_cons_zero] at z0 z1 z2 z3 z4 z5 z6 z7 z8 z9; clear hzc hzf; have hszc : w5.heap.size ≤ w6.heap.size := Nat.le_trans (by simp) hC6.size; obtain ⟨wf, hwf⟩ : ∃ wf : World, ((((((((((w6.setCell ⟨w5.heap.size, 0, none⟩ (.int .i64 (an.code : Int))).setCell ⟨w5.heap.size, 1, none⟩ (.int .i64 an.stat.ino)).setCell ⟨w5.heap.size, 2, none⟩ (.int .i64 an.stat.kind)).setCell ⟨w5.heap.size, 3, none⟩ (.int .i64 an.stat.links)).setCell ⟨w5.heap.size, 4, none⟩ (.int .i64 an.stat.size)).setCell ⟨w5.heap.size, 5, none⟩ (.int .i64 an.stat.made)).setCell ⟨w5.heap.size, 6, none⟩ (.int .i64 an.stat.blocks)).setCell ⟨w5.heap.size, 7, none⟩ (.slice dA an.data.length dc)).setCell ⟨w5.heap.size, 8, none⟩ (.slice eA an.ents.length ec)).setCell ⟨w5.heap.size, 9, none⟩ (.bool false)) = wf := ⟨_, rfl⟩; have hwfH := Lib.hid hwf; clear hwf; have hNf := (hN6).chg (chg10 w6 w5.heap.size (.int .i64 (an.code : Int)) (.int .i64 an.stat.ino) (.int .i64 an.stat.kind) (.int .i64 an.stat.links) (.int .i64 an.stat.size) (.int .i64 an.stat.made) (.int .i64 an.stat.blocks) (.slice dA an.data.length dc) (.slice eA an.ents.length ec) (.bool false)) (by have h7 := hNr.out.lt; have h6 := hb5H.out.size; have h5 : w5.heap.size ≤ w6.heap.size := hszc; omega); have q0 := hNf.cell 0; have q4 := hNf.cell 4; simp only [ndC, List.getElem?_cons_succ, List.getElem?_cons_zero] at q0 q4; clear hNf; have hPTw : Hid (PTurn own1 p mb T2 wr wf) := Lib.hid (by rw [← hwfH.out]; exact fin_in hT6H.out (hb5H.out.trans (((Below.refl w5.heap.size w5).alloc (Nat.le_refl _) _).mono hb5H.out.size)) hlt2.out (z := w5.heap.size) hb5H.out.size (by simp) _ (chg10 _ _ (.int .i64 (an.code : Int)) (.int .i64 an.stat.ino) (.int .i64 an.stat.kind) (.int .i64 an.stat.links) (.int .i64 an.stat.size) (.int .i64 an.stat.made) (.int .i64 an.stat.blocks) (.slice dA an.data.length dc) (.slice eA an.ents.length ec) (.bool false))); have hZ6H := Lib.hid hZ6; have hszH2 := Lib.hid hszc; clear hZ6 hN6 hT6 hC6 hszc u0 u4)))
                all_goals
                  have hPT : Hid (PTurn own p mb T2 w0 wf) := Lib.hid (PTurn.fst hE1H.out hC1H.out hPTw.out)
                  have hI2 : Hid T2.Inv := Lib.hid (by have h9 := inv_run hIH.out (opW x a ch); rw [hrH.out] at h9; exact h9)
                  clear z0 z1 z2 z3 z4 z5 z6 z7 z8 z9 f0 f1 f2 f3 f4 f5 f6 f7 f8 f9 q0 q4 k0 k4 hPTw hZ6H
                  rw [hwfH.out]
                  clear hwfH
                  by_cases hcd : an.code = 0
                  · have hne : ((an.code : Int) != 0) = false := by simp; omega
                    have hst2 : Hid (R = layT x d (f - 1) T2 e) := Lib.hid (by have h9 := hstep.out; rw [if_neg (by simpa using hcd)] at h9; exact h9)
                    clear hcd
                    go_wp2
                    go_roundw
                    case rel => exact ⟨e, f - 1, T2, rfl, by rw [hlenH.out]; omega, hst2.out, hI2.out, hPT.out, hfe.out⟩
                    case measure =>
                      simp [intOf]
                      omega
                  · have hne : ((an.code : Int) != 0) = true := by simp; omega
                    have hst2 : Hid (R = (T2, an.code)) := Lib.hid (by have h9 := hstep.out; rw [if_pos (by simpa using hcd)] at h9; exact h9)
                    clear hcd
                    go_wp2
                    go_ret
                    rw [hst2.out]
                    exact ⟨rfl, PTurn.fst (Ext.refl _ _) (Chg.of_fresh (by rw [hgH.out]; exact hBH.out)) hPT.out⟩
              -- END TAIL
          · have t3 : decide ((e : Int) - (a : Int) < 131072) = false := by simp; omega
            have hrun : Hid (runE d a 1100 a = e) := Lib.hid (by rw [he4H.out, runE_stop]; intro hh; exact hem hh.2.1)
            go_upto_region 6 with (fail)
            -- TAIL
            by_cases hea : e = a
            · have t9 : ((e : Int) == (a : Int)) = true := by simp; omega
              have hstep : Hid (R = layT x d (f - 1) T1 (a + 128)) := Lib.hid (by
                have h1 := hReH.out
                obtain ⟨f2, hf2⟩ : ∃ f2, f = f2 + 1 := ⟨f - 1, by omega⟩
                rw [hf2, layT, if_pos (by rw [hlenH.out]; exact hlt), if_pos (by rw [hrun.out, hea])] at h1
                rw [hf2]
                exact h1)
              have hwr : IntKind.i64.wrap ((a : Int) + 128) = ((a + 128 : Nat) : Int) := by rw [IntWalk.i64_in _ (by omega)]; omega
              clear hrun
              subst hea
              go_wp2
              go_roundw
              case rel => exact ⟨e + 128, f - 1, T1, by go_num, by rw [hlenH.out]; omega, hstep.out, hIH.out, hTnH.out, by rw [hlenH.out]; omega⟩
              case measure =>
                simp [intOf]
                omega
            · have t9 : ((e : Int) == (a : Int)) = false := by simp; omega
              have hae : a < e := by omega
              have hstep : Hid (R = if (T1.run (opW x a ((d.drop a).take (e - a)))).2.code ≠ 0 then ((T1.run (opW x a ((d.drop a).take (e - a)))).1, (T1.run (opW x a ((d.drop a).take (e - a)))).2.code) else layT x d (f - 1) (T1.run (opW x a ((d.drop a).take (e - a)))).1 e) := Lib.hid (by
                have h1 := hReH.out
                obtain ⟨f2, hf2⟩ : ∃ f2, f = f2 + 1 := ⟨f - 1, by omega⟩
                rw [hf2, layT, if_pos (by rw [hlenH.out]; exact hlt), hrun.out, if_neg hea] at h1
                rw [hf2]
                exact h1)
              have hfe : Hid (d.length + 128 ≤ e + 128 * (f - 1)) := Lib.hid (by rw [hlenH.out]; have := he6H.out; omega)
              obtain ⟨ch, hch⟩ : ∃ ch, (d.drop a).take (e - a) = ch := ⟨_, rfl⟩
              have hchl : ch.length = e - a := by rw [← hch, List.length_take, List.length_drop, hlenH.out]; omega
              have hsl2 : ∀ W : World, _ := fun W => slice_lh W b off len c a e (by omega) (by omega) hc
              have hse2 := sees_part hsr.out hlenH.out (lo := a) (hi := e) (by omega) (by omega)
              rw [hch] at hstep hse2
              rw [← hchl] at hse2
              have hse2H := Lib.hid hse2
              have hchH := Lib.hid hchl
              have hlt2 := Lib.hid hP1H.out.lt
              have y0 := hNr.out.cell 0
              have y4 := hNr.out.cell 4
              simp only [ndC, List.getElem?_cons_succ, List.getElem?_cons_zero] at y0 y4
              have hgr : g < wr.heap.size := hNr.out.lt
              have b0 : (0 : Int) ≤ (a : Int) := by omega
              have b1 : (a : Int) ≤ (e : Int) := by omega
              have b2 : (e : Int) ≤ (c : Int) := by omega
              clear hrun hse2 hch hchl
              have hcl : Hid (∀ W : World, Below wr.heap.size wr W → Calls Tryz.prog 47 #[.slice (some ⟨b, off + a, none⟩) (e - a) (c - a)] W fun e w' => ∃ v', e = .returned v' ∧ w'.ownsRow wr.heap.size 5 1 v' ch.length (bvs ch) ∧ Below wr.heap.size wr w' ∧ Below W.heap.size W w') := Lib.hid fun W hW => by
                have h9 := clone_any wr.heap.size (some ⟨b, off + a, none⟩) (c - a) ch W (hse2H.out.below hW) hW.size (by rw [hchH.out]; omega)
                rw [hchH.out] at h9
                rw [hchH.out]
                exact h9.mono fun _ _ ⟨v, h1, h2, h3⟩ => ⟨v, h1, own_base h2 (fun g hg => by have := (h2.lt g hg).1; have := hW.size; omega), hW.trans (h3.mono hW.size), h3⟩
              have hog1 : Hid (own1 g = none) := Lib.hid (by
                cases ee : own1 g with
                | none => rfl
                | some r => rcases hE1H.out.new g r ee with e2 | e2
                            · rw [hogH.out] at e2; cases e2
                            · omega)
              have hask : Hid (∀ (w5 : World) (A5 : Option Addr) (c5 : Nat), Below wr.heap.size wr w5 → Sees w5 w5.heap.size 1 A5 ch.length (bvs ch) → ch.length ≤ c5 → Calls Tryz.prog 51 #[.iface 25 (.pointer (some ⟨p, 0, none⟩)), .agg #[.int .i64 7, .string x, .string ⟨#[]⟩, .int .i64 (a : Int), .int .i64 0, .slice A5 ch.length c5, .int .i64 0, .int .i64 0]] w5 (AskT own1 p mb (T1.run (opW x a ch)) w5)) := Lib.hid fun w5 A5 c5 hb hs hc => ask_t own1 lay1 p mb T1 (opW x a ch) A5 c5 m0 w5 (hP1H.out.fresh hb) hIH.out.wf ⟨hs, hc, by show ch.length < _; rw [hchH.out]; omega, by show (a : Int) ≤ _ ∧ _ ≤ (a : Int); omega, ⟨(by decide : (0 : Int) ≤ 9223372036854775807), (by decide : (-9223372036854775808 : Int) ≤ 0)⟩, Nat.le_trans hx (by decide), (by decide : (0 : Nat) ≤ 100000000)⟩ ((hb.cell (p := ⟨0, 0, none⟩) (World.block_lt_of_cell? _ _ hmr.out)).trans hmr.out)
              obtain ⟨r, hr⟩ : ∃ r, T1.run (opW x a ch) = r := ⟨_, rfl⟩
              rw [hr] at hstep hask
              obtain ⟨T2, an⟩ := r
              have hrH := Lib.hid hr
              clear hr
              go_upto_region 8 with (fail)
              have hd0 : Below wr.heap.size wr wr.drew := (Below.refl _ _).drew
              have hN0' := (Blk.new wr 67 zAns).drew
              have ha0 : Below wr.heap.size wr (wr.alloc (.cells zAns.toArray 67)).drew := ((Below.refl wr.heap.size wr).alloc (Nat.le_refl _) _).drew
              have hd0H := Lib.hid hd0
              have ha0H := Lib.hid ha0
              have hN0H := Lib.hid hN0'
              clear hd0 ha0 hN0'
              go_region_held3 (fun w' => w'.cell? ⟨g, 0, none⟩ = some (.string x) ∧ w'.cell? ⟨g, 4, none⟩ = some (.slice (some ⟨b, off, none⟩) len c))
                (first | go_keep)
                (first
                  | (go_at_call 47; first
                      | ((with_reducible refine (hcl.out wr.drew hd0H.out).mono ?_); rintro e' w5 ⟨v5, rfl, ho5, hb5, -⟩; obtain ⟨g5, c5, rfl, hnc5, -⟩ := own_some ho5 (by rw [hchH.out]; omega); have hs5H : Hid (Sees w5 w5.heap.size 1 (some ⟨g5, 0, none⟩) ch.length (bvs ch)) := Lib.hid (by obtain ⟨A', c', e', hs'⟩ := Sees.of_own (B := w5.heap.size) ho5 (fun g hg => (ho5.lt g hg).2); injection e' with e1 e2 e3; rw [e1]; exact hs'); have hszH : Hid (w5.heap.size < (w5.alloc (.cells zAns.toArray 67)).heap.size) := Lib.hid (by simp); have hN5 := hNr.out.fresh hb5; have u0 := hN5.cell 0; have u4 := hN5.cell 4; simp only [ndC, List.getElem?_cons_succ, List.getElem?_cons_zero] at u0 u4; have hb5H := Lib.hid hb5; have hZB := Lib.hid (Blk.new w5 67 zAns); have hN5H := Lib.hid hN5; clear ho5 hb5 hN5)
                      | ((with_reducible refine (hcl.out (wr.alloc (.cells zAns.toArray 67)).drew ha0H.out).mono ?_); rintro e' w5 ⟨v5, rfl, ho5, hb5, hbW⟩; obtain ⟨g5, c5, rfl, hnc5, -⟩ := own_some ho5 (by rw [hchH.out]; omega); have hs5H : Hid (Sees w5 w5.heap.size 1 (some ⟨g5, 0, none⟩) ch.length (bvs ch)) := Lib.hid (by obtain ⟨A', c', e', hs'⟩ := Sees.of_own (B := w5.heap.size) ho5 (fun g hg => (ho5.lt g hg).2); injection e' with e1 e2 e3; rw [e1]; exact hs'); have hszH : Hid (w5.heap.size < (w5.alloc (.cells zAns.toArray 67)).heap.size) := Lib.hid (by simp); have hN5 := hNr.out.fresh hb5; have u0 := hN5.cell 0; have u4 := hN5.cell 4; simp only [ndC, List.getElem?_cons_succ, List.getElem?_cons_zero] at u0 u4; have hb5H := Lib.hid hb5; have hZA := Lib.hid (hN0H.out.fresh hbW); have hN5H := Lib.hid hN5; clear ho5 hb5 hbW hN5))
                  | (go_at_call 51; first
                      | ((with_reducible refine (hask.out w5 (some ⟨g5, 0, none⟩) c5 hb5H.out hs5H.out hnc5).mono ?_); rintro e' w6 ⟨v6, rfl, hA6, hT6⟩; obtain ⟨dA, dc, eA, ec, rfl, -, -⟩ := hA6; have hT6H := Lib.hid hT6; obtain ⟨own6, lay6, -, -, hC6⟩ := hT6H.out; have hN6 := hN5H.out.chg hC6 (fun hh => hh hog1.out); have k0 := hN6.cell 0; have k4 := hN6.cell 4; simp only [ndC, ansC, List.getElem?_cons_succ, List.getElem?_cons_zero] at k0 k4 ⊢; first
                          | (have hZ6 := hZA.out.chg hC6 (fun hh => by (have h9 := hlt2.out _ _ (Option.ne_none_iff_exists'.1 hh).choose_spec; exact absurd h9 (Nat.lt_irrefl _))); have hzc := fun j => hZ6.cell j; have hzf := fun j => hZ6.frozen j; have z0 := hzc 0; have z1 := hzc 1; have z2 := hzc 2; have z3 := hzc 3; have z4 := hzc 4; have z5 := hzc 5; have z6 := hzc 6; have z7 := hzc 7; have z8 := hzc 8; have z9 := hzc 9; have f0 := hzf 0; have f1 := hzf 1; have f2 := hzf 2; have f3 := hzf 3; have f4 := hzf 4; have f5 := hzf 5; have f6 := hzf 6; have f7 := hzf 7; have f8 := hzf 8; have f9 := hzf 9; simp only [zAns, List.getElem?_cons_succ, List.getElem?_cons_zero] at z0 z1 z2 z3 z4 z5 z6 z7 z8 z9; clear hzc hzf; have hszc : w5.heap.size ≤ w6.heap.size := hC6.size; obtain ⟨wf, hwf⟩ : ∃ wf : World, ((((((((((w6.setCell ⟨wr.heap.size, 0, none⟩ (.int .i64 (an.code : Int))).setCell ⟨wr.heap.size, 1, none⟩ (.int .i64 an.stat.ino)).setCell ⟨wr.heap.size, 2, none⟩ (.int .i64 an.stat.kind)).setCell ⟨wr.heap.size, 3, none⟩ (.int .i64 an.stat.links)).setCell ⟨wr.heap.size, 4, none⟩ (.int .i64 an.stat.size)).setCell ⟨wr.heap.size, 5, none⟩ (.int .i64 an.stat.made)).setCell ⟨wr.heap.size, 6, none⟩ (.int .i64 an.stat.blocks)).setCell ⟨wr.heap.size, 7, none⟩ (.slice dA an.data.length dc)).setCell ⟨wr.heap.size, 8, none⟩ (.slice eA an.ents.length ec)).setCell ⟨wr.heap.size, 9, none⟩ (.bool false)) = wf := ⟨_, rfl⟩; have hwfH := Lib.hid hwf; clear hwf; have hNf := (hN6).chg (chg10 w6 wr.heap.size (.int .i64 (an.code : Int)) (.int .i64 an.stat.ino) (.int .i64 an.stat.kind) (.int .i64 an.stat.links) (.int .i64 an.stat.size) (.int .i64 an.stat.made) (.int .i64 an.stat.blocks) (.slice dA an.data.length dc) (.slice eA an.ents.length ec) (.bool false)) (by have h7 := hNr.out.lt; have h6 := hb5H.out.size; have h5 : w5.heap.size ≤ w6.heap.size := hszc; omega); have q0 := hNf.cell 0; have q4 := hNf.cell 4; simp only [ndC, List.getElem?_cons_succ, List.getElem?_cons_zero] at q0 q4; clear hNf; have hPTw : Hid (PTurn own1 p mb T2 wr wf) := Lib.hid (by rw [← hwfH.out]; exact fin_in hT6H.out hb5H.out hlt2.out (z := wr.heap.size) (Nat.le_refl _) hZA.out.lt _ (chg10 _ _ (.int .i64 (an.code : Int)) (.int .i64 an.stat.ino) (.int .i64 an.stat.kind) (.int .i64 an.stat.links) (.int .i64 an.stat.size) (.int .i64 an.stat.made) (.int .i64 an.stat.blocks) (.slice dA an.data.length dc) (.slice eA an.ents.length ec) (.bool false))); have hZ6H := Lib.hid hZ6; have hszH2 := Lib.hid hszc; clear hZ6 hN6 hT6 hC6 hszc u0 u4)
                          | (have hZ6 := Blk.new w6 67 zAns; have hzc := fun j => hZ6.cell j; have hzf := fun j => hZ6.frozen j; have z0 := hzc 0; have z1 := hzc 1; have z2 := hzc 2; have z3 := hzc 3; have z4 := hzc 4; have z5 := hzc 5; have z6 := hzc 6; have z7 := hzc 7; have z8 := hzc 8; have z9 := hzc 9; have f0 := hzf 0; have f1 := hzf 1; have f2 := hzf 2; have f3 := hzf 3; have f4 := hzf 4; have f5 := hzf 5; have f6 := hzf 6; have f7 := hzf 7; have f8 := hzf 8; have f9 := hzf 9; simp only [zAns, List.getElem?_cons_succ, List.getElem?_cons_zero] at z0 z1 z2 z3 z4 z5 z6 z7 z8 z9; clear hzc hzf; have hszc : w5.heap.size ≤ w6.heap.size := hC6.size; obtain ⟨wf, hwf⟩ : ∃ wf : World, w6.alloc (.cells #[.int .i64 (an.code : Int), .int .i64 an.stat.ino, .int .i64 an.stat.kind, .int .i64 an.stat.links, .int .i64 an.stat.size, .int .i64 an.stat.made, .int .i64 an.stat.blocks, .slice dA an.data.length dc, .slice eA an.ents.length ec, .bool false] 67) = wf := ⟨_, rfl⟩; have hwfH := Lib.hid hwf; clear hwf; have hNf := (hN6.alloc _).chg (chg10 (w6.alloc (.cells zAns.toArray 67)) w6.heap.size (.int .i64 (an.code : Int)) (.int .i64 an.stat.ino) (.int .i64 an.stat.kind) (.int .i64 an.stat.links) (.int .i64 an.stat.size) (.int .i64 an.stat.made) (.int .i64 an.stat.blocks) (.slice dA an.data.length dc) (.slice eA an.ents.length ec) (.bool false)) (by have h7 := hNr.out.lt; have h6 := hb5H.out.size; have h5 : w5.heap.size ≤ w6.heap.size := hszc; omega); have q0 := hNf.cell 0; have q4 := hNf.cell 4; simp only [ndC, List.getElem?_cons_succ, List.getElem?_cons_zero] at q0 q4; clear hNf; have hPTw : Hid (PTurn own1 p mb T2 wr wf) := Lib.hid (by rw [← hwfH.out]; exact (hT6H.out.after2 hb5H.out hlt2.out (Chg.refl _ _)).then_ ((Below.refl _ _).alloc (Nat.le_refl _) _)); have hZ6H := Lib.hid hZ6; have hszH2 := Lib.hid hszc; clear hZ6 hN6 hT6 hC6 hszc u0 u4))
                      | ((with_reducible refine (hask.out (w5.alloc (.cells zAns.toArray 67)) (some ⟨g5, 0, none⟩) c5 (hb5H.out.trans (((Below.refl w5.heap.size w5).alloc (Nat.le_refl _) _).mono hb5H.out.size)) ((hs5H.out.below ((Below.refl w5.heap.size w5).alloc (Nat.le_refl _) _)).more (Nat.le_of_lt hszH.out)) hnc5).mono ?_); rintro e' w6 ⟨v6, rfl, hA6, hT6⟩; obtain ⟨dA, dc, eA, ec, rfl, -, -⟩ := hA6; have hT6H := Lib.hid hT6; obtain ⟨own6, lay6, -, -, hC6⟩ := hT6H.out; have hN6 := (hN5H.out.alloc _).chg hC6 (fun hh => hh hog1.out); have k0 := hN6.cell 0; have k4 := hN6.cell 4; simp only [ndC, ansC, List.getElem?_cons_succ, List.getElem?_cons_zero] at k0 k4 ⊢; have hZ6 := hZB.out.chg hC6 (fun hh => by (have h9 := hlt2.out _ _ (Option.ne_none_iff_exists'.1 hh).choose_spec; have h8 := hb5H.out.size; omega)); have hzc := fun j => hZ6.cell j; have hzf := fun j => hZ6.frozen j; have z0 := hzc 0; have z1 := hzc 1; have z2 := hzc 2; have z3 := hzc 3; have z4 := hzc 4; have z5 := hzc 5; have z6 := hzc 6; have z7 := hzc 7; have z8 := hzc 8; have z9 := hzc 9; have f0 := hzf 0; have f1 := hzf 1; have f2 := hzf 2; have f3 := hzf 3; have f4 := hzf 4; have f5 := hzf 5; have f6 := hzf 6; have f7 := hzf 7; have f8 := hzf 8; have f9 := hzf 9; simp only [zAns, List.getElem?_cons_succ, List.getElem?_cons_zero] at z0 z1 z2 z3 z4 z5 z6 z7 z8 z9; clear hzc hzf; have hszc : w5.heap.size ≤ w6.heap.size := Nat.le_trans (by simp) hC6.size; obtain ⟨wf, hwf⟩ : ∃ wf : World, ((((((((((w6.setCell ⟨w5.heap.size, 0, none⟩ (.int .i64 (an.code : Int))).setCell ⟨w5.heap.size, 1, none⟩ (.int .i64 an.stat.ino)).setCell ⟨w5.heap.size, 2, none⟩ (.int .i64 an.stat.kind)).setCell ⟨w5.heap.size, 3, none⟩ (.int .i64 an.stat.links)).setCell ⟨w5.heap.size, 4, none⟩ (.int .i64 an.stat.size)).setCell ⟨w5.heap.size, 5, none⟩ (.int .i64 an.stat.made)).setCell ⟨w5.heap.size, 6, none⟩ (.int .i64 an.stat.blocks)).setCell ⟨w5.heap.size, 7, none⟩ (.slice dA an.data.length dc)).setCell ⟨w5.heap.size, 8, none⟩ (.slice eA an.ents.length ec)).setCell ⟨w5.heap.size, 9, none⟩ (.bool false)) = wf := ⟨_, rfl⟩; have hwfH := Lib.hid hwf; clear hwf; have hNf := (hN6).chg (chg10 w6 w5.heap.size (.int .i64 (an.code : Int)) (.int .i64 an.stat.ino) (.int .i64 an.stat.kind) (.int .i64 an.stat.links) (.int .i64 an.stat.size) (.int .i64 an.stat.made) (.int .i64 an.stat.blocks) (.slice dA an.data.length dc) (.slice eA an.ents.length ec) (.bool false)) (by have h7 := hNr.out.lt; have h6 := hb5H.out.size; have h5 : w5.heap.size ≤ w6.heap.size := hszc; omega); have q0 := hNf.cell 0; have q4 := hNf.cell 4; simp only [ndC, List.getElem?_cons_succ, List.getElem?_cons_zero] at q0 q4; clear hNf; have hPTw : Hid (PTurn own1 p mb T2 wr wf) := Lib.hid (by rw [← hwfH.out]; exact fin_in hT6H.out (hb5H.out.trans (((Below.refl w5.heap.size w5).alloc (Nat.le_refl _) _).mono hb5H.out.size)) hlt2.out (z := w5.heap.size) hb5H.out.size (by simp) _ (chg10 _ _ (.int .i64 (an.code : Int)) (.int .i64 an.stat.ino) (.int .i64 an.stat.kind) (.int .i64 an.stat.links) (.int .i64 an.stat.size) (.int .i64 an.stat.made) (.int .i64 an.stat.blocks) (.slice dA an.data.length dc) (.slice eA an.ents.length ec) (.bool false))); have hZ6H := Lib.hid hZ6; have hszH2 := Lib.hid hszc; clear hZ6 hN6 hT6 hC6 hszc u0 u4)))
              all_goals
                have hPT : Hid (PTurn own p mb T2 w0 wf) := Lib.hid (PTurn.fst hE1H.out hC1H.out hPTw.out)
                have hI2 : Hid T2.Inv := Lib.hid (by have h9 := inv_run hIH.out (opW x a ch); rw [hrH.out] at h9; exact h9)
                clear z0 z1 z2 z3 z4 z5 z6 z7 z8 z9 f0 f1 f2 f3 f4 f5 f6 f7 f8 f9 q0 q4 k0 k4 hPTw hZ6H
                rw [hwfH.out]
                clear hwfH
                by_cases hcd : an.code = 0
                · have hne : ((an.code : Int) != 0) = false := by simp; omega
                  have hst2 : Hid (R = layT x d (f - 1) T2 e) := Lib.hid (by have h9 := hstep.out; rw [if_neg (by simpa using hcd)] at h9; exact h9)
                  clear hcd
                  go_wp2
                  go_roundw
                  case rel => exact ⟨e, f - 1, T2, rfl, by rw [hlenH.out]; omega, hst2.out, hI2.out, hPT.out, hfe.out⟩
                  case measure =>
                    simp [intOf]
                    omega
                · have hne : ((an.code : Int) != 0) = true := by simp; omega
                  have hst2 : Hid (R = (T2, an.code)) := Lib.hid (by have h9 := hstep.out; rw [if_pos (by simpa using hcd)] at h9; exact h9)
                  clear hcd
                  go_wp2
                  go_ret
                  rw [hst2.out]
                  exact ⟨rfl, PTurn.fst (Ext.refl _ _) (Chg.of_fresh (by rw [hgH.out]; exact hBH.out)) hPT.out⟩
            -- END TAIL
        · have t2 : decide ((e : Int) < (len : Int)) = false := by simp; omega
          have hrun : Hid (runE d a 1100 a = e) := Lib.hid (by rw [he4H.out, runE_stop]; intro hh; exact hel (by rw [← hlenH.out]; exact hh.1))
          go_upto_region 6 with (fail)
          -- TAIL
          by_cases hea : e = a
          · have t9 : ((e : Int) == (a : Int)) = true := by simp; omega
            have hstep : Hid (R = layT x d (f - 1) T1 (a + 128)) := Lib.hid (by
              have h1 := hReH.out
              obtain ⟨f2, hf2⟩ : ∃ f2, f = f2 + 1 := ⟨f - 1, by omega⟩
              rw [hf2, layT, if_pos (by rw [hlenH.out]; exact hlt), if_pos (by rw [hrun.out, hea])] at h1
              rw [hf2]
              exact h1)
            have hwr : IntKind.i64.wrap ((a : Int) + 128) = ((a + 128 : Nat) : Int) := by rw [IntWalk.i64_in _ (by omega)]; omega
            clear hrun
            subst hea
            go_wp2
            go_roundw
            case rel => exact ⟨e + 128, f - 1, T1, by go_num, by rw [hlenH.out]; omega, hstep.out, hIH.out, hTnH.out, by rw [hlenH.out]; omega⟩
            case measure =>
              simp [intOf]
              omega
          · have t9 : ((e : Int) == (a : Int)) = false := by simp; omega
            have hae : a < e := by omega
            have hstep : Hid (R = if (T1.run (opW x a ((d.drop a).take (e - a)))).2.code ≠ 0 then ((T1.run (opW x a ((d.drop a).take (e - a)))).1, (T1.run (opW x a ((d.drop a).take (e - a)))).2.code) else layT x d (f - 1) (T1.run (opW x a ((d.drop a).take (e - a)))).1 e) := Lib.hid (by
              have h1 := hReH.out
              obtain ⟨f2, hf2⟩ : ∃ f2, f = f2 + 1 := ⟨f - 1, by omega⟩
              rw [hf2, layT, if_pos (by rw [hlenH.out]; exact hlt), hrun.out, if_neg hea] at h1
              rw [hf2]
              exact h1)
            have hfe : Hid (d.length + 128 ≤ e + 128 * (f - 1)) := Lib.hid (by rw [hlenH.out]; have := he6H.out; omega)
            obtain ⟨ch, hch⟩ : ∃ ch, (d.drop a).take (e - a) = ch := ⟨_, rfl⟩
            have hchl : ch.length = e - a := by rw [← hch, List.length_take, List.length_drop, hlenH.out]; omega
            have hsl2 : ∀ W : World, _ := fun W => slice_lh W b off len c a e (by omega) (by omega) hc
            have hse2 := sees_part hsr.out hlenH.out (lo := a) (hi := e) (by omega) (by omega)
            rw [hch] at hstep hse2
            rw [← hchl] at hse2
            have hse2H := Lib.hid hse2
            have hchH := Lib.hid hchl
            have hlt2 := Lib.hid hP1H.out.lt
            have y0 := hNr.out.cell 0
            have y4 := hNr.out.cell 4
            simp only [ndC, List.getElem?_cons_succ, List.getElem?_cons_zero] at y0 y4
            have hgr : g < wr.heap.size := hNr.out.lt
            have b0 : (0 : Int) ≤ (a : Int) := by omega
            have b1 : (a : Int) ≤ (e : Int) := by omega
            have b2 : (e : Int) ≤ (c : Int) := by omega
            clear hrun hse2 hch hchl
            have hcl : Hid (∀ W : World, Below wr.heap.size wr W → Calls Tryz.prog 47 #[.slice (some ⟨b, off + a, none⟩) (e - a) (c - a)] W fun e w' => ∃ v', e = .returned v' ∧ w'.ownsRow wr.heap.size 5 1 v' ch.length (bvs ch) ∧ Below wr.heap.size wr w' ∧ Below W.heap.size W w') := Lib.hid fun W hW => by
              have h9 := clone_any wr.heap.size (some ⟨b, off + a, none⟩) (c - a) ch W (hse2H.out.below hW) hW.size (by rw [hchH.out]; omega)
              rw [hchH.out] at h9
              rw [hchH.out]
              exact h9.mono fun _ _ ⟨v, h1, h2, h3⟩ => ⟨v, h1, own_base h2 (fun g hg => by have := (h2.lt g hg).1; have := hW.size; omega), hW.trans (h3.mono hW.size), h3⟩
            have hog1 : Hid (own1 g = none) := Lib.hid (by
              cases ee : own1 g with
              | none => rfl
              | some r => rcases hE1H.out.new g r ee with e2 | e2
                          · rw [hogH.out] at e2; cases e2
                          · omega)
            have hask : Hid (∀ (w5 : World) (A5 : Option Addr) (c5 : Nat), Below wr.heap.size wr w5 → Sees w5 w5.heap.size 1 A5 ch.length (bvs ch) → ch.length ≤ c5 → Calls Tryz.prog 51 #[.iface 25 (.pointer (some ⟨p, 0, none⟩)), .agg #[.int .i64 7, .string x, .string ⟨#[]⟩, .int .i64 (a : Int), .int .i64 0, .slice A5 ch.length c5, .int .i64 0, .int .i64 0]] w5 (AskT own1 p mb (T1.run (opW x a ch)) w5)) := Lib.hid fun w5 A5 c5 hb hs hc => ask_t own1 lay1 p mb T1 (opW x a ch) A5 c5 m0 w5 (hP1H.out.fresh hb) hIH.out.wf ⟨hs, hc, by show ch.length < _; rw [hchH.out]; omega, by show (a : Int) ≤ _ ∧ _ ≤ (a : Int); omega, ⟨(by decide : (0 : Int) ≤ 9223372036854775807), (by decide : (-9223372036854775808 : Int) ≤ 0)⟩, Nat.le_trans hx (by decide), (by decide : (0 : Nat) ≤ 100000000)⟩ ((hb.cell (p := ⟨0, 0, none⟩) (World.block_lt_of_cell? _ _ hmr.out)).trans hmr.out)
            obtain ⟨r, hr⟩ : ∃ r, T1.run (opW x a ch) = r := ⟨_, rfl⟩
            rw [hr] at hstep hask
            obtain ⟨T2, an⟩ := r
            have hrH := Lib.hid hr
            clear hr
            go_upto_region 8 with (fail)
            have hd0 : Below wr.heap.size wr wr.drew := (Below.refl _ _).drew
            have hN0' := (Blk.new wr 67 zAns).drew
            have ha0 : Below wr.heap.size wr (wr.alloc (.cells zAns.toArray 67)).drew := ((Below.refl wr.heap.size wr).alloc (Nat.le_refl _) _).drew
            have hd0H := Lib.hid hd0
            have ha0H := Lib.hid ha0
            have hN0H := Lib.hid hN0'
            clear hd0 ha0 hN0'
            go_region_held3 (fun w' => w'.cell? ⟨g, 0, none⟩ = some (.string x) ∧ w'.cell? ⟨g, 4, none⟩ = some (.slice (some ⟨b, off, none⟩) len c))
              (first | go_keep)
              (first
                | (go_at_call 47; first
                    | ((with_reducible refine (hcl.out wr.drew hd0H.out).mono ?_); rintro e' w5 ⟨v5, rfl, ho5, hb5, -⟩; obtain ⟨g5, c5, rfl, hnc5, -⟩ := own_some ho5 (by rw [hchH.out]; omega); have hs5H : Hid (Sees w5 w5.heap.size 1 (some ⟨g5, 0, none⟩) ch.length (bvs ch)) := Lib.hid (by obtain ⟨A', c', e', hs'⟩ := Sees.of_own (B := w5.heap.size) ho5 (fun g hg => (ho5.lt g hg).2); injection e' with e1 e2 e3; rw [e1]; exact hs'); have hszH : Hid (w5.heap.size < (w5.alloc (.cells zAns.toArray 67)).heap.size) := Lib.hid (by simp); have hN5 := hNr.out.fresh hb5; have u0 := hN5.cell 0; have u4 := hN5.cell 4; simp only [ndC, List.getElem?_cons_succ, List.getElem?_cons_zero] at u0 u4; have hb5H := Lib.hid hb5; have hZB := Lib.hid (Blk.new w5 67 zAns); have hN5H := Lib.hid hN5; clear ho5 hb5 hN5)
                    | ((with_reducible refine (hcl.out (wr.alloc (.cells zAns.toArray 67)).drew ha0H.out).mono ?_); rintro e' w5 ⟨v5, rfl, ho5, hb5, hbW⟩; obtain ⟨g5, c5, rfl, hnc5, -⟩ := own_some ho5 (by rw [hchH.out]; omega); have hs5H : Hid (Sees w5 w5.heap.size 1 (some ⟨g5, 0, none⟩) ch.length (bvs ch)) := Lib.hid (by obtain ⟨A', c', e', hs'⟩ := Sees.of_own (B := w5.heap.size) ho5 (fun g hg => (ho5.lt g hg).2); injection e' with e1 e2 e3; rw [e1]; exact hs'); have hszH : Hid (w5.heap.size < (w5.alloc (.cells zAns.toArray 67)).heap.size) := Lib.hid (by simp); have hN5 := hNr.out.fresh hb5; have u0 := hN5.cell 0; have u4 := hN5.cell 4; simp only [ndC, List.getElem?_cons_succ, List.getElem?_cons_zero] at u0 u4; have hb5H := Lib.hid hb5; have hZA := Lib.hid (hN0H.out.fresh hbW); have hN5H := Lib.hid hN5; clear ho5 hb5 hbW hN5))
                | (go_at_call 51; first
                    | ((with_reducible refine (hask.out w5 (some ⟨g5, 0, none⟩) c5 hb5H.out hs5H.out hnc5).mono ?_); rintro e' w6 ⟨v6, rfl, hA6, hT6⟩; obtain ⟨dA, dc, eA, ec, rfl, -, -⟩ := hA6; have hT6H := Lib.hid hT6; obtain ⟨own6, lay6, -, -, hC6⟩ := hT6H.out; have hN6 := hN5H.out.chg hC6 (fun hh => hh hog1.out); have k0 := hN6.cell 0; have k4 := hN6.cell 4; simp only [ndC, ansC, List.getElem?_cons_succ, List.getElem?_cons_zero] at k0 k4 ⊢; first
                        | (have hZ6 := hZA.out.chg hC6 (fun hh => by (have h9 := hlt2.out _ _ (Option.ne_none_iff_exists'.1 hh).choose_spec; exact absurd h9 (Nat.lt_irrefl _))); have hzc := fun j => hZ6.cell j; have hzf := fun j => hZ6.frozen j; have z0 := hzc 0; have z1 := hzc 1; have z2 := hzc 2; have z3 := hzc 3; have z4 := hzc 4; have z5 := hzc 5; have z6 := hzc 6; have z7 := hzc 7; have z8 := hzc 8; have z9 := hzc 9; have f0 := hzf 0; have f1 := hzf 1; have f2 := hzf 2; have f3 := hzf 3; have f4 := hzf 4; have f5 := hzf 5; have f6 := hzf 6; have f7 := hzf 7; have f8 := hzf 8; have f9 := hzf 9; simp only [zAns, List.getElem?_cons_succ, List.getElem?_cons_zero] at z0 z1 z2 z3 z4 z5 z6 z7 z8 z9; clear hzc hzf; have hszc : w5.heap.size ≤ w6.heap.size := hC6.size; obtain ⟨wf, hwf⟩ : ∃ wf : World, ((((((((((w6.setCell ⟨wr.heap.size, 0, none⟩ (.int .i64 (an.code : Int))).setCell ⟨wr.heap.size, 1, none⟩ (.int .i64 an.stat.ino)).setCell ⟨wr.heap.size, 2, none⟩ (.int .i64 an.stat.kind)).setCell ⟨wr.heap.size, 3, none⟩ (.int .i64 an.stat.links)).setCell ⟨wr.heap.size, 4, none⟩ (.int .i64 an.stat.size)).setCell ⟨wr.heap.size, 5, none⟩ (.int .i64 an.stat.made)).setCell ⟨wr.heap.size, 6, none⟩ (.int .i64 an.stat.blocks)).setCell ⟨wr.heap.size, 7, none⟩ (.slice dA an.data.length dc)).setCell ⟨wr.heap.size, 8, none⟩ (.slice eA an.ents.length ec)).setCell ⟨wr.heap.size, 9, none⟩ (.bool false)) = wf := ⟨_, rfl⟩; have hwfH := Lib.hid hwf; clear hwf; have hNf := (hN6).chg (chg10 w6 wr.heap.size (.int .i64 (an.code : Int)) (.int .i64 an.stat.ino) (.int .i64 an.stat.kind) (.int .i64 an.stat.links) (.int .i64 an.stat.size) (.int .i64 an.stat.made) (.int .i64 an.stat.blocks) (.slice dA an.data.length dc) (.slice eA an.ents.length ec) (.bool false)) (by have h7 := hNr.out.lt; have h6 := hb5H.out.size; have h5 : w5.heap.size ≤ w6.heap.size := hszc; omega); have q0 := hNf.cell 0; have q4 := hNf.cell 4; simp only [ndC, List.getElem?_cons_succ, List.getElem?_cons_zero] at q0 q4; clear hNf; have hPTw : Hid (PTurn own1 p mb T2 wr wf) := Lib.hid (by rw [← hwfH.out]; exact fin_in hT6H.out hb5H.out hlt2.out (z := wr.heap.size) (Nat.le_refl _) hZA.out.lt _ (chg10 _ _ (.int .i64 (an.code : Int)) (.int .i64 an.stat.ino) (.int .i64 an.stat.kind) (.int .i64 an.stat.links) (.int .i64 an.stat.size) (.int .i64 an.stat.made) (.int .i64 an.stat.blocks) (.slice dA an.data.length dc) (.slice eA an.ents.length ec) (.bool false))); have hZ6H := Lib.hid hZ6; have hszH2 := Lib.hid hszc; clear hZ6 hN6 hT6 hC6 hszc u0 u4)
                        | (have hZ6 := Blk.new w6 67 zAns; have hzc := fun j => hZ6.cell j; have hzf := fun j => hZ6.frozen j; have z0 := hzc 0; have z1 := hzc 1; have z2 := hzc 2; have z3 := hzc 3; have z4 := hzc 4; have z5 := hzc 5; have z6 := hzc 6; have z7 := hzc 7; have z8 := hzc 8; have z9 := hzc 9; have f0 := hzf 0; have f1 := hzf 1; have f2 := hzf 2; have f3 := hzf 3; have f4 := hzf 4; have f5 := hzf 5; have f6 := hzf 6; have f7 := hzf 7; have f8 := hzf 8; have f9 := hzf 9; simp only [zAns, List.getElem?_cons_succ, List.getElem?_cons_zero] at z0 z1 z2 z3 z4 z5 z6 z7 z8 z9; clear hzc hzf; have hszc : w5.heap.size ≤ w6.heap.size := hC6.size; obtain ⟨wf, hwf⟩ : ∃ wf : World, w6.alloc (.cells #[.int .i64 (an.code : Int), .int .i64 an.stat.ino, .int .i64 an.stat.kind, .int .i64 an.stat.links, .int .i64 an.stat.size, .int .i64 an.stat.made, .int .i64 an.stat.blocks, .slice dA an.data.length dc, .slice eA an.ents.length ec, .bool false] 67) = wf := ⟨_, rfl⟩; have hwfH := Lib.hid hwf; clear hwf; have hNf := (hN6.alloc _).chg (chg10 (w6.alloc (.cells zAns.toArray 67)) w6.heap.size (.int .i64 (an.code : Int)) (.int .i64 an.stat.ino) (.int .i64 an.stat.kind) (.int .i64 an.stat.links) (.int .i64 an.stat.size) (.int .i64 an.stat.made) (.int .i64 an.stat.blocks) (.slice dA an.data.length dc) (.slice eA an.ents.length ec) (.bool false)) (by have h7 := hNr.out.lt; have h6 := hb5H.out.size; have h5 : w5.heap.size ≤ w6.heap.size := hszc; omega); have q0 := hNf.cell 0; have q4 := hNf.cell 4; simp only [ndC, List.getElem?_cons_succ, List.getElem?_cons_zero] at q0 q4; clear hNf; have hPTw : Hid (PTurn own1 p mb T2 wr wf) := Lib.hid (by rw [← hwfH.out]; exact (hT6H.out.after2 hb5H.out hlt2.out (Chg.refl _ _)).then_ ((Below.refl _ _).alloc (Nat.le_refl _) _)); have hZ6H := Lib.hid hZ6; have hszH2 := Lib.hid hszc; clear hZ6 hN6 hT6 hC6 hszc u0 u4))
                    | ((with_reducible refine (hask.out (w5.alloc (.cells zAns.toArray 67)) (some ⟨g5, 0, none⟩) c5 (hb5H.out.trans (((Below.refl w5.heap.size w5).alloc (Nat.le_refl _) _).mono hb5H.out.size)) ((hs5H.out.below ((Below.refl w5.heap.size w5).alloc (Nat.le_refl _) _)).more (Nat.le_of_lt hszH.out)) hnc5).mono ?_); rintro e' w6 ⟨v6, rfl, hA6, hT6⟩; obtain ⟨dA, dc, eA, ec, rfl, -, -⟩ := hA6; have hT6H := Lib.hid hT6; obtain ⟨own6, lay6, -, -, hC6⟩ := hT6H.out; have hN6 := (hN5H.out.alloc _).chg hC6 (fun hh => hh hog1.out); have k0 := hN6.cell 0; have k4 := hN6.cell 4; simp only [ndC, ansC, List.getElem?_cons_succ, List.getElem?_cons_zero] at k0 k4 ⊢; have hZ6 := hZB.out.chg hC6 (fun hh => by (have h9 := hlt2.out _ _ (Option.ne_none_iff_exists'.1 hh).choose_spec; have h8 := hb5H.out.size; omega)); have hzc := fun j => hZ6.cell j; have hzf := fun j => hZ6.frozen j; have z0 := hzc 0; have z1 := hzc 1; have z2 := hzc 2; have z3 := hzc 3; have z4 := hzc 4; have z5 := hzc 5; have z6 := hzc 6; have z7 := hzc 7; have z8 := hzc 8; have z9 := hzc 9; have f0 := hzf 0; have f1 := hzf 1; have f2 := hzf 2; have f3 := hzf 3; have f4 := hzf 4; have f5 := hzf 5; have f6 := hzf 6; have f7 := hzf 7; have f8 := hzf 8; have f9 := hzf 9; simp only [zAns, List.getElem?_cons_succ, List.getElem?_cons_zero] at z0 z1 z2 z3 z4 z5 z6 z7 z8 z9; clear hzc hzf; have hszc : w5.heap.size ≤ w6.heap.size := Nat.le_trans (by simp) hC6.size; obtain ⟨wf, hwf⟩ : ∃ wf : World, ((((((((((w6.setCell ⟨w5.heap.size, 0, none⟩ (.int .i64 (an.code : Int))).setCell ⟨w5.heap.size, 1, none⟩ (.int .i64 an.stat.ino)).setCell ⟨w5.heap.size, 2, none⟩ (.int .i64 an.stat.kind)).setCell ⟨w5.heap.size, 3, none⟩ (.int .i64 an.stat.links)).setCell ⟨w5.heap.size, 4, none⟩ (.int .i64 an.stat.size)).setCell ⟨w5.heap.size, 5, none⟩ (.int .i64 an.stat.made)).setCell ⟨w5.heap.size, 6, none⟩ (.int .i64 an.stat.blocks)).setCell ⟨w5.heap.size, 7, none⟩ (.slice dA an.data.length dc)).setCell ⟨w5.heap.size, 8, none⟩ (.slice eA an.ents.length ec)).setCell ⟨w5.heap.size, 9, none⟩ (.bool false)) = wf := ⟨_, rfl⟩; have hwfH := Lib.hid hwf; clear hwf; have hNf := (hN6).chg (chg10 w6 w5.heap.size (.int .i64 (an.code : Int)) (.int .i64 an.stat.ino) (.int .i64 an.stat.kind) (.int .i64 an.stat.links) (.int .i64 an.stat.size) (.int .i64 an.stat.made) (.int .i64 an.stat.blocks) (.slice dA an.data.length dc) (.slice eA an.ents.length ec) (.bool false)) (by have h7 := hNr.out.lt; have h6 := hb5H.out.size; have h5 : w5.heap.size ≤ w6.heap.size := hszc; omega); have q0 := hNf.cell 0; have q4 := hNf.cell 4; simp only [ndC, List.getElem?_cons_succ, List.getElem?_cons_zero] at q0 q4; clear hNf; have hPTw : Hid (PTurn own1 p mb T2 wr wf) := Lib.hid (by rw [← hwfH.out]; exact fin_in hT6H.out (hb5H.out.trans (((Below.refl w5.heap.size w5).alloc (Nat.le_refl _) _).mono hb5H.out.size)) hlt2.out (z := w5.heap.size) hb5H.out.size (by simp) _ (chg10 _ _ (.int .i64 (an.code : Int)) (.int .i64 an.stat.ino) (.int .i64 an.stat.kind) (.int .i64 an.stat.links) (.int .i64 an.stat.size) (.int .i64 an.stat.made) (.int .i64 an.stat.blocks) (.slice dA an.data.length dc) (.slice eA an.ents.length ec) (.bool false))); have hZ6H := Lib.hid hZ6; have hszH2 := Lib.hid hszc; clear hZ6 hN6 hT6 hC6 hszc u0 u4)))
            all_goals
              have hPT : Hid (PTurn own p mb T2 w0 wf) := Lib.hid (PTurn.fst hE1H.out hC1H.out hPTw.out)
              have hI2 : Hid T2.Inv := Lib.hid (by have h9 := inv_run hIH.out (opW x a ch); rw [hrH.out] at h9; exact h9)
              clear z0 z1 z2 z3 z4 z5 z6 z7 z8 z9 f0 f1 f2 f3 f4 f5 f6 f7 f8 f9 q0 q4 k0 k4 hPTw hZ6H
              rw [hwfH.out]
              clear hwfH
              by_cases hcd : an.code = 0
              · have hne : ((an.code : Int) != 0) = false := by simp; omega
                have hst2 : Hid (R = layT x d (f - 1) T2 e) := Lib.hid (by have h9 := hstep.out; rw [if_neg (by simpa using hcd)] at h9; exact h9)
                clear hcd
                go_wp2
                go_roundw
                case rel => exact ⟨e, f - 1, T2, rfl, by rw [hlenH.out]; omega, hst2.out, hI2.out, hPT.out, hfe.out⟩
                case measure =>
                  simp [intOf]
                  omega
              · have hne : ((an.code : Int) != 0) = true := by simp; omega
                have hst2 : Hid (R = (T2, an.code)) := Lib.hid (by have h9 := hstep.out; rw [if_pos (by simpa using hcd)] at h9; exact h9)
                clear hcd
                go_wp2
                go_ret
                rw [hst2.out]
                exact ⟨rfl, PTurn.fst (Ext.refl _ _) (Chg.of_fresh (by rw [hgH.out]; exact hBH.out)) hPT.out⟩
          -- END TAIL
    · have t1 : decide ((a : Int) < (len : Int)) = false := by simp; omega
      have hR2 : R = ((T1.run (opT x d.length)).1, (T1.run (opT x d.length)).2.code) := by
        have h1 := hReH.out
        obtain ⟨f2, hf2⟩ : ∃ f2, f = f2 + 1 := ⟨f - 1, by omega⟩
        rw [hf2, layT, if_neg (by rw [hlenH.out]; exact hlt)] at h1
        exact h1
      have hask : Calls Tryz.prog 51 #[.iface 25 (.pointer (some ⟨p, 0, none⟩)), .agg #[.int .i64 8, .string x, .string ⟨#[]⟩, .int .i64 (len : Int), .int .i64 0, .slice none 0 0, .int .i64 0, .int .i64 0]] wr (AskT own1 p mb (T1.run (opT x d.length)) wr) := by
        have h9 := ask_t own1 lay1 p mb T1 (opT x d.length) none 0 m0 wr hP1H.out hIH.out.wf ⟨Sees.nil, Nat.le_refl _, (by decide : (0 : Nat) < 1000000000000), by show (d.length : Int) ≤ _ ∧ _ ≤ (d.length : Int); rw [hlenH.out]; omega, ⟨(by decide : (0 : Int) ≤ 9223372036854775807), (by decide : (-9223372036854775808 : Int) ≤ 0)⟩, Nat.le_trans hx (by decide), (by decide : (0 : Nat) ≤ 100000000)⟩ hmr.out
        have e : opV (opT x d.length) none 0 = .agg #[.int .i64 8, .string x, .string ⟨#[]⟩, .int .i64 (len : Int), .int .i64 0, .slice none 0 0, .int .i64 0, .int .i64 0] := by rw [← hlenH.out]; rfl
        rw [e] at h9
        exact h9
      obtain ⟨r, hr⟩ : ∃ r, T1.run (opT x d.length) = r := ⟨_, rfl⟩
      rw [hr] at hR2 hask
      obtain ⟨T2, an⟩ := r
      have hR2H := Lib.hid hR2
      clear hR2 hr
      go_wp2_with (first
        | (go_at_call 51; refine hask.mono ?_; rintro e w6 ⟨v6, rfl, hA6, hT6⟩; obtain ⟨dA, dc, eA, ec, rfl, -, -⟩ := hA6; have hT6H := Lib.hid hT6; have hN6 := Blk.new w6 67 zAns; clear hT6)
        | (refine wpList_store_row rfl 67 (.tmp 9) (.tmp 81) rfl w6.heap.size (ansC an.code an.stat (.slice dA an.data.length dc) (.slice eA an.ents.length ec)).toArray rfl (by rfl) 67 _ hN6 rfl rfl (one10s _ _ _ _ _ _ _ _) ?_))
      go_ret
      rw [hR2H.out]
      refine ⟨rfl, PTurn.fst (Ext.refl _ _) (Chg.of_fresh (by rw [hgH.out]; exact hBH.out)) (PTurn.fst hE1H.out hC1H.out (hT6H.out.then_ ?_))⟩
      exact ((Chg.refl (fun b => w6.heap.size ≤ b) w6).alloc _ |>.setRow (fun _ => Nat.le_refl _) _).below (Nat.le_refl _) fun b hb e => by omega
#print axioms dlay_any
end Go.Proofs.YtolpcfhfcdkokaaGreatDoor
