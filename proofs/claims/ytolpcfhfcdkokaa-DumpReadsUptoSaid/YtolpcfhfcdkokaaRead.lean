/-
  dump.Read: of bytes that are nodes' the nodes, in memory of the caller's own; of others none, and the error.
-/
import Derived.Test.YtolpcfhfcdkokaaNrow
import Derived.Deep.LoopGhost
import Derived.Deep.DeepCutAuto
namespace Go.Proofs.Ytolpcfhfcdkokaa
open Go.RowKit

def olen : Option (List UInt8) → Nat
  | none => 0
  | some r => r.length
/-- Nodes that were read: their numbers are no negative ones. -/
def NN (l : List Nd) : Prop := ∀ x ∈ l, 0 ≤ x.kind ∧ 0 ≤ x.made
theorem Tk.stays {w : World} {B g : Nat} {o : Option (List UInt8)} (h : Tk w B g o) (hB : B ≤ g) (hg : g < w.heap.size) (b : Bool) (hb : o.isNone = true → b = true) : Tk (w.setCell ⟨g, 1, none⟩ (.bool b)) B g (if b = true then none else o) := by
  by_cases e : b = true
  · rw [if_pos e, e]
    exact h.bad
  · rw [if_neg e]
    obtain ⟨A, n, c, h0, f0, f1, hnc, h1, hr⟩ := h
    cases o with
    | none => exact absurd (hb rfl) e
    | some r =>
      refine ⟨A, n, c, (World.cell?_setCell_other _ _ _ _ (by simp)).trans h0, by simpa using f0, by simpa using f1, hnc, ?_, fun r' e' => ?_⟩
      · rw [World.cell?_setCell_same _ _ _ h1]
        simpa using e
      · obtain ⟨e1, e2⟩ := hr r' e'
        exact ⟨e1, Tk.sees hB e2 hg (chg_cell _ _ _ _)⟩
theorem Tk.keep {w w1 : World} {B g : Nat} {o : Option (List UInt8)} (h : Tk w B g o) (hB : B ≤ g) (hc : Below (g + 1) w w1) : Tk w1 B g o := by
  obtain ⟨A, n, c, h0, f0, f1, hnc, h1, hr⟩ := h
  have hk : ∀ i, w1.cell? ⟨g, i, none⟩ = w.cell? ⟨g, i, none⟩ := fun i => hc.cell (p := ⟨g, i, none⟩) (Nat.lt_succ_self g)
  have hf : ∀ i, w1.frozen? ⟨g, i, none⟩ = w.frozen? ⟨g, i, none⟩ := fun i => hc.frozen (p := ⟨g, i, none⟩) (Nat.lt_succ_self g)
  exact ⟨A, n, c, (hk 0).trans h0, (hf 0).trans f0, (hf 1).trans f1, hnc, (hk 1).trans h1, fun r e => ⟨(hr r e).1, (hr r e).2.keep fun p hp => hc.cell (by omega)⟩⟩
theorem rdd_none {len k : Nat} {r : List UInt8} {l : List Nd} (h : readL len (some r) = (readL k none).map (l.map ndP ++ ·)) (hl : len = r.length) : readL r.length (some r) = none := by
  rw [← hl, h, readL_none]
  rfl
theorem rdd_nil {len k : Nat} {r : List UInt8} {l : List Nd} (h : readL len (some r) = (readL k (some [])).map (l.map ndP ++ ·)) (hl : len = r.length) : readL r.length (some r) = some (l.map ndP) := by
  rw [← hl, h, readL_nil]
  simp
theorem own_baseN {w : World} {B B' : Nat} {v : Value} {l : List Nd} (h : OwnN w B v l) (hB : B' ≤ B) : OwnN w B' v l :=
  ⟨own_base h.row fun g hg => Nat.le_trans hB (h.row.lt g hg).1, fun i hi => own_base (h.data i hi) fun g hg => Nat.le_trans hB ((h.data i hi).lt g hg).1, h.apart, h.aside⟩
theorem src_node {P : Program} (w : World) {tx e' : TypeId} (hk : P.underlying tx = some (.slice e')) (x : Nd) (t : TypeId) :
    Src P 5 tx (.slice (some ⟨w.heap.size, 0, none⟩) 1 1) 1 (cells5 x) (w.alloc (.cells #[.string x.path, .int .i64 x.kind, .int .i64 x.made, .string x.same, .slice x.dA x.data.length x.dc] t)) :=
  Src.ofSlice _ hk ⟨w.heap.size, 0, none⟩ 1 1 (cells5 x) rfl (World.news_of_block (cs := #[.string x.path, .int .i64 x.kind, .int .i64 x.made, .string x.same, .slice x.dA x.data.length x.dc]) (heap_alloc_new w _)) (by
    intro u hu
    simp only [cells5, List.mem_cons, List.not_mem_nil, or_false] at hu
    rcases hu with rfl | rfl | rfl | rfl | rfl <;> rfl)
theorem rd_less {r1 : List UInt8} (hn : 0 < r1.length) : olen (rdO (some r1)) + 1 ≤ r1.length := by
  cases h : rdO (some r1) with
  | none => simp only [olen]; omega
  | some r2 =>
    have := rdO_short h
    simp only [olen]
    omega
theorem rd_step1 {r1 : List UInt8} {k : Nat} (hn : 0 < r1.length) (h : olen (some r1) ≤ k) : olen (rdO (some r1)) ≤ k - 1 := by
  have h1 := rd_less hn
  simp only [olen] at h
  omega
theorem rd_step2 {r1 : List UInt8} {l : List Nd} {x : Nd} {len : Nat} (hn : 0 < r1.length) (h : l.length + olen (some r1) ≤ len) : (l ++ [x]).length + olen (rdO (some r1)) ≤ len := by
  have h1 := rd_less hn
  rw [List.length_append, List.length_singleton]
  have h2 : olen (some r1) = r1.length := rfl
  omega
theorem rd_step3 {r1 r : List UInt8} {l : List Nd} {x : Nd} {len k : Nat} (hn : 0 < r1.length) (hk : olen (some r1) ≤ k) (h : readL len (some r) = (readL k (some r1)).map (l.map ndP ++ ·)) (hx : ndP x = rdN (some r1)) :
    Hid (readL len (some r) = (readL (k - 1) (rdO (some r1))).map ((l ++ [x]).map ndP ++ ·)) := by
  show _ = _
  have h2 : olen (some r1) = r1.length := rfl
  obtain ⟨k', rfl⟩ : ∃ k', k = k' + 1 := ⟨k - 1, by omega⟩
  rw [h, readL_step k' r1 (fun e => by rw [e] at hn; simp at hn), Nat.add_sub_cancel]
  cases readL k' (rdO (some r1)) with
  | none => rfl
  | some q => simp [hx]
theorem nn_snoc {l : List Nd} {x : Nd} (h : NN l) (hx : 0 ≤ x.kind ∧ 0 ≤ x.made) : NN (l ++ [x]) := by
  intro y hy
  rw [List.mem_append, List.mem_singleton] at hy
  rcases hy with hy | rfl
  · exact h y hy
  · exact hx
/-- What Read answers. -/
def Rdd (r : List UInt8) (w : World) (e : Ending) (w' : World) : Prop :=
  ((∃ l v, readL r.length (some r) = some (l.map ndP) ∧ NN l ∧ e = .returned (.tuple #[v, .int .i64 0]) ∧ OwnN w' w.heap.size v l) ∨
   (readL r.length (some r) = none ∧ e = .returned (.tuple #[.slice none 0 0, .int .i64 170]))) ∧ Below w.heap.size w w'

set_option maxHeartbeats 8000000 in
set_option maxRecDepth 100000 in
theorem read_any (A : Option Addr) (c : Nat) (r : List UInt8) (w : World) (hs : Sees w w.heap.size 1 A r.length (bvs r)) (hc : r.length ≤ c) (hl : r.length ≤ 1000000000) :
    Calls Try.prog 14 #[.slice A r.length c] w (Rdd r w) := by
  obtain ⟨len, hlen⟩ : ∃ len, len = r.length := ⟨_, rfl⟩
  have hlenH := Lib.hid hlen
  have ht0 : Tk (w.alloc (.cells #[.slice A r.length c, .bool false] 52)) w.heap.size w.heap.size (some r) := by
    have hB := Blk.new w 52 [.slice A r.length c, .bool false]
    exact ⟨A, r.length, c, hB.cell 0, hB.frozen 0, hB.frozen 1, hc, hB.cell 1, fun r' e => by cases e; exact ⟨rfl, hs.keep fun p hp => World.cell?_alloc_lt _ _ _ hp⟩⟩
  rw [← hlen] at hl ht0 ⊢
  clear hlen hs hc
  go_enter Try.func14, Try.ntmps14
  go_wp2
  obtain ⟨g, hg⟩ : ∃ g, g = w.heap.size := ⟨_, rfl⟩
  have hgH := Lib.hid hg
  have hb0 : Below w.heap.size w (w.alloc (.cells #[.slice A len c, .bool false] 52)) := (Below.refl _ _).alloc (Nat.le_refl _) _
  have hs0 : g < (w.alloc (.cells #[.slice A len c, .bool false] 52)).heap.size := by simp; omega
  rw [← hg] at ht0 hb0 ⊢
  clear hg
  go_loopg [4] len (fun k v wr => ∃ (l : List Nd) (o : Option (List UInt8)), olen o ≤ k ∧ l.length + olen o ≤ len ∧ Hid (readL len (some r) = (readL k o).map (l.map ndP ++ ·)) ∧ NN l ∧ Tk wr g g o ∧ OwnN wr (g + 1) v l ∧ g < wr.heap.size ∧ Below g w wr)
  case atStart =>
    refine ⟨[], some r, by have := hlenH.out; simp only [olen]; omega, by have := hlenH.out; simp only [olen, List.length_nil]; omega, ?_, fun x hx => absurd hx (by simp), ht0, OwnN.nil _ _, hs0, hb0⟩
    show _ = _
    simp
  case round =>
    obtain ⟨l, o, hko, hlo, hrd, hnn, ht, hO, hgw, hb⟩ := hrel
    clear ht0 hb0 hs0
    have htk := ht
    obtain ⟨A1, n1, c1, t0, f0, f1, hnc1, t1, hr1⟩ := ht
    cases o with
    | none =>
      simp only [Option.isNone_none] at t1
      by_cases hn1 : n1 = 0
      · subst hn1
        go_wp2
        go_ret2
        exact ⟨.inr ⟨rdd_none hrd.out hlenH.out, rfl⟩, hgH.out ▸ hb⟩
      · have hn2 : 0 < n1 := by omega
        go_wp2
        go_ret2
        exact ⟨.inr ⟨rdd_none hrd.out hlenH.out, rfl⟩, hgH.out ▸ hb⟩
    | some r1 =>
      simp only [Option.isNone_some] at t1
      obtain ⟨rfl, hs1⟩ := hr1 r1 rfl
      cases r1 with
      | nil =>
        simp only [List.length_nil] at t0
        go_wp2
        go_ret2
        exact ⟨.inl ⟨l, _, rdd_nil hrd.out hlenH.out, hnn, rfl, own_baseN hO (by have := hgH.out; omega)⟩, hgH.out ▸ hb⟩
      | cons x r2 =>
        have hn2 : 0 < (x :: r2).length := by simp
        clear hr1 hs1
        generalize x :: r2 = r1 at *
        go_wp2_with fail
        refine (number_any g g (some r1) 1 2 wr (by omega) (by omega) htk (Nat.le_refl _) hgw).mono ?_
        rintro e w1 ⟨rfl, ht1, hc1⟩
        have hg1 := Nat.lt_of_lt_of_le hgw hc1.size
        replace ht1 : Tk w1 g g (s1 (some r1)) := ht1
        go_wp2_with fail
        refine (number_any g g (s1 (some r1)) 8 1099511627776 w1 (by omega) (by omega) ht1 (Nat.le_refl _) hg1).mono ?_
        rintro e w2 ⟨rfl, ht2, hc2⟩
        have hg2 := Nat.lt_of_lt_of_le hg1 hc2.size
        replace ht2 : Tk w2 g g (s2 (some r1)) := ht2
        have hC2 := hc1.trans hc2 (fun _ _ e => e) (fun _ _ e => e)
        clear ht1 hc1 hc2 hg1
        have hb3 := Blk.new w2 47 [.string ⟨#[]⟩, .int .i64 (numX 1 2 (some r1)), .int .i64 (numX 8 1099511627776 (s1 (some r1))), .string ⟨#[]⟩, .slice none 0 0]
        have ht3 : Tk (w2.alloc (.cells #[.string ⟨#[]⟩, .int .i64 (numX 1 2 (some r1)), .int .i64 (numX 8 1099511627776 (s1 (some r1))), .string ⟨#[]⟩, .slice none 0 0] 47)) g g (s2 (some r1)) := ht2.keep (Nat.le_refl _) ((Below.refl _ _).alloc hg2 _)
        have hC3 := hC2.alloc (.cells #[.string ⟨#[]⟩, .int .i64 (numX 1 2 (some r1)), .int .i64 (numX 8 1099511627776 (s1 (some r1))), .string ⟨#[]⟩, .slice none 0 0] 47)
        have hh := hC2.size
        clear ht2 hC2 t0 t1 f0 f1 htk
        go_wp2_with fail
        generalize w2.alloc (.cells #[.string ⟨#[]⟩, .int .i64 (numX 1 2 (some r1)), .int .i64 (numX 8 1099511627776 (s1 (some r1))), .string ⟨#[]⟩, .slice none 0 0] 47) = w3 at *
        replace hb3 : Blk w3 w2.heap.size 47 [.string ⟨#[]⟩, .int .i64 (numX 1 2 (some r1)), .int .i64 (numX 8 1099511627776 (s1 (some r1))), .string ⟨#[]⟩, .slice none 0 0] := hb3
        generalize w2.heap.size = h at *
        have hgh : ¬ h = g := by omega
        -- the path
        refine (number_any g g (s2 (some r1)) 4 400 w3 (by omega) (by omega) ht3 (Nat.le_refl _) (by have := hC3.size; omega)).mono ?_
        rintro e w4 ⟨rfl, ht4, hc4⟩
        replace ht4 : Tk w4 g g (s3 (some r1)) := ht4
        have hC4 := hC3.trans hc4 (fun _ _ e => e) (fun _ _ e => e)
        have hb4 := hb3.chg hc4 hgh
        have hnx4 := numX_le 4 400 (s2 (some r1))
        clear ht3 hC3 hc4 hb3
        go_wp2_with fail
        refine (take_any g g (s3 (some r1)) (numX 4 400 (s2 (some r1))) w4 (by omega) ht4 (Nat.le_refl _) (by have := hC4.size; omega)).mono ?_
        rintro e w5 ⟨A5, c5, rfl, hs5, ht5, hc5⟩
        replace ht5 : Tk w5 g g (s4 (some r1)) := ht5
        have hC5 := hC4.trans hc5 (fun _ _ e => e) (fun _ _ e => e)
        have hb5 := hb4.chg hc5 hgh
        have e5 := run_str (P := Try.prog) Try.underlying29 Try.underlying5 c5 hs5 9 Try.underlying9
        have q5 := hb5.cell 0
        have z5 := hb5.frozen 0
        clear ht4 hC4 hc5 hb4 hs5
        have hT5 := Tk.keep (w1 := w5.setCell ⟨h, 0, none⟩ (.string ⟨(takeX (numX 4 400 (s2 (some r1))) (s3 (some r1))).toArray⟩)) ht5 (Nat.le_refl _) ((Below.refl _ _).setCell (show g + 1 ≤ h by omega) _)
        have hD5 := hC5.setCell (p := ⟨h, 0, none⟩) (fun e => absurd e (show ¬ h < wr.heap.size by omega)) (.string ⟨(takeX (numX 4 400 (s2 (some r1))) (s3 (some r1))).toArray⟩)
        have hE5 := hb5.set_ 0 (.string ⟨(takeX (numX 4 400 (s2 (some r1))) (s3 (some r1))).toArray⟩)
        clear ht5 hC5 hb5
        go_wp2_with fail
        generalize w5.setCell ⟨h, 0, none⟩ (.string ⟨(takeX (numX 4 400 (s2 (some r1))) (s3 (some r1))).toArray⟩) = w6 at *
        clear e5 q5 z5
        replace hE5 : Blk w6 h 47 [.string ⟨(takeX (numX 4 400 (s2 (some r1))) (s3 (some r1))).toArray⟩, .int .i64 (numX 1 2 (some r1)), .int .i64 (numX 8 1099511627776 (s1 (some r1))), .string ⟨#[]⟩, .slice none 0 0] := hE5
        have hb6 := hE5; clear hE5
        have ht6 := hT5; clear hT5
        have hC6 := hD5; clear hD5
        -- the path told ahead
        refine (number_any g g (s4 (some r1)) 4 400 w6 (by omega) (by omega) ht6 (Nat.le_refl _) (by have := hC6.size; omega)).mono ?_
        rintro e w7 ⟨rfl, ht7, hc7⟩
        replace ht7 : Tk w7 g g (s5 (some r1)) := ht7
        have hC7 := hC6.trans hc7 (fun _ _ e => e) (fun _ _ e => e)
        have hb7 := hb6.chg hc7 hgh
        have hnx7 := numX_le 4 400 (s4 (some r1))
        clear ht6 hC6 hc7 hb6
        go_wp2_with fail
        refine (take_any g g (s5 (some r1)) (numX 4 400 (s4 (some r1))) w7 (by omega) ht7 (Nat.le_refl _) (by have := hC7.size; omega)).mono ?_
        rintro e w8 ⟨A8, c8, rfl, hs8, ht8, hc8⟩
        replace ht8 : Tk w8 g g (s6 (some r1)) := ht8
        have hC8 := hC7.trans hc8 (fun _ _ e => e) (fun _ _ e => e)
        have hb8 := hb7.chg hc8 hgh
        have e8 := run_str (P := Try.prog) Try.underlying29 Try.underlying5 c8 hs8 9 Try.underlying9
        have q8 := hb8.cell 3
        have z8 := hb8.frozen 3
        clear ht7 hC7 hc8 hb7 hs8
        have hT8 := Tk.keep (w1 := w8.setCell ⟨h, 3, none⟩ (.string ⟨(takeX (numX 4 400 (s4 (some r1))) (s5 (some r1))).toArray⟩)) ht8 (Nat.le_refl _) ((Below.refl _ _).setCell (show g + 1 ≤ h by omega) _)
        have hD8 := hC8.setCell (p := ⟨h, 3, none⟩) (fun e => absurd e (show ¬ h < wr.heap.size by omega)) (.string ⟨(takeX (numX 4 400 (s4 (some r1))) (s5 (some r1))).toArray⟩)
        have hE8 := hb8.set_ 3 (.string ⟨(takeX (numX 4 400 (s4 (some r1))) (s5 (some r1))).toArray⟩)
        clear ht8 hC8 hb8
        go_wp2_with fail
        generalize w8.setCell ⟨h, 3, none⟩ (.string ⟨(takeX (numX 4 400 (s4 (some r1))) (s5 (some r1))).toArray⟩) = w9 at *
        clear e8 q8 z8
        replace hE8 : Blk w9 h 47 [.string ⟨(takeX (numX 4 400 (s2 (some r1))) (s3 (some r1))).toArray⟩, .int .i64 (numX 1 2 (some r1)), .int .i64 (numX 8 1099511627776 (s1 (some r1))), .string ⟨(takeX (numX 4 400 (s4 (some r1))) (s5 (some r1))).toArray⟩, .slice none 0 0] := hE8
        have hb9 := hE8; clear hE8
        have ht9 := hT8; clear hT8
        have hC9 := hD8; clear hD8
        -- the bytes
        refine (number_any g g (s6 (some r1)) 4 136704 w9 (by omega) (by omega) ht9 (Nat.le_refl _) (by have := hC9.size; omega)).mono ?_
        rintro e w10 ⟨rfl, ht10, hc10⟩
        replace ht10 : Tk w10 g g (s7 (some r1)) := ht10
        have hC10 := hC9.trans hc10 (fun _ _ e => e) (fun _ _ e => e)
        have hb10 := hb9.chg hc10 hgh
        have hnx10 := numX_le 4 136704 (s6 (some r1))
        clear ht9 hC9 hc10 hb9
        go_wp2_with fail
        refine (take_any g g (s7 (some r1)) (numX 4 136704 (s6 (some r1))) w10 (by omega) ht10 (Nat.le_refl _) (by have := hC10.size; omega)).mono ?_
        rintro e w11 ⟨A11, c11, rfl, hs11, ht11, hc11⟩
        replace ht11 : Tk w11 g g (s8 (some r1)) := ht11
        have hC11 := hC10.trans hc11 (fun _ _ e => e) (fun _ _ e => e)
        have hb11 := hb10.chg hc11 hgh
        clear ht10 hC10 hc11 hb10
        have htl := takeX_len (numX 4 136704 (s6 (some r1))) (s7 (some r1))
        go_wp2_with fail
        refine (clone_any g A11 c11 _ w11 hs11 (by have := hC11.size; omega) (by omega)).mono ?_
        rintro e w12 ⟨v12, rfl, ho12, hB12⟩
        have hC12 := hC11.trans (Chg.of_fresh (S := fun b => b = g) hB12) (fun _ _ e => e) (fun _ _ e => e)
        have hb12 := hb11.fresh hB12
        have ht12 := ht11.keep (Nat.le_refl _) (hB12.mono (by have := hC11.size; omega))
        have q12 := hb12.cell 4
        have z12 := hb12.frozen 4
        have hh12 : h < w11.heap.size := hb11.lt
        clear ht11 hC11 hb11 hs11
        obtain ⟨A12, k12, rfl, _⟩ := Sees.of_own (B := w12.heap.size) ho12 fun g' hg' => (ho12.lt g' hg').2
        obtain ⟨da, hda⟩ : ∃ da, da = takeX (numX 4 136704 (s6 (some r1))) (s7 (some r1)) := ⟨_, rfl⟩
        rw [← hda] at ho12 htl ⊢
        have hT12 := Tk.keep (w1 := w12.setCell ⟨h, 4, none⟩ (.slice A12 da.length k12)) ht12 (Nat.le_refl _) ((Below.refl _ _).setCell (show g + 1 ≤ h by omega) _)
        have hD12 := hC12.setCell (p := ⟨h, 4, none⟩) (fun e => absurd e (show ¬ h < wr.heap.size by omega)) (.slice A12 da.length k12)
        have hE12 := hb12.set_ 4 (.slice A12 da.length k12)
        have ho13 := own_chg (own_base ho12 (base' := wr.heap.size) fun g' e => by have := (ho12.lt g' e).1; omega) ((Chg.refl (fun b => b = h) w12).setCell (p := ⟨h, 4, none⟩) (fun _ => rfl) (.slice A12 da.length k12)) (fun g' e => by have := (ho12.lt g' e).1; omega)
        have hdaH := Lib.hid hda
        clear hda ht12 hC12 hb12 ho12
        go_upto_region 8 with (fail)
        generalize w12.setCell ⟨h, 4, none⟩ (.slice A12 da.length k12) = w13 at *
        clear q12 z12 hB12 hh12
        have hb13 : Blk w13 h 47 [Value.string ⟨(takeX (numX 4 400 (s2 (some r1))) (s3 (some r1))).toArray⟩, .int .i64 (numX 1 2 (some r1)), .int .i64 (numX 8 1099511627776 (s1 (some r1))), Value.string ⟨(takeX (numX 4 400 (s4 (some r1))) (s5 (some r1))).toArray⟩, .slice A12 da.length k12] := hE12
        have ht13 := hT12
        have hC13 := hD12
        clear hE12 hT12 hD12
        have q1 := hb13.cell 1
        have htk := ht13
        obtain ⟨A13, n13, c13, t0, f0, f1, _, t1, _⟩ := ht13
        have hk1 := numX_le 1 2 (some r1)
        go_cut [] from 10 to 61 (fun wx => ∃ b : Bool, wx = w13.setCell ⟨g, 1, none⟩ (.bool b) ∧ Hid (b = decide (rdO (some r1) = none)))
        case first =>
          rcases h8 : s8 (some r1) with _ | r8
          · have hro : rdO (some r1) = none := by unfold rdO; split <;> simp [h8]
            have hd : Hid (true = decide (rdO (some r1) = none)) := by show _ = _; simp [hro]
            rw [h8] at t1
            simp only [Option.isNone_none] at t1
            clear h8 hro
            go_wp2
            go_meet
            exact ⟨_, rfl, hd⟩
          · rw [h8] at t1
            simp only [Option.isNone_some] at t1
            by_cases hk0 : numX 1 2 (some r1) = 0
            · have hro : rdO (some r1) = none := by unfold rdO; rw [if_pos hk0]
              have hd : Hid (true = decide (rdO (some r1) = none)) := by show _ = _; simp [hro]
              rw [hk0] at q1
              clear h8 hro hk0
              go_wp2
              go_meet
              exact ⟨_, rfl, hd⟩
            · have hro : rdO (some r1) = some r8 := by unfold rdO; rw [if_neg hk0, h8]
              have hd : Hid (((numX 1 2 (some r1) : Int) == 0) = decide (rdO (some r1) = none)) := by
                show _ = _
                have hk2 : ((numX 1 2 (some r1) : Int) == 0) = false := by simpa using hk0
                rw [hk2, hro]
                rfl
              clear h8 hro
              go_wp2
              go_meet
              exact ⟨_, rfl, hd⟩
        case rest =>
          obtain ⟨b, rfl, hbd⟩ := hcut
          have hTk : Tk (w13.setCell ⟨g, 1, none⟩ (.bool b)) g g (rdO (some r1)) := by
            have h1 := htk.stays (Nat.le_refl _) (by have := hC13.size; omega) b (fun e => by
              rw [hbd.out]
              have : s8 (some r1) = none := by simpa using e
              simp [rdO, this])
            have h2 : (if b = true then none else s8 (some r1)) = rdO (some r1) := by
              rw [hbd.out]
              unfold rdO
              by_cases e : numX 1 2 (some r1) = 0
              · simp [e]
              · rw [if_neg e]
                cases s8 (some r1) <;> simp
            rw [h2] at h1
            exact h1
          have hC14 := hC13.setCell (p := ⟨g, 1, none⟩) (fun _ => rfl) (.bool b)
          have hb14 := hb13.far (p := ⟨g, 1, none⟩) hgh (.bool b)
          have ho14 := own_chg ho13 (chg_cell w13 g 1 (.bool b)) (fun g' e => by have := (ho13.lt g' e).1; omega)
          clear htk hC13 hb13 ho13 t0 t1 f0 f1 q1
          generalize w13.setCell ⟨g, 1, none⟩ (.bool b) = w14 at *
          obtain ⟨x, hx⟩ : ∃ x : Nd, x = ⟨⟨(takeX (numX 4 400 (s2 (some r1))) (s3 (some r1))).toArray⟩, (numX 1 2 (some r1) : Int), (numX 8 1099511627776 (s1 (some r1)) : Int), ⟨(takeX (numX 4 400 (s4 (some r1))) (s5 (some r1))).toArray⟩, A12, k12, da⟩ := ⟨_, rfl⟩
          have hxp : Hid (ndP x = rdN (some r1)) := by
            show _ = _
            rw [hx, hdaH.out]
            simp [ndP, rdN]
          have hxn : 0 ≤ x.kind ∧ 0 ≤ x.made := by rw [hx]; simp
          have hb15 : Blk w14 h 47 (cells5 x) := by rw [hx]; exact hb14
          have ho15 : w14.ownsRow wr.heap.size 5 1 (ndV x) x.data.length (bvs x.data) := by rw [hx]; exact ho14
          have q0 : w14.cell? ⟨h, 0, none⟩ = some (.string x.path) := hb15.cell 0
          have q1 : w14.cell? ⟨h, 1, none⟩ = some (.int .i64 x.kind) := hb15.cell 1
          have q2 : w14.cell? ⟨h, 2, none⟩ = some (.int .i64 x.made) := hb15.cell 2
          have q3 : w14.cell? ⟨h, 3, none⟩ = some (.string x.same) := hb15.cell 3
          have q4 : w14.cell? ⟨h, 4, none⟩ = some (.slice x.dA x.data.length x.dc) := hb15.cell 4
          clear hx hb14 hb15 ho14 hdaH hnx4 hnx7 hnx10 hk1 htl
          have hO14 := hO.chg hC14 (fun b hb e => by omega)
          have hgw14 : g + 1 ≤ w14.heap.size := by have := hC14.size; omega
          have hlb : l.length < len := by have h1 : 0 < olen (some r1) := hn2; omega
          obtain ⟨iN, hiN, hzN0, hzN1, hzN2⟩ := info_parts infoNode
          go_wp2_with (first
            | (at_builtin; refine wpList_app _ rfl (.tmp 58) (.tmp 60) _ _ rfl (g + 1) 47 iN _ 5 72 Try.underlying22 hiN hzN0 hzN1 hzN2 rfl u4 l.length (ncs l) rfl (hO14.row.alloc _) 1 (cells5 x) (src_node w14 Try.underlying22 x _) (by unfold maxLen; omega) (by omega) (by simp; omega) ?_; intro v' w15 ho' hg' hat'))
          have hG := Grows.of_law ((Below.refl w14.heap.size w14).alloc (Nat.le_refl _) _) hg' hat' (by simp)
          have hO15 := hO.step hC14 (fun b hb e => by omega) (by omega) ho15 ho' hG
          have hB15 : Below (g + 1) w14 w15 := hG.chg.below hgw14 (fun b hb e => by have := (hO.row.lt b e).1; omega)
          have hT15 := hTk.keep (Nat.le_refl _) hB15
          have hb15 : Below g w w15 := (hb.trans (hC14.below (by omega) (fun b hb e => by omega))).trans (hB15.mono (by omega))
          have hg15 : g < w15.heap.size := by have := hG.chg.size; omega
          clear ho' hg' hat' hG hTk ho15 hO14 hC14 hO hb hgw hgw14 q0 q1 q2 q3 q4
          go_wp2
          go_roundg (gk - 1)
          case measure => have h1 : 0 < olen (some r1) := hn2; omega
          case rel => exact ⟨l ++ [x], rdO (some r1), rd_step1 hn2 hko, rd_step2 hn2 hlo, rd_step3 hn2 hko hrd.out hxp.out, nn_snoc hnn hxn, hT15, hO15, hg15, hb15⟩
#print axioms read_any
end Go.Proofs.Ytolpcfhfcdkokaa
