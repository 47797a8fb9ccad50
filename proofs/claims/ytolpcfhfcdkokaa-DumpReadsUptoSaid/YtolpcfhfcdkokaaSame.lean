/-
  same: two lists of nodes that are alike; kept: are nodes that were lent as they were, and all marks?
-/
import Derived.Test.YtolpcfhfcdkokaaLend
namespace Go.Proofs.Ytolpcfhfcdkokaa
open Go.RowKit

/-- Two nodes alike, wherever their bytes lie. -/
def ndSame (x y : Nd) : Prop := x.path = y.path ∧ x.kind = y.kind ∧ x.made = y.made ∧ x.same = y.same ∧ x.data = y.data

set_option maxHeartbeats 1600000 in
set_option maxRecDepth 100000 in
theorem same_true (A1 A2 : Option Addr) (k1 k2 : Nat) (l1 l2 : List Nd) (w : World) (hN1 : NodesAt w w.heap.size A1 l1) (hN2 : NodesAt w w.heap.size A2 l2) (hll : l2.length = l1.length) (hln : l1.length ≤ 1000000000)
    (hs : ∀ i (h1 : i < l1.length) (h2 : i < l2.length), ndSame l1[i] l2[i]) :
    Calls Try.prog 16 #[.slice A1 l1.length k1, .slice A2 l1.length k2] w fun e w' => e = .returned (.bool true) ∧ Below w.heap.size w w' := by
  obtain ⟨len, hlen⟩ : ∃ len, len = l1.length := ⟨_, rfl⟩
  have hlenH := Lib.hid hlen
  have hllH := Lib.hid hll
  rw [← hlen] at hln ⊢
  clear hlen hll
  go_enter Try.func16, Try.ntmps16
  go_wp2
  go_loopw [5] (fun i wr => ∃ j : Nat, j ≤ len ∧ i = .int .i64 j ∧ Below w.heap.size w wr) (fun i _ => len - (intOf i).toNat)
  case atStart => exact ⟨0, Nat.zero_le _, rfl, Below.refl _ _⟩
  case round =>
    obtain ⟨j, hj, rfl, hb⟩ := hrel
    by_cases hjk : j < len
    · have hj1 : j < l1.length := by have := hlenH.out; omega
      have hj2 : j < l2.length := by have := hlenH.out; have := hllH.out; omega
      obtain ⟨b1, o1, rfl, hb1, hc1⟩ := hN1.at_ (by omega)
      obtain ⟨b2, o2, rfl, hb2, hc2⟩ := hN2.at_ (by omega)
      have hx := (hc1 j hj1).keep (w1 := wr) fun p hp => hb.cell (by omega)
      have hy := (hc2 j hj2).keep (w1 := wr) fun p hp => hb.cell (by omega)
      have hsx := hs j hj1 hj2
      have hd1 := (hN1.data _ (List.getElem_mem hj1)).below hb
      have hd2 := (hN2.data _ (List.getElem_mem hj2)).below hb
      clear hs hc1 hc2 hN1 hN2
      generalize l1[j] = x at *
      generalize l2[j] = y at *
      obtain ⟨pa, ki, ma, sa, dA, dc, da⟩ := x
      obtain ⟨pa2, ki2, ma2, sa2, dA2, dc2, da2⟩ := y
      obtain ⟨e1, e2, e3, e4, e5⟩ := hsx
      simp only at e1 e2 e3 e4 e5
      subst e1 e2 e3 e4 e5
      obtain ⟨c0, c1, c2, c3, c4⟩ := hx
      obtain ⟨d0, d1, d2, d3, d4⟩ := hy
      simp only at c0 c1 c2 c3 c4 d0 d1 d2 d3 d4 hd1 hd2
      have hbs := hb.size
      have y0 := (World.cell?_alloc_lt wr (.cells #[.string pa, .int .i64 ki, .int .i64 ma, .string sa, .slice dA da.length dc] 47) ⟨b2, o2 + j * 5, none⟩ (by show b2 < _; omega)).trans d0
      have y1 := (World.cell?_alloc_lt wr (.cells #[.string pa, .int .i64 ki, .int .i64 ma, .string sa, .slice dA da.length dc] 47) ⟨b2, o2 + j * 5 + 1, none⟩ (by show b2 < _; omega)).trans d1
      have y2 := (World.cell?_alloc_lt wr (.cells #[.string pa, .int .i64 ki, .int .i64 ma, .string sa, .slice dA da.length dc] 47) ⟨b2, o2 + j * 5 + 2, none⟩ (by show b2 < _; omega)).trans d2
      have y3 := (World.cell?_alloc_lt wr (.cells #[.string pa, .int .i64 ki, .int .i64 ma, .string sa, .slice dA da.length dc] 47) ⟨b2, o2 + j * 5 + 3, none⟩ (by show b2 < _; omega)).trans d3
      have y4 := (World.cell?_alloc_lt wr (.cells #[.string pa, .int .i64 ki, .int .i64 ma, .string sa, .slice dA da.length dc] 47) ⟨b2, o2 + j * 5 + 4, none⟩ (by show b2 < _; omega)).trans d4
      have keep2 : ∀ p : Addr, p.block < w.heap.size → ((wr.alloc (.cells #[.string pa, .int .i64 ki, .int .i64 ma, .string sa, .slice dA da.length dc] 47)).alloc (.cells #[.string pa, .int .i64 ki, .int .i64 ma, .string sa, .slice dA2 da.length dc2] 47)).cell? p = wr.cell? p := fun p hp =>
        (World.cell?_alloc_lt _ _ p (by simp; omega)).trans (World.cell?_alloc_lt wr _ p (by omega))
      have s1 := run_str (P := Try.prog) Try.underlying29 Try.underlying5 dc (hd1.keep keep2) 9 Try.underlying9
      have s2 := run_str (P := Try.prog) Try.underlying29 Try.underlying5 dc2 (hd2.keep keep2) 9 Try.underlying9
      clear keep2 hd1 hd2 d0 d1 d2 d3 d4
      go_wp2
      go_roundw
      case rel => exact ⟨j + 1, by omega, by go_num, (hb.alloc hbs _).alloc (by simp; omega) _⟩
      case measure => simp [intOf]; omega
    · obtain rfl : j = len := by omega
      clear hs hN1 hN2
      go_wp2
      go_ret
      exact ⟨rfl, hb⟩
#print axioms same_true
end Go.Proofs.Ytolpcfhfcdkokaa
