/-
  DumpNothing: without a file system nothing is told and nothing is made; no nodes have no bytes; no bytes are no nodes.
-/
import Derived.Test.YtolpcfhfcdkokaaLend
namespace Go.Proofs.Ytolpcfhfcdkokaa
open Go.RowKit

theorem own_any (A : Option Addr) (cap : Nat) (l : List Nd) (w : World) (hN : NodesAt w w.heap.size A l) (hln : l.length ≤ 5000) (htot : totB l ≤ 2097152) :
    Calls Try.prog 18 #[.slice A l.length cap] w fun e w' => ∃ (g : Nat) (vb : Value) (bs : Nat → Nat), e = .returned (.slice (some ⟨g, 0, none⟩) (l.length + 3) (l.length + 3)) ∧ LentAt w' w.heap.size g vb bs l ∧ Below w.heap.size w w' := by
  go_enter Try.func18, Try.ntmps18
  go_wp2_with fail
  refine (lend_any A cap l w hN hln htot).mono ?_
  rintro e w1 ⟨g, vb, bs, rfl, hL, hb⟩
  obtain ⟨Av, cv, rfl, _⟩ := Sees.of_own (B := w1.heap.size) hL.own fun g' hg' => (hL.own.lt g' hg').2
  have hf := fun (u : World) => (by kernel_rfl : (Instr.field 27 (.agg #[.slice (some ⟨g, 0, none⟩) (l.length + 3) (l.length + 3), .slice Av l.length cv]) 0).run Try.prog u = .ok (.slice (some ⟨g, 0, none⟩) (l.length + 3) (l.length + 3)) u)
  go_wp2
  go_ret
  exact ⟨g, _, bs, rfl, hL, hb⟩

theorem dump_nil (w : World) :
    Calls Try.prog 19 #[.nilIface] w fun e w' => e = .returned (.tuple #[.slice none 0 0, .int .i64 1]) ∧ w = w' := by
  have hn := @run_eql_nil_nil Try.prog
  go_enter Try.func19, Try.ntmps19
  go_wp2
  go_ret2
  exact ⟨rfl, rfl⟩
theorem fill_nil (v : Value) (w : World) :
    Calls Try.prog 20 #[.nilIface, v] w fun e w' => e = .returned (.tuple #[.int .i64 0, .int .i64 1]) ∧ w = w' := by
  go_enter Try.func20, Try.ntmps20
  go_wp2
  go_ret2
  exact ⟨rfl, rfl⟩
theorem read_nil (w : World) :
    Calls Try.prog 14 #[.slice none 0 0] w fun e w' => e = .returned (.tuple #[.slice none 0 0, .int .i64 0]) ∧ Below w.heap.size w w' := by
  go_enter Try.func14, Try.ntmps14
  go_wp2
  refine wp_loop_rounds 1 ?_
  rw [rounds_succ]
  go_wp2
  go_ret2
  exact ⟨rfl, (Below.refl _ _).alloc (Nat.le_refl _) _⟩

set_option maxHeartbeats 1600000 in
set_option maxRecDepth 100000 in
theorem nothing_walk (A : Option Addr) (cap : Nat) (l : List Nd) (w : World) (hN : NodesAt w w.heap.size A l) (hln : l.length ≤ 281474976710656) (_hcap : l.length ≤ cap)
    (hbig : ∀ x ∈ l, x.path.size ≤ 140737488351232 ∧ x.same.size ≤ 140737488351232 ∧ x.data.length ≤ 140737488351232) :
    Calls Try.prog 6 #[.slice A l.length cap] w fun e w' => e = .returned (.bool true) ∧ Below w.heap.size w w' := by
  go_enter Try.func6, Try.ntmps6
  go_wp2_with fail
  refine (awake_any w).mono ?_
  rintro e w1 ⟨rfl, hb1⟩
  go_wp2_with fail
  refine (few_any A cap l w1 ((hN.below hb1).more hb1.size) hln hbig).mono ?_
  rintro e w2 ⟨rfl, nq, rfl⟩
  by_cases hf : fewB l = true
  · obtain ⟨ht, hl5⟩ : totB l ≤ 2097152 ∧ l.length ≤ 5000 := by simpa [fewB] using hf
    rw [hf]
    clear hf hbig
    go_wp2_with fail
    refine (dump_nil _).mono ?_
    rintro e w3 ⟨rfl, rfl⟩
    go_wp2_with fail
    refine (own_any A cap l (w1.drewN nq) (((hN.below hb1).more hb1.size).drewN nq) hl5 ht).mono ?_
    rintro e w4 ⟨g, vb, bs, rfl, _, hb4⟩
    go_wp2_with fail
    refine (fill_nil _ _).mono ?_
    rintro e w5 ⟨rfl, rfl⟩
    go_wp2_with fail
    refine (bytes_any none 0 [] w4 ⟨fun h => absurd h (by simp), fun x hx => absurd hx (by simp)⟩ (by simp [encAll]) (by simp)).mono ?_
    rintro e w6 ⟨⟨_, v6, rfl, ho6⟩ | ⟨hn, _⟩, hb6⟩
    case inr => exact absurd (fun x hx => absurd hx (by simp)) hn
    obtain ⟨A6, c6, rfl, _⟩ := Sees.of_own (B := w6.heap.size) ho6 fun g' hg' => (ho6.lt g' hg').2
    go_wp2_with fail
    refine (read_nil _).mono ?_
    rintro e w7 ⟨rfl, hb7⟩
    have hB : Below w.heap.size w w7 := (((below_drewN' hb1 nq).trans ((hb4.mono hb1.size : Below w.heap.size (w1.drewN nq) w4))).trans (hb6.mono (Nat.le_trans hb1.size hb4.size))).trans (hb7.mono (Nat.le_trans (Nat.le_trans hb1.size hb4.size) hb6.size))
    clear hb1 hb4 hb6 hb7 ho6 hN
    go_wp2
    go_ret
    exact ⟨by simp, hB⟩
  · have hff : fewB l = false := by simpa using hf
    rw [hff]
    clear hf
    go_wp2
    go_ret
    exact ⟨rfl, below_drewN' hb1 nq⟩
#print axioms nothing_walk
end Go.Proofs.Ytolpcfhfcdkokaa
