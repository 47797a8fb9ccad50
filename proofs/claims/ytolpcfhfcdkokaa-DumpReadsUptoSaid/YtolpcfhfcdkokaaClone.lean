/-
  slices.Clone of bytes: a new row.
-/
import Derived.Test.YtolpcfhfcdkokaaNumber
namespace Go.Proofs.Ytolpcfhfcdkokaa
open Go.RowKit

set_option maxHeartbeats 1600000 in
set_option maxRecDepth 100000 in
theorem clone_any (B : Nat) (A : Option Addr) (c : Nat) (xs : List UInt8) (w : World) (hs : Sees w B 1 A xs.length (bvs xs)) (hB : B ≤ w.heap.size) (hl : xs.length ≤ 1000000000) :
    Calls Try.prog 25 #[.slice A xs.length c] w fun e w' => ∃ v', e = .returned v' ∧ w'.ownsRow w.heap.size 5 1 v' xs.length (bvs xs) ∧ Below w.heap.size w w' := by
  go_enter Try.func25, Try.ntmps25
  have hq : ∀ n c', (binOp .eql 29 (.slice A n c') (.slice none 0 0)).run Try.prog w = .ok (.bool A.isNone) w := fun n c' => by
    have h : ∀ d : Nat, (Op.equalIn (d + 1) 29 (.slice A n c') (.slice none 0 0)).run Try.prog w = .ok A.isNone w := fun d => by
      cases A <;> simp [Op.equalIn, run_underlying (P := Try.prog) Try.underlying29]
    simp only [binOp]
    simp [Op.equal, Op.maxDepth, h 9999]
  have hq1 := hq xs.length c
  clear hq
  rcases A with _ | ad
  · have hx : xs = [] := by
      cases xs with
      | nil => rfl
      | cons x xs => obtain ⟨b, off, e, _⟩ := hs.at_ (by simp); cases e
    subst hx
    simp only [List.length_nil, Option.isNone_none] at hq1
    simp only [List.length_nil]
    go_wp2
    go_ret
    exact ⟨_, rfl, ⟨rfl, .inl ⟨rfl, rfl⟩⟩, Below.refl _ _⟩
  · simp only [Option.isNone_some] at hq1
    obtain ⟨i0, hi, hz0, hz1, hz2⟩ := info_parts infoU8
    have hbl : Below w.heap.size w (w.alloc (.cells #[] 5)) := (Below.refl _ _).alloc (Nat.le_refl _) _
    have ho0 : (w.alloc (.cells #[] 5)).ownsRow w.heap.size 5 1 (.slice (some ⟨w.heap.size, 0, none⟩) 0 0) 0 [] := ⟨rfl, .inr ⟨w.heap.size, 0, #[], rfl, Nat.le_refl _, heap_alloc_new w _, Nat.le_refl _, by unfold maxLen; omega, rfl, rfl⟩⟩
    go_wp2_with (first
      | (at_builtin; refine wpList_app _ rfl _ _ _ _ rfl w.heap.size 5 i0 (.int .u8 0) 1 1 Try.underlying29 hi hz0 hz1 hz2 rfl _ 0 [] rfl ho0 xs.length (bvs xs) (src_sees _ Try.underlying29 c ((hs.more hB).below hbl) (bvs_one xs)) (by unfold maxLen; omega) (by omega) (by simp) ?_; intro v' w' ho' hg' hat')
      | go_in)
    go_wp2
    go_ret
    exact ⟨_, rfl, by simpa using ho', hbl.grown hg' (by simp) (fun g e => by simp [Act.eval, Value.ownBlock] at e; omega)⟩
#print axioms clone_any
end Go.Proofs.Ytolpcfhfcdkokaa
