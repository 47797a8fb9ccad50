/- Joined out of the texts DEmpty. -/
import Derived.Test.YtolpcfhfcdkokaaGreatDoorM36
/-
  Package dump: are bytes all zeros?
-/
namespace Go.Proofs.YtolpcfhfcdkokaaGreatDoor
open Go.RowKit Go.Proofs

theorem isnz_any (b : UInt8) (w : World) : Calls Tryz.prog 124 #[.int .u8 (b.toNat : Int)] w fun e w' => e = .returned (.bool (b != 0)) ∧ w = w' := by
  have hb : (b != 0) = ((b.toNat : Int) != 0) := by
    rw [Bool.eq_iff_iff]
    simp only [bne_iff_ne, ne_eq]
    constructor
    · intro h e; exact h (UInt8.toNat_inj.1 (by simpa using e))
    · intro h e; exact h (by rw [e]; rfl)
  rw [hb]
  go_enter Tryz.func124, Tryz.ntmps124
  go_wp2
  go_ret
  exact ⟨rfl, rfl⟩
set_option maxRecDepth 100000 in
theorem indexf_any (A : Option Addr) (c : Nat) (bs : List UInt8) (w : World) (hs : Sees w w.heap.size 1 A bs.length (bvs bs)) (hl : bs.length ≤ 1000000) :
    Calls Tryz.prog 138 #[.slice A bs.length c, .func (Fn.func 124) #[] #[]] w fun e w' => (∃ r : Int, e = .returned (.int .i64 r) ∧ (0 ≤ r ↔ bs.all (· == 0) = false)) ∧ w = w' := by
  obtain ⟨len, hlen⟩ : ∃ len, bs.length = len := ⟨_, rfl⟩
  have hlenH := Lib.hid hlen
  rw [hlen] at hs hl ⊢
  have hsH := Lib.hid hs
  clear hlen hs
  go_enter Tryz.func138, Tryz.ntmps138
  go_wp2
  go_loopw [8] (fun i wr => ∃ k : Nat, k ≤ len ∧ i = .int .i64 (k : Int) ∧ wr = w ∧ Hid (∀ j (h : j < bs.length), j < k → bs[j] = 0)) (fun i _ => len - (intOf i).toNat)
  case atStart => exact ⟨0, by omega, rfl, rfl, Lib.hid fun j _ h => absurd h (by omega)⟩
  case round =>
    obtain ⟨k, hk, rfl, rfl, hz⟩ := hrel
    by_cases hlt : k < len
    · have t1 : decide ((k : Int) < (len : Int)) = true := by simpa using hlt
      have hkl : k < bs.length := by rw [hlenH.out]; exact hlt
      obtain ⟨b, off, rfl, hb, hcl⟩ := hsH.out.at_ (by omega)
      obtain ⟨x, hx⟩ : ∃ x, bs[k] = x := ⟨_, rfl⟩
      have e0 := hcl k (.int .u8 (x.toNat : Int)) (by simp [bvs, List.getElem?_eq_getElem hkl, hx])
      have b0 : (0 : Int) ≤ (k : Int) := by omega
      have hcs := isnz_any x wr
      have hxH := Lib.hid hx
      clear hcl hx
      cases hx0 : (x != 0) with
      | true =>
        rw [hx0] at hcs
        have hx0H := Lib.hid hx0
        clear hx0
        go_wp2_with (go_at_call 124; refine hcs.mono ?_; rintro e w' ⟨rfl, rfl⟩)
        go_ret
        refine ⟨⟨_, rfl, ?_⟩, rfl⟩
        constructor
        · intro _
          rw [Bool.eq_false_iff]
          intro hall
          have := List.all_eq_true.1 hall x (by rw [← hxH.out]; exact List.getElem_mem _)
          have h2 := hx0H.out
          simp only [beq_iff_eq] at this
          rw [this] at h2
          cases h2
        · intro _; omega
      | false =>
        rw [hx0] at hcs
        have hx0H := Lib.hid hx0
        clear hx0
        have hw : IntKind.i64.wrap ((k : Int) + 1) = ((k + 1 : Nat) : Int) := by rw [IntWalk.i64_in _ (by omega)]; omega
        go_wp2_with (go_at_call 124; refine hcs.mono ?_; rintro e w' ⟨rfl, rfl⟩)
        go_roundw
        case rel => exact ⟨k + 1, by omega, by go_num, trivial, Lib.hid fun j hj h => by
          by_cases e : j = k
          · subst e
            rw [hxH.out]
            have h2 := hx0H.out
            simpa using h2
          · exact hz.out j hj (by omega)⟩
        case measure =>
          simp [intOf]
          omega
    · obtain rfl : k = len := by omega
      have t1 : decide ((k : Int) < (k : Int)) = false := by simp
      go_wp2
      go_ret
      refine ⟨⟨_, rfl, ?_⟩, rfl⟩
      constructor
      · intro h; exact absurd h (by decide)
      · intro h
        exfalso
        rw [Bool.eq_false_iff] at h
        refine h (List.all_eq_true.2 fun y hy => ?_)
        obtain ⟨j, hj, rfl⟩ := List.getElem_of_mem hy
        rw [hz.out j hj (by rw [← hlenH.out]; exact hj)]
        rfl
theorem empty_any (A : Option Addr) (c : Nat) (bs : List UInt8) (w : World) (hs : Sees w w.heap.size 1 A bs.length (bvs bs)) (hl : bs.length ≤ 1000000) :
    Calls Tryz.prog 90 #[.slice A bs.length c] w fun e w' => e = .returned (.bool (bs.all (· == 0))) ∧ w = w' := by
  have hcs := indexf_any A c bs w hs hl
  obtain ⟨r0, hr0⟩ : ∃ r0, bs.all (· == 0) = r0 := ⟨_, rfl⟩
  rw [hr0] at hcs ⊢
  obtain ⟨len, hlen⟩ : ∃ len, bs.length = len := ⟨_, rfl⟩
  rw [hlen] at hcs ⊢
  clear hr0 hs hl hlen
  have hcf : Calls Tryz.prog 123 #[.slice A len c, .func (Fn.func 124) #[] #[]] w fun e w' => e = .returned (.bool (!r0)) ∧ w = w' := by
    go_enter Tryz.func123, Tryz.ntmps123
    cases r0 with
    | false =>
      go_wp2_with (go_at_call 138; refine hcs.mono ?_; rintro e w' ⟨⟨r, rfl, hr⟩, rfl⟩; have h1 : decide (0 ≤ r) = true := decide_eq_true (hr.2 rfl); clear hr)
      go_ret
      exact ⟨rfl, rfl⟩
    | true =>
      go_wp2_with (go_at_call 138; refine hcs.mono ?_; rintro e w' ⟨⟨r, rfl, hr⟩, rfl⟩; have h1 : decide (0 ≤ r) = false := decide_eq_false (fun h => by cases hr.1 h); clear hr)
      go_ret
      exact ⟨rfl, rfl⟩
  go_enter Tryz.func90, Tryz.ntmps90
  go_wp2_with (go_at_call 123; refine hcf.mono ?_; rintro e w' ⟨rfl, rfl⟩)
  go_ret
  exact ⟨by simp, rfl⟩
#print axioms empty_any
end Go.Proofs.YtolpcfhfcdkokaaGreatDoor
