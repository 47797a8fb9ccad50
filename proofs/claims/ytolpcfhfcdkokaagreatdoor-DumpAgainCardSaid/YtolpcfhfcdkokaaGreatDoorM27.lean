/- Joined out of the texts PCheck, PSplit. -/
import Derived.Laws.RangeAny
import Derived.Test.YtolpcfhfcdkokaaGreatDoorM17
import Derived.Test.YtolpcfhfcdkokaaGreatDoorM21
import Derived.Test.YtolpcfhfcdkokaaGreatDoorM23
/-
  Package path: may a name be?
-/
namespace Go.Proofs.YtolpcfhfcdkokaaGreatDoor
open Go.RowKit Go.Proofs

theorem get_byte (s : ByteArray) (k : Nat) (h : k < s.size) : s.get! k = s[k]'h := by
  have := get_at s k h
  simpa using this
/-- Whatever a decoded letter passes over, but for a lone byte below 128, is no byte below 128. -/
theorem decode_skip (s : ByteArray) (pos : Nat) (h : pos < s.size) (ha : 128 ≤ (s[pos]'h).toNat) : ∀ k (hk : k < s.size), pos ≤ k → k < pos + (Utf8.decode s pos).2 → 128 ≤ (s[k]'hk).toNat := by
  have hn : ¬ (s[pos]'h).toNat < 128 := by omega
  have c : ∀ j, (decide (pos + j < s.size) && (s.get! (pos + j)).toNat / 64 == 2) = true → ∀ k (hk : k < s.size), k = pos + j → 128 ≤ (s[k]'hk).toNat := fun j hj k hk e => by
    subst e
    simp only [Bool.and_eq_true, decide_eq_true_eq, beq_iff_eq] at hj
    rw [get_byte s _ hk] at hj
    omega
  have z : ∀ k (hk : k < s.size), k = pos → 128 ≤ (s[k]'hk).toNat := fun k hk e => by subst e; exact ha
  intro k hk h1 h2
  simp only [Utf8.decode, get_at s pos h, hn, if_false] at h2
  split at h2
  · rename_i hc
    simp only [Bool.and_eq_true] at hc
    have c1 := c 1 (by simpa using hc.2)
    split at h2
    · have : k = pos ∨ k = pos + 1 := by simp at h2; omega
      rcases this with e | e
      · exact z k hk e
      · exact c1 k hk e
    · exact z k hk (by simp at h2; omega)
  split at h2
  · rename_i hc
    simp only [Bool.and_eq_true] at hc
    have c1 := c 1 (by simpa using hc.1.2)
    have c2 := c 2 (by simpa using hc.2)
    split at h2
    · have : k = pos ∨ k = pos + 1 ∨ k = pos + 2 := by simp at h2; omega
      rcases this with e | e | e
      · exact z k hk e
      · exact c1 k hk e
      · exact c2 k hk e
    · exact z k hk (by simp at h2; omega)
  split at h2
  · rename_i hc
    simp only [Bool.and_eq_true] at hc
    have c1 := c 1 (by simpa using hc.1.1.2)
    have c2 := c 2 (by simpa using hc.1.2)
    have c3 := c 3 (by simpa using hc.2)
    split at h2
    · have : k = pos ∨ k = pos + 1 ∨ k = pos + 2 ∨ k = pos + 3 := by simp at h2; omega
      rcases this with e | e | e | e
      · exact z k hk e
      · exact c1 k hk e
      · exact c2 k hk e
      · exact c3 k hk e
    · exact z k hk (by simp at h2; omega)
  · exact z k hk (by simp at h2; omega)
def okTo (s : ByteArray) (pos : Nat) : Prop := ∀ k (h : k < s.size), k < pos → s[k]'h ≠ 0 ∧ s[k]'h ≠ 47
theorem okTo_next {s : ByteArray} {pos : Nat} (h : pos < s.size) (ho : okTo s pos) (h0 : (Utf8.decode s pos).1 ≠ 0) (h1 : (Utf8.decode s pos).1 ≠ 47) : okTo s (pos + (Utf8.decode s pos).2) := fun k hk h2 => by
  by_cases hp : k < pos
  · exact ho k hk hp
  by_cases ha : (s[pos]'h).toNat < 128
  · rw [decode_ascii s pos h ha] at h0 h1 h2
    have e : k = pos := by simp at h2; omega
    subst e
    refine ⟨fun e => h0 ?_, fun e => h1 ?_⟩
    · rw [e]; rfl
    · rw [e]; rfl
  · have := decode_skip s pos h (by omega) k hk (by omega) h2
    refine ⟨fun e => ?_, fun e => ?_⟩ <;> rw [e] at this <;> simp at this
theorem bad_at {s : ByteArray} {pos : Nat} (h : pos < s.size) (h1 : (Utf8.decode s pos).1 = 0 ∨ (Utf8.decode s pos).1 = 47) : chk s = false := by
  by_cases ha : (s[pos]'h).toNat < 128
  · rw [decode_ascii s pos h ha] at h1
    unfold chk
    refine decide_eq_false fun hc => ?_
    have hm : s[pos]'h ∈ s.data.toList := by
      rw [Array.mem_toList_iff]
      exact Array.getElem_mem _
    have h2 := hc.2.2.2.2 _ hm
    rcases h1 with h1 | h1
    · exact h2.1 (UInt8.toNat_inj.1 h1)
    · exact h2.2 (UInt8.toNat_inj.1 h1)
  · have := (decode_high s pos h (by omega)).1
    omega
theorem chk_all {s : ByteArray} (h : okTo s s.size) (h0 : s ≠ ⟨#[]⟩) (h1 : s.size ≤ 40) (h2 : s ≠ ⟨#[46]⟩) (h3 : s ≠ ⟨#[46, 46]⟩) : chk s = true := by
  have inj : ∀ a : Array UInt8, s.data.toList = a.toList → s = ⟨a⟩ := fun a e => by
    cases s with | mk d => exact congrArg ByteArray.mk (Array.toList_inj.1 e)
  unfold chk
  refine decide_eq_true ⟨?_, h1, fun e => h2 (inj _ e), fun e => h3 (inj _ e), fun b hb => ?_⟩
  · rcases Nat.eq_zero_or_pos s.size with e | e
    · exfalso
      refine h0 (inj _ ?_)
      exact List.eq_nil_of_length_eq_zero (by rw [Array.length_toList]; exact e)
    · exact e
  · rw [Array.mem_toList_iff] at hb
    obtain ⟨k, hk, e⟩ := Array.getElem_of_mem hb
    have := h k hk hk
    have e' : s[k]'hk = b := e
    rw [e'] at this
    exact this
theorem chk_bad0 : chk ⟨#[]⟩ = false := by decide
theorem chk_bad1 : chk ⟨#[46]⟩ = false := by decide
theorem chk_bad2 : chk ⟨#[46, 46]⟩ = false := by decide
theorem chk_long {s : ByteArray} (h : 40 < s.size) : chk s = false := by
  unfold chk
  exact decide_eq_false fun hc => by have := hc.2.1; omega
theorem below_iter (w : World) (s : ByteArray) (pos : Nat) : Below w.heap.size w (w.iter s pos) := (Below.refl _ _).alloc (Nat.le_refl _) _
theorem toList_data (s : ByteArray) : s.toList = s.data.toList := ByteArray.toList_eq s
theorem toList_emp {s : ByteArray} (h : s.toList = []) : s = ⟨#[]⟩ := by
  rw [toList_data] at h
  cases s with | mk d => exact congrArg ByteArray.mk (Array.toList_inj.1 h)
def chkV (x : ByteArray) : Value := .int .i64 (if chk x = true then 0 else 71)
set_option maxHeartbeats 1600000 in
set_option maxRecDepth 100000 in
theorem pcheck_any (x : ByteArray) (w : World) (hx : x.size ≤ 1000000000) :
    Calls Tryz.prog 66 #[.string x] w fun e w' => e = .returned (chkV x) ∧ Below w.heap.size w w' := by
  obtain ⟨cv, hcv⟩ : ∃ cv : Int, (if chk x = true then (0 : Int) else 71) = cv := ⟨_, rfl⟩
  have e1 : chkV x = .int .i64 cv := by unfold chkV; rw [hcv]
  rw [e1]
  have hcvH := Lib.hid hcv
  clear e1 hcv
  have bad : chk x = false → cv = 71 := fun h => by rw [← hcvH.out, h]; rfl
  have badH := Lib.hid bad
  clear bad
  have inj : ∀ a : Array UInt8, x.toList = a.toList → x = ⟨a⟩ := fun a e => by
    rw [toList_data] at e
    cases x with | mk d => exact congrArg ByteArray.mk (Array.toList_inj.1 e)
  have injH := Lib.hid inj
  clear inj
  go_enter Tryz.func66, Tryz.ntmps66
  by_cases h0 : x.toList = []
  · have hb := badH.out (by rw [injH.out _ h0]; exact chk_bad0)
    subst hb
    clear badH hcvH injH
    have t0 : x.toList.isEmpty = true := by rw [h0]; rfl
    go_wp2
    go_ret
    exact ⟨rfl, Below.refl _ _⟩
  have t0 : x.toList.isEmpty = false := by
    cases hx : x.toList.isEmpty with
    | false => rfl
    | true => exact absurd (by simpa using hx) h0
  by_cases h1 : 40 < x.size
  · have hb := badH.out (chk_long h1)
    subst hb
    clear badH hcvH injH
    have t1 : decide (40 < (x.size : Int)) = true := by simp; omega
    go_wp2
    go_ret
    exact ⟨rfl, Below.refl _ _⟩
  have t1 : decide (40 < (x.size : Int)) = false := by simp; omega
  by_cases h2 : x.toList = [46]
  · have hb := badH.out (by rw [injH.out _ h2]; exact chk_bad1)
    subst hb
    clear badH hcvH injH
    have t2 : (x.toList == [46]) = true := by rw [h2]; rfl
    go_wp2
    go_ret
    exact ⟨rfl, Below.refl _ _⟩
  have t2 : (x.toList == [46]) = false := by simpa using h2
  by_cases h3 : x.toList = [46, 46]
  · have hb := badH.out (by rw [injH.out _ h3]; exact chk_bad2)
    subst hb
    clear badH hcvH injH
    have t3 : (x.toList == [46, 46]) = true := by rw [h3]; rfl
    go_wp2
    go_ret
    exact ⟨rfl, Below.refl _ _⟩
  have t3 : (x.toList == [46, 46]) = false := by simpa using h3
  have g0 := Lib.hid h0
  have g1 := Lib.hid h1
  have g2 := Lib.hid h2
  have g3 := Lib.hid h3
  go_wp2
  clear h0 h1 h2 h3 t0 t1 t2 t3
  go_loopw [4] (fun r w' => ∃ (pos : Nat), w' = w.iter x pos ∧ Hid (okTo x pos)) (fun _ w' => x.size - w'.iterPos w.heap.size)
  case atStart => exact ⟨0, rfl, Lib.hid fun k hk h => absurd h (by omega)⟩
  case round =>
    obtain ⟨pos, rfl, ho⟩ := hrel
    by_cases hp : pos < x.size
    · have hnx : ∀ ty, (Instr.next (.pointer (some ⟨w.heap.size, 0, none⟩)) true ty).run Tryz.prog (w.iter x pos) = _ := fun ty => run_next_any w x pos ty hp
      have hwd : 1 ≤ (Utf8.decode x pos).2 := by
        by_cases ha : (x[pos]'hp).toNat < 128
        · rw [decode_ascii x pos hp ha]; exact Nat.le_refl _
        · exact (decode_high x pos hp (by omega)).2
      have hb := Lib.hid (fun h => badH.out (bad_at hp h))
      have hn := Lib.hid (okTo_next hp ho.out)
      clear ho badH hcvH
      generalize (Utf8.decode x pos).1 = c at *
      generalize (Utf8.decode x pos).2 = wd at *
      by_cases hc0 : c = 0
      · have hb2 := hb.out (.inl hc0)
        clear hb hn
        subst hb2
        subst hc0
        go_wp2
        go_ret
        exact ⟨rfl, below_iter _ _ _⟩
      by_cases hc1 : c = 47
      · have hb2 := hb.out (.inr hc1)
        clear hb hn
        subst hb2
        subst hc1
        go_wp2
        go_ret
        exact ⟨rfl, below_iter _ _ _⟩
      have hnn := Lib.hid (hn.out hc0 hc1)
      have t1 : ((c : Int) == 0) = false := by simp; omega
      have t2 : ((c : Int) == 47) = false := by simp; omega
      clear hn hb
      go_wp2
      go_roundw
      case rel => exact ⟨pos + wd, rfl, hnn⟩
      case measure =>
        simp
        have := hp
        omega
    · have hnx : ∀ ty, (Instr.next (.pointer (some ⟨w.heap.size, 0, none⟩)) true ty).run Tryz.prog (w.iter x pos) = _ := fun ty => run_next_end w x pos ty hp
      have hck := chk_all (fun k hk h => ho.out k hk (by omega)) (fun e => g0.out (by rw [e, toList_data])) (by have := g1.out; omega) (fun e => g2.out (by rw [e, toList_data])) (fun e => g3.out (by rw [e, toList_data]))
      have hz : cv = 0 := by rw [← hcvH.out, if_pos hck]
      subst hz
      clear hck badH hcvH injH
      go_wp2
      go_ret
      exact ⟨rfl, below_iter _ _ _⟩
#print axioms pcheck_any
end Go.Proofs.YtolpcfhfcdkokaaGreatDoor
/-
  Package path: a path's names.
-/
namespace Go.Proofs.YtolpcfhfcdkokaaGreatDoor
open Go.RowKit Go.Proofs

theorem split_small (sep : ByteArray) : ∀ (k : Nat) (s : ByteArray), ∀ x ∈ Lib.splitB sep 0 k s, x.size ≤ s.size
  | 0, s, x, h => by
    rw [Lib.splitB_zero, List.mem_singleton] at h
    rw [h]; exact Nat.le_refl _
  | k + 1, s, x, h => by
    unfold Lib.splitB at h
    split at h
    · rw [List.mem_singleton] at h
      rw [h]; exact Nat.le_refl _
    · rcases List.mem_cons.1 h with rfl | h
      · rw [ByteArray.size_extract]; omega
      · have := split_small sep k _ x h
        rw [ByteArray.size_extract] at this
        omega
/-- What Split leaves. -/
def SplP (x : ByteArray) (w : World) (e : Ending) (w' : World) : Prop :=
  (∃ A c, e = .returned (.tuple #[.slice A (spl x).1.length c, natV (spl x).2]) ∧ (spl x).1.length ≤ c ∧ c ≤ x.size + 1 ∧ Sees w' w'.heap.size 1 A (spl x).1.length (strs (spl x).1)) ∧ Below w.heap.size w w'
theorem splP_none {x : ByteArray} {w w' : World} {c : Nat} (h : spl x = ([], c)) (hb : Below w.heap.size w w') : SplP x w (.returned (.tuple #[.slice none 0 0, natV c])) w' := by
  unfold SplP
  rw [h]
  exact ⟨⟨none, 0, rfl, Nat.le_refl _, Nat.zero_le _, Sees.nil⟩, hb⟩
set_option maxHeartbeats 1600000 in
set_option maxRecDepth 100000 in
theorem psplit_any (x : ByteArray) (m0 : Int) (w : World) (hx : x.size ≤ 100000000) (hm : w.cell? ⟨0, 0, none⟩ = some (.int .i64 m0)) :
    Calls Tryz.prog 42 #[.string x] w (SplP x w) := by
  have inj : ∀ a : Array UInt8, x.toList = a.toList → x = ⟨a⟩ := fun a e => by
    rw [toList_data] at e
    cases x with | mk d => exact congrArg ByteArray.mk (Array.toList_inj.1 e)
  have injH := Lib.hid inj
  clear inj
  obtain ⟨Q, hQ⟩ : ∃ Q, SplP x w = Q := ⟨_, rfl⟩
  rw [hQ]
  have hQH := Lib.hid hQ
  clear hQ
  go_enter Tryz.func42, Tryz.ntmps42
  by_cases h1 : 400 < x.size
  · have t1 : decide (400 < (x.size : Int)) = true := by simp; omega
    go_wp2
    rw [← hQH.out]
    exact splP_none (c := 70) (by unfold spl; rw [if_pos (.inl h1)]) (Below.refl _ _)
  have t1 : decide (400 < (x.size : Int)) = false := by simp; omega
  cases hp : Lib.hasPrefix x.data.toList [47] with
  | false =>
    go_wp2_with (go_at_call 62; refine (Tryz.strings_HasPrefix x ⟨#[47]⟩ w).mono ?_; rintro e w1 ⟨rfl, hw⟩; have hw := hw.symm; subst hw; rw [hp])
    rw [← hQH.out]
    exact splP_none (c := 70) (by unfold spl; rw [if_pos (.inr hp)]) (Below.refl _ _)
  | true =>
    by_cases h2 : x.toList = [47]
    · have t2 : (x.toList == [47]) = true := by rw [h2]; rfl
      go_wp2_with (go_at_call 62; refine (Tryz.strings_HasPrefix x ⟨#[47]⟩ w).mono ?_; rintro e w1 ⟨rfl, hw⟩; have hw := hw.symm; subst hw; rw [hp])
      rw [← hQH.out]
      refine splP_none (c := 0) ?_ (Below.refl _ _)
      unfold spl
      rw [if_neg (by rw [hp]; simp; omega), if_pos (show x = slash from injH.out _ h2)]
    have t2 : (x.toList == [47]) = false := by simpa using h2
    have h2s : x ≠ slash := fun e => h2 (by rw [e, toList_data]; rfl)
    have h1x : 1 ≤ x.size := by
      rcases Nat.eq_zero_or_pos x.size with e | e
      · exfalso
        have e2 : x.data.toList = [] := List.eq_nil_of_length_eq_zero (by rw [Array.length_toList]; exact e)
        rw [e2] at hp
        cases hp
      · exact e
    have hsB : ∀ W : World, (Instr.sliceAt 9 (.string x) (some (.int .i64 1)) none none).run Tryz.prog W = .ok (.string (spB x)) W := fun W => by
      rw [run_sliceAt_string _ _ _ _ _ _ Tryz.underlying9, run_slice_string_l _ 9 x Tryz.underlying9 .i64 1 (by omega) (by omega)]
      rfl
    cases hs : Lib.hasSuffix x.data.toList [47] with
    | true =>
      go_wp2_with (first
        | (go_at_call 62; refine (Tryz.strings_HasPrefix x ⟨#[47]⟩ w).mono ?_; rintro e w1 ⟨rfl, hw⟩; have hw := hw.symm; subst hw; rw [hp])
        | (go_at_call 63; refine (Tryz.strings_HasSuffix x ⟨#[47]⟩ w (by omega)).mono ?_; rintro e w1 ⟨rfl, hw⟩; have hw := hw.symm; subst hw; rw [hs]))
      rw [← hQH.out]
      refine splP_none (c := 70) ?_ (Below.refl _ _)
      unfold spl
      rw [if_neg (by rw [hp]; simp; omega), if_neg h2s, if_pos (.inl hs)]
    | false =>
      cases hc : Lib.contains x.data.toList [47, 47] with
      | true =>
        go_wp2_with (first
          | (go_at_call 62; refine (Tryz.strings_HasPrefix x ⟨#[47]⟩ w).mono ?_; rintro e w1 ⟨rfl, hw⟩; have hw := hw.symm; subst hw; rw [hp])
          | (go_at_call 63; refine (Tryz.strings_HasSuffix x ⟨#[47]⟩ w (by omega)).mono ?_; rintro e w1 ⟨rfl, hw⟩; have hw := hw.symm; subst hw; rw [hs])
          | (go_at_call 64; refine (Tryz.strings_Contains x ⟨#[47, 47]⟩ m0 w (by omega) hm).mono ?_; rintro e w1 ⟨rfl, hw⟩; have hw := hw.symm; subst hw; rw [hc]))
        rw [← hQH.out]
        refine splP_none (c := 70) ?_ (Below.refl _ _)
        unfold spl
        rw [if_neg (by rw [hp]; simp; omega), if_neg h2s, if_pos (.inr hc)]
      | false =>
        have hspl : spl x = if (Lib.splitB slash 0 (Lib.countB (spB x) slash) (spB x)).all chk = true then (Lib.splitB slash 0 (Lib.countB (spB x) slash) (spB x), 0) else ([], 71) := by
          unfold spl
          rw [if_neg (by rw [hp]; simp; omega), if_neg h2s, if_neg (by rw [hs, hc]; simp)]
        have hspx : (spB x).size ≤ x.size := by unfold spB; rw [ByteArray.size_extract]; omega
        have hlenE : (Lib.splitB slash 0 (Lib.countB (spB x) slash) (spB x)).length = Lib.countB (spB x) slash + 1 := Lib.splitB_all slash (by decide) 0 _ _ rfl
        have hcle : Lib.countB (spB x) slash ≤ (spB x).size := Lib.countB_le slash (by decide) _ _ (Nat.le_refl _)
        have hsm := split_small slash (Lib.countB (spB x) slash) (spB x)
        have hcS := Tryz.strings_Split (spB x) slash m0 w (by omega) hm (by decide)
        rw [← hlenE] at hcS
        have hlenM : (Lib.splitB slash 0 (Lib.countB (spB x) slash) (spB x)).length ≤ x.size + 1 := by rw [hlenE]; omega
        clear hlenE hcle
        obtain ⟨L, hL⟩ : ∃ L, Lib.splitB slash 0 (Lib.countB (spB x) slash) (spB x) = L := ⟨_, rfl⟩
        rw [hL] at hspl hsm hcS hlenM
        clear hL
        have hsplH := Lib.hid hspl
        have hsmH := Lib.hid hsm
        obtain ⟨len, hlen⟩ : ∃ len, L.length = len := ⟨_, rfl⟩
        rw [hlen] at hcS hlenM
        have hlenH := Lib.hid hlen
        clear hspl hsm hlen h2s injH
        go_upto_region 8 with (first
          | (go_at_call 62; refine (Tryz.strings_HasPrefix x ⟨#[47]⟩ w).mono ?_; rintro e w1 ⟨rfl, hw⟩; have hw := hw.symm; subst hw; rw [hp])
          | (go_at_call 63; refine (Tryz.strings_HasSuffix x ⟨#[47]⟩ w (by omega)).mono ?_; rintro e w1 ⟨rfl, hw⟩; have hw := hw.symm; subst hw; rw [hs])
          | (go_at_call 64; refine (Tryz.strings_Contains x ⟨#[47, 47]⟩ m0 w (by omega) hm).mono ?_; rintro e w1 ⟨rfl, hw⟩; have hw := hw.symm; subst hw; rw [hc])
          | (go_at_call 65; refine hcS.mono ?_; rintro e w1 ⟨rfl, rfl⟩))
        have hq0 : Blk (w.alloc (.cells (strs L).toArray 9)) w.heap.size 9 (strs L) := Blk.new w _ _
        have hB0 : Below w.heap.size w (w.alloc (.cells (strs L).toArray 9)) := (Below.refl _ _).alloc (Nat.le_refl _) _
        have hz0 : (w.alloc (.cells (strs L).toArray 9)).heap.size = w.heap.size + 1 := by simp
        change Code.wp _ _ _ _ (w.alloc (.cells (strs L).toArray 9))
        generalize w.alloc (.cells (strs L).toArray 9) = w0 at *
        obtain ⟨g, hg⟩ : ∃ g, w.heap.size = g := ⟨_, rfl⟩
        rw [hg] at hq0 hB0 hz0
        simp only [hg]
        have hgH := Lib.hid hg
        have hq0H := Lib.hid hq0
        have hB0H := Lib.hid hB0
        have hspxH := Lib.hid hspx
        clear hg hq0 hB0 hcS hm h1x hsB t1 t2 h2 hp hs hc hspx
        go_wp2
        go_loopw [29] (fun t wr => ∃ ix : Nat, ix ≤ len ∧ t = .int .i64 ix ∧ Hid (Below (g + 1) w0 wr) ∧ Hid (∀ j (h : j < L.length), j < ix → chk L[j] = true)) (fun t _ => len - (intOf t).toNat)
        case atStart => exact ⟨0, by omega, rfl, Lib.hid (Below.refl _ _), Lib.hid fun j _ h => absurd h (by omega)⟩
        case round =>
          obtain ⟨ix, hix, rfl, hbr, hch⟩ := hrel
          have hbw : Hid (Below g w wr) := Lib.hid (hB0H.out.trans (hbr.out.mono (by omega)))
          by_cases hlt : ix < len
          · have t5 : decide ((ix : Int) < (len : Int)) = true := by simpa using hlt
            have hltL : ix < L.length := by rw [hlenH.out]; exact hlt
            obtain ⟨nm, hnm⟩ : ∃ nm, L[ix] = nm := ⟨_, rfl⟩
            have hcell : wr.cell? ⟨g, ix, none⟩ = some (.string nm) := by
              rw [(hq0H.out.below hbr.out (by omega)).cell ix]
              simp [strs, List.getElem?_eq_getElem hltL, hnm]
            have hnmS : nm.size ≤ 1000000000 := by have := hsmH.out nm (by rw [← hnm]; exact List.getElem_mem _); have := hspxH.out; omega
            have hcall := pcheck_any nm wr hnmS
            have hnmH := Lib.hid hnm
            clear hnm
            unfold chkV at hcall
            cases hck : chk nm with
            | false =>
              rw [hck] at hcall
              go_wp2_with (go_at_call 66; refine hcall.mono ?_; rintro e w2 ⟨rfl, hb2⟩)
              rw [← hQH.out]
              refine splP_none (c := 71) ?_ ?_
              · rw [hsplH.out, if_neg]
                rw [List.all_eq_true]
                intro h
                have := h nm (by rw [← hnmH.out]; exact List.getElem_mem _)
                rw [hck] at this; cases this
              · rw [hgH.out]; exact hbw.out.trans (hb2.mono (by have := hbr.out.size; omega))
            | true =>
              rw [hck] at hcall
              have hckH := Lib.hid hck
              clear hck
              have hw : IntKind.i64.wrap ((ix : Int) + 1) = ((ix + 1 : Nat) : Int) := by rw [IntWalk.i64_in _ (by omega)]; omega
              go_wp2_with (go_at_call 66; refine hcall.mono ?_; rintro e w2 ⟨rfl, hb2⟩)
              go_roundw
              case rel => exact ⟨ix + 1, by omega, by go_num, Lib.hid (hbr.out.trans (hb2.mono (by have := hbr.out.size; omega))), Lib.hid fun j hj h => by
                by_cases e : j = ix
                · subst e
                  rw [hnmH.out]; exact hckH.out
                · exact hch.out j hj (by omega)⟩
              case measure =>
                simp [intOf]
                omega
          · obtain rfl : ix = len := by omega
            have t5 : decide ((ix : Int) < (ix : Int)) = false := by simp
            go_wp2
            rw [← hQH.out]
            have hall : L.all chk = true := by
              rw [List.all_eq_true]
              intro y hy
              obtain ⟨j, hj, rfl⟩ := List.getElem_of_mem hy
              exact hch.out j hj (by rw [← hlenH.out]; exact hj)
            have h9 : spl x = (L, 0) := by rw [hsplH.out, if_pos hall]
            unfold SplP
            rw [h9]
            refine ⟨⟨some ⟨g, 0, none⟩, ix, by rw [← hlenH.out]; rfl, Nat.le_of_eq hlenH.out, hlenM, ?_⟩, by rw [hgH.out]; exact hbw.out⟩
            have hqr := hq0H.out.below hbr.out (by omega)
            refine ⟨by simp [strs], fun _ => ⟨g, 0, rfl, hqr.lt, fun i v hv => ?_⟩⟩
            rw [Nat.zero_add, hqr.cell i]
            exact hv
#print axioms psplit_any
end Go.Proofs.YtolpcfhfcdkokaaGreatDoor
