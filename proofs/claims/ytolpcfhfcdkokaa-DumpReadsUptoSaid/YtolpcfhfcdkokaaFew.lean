/-
  Small helpers of the laws: few (are nodes few and light?), awake (the chapter's node), and a byte slice as a string.
-/
import Derived.Test.YtolpcfhfcdkokaaBytes
namespace Go.Proofs.Ytolpcfhfcdkokaa
open Go.RowKit

section
variable {P : Program} {w : World}
theorem run_str {src e : TypeId} (hs : P.underlying src = some (.slice e)) (he : P.underlying e = some (.int .u8)) {B : Nat} {A : Option Addr} (c : Nat) {n : Nat} {l : List UInt8} (h : Sees w B 1 A n (bvs l)) :
    ∀ dst, P.underlying dst = some .string → (convert src dst (.slice A n c)).run P w = .ok (.string ⟨l.toArray⟩) w := by
  intro dst hd
  have hl : n = l.length := by have := h.len; rw [bvs_length] at this; omega
  subst hl
  rcases A with _ | ad
  · have h0 : l = [] := by
      rcases Nat.eq_zero_or_pos l.length with h0 | h0
      · exact List.eq_nil_of_length_eq_zero h0
      · obtain ⟨b, off, e, _⟩ := h.at_ h0; cases e
    subst h0
    exact run_convert_bytes_nil w src e hs he _ c dst hd
  · have hload : (loadCells ad l.length).run P w = .ok (((l.map fun b => (b.toNat : Int)).map (Value.int .u8)).toArray) w := by
      have := run_loadCells_list (P := P) w ad (bvs l) (fun j v hj => by
        rcases Nat.eq_zero_or_pos l.length with h0 | h0
        · have : l = [] := List.eq_nil_of_length_eq_zero h0
          subst this; simp [bvs] at hj
        · obtain ⟨b, off, e, hb, hc⟩ := h.at_ h0
          injection e with e
          subst e
          rw [Addr.add_lit]
          exact hc j v hj)
      rw [bvs_length] at this
      rw [this, bvs, List.map_map]
      rfl
    rw [run_convert_bytes_string w src dst e _ _ c hs he hd, run_bytesToString w _ _ c _ hload, foldl_push_bytes]
    have hid : (fun n : Int => UInt8.ofNat n.toNat) ∘ (fun b : UInt8 => (b.toNat : Int)) = id := by
      funext b
      simp
    rw [List.map_map, hid, List.map_id]
    simp [ByteArray.empty, ByteArray.emptyWithCapacity]
    rfl
theorem run_str_own {src e0 : TypeId} (hs : P.underlying src = some (.slice e0)) (he : P.underlying e0 = some (.int .u8)) {base : Nat} {e : TypeId} {v : Value} {n : Nat} {l : List UInt8} (h : w.ownsRow base e 1 v n (bvs l)) :
    ∀ dst, P.underlying dst = some .string → (convert src dst v).run P w = .ok (.string ⟨l.toArray⟩) w := by
  obtain ⟨A, c, rfl, hS⟩ := Sees.of_own (B := w.heap.size) h fun g hg => (h.lt g hg).2
  exact run_str hs he c hS
end

/-- How many bytes nodes have together. -/
def totB (l : List Nd) : Nat := (l.map fun x => x.path.size + x.same.size + x.data.length).sum
theorem totB_take (l : List Nd) (i : Nat) (h : i < l.length) : totB (l.take (i + 1)) = totB (l.take i) + (l[i].path.size + l[i].same.size + l[i].data.length) := by
  have e : l.take (i + 1) = l.take i ++ [l[i]] := List.take_succ_eq_append_getElem h
  rw [e]
  unfold totB
  rw [List.map_append, List.sum_append]
  simp only [List.map_cons, List.map_nil, List.sum_cons, List.sum_nil, Nat.add_zero]
theorem totB_le (l : List Nd) (i : Nat) : totB (l.take i) ≤ totB l := by
  have e : totB l = totB (l.take i) + totB (l.drop i) := by
    unfold totB
    rw [← List.sum_append, ← List.map_append, List.take_append_drop]
  omega
def fewB (l : List Nd) : Bool := decide (totB l ≤ 2097152 ∧ l.length ≤ 5000)
theorem encAll_tot (l : List Nd) : (encAll l).length = 21 * l.length + totB l := by
  induction l with
  | nil => rfl
  | cons x l ih =>
    have h1 := enc1_length x
    simp only [encAll, totB, List.flatMap_cons, List.length_append, List.map_cons, List.sum_cons, List.length_cons] at *
    omega

set_option maxHeartbeats 1600000 in
set_option maxRecDepth 100000 in
theorem few_any (A : Option Addr) (cap : Nat) (l : List Nd) (w : World) (hN : NodesAt w w.heap.size A l) (hln : l.length ≤ 281474976710656)
    (hbig : ∀ x ∈ l, x.path.size ≤ 140737488351232 ∧ x.same.size ≤ 140737488351232 ∧ x.data.length ≤ 140737488351232) :
    Calls Try.prog 8 #[.slice A l.length cap] w fun e w' => e = .returned (.bool (fewB l)) ∧ ∃ n, w' = w.drewN n := by
  obtain ⟨len, hlen⟩ : ∃ len, len = l.length := ⟨_, rfl⟩
  have hlenH := Lib.hid hlen
  rw [← hlen] at hln ⊢
  clear hlen
  go_enter Try.func8, Try.ntmps8
  go_wp2
  go_loopw [3, 4] (fun n i wr => ∃ j m : Nat, j ≤ len ∧ i = .int .i64 j ∧ n = .int .i64 m ∧ Hid (m = totB (l.take j)) ∧ m ≤ 500000000000000 ∧ ∃ k, wr = w.drewN k)
    (fun _ i _ => len - (intOf i).toNat)
  case atStart => exact ⟨0, 0, Nat.zero_le _, rfl, rfl, by simp [Hid, totB], by omega, 0, rfl⟩
  case round =>
    obtain ⟨j, m, hj, rfl, rfl, hm, hmb, k, rfl⟩ := hrel
    by_cases hjk : j < len
    · have hjl : j < l.length := by have := hlenH.out; omega
      by_cases hm2 : m ≤ 2097152
      · obtain ⟨b, off, rfl, hbB, hc⟩ := hN.at_ (by omega)
        have hci := hc j hjl
        have hbg := hbig _ (List.getElem_mem hjl)
        have htk := Lib.hid (totB_take l j hjl)
        clear hN hc hbig
        generalize l[j] = x at *
        obtain ⟨pa, ki, ma, sa, dA, dc, da⟩ := x
        obtain ⟨c0, c1, c2, c3, c4⟩ := hci
        obtain ⟨z1, z2, z3⟩ := hbg
        simp only at c0 c1 c2 c3 c4 z1 z2 z3
        go_wp2
        go_quiet (fail)
        go_wp2
        go_roundw
        case rel => exact ⟨j + 1, m + (pa.size + sa.size + da.length), by omega, by go_num, by go_num, by have h1 := htk.out; have h2 := hm.out; show _ = _; rw [h1, ← h2], by omega, k + nq, by simp [World.drewN]⟩
        case measure => simp [intOf]; omega
      · have hle := totB_le l j
        have hfin : Hid (fewB l = false) := by
          have := hm.out
          show decide _ = false
          simp only [decide_eq_false_iff_not]
          omega
        clear hN hbig hle
        go_wp2
        go_ret
        exact ⟨by rw [hfin.out]; rfl, k, rfl⟩
    · obtain rfl : j = len := by omega
      have hall : Hid (m = totB l) := by have h1 := hm.out; rw [hlenH.out, List.take_length] at h1; exact h1
      have hfin : Hid (fewB l = decide ((m : Int) ≤ 2097152 ∧ (j : Int) ≤ 5000)) := by
        have h1 := hall.out
        have h2 := hlenH.out
        show decide _ = decide _
        rw [decide_eq_decide, ← h1, ← h2]
        omega
      clear hN hbig
      by_cases hm2 : m ≤ 2097152
      all_goals
        go_wp2
        go_ret
        exact ⟨by rw [hfin.out]; exact congrArg (fun b => Ending.returned (Value.bool b)) (by rw [Bool.eq_iff_iff]; simp; omega), k, rfl⟩

/-- The chapter's node c. -/
def chapC : Nd := ⟨⟨#[47, 99]⟩, 1, 7, ByteArray.empty, none, 0, []⟩
theorem enc_chapC : encAll [chapC] = [1, 7, 0, 0, 0, 0, 0, 0, 0, 2, 0, 0, 0, 47, 99, 0, 0, 0, 0, 0, 0, 0, 0] := by decide +kernel
theorem ok_chapC : ∀ x ∈ [chapC], ndOk x := by
  intro x hx
  rw [List.mem_singleton] at hx
  subst hx
  decide +kernel
set_option maxHeartbeats 1600000 in
set_option maxRecDepth 100000 in
theorem awake_any (w : World) :
    Calls Try.prog 7 #[] w fun e w' => e = .returned (.bool true) ∧ Below w.heap.size w w' := by
  have hbx : NodesAt (w.alloc (.cells #[.string ⟨#[47, 99]⟩, .int .i64 1, .int .i64 7, .string ⟨#[]⟩, .slice none 0 0] 47)) (w.heap.size + 1) (some ⟨w.heap.size, 0, none⟩) [chapC] := by
    refine ⟨fun _ => ⟨w.heap.size, 0, rfl, by omega, fun i hi => ?_⟩, fun x hx => ?_⟩
    · have : i = 0 := by simpa using hi
      subst this
      refine ⟨?_, ?_, ?_, ?_, ?_⟩ <;> (rw [World.cell?_alloc_at _ _ _ _ rfl]; rfl)
    · rw [List.mem_singleton] at hx
      subst hx
      exact Sees.nil
  go_enter Try.func7, Try.ntmps7
  go_wp2_with fail
  have hc := bytes_any (some ⟨w.heap.size, 0, none⟩) 1 [chapC] (w.alloc (.cells #[.string ⟨#[47, 99]⟩, .int .i64 1, .int .i64 7, .string ⟨#[]⟩, .slice none 0 0] 47)) (by simpa using hbx) (by rw [enc_chapC]; decide) (by decide)
  refine hc.mono ?_
  rintro e w1 ⟨⟨_, v1, rfl, ho⟩ | ⟨hn, _⟩, hb⟩
  case inr => exact absurd ok_chapC hn
  rw [enc_chapC] at ho
  have hs := run_str_own (P := Try.prog) Try.underlying29 Try.underlying5 ho 9 Try.underlying9
  have hB : Below w.heap.size w w1 := ((Below.refl _ _).alloc (Nat.le_refl _) _).trans (hb.mono (by simp))
  clear ho hb hbx hc
  go_wp2
  go_ret
  exact ⟨by rfl, hB⟩
#print axioms awake_any
end Go.Proofs.Ytolpcfhfcdkokaa
