/- Joined out of the texts Bytes, Few. -/
import Derived.Deep.DeepCutAuto
import Derived.Deep.LoopGhost
import Derived.Test.YtolpcfhfcdkokaaGreatDoorM03
/-
  dump.Bytes: of nodes that may all be laid the bytes, in a new row; of others none, and the error.
-/
namespace Go.Proofs.YtolpcfhfcdkokaaGreatDoor
open Go.RowKit

set_option maxHeartbeats 4000000 in
set_option maxRecDepth 100000 in
theorem bytes_any (A : Option Addr) (cap : Nat) (l : List Nd) (w : World) (hN : NodesAt w w.heap.size A l) (hsz : (encAll l).length ≤ 1000000000) (hln : l.length ≤ 1000000000) :
    Calls Tryz.prog 28 #[.slice A l.length cap] w (Bts l w) := by
  obtain ⟨i0, hi, hz0, hz1, hz2⟩ := info_parts infoU8
  obtain ⟨len, hlen⟩ : ∃ len, len = l.length := ⟨_, rfl⟩
  have hlenH := Lib.hid hlen
  rw [← hlen] at hln ⊢
  clear hlen
  go_enter Tryz.func28, Tryz.ntmps28
  go_wp2
  go_loopw [4, 9] (fun u i wr => ∃ (j : Nat), j ≤ len ∧ Hid (∀ x ∈ l.take j, ndOk x) ∧ i = .int .i64 j ∧ wr.ownsRow w.heap.size 5 1 u (encAll (l.take j)).length (bvs (encAll (l.take j))) ∧ Below w.heap.size w wr)
    (fun _ i _ => len - (intOf i).toNat)
  case atStart => exact ⟨0, Nat.zero_le _, (by simp [Hid]), rfl, by simpa [encAll, bvs] using World.ownsRow_nil _ _ _ _, Below.refl _ _⟩
  case round =>
    obtain ⟨j, hj, hpre, rfl, ho, hb⟩ := hrel
    have hbs := hb.size
    by_cases hjk : j < len
    · have hjl : j < l.length := by have := hlenH.out; omega
      obtain ⟨b, off, rfl, hbB, hc⟩ := hN.at_ (by omega)
      have hci := (hc j hjl).keep (w1 := wr) fun p hp => hb.cell (by omega)
      have hmem := List.getElem_mem hjl
      have htk2 : l.take (j + 1) = l.take j ++ [l[j]] := List.take_succ_eq_append_getElem hjl
      have hpre2 : Hid (ndOk l[j] → ∀ x ∈ l.take (j + 1), ndOk x) := by
        intro hx y hy
        rw [htk2, List.mem_append, List.mem_singleton] at hy
        rcases hy with hy | rfl
        · exact hpre.out y hy
        · exact hx
      have hbad : Hid (¬ ndOk l[j] → ¬ ∀ x ∈ l, ndOk x) := fun hn ha => hn (ha _ hmem)
      clear htk2 hmem hpre
      have hdj := hN.data _ (List.getElem_mem hjl)
      have hle := encAll_le l j hjl
      have htk := Lib.hid (encAll_take l j hjl)
      rw [enc1_length] at hle
      clear hc hN
      generalize l[j] = x at *
      generalize encAll (l.take j) = done at *
      obtain ⟨pa, ki, ma, sa, dA, dc, da⟩ := x
      obtain ⟨c0, c1, c2, c3, c4⟩ := hci
      simp only at c0 c1 c2 c3 c4 hle hdj
      have hown0 : ∀ g, u4.ownBlock = some g → g < wr.heap.size := fun g hg => (ho.lt g hg).2
      go_upto_region 5 with (fail)
      have hbx : NodeAt (wr.alloc (.cells #[.string pa, .int .i64 ki, .int .i64 ma, .string sa, .slice dA da.length dc] 75)) wr.heap.size 0 ⟨pa, ki, ma, sa, dA, dc, da⟩ := by
        refine ⟨?_, ?_, ?_, ?_, ?_⟩ <;> (rw [World.cell?_alloc_at _ _ _ _ rfl]; rfl)
      have hb1 := hb.alloc hbs (.cells #[.string pa, .int .i64 ki, .int .i64 ma, .string sa, .slice dA da.length dc] 75)
      have ho1 := ho.alloc (.cells #[.string pa, .int .i64 ki, .int .i64 ma, .string sa, .slice dA da.length dc] 75)
      have hsz1 : wr.heap.size < (wr.alloc (.cells #[.string pa, .int .i64 ki, .int .i64 ma, .string sa, .slice dA da.length dc] 75)).heap.size := by simp
      generalize wr.alloc (.cells #[.string pa, .int .i64 ki, .int .i64 ma, .string sa, .slice dA da.length dc] 75) = W1 at *
      generalize wr.heap.size = g at *
      clear ho hb c0 c1 c2 c3 c4
      obtain ⟨c0, c1, c2, c3, c4⟩ := hbx
      go_cut [9, 48] from 9 to 82 (fun s9 s48 wx => ∃ bad : Bool, s9 = .int .i64 j ∧ s48 = .bool bad ∧ Hid (bad = !decide (ndOk ⟨pa, ki, ma, sa, dA, dc, da⟩)) ∧ W1 = wx)
      case first =>
        by_cases hk : ki = 1 ∨ ki = 2
        · rcases hk with rfl | rfl
          all_goals
            by_cases h1 : ma < 0
            · (go_wp2; go_meet; exact ⟨!decide (ndOk _), rfl, congrArg Value.bool (by rw [Bool.eq_iff_iff]; simp [ndOk]; omega), rfl, rfl⟩)
            · by_cases h2 : 1099511627776 < ma
              · (go_wp2; go_meet; exact ⟨!decide (ndOk _), rfl, congrArg Value.bool (by rw [Bool.eq_iff_iff]; simp [ndOk]; omega), rfl, rfl⟩)
              · by_cases h3 : 400 < pa.size
                · (go_wp2; go_meet; exact ⟨!decide (ndOk _), rfl, congrArg Value.bool (by rw [Bool.eq_iff_iff]; simp [ndOk]; omega), rfl, rfl⟩)
                · by_cases h4 : 400 < sa.size
                  · (go_wp2; go_meet; exact ⟨!decide (ndOk _), rfl, congrArg Value.bool (by rw [Bool.eq_iff_iff]; simp [ndOk]; omega), rfl, rfl⟩)
                  · by_cases h5 : 136704 < da.length
                    · (go_wp2; go_meet; exact ⟨!decide (ndOk _), rfl, congrArg Value.bool (by rw [Bool.eq_iff_iff]; simp [ndOk]; omega), rfl, rfl⟩)
                    · (go_wp2; go_meet; exact ⟨!decide (ndOk _), rfl, congrArg Value.bool (by rw [Bool.eq_iff_iff]; simp [ndOk]; omega), rfl, rfl⟩)
        · have hk1 : ki ≠ 1 := fun h => hk (.inl h)
          have hk2 : ki ≠ 2 := fun h => hk (.inr h)
          clear hk
          go_wp2
          go_meet
          exact ⟨!decide (ndOk _), rfl, congrArg Value.bool (by rw [Bool.eq_iff_iff]; simp [ndOk, hk1, hk2]), rfl, rfl⟩
      case rest =>
        obtain ⟨bad, rfl, rfl, hbd, rfl⟩ := hcut
        cases bad
        case true =>
          go_wp2
          go_ret2
          exact ⟨.inr ⟨hbad.out (by simpa using hbd.out.symm), rfl⟩, hb1⟩
        case false =>
        have hgood : ndOk ⟨pa, ki, ma, sa, dA, dc, da⟩ := by simpa using hbd.out.symm
        obtain ⟨hk, hm0, hm1, hp, hs, hd⟩ := id hgood
        simp only at hk hm0 hm1 hp hs hd
        have hpre3 := Lib.hid (hpre2.out hgood)
        clear hpre2 hbad hbd hgood
        go_wp2
        have hle1 : done.length + 1 ≤ 1000000000 := by omega
        have hne0 : u4.ownBlock ≠ some g := fun e => by have := hown0 g e; omega
        go_region_held3 (fun w' => w'.cell? ⟨g, 0 + 1, none⟩ = some (.int .i64 ki) ∧ w'.cell? ⟨g, 0 + 2, none⟩ = some (.int .i64 ma))
          (first | go_keep)
          (first
           | (refine step_app _ (by rfl) _ _ _ _ (by rfl) w.heap.size 5 i0 (.int .u8 0) 1 1 Tryz.underlying64 hi hz0 hz1 hz2 rfl u4 done.length (bvs done) (by rfl) ((ho1.alloc _).drew) 1 [.int .u8 (ki % 256)] (src_one_drew W1 Tryz.underlying64 _ _ rfl) (by unfold maxLen; omega) (by omega) (by have := hb1.size; simp; omega) ?_; intro v2 w2 ho2 hg2 hat2; have k1 := cell_law1 hg2 c1 hne0; have k2 := cell_law1 hg2 c2 hne0; have hne2 := ne_law (W := W1) hat2 hne0 hsz1 (by simp); have hsz2 : W1.heap.size < w2.heap.size := Nat.lt_of_lt_of_le (by simp) hg2.size; have hB2 : w.heap.size ≤ w2.heap.size := Nat.le_trans hb1.size (Nat.le_of_lt hsz2))
           | (go_at_call 44; refine (low8 w.heap.size v2 (bvs done ++ [.int .u8 (ki % 256)]) (done.length + 1) ma w2 hle1 hm0 hm1 hB2 ho2).mono ?_; rintro e w3 ⟨v3, rfl, ho3, hG3⟩; have k1' := cell_grows hG3 k1 hne2; have k2' := cell_grows hG3 k2 hne2))
        have G3 := (Grows.of_law ((Below.refl W1.heap.size W1).alloc (Nat.le_refl _) _).drew hg2 hat2 (by simp)).trans hG3
        clear hg2 hat2 hG3 ho2 hne2 k1 k2 k1' k2' hsz2 hB2
        have hs3 := G3.chg.size
        have hne3 := ne_grows G3 hne0 hsz1
        have hg3 : g < w3.heap.size := by omega
        have c0' := cell_grows G3 c0 hne0
        have c3' := cell_grows G3 c3 hne0
        have c4' := cell_grows G3 c4 hne0
        have hB3 : w.heap.size ≤ w3.heap.size := Nat.le_trans hb1.size hs3
        clear c0 c1 c2
        go_wp2
        go_region_held3 (fun w' => w'.cell? ⟨g, 0, none⟩ = some (.string pa))
          (first | go_keep)
          (first
           | (go_at_call 44; refine (low4 w.heap.size v3 _ (done.length + 1 + 8) pa.size w3.drew (by omega) (by omega) (by omega) hB3 ho3).mono ?_; rintro e w4 ⟨v4, rfl, ho4, hG4⟩; have k4 := cell_grows hG4 c0' hne3; have hs4 := hG4.chg.size; have hB4 : w.heap.size ≤ w4.heap.size := Nat.le_trans hB3 hs4)
           | (refine step_app _ (by rfl) _ _ _ _ (by rfl) w.heap.size 5 i0 (.int .u8 0) 1 1 Tryz.underlying64 hi hz0 hz1 hz2 rfl v4 (done.length + 1 + 8 + 4) _ (by rfl) ho4 pa.size (byteCells pa) (Src.ofString _ Tryz.underlying9 pa) (by unfold maxLen; omega) (by omega) hB4 ?_; intro v5 w5 ho5 hg5 hat5; have k5 := cell_law hg5 k4 (ne_grows hG4 hne3 hg3)))
        have G5 := G3.drew.trans (hG4.trans (Grows.of_law (Below.refl w4.heap.size w4) hg5 hat5 (Nat.le_refl _)))
        clear G3 hG4 hg5 hat5 ho3 ho4 hne3 k4 k5 hs4 hB4 hB3 hs3 hg3
        have hs5 := G5.chg.size
        have hne5 := ne_grows G5 hne0 hsz1
        go_wp2
        have hB5 : w.heap.size ≤ w5.heap.size := Nat.le_trans hb1.size hs5
        have hg5' : g < w5.heap.size := by omega
        have q3 := cell_grows G5 c3 hne0
        go_region_held3 (fun w' => w'.cell? ⟨g, 0 + 3, none⟩ = some (.string sa))
          (first | go_keep)
          (first
           | (go_at_call 44; refine (low4 w.heap.size v5 _ (done.length + 1 + 8 + 4 + pa.size) sa.size w5.drew (by omega) (by omega) (by omega) hB5 ho5).mono ?_; rintro e w6 ⟨v6, rfl, ho6, hG6⟩; have k6 := cell_grows hG6 q3 hne5; have hs6 := hG6.chg.size; have hB6 : w.heap.size ≤ w6.heap.size := Nat.le_trans hB5 hs6)
           | (refine step_app _ (by rfl) _ _ _ _ (by rfl) w.heap.size 5 i0 (.int .u8 0) 1 1 Tryz.underlying64 hi hz0 hz1 hz2 rfl v6 (done.length + 1 + 8 + 4 + pa.size + 4) _ (by rfl) ho6 sa.size (byteCells sa) (Src.ofString _ Tryz.underlying9 sa) (by unfold maxLen; omega) (by omega) hB6 ?_; intro v7 w7 ho7 hg7 hat7; have k7 := cell_law hg7 k6 (ne_grows hG6 hne5 hg5')))
        have G7 := G5.drew.trans (hG6.trans (Grows.of_law (Below.refl w6.heap.size w6) hg7 hat7 (Nat.le_refl _)))
        clear G5 hG6 hg7 hat7 ho5 ho6 hne5 k6 k7 hs6 hB6 hB5 hs5 hg5'
        have hs7 := G7.chg.size
        have hne7 := ne_grows G7 hne0 hsz1
        go_wp2
        have hB7 : w.heap.size ≤ w7.heap.size := Nat.le_trans hb1.size hs7
        have hg7' : g < w7.heap.size := by omega
        have q4 := cell_grows G7 c4 hne0
        go_region_held3 (fun w' => w'.cell? ⟨g, 0 + 4, none⟩ = some (.slice dA da.length dc))
          (first | go_keep)
          (first
           | (go_at_call 44; refine (low4 w.heap.size v7 _ (done.length + 1 + 8 + 4 + pa.size + 4 + sa.size) da.length w7.drew (by omega) (by omega) (by omega) hB7 ho7).mono ?_; rintro e w8 ⟨v8, rfl, ho8, hG8⟩; have k8 := cell_grows hG8 q4 hne7; have hs8 := hG8.chg.size; have hB8 : w.heap.size ≤ w8.heap.size := Nat.le_trans hB7 hs8; have hbe := (Grows.first hb1 (G7.drew.trans hG8) (fun q hq => (ho1.lt q hq).1)).1)
           | (refine step_app _ (by rfl) _ _ _ _ (by rfl) w.heap.size 5 i0 (.int .u8 0) 1 1 Tryz.underlying64 hi hz0 hz1 hz2 rfl v8 (done.length + 1 + 8 + 4 + pa.size + 4 + sa.size + 4) _ (by rfl) ho8 da.length (bvs da) (src_sees _ Tryz.underlying64 dc (hdj.below hbe) (bvs_one da)) (by unfold maxLen; omega) (by omega) hB8 ?_; intro v9 w9 ho9 hg9 hat9; have k9 := cell_law hg9 k8 (ne_grows hG8 hne7 hg7')))
        have G9 := G7.drew.trans (hG8.trans (Grows.of_law (Below.refl w8.heap.size w8) hg9 hat9 (Nat.le_refl _)))
        have hbz := (Grows.first hb1 G9 (fun q hq => (ho1.lt q hq).1)).1
        clear G7 hG8 hg9 hat9 ho7 ho8 hne7 k8 k9 hs8 hB8 hB7 hs7 hg7' hbe c3 c4
        go_wp2
        go_roundw
        case rel => exact ⟨j + 1, by omega, hpre3.out, by go_num, by rw [htk.out, enc_len, ← enc_row]; exact ho9, hbz⟩
        case measure => simp [intOf]; omega
    · obtain rfl : j = len := by omega
      go_wp2
      go_ret2
      have h9 := hlenH.out
      have hp9 := hpre.out
      rw [h9, List.take_length] at ho hp9
      exact ⟨.inl ⟨hp9, _, rfl, ho⟩, hb⟩
#print axioms bytes_any
end Go.Proofs.YtolpcfhfcdkokaaGreatDoor
/-
  Small helpers of the laws: few (are nodes few and light?), awake (the chapter's node), and a byte slice as a string.
-/
namespace Go.Proofs.YtolpcfhfcdkokaaGreatDoor
open Go.RowKit

section
variable {P : Program} {w : World}
theorem run_str {src e : TypeId} (hs : P.underlying src = some (.slice e)) (he : P.underlying e = some (.int .u8)) {B : Nat} {A : Option Addr} (c : Nat) {n : Nat} {l : List UInt8} (h : Sees w B 1 A n (bvs l)) :
    ∀ dst, P.underlying dst = some .string → (convert src dst (.slice A n c)).run P w = .ok (.string ⟨l.toArray⟩) w := by
  intro dst hd
  have hl : n = l.length := by have := h.len; rw [bvs_length] at this; omega
  subst hl
  rcases A with _ | ad
  · have h0 : l = [] := by
      rcases Nat.eq_zero_or_pos l.length with h0 | h0
      · exact List.eq_nil_of_length_eq_zero h0
      · obtain ⟨b, off, e, _⟩ := h.at_ h0; cases e
    subst h0
    exact run_convert_bytes_nil w src e hs he _ c dst hd
  · have hload : (loadCells ad l.length).run P w = .ok (((l.map fun b => (b.toNat : Int)).map (Value.int .u8)).toArray) w := by
      have := run_loadCells_list (P := P) w ad (bvs l) (fun j v hj => by
        rcases Nat.eq_zero_or_pos l.length with h0 | h0
        · have : l = [] := List.eq_nil_of_length_eq_zero h0
          subst this; simp [bvs] at hj
        · obtain ⟨b, off, e, hb, hc⟩ := h.at_ h0
          injection e with e
          subst e
          rw [Addr.add_lit]
          exact hc j v hj)
      rw [bvs_length] at this
      rw [this, bvs, List.map_map]
      rfl
    rw [run_convert_bytes_string w src dst e _ _ c hs he hd, run_bytesToString w _ _ c _ hload, foldl_push_bytes]
    have hid : (fun n : Int => UInt8.ofNat n.toNat) ∘ (fun b : UInt8 => (b.toNat : Int)) = id := by
      funext b
      simp
    rw [List.map_map, hid, List.map_id]
    simp [ByteArray.empty, ByteArray.emptyWithCapacity]
    rfl
theorem run_str_own {src e0 : TypeId} (hs : P.underlying src = some (.slice e0)) (he : P.underlying e0 = some (.int .u8)) {base : Nat} {e : TypeId} {v : Value} {n : Nat} {l : List UInt8} (h : w.ownsRow base e 1 v n (bvs l)) :
    ∀ dst, P.underlying dst = some .string → (convert src dst v).run P w = .ok (.string ⟨l.toArray⟩) w := by
  obtain ⟨A, c, rfl, hS⟩ := Sees.of_own (B := w.heap.size) h fun g hg => (h.lt g hg).2
  exact run_str hs he c hS
end

/-- How many bytes nodes have together. -/
def totB (l : List Nd) : Nat := (l.map fun x => x.path.size + x.same.size + x.data.length).sum
theorem totB_take (l : List Nd) (i : Nat) (h : i < l.length) : totB (l.take (i + 1)) = totB (l.take i) + (l[i].path.size + l[i].same.size + l[i].data.length) := by
  have e : l.take (i + 1) = l.take i ++ [l[i]] := List.take_succ_eq_append_getElem h
  rw [e]
  unfold totB
  rw [List.map_append, List.sum_append]
  simp only [List.map_cons, List.map_nil, List.sum_cons, List.sum_nil, Nat.add_zero]
theorem totB_le (l : List Nd) (i : Nat) : totB (l.take i) ≤ totB l := by
  have e : totB l = totB (l.take i) + totB (l.drop i) := by
    unfold totB
    rw [← List.sum_append, ← List.map_append, List.take_append_drop]
  omega
def fewB (l : List Nd) : Bool := decide (totB l ≤ 2097152 ∧ l.length ≤ 5000)
theorem encAll_tot (l : List Nd) : (encAll l).length = 21 * l.length + totB l := by
  induction l with
  | nil => rfl
  | cons x l ih =>
    have h1 := enc1_length x
    simp only [encAll, totB, List.flatMap_cons, List.length_append, List.map_cons, List.sum_cons, List.length_cons] at *
    omega

set_option maxHeartbeats 1600000 in
set_option maxRecDepth 100000 in
theorem few_any (A : Option Addr) (cap : Nat) (l : List Nd) (w : World) (hN : NodesAt w w.heap.size A l) (hln : l.length ≤ 281474976710656)
    (hbig : ∀ x ∈ l, x.path.size ≤ 140737488351232 ∧ x.same.size ≤ 140737488351232 ∧ x.data.length ≤ 140737488351232) :
    Calls Tryz.prog 16 #[.slice A l.length cap] w fun e w' => e = .returned (.bool (fewB l)) ∧ ∃ n, w' = w.drewN n := by
  obtain ⟨len, hlen⟩ : ∃ len, len = l.length := ⟨_, rfl⟩
  have hlenH := Lib.hid hlen
  rw [← hlen] at hln ⊢
  clear hlen
  go_enter Tryz.func16, Tryz.ntmps16
  go_wp2
  go_loopw [3, 4] (fun n i wr => ∃ j m : Nat, j ≤ len ∧ i = .int .i64 j ∧ n = .int .i64 m ∧ Hid (m = totB (l.take j)) ∧ m ≤ 500000000000000 ∧ ∃ k, wr = w.drewN k)
    (fun _ i _ => len - (intOf i).toNat)
  case atStart => exact ⟨0, 0, Nat.zero_le _, rfl, rfl, by simp [Hid, totB], by omega, 0, rfl⟩
  case round =>
    obtain ⟨j, m, hj, rfl, rfl, hm, hmb, k, rfl⟩ := hrel
    by_cases hjk : j < len
    · have hjl : j < l.length := by have := hlenH.out; omega
      by_cases hm2 : m ≤ 2097152
      · obtain ⟨b, off, rfl, hbB, hc⟩ := hN.at_ (by omega)
        have hci := hc j hjl
        have hbg := hbig _ (List.getElem_mem hjl)
        have htk := Lib.hid (totB_take l j hjl)
        clear hN hc hbig
        generalize l[j] = x at *
        obtain ⟨pa, ki, ma, sa, dA, dc, da⟩ := x
        obtain ⟨c0, c1, c2, c3, c4⟩ := hci
        obtain ⟨z1, z2, z3⟩ := hbg
        simp only at c0 c1 c2 c3 c4 z1 z2 z3
        go_wp2
        go_quiet (fail)
        go_wp2
        go_roundw
        case rel => exact ⟨j + 1, m + (pa.size + sa.size + da.length), by omega, by go_num, by go_num, by have h1 := htk.out; have h2 := hm.out; show _ = _; rw [h1, ← h2], by omega, k + nq, by simp [World.drewN]⟩
        case measure => simp [intOf]; omega
      · have hle := totB_le l j
        have hfin : Hid (fewB l = false) := by
          have := hm.out
          show decide _ = false
          simp only [decide_eq_false_iff_not]
          omega
        clear hN hbig hle
        go_wp2
        go_ret
        exact ⟨by rw [hfin.out]; rfl, k, rfl⟩
    · obtain rfl : j = len := by omega
      have hall : Hid (m = totB l) := by have h1 := hm.out; rw [hlenH.out, List.take_length] at h1; exact h1
      have hfin : Hid (fewB l = decide ((m : Int) ≤ 2097152 ∧ (j : Int) ≤ 5000)) := by
        have h1 := hall.out
        have h2 := hlenH.out
        show decide _ = decide _
        rw [decide_eq_decide, ← h1, ← h2]
        omega
      clear hN hbig
      by_cases hm2 : m ≤ 2097152
      all_goals
        go_wp2
        go_ret
        exact ⟨by rw [hfin.out]; exact congrArg (fun b => Ending.returned (Value.bool b)) (by rw [Bool.eq_iff_iff]; simp; omega), k, rfl⟩

/-- The chapter's node c. -/
def chapC : Nd := ⟨⟨#[47, 99]⟩, 1, 7, ByteArray.empty, none, 0, []⟩
theorem enc_chapC : encAll [chapC] = [1, 7, 0, 0, 0, 0, 0, 0, 0, 2, 0, 0, 0, 47, 99, 0, 0, 0, 0, 0, 0, 0, 0] := by decide +kernel
theorem ok_chapC : ∀ x ∈ [chapC], ndOk x := by
  intro x hx
  rw [List.mem_singleton] at hx
  subst hx
  decide +kernel
set_option maxHeartbeats 1600000 in
set_option maxRecDepth 100000 in
theorem awake_any (w : World) :
    Calls Tryz.prog 7 #[] w fun e w' => e = .returned (.bool true) ∧ Below w.heap.size w w' := by
  have hbx : NodesAt (w.alloc (.cells #[.string ⟨#[47, 99]⟩, .int .i64 1, .int .i64 7, .string ⟨#[]⟩, .slice none 0 0] 75)) (w.heap.size + 1) (some ⟨w.heap.size, 0, none⟩) [chapC] := by
    refine ⟨fun _ => ⟨w.heap.size, 0, rfl, by omega, fun i hi => ?_⟩, fun x hx => ?_⟩
    · have : i = 0 := by simpa using hi
      subst this
      refine ⟨?_, ?_, ?_, ?_, ?_⟩ <;> (rw [World.cell?_alloc_at _ _ _ _ rfl]; rfl)
    · rw [List.mem_singleton] at hx
      subst hx
      exact Sees.nil
  go_enter Tryz.func7, Tryz.ntmps7
  go_wp2_with fail
  have hc := bytes_any (some ⟨w.heap.size, 0, none⟩) 1 [chapC] (w.alloc (.cells #[.string ⟨#[47, 99]⟩, .int .i64 1, .int .i64 7, .string ⟨#[]⟩, .slice none 0 0] 75)) (by simpa using hbx) (by rw [enc_chapC]; decide) (by decide)
  refine hc.mono ?_
  rintro e w1 ⟨⟨_, v1, rfl, ho⟩ | ⟨hn, _⟩, hb⟩
  case inr => exact absurd ok_chapC hn
  rw [enc_chapC] at ho
  have hs := run_str_own (P := Tryz.prog) Tryz.underlying64 Tryz.underlying5 ho 9 Tryz.underlying9
  have hB : Below w.heap.size w w1 := ((Below.refl _ _).alloc (Nat.le_refl _) _).trans (hb.mono (by simp))
  clear ho hb hbx hc
  go_wp2
  go_ret
  exact ⟨by rfl, hB⟩
#print axioms awake_any
end Go.Proofs.YtolpcfhfcdkokaaGreatDoor
