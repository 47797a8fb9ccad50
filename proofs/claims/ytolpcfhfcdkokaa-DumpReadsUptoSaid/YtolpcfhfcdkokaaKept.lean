/-
  kept: nodes that were lent and have not been touched are as they were, marks and all.
-/
import Derived.Test.YtolpcfhfcdkokaaSame
namespace Go.Proofs.Ytolpcfhfcdkokaa
open Go.RowKit

/-- The lent nodes as a list. -/
def lentL (l : List Nd) (bs : Nat → Nat) : List Nd := l.mapIdx fun i x => lentNd x (bs i)
theorem lentL_length (l : List Nd) (bs : Nat → Nat) : (lentL l bs).length = l.length := by simp [lentL]
theorem lentL_get (l : List Nd) (bs : Nat → Nat) (i : Nat) (h : i < (lentL l bs).length) (h' : i < l.length) : (lentL l bs)[i] = lentNd l[i] (bs i) := by simp [lentL]
theorem blk_sees {w : World} {g : Nat} {t : TypeId} {cs rest : List Value} (h : Blk w g t (cs ++ rest)) {B : Nat} (hB : g < B) : Sees w B 1 (some ⟨g, 0, none⟩) cs.length cs :=
  ⟨by simp, fun _ => ⟨g, 0, rfl, hB, fun j u hu => by
    rw [Nat.zero_add, h.cell]
    have hj : j < cs.length := by
      rcases Nat.lt_or_ge j cs.length with h | h
      · exact h
      · rw [List.getElem?_eq_none h] at hu; cases hu
    rw [List.getElem?_append_left hj]
    exact hu⟩⟩
theorem lent_nodes {w : World} {B g : Nat} {vb : Value} {bs : Nat → Nat} {l : List Nd} (h : LentAt w B g vb bs l) : NodesAt w w.heap.size (some ⟨g, 0, none⟩) (lentL l bs) := by
  obtain ⟨cs, hr, hl⟩ := h.row
  refine ⟨fun _ => ⟨g, 0, rfl, hr.lt, fun i hi => ?_⟩, fun x hx => ?_⟩
  · have hi' : i < l.length := by rw [lentL_length] at hi; exact hi
    rw [lentL_get l bs i hi hi', Nat.zero_add]
    exact h.mem.node i hi' hi'
  · obtain ⟨i, hi, rfl⟩ := List.getElem_of_mem hx
    have hi' : i < l.length := by rw [lentL_length] at hi; exact hi
    rw [lentL_get l bs i hi hi']
    have hd := h.mem.data i hi' hi'
    have := blk_sees hd (B := w.heap.size) hd.lt
    rw [bvs_length] at this
    exact this
theorem lent_same (l : List Nd) (bs : Nat → Nat) : ∀ i (h1 : i < (lentL l bs).length) (h2 : i < l.length), ndSame (lentL l bs)[i] l[i] := fun i h1 h2 => by
  rw [lentL_get l bs i h1 h2]
  exact ⟨rfl, rfl, rfl, rfl, rfl⟩
theorem lentSl_get (l : List Nd) (bs : Nat → Nat) (n i : Nat) (h : i < n) : (lentSl l bs n)[i]? = some (.slice (some ⟨bs i, 0, none⟩) (lenAt l i + 5) (lenAt l i + 5)) := by simp [lentSl, h]

set_option maxHeartbeats 4000000 in
set_option maxRecDepth 100000 in
theorem kept_true (B g : Nat) (vb : Value) (bs : Nat → Nat) (A : Option Addr) (cap : Nat) (l : List Nd) (w : World) (hL : LentAt w B g vb bs l) (hN : NodesAt w w.heap.size A l) (hln : l.length ≤ 5000) (hdl : ∀ x ∈ l, x.data.length ≤ 2097152) :
    Calls Try.prog 11 #[.agg #[.slice (some ⟨g, 0, none⟩) (l.length + 3) (l.length + 3), vb], .slice A l.length cap] w fun e w' => e = .returned (.bool true) ∧ Below w.heap.size w w' := by
  obtain ⟨Av, cv, rfl, hvs⟩ := Sees.of_own (B := w.heap.size) hL.own fun g' hg' => (hL.own.lt g' hg').2
  have hgl : g < w.heap.size := by obtain ⟨cs, hr, _⟩ := hL.row; exact hr.lt
  obtain ⟨len, hlen⟩ : ∃ len, len = l.length := ⟨_, rfl⟩
  have hlenH := Lib.hid hlen
  have hp := Blk.new w 27 [.slice (some ⟨g, 0, none⟩) (len + 3) (len + 3), .slice Av len cv]
  have hb0 := (Below.refl w.heap.size w).alloc (Nat.le_refl _) (.cells #[.slice (some ⟨g, 0, none⟩) (len + 3) (len + 3), .slice Av len cv] 27)
  rw [← hlen] at hln ⊢
  have hmk : ∀ i, len ≤ i → i < len + 3 → w.cell? ⟨g, i * 5, none⟩ = some (.string ⟨#[109, 97, 114, 107]⟩) ∧ w.cell? ⟨g, i * 5 + 4, none⟩ = some (.slice none 0 0) := by rw [hlen]; exact hL.marked
  rw [← hlen] at hvs
  clear hlen
  go_enter Try.func11, Try.ntmps11
  go_wp2
  generalize w.alloc (.cells #[.slice (some ⟨g, 0, none⟩) (len + 3) (len + 3), .slice Av len cv] 27) = W1 at *
  have hp1 : Blk W1 w.heap.size 27 [.slice (some ⟨g, 0, none⟩) (len + 3) (len + 3), .slice Av len cv] := hp
  clear hp
  go_loopw [5] (fun i wr => ∃ m : Nat, m ≤ 3 ∧ i = .int .i64 ((len : Int) + m) ∧ Below w.heap.size w wr ∧ Blk wr w.heap.size 27 [.slice (some ⟨g, 0, none⟩) (len + 3) (len + 3), .slice Av len cv])
    (fun i _ => len + 3 - (intOf i).toNat)
  case atStart => exact ⟨0, by omega, by simp, hb0, hp1⟩
  case round =>
    obtain ⟨m, hm, rfl, hb, hpb⟩ := hrel
    have q0 := hpb.cell 0
    by_cases hm3 : m < 3
    · obtain ⟨m1, m2⟩ := hmk (len + m) (by omega) (by omega)
      have m3 := (hb.cell (p := ⟨g, (len + m) * 5, none⟩) hgl).trans m1
      have m4 := (hb.cell (p := ⟨g, (len + m) * 5 + 4, none⟩) hgl).trans m2
      clear m1 m2 hmk
      go_wp2
      go_roundw
      case rel => exact ⟨m + 1, by omega, by go_num, hb, hpb⟩
      case measure => simp [intOf]; omega
    · obtain rfl : m = 3 := by omega
      clear hmk
      go_wp2
      obtain ⟨wo, rfl⟩ : ∃ wo : World, wo = wr := ⟨_, rfl⟩
      go_loopw [6] (fun i wr => ∃ j : Nat, j ≤ len ∧ i = .int .i64 j ∧ ∃ nd, wr = wo.drewN nd) (fun i _ => len - (intOf i).toNat)
      case atStart => exact ⟨0, by omega, rfl, 0, rfl⟩
      case round =>
        obtain ⟨j, hj, rfl, nd, rfl⟩ := hrel
        by_cases hjk : j < len
        · have hjl : j < l.length := by have := hlenH.out; omega
          obtain ⟨b, off, rfl, hbB, hc⟩ := hN.at_ (by omega)
          have c4 := (hb.cell (p := ⟨b, off + j * 5 + 4, none⟩) hbB).trans (hc j hjl).2.2.2.2
          have hd := (hN.data _ (List.getElem_mem hjl)).below hb
          have hdl' := hdl _ (List.getElem_mem hjl)
          have hbk := (hL.mem.data j hjl hjl).fresh hb
          have hlj := lenAt_get l j hjl
          obtain ⟨bv, ov, hAv, hbv, hcv⟩ := hvs.at_ (by omega)
          subst hAv
          have v0 := (hb.cell (p := ⟨bv, ov + j, none⟩) hbv).trans (hcv j _ (lentSl_get l bs _ j hjk))
          rw [hlj] at v0
          have q1 := hpb.cell 1
          clear hN hc hdl hL hcv hvs hlj
          generalize l[j] = x at *
          obtain ⟨pa, ki, ma, sa, dA, dc, da⟩ := x
          simp only at c4 hd hdl' hbk v0
          generalize bs j = h at *
          go_wp2
          obtain ⟨wo2, hwo2⟩ : ∃ wo2 : World, wo2 = wo.drewN nd := ⟨_, rfl⟩
          go_loopw [8] (fun i wr => ∃ k : Nat, k ≤ da.length + 5 ∧ i = .int .i64 k ∧ ∃ nd, wr = wo.drewN nd) (fun i _ => da.length + 5 - (intOf i).toNat)
          case atStart => exact ⟨0, by omega, rfl, nd, rfl⟩
          case round =>
            obtain ⟨k, hk, rfl, nd2, rfl⟩ := hrel
            have k0 : (0 : Int) ≤ (k : Int) := by omega
            have j0 : (0 : Int) ≤ (j : Int) := by omega
            have j1 : (j : Int) < (len : Int) := by omega
            by_cases hk1 : k < da.length
            · have hcell : wo.cell? ⟨h, k, none⟩ = some (.int .u8 ((da[k]'hk1).toNat : Int)) := by rw [hbk.cell, List.getElem?_append_left (by rw [bvs_length]; exact hk1)]; exact bvs_get da k hk1
              obtain ⟨bd, od, rfl, hbd, hcd⟩ := hd.at_ (by omega)
              have hcell2 := hcd k _ (bvs_get da k hk1)
              have k1 : (k : Int) < (da.length : Int) := by omega
              have k2 : (k : Int) < (da.length : Int) + 5 := by omega
              have k3 : decide (da.length ≤ k) = false := by simp; omega
              clear hcd hd hbk
              generalize (da[k]'hk1) = by8 at *
              go_wp2
              go_quiet (fail)
              go_wp2
              go_roundw
              case rel => exact ⟨k + 1, by omega, by go_num, nd2 + nq, by simp [World.drewN]⟩
              case measure => simp [intOf]; omega
            · by_cases hk5 : k < da.length + 5
              · have hcell : wo.cell? ⟨h, k, none⟩ = some (.int .u8 201) := by
                  rw [hbk.cell, List.getElem?_append_right (by rw [bvs_length]; omega), bvs_length, mark5, List.getElem?_replicate, if_pos (by omega)]
                have k1 : ¬ (k : Int) < (da.length : Int) := by omega
                have k2 : (k : Int) < (da.length : Int) + 5 := by omega
                have k3 : decide ((k : Int) < (da.length : Int)) = false := by simpa using k1
                have k4 : (da.length : Int) ≤ (k : Int) := by omega
                clear hd hbk
                go_wp2
                go_quiet (fail)
                go_wp2
                go_roundw
                case rel => first | exact ⟨k + 1, by omega, by go_num, nd2 + nq, by simp [World.drewN]⟩ | ((repeat apply Exists.intro); exact ⟨⟨k + 1, by omega, by go_num, nd2 + nq, by simp [World.drewN]⟩, rfl⟩)
                case measure => simp [intOf]; omega
              · obtain rfl : k = da.length + 5 := by omega
                clear hd hbk
                go_wp2
                go_roundw
                case rel => exact ⟨j + 1, by omega, by go_num, nd2, rfl⟩
                case measure => simp [intOf]; omega
        · obtain rfl : j = len := by omega
          have q0' := (hpb.cell 0)
          clear hvs hdl
          go_wp2_with fail
          have hL2 := lent_nodes hL
          have hbz : Below w.heap.size w (wo.drewN nd) := below_drewN' hb nd
          have hc := same_true (some ⟨g, 0, none⟩) A (j + 3) cap (lentL l bs) l (wo.drewN nd) ((hL2.below hbz).more hbz.size) ((hN.below hbz).more hbz.size) (lentL_length l bs).symm (by rw [lentL_length]; have := hlenH.out; omega) (lent_same l bs)
          rw [lentL_length, ← hlenH.out] at hc
          refine hc.mono ?_
          rintro e w5 ⟨rfl, hb5⟩
          go_wp2
          go_ret
          exact ⟨rfl, hbz.trans (hb5.mono hbz.size)⟩
#print axioms kept_true
end Go.Proofs.Ytolpcfhfcdkokaa
