/-
  The reference's Read.
-/
import Derived.Test.YtolpcfhfcdkokaaROne
import Derived.Test.YtolpcfhfcdkokaaRead
namespace Go.Proofs.Ytolpcfhfcdkokaa
open Go.RowKit

/-- Nodes in a row of one's own, their bytes in blocks apart from that row. -/
structure RefN (w : World) (B : Nat) (v : Value) (l : List Nd) : Prop where
  row : w.ownsRow B 47 5 v l.length (ncs l)
  data : ∀ x ∈ l, ∃ g, x.dA = some ⟨g, 0, none⟩ ∧ v.ownBlock ≠ some g ∧ (B ≤ g ∧ g < w.heap.size) ∧ ∀ j u, (bvs x.data)[j]? = some u → w.cell? ⟨g, j, none⟩ = some u
section
variable {w w1 w2 : World} {B : Nat} {v v' : Value} {l : List Nd}
theorem RefN.nil (w : World) (B : Nat) : RefN w B (.slice none 0 0) [] := ⟨World.ownsRow_nil _ _ _ _, fun x hx => absurd hx (by simp)⟩
theorem RefN.fresh (h : RefN w B v l) (hc : Below w.heap.size w w1) : RefN w1 B v l :=
  ⟨own_fresh h.row hc, fun x hx => by
    obtain ⟨g, e, hn, hg, hcell⟩ := h.data x hx
    exact ⟨g, e, hn, ⟨hg.1, Nat.lt_of_lt_of_le hg.2 hc.size⟩, fun j u hu => (hc.cell (p := ⟨g, j, none⟩) hg.2).trans (hcell j u hu)⟩⟩
theorem RefN.chg {S : Nat → Prop} (h : RefN w B v l) (hc : Chg S w w1) (hS : ∀ b, B ≤ b → ¬ S b) : RefN w1 B v l :=
  ⟨own_chg h.row hc fun g hg => hS g (h.row.lt g hg).1, fun x hx => by
    obtain ⟨g, e, hn, hg, hcell⟩ := h.data x hx
    exact ⟨g, e, hn, ⟨hg.1, Nat.lt_of_lt_of_le hg.2 hc.size⟩, fun j u hu => (hc.cell (p := ⟨g, j, none⟩) hg.2 (hS g hg.1)).trans (hcell j u hu)⟩⟩
theorem RefN.step (h : RefN w B v l) {x : Nd} {g : Nat} (hx : x.dA = some ⟨g, 0, none⟩) (hgB : B ≤ g) (hg : g < w.heap.size) (hng : v.ownBlock ≠ some g) (hcx : ∀ j u, (bvs x.data)[j]? = some u → w.cell? ⟨g, j, none⟩ = some u)
    (hrow : w2.ownsRow B 47 5 v' (l.length + 1) (ncs l ++ cells5 x)) (hG : Grows w v w2 v') : RefN w2 B v' (l ++ [x]) := by
  have hone : ∀ y : Nd, ∀ g, v.ownBlock ≠ some g → g < w.heap.size → (∀ j u, (bvs y.data)[j]? = some u → w.cell? ⟨g, j, none⟩ = some u) → v'.ownBlock ≠ some g ∧ g < w2.heap.size ∧ ∀ j u, (bvs y.data)[j]? = some u → w2.cell? ⟨g, j, none⟩ = some u := by
    intro y g hn hg hc
    exact ⟨ne_grows hG hn hg, Nat.lt_of_lt_of_le hg hG.chg.size, fun j u hu => (hG.chg.cell (p := ⟨g, j, none⟩) hg hn).trans (hc j u hu)⟩
  refine ⟨by rw [ncs_snoc]; simpa using hrow, fun y hy => ?_⟩
  rw [List.mem_append, List.mem_singleton] at hy
  rcases hy with hy | rfl
  · obtain ⟨g', e, hn, hg', hcell⟩ := h.data y hy
    obtain ⟨h1, h2, h3⟩ := hone y g' hn hg'.2 hcell
    exact ⟨g', e, h1, ⟨hg'.1, h2⟩, h3⟩
  · obtain ⟨h1, h2, h3⟩ := hone y g hng hg hcx
    exact ⟨g, hx, h1, ⟨hgB, h2⟩, h3⟩
theorem RefN.nodes (h : RefN w B v l) : ∃ A c, v = .slice A l.length c ∧ NodesAt w w.heap.size A l := by
  obtain ⟨A, c, e, hs⟩ := Sees.of_own (B := w.heap.size) h.row fun g hg => (h.row.lt g hg).2
  refine ⟨A, c, e, nodes_of_sees hs fun x hx => ?_⟩
  obtain ⟨g, e1, _, hg, hcell⟩ := h.data x hx
  exact ⟨by rw [bvs_length, Nat.mul_one], fun _ => ⟨g, 0, e1, hg.2, fun j u hu => by rw [Nat.zero_add]; exact hcell j u hu⟩⟩
end
/-- What the reference's Read answers. -/
def RRdd (r : List UInt8) (w : World) (e : Ending) (w' : World) : Prop :=
  ((∃ l v, readL r.length (some r) = some (l.map ndP) ∧ NN l ∧ e = .returned (.tuple #[v, .int .i64 0]) ∧ RefN w' w.heap.size v l) ∨
   (readL r.length (some r) = none ∧ e = .returned (.tuple #[.slice none 0 0, .int .i64 170]))) ∧ Below w.heap.size w w'

set_option maxHeartbeats 8000000 in
set_option maxRecDepth 100000 in
theorem rread_any (A : Option Addr) (c : Nat) (bs : List UInt8) (w : World) (hs : Sees w w.heap.size 1 A bs.length (bvs bs)) (hc : bs.length ≤ c) (hl : bs.length ≤ 1000000000) :
    Calls Try.prog 15 #[.slice A bs.length c] w (RRdd bs w) := by
  obtain ⟨len, hlen⟩ : ∃ len, len = bs.length := ⟨_, rfl⟩
  have hlenH := Lib.hid hlen
  rw [← hlen] at hc hl ⊢
  clear hlen
  go_enter Try.func15, Try.ntmps15
  go_wp2
  go_loopg [4, 5] len (fun k v i wr => ∃ (l : List Nd) (at_ : Nat), i = .int .i64 at_ ∧ at_ ≤ len ∧ len - at_ ≤ k ∧ l.length ≤ at_ ∧ Hid (readL len (some bs) = (readL k (some (bs.drop at_))).map (l.map ndP ++ ·)) ∧ NN l ∧ RefN wr w.heap.size v l ∧ Below w.heap.size w wr)
  case atStart =>
    refine ⟨[], 0, rfl, by omega, by omega, by simp, ?_, fun x hx => absurd hx (by simp), RefN.nil _ _, Below.refl _ _⟩
    show _ = _
    simp
  case round =>
    obtain ⟨l, at_, rfl, hat, hk, hla, hrd, hnn, hR, hb⟩ := hrel
    by_cases hlt : at_ < len
    · have hlt' : at_ < bs.length := by have := hlenH.out; omega
      have hs1 := (hs.below hb)
      have hbs := hb.size
      go_wp2_with fail
      have hone := rone_any w.heap.size A c bs at_ wr hs1 hbs (by have := hlenH.out; omega) (by have := hlenH.out; omega) hlt'
      rw [← hlenH.out] at hone
      refine hone.mono ?_
      rintro e w1 ⟨⟨x, z, g, hro, hxp, hx1, hx2, hz1, hz2, rfl, hxA, hg1, hg2, hxc⟩ | ⟨hno, x, z, rfl⟩, hb1⟩
      case inr =>
        rw [show agg5 x = .agg #[.string x.path, .int .i64 x.kind, .int .i64 x.made, .string x.same, .slice x.dA x.data.length x.dc] from rfl]
        have hno' : Hid (readL bs.length (some bs) = none) := by
          show _ = _
          rw [← hlenH.out, hrd.out]
          obtain ⟨k', rfl⟩ : ∃ k', gk = k' + 1 := ⟨gk - 1, by omega⟩
          rw [readL_step k' _ (fun e => by have := congrArg List.length e; rw [List.length_drop] at this; simp at this; omega), hno, readL_none]
          rfl
        have hb2 := hb.trans (hb1.mono hbs)
        clear hno hone hrd
        go_wp2
        go_ret2
        exact ⟨.inr ⟨hno'.out, rfl⟩, hb2.alloc hb2.size _⟩
      case inl =>
      rw [show agg5 x = .agg #[.string x.path, .int .i64 x.kind, .int .i64 x.made, .string x.same, .slice x.dA x.data.length x.dc] from rfl]
      have hzl : z ≤ len := by have := hlenH.out; omega
      have hnew : Hid (readL len (some bs) = (readL (gk - 1) (some (bs.drop z))).map ((l ++ [x]).map ndP ++ ·)) := by
        have h1 : 0 < (bs.drop at_).length := by rw [List.length_drop]; omega
        have h2 : olen (some (bs.drop at_)) ≤ gk := by simp only [olen, List.length_drop]; have := hlenH.out; omega
        have := rd_step3 h1 h2 hrd.out hxp
        rw [hro] at this
        exact this
      have hnn2 := Lib.hid (nn_snoc hnn ⟨hx1, hx2⟩)
      have hR1 := hR.fresh hb1
      have hng : u4.ownBlock ≠ some g := fun e => by have := (hR.row.lt g e).2; omega
      have hb2 := hb.trans (hb1.mono hbs)
      have hxcH := Lib.hid hxc
      obtain ⟨iN, hiN, hzN0, hzN1, hzN2⟩ := info_parts infoNode
      have hz2 := hb2.size
      have hllt : l.length < 1000000000 := by omega
      clear hro hxp hone hrd hR hxc hb1 hs1 hs
      have hxAH := Lib.hid hxA
      clear hxA
      have h0 : Below w1.heap.size w1 (w1.alloc (.cells #[.string x.path, .int .i64 x.kind, .int .i64 x.made, .string x.same, .slice x.dA x.data.length x.dc] 47)) := (Below.refl _ _).alloc (Nat.le_refl _) _
      have hB0 : Blk (w1.alloc (.cells #[.string x.path, .int .i64 x.kind, .int .i64 x.made, .string x.same, .slice x.dA x.data.length x.dc] 47)) w1.heap.size 47 (cells5 x) := Blk.new w1 47 (cells5 x)
      go_upto_region 7 with (fail)
      generalize w1.alloc (.cells #[.string x.path, .int .i64 x.kind, .int .i64 x.made, .string x.same, .slice x.dA x.data.length x.dc] 47) = w2 at *
      have hR2 := hR1.fresh h0
      have hs2 := h0.size
      have q0 : w2.cell? ⟨w1.heap.size, 0, none⟩ = some (.string x.path) := hB0.cell 0
      have q1 : w2.cell? ⟨w1.heap.size, 1, none⟩ = some (.int .i64 x.kind) := hB0.cell 1
      have q2 : w2.cell? ⟨w1.heap.size, 2, none⟩ = some (.int .i64 x.made) := hB0.cell 2
      have q3 : w2.cell? ⟨w1.heap.size, 3, none⟩ = some (.string x.same) := hB0.cell 3
      have q4 : w2.cell? ⟨w1.heap.size, 4, none⟩ = some (.slice x.dA x.data.length x.dc) := hB0.cell 4
      have hb3 := hb2.trans (h0.mono hz2)
      have hxc2 : Hid (∀ j u, (bvs x.data)[j]? = some u → w2.cell? ⟨g, j, none⟩ = some u) := fun j u hu => (h0.cell (p := ⟨g, j, none⟩) hg2).trans (hxcH.out j u hu)
      clear hB0 h0 hR1
      go_wp2_with (first
        | (at_builtin; refine wpList_app _ rfl (.tmp 22) (.tmp 24) _ _ rfl w.heap.size 47 iN _ 5 72 Try.underlying22 hiN hzN0 hzN1 hzN2 rfl u4 l.length (ncs l) rfl (hR2.row.alloc _) 1 (cells5 x) (src_node w2 Try.underlying22 x _) (by unfold maxLen; omega) (by omega) (by simp; omega) ?_; intro v' w3 ho' hg' hat'))
      have hG := Grows.of_law ((Below.refl w2.heap.size w2).alloc (Nat.le_refl _) _) hg' hat' (by simp)
      have hR3 := hR2.step hxAH.out (by omega) (by omega) hng hxc2.out ho' hG
      have hb4 : Below w.heap.size w w3 := hb3.trans (hG.chg.below (by omega) (fun b hb e => by have := (hR2.row.lt b e).1; omega))
      clear ho' hg' hat' hG hR2 hng q0 q1 q2 q3 q4 hb3 hb2 hb
      go_wp2
      go_roundg (gk - 1)
      case measure => omega
      case rel => exact ⟨l ++ [x], z, rfl, hzl, by omega, by rw [List.length_append, List.length_singleton]; omega, hnew, hnn2.out, hR3, hb4⟩
    · obtain rfl : at_ = len := by omega
      have hfin : Hid (readL bs.length (some bs) = some (l.map ndP)) := by
        show _ = _
        rw [← hlenH.out, hrd.out, hlenH.out, List.drop_length, readL_nil]
        simp
      clear hrd hs
      go_wp2
      go_ret2
      exact ⟨.inl ⟨l, _, hfin.out, hnn, rfl, hR⟩, hb⟩
#print axioms rread_any
end Go.Proofs.Ytolpcfhfcdkokaa
