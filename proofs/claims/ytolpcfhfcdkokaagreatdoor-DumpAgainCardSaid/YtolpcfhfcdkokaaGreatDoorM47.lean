/- Joined out of the texts QCount, Read. -/
import Derived.Deep.LoopGhost
import Derived.Deep.DeepCutAuto
import Derived.Test.YtolpcfhfcdkokaaGreatDoorM42
import Derived.Test.YtolpcfhfcdkokaaGreatDoorM44
import Derived.Test.YtolpcfhfcdkokaaGreatDoorM46
/-
  A dump, by the chapter's words: directories ahead of what lies in them, each path once, Same of a first name (what 'counted' asks).
-/
namespace Go.Proofs.YtolpcfhfcdkokaaGreatDoor

theorem cutN_at (A B : List UInt8) (hB : (47 : UInt8) ∉ B) : ∀ j, j ≤ B.length → cutN (A ++ 47 :: B) (A.length + 1 + j) = A.length
  | 0, _ => by
    rw [Nat.add_zero, cutN, if_pos (by simp)]
  | j + 1, h => by
    rw [← Nat.add_assoc, cutN, if_neg, cutN_at A B hB j (by omega)]
    rw [List.getD_eq_getElem?_getD, List.getElem?_append_right (by omega), show A.length + 1 + j - A.length = j + 1 by omega, List.getElem?_cons_succ, List.getElem?_eq_getElem (by omega)]
    intro e
    exact hB (by rw [← e]; simp)
theorem cutN_pth (a : List ByteArray) {nm : ByteArray} (h : chk nm = true) : cutN (pthL (a ++ [nm])) (pthL (a ++ [nm])).length = (pthL a).length := by
  rw [pthL_append]
  simp only [pthL, List.append_nil]
  have := cutN_at (pthL a) nm.data.toList (chk_47 h) nm.data.toList.length (Nat.le_refl _)
  rw [show (pthL a ++ 47 :: nm.data.toList).length = (pthL a).length + 1 + nm.data.toList.length by simp; omega]
  exact this
/-- What 'counted' asks of the node at i. -/
structure CntT (L : List Tn) (i : Nat) (x : Tn) : Prop where
  kind : x.kind = 1 ∨ x.kind = 2
  dir : x.kind = 2 → x.same = emp ∧ x.data = []
  one : x.same = emp ∨ x.data = []
  there : x.same = emp ∨ ∃ k y, k < i ∧ L[k]? = some y ∧ y.path = x.same ∧ y.kind = 1 ∧ y.same = emp
  home : cutN x.path.data.toList x.path.size = 0 ∨ ∃ k y, k < i ∧ L[k]? = some y ∧ y.path.data.toList = x.path.data.toList.take (cutN x.path.data.toList x.path.size) ∧ y.kind = 2
  new : ∀ k y, k < i → L[k]? = some y → y.path ≠ x.path
theorem mks_get (T : PT) : ∀ (L pre : List Spot) (i : Nat) (h : i < L.length), (T.mks pre L)[i]? = some (T.tn1 (pre ++ L.take i) L[i])
  | [], _, _, h => absurd h (by simp)
  | x :: r, pre, 0, _ => by simp [PT.mks]
  | x :: r, pre, i + 1, h => by
    rw [PT.mks, List.getElem?_cons_succ, mks_get T r (pre ++ [x]) i (by simpa using h)]
    simp
theorem pth_inj {a b : List ByteArray} (ha : ∀ x ∈ a, chk x = true) (hb : ∀ x ∈ b, chk x = true) (hs : (pth a).size ≤ 400) (h : pth a = pth b) : a = b := by
  have h1 := spl_pth ha hs
  rw [h] at hs h1
  rw [spl_pth hb hs] at h1
  exact (congrArg Prod.fst h1).symm
theorem dump_counted {P : PT} (h : P.Inv) (h0 : P.dump.2 = 0) (i : Nat) (x : Tn) (hx : P.dump.1[i]? = some x) : CntT P.dump.1 i x := by
  obtain ⟨h1, hsh⟩ := dump_ok h0
  rw [h1] at hx ⊢
  have hi : i < P.spots.length := by
    have := (List.getElem?_eq_some_iff.1 hx).1
    rwa [P.mks_len] at this
  rw [mks_get P _ _ i hi, List.nil_append] at hx
  have hx := (Option.some.inj hx).symm
  have hsp : P.spots = P.spots.take i ++ P.spots[i] :: P.spots.drop (i + 1) := by
    rw [List.getElem_cons_drop, List.take_append_drop]
  obtain ⟨m1, m2, m3, _⟩ := spots_at h hsh hsp
  have hk : ∀ k, k < i → ∃ hk : k < P.spots.length, (P.mks [] P.spots)[k]? = some (P.tn1 (P.spots.take k) P.spots[k]) := fun k hk => ⟨by omega, by rw [mks_get P _ _ k (by omega), List.nil_append]⟩
  have hmem : ∀ y, y ∈ P.spots.take i → ∃ k, ∃ hk : k < P.spots.length, k < i ∧ P.spots[k] = y := fun y hy => by
    obtain ⟨k, hk, e⟩ := List.getElem_of_mem hy
    rw [List.length_take] at hk
    refine ⟨k, by omega, by omega, ?_⟩
    rw [List.getElem_take] at e
    exact e
  obtain ⟨w1, w2⟩ := spots_walk h.gr.ok m1
  have hc := walk_chk h.gr _ w2
  have hz := hsh _ m1
  rw [hx]
  refine ⟨?_, ?_, ?_, ?_, ?_, ?_⟩
  · rw [tn1_kind]
    split
    · exact .inr rfl
    · exact .inl rfl
  · rw [tn1_kind]
    unfold PT.tn1
    split
    · exact fun _ => ⟨rfl, rfl⟩
    · intro e; exact absurd e (by decide)
  · unfold PT.tn1
    split
    · exact .inl rfl
    · split
      · exact .inr rfl
      · exact .inl rfl
  · by_cases hd : P.isDir P.spots[i].2 = true
    · left; unfold PT.tn1; rw [if_pos hd]
    · cases hf : (P.spots.take i).find? fun y => decide (y.2 = P.spots[i].2) with
      | none => left; unfold PT.tn1; rw [if_neg hd, hf]
      | some z =>
        right
        obtain ⟨p1, k, hkl, p2, p3⟩ := List.find?_eq_some_iff_getElem.1 hf
        rw [List.length_take] at hkl
        have hki : k < i := by omega
        have hks : k < P.spots.length := by omega
        have hzk : P.spots[k] = z := by rw [← p2, List.getElem_take]
        have hz2 : z.2 = P.spots[i].2 := by simpa using p1
        refine ⟨k, _, hki, (hk k hki).2, ?_⟩
        have hn : ((P.spots.take k).find? fun y => decide (y.2 = z.2)) = none := by
          rw [List.find?_eq_none]
          intro y hy
          obtain ⟨j, hj, e⟩ := List.getElem_of_mem hy
          rw [List.length_take] at hj
          have := p3 j (by omega)
          rw [List.getElem_take] at this e
          rw [e, ← hz2] at this
          simpa using this
        rw [hzk, tn1_path, tn1_kind, hz2, if_neg hd]
        refine ⟨?_, rfl, ?_⟩
        · unfold PT.tn1
          rw [if_neg hd, hf]
        · unfold PT.tn1
          rw [hz2, if_neg hd]
          rw [hz2] at hn
          rw [hn]
  · rw [tn1_path]
    rcases List.eq_nil_or_concat P.spots[i].1 with e | ⟨a, nm, e⟩
    · exact absurd e w1
    rw [List.concat_eq_append] at e
    rw [e] at hc w2 ⊢
    have hcn := hc nm (by simp)
    have e1 : (pth (a ++ [nm])).data.toList = pthL (a ++ [nm]) := pth_data (by simp)
    have e2 : (pth (a ++ [nm])).size = (pthL (a ++ [nm])).length := pth_size (by simp)
    rw [e1, e2, cutN_pth a hcn]
    rcases m3 a nm e with rfl | ⟨d, hd⟩
    · exact .inl rfl
    · right
      obtain ⟨k, hkl, hki, ek⟩ := hmem _ hd
      refine ⟨k, _, hki, (hk k hki).2, ?_, ?_⟩
      · rw [ek, tn1_path]
        have hane := (spots_walk h.gr.ok (x := (a, d)) (by rw [← ek]; exact List.getElem_mem hkl)).1
        rw [pth_data hane, pthL_append, List.take_left]
      · rw [ek, tn1_kind]
        obtain ⟨d', q1, q2⟩ := walk_snoc.1 w2
        have q3 := (spots_walk h.gr.ok (x := (a, d)) (by rw [← ek]; exact List.getElem_mem hkl)).2
        simp only at q3
        rw [q3] at q1
        have : d = d' := congrArg Prod.fst q1
        rw [this, if_pos (E_dir q2)]
  · intro k y hki hy
    rw [(hk k hki).2] at hy
    rw [← Option.some.inj hy, tn1_path, tn1_path]
    intro e
    have hks : k < P.spots.length := by omega
    obtain ⟨v1, v2⟩ := spots_walk h.gr.ok (List.getElem_mem hks)
    have e3 := pth_inj (walk_chk h.gr _ v2) hc (hsh _ (List.getElem_mem hks)) e
    refine m2 P.spots[k].2 ?_
    rw [← e3]
    rw [List.mem_take_iff_getElem]
    exact ⟨k, by omega, rfl⟩
/-- A dump's nodes, in memory. -/
theorem counted_nd {P : PT} (h : P.Inv) (h0 : P.dump.2 = 0) (l : List Nd) (hl : l.map Nd.tn = P.dump.1) (i : Nat) (hi : i < l.length) : CntOk l i l[i] := by
  have hk : ∀ k (hk : k < l.length), P.dump.1[k]? = some l[k].tn := fun k hk => by rw [← hl, List.getElem?_map, List.getElem?_eq_getElem hk]; rfl
  have hb : ∀ {k : Nat} {y : Tn}, P.dump.1[k]? = some y → ∃ hk : k < l.length, l[k].tn = y := fun {k y} e => by
    rw [← hl, List.getElem?_map] at e
    cases h9 : l[k]? with
    | none => rw [h9] at e; cases e
    | some z =>
      rw [h9] at e
      obtain ⟨h1, h2⟩ := List.getElem?_eq_some_iff.1 h9
      exact ⟨h1, by rw [h2]; exact Option.some.inj e⟩
  have hc := dump_counted h h0 i _ (hk i hi)
  refine ⟨hc.kind, hc.dir, hc.one, ?_, ?_, fun k hkl hki e => hc.new k _ hki (hk k hkl) e⟩
  · rcases hc.there with h1 | ⟨k, y, h1, h2, h3, h4, h5⟩
    · exact .inl h1
    · obtain ⟨h6, rfl⟩ := hb h2
      exact .inr ⟨k, h6, h1, h3, h4, h5⟩
  · rcases hc.home with h1 | ⟨k, y, h1, h2, h3, h4⟩
    · exact .inl h1
    · obtain ⟨h6, rfl⟩ := hb h2
      exact .inr ⟨k, h6, h1, h3, h4⟩
#print axioms counted_nd
end Go.Proofs.YtolpcfhfcdkokaaGreatDoor
/-
  dump.Read: of bytes that are nodes' the nodes, in memory of the caller's own; of others none, and the error.
-/
namespace Go.Proofs.YtolpcfhfcdkokaaGreatDoor
open Go.RowKit

def olen : Option (List UInt8) → Nat
  | none => 0
  | some r => r.length
/-- Nodes that were read: their numbers are no negative ones. -/
def NN (l : List Nd) : Prop := ∀ x ∈ l, 0 ≤ x.kind ∧ 0 ≤ x.made
theorem Tk.stays {w : World} {B g : Nat} {o : Option (List UInt8)} (h : Tk w B g o) (hB : B ≤ g) (hg : g < w.heap.size) (b : Bool) (hb : o.isNone = true → b = true) : Tk (w.setCell ⟨g, 1, none⟩ (.bool b)) B g (if b = true then none else o) := by
  by_cases e : b = true
  · rw [if_pos e, e]
    exact h.bad
  · rw [if_neg e]
    obtain ⟨A, n, c, h0, f0, f1, hnc, h1, hr⟩ := h
    cases o with
    | none => exact absurd (hb rfl) e
    | some r =>
      refine ⟨A, n, c, (World.cell?_setCell_other _ _ _ _ (by simp)).trans h0, by simpa using f0, by simpa using f1, hnc, ?_, fun r' e' => ?_⟩
      · rw [World.cell?_setCell_same _ _ _ h1]
        simpa using e
      · obtain ⟨e1, e2⟩ := hr r' e'
        exact ⟨e1, Tk.sees hB e2 hg (chg_cell _ _ _ _)⟩
theorem Tk.keep {w w1 : World} {B g : Nat} {o : Option (List UInt8)} (h : Tk w B g o) (hB : B ≤ g) (hc : Below (g + 1) w w1) : Tk w1 B g o := by
  obtain ⟨A, n, c, h0, f0, f1, hnc, h1, hr⟩ := h
  have hk : ∀ i, w1.cell? ⟨g, i, none⟩ = w.cell? ⟨g, i, none⟩ := fun i => hc.cell (p := ⟨g, i, none⟩) (Nat.lt_succ_self g)
  have hf : ∀ i, w1.frozen? ⟨g, i, none⟩ = w.frozen? ⟨g, i, none⟩ := fun i => hc.frozen (p := ⟨g, i, none⟩) (Nat.lt_succ_self g)
  exact ⟨A, n, c, (hk 0).trans h0, (hf 0).trans f0, (hf 1).trans f1, hnc, (hk 1).trans h1, fun r e => ⟨(hr r e).1, (hr r e).2.keep fun p hp => hc.cell (by omega)⟩⟩
theorem rdd_none {len k : Nat} {r : List UInt8} {l : List Nd} (h : readL len (some r) = (readL k none).map (l.map ndP ++ ·)) (hl : len = r.length) : readL r.length (some r) = none := by
  rw [← hl, h, readL_none]
  rfl
theorem rdd_nil {len k : Nat} {r : List UInt8} {l : List Nd} (h : readL len (some r) = (readL k (some [])).map (l.map ndP ++ ·)) (hl : len = r.length) : readL r.length (some r) = some (l.map ndP) := by
  rw [← hl, h, readL_nil]
  simp
theorem rd_less {r1 : List UInt8} (hn : 0 < r1.length) : olen (rdO (some r1)) + 1 ≤ r1.length := by
  cases h : rdO (some r1) with
  | none => simp only [olen]; omega
  | some r2 =>
    have := rdO_short h
    simp only [olen]
    omega
theorem rd_step1 {r1 : List UInt8} {k : Nat} (hn : 0 < r1.length) (h : olen (some r1) ≤ k) : olen (rdO (some r1)) ≤ k - 1 := by
  have h1 := rd_less hn
  simp only [olen] at h
  omega
theorem rd_step2 {r1 : List UInt8} {l : List Nd} {x : Nd} {len : Nat} (hn : 0 < r1.length) (h : l.length + olen (some r1) ≤ len) : (l ++ [x]).length + olen (rdO (some r1)) ≤ len := by
  have h1 := rd_less hn
  rw [List.length_append, List.length_singleton]
  have h2 : olen (some r1) = r1.length := rfl
  omega
theorem rd_step3 {r1 r : List UInt8} {l : List Nd} {x : Nd} {len k : Nat} (hn : 0 < r1.length) (hk : olen (some r1) ≤ k) (h : readL len (some r) = (readL k (some r1)).map (l.map ndP ++ ·)) (hx : ndP x = rdN (some r1)) :
    Hid (readL len (some r) = (readL (k - 1) (rdO (some r1))).map ((l ++ [x]).map ndP ++ ·)) := by
  show _ = _
  have h2 : olen (some r1) = r1.length := rfl
  obtain ⟨k', rfl⟩ : ∃ k', k = k' + 1 := ⟨k - 1, by omega⟩
  rw [h, readL_step k' r1 (fun e => by rw [e] at hn; simp at hn), Nat.add_sub_cancel]
  cases readL k' (rdO (some r1)) with
  | none => rfl
  | some q => simp [hx]
theorem nn_snoc {l : List Nd} {x : Nd} (h : NN l) (hx : 0 ≤ x.kind ∧ 0 ≤ x.made) : NN (l ++ [x]) := by
  intro y hy
  rw [List.mem_append, List.mem_singleton] at hy
  rcases hy with hy | rfl
  · exact h y hy
  · exact hx
/-- What Read answers. -/
def Rdd (r : List UInt8) (w : World) (e : Ending) (w' : World) : Prop :=
  ((∃ l v, readL r.length (some r) = some (l.map ndP) ∧ NN l ∧ e = .returned (.tuple #[v, .int .i64 0]) ∧ OwnN w' w.heap.size v l) ∨
   (readL r.length (some r) = none ∧ e = .returned (.tuple #[.slice none 0 0, .int .i64 170]))) ∧ Below w.heap.size w w'

set_option maxHeartbeats 8000000 in
set_option maxRecDepth 100000 in
theorem read_any (A : Option Addr) (c : Nat) (r : List UInt8) (w : World) (hs : Sees w w.heap.size 1 A r.length (bvs r)) (hc : r.length ≤ c) (hl : r.length ≤ 1000000000) :
    Calls Tryz.prog 29 #[.slice A r.length c] w (Rdd r w) := by
  obtain ⟨len, hlen⟩ : ∃ len, len = r.length := ⟨_, rfl⟩
  have hlenH := Lib.hid hlen
  have ht0 : Tk (w.alloc (.cells #[.slice A r.length c, .bool false] 118)) w.heap.size w.heap.size (some r) := by
    have hB := Blk.new w 118 [.slice A r.length c, .bool false]
    exact ⟨A, r.length, c, hB.cell 0, hB.frozen 0, hB.frozen 1, hc, hB.cell 1, fun r' e => by cases e; exact ⟨rfl, hs.keep fun p hp => World.cell?_alloc_lt _ _ _ hp⟩⟩
  rw [← hlen] at hl ht0 ⊢
  clear hlen hs hc
  go_enter Tryz.func29, Tryz.ntmps29
  go_wp2
  obtain ⟨g, hg⟩ : ∃ g, g = w.heap.size := ⟨_, rfl⟩
  have hgH := Lib.hid hg
  have hb0 : Below w.heap.size w (w.alloc (.cells #[.slice A len c, .bool false] 118)) := (Below.refl _ _).alloc (Nat.le_refl _) _
  have hs0 : g < (w.alloc (.cells #[.slice A len c, .bool false] 118)).heap.size := by simp; omega
  rw [← hg] at ht0 hb0 ⊢
  clear hg
  go_loopg [4] len (fun k v wr => ∃ (l : List Nd) (o : Option (List UInt8)), olen o ≤ k ∧ l.length + olen o ≤ len ∧ Hid (readL len (some r) = (readL k o).map (l.map ndP ++ ·)) ∧ NN l ∧ Tk wr g g o ∧ OwnN wr (g + 1) v l ∧ g < wr.heap.size ∧ Below g w wr)
  case atStart =>
    refine ⟨[], some r, by have := hlenH.out; simp only [olen]; omega, by have := hlenH.out; simp only [olen, List.length_nil]; omega, ?_, fun x hx => absurd hx (by simp), ht0, OwnN.nil _ _, hs0, hb0⟩
    show _ = _
    simp
  case round =>
    obtain ⟨l, o, hko, hlo, hrd, hnn, ht, hO, hgw, hb⟩ := hrel
    clear ht0 hb0 hs0
    have htk := ht
    obtain ⟨A1, n1, c1, t0, f0, f1, hnc1, t1, hr1⟩ := ht
    cases o with
    | none =>
      simp only [Option.isNone_none] at t1
      by_cases hn1 : n1 = 0
      · subst hn1
        go_wp2
        go_ret2
        exact ⟨.inr ⟨rdd_none hrd.out hlenH.out, rfl⟩, hgH.out ▸ hb⟩
      · have hn2 : 0 < n1 := by omega
        go_wp2
        go_ret2
        exact ⟨.inr ⟨rdd_none hrd.out hlenH.out, rfl⟩, hgH.out ▸ hb⟩
    | some r1 =>
      simp only [Option.isNone_some] at t1
      obtain ⟨rfl, hs1⟩ := hr1 r1 rfl
      cases r1 with
      | nil =>
        simp only [List.length_nil] at t0
        go_wp2
        go_ret2
        exact ⟨.inl ⟨l, _, rdd_nil hrd.out hlenH.out, hnn, rfl, own_baseN hO (by have := hgH.out; omega)⟩, hgH.out ▸ hb⟩
      | cons x r2 =>
        have hn2 : 0 < (x :: r2).length := by simp
        clear hr1 hs1
        generalize x :: r2 = r1 at *
        go_wp2_with fail
        refine (number_any g g (some r1) 1 2 wr (by omega) (by omega) htk (Nat.le_refl _) hgw).mono ?_
        rintro e w1 ⟨rfl, ht1, hc1⟩
        have hg1 := Nat.lt_of_lt_of_le hgw hc1.size
        replace ht1 : Tk w1 g g (s1 (some r1)) := ht1
        go_wp2_with fail
        refine (number_any g g (s1 (some r1)) 8 1099511627776 w1 (by omega) (by omega) ht1 (Nat.le_refl _) hg1).mono ?_
        rintro e w2 ⟨rfl, ht2, hc2⟩
        have hg2 := Nat.lt_of_lt_of_le hg1 hc2.size
        replace ht2 : Tk w2 g g (s2 (some r1)) := ht2
        have hC2 := hc1.trans hc2 (fun _ _ e => e) (fun _ _ e => e)
        clear ht1 hc1 hc2 hg1
        have hb3 := Blk.new w2 75 [.string ⟨#[]⟩, .int .i64 (numX 1 2 (some r1)), .int .i64 (numX 8 1099511627776 (s1 (some r1))), .string ⟨#[]⟩, .slice none 0 0]
        have ht3 : Tk (w2.alloc (.cells #[.string ⟨#[]⟩, .int .i64 (numX 1 2 (some r1)), .int .i64 (numX 8 1099511627776 (s1 (some r1))), .string ⟨#[]⟩, .slice none 0 0] 75)) g g (s2 (some r1)) := ht2.keep (Nat.le_refl _) ((Below.refl _ _).alloc hg2 _)
        have hC3 := hC2.alloc (.cells #[.string ⟨#[]⟩, .int .i64 (numX 1 2 (some r1)), .int .i64 (numX 8 1099511627776 (s1 (some r1))), .string ⟨#[]⟩, .slice none 0 0] 75)
        have hh := hC2.size
        clear ht2 hC2 t0 t1 f0 f1 htk
        go_wp2_with fail
        generalize w2.alloc (.cells #[.string ⟨#[]⟩, .int .i64 (numX 1 2 (some r1)), .int .i64 (numX 8 1099511627776 (s1 (some r1))), .string ⟨#[]⟩, .slice none 0 0] 75) = w3 at *
        replace hb3 : Blk w3 w2.heap.size 75 [.string ⟨#[]⟩, .int .i64 (numX 1 2 (some r1)), .int .i64 (numX 8 1099511627776 (s1 (some r1))), .string ⟨#[]⟩, .slice none 0 0] := hb3
        generalize w2.heap.size = h at *
        have hgh : ¬ h = g := by omega
        -- the path
        refine (number_any g g (s2 (some r1)) 4 400 w3 (by omega) (by omega) ht3 (Nat.le_refl _) (by have := hC3.size; omega)).mono ?_
        rintro e w4 ⟨rfl, ht4, hc4⟩
        replace ht4 : Tk w4 g g (s3 (some r1)) := ht4
        have hC4 := hC3.trans hc4 (fun _ _ e => e) (fun _ _ e => e)
        have hb4 := hb3.chg hc4 hgh
        have hnx4 := numX_le 4 400 (s2 (some r1))
        clear ht3 hC3 hc4 hb3
        go_wp2_with fail
        refine (take_any g g (s3 (some r1)) (numX 4 400 (s2 (some r1))) w4 (by omega) ht4 (Nat.le_refl _) (by have := hC4.size; omega)).mono ?_
        rintro e w5 ⟨A5, c5, rfl, hs5, ht5, hc5⟩
        replace ht5 : Tk w5 g g (s4 (some r1)) := ht5
        have hC5 := hC4.trans hc5 (fun _ _ e => e) (fun _ _ e => e)
        have hb5 := hb4.chg hc5 hgh
        have e5 := run_str (P := Tryz.prog) Tryz.underlying64 Tryz.underlying5 c5 hs5 9 Tryz.underlying9
        have q5 := hb5.cell 0
        have z5 := hb5.frozen 0
        clear ht4 hC4 hc5 hb4 hs5
        have hT5 := Tk.keep (w1 := w5.setCell ⟨h, 0, none⟩ (.string ⟨(takeX (numX 4 400 (s2 (some r1))) (s3 (some r1))).toArray⟩)) ht5 (Nat.le_refl _) ((Below.refl _ _).setCell (show g + 1 ≤ h by omega) _)
        have hD5 := hC5.setCell (p := ⟨h, 0, none⟩) (fun e => absurd e (show ¬ h < wr.heap.size by omega)) (.string ⟨(takeX (numX 4 400 (s2 (some r1))) (s3 (some r1))).toArray⟩)
        have hE5 := hb5.set_ 0 (.string ⟨(takeX (numX 4 400 (s2 (some r1))) (s3 (some r1))).toArray⟩)
        clear ht5 hC5 hb5
        go_wp2_with fail
        generalize w5.setCell ⟨h, 0, none⟩ (.string ⟨(takeX (numX 4 400 (s2 (some r1))) (s3 (some r1))).toArray⟩) = w6 at *
        clear e5 q5 z5
        replace hE5 : Blk w6 h 75 [.string ⟨(takeX (numX 4 400 (s2 (some r1))) (s3 (some r1))).toArray⟩, .int .i64 (numX 1 2 (some r1)), .int .i64 (numX 8 1099511627776 (s1 (some r1))), .string ⟨#[]⟩, .slice none 0 0] := hE5
        have hb6 := hE5; clear hE5
        have ht6 := hT5; clear hT5
        have hC6 := hD5; clear hD5
        -- the path told ahead
        refine (number_any g g (s4 (some r1)) 4 400 w6 (by omega) (by omega) ht6 (Nat.le_refl _) (by have := hC6.size; omega)).mono ?_
        rintro e w7 ⟨rfl, ht7, hc7⟩
        replace ht7 : Tk w7 g g (s5 (some r1)) := ht7
        have hC7 := hC6.trans hc7 (fun _ _ e => e) (fun _ _ e => e)
        have hb7 := hb6.chg hc7 hgh
        have hnx7 := numX_le 4 400 (s4 (some r1))
        clear ht6 hC6 hc7 hb6
        go_wp2_with fail
        refine (take_any g g (s5 (some r1)) (numX 4 400 (s4 (some r1))) w7 (by omega) ht7 (Nat.le_refl _) (by have := hC7.size; omega)).mono ?_
        rintro e w8 ⟨A8, c8, rfl, hs8, ht8, hc8⟩
        replace ht8 : Tk w8 g g (s6 (some r1)) := ht8
        have hC8 := hC7.trans hc8 (fun _ _ e => e) (fun _ _ e => e)
        have hb8 := hb7.chg hc8 hgh
        have e8 := run_str (P := Tryz.prog) Tryz.underlying64 Tryz.underlying5 c8 hs8 9 Tryz.underlying9
        have q8 := hb8.cell 3
        have z8 := hb8.frozen 3
        clear ht7 hC7 hc8 hb7 hs8
        have hT8 := Tk.keep (w1 := w8.setCell ⟨h, 3, none⟩ (.string ⟨(takeX (numX 4 400 (s4 (some r1))) (s5 (some r1))).toArray⟩)) ht8 (Nat.le_refl _) ((Below.refl _ _).setCell (show g + 1 ≤ h by omega) _)
        have hD8 := hC8.setCell (p := ⟨h, 3, none⟩) (fun e => absurd e (show ¬ h < wr.heap.size by omega)) (.string ⟨(takeX (numX 4 400 (s4 (some r1))) (s5 (some r1))).toArray⟩)
        have hE8 := hb8.set_ 3 (.string ⟨(takeX (numX 4 400 (s4 (some r1))) (s5 (some r1))).toArray⟩)
        clear ht8 hC8 hb8
        go_wp2_with fail
        generalize w8.setCell ⟨h, 3, none⟩ (.string ⟨(takeX (numX 4 400 (s4 (some r1))) (s5 (some r1))).toArray⟩) = w9 at *
        clear e8 q8 z8
        replace hE8 : Blk w9 h 75 [.string ⟨(takeX (numX 4 400 (s2 (some r1))) (s3 (some r1))).toArray⟩, .int .i64 (numX 1 2 (some r1)), .int .i64 (numX 8 1099511627776 (s1 (some r1))), .string ⟨(takeX (numX 4 400 (s4 (some r1))) (s5 (some r1))).toArray⟩, .slice none 0 0] := hE8
        have hb9 := hE8; clear hE8
        have ht9 := hT8; clear hT8
        have hC9 := hD8; clear hD8
        -- the bytes
        refine (number_any g g (s6 (some r1)) 4 136704 w9 (by omega) (by omega) ht9 (Nat.le_refl _) (by have := hC9.size; omega)).mono ?_
        rintro e w10 ⟨rfl, ht10, hc10⟩
        replace ht10 : Tk w10 g g (s7 (some r1)) := ht10
        have hC10 := hC9.trans hc10 (fun _ _ e => e) (fun _ _ e => e)
        have hb10 := hb9.chg hc10 hgh
        have hnx10 := numX_le 4 136704 (s6 (some r1))
        clear ht9 hC9 hc10 hb9
        go_wp2_with fail
        refine (take_any g g (s7 (some r1)) (numX 4 136704 (s6 (some r1))) w10 (by omega) ht10 (Nat.le_refl _) (by have := hC10.size; omega)).mono ?_
        rintro e w11 ⟨A11, c11, rfl, hs11, ht11, hc11⟩
        replace ht11 : Tk w11 g g (s8 (some r1)) := ht11
        have hC11 := hC10.trans hc11 (fun _ _ e => e) (fun _ _ e => e)
        have hb11 := hb10.chg hc11 hgh
        clear ht10 hC10 hc11 hb10
        have htl := takeX_len (numX 4 136704 (s6 (some r1))) (s7 (some r1))
        go_wp2_with fail
        refine (clone_any g A11 c11 _ w11 hs11 (by have := hC11.size; omega) (by omega)).mono ?_
        rintro e w12 ⟨v12, rfl, ho12, hB12⟩
        have hC12 := hC11.trans (Chg.of_fresh (S := fun b => b = g) hB12) (fun _ _ e => e) (fun _ _ e => e)
        have hb12 := hb11.fresh hB12
        have ht12 := ht11.keep (Nat.le_refl _) (hB12.mono (by have := hC11.size; omega))
        have q12 := hb12.cell 4
        have z12 := hb12.frozen 4
        have hh12 : h < w11.heap.size := hb11.lt
        clear ht11 hC11 hb11 hs11
        obtain ⟨A12, k12, rfl, _⟩ := Sees.of_own (B := w12.heap.size) ho12 fun g' hg' => (ho12.lt g' hg').2
        obtain ⟨da, hda⟩ : ∃ da, da = takeX (numX 4 136704 (s6 (some r1))) (s7 (some r1)) := ⟨_, rfl⟩
        rw [← hda] at ho12 htl ⊢
        have hT12 := Tk.keep (w1 := w12.setCell ⟨h, 4, none⟩ (.slice A12 da.length k12)) ht12 (Nat.le_refl _) ((Below.refl _ _).setCell (show g + 1 ≤ h by omega) _)
        have hD12 := hC12.setCell (p := ⟨h, 4, none⟩) (fun e => absurd e (show ¬ h < wr.heap.size by omega)) (.slice A12 da.length k12)
        have hE12 := hb12.set_ 4 (.slice A12 da.length k12)
        have ho13 := own_chg (own_base ho12 (base' := wr.heap.size) fun g' e => by have := (ho12.lt g' e).1; omega) ((Chg.refl (fun b => b = h) w12).setCell (p := ⟨h, 4, none⟩) (fun _ => rfl) (.slice A12 da.length k12)) (fun g' e => by have := (ho12.lt g' e).1; omega)
        have hdaH := Lib.hid hda
        clear hda ht12 hC12 hb12 ho12
        go_upto_region 8 with (fail)
        generalize w12.setCell ⟨h, 4, none⟩ (.slice A12 da.length k12) = w13 at *
        clear q12 z12 hB12 hh12
        have hb13 : Blk w13 h 75 [Value.string ⟨(takeX (numX 4 400 (s2 (some r1))) (s3 (some r1))).toArray⟩, .int .i64 (numX 1 2 (some r1)), .int .i64 (numX 8 1099511627776 (s1 (some r1))), Value.string ⟨(takeX (numX 4 400 (s4 (some r1))) (s5 (some r1))).toArray⟩, .slice A12 da.length k12] := hE12
        have ht13 := hT12
        have hC13 := hD12
        clear hE12 hT12 hD12
        have q1 := hb13.cell 1
        have htk := ht13
        obtain ⟨A13, n13, c13, t0, f0, f1, _, t1, _⟩ := ht13
        have hk1 := numX_le 1 2 (some r1)
        go_cut [] from 10 to 61 (fun wx => ∃ b : Bool, wx = w13.setCell ⟨g, 1, none⟩ (.bool b) ∧ Hid (b = decide (rdO (some r1) = none)))
        case first =>
          rcases h8 : s8 (some r1) with _ | r8
          · have hro : rdO (some r1) = none := by unfold rdO; split <;> simp [h8]
            have hd : Hid (true = decide (rdO (some r1) = none)) := by show _ = _; simp [hro]
            rw [h8] at t1
            simp only [Option.isNone_none] at t1
            clear h8 hro
            go_wp2
            go_meet
            exact ⟨_, rfl, hd⟩
          · rw [h8] at t1
            simp only [Option.isNone_some] at t1
            by_cases hk0 : numX 1 2 (some r1) = 0
            · have hro : rdO (some r1) = none := by unfold rdO; rw [if_pos hk0]
              have hd : Hid (true = decide (rdO (some r1) = none)) := by show _ = _; simp [hro]
              rw [hk0] at q1
              clear h8 hro hk0
              go_wp2
              go_meet
              exact ⟨_, rfl, hd⟩
            · have hro : rdO (some r1) = some r8 := by unfold rdO; rw [if_neg hk0, h8]
              have hd : Hid (((numX 1 2 (some r1) : Int) == 0) = decide (rdO (some r1) = none)) := by
                show _ = _
                have hk2 : ((numX 1 2 (some r1) : Int) == 0) = false := by simpa using hk0
                rw [hk2, hro]
                rfl
              clear h8 hro
              go_wp2
              go_meet
              exact ⟨_, rfl, hd⟩
        case rest =>
          obtain ⟨b, rfl, hbd⟩ := hcut
          have hTk : Tk (w13.setCell ⟨g, 1, none⟩ (.bool b)) g g (rdO (some r1)) := by
            have h1 := htk.stays (Nat.le_refl _) (by have := hC13.size; omega) b (fun e => by
              rw [hbd.out]
              have : s8 (some r1) = none := by simpa using e
              simp [rdO, this])
            have h2 : (if b = true then none else s8 (some r1)) = rdO (some r1) := by
              rw [hbd.out]
              unfold rdO
              by_cases e : numX 1 2 (some r1) = 0
              · simp [e]
              · rw [if_neg e]
                cases s8 (some r1) <;> simp
            rw [h2] at h1
            exact h1
          have hC14 := hC13.setCell (p := ⟨g, 1, none⟩) (fun _ => rfl) (.bool b)
          have hb14 := hb13.far (p := ⟨g, 1, none⟩) hgh (.bool b)
          have ho14 := own_chg ho13 (chg_cell w13 g 1 (.bool b)) (fun g' e => by have := (ho13.lt g' e).1; omega)
          clear htk hC13 hb13 ho13 t0 t1 f0 f1 q1
          generalize w13.setCell ⟨g, 1, none⟩ (.bool b) = w14 at *
          obtain ⟨x, hx⟩ : ∃ x : Nd, x = ⟨⟨(takeX (numX 4 400 (s2 (some r1))) (s3 (some r1))).toArray⟩, (numX 1 2 (some r1) : Int), (numX 8 1099511627776 (s1 (some r1)) : Int), ⟨(takeX (numX 4 400 (s4 (some r1))) (s5 (some r1))).toArray⟩, A12, k12, da⟩ := ⟨_, rfl⟩
          have hxp : Hid (ndP x = rdN (some r1)) := by
            show _ = _
            rw [hx, hdaH.out]
            simp [ndP, rdN]
          have hxn : 0 ≤ x.kind ∧ 0 ≤ x.made := by rw [hx]; simp
          have hb15 : Blk w14 h 75 (cells5 x) := by rw [hx]; exact hb14
          have ho15 : w14.ownsRow wr.heap.size 5 1 (ndV x) x.data.length (bvs x.data) := by rw [hx]; exact ho14
          have q0 : w14.cell? ⟨h, 0, none⟩ = some (.string x.path) := hb15.cell 0
          have q1 : w14.cell? ⟨h, 1, none⟩ = some (.int .i64 x.kind) := hb15.cell 1
          have q2 : w14.cell? ⟨h, 2, none⟩ = some (.int .i64 x.made) := hb15.cell 2
          have q3 : w14.cell? ⟨h, 3, none⟩ = some (.string x.same) := hb15.cell 3
          have q4 : w14.cell? ⟨h, 4, none⟩ = some (.slice x.dA x.data.length x.dc) := hb15.cell 4
          clear hx hb14 hb15 ho14 hdaH hnx4 hnx7 hnx10 hk1 htl
          have hO14 := hO.chg hC14 (fun b hb e => by omega)
          have hgw14 : g + 1 ≤ w14.heap.size := by have := hC14.size; omega
          have hlb : l.length < len := by have h1 : 0 < olen (some r1) := hn2; omega
          obtain ⟨iN, hiN, hzN0, hzN1, hzN2⟩ := info_parts infoNode
          go_wp2_with (first
            | (at_builtin; refine wpList_app _ rfl (.tmp 58) (.tmp 60) _ _ rfl (g + 1) 75 iN _ 5 72 Tryz.underlying31 hiN hzN0 hzN1 hzN2 rfl u4 l.length (ncs l) rfl (hO14.row.alloc _) 1 (cells5 x) (src_node w14 Tryz.underlying31 x _) (by unfold maxLen; omega) (by omega) (by simp; omega) ?_; intro v' w15 ho' hg' hat'))
          have hG := Grows.of_law ((Below.refl w14.heap.size w14).alloc (Nat.le_refl _) _) hg' hat' (by simp)
          have hO15 := hO.step hC14 (fun b hb e => by omega) (by omega) ho15 ho' hG
          have hB15 : Below (g + 1) w14 w15 := hG.chg.below hgw14 (fun b hb e => by have := (hO.row.lt b e).1; omega)
          have hT15 := hTk.keep (Nat.le_refl _) hB15
          have hb15 : Below g w w15 := (hb.trans (hC14.below (by omega) (fun b hb e => by omega))).trans (hB15.mono (by omega))
          have hg15 : g < w15.heap.size := by have := hG.chg.size; omega
          clear ho' hg' hat' hG hTk ho15 hO14 hC14 hO hb hgw hgw14 q0 q1 q2 q3 q4
          go_wp2
          go_roundg (gk - 1)
          case measure => have h1 : 0 < olen (some r1) := hn2; omega
          case rel => exact ⟨l ++ [x], rdO (some r1), rd_step1 hn2 hko, rd_step2 hn2 hlo, rd_step3 hn2 hko hrd.out hxp.out, nn_snoc hnn hxn, hT15, hO15, hg15, hb15⟩
#print axioms read_any
end Go.Proofs.YtolpcfhfcdkokaaGreatDoor
