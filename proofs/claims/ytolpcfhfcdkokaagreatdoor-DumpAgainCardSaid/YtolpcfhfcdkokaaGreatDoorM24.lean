/- Joined out of the texts Take, Number, Clone, Same, Nrow. -/
import Derived.Laws.Bits64b
import Derived.Test.YtolpcfhfcdkokaaGreatDoorM04
import Derived.Test.YtolpcfhfcdkokaaGreatDoorM05
import Derived.Test.YtolpcfhfcdkokaaGreatDoorM06
import Derived.Test.YtolpcfhfcdkokaaGreatDoorM23
/-
  The taker: take, number; slices.Clone of bytes.
-/
namespace Go.Proofs.YtolpcfhfcdkokaaGreatDoor
open Go.RowKit

/-- The taker's block: bytes that are left (none: bad). -/
def Tk (w : World) (B g : Nat) (o : Option (List UInt8)) : Prop :=
  ∃ A n c, w.cell? ⟨g, 0, none⟩ = some (.slice A n c) ∧ w.frozen? ⟨g, 0, none⟩ = false ∧ w.frozen? ⟨g, 1, none⟩ = false ∧ n ≤ c ∧
    w.cell? ⟨g, 1, none⟩ = some (.bool o.isNone) ∧ ∀ r, o = some r → n = r.length ∧ Sees w B 1 A n (bvs r)

theorem Tk.bad {w : World} {B g : Nat} {o : Option (List UInt8)} (h : Tk w B g o) : Tk (w.setCell ⟨g, 1, none⟩ (.bool true)) B g none := by
  obtain ⟨A, n, c, h0, f0, f1, hnc, h1, _⟩ := h
  refine ⟨A, n, c, (World.cell?_setCell_other _ _ _ _ (by simp)).trans h0, by simpa using f0, by simpa using f1, hnc, World.cell?_setCell_same _ _ _ h1, fun r e => by cases e⟩
theorem chg_cell (w : World) (g i : Nat) (u : Value) : Chg (· = g) w (w.setCell ⟨g, i, none⟩ u) := (Chg.refl (fun b => b = g) w).setCell (p := ⟨g, i, none⟩) (fun _ => rfl) u
theorem Tk.sees {w w1 : World} {B g : Nat} (hB : B ≤ g) {A : Option Addr} {n : Nat} {xs : List Value} (h : Sees w B 1 A n xs) (hsz : g < w.heap.size) (hc : Chg (· = g) w w1) : Sees w1 B 1 A n xs :=
  h.keep fun p hp => hc.cell (by omega) (by omega)
theorem Sees.drop {w : World} {B : Nat} {A A' : Option Addr} {n k : Nat} {xs : List Value} (h : Sees w B 1 A n xs) (hk : k ≤ n) (hA : k < n → A' = A.map (·.add k)) : Sees w B 1 A' (n - k) (xs.drop k) :=
  ⟨by rw [List.length_drop, h.len]; omega, fun hn => by
    obtain ⟨b, off, rfl, hb, hc⟩ := h.at_ (by omega)
    refine ⟨b, off + k, by rw [hA (by omega)]; simp [Addr.add], hb, fun j u hu => ?_⟩
    rw [List.getElem?_drop] at hu
    rw [Nat.add_assoc]
    exact hc (k + j) u hu⟩
theorem Tk.went {w : World} {B g k c c' : Nat} {r : List UInt8} {A A' : Option Addr} (h0 : w.cell? ⟨g, 0, none⟩ = some (.slice A r.length c)) (f0 : w.frozen? ⟨g, 0, none⟩ = false) (f1 : w.frozen? ⟨g, 1, none⟩ = false)
    (h1 : w.cell? ⟨g, 1, none⟩ = some (.bool false)) (hs : Sees w B 1 A r.length (bvs r)) (hk : k ≤ r.length) (hB : B ≤ g) (hg : g < w.heap.size) (hA : k < r.length → A' = A.map (·.add k)) (hc' : r.length - k ≤ c') :
    Tk (w.setCell ⟨g, 0, none⟩ (.slice A' (r.length - k) c')) B g (some (r.drop k)) := by
  refine ⟨A', r.length - k, c', World.cell?_setCell_same _ _ _ h0, by simpa using f0, by simpa using f1, hc', (World.cell?_setCell_other _ _ _ _ (by simp)).trans h1, fun r' e => ?_⟩
  cases e
  refine ⟨by simp, Tk.sees hB ?_ hg (chg_cell _ _ _ _)⟩
  have := hs.drop hk hA
  simpa [bvs, List.map_drop] using this

set_option maxHeartbeats 1600000 in
set_option maxRecDepth 100000 in
theorem take_any (B g : Nat) (o : Option (List UInt8)) (k : Nat) (w : World) (hk : k ≤ 140737488351232) (ht : Tk w B g o) (hB : B ≤ g) (hg : g < w.heap.size) :
    Calls Tryz.prog 46 #[.pointer (some ⟨g, 0, none⟩), .int .i64 k] w fun e w' => ∃ A c, e = .returned (.slice A (takeX k o).length c) ∧
      Sees w' B 1 A (takeX k o).length (bvs (takeX k o)) ∧ Tk w' B g (takeO k o) ∧ Chg (· = g) w w' := by
  obtain ⟨A, n, c, h0, f0, f1, hnc, h1, hr⟩ := ht
  cases o with
  | none =>
    simp only [Option.isNone_none] at h1
    go_enter Tryz.func46, Tryz.ntmps46
    go_wp2
    go_ret
    exact ⟨none, 0, rfl, Sees.nil, Tk.bad (o := none) ⟨A, n, c, h0, f0, f1, hnc, h1, hr⟩, chg_cell _ _ _ _⟩
  | some r =>
    simp only [Option.isNone_some] at h1
    obtain ⟨rfl, hs⟩ := hr r rfl
    go_enter Tryz.func46, Tryz.ntmps46
    by_cases hkn : r.length < k
    · go_wp2
      go_ret
      simp only [takeX, takeO, if_pos hkn]
      exact ⟨none, 0, rfl, Sees.nil, Tk.bad (o := some r) ⟨A, _, c, h0, f0, f1, hnc, h1, hr⟩, chg_cell _ _ _ _⟩
    · have hX : takeX k (some r) = r.take k := if_neg hkn
      have hO : takeO k (some r) = some (r.drop k) := if_neg hkn
      have hl : (r.take k).length = k := by rw [List.length_take]; omega
      have hsk := hs.take (k := k) (by omega)
      rw [Nat.mul_one, show (bvs r).take k = bvs (r.take k) by simp [bvs, List.map_take]] at hsk
      rw [hX, hO, hl]
      go_wp2
      · go_ret
        exact ⟨_, ⟨_, rfl⟩, Tk.sees hB hsk hg (chg_cell _ _ _ _), Tk.went h0 f0 f1 h1 hs (by omega) hB hg (fun h => by omega) (by omega), chg_cell _ _ _ _⟩
      · go_ret
        exact ⟨_, ⟨_, rfl⟩, Tk.sees hB hsk hg (chg_cell _ _ _ _), Tk.went h0 f0 f1 h1 hs (by omega) hB hg (fun h => rfl) (by omega), chg_cell _ _ _ _⟩
#print axioms take_any
end Go.Proofs.YtolpcfhfcdkokaaGreatDoor
/-
  The taker's number.
-/
namespace Go.Proofs.YtolpcfhfcdkokaaGreatDoor
open Go.RowKit

theorem takeX_len (k : Nat) (o : Option (List UInt8)) : (takeX k o).length ≤ k := by
  cases o with
  | none => exact Nat.zero_le _
  | some r =>
    show (if r.length < k then [] else r.take k).length ≤ k
    by_cases h : r.length < k
    · rw [if_pos h]
      exact Nat.zero_le _
    · rw [if_neg h]
      exact List.length_take_le _ _

theorem or_step (xs : List UInt8) (j : Nat) (hj : j < xs.length) (h8 : j < 8) :
    bits .or .u64 (numL (xs.take j) : Int) (IntKind.u64.wrap (IntKind.u64.wrap (xs[j].toNat : Int) * 2 ^ (8 * j))) = (numL (xs.take (j + 1)) : Int) := by
  have hx : xs[j].toNat < 256 := xs[j].toNat_lt
  have hp : 2 ^ (8 * j) ≤ 2 ^ 56 := Nat.pow_le_pow_right (by decide) (by omega)
  have hl : (xs.take j).length = j := by rw [List.length_take]; omega
  have ha := numL_lt (xs.take j)
  rw [hl] at ha
  have hm : xs[j].toNat * 2 ^ (8 * j) ≤ 255 * 2 ^ 56 := Nat.mul_le_mul (by omega) hp
  have e1 : IntKind.u64.wrap (xs[j].toNat : Int) = (xs[j].toNat : Int) := by rw [IntKind.wrap_u64]; omega
  have e2 : (xs[j].toNat : Int) * 2 ^ (8 * j) = ((xs[j].toNat * 2 ^ (8 * j) : Nat) : Int) := by rw [Int.natCast_mul, Int.natCast_pow]; rfl
  have h := numL_or (xs.take j) xs[j]
  rw [hl, List.take_append_getElem hj] at h
  rw [e1, e2]
  generalize xs[j].toNat * 2 ^ (8 * j) = m at *
  have e3 : IntKind.u64.wrap (m : Int) = (m : Int) := by rw [IntKind.wrap_u64]; omega
  rw [e3, bits_or_u64_nat _ _ (by omega) (by omega), h]

set_option maxHeartbeats 1600000 in
set_option maxRecDepth 100000 in
theorem number_any (B g : Nat) (o : Option (List UInt8)) (k most : Nat) (w : World) (hk : k ≤ 8) (hm : most ≤ 1099511627776) (ht : Tk w B g o) (hB : B ≤ g) (hg : g < w.heap.size) :
    Calls Tryz.prog 45 #[.pointer (some ⟨g, 0, none⟩), .int .i64 k, .int .i64 most] w fun e w' => e = .returned (.int .i64 (numX k most o)) ∧
      Tk w' B g (numO k most o) ∧ Chg (fun b => b = g) w w' := by
  have hT := take_any B g o k w (by omega) ht hB hg
  have hlx := takeX_len k o
  unfold numX numO
  generalize takeX k o = xs at *
  generalize takeO k o = o1 at *
  obtain ⟨len, hlen⟩ : ∃ len, len = xs.length := ⟨_, rfl⟩
  have hlenH := Lib.hid hlen
  rw [← hlen] at hT hlx
  clear hlen
  go_enter Tryz.func45, Tryz.ntmps45
  go_wp2_with fail
  refine hT.mono ?_
  rintro e w1 ⟨A, c, rfl, hs, ht1, hc1⟩
  go_wp2
  go_loopw [7, 14] (fun u i wr => ∃ j : Nat, j ≤ len ∧ i = .int .i64 j ∧ u = .int .u64 (numL (xs.take j) : Int) ∧ wr = w1) (fun _ i _ => len - (intOf i).toNat)
  case atStart => exact ⟨0, Nat.zero_le _, rfl, by simp [numL], by trivial⟩
  case round =>
    obtain ⟨j, hj, rfl, rfl, rfl⟩ := hrel
    by_cases hjk : j < len
    · have hjx : j < xs.length := by have := hlenH.out; omega
      obtain ⟨b, off, rfl, hb, hcell⟩ := hs.at_ (by omega)
      have hx := hcell j _ (bvs_get xs j hjx)
      go_wp2
      go_roundw
      case rel =>
        exact ⟨j + 1, by omega, by go_num, congrArg (Value.int .u64) (or_step xs j hjx (by omega)), by trivial⟩
      case measure => simp [intOf]; omega
    · obtain rfl : j = len := by omega
      have hxx : xs.take j = xs := by rw [hlenH.out]; exact List.take_length
      rw [hxx] at *
      by_cases hmo : numL xs ≤ most
      · go_wp2
        go_ret
        exact ⟨rfl, ht1, hc1⟩
      · obtain ⟨A1, n1, c1, k0, f0, f1, hnc1, k1, hr1⟩ := ht1
        go_wp2
        go_ret
        exact ⟨rfl, Tk.bad (o := o1) ⟨A1, n1, c1, k0, f0, f1, hnc1, k1, hr1⟩, hc1.setCell (p := ⟨g, 1, none⟩) (fun _ => rfl) _⟩
#print axioms number_any
end Go.Proofs.YtolpcfhfcdkokaaGreatDoor
/-
  slices.Clone of bytes: a new row.
-/
namespace Go.Proofs.YtolpcfhfcdkokaaGreatDoor
open Go.RowKit

set_option maxHeartbeats 1600000 in
set_option maxRecDepth 100000 in
theorem clone_any (B : Nat) (A : Option Addr) (c : Nat) (xs : List UInt8) (w : World) (hs : Sees w B 1 A xs.length (bvs xs)) (hB : B ≤ w.heap.size) (hl : xs.length ≤ 1000000000) :
    Calls Tryz.prog 47 #[.slice A xs.length c] w fun e w' => ∃ v', e = .returned v' ∧ w'.ownsRow w.heap.size 5 1 v' xs.length (bvs xs) ∧ Below w.heap.size w w' := by
  go_enter Tryz.func47, Tryz.ntmps47
  have hq : ∀ n c', (binOp .eql 64 (.slice A n c') (.slice none 0 0)).run Tryz.prog w = .ok (.bool A.isNone) w := fun n c' => by
    have h : ∀ d : Nat, (Op.equalIn (d + 1) 64 (.slice A n c') (.slice none 0 0)).run Tryz.prog w = .ok A.isNone w := fun d => by
      cases A <;> simp [Op.equalIn, run_underlying (P := Tryz.prog) Tryz.underlying64]
    simp only [binOp]
    simp [Op.equal, Op.maxDepth, h 9999]
  have hq1 := hq xs.length c
  clear hq
  rcases A with _ | ad
  · have hx : xs = [] := by
      cases xs with
      | nil => rfl
      | cons x xs => obtain ⟨b, off, e, _⟩ := hs.at_ (by simp); cases e
    subst hx
    simp only [List.length_nil, Option.isNone_none] at hq1
    simp only [List.length_nil]
    go_wp2
    go_ret
    exact ⟨_, rfl, ⟨rfl, .inl ⟨rfl, rfl⟩⟩, Below.refl _ _⟩
  · simp only [Option.isNone_some] at hq1
    obtain ⟨i0, hi, hz0, hz1, hz2⟩ := info_parts infoU8
    have hbl : Below w.heap.size w (w.alloc (.cells #[] 5)) := (Below.refl _ _).alloc (Nat.le_refl _) _
    have ho0 : (w.alloc (.cells #[] 5)).ownsRow w.heap.size 5 1 (.slice (some ⟨w.heap.size, 0, none⟩) 0 0) 0 [] := ⟨rfl, .inr ⟨w.heap.size, 0, #[], rfl, Nat.le_refl _, heap_alloc_new w _, Nat.le_refl _, by unfold maxLen; omega, rfl, rfl⟩⟩
    go_wp2_with (first
      | (at_builtin; refine wpList_app _ rfl _ _ _ _ rfl w.heap.size 5 i0 (.int .u8 0) 1 1 Tryz.underlying64 hi hz0 hz1 hz2 rfl _ 0 [] rfl ho0 xs.length (bvs xs) (src_sees _ Tryz.underlying64 c ((hs.more hB).below hbl) (bvs_one xs)) (by unfold maxLen; omega) (by omega) (by simp) ?_; intro v' w' ho' hg' hat')
      | go_in)
    go_wp2
    go_ret
    exact ⟨_, rfl, by simpa using ho', hbl.grown hg' (by simp) (fun g e => by simp [Act.eval, Value.ownBlock] at e; omega)⟩
#print axioms clone_any
end Go.Proofs.YtolpcfhfcdkokaaGreatDoor
/-
  same: two lists of nodes that are alike; kept: are nodes that were lent as they were, and all marks?
-/
namespace Go.Proofs.YtolpcfhfcdkokaaGreatDoor
open Go.RowKit

/-- Two nodes alike, wherever their bytes lie. -/
def ndSame (x y : Nd) : Prop := x.path = y.path ∧ x.kind = y.kind ∧ x.made = y.made ∧ x.same = y.same ∧ x.data = y.data

set_option maxHeartbeats 1600000 in
set_option maxRecDepth 100000 in
theorem same_true (A1 A2 : Option Addr) (k1 k2 : Nat) (l1 l2 : List Nd) (w : World) (hN1 : NodesAt w w.heap.size A1 l1) (hN2 : NodesAt w w.heap.size A2 l2) (hll : l2.length = l1.length) (hln : l1.length ≤ 1000000000)
    (hs : ∀ i (h1 : i < l1.length) (h2 : i < l2.length), ndSame l1[i] l2[i]) :
    Calls Tryz.prog 12 #[.slice A1 l1.length k1, .slice A2 l1.length k2] w fun e w' => e = .returned (.bool true) ∧ Below w.heap.size w w' := by
  obtain ⟨len, hlen⟩ : ∃ len, len = l1.length := ⟨_, rfl⟩
  have hlenH := Lib.hid hlen
  have hllH := Lib.hid hll
  rw [← hlen] at hln ⊢
  clear hlen hll
  go_enter Tryz.func12, Tryz.ntmps12
  go_wp2
  go_loopw [5] (fun i wr => ∃ j : Nat, j ≤ len ∧ i = .int .i64 j ∧ Below w.heap.size w wr) (fun i _ => len - (intOf i).toNat)
  case atStart => exact ⟨0, Nat.zero_le _, rfl, Below.refl _ _⟩
  case round =>
    obtain ⟨j, hj, rfl, hb⟩ := hrel
    by_cases hjk : j < len
    · have hj1 : j < l1.length := by have := hlenH.out; omega
      have hj2 : j < l2.length := by have := hlenH.out; have := hllH.out; omega
      obtain ⟨b1, o1, rfl, hb1, hc1⟩ := hN1.at_ (by omega)
      obtain ⟨b2, o2, rfl, hb2, hc2⟩ := hN2.at_ (by omega)
      have hx := (hc1 j hj1).keep (w1 := wr) fun p hp => hb.cell (by omega)
      have hy := (hc2 j hj2).keep (w1 := wr) fun p hp => hb.cell (by omega)
      have hsx := hs j hj1 hj2
      have hd1 := (hN1.data _ (List.getElem_mem hj1)).below hb
      have hd2 := (hN2.data _ (List.getElem_mem hj2)).below hb
      clear hs hc1 hc2 hN1 hN2
      generalize l1[j] = x at *
      generalize l2[j] = y at *
      obtain ⟨pa, ki, ma, sa, dA, dc, da⟩ := x
      obtain ⟨pa2, ki2, ma2, sa2, dA2, dc2, da2⟩ := y
      obtain ⟨e1, e2, e3, e4, e5⟩ := hsx
      simp only at e1 e2 e3 e4 e5
      subst e1 e2 e3 e4 e5
      obtain ⟨c0, c1, c2, c3, c4⟩ := hx
      obtain ⟨d0, d1, d2, d3, d4⟩ := hy
      simp only at c0 c1 c2 c3 c4 d0 d1 d2 d3 d4 hd1 hd2
      have hbs := hb.size
      have y0 := (World.cell?_alloc_lt wr (.cells #[.string pa, .int .i64 ki, .int .i64 ma, .string sa, .slice dA da.length dc] 75) ⟨b2, o2 + j * 5, none⟩ (by show b2 < _; omega)).trans d0
      have y1 := (World.cell?_alloc_lt wr (.cells #[.string pa, .int .i64 ki, .int .i64 ma, .string sa, .slice dA da.length dc] 75) ⟨b2, o2 + j * 5 + 1, none⟩ (by show b2 < _; omega)).trans d1
      have y2 := (World.cell?_alloc_lt wr (.cells #[.string pa, .int .i64 ki, .int .i64 ma, .string sa, .slice dA da.length dc] 75) ⟨b2, o2 + j * 5 + 2, none⟩ (by show b2 < _; omega)).trans d2
      have y3 := (World.cell?_alloc_lt wr (.cells #[.string pa, .int .i64 ki, .int .i64 ma, .string sa, .slice dA da.length dc] 75) ⟨b2, o2 + j * 5 + 3, none⟩ (by show b2 < _; omega)).trans d3
      have y4 := (World.cell?_alloc_lt wr (.cells #[.string pa, .int .i64 ki, .int .i64 ma, .string sa, .slice dA da.length dc] 75) ⟨b2, o2 + j * 5 + 4, none⟩ (by show b2 < _; omega)).trans d4
      have keep2 : ∀ p : Addr, p.block < w.heap.size → ((wr.alloc (.cells #[.string pa, .int .i64 ki, .int .i64 ma, .string sa, .slice dA da.length dc] 75)).alloc (.cells #[.string pa, .int .i64 ki, .int .i64 ma, .string sa, .slice dA2 da.length dc2] 75)).cell? p = wr.cell? p := fun p hp =>
        (World.cell?_alloc_lt _ _ p (by simp; omega)).trans (World.cell?_alloc_lt wr _ p (by omega))
      have s1 := run_str (P := Tryz.prog) Tryz.underlying64 Tryz.underlying5 dc (hd1.keep keep2) 9 Tryz.underlying9
      have s2 := run_str (P := Tryz.prog) Tryz.underlying64 Tryz.underlying5 dc2 (hd2.keep keep2) 9 Tryz.underlying9
      clear keep2 hd1 hd2 d0 d1 d2 d3 d4
      go_wp2
      go_roundw
      case rel => exact ⟨j + 1, by omega, by go_num, (hb.alloc hbs _).alloc (by simp; omega) _⟩
      case measure => simp [intOf]; omega
    · obtain rfl : j = len := by omega
      clear hs hN1 hN2
      go_wp2
      go_ret
      exact ⟨rfl, hb⟩
#print axioms same_true
end Go.Proofs.YtolpcfhfcdkokaaGreatDoor
/-
  Rows of nodes: a slice of nodes as cells; nodes of one's own, each with its bytes in a row of its own, no two rows in one block.
-/
namespace Go.Proofs.YtolpcfhfcdkokaaGreatDoor
open Go.RowKit

/-- A node's five cells. -/
def cells5 (x : Nd) : List Value := [.string x.path, .int .i64 x.kind, .int .i64 x.made, .string x.same, .slice x.dA x.data.length x.dc]
def ncs (l : List Nd) : List Value := l.flatMap cells5
/-- The slice of a node's bytes. -/
def ndV (x : Nd) : Value := .slice x.dA x.data.length x.dc

theorem ncs_length (l : List Nd) : (ncs l).length = l.length * 5 := by
  induction l with
  | nil => rfl
  | cons x l ih =>
    simp only [ncs, List.flatMap_cons, List.length_append, List.length_cons] at *
    rw [ih]
    simp only [cells5, List.length_cons, List.length_nil]
    omega
theorem ncs_append (a b : List Nd) : ncs (a ++ b) = ncs a ++ ncs b := by unfold ncs; rw [List.flatMap_append]
theorem ncs_snoc (a : List Nd) (x : Nd) : ncs (a ++ [x]) = ncs a ++ cells5 x := by rw [ncs_append]; simp [ncs]
theorem ncs_one (l : List Nd) : ∀ u ∈ ncs l, u.oneCell' = true := by
  intro u hu
  obtain ⟨x, _, hx⟩ := List.mem_flatMap.1 hu
  simp only [cells5, List.mem_cons, List.not_mem_nil, or_false] at hx
  rcases hx with rfl | rfl | rfl | rfl | rfl <;> rfl
theorem ncs_get : ∀ (l : List Nd) (i : Nat) (h : i < l.length) (k : Nat), k < 5 → (ncs l)[i * 5 + k]? = (cells5 l[i])[k]? := by
  intro l
  induction l with
  | nil => intro i h; exact absurd h (by simp)
  | cons x l ih =>
    intro i h k hk
    have e : ncs (x :: l) = cells5 x ++ ncs l := rfl
    have h5 : (cells5 x).length = 5 := rfl
    rw [e]
    cases i with
    | zero => rw [List.getElem?_append_left (by omega)]; simp
    | succ i =>
      rw [List.getElem?_append_right (by omega), h5, show (i + 1) * 5 + k - 5 = i * 5 + k by omega, ih i (by simpa using h) k hk]
      simp
section
variable {w w1 : World} {B : Nat} {A : Option Addr} {l : List Nd}
theorem NodesAt.sees (h : NodesAt w B A l) : Sees w B 5 A l.length (ncs l) :=
  ⟨ncs_length l, fun hn => by
    obtain ⟨b, off, e, hb, hc⟩ := h.at_ hn
    refine ⟨b, off, e, hb, fun j u hu => ?_⟩
    have hj : j < l.length * 5 := by
      rcases Nat.lt_or_ge j (l.length * 5) with h | h
      · exact h
      · rw [List.getElem?_eq_none (by rw [ncs_length]; exact h)] at hu; cases hu
    have hi : j / 5 < l.length := by omega
    obtain ⟨c0, c1, c2, c3, c4⟩ := hc (j / 5) hi
    have hg := ncs_get l (j / 5) hi (j % 5) (by omega)
    rw [show j / 5 * 5 + j % 5 = j by omega, hu] at hg
    have hm : j % 5 = 0 ∨ j % 5 = 1 ∨ j % 5 = 2 ∨ j % 5 = 3 ∨ j % 5 = 4 := by omega
    rcases hm with m | m | m | m | m <;> rw [m] at hg <;> injection hg with hg <;> subst hg
    · rw [show off + j = off + j / 5 * 5 by omega]; exact c0
    · rw [show off + j = off + j / 5 * 5 + 1 by omega]; exact c1
    · rw [show off + j = off + j / 5 * 5 + 2 by omega]; exact c2
    · rw [show off + j = off + j / 5 * 5 + 3 by omega]; exact c3
    · rw [show off + j = off + j / 5 * 5 + 4 by omega]; exact c4⟩
theorem nodes_of_sees (h : Sees w B 5 A l.length (ncs l)) (hd : ∀ x ∈ l, Sees w B 1 x.dA x.data.length (bvs x.data)) : NodesAt w B A l :=
  ⟨fun hn => by
    obtain ⟨b, off, e, hb, hc⟩ := h.at_ hn
    refine ⟨b, off, e, hb, fun i hi => ?_⟩
    have go : ∀ k u, k < 5 → (cells5 l[i])[k]? = some u → w.cell? ⟨b, off + (i * 5 + k), none⟩ = some u := fun k u hk hu => hc (i * 5 + k) u ((ncs_get l i hi k hk).trans hu)
    exact ⟨go 0 _ (by omega) rfl, go 1 _ (by omega) rfl, go 2 _ (by omega) rfl, go 3 _ (by omega) rfl, go 4 _ (by omega) rfl⟩, hd⟩
end

/-- Nodes of one's own from block B on. -/
structure OwnN (w : World) (B : Nat) (v : Value) (l : List Nd) : Prop where
  row : w.ownsRow B 75 5 v l.length (ncs l)
  data : ∀ i (h : i < l.length), w.ownsRow B 5 1 (ndV l[i]) l[i].data.length (bvs l[i].data)
  apart : ∀ i j (hi : i < l.length) (hj : j < l.length) g, i ≠ j → (ndV l[i]).ownBlock = some g → (ndV l[j]).ownBlock ≠ some g
  aside : ∀ i (h : i < l.length) g, v.ownBlock = some g → (ndV l[i]).ownBlock ≠ some g

theorem OwnN.nil (w : World) (B : Nat) : OwnN w B (.slice none 0 0) [] :=
  ⟨World.ownsRow_nil _ _ _ _, fun i h => absurd h (by simp), fun i j h => absurd h (by simp), fun i h => absurd h (by simp)⟩
theorem OwnN.chg {S : Nat → Prop} {w w1 : World} {B : Nat} {v : Value} {l : List Nd} (h : OwnN w B v l) (hc : Chg S w w1) (hS : ∀ b, B ≤ b → ¬ S b) : OwnN w1 B v l :=
  ⟨own_chg h.row hc fun g hg => hS g (h.row.lt g hg).1, fun i hi => own_chg (h.data i hi) hc fun g hg => hS g ((h.data i hi).lt g hg).1, h.apart, h.aside⟩
theorem OwnN.fresh {w w1 : World} {B : Nat} {v : Value} {l : List Nd} (h : OwnN w B v l) (hc : Below w.heap.size w w1) : OwnN w1 B v l :=
  ⟨own_fresh h.row hc, fun i hi => own_fresh (h.data i hi) hc, h.apart, h.aside⟩
theorem OwnN.nodes {w : World} {B : Nat} {v : Value} {l : List Nd} (h : OwnN w B v l) : ∃ A c, v = .slice A l.length c ∧ NodesAt w w.heap.size A l := by
  obtain ⟨A, c, e, hs⟩ := Sees.of_own (B := w.heap.size) h.row fun g hg => (h.row.lt g hg).2
  refine ⟨A, c, e, nodes_of_sees hs fun x hx => ?_⟩
  obtain ⟨i, hi, rfl⟩ := List.getElem_of_mem hx
  obtain ⟨A', c', e', hs'⟩ := Sees.of_own (B := w.heap.size) (h.data i hi) fun g hg => ((h.data i hi).lt g hg).2
  unfold ndV at e'
  injection e' with e1 e2 e3
  rw [e1]
  exact hs'
/-- One node more: its bytes in a row that was made since; the row of nodes has grown. -/
theorem OwnN.step {S : Nat → Prop} {w w1 w2 : World} {B : Nat} {v v' : Value} {l : List Nd} {x : Nd} (h : OwnN w B v l) (hc : Chg S w w1) (hS : ∀ b, B ≤ b → ¬ S b) (hB : B ≤ w.heap.size)
    (hd : w1.ownsRow w.heap.size 5 1 (ndV x) x.data.length (bvs x.data)) (hrow : w2.ownsRow B 75 5 v' (l.length + 1) (ncs l ++ cells5 x)) (hg : Grows w1 v w2 v') : OwnN w2 B v' (l ++ [x]) := by
  have hr1 := own_chg h.row hc fun g hg => hS g (h.row.lt g hg).1
  have hd1 : ∀ i (hi : i < l.length), w1.ownsRow B 5 1 (ndV l[i]) l[i].data.length (bvs l[i].data) := fun i hi => own_chg (h.data i hi) hc fun g hg => hS g ((h.data i hi).lt g hg).1
  have hlt : ∀ i (hi : i < l.length) g, (ndV l[i]).ownBlock = some g → g < w.heap.size := fun i hi g hg => ((h.data i hi).lt g hg).2
  have hvx : ∀ g, v.ownBlock = some g → (ndV x).ownBlock ≠ some g := fun g hv hx => by
    have h1 := (h.row.lt g hv).2
    have h2 := (hd.lt g hx).1
    omega
  have hd2 : ∀ i (hi : i < l.length), w2.ownsRow B 5 1 (ndV l[i]) l[i].data.length (bvs l[i].data) := fun i hi => own_chg (hd1 i hi) hg.chg fun g hi' hv => h.aside i hi g hv hi'
  have hx2 : w2.ownsRow w.heap.size 5 1 (ndV x) x.data.length (bvs x.data) := own_chg hd hg.chg fun g hx hv => hvx g hv hx
  have hget : ∀ i (hi : i < l.length) (hi' : i < (l ++ [x]).length), (l ++ [x])[i] = l[i] := fun i hi hi' => List.getElem_append_left hi
  have hlast : ∀ (hi' : l.length < (l ++ [x]).length), (l ++ [x])[l.length] = x := fun hi' => by simp
  refine ⟨by rw [ncs_snoc]; simpa using hrow, fun i hi => ?_, fun i j hi hj g hij hgi => ?_, fun i hi g hv => ?_⟩
  · rcases Nat.lt_or_ge i l.length with h1 | h1
    · rw [hget i h1]; exact hd2 i h1
    · obtain rfl : i = l.length := by rw [List.length_append, List.length_singleton] at hi; omega
      rw [hlast]; exact own_base hx2 fun g hg => by have := (hx2.lt g hg).1; omega
  · rw [List.length_append, List.length_singleton] at hi hj
    rcases Nat.lt_or_ge i l.length with h1 | h1
    · rw [hget i h1] at hgi
      rcases Nat.lt_or_ge j l.length with h2 | h2
      · rw [hget j h2]; exact h.apart i j h1 h2 g hij hgi
      · obtain rfl : j = l.length := by omega
        rw [hlast]
        intro e
        have h3 := (hd.lt g e).1
        have h4 := hlt i h1 g hgi
        omega
    · obtain rfl : i = l.length := by omega
      rw [hlast] at hgi
      have h3 := (hd.lt g hgi).1
      have h2 : j < l.length := by omega
      rw [hget j h2]
      intro e
      have h4 := hlt j h2 g e
      omega
  · rw [List.length_append, List.length_singleton] at hi
    have hcs := hc.size
    rcases Nat.lt_or_ge i l.length with h1 | h1
    · rw [hget i h1]
      intro e
      rcases hg.at_ with e1 | ⟨g', e1, hg'⟩
      · rw [e1] at hv; exact h.aside i h1 g hv e
      · rw [e1] at hv; injection hv with hv; subst hv
        have h4 := hlt i h1 _ e
        omega
    · obtain rfl : i = l.length := by omega
      rw [hlast]
      intro e
      rcases hg.at_ with e1 | ⟨g', e1, hg'⟩
      · rw [e1] at hv; exact hvx g hv e
      · rw [e1] at hv; injection hv with hv; subst hv
        have h4 := (hd.lt _ e).2
        omega
#print axioms OwnN.step
end Go.Proofs.YtolpcfhfcdkokaaGreatDoor
