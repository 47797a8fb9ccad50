/-
  The taker: take, number; slices.Clone of bytes.
-/
import Derived.Test.YtolpcfhfcdkokaaNum
import Derived.Test.YtolpcfhfcdkokaaFew
namespace Go.Proofs.Ytolpcfhfcdkokaa
open Go.RowKit

/-- The taker's block: bytes that are left (none: bad). -/
def Tk (w : World) (B g : Nat) (o : Option (List UInt8)) : Prop :=
  ∃ A n c, w.cell? ⟨g, 0, none⟩ = some (.slice A n c) ∧ w.frozen? ⟨g, 0, none⟩ = false ∧ w.frozen? ⟨g, 1, none⟩ = false ∧ n ≤ c ∧
    w.cell? ⟨g, 1, none⟩ = some (.bool o.isNone) ∧ ∀ r, o = some r → n = r.length ∧ Sees w B 1 A n (bvs r)

theorem Tk.bad {w : World} {B g : Nat} {o : Option (List UInt8)} (h : Tk w B g o) : Tk (w.setCell ⟨g, 1, none⟩ (.bool true)) B g none := by
  obtain ⟨A, n, c, h0, f0, f1, hnc, h1, _⟩ := h
  refine ⟨A, n, c, (World.cell?_setCell_other _ _ _ _ (by simp)).trans h0, by simpa using f0, by simpa using f1, hnc, World.cell?_setCell_same _ _ _ h1, fun r e => by cases e⟩
theorem chg_cell (w : World) (g i : Nat) (u : Value) : Chg (· = g) w (w.setCell ⟨g, i, none⟩ u) := (Chg.refl (fun b => b = g) w).setCell (p := ⟨g, i, none⟩) (fun _ => rfl) u
theorem Tk.sees {w w1 : World} {B g : Nat} (hB : B ≤ g) {A : Option Addr} {n : Nat} {xs : List Value} (h : Sees w B 1 A n xs) (hsz : g < w.heap.size) (hc : Chg (· = g) w w1) : Sees w1 B 1 A n xs :=
  h.keep fun p hp => hc.cell (by omega) (by omega)
theorem Sees.drop {w : World} {B : Nat} {A A' : Option Addr} {n k : Nat} {xs : List Value} (h : Sees w B 1 A n xs) (hk : k ≤ n) (hA : k < n → A' = A.map (·.add k)) : Sees w B 1 A' (n - k) (xs.drop k) :=
  ⟨by rw [List.length_drop, h.len]; omega, fun hn => by
    obtain ⟨b, off, rfl, hb, hc⟩ := h.at_ (by omega)
    refine ⟨b, off + k, by rw [hA (by omega)]; simp [Addr.add], hb, fun j u hu => ?_⟩
    rw [List.getElem?_drop] at hu
    rw [Nat.add_assoc]
    exact hc (k + j) u hu⟩
theorem Tk.went {w : World} {B g k c c' : Nat} {r : List UInt8} {A A' : Option Addr} (h0 : w.cell? ⟨g, 0, none⟩ = some (.slice A r.length c)) (f0 : w.frozen? ⟨g, 0, none⟩ = false) (f1 : w.frozen? ⟨g, 1, none⟩ = false)
    (h1 : w.cell? ⟨g, 1, none⟩ = some (.bool false)) (hs : Sees w B 1 A r.length (bvs r)) (hk : k ≤ r.length) (hB : B ≤ g) (hg : g < w.heap.size) (hA : k < r.length → A' = A.map (·.add k)) (hc' : r.length - k ≤ c') :
    Tk (w.setCell ⟨g, 0, none⟩ (.slice A' (r.length - k) c')) B g (some (r.drop k)) := by
  refine ⟨A', r.length - k, c', World.cell?_setCell_same _ _ _ h0, by simpa using f0, by simpa using f1, hc', (World.cell?_setCell_other _ _ _ _ (by simp)).trans h1, fun r' e => ?_⟩
  cases e
  refine ⟨by simp, Tk.sees hB ?_ hg (chg_cell _ _ _ _)⟩
  have := hs.drop hk hA
  simpa [bvs, List.map_drop] using this

set_option maxHeartbeats 1600000 in
set_option maxRecDepth 100000 in
theorem take_any (B g : Nat) (o : Option (List UInt8)) (k : Nat) (w : World) (hk : k ≤ 140737488351232) (ht : Tk w B g o) (hB : B ≤ g) (hg : g < w.heap.size) :
    Calls Try.prog 24 #[.pointer (some ⟨g, 0, none⟩), .int .i64 k] w fun e w' => ∃ A c, e = .returned (.slice A (takeX k o).length c) ∧
      Sees w' B 1 A (takeX k o).length (bvs (takeX k o)) ∧ Tk w' B g (takeO k o) ∧ Chg (· = g) w w' := by
  obtain ⟨A, n, c, h0, f0, f1, hnc, h1, hr⟩ := ht
  cases o with
  | none =>
    simp only [Option.isNone_none] at h1
    go_enter Try.func24, Try.ntmps24
    go_wp2
    go_ret
    exact ⟨none, 0, rfl, Sees.nil, Tk.bad (o := none) ⟨A, n, c, h0, f0, f1, hnc, h1, hr⟩, chg_cell _ _ _ _⟩
  | some r =>
    simp only [Option.isNone_some] at h1
    obtain ⟨rfl, hs⟩ := hr r rfl
    go_enter Try.func24, Try.ntmps24
    by_cases hkn : r.length < k
    · go_wp2
      go_ret
      simp only [takeX, takeO, if_pos hkn]
      exact ⟨none, 0, rfl, Sees.nil, Tk.bad (o := some r) ⟨A, _, c, h0, f0, f1, hnc, h1, hr⟩, chg_cell _ _ _ _⟩
    · have hX : takeX k (some r) = r.take k := if_neg hkn
      have hO : takeO k (some r) = some (r.drop k) := if_neg hkn
      have hl : (r.take k).length = k := by rw [List.length_take]; omega
      have hsk := hs.take (k := k) (by omega)
      rw [Nat.mul_one, show (bvs r).take k = bvs (r.take k) by simp [bvs, List.map_take]] at hsk
      rw [hX, hO, hl]
      go_wp2
      · go_ret
        exact ⟨_, ⟨_, rfl⟩, Tk.sees hB hsk hg (chg_cell _ _ _ _), Tk.went h0 f0 f1 h1 hs (by omega) hB hg (fun h => by omega) (by omega), chg_cell _ _ _ _⟩
      · go_ret
        exact ⟨_, ⟨_, rfl⟩, Tk.sees hB hsk hg (chg_cell _ _ _ _), Tk.went h0 f0 f1 h1 hs (by omega) hB hg (fun h => rfl) (by omega), chg_cell _ _ _ _⟩
#print axioms take_any
end Go.Proofs.Ytolpcfhfcdkokaa
