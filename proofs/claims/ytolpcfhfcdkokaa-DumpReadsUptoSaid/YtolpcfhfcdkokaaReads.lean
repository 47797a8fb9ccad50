/-
  DumpReads: words for its walk: what the two Reads answer in one form; lists of nodes that are the caller's alone.
-/
import Derived.Test.YtolpcfhfcdkokaaRRead
import Derived.Test.YtolpcfhfcdkokaaBack
namespace Go.Proofs.Ytolpcfhfcdkokaa
open Go.RowKit

def errR (r : List UInt8) : Int := if (readL r.length (some r)).isSome then 0 else 170
def lstR (r : List UInt8) : List Pn := (readL r.length (some r)).getD []
theorem rd_uni {r : List UInt8} {w : World} {e : Ending} {w' : World} (h : Rdd r w e w') : ∃ l v, e = .returned (.tuple #[v, .int .i64 (errR r)]) ∧ OwnN w' w.heap.size v l ∧ NN l ∧ l.map ndP = lstR r ∧ Below w.heap.size w w' := by
  obtain ⟨⟨l, v, hr, hn, rfl, hO⟩ | ⟨hr, rfl⟩, hb⟩ := h
  · refine ⟨l, v, ?_, hO, hn, ?_, hb⟩
    · unfold errR; rw [hr]; rfl
    · unfold lstR; rw [hr]; rfl
  · refine ⟨[], _, ?_, OwnN.nil _ _, fun x hx => absurd hx (by simp), ?_, hb⟩
    · unfold errR; rw [hr]; rfl
    · unfold lstR; rw [hr]; rfl
theorem rrd_uni {r : List UInt8} {w : World} {e : Ending} {w' : World} (h : RRdd r w e w') : ∃ l v, e = .returned (.tuple #[v, .int .i64 (errR r)]) ∧ RefN w' w.heap.size v l ∧ NN l ∧ l.map ndP = lstR r ∧ Below w.heap.size w w' := by
  obtain ⟨⟨l, v, hr, hn, rfl, hO⟩ | ⟨hr, rfl⟩, hb⟩ := h
  · refine ⟨l, v, ?_, hO, hn, ?_, hb⟩
    · unfold errR; rw [hr]; rfl
    · unfold lstR; rw [hr]; rfl
  · refine ⟨[], _, ?_, RefN.nil _ _, fun x hx => absurd hx (by simp), ?_, hb⟩
    · unfold errR; rw [hr]; rfl
    · unfold lstR; rw [hr]; rfl
theorem lst_le (f : Nat) : ∀ (r : List UInt8) (l : List Pn), readL f (some r) = some l → l.length ≤ r.length := by
  induction f with
  | zero =>
    intro r l h
    cases r with
    | nil => cases h; simp
    | cons x r => cases h
  | succ f ih =>
    intro r l h
    by_cases hr : r = []
    · subst hr; rw [readL_nil] at h; cases h; simp
    · rw [readL_step f r hr] at h
      cases ho : rdO (some r) with
      | none => rw [ho, readL_none] at h; cases h
      | some r' =>
        rw [ho] at h
        have hs := rdO_short ho
        cases hl : readL f (some r') with
        | none => rw [hl] at h; cases h
        | some l' =>
          rw [hl] at h
          injection h with h
          subst h
          have := ih r' l' hl
          simp only [List.length_cons]
          omega
theorem lstR_le (r : List UInt8) : (lstR r).length ≤ r.length := by
  unfold lstR
  cases h : readL r.length (some r) with
  | none => simp
  | some l => exact lst_le _ r l h
theorem same_P {l1 l2 : List Nd} (h : l1.map ndP = l2.map ndP) (h1 : NN l1) (h2 : NN l2) : l1.length = l2.length ∧ ∀ i (k1 : i < l1.length) (k2 : i < l2.length), ndSame l1[i] l2[i] := by
  have hl : l1.length = l2.length := by simpa using congrArg List.length h
  refine ⟨hl, fun i k1 k2 => nd_of_P ?_ (h1 _ (List.getElem_mem k1)) (h2 _ (List.getElem_mem k2))⟩
  have h3 : (l1.map ndP)[i]? = (l2.map ndP)[i]? := by rw [h]
  simpa [k1, k2] using h3
/-- What was read is written as it was. -/
theorem reads_back {r : List UInt8} {l : List Nd} (h : errR r = 0) (hl : l.map ndP = lstR r) (hn : NN l) : (∀ x ∈ l, ndOk x) ∧ encAll l = r := by
  have hs : readL r.length (some r) = some (l.map ndP) := by
    rw [hl]
    unfold lstR
    unfold errR at h
    cases hr : readL r.length (some r) with
    | none => rw [hr] at h; cases h
    | some q => rfl
  obtain ⟨h1, h2⟩ := readL_back _ r _ hs
  have hok : ∀ x ∈ l, ndOk x := fun x hx => by
    obtain ⟨hk, hm, a, b, c⟩ := h1 (ndP x) (List.mem_map_of_mem hx)
    obtain ⟨n1, n2⟩ := hn x hx
    have e1 : x.path.data.toList.length = x.path.size := by rw [Array.length_toList]; rfl
    have e2 : x.same.data.toList.length = x.same.size := by rw [Array.length_toList]; rfl
    simp only [ndP] at hk hm a b c
    exact ⟨by omega, n2, by omega, by omega, by omega, c⟩
  exact ⟨hok, by rw [← encAll_P l hok, h2]⟩
/-- Is this the block of a list's row, or of some node's bytes? -/
def blkN (v : Value) (l : List Nd) (g : Nat) : Prop := v.ownBlock = some g ∨ ∃ x ∈ l, (ndV x).ownBlock = some g
/-- Lists of nodes that are the caller's alone, told in a row of slices. -/
structure Lists (w : World) (B p m : Nat) (lv : Nat → Value) (L : Nat → List Nd) : Prop where
  par : Blk w p 22 ((List.range m).map lv)
  own : ∀ i, i < m → OwnN w B (lv i) (L i)
  apart : ∀ i j g, i < m → j < m → i ≠ j → blkN (lv i) (L i) g → ¬ blkN (lv j) (L j) g
  aside : ∀ i, i < m → ¬ blkN (lv i) (L i) p
theorem OwnN.blk {w : World} {B : Nat} {v : Value} {l : List Nd} (h : OwnN w B v l) {g : Nat} (hg : blkN v l g) : B ≤ g ∧ g < w.heap.size := by
  rcases hg with hg | ⟨x, hx, hg⟩
  · exact h.row.lt g hg
  · obtain ⟨i, hi, rfl⟩ := List.getElem_of_mem hx
    exact (h.data i hi).lt g hg
theorem lists2 {w : World} {B1 B2 : Nat} {v1 v2 : Value} {l1 l2 : List Nd} (h1 : OwnN w B1 v1 l1) (h2 : OwnN w B2 v2 l2) (hB : B1 ≤ B2) (hd : ∀ g, blkN v1 l1 g → ¬ blkN v2 l2 g) :
    Lists (w.alloc (.cells #[v1, v2] 22)) B1 w.heap.size 2 (fun i => if i = 0 then v1 else v2) (fun i => if i = 0 then l1 else l2) := by
  have hb : Below w.heap.size w (w.alloc (.cells #[v1, v2] 22)) := (Below.refl _ _).alloc (Nat.le_refl _) _
  refine ⟨Blk.new w 22 [v1, v2], fun i hi => ?_, fun i j g hi hj hij hg => ?_, fun i hi hg => ?_⟩
  · by_cases e : i = 0
    · simp only [if_pos e]; exact h1.fresh hb
    · simp only [if_neg e]; exact own_baseN (h2.fresh hb) hB
  · by_cases e : i = 0
    · simp only [if_pos e] at hg
      simp only [if_neg (show ¬ j = 0 by omega)]
      exact hd g hg
    · simp only [if_neg e] at hg
      simp only [if_pos (show j = 0 by omega)]
      exact fun h => hd g h hg
  · by_cases e : i = 0
    · simp only [if_pos e] at hg; have := (h1.blk hg).2; omega
    · simp only [if_neg e] at hg; have := (h2.blk hg).2; omega
theorem lstR_data {r : List UInt8} {l : List Nd} (h : l.map ndP = lstR r) : ∀ x ∈ l, x.data.length ≤ 1000000000 := by
  intro x hx
  unfold lstR at h
  cases hr : readL r.length (some r) with
  | none =>
    rw [hr] at h
    have : l = [] := by simpa using h
    subst this
    cases hx
  | some q =>
    rw [hr] at h
    obtain ⟨h1, _⟩ := readL_back _ r _ hr
    have h2 : l.map ndP = q := h
    obtain ⟨_, _, _, _, c⟩ := h1 (ndP x) (by rw [← h2]; exact List.mem_map_of_mem hx)
    simp only [ndP] at c
    omega
#print axioms reads_back
end Go.Proofs.Ytolpcfhfcdkokaa
