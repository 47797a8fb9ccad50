/-
  The reference's text: a length and so many bytes.
-/
import Derived.Test.YtolpcfhfcdkokaaRNum
namespace Go.Proofs.Ytolpcfhfcdkokaa
open Go.RowKit

/-- What text answers of the bytes r at a place. -/
def RTxt (r : List UInt8) (at_ most : Nat) (w : World) (e : Ending) (w' : World) : Prop :=
  ((∃ r' n x, numX 4 most (some r) = n ∧ takeX n (numO 4 most (some r)) = x ∧ takeO n (numO 4 most (some r)) = some r' ∧ n ≤ most ∧ at_ + 4 + n ≤ at_ + r.length ∧ x.length = n ∧ r' = r.drop (4 + n) ∧ e = .returned (.tuple #[.string ⟨x.toArray⟩, .int .i64 ((at_ + 4 + n : Nat) : Int), .bool true])) ∨
   (takeO (numX 4 most (some r)) (numO 4 most (some r)) = none ∧ e = .returned (.tuple #[.string ⟨#[]⟩, .int .i64 0, .bool false]))) ∧ w = w'

theorem txt_none1 {r : List UInt8} {most : Nat} (h : r.length < 4 ∨ 1099511627776 < numL (r.take 4)) (hm : most ≤ 1099511627776) : takeO (numX 4 most (some r)) (numO 4 most (some r)) = none := by
  rcases h with h | h
  · have e : takeX 4 (some r) = [] := if_pos h
    have e2 : takeO 4 (some r) = none := if_pos h
    unfold numX numO
    rw [e, e2]
    simp [numL, takeO]
  · have hl : ¬ r.length < 4 := fun hl => by
      have h1 := numL_lt (r.take 4)
      have h2 : 2 ^ (8 * (r.take 4).length) ≤ 2 ^ 32 := Nat.pow_le_pow_right (by decide) (by rw [List.length_take]; omega)
      omega
    have e : takeX 4 (some r) = r.take 4 := if_neg hl
    unfold numX numO
    rw [e, if_neg (by omega), if_neg (by omega)]
    rfl
theorem txt_none2 {r : List UInt8} {most : Nat} (h4 : 4 ≤ r.length) (h : most < numL (r.take 4)) : takeO (numX 4 most (some r)) (numO 4 most (some r)) = none := by
  have e : takeX 4 (some r) = r.take 4 := if_neg (by omega)
  unfold numX numO
  rw [e, if_neg (by omega), if_neg (by omega)]
  rfl
theorem txt_none3 {r : List UInt8} {most : Nat} (h4 : 4 ≤ r.length) (hm : numL (r.take 4) ≤ most) (h : r.length < 4 + numL (r.take 4)) : takeO (numX 4 most (some r)) (numO 4 most (some r)) = none := by
  have e : takeX 4 (some r) = r.take 4 := if_neg (by omega)
  have e2 : takeO 4 (some r) = some (r.drop 4) := if_neg (by omega)
  unfold numX numO
  rw [e, e2, if_pos hm, if_pos hm]
  exact if_pos (by rw [List.length_drop]; omega)
theorem txt_some {r : List UInt8} {most : Nat} (h4 : 4 ≤ r.length) (hm : numL (r.take 4) ≤ most) (h : 4 + numL (r.take 4) ≤ r.length) :
    numX 4 most (some r) = numL (r.take 4) ∧ takeX (numL (r.take 4)) (numO 4 most (some r)) = (r.drop 4).take (numL (r.take 4)) ∧ takeO (numL (r.take 4)) (numO 4 most (some r)) = some (r.drop (4 + numL (r.take 4))) := by
  have e : takeX 4 (some r) = r.take 4 := if_neg (by omega)
  have e2 : takeO 4 (some r) = some (r.drop 4) := if_neg (by omega)
  unfold numX numO
  rw [e, e2, if_pos hm, if_pos hm]
  have h5 : ¬ (r.drop 4).length < numL (r.take 4) := by rw [List.length_drop]; omega
  refine ⟨rfl, if_neg h5, ?_⟩
  have : takeO (numL (r.take 4)) (some (r.drop 4)) = some ((r.drop 4).drop (numL (r.take 4))) := if_neg h5
  rw [this, List.drop_drop]

theorem Sees.mid {w : World} {B : Nat} {A : Option Addr} {bs : List UInt8} (h : Sees w B 1 A bs.length (bvs bs)) (o k : Nat) (hk : o + k ≤ bs.length) {A' : Option Addr} (hA : 0 < k → A' = A.map (·.add o)) : Sees w B 1 A' k (bvs ((bs.drop o).take k)) :=
  ⟨by rw [bvs_length, List.length_take, List.length_drop]; omega, fun hn => by
    obtain ⟨b, off, rfl, hb, hc⟩ := h.at_ (by omega)
    refine ⟨b, off + o, by rw [hA hn]; simp [Addr.add], hb, fun j u hu => ?_⟩
    have hj : j < k := by
      rcases Nat.lt_or_ge j k with h | h
      · exact h
      · rw [List.getElem?_eq_none (by rw [bvs_length, List.length_take]; omega)] at hu; cases hu
    have e : (bvs ((bs.drop o).take k))[j]? = (bvs bs)[o + j]? := by
      unfold bvs
      rw [List.getElem?_map, List.getElem?_map, List.getElem?_take, if_pos hj, List.getElem?_drop]
    rw [e] at hu
    rw [Nat.add_assoc]
    exact hc (o + j) u hu⟩

set_option maxHeartbeats 1600000 in
set_option maxRecDepth 100000 in
theorem rtext_any (B : Nat) (A : Option Addr) (c : Nat) (bs : List UInt8) (at_ most : Nat) (w : World) (hs : Sees w B 1 A bs.length (bvs bs)) (hcap : bs.length ≤ c) (hl : bs.length ≤ 1000000000) (hat : at_ ≤ bs.length) (hm : most ≤ 1099511627776) :
    Calls Try.prog 31 #[.slice A bs.length c, .int .i64 at_, .int .i64 most] w (RTxt (bs.drop at_) at_ most w) := by
  go_enter Try.func31, Try.ntmps31
  go_wp2_with fail
  refine (rnumber_any B A c bs at_ 4 w hs hl (by omega) (by omega) (by omega)).mono ?_
  rintro e w1 ⟨⟨h4, rfl⟩ | ⟨hno, rfl⟩, rfl⟩
  · have hrl : (bs.drop at_).length = bs.length - at_ := List.length_drop
    by_cases hbig : most < numL ((bs.drop at_).take 4)
    · have hno := txt_none2 h4 hbig
      clear hrl h4
      generalize numL ((bs.drop at_).take 4) = n at *
      have hb' : (most : Int) < (n : Int) := by omega
      go_wp2
      go_ret3
      exact ⟨.inr ⟨hno, rfl⟩, rfl⟩
    · have hbig' : numL ((bs.drop at_).take 4) ≤ most := by omega
      by_cases hroom : 4 + numL ((bs.drop at_).take 4) ≤ (bs.drop at_).length
      · obtain ⟨t1, t2, t3⟩ := txt_some h4 hbig' hroom
        have hb' : numL ((bs.drop at_).take 4) ≤ 1099511627776 := by omega
        have hb2 : at_ + 4 + numL ((bs.drop at_).take 4) ≤ bs.length := by omega
        have hmid := fun A' (hA : 0 < numL ((bs.drop at_).take 4) → A' = A.map (·.add (at_ + 4))) => hs.mid (at_ + 4) (numL ((bs.drop at_).take 4)) (by omega) hA
        have hlx : ((bs.drop (at_ + 4)).take (numL ((bs.drop at_).take 4))).length = numL ((bs.drop at_).take 4) := by rw [List.length_take, List.length_drop]; omega
        rw [List.drop_drop] at t2
        clear h4
        generalize numL ((bs.drop at_).take 4) = n at *
        obtain ⟨b, off, rfl, _, _⟩ := hs.at_ (by omega)
        have hn : numX 4 most (some (bs.drop at_)) = n := t1
        by_cases hcc : c = at_ + 4
        · have hn0 : n = 0 := by omega
          subst hcc
          have e1 := run_str (P := Try.prog) Try.underlying29 Try.underlying5 0 (hmid (some ⟨b, off, none⟩) (fun h => by omega)) 9 Try.underlying9
          clear hn0 hs hmid
          have T := Lib.hid (And.intro t1 (And.intro t2 t3))
          clear t1 t2 t3 hn
          go_wp2
          go_ret3
          exact ⟨.inl ⟨_, n, _, T.out.1, T.out.2.1, T.out.2.2, hbig', by omega, hlx, rfl, by go_num⟩, rfl⟩
        · have e1 := run_str (P := Try.prog) Try.underlying29 Try.underlying5 (c - (at_ + 4)) (hmid (some ⟨b, off + (at_ + 3 + 1), none⟩) (fun _ => rfl)) 9 Try.underlying9
          clear hs hmid
          have T := Lib.hid (And.intro t1 (And.intro t2 t3))
          clear t1 t2 t3 hn
          go_wp2
          go_ret3
          exact ⟨.inl ⟨_, n, _, T.out.1, T.out.2.1, T.out.2.2, hbig', by omega, hlx, rfl, by go_num⟩, rfl⟩
      · have hno := txt_none3 h4 hbig' (by omega)
        have hb' : numL ((bs.drop at_).take 4) ≤ 1099511627776 := by omega
        have hb2 : bs.length < at_ + 4 + numL ((bs.drop at_).take 4) := by omega
        clear hrl h4
        generalize numL ((bs.drop at_).take 4) = n at *
        go_wp2
        go_ret3
        exact ⟨.inr ⟨hno, rfl⟩, rfl⟩
  · have hno' := txt_none1 hno hm
    clear hno
    go_wp2
    go_ret3
    exact ⟨.inr ⟨hno', rfl⟩, rfl⟩
#print axioms rtext_any
end Go.Proofs.Ytolpcfhfcdkokaa
