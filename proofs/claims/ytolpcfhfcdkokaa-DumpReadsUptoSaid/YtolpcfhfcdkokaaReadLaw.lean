/-
  dump.Read in plain words: nodes taken off bytes, one behind the other.
-/
import Derived.Test.YtolpcfhfcdkokaaNum
namespace Go.Proofs.Ytolpcfhfcdkokaa
open Go.RowKit

/-- A node's content, wherever its bytes lie. -/
structure Pn where
  path : List UInt8
  kind : Nat
  made : Nat
  same : List UInt8
  data : List UInt8

/-- What is left behind each of a node's numbers and texts. -/
def s1 (o : Option (List UInt8)) : Option (List UInt8) := numO 1 2 o
def s2 (o : Option (List UInt8)) : Option (List UInt8) := numO 8 1099511627776 (s1 o)
def s3 (o : Option (List UInt8)) : Option (List UInt8) := numO 4 400 (s2 o)
def s4 (o : Option (List UInt8)) : Option (List UInt8) := takeO (numX 4 400 (s2 o)) (s3 o)
def s5 (o : Option (List UInt8)) : Option (List UInt8) := numO 4 400 (s4 o)
def s6 (o : Option (List UInt8)) : Option (List UInt8) := takeO (numX 4 400 (s4 o)) (s5 o)
def s7 (o : Option (List UInt8)) : Option (List UInt8) := numO 4 136704 (s6 o)
def s8 (o : Option (List UInt8)) : Option (List UInt8) := takeO (numX 4 136704 (s6 o)) (s7 o)
/-- The node at the head of bytes; what is left behind it. -/
def rdN (o : Option (List UInt8)) : Pn :=
  ⟨takeX (numX 4 400 (s2 o)) (s3 o), numX 1 2 o, numX 8 1099511627776 (s1 o), takeX (numX 4 400 (s4 o)) (s5 o), takeX (numX 4 136704 (s6 o)) (s7 o)⟩
def rdO (o : Option (List UInt8)) : Option (List UInt8) := if numX 1 2 o = 0 then none else s8 o
/-- All nodes of bytes; none: they are bad. -/
def readL : Nat → Option (List UInt8) → Option (List Pn)
  | _, none => none
  | _, some [] => some []
  | 0, some (_ :: _) => none
  | f + 1, some (x :: r) => (readL f (rdO (some (x :: r)))).map (rdN (some (x :: r)) :: ·)

theorem numX_le (k most : Nat) (o : Option (List UInt8)) : numX k most o ≤ most := by
  unfold numX
  split <;> omega
theorem takeO_some {k : Nat} {o : Option (List UInt8)} {r' : List UInt8} (h : takeO k o = some r') : ∃ r, o = some r ∧ k ≤ r.length ∧ takeX k o = r.take k ∧ r' = r.drop k := by
  cases o with
  | none => cases h
  | some r =>
    have h' : (if r.length < k then none else some (r.drop k)) = some r' := h
    by_cases hk : r.length < k
    · rw [if_pos hk] at h'; cases h'
    · rw [if_neg hk] at h'
      injection h' with h'
      exact ⟨r, rfl, by omega, if_neg hk, h'.symm⟩
theorem numO_some {k most : Nat} {o : Option (List UInt8)} {r' : List UInt8} (h : numO k most o = some r') :
    ∃ r, o = some r ∧ k ≤ r.length ∧ numL (r.take k) ≤ most ∧ numX k most o = numL (r.take k) ∧ r' = r.drop k := by
  unfold numO at h
  by_cases hm : numL (takeX k o) ≤ most
  · rw [if_pos hm] at h
    obtain ⟨r, e1, e2, e3, e4⟩ := takeO_some h
    refine ⟨r, e1, e2, by rw [← e3]; exact hm, ?_, e4⟩
    unfold numX
    rw [if_pos hm, e3]
  · rw [if_neg hm] at h; cases h

theorem lowB_numL : ∀ l : List UInt8, lowB (numL l) l.length = l := by
  intro l
  induction l with
  | nil => rfl
  | cons x xs ih =>
    have hx : x.toNat < 256 := x.toNat_lt
    simp only [List.length_cons, lowB, numL]
    have e1 : ((x.toNat + 256 * numL xs : Nat) : Int) % 256 = x.toNat := by omega
    have e2 : ((x.toNat + 256 * numL xs : Nat) : Int) / 256 = numL xs := by omega
    rw [e1, e2, ih]
    congr 1
    simp

/-- A node's bytes, out of its content. -/
def encP (p : Pn) : List UInt8 :=
  UInt8.ofNat p.kind :: (lowB p.made 8 ++ (lowB p.path.length 4 ++ (p.path ++ (lowB p.same.length 4 ++ (p.same ++ (lowB p.data.length 4 ++ p.data))))))
def pnOk (p : Pn) : Prop := (p.kind = 1 ∨ p.kind = 2) ∧ p.made ≤ 1099511627776 ∧ p.path.length ≤ 400 ∧ p.same.length ≤ 400 ∧ p.data.length ≤ 136704
def ndP (x : Nd) : Pn := ⟨x.path.data.toList, x.kind.toNat, x.made.toNat, x.same.data.toList, x.data⟩
theorem encP_length (p : Pn) : (encP p).length = 21 + p.path.length + p.same.length + p.data.length := by
  simp only [encP, List.length_cons, List.length_append, lowB_length]
  omega
theorem encP_ndP (x : Nd) (h : ndOk x) : encP (ndP x) = enc1 x := by
  obtain ⟨hk, hm, _⟩ := h
  have h1 : (x.path.data.toList.length : Int) = x.path.size := by rw [Array.length_toList]; rfl
  have h2 : (x.same.data.toList.length : Int) = x.same.size := by rw [Array.length_toList]; rfl
  have h3 : (x.kind % 256).toNat = x.kind.toNat := by omega
  have h4 : ((x.made.toNat : Nat) : Int) = x.made := by omega
  simp only [encP, enc1, ndP, h1, h2, h3, h4]
theorem pnOk_ndP (x : Nd) (h : ndOk x) : pnOk (ndP x) := by
  obtain ⟨hk, hm, hm2, h3, h4, h5⟩ := h
  have h1 : x.path.data.toList.length = x.path.size := by rw [Array.length_toList]; rfl
  have h2 : x.same.data.toList.length = x.same.size := by rw [Array.length_toList]; rfl
  refine ⟨?_, ?_, by simp only [ndP]; omega, by simp only [ndP]; omega, h5⟩
  · simp only [ndP]; omega
  · simp only [ndP]; omega

/-- Bytes that begin with a node's are read as that node, and the rest is left. -/
theorem rd_enc (p : Pn) (hp : pnOk p) (r : List UInt8) : rdN (some (encP p ++ r)) = p ∧ rdO (some (encP p ++ r)) = some r := by
  obtain ⟨hk, hm, h1, h2, h3⟩ := hp
  have e0 : encP p ++ r = lowB p.kind 1 ++ (lowB p.made 8 ++ (lowB p.path.length 4 ++ (p.path ++ (lowB p.same.length 4 ++ (p.same ++ (lowB p.data.length 4 ++ (p.data ++ r))))))) := by
    have : lowB p.kind 1 = [UInt8.ofNat p.kind] := by
      show [UInt8.ofNat (((p.kind : Nat) : Int) % 256).toNat] = _
      congr 2
      omega
    rw [this]
    simp [encP]
  rw [e0]
  obtain ⟨a1, b1⟩ := num_lay p.kind 1 2 (lowB p.made 8 ++ (lowB p.path.length 4 ++ (p.path ++ (lowB p.same.length 4 ++ (p.same ++ (lowB p.data.length 4 ++ (p.data ++ r))))))) (by omega) (by simp; omega) (by omega)
  obtain ⟨a2, b2⟩ := num_lay p.made 8 1099511627776 (lowB p.path.length 4 ++ (p.path ++ (lowB p.same.length 4 ++ (p.same ++ (lowB p.data.length 4 ++ (p.data ++ r)))))) (by omega) (by simp; omega) (by omega)
  obtain ⟨a3, b3⟩ := num_lay p.path.length 4 400 (p.path ++ (lowB p.same.length 4 ++ (p.same ++ (lowB p.data.length 4 ++ (p.data ++ r))))) (by omega) (by simp; omega) (by omega)
  obtain ⟨a4, b4⟩ := take_lay p.path (lowB p.same.length 4 ++ (p.same ++ (lowB p.data.length 4 ++ (p.data ++ r))))
  obtain ⟨a5, b5⟩ := num_lay p.same.length 4 400 (p.same ++ (lowB p.data.length 4 ++ (p.data ++ r))) (by omega) (by simp; omega) (by omega)
  obtain ⟨a6, b6⟩ := take_lay p.same (lowB p.data.length 4 ++ (p.data ++ r))
  obtain ⟨a7, b7⟩ := num_lay p.data.length 4 136704 (p.data ++ r) (by omega) (by simp; omega) (by omega)
  obtain ⟨a8, b8⟩ := take_lay p.data r
  have n1 : ((p.kind : Nat) : Int).toNat = p.kind := by omega
  have n2 : ((p.made : Nat) : Int).toNat = p.made := by omega
  have n3 : ((p.path.length : Nat) : Int).toNat = p.path.length := by omega
  have n5 : ((p.same.length : Nat) : Int).toNat = p.same.length := by omega
  have n7 : ((p.data.length : Nat) : Int).toNat = p.data.length := by omega
  rw [n1] at a1
  rw [n2] at a2
  rw [n3] at a3
  rw [n5] at a5
  rw [n7] at a7
  refine ⟨?_, ?_⟩
  · simp only [rdN, s1, s2, s3, s4, s5, s6, s7, a1, b1, a2, b2, a3, b3, a4, b4, a5, b5, a6, b6, a7, b7, a8]
  · simp only [rdO, s1, s2, s3, s4, s5, s6, s7, s8, a1, b1, b2, a3, b3, b4, a5, b5, b6, a7, b7, b8]
    rw [if_neg (by omega)]

/-- What was read was a node's bytes, ahead of what is left. -/
theorem rd_back (r r' : List UInt8) (h : rdO (some r) = some r') : pnOk (rdN (some r)) ∧ r = encP (rdN (some r)) ++ r' := by
  unfold rdO at h
  by_cases h0 : numX 1 2 (some r) = 0
  · rw [if_pos h0] at h; cases h
  rw [if_neg h0] at h
  unfold s8 at h
  obtain ⟨r7, e7, l7, x8, f8⟩ := takeO_some h
  have h7 := e7
  unfold s7 at h7
  obtain ⟨r6, e6, l6, m7, x7, f7⟩ := numO_some h7
  have h6 := e6
  unfold s6 at h6
  obtain ⟨r5, e5, l5, x6, f6⟩ := takeO_some h6
  have h5 := e5
  unfold s5 at h5
  obtain ⟨r4, e4, l4, m5, x5, f5⟩ := numO_some h5
  have h4 := e4
  unfold s4 at h4
  obtain ⟨r3, e3, l3, x4, f4⟩ := takeO_some h4
  have h3 := e3
  unfold s3 at h3
  obtain ⟨r2, e2, l2, m3, x3, f3⟩ := numO_some h3
  have h2 := e2
  unfold s2 at h2
  obtain ⟨r1, e1, l1, m2, x2, f2⟩ := numO_some h2
  have h1 := e1
  unfold s1 at h1
  obtain ⟨r0, e0, l0, m1, x1, f1⟩ := numO_some h1
  injection e0 with e0
  subst e0
  rw [x1] at h0
  have g8 : (r7.take (numX 4 136704 (s6 (some r)))).length = numX 4 136704 (s6 (some r)) := by rw [List.length_take]; omega
  have g6 : (r5.take (numX 4 400 (s4 (some r)))).length = numX 4 400 (s4 (some r)) := by rw [List.length_take]; omega
  have g4 : (r3.take (numX 4 400 (s2 (some r)))).length = numX 4 400 (s2 (some r)) := by rw [List.length_take]; omega
  have lw : ∀ (k : Nat) (l : List UInt8), k ≤ l.length → lowB (numL (l.take k)) k = l.take k := fun k l hk => by
    have := lowB_numL (l.take k)
    rwa [show (l.take k).length = k by rw [List.length_take]; omega] at this
  have q1 := numX_le 4 400 (s2 (some r))
  have q2 := numX_le 4 400 (s4 (some r))
  have q3 := numX_le 4 136704 (s6 (some r))
  refine ⟨⟨?_, ?_, ?_, ?_, ?_⟩, ?_⟩
  · simp only [rdN]; rw [x1]; omega
  · exact numX_le 8 1099511627776 _
  · simp only [rdN]; rw [x4, g4]; exact q1
  · simp only [rdN]; rw [x6, g6]; exact q2
  · simp only [rdN]; rw [x8, g8]; exact q3
  · simp only [encP, rdN]
    rw [x8, x6, x4, g8, g6, g4, x7, x5, x3, x2, x1, lw 4 r6 l6, lw 4 r4 l4, lw 4 r2 l2, lw 8 r1 l1]
    have hk : UInt8.ofNat (numL (r.take 1)) = r[0]'(by omega) := by
      cases r with
      | nil => exact absurd l0 (by simp)
      | cons x xs => simp [numL]
    have hr : r = r[0]'(by omega) :: r1 := by
      rw [f1]
      cases r with
      | nil => exact absurd l0 (by simp)
      | cons x xs => simp
    rw [hk]
    have t8 : r7 = r7.take (numX 4 136704 (s6 (some r))) ++ r' := by rw [f8, List.take_append_drop]
    have t7 : r6 = r6.take 4 ++ r7 := by rw [f7, List.take_append_drop]
    have t6 : r5 = r5.take (numX 4 400 (s4 (some r))) ++ r6 := by rw [f6, List.take_append_drop]
    have t5 : r4 = r4.take 4 ++ r5 := by rw [f5, List.take_append_drop]
    have t4 : r3 = r3.take (numX 4 400 (s2 (some r))) ++ r4 := by rw [f4, List.take_append_drop]
    have t3 : r2 = r2.take 4 ++ r3 := by rw [f3, List.take_append_drop]
    have t2 : r1 = r1.take 8 ++ r2 := by rw [f2, List.take_append_drop]
    rw [x7] at t8
    rw [x5] at t6
    rw [x3] at t4
    simp only [List.cons_append, List.append_assoc]
    rw [← t8, ← t7, ← t6, ← t5, ← t4, ← t3, ← t2]
    exact hr

theorem readL_nil (f : Nat) : readL f (some []) = some [] := by cases f <;> rfl
theorem readL_none (f : Nat) : readL f none = none := by cases f <;> rfl
theorem readL_step (f : Nat) (r : List UInt8) (h : r ≠ []) : readL (f + 1) (some r) = (readL f (rdO (some r))).map (rdN (some r) :: ·) := by
  cases r with
  | nil => exact absurd rfl h
  | cons x r => rfl
theorem rdO_short {r r' : List UInt8} (h : rdO (some r) = some r') : r'.length + 21 ≤ r.length := by
  obtain ⟨_, e⟩ := rd_back r r' h
  have h1 := congrArg List.length e
  rw [List.length_append, encP_length] at h1
  omega
/-- Bytes of nodes that may be are read as these. -/
theorem readL_enc : ∀ (l : List Pn) (f : Nat), (∀ p ∈ l, pnOk p) → (l.flatMap encP).length ≤ f → readL f (some (l.flatMap encP)) = some l := by
  intro l
  induction l with
  | nil => intro f _ _; exact readL_nil f
  | cons p l ih =>
    intro f hp hf
    have hl := encP_length p
    rw [List.flatMap_cons, List.length_append] at hf
    obtain ⟨f, rfl⟩ : ∃ f', f = f' + 1 := ⟨f - 1, by omega⟩
    have hne : List.flatMap encP (p :: l) ≠ [] := by
      intro e
      have := congrArg List.length e
      rw [List.flatMap_cons, List.length_append, List.length_nil] at this
      omega
    obtain ⟨h1, h2⟩ := rd_enc p (hp p List.mem_cons_self) (l.flatMap encP)
    rw [readL_step f _ hne, List.flatMap_cons, h1, h2, ih f (fun q hq => hp q (List.mem_cons_of_mem _ hq)) (by omega)]
    rfl
/-- What was read is written as it was. -/
theorem readL_back : ∀ (f : Nat) (r : List UInt8) (l : List Pn), readL f (some r) = some l → (∀ p ∈ l, pnOk p) ∧ l.flatMap encP = r := by
  intro f
  induction f with
  | zero =>
    intro r l h
    cases r with
    | nil => cases h; exact ⟨fun p hp => absurd hp (by simp), rfl⟩
    | cons x r => cases h
  | succ f ih =>
    intro r l h
    by_cases hr : r = []
    · subst hr; cases h; exact ⟨fun p hp => absurd hp (by simp), rfl⟩
    · rw [readL_step f r hr] at h
      cases ho : rdO (some r) with
      | none => rw [ho, readL_none] at h; cases h
      | some r' =>
        rw [ho] at h
        obtain ⟨k1, k2⟩ := rd_back r r' ho
        cases hl : readL f (some r') with
        | none => rw [hl] at h; cases h
        | some l' =>
          rw [hl] at h
          injection h with h
          subst h
          obtain ⟨i1, i2⟩ := ih r' l' hl
          refine ⟨fun p hp => ?_, ?_⟩
          · rcases List.mem_cons.1 hp with rfl | hp
            · exact k1
            · exact i1 p hp
          · rw [List.flatMap_cons, i2]; exact k2.symm
theorem encAll_P (l : List Nd) (h : ∀ x ∈ l, ndOk x) : (l.map ndP).flatMap encP = encAll l := by
  induction l with
  | nil => rfl
  | cons x l ih =>
    rw [List.map_cons, List.flatMap_cons, ih fun y hy => h y (List.mem_cons_of_mem _ hy), encP_ndP x (h x List.mem_cons_self)]
    rfl
#print axioms readL_back
end Go.Proofs.Ytolpcfhfcdkokaa
