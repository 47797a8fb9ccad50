/- Joined out of the texts ReadBack, LAgainA. -/
import Derived.Test.YtolpcfhfcdkokaaGreatDoorM04
import Derived.Test.YtolpcfhfcdkokaaGreatDoorM45
import Derived.Test.YtolpcfhfcdkokaaGreatDoorM47
/-
  Nodes that were read off the bytes of nodes are these (the pure law, without the reference).
-/
namespace Go.Proofs.YtolpcfhfcdkokaaGreatDoor
open Go.RowKit

theorem own_cap2 {w : World} {base : Nat} {e : TypeId} {size : Nat} {v : Value} {n : Nat} {xs : List Value} (h : w.ownsRow base e size v n xs) : ∃ A c, v = .slice A n c ∧ n ≤ c ∧ Sees w w.heap.size size A n xs := by
  obtain ⟨A, c, e1, hs⟩ := Sees.of_own (B := w.heap.size) h fun g hg => (h.lt g hg).2
  refine ⟨A, c, e1, ?_, hs⟩
  rcases h.2 with ⟨h1, rfl⟩ | ⟨g, cap, cur, h1, _, _, hnc, _⟩
  · exact Nat.zero_le _
  · rw [e1] at h1
    injection h1 with _ _ h1
    omega
theorem ba_ext3 {a b : ByteArray} (h : a.data.toList = b.data.toList) : a = b := by
  cases a with | mk a =>
  cases b with | mk b =>
  simp only at h
  rw [show a = b from Array.ext' h]
theorem nd_of_P2 {x y : Nd} (h : ndP x = ndP y) (hx : 0 ≤ x.kind ∧ 0 ≤ x.made) (hy : 0 ≤ y.kind ∧ 0 ≤ y.made) : ndSame x y := by
  unfold ndP at h
  injection h with h1 h2 h3 h4 h5
  exact ⟨ba_ext3 h1, by omega, by omega, ba_ext3 h4, h5⟩
theorem ok_nn2 {x : Nd} (h : ndOk x) : 0 ≤ x.kind ∧ 0 ≤ x.made := by
  obtain ⟨h1, h2, _⟩ := h
  exact ⟨by omega, h2⟩
theorem read_some2 {all : List Nd} (hok : ∀ x ∈ all, ndOk x) : readL (encAll all).length (some (encAll all)) = some (all.map ndP) := by
  have h1 := readL_enc (all.map ndP) (encAll all).length (fun p hp => by
    obtain ⟨x, hx, rfl⟩ := List.mem_map.1 hp
    exact pnOk_ndP x (hok x hx)) (by rw [encAll_P all hok]; exact Nat.le_refl _)
  rw [encAll_P all hok] at h1
  exact h1
theorem read_same2 {l all : List Nd} (hok : ∀ x ∈ all, ndOk x) (hr : readL (encAll all).length (some (encAll all)) = some (l.map ndP)) (hn : NN l) : l.length = all.length ∧ ∀ i (h1 : i < l.length) (h2 : i < all.length), ndSame l[i] all[i] := by
  have h1 := readL_enc (all.map ndP) (encAll all).length (fun p hp => by
    obtain ⟨x, hx, rfl⟩ := List.mem_map.1 hp
    exact pnOk_ndP x (hok x hx)) (by rw [encAll_P all hok]; exact Nat.le_refl _)
  rw [encAll_P all hok, hr] at h1
  injection h1 with h1
  have hl : l.length = all.length := by simpa using congrArg List.length h1
  refine ⟨hl, fun i hi1 hi2 => nd_of_P2 ?_ (hn _ (List.getElem_mem hi1)) (ok_nn2 (hok _ (List.getElem_mem hi2)))⟩
  have h2 : (l.map ndP)[i]? = (all.map ndP)[i]? := by rw [h1]
  simpa [hi1, hi2] using h2
#print axioms read_same2
end Go.Proofs.YtolpcfhfcdkokaaGreatDoor
/-
  DumpAgain: words for its walk.
-/
namespace Go.Proofs.YtolpcfhfcdkokaaGreatDoor
open Go.RowKit Go.Proofs

theorem dump_ndOk {P : PT} (h : P.Inv) (h0 : P.dump.2 = 0) {l : List Nd} (hl : l.map Nd.tn = P.dump.1) : ∀ x ∈ l, ndOk x := fun x hx => by
  obtain ⟨h1, h2, h3, h4, h5, h6⟩ := dump_node h h0 x.tn (by rw [← hl]; exact List.mem_map.2 ⟨x, hx, rfl⟩)
  exact ⟨h6, h4, h5, h1, h2, h3⟩
theorem dump_enc {P : PT} (h : P.Inv) (h0 : P.dump.2 = 0) {l : List Nd} (hl : l.map Nd.tn = P.dump.1) : (encAll l).length ≤ 1000000000 := by
  have hn := (dump_tot h h0 l hl).1
  have h2 : totB l ≤ l.length * 137504 := by
    refine sum_bound _ _ l fun x hx => ?_
    obtain ⟨h3, h4, h5, _⟩ := dump_node h h0 x.tn (by rw [← hl]; exact List.mem_map.2 ⟨x, hx, rfl⟩)
    simp only [Nd.tn] at h3 h4 h5
    omega
  have := encAll_tot l
  omega
/-- Bytes, of nodes that may be laid. -/
theorem bytes_ok (A : Option Addr) (cap : Nat) (l : List Nd) (w : World) (hN : NodesAt w w.heap.size A l) (hsz : (encAll l).length ≤ 1000000000) (hln : l.length ≤ 1000000000) (hok : ∀ x ∈ l, ndOk x) :
    Calls Tryz.prog 28 #[.slice A l.length cap] w fun e w' => ∃ A' c', e = .returned (.tuple #[.slice A' (encAll l).length c', .int .i64 0]) ∧ (encAll l).length ≤ c' ∧ Sees w' w'.heap.size 1 A' (encAll l).length (bvs (encAll l)) ∧ Below w.heap.size w w' := by
  refine (bytes_any A cap l w hN hsz hln).mono ?_
  rintro e w' ⟨⟨_, v', rfl, ho⟩ | ⟨hno, _⟩, hb⟩
  · obtain ⟨A', c', rfl, h1, h2⟩ := own_cap2 ho
    exact ⟨A', c', rfl, h1, h2, hb⟩
  · exact absurd hok hno
/-- Read, of the bytes of nodes. -/
theorem read_ok (A : Option Addr) (c : Nat) (l : List Nd) (w : World) (hs : Sees w w.heap.size 1 A (encAll l).length (bvs (encAll l))) (hc : (encAll l).length ≤ c) (hl : (encAll l).length ≤ 1000000000) (hok : ∀ x ∈ l, ndOk x) :
    Calls Tryz.prog 29 #[.slice A (encAll l).length c] w fun e w' => ∃ l2 v, e = .returned (.tuple #[v, .int .i64 0]) ∧ OwnN w' w.heap.size v l2 ∧ l2.map Nd.tn = l.map Nd.tn ∧ Below w.heap.size w w' := by
  refine (read_any A c (encAll l) w hs hc hl).mono ?_
  rintro e w' ⟨⟨l2, v, hr, hn, rfl, ho⟩ | ⟨hno, _⟩, hb⟩
  · obtain ⟨h1, h2⟩ := read_same2 hok hr hn
    refine ⟨l2, v, rfl, ho, ?_, hb⟩
    apply List.ext_getElem
    · simpa using h1
    · intro i h3 h4
      have h3' : i < l2.length := by simpa using h3
      have h4' : i < l.length := by simpa using h4
      obtain ⟨e1, e2, e3, e4, e5⟩ := h2 i h3' h4'
      simp only [List.getElem_map, Nd.tn, e1, e2, e3, e4, e5]
  · rw [read_some2 hok] at hno; cases hno
/-- Nodes of one's own: their slice; where they lie; the room behind their bytes. -/
theorem OwnN.parts {w : World} {B : Nat} {v : Value} {l : List Nd} (h : OwnN w B v l) : ∃ A c, v = .slice A l.length c ∧ l.length ≤ c ∧ NodesAt w w.heap.size A l ∧ (∀ x ∈ l, x.data.length ≤ x.dc) ∧ (∀ b off, A = some ⟨b, off, none⟩ → 0 < l.length → blkN v l b) ∧ (∀ x ∈ l, ∀ b off, x.dA = some ⟨b, off, none⟩ → 0 < x.data.length → blkN v l b) := by
  obtain ⟨A, c, rfl, hN⟩ := h.nodes
  obtain ⟨A', c', e, hc, _⟩ := own_cap2 h.row
  injection e with e1 e2 e3
  have hob : ∀ {base : Nat} {t : TypeId} {size : Nat} {A : Option Addr} {n c : Nat} {xs : List Value} {b off : Nat}, w.ownsRow base t size (.slice A n c) n xs → A = some ⟨b, off, none⟩ → 0 < n → (Value.slice A n c).ownBlock = some b := fun {base t size A n c xs b off} ho e hn => by
    rcases ho.2 with ⟨h1, _⟩ | ⟨g, cap, cur, h1, _⟩
    · injection h1 with _ h2 _; omega
    · injection h1 with h2 _ _
      rw [e] at h2
      injection h2 with h2
      injection h2 with h2 h3 _
      subst h2 h3
      rw [e]
      rfl
  refine ⟨A, c, rfl, by omega, hN, fun x hx => ?_, fun b off e hn => .inl (hob h.row e hn), fun x hx b off e hn => .inr ⟨x, hx, ?_⟩⟩
  · obtain ⟨i, hi, rfl⟩ := List.getElem_of_mem hx
    obtain ⟨A2, c2, e2, hc2, _⟩ := own_cap2 (h.data i hi)
    unfold ndV at e2
    injection e2 with _ _ e4
    omega
  · obtain ⟨i, hi, rfl⟩ := List.getElem_of_mem hx
    exact hob (h.data i hi) e hn
theorem newIn {w8 w9 w10 w11 : World} {b : Nat} (_h1 : Below w8.heap.size w8 w10) (h2 : Below w10.heap.size w10 w11) (hb : w9.heap.size ≤ b ∧ b < w10.heap.size) (h9 : w8.heap.size ≤ w9.heap.size) : New w8 w11 b :=
  ⟨by omega, Nat.lt_of_lt_of_le hb.2 h2.size⟩
theorem tn_mem {l l2 : List Nd} (h : l2.map Nd.tn = l.map Nd.tn) {x : Nd} (hx : x ∈ l2) : ∃ y ∈ l, x.tn = y.tn := by
  have h1 : x.tn ∈ l2.map Nd.tn := List.mem_map.2 ⟨x, hx, rfl⟩
  rw [h] at h1
  obtain ⟨y, hy, e⟩ := List.mem_map.1 h1
  exact ⟨y, hy, e.symm⟩
theorem tn_same {l l2 : List Nd} (h : l2.map Nd.tn = l.map Nd.tn) (i : Nat) (h1 : i < l2.length) (h2 : i < l.length) : ndSame l2[i] l[i] := by
  have h4 : (l2.map Nd.tn)[i]? = (l.map Nd.tn)[i]? := by rw [h]
  rw [List.getElem?_map, List.getElem?_map, List.getElem?_eq_getElem h1, List.getElem?_eq_getElem h2] at h4
  have h5 := Option.some.inj h4
  simp only [Nd.tn, Tn.mk.injEq] at h5
  exact h5
/-- Room, of either tree. -/
theorem room_two {w0 w : World} {K : Nat → Prop} {p1 m1 p2 m2 : Nat} {T1 T2 : PT} (h : Both w0 K p1 m1 T1 p2 m2 T2 w) (hI : T1.Inv) : ∀ W, Below w.heap.size w W →
    Calls Tryz.prog 14 #[.pointer (some ⟨p1, 0, none⟩)] W fun e w' => e = .returned (roomV T1) ∧ Below W.heap.size W w' := fun W hb => by
  obtain ⟨o1, l1, o2, l2, a, b, c', d, e, f⟩ := h
  exact proom_any o1 l1 p1 m1 T1 W (a.fresh hb) hI.gr.ok
#print axioms room_two
end Go.Proofs.YtolpcfhfcdkokaaGreatDoor
