/- Joined out of the texts LBadA, LHelp, Open. -/
import Derived.ProofKit
import Derived.OpenShut
import Derived.ShutString
import Derived.SizedLaws
import Derived.Deep.Slices
import Derived.Test.YtolpcfhfcdkokaaGreatDoorM03
import Derived.Test.YtolpcfhfcdkokaaGreatDoorM41
import Derived.Test.YtolpcfhfcdkokaaGreatDoorM42
import Derived.Test.YtolpcfhfcdkokaaGreatDoorM44
/-
  DumpBad: words for its walk: a list of nodes lent, one of which is written anew, beside two trees.
-/
namespace Go.Proofs.YtolpcfhfcdkokaaGreatDoor
open Go.RowKit

theorem lentL_tn (l : List Nd) (bs : Nat → Nat) : (lentL l bs).map Nd.tn = l.map Nd.tn := by
  apply List.ext_getElem
  · simp [lentL]
  · intro i h1 h2
    simp [lentL, lentNd, Nd.tn]
theorem dump_path {P : PT} (h0 : P.dump.2 = 0) {l : List Nd} (hl : l.map Nd.tn = P.dump.1) {x : Nd} (hx : x ∈ l) : ∃ ns, x.path = pth ns := by
  have h1 : x.tn ∈ P.dump.1 := by rw [← hl]; exact List.mem_map.2 ⟨x, hx, rfl⟩
  rw [(dump_ok h0).1] at h1
  obtain ⟨p, y, _, _, e⟩ := mks_mem _ _ _ h1
  exact ⟨y.1, (congrArg Tn.path e).trans (tn1_path P p y)⟩
/-- A list of nodes in row g, beside two trees and a list of one's own. -/
structure LstAt (w0 : World) (K : Nat → Prop) (p1 m1 : Nat) (T1 : PT) (p2 m2 : Nat) (T2 : PT) (B1 : Nat) (v1 : Value) (l1 : List Nd) (g : Nat) (L : List Nd) (w : World) : Prop where
  two : Both w0 K p1 m1 T1 p2 m2 T2 w
  own : OwnN w B1 v1 l1
  ownK : ∀ b, blkN v1 l1 b → K b ∧ b ≠ g
  nodes : NodesAt w w.heap.size (some ⟨g, 0, none⟩) L
  gK : K g
  g0 : w0.heap.size ≤ g
  dK : ∀ x ∈ L, ∀ b off, x.dA = some ⟨b, off, none⟩ → 0 < x.data.length → K b ∧ b ≠ g
  sz : ∀ x ∈ L, x.path.size ≤ 400 ∧ x.same.size ≤ 400 ∧ x.data.length ≤ x.dc ∧ x.data.length ≤ 136704
section
variable {w0 w w' : World} {K : Nat → Prop} {p1 m1 p2 m2 : Nat} {T1 T2 : PT} {B1 g : Nat} {v1 : Value} {l1 L : List Nd}
theorem LstAt.fresh (h : LstAt w0 K p1 m1 T1 p2 m2 T2 B1 v1 l1 g L w) (hb : Below w.heap.size w w') : LstAt w0 (fun b => K b ∨ New w w' b) p1 m1 T1 p2 m2 T2 B1 v1 l1 g L w' :=
  ⟨h.two.fresh hb, h.own.fresh hb, fun b hb => ⟨.inl (h.ownK b hb).1, (h.ownK b hb).2⟩, (h.nodes.below hb).more hb.size, .inl h.gK, h.g0, fun x hx b off e hn => ⟨.inl (h.dK x hx b off e hn).1, (h.dK x hx b off e hn).2⟩, h.sz⟩
theorem LstAt.put (h : LstAt w0 K p1 m1 T1 p2 m2 T2 B1 v1 l1 g L w) {j k : Nat} (hj : j < L.length) (x : Nd) (v u : Value) (hk : k < 5) (hu : w.cell? ⟨g, j * 5 + k, none⟩ = some u) (hx : NodeAt (w.setCell ⟨g, j * 5 + k, none⟩ v) g (j * 5) x)
    (hd : Sees w w.heap.size 1 x.dA x.data.length (bvs x.data)) (hdx : ∀ b off, x.dA = some ⟨b, off, none⟩ → 0 < x.data.length → K b ∧ b ≠ g) (hsz : x.path.size ≤ 400 ∧ x.same.size ≤ 400 ∧ x.data.length ≤ x.dc ∧ x.data.length ≤ 136704) :
    LstAt w0 K p1 m1 T1 p2 m2 T2 B1 v1 l1 g (L.set j x) (w.setCell ⟨g, j * 5 + k, none⟩ v) := by
  obtain ⟨_, _, hC⟩ := cell_set (v := v) hk hu
  have hg0 := h.g0
  have hn := nodes_put h.nodes hj x v u hk hu hx hd (fun b off e h1 => (hdx b off e h1).2) fun y hy b off e h1 => (h.dK y hy b off e h1).2
  refine ⟨h.two.chg hC (fun b e => e ▸ h.gK) (fun b hb e => by omega), h.own.keep hC fun b hb e => (h.ownK b hb).2 e, h.ownK, hn.more hC.size, h.gK, h.g0, fun y hy => ?_, fun y hy => ?_⟩
  · rcases List.mem_or_eq_of_mem_set hy with hy | rfl
    · exact h.dK y hy
    · exact hdx
  · rcases List.mem_or_eq_of_mem_set hy with hy | rfl
    · exact h.sz y hy
    · exact hsz
/-- The node at j, in its cells. -/
theorem LstAt.at_ (h : LstAt w0 K p1 m1 T1 p2 m2 T2 B1 v1 l1 g L w) {j : Nat} (hj : j < L.length) : NodeAt w g (j * 5) L[j] := by
  obtain ⟨b, off, e, _, hc⟩ := h.nodes.at_ (by omega)
  injection e with e
  injection e with e1 e2 _
  subst e1 e2
  have := hc j hj
  rwa [Nat.zero_add] at this
end
/-- A list that has been copied for the call. -/
theorem lent_lst {w0 w w' : World} {K : Nat → Prop} {p1 m1 p2 m2 : Nat} {T1 T2 : PT} {B1 g : Nat} {v1 vb : Value} {bs : Nat → Nat} {l1 : List Nd} (hB : Both w0 K p1 m1 T1 p2 m2 T2 w) (hO : OwnN w B1 v1 l1) (hOK : ∀ b, blkN v1 l1 b → K b) (hL : LentAt w' w.heap.size g vb bs l1) (hb : Below w.heap.size w w')
    (hsz : ∀ x ∈ l1, x.path.size ≤ 400 ∧ x.same.size ≤ 400 ∧ x.data.length ≤ 136704) : LstAt w0 (fun b => K b ∨ New w w' b) p1 m1 T1 p2 m2 T2 B1 v1 l1 g (lentL l1 bs) w' := by
  have hg := hL.gB
  obtain ⟨cs, hr, _⟩ := hL.row
  have hlt := hr.lt
  refine ⟨hB.fresh hb, hO.fresh hb, fun b hb => ⟨.inl (hOK b hb), ?_⟩, lent_nodes hL, .inr ⟨hg, hlt⟩, Nat.le_trans hB.below.size hg, fun x hx b off e hn => ?_, fun x hx => ?_⟩
  · have := hB.lt (hOK b hb); omega
  · obtain ⟨i, hi, rfl⟩ := List.getElem_of_mem hx
    have hi' : i < l1.length := by rw [lentL_length] at hi; exact hi
    rw [lentL_get l1 bs i hi hi'] at e
    unfold lentNd at e
    simp only at e
    injection e with e
    injection e with e _ _
    subst e
    have h1 := hL.mem.low i hi'
    have h2 := (hL.mem.data i hi' hi').lt
    exact ⟨.inr ⟨by omega, h2⟩, by omega⟩
  · obtain ⟨i, hi, rfl⟩ := List.getElem_of_mem hx
    have hi' : i < l1.length := by rw [lentL_length] at hi; exact hi
    rw [lentL_get l1 bs i hi hi']
    obtain ⟨h1, h2, h3⟩ := hsz _ (List.getElem_mem hi')
    refine ⟨h1, h2, ?_, h3⟩
    show l1[i].data.length ≤ l1[i].data.length + 5
    omega
/-- Such a list is filled into the first tree, or into the second. -/
theorem LstAt.fill1 {w0 w : World} {K : Nat → Prop} {p1 m1 p2 m2 : Nat} {T1 T2 : PT} {B1 g : Nat} {v1 : Value} {l1 L : List Nd} {m0 : Int} (h : LstAt w0 K p1 m1 T1 p2 m2 T2 B1 v1 l1 g L w) (hI : T1.Inv) (hm : w0.cell? ⟨0, 0, none⟩ = some (.int .i64 m0)) (cap : Nat) (hln : L.length ≤ 1000000000) (hcap : L.length ≤ cap) :
    Calls Tryz.prog 18 #[ifV p1, .slice (some ⟨g, 0, none⟩) L.length cap] w (FillTwo w0 K p1 m1 p2 m2 T2 (T1.fill (L.map Nd.tn)) w) :=
  fill_two h.two hI hm _ cap L h.nodes (fun b off e _ => by injection e with e; injection e with e _ _; exact e ▸ h.gK) (fun x hx b off e hn => (h.dK x hx b off e hn).1) hln hcap fun x hx => by
    obtain ⟨h1, h2, h3, h4⟩ := h.sz x hx
    omega
theorem LstAt.fill2 {w0 w : World} {K : Nat → Prop} {p1 m1 p2 m2 : Nat} {T1 T2 : PT} {B1 g : Nat} {v1 : Value} {l1 L : List Nd} {m0 : Int} (h : LstAt w0 K p1 m1 T1 p2 m2 T2 B1 v1 l1 g L w) (hI : T2.Inv) (hm : w0.cell? ⟨0, 0, none⟩ = some (.int .i64 m0)) (cap : Nat) (hln : L.length ≤ 1000000000) (hcap : L.length ≤ cap) :
    Calls Tryz.prog 18 #[ifV p2, .slice (some ⟨g, 0, none⟩) L.length cap] w (FillTwo w0 K p2 m2 p1 m1 T1 (T2.fill (L.map Nd.tn)) w) :=
  fill_two h.two.swap hI hm _ cap L h.nodes (fun b off e _ => by injection e with e; injection e with e _ _; exact e ▸ h.gK) (fun x hx b off e hn => (h.dK x hx b off e hn).1) hln hcap fun x hx => by
    obtain ⟨h1, h2, h3, h4⟩ := h.sz x hx
    omega
/-- A list with a bad node: what the switch leaves. -/
def BadAt (w0 : World) (p1 m1 : Nat) (T1 : PT) (p2 m2 : Nat) (T2 : PT) (B1 : Nat) (v1 : Value) (l1 : List Nd) (g at_ : Nat) (w : World) : Prop :=
  ∃ K L x rest, LstAt w0 K p1 m1 T1 p2 m2 T2 B1 v1 l1 g L w ∧ L.length = l1.length ∧ L.map Nd.tn = (l1.map Nd.tn).take at_ ++ x :: rest ∧ ∀ fs : List (ByteArray × Unit), (∀ q, (getS q fs).isSome = true → ∃ ns, q = pth ns) → mayT x fs = false
section
variable {w0 w : World} {K : Nat → Prop} {p1 m1 p2 m2 : Nat} {T1 T2 : PT} {B1 g at_ : Nat} {v1 : Value} {l1 L : List Nd}
theorem BadAt.of (h : LstAt w0 K p1 m1 T1 p2 m2 T2 B1 v1 l1 g L w) (hl : L.length = l1.length) (x : Nd) (hat : at_ < l1.length) {L0 : List Nd} (hL : L = L0.set at_ x) (h0 : L0.map Nd.tn = l1.map Nd.tn)
    (hx : ∀ fs : List (ByteArray × Unit), (∀ q, (getS q fs).isSome = true → ∃ ns, q = pth ns) → mayT x.tn fs = false) : BadAt w0 p1 m1 T1 p2 m2 T2 B1 v1 l1 g at_ w := by
  have hl0 : L0.length = l1.length := by rw [hL, List.length_set] at hl; exact hl
  exact ⟨K, L, x.tn, _, h, hl, by rw [hL, set_tn (by omega) x, h0], hx⟩
variable (h : LstAt w0 K p1 m1 T1 p2 m2 T2 B1 v1 l1 g L w) (h0 : L.map Nd.tn = l1.map Nd.tn) (hat : at_ < l1.length)
include h h0 hat
theorem lst_len : L.length = l1.length := by
  have _ := h
  have _ := hat
  simpa using congrArg List.length h0
theorem BadAt.kind (k : Int) (h1 : k ≠ 1) (h2 : k ≠ 2) : BadAt w0 p1 m1 T1 p2 m2 T2 B1 v1 l1 g at_ (w.setCell ⟨g, at_ * 5 + 1, none⟩ (.int .i64 k)) := by
  have hl := lst_len h h0 hat
  have hj : at_ < L.length := by omega
  have ha := h.at_ hj
  refine BadAt.of (h.put hj { L[at_] with kind := k } (.int .i64 k) _ (by decide) ha.2.1 (nodeAt_kind ha k) (h.nodes.data L[at_] (List.getElem_mem hj)) (h.dK L[at_] (List.getElem_mem hj)) (h.sz L[at_] (List.getElem_mem hj))) (by simpa using hl) _ hat rfl h0 fun fs _ => ?_
  exact bad_kind L[at_].tn k h1 h2 fs
theorem BadAt.made (k : Int) (h1 : k < 0 ∨ 1099511627776 < k) : BadAt w0 p1 m1 T1 p2 m2 T2 B1 v1 l1 g at_ (w.setCell ⟨g, at_ * 5 + 2, none⟩ (.int .i64 k)) := by
  have hl := lst_len h h0 hat
  have hj : at_ < L.length := by omega
  have ha := h.at_ hj
  refine BadAt.of (h.put hj { L[at_] with made := k } (.int .i64 k) _ (by decide) ha.2.2.1 (nodeAt_made ha k) (h.nodes.data L[at_] (List.getElem_mem hj)) (h.dK L[at_] (List.getElem_mem hj)) (h.sz L[at_] (List.getElem_mem hj))) (by simpa using hl) _ hat rfl h0 fun fs _ => ?_
  exact bad_made L[at_].tn k h1 fs
theorem BadAt.noPath : BadAt w0 p1 m1 T1 p2 m2 T2 B1 v1 l1 g at_ (w.setCell ⟨g, at_ * 5 + 3, none⟩ (.string noP)) := by
  have hl := lst_len h h0 hat
  have hj : at_ < L.length := by omega
  have ha := h.at_ hj
  have hz := h.sz _ (List.getElem_mem hj)
  refine BadAt.of (h.put hj { L[at_] with same := noP } (.string noP) _ (by decide) ha.2.2.2.1 (nodeAt_same ha noP) (h.nodes.data L[at_] (List.getElem_mem hj)) (h.dK L[at_] (List.getElem_mem hj)) ⟨hz.1, by show noP.size ≤ 400; decide, hz.2.2⟩) (by simpa using hl) _ hat rfl h0 fun fs hf => ?_
  exact bad_noP L[at_].tn fs hf
/-- The last: Same is its own path, and there are bytes. -/
theorem BadAt.last (hp : ∃ ns, (L[at_]'(by rw [lst_len h h0 hat]; exact hat)).path = pth ns) {w1 : World} (fz : Nat × Nat) (hw1 : w1 = (w.setCell ⟨g, at_ * 5 + 3, none⟩ (.string (L[at_]'(by rw [lst_len h h0 hat]; exact hat)).path)).alloc (.cells #[.int .u8 120] 5 fz)) :
    BadAt w0 p1 m1 T1 p2 m2 T2 B1 v1 l1 g at_ (w1.setCell ⟨g, at_ * 5 + 4, none⟩ (.slice (some ⟨w.heap.size, 0, none⟩) 1 1)) := by
  have hl := lst_len h h0 hat
  have hj : at_ < L.length := by omega
  have ha := h.at_ hj
  have hz := h.sz _ (List.getElem_mem hj)
  have hg := h.two.lt h.gK
  have h1 := h.put hj { L[at_] with same := L[at_].path } (.string L[at_].path) _ (by decide) ha.2.2.2.1 (nodeAt_same ha _) (h.nodes.data L[at_] (List.getElem_mem hj)) (h.dK L[at_] (List.getElem_mem hj)) ⟨hz.1, hz.1, hz.2.2⟩
  have hzs : (w.setCell ⟨g, at_ * 5 + 3, none⟩ (.string L[at_].path)).heap.size = w.heap.size := by simp
  have hb1 : Below (w.setCell ⟨g, at_ * 5 + 3, none⟩ (.string L[at_].path)).heap.size (w.setCell ⟨g, at_ * 5 + 3, none⟩ (.string L[at_].path)) w1 := by
    rw [hw1]; exact (Below.refl _ _).alloc (Nat.le_refl _) _
  have hnb : w1.heap[w.heap.size]? = some (.cells #[.int .u8 120] 5 fz) := by
    have := heap_alloc_new (w.setCell ⟨g, at_ * 5 + 3, none⟩ (.string L[at_].path)) (.cells #[.int .u8 120] 5 fz)
    rw [hzs] at this
    rw [hw1]
    exact this
  have hnl : w.heap.size < w1.heap.size := (Array.getElem?_eq_some_iff.1 hnb).1
  have h2 := h1.fresh hb1
  have hj2 : at_ < (L.set at_ { L[at_] with same := L[at_].path }).length := by simpa using hj
  have ha2 := h2.at_ hj2
  have e2 : (L.set at_ { L[at_] with same := L[at_].path })[at_] = { L[at_] with same := L[at_].path } := by simp
  rw [e2] at ha2
  have h3 := h2.put hj2 { L[at_] with same := L[at_].path, dA := some ⟨w.heap.size, 0, none⟩, dc := 1, data := [120] } (.slice (some ⟨w.heap.size, 0, none⟩) 1 1) _ (by decide) ha2.2.2.2.2 (nodeAt_data ha2 _ 1 [120])
    ⟨rfl, fun _ => ⟨w.heap.size, 0, rfl, hnl, fun j u hu => by
      rw [Nat.zero_add, cell_of_row w1 w.heap.size j _ _ _ hnb]
      have hu2 : ([.int .u8 120] : List Value)[j]? = some u := hu
      simpa using hu2⟩⟩
    (fun b off e _ => by
      injection e with e
      injection e with e _ _
      subst e
      exact ⟨.inr ⟨by rw [hzs]; exact Nat.le_refl _, hnl⟩, by omega⟩)
    ⟨hz.1, hz.1, Nat.le_refl _, by simp⟩
  rw [List.set_set] at h3
  refine BadAt.of h3 (by simpa using hl) _ hat rfl h0 fun fs _ => ?_
  obtain ⟨ns, hns⟩ := hp
  exact bad_data L[at_].tn L[at_].path (by rw [hns]; exact pth_ne_emp ns) [120] (by simp) fs
end
#print axioms BadAt.last
end Go.Proofs.YtolpcfhfcdkokaaGreatDoor
/-
  Small helpers of the laws: pick, sizes.
-/
namespace Go.Proofs.YtolpcfhfcdkokaaGreatDoor
open Go.RowKit Go.Proofs

/-- A choice out of n. -/
def pkN (c : Int) (n : Nat) : Nat := (if c < 0 then (-(c + 1)).toNat else c.toNat) % n
theorem pkN_lt (c : Int) {n : Nat} (h : 0 < n) : pkN c n < n := Nat.mod_lt _ h
theorem pick_any (c : Int) (n : Nat) (w : World) (h1 : -9223372036854775808 ≤ c) (h2 : c ≤ 9223372036854775807) (hn : 0 < n) (hn2 : n ≤ 1000000000) :
    Calls Tryz.prog 27 #[.int .i64 c, .int .i64 n] w fun e w' => e = .returned (.int .i64 (pkN c n : Nat)) ∧ w = w' := by
  go_enter Tryz.func27, Tryz.ntmps27
  by_cases hc : c < 0
  · have t1 : decide (c < 0) = true := by simpa using hc
    have hv : -((c + 1).tmod (n : Int)) = ((pkN c n : Nat) : Int) := by
      unfold pkN
      rw [if_pos hc]
      obtain ⟨x, hx⟩ : ∃ x : Nat, -(c + 1) = (x : Int) := ⟨(-(c + 1)).toNat, by omega⟩
      rw [hx, Int.toNat_natCast, show c + 1 = -(x : Int) by omega, Int.neg_tmod, Int.neg_neg, Int.tmod_eq_emod_of_nonneg (by omega)]
      rfl
    go_wp2
    go_ret
    exact ⟨rfl, rfl⟩
  · have t1 : decide (c < 0) = false := by simpa using hc
    have hv : c % (n : Int) = ((pkN c n : Nat) : Int) := by
      unfold pkN
      rw [if_neg hc]
      obtain ⟨x, rfl⟩ := Int.eq_ofNat_of_zero_le (by omega : 0 ≤ c)
      rw [Int.toNat_natCast]
      rfl
    go_wp2
    go_ret
    exact ⟨rfl, rfl⟩
/-- A disk's sizes. -/
def szN (s : Int) : Nat := 8 + pkN s 4089
def szM (s i : Int) : Nat := 1 + pkN i (min 512 (szN s - 2))
theorem sz_ok (s i : Int) : (8 ≤ szN s ∧ szN s ≤ 4096) ∧ (1 ≤ szM s i ∧ szM s i ≤ 512) ∧ szM s i + 2 ≤ szN s := by
  have h1 := pkN_lt s (n := 4089) (by decide)
  have h2 := pkN_lt i (n := min 512 (szN s - 2)) (by unfold szN; omega)
  unfold szM
  have h3 : szN s = 8 + pkN s 4089 := rfl
  omega
theorem sizes_any (s i : Int) (w : World) (h1 : -9223372036854775808 ≤ s) (h2 : s ≤ 9223372036854775807) (h3 : -9223372036854775808 ≤ i) (h4 : i ≤ 9223372036854775807) :
    Calls Tryz.prog 22 #[.int .i64 s, .int .i64 i] w fun e w' => e = .returned (.tuple #[.int .i64 (szN s : Nat), .int .i64 (szM s i : Nat)]) ∧ w = w' := by
  have c1 := pick_any s 4089 w h1 h2 (by decide) (by decide)
  have c2 := pick_any i (min 512 (szN s - 2)) w h3 h4 (by unfold szN; omega) (by omega)
  have l1 := pkN_lt s (n := 4089) (by decide)
  obtain ⟨a, ha⟩ : ∃ a, pkN s 4089 = a := ⟨_, rfl⟩
  have l2 := pkN_lt i (n := min 512 (szN s - 2)) (by unfold szN; omega)
  have e1 : szN s = 8 + a := by unfold szN; rw [ha]
  have e2 : szM s i = 1 + pkN i (min 512 (szN s - 2)) := rfl
  rw [e2]
  rw [e1] at c2 l2 ⊢
  rw [ha] at c1 l1
  rw [show ((4089 : Nat) : Int) = 4089 from rfl] at c1
  obtain ⟨b, hb⟩ : ∃ b, pkN i (min 512 (8 + a - 2)) = b := ⟨_, rfl⟩
  rw [hb] at c2 l2 ⊢
  obtain ⟨q, hq⟩ : ∃ q, min 512 (8 + a - 2) = q := ⟨_, rfl⟩
  rw [hq] at c2 l2
  have hmin : min (512 : Int) (8 + (a : Int) - 2) = (q : Int) := by omega
  clear ha e1 e2 hb
  go_enter Tryz.func22, Tryz.ntmps22
  go_wp2_with (first
    | (go_at_call 27; (with_reducible refine c1.mono ?_); rintro e w1 ⟨rfl, rfl⟩)
    | (go_at_call 27; (with_reducible refine c2.mono ?_); rintro e w1 ⟨rfl, rfl⟩))
  go_ret2
  exact ⟨rfl, rfl⟩
#print axioms sizes_any
end Go.Proofs.YtolpcfhfcdkokaaGreatDoor
/-
  A slice of nodes that came in, opened: what it reads as gives the nodes in memory, and their sizes' bounds.
-/
namespace Go.Proofs.YtolpcfhfcdkokaaGreatDoor
open Go.ChangeShapes Go.WideShapes Go.ChangeAt Go.RowKit

theorem cellsNode : Tryz.prog.cellsOf 75 = 5 := by kernel_rfl
theorem cellsInt : Tryz.prog.cellsOf 3 = 1 := by kernel_rfl
theorem cellsStr : Tryz.prog.cellsOf 9 = 1 := by kernel_rfl
theorem cellsSl : Tryz.prog.cellsOf 64 = 1 := by kernel_rfl
theorem cellsU8 : Tryz.prog.cellsOf 5 = 1 := by kernel_rfl
theorem bytesU8 : Tryz.prog.bytesOf 5 = 1 := by kernel_rfl
theorem bytesNode : Tryz.prog.bytesOf 75 = 72 := by kernel_rfl

/-- What a node reads as: its data, but for where its bytes lie. -/
def ndData {H : Type} (x : Nd) (d : DataW H) : Prop :=
  ∃ dd : DataW H, d = .agg [.lit (.string x.path.data.toList), .lit (.int .i64 x.kind), .lit (.int .i64 x.made), .lit (.string x.same.data.toList), dd] ∧
    ((dd = .nil ∧ x.data = []) ∨ ∃ es sp, dd = .slice es sp ∧ es.length = x.data.length)

theorem u8_back (n : Int) (h : (Lit.int .u8 n).wf = true) : ((UInt8.ofNat n.toNat).toNat : Int) = n := by
  have hx : 0 ≤ n ∧ n ≤ 255 := by simpa [Lit.wf, IntKind.min, IntKind.max, IntKind.signed, IntKind.bits] using h
  have : (UInt8.ofNat n.toNat).toNat = n.toNat % 256 := UInt8.toNat_ofNat'
  omega

theorem open_bytes {H : Type} {enc : TypeId × Value → H} {W : World} {fuel : Nat} {cs : List Value} {x : DataW H × List MemPlace} (h : DataW.trod enc Tryz.prog W 0 (fun _ => true) true fuel 64 cs = some x) :
    ∃ (A : Option Addr) (c : Nat) (l : List UInt8), cs = [.slice A l.length c] ∧ l.length ≤ c ∧ c ≤ maxLen ∧ Sees W W.heap.size 1 A l.length (bvs l) ∧
      ((x.1 = .nil ∧ l = []) ∨ ∃ es sp, x.1 = .slice es sp ∧ es.length = l.length) := by
  rcases open_ints Tryz.underlying64 Tryz.underlying5 cellsU8 h with ⟨rfl, rfl⟩ | ⟨a, len, cap, zs, rfl, _, hl, hm, hz, rfl, hcell, hwf⟩
  · exact ⟨none, 0, [], rfl, Nat.le_refl _, by unfold maxLen; omega, Sees.nil, .inl ⟨rfl, rfl⟩⟩
  · simp only [if_true] at hz
    have hlen : ((zs.take len).map fun n => UInt8.ofNat n.toNat).length = len := by rw [List.length_map, List.length_take]; omega
    refine ⟨some a, cap, (zs.take len).map fun n => UInt8.ofNat n.toNat, by rw [hlen], by omega, hm, ⟨by rw [bvs_length]; omega, fun hn => ?_⟩, .inr ⟨_, _, rfl, by rw [hlen]; simp [lits]; omega⟩⟩
    rw [hlen] at hn
    have hc0 := hcell 0 (by omega)
    obtain ⟨b, off, spot⟩ := a
    have hspot : spot = none := by simpa [Addr.add] using World.cell?_spot hc0
    subst hspot
    refine ⟨b, off, rfl, ?_, fun j u hu => ?_⟩
    · have := World.block_lt_of_cell? W _ hc0
      simpa [Addr.add] using this
    · have hj : j < len := by
        rcases Nat.lt_or_ge j len with h | h
        · exact h
        · have : (bvs ((zs.take len).map fun n => UInt8.ofNat n.toNat)).length ≤ j := by rw [bvs_length, hlen]; exact h
          rw [List.getElem?_eq_none this] at hu; cases hu
      have hjz : j < zs.length := by omega
      have hc := hcell j hjz
      rw [Addr.add_lit] at hc
      rw [hc]
      have hw := hwf _ (List.getElem_mem hjz)
      have hub := u8_back _ hw
      simp only [bvs, List.map_map, List.getElem?_map, List.getElem?_take, hj, if_true, List.getElem?_eq_getElem hjz, Option.map_some, Function.comp, hub] at hu
      rw [← hu]
      simp [List.getD, List.getElem?_eq_getElem hjz]

set_option maxRecDepth 100000 in
theorem open_node {H : Type} {enc : TypeId × Value → H} {W : World} {fuel : Nat} {cs : List Value} {x : DataW H × List MemPlace} (h : DataW.trod enc Tryz.prog W 0 (fun _ => true) true fuel 75 cs = some x) :
    ∃ nd : Nd, cs = [.string nd.path, .int .i64 nd.kind, .int .i64 nd.made, .string nd.same, .slice nd.dA nd.data.length nd.dc] ∧ Sees W W.heap.size 1 nd.dA nd.data.length (bvs nd.data) ∧ ndData nd x.1 := by
  obtain ⟨xs, n, rfl, rfl, hcs, hxl, hf⟩ := DataW.trod_struct Tryz.underlying75 h
  rw [cellsNode] at hcs
  have hxl5 : xs.length = 5 := hxl
  obtain ⟨k0, k1, k2, k3, k4, rfl⟩ : ∃ a b c d e, cs = [a, b, c, d, e] := by
    match cs, hcs with
    | [a, b, c, d, e], _ => exact ⟨a, b, c, d, e, rfl⟩
  obtain ⟨y0, y1, y2, y3, y4, rfl⟩ : ∃ a b c d e, xs = [a, b, c, d, e] := by
    match xs, hxl5 with
    | [a, b, c, d, e], _ => exact ⟨a, b, c, d, e, rfl⟩
  have f0 : DataW.trod enc Tryz.prog W 0 (fun _ => true) true n 9 (([k0, k1, k2, k3, k4].drop 0).take (Tryz.prog.cellsOf 9)) = some y0 := hf 0 _ rfl
  have f1 : DataW.trod enc Tryz.prog W 0 (fun _ => true) true n 3 (([k0, k1, k2, k3, k4].drop 1).take (Tryz.prog.cellsOf 3)) = some y1 := hf 1 _ rfl
  have f2 : DataW.trod enc Tryz.prog W 0 (fun _ => true) true n 3 (([k0, k1, k2, k3, k4].drop 2).take (Tryz.prog.cellsOf 3)) = some y2 := hf 2 _ rfl
  have f3 : DataW.trod enc Tryz.prog W 0 (fun _ => true) true n 9 (([k0, k1, k2, k3, k4].drop 3).take (Tryz.prog.cellsOf 9)) = some y3 := hf 3 _ rfl
  have f4 : DataW.trod enc Tryz.prog W 0 (fun _ => true) true n 64 (([k0, k1, k2, k3, k4].drop 4).take (Tryz.prog.cellsOf 64)) = some y4 := hf 4 _ rfl
  rw [cellsStr] at f0 f3
  rw [cellsInt] at f1 f2
  rw [cellsSl] at f4
  obtain ⟨s0, e0, z0, _⟩ := DataW.trod_string Tryz.underlying9 f0
  obtain ⟨i1, e1, z1, _⟩ := DataW.trod_int Tryz.underlying3 f1
  obtain ⟨i2, e2, z2, _⟩ := DataW.trod_int Tryz.underlying3 f2
  obtain ⟨s3, e3, z3, _⟩ := DataW.trod_string Tryz.underlying9 f3
  obtain ⟨A, c, l, e4, _, _, hS, z4⟩ := open_bytes f4
  simp at e0 e1 e2 e3 e4
  subst e0 e1 e2 e3 e4
  refine ⟨⟨s0, i1, i2, s3, A, c, l⟩, rfl, hS, y4.1, ?_, z4⟩
  simp [z0, z1, z2, z3]

theorem open_nodes {H : Type} {enc : TypeId × Value → H} {W : World} {A : Option Addr} {n c : Nat} {d : DataW H} {p : List MemPlace} (h : DataW.Trod enc Tryz.prog W 0 (fun _ => true) true 31 (.slice A n c) d p) :
    ∃ l : List Nd, l.length = n ∧ n ≤ c ∧ c ≤ maxLen ∧ NodesAt W W.heap.size A l ∧ ((d = .nil ∧ l = []) ∨ ∃ es sp, d = .slice es sp ∧ es.length = l.length ∧ ∀ i (hi : i < l.length) (hi' : i < es.length), ndData l[i] es[i]) := by
  obtain ⟨fuel, hf⟩ := h
  rcases Deep.open_slice Tryz.underlying31 hf with ⟨hcs, hx⟩ | ⟨a, len, cap, m, k, D, Pl, hcs, _, hl, hm, hmm, hx, hel⟩
  · simp [Value.cells] at hcs
    obtain ⟨rfl, rfl, rfl⟩ := hcs
    simp only [Prod.mk.injEq] at hx
    exact ⟨[], rfl, Nat.le_refl _, by unfold maxLen; omega, ⟨fun h => absurd h (by simp), fun x hx => absurd hx (by simp)⟩, .inl ⟨hx.1, rfl⟩⟩
  · simp [Value.cells] at hcs
    obtain ⟨rfl, rfl, rfl⟩ := hcs
    simp only [Prod.mk.injEq] at hx
    simp only [if_true] at hmm
    subst hmm
    rw [cellsNode] at hel
    have hone : ∀ i, i < n → ∃ nd : Nd, W.cells? 0 (a.add (i * 5)) 5 = some [.string nd.path, .int .i64 nd.kind, .int .i64 nd.made, .string nd.same, .slice nd.dA nd.data.length nd.dc] ∧ Sees W W.heap.size 1 nd.dA nd.data.length (bvs nd.data) ∧ ndData nd (D i) := fun i hi => by
      obtain ⟨cs', h1, h2⟩ := hel i (by omega)
      obtain ⟨nd, rfl, h3, h4⟩ := open_node h2
      exact ⟨nd, h1, h3, h4⟩
    have : Inhabited Nd := ⟨⟨ByteArray.empty, 0, 0, ByteArray.empty, none, 0, []⟩⟩
    obtain ⟨f, hfn⟩ := Deep.choose_lt hone
    refine ⟨(List.range n).map f, by simp, hl, hm, ⟨fun hn => ?_, fun x hx => ?_⟩, .inr ⟨_, _, hx.1, by simp, fun i hi hi' => ?_⟩⟩
    · rw [List.length_map, List.length_range] at hn
      obtain ⟨h1, _, _⟩ := hfn 0 hn
      obtain ⟨_, _, h2⟩ := World.cells?_some h1
      have h3 := h2 0 (by omega)
      simp only [Nat.zero_mul] at h3
      obtain ⟨b, off, spot⟩ := a
      have h3' : W.cell? ⟨b, off, spot⟩ = some (.string (f 0).path) := by simpa [Addr.add] using h3
      have hspot : spot = none := by simpa using World.cell?_spot h3'
      subst hspot
      refine ⟨b, off, rfl, World.block_lt_of_cell? W _ h3', fun i hi => ?_⟩
      rw [List.length_map, List.length_range] at hi
      obtain ⟨g1, _, _⟩ := hfn i hi
      obtain ⟨_, _, g2⟩ := World.cells?_some g1
      have go : ∀ k, W.cell? (((⟨b, off, none⟩ : Addr).add (i * 5)).add k) = W.cell? ⟨b, off + i * 5 + k, none⟩ := fun k => by rw [Addr.add_lit, Addr.add_lit]
      have c0 := g2 0 (by omega)
      have c1 := g2 1 (by omega)
      have c2 := g2 2 (by omega)
      have c3 := g2 3 (by omega)
      have c4 := g2 4 (by omega)
      rw [go] at c0 c1 c2 c3 c4
      simp only [List.getElem_map, List.getElem_range]
      exact ⟨c0, c1, c2, c3, c4⟩
    · obtain ⟨i, hi, rfl⟩ := List.mem_map.1 hx
      exact (hfn i (List.mem_range.1 hi)).2.1
    · simp only [List.getElem_map, List.getElem_range]
      rw [List.length_map, List.length_range] at hi
      exact (hfn i hi).2.2

theorem mem_weightsAll {H : Type} (P : Program) (e : TypeId) : ∀ (l : List (DataW H)) (d : DataW H), d ∈ l → ∀ x ∈ d.weights P e, x ∈ DataW.weightsAll P e l := by
  intro l
  induction l with
  | nil => intro d hd; cases hd
  | cons y l ih =>
    intro d hd x hx
    simp only [DataW.weightsAll, List.mem_append]
    rcases List.mem_cons.1 hd with rfl | hd
    · exact .inl hx
    · exact .inr (ih d hd x hx)
theorem nodes_big {H : Type} {l : List Nd} {d : DataW H} (h : (d = .nil ∧ l = []) ∨ ∃ es sp, d = .slice es sp ∧ es.length = l.length ∧ ∀ i (hi : i < l.length) (hi' : i < es.length), ndData l[i] es[i])
    (hw : ∀ x ∈ d.weights Tryz.prog 31, x ≤ 140737488351232) :
    l.length ≤ 281474976710656 ∧ ∀ x ∈ l, x.path.size ≤ 140737488351232 ∧ x.same.size ≤ 140737488351232 ∧ x.data.length ≤ 140737488351232 := by
  rcases h with ⟨_, rfl⟩ | ⟨es, sp, rfl, hl, hn⟩
  · exact ⟨by simp, fun x hx => absurd hx (by simp)⟩
  · have hw1 : ∀ x ∈ DataW.weightsAll Tryz.prog 75 es, x ≤ 140737488351232 := fun x hx => hw x (by simp only [DataW.weights, Tryz.underlying31, List.mem_cons, List.mem_append]; exact .inr (.inl hx))
    have hw0 := hw ((es.length + sp.length) * Tryz.prog.bytesOf 75) (by simp only [DataW.weights, Tryz.underlying31, List.mem_cons]; exact .inl trivial)
    rw [bytesNode] at hw0
    refine ⟨by omega, fun x hx => ?_⟩
    obtain ⟨i, hi, rfl⟩ := List.getElem_of_mem hx
    obtain ⟨dd, e, hdd⟩ := hn i hi (by omega)
    have hin : es[i]'(by omega) ∈ es := List.getElem_mem _
    have hx' : ∀ x ∈ (es[i]'(by omega)).weights Tryz.prog 75, x ≤ 140737488351232 := fun x hx => hw1 x (mem_weightsAll Tryz.prog _ es _ hin x hx)
    rw [e] at hx'
    have hW : ∀ z, (z = l[i].path.data.toList.length ∨ z = l[i].same.data.toList.length ∨ z ∈ dd.weights Tryz.prog 64) → z ≤ 140737488351232 := fun z hz => hx' z (by
      simp only [DataW.weights, Tryz.underlying75, DataW.weightsEach, List.map_cons, List.map_nil, List.mem_append, List.mem_cons, List.not_mem_nil, or_false, false_or]
      rcases hz with h | h | h
      · exact .inl h
      · exact .inr (.inl h)
      · exact .inr (.inr h))
    have p1 := hW _ (.inl rfl)
    have p2 := hW _ (.inr (.inl rfl))
    rw [Array.length_toList] at p1 p2
    refine ⟨p1, p2, ?_⟩
    rcases hdd with ⟨_, h0⟩ | ⟨es', sp', rfl, h0⟩
    · rw [h0]; simp
    · have := hW ((es'.length + sp'.length) * Tryz.prog.bytesOf 5) (.inr (.inr (by simp only [DataW.weights, Tryz.underlying64, List.mem_cons]; exact .inl trivial)))
      rw [bytesU8] at this
      omega
#print axioms nodes_big
end Go.Proofs.YtolpcfhfcdkokaaGreatDoor
