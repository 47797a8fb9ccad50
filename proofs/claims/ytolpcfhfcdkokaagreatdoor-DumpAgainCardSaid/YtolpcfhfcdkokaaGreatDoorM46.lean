/- Joined out of the texts OpenOps, World, Cnt. -/
import Derived.Test.YtolpcfhfcdkokaaGreatDoorRows
import Derived.WalkKit
import Derived.ProofKit
import Derived.OpenShut
import Derived.Shelf.Vars
import Derived.Deep.DeepHandedRow
import Derived.Lib.LaidTab
import Derived.Deep.CutRange
import Derived.Test.YtolpcfhfcdkokaaGreatDoorM24
import Derived.Test.YtolpcfhfcdkokaaGreatDoorM44
import Derived.Test.YtolpcfhfcdkokaaGreatDoorM45
/-
  A script that came in, opened: what it reads as gives the operations in memory, and their sizes' bounds.
-/
namespace Go.Proofs.YtolpcfhfcdkokaaGreatDoor
open Go.ChangeShapes Go.WideShapes Go.ChangeAt Go.RowKit

theorem cellsOp : Tryz.prog.cellsOf 70 = 8 := by kernel_rfl
theorem bytesOp : Tryz.prog.bytesOf 70 = 96 := by kernel_rfl
/-- What an operation reads as. -/
def osData {H : Type} (x : Os) (d : DataW H) : Prop :=
  ∃ dd : DataW H, d = .agg [.lit (.int .i64 x.o.kind), .lit (.string x.o.path.data.toList), .lit (.string x.o.dst.data.toList), .lit (.int .i64 x.o.off), .lit (.int .i64 x.o.len), dd, .lit (.int .i64 x.o.made), .lit (.int .i64 x.o.pick)] ∧
    ((dd = .nil ∧ x.o.data = []) ∨ ∃ es sp, dd = .slice es sp ∧ es.length = x.o.data.length)
theorem wf_64 {n : Int} (h : (Lit.int .i64 n).wf = true) : n ≤ 9223372036854775807 ∧ -9223372036854775808 ≤ n := by
  have hx : -9223372036854775808 ≤ n ∧ n ≤ 9223372036854775807 := by simpa [Lit.wf, IntKind.min, IntKind.max, IntKind.signed, IntKind.bits] using h
  omega
def osC (x : Os) : List Value := [.int .i64 x.o.kind, .string x.o.path, .string x.o.dst, .int .i64 x.o.off, .int .i64 x.o.len, .slice x.dA x.o.data.length x.dc, .int .i64 x.o.made, .int .i64 x.o.pick]
set_option maxRecDepth 100000 in
theorem open_op {H : Type} {enc : TypeId × Value → H} {W : World} {fuel : Nat} {cs : List Value} {x : DataW H × List MemPlace} (h : DataW.trod enc Tryz.prog W 0 (fun _ => true) true fuel 70 cs = some x) :
    ∃ nd : Os, cs = osC nd ∧ Sees W W.heap.size 1 nd.dA nd.o.data.length (bvs nd.o.data) ∧ osData nd x.1 ∧ osWf nd := by
  obtain ⟨xs, n, rfl, rfl, hcs, hxl, hf⟩ := DataW.trod_struct Tryz.underlying70 h
  rw [cellsOp] at hcs
  have hxl5 : xs.length = 8 := hxl
  obtain ⟨k0, k1, k2, k3, k4, k5, k6, k7, rfl⟩ : ∃ a b c d e f g i, cs = [a, b, c, d, e, f, g, i] := by
    match cs, hcs with
    | [a, b, c, d, e, f, g, i], _ => exact ⟨a, b, c, d, e, f, g, i, rfl⟩
  obtain ⟨y0, y1, y2, y3, y4, y5, y6, y7, rfl⟩ : ∃ a b c d e f g i, xs = [a, b, c, d, e, f, g, i] := by
    match xs, hxl5 with
    | [a, b, c, d, e, f, g, i], _ => exact ⟨a, b, c, d, e, f, g, i, rfl⟩
  have f0 : DataW.trod enc Tryz.prog W 0 (fun _ => true) true n 3 (([k0, k1, k2, k3, k4, k5, k6, k7].drop 0).take (Tryz.prog.cellsOf 3)) = some y0 := hf 0 _ rfl
  have f1 : DataW.trod enc Tryz.prog W 0 (fun _ => true) true n 9 (([k0, k1, k2, k3, k4, k5, k6, k7].drop 1).take (Tryz.prog.cellsOf 9)) = some y1 := hf 1 _ rfl
  have f2 : DataW.trod enc Tryz.prog W 0 (fun _ => true) true n 9 (([k0, k1, k2, k3, k4, k5, k6, k7].drop 2).take (Tryz.prog.cellsOf 9)) = some y2 := hf 2 _ rfl
  have f3 : DataW.trod enc Tryz.prog W 0 (fun _ => true) true n 3 (([k0, k1, k2, k3, k4, k5, k6, k7].drop 3).take (Tryz.prog.cellsOf 3)) = some y3 := hf 3 _ rfl
  have f4 : DataW.trod enc Tryz.prog W 0 (fun _ => true) true n 3 (([k0, k1, k2, k3, k4, k5, k6, k7].drop 4).take (Tryz.prog.cellsOf 3)) = some y4 := hf 4 _ rfl
  have f5 : DataW.trod enc Tryz.prog W 0 (fun _ => true) true n 64 (([k0, k1, k2, k3, k4, k5, k6, k7].drop 5).take (Tryz.prog.cellsOf 64)) = some y5 := hf 5 _ rfl
  have f6 : DataW.trod enc Tryz.prog W 0 (fun _ => true) true n 3 (([k0, k1, k2, k3, k4, k5, k6, k7].drop 6).take (Tryz.prog.cellsOf 3)) = some y6 := hf 6 _ rfl
  have f7 : DataW.trod enc Tryz.prog W 0 (fun _ => true) true n 3 (([k0, k1, k2, k3, k4, k5, k6, k7].drop 7).take (Tryz.prog.cellsOf 3)) = some y7 := hf 7 _ rfl
  rw [cellsStr] at f1 f2
  rw [cellsInt] at f0 f3 f4 f6 f7
  rw [cellsSl] at f5
  obtain ⟨i0, e0, z0, v0⟩ := DataW.trod_int Tryz.underlying3 f0
  obtain ⟨s1, e1, z1, _⟩ := DataW.trod_string Tryz.underlying9 f1
  obtain ⟨s2, e2, z2, _⟩ := DataW.trod_string Tryz.underlying9 f2
  obtain ⟨i3, e3, z3, v3⟩ := DataW.trod_int Tryz.underlying3 f3
  obtain ⟨i4, e4, z4, v4⟩ := DataW.trod_int Tryz.underlying3 f4
  obtain ⟨A, c, l, e5, _, _, hS, z5⟩ := open_bytes f5
  obtain ⟨i6, e6, z6, v6⟩ := DataW.trod_int Tryz.underlying3 f6
  obtain ⟨i7, e7, z7, v7⟩ := DataW.trod_int Tryz.underlying3 f7
  simp at e0 e1 e2 e3 e4 e5 e6 e7
  subst e0 e1 e2 e3 e4 e5 e6 e7
  refine ⟨⟨⟨i0, s1, s2, i3, i4, l, i6, i7⟩, A, c⟩, rfl, hS, ⟨y5.1, ?_, z5⟩, wf_64 v3, wf_64 v4⟩
  simp [z0, z1, z2, z3, z4, z6, z7]

theorem open_ops {H : Type} {enc : TypeId × Value → H} {W : World} {fuel : Nat} {cs : List Value} {x : DataW H × List MemPlace} (hf : DataW.trod enc Tryz.prog W 0 (fun _ => true) true fuel 22 cs = some x) :
    ∃ (A : Option Addr) (c : Nat) (l : List Os), cs = [.slice A l.length c] ∧ ScrAt W W.heap.size A l ∧ (∀ y ∈ l, osWf y) ∧ ((x.1 = .nil ∧ l = []) ∨ ∃ es sp, x.1 = .slice es sp ∧ es.length = l.length ∧ ∀ i (hi : i < l.length) (hi' : i < es.length), osData l[i] es[i]) := by
  rcases Deep.open_slice Tryz.underlying22 hf with ⟨hcs, hx⟩ | ⟨a, len, cap, m, k, D, Pl, hcs, _, hl, hm, hmm, hx, hel⟩
  · subst hx
    exact ⟨none, 0, [], hcs, ⟨fun h => absurd h (by simp), fun x hx => absurd hx (by simp)⟩, fun y hy => absurd hy (by simp), .inl ⟨rfl, rfl⟩⟩
  · subst hx
    simp only [if_true] at hmm
    subst hmm
    rw [cellsOp] at hel
    have hone : ∀ i, i < len → ∃ nd : Os, W.cells? 0 (a.add (i * 8)) 8 = some (osC nd) ∧ Sees W W.heap.size 1 nd.dA nd.o.data.length (bvs nd.o.data) ∧ osData nd (D i) ∧ osWf nd := fun i hi => by
      obtain ⟨cs', h1, h2⟩ := hel i (by omega)
      obtain ⟨nd, rfl, h3, h4, h5⟩ := open_op h2
      exact ⟨nd, h1, h3, h4, h5⟩
    have : Inhabited Os := ⟨⟨⟨0, ByteArray.empty, ByteArray.empty, 0, 0, [], 0, 0⟩, none, 0⟩⟩
    obtain ⟨f, hfn⟩ := Deep.choose_lt hone
    refine ⟨some a, _, (List.range len).map f, by simpa using hcs, ⟨fun hn => ?_, fun x hx => ?_⟩, fun y hy => ?_, .inr ⟨_, _, rfl, by simp, fun i hi hi' => ?_⟩⟩
    · rw [List.length_map, List.length_range] at hn
      obtain ⟨h1, _, _, _⟩ := hfn 0 hn
      obtain ⟨_, _, h2⟩ := World.cells?_some h1
      have h3 := h2 0 (by show 0 < 8; omega)
      simp only [Nat.zero_mul] at h3
      obtain ⟨b, off, spot⟩ := a
      have h3' : W.cell? ⟨b, off, spot⟩ = some (.int .i64 (f 0).o.kind) := by simpa [Addr.add, osC] using h3
      have hspot : spot = none := by simpa using World.cell?_spot h3'
      subst hspot
      refine ⟨b, off, rfl, World.block_lt_of_cell? W _ h3', fun i hi => ?_⟩
      rw [List.length_map, List.length_range] at hi
      obtain ⟨g1, _, _, _⟩ := hfn i hi
      obtain ⟨_, _, g2⟩ := World.cells?_some g1
      have go : ∀ k, W.cell? (((⟨b, off, none⟩ : Addr).add (i * 8)).add k) = W.cell? ⟨b, off + i * 8 + k, none⟩ := fun k => by rw [Addr.add_lit, Addr.add_lit]
      have c0 := g2 0 (by show 0 < 8; omega)
      have c1 := g2 1 (by show 1 < 8; omega)
      have c2 := g2 2 (by show 2 < 8; omega)
      have c3 := g2 3 (by show 3 < 8; omega)
      have c4 := g2 4 (by show 4 < 8; omega)
      have c5 := g2 5 (by show 5 < 8; omega)
      have c6 := g2 6 (by show 6 < 8; omega)
      have c7 := g2 7 (by show 7 < 8; omega)
      rw [go] at c0 c1 c2 c3 c4 c5 c6 c7
      simp only [List.getElem_map, List.getElem_range]
      exact ⟨c0, c1, c2, c3, c4, c5, c6, c7⟩
    · obtain ⟨i, hi, rfl⟩ := List.mem_map.1 hx
      exact (hfn i (List.mem_range.1 hi)).2.1
    · obtain ⟨i, hi, rfl⟩ := List.mem_map.1 hy
      exact (hfn i (List.mem_range.1 hi)).2.2.2
    · simp only [List.getElem_map, List.getElem_range]
      rw [List.length_map, List.length_range] at hi
      exact (hfn i hi).2.2.1
theorem ops_big {H : Type} {l : List Os} {d : DataW H} (h : (d = .nil ∧ l = []) ∨ ∃ es sp, d = .slice es sp ∧ es.length = l.length ∧ ∀ i (hi : i < l.length) (hi' : i < es.length), osData l[i] es[i])
    (hw : ∀ x ∈ d.weights Tryz.prog 22, x ≤ 140737488351232) :
    l.length ≤ 281474976710656 ∧ ∀ x ∈ l, x.o.path.size ≤ 140737488351232 ∧ x.o.dst.size ≤ 140737488351232 ∧ x.o.data.length ≤ 140737488351232 := by
  rcases h with ⟨_, rfl⟩ | ⟨es, sp, rfl, hl, hn⟩
  · exact ⟨by simp, fun x hx => absurd hx (by simp)⟩
  · have hw1 : ∀ x ∈ DataW.weightsAll Tryz.prog 70 es, x ≤ 140737488351232 := fun x hx => hw x (by simp only [DataW.weights, Tryz.underlying22, List.mem_cons, List.mem_append]; exact .inr (.inl hx))
    have hw0 := hw ((es.length + sp.length) * Tryz.prog.bytesOf 70) (by simp only [DataW.weights, Tryz.underlying22, List.mem_cons]; exact .inl trivial)
    rw [bytesOp] at hw0
    refine ⟨by omega, fun x hx => ?_⟩
    obtain ⟨i, hi, rfl⟩ := List.getElem_of_mem hx
    obtain ⟨dd, e, hdd⟩ := hn i hi (by omega)
    have hin : es[i]'(by omega) ∈ es := List.getElem_mem _
    have hx' : ∀ x ∈ (es[i]'(by omega)).weights Tryz.prog 70, x ≤ 140737488351232 := fun x hx => hw1 x (mem_weightsAll Tryz.prog _ es _ hin x hx)
    rw [e] at hx'
    have hW : ∀ z, (z = l[i].o.path.data.toList.length ∨ z = l[i].o.dst.data.toList.length ∨ z ∈ dd.weights Tryz.prog 64) → z ≤ 140737488351232 := fun z hz => hx' z (by
      simp only [DataW.weights, Tryz.underlying70, DataW.weightsEach, List.map_cons, List.map_nil, List.mem_append, List.mem_cons, List.not_mem_nil, or_false, false_or]
      rcases hz with h | h | h
      · exact .inl h
      · exact .inr (.inl h)
      · exact .inr (.inr h))
    have p1 := hW _ (.inl rfl)
    have p2 := hW _ (.inr (.inl rfl))
    rw [Array.length_toList] at p1 p2
    refine ⟨p1, p2, ?_⟩
    rcases hdd with ⟨_, h0⟩ | ⟨es', sp', rfl, h0⟩
    · rw [h0]; simp
    · have := hW ((es'.length + sp'.length) * Tryz.prog.bytesOf 5) (.inr (.inr (by simp only [DataW.weights, Tryz.underlying64, List.mem_cons]; exact .inl trivial)))
      rw [bytesU8] at this
      omega
#print axioms ops_big
end Go.Proofs.YtolpcfhfcdkokaaGreatDoor
/-
  What the four cards share: the world of the witness, with the two listed tables laid; the cell of bytealg.MaxLen.
-/
namespace Go.Proofs.YtolpcfhfcdkokaaGreatDoor
open Go.ChangeShapes Go.WideShapes Go.ChangeAt Go.RowKit

theorem own : ownKnob Tryz.prog.godebug = none := by kernel_rfl
theorem laidOut : laidOutB Tryz.prog = true := by kernel_rfl
theorem maxCell {W : World} (h : W.ShapedOpen Tryz.prog) : ∃ m, W.cell? ⟨0, 0, none⟩ = some (.int .i64 m) :=
  cell_of_shapedOpen_int (P := Tryz.prog) (g := 0) (t := 3) (zero := #[.int .i64 0]) h (of_decide_eq_true (by kernel_rfl)) (by kernel_rfl) rfl (by kernel_rfl) (by kernel_rfl) Tryz.underlying3
def rangesL : List Nat := [128, 191, 160, 191, 128, 159, 144, 191, 128, 143, 0, 0, 0, 0, 0, 0, 0, 0, 0, 0, 0, 0, 0, 0, 0, 0, 0, 0, 0, 0, 0, 0]
def u8s (l : List Nat) : Array Value := (l.map fun (n : Nat) => Value.int .u8 (n : Int)).toArray
def layU8 (l : List Nat) : Obj → Obj
  | .cells _ t frozen => .cells (u8s l) t frozen
  | o => o
noncomputable def heldWorld (os : Go.Os) : World := World.holding Tryz.prog os ⟨#[], #[], []⟩
/-- A world for the witness: the settled one, with the two tables laid. -/
noncomputable def laidWorld (os : Go.Os) : World :=
  { heldWorld os with heap := ((heldWorld os).heap.modify 1 (layU8 Go.Pinned.utf8FirstZ)).modify 2 (layU8 rangesL) }
#print axioms maxCell
end Go.Proofs.YtolpcfhfcdkokaaGreatDoor
/-
  counted: is a list of nodes a dump, by the chapter's words? Where it is, it answers true.
-/
namespace Go.Proofs.YtolpcfhfcdkokaaGreatDoor
open Go.RowKit Go.Proofs

/-- Where the last slash stands of the first k bytes. -/
def cutN (l : List UInt8) : Nat → Nat
  | 0 => 0
  | k + 1 => if l.getD k 0 = 47 then k else cutN l k
theorem cutN_le (l : List UInt8) : ∀ k, cutN l k ≤ k
  | 0 => Nat.le_refl _
  | k + 1 => by
    rw [cutN]
    have := cutN_le l k
    split <;> omega
/-- What 'counted' asks of the node at i. -/
structure CntOk (L : List Nd) (i : Nat) (x : Nd) : Prop where
  kind : x.kind = 1 ∨ x.kind = 2
  dir : x.kind = 2 → x.same = ⟨#[]⟩ ∧ x.data = []
  one : x.same = ⟨#[]⟩ ∨ x.data = []
  there : x.same = ⟨#[]⟩ ∨ ∃ k, ∃ h : k < L.length, k < i ∧ L[k].path = x.same ∧ L[k].kind = 1 ∧ L[k].same = ⟨#[]⟩
  home : cutN x.path.data.toList x.path.size = 0 ∨ ∃ k, ∃ h : k < L.length, k < i ∧ L[k].path.data.toList = x.path.data.toList.take (cutN x.path.data.toList x.path.size) ∧ L[k].kind = 2
  new : ∀ k (h : k < L.length), k < i → L[k].path ≠ x.path
/-- What has been found, of the first k. -/
def thB (L : List Nd) (x : Nd) (k : Nat) : Bool := decide (x.same = ⟨#[]⟩) || (L.take k).any fun y => decide (y.path = x.same ∧ y.kind = 1 ∧ y.same = ⟨#[]⟩)
def hmB (L : List Nd) (x : Nd) (c k : Nat) : Bool := decide (c = 0) || (L.take k).any fun y => decide (y.path.data.toList = x.path.data.toList.take c ∧ y.kind = 2)
theorem any_step {L : List Nd} {k : Nat} (h : k < L.length) (f : Nd → Bool) : (L.take (k + 1)).any f = ((L.take k).any f || f L[k]) := by
  rw [List.take_succ_eq_append_getElem h, List.any_append]
  simp
theorem thB_step {L : List Nd} {x : Nd} {k : Nat} (h : k < L.length) : thB L x (k + 1) = (thB L x k || decide (L[k].path = x.same ∧ L[k].kind = 1 ∧ L[k].same = ⟨#[]⟩)) := by
  unfold thB; rw [any_step h, Bool.or_assoc]
theorem hmB_step {L : List Nd} {x : Nd} {c k : Nat} (h : k < L.length) : hmB L x c (k + 1) = (hmB L x c k || decide (L[k].path.data.toList = x.path.data.toList.take c ∧ L[k].kind = 2)) := by
  unfold hmB; rw [any_step h, Bool.or_assoc]
theorem thB_all {L : List Nd} {i : Nat} {x : Nd} (h : CntOk L i x) : thB L x i = true := by
  unfold thB
  rcases h.there with h | ⟨k, hk, hi, h1⟩
  · simp [h]
  · rw [Bool.or_eq_true, List.any_eq_true]
    exact .inr ⟨L[k], List.mem_take_iff_getElem.2 ⟨k, by omega, rfl⟩, by simpa using h1⟩
theorem hmB_all {L : List Nd} {i : Nat} {x : Nd} (h : CntOk L i x) : hmB L x (cutN x.path.data.toList x.path.size) i = true := by
  unfold hmB
  rcases h.home with h | ⟨k, hk, hi, h1⟩
  · simp [h]
  · rw [Bool.or_eq_true, List.any_eq_true]
    exact .inr ⟨L[k], List.mem_take_iff_getElem.2 ⟨k, by omega, rfl⟩, by simpa using h1⟩

theorem emp_isEmpty (s : ByteArray) : s.toList.isEmpty = decide (s = ⟨#[]⟩) := by
  rw [Bool.eq_iff_iff, decide_eq_true_iff, ByteArray.toList_eq, List.isEmpty_iff]
  constructor
  · intro h
    cases s with | mk d => exact congrArg ByteArray.mk (Array.toList_inj.1 h)
  · intro h; subst h; rfl
theorem str_no {a b : ByteArray} (h : a ≠ b) : (a.toList == b.toList) = false := by
  rw [beq_eq_false_iff_ne]
  intro e
  rw [ByteArray.toList_eq, ByteArray.toList_eq] at e
  apply h
  cases a with | mk a => cases b with | mk b => exact congrArg ByteArray.mk (Array.toList_inj.1 e)
theorem ext_take (p q : ByteArray) (c : Nat) : q = p.extract 0 c ↔ q.data.toList = p.data.toList.take c := by
  have h1 : (p.extract 0 c).data.toList = p.data.toList.take c := by simp
  constructor
  · intro h; rw [h, h1]
  · intro h
    rw [← h1] at h
    cases q with | mk q => exact congrArg ByteArray.mk (Array.toList_inj.1 h)
theorem thB_zero (L : List Nd) (x : Nd) : x.same.toList.isEmpty = thB L x 0 := by
  unfold thB; rw [emp_isEmpty]; simp
theorem hmB_zero (L : List Nd) (x : Nd) (c : Nat) : ((c : Int) == 0) = hmB L x c 0 := by
  unfold hmB
  rw [Bool.eq_iff_iff]
  simp
theorem cut_yes {p : ByteArray} {i : Nat} (h : i < p.size) (e : ((p[i].toNat : Int)) = 47) : cutN p.data.toList (i + 1) = i := by
  have h1 : p.data.toList.getD i 0 = p[i] := by
    rw [List.getD_eq_getElem?_getD, List.getElem?_eq_getElem (by rw [Array.length_toList]; exact h)]
    simp
    rfl
  rw [cutN, h1, if_pos]
  exact UInt8.toNat_inj.1 (by have : (47 : UInt8).toNat = 47 := rfl; omega)
theorem cut_no {p : ByteArray} {i : Nat} (h : i < p.size) (e : ¬ ((p[i].toNat : Int)) = 47) : cutN p.data.toList (i + 1) = cutN p.data.toList i := by
  have h1 : p.data.toList.getD i 0 = p[i] := by
    rw [List.getD_eq_getElem?_getD, List.getElem?_eq_getElem (by rw [Array.length_toList]; exact h)]
    simp
    rfl
  rw [cutN, h1, if_neg]
  intro e2
  rw [e2] at e
  exact e rfl
set_option maxHeartbeats 3200000 in
set_option maxRecDepth 100000 in
theorem counted_any (A : Option Addr) (cap : Nat) (l : List Nd) (w : World) (hN : NodesAt w w.heap.size A l) (hln : l.length ≤ 1000000) (hsz : ∀ x ∈ l, x.path.size ≤ 1000000) (hok : ∀ i (h : i < l.length), CntOk l i l[i]) :
    Calls Tryz.prog 30 #[.slice A l.length cap] w fun e w' => e = .returned (.bool true) ∧ Below w.heap.size w w' := by
  obtain ⟨len, hlen⟩ : ∃ len, len = l.length := ⟨_, rfl⟩
  have hlenH := Lib.hid hlen
  rw [← hlen] at hln ⊢
  have hNH := Lib.hid hN
  have hszH := Lib.hid hsz
  have hokH := Lib.hid hok
  clear hlen hN hsz hok
  go_enter Tryz.func30, Tryz.ntmps30
  go_wp2
  go_loopw [3] (fun i wr => ∃ j : Nat, j ≤ len ∧ i = .int .i64 j ∧ Below w.heap.size w wr) (fun i _ => len - (intOf i).toNat)
  case atStart => exact ⟨0, Nat.zero_le _, rfl, Below.refl _ _⟩
  case round =>
    obtain ⟨j, hj, rfl, hb⟩ := hrel
    by_cases hjk : j < len
    · have t1 : decide ((j : Int) < (len : Int)) = true := by simpa using hjk
      have hjl : j < l.length := by have := hlenH.out; omega
      obtain ⟨b, off, rfl, hbB, hc⟩ := hNH.out.at_ (by omega)
      have hci := (hc j hjl).keep (w1 := wr) fun p hp => hb.cell (by omega)
      have hokj := Lib.hid (hokH.out j hjl)
      have hszj := hszH.out _ (List.getElem_mem hjl)
      generalize hxx : l[j] = x at *
      have hk12 := hokj.out.kind
      obtain ⟨pa, ki, ma, sa, dA, dc, da⟩ := x
      obtain ⟨c0, c1, c2, c3, c4⟩ := hci
      simp only at c0 c1 c2 c3 c4 hszj hk12
      have hbH := Lib.hid hb
      have hcH := Lib.hid hc
      clear hb hc hxx
      go_upto_region 5 with (fail)
      have hW1 : Below wr.heap.size wr (wr.alloc (.cells #[.string pa, .int .i64 ki, .int .i64 ma, .string sa, .slice dA da.length dc] 75)) := (Below.refl _ _).alloc (Nat.le_refl _) _
      have hk1 : Blk (wr.alloc (.cells #[.string pa, .int .i64 ki, .int .i64 ma, .string sa, .slice dA da.length dc] 75)) wr.heap.size 75 [.string pa, .int .i64 ki, .int .i64 ma, .string sa, .slice dA da.length dc] := Blk.new wr _ _
      change Code.wp _ _ _ _ (wr.alloc (.cells #[.string pa, .int .i64 ki, .int .i64 ma, .string sa, .slice dA da.length dc] 75))
      generalize wr.alloc (.cells #[.string pa, .int .i64 ki, .int .i64 ma, .string sa, .slice dA da.length dc] 75) = W1 at *
      have hb1H : Hid (Below w.heap.size w W1) := Lib.hid (hbH.out.trans (hW1.mono hbH.out.size))
      obtain ⟨g, hgE⟩ : ∃ g, wr.heap.size = g := ⟨_, rfl⟩
      rw [hgE] at hk1
      simp only [hgE]
      have hgH := Lib.hid hgE
      have y0 := hk1.cell 0
      have y1 := hk1.cell 1
      have y3 := hk1.cell 3
      have y4 := hk1.cell 4
      simp only [List.getElem?_cons_succ, List.getElem?_cons_zero] at y0 y1 y3 y4
      have hk1H := Lib.hid hk1
      clear hk1 hgE c0 c1 c2 c3 c4
      go_cut [54] from 10 to 139 (fun v wx => v = .bool false ∧ wx = W1)
      case first =>
        rcases hk12 with rfl | rfl
        · by_cases hs : sa = ⟨#[]⟩
          · subst hs
            go_wp2
            go_meet
            exact ⟨rfl, rfl⟩
          · have hd : da = [] := by
              rcases hokj.out.one with h | h
              · exact absurd h hs
              · exact h
            subst hd
            have hse : sa.toList.isEmpty = false := by rw [emp_isEmpty]; exact decide_eq_false hs
            clear hs
            go_wp2
            go_meet
            exact ⟨rfl, rfl⟩
        · obtain ⟨h1, h2⟩ := hokj.out.dir rfl
          simp only at h1 h2
          subst h1 h2
          go_wp2
          go_meet
          exact ⟨rfl, rfl⟩
      case rest =>
        obtain ⟨rfl, rfl⟩ := hcut
        go_upto_region 9 with (fail)
        have h0 := thB_zero l ⟨pa, ki, ma, sa, dA, dc, da⟩
        simp only at h0
        rw [h0]
        have th0 := Lib.hid h0
        clear h0
        obtain ⟨b5, hb5⟩ : ∃ b5, thB l ⟨pa, ki, ma, sa, dA, dc, da⟩ 0 = b5 := ⟨_, rfl⟩
        simp only [hb5]
        have hb5H := Lib.hid hb5
        clear hb5 th0
        go_wp2_with (fail)
        go_loopw [6, 7] (fun c k wr2 => ∃ i : Nat, i ≤ pa.size ∧ k = .int .i64 i ∧ c = .int .i64 (cutN pa.data.toList i : Nat) ∧ wr2 = wc) (fun _ k _ => pa.size - (intOf k).toNat)
        case atStart => exact ⟨0, Nat.zero_le _, rfl, rfl, rfl⟩
        case round =>
          obtain ⟨i, hi, rfl, rfl, rfl⟩ := hrel
          by_cases hik : i < pa.size
          · have u1 : decide ((i : Int) < (pa.size : Int)) = true := by simpa using hik
            by_cases h47 : ((pa[i].toNat : Int)) = 47
            · have u2 : ((pa[i].toNat : Int) == 47) = true := by simpa using h47
              have u3 := Lib.hid (cut_yes hik h47)
              clear h47
              go_wp2
              go_roundw
              case rel => exact ⟨i + 1, by omega, by go_num, by rw [u3.out], by first | rfl | trivial⟩
              case measure => simp [intOf]; omega
            · have u2 : ((pa[i].toNat : Int) == 47) = false := by simpa using h47
              have u3 := Lib.hid (cut_no hik h47)
              clear h47
              go_wp2
              go_roundw
              case rel => exact ⟨i + 1, by omega, by go_num, by rw [u3.out], by first | rfl | trivial⟩
              case measure => simp [intOf]; omega
          · obtain rfl : i = pa.size := by omega
            have u1 : decide ((pa.size : Int) < (pa.size : Int)) = false := by simp
            go_upto_region 16 with (fail)
            have hcu := cutN_le pa.data.toList pa.size
            have hm0 := hmB_zero l ⟨pa, ki, ma, sa, dA, dc, da⟩ (cutN pa.data.toList pa.size)
            obtain ⟨cu, hcuE⟩ : ∃ cu, cutN pa.data.toList pa.size = cu := ⟨_, rfl⟩
            simp only [hcuE] at hm0 hcu ⊢
            rw [hm0]
            clear hm0
            obtain ⟨b8, hb8⟩ : ∃ b8, hmB l ⟨pa, ki, ma, sa, dA, dc, da⟩ cu 0 = b8 := ⟨_, rfl⟩
            simp only [hb8]
            have hb8H := Lib.hid hb8
            have hcuH := Lib.hid hcuE
            clear hb8 hcuE u1 hik hi
            go_loopw [5, 8, 9] (fun th hm k wr2 => ∃ (i nq : Nat) (b1 b2 : Bool), i ≤ j ∧ k = .int .i64 i ∧ th = .bool b1 ∧ hm = .bool b2 ∧ Hid (b1 = thB l ⟨pa, ki, ma, sa, dA, dc, da⟩ i) ∧ Hid (b2 = hmB l ⟨pa, ki, ma, sa, dA, dc, da⟩ cu i) ∧ wr2 = wr.drewN nq) (fun _ _ k _ => j - (intOf k).toNat)
            case atStart => exact ⟨0, 0, b5, b8, Nat.zero_le _, rfl, rfl, rfl, Lib.hid hb5H.out.symm, Lib.hid hb8H.out.symm, rfl⟩
            case round =>
              obtain ⟨i, nq, b1, b2, hi, rfl, rfl, rfl, hb1, hb2, rfl⟩ := hrel
              by_cases hij : i < j
              · have u1 : decide ((i : Int) < (j : Int)) = true := by simpa using hij
                have hil : i < l.length := by omega
                have hci := (hcH.out i hil).keep (w1 := wr) fun p hp => hb1H.out.cell (by omega)
                have hnew := hokj.out.new i hil hij
                have hst1 := Lib.hid (thB_step (x := ⟨pa, ki, ma, sa, dA, dc, da⟩) hil)
                have hst2 := Lib.hid (hmB_step (x := ⟨pa, ki, ma, sa, dA, dc, da⟩) (c := cu) hil)
                generalize hyy : l[i] = y at *
                obtain ⟨pa2, ki2, ma2, sa2, dA2, dc2, da2⟩ := y
                obtain ⟨d0, d1, d2, d3, d4⟩ := hci
                simp only at d0 d1 d2 d3 d4 hnew hst1 hst2
                clear hyy
                go_upto_region 18 with (fail)
                go_cut [5] from 73 to 133 (fun v wx => ∃ (n2 : Nat) (b : Bool), v = .bool b ∧ wx = wr.drewN n2 ∧ Hid (b = thB l ⟨pa, ki, ma, sa, dA, dc, da⟩ (i + 1)))
                case first =>
                  cases b1 with
                  | true =>
                    have hfin : Hid (true = thB l ⟨pa, ki, ma, sa, dA, dc, da⟩ (i + 1)) := Lib.hid (by rw [hst1.out, ← hb1.out]; rfl)
                    clear hst1 hst2 hb1 hb2 hnew
                    go_quiet (fail)
                    go_wp2
                    go_meet
                    exact ⟨_, _, rfl, by rw [World.drewN_drewN], hfin⟩
                  | false =>
                    have hfin : Hid (∀ c : Bool, c = decide (pa2 = sa ∧ ki2 = 1 ∧ sa2 = ⟨#[]⟩) → c = thB l ⟨pa, ki, ma, sa, dA, dc, da⟩ (i + 1)) := Lib.hid fun c hc => by rw [hst1.out, ← hb1.out, Bool.false_or]; exact hc
                    clear hst1 hst2 hb1 hb2 hnew
                    by_cases hp : pa2 = sa
                    · subst hp
                      by_cases hk : ki2 = 1
                      · subst hk
                        by_cases hs : sa2 = ⟨#[]⟩
                        · subst hs
                          have hf2 := Lib.hid (hfin.out true (by simp))
                          clear hfin
                          go_quiet (fail)
                          go_wp2
                          go_meet
                          exact ⟨_, _, rfl, by rw [World.drewN_drewN], hf2⟩
                        · have hse : sa2.toList.isEmpty = false := by rw [emp_isEmpty]; exact decide_eq_false hs
                          have hf2 := Lib.hid (hfin.out false (by simp [hs]))
                          clear hfin hs
                          go_quiet (fail)
                          go_wp2
                          go_meet
                          exact ⟨_, _, rfl, by rw [World.drewN_drewN], hf2⟩
                      · have hke : (ki2 == 1) = false := by simpa using hk
                        have hf2 := Lib.hid (hfin.out false (by simp [hk]))
                        clear hfin hk
                        go_quiet (fail)
                        go_wp2
                        go_meet
                        exact ⟨_, _, rfl, by rw [World.drewN_drewN], hf2⟩
                    · have hpe := str_no hp
                      have hf2 := Lib.hid (hfin.out false (by simp [hp]))
                      clear hfin hp
                      go_quiet (fail)
                      go_wp2
                      go_meet
                      exact ⟨_, _, rfl, by rw [World.drewN_drewN], hf2⟩
                case rest =>
                  obtain ⟨n2, b3, rfl, rfl, hb3⟩ := hcut
                  go_upto_region 19 with (fail)
                  go_cut [8] from 73 to 133 (fun v wx => ∃ (n3 : Nat) (b : Bool), v = .bool b ∧ wx = wr.drewN n3 ∧ Hid (b = hmB l ⟨pa, ki, ma, sa, dA, dc, da⟩ cu (i + 1)))
                  case first =>
                    have hsl : ∀ W : World, (Instr.sliceAt 9 (.string pa) none (some (.int .i64 (cu : Int))) none).run Tryz.prog W = .ok (.string (pa.extract 0 cu)) W := fun W => by
                      rw [run_sliceAt_string _ _ _ _ _ _ Tryz.underlying9, run_slice_string_h _ 9 pa Tryz.underlying9 .i64 (cu : Int) (by omega) (by omega)]
                      rfl
                    cases b2 with
                    | true =>
                      have hfin : Hid (true = hmB l ⟨pa, ki, ma, sa, dA, dc, da⟩ cu (i + 1)) := Lib.hid (by rw [hst2.out, ← hb2.out]; rfl)
                      clear hst1 hst2 hb1 hb2 hnew
                      go_quiet (fail)
                      go_wp2
                      go_meet
                      exact ⟨_, _, rfl, by rw [World.drewN_drewN], hfin⟩
                    | false =>
                      have hfin : Hid (∀ c : Bool, c = decide (pa2.data.toList = pa.data.toList.take cu ∧ ki2 = 2) → c = hmB l ⟨pa, ki, ma, sa, dA, dc, da⟩ cu (i + 1)) := Lib.hid fun c hc => by rw [hst2.out, ← hb2.out, Bool.false_or]; exact hc
                      clear hst1 hst2 hb1 hb2 hnew
                      have hex : pa2 = pa.extract 0 cu ↔ pa2.data.toList = pa.data.toList.take cu := ext_take pa pa2 cu
                      by_cases hp : pa2 = pa.extract 0 cu
                      · have hpt := hex.1 hp
                        by_cases hk : ki2 = 2
                        · have hf2 := Lib.hid (hfin.out true (by simp [hpt, hk]))
                          clear hfin hpt hex
                          subst hp hk
                          go_quiet (fail)
                          go_wp2
                          go_meet
                          exact ⟨_, _, rfl, by rw [World.drewN_drewN], hf2⟩
                        · have hke : (ki2 == 2) = false := by simpa using hk
                          have hf2 := Lib.hid (hfin.out false (by simp [hk]))
                          clear hfin hk hpt hex
                          subst hp
                          go_quiet (fail)
                          go_wp2
                          go_meet
                          exact ⟨_, _, rfl, by rw [World.drewN_drewN], hf2⟩
                      · have hpe := str_no hp
                        have hpt : ¬ (pa2.data.toList = pa.data.toList.take cu) := fun h => hp (hex.2 h)
                        have hf2 := Lib.hid (hfin.out false (by simp [hpt]))
                        clear hfin hp hpt hex
                        go_quiet (fail)
                        go_wp2
                        go_meet
                        exact ⟨_, _, rfl, by rw [World.drewN_drewN], hf2⟩
                  case rest =>
                    obtain ⟨n3, b4, rfl, rfl, hb4⟩ := hcut
                    have hpe := str_no hnew
                    clear hst1 hst2 hnew
                    go_wp2
                    go_quiet (fail)
                    go_wp2
                    go_roundw
                    case rel =>
                      exact ⟨i + 1, n3 + nq, b3, b4, by omega, by go_num, rfl, rfl, hb3, hb4, rfl⟩
                    case measure =>
                      simp [intOf]
                      omega
              · have hij2 : i = j := by omega
                subst hij2
                have u1 : decide ((i : Int) < (i : Int)) = false := by simp
                have q1 : b1 = true := by rw [hb1.out]; exact thB_all hokj.out
                have q2 : b2 = true := by rw [hb2.out, ← hcuH.out]; exact hmB_all hokj.out
                clear hb1 hb2 hij
                subst q1 q2
                go_wp2
                exact ⟨⟨i + 1, by omega, by go_num, below_drewN' hb1H.out nq⟩, by simp [intOf]; omega⟩
    · obtain rfl : j = len := by omega
      have t1 : decide ((j : Int) < (j : Int)) = false := by simp
      go_wp2
      go_ret
      exact ⟨rfl, hb⟩
#print axioms counted_any
end Go.Proofs.YtolpcfhfcdkokaaGreatDoor
