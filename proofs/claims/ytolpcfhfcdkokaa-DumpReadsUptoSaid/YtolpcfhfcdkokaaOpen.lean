/-
  A slice of nodes that came in, opened: what it reads as gives the nodes in memory, and their sizes' bounds.
-/
import Derived.Test.YtolpcfhfcdkokaaNode
import Derived.ProofKit
import Derived.OpenShut
import Derived.ShutString
import Derived.SizedLaws
import Derived.Deep.Slices
namespace Go.Proofs.Ytolpcfhfcdkokaa
open Go.ChangeShapes Go.WideShapes Go.ChangeAt Go.RowKit

theorem cellsNode : Try.prog.cellsOf 47 = 5 := by kernel_rfl
theorem cellsInt : Try.prog.cellsOf 3 = 1 := by kernel_rfl
theorem cellsStr : Try.prog.cellsOf 9 = 1 := by kernel_rfl
theorem cellsSl : Try.prog.cellsOf 29 = 1 := by kernel_rfl
theorem cellsU8 : Try.prog.cellsOf 5 = 1 := by kernel_rfl
theorem bytesU8 : Try.prog.bytesOf 5 = 1 := by kernel_rfl
theorem bytesNode : Try.prog.bytesOf 47 = 72 := by kernel_rfl

/-- What a node reads as: its data, but for where its bytes lie. -/
def ndData {H : Type} (x : Nd) (d : DataW H) : Prop :=
  ∃ dd : DataW H, d = .agg [.lit (.string x.path.data.toList), .lit (.int .i64 x.kind), .lit (.int .i64 x.made), .lit (.string x.same.data.toList), dd] ∧
    ((dd = .nil ∧ x.data = []) ∨ ∃ es sp, dd = .slice es sp ∧ es.length = x.data.length)

theorem u8_back (n : Int) (h : (Lit.int .u8 n).wf = true) : ((UInt8.ofNat n.toNat).toNat : Int) = n := by
  have hx : 0 ≤ n ∧ n ≤ 255 := by simpa [Lit.wf, IntKind.min, IntKind.max, IntKind.signed, IntKind.bits] using h
  have : (UInt8.ofNat n.toNat).toNat = n.toNat % 256 := UInt8.toNat_ofNat'
  omega

theorem open_bytes {H : Type} {enc : TypeId × Value → H} {W : World} {fuel : Nat} {cs : List Value} {x : DataW H × List MemPlace} (h : DataW.trod enc Try.prog W 0 (fun _ => true) true fuel 29 cs = some x) :
    ∃ (A : Option Addr) (c : Nat) (l : List UInt8), cs = [.slice A l.length c] ∧ l.length ≤ c ∧ c ≤ maxLen ∧ Sees W W.heap.size 1 A l.length (bvs l) ∧
      ((x.1 = .nil ∧ l = []) ∨ ∃ es sp, x.1 = .slice es sp ∧ es.length = l.length) := by
  rcases open_ints Try.underlying29 Try.underlying5 cellsU8 h with ⟨rfl, rfl⟩ | ⟨a, len, cap, zs, rfl, _, hl, hm, hz, rfl, hcell, hwf⟩
  · exact ⟨none, 0, [], rfl, Nat.le_refl _, by unfold maxLen; omega, Sees.nil, .inl ⟨rfl, rfl⟩⟩
  · simp only [if_true] at hz
    have hlen : ((zs.take len).map fun n => UInt8.ofNat n.toNat).length = len := by rw [List.length_map, List.length_take]; omega
    refine ⟨some a, cap, (zs.take len).map fun n => UInt8.ofNat n.toNat, by rw [hlen], by omega, hm, ⟨by rw [bvs_length]; omega, fun hn => ?_⟩, .inr ⟨_, _, rfl, by rw [hlen]; simp [lits]; omega⟩⟩
    rw [hlen] at hn
    have hc0 := hcell 0 (by omega)
    obtain ⟨b, off, spot⟩ := a
    have hspot : spot = none := by simpa [Addr.add] using World.cell?_spot hc0
    subst hspot
    refine ⟨b, off, rfl, ?_, fun j u hu => ?_⟩
    · have := World.block_lt_of_cell? W _ hc0
      simpa [Addr.add] using this
    · have hj : j < len := by
        rcases Nat.lt_or_ge j len with h | h
        · exact h
        · have : (bvs ((zs.take len).map fun n => UInt8.ofNat n.toNat)).length ≤ j := by rw [bvs_length, hlen]; exact h
          rw [List.getElem?_eq_none this] at hu; cases hu
      have hjz : j < zs.length := by omega
      have hc := hcell j hjz
      rw [Addr.add_lit] at hc
      rw [hc]
      have hw := hwf _ (List.getElem_mem hjz)
      have hub := u8_back _ hw
      simp only [bvs, List.map_map, List.getElem?_map, List.getElem?_take, hj, if_true, List.getElem?_eq_getElem hjz, Option.map_some, Function.comp, hub] at hu
      rw [← hu]
      simp [List.getD, List.getElem?_eq_getElem hjz]

theorem open_node {H : Type} {enc : TypeId × Value → H} {W : World} {fuel : Nat} {cs : List Value} {x : DataW H × List MemPlace} (h : DataW.trod enc Try.prog W 0 (fun _ => true) true fuel 47 cs = some x) :
    ∃ nd : Nd, cs = [.string nd.path, .int .i64 nd.kind, .int .i64 nd.made, .string nd.same, .slice nd.dA nd.data.length nd.dc] ∧ Sees W W.heap.size 1 nd.dA nd.data.length (bvs nd.data) ∧ ndData nd x.1 := by
  obtain ⟨xs, n, rfl, rfl, hcs, hxl, hf⟩ := DataW.trod_struct Try.underlying47 h
  rw [cellsNode] at hcs
  have hxl5 : xs.length = 5 := hxl
  obtain ⟨k0, k1, k2, k3, k4, rfl⟩ : ∃ a b c d e, cs = [a, b, c, d, e] := by
    match cs, hcs with
    | [a, b, c, d, e], _ => exact ⟨a, b, c, d, e, rfl⟩
  obtain ⟨y0, y1, y2, y3, y4, rfl⟩ : ∃ a b c d e, xs = [a, b, c, d, e] := by
    match xs, hxl5 with
    | [a, b, c, d, e], _ => exact ⟨a, b, c, d, e, rfl⟩
  have f0 : DataW.trod enc Try.prog W 0 (fun _ => true) true n 9 (([k0, k1, k2, k3, k4].drop 0).take (Try.prog.cellsOf 9)) = some y0 := hf 0 _ rfl
  have f1 : DataW.trod enc Try.prog W 0 (fun _ => true) true n 3 (([k0, k1, k2, k3, k4].drop 1).take (Try.prog.cellsOf 3)) = some y1 := hf 1 _ rfl
  have f2 : DataW.trod enc Try.prog W 0 (fun _ => true) true n 3 (([k0, k1, k2, k3, k4].drop 2).take (Try.prog.cellsOf 3)) = some y2 := hf 2 _ rfl
  have f3 : DataW.trod enc Try.prog W 0 (fun _ => true) true n 9 (([k0, k1, k2, k3, k4].drop 3).take (Try.prog.cellsOf 9)) = some y3 := hf 3 _ rfl
  have f4 : DataW.trod enc Try.prog W 0 (fun _ => true) true n 29 (([k0, k1, k2, k3, k4].drop 4).take (Try.prog.cellsOf 29)) = some y4 := hf 4 _ rfl
  rw [cellsStr] at f0 f3
  rw [cellsInt] at f1 f2
  rw [cellsSl] at f4
  obtain ⟨s0, e0, z0, _⟩ := DataW.trod_string Try.underlying9 f0
  obtain ⟨i1, e1, z1, _⟩ := DataW.trod_int Try.underlying3 f1
  obtain ⟨i2, e2, z2, _⟩ := DataW.trod_int Try.underlying3 f2
  obtain ⟨s3, e3, z3, _⟩ := DataW.trod_string Try.underlying9 f3
  obtain ⟨A, c, l, e4, _, _, hS, z4⟩ := open_bytes f4
  simp at e0 e1 e2 e3 e4
  subst e0 e1 e2 e3 e4
  refine ⟨⟨s0, i1, i2, s3, A, c, l⟩, rfl, hS, y4.1, ?_, z4⟩
  simp [z0, z1, z2, z3]

theorem open_nodes {H : Type} {enc : TypeId × Value → H} {W : World} {A : Option Addr} {n c : Nat} {d : DataW H} {p : List MemPlace} (h : DataW.Trod enc Try.prog W 0 (fun _ => true) true 22 (.slice A n c) d p) :
    ∃ l : List Nd, l.length = n ∧ n ≤ c ∧ c ≤ maxLen ∧ NodesAt W W.heap.size A l ∧ ((d = .nil ∧ l = []) ∨ ∃ es sp, d = .slice es sp ∧ es.length = l.length ∧ ∀ i (hi : i < l.length) (hi' : i < es.length), ndData l[i] es[i]) := by
  obtain ⟨fuel, hf⟩ := h
  rcases Deep.open_slice Try.underlying22 hf with ⟨hcs, hx⟩ | ⟨a, len, cap, m, k, D, Pl, hcs, _, hl, hm, hmm, hx, hel⟩
  · simp [Value.cells] at hcs
    obtain ⟨rfl, rfl, rfl⟩ := hcs
    simp only [Prod.mk.injEq] at hx
    exact ⟨[], rfl, Nat.le_refl _, by unfold maxLen; omega, ⟨fun h => absurd h (by simp), fun x hx => absurd hx (by simp)⟩, .inl ⟨hx.1, rfl⟩⟩
  · simp [Value.cells] at hcs
    obtain ⟨rfl, rfl, rfl⟩ := hcs
    simp only [Prod.mk.injEq] at hx
    simp only [if_true] at hmm
    subst hmm
    rw [cellsNode] at hel
    have hone : ∀ i, i < n → ∃ nd : Nd, W.cells? 0 (a.add (i * 5)) 5 = some [.string nd.path, .int .i64 nd.kind, .int .i64 nd.made, .string nd.same, .slice nd.dA nd.data.length nd.dc] ∧ Sees W W.heap.size 1 nd.dA nd.data.length (bvs nd.data) ∧ ndData nd (D i) := fun i hi => by
      obtain ⟨cs', h1, h2⟩ := hel i (by omega)
      obtain ⟨nd, rfl, h3, h4⟩ := open_node h2
      exact ⟨nd, h1, h3, h4⟩
    have : Inhabited Nd := ⟨⟨ByteArray.empty, 0, 0, ByteArray.empty, none, 0, []⟩⟩
    obtain ⟨f, hfn⟩ := Deep.choose_lt hone
    refine ⟨(List.range n).map f, by simp, hl, hm, ⟨fun hn => ?_, fun x hx => ?_⟩, .inr ⟨_, _, hx.1, by simp, fun i hi hi' => ?_⟩⟩
    · rw [List.length_map, List.length_range] at hn
      obtain ⟨h1, _, _⟩ := hfn 0 hn
      obtain ⟨_, _, h2⟩ := World.cells?_some h1
      have h3 := h2 0 (by omega)
      simp only [Nat.zero_mul] at h3
      obtain ⟨b, off, spot⟩ := a
      have h3' : W.cell? ⟨b, off, spot⟩ = some (.string (f 0).path) := by simpa [Addr.add] using h3
      have hspot : spot = none := by simpa using World.cell?_spot h3'
      subst hspot
      refine ⟨b, off, rfl, World.block_lt_of_cell? W _ h3', fun i hi => ?_⟩
      rw [List.length_map, List.length_range] at hi
      obtain ⟨g1, _, _⟩ := hfn i hi
      obtain ⟨_, _, g2⟩ := World.cells?_some g1
      have go : ∀ k, W.cell? (((⟨b, off, none⟩ : Addr).add (i * 5)).add k) = W.cell? ⟨b, off + i * 5 + k, none⟩ := fun k => by rw [Addr.add_lit, Addr.add_lit]
      have c0 := g2 0 (by omega)
      have c1 := g2 1 (by omega)
      have c2 := g2 2 (by omega)
      have c3 := g2 3 (by omega)
      have c4 := g2 4 (by omega)
      rw [go] at c0 c1 c2 c3 c4
      simp only [List.getElem_map, List.getElem_range]
      exact ⟨c0, c1, c2, c3, c4⟩
    · obtain ⟨i, hi, rfl⟩ := List.mem_map.1 hx
      exact (hfn i (List.mem_range.1 hi)).2.1
    · simp only [List.getElem_map, List.getElem_range]
      rw [List.length_map, List.length_range] at hi
      exact (hfn i hi).2.2

theorem mem_weightsAll {H : Type} (P : Program) (e : TypeId) : ∀ (l : List (DataW H)) (d : DataW H), d ∈ l → ∀ x ∈ d.weights P e, x ∈ DataW.weightsAll P e l := by
  intro l
  induction l with
  | nil => intro d hd; cases hd
  | cons y l ih =>
    intro d hd x hx
    simp only [DataW.weightsAll, List.mem_append]
    rcases List.mem_cons.1 hd with rfl | hd
    · exact .inl hx
    · exact .inr (ih d hd x hx)
theorem nodes_big {H : Type} {l : List Nd} {d : DataW H} (h : (d = .nil ∧ l = []) ∨ ∃ es sp, d = .slice es sp ∧ es.length = l.length ∧ ∀ i (hi : i < l.length) (hi' : i < es.length), ndData l[i] es[i])
    (hw : ∀ x ∈ d.weights Try.prog 22, x ≤ 140737488351232) :
    l.length ≤ 281474976710656 ∧ ∀ x ∈ l, x.path.size ≤ 140737488351232 ∧ x.same.size ≤ 140737488351232 ∧ x.data.length ≤ 140737488351232 := by
  rcases h with ⟨_, rfl⟩ | ⟨es, sp, rfl, hl, hn⟩
  · exact ⟨by simp, fun x hx => absurd hx (by simp)⟩
  · have hw1 : ∀ x ∈ DataW.weightsAll Try.prog 47 es, x ≤ 140737488351232 := fun x hx => hw x (by simp only [DataW.weights, Try.underlying22, List.mem_cons, List.mem_append]; exact .inr (.inl hx))
    have hw0 := hw ((es.length + sp.length) * Try.prog.bytesOf 47) (by simp only [DataW.weights, Try.underlying22, List.mem_cons]; exact .inl trivial)
    rw [bytesNode] at hw0
    refine ⟨by omega, fun x hx => ?_⟩
    obtain ⟨i, hi, rfl⟩ := List.getElem_of_mem hx
    obtain ⟨dd, e, hdd⟩ := hn i hi (by omega)
    have hin : es[i]'(by omega) ∈ es := List.getElem_mem _
    have hx' : ∀ x ∈ (es[i]'(by omega)).weights Try.prog 47, x ≤ 140737488351232 := fun x hx => hw1 x (mem_weightsAll Try.prog _ es _ hin x hx)
    rw [e] at hx'
    have hW : ∀ z, (z = l[i].path.data.toList.length ∨ z = l[i].same.data.toList.length ∨ z ∈ dd.weights Try.prog 29) → z ≤ 140737488351232 := fun z hz => hx' z (by
      simp only [DataW.weights, Try.underlying47, DataW.weightsEach, List.map_cons, List.map_nil, List.mem_append, List.mem_cons, List.not_mem_nil, or_false, false_or]
      rcases hz with h | h | h
      · exact .inl h
      · exact .inr (.inl h)
      · exact .inr (.inr h))
    have p1 := hW _ (.inl rfl)
    have p2 := hW _ (.inr (.inl rfl))
    rw [Array.length_toList] at p1 p2
    refine ⟨p1, p2, ?_⟩
    rcases hdd with ⟨_, h0⟩ | ⟨es', sp', rfl, h0⟩
    · rw [h0]; simp
    · have := hW ((es'.length + sp'.length) * Try.prog.bytesOf 5) (.inr (.inr (by simp only [DataW.weights, Try.underlying29, List.mem_cons]; exact .inl trivial)))
      rw [bytesU8] at this
      omega
#print axioms nodes_big
end Go.Proofs.Ytolpcfhfcdkokaa
