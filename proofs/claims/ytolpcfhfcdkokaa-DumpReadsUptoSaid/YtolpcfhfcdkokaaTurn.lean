/-
  turn: lent nodes become others, in their own memory; their texts and lengths stay.
-/
import Derived.Test.YtolpcfhfcdkokaaKept
namespace Go.Proofs.Ytolpcfhfcdkokaa
open Go.RowKit

/-- While lent nodes are turned: X i is node i as it is now. -/
structure TurnI (w0 w : World) (g : Nat) (bs : Nat → Nat) (l : List Nd) (X : Nat → Nd) : Prop where
  node : ∀ i, i < l.length → NodeAt w g (i * 5) (X i)
  adr : ∀ i, i < l.length → (X i).dA = some ⟨bs i, 0, none⟩
  size : ∀ i (h : i < l.length), (X i).path = l[i].path ∧ (X i).same = l[i].same ∧ (X i).data.length = l[i].data.length
  data : ∀ i, i < l.length → Blk w (bs i) 5 (bvs (X i).data ++ mark5)
  row : ∃ cs, Blk w g 47 cs ∧ cs.length = (l.length + 3) * 5
  chg : Chg (fun b => b = g ∨ ∃ i, i < l.length ∧ b = bs i) w0 w

theorem TurnI.drew {w0 w : World} {g : Nat} {bs : Nat → Nat} {l : List Nd} {X : Nat → Nd} (h : TurnI w0 w g bs l X) (n : Nat) : TurnI w0 (w.drewN n) g bs l X :=
  ⟨h.node, h.adr, h.size, h.data, h.row, h.chg.drewN n⟩
theorem TurnI.made {w0 w : World} {g : Nat} {bs : Nat → Nat} {l : List Nd} {X : Nat → Nd} (h : TurnI w0 w g bs l X) {j : Nat} (hj : j < l.length) (m : Int) (hne : ∀ i, i < l.length → bs i ≠ g) :
    TurnI w0 (w.setCell ⟨g, j * 5 + 2, none⟩ (.int .i64 m)) g bs l (fun i => if i = j then { X j with made := m } else X i) := by
  have hoth : ∀ o u, o ≠ j * 5 + 2 → w.cell? ⟨g, o, none⟩ = some u → (w.setCell ⟨g, j * 5 + 2, none⟩ (.int .i64 m)).cell? ⟨g, o, none⟩ = some u := fun o u ho hu => (World.cell?_setCell_other w _ _ _ (by intro e; injection e with _ e; exact ho e.symm)).trans hu
  refine ⟨fun i hi => ?_, fun i hi => ?_, fun i hi => ?_, fun i hi => ?_, ?_, h.chg.setCell (fun _ => .inl rfl) _⟩
  · obtain ⟨a0, a1, a2, a3, a4⟩ := h.node i hi
    by_cases e : i = j
    · subst e
      simp only [if_true]
      exact ⟨hoth _ _ (by omega) a0, hoth _ _ (by omega) a1, World.cell?_setCell_same w _ _ a2, hoth _ _ (by omega) a3, hoth _ _ (by omega) a4⟩
    · simp only [if_neg e]
      exact ⟨hoth _ _ (by omega) a0, hoth _ _ (by omega) a1, hoth _ _ (by omega) a2, hoth _ _ (by omega) a3, hoth _ _ (by omega) a4⟩
  · by_cases e : i = j
    · subst e; simp only [if_true]; exact h.adr i hi
    · simp only [if_neg e]; exact h.adr i hi
  · by_cases e : i = j
    · subst e; simp only [if_true]; exact h.size i hi
    · simp only [if_neg e]; exact h.size i hi
  · have := (h.data i hi).far (p := ⟨g, j * 5 + 2, none⟩) (hne i hi) (.int .i64 m)
    by_cases e : i = j
    · subst e; simp only [if_true]; exact this
    · simp only [if_neg e]; exact this
  · obtain ⟨cs, hr, hl⟩ := h.row
    exact ⟨_, hr.set_ (j * 5 + 2) _, by simpa using hl⟩
theorem TurnI.byte {w0 w : World} {g : Nat} {bs : Nat → Nat} {l : List Nd} {X : Nat → Nd} (h : TurnI w0 w g bs l X) {j k : Nat} (hj : j < l.length) (hk : k < (X j).data.length) (v : UInt8) (hne : ∀ i, i < l.length → bs i ≠ g) (hinj : ∀ i i', i < l.length → i' < l.length → bs i = bs i' → i = i') :
    TurnI w0 (w.setCell ⟨bs j, k, none⟩ (.int .u8 (v.toNat : Int))) g bs l (fun i => if i = j then { X j with data := (X j).data.set k v } else X i) := by
  have hoth : ∀ o u, w.cell? ⟨g, o, none⟩ = some u → (w.setCell ⟨bs j, k, none⟩ (.int .u8 (v.toNat : Int))).cell? ⟨g, o, none⟩ = some u := fun o u hu => (World.cell?_setCell_other w _ _ _ (by intro e; injection e with e; exact hne j hj e)).trans hu
  refine ⟨fun i hi => ?_, fun i hi => ?_, fun i hi => ?_, fun i hi => ?_, ?_, h.chg.setCell (fun _ => .inr ⟨j, hj, rfl⟩) _⟩
  · obtain ⟨a0, a1, a2, a3, a4⟩ := h.node i hi
    by_cases e : i = j
    · subst e
      simp only [if_true]
      refine ⟨hoth _ _ a0, hoth _ _ a1, hoth _ _ a2, hoth _ _ a3, ?_⟩
      simp only [List.length_set]
      exact hoth _ _ a4
    · simp only [if_neg e]
      exact ⟨hoth _ _ a0, hoth _ _ a1, hoth _ _ a2, hoth _ _ a3, hoth _ _ a4⟩
  · by_cases e : i = j
    · subst e; simp only [if_true]; exact h.adr i hi
    · simp only [if_neg e]; exact h.adr i hi
  · by_cases e : i = j
    · subst e; simp only [if_true, List.length_set]; exact h.size i hi
    · simp only [if_neg e]; exact h.size i hi
  · by_cases e : i = j
    · subst e
      simp only [if_true]
      have := (h.data i hi).set_ k (.int .u8 (v.toNat : Int))
      rw [List.set_append_left _ _ (by rw [bvs_length]; exact hk)] at this
      have e2 : (bvs (X i).data).set k (.int .u8 (v.toNat : Int)) = bvs ((X i).data.set k v) := by simp [bvs, List.map_set]
      rw [e2] at this
      exact this
    · simp only [if_neg e]
      exact (h.data i hi).far (p := ⟨bs j, k, none⟩) (fun e' => e (hinj i j hi hj e')) _
  · obtain ⟨cs, hr, hl⟩ := h.row
    exact ⟨cs, hr.far (p := ⟨bs j, k, none⟩) (fun e => hne j hj e.symm) _, hl⟩

theorem u8_turn (b : UInt8) : bits .xor .u8 (b.toNat : Int) 165 = ((b ^^^ 165).toNat : Int) := by
  have h := u8_xor_nat b.toNat 165 (UInt8.toNat_lt b) (by decide)
  have e : (b ^^^ 165).toNat = b.toNat ^^^ 165 := UInt8.toNat_xor b 165
  rw [e]
  exact h
set_option maxHeartbeats 4000000 in
set_option maxRecDepth 100000 in
theorem turn_walk (B g : Nat) (vb : Value) (bs : Nat → Nat) (cap : Nat) (l : List Nd) (w : World) (hL : LentAt w B g vb bs l) (hln : l.length ≤ 5000) (hdl : ∀ x ∈ l, x.data.length ≤ 2097152) :
    Calls Try.prog 13 #[.slice (some ⟨g, 0, none⟩) l.length cap] w fun e w' => e = .returned (.tuple #[]) ∧ ∃ X, TurnI w w' g bs l X := by
  have hne : ∀ i, i < l.length → bs i ≠ g := fun i hi e => by have := hL.mem.low i hi; omega
  have hinj : ∀ i i', i < l.length → i' < l.length → bs i = bs i' → i = i' := fun i i' h h' e => hL.mem.inj i i' h h' e
  obtain ⟨len, hlen⟩ : ∃ len, len = l.length := ⟨_, rfl⟩
  have hlenH := Lib.hid hlen
  have hstart : ∃ X, TurnI w w g bs l X := by
    have : Inhabited Nd := ⟨⟨ByteArray.empty, 0, 0, ByteArray.empty, none, 0, []⟩⟩
    refine ⟨fun i => lentNd (l[i]?.getD default) (bs i), fun i hi => ?_, fun i hi => rfl, fun i hi => ?_, fun i hi => ?_, hL.row, Chg.refl _ _⟩
    · have := hL.mem.node i hi hi
      simpa [hi] using this
    · simp [hi, lentNd]
    · have := hL.mem.data i hi hi
      simpa [hi, lentNd] using this
  rw [← hlen] at hln ⊢
  clear hlen hL
  go_enter Try.func13, Try.ntmps13
  go_wp2
  go_loopw [2] (fun i wr => ∃ j : Nat, j ≤ len ∧ i = .int .i64 j ∧ ∃ X, TurnI w wr g bs l X) (fun i _ => len - (intOf i).toNat)
  case atStart => exact ⟨0, Nat.zero_le _, rfl, hstart⟩
  case round =>
    obtain ⟨j, hj, rfl, X, hX⟩ := hrel
    clear hstart
    by_cases hjk : j < len
    · have hjl : j < l.length := by have := hlenH.out; omega
      obtain ⟨a0, a1, a2, a3, a4⟩ := hX.node j hjl
      obtain ⟨cs, hr, hcl⟩ := hX.row
      have z2 := hr.frozen (j * 5 + 2)
      have hadr := hX.adr j hjl
      rw [hadr] at a4
      have hsz := (hX.size j hjl).2.2
      have hdj := hdl _ (List.getElem_mem hjl)
      rw [← hsz] at hdj
      have j0 : (0 : Int) ≤ (j : Int) := by omega
      have j1 : (j : Int) < (len : Int) := by omega
      clear a0 a1 a3 hadr hsz hdl
      go_wp2
      have hX1 := hX.made hjl (bits .xor .i64 (X j).made 1) hne
      generalize wr.setCell ⟨g, j * 5 + 2, none⟩ (.int .i64 (bits .xor .i64 (X j).made 1)) = W2 at *
      have hn1 : (X j).data.length = l[j].data.length := (hX.size j hjl).2.2
      have hdj2 : l[j].data.length ≤ 2097152 := by omega
      clear a2 a4 hr hcl z2 hX hdj hn1
      obtain ⟨n, hn⟩ : ∃ n, n = l[j].data.length := ⟨_, rfl⟩
      have hnH := Lib.hid hn
      rw [← hn] at hdj2
      clear hn
      go_loopw [3] (fun i wr => ∃ k : Nat, k ≤ n ∧ i = .int .i64 k ∧ ∃ X, TurnI w wr g bs l X) (fun i _ => n - (intOf i).toNat)
      case atStart => exact ⟨0, Nat.zero_le _, rfl, _, hX1⟩
      case round =>
        obtain ⟨k, hk, rfl, X2, hX2⟩ := hrel
        clear hX1
        obtain ⟨a0, a1, a2, a3, a4⟩ := hX2.node j hjl
        have hadr := hX2.adr j hjl
        rw [hadr] at a4
        have hsz : (X2 j).data.length = n := ((hX2.size j hjl).2.2).trans hnH.out.symm
        rw [hsz] at a4
        have hdt := hX2.data j hjl
        clear a0 a1 a2 a3 hadr
        by_cases hkn : k < n
        · have hkx : k < (X2 j).data.length := by omega
          have hcell : wr.cell? ⟨bs j, k, none⟩ = some (.int .u8 (((X2 j).data[k]'hkx).toNat : Int)) := by rw [hdt.cell, List.getElem?_append_left (by rw [bvs_length]; exact hkx)]; exact bvs_get _ k hkx
          have hfr := hdt.frozen k
          have hst := hX2.byte (k := k) hjl hkx ((X2 j).data[k]'hkx ^^^ 165) hne hinj
          rw [← u8_turn] at hst
          have hstH := Lib.hid hst
          have k0 : (0 : Int) ≤ (k : Int) := by omega
          have k1 : (k : Int) < (n : Int) := by omega
          clear hst hX2 hdt hsz
          generalize (X2 j).data[k]'hkx = by8 at *
          go_wp2
          go_region
          go_wp2
          go_roundw
          case rel => exact ⟨k + 1, by omega, by go_num, _, hstH.out.drew 1⟩
          case measure => simp [intOf]; omega
        · obtain rfl : k = n := by omega
          clear hdt hsz
          go_wp2
          go_roundw
          case rel => exact ⟨j + 1, by omega, by go_num, _, hX2⟩
          case measure => simp [intOf]; omega
    · obtain rfl : j = len := by omega
      clear hdl
      go_wp2
      go_end0
      exact ⟨rfl, _, hX⟩
#print axioms turn_walk
end Go.Proofs.Ytolpcfhfcdkokaa
