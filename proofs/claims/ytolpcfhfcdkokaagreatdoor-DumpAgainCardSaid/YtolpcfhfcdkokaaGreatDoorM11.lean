/- Joined out of the texts PNode. -/
import Derived.StillTailTactics
import Derived.Test.YtolpcfhfcdkokaaGreatDoorM10
/-
  The tree in memory: a directory's place has an entry (set), or none (clear).
-/
namespace Go.Proofs.YtolpcfhfcdkokaaGreatDoor
open Go.RowKit
open Go.Maps (Keyed)

theorem infoStr : (Tryz.prog.info? 9).map (fun i => (i.zero, i.size, i.bytes)) = some (some (.string ⟨#[]⟩), 1, 16) := by kernel_rfl
theorem strs_set (l : List ByteArray) (k : Nat) (x : ByteArray) : (strs l).set k (.string x) = strs (l.set k x) := by simp [strs, List.map_set]
theorem strs_snoc (l : List ByteArray) (x : ByteArray) : strs l ++ [.string x] = strs (l ++ [x]) := by simp [strs]
theorem own_some {w : World} {base : Nat} {e : TypeId} {size : Nat} {v : Value} {n : Nat} {xs : List Value} (h : w.ownsRow base e size v n xs) (hn : 0 < n) : ∃ g c, v = .slice (some ⟨g, 0, none⟩) n c ∧ n ≤ c ∧ g < w.heap.size := by
  rcases h.2 with ⟨_, h0⟩ | ⟨g, cap, cur, rfl, hb, hg, hnc, _⟩
  · omega
  · exact ⟨g, cap, rfl, hnc, (Array.getElem?_eq_some_iff.1 hg).1⟩
/-- A node whose row of slots has turned, or grown. -/
theorem PnAt.turn {w w' : World} {a : NA} {n n' : PN} {s' : Value} {S : Nat → Prop} (h : PnAt w a n) (hc : Chg S w w') (hd : ∀ b, a.d = some b → ¬ S b) (hb : Blk w' a.nb 110 (cells7 { a with s := s' } n')) (hs : w'.ownsRow 0 9 1 s' n'.slots.length (strs n'.slots)) (hn : MapOpt w' strK natV 9 a.nm n'.names) (hdd : n'.data = n.data) (hdr : n'.dir = n.dir) :
    PnAt w' { a with s := s' } n' := ⟨hb, by rw [hdd]; exact h.data.chg hc hd, hs, hn, fun e => h.dirs (by rw [← hdr]; exact e), fun e => h.files (by rw [← hdr]; exact e)⟩
section
variable {w w' : World} {own : Nat → Option Role} {i : Nat} {a : NA} {b : Nat}
theorem Owns.apart (h : Owns own i a) : (∀ x, a.d = some x → x ≠ a.nb) ∧ (∀ x, a.s.ownBlock = some x → x ≠ a.nb) ∧ (∀ x, a.nm = some x → x ≠ a.nb) ∧ (∀ x y, a.s.ownBlock = some x → a.nm = some y → x ≠ y) ∧ (∀ x y, a.s.ownBlock = some x → a.d = some y → x ≠ y) ∧ (∀ x y, a.nm = some x → a.d = some y → x ≠ y) := by
  refine ⟨fun x hx e => ?_, fun x hx e => ?_, fun x hx e => ?_, fun x y hx hy e => ?_, fun x y hx hy e => ?_, fun x y hx hy e => ?_⟩
  · have h1 := h.d x hx; rw [e, h.nb] at h1; cases h1
  · have h1 := h.s x hx; rw [e, h.nb] at h1; cases h1
  · have h1 := h.nm x hx; rw [e, h.nb] at h1; cases h1
  · have h1 := h.s x hx; rw [e, h.nm y hy] at h1; cases h1
  · have h1 := h.s x hx; rw [e, h.d y hy] at h1; cases h1
  · have h1 := h.nm x hx; rw [e, h.d y hy] at h1; cases h1
end
set_option maxHeartbeats 1600000 in
set_option maxRecDepth 100000 in
/-- A place that is there has an entry. -/
theorem nset_in (own : Nat → Option Role) (i0 : Nat) (a : NA) (n : PN) (nb k j : Nat) (nm : ByteArray) (w : World) (h : PnAt w a n) (ho : Owns own i0 a) (hn : n.Ok) (hnm : a.nm = some nb) (hk : k < n.slots.length) (hs : nm.size ≤ 1000000) :
    Calls Tryz.prog 98 #[ptrV a.nb, natV k, .string nm, natV j] w fun e w' => e = .returned (.tuple #[]) ∧ PnAt w' a (n.set k nm j) ∧ Chg (Of own i0) w w' := by
  obtain ⟨g, c, hsl, hnc, hg⟩ := own_some h.slots (by omega)
  have hap := ho.apart
  have hns := hn.slots
  have hnn := Nat.le_trans hn.nlen hn.slots
  have c5 := h.c5
  have c6 := h.c6
  have hrow := h.slots
  rw [hsl] at c5 hrow
  rw [hnm] at c6
  have hm := h.names
  rw [hnm] at hm
  have e1 := hrow.cellAt k (by omega)
  rw [strs_get _ _ hk] at e1
  replace e1 : ∃ x0, w.cell? ⟨g, k, none⟩ = some (.string x0) := ⟨_, e1⟩
  obtain ⟨x0, e1⟩ := e1
  have f1 := hrow.frozenAt k
  obtain ⟨hrow1, hg1⟩ := hrow.stored k (.string nm)
  have hgn : g ≠ a.nb := hap.2.1 g (by rw [hsl]; rfl)
  have hgm : g ≠ nb := hap.2.2.2.1 g nb (by rw [hsl]; rfl) hnm
  have hbn : nb ≠ a.nb := hap.2.2.1 nb hnm
  have hC1 : Chg (Of own i0) w (w.setCell ⟨g, k, none⟩ (.string nm)) := (Chg.refl _ w).setCell (p := ⟨g, k, none⟩) (fun _ => .inr (.inr (.inl (ho.s g (by rw [hsl]; rfl))))) _
  have hB1 : Blk (w.setCell ⟨g, k, none⟩ (.string nm)) a.nb 110 (cells7 a n) := h.blk.far (by simpa using hgn.symm) _
  have hm1 := MapAt.chg hm ((Chg.refl (fun b => b = g) w).setCell (p := ⟨g, k, none⟩) (fun _ => rfl) (.string nm)) (fun e => hgm e.symm)
  have d6 : (w.setCell ⟨g, k, none⟩ (.string nm)).cell? ⟨a.nb, 6, none⟩ = some (.map (some nb)) := by rw [← hnm]; exact hB1.cell 6
  unfold ptrV natV
  go_enter Tryz.func98, Tryz.ntmps98
  have hHn := Lib.hid h
  have hHa := Lib.hid hap
  obtain ⟨len, hlen⟩ : ∃ len, len = n.slots.length := ⟨_, rfl⟩
  have hlenH := Lib.hid hlen
  rw [← hlen] at hk hns c5 hrow hrow1 hnc
  have hne : ((k : Int) == (len : Int)) = false := by simp; omega
  have hHr := Lib.hid hrow1
  clear hlen h hap hm hrow hrow1
  go_wp2_with (first
    | (at_mapUpdate; refine wpList_mput _ rfl _ _ _ 101 (.inl rfl) kStr Tryz.underlying101 hm1 (by unfold maxLen; omega) rfl nm rfl (keyS nm (by unfold maxLen; omega)) j rfl ?_; intro w2 hm2 ht2))
  go_end0
  have hC2 := turned_chg ht2
  have hC : Chg (Of own i0) w w2 := hC1.trans hC2 (fun _ _ h => h) (fun b _ h => by subst h; exact .inr (.inr (.inr (ho.nm _ hnm))))
  have hX : Chg (fun b => b = g ∨ b = nb) w w2 := ((Chg.refl (fun b => b = g ∨ b = nb) w).setCell (p := ⟨g, k, none⟩) (fun _ => .inl rfl) (.string nm)).trans hC2 (fun _ _ h => h) (fun b _ h => .inr h)
  refine ⟨rfl, ?_, hC⟩
  have hkl : k ≠ n.slots.length := by have := hlenH.out; omega
  have := hHn.out.turn (n' := n.set k nm j) (s' := a.s) hX (fun b e hb => ?_) ?_ ?_ ?_ rfl rfl
  · exact this
  · rcases hb with hb | hb
    · exact (hHa.out.2.2.2.2.1 g b (by rw [hsl]; rfl) e) hb.symm
    · exact (hHa.out.2.2.2.2.2 nb b hnm e) hb.symm
  · have := hB1.chg hC2 (fun e => hbn e.symm)
    simp only [PN.set, if_neg hkl]
    exact this
  · rw [hsl]
    have es : (n.set k nm j).slots = n.slots.set k nm := by simp [PN.set, hkl]
    rw [es, List.length_set, ← hlenH.out, ← strs_set]
    exact own_chg hHr.out hC2 fun x hx e => by have : g = x := Option.some.inj hx; subst this; exact hgm e
  · rw [hnm]
    exact hm2
#print axioms nset_in
theorem own_set2 {w1 : World} {g1 m c1 : Nat} {xs : List Value} (h : w1.ownsRow 0 9 1 (.slice (some ⟨g1, 0, none⟩) m c1) m xs) (nb : Nat) (hne : g1 ≠ nb) (u v : Value) (k : Nat) (nm : ByteArray) :
    (((w1.setCell ⟨nb, 5, none⟩ u).setCell ⟨nb, 2, none⟩ v).setCell ⟨g1, k, none⟩ (.string nm)).ownsRow 0 9 1 (.slice (some ⟨g1, 0, none⟩) m c1) m (xs.set k (.string nm)) ∧ ((w1.setCell ⟨nb, 5, none⟩ u).setCell ⟨nb, 2, none⟩ v).grownBy (((w1.setCell ⟨nb, 5, none⟩ u).setCell ⟨nb, 2, none⟩ v).setCell ⟨g1, k, none⟩ (.string nm)) (some g1) :=
  (own_chg h (((Chg.refl (fun b => b = nb) w1).setCell (p := ⟨nb, 5, none⟩) (fun _ => rfl) u).setCell (p := ⟨nb, 2, none⟩) (fun _ => rfl) v) (fun _ e hg => hne ((Option.some.inj e).trans hg))).stored k (.string nm)
/-- A node has turned, and with it perhaps where its slots lie. -/
def NTurn (own : Nat → Option Role) (i : Nat) (a : NA) (n' : PN) (w w' : World) : Prop :=
  ∃ s' own', PnAt w' { a with s := s' } n' ∧ Chg (Of own i) w w' ∧ Ext w own own' ∧ Owns own' i { a with s := s' } ∧ ∀ b r, own' b = some r → b < w'.heap.size
/-- What stands behind an append to a node's row of slots. -/
theorem new_facts {own : Nat → Option Role} {i0 : Nat} {a : NA} {n : PN} {nb len c0 g1 c1 m : Nat} {A0 : Option Addr} {w w1 : World} {o : Obj} (h : PnAt w a n) (ho : Owns own i0 a) (hlt : ∀ b r, own b = some r → b < w.heap.size) (hs : a.s = .slice A0 len c0) (hnm : a.nm = some nb)
    (hg : (w.alloc o).grownBy w1 (Value.ownBlock (.slice A0 len c0))) (hat : Value.ownBlock (.slice (some ⟨g1, 0, none⟩) m c1) = Value.ownBlock (.slice A0 len c0) ∨ Value.ownBlock (.slice (some ⟨g1, 0, none⟩) m c1) = some (w.alloc o).heap.size) :
    w1.cell? ⟨a.nb, 5, none⟩ = some (.slice A0 len c0) ∧ w1.cell? ⟨a.nb, 2, none⟩ = some (.int .i64 (n.size : Int)) ∧ w1.cell? ⟨a.nb, 6, none⟩ = some (.map (some nb)) ∧ w1.frozen? ⟨a.nb, 5, none⟩ = false ∧ w1.frozen? ⟨a.nb, 2, none⟩ = false ∧
      Chg (fun b => own b = some (.slots i0)) w w1 ∧ MapAt w1 strK natV 9 nb n.names ∧ Blk w1 a.nb 110 (cells7 a n) ∧ g1 ≠ a.nb ∧ g1 ≠ nb := by
  have hap := ho.apart
  have hC : Chg (fun b => own b = some (.slots i0)) w w1 := ((Chg.refl _ w).alloc o).grown hg fun g e _ => ho.s g (by rw [hs]; exact e)
  have hnb : ¬ own a.nb = some (.slots i0) := by rw [ho.nb]; intro e; cases e
  have hnn : ¬ own nb = some (.slots i0) := by rw [ho.nm nb hnm]; intro e; cases e
  have hB := h.blk.chg hC hnb
  have hm := h.names
  rw [hnm] at hm
  refine ⟨by rw [← hs]; exact hB.cell 5, hB.cell 2, by rw [← hnm]; exact hB.cell 6, hB.frozen 5, hB.frozen 2, hC, MapAt.chg hm hC hnn, hB, ?_, ?_⟩
  · rintro rfl
    rcases hat with e | e
    · have := ho.s a.nb (by rw [hs]; exact e.symm)
      rw [ho.nb] at this; cases this
    · have := hlt _ _ ho.nb
      have e := Option.some.inj e
      simp at e
      omega
  · rintro rfl
    rcases hat with e | e
    · have := ho.s g1 (by rw [hs]; exact e.symm)
      rw [ho.nm g1 hnm] at this; cases this
    · have := hlt _ _ (ho.nm g1 hnm)
      have e := Option.some.inj e
      simp at e
      omega
set_option maxHeartbeats 1600000 in
set_option maxRecDepth 100000 in
/-- A new place has an entry. -/
theorem nset_new (own : Nat → Option Role) (i0 : Nat) (a : NA) (n : PN) (nb j : Nat) (nm : ByteArray) (w : World) (h : PnAt w a n) (ho : Owns own i0 a) (hlt : ∀ b r, own b = some r → b < w.heap.size) (hn : n.Ok) (hnm : a.nm = some nb) (hk : n.slots.length < 1068) (hs : nm.size ≤ 1000000) :
    Calls Tryz.prog 98 #[ptrV a.nb, natV n.slots.length, .string nm, natV j] w fun e w' => e = .returned (.tuple #[]) ∧ NTurn own i0 a (n.set n.slots.length nm j) w w' := by
  have hap := ho.apart
  have hns := hn.slots
  have hnn := Nat.le_trans hn.nlen hn.slots
  have c5 := h.c5
  have c6 := h.c6
  have c2 := h.c2
  have f5 := h.blk.frozen 5
  have f2 := h.blk.frozen 2
  have hrow := h.slots
  obtain ⟨A0, c0, hsl⟩ := h.form
  rw [hsl] at c5 hrow
  rw [hnm] at c6
  have hm := h.names
  rw [hnm] at hm
  have hbn : nb ≠ a.nb := hap.2.2.1 nb hnm
  obtain ⟨i0', hi, hz0, hz1, hz2⟩ := info_parts infoStr
  unfold ptrV natV
  go_enter Tryz.func98, Tryz.ntmps98
  have hHn := Lib.hid h
  have hHa := Lib.hid hap
  have hHo := Lib.hid ho
  have hHl := Lib.hid hlt
  obtain ⟨len, hlen⟩ : ∃ len, len = n.slots.length := ⟨_, rfl⟩
  have hlenH := Lib.hid hlen
  rw [← hlen] at hk hns c5 hrow hsl
  have hHs := Lib.hid hsl
  clear hlen h hap ho hlt hsl
  rw [← hlenH.out]
  have heq : ((len : Int) == (len : Int)) = true := by simp
  go_upto_region 2 with (first
    | (at_builtin; refine wpList_app _ rfl (.tmp 19) (.tmp 20) _ _ rfl 0 9 i0' (.string ⟨#[]⟩) 1 16 Tryz.underlying108 hi hz0 hz1 hz2 rfl (.slice A0 len c0) len (strs n.slots) rfl (hrow.alloc _) 1 [.string ⟨#[]⟩] (src_one w Tryz.underlying108 _ _ rfl) (by unfold maxLen; omega) (by omega) (by simp) ?_; intro v1 w1 ho1 hg1 hat1; obtain ⟨g1, c1, rfl, hnc1, hgl1⟩ := own_some ho1 (by omega); obtain ⟨e5, e2, e6, k5, k2, hC1, hm1, hB1, hgn, hgm⟩ := new_facts hHn.out hHo.out hHl.out hHs.out hnm hg1 hat1))
  have x1 : w1.cell? ⟨g1, len, none⟩ = some (.string ⟨#[]⟩) := by
    rw [ho1.cellAt len (by omega), List.getElem?_append_right (by rw [strs_length]; have := hlenH.out; omega), strs_length, ← hlenH.out]; simp
  have y1 := ho1.frozenAt len
  obtain ⟨ho2, hg2⟩ := own_set2 ho1 a.nb hgn (.slice (some ⟨g1, 0, none⟩) (len + 1) c1) (.int .i64 (((len : Int) + 1) * 128)) len nm
  have hC2 : Chg (fun b => b = a.nb ∨ b = g1) w1 (((w1.setCell ⟨a.nb, 5, none⟩ (.slice (some ⟨g1, 0, none⟩) (len + 1) c1)).setCell ⟨a.nb, 2, none⟩ (.int .i64 (((len : Int) + 1) * 128))).setCell ⟨g1, len, none⟩ (.string nm)) :=
    (((Chg.refl (fun b => b = a.nb ∨ b = g1) w1).setCell (p := ⟨a.nb, 5, none⟩) (fun _ => .inl rfl) _).setCell (p := ⟨a.nb, 2, none⟩) (fun _ => .inl rfl) _).setCell (p := ⟨g1, len, none⟩) (fun _ => .inr rfl) _
  have hm2 := hm1.chg hC2 (fun e => e.elim hbn (fun e => hgm e.symm))
  have hB2 : Blk (((w1.setCell ⟨a.nb, 5, none⟩ (.slice (some ⟨g1, 0, none⟩) (len + 1) c1)).setCell ⟨a.nb, 2, none⟩ (.int .i64 (((len : Int) + 1) * 128))).setCell ⟨g1, len, none⟩ (.string nm)) a.nb 110 (cells7 { a with s := .slice (some ⟨g1, 0, none⟩) (len + 1) c1 } (n.set n.slots.length nm j)) := by
    have := ((hB1.set_ 5 (.slice (some ⟨g1, 0, none⟩) (len + 1) c1)).set_ 2 (.int .i64 (((len : Int) + 1) * 128))).far (p := ⟨g1, len, none⟩) (by simpa using hgn.symm) (.string nm)
    have e : cells7 { a with s := .slice (some ⟨g1, 0, none⟩) (len + 1) c1 } (n.set n.slots.length nm j) = ((cells7 a n).set 5 (.slice (some ⟨g1, 0, none⟩) (len + 1) c1)).set 2 (.int .i64 (((len : Int) + 1) * 128)) := by
      simp [cells7, PN.set, PN.kind, ← hlenH.out]
    rw [e]; exact this
  have hF := Lib.hid (And.intro hC1 (And.intro hC2 (And.intro ho2 (And.intro hB2 hat1))))
  clear hC1 hC2 ho2 hB2 hat1 hm1 hB1 hg2 hrow ho1 hg1
  go_wp2_with (first
    | (at_mapUpdate; refine wpList_mput _ rfl _ _ _ 101 (.inl rfl) kStr Tryz.underlying101 hm2 (by unfold maxLen; omega) rfl nm rfl (keyS nm (by unfold maxLen; omega)) j rfl ?_; intro w2 hm3 ht3))
  go_end0
  have hleq := hlenH.out
  subst hleq
  obtain ⟨hC1, hC2, ho2, hB2, hat1⟩ := hF.out
  have hC3 := turned_chg ht3
  have hz1 := hC1.size
  have hz2 := hC2.size
  have hz3 := hC3.size
  have hg1of : g1 < w.heap.size → own g1 = some (.slots i0) := fun hlt => by
    rcases hat1 with e | e
    · exact hHo.out.s g1 (by rw [hHs.out]; exact e.symm)
    · have e := Option.some.inj e; simp at e; omega
  have hC : Chg (Of own i0) w w2 := (hC1.trans hC2 (fun _ _ h => .inr (.inr (.inl h))) (fun b hb h => by
      rcases h with rfl | rfl
      · exact .inl hHo.out.nb
      · exact .inr (.inr (.inl (hg1of hb))))).trans hC3 (fun _ _ h => h) (fun b _ h => by subst h; exact .inr (.inr (.inr (hHo.out.nm _ hnm))))
  have es : (n.set n.slots.length nm j).slots = n.slots ++ [nm] := by simp [PN.set]
  refine ⟨rfl, .slice (some ⟨g1, 0, none⟩) (n.slots.length + 1) c1, fun b => if b = g1 then some (Role.slots i0) else own b, ⟨hB2.chg hC3 (fun e => hbn e.symm), ?_, ?_, ?_, hHn.out.dirs, hHn.out.files⟩, hC, ⟨fun b r e => ?_, fun b r e => ?_⟩, ⟨?_, fun b e => ?_, fun b e => ?_, fun b e => ?_⟩, fun b r e => ?_⟩
  · have hd : MapOpt w2 natK secV 3 a.d n.data := by
      refine ((hHn.out.data.chg hC1 fun b e h => ?_).chg hC2 fun b e h => ?_).chg hC3 fun b e h => ?_
      · rw [hHo.out.d b e] at h; cases h
      · rcases h with rfl | rfl
        · exact hHa.out.1 _ e rfl
        · have hbl := hHl.out _ _ (hHo.out.d _ e)
          have := hg1of hbl
          rw [hHo.out.d _ e] at this; cases this
      · subst h; exact hHa.out.2.2.2.2.2 _ b hnm e rfl
    exact hd
  · rw [es, List.length_append, ← strs_snoc]
    have hset : ((strs n.slots ++ [Value.string ⟨#[]⟩]).set n.slots.length (.string nm)) = strs n.slots ++ [.string nm] := by
      rw [← strs_length, List.set_append_right _ _ (Nat.le_refl _)]
      simp
    rw [hset] at ho2
    exact own_chg ho2 hC3 fun x hx e => by have hx := Option.some.inj hx; exact hgm (hx.trans e)
  · show MapOpt w2 strK natV 9 a.nm _
    rw [hnm]
    exact hm3
  · have := hHl.out b r e
    by_cases hb : b = g1
    · subst hb
      have := hg1of this
      rw [this] at e
      simp [e]
    · simp [hb, e]
  · by_cases hb : b = g1
    · subst hb
      simp only [if_true] at e
      by_cases hbl : b < w.heap.size
      · rw [← e]; exact .inl (hg1of hbl)
      · exact .inr (by omega)
    · simp only [hb, if_false] at e
      exact .inl e
  · simp only
    rw [if_neg (fun e => hgn e.symm)]
    exact hHo.out.nb
  · skip
    have hbl := hHl.out _ _ (hHo.out.d _ e)
    rw [if_neg (fun h => by subst h; have := hg1of hbl; rw [hHo.out.d _ e] at this; cases this)]
    exact hHo.out.d b e
  · have e : g1 = b := Option.some.inj e
    simp [e]
  · skip
    have e' : a.nm = some b := e
    rw [hnm] at e'
    have e' := Option.some.inj e'
    subst e'
    rw [if_neg (fun h => hgm h.symm)]
    exact hHo.out.nm _ hnm
  · by_cases hb : b = g1
    · subst hb; omega
    · simp only [hb, if_false] at e
      have := hHl.out b r e
      omega
#print axioms nset_new
theorem nset_any (own : Nat → Option Role) (i0 : Nat) (a : NA) (n : PN) (nb k j : Nat) (nm : ByteArray) (w : World) (h : PnAt w a n) (ho : Owns own i0 a) (hlt : ∀ b r, own b = some r → b < w.heap.size) (hn : n.Ok) (hnm : a.nm = some nb) (hk : k ≤ n.slots.length) (hk2 : k < 1068) (hs : nm.size ≤ 1000000) :
    Calls Tryz.prog 98 #[ptrV a.nb, natV k, .string nm, natV j] w fun e w' => e = .returned (.tuple #[]) ∧ NTurn own i0 a (n.set k nm j) w w' := by
  by_cases hkl : k = n.slots.length
  · subst hkl
    exact nset_new own i0 a n nb j nm w h ho hlt hn hnm hk2 hs
  · refine (nset_in own i0 a n nb k j nm w h ho hn hnm (by omega) hs).mono ?_
    rintro e w' ⟨he, h1, h2⟩
    exact ⟨he, a.s, own, h1, h2, Ext.refl _ _, ho, fun b r e => Nat.lt_of_lt_of_le (hlt b r e) h2.size⟩
set_option maxHeartbeats 1600000 in
set_option maxRecDepth 100000 in
/-- The place of a name is emptied. -/
theorem nclear_any (own : Nat → Option Role) (i0 : Nat) (a : NA) (n : PN) (nb k : Nat) (nm : ByteArray) (w : World) (h : PnAt w a n) (ho : Owns own i0 a) (hn : n.Ok) (hnm : a.nm = some nb) (hk : firstIdx nm n.slots = some k) (hs : nm.size ≤ 1000000) :
    Calls Tryz.prog 101 #[ptrV a.nb, .string nm] w fun e w' => e = .returned (.tuple #[]) ∧ PnAt w' a (n.clear nm) ∧ Chg (Of own i0) w w' := by
  have hkl := (firstIdx_lt hk).1
  obtain ⟨g, c, hsl, hnc, hg⟩ := own_some h.slots (by omega)
  have hap := ho.apart
  have hns := hn.slots
  have hnn := Nat.le_trans hn.nlen hn.slots
  have c5 := h.c5
  have c6 := h.c6
  have hrow := h.slots
  have hsees : Sees w w.heap.size 1 (some ⟨g, 0, none⟩) n.slots.length (strs n.slots) := by
    obtain ⟨A, c', hv, h1⟩ := Sees.of_own (B := w.heap.size) hrow fun g hg => (World.ownsRow.lt hrow g hg).2
    rw [hsl] at hv
    injection hv with e1 e2 e3
    rw [e1]; exact h1
  rw [hsl] at c5 hrow
  rw [hnm] at c6
  have hm := h.names
  rw [hnm] at hm
  have e1 := hrow.cellAt k (by omega)
  rw [strs_get _ _ hkl] at e1
  replace e1 : ∃ x0, w.cell? ⟨g, k, none⟩ = some (.string x0) := ⟨_, e1⟩
  obtain ⟨x0, e1⟩ := e1
  have f1 := hrow.frozenAt k
  obtain ⟨hrow1, hg1⟩ := hrow.stored k (.string ⟨#[]⟩)
  have hgn : g ≠ a.nb := hap.2.1 g (by rw [hsl]; rfl)
  have hgm : g ≠ nb := hap.2.2.2.1 g nb (by rw [hsl]; rfl) hnm
  have hbn : nb ≠ a.nb := hap.2.2.1 nb hnm
  have hix : idxV nm n.slots = k := by unfold idxV; rw [hk]
  have hcall : ∀ W : World, W.heap = w.heap → Calls Tryz.prog 104 #[.slice (some ⟨g, 0, none⟩) n.slots.length c, .string nm] W fun e w' => e = .returned (.int .i64 (idxV nm n.slots)) ∧ W = w' :=
    fun W hW => sindex_any w.heap.size (some ⟨g, 0, none⟩) c nm n.slots W (hsees.keep fun p _ => by unfold World.cell?; rw [hW]) (by omega)
  unfold ptrV
  go_enter Tryz.func101, Tryz.ntmps101
  have hHn := Lib.hid h
  have hHa := Lib.hid hap
  have hHo := Lib.hid ho
  obtain ⟨len, hlen⟩ : ∃ len, len = n.slots.length := ⟨_, rfl⟩
  have hlenH := Lib.hid hlen
  have hkH := Lib.hid hk
  have hslH := Lib.hid hsl
  rw [hix, ← hlen] at hcall
  rw [← hlen] at hkl hns c5 hrow hrow1 hnc hsees
  have hHr := Lib.hid hrow1
  have hC1 : Chg (Of own i0) w (w.setCell ⟨g, k, none⟩ (.string ⟨#[]⟩)).drew := ((Chg.refl _ w).setCell (p := ⟨g, k, none⟩) (fun _ => .inr (.inr (.inl (ho.s g (by rw [hsl]; rfl))))) _).drew
  have hX1 : Chg (fun b => b = g) w (w.setCell ⟨g, k, none⟩ (.string ⟨#[]⟩)).drew := ((Chg.refl (fun b => b = g) w).setCell (p := ⟨g, k, none⟩) (fun _ => rfl) _).drew
  have hB1 : Blk (w.setCell ⟨g, k, none⟩ (.string ⟨#[]⟩)).drew a.nb 110 (cells7 a n) := h.blk.chg hX1 (fun e => hgn e.symm)
  have hm1 := MapAt.chg hm hX1 (fun e => hgm e.symm)
  have d6 : (w.setCell ⟨g, k, none⟩ (.string ⟨#[]⟩)).cell? ⟨a.nb, 6, none⟩ = some (.map (some nb)) := by rw [← hnm]; exact hB1.cell 6
  have hHs := Lib.hid hsees
  clear hlen h hap hm hrow hrow1 hk hsl hix hsees ho
  have hcallH := Lib.hid hcall
  clear hcall
  go_wp2_with fail
  go_region_with (go_at_call 104; refine (hcallH.out _ (by rfl)).mono ?_; rintro e w' ⟨rfl, rfl⟩)
  all_goals
    go_wp2_with (first
      | (at_delete; refine wpList_mdel _ rfl _ _ 101 rfl kStr Tryz.underlying101 hm1 rfl nm rfl (keyS nm (by unfold maxLen; omega)) ?_; intro w2 hm2 ht2))
    go_end0
    have hC2 := turned_chg ht2
    have hC : Chg (Of own i0) w w2 := hC1.trans hC2 (fun _ _ h => h) (fun b _ h => by subst h; exact .inr (.inr (.inr (hHo.out.nm _ hnm))))
    have hX : Chg (fun b => b = g ∨ b = nb) w w2 := hX1.trans hC2 (fun _ _ h => .inl h) (fun b _ h => .inr h)
    refine ⟨rfl, ?_, hC⟩
    have es : (n.clear nm).slots = n.slots.set k emp := by simp only [PN.clear, hkH.out]
    have := hHn.out.turn (n' := n.clear nm) (s' := a.s) hX (fun b e hb => ?_) ?_ ?_ ?_ rfl rfl
    · exact this
    · rcases hb with hb | hb
      · exact (hHa.out.2.2.2.2.1 g b (by rw [hslH.out]; rfl) e) hb.symm
      · exact (hHa.out.2.2.2.2.2 nb b hnm e) hb.symm
    · exact hB1.chg hC2 (fun e => hbn e.symm)
    · rw [es, List.length_set, ← strs_set, hslH.out, ← hlenH.out]
      exact own_chg hHr.out.drew hC2 fun x hx e => hgm ((Option.some.inj hx).trans e)
    · rw [hnm]
      exact hm2
#print axioms nclear_any
section
variable {w : World} {own : Nat → Option Role} {lay : Nat → NA} {p mb d : Nat} {T : PT} {n : PN}
theorem clear_plain (h : PlainAt w own lay p mb T) (hT : T.Ok) (hg : getS d T.nodes = some n) (hd : n.dir = true) {nm : ByteArray} {k : Nat} (hk : firstIdx nm n.slots = some k) (hs : nm.size ≤ 1000000) :
    Calls Tryz.prog 101 #[.pointer (some ⟨(lay d).nb, 0, none⟩), .string nm] w fun e w' => e = .returned (.tuple #[]) ∧ PlainAt w' own lay p mb (T.upd d (n.clear nm)) ∧ Chg (fun b => own b ≠ none) w w' := by
  have hpn := h.get hg
  obtain ⟨nb, hnb⟩ := hpn.dirs hd
  have ho := h.owns _ (mem_of_getS hg)
  refine (nclear_any own d (lay d) n nb k nm w hpn ho (hT.get hg).1 hnb hk hs).mono ?_
  rintro e w' ⟨he, h1, h2⟩
  have := h.upd hT.ris hg h2 (fun b _ hb => hb) h1 rfl (Ext.refl _ _) (fun b r e => Nat.lt_of_lt_of_le (h.lt b r e) h2.size) ho
  rw [lay1_self] at this
  exact ⟨he, this, Chg.of_of h2⟩
theorem set_plain (h : PlainAt w own lay p mb T) (hT : T.Ok) (hg : getS d T.nodes = some n) (hd : n.dir = true) {nm : ByteArray} {k j : Nat} (hk : k ≤ n.slots.length) (hk2 : k < 1068) (hs : nm.size ≤ 1000000) :
    Calls Tryz.prog 98 #[.pointer (some ⟨(lay d).nb, 0, none⟩), .int .i64 (k : Int), .string nm, .int .i64 (j : Int)] w fun e w' => e = .returned (.tuple #[]) ∧ PTurn own p mb (T.upd d (n.set k nm j)) w w' := by
  have hpn := h.get hg
  obtain ⟨nb, hnb⟩ := hpn.dirs hd
  have ho := h.owns _ (mem_of_getS hg)
  refine (nset_any own d (lay d) n nb k j nm w hpn ho h.lt (hT.get hg).1 hnb hk hk2 hs).mono ?_
  rintro e w' ⟨he, s', own', h1, h2, h3, h4, h5⟩
  exact ⟨he, own', _, h.upd hT.ris hg h2 (fun b _ hb => hb) h1 rfl h3 h5 h4, h3, Chg.of_of h2⟩
end
end Go.Proofs.YtolpcfhfcdkokaaGreatDoor
