/- Joined out of the texts PWalk, PPut. -/
import Derived.Test.YtolpcfhfcdkokaaGreatDoorM07
import Derived.Test.YtolpcfhfcdkokaaGreatDoorM08
import Derived.Test.YtolpcfhfcdkokaaGreatDoorM09
/-
  The tree in memory: slices.Index of strings; walk, last.
-/
namespace Go.Proofs.YtolpcfhfcdkokaaGreatDoor
open Go.RowKit
open Go.Maps (Keyed)

theorem strs_length (l : List ByteArray) : (strs l).length = l.length := by simp [strs]
theorem strs_get (l : List ByteArray) (k : Nat) (h : k < l.length) : (strs l)[k]? = some (.string l[k]) := by simp [strs, h]
def idxV (x : ByteArray) (l : List ByteArray) : Int := match firstIdx x l with | some k => (k : Int) | none => -1
theorem idxV_at {x : ByteArray} {l : List ByteArray} (k : Nat) (hk : k < l.length) (hx : l[k] = x) (h : ∀ j (_ : j < k) (h : j < l.length), l[j] ≠ x) : idxV x l = k := by
  unfold idxV
  rw [firstIdx_drop k h (by omega)]
  have e : l.drop k = l[k] :: l.drop (k + 1) := List.drop_eq_getElem_cons hk
  rw [e, firstIdx, if_pos hx]
  simp
theorem idxV_no {x : ByteArray} {l : List ByteArray} (h : ∀ j (_ : j < l.length) (h : j < l.length), l[j] ≠ x) : idxV x l = -1 := by
  unfold idxV
  rw [firstIdx_none.2 fun y hy => by obtain ⟨j, hj, rfl⟩ := List.getElem_of_mem hy; exact h j hj hj]
set_option maxHeartbeats 1600000 in
set_option maxRecDepth 100000 in
theorem sindex_any (B : Nat) (A : Option Addr) (c : Nat) (x : ByteArray) (l : List ByteArray) (w : World) (hs : Sees w B 1 A l.length (strs l)) (hl : l.length ≤ 1000000) :
    Calls Tryz.prog 104 #[.slice A l.length c, .string x] w fun e w' => e = .returned (.int .i64 (idxV x l)) ∧ w = w' := by
  go_enter Tryz.func104, Tryz.ntmps104
  obtain ⟨len, hlen⟩ : ∃ len, len = l.length := ⟨_, rfl⟩
  have hlenH := Lib.hid hlen
  rw [← hlen] at hl ⊢
  clear hlen
  go_wp2
  go_loop [8] (fun i => ∃ k : Nat, k ≤ len ∧ i = .int .i64 (k : Int) ∧ Hid (∀ j (hj : j < k) (h : j < l.length), l[j] ≠ x)) (fun i => len - (intOf i).toNat)
  case atStart => exact ⟨0, Nat.zero_le _, rfl, fun j hj => absurd hj (by omega)⟩
  case round =>
    obtain ⟨k, hk, rfl, hno⟩ := hrel
    by_cases hlt : k < len
    · have hkl : k < l.length := by have := hlenH.out; omega
      obtain ⟨b, off, hA, hb, hc⟩ := hs.at_ (by omega)
      have c0 := hc k _ (strs_get l k hkl)
      subst hA
      clear hc
      by_cases he : l[k] = x
      · have hres := Lib.hid (idxV_at k hkl he hno.out)
        rw [he] at c0
        clear he hno
        go_wp2
        go_ret
        exact ⟨by rw [hres.out]; rfl, rfl⟩
      · have hno2 : Hid (∀ j (hj : j < k + 1) (h : j < l.length), l[j] ≠ x) := fun j hj h => by
          by_cases e : j = k
          · subst e; exact he
          · exact hno.out j (by omega) h
        have hne : (x.toList == l[k].toList) = false := by simpa using fun h => he (ba_list.1 h).symm
        have hne2 : ¬ x.toList = l[k].toList := fun h => he (ba_list.1 h).symm
        clear he
        generalize l[k] = y at *
        go_wp2
        go_round
        case rel => exact ⟨k + 1, by omega, by go_num, hno2⟩
        case measure => simp [intOf]; omega
    · obtain rfl : k = len := by omega
      have hres := Lib.hid (idxV_no (x := x) (l := l) fun j hj h => hno.out j (by have := hlenH.out; omega) h)
      clear hno
      go_wp2
      go_ret
      exact ⟨by rw [hres.out]; rfl, rfl⟩
#print axioms sindex_any

theorem zPtr (w : World) : (zeroValue 106).run Tryz.prog w = .ok (.pointer none) w := by kernel_rfl
theorem zInt (w : World) : (zeroValue 3).run Tryz.prog w = .ok (.int .i64 0) w := by kernel_rfl
section
variable {w w' : World} {a : NA} {n : PN} {own : Nat → Option Role} {lay : Nat → NA} {p mb i : Nat} {T : PT}
/-- The look-up of a node. -/
theorem PlainAt.lookI (h : PlainAt w own lay p mb T) (hg : getS i T.nodes = some n) (hi : i ≤ 1000000000) : (Instr.lookup 96 (.map (some mb)) (.int .i64 (i : Int)) false).run Tryz.prog w = .ok (.pointer (some ⟨(lay i).nb, 0, none⟩)) w := by
  have := h.nodes.look kInt Tryz.underlying96 (zPtr w) (keyN i hi)
  rw [PlainAt.look, hg] at this
  exact this
theorem PnAt.c0 (h : PnAt w a n) : w.cell? ⟨a.nb, 0, none⟩ = some (.int .i64 n.kind) := h.blk.cell 0
theorem PnAt.c1 (h : PnAt w a n) : w.cell? ⟨a.nb, 1, none⟩ = some (.int .i64 (n.links : Int)) := h.blk.cell 1
theorem PnAt.c2 (h : PnAt w a n) : w.cell? ⟨a.nb, 2, none⟩ = some (.int .i64 (n.size : Int)) := h.blk.cell 2
theorem PnAt.c3 (h : PnAt w a n) : w.cell? ⟨a.nb, 3, none⟩ = some (.int .i64 (n.made : Int)) := h.blk.cell 3
theorem PnAt.c4 (h : PnAt w a n) : w.cell? ⟨a.nb, 4, none⟩ = some (.map a.d) := h.blk.cell 4
theorem PnAt.c5 (h : PnAt w a n) : w.cell? ⟨a.nb, 5, none⟩ = some a.s := h.blk.cell 5
theorem PnAt.c6 (h : PnAt w a n) : w.cell? ⟨a.nb, 6, none⟩ = some (.map a.nm) := h.blk.cell 6
/-- The look-up of a name. -/
theorem PnAt.lookN (h : PnAt w a n) (x : ByteArray) (hx : x.size ≤ 1000000000) : (Instr.lookup 101 (.map a.nm) (.string x) true).run Tryz.prog w = .ok (.tuple #[orV natV (.int .i64 0) (getS x n.names), .bool (getS x n.names).isSome]) w := by
  have hm := h.names
  cases hn : a.nm with
  | some b =>
    rw [hn] at hm
    exact MapAt.look_ok hm kStr Tryz.underlying101 (zInt w) (keyS x (by unfold maxLen; omega))
  | none =>
    rw [hn] at hm
    have hm' : n.names = [] := hm
    rw [hm']
    exact Go.Maps.look_nil true kStr Tryz.underlying101 (zInt w) (keyS x (by unfold maxLen; omega))
end
theorem kind_dir {n : PN} (h : n.dir = true) : n.kind = 2 := by unfold PN.kind; rw [h]; rfl
theorem kind_file {n : PN} (h : n.dir = false) : n.kind = 1 := by unfold PN.kind; rw [h]; rfl
set_option maxHeartbeats 1600000 in
set_option maxRecDepth 100000 in
theorem pwalk_any (own : Nat → Option Role) (lay : Nat → NA) (p mb : Nat) (T : PT) (B : Nat) (A : Option Addr) (c : Nat) (l : List ByteArray) (w : World) (h : PlainAt w own lay p mb T) (hT : T.Wf)
    (hs : Sees w B 1 A l.length (strs l)) (hl : l.length ≤ 1000000) (hx : ∀ x ∈ l, x.size ≤ 1000000) :
    Calls Tryz.prog 72 #[.pointer (some ⟨p, 0, none⟩), .slice A l.length c] w fun e w' => e = .returned (.tuple #[natV (T.walk l 1).1, natV (T.walk l 1).2]) ∧ w = w' := by
  have c2 := h.c2
  go_enter Tryz.func72, Tryz.ntmps72
  obtain ⟨len, hlen⟩ : ∃ len, len = l.length := ⟨_, rfl⟩
  have hlenH := Lib.hid hlen
  have hH := Lib.hid h
  have hTH := Lib.hid hT
  rw [← hlen] at hl ⊢
  clear hlen h hT
  obtain ⟨n1, hn1, -⟩ := hTH.out.root
  have hn1H := Lib.hid hn1
  clear hn1
  go_wp2
  go_loop [6, 14] (fun i k' => ∃ k i0 : Nat, k ≤ len ∧ k' = .int .i64 (k : Int) ∧ i = .int .i64 (i0 : Int) ∧ Hid (T.walk (l.drop k) i0 = T.walk l 1) ∧ Hid (∃ n, getS i0 T.nodes = some n)) (fun _ k => len - (intOf k).toNat)
  case atStart => exact ⟨0, 1, Nat.zero_le _, rfl, rfl, rfl, n1, hn1H.out⟩
  case round =>
    obtain ⟨k, i0, hk, rfl, rfl, hwk, n, hn⟩ := hrel
    by_cases hlt : k < len
    · have hkl : k < l.length := by have := hlenH.out; omega
      obtain ⟨b, off, hA, hb, hc⟩ := hs.at_ (by omega)
      have cn := hc k _ (strs_get l k hkl)
      subst hA
      clear hc
      have hok := hTH.out.ok.get hn
      have hio := hTH.out.ok.ino
      have hlk := hH.out.lookI hn (by omega)
      have hpn := hH.out.get hn
      have k0 := hpn.c0
      have k6 := hpn.c6
      have hsz := hx _ (List.getElem_mem hkl)
      have hlN := hpn.lookN l[k] (by omega)
      have e : l.drop k = l[k] :: l.drop (k + 1) := List.drop_eq_getElem_cons hkl
      have hwk2 := hwk.out
      rw [e, PT.walk, hn] at hwk2
      simp only at hwk2
      have hnH := Lib.hid hn
      clear hpn hn e hwk
      generalize l[k] = y at *
      by_cases hd : n.dir = true
      · rw [kind_dir hd] at k0
        rw [if_neg (by rw [hd]; simp)] at hwk2
        cases hg : getS y n.names with
        | none =>
          rw [hg] at hwk2 hlN
          have hw := Lib.hid hwk2
          simp only [orV, Option.isSome_none] at hlN
          clear hwk2 hg hd
          go_wp2
          go_ret2
          exact ⟨by rw [← hw.out]; rfl, rfl⟩
        | some j =>
          rw [hg] at hwk2 hlN
          have hw := Lib.hid hwk2
          simp only [orV, Option.isSome_some, natV] at hlN
          have hj := Lib.hid (hTH.out.ents i0 n y j hnH.out hg)
          clear hwk2 hg hd
          go_wp2
          go_round
          case rel => exact ⟨k + 1, j, by omega, by go_num, rfl, hw.out, hj.out⟩
          case measure => simp [intOf]; omega
      · have hd' : n.dir = false := by simpa using hd
        rw [kind_file hd'] at k0
        rw [if_pos hd'] at hwk2
        have hw := Lib.hid hwk2
        clear hwk2 hd hd' hlN
        go_wp2
        go_ret2
        exact ⟨by rw [← hw.out]; rfl, rfl⟩
    · obtain rfl : k = len := by omega
      have hw := Lib.hid hwk.out
      clear hwk
      go_wp2
      go_ret2
      refine ⟨?_, rfl⟩
      rw [← hw.out, List.drop_eq_nil_of_le (by have := hlenH.out; omega)]
      rfl
#print axioms pwalk_any
theorem walk_stays {T : PT} (hT : T.Wf) : ∀ (l : List ByteArray) (i : Nat), (∃ n, getS i T.nodes = some n) → (T.walk l i).2 = 0 → ∃ n, getS (T.walk l i).1 T.nodes = some n
  | [], i, h, _ => h
  | nm :: r, i, ⟨n, hn⟩, h0 => by
    unfold PT.walk at h0 ⊢
    rw [hn] at h0 ⊢
    simp only at h0 ⊢
    split at h0
    · cases h0
    · rename_i hd
      rw [if_neg hd]
      cases hg : getS nm n.names with
      | none => rw [hg] at h0; cases h0
      | some j =>
        rw [hg] at h0
        simp only at h0
        exact walk_stays hT r j (hT.ents i n nm j hn hg) h0
theorem walk_le {T : PT} (hT : T.Wf) (l : List ByteArray) : (T.walk l 1).1 ≤ 512 := by
  by_cases h : (T.walk l 1).2 = 0
  · obtain ⟨n, hn⟩ := walk_stays hT l 1 (let ⟨n, h, _⟩ := hT.root; ⟨n, h⟩) h
    have := (hT.ok.get hn).2.2
    have := hT.ok.ino
    omega
  · have : ∀ (l : List ByteArray) (i : Nat), (T.walk l i).2 ≠ 0 → (T.walk l i).1 = 0 := by
      intro l
      induction l with
      | nil => intro i h; exact absurd rfl h
      | cons nm r ih =>
        intro i h
        unfold PT.walk at h ⊢
        split at h
        · rfl
        · split at h
          · rename_i hd; simp [hd]
          · rename_i hd
            simp only [hd]
            cases hg : getS nm _ with
            | none => rfl
            | some j => rw [hg] at h; exact ih j h
    rw [this l 1 h]
    omega
theorem walk_code {T : PT} : ∀ (l : List ByteArray) (i : Nat), (T.walk l i).2 ≤ 999
  | [], _ => by simp [PT.walk]
  | nm :: r, i => by
    unfold PT.walk
    split
    · simp
    · split
      · simp
      · split
        · simp
        · exact walk_code r _
set_option maxHeartbeats 1600000 in
set_option maxRecDepth 100000 in
theorem plast_any (own : Nat → Option Role) (lay : Nat → NA) (p mb : Nat) (T : PT) (B : Nat) (A : Option Addr) (c : Nat) (l : List ByteArray) (w : World) (h : PlainAt w own lay p mb T) (hT : T.Wf)
    (hs : Sees w B 1 A l.length (strs l)) (hl : l.length ≤ 1000000) (hc : l.length ≤ c) (hx : ∀ x ∈ l, x.size ≤ 1000000) :
    Calls Tryz.prog 95 #[.pointer (some ⟨p, 0, none⟩), .slice A l.length c] w fun e w' => e = .returned (.tuple #[natV (T.last l).1, .string (lastN l), natV (T.last l).2]) ∧ Below w.heap.size w w' := by
  have c2 := h.c2
  go_enter Tryz.func95, Tryz.ntmps95
  by_cases hnil : l = []
  · subst hnil
    simp only [List.length_nil]
    go_wp2
    go_ret3
    exact ⟨rfl, Below.refl _ _⟩
  · have hpos : 0 < l.length := List.length_pos_iff.2 hnil
    obtain ⟨b, off, hA, hb, hcell⟩ := hs.at_ hpos
    have hlast : l.length - 1 < l.length := by omega
    have cl := hcell (l.length - 1) _ (strs_get l _ hlast)
    have hln : l[l.length - 1] = lastN l := by
      unfold lastN
      rw [List.getLastD_eq_getLast?, List.getLast?_eq_getElem?, List.getElem?_eq_getElem hlast]
      rfl
    rw [hln] at cl
    have hs2 : Sees w B 1 A l.dropLast.length (strs l.dropLast) := by
      have := hs.take (k := l.length - 1) (by omega)
      rw [List.length_dropLast]
      have e : (strs l).take ((l.length - 1) * 1) = strs l.dropLast := by rw [Nat.mul_one, List.dropLast_eq_take]; simp [strs, List.map_take]
      rw [e] at this
      exact this
    have hcall := pwalk_any own lay p mb T B A c l.dropLast w h hT hs2 (by rw [List.length_dropLast]; omega) (fun x hx' => hx x (List.dropLast_subset l hx'))
    have hdl : l.dropLast.length = l.length - 1 := List.length_dropLast
    rw [hdl] at hcall
    subst hA
    have hlst : T.last l = (if (T.walk l.dropLast 1).2 = 0 ∧ T.isDir (T.walk l.dropLast 1).1 = false then ((T.walk l.dropLast 1).1, 113) else T.walk l.dropLast 1) := by unfold PT.last; rw [if_neg hnil]
    have hwi := walk_stays hT l.dropLast 1 (let ⟨n, h, _⟩ := hT.root; ⟨n, h⟩)
    have hwle := walk_le hT l.dropLast
    have hwc := walk_code (T := T) l.dropLast 1
    generalize T.walk l.dropLast 1 = r at *
    obtain ⟨i, e⟩ := r
    simp only at hlst hwi hwle hwc hcall
    clear hs2 hdl hln hcell hs hx
    obtain ⟨len, hlen⟩ : ∃ len, len = l.length := ⟨_, rfl⟩
    have hlenH := Lib.hid hlen
    rw [← hlen] at hl hc hpos hlast cl hcall ⊢
    clear hlen
    have hz1 : ((len : Int) == 0) = false := by simp; omega
    obtain ⟨m, rfl⟩ : ∃ m, len = m + 1 := ⟨len - 1, by omega⟩
    simp only [Nat.add_sub_cancel] at cl hcall
    by_cases he : e = 0
    · obtain ⟨n, hn⟩ := hwi he
      have hlk := h.lookI hn (by omega)
      have k0 := (h.get hn).c0
      subst he
      have hdir : T.isDir i = n.dir := by unfold PT.isDir; rw [hn]
      rw [hdir] at hlst
      have hlsH := Lib.hid hlst
      clear hlst hdir hn hwi
      unfold natV at hcall
      by_cases hd : n.dir = true
      · rw [kind_dir hd] at k0
        rw [hd] at hlsH
        clear hd
        go_wp2_with (first | (go_at_call 72; refine hcall.mono ?_; rintro e w' ⟨rfl, rfl⟩))
        go_quiet (fail)
        go_wp2
        go_ret3
        refine ⟨?_, below_drewN' (Below.refl _ _) _⟩
        rw [hlsH.out]
        rfl
      · have hd' : n.dir = false := by simpa using hd
        rw [kind_file hd'] at k0
        rw [hd'] at hlsH
        clear hd hd'
        go_wp2_with (first | (go_at_call 72; refine hcall.mono ?_; rintro e w' ⟨rfl, rfl⟩))
        go_quiet (fail)
        go_wp2
        go_ret3
        refine ⟨?_, below_drewN' (Below.refl _ _) _⟩
        rw [hlsH.out]
        rfl
    · have hz : ((e : Int) == 0) = false := by simp; omega
      have hlsH := Lib.hid hlst
      have heH := Lib.hid he
      clear hlst he hwi
      unfold natV at hcall
      go_wp2_with (first | (go_at_call 72; refine hcall.mono ?_; rintro e w' ⟨rfl, rfl⟩))
      go_quiet (fail)
      go_wp2
      go_ret3
      refine ⟨?_, below_drewN' (Below.refl _ _) _⟩
      rw [hlsH.out, if_neg (fun h => heH.out h.1)]
      rfl
#print axioms plast_any
end Go.Proofs.YtolpcfhfcdkokaaGreatDoor
/-
  The tree in memory: a node turned, a node taken out, a node laid in: the whole stands.
-/
namespace Go.Proofs.YtolpcfhfcdkokaaGreatDoor
open Go.RowKit
open Go.Maps (Keyed)

/-- Blocks have got owners: new ones alone. -/
structure Ext (w : World) (own own' : Nat → Option Role) : Prop where
  keep : ∀ b r, own b = some r → own' b = some r
  new : ∀ b r, own' b = some r → own b = some r ∨ w.heap.size ≤ b
theorem Ext.refl (w : World) (own : Nat → Option Role) : Ext w own own := ⟨fun _ _ h => h, fun _ _ h => .inl h⟩
theorem Ext.trans {w w1 : World} {o o1 o2 : Nat → Option Role} (h : Ext w o o1) (k : Ext w1 o1 o2) (hs : w.heap.size ≤ w1.heap.size) : Ext w o o2 :=
  ⟨fun b r e => k.keep b r (h.keep b r e), fun b r e => by
    rcases k.new b r e with e | e
    · exact h.new b r e
    · exact .inr (by omega)⟩
theorem Ext.back {w w1 : World} {o o1 : Nat → Option Role} (h : Ext w1 o o1) (hs : w.heap.size ≤ w1.heap.size) : Ext w o o1 :=
  ⟨h.keep, fun b r e => (h.new b r e).imp id fun h => by omega⟩
theorem Owns.ext {w : World} {own own' : Nat → Option Role} {i : Nat} {a : NA} (h : Owns own i a) (he : Ext w own own') : Owns own' i a :=
  ⟨he.keep _ _ h.nb, fun b e => he.keep _ _ (h.d b e), fun b e => he.keep _ _ (h.s b e), fun b e => he.keep _ _ (h.nm b e)⟩
/-- A block that belongs to a node. -/
def Of (own : Nat → Option Role) (i b : Nat) : Prop := own b = some (.node i) ∨ own b = some (.data i) ∨ own b = some (.slots i) ∨ own b = some (.names i)
def own1 (own : Nat → Option Role) (g : Nat) (r : Role) : Nat → Option Role := fun b => if b = g then some r else own b
def lay1 (lay : Nat → NA) (i : Nat) (a : NA) : Nat → NA := fun j => if j = i then a else lay j
theorem own1_ext {w : World} {own : Nat → Option Role} {g : Nat} {r : Role} (hg : w.heap.size ≤ g) (hn : ∀ b r, own b = some r → b < w.heap.size) : Ext w own (own1 own g r) := by
  refine ⟨fun b r' e => ?_, fun b r' e => ?_⟩
  · have := hn b r' e
    unfold own1
    rw [if_neg (by omega)]
    exact e
  · unfold own1 at e
    split at e
    · exact .inr (by omega)
    · exact .inl e
section
variable {w w' : World} {n n' : PN} {a' : NA} {own own' : Nat → Option Role} {lay : Nat → NA} {p mb i : Nat} {T : PT} {S : Nat → Prop}
theorem Of.ne (h : PlainAt w own lay p mb T) {b : Nat} (hb : Of own i b) : b ≠ p ∧ b ≠ mb := by
  constructor
  · rintro rfl
    rcases hb with e | e | e | e <;> (have := h.ownp; rw [e] at this; cases this)
  · rintro rfl
    rcases hb with e | e | e | e <;> (have := h.ownm; rw [e] at this; cases this)
theorem Of.owns {a : NA} {b j : Nat} (hb : Of own i b) (hj : j ≠ i) (ho : Owns own j a) : b ≠ a.nb ∧ (∀ x, a.d = some x → b ≠ x) ∧ (∀ x, a.s.ownBlock = some x → b ≠ x) ∧ (∀ x, a.nm = some x → b ≠ x) := by
  refine ⟨?_, fun x hx => ?_, fun x hx => ?_, fun x hx => ?_⟩
  · rintro rfl
    have := ho.nb
    rcases hb with e | e | e | e <;> (rw [e] at this; injection this with this; first | (injection this with this; exact hj this.symm) | cases this)
  · rintro rfl
    have := ho.d _ hx
    rcases hb with e | e | e | e <;> (rw [e] at this; injection this with this; first | (injection this with this; exact hj this.symm) | cases this)
  · rintro rfl
    have := ho.s _ hx
    rcases hb with e | e | e | e <;> (rw [e] at this; injection this with this; first | (injection this with this; exact hj this.symm) | cases this)
  · rintro rfl
    have := ho.nm _ hx
    rcases hb with e | e | e | e <;> (rw [e] at this; injection this with this; first | (injection this with this; exact hj this.symm) | cases this)
theorem PnAt.other {a : NA} {j : Nat} (h : PnAt w a n) (ho : Owns own j a) (hj : j ≠ i) (hc : Chg S w w') (hS : ∀ b, b < w.heap.size → S b → Of own i b ∨ own b = some .nodes ∨ own b = none) : PnAt w' a n := by
  have key : ∀ x r, own x = some r → (r = .node j ∨ r = .data j ∨ r = .slots j ∨ r = .names j) → x < w.heap.size → ¬ S x := by
    intro x r e hr hx hSx
    rcases hS x hx hSx with h | h | h
    · rcases h with h | h | h | h <;> (rw [e] at h; injection h with h; subst h; rcases hr with hr | hr | hr | hr <;> first | (injection hr with hr; exact hj hr.symm) | cases hr)
    · rw [e] at h; injection h with h; subst h; rcases hr with hr | hr | hr | hr <;> cases hr
    · rw [e] at h; cases h
  refine ⟨h.blk.chg hc ?_, ?_, own_chg h.slots hc fun g hg => ?_, ?_, h.dirs, h.files⟩
  · exact key _ _ ho.nb (.inl rfl) h.blk.lt
  · have hd := h.data
    cases e : a.d with
    | none => rw [e] at hd; exact hd
    | some x => rw [e] at hd; exact MapAt.chg hd hc (key _ _ (ho.d x e) (.inr (.inl rfl)) (MapAt.lt hd))
  · exact key _ _ (ho.s g hg) (.inr (.inr (.inl rfl))) (World.ownsRow.lt h.slots g hg).2
  · have hd := h.names
    cases e : a.nm with
    | none => rw [e] at hd; exact hd
    | some x => rw [e] at hd; exact MapAt.chg hd hc (key _ _ (ho.nm x e) (.inr (.inr (.inr rfl))) (MapAt.lt hd))
theorem keys_put {α β γ : Type} [DecidableEq α] {K : KE α} (tot : ∀ a b : α, a ≠ b → K.lt a b = true ∨ K.lt b a = true) {l : List (α × β)} (hr : RisS K l) {a : α} {v : β} (f g : α → γ) (hfg : ∀ x, x ≠ a → g x = f x) (hga : (getS a l).isSome = true → g a = f a) (hin : (getS a l).isSome = true) :
    (putS K a v l).map (fun x => (x.1, g x.1)) = l.map fun x => (x.1, f x.1) := by
  have ris : ∀ {l : List (α × β)} (h : α → γ), RisS K l → RisS K (l.map fun x => (x.1, h x.1)) := fun h hl => by
    unfold RisS at hl ⊢
    rw [List.pairwise_map]
    exact hl
  refine RisS.ext K (ris g (hr.put K tot a v)) (ris f hr) fun b => ?_
  rw [getS_map (fun x _ => g x), getS_map (fun x _ => f x)]
  by_cases e : b = a
  · subst e
    rw [getS_put_same]
    cases hg : getS b l with
    | none => rw [hg] at hin; cases hin
    | some u => simp [hga hin]
  · rw [getS_put_other K v e]
    cases getS b l with
    | none => rfl
    | some u => simp [hfg b e]
/-- A node has turned. -/
theorem PlainAt.upd (h : PlainAt w own lay p mb T) (hr : RisS natK T.nodes) (hg : getS i T.nodes = some n) (hc : Chg S w w') (hS : ∀ b, b < w.heap.size → S b → Of own i b) (hn : PnAt w' a' n') (ha : a'.nb = (lay i).nb)
    (he : Ext w own own') (hlt : ∀ b r, own' b = some r → b < w'.heap.size) (ho : Owns own' i a') : PlainAt w' own' (lay1 lay i a') p mb (T.upd i n') := by
  have hp : ¬ S p := fun hSp => by
    have := (Of.ne h (hS p h.top.lt hSp)).1; exact this rfl
  have hm : ¬ S mb := fun hSp => by
    have := (Of.ne h (hS mb h.nodes.lt hSp)).2; exact this rfl
  refine ⟨h.top.chg hc hp, he.keep _ _ h.ownp, he.keep _ _ h.ownm, ?_, fun x hx => ?_, fun x hx => ?_, hlt⟩
  · have e := keys_put (K := natK) natK_tot hr (a := i) (v := n') (fun j => (lay j).nb) (fun j => (lay1 lay i a' j).nb) (fun j hj => by unfold lay1; rw [if_neg hj]) (fun _ => by unfold lay1; rw [if_pos rfl]; exact ha) (by rw [hg]; rfl)
    unfold PT.upd
    simp only
    rw [e]
    exact h.nodes.chg hc hm
  · rcases (mem_putS natK).1 hx with rfl | ⟨hx, hne⟩
    · unfold lay1; rw [if_pos rfl]; exact hn
    · unfold lay1
      rw [if_neg hne]
      exact (h.node x hx).other (h.owns x hx) hne hc fun b hb hSb => .inl (hS b hb hSb)
  · rcases (mem_putS natK).1 hx with rfl | ⟨hx, hne⟩
    · unfold lay1; rw [if_pos rfl]; exact ho
    · unfold lay1
      rw [if_neg hne]
      exact (h.owns x hx).ext he
/-- A node has been taken out. -/
theorem PlainAt.del (h : PlainAt w own lay p mb T) (hc : Chg S w w') (hS : ∀ b, b < w.heap.size → S b → Of own i b ∨ b = mb) (hm : MapAt w' natK ptrV 3 mb (delS i (T.nodes.map fun x => (x.1, (lay x.1).nb)))) : PlainAt w' own lay p mb (T.del i) := by
  have hp : ¬ S p := fun hSp => by
    rcases hS p h.top.lt hSp with h1 | h1
    · exact (Of.ne h h1).1 rfl
    · have := h.ownp; rw [h1, h.ownm] at this; cases this
  refine ⟨h.top.chg hc hp, h.ownp, h.ownm, ?_, fun x hx => ?_, fun x hx => ?_, fun b r e => Nat.lt_of_lt_of_le (h.lt b r e) hc.size⟩
  · have e : delS i (T.nodes.map fun x => (x.1, (lay x.1).nb)) = (T.del i).nodes.map fun x => (x.1, (lay x.1).nb) := by
      unfold PT.del delS
      simp only
      rw [List.filter_map]
      rfl
    rw [← e]
    exact hm
  · obtain ⟨hx, hne⟩ := mem_delS.1 hx
    refine (h.node x hx).other (h.owns x hx) hne hc fun b hb hSb => ?_
    rcases hS b hb hSb with h1 | h1
    · exact .inl h1
    · rw [h1]; exact .inr (.inl h.ownm)
  · obtain ⟨hx, hne⟩ := mem_delS.1 hx
    exact h.owns x hx
/-- A node has been laid in. -/
theorem PlainAt.add (h : PlainAt w own lay p mb T) (hg : getS i T.nodes = none) (hc : Chg S w w') (hS : ∀ b, b < w.heap.size → S b → b = mb) (hm : MapAt w' natK ptrV 3 mb (putS natK i a'.nb (T.nodes.map fun x => (x.1, (lay x.1).nb)))) (hn : PnAt w' a' n')
    {wE : World} (he : Ext wE own own') (hlt : ∀ b r, own' b = some r → b < w'.heap.size) (ho : Owns own' i a') : PlainAt w' own' (lay1 lay i a') p mb (T.upd i n') := by
  have hp : ¬ S p := fun hSp => by
    have h1 := hS p h.top.lt hSp
    have := h.ownp; rw [h1, h.ownm] at this; cases this
  refine ⟨h.top.chg hc hp, he.keep _ _ h.ownp, he.keep _ _ h.ownm, ?_, fun x hx => ?_, fun x hx => ?_, hlt⟩
  · have hk := getS_none.1 hg
    have e : putS natK i a'.nb (T.nodes.map fun x => (x.1, (lay x.1).nb)) = (T.upd i n').nodes.map fun x => (x.1, (lay1 lay i a' x.1).nb) := by
      unfold PT.upd putS
      simp only
      rw [delS_of_none hg, delS_of_none (by rw [PlainAt.look, hg]; rfl)]
      clear hm hp hc h
      generalize T.nodes = l at *
      induction l with
      | nil => simp [insS, lay1]
      | cons y r ih =>
        have hy : y.1 ≠ i := hk y List.mem_cons_self
        have ihr := ih (by unfold getS at hg; rwa [if_neg hy] at hg) fun q hq => hk q (List.mem_cons_of_mem _ hq)
        simp only [List.map_cons, insS]
        split
        · simp only [List.map_cons, lay1, if_neg hy, if_true]
          congr 2
          refine List.map_congr_left fun q hq => ?_
          rw [if_neg (hk q (List.mem_cons_of_mem _ hq))]
        · rw [List.map_cons, ← ihr]
          simp [lay1, hy]
    rw [← e]
    exact hm
  · rcases (mem_putS natK).1 hx with rfl | ⟨hx, hne⟩
    · unfold lay1; rw [if_pos rfl]; exact hn
    · unfold lay1
      rw [if_neg hne]
      refine (h.node x hx).other (i := i) (h.owns x hx) hne hc fun b hb hSb => ?_
      rw [hS b hb hSb]; exact .inr (.inl h.ownm)
  · rcases (mem_putS natK).1 hx with rfl | ⟨hx, hne⟩
    · unfold lay1; rw [if_pos rfl]; exact ho
    · unfold lay1
      rw [if_neg hne]
      exact (h.owns x hx).ext he
end
/-- A call has turned a tree. -/
def PTurn (own : Nat → Option Role) (p mb : Nat) (T' : PT) (w w' : World) : Prop :=
  ∃ own' lay', PlainAt w' own' lay' p mb T' ∧ Ext w own own' ∧ Chg (fun b => own b ≠ none) w w'
theorem lay1_self (lay : Nat → NA) (i : Nat) : lay1 lay i (lay i) = lay := by
  funext j
  unfold lay1
  split
  · rename_i h; rw [h]
  · rfl
section
variable {w w1 w2 : World} {own : Nat → Option Role} {lay : Nat → NA} {p mb i : Nat} {T T1 T2 : PT}
theorem PTurn.of {own' : Nat → Option Role} {lay' : Nat → NA} (h : PlainAt w1 own' lay' p mb T1) (he : Ext w own own') (hc : Chg (fun b => own b ≠ none) w w1) : PTurn own p mb T1 w w1 := ⟨own', lay', h, he, hc⟩
theorem PTurn.same (h : PlainAt w own lay p mb T) (hb : Below w.heap.size w w1) : PTurn own p mb T w w1 := ⟨own, lay, h.fresh hb, Ext.refl _ _, Chg.of_fresh hb⟩
theorem Chg.ext {w w1 w2 : World} {o o1 : Nat → Option Role} (h : Chg (fun b => o b ≠ none) w w1) (he : Ext w o o1) (k : Chg (fun b => o1 b ≠ none) w1 w2) : Chg (fun b => o b ≠ none) w w2 :=
  h.trans k (fun _ _ h => h) fun b hb h => by
    cases e : o1 b with
    | none => exact absurd e h
    | some r =>
      rcases he.new b r e with e | e
      · rw [e]; simp
      · omega
theorem Chg.of_of {o : Nat → Option Role} (h : Chg (Of o i) w w1) : Chg (fun b => o b ≠ none) w w1 := h.mono fun b _ h => by
  rcases h with e | e | e | e <;> (rw [e]; simp)
end
#print axioms PlainAt.add
end Go.Proofs.YtolpcfhfcdkokaaGreatDoor
