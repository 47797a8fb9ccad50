/- Joined out of the texts PMake. -/
import Derived.Test.YtolpcfhfcdkokaaGreatDoorM15
/-
  The tree in memory: make: a file or a directory is made.
-/
namespace Go.Proofs.YtolpcfhfcdkokaaGreatDoor
open Go.RowKit
open Go.Maps (Keyed)

abbrev nilS : Value := .slice none 0 0
def ansC (c : Nat) (s : St) (d e : Value) : List Value := [.int .i64 (c : Int), .int .i64 s.ino, .int .i64 s.kind, .int .i64 s.links, .int .i64 s.size, .int .i64 s.made, .int .i64 s.blocks, d, e, .bool false]
/-- An answer without bytes and entries. -/
def ansV (a : Ans) : Value := .agg (ansC a.code a.stat nilS nilS).toArray
abbrev zAns : List Value := [.int .i64 0, .int .i64 0, .int .i64 0, .int .i64 0, .int .i64 0, .int .i64 0, .int .i64 0, nilS, nilS, .bool false]
theorem freeFrom_spec (T : PT) : ∀ (f i : Nat), freeFrom T f i ≠ 0 → i ≤ freeFrom T f i ∧ freeFrom T f i ≤ T.inodes ∧ getS (freeFrom T f i) T.nodes = none
  | 0, _, h => absurd rfl h
  | f + 1, i, h => by
    unfold freeFrom at h ⊢
    split at h
    · exact absurd rfl h
    · rename_i h1
      rw [if_neg h1]
      split at h
      · rename_i h2
        rw [if_pos h2]
        have := freeFrom_spec T f (i + 1) h
        exact ⟨by omega, this.2⟩
      · rename_i h2
        rw [if_neg h2]
        refine ⟨Nat.le_refl _, by omega, ?_⟩
        cases hg : getS i T.nodes with
        | none => rfl
        | some n => rw [hg] at h2; exact absurd rfl h2
theorem free_spec {T : PT} (h : T.free ≠ 0) : 2 ≤ T.free ∧ T.free ≤ T.inodes ∧ getS T.free T.nodes = none := freeFrom_spec T _ 2 h
section
variable {w w0 w1 w2 : World} {own : Nat → Option Role} {lay : Nat → NA} {p mb i z : Nat} {T T' : PT}
/-- Behind a call a block of the caller's own is written. -/
theorem PTurn.after (h : PTurn own p mb T' w0 w1) (hb : Below w.heap.size w w0) (hz : w.heap.size ≤ z) (hz0 : z < w0.heap.size) (hoz : own z = none) (hc : Chg (fun b => b = z) w1 w2) : PTurn own p mb T' w w2 := by
  obtain ⟨o, l, h1, h2, h3⟩ := h
  have ho : o z = none := by
    cases e : o z with
    | none => rfl
    | some r =>
      rcases h2.new z r e with e2 | e2
      · rw [hoz] at e2; cases e2
      · omega
  exact ⟨o, l, h1.chg hc fun b e => by rw [e]; exact ho, h2.back hb.size, ((Chg.of_fresh hb).trans h3 (fun _ _ h => h) (fun _ _ h => h)).trans hc (fun _ _ h => h) (fun b hb e => by omega)⟩
end
theorem one10 (c : Nat) (s : St) : (ansC c s nilS nilS).toArray.all (·.oneCell') = true := by
  rw [Array.all_eq_true_iff_forall_mem]
  intro v hv
  have hv : v ∈ ansC c s nilS nilS := by simpa using hv
  simp only [ansC, List.mem_cons, List.not_mem_nil, or_false] at hv
  rcases hv with rfl | rfl | rfl | rfl | rfl | rfl | rfl | rfl | rfl | rfl <;> rfl
theorem newN_ok (dir : Bool) {made : Nat} (h : made ≤ 1099511627776) : (newN dir made).Ok := by
  refine ⟨fun p hp => (by cases hp), by simp [newN], fun p hp => (by cases hp), by simp [newN], by simp [newN], by simp [newN], h, fun p hp => (by cases hp), by simp [newN], fun _ => rfl, fun _ => ⟨rfl, rfl⟩, List.Pairwise.nil, List.Pairwise.nil⟩
section
variable {own : Nat → Option Role} {i : Nat}
/-- The owners behind a node that has been made. -/
def ownNew (own : Nat → Option Role) (i z : Nat) (nm : Bool) : Nat → Option Role := fun b => if b = z then some (.data i) else if b = z + 1 then some (.node i) else if b = z + 2 ∧ nm = true then some (.names i) else own b
theorem ownNew_facts (w : World) (nm : Bool) (hlt : ∀ b r, own b = some r → b < w.heap.size) {w3 : World} (hz : w3.heap.size = w.heap.size + (if nm then 3 else 2)) :
    Ext w own (ownNew own i w.heap.size nm) ∧ (∀ b r, ownNew own i w.heap.size nm b = some r → b < w3.heap.size) ∧ ∀ g, g < w.heap.size → own g = none → ownNew own i w.heap.size nm g = none := by
  refine ⟨⟨fun b r e => ?_, fun b r e => ?_⟩, fun b r e => ?_, fun g hg e => ?_⟩
  · have := hlt b r e
    unfold ownNew
    rw [if_neg (by omega), if_neg (by omega), if_neg (by omega)]
    exact e
  · unfold ownNew at e
    split at e
    · exact .inr (by omega)
    · split at e
      · exact .inr (by omega)
      · split at e
        · exact .inr (by omega)
        · exact .inl e
  · unfold ownNew at e
    split at e
    · split at hz <;> omega
    · split at e
      · split at hz <;> omega
      · split at e
        · rename_i h
          rw [h.2] at hz
          simp only [if_true] at hz
          omega
        · have := hlt b r e
          split at hz <;> omega
  · unfold ownNew
    rw [if_neg (by omega), if_neg (by omega), if_neg (by omega)]
    exact e
theorem new_file (w : World) (made : Nat) (hlt : ∀ b r, own b = some r → b < w.heap.size) :
    PnAt ((w.alloc (.map #[] 0)).alloc (.cells #[.int .i64 1, .int .i64 1, .int .i64 0, .int .i64 (made : Int), .map (some w.heap.size), nilS, .map none] 110)) ⟨w.heap.size + 1, some w.heap.size, nilS, none⟩ (newN false made) ∧
    Ext w own (ownNew own i w.heap.size false) ∧ (∀ b r, ownNew own i w.heap.size false b = some r → b < ((w.alloc (.map #[] 0)).alloc (.cells #[.int .i64 1, .int .i64 1, .int .i64 0, .int .i64 (made : Int), .map (some w.heap.size), nilS, .map none] 110)).heap.size) ∧
    Owns (ownNew own i w.heap.size false) i ⟨w.heap.size + 1, some w.heap.size, nilS, none⟩ ∧ (∀ g, g < w.heap.size → own g = none → ownNew own i w.heap.size false g = none) ∧
    Below w.heap.size w ((w.alloc (.map #[] 0)).alloc (.cells #[.int .i64 1, .int .i64 1, .int .i64 0, .int .i64 (made : Int), .map (some w.heap.size), nilS, .map none] 110)) := by
  obtain ⟨h1, h2, h3⟩ := ownNew_facts (own := own) (i := i) w false hlt (w3 := (w.alloc (.map #[] 0)).alloc (.cells #[.int .i64 1, .int .i64 1, .int .i64 0, .int .i64 (made : Int), .map (some w.heap.size), nilS, .map none] 110)) (by simp)
  refine ⟨⟨?_, (MapAt.made w natK secV 3).alloc _, World.ownsRow_nil _ _ _ _, rfl, fun e => (by cases e), fun _ => ⟨_, rfl⟩⟩, h1, h2, ⟨?_, fun b e => ?_, fun b e => (by cases e), fun b e => (by cases e)⟩, h3, ((Below.refl _ _).alloc (Nat.le_refl _) _).alloc (by simp) _⟩
  · have := Blk.new (w.alloc (.map #[] 0)) 110 [.int .i64 1, .int .i64 1, .int .i64 0, .int .i64 (made : Int), .map (some w.heap.size), nilS, .map none]
    rw [show (w.alloc (.map #[] 0)).heap.size = w.heap.size + 1 by simp] at this
    exact this
  · simp [ownNew]
  · have e := Option.some.inj e
    simp [ownNew, ← e]
theorem new_dir (w : World) (made : Nat) (hlt : ∀ b r, own b = some r → b < w.heap.size) :
    PnAt (((w.alloc (.map #[] 0)).alloc (.cells #[.int .i64 2, .int .i64 1, .int .i64 0, .int .i64 (made : Int), .map (some w.heap.size), nilS, .map (some (w.heap.size + 1 + 1))] 110)).alloc (.map #[] 0)) ⟨w.heap.size + 1, some w.heap.size, nilS, some (w.heap.size + 1 + 1)⟩ (newN true made) ∧
    Ext w own (ownNew own i w.heap.size true) ∧ (∀ b r, ownNew own i w.heap.size true b = some r → b < (((w.alloc (.map #[] 0)).alloc (.cells #[.int .i64 2, .int .i64 1, .int .i64 0, .int .i64 (made : Int), .map (some w.heap.size), nilS, .map (some (w.heap.size + 1 + 1))] 110)).alloc (.map #[] 0)).heap.size) ∧
    Owns (ownNew own i w.heap.size true) i ⟨w.heap.size + 1, some w.heap.size, nilS, some (w.heap.size + 1 + 1)⟩ ∧ (∀ g, g < w.heap.size → own g = none → ownNew own i w.heap.size true g = none) ∧
    Below w.heap.size w (((w.alloc (.map #[] 0)).alloc (.cells #[.int .i64 2, .int .i64 1, .int .i64 0, .int .i64 (made : Int), .map (some w.heap.size), nilS, .map (some (w.heap.size + 1 + 1))] 110)).alloc (.map #[] 0)) := by
  obtain ⟨h1, h2, h3⟩ := ownNew_facts (own := own) (i := i) w true hlt (w3 := ((w.alloc (.map #[] 0)).alloc (.cells #[.int .i64 2, .int .i64 1, .int .i64 0, .int .i64 (made : Int), .map (some w.heap.size), nilS, .map (some (w.heap.size + 1 + 1))] 110)).alloc (.map #[] 0)) (by simp)
  have hmk := MapAt.made ((w.alloc (.map #[] 0)).alloc (.cells #[.int .i64 2, .int .i64 1, .int .i64 0, .int .i64 (made : Int), .map (some w.heap.size), nilS, .map (some (w.heap.size + 1 + 1))] 110)) strK natV 9
  refine ⟨⟨?_, ((MapAt.made w natK secV 3).alloc _).alloc _, World.ownsRow_nil _ _ _ _, ?_, fun _ => ⟨_, rfl⟩, fun e => (by cases e)⟩, h1, h2, ⟨?_, fun b e => ?_, fun b e => (by cases e), fun b e => ?_⟩, h3, (((Below.refl _ _).alloc (Nat.le_refl _) _).alloc (by simp) _).alloc (by simp; omega) _⟩
  · have := (Blk.new (w.alloc (.map #[] 0)) 110 [.int .i64 2, .int .i64 1, .int .i64 0, .int .i64 (made : Int), .map (some w.heap.size), nilS, .map (some (w.heap.size + 1 + 1))]).alloc (.map #[] 0)
    rw [show (w.alloc (.map #[] 0)).heap.size = w.heap.size + 1 by simp] at this
    exact this
  · have hmk' : MapAt (((w.alloc (.map #[] 0)).alloc (.cells #[.int .i64 2, .int .i64 1, .int .i64 0, .int .i64 (made : Int), .map (some w.heap.size), nilS, .map (some (w.heap.size + 1 + 1))] 110)).alloc (.map #[] 0)) strK natV 9 (w.heap.size + 1 + 1) [] := by simpa using hmk
    exact hmk'
  · simp [ownNew]
  · have e := Option.some.inj e
    simp [ownNew, ← e]
  · have e := Option.some.inj e
    simp [ownNew, ← e]
    omega
end
theorem new_keep {w3 w4 : World} {z mb : Nat} {o : Option Nat} {n : PN} (h : PnAt w3 ⟨z + 1, some z, nilS, o⟩ n) (ho : ∀ x, o = some x → x = z + 1 + 1) (hc : Chg (fun b => b = mb) w3 w4) (hm : mb < z) : PnAt w4 ⟨z + 1, some z, nilS, o⟩ n :=
  h.chg hc (fun e => by simp only at e; omega) (fun b e h => by have e := Option.some.inj e; omega) (fun b e h => by cases e) (fun b e h => by have e := ho b e; omega)
set_option maxHeartbeats 3200000 in
set_option maxRecDepth 100000 in
theorem pmake_any (own : Nat → Option Role) (lay : Nat → NA) (p mb : Nat) (T : PT) (B : Nat) (A : Option Addr) (c : Nat) (l : List ByteArray) (dir : Bool) (made : Nat) (w : World) (h : PlainAt w own lay p mb T) (hT : T.Wf) (hB : B ≤ w.heap.size)
    (hs : Sees w B 1 A l.length (strs l)) (hl : l.length ≤ 1000000) (hc : l.length ≤ c) (hx : ∀ x ∈ l, x.size ≤ 40) (hm : made ≤ 1099511627776) :
    Calls Tryz.prog 67 #[.pointer (some ⟨p, 0, none⟩), .slice A l.length c, .int .i64 (newN dir made).kind, .int .i64 (made : Int)] w fun e w' => e = .returned (ansV (T.make l dir made).2) ∧ PTurn own p mb (T.make l dir made).1 w w' := by
  have big : ∀ x ∈ l, x.size ≤ 1000000 := fun x hx' => by have := hx x hx'; omega
  have hb0 : Below w.heap.size w (w.alloc (.cells zAns.toArray 67)) := (Below.refl _ _).alloc (Nat.le_refl _) _
  have hP0 := h.fresh hb0
  have hZ0 := Blk.new w 67 zAns
  have hoz : own w.heap.size = none := h.free (Nat.le_refl _)
  have hmm := @run_makeMap Tryz.prog
  have hcalll := plast_any own lay p mb T B A c l _ hP0 hT (hs.below (hb0.mono hB)) hl hc big
  have hlin := last_in hT l
  have hlle := last_le hT l
  have hnS := lastN_size big
  have hnS40 := lastN_size40 hx
  have hu := PT.make.eq_1 T l dir made
  have hfs := free_spec (T := T)
  generalize T.last l = r1 at *
  obtain ⟨d, e1⟩ := r1
  generalize lastN l = nm at *
  simp only at hcalll hlin hlle hu
  have hTH := Lib.hid hT
  have hTok := Lib.hid hT.ok
  have hio := hT.ok.ino
  clear h hT hs hx big
  generalize l.length = len at *
  unfold natV at hcalll
  go_enter Tryz.func67, Tryz.ntmps67
  go_upto_region 1 with (fail)
  replace hZ0 : Blk (w.alloc (.cells zAns.toArray 67)) w.heap.size 67 zAns := hZ0
  generalize w.alloc (.cells zAns.toArray 67) = w0 at *
  generalize hg : w.heap.size = g at *
  have hgH := Lib.hid hg
  have hZ0l := hZ0.lt
  have hbH := Lib.hid hb0
  have hH := Lib.hid hP0
  have hZH := Lib.hid hZ0
  have hozH := Lib.hid hoz
  clear hg hP0 hb0 hZ0 hoz
  by_cases he1 : e1 = 0
  · subst he1
    rw [if_neg (by simp)] at hu
    obtain ⟨n, hn, hnd⟩ := hlin rfl
    have hnH := Lib.hid hn
    have hndH := Lib.hid hnd
    rw [node_of hn] at hu
    clear hlin hn hnd
    cases hg : getS nm n.names with
    | some j =>
      rw [hg, if_pos (show (some j).isSome = true from rfl)] at hu
      have huH := Lib.hid hu
      have hgH2 := Lib.hid hg
      clear hu hg hfs
      go_wp2_with (first
        | (go_at_call 95; refine hcalll.mono ?_; rintro e w1 ⟨rfl, hb1⟩; have hP1 := hH.out.fresh hb1; have hZ1 := hZH.out.fresh hb1; have x2 := hP1.c2; have hlkd := hP1.lookI hnH.out (by omega); have k6 := (hP1.get hnH.out).c6; have hlN := (hP1.get hnH.out).lookN nm (by omega); rw [hgH2.out] at hlN; simp only [orV, Option.isSome_some, natV] at hlN; clear hP1)
        | (refine wpList_store_row rfl 67 (.tmp 8) (.tmp 43) rfl g (ansC 111 st0 nilS nilS).toArray rfl (by rfl) 67 _ hZ1 rfl rfl (one10 _ _) ?_))
      have hrow := setRow_heap w1 g _ (ansC 111 st0 nilS nilS).toArray _ _ hZ1
      refine bodyPost_ret (results_cell_row rfl _ _ g 67 (ansC 111 st0 nilS nilS).toArray (0, 0) _ rfl hrow Tryz.underlying67 rfl rfl) rfl ⟨by rw [huH.out]; rfl, ?_⟩
      rw [huH.out]
      exact (PTurn.same hH.out hb1).after (by rw [hgH.out]; exact hbH.out) (by rw [hgH.out]; exact Nat.le_refl _) hZ0l hozH.out ((Chg.refl (fun b => b = g) w1).setRow (fun _ => rfl) _)
    | none =>
      rw [hg, if_neg (by simp)] at hu
      have hgH2 := Lib.hid hg
      clear hg
      generalize hfE : T.free = i at *
      have hfEH := Lib.hid hfE
      clear hfE
      by_cases h0 : i = 0
      · rw [if_pos h0] at hu
        have huH := Lib.hid hu
        have hz0 : ((i : Int) == 0) = true := by simp; omega
        clear hu hfs h0
        go_wp2_with (first
          | (go_at_call 95; refine hcalll.mono ?_; rintro e w1 ⟨rfl, hb1⟩; have hP1 := hH.out.fresh hb1; have hZ1 := hZH.out.fresh hb1; have x2 := hP1.c2; have hlkd := hP1.lookI hnH.out (by omega); have k6 := (hP1.get hnH.out).c6; have hlN := (hP1.get hnH.out).lookN nm (by omega); rw [hgH2.out] at hlN; simp only [orV, Option.isSome_none] at hlN; have hcallf := pfree_any own lay p mb T w1 hP1 hTH.out; unfold natV at hcallf; have hP1H := Lib.hid hP1; clear hP1)
          | (go_at_call 96; rw [hfEH.out] at hcallf; refine hcallf.mono ?_; rintro e w' ⟨rfl, rfl⟩)
          | (refine wpList_store_row rfl 67 (.tmp 8) (.tmp 48) rfl g (ansC 81 st0 nilS nilS).toArray rfl (by rfl) 67 _ hZ1 rfl rfl (one10 _ _) ?_))
        have hrow := setRow_heap w1 g _ (ansC 81 st0 nilS nilS).toArray _ _ hZ1
        refine bodyPost_ret (results_cell_row rfl _ _ g 67 (ansC 81 st0 nilS nilS).toArray (0, 0) _ rfl hrow Tryz.underlying67 rfl rfl) rfl ⟨by rw [huH.out]; rfl, ?_⟩
        rw [huH.out]
        exact (PTurn.same hH.out hb1).after (by rw [hgH.out]; exact hbH.out) (by rw [hgH.out]; exact Nat.le_refl _) hZ0l hozH.out ((Chg.refl (fun b => b = g) w1).setRow (fun _ => rfl) _)
      · rw [if_neg h0] at hu
        obtain ⟨hi2, hi3, hi4⟩ := hfs h0
        have hiH := Lib.hid hi4
        have hz0 : ((i : Int) == 0) = false := by simp; omega
        clear hfs h0 hi4
        have hfp := fit_place (T := T) (n := n) (nm := nm) (hTok.out.get hnH.out).1
        have hcallp := fun W hP => pplace_any own lay p mb d T n W hP hTH.out hnH.out
        generalize T.place n = r3 at *
        obtain ⟨k, e3⟩ := r3
        simp only at hfp hu hcallp
        unfold natV at hcallp
        have hcpH := Lib.hid hcallp
        clear hcallp
        by_cases he3 : e3 = 0
        · subst he3
          rw [if_neg (by simp)] at hu
          have hid : i ≠ d := fun e => by have h1 := hiH.out; rw [e, hnH.out] at h1; cases h1
          rw [ins_of ((upd_other _ (Ne.symm hid)).trans hnH.out)] at hu
          have huH := Lib.hid hu
          have hidH := Lib.hid hid
          have hfit := Lib.hid (hfp rfl)
          have hkl := hfit.out.le
          have hk8 := hfit.out.lt (hTok.out.get hnH.out).1
          have hT1 := Lib.hid (hTok.out.upd (i := i) (newN_ok dir hm) ⟨by omega, hi3⟩)
          have hsok := Lib.hid (set_ok hTH.out hnH.out hndH.out (j := i) hfit.out hnS40 (by omega))
          have hT2 := Lib.hid (hT1.out.upd hsok.out (hTok.out.get hnH.out).2)
          have hlen : (List.map (fun x => (x.1, (lay x.1).nb)) T.nodes).length ≤ 1000 := by rw [List.length_map]; have := hTok.out.len; omega
          clear hu hfp hid
          cases dir with
          | false =>
            have hkd : (newN false made).kind = 1 := rfl
            rw [hkd]
            clear hkd
            have hstV : ∃ s : St, (((T.upd i (newN false made)).upd d (n.set k nm i)).stat i) = s := ⟨_, rfl⟩
            obtain ⟨s, hsE⟩ := hstV
            have hsEH := Lib.hid hsE
            clear hsE
            go_wp2_with (first
              | (go_at_call 95; refine hcalll.mono ?_; rintro e w1 ⟨rfl, hb1⟩; have hP1 := hH.out.fresh hb1; have hZ1 := hZH.out.fresh hb1; have x2 := hP1.c2; have hlkd := hP1.lookI hnH.out (by omega); have k6 := (hP1.get hnH.out).c6; have hlN := (hP1.get hnH.out).lookN nm (by omega); rw [hgH2.out] at hlN; simp only [orV, Option.isSome_none] at hlN; have hcallf := pfree_any own lay p mb T w1 hP1 hTH.out; unfold natV at hcallf; have hP1H := Lib.hid hP1; clear hP1)
              | (go_at_call 96; rw [hfEH.out] at hcallf; refine hcallf.mono ?_; rintro e w' ⟨rfl, rfl⟩)
              | (go_at_call 97; refine (hcpH.out w1 hP1H.out).mono ?_; rintro e w2 ⟨rfl, hb2⟩; have hb12 := hb1.trans (hb2.mono hb1.size); have hZ2 := hZ1.fresh hb2; have hP2 := hH.out.fresh hb12; have hmb2 := hP2.nodes.lt; have y2 := hP2.c2; have hP2H := Lib.hid hP2; have hN3 := new_file (own := own) (i := i) w2 made hP2.lt; have hb3 : Below w2.heap.size w2 ((w2.alloc (.map #[] 0)).alloc (.cells #[.int .i64 1, .int .i64 1, .int .i64 0, .int .i64 (made : Int), .map (some w2.heap.size), nilS, .map none] 110)) := hN3.2.2.2.2.2; have hP3 := hP2.fresh hb3; have y3 := hP3.c2; have hnd3 := hP3.nodes; have hP3H := Lib.hid hP3; have hN3H := Lib.hid hN3; clear hP2 hP3 hN3)
              | (at_mapUpdate; refine wpList_mput _ rfl _ _ _ 96 (.inl rfl) kInt Tryz.underlying96 hnd3 (by unfold maxLen; omega) rfl i rfl (keyN i (by omega)) (w2.heap.size + 1) rfl ?_; intro w4 hm4 ht4; have hC4 := turned_chg ht4; have hP4 := hP3H.out.add hiH.out hC4 (fun b _ e => e) hm4 (new_keep hN3H.out.1 (fun x e => by cases e) hC4 hmb2) hN3H.out.2.1 (fun b r e => Nat.lt_of_lt_of_le (hN3H.out.2.2.1 b r e) hC4.size) hN3H.out.2.2.2.1; have z2 := hP4.c2; have hlk4 := hP4.lookI ((upd_other _ (Ne.symm hidH.out)).trans hnH.out) (by omega); have hP4H := Lib.hid hP4; have hZ4 := (hZ2.fresh hb3).chg hC4 (fun e => by have h1 := hozH.out; have h2 := hP3H.out.ownm; rw [← e, h1] at h2; cases h2); clear hP4)
              | (go_at_call 98; refine (set_plain hP4H.out hT1.out ((upd_other _ (Ne.symm hidH.out)).trans hnH.out) hndH.out hkl hk8 hnS).mono ?_; rintro e w5 ⟨rfl, own5, lay5, hP5, hE5, hC5⟩; have hP5H := Lib.hid hP5; have hE5H := Lib.hid hE5; have hoz4 := Lib.hid (hN3H.out.2.2.2.2.1 g (by have := hb12.size; omega) hozH.out); have hZ5 := hZ4.chg hC5 (fun h => h hoz4.out); have hcs := pstat_any own5 lay5 p mb i _ _ w5 hP5 hT2.out ((upd_other _ hidH.out).trans (upd_same _ _)); rw [hsEH.out] at hcs; unfold stV stC at hcs; clear hP5 hE5)
              | (go_at_call 99; refine hcs.mono ?_; rintro e w6 ⟨rfl, hb6⟩; have hZ6 := hZ5.fresh hb6)
              | (refine wpList_store_row rfl 67 (.tmp 8) (.tmp 94) rfl g (ansC 0 s nilS nilS).toArray rfl (by rfl) 67 _ hZ6 rfl rfl (one10 _ _) ?_))
            have hrow := setRow_heap w6 g _ (ansC 0 s nilS nilS).toArray _ _ hZ6
            refine bodyPost_ret (results_cell_row rfl _ _ g 67 (ansC 0 s nilS nilS).toArray (0, 0) _ rfl hrow Tryz.underlying67 rfl rfl) rfl ⟨by rw [huH.out, hsEH.out]; rfl, ?_⟩
            rw [huH.out]
            have hfin : PTurn own p mb ((T.upd i (newN false made)).upd d (n.set k nm i)) w0 w6 := by
              have hb13 := hb12.trans (hb3.mono hb12.size)
              have hE4 := (hN3H.out.2.1.back (w := w0) (hb12.size))
              have hC40 := (Chg.of_fresh (S := fun b => own b ≠ none) hb13).trans hC4 (fun _ _ h => h) (fun b _ e => by rw [e, hH.out.ownm]; simp)
              exact PTurn.fst hE4 hC40 (.of (hP5H.out.fresh hb6) hE5H.out (hC5.trans (Chg.of_fresh hb6) (fun _ _ h => h) (fun _ _ h => h)))
            exact hfin.after (by rw [hgH.out]; exact hbH.out) (by rw [hgH.out]; exact Nat.le_refl _) hZ0l hozH.out ((Chg.refl (fun b => b = g) w6).setRow (fun _ => rfl) _)
          | true =>
            have hkd : (newN true made).kind = 2 := rfl
            rw [hkd]
            clear hkd
            have hstV : ∃ s : St, (((T.upd i (newN true made)).upd d (n.set k nm i)).stat i) = s := ⟨_, rfl⟩
            obtain ⟨s, hsE⟩ := hstV
            have hsEH := Lib.hid hsE
            clear hsE
            go_wp2_with (first
              | (go_at_call 95; refine hcalll.mono ?_; rintro e w1 ⟨rfl, hb1⟩; have hP1 := hH.out.fresh hb1; have hZ1 := hZH.out.fresh hb1; have x2 := hP1.c2; have hlkd := hP1.lookI hnH.out (by omega); have k6 := (hP1.get hnH.out).c6; have hlN := (hP1.get hnH.out).lookN nm (by omega); rw [hgH2.out] at hlN; simp only [orV, Option.isSome_none] at hlN; have hcallf := pfree_any own lay p mb T w1 hP1 hTH.out; unfold natV at hcallf; have hP1H := Lib.hid hP1; clear hP1)
              | (go_at_call 96; rw [hfEH.out] at hcallf; refine hcallf.mono ?_; rintro e w' ⟨rfl, rfl⟩)
              | (go_at_call 97; refine (hcpH.out w1 hP1H.out).mono ?_; rintro e w2 ⟨rfl, hb2⟩; have hb12 := hb1.trans (hb2.mono hb1.size); have hZ2 := hZ1.fresh hb2; have hP2 := hH.out.fresh hb12; have hmb2 := hP2.nodes.lt; have y2 := hP2.c2; have hP2H := Lib.hid hP2; have hN3 := new_dir (own := own) (i := i) w2 made hP2.lt; have hb3 : Below w2.heap.size w2 (((w2.alloc (.map #[] 0)).alloc (.cells #[.int .i64 2, .int .i64 1, .int .i64 0, .int .i64 (made : Int), .map (some w2.heap.size), nilS, .map (some (w2.heap.size + 1 + 1))] 110)).alloc (.map #[] 0)) := hN3.2.2.2.2.2; have hP3 := hP2.fresh hb3; have y3 := hP3.c2; have hnd3 := hP3.nodes; have hP3H := Lib.hid hP3; have hN3H := Lib.hid hN3; clear hP2 hP3 hN3)
              | (at_mapUpdate; refine wpList_mput _ rfl _ _ _ 96 (.inl rfl) kInt Tryz.underlying96 hnd3 (by unfold maxLen; omega) rfl i rfl (keyN i (by omega)) (w2.heap.size + 1) rfl ?_; intro w4 hm4 ht4; have hC4 := turned_chg ht4; have hP4 := hP3H.out.add hiH.out hC4 (fun b _ e => e) hm4 (new_keep hN3H.out.1 (fun x e => (Option.some.inj e).symm) hC4 hmb2) hN3H.out.2.1 (fun b r e => Nat.lt_of_lt_of_le (hN3H.out.2.2.1 b r e) hC4.size) hN3H.out.2.2.2.1; have z2 := hP4.c2; have hlk4 := hP4.lookI ((upd_other _ (Ne.symm hidH.out)).trans hnH.out) (by omega); have hP4H := Lib.hid hP4; have hZ4 := (hZ2.fresh hb3).chg hC4 (fun e => by have h1 := hozH.out; have h2 := hP3H.out.ownm; rw [← e, h1] at h2; cases h2); clear hP4)
              | (go_at_call 98; refine (set_plain hP4H.out hT1.out ((upd_other _ (Ne.symm hidH.out)).trans hnH.out) hndH.out hkl hk8 hnS).mono ?_; rintro e w5 ⟨rfl, own5, lay5, hP5, hE5, hC5⟩; have hP5H := Lib.hid hP5; have hE5H := Lib.hid hE5; have hoz4 := Lib.hid (hN3H.out.2.2.2.2.1 g (by have := hb12.size; omega) hozH.out); have hZ5 := hZ4.chg hC5 (fun h => h hoz4.out); have hcs := pstat_any own5 lay5 p mb i _ _ w5 hP5 hT2.out ((upd_other _ hidH.out).trans (upd_same _ _)); rw [hsEH.out] at hcs; unfold stV stC at hcs; clear hP5 hE5)
              | (go_at_call 99; refine hcs.mono ?_; rintro e w6 ⟨rfl, hb6⟩; have hZ6 := hZ5.fresh hb6)
              | (refine wpList_store_row rfl 67 (.tmp 8) (.tmp 94) rfl g (ansC 0 s nilS nilS).toArray rfl (by rfl) 67 _ hZ6 rfl rfl (one10 _ _) ?_))
            have hrow := setRow_heap w6 g _ (ansC 0 s nilS nilS).toArray _ _ hZ6
            refine bodyPost_ret (results_cell_row rfl _ _ g 67 (ansC 0 s nilS nilS).toArray (0, 0) _ rfl hrow Tryz.underlying67 rfl rfl) rfl ⟨by rw [huH.out, hsEH.out]; rfl, ?_⟩
            rw [huH.out]
            have hfin : PTurn own p mb ((T.upd i (newN true made)).upd d (n.set k nm i)) w0 w6 := by
              have hb13 := hb12.trans (hb3.mono hb12.size)
              have hE4 := (hN3H.out.2.1.back (w := w0) (hb12.size))
              have hC40 := (Chg.of_fresh (S := fun b => own b ≠ none) hb13).trans hC4 (fun _ _ h => h) (fun b _ e => by rw [e, hH.out.ownm]; simp)
              exact PTurn.fst hE4 hC40 (.of (hP5H.out.fresh hb6) hE5H.out (hC5.trans (Chg.of_fresh hb6) (fun _ _ h => h) (fun _ _ h => h)))
            exact hfin.after (by rw [hgH.out]; exact hbH.out) (by rw [hgH.out]; exact Nat.le_refl _) hZ0l hozH.out ((Chg.refl (fun b => b = g) w6).setRow (fun _ => rfl) _)
        · rw [if_pos he3] at hu
          have huH := Lib.hid hu
          have hne3 : ((e3 : Int) != 0) = true := by simp; omega
          clear hu hfp he3
          go_wp2_with (first
            | (go_at_call 95; refine hcalll.mono ?_; rintro e w1 ⟨rfl, hb1⟩; have hP1 := hH.out.fresh hb1; have hZ1 := hZH.out.fresh hb1; have x2 := hP1.c2; have hlkd := hP1.lookI hnH.out (by omega); have k6 := (hP1.get hnH.out).c6; have hlN := (hP1.get hnH.out).lookN nm (by omega); rw [hgH2.out] at hlN; simp only [orV, Option.isSome_none] at hlN; have hcallf := pfree_any own lay p mb T w1 hP1 hTH.out; unfold natV at hcallf; have hP1H := Lib.hid hP1; clear hP1)
            | (go_at_call 96; rw [hfEH.out] at hcallf; refine hcallf.mono ?_; rintro e w' ⟨rfl, rfl⟩)
            | (go_at_call 97; refine (hcpH.out w1 hP1H.out).mono ?_; rintro e w2 ⟨rfl, hb2⟩; have hb12 := hb1.trans (hb2.mono hb1.size); have hZ2 := hZ1.fresh hb2; skip)
            | (refine wpList_store_row rfl 67 (.tmp 8) (.tmp 63) rfl g (ansC e3 st0 nilS nilS).toArray rfl (by rfl) 67 _ hZ2 rfl rfl (one10 _ _) ?_))
          have hrow := setRow_heap w2 g _ (ansC e3 st0 nilS nilS).toArray _ _ hZ2
          refine bodyPost_ret (results_cell_row rfl _ _ g 67 (ansC e3 st0 nilS nilS).toArray (0, 0) _ rfl hrow Tryz.underlying67 rfl rfl) rfl ⟨by rw [huH.out]; rfl, ?_⟩
          rw [huH.out]
          exact (PTurn.same hH.out hb12).after (by rw [hgH.out]; exact hbH.out) (by rw [hgH.out]; exact Nat.le_refl _) hZ0l hozH.out ((Chg.refl (fun b => b = g) w2).setRow (fun _ => rfl) _)
  · rw [if_pos he1] at hu
    have huH := Lib.hid hu
    have hne1 : ((e1 : Int) != 0) = true := by simp; omega
    clear hu hlin he1 hfs
    go_wp2_with (first
      | (go_at_call 95; refine hcalll.mono ?_; rintro e w1 ⟨rfl, hb1⟩; have hP1 := hH.out.fresh hb1; have hZ1 := hZH.out.fresh hb1; have x2 := hP1.c2; clear hP1)
      | (refine wpList_store_row rfl 67 (.tmp 8) (.tmp 27) rfl g (ansC e1 st0 nilS nilS).toArray rfl (by rfl) 67 _ hZ1 rfl rfl (one10 _ _) ?_))
    have hrow := setRow_heap w1 g _ (ansC e1 st0 nilS nilS).toArray _ _ hZ1
    refine bodyPost_ret (results_cell_row rfl _ _ g 67 (ansC e1 st0 nilS nilS).toArray (0, 0) _ rfl hrow Tryz.underlying67 rfl rfl) rfl ⟨by rw [huH.out]; rfl, ?_⟩
    rw [huH.out]
    exact (PTurn.same hH.out hb1).after (by rw [hgH.out]; exact hbH.out) (by rw [hgH.out]; exact Nat.le_refl _) hZ0l hozH.out ((Chg.refl (fun b => b = g) w1).setRow (fun _ => rfl) _)
#print axioms pmake_any
end Go.Proofs.YtolpcfhfcdkokaaGreatDoor
