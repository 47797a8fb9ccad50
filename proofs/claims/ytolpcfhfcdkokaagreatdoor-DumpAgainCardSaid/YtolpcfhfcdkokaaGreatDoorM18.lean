/- Joined out of the texts PList. -/
import Derived.Test.YtolpcfhfcdkokaaGreatDoorM07
import Derived.Test.YtolpcfhfcdkokaaGreatDoorM17
/-
  The tree in memory: list: a directory's entries, by rising names.
-/
namespace Go.Proofs.YtolpcfhfcdkokaaGreatDoor
open Go.RowKit Go.Proofs
open Go.Maps (Keyed)

/-- A directory's entries. -/
def PT.list (T : PT) (i : Nat) : Ans := if T.isDir i = true then ⟨0, st0, [], (T.node i).names.map fun p => (p.1, p.2, (T.node p.2).kind)⟩ else .err 113
/-- An answer in memory. -/
def AnsAt (w : World) (v : Value) (a : Ans) : Prop := ∃ dA dc eA ec, v = .agg (ansC a.code a.stat (.slice dA a.data.length dc) (.slice eA a.ents.length ec)).toArray ∧ Sees w w.heap.size 1 dA a.data.length (bvs a.data) ∧ Sees w w.heap.size 3 eA a.ents.length (a.ents.flatMap entC)
/-- The entries of an answer lie in new memory. -/
def EntF (B0 : Nat) (v : Value) : Prop := ∀ c s A1 n1 c1 b off n2 c2, v = .agg (ansC c s (.slice A1 n1 c1) (.slice (some ⟨b, off, none⟩) n2 c2)).toArray → 0 < n2 → B0 ≤ b
theorem EntF.mono {B0 B1 : Nat} {v : Value} (h : EntF B0 v) (hb : B1 ≤ B0) : EntF B1 v := fun c s A1 n1 c1 b off n2 c2 e hn => Nat.le_trans hb (h c s A1 n1 c1 b off n2 c2 e hn)
theorem entF_at {B0 : Nat} {c : Nat} {s : St} {A1 : Option Addr} {n1 c1 : Nat} {eA : Option Addr} {n2 c2 : Nat} (h : ∀ b off, eA = some ⟨b, off, none⟩ → 0 < n2 → B0 ≤ b) : EntF B0 (.agg (ansC c s (.slice A1 n1 c1) (.slice eA n2 c2)).toArray) := fun c' s' A1' n1' c1' b off n2' c2' e hn => by
  simp only [ansC, Value.agg.injEq, Array.mk.injEq, List.cons.injEq, Value.slice.injEq] at e
  obtain ⟨-, -, -, -, -, -, -, -, ⟨h1, h2, h3⟩, -⟩ := e
  subst h2
  exact h b off h1 hn
theorem entF_0 {B0 : Nat} {w : World} {v : Value} {a : Ans} (h : AnsAt w v a) (h0 : a.ents = []) : EntF B0 v := by
  obtain ⟨dA, dc, eA, ec, rfl, _, _⟩ := h
  exact entF_at fun b off _ hn => by rw [h0] at hn; exact absurd hn (by simp)
theorem ansAt_plain (w : World) (a : Ans) (h1 : a.data = []) (h2 : a.ents = []) : AnsAt w (ansV a) a := by
  refine ⟨none, 0, none, 0, ?_, ?_, ?_⟩
  · unfold ansV; rw [h1, h2]; rfl
  · rw [h1]; exact Sees.nil
  · rw [h2]; exact Sees.nil
theorem one10s (c : Nat) (s : St) (A1 : Option Addr) (n1 c1 : Nat) (A2 : Option Addr) (n2 c2 : Nat) : (ansC c s (.slice A1 n1 c1) (.slice A2 n2 c2)).toArray.all (·.oneCell') = true := by
  rw [Array.all_eq_true_iff_forall_mem]
  intro v hv
  have hv : v ∈ ansC c s (.slice A1 n1 c1) (.slice A2 n2 c2) := by simpa using hv
  simp only [ansC, List.mem_cons, List.not_mem_nil, or_false] at hv
  rcases hv with rfl | rfl | rfl | rfl | rfl | rfl | rfl | rfl | rfl | rfl <;> rfl
theorem infoEnt : (Tryz.prog.info? 130).map (·.size) = some 3 := by kernel_rfl
theorem zEnt : ((Tryz.prog.info? 130).bind (·.zero)).map (·.cells.size) = some 3 := by kernel_rfl
theorem infoEntZ : (Tryz.prog.info? 130).map (fun i => (i.zero, i.size, i.bytes)) = some (some (.agg #[.string ⟨#[]⟩, .int .i64 0, .int .i64 0]), 3, 32) := by kernel_rfl
/-- Entries have been collected: of these names. -/
structure Coll (T : PT) (n : PN) (l : List Ent) (todo : ByteArray → Bool) : Prop where
  mem : ∀ x, x ∈ l.map (·.1) ↔ (getS x n.names).isSome = true ∧ todo x = false
  nd : (l.map (·.1)).Nodup
  ent : ∀ e ∈ l, getS e.1 n.names = some e.2.1 ∧ e.2.2 = (T.node e.2.1).kind
theorem Coll.len {T : PT} {n : PN} {l : List Ent} {todo : ByteArray → Bool} (h : Coll T n l todo) : l.length ≤ n.names.length := by
  have e1 : (l.map (·.1)).length = l.length := List.length_map _
  have e2 : (n.names.map (·.1)).length = n.names.length := List.length_map _
  rw [← e1, ← e2]
  exact length_le_of_subset h.nd fun x hx => mem_keys.2 ((h.mem x).1 hx).1
theorem Coll.snoc {T : PT} {n : PN} {l : List Ent} {todo : ByteArray → Bool} (h : Coll T n l todo) {x : ByteArray} {j : Nat} (hx : todo x = true) (hj : getS x n.names = some j) :
    Coll T n (l ++ [(x, j, (T.node j).kind)]) (fun y => todo y && decide (y ≠ x)) := by
  refine ⟨fun y => ?_, ?_, fun e he => ?_⟩
  · rw [List.map_append, List.mem_append, h.mem]
    simp only [List.map_cons, List.map_nil, List.mem_singleton]
    by_cases e : y = x
    · subst e; rw [hj]; simp
    · simp [e]
  · rw [List.map_append, List.nodup_append]
    refine ⟨h.nd, by simp, fun a ha b hb => ?_⟩
    simp only [List.map_cons, List.map_nil, List.mem_singleton] at hb
    subst hb
    rintro rfl
    have := ((h.mem a).1 ha).2
    rw [hx] at this; cases this
  · rcases List.mem_append.1 he with he | he
    · exact h.ent e he
    · rw [List.mem_singleton] at he
      subst he
      exact ⟨hj, rfl⟩
/-- All have been collected and sorted. -/
theorem Coll.sorted {T : PT} {n : PN} (hr : RisS strK n.names) {l l' : List Ent} {todo : ByteArray → Bool} (h : Coll T n l todo) (h0 : ∀ x, todo x = false) (hp : l'.Perm l) (hs : l'.Pairwise fun x y => strK.lt y.1 x.1 = false) :
    l' = n.names.map fun p => (p.1, p.2, (T.node p.2).kind) := by
  have hnd : (l'.map (·.1)).Nodup := (hp.map (·.1)).symm.nodup h.nd
  have hris : RisS strK l' := by
    unfold RisS
    rw [List.Nodup, List.pairwise_map] at hnd
    refine (hs.and hnd).imp fun {a b} hab => ?_
    rcases strK_tot a.1 b.1 hab.2 with h' | h'
    · exact h'
    · rw [hab.1] at h'; cases h'
  have hris2 : RisS strK (n.names.map fun p => (p.1, p.2, (T.node p.2).kind)) := by
    unfold RisS at hr ⊢
    rw [List.pairwise_map]
    exact hr
  refine RisS.ext strK hris hris2 fun x => ?_
  have e2 : getS x (n.names.map fun p => (p.1, p.2, (T.node p.2).kind)) = (getS x n.names).map fun j => (j, (T.node j).kind) := getS_map (fun _ (j : Nat) => (j, (T.node j).kind)) x n.names
  rw [e2]
  cases hg : getS x n.names with
  | none =>
    refine getS_none.2 fun p hpm e => ?_
    have := (h.ent p (hp.mem_iff.1 hpm)).1
    rw [e, hg] at this; cases this
  | some j =>
    have hx : x ∈ l.map (·.1) := (h.mem x).2 ⟨by rw [hg]; rfl, h0 x⟩
    obtain ⟨e, he, rfl⟩ := List.mem_map.1 hx
    have h1 := h.ent e he
    rw [hg] at h1
    have h2 := getS_of_mem hris.nd (hp.mem_iff.2 he)
    rw [h2]
    have h3 := Option.some.inj h1.1
    simp only [Option.map_some]
    rw [h3, ← h1.2]
set_option maxHeartbeats 3200000 in
set_option maxRecDepth 100000 in
theorem plist_any (own : Nat → Option Role) (lay : Nat → NA) (p mb i : Nat) (T : PT) (n : PN) (w : World) (h : PlainAt w own lay p mb T) (hT : T.Wf) (hg : getS i T.nodes = some n) :
    Calls Tryz.prog 105 #[.pointer (some ⟨p, 0, none⟩), .int .i64 (i : Int)] w fun e w' => (∃ v, e = .returned v ∧ AnsAt w' v (T.list i) ∧ EntF w.heap.size v) ∧ Below w.heap.size w w' := by
  have hb0 : Below w.heap.size w (w.alloc (.cells zAns.toArray 67)) := (Below.refl _ _).alloc (Nat.le_refl _) _
  have hP0 := h.fresh hb0
  have hZ0 := Blk.new w 67 zAns
  have hok := hT.ok.get hg
  have hio := hT.ok.ino
  have hu : T.list i = if n.dir = true then ⟨0, st0, [], n.names.map fun p => (p.1, p.2, (T.node p.2).kind)⟩ else .err 113 := by unfold PT.list; rw [isDir_of hg, node_of hg]
  have hTH := Lib.hid hT
  have hgH := Lib.hid hg
  have hokH := Lib.hid hok.1
  have hi512 : i ≤ 512 := by omega
  have hnl := Nat.le_trans hok.1.nlen hok.1.slots
  clear hT h hok
  go_enter Tryz.func105, Tryz.ntmps105
  go_upto_region 1 with (fail)
  replace hZ0 : Blk (w.alloc (.cells zAns.toArray 67)) w.heap.size 67 zAns := hZ0
  have hsz0 : (w.alloc (.cells zAns.toArray 67)).heap.size = w.heap.size + 1 := by simp
  generalize w.alloc (.cells zAns.toArray 67) = w0 at *
  generalize hgg : w.heap.size = g at *
  have hggH := Lib.hid hgg
  have c2 := hP0.c2
  have hlk := hP0.lookI hg (by omega)
  have k0 := (hP0.get hg).c0
  have hbH := Lib.hid hb0
  have hPH := Lib.hid hP0
  clear hgg hg hb0
  cases hd : n.dir with
  | false =>
    rw [hd, if_neg (by simp)] at hu
    rw [kind_file hd] at k0
    have huH := Lib.hid hu
    clear hu hd hP0
    go_wp2_with (first | (refine wpList_store_row rfl 67 (.tmp 4) (.tmp 20) rfl g (ansC 113 st0 nilS nilS).toArray rfl (by rfl) 67 _ hZ0 rfl rfl (one10 _ _) ?_))
    have hrow := setRow_heap w0 g _ (ansC 113 st0 nilS nilS).toArray _ _ hZ0
    refine bodyPost_ret (results_cell_row rfl _ _ g 67 (ansC 113 st0 nilS nilS).toArray (0, 0) _ rfl hrow Tryz.underlying67 rfl rfl) rfl ⟨⟨_, rfl, ?_, entF_at fun _ _ e _ => by cases e⟩, ?_⟩
    · rw [huH.out]; exact ansAt_plain _ (.err 113) rfl rfl
    · rw [hggH.out]
      exact hbH.out.trans (((Chg.refl (fun b => b = g) w0).setRow (fun _ => rfl) _).below (by omega) fun b hb e => by omega)
  | true =>
    rw [hd, if_pos rfl] at hu
    rw [kind_dir hd] at k0
    obtain ⟨nb, hnb⟩ := (hP0.get hgH.out).dirs hd
    have k6 := (hP0.get hgH.out).c6
    have hm := (hP0.get hgH.out).names
    rw [hnb] at k6 hm
    have hmap : MapAt w0 strK natV 9 nb n.names := hm
    have huH := Lib.hid hu
    obtain ⟨iE, hiE, hzE0, hzE1, hzE2⟩ := info_parts infoEntZ
    clear hu hd hP0 hm hnb
    go_wp2_with (first
      | (at_range; refine wpList_mrange _ rfl _ 101 rfl kStr Tryz.underlying101 hmap rfl ?_; intro w1 hr1 hb1 hs1))
    go_frame
    rw [hsz0] at hb1 hr1 hs1
    simp only [hsz0]
    have hnbl := hmap.lt
    rw [hsz0] at hnbl
    clear hmap
    go_loopw [6, 7, 8] (fun v _ _ wr => ∃ (l : List Ent) (todo : ByteArray → Bool), RangeAt wr strK natV 9 nb (g + 1) n.names.length n.names todo ∧ Below (g + 1) w0 wr ∧ wr.ownsRow (g + 2) 130 3 v l.length (l.flatMap entC) ∧ Hid (Coll T n l todo) ∧ Hid (l = [] → v = nilS)) (fun _ _ _ wr => wr.rangeLeft nb (g + 1))
    case atStart => exact ⟨[], _, hr1, hb1, World.ownsRow_nil _ _ _ _, ⟨fun x => by cases getS x n.names <;> simp, List.nodup_nil, fun e he => by cases he⟩, fun _ => rfl⟩
    case round =>
      obtain ⟨l, todo, hr, hb, ho, hc, hnil⟩ := hrel
      clear hr1 hb1 hs1
      go_wp2_with (first
        | (at_next; refine wpList_mnext _ rfl _ rfl kStr invS rfl hr ?_ ?_))
      · intro h0
        have h0H := Lib.hid h0
        have hbH2 := Lib.hid hb
        have hoH := Lib.hid ho
        have hZ1 := hZ0.chg (Chg.of_below hb) (by omega)
        have hll := hc.out.len
        clear h0 hb hr ho
        cases l with
        | nil =>
          have hv := hnil.out rfl
          subst hv
          have hent : n.names.map (fun p => (p.1, p.2, (T.node p.2).kind)) = [] := (hc.out.sorted (l' := []) hokH.out.nris h0H.out (List.Perm.refl _) List.Pairwise.nil).symm
          have hso := sort_none 0 wr
          have hoz := Lib.hid hent
          clear hent hll
          go_wp2_with (first
            | (go_at_call 130; refine hso.mono ?_; rintro e w' ⟨rfl, hw⟩; subst hw)
            | (refine wpList_store_row rfl 67 (.tmp 4) (.tmp 49) rfl g (ansC 0 st0 nilS nilS).toArray rfl (by rfl) 67 _ hZ1 rfl rfl (one10 _ _) ?_))
          have hrow := setRow_heap w' g _ (ansC 0 st0 nilS nilS).toArray _ _ hZ1
          refine bodyPost_ret (results_cell_row rfl _ _ g 67 (ansC 0 st0 nilS nilS).toArray (0, 0) _ rfl hrow Tryz.underlying67 rfl rfl) rfl ⟨⟨_, rfl, ?_, entF_at fun _ _ e _ => by cases e⟩, ?_⟩
          · rw [huH.out, hoz.out]; exact ansAt_plain _ ⟨0, st0, [], []⟩ rfl rfl
          · rw [hggH.out]
            exact (hbH.out.trans (hbH2.out.mono (by omega))).trans (((Chg.refl (fun b => b = g) w').setRow (fun _ => rfl) _).below (by have := hbH2.out.size; omega) fun b hb e => by omega)
        | cons e0 l0 =>
          obtain ⟨g1, c1, rfl, hnc1, hgl1⟩ := own_some hoH.out (by simp)
          have hg1b := (World.ownsRow.lt hoH.out g1 rfl).1
          have hso := sort_any (g + 2) g1 c1 (e0 :: l0) wr hoH.out (by omega)
          have hnl3 : (e0 :: l0).length ≤ 1068 := by omega
          have hcH := Lib.hid hc.out
          clear hc hnil hoH hll
          generalize hlE : e0 :: l0 = l at *
          clear hlE
          obtain ⟨nl, hnlE⟩ : ∃ nl, l.length = nl := ⟨_, rfl⟩
          have hnlH := Lib.hid hnlE
          rw [hnlE] at hso hnl3 hnc1 ⊢
          clear hnlE
          go_wp2_with (first
            | (go_at_call 130; refine hso.mono ?_; rintro e w3 ⟨rfl, hsrt⟩; obtain ⟨l', hp, hs, hsee, hC3⟩ := hsrt; have hZ3 := hZ1.chg hC3 (by omega); have hl'E := Lib.hid (hcH.out.sorted hokH.out.nris h0H.out hp hs); have hC3H := Lib.hid hC3; have hseeH := Lib.hid hsee; clear hp hs hsee hC3)
            | (refine wpList_store_row rfl 67 (.tmp 4) (.tmp 49) rfl g (ansC 0 st0 nilS (.slice (some ⟨g1, 0, none⟩) nl c1)).toArray rfl (by rfl) 67 _ hZ3 rfl rfl (one10s 0 st0 none 0 0 _ _ _) ?_))
          have hrow := setRow_heap w3 g _ (ansC 0 st0 nilS (.slice (some ⟨g1, 0, none⟩) nl c1)).toArray _ _ hZ3
          have hCz : Chg (fun b => b = g) w3 (w3.setRow g (ansC 0 st0 nilS (.slice (some ⟨g1, 0, none⟩) nl c1)).toArray) := (Chg.refl (fun b => b = g) w3).setRow (fun _ => rfl) _
          refine bodyPost_ret (results_cell_row rfl _ _ g 67 (ansC 0 st0 nilS (.slice (some ⟨g1, 0, none⟩) nl c1)).toArray (0, 0) _ rfl hrow Tryz.underlying67 rfl rfl) rfl ⟨⟨_, rfl, ?_, entF_at fun b off e _ => by have e1 := Option.some.inj e; injection e1 with e1 _; have := hggH.out; omega⟩, ?_⟩
          · rw [huH.out]
            have hle : nl = (n.names.map (fun p => (p.1, p.2, (T.node p.2).kind))).length := by
              rw [← hl'E.out]
              have := hseeH.out.len
              rw [flat_len entC 3 _ (fun _ _ => rfl)] at this
              omega
            refine ⟨none, 0, some ⟨g1, 0, none⟩, c1, by rw [hle]; rfl, Sees.nil, ?_⟩
            show Sees _ _ 3 _ (n.names.map (fun p => (p.1, p.2, (T.node p.2).kind))).length ((n.names.map (fun p => (p.1, p.2, (T.node p.2).kind))).flatMap entC)
            rw [← hl'E.out] at hle ⊢
            rw [← hle]
            have hse := hseeH.out
            refine ⟨hse.len, fun hn => ?_⟩
            obtain ⟨b, off, e, hb, hcl⟩ := hse.at_ hn
            obtain ⟨rfl, rfl⟩ : g1 = b ∧ 0 = off := by
              have e := Option.some.inj e
              injection e with e1 e2
              exact ⟨e1, e2⟩
            exact ⟨g1, 0, rfl, by have := hCz.size; omega, fun j u hu => (hCz.cell (p := ⟨g1, 0 + j, none⟩) hb (by show ¬ g1 = g; omega)).trans (hcl j u hu)⟩
          · rw [hggH.out]
            exact ((hbH.out.trans (hbH2.out.mono (by omega))).trans (hC3H.out.below (by have := hbH2.out.size; omega) fun b hb e => by omega)).trans (hCz.below (by have := hbH2.out.size; have := hC3H.out.size; omega) fun b hb e => by omega)
      · intro nm k w2 hk1 hk2 hr2 hlt hch hsz hen hkey
        obtain ⟨nk, hnk⟩ := hTH.out.ents i n nm k hgH.out hk2
        have hokk := hTH.out.ok.get hnk
        have hk512 : k ≤ 512 := by omega
        have hb2 := hb.trans (hch.below (show g + 1 ≤ wr.heap.size by have := hr.lt; omega) fun b hb h => by omega)
        have hP2 := hPH.out.fresh (by rw [hsz0]; exact hb2)
        have d2 := hP2.c2
        have hlkk := hP2.lookI hnk (by omega)
        have kk0 := (hP2.get hnk).c0
        have hkind : nk.kind = (T.node k).kind := by rw [node_of hnk]
        have ho2 := own_chg ho hch (fun g' e h => by have := (World.ownsRow.lt ho g' e).1; omega)
        have hll := hc.out.len
        have hr2H := Lib.hid hr2
        have hc2H := Lib.hid (hc.out.snoc hk1 hk2)
        have hltH := Lib.hid hlt
        have hb2H := Lib.hid hb2
        have hrsz := hr.lt
        rw [hkind] at kk0
        have hnmS : True := trivial
        clear hk1 hk2 hr2 hlt hr hb2 hP2 hnk hokk hkind hc hnil ho hb
        have hen2 : (Instr.entry (.pointer (some ⟨g + 1, 0, none⟩))).run Tryz.prog w2 = .ok (.tuple #[.string nm, .int .i64 (k : Int)]) w2 := hen
        clear hen
        obtain ⟨kd, hkd⟩ : ∃ kd, (T.node k).kind = kd := ⟨_, rfl⟩
        rw [hkd] at kk0
        have hkdH := Lib.hid hkd
        clear hkd
        go_wp2_with (first
          | (refine wpList_build1 rfl 65 130 (.tmp 43) rfl (entC (nm, k, kd)).toArray (by rfl) 3 Tryz.underlying65 infoEnt zEnt rfl (by omega) (by omega) ?_)
          | (at_builtin; refine wpList_app _ rfl (.tmp 31) (.tmp 44) _ _ rfl (g + 2) 130 iE (.agg #[.string ⟨#[]⟩, .int .i64 0, .int .i64 0]) 3 32 Tryz.underlying65 hiE hzE0 hzE1 hzE2 rfl u6 l.length (l.flatMap entC) rfl (ho2.alloc _) 1 (entC (nm, k, kd)) (src_row (P := Tryz.prog) Tryz.underlying65 (Blk.new w2 130 (entC (nm, k, kd))) (entC_one _)) (by unfold maxLen; omega) (by omega) (by simp; omega) ?_; intro v1 w3 ho3 hg3 hat3))
        have hC3 : Chg (fun b => g + 2 ≤ b) w2 w3 := ((Chg.refl (fun b => g + 2 ≤ b) w2).alloc _).grown hg3 (fun g' e _ => (World.ownsRow.lt ho2 g' e).1)
        have hr3 := hr2H.out.chg hC3 (by omega) (by omega)
        have hlt3 := rangeLeft_chg (b := nb) (r := g + 1) hC3 hr2H.out.owns.lt hr2H.out.lt (by omega) (by omega)
        have hlt4 := Lib.hid (show w3.rangeLeft nb (g + 1) < wr.rangeLeft nb (g + 1) by rw [hlt3]; exact hltH.out)
        clear hlt3
        go_roundw
        case rel =>
          refine ⟨l ++ [(nm, k, kd)], _, hr3, hb2H.out.trans (hC3.below (by have := hr2H.out.lt; omega) fun b hb h => by omega), ?_, ?_, ?_⟩
          · rw [List.length_append, List.flatMap_append]
            simpa using ho3
          · rw [← hkdH.out]; have h2 := hc2H.out; simp only [ne_eq, decide_not] at h2; exact h2
          · intro e; simp at e
        case measure => exact hlt4.out
#print axioms plist_any
end Go.Proofs.YtolpcfhfcdkokaaGreatDoor
