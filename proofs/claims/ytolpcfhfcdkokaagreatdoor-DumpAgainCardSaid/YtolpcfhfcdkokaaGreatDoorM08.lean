/- Joined out of the texts PUsed. -/
import Derived.Test.YtolpcfhfcdkokaaGreatDoorM07
/-
  The tree in memory: used, Room, room: how many sectors there are.
-/
namespace Go.Proofs.YtolpcfhfcdkokaaGreatDoor
open Go.RowKit
open Go.Maps (Keyed)

section
variable {w w' : World} {a : NA} {n : PN} {own : Nat → Option Role} {lay : Nat → NA} {p mb i : Nat} {T : PT}
theorem PnAt.form (h : PnAt w a n) : ∃ A c, a.s = .slice A n.slots.length c := by
  obtain ⟨A, c, e, _⟩ := Sees.of_own (B := w.heap.size) h.slots fun g hg => (World.ownsRow.lt h.slots g hg).2
  exact ⟨A, c, e⟩
theorem cnt_node (h : PnAt w a n) (ho : n.Ok) :
    Calls Tryz.prog 57 #[ptrV a.nb] w fun e w' => e = .returned (.int .i64 ((n.count : Nat) : Int)) ∧ Below w.heap.size w w' := by
  obtain ⟨A, c, hs⟩ := h.form
  have c4 : w.cell? ⟨a.nb, 4, none⟩ = some (.map a.d) := h.blk.cell 4
  have c5 : w.cell? ⟨a.nb, 5, none⟩ = some a.s := h.blk.cell 5
  rw [hs] at c5
  have hm := h.data
  cases hd : a.d with
  | none =>
    rw [hd] at c4 hm
    have hdn : n.data = [] := hm
    have := pcount_nil a.nb A n.slots.length c w c4 c5 ho.slots
    unfold PN.count PN.keys
    rw [hdn]
    exact this
  | some db =>
    rw [hd] at c4 hm
    exact pcount_any a.nb db n.data A n.slots.length c w ⟨c4, c5, hm⟩ ho.keys ho.dlen ho.slots
theorem PlainAt.get (h : PlainAt w own lay p mb T) (hg : getS i T.nodes = some n) : PnAt w (lay i) n := h.node _ (mem_of_getS hg)
theorem PlainAt.look (i : Nat) : getS i (T.nodes.map fun x => (x.1, (lay x.1).nb)) = (getS i T.nodes).map fun _ => (lay i).nb := getS_map (fun a _ => (lay a).nb) i T.nodes
theorem PlainAt.c0 (h : PlainAt w own lay p mb T) : w.cell? ⟨p, 0, none⟩ = some (.int .i64 (T.sectors : Int)) := h.top.cell 0
theorem PlainAt.c1 (h : PlainAt w own lay p mb T) : w.cell? ⟨p, 1, none⟩ = some (.int .i64 (T.inodes : Int)) := h.top.cell 1
theorem PlainAt.c2 (h : PlainAt w own lay p mb T) : w.cell? ⟨p, 2, none⟩ = some (.map (some mb)) := h.top.cell 2
end
set_option maxHeartbeats 1600000 in
set_option maxRecDepth 100000 in
theorem pused_any (own : Nat → Option Role) (lay : Nat → NA) (p mb : Nat) (T : PT) (w : World) (h : PlainAt w own lay p mb T) (hT : T.Ok) :
    Calls Tryz.prog 35 #[.pointer (some ⟨p, 0, none⟩)] w fun e w' => e = .returned (.int .i64 ((T.used : Nat) : Int)) ∧ Below w.heap.size w w' := by
  have c2 := h.c2
  have hnd := h.nodes
  go_enter Tryz.func35, Tryz.ntmps35
  generalize hg : w.heap.size = g at *
  have hgH := Lib.hid hg
  have hH := Lib.hid h
  clear hg h
  go_wp2_with (first
    | (at_range; refine wpList_mrange _ rfl _ 96 rfl kInt Tryz.underlying96 hnd rfl ?_; intro w1 hr1 hb1 hs1))
  go_frame
  rw [hgH.out] at hb1 hr1
  simp only [hgH.out]
  have hTH := Lib.hid hT
  clear hnd hs1 hT
  go_loopw [3, 5] (fun all _ wr => ∃ (ks : List Nat) (todo : Nat → Bool), RangeAt wr natK ptrV 3 mb g T.nodes.length (T.nodes.map fun x => (x.1, (lay x.1).nb)) todo ∧ Below g w wr ∧ all = .int .i64 (((ks.map T.countAt).sum : Nat) : Int) ∧ Hid (∀ k, k ∈ ks ↔ (getS k T.nodes).isSome = true ∧ todo k = false) ∧ Hid ks.Nodup) (fun _ _ wr => wr.rangeLeft mb g)
  case atStart => exact ⟨[], _, (by have := hr1; rw [List.length_map] at this; exact this), hb1, rfl, fun k => by rw [PlainAt.look]; cases getS k T.nodes <;> simp, List.nodup_nil⟩
  case round =>
    obtain ⟨ks, todo, hr, hb, rfl, hks, hn⟩ := hrel
    go_wp2_with (first
      | (at_next; refine wpList_mnext _ rfl _ rfl kInt invN rfl hr ?_ ?_))
    · intro h0
      have h0H := Lib.hid h0
      clear h0
      have hbH := Lib.hid hb
      clear hb hr
      go_wp2
      go_ret
      refine ⟨?_, hbH.out⟩
      rw [← PT.used_of hTH.out.ris hn.out fun k => by rw [hks.out, h0H.out]; simp]
      rfl
    · intro k s w2 hk1 hk2 hr2 hlt hch hsz hen hkey
      rw [PlainAt.look] at hk2
      obtain ⟨nd, hnd, hs⟩ : ∃ nd, getS k T.nodes = some nd ∧ s = (lay k).nb := by
        cases hg : getS k T.nodes with
        | none => rw [hg] at hk2; cases hk2
        | some nd => rw [hg] at hk2; exact ⟨nd, rfl, (Option.some.inj hk2).symm⟩
      clear hk2
      subst hs
      have hb2 := hb.trans (hch.below (show g ≤ wr.heap.size by have := hb.size; rw [hgH.out] at this; exact this) fun b hb h => by omega)
      have hP2 := hH.out.fresh (by rw [hgH.out]; exact hb2)
      have hpn := hP2.get hnd
      have hok := (hTH.out.node _ (mem_of_getS hnd)).1
      have hcle := hok.count
      have hcat : T.countAt k = nd.count := by unfold PT.countAt; rw [hnd]
      have hule := hTH.out.used
      have hsum : (ks.map T.countAt).sum ≤ 1126400 := by
        have hle : ks.length ≤ 512 := by
          refine Nat.le_trans (length_le_of_subset hn.out (l2 := T.nodes.map (·.1)) fun a ha => mem_keys.2 ((hks.out a).1 ha).1) ?_
          rw [List.length_map]; exact hTH.out.len
        have := sum_le (l := ks.map T.countAt) (k := 2200) fun x hx => by
          obtain ⟨i, hi, rfl⟩ := List.mem_map.1 hx
          have := ((hks.out i).1 hi).1
          cases hg : getS i T.nodes with
          | none => rw [hg] at this; cases this
          | some u => unfold PT.countAt; rw [hg]; exact ((hTH.out.node _ (mem_of_getS hg)).1).count
        rw [List.length_map] at this
        omega
      have hcatH := Lib.hid hcat
      have hndH := Lib.hid hnd
      have hk1H := Lib.hid hk1
      have hr2H := Lib.hid hr2
      have hltH := Lib.hid hlt
      clear hcat hnd hk1 hr2 hlt hr hsz
      generalize hsm : (ks.map T.countAt).sum = sm at *
      have hsmH := Lib.hid hsm
      clear hsm
      go_wp2_with (first
        | (go_at_call 57; refine (cnt_node hpn hok).mono ?_; rintro e w3 ⟨rfl, hb3⟩))
      have hr3 := hr2H.out.chg (Chg.of_fresh (S := fun _ => False) hb3) id id
      have hlt3 := rangeLeft_chg (b := mb) (r := g) (Chg.of_fresh (S := fun _ => False) hb3) hr2H.out.owns.lt hr2H.out.lt id id
      have hlt4 := Lib.hid (show w3.rangeLeft mb g < wr.rangeLeft mb g by rw [hlt3]; exact hltH.out)
      clear hlt3
      go_roundw
      case rel =>
        refine ⟨ks ++ [k], _, hr3, hb2.trans (hb3.mono (Nat.le_of_lt hr2H.out.lt)), ?_, fun x => ?_, ?_⟩
        · rw [List.map_append, List.sum_append_nat, hsmH.out]
          simp only [List.map_cons, List.map_nil, List.sum_cons, List.sum_nil, hcatH.out]
          go_num
        · rw [List.mem_append, hks.out, List.mem_singleton]
          by_cases e : x = k
          · subst e; rw [hndH.out]; simp
          · simp [e]
        · rw [Hid, List.nodup_append]
          refine ⟨hn.out, by simp, fun a ha b hb => ?_⟩
          rw [List.mem_singleton] at hb
          subst hb
          rintro rfl
          have := ((hks.out a).1 ha).2
          rw [hk1H.out] at this
          cases this
      case measure => exact hlt4.out
#print axioms pused_any
theorem below_drew' {w w' : World} (h : Below w.drew.heap.size w.drew w') : Below w.heap.size w w' := (below_drewN' (Below.refl _ w) 1).trans h
def roomV (T : PT) : Value := .agg #[.int .i64 ((T.sectors : Int) - 1 - T.inodes - T.used), .int .i64 0, .int .i64 ((T.inodes : Int) - T.nodes.length)]
theorem PlainAt.len {w : World} {own : Nat → Option Role} {lay : Nat → NA} {p mb : Nat} {T : PT} (h : PlainAt w own lay p mb T) (ty : TypeId) : (Builtin.len_ #[96] ty #[.map (some mb)]).run Tryz.prog w = .ok (.int .i64 (T.nodes.length : Nat)) w := by
  have := h.nodes.len Tryz.underlying96 ty
  rw [List.length_map] at this
  exact this
set_option maxHeartbeats 1600000 in
set_option maxRecDepth 100000 in
theorem proom_any (own : Nat → Option Role) (lay : Nat → NA) (p mb : Nat) (T : PT) (w : World) (h : PlainAt w own lay p mb T) (hT : T.Ok) :
    Calls Tryz.prog 14 #[.pointer (some ⟨p, 0, none⟩)] w fun e w' => e = .returned (roomV T) ∧ Below w.heap.size w w' := by
  have hb0 : Below w.heap.size w (w.alloc (.cells #[.int .i64 0, .int .i64 0, .int .i64 0] 40)) := (Below.refl _ _).alloc (Nat.le_refl _) _
  have hP0 := h.fresh hb0
  have hpw := Lib.hid h.c0
  have hogH := Lib.hid (show ∀ b, b = w.heap.size → own b = none from fun b e => h.free (by omega))
  have hR0 := Blk.new w 40 [.int .i64 0, .int .i64 0, .int .i64 0]
  have hule := hT.used
  have hnle := hT.len
  have h1 := hT.ino
  have h2 := hT.sec
  have h3 := hT.s8
  go_enter Tryz.func14, Tryz.ntmps14
  go_upto_region 1 with (fail)
  replace hR0 : Blk (w.alloc (.cells #[.int .i64 0, .int .i64 0, .int .i64 0] 40)) w.heap.size 40 [.int .i64 0, .int .i64 0, .int .i64 0] := hR0
  generalize w.alloc (.cells #[.int .i64 0, .int .i64 0, .int .i64 0] 40) = w0 at *
  generalize hg : w.heap.size = g at *
  have hgH := Lib.hid hg
  clear hg
  have c0 := hP0.c0
  have c1 := hP0.c1
  have c2 := hP0.c2
  have hPd : PlainAt w0.drew own lay p mb T := hP0.drew
  have cl := hPd.len
  have hPdH := Lib.hid hPd
  have hnlT : T.nodes.length = T.nodes.length := rfl
  have hPH := Lib.hid hP0
  have hRH := Lib.hid hR0
  have hbH := Lib.hid hb0
  have hTH := Lib.hid hT
  have hgz := hR0.lt
  clear hP0 hR0 hb0 h hT hPd hnlT
  have hpg : p ≠ g := by have := World.block_lt_of_cell? _ _ hpw.out; have e := hgH.out; simp only at this; omega
  obtain ⟨us, hus⟩ : ∃ us, us = T.used := ⟨_, rfl⟩
  obtain ⟨nl, hnl⟩ : ∃ nl, nl = T.nodes.length := ⟨_, rfl⟩
  obtain ⟨se, hse⟩ : ∃ se, se = T.sectors := ⟨_, rfl⟩
  obtain ⟨io, hio⟩ : ∃ io, io = T.inodes := ⟨_, rfl⟩
  rw [← hnl] at cl hnle
  rw [← hse] at c0 h2 h3
  rw [← hio] at c1 h1
  rw [← hus] at hule
  have husH := Lib.hid hus
  have hallH := Lib.hid (And.intro hnl (And.intro hse hio))
  clear hus hnl hse hio
  have e1 : IntKind.i64.wrap ((se : Int) - 1) = (se : Int) - 1 := IntWalk.i64_in _ (by omega)
  have e2 : IntKind.i64.wrap ((se : Int) - 1 - io) = (se : Int) - 1 - io := IntWalk.i64_in _ (by omega)
  have e3 : IntKind.i64.wrap ((se : Int) - 1 - io - us) = (se : Int) - 1 - io - us := IntWalk.i64_in _ (by omega)
  have e4 : IntKind.i64.wrap ((io : Int) - nl) = (io : Int) - nl := IntWalk.i64_in _ (by omega)
  go_region_held3 (fun w' => w'.cell? ⟨p, 0, none⟩ = some (.int .i64 (se : Int)) ∧ w'.cell? ⟨p, 1, none⟩ = some (.int .i64 (io : Int)) ∧ w'.cell? ⟨p, 2, none⟩ = some (.map (some mb)) ∧ ∀ ty, (Builtin.len_ #[96] ty #[.map (some mb)]).run Tryz.prog w' = .ok (.int .i64 (nl : Nat)) w')
    (first | go_keep)
    (first
      | (go_at_call 35; refine (pused_any own lay p mb T w0.drew hPdH.out hTH.out).mono ?_; rintro e w1 ⟨rfl, hb1⟩; have hP1 := hPdH.out.fresh hb1; have d0 := hP1.c0; have d1 := hP1.c1; have d2 := hP1.c2; have dl := hP1.len; have hR1 := hRH.out.fresh (below_drew' hb1); have f0 := hR1.frozen 0; have f1 := hR1.frozen 1; have f2 := hR1.frozen 2; have q0 := hR1.cell 0; have q1 := hR1.cell 1; have q2 := hR1.cell 2; rw [← hallH.out.1] at dl; rw [← hallH.out.2.1] at d0; rw [← hallH.out.2.2] at d1; rw [← husH.out]; have hP3 := hP1.chg (((((Chg.refl (fun b => b = g) w1).setCell (p := ⟨g, 0, none⟩) (fun _ => rfl) (.int .i64 ((se : Int) - 1 - io - us))).setCell (p := ⟨g, 1, none⟩) (fun _ => rfl) (.int .i64 0)).setCell (p := ⟨g, 2, none⟩) (fun _ => rfl) (.int .i64 ((io : Int) - nl)))) hogH.out; have dl3 := hP3.len; rw [← hallH.out.1] at dl3; have g0 := hP3.c0; have g1 := hP3.c1; have g2 := hP3.c2; rw [← hallH.out.2.1] at g0; rw [← hallH.out.2.2] at g1; clear hP3 hP1))
  have hrow := ((hR1.set_ 0 (.int .i64 ((se : Int) - 1 - io - us))).set_ 1 (.int .i64 0)).set_ 2 (.int .i64 ((io : Int) - nl))
  have hbl := ((((hbH.out.trans (below_drew' hb1 |>.mono (Nat.le_of_lt hgz))).setCell (p := ⟨g, 0, none⟩) (Nat.le_refl _) (.int .i64 ((se : Int) - 1 - io - us))).setCell (p := ⟨g, 1, none⟩) (Nat.le_refl _) (.int .i64 0)).setCell (p := ⟨g, 2, none⟩) (Nat.le_refl _) (.int .i64 ((io : Int) - nl)))
  go_wp2
  refine bodyPost_ret (results_cell_row rfl _ _ g 40 (#[.int .i64 ((se : Int) - 1 - io - us), .int .i64 0, .int .i64 ((io : Int) - nl)] : Array Value) (0, 0) _ rfl hrow Tryz.underlying40 rfl rfl) rfl ⟨?_, ?_⟩
  · rw [hallH.out.1, hallH.out.2.1, hallH.out.2.2, husH.out]; rfl
  · rw [hgH.out]
    exact hbl
#print axioms proom_any
set_option maxHeartbeats 1600000 in
set_option maxRecDepth 100000 in
/-- Is there room for what one node has beside what it had? -/
theorem room_any (own : Nat → Option Role) (lay : Nat → NA) (p mb : Nat) (T : PT) (x y : Nat) (cx cy : Nat) (w : World) (h : PlainAt w own lay p mb T) (hT : T.Ok)
    (hx : ∀ W, Below w.heap.size w W → Calls Tryz.prog 57 #[ptrV x] W fun e w' => e = .returned (.int .i64 (cx : Int)) ∧ Below W.heap.size W w') (hcx : cx ≤ 2200)
    (hy : ∀ W, Below w.heap.size w W → Calls Tryz.prog 57 #[ptrV y] W fun e w' => e = .returned (.int .i64 (cy : Int)) ∧ Below W.heap.size W w') (hcy : cy ≤ 2200) :
    Calls Tryz.prog 129 #[ptrV p, ptrV x, ptrV y] w fun e w' => e = .returned (.bool (decide ((cy : Int) - cx ≤ (T.sectors : Int) - 1 - T.inodes - T.used))) ∧ Below w.heap.size w w' := by
  have fld : ∀ (a b : Int) (w : World), (Instr.field 40 (.agg #[.int .i64 a, .int .i64 0, .int .i64 b]) 0).run Tryz.prog w = .ok (.int .i64 a) w := fun _ _ _ => by kernel_rfl
  unfold ptrV
  go_enter Tryz.func129, Tryz.ntmps129
  have hule := hT.used
  have h1 := hT.ino
  have h2 := hT.sec
  have h3 := hT.s8
  go_wp2_with fail
  refine (proom_any own lay p mb T w h hT).mono ?_
  rintro e w1 ⟨rfl, hb1⟩
  unfold roomV
  go_wp2_with fail
  refine (hy w1 hb1).mono ?_
  rintro e w2 ⟨rfl, hb2⟩
  have hb2' := hb1.trans (hb2.mono hb1.size)
  go_wp2_with fail
  refine (hx w2 hb2').mono ?_
  rintro e w3 ⟨rfl, hb3⟩
  have hb3' := Lib.hid (hb2'.trans (hb3.mono hb2'.size))
  clear hb1 hb2 hb2' hb3 hx hy h hT
  go_wp2
  go_ret
  exact ⟨rfl, hb3'.out⟩
#print axioms room_any
end Go.Proofs.YtolpcfhfcdkokaaGreatDoor
