/- Joined out of the texts LTwin. -/
import Derived.Test.YtolpcfhfcdkokaaGreatDoorM36
import Derived.Test.YtolpcfhfcdkokaaGreatDoorM38
/-
  An operation with bytes of its own.
-/
namespace Go.Proofs.YtolpcfhfcdkokaaGreatDoor
open Go.RowKit Go.Proofs

theorem one8o (a d e f g : Int) (b c : ByteArray) (A : Option Addr) (n k : Nat) : (([.int .i64 a, .string b, .string c, .int .i64 d, .int .i64 e, .slice A n k, .int .i64 f, .int .i64 g] : List Value).toArray).all (·.oneCell') = true := by
  rw [Array.all_eq_true_iff_forall_mem]
  intro v hv
  simp only [List.mem_toArray, List.mem_cons, List.not_mem_nil, or_false] at hv
  rcases hv with rfl | rfl | rfl | rfl | rfl | rfl | rfl | rfl <;> rfl
def TwinP (o : Opn) (w : World) (e : Ending) (w' : World) : Prop := (∃ A c, e = .returned (opV o A c) ∧ Sees w' w'.heap.size 1 A o.data.length (bvs o.data) ∧ o.data.length ≤ c) ∧ Below w.heap.size w w'
set_option maxHeartbeats 1600000 in
set_option maxRecDepth 100000 in
theorem twin_any (o : Opn) (A : Option Addr) (c : Nat) (w : World) (hs : Sees w w.heap.size 1 A o.data.length (bvs o.data)) (hl : o.data.length ≤ 1000000000) :
    Calls Tryz.prog 25 #[opV o A c] w (TwinP o w) := by
  obtain ⟨i0, hi, hz0, hz1', hz2⟩ := info_parts infoU8
  obtain ⟨ok, pa, ds, oo, ol, da, om, op⟩ := o
  obtain ⟨Q, hQ⟩ : ∃ Q, TwinP ⟨ok, pa, ds, oo, ol, da, om, op⟩ w = Q := ⟨_, rfl⟩
  rw [hQ]
  have hQH := Lib.hid hQ
  simp only at hs hl
  obtain ⟨len, hlen⟩ : ∃ len, da.length = len := ⟨_, rfl⟩
  have hlenH := Lib.hid hlen
  unfold opV opC
  simp only [hlen]
  rw [hlen] at hs hl
  clear hQ hlen
  go_enter Tryz.func25, Tryz.ntmps25
  go_upto_region 2 with (fail)
  have hb1 : Below w.heap.size w ((w.alloc (.cells [.int .i64 ok, .string pa, .string ds, .int .i64 oo, .int .i64 ol, .slice A len c, .int .i64 om, .int .i64 op].toArray 70)).alloc (.cells [.int .i64 0, .string ⟨#[]⟩, .string ⟨#[]⟩, .int .i64 0, .int .i64 0, .slice none 0 0, .int .i64 0, .int .i64 0].toArray 70)) := ((Below.refl _ _).alloc (Nat.le_refl _) _).alloc (by simp) _
  have hk1 : Blk ((w.alloc (.cells [.int .i64 ok, .string pa, .string ds, .int .i64 oo, .int .i64 ol, .slice A len c, .int .i64 om, .int .i64 op].toArray 70)).alloc (.cells [.int .i64 0, .string ⟨#[]⟩, .string ⟨#[]⟩, .int .i64 0, .int .i64 0, .slice none 0 0, .int .i64 0, .int .i64 0].toArray 70)) w.heap.size 70 [.int .i64 ok, .string pa, .string ds, .int .i64 oo, .int .i64 ol, .slice A len c, .int .i64 om, .int .i64 op] := (Blk.new w _ _).alloc _
  have hq1 : Blk ((w.alloc (.cells [.int .i64 ok, .string pa, .string ds, .int .i64 oo, .int .i64 ol, .slice A len c, .int .i64 om, .int .i64 op].toArray 70)).alloc (.cells [.int .i64 0, .string ⟨#[]⟩, .string ⟨#[]⟩, .int .i64 0, .int .i64 0, .slice none 0 0, .int .i64 0, .int .i64 0].toArray 70)) (w.heap.size + 1) 70 [.int .i64 0, .string ⟨#[]⟩, .string ⟨#[]⟩, .int .i64 0, .int .i64 0, .slice none 0 0, .int .i64 0, .int .i64 0] := by
    have h9 := Blk.new (w.alloc (.cells [.int .i64 ok, .string pa, .string ds, .int .i64 oo, .int .i64 ol, .slice A len c, .int .i64 om, .int .i64 op].toArray 70)) 70 [.int .i64 0, .string ⟨#[]⟩, .string ⟨#[]⟩, .int .i64 0, .int .i64 0, .slice none 0 0, .int .i64 0, .int .i64 0]
    simpa using h9
  have hz1 : ((w.alloc (.cells [.int .i64 ok, .string pa, .string ds, .int .i64 oo, .int .i64 ol, .slice A len c, .int .i64 om, .int .i64 op].toArray 70)).alloc (.cells [.int .i64 0, .string ⟨#[]⟩, .string ⟨#[]⟩, .int .i64 0, .int .i64 0, .slice none 0 0, .int .i64 0, .int .i64 0].toArray 70)).heap.size = w.heap.size + 2 := by simp
  change Code.wp _ _ _ _ ((w.alloc (.cells [.int .i64 ok, .string pa, .string ds, .int .i64 oo, .int .i64 ol, .slice A len c, .int .i64 om, .int .i64 op].toArray 70)).alloc (.cells [.int .i64 0, .string ⟨#[]⟩, .string ⟨#[]⟩, .int .i64 0, .int .i64 0, .slice none 0 0, .int .i64 0, .int .i64 0].toArray 70))
  generalize ((w.alloc (.cells [.int .i64 ok, .string pa, .string ds, .int .i64 oo, .int .i64 ol, .slice A len c, .int .i64 om, .int .i64 op].toArray 70)).alloc (.cells [.int .i64 0, .string ⟨#[]⟩, .string ⟨#[]⟩, .int .i64 0, .int .i64 0, .slice none 0 0, .int .i64 0, .int .i64 0].toArray 70)) = w1 at *
  have hs1 := (hs.below hb1).more hb1.size
  obtain ⟨g, hgE⟩ : ∃ g, w.heap.size = g := ⟨_, rfl⟩
  rw [hgE] at hk1 hz1 hq1
  have hq1H := Lib.hid hq1
  simp only [hgE]
  have hgH := Lib.hid hgE
  have yc := fun j => hk1.cell j
  have y5 := yc 5
  simp only [List.getElem?_cons_succ, List.getElem?_cons_zero] at y5
  have hsrc := src_sees (tx := 64) w1 Tryz.underlying64 c hs1 (bvs_one _)
  have hk1H := Lib.hid hk1
  clear yc hk1 hs hs1 hq1
  go_upto_region 3 with (first
    | (at_builtin; refine wpList_app _ (by rfl) _ _ _ _ (by rfl) (g + 2) 5 i0 (.int .u8 0) 1 1 Tryz.underlying64 hi hz0 hz1' hz2 rfl (.slice none 0 0) 0 [] (by rfl) (World.ownsRow_nil _ _ _ _) len (bvs da) hsrc (by unfold maxLen; omega) (by omega) (by omega) ?_; intro v2 w2 ho2 hg2 hat2; obtain ⟨A2, c2, rfl, hs2⟩ := Sees.of_own (B := w2.heap.size) ho2 (fun g hg => (ho2.lt g hg).2); have hC2 : Chg (fun _ => False) w1 w2 := (Chg.refl _ w1).grown hg2 (fun g e => by cases e); have hk2 := hk1H.out.chg hC2 id; have yc := fun j => hk2.cell j; have f5 := hk2.frozen 5; have x0 := yc 0; have x1 := yc 1; have x2 := yc 2; have x3 := yc 3; have x4 := yc 4; have x5 := yc 5; have x6 := yc 6; have x7 := yc 7; simp only [List.getElem?_cons_succ, List.getElem?_cons_zero] at x0 x1 x2 x3 x4 x5 x6 x7; have ho2H := Lib.hid ho2; have hC2H := Lib.hid hC2; clear ho2 hC2 hk2 yc hat2 hg2))
  have hC3 : Chg (fun b => b = g) w2 (w2.setCell ⟨g, 5, none⟩ (.slice A2 len c2)) := (Chg.refl (fun b => b = g) w2).setCell (p := ⟨g, 5, none⟩) (fun _ => rfl) _
  have hq3 : Blk (w2.setCell ⟨g, 5, none⟩ (.slice A2 len c2)) (g + 1) 70 [.int .i64 0, .string ⟨#[]⟩, .string ⟨#[]⟩, .int .i64 0, .int .i64 0, .slice none 0 0, .int .i64 0, .int .i64 0] := (hq1H.out.chg hC2H.out id).chg hC3 (by omega)
  have hrow := setRow_heap (w2.setCell ⟨g, 5, none⟩ (.slice A2 len c2)) (g + 1) _ ([.int .i64 ok, .string pa, .string ds, .int .i64 oo, .int .i64 ol, .slice A2 len c2, .int .i64 om, .int .i64 op] : List Value).toArray _ _ hq3
  go_wp2_with (refine wpList_store_row rfl 70 (.tmp 2) (.tmp 9) rfl (g + 1) ([.int .i64 ok, .string pa, .string ds, .int .i64 oo, .int .i64 ol, .slice A2 len c2, .int .i64 om, .int .i64 op] : List Value).toArray rfl (by rfl) 70 _ hq3 rfl rfl (one8o _ _ _ _ _ _ _ _ _ _) ?_)
  refine bodyPost_ret (results_cell_row rfl _ _ (g + 1) 70 ([.int .i64 ok, .string pa, .string ds, .int .i64 oo, .int .i64 ol, .slice A2 len c2, .int .i64 om, .int .i64 op] : List Value).toArray (0, 0) _ rfl hrow Tryz.underlying70 rfl rfl) rfl ?_
  rw [← hQH.out]
  have hC4 : Chg (fun b => b = g + 1) (w2.setCell ⟨g, 5, none⟩ (.slice A2 len c2)) ((w2.setCell ⟨g, 5, none⟩ (.slice A2 len c2)).setRow (g + 1) ([.int .i64 ok, .string pa, .string ds, .int .i64 oo, .int .i64 ol, .slice A2 len c2, .int .i64 om, .int .i64 op] : List Value).toArray) := (Chg.refl (fun b => b = g + 1) _).setRow (fun _ => rfl) _
  have ho2 := ho2H.out
  refine ⟨⟨A2, c2, ?_, ?_, ?_⟩, ?_⟩
  · unfold opV opC
    simp only [hlenH.out]
  · simp only [hlenH.out]
    have h9 := (hs2.chgS (by decide) hC3 (fun b off e hn hb => by
      subst e
      have := (ho2.lt b rfl).1
      omega)).chgS (by decide) hC4 (fun b off e hn hb => by
      subst e
      have := (ho2.lt b rfl).1
      omega) |>.more (Nat.le_trans hC3.size hC4.size)
    simpa using h9
  · simp only [hlenH.out]
    rcases ho2.2 with ⟨h8, h9⟩ | ⟨g', cap, cur, h9, _, _, hnc, _⟩
    · omega
    · injection h9 with _ _ e3
      omega
  · have hgs := hgH.out
    exact ((hb1.trans (hC2H.out.below hb1.size fun _ _ h => h)).trans (hC3.below (Nat.le_trans hb1.size hC2H.out.size) fun b hb e => by omega)).trans (hC4.below (Nat.le_trans (Nat.le_trans hb1.size hC2H.out.size) hC3.size) fun b hb e => by omega)
#print axioms twin_any
end Go.Proofs.YtolpcfhfcdkokaaGreatDoor
