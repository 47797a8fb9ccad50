/- Joined out of the texts PNew, DAsk, DRead. -/
import Derived.Test.YtolpcfhfcdkokaaGreatDoorM26
import Derived.Test.YtolpcfhfcdkokaaGreatDoorM32
import Derived.Test.YtolpcfhfcdkokaaGreatDoorM33
/-
  The tree in memory: an empty one.
-/
namespace Go.Proofs.YtolpcfhfcdkokaaGreatDoor
open Go.RowKit Go.Proofs

def newOwn (z p : Nat) : Nat → Option Role := fun b => if b = p then some .top else if b = z then some .nodes else if b = z + 1 then some (.names 1) else if b = z + 2 then some (.node 1) else none
def newLay (z : Nat) : Nat → NA := fun _ => ⟨z + 2, none, nilS, some (z + 1)⟩
/-- What New leaves. -/
def NewP (n m : Nat) (w : World) (e : Ending) (w' : World) : Prop :=
  ∃ own lay p mb, e = .returned (.tuple #[ptrV p, .int .i64 0]) ∧ PlainAt w' own lay p mb (PT.new n m) ∧ (∀ b, b < w.heap.size → own b = none) ∧ Below w.heap.size w w'
theorem new_done {n m z : Nat} {w w4 : World} (hz : z = w.heap.size) (hb : Below z w w4) (hN : Blk w4 (z + 2) 110 [.int .i64 2, .int .i64 1, .int .i64 0, .int .i64 0, .map none, nilS, .map (some (z + 1))])
    (hnm : MapAt w4 strK natV 9 (z + 1) ([] : List (ByteArray × Nat))) (hm : MapAt w4 natK ptrV 3 z [(1, z + 2)]) :
    NewP n m w (.returned (.tuple #[.pointer (some ⟨w4.heap.size, 0, none⟩), .int .i64 0])) (w4.alloc (.cells #[.int .i64 (n : Int), .int .i64 (m : Int), .map (some z)] 98)) := by
  have hz3 : z + 3 ≤ w4.heap.size := hN.lt
  have hC : Chg (fun _ => False) w4 (w4.alloc (.cells #[.int .i64 (n : Int), .int .i64 (m : Int), .map (some z)] 98)) := (Chg.refl _ w4).alloc _
  have hown : ∀ b, b < w4.heap.size → newOwn z w4.heap.size b = if b = z then some .nodes else if b = z + 1 then some (.names 1) else if b = z + 2 then some (.node 1) else none := fun b hb => by
    unfold newOwn; rw [if_neg (by omega)]
  refine ⟨newOwn z w4.heap.size, newLay z, w4.heap.size, z, rfl, ⟨Blk.new w4 _ _, ?_, ?_, ?_, fun x hx => ?_, fun x hx => ?_, fun b r e => ?_⟩, fun b hb => ?_, hb.trans ((Below.refl w4.heap.size w4).alloc (Nat.le_refl _) _ |>.mono (by omega)) |> fun h => by rw [hz] at h; exact h⟩
  · unfold newOwn; rw [if_pos rfl]
  · rw [hown z (by omega), if_pos rfl]
  · exact hm.chg hC id
  · have : x = (1, ⟨true, 1, 0, 0, [], [], []⟩) := by simpa [PT.new] using hx
    subst this
    refine ⟨hN.chg hC id, rfl, World.ownsRow_nil _ _ _ _, hnm.chg hC id, fun _ => ⟨_, rfl⟩, fun e => (by cases e)⟩
  · have : x = (1, ⟨true, 1, 0, 0, [], [], []⟩) := by simpa [PT.new] using hx
    subst this
    refine ⟨?_, fun b e => (by cases e), fun b e => (by cases e), fun b e => ?_⟩
    · show newOwn z w4.heap.size (z + 2) = _
      rw [hown _ (by omega), if_neg (by omega), if_neg (by omega), if_pos rfl]
    · have e : some (z + 1) = some b := e
      injection e with e
      subst e
      rw [hown _ (by omega), if_neg (by omega), if_pos rfl]
  · have hs : (w4.alloc (.cells #[.int .i64 (n : Int), .int .i64 (m : Int), .map (some z)] 98)).heap.size = w4.heap.size + 1 := by simp
    rw [hs]
    unfold newOwn at e
    split at e
    · omega
    split at e
    · omega
    split at e
    · omega
    split at e
    · omega
    · cases e
  · rw [hown b (by omega), if_neg (by omega), if_neg (by omega), if_neg (by omega)]
set_option maxHeartbeats 1600000 in
set_option maxRecDepth 100000 in
theorem pnew_any (n m : Nat) (w : World) (hn : 8 ≤ n ∧ n ≤ 4096) (hm : 1 ≤ m ∧ m ≤ 512) (hnm : m + 2 ≤ n) : Calls Tryz.prog 23 #[.int .i64 (n : Int), .int .i64 (m : Int)] w (NewP n m w) := by
  have hmm := @run_makeMap Tryz.prog
  obtain ⟨Q, hQ⟩ : ∃ Q, NewP n m w = Q := ⟨_, rfl⟩
  rw [hQ]
  have hQH := Lib.hid hQ
  clear hQ
  go_enter Tryz.func23, Tryz.ntmps23
  have t1 : decide ((n : Int) < 8) = false := by simp; omega
  have t2 : decide (4096 < (n : Int)) = false := by simp; omega
  have t3 : decide ((m : Int) < 1) = false := by simp; omega
  have t4 : decide (512 < (m : Int)) = false := by simp; omega
  have t5 : decide ((n : Int) < (m : Int) + 2) = false := by simp; omega
  go_upto_region 3 with (fail)
  clear t1 t2 t3 t4 t5
  have h1 : MapAt ((w.alloc (.map #[] 0)).alloc (.map #[] 0)) natK ptrV 3 w.heap.size [] := (MapAt.made w natK ptrV 3).chg ((Chg.refl (fun _ => False) _).alloc _) id
  have h2 : MapAt ((w.alloc (.map #[] 0)).alloc (.map #[] 0)) strK natV 9 (w.heap.size + 1) ([] : List (ByteArray × Nat)) := by
    have := MapAt.made (w.alloc (.map #[] 0)) strK natV 9
    simpa using this
  have h3 : Blk (((w.alloc (.map #[] 0)).alloc (.map #[] 0)).alloc (.cells [.int .i64 2, .int .i64 1, .int .i64 0, .int .i64 0, .map none, nilS, .map (some (w.heap.size + 1))].toArray 110)) (w.heap.size + 2) 110 [.int .i64 2, .int .i64 1, .int .i64 0, .int .i64 0, .map none, nilS, .map (some (w.heap.size + 1))] := by
    have := Blk.new ((w.alloc (.map #[] 0)).alloc (.map #[] 0)) 110 [.int .i64 2, .int .i64 1, .int .i64 0, .int .i64 0, .map none, nilS, .map (some (w.heap.size + 1))]
    simpa using this
  have hC3 := (Chg.refl (fun _ => False) ((w.alloc (.map #[] 0)).alloc (.map #[] 0))).alloc (.cells [.int .i64 2, .int .i64 1, .int .i64 0, .int .i64 0, .map none, nilS, .map (some (w.heap.size + 1))].toArray 110)
  have h13 := h1.chg hC3 id
  have h23 := h2.chg hC3 id
  have hb3 : Below w.heap.size w (((w.alloc (.map #[] 0)).alloc (.map #[] 0)).alloc (.cells [.int .i64 2, .int .i64 1, .int .i64 0, .int .i64 0, .map none, nilS, .map (some (w.heap.size + 1))].toArray 110)) := (((Below.refl _ _).alloc (Nat.le_refl _) _).alloc (by simp) _).alloc (by simp; omega) _
  clear hC3 h1 h2
  go_wp2_with (first
    | (refine wpList_mput _ rfl _ _ _ 96 (.inr rfl) kInt Tryz.underlying96 h13 (by simp [maxLen]) rfl 1 rfl (keyN 1 (by omega)) (w.heap.size + 2) rfl ?_; intro w4 hm4 ht4; have hC4 := turned_chg ht4))
  rw [← hQH.out]
  exact new_done rfl (hb3.trans (hC4.below (Nat.le_of_lt (Nat.lt_of_le_of_lt (Nat.le_add_right _ 2) h3.lt)) fun b hb e => by omega)) (h3.chg hC4 (by omega)) (h23.chg hC4 (by omega)) hm4
#print axioms new_done
end Go.Proofs.YtolpcfhfcdkokaaGreatDoor
/-
  Package dump: a question to a tree in memory.
-/
namespace Go.Proofs.YtolpcfhfcdkokaaGreatDoor
open Go.RowKit Go.Proofs

/-- A tree in memory as one who does operations. -/
def ifV (p : Nat) : Value := .iface 25 (.pointer (some ⟨p, 0, none⟩))
theorem method_do (a : Addr) (w : World) : (method 354 25 (.pointer (some a)) "Do").run Tryz.prog w = .ok (24, .pointer (some a)) w := by kernel_rfl
theorem blk_set10 {w : World} {g : Nat} {t : TypeId} {a0 a1 a2 a3 a4 a5 a6 a7 a8 a9 : Value} (h : Blk w g t [a0, a1, a2, a3, a4, a5, a6, a7, a8, a9]) (v0 v1 v2 v3 v4 v5 v6 v7 v8 v9 : Value) :
    Blk ((((((((((w.setCell ⟨g, 0, none⟩ (v0)).setCell ⟨g, 1, none⟩ (v1)).setCell ⟨g, 2, none⟩ (v2)).setCell ⟨g, 3, none⟩ (v3)).setCell ⟨g, 4, none⟩ (v4)).setCell ⟨g, 5, none⟩ (v5)).setCell ⟨g, 6, none⟩ (v6)).setCell ⟨g, 7, none⟩ (v7)).setCell ⟨g, 8, none⟩ (v8)).setCell ⟨g, 9, none⟩ (v9)) g t [v0, v1, v2, v3, v4, v5, v6, v7, v8, v9] := (((((((((h.set_ 0 v0).set_ 1 v1).set_ 2 v2).set_ 3 v3).set_ 4 v4).set_ 5 v5).set_ 6 v6).set_ 7 v7).set_ 8 v8).set_ 9 v9
theorem chg10 (w : World) (g : Nat) (v0 v1 v2 v3 v4 v5 v6 v7 v8 v9 : Value) : Chg (fun b => b = g) w ((((((((((w.setCell ⟨g, 0, none⟩ (v0)).setCell ⟨g, 1, none⟩ (v1)).setCell ⟨g, 2, none⟩ (v2)).setCell ⟨g, 3, none⟩ (v3)).setCell ⟨g, 4, none⟩ (v4)).setCell ⟨g, 5, none⟩ (v5)).setCell ⟨g, 6, none⟩ (v6)).setCell ⟨g, 7, none⟩ (v7)).setCell ⟨g, 8, none⟩ (v8)).setCell ⟨g, 9, none⟩ (v9)) :=
  ((((((((((Chg.refl (fun b => b = g) w).setCell (p := ⟨g, 0, none⟩) (fun _ => rfl) v0).setCell (p := ⟨g, 1, none⟩) (fun _ => rfl) v1).setCell (p := ⟨g, 2, none⟩) (fun _ => rfl) v2).setCell (p := ⟨g, 3, none⟩) (fun _ => rfl) v3).setCell (p := ⟨g, 4, none⟩) (fun _ => rfl) v4).setCell (p := ⟨g, 5, none⟩) (fun _ => rfl) v5).setCell (p := ⟨g, 6, none⟩) (fun _ => rfl) v6).setCell (p := ⟨g, 7, none⟩) (fun _ => rfl) v7).setCell (p := ⟨g, 8, none⟩) (fun _ => rfl) v8).setCell (p := ⟨g, 9, none⟩) (fun _ => rfl) v9
theorem Sees.chg1 {w w1 : World} {B size n z : Nat} {A : Option Addr} {xs : List Value} (h : Sees w B size A n xs) (hs : 0 < size) {t : TypeId} {cs : List Value} (hz : Blk w z t cs) (hd : ∀ u, xs[0]? = some u → ∀ off : Nat, cs[off]? ≠ some u) (hc : Chg (fun b => b = z) w w1) : Sees w1 B size A n xs := by
  refine ⟨h.len, fun hn => ?_⟩
  obtain ⟨b, off, e, hb, hcc⟩ := h.at_ hn
  have hne : b ≠ z := fun e => by
    subst e
    have hl : 0 < xs.length := by rw [h.len]; exact Nat.mul_pos hn hs
    have h0 : xs[0]? = some xs[0] := List.getElem?_eq_getElem hl
    have h1 := hcc 0 _ h0
    rw [Nat.add_zero, hz.cell off] at h1
    exact hd _ h0 off h1
  refine ⟨b, off, e, hb, fun j u hu => ?_⟩
  rw [← hcc j u hu]
  exact hc.cell (p := ⟨b, off + j, none⟩) (World.block_lt_of_cell? _ _ (hcc j u hu)) hne
theorem AnsAt.chg1 {w w1 : World} {v : Value} {a : Ans} (h : AnsAt w v a) {z : Nat} (hz : Blk w z 67 zAns) (hC : Chg (fun b => b = z) w w1) : AnsAt w1 v a := by
  obtain ⟨dA, dc, eA, ec, h1, h2, h3⟩ := h
  refine ⟨dA, dc, eA, ec, h1, (h2.chg1 (by decide) hz (fun u hu off e => ?_) hC).more hC.size, (h3.chg1 (by decide) hz (fun u hu off e => ?_) hC).more hC.size⟩
  · obtain ⟨x, rfl⟩ := bvs_0 hu
    rcases zAns_val e with ⟨_, _, e, e2⟩ | ⟨_, _, _, e⟩ | ⟨_, e⟩
    · cases e; cases e2
    · cases e
    · cases e
  · obtain ⟨x, rfl⟩ := ent_0 hu
    rcases zAns_val e with ⟨_, _, e, _⟩ | ⟨_, _, _, e⟩ | ⟨_, e⟩ <;> cases e
theorem Blk.drew {w : World} {g : Nat} {t : TypeId} {cs : List Value} (h : Blk w g t cs) : Blk w.drew g t cs := h
def AskQ (a : Ans) (Pv : Value → Prop) (R : World → World → Prop) (w : World) (e : Ending) (w' : World) : Prop :=
  ∃ v w0 w1, e = .returned (.tuple #[v, .int .i64 (a.code : Int)]) ∧ AnsAt w' v a ∧ Pv v ∧ Below w.heap.size w w0 ∧ R w0 w1 ∧ Chg (fun b => w.heap.size ≤ b ∧ b < w0.heap.size) w1 w'
set_option maxHeartbeats 1600000 in
set_option maxRecDepth 100000 in
theorem ask_gen (p : Nat) (o : Opn) (A : Option Addr) (c : Nat) (a : Ans) (Pv : Value → Prop) (R : World → World → Prop) (w : World) (hR : ∀ W W', R W W' → W.heap.size ≤ W'.heap.size ∧ ∀ b, w.heap.size ≤ b → b < W.heap.size → W'.heap[b]? = W.heap[b]?)
    (hcall : ∀ W, Below w.heap.size w W → Calls Tryz.prog 24 #[.pointer (some ⟨p, 0, none⟩), opV o A c] W fun e w' => (∃ v, e = .returned v ∧ AnsAt w' v a ∧ Pv v) ∧ R W w') :
    Calls Tryz.prog 51 #[ifV p, opV o A c] w (AskQ a Pv R w) := by
  unfold opV opC ifV
  have hmd := method_do
  go_enter Tryz.func51, Tryz.ntmps51
  go_upto_region 1 with (fail)
  have hO0 : Blk ((w.alloc (.cells (opC o A c).toArray 70)).alloc (.cells zAns.toArray 67)) w.heap.size 70 (opC o A c) := (Blk.new w _ _).alloc _
  have hZ0 : Blk ((w.alloc (.cells (opC o A c).toArray 70)).alloc (.cells zAns.toArray 67)) (w.heap.size + 1) 67 zAns := by
    have := Blk.new (w.alloc (.cells (opC o A c).toArray 70)) 67 zAns
    simpa using this
  have hB0 : Below w.heap.size w ((w.alloc (.cells (opC o A c).toArray 70)).alloc (.cells zAns.toArray 67)) := ((Below.refl _ _).alloc (Nat.le_refl _) _).alloc (by simp) _
  have hz0 : ((w.alloc (.cells (opC o A c).toArray 70)).alloc (.cells zAns.toArray 67)).heap.size = w.heap.size + 2 := by simp
  change Code.wp _ _ _ _ ((w.alloc (.cells (opC o A c).toArray 70)).alloc (.cells zAns.toArray 67))
  generalize (w.alloc (.cells (opC o A c).toArray 70)).alloc (.cells zAns.toArray 67) = w0 at *
  have hcs := hcall w0 hB0
  have hRw := hR w0
  obtain ⟨g, hgE⟩ : ∃ g, w.heap.size = g := ⟨_, rfl⟩
  rw [hgE] at hO0 hZ0 hB0 hz0 hRw
  simp only [hgE]
  have hgH := Lib.hid hgE
  have hBH := Lib.hid hB0
  have hRH := Lib.hid hRw
  have yc := fun j => hO0.cell j
  have y0 := yc 0
  have y1 := yc 1
  have y2 := yc 2
  have y3 := yc 3
  have y4 := yc 4
  have y5 := yc 5
  have y6 := yc 6
  have y7 := yc 7
  simp only [opC, List.getElem?_cons_succ, List.getElem?_cons_zero] at y0 y1 y2 y3 y4 y5 y6 y7
  unfold opV opC at hcs
  clear hgE hB0 hRw yc hO0 hcall hR
  go_upto_region 2 with (first
    | (go_at_call 24; refine hcs.mono ?_; rintro e w4 ⟨⟨v, rfl, hA, hPv⟩, hRR⟩; have hPvH := Lib.hid hPv; clear hPv; have hA1 := Lib.hid hA; obtain ⟨dA, dc, eA, ec, rfl, -, -⟩ := hA; have hRRH := Lib.hid hRR; have hN4 := Blk.new w4 67 zAns; clear hRR)
    | (refine wpList_store_row rfl 67 (.tmp 6) (.tmp 9) rfl w4.heap.size (ansC a.code a.stat (.slice dA a.data.length dc) (.slice eA a.ents.length ec)).toArray rfl (by rfl) 67 _ hN4 rfl rfl (one10s _ _ _ _ _ _ _ _) ?_))
  have hQ5 : Blk ((w4.alloc (.cells zAns.toArray 67)).setRow w4.heap.size (ansC a.code a.stat (.slice dA a.data.length dc) (.slice eA a.ents.length ec)).toArray) w4.heap.size 67 (ansC a.code a.stat (.slice dA a.data.length dc) (.slice eA a.ents.length ec)) := setRow_heap (w4.alloc (.cells zAns.toArray 67)) w4.heap.size _ (ansC a.code a.stat (.slice dA a.data.length dc) (.slice eA a.ents.length ec)).toArray _ _ hN4
  have hb5 : Below w4.heap.size w4 ((w4.alloc (.cells zAns.toArray 67)).setRow w4.heap.size (ansC a.code a.stat (.slice dA a.data.length dc) (.slice eA a.ents.length ec)).toArray) := ((Chg.refl (fun b => w4.heap.size ≤ b) w4).alloc _ |>.setRow (fun _ => Nat.le_refl _) _).below (Nat.le_refl _) fun b hb e => by omega
  have hRR2 := hRH.out w4 hRRH.out
  have hz4 : w0.heap.size ≤ w4.heap.size := hRR2.1
  have hZ4 : Blk w4 (g + 1) 67 zAns := (hRR2.2 (g + 1) (by omega) (by omega)).trans hZ0
  have hZ5 := hZ4.fresh hb5
  have hA5 := Lib.hid (hA1.out.fresh hb5)
  have hb5H := Lib.hid hb5
  clear hN4 hb5 hA1 hcs hZ4 hZ0 hRR2
  change Code.wp _ _ _ _ ((w4.alloc (.cells zAns.toArray 67)).setRow w4.heap.size (ansC a.code a.stat (.slice dA a.data.length dc) (.slice eA a.ents.length ec)).toArray)
  generalize (w4.alloc (.cells zAns.toArray 67)).setRow w4.heap.size (ansC a.code a.stat (.slice dA a.data.length dc) (.slice eA a.ents.length ec)).toArray = w5 at *
  have xc := fun j => hQ5.cell j
  have x0 := xc 0
  have x1 := xc 1
  have x2 := xc 2
  have x3 := xc 3
  have x4 := xc 4
  have x5 := xc 5
  have x6 := xc 6
  have x7 := xc 7
  have x8 := xc 8
  have x9 := xc 9
  simp only [ansC, List.getElem?_cons_succ, List.getElem?_cons_zero] at x0 x1 x2 x3 x4 x5 x6 x7 x8 x9
  obtain ⟨z, hzE⟩ : ∃ z, w4.heap.size = z := ⟨_, rfl⟩
  rw [hzE] at x0 x1 x2 x3 x4 x5 x6 x7 x8 x9 hz4
  simp only [hzE]
  have hzH := Lib.hid hzE
  have hgz : g + 1 < z := by omega
  have f0 := hZ5.frozen 0
  have f1 := hZ5.frozen 1
  have f2 := hZ5.frozen 2
  have f3 := hZ5.frozen 3
  have f4 := hZ5.frozen 4
  have f5 := hZ5.frozen 5
  have f6 := hZ5.frozen 6
  have f7 := hZ5.frozen 7
  have f8 := hZ5.frozen 8
  have f9 := hZ5.frozen 9
  have q0 := hZ5.cell 0
  have q1 := hZ5.cell 1
  have q2 := hZ5.cell 2
  have q3 := hZ5.cell 3
  have q4 := hZ5.cell 4
  have q5 := hZ5.cell 5
  have q6 := hZ5.cell 6
  have q7 := hZ5.cell 7
  have q8 := hZ5.cell 8
  have q9 := hZ5.cell 9
  simp only [zAns, List.getElem?_cons_succ, List.getElem?_cons_zero] at q0 q1 q2 q3 q4 q5 q6 q7 q8 q9
  have hZ5H := Lib.hid hZ5
  clear xc hQ5 y0 y1 y2 y3 y4 y5 y6 y7 hzE hZ5
  go_frame
  go_region
  have hrow := blk_set10 hZ5H.out (.int .i64 (a.code : Int)) (.int .i64 a.stat.ino) (.int .i64 a.stat.kind) (.int .i64 a.stat.links) (.int .i64 a.stat.size) (.int .i64 a.stat.made) (.int .i64 a.stat.blocks) (.slice dA a.data.length dc) (.slice eA a.ents.length ec) (.bool false)
  have hch := chg10 w5 (g + 1) (.int .i64 (a.code : Int)) (.int .i64 a.stat.ino) (.int .i64 a.stat.kind) (.int .i64 a.stat.links) (.int .i64 a.stat.size) (.int .i64 a.stat.made) (.int .i64 a.stat.blocks) (.slice dA a.data.length dc) (.slice eA a.ents.length ec) (.bool false)
  go_wp2
  refine bodyPost_ret (results_cell_row2 rfl _ _ (g + 1) 67 (ansC a.code a.stat (.slice dA a.data.length dc) (.slice eA a.ents.length ec)).toArray (0, 0) _ rfl hrow.drew Tryz.underlying67 rfl rfl) rfl ?_
  refine ⟨_, w0, w4, rfl, hA5.out.chg1 hZ5H.out hch.drew, hPvH.out, by rw [hgH.out]; exact hBH.out, hRRH.out, ?_⟩
  refine (Chg.of_fresh hb5H.out).trans hch.drew (fun _ _ h => h) fun b hb e => ?_
  rw [hgH.out]
  omega
/-- What a question, asked through the interface, leaves. -/
def AskA (a : Ans) (w : World) (e : Ending) (w' : World) : Prop := ∃ v, e = .returned (.tuple #[v, .int .i64 (a.code : Int)]) ∧ AnsAt w' v a ∧ EntF w.heap.size v ∧ Below w.heap.size w w'
def AskT (own : Nat → Option Role) (p mb : Nat) (r : PT × Ans) (w : World) (e : Ending) (w' : World) : Prop := ∃ v, e = .returned (.tuple #[v, .int .i64 (r.2.code : Int)]) ∧ AnsAt w' v r.2 ∧ PTurn own p mb r.1 w w'
theorem ask_q (own : Nat → Option Role) (lay : Nat → NA) (p mb : Nat) (T : PT) (o : Opn) (A : Option Addr) (c : Nat) (m0 : Int) (w : World) (h : PlainAt w own lay p mb T) (hT : T.Wf) (hkind : o.kind = 9 ∨ o.kind = 10 ∨ o.kind = 11) (hf : o.fine = true) (hoff : o.off ≤ 9223372036854775807 ∧ -9223372036854775808 ≤ o.off) (hlen : o.len ≤ 9223372036854775807 ∧ -9223372036854775808 ≤ o.len) (hpa : o.path.size ≤ 100000) (hm : w.cell? ⟨0, 0, none⟩ = some (.int .i64 m0)) :
    Calls Tryz.prog 51 #[ifV p, opV o A c] w (AskA (T.run o).2 w) := by
  refine (ask_gen p o A c (T.run o).2 (EntF w.heap.size) (fun W W' => Below W.heap.size W W') w (fun W W' h => ⟨h.size, fun b _ hb => h.block b hb⟩) fun W hW => ?_).mono ?_
  · exact (qdo_any own lay p mb T o A c m0 W (h.fresh hW) hT hkind hf hoff hlen hpa ((hW.cell (p := ⟨0, 0, none⟩) (World.block_lt_of_cell? _ _ hm)).trans hm)).mono fun e w' ⟨⟨v, h1, h2, h3⟩, h4⟩ => ⟨⟨v, h1, h2, h3.mono hW.size⟩, h4⟩
  · rintro e w' ⟨v, w0, w1, h1, h2, hF, h3, h4, h5⟩
    refine ⟨v, h1, h2, hF, (h3.trans (h4.mono h3.size)).trans (h5.below (by have := h3.size; have := h4.size; omega) fun b hb e => by omega)⟩
theorem PTurn.after2 {w w0 w1 w2 : World} {own : Nat → Option Role} {p mb : Nat} {T' : PT} (h : PTurn own p mb T' w0 w1) (hb : Below w.heap.size w w0) (hlt : ∀ b r, own b = some r → b < w.heap.size) (hc : Chg (fun b => w.heap.size ≤ b ∧ b < w0.heap.size) w1 w2) : PTurn own p mb T' w w2 := by
  obtain ⟨o, l, h1, h2, h3⟩ := h
  have ho : ∀ z, w.heap.size ≤ z → z < w0.heap.size → o z = none := fun z hz hz0 => by
    cases e : o z with
    | none => rfl
    | some r =>
      rcases h2.new z r e with e2 | e2
      · have := hlt z r e2; omega
      · omega
  exact ⟨o, l, h1.chg hc fun b e => ho b e.1 e.2, h2.back hb.size, ((Chg.of_fresh hb).trans h3 (fun _ _ h => h) (fun _ _ h => h)).trans hc (fun _ _ h => h) (fun b hb e => by omega)⟩
theorem OpAt.fresh {w w1 : World} {o : Opn} {A : Option Addr} {c : Nat} (h : OpAt w w.heap.size o A c) (hb : Below w.heap.size w w1) : OpAt w1 w1.heap.size o A c := ⟨(h.sees.below hb).more hb.size, h.cap, h.len, h.off, h.most, h.path, h.dst⟩
theorem ask_t (own : Nat → Option Role) (lay : Nat → NA) (p mb : Nat) (T : PT) (o : Opn) (A : Option Addr) (c : Nat) (m0 : Int) (w : World) (h : PlainAt w own lay p mb T) (hT : T.Wf) (hop : OpAt w w.heap.size o A c) (hm : w.cell? ⟨0, 0, none⟩ = some (.int .i64 m0)) :
    Calls Tryz.prog 51 #[ifV p, opV o A c] w (AskT own p mb (T.run o) w) := by
  refine (ask_gen p o A c (T.run o).2 (fun _ => True) (fun W W' => w.heap.size ≤ W.heap.size ∧ PTurn own p mb (T.run o).1 W W') w (fun W W' hh => ?_) fun W hW => ?_).mono ?_
  · obtain ⟨_, o, l, h1, h2, h3⟩ := hh
    exact ⟨h3.size, fun b hb hb2 => h3.block b hb2 fun hn => by
      cases e : o b with
      | none => cases e2 : own b with
        | none => exact hn e2
        | some r => have := h.lt b r e2; omega
      | some r => cases e2 : own b with
        | none => exact hn e2
        | some r => have := h.lt b r e2; omega⟩
  · exact (pdo_any own lay p mb T o A c m0 W (h.fresh hW) hT (hop.fresh hW) ((hW.cell (p := ⟨0, 0, none⟩) (World.block_lt_of_cell? _ _ hm)).trans hm)).mono fun e w' ⟨⟨v, h1, h2⟩, h3⟩ => ⟨⟨v, h1, h2, trivial⟩, hW.size, h3⟩
  · rintro e w' ⟨v, w0, w1, h1, h2, _, h3, ⟨_, h4⟩, h5⟩
    exact ⟨v, h1, h2, h4.after2 h3 h.lt h5⟩
#print axioms ask_q
#print axioms ask_t
end Go.Proofs.YtolpcfhfcdkokaaGreatDoor
/-
  Package dump: a file's bytes, read.
-/
namespace Go.Proofs.YtolpcfhfcdkokaaGreatDoor
open Go.RowKit Go.Proofs

def opR (x : ByteArray) (off len : Int) : Opn := ⟨9, x, emp, off, len, [], 0, 0⟩
def opS (x : ByteArray) : Opn := ⟨10, x, emp, 0, 0, [], 0, 0⟩
def opL (x : ByteArray) : Opn := ⟨11, x, emp, 0, 0, [], 0, 0⟩
theorem fine_R (x : ByteArray) (off len : Int) : (opR x off len).fine = true := by
  unfold Opn.fine opR useP useT useO useL useD useM useF
  simp
theorem fine_S (x : ByteArray) : (opS x).fine = true := by
  unfold Opn.fine opS useP useT useO useL useD useM useF
  simp
theorem fine_L (x : ByteArray) : (opL x).fine = true := by
  unfold Opn.fine opL useP useT useO useL useD useM useF
  simp
theorem run_read {T : PT} {x : ByteArray} {l : List ByteArray} {i : Nat} {n : PN} (hs : spl x = (l, 0)) (hw : T.walk l 1 = (i, 0)) (hg : getS i T.nodes = some n) (hd : n.dir = false) (off len : Int) : (T.run (opR x off len)).2 = (n.read off len).told := by
  have hi := isDir_of hg
  rw [hd] at hi
  have hn := node_of hg
  unfold PT.run
  rw [if_neg (by rw [fine_R]; simp), if_neg (by simp [Opn.code1, opR, hs]), if_neg (by simp [Opn.code2, opR])]
  simp [PT.does, PT.asks, opR, Opn.from_, hs, hw, hi, hn]
theorem run_stat {T : PT} {x : ByteArray} {l : List ByteArray} {i : Nat} (hs : spl x = (l, 0)) (hw : T.walk l 1 = (i, 0)) : (T.run (opS x)).2 = ⟨0, T.stat i, [], []⟩ := by
  unfold PT.run
  rw [if_neg (by rw [fine_S]; simp), if_neg (by simp [Opn.code1, opS, hs]), if_neg (by simp [Opn.code2, opS])]
  simp [PT.does, PT.asks, opS, Opn.from_, hs, hw, Ans.told]
theorem run_list {T : PT} {x : ByteArray} {l : List ByteArray} {i : Nat} (hs : spl x = (l, 0)) (hw : T.walk l 1 = (i, 0)) (hd : T.isDir i = true) : (T.run (opL x)).2 = T.list i := by
  have h : (T.list i).told = T.list i := by unfold PT.list; rw [if_pos hd]; rfl
  unfold PT.run
  rw [if_neg (by rw [fine_L]; simp), if_neg (by simp [Opn.code1, opL, hs]), if_neg (by simp [Opn.code2, opL])]
  simp [PT.does, PT.asks, opL, Opn.from_, hs, hw, h]
theorem run_bad {T : PT} {o : Opn} (hf : o.fine = true) (hk : ¬ (o.kind = 12 ∨ o.kind = 14)) {l : List ByteArray} {c : Nat} (hs : spl o.path = (l, c)) (hc : c ≠ 0) : (T.run o).2 = .err c := by
  unfold PT.run
  rw [if_neg (by rw [hf]; simp)]
  have h : o.code1 = c := by unfold Opn.code1; rw [if_neg hk, hs]
  rw [h, if_pos hc]
def slLen : Value → Nat
  | .slice _ k _ => k
  | _ => 0
/-- What the read of a file leaves. -/
def RdP (d : Dat) (size : Nat) (w : World) (e : Ending) (w' : World) : Prop :=
  ∃ v, e = .returned (.tuple #[v, .int .i64 0]) ∧ w'.ownsRow w.heap.size 5 1 v size (bvs (rdL d 0 size)) ∧ Below w.heap.size w w'
theorem rdL_add (d : Dat) (a b : Nat) : rdL d 0 (a + b) = rdL d 0 a ++ rdL d a b := by
  unfold rdL
  rw [List.range_add, List.map_append, List.map_map]
  congr 1
  refine List.map_congr_left fun j _ => ?_
  simp
set_option maxHeartbeats 1600000 in
set_option maxRecDepth 100000 in
theorem dread_any (own : Nat → Option Role) (lay : Nat → NA) (p mb : Nat) (T : PT) (x : ByteArray) (l : List ByteArray) (i : Nat) (n : PN) (m0 : Int) (wb : Nat) (nv fv : Value) (w : World) (h : PlainAt w own lay p mb T) (hT : T.Wf)
    (hs : spl x = (l, 0)) (hw : T.walk l 1 = (i, 0)) (hg : getS i T.nodes = some n) (hd : n.dir = false) (hx : x.size ≤ 100000) (hm : w.cell? ⟨0, 0, none⟩ = some (.int .i64 m0)) (hwb : Blk w wb 89 [ifV p, nv, fv]) :
    Calls Tryz.prog 87 #[.pointer (some ⟨wb, 0, none⟩), .string x, .int .i64 (n.size : Int)] w (RdP n.data n.size w) := by
  obtain ⟨i0, hi, hz0, hz1, hz2⟩ := info_parts infoU8
  have hsz := (hT.ok.get hg).1.size
  obtain ⟨size, hsE⟩ : ∃ size, n.size = size := ⟨_, rfl⟩
  obtain ⟨Q, hQ⟩ : ∃ Q, RdP n.data n.size w = Q := ⟨_, rfl⟩
  rw [hQ]
  rw [hsE] at hsz hQ ⊢
  have hQH := Lib.hid hQ
  have hask : ∀ (W : World) (k m : Nat), Below w.heap.size w W → k < size → 0 < m → m ≤ 131072 → m ≤ size - k → Calls Tryz.prog 51 #[ifV p, .agg #[.int .i64 9, .string x, .string ⟨#[]⟩, .int .i64 (k : Int), .int .i64 (m : Int), .slice none 0 0, .int .i64 0, .int .i64 0]] W (AskA ⟨0, st0, rdL n.data k m, []⟩ W) := fun W k m hb hk h0 hm1 hm2 => by
    have h9 := ask_q own lay p mb T (opR x k m) none 0 m0 W (h.fresh hb) hT (.inl rfl) (fine_R _ _ _) (by show (k : Int) ≤ _ ∧ _ ≤ (k : Int); omega) (by show (m : Int) ≤ _ ∧ _ ≤ (m : Int); omega) hx ((hb.cell (p := ⟨0, 0, none⟩) (World.block_lt_of_cell? _ _ hm)).trans hm)
    rw [run_read hs hw hg hd] at h9
    have hr : n.read (k : Int) (m : Int) = ⟨0, st0, rdL n.data k m, []⟩ := by
      unfold PN.read
      rw [if_neg (by omega), if_neg (by omega)]
      simp only [Int.toNat_natCast]
      rw [show min m (n.size - k) = m by omega]
    rw [hr] at h9
    exact h9
  have haskH := Lib.hid hask
  have hwbH := Lib.hid hwb
  clear hask hQ h hT hs hw hg hm hwb
  go_enter Tryz.func87, Tryz.ntmps87
  go_wp2
  go_loopw [8] (fun v wr => ∃ k : Nat, k ≤ size ∧ wr.ownsRow w.heap.size 5 1 v k (bvs (rdL n.data 0 k)) ∧ Hid (Below w.heap.size w wr)) (fun v _ => size - slLen v)
  case atStart => exact ⟨0, Nat.zero_le _, World.ownsRow_nil _ _ _ _, Lib.hid (Below.refl _ _)⟩
  case round =>
    obtain ⟨k, hk, ho, hbw⟩ := hrel
    obtain ⟨A8, c8, rfl, -⟩ := Sees.of_own (B := wr.heap.size) ho fun g hg => (ho.lt g hg).2
    have hwl : wb < w.heap.size := hwbH.out.lt
    have hw2 := hwbH.out.below hbw.out hwl
    have y0 := hw2.cell 0
    simp only [List.getElem?_cons_zero, ifV] at y0
    by_cases hlt : k < size
    · have t1 : decide ((k : Int) < (size : Int)) = true := by simpa using hlt
      obtain ⟨m, hmE⟩ : ∃ m, min 131072 (size - k) = m := ⟨_, rfl⟩
      have hmm : min 131072 ((size : Int) - (k : Int)) = (m : Int) := by omega
      have hcs := haskH.out wr k m hbw.out hlt (by omega) (by omega) (by omega)
      unfold ifV at hcs
      have hmH := Lib.hid hmE
      clear hmE hw2
      go_upto_region 4 with (first
        | (go_at_call 51; refine hcs.mono ?_; rintro e w1 ⟨v, rfl, hA, -, hb1⟩; obtain ⟨dA, dc, eA, ec, rfl, hsd, -⟩ := hA; simp only [List.length_nil, rdL_length] at hsd ⊢; have hN1 := Blk.new w1 67 zAns)
        | (refine wpList_store_row rfl 67 (.tmp 9) (.tmp 30) rfl w1.heap.size (ansC 0 st0 (.slice dA m dc) (.slice eA 0 ec)).toArray rfl (by rfl) 67 _ hN1 rfl rfl (one10s _ _ _ _ _ _ _ _) ?_))
      have hQ2 : Blk ((w1.alloc (.cells zAns.toArray 67)).setRow w1.heap.size (ansC 0 st0 (.slice dA m dc) (.slice eA 0 ec)).toArray) w1.heap.size 67 (ansC 0 st0 (.slice dA m dc) (.slice eA 0 ec)) := setRow_heap (w1.alloc (.cells zAns.toArray 67)) w1.heap.size _ (ansC 0 st0 (.slice dA m dc) (.slice eA 0 ec)).toArray _ _ hN1
      have hb2 : Below w1.heap.size w1 ((w1.alloc (.cells zAns.toArray 67)).setRow w1.heap.size (ansC 0 st0 (.slice dA m dc) (.slice eA 0 ec)).toArray) := ((Chg.refl (fun b => w1.heap.size ≤ b) w1).alloc _ |>.setRow (fun _ => Nat.le_refl _) _).below (Nat.le_refl _) fun b hb e => by omega
      have hs2 := (hsd.below hb2).more hb2.size
      have hbr : Below wr.heap.size wr ((w1.alloc (.cells zAns.toArray 67)).setRow w1.heap.size (ansC 0 st0 (.slice dA m dc) (.slice eA 0 ec)).toArray) := hb1.trans (hb2.mono hb1.size)
      have ho2 := own_fresh ho hbr
      change Code.wp _ _ _ _ ((w1.alloc (.cells zAns.toArray 67)).setRow w1.heap.size (ansC 0 st0 (.slice dA m dc) (.slice eA 0 ec)).toArray)
      generalize (w1.alloc (.cells zAns.toArray 67)).setRow w1.heap.size (ansC 0 st0 (.slice dA m dc) (.slice eA 0 ec)).toArray = w2 at *
      have x7 : w2.cell? ⟨w1.heap.size, 7, none⟩ = some (.slice dA m dc) := hQ2.cell 7
      have hm0 : ((m : Int) == 0) = false := by have := hmH.out; simp; omega
      have hbrH := Lib.hid hbr
      have hkm : k + m ≤ size := by have := hmH.out; omega
      have hwz : w.heap.size ≤ wr.heap.size := hbw.out.size
      have hrd := Lib.hid (rdL_add n.data k m)
      clear hN1 hb2 hb1 hsd hbr hcs
      generalize hdd : rdL n.data k m = dd at *
      generalize hdk : rdL n.data 0 k = dk at *
      have hddl : dd.length = m := by rw [← hdd, rdL_length]
      have hddH := Lib.hid hddl
      clear hdd hdk hddl
      go_wp2_with (first
        | (at_builtin; refine wpList_app _ rfl _ _ _ _ rfl w.heap.size 5 i0 (.int .u8 0) 1 1 Tryz.underlying64 hi hz0 hz1 hz2 rfl (.slice A8 k c8) k (bvs dk) rfl ho2 m (bvs dd) (src_sees w2 Tryz.underlying64 dc hs2 (bvs_one dd)) (by unfold maxLen; omega) (by omega) (by have := hbrH.out.size; omega) ?_; intro v3 w3 ho3 hg3 hat3))
      obtain ⟨A9, c9, e9, -⟩ := Sees.of_own (B := w3.heap.size) ho3 fun g hg => (ho3.lt g hg).2
      have hb3 : Below w.heap.size w w3 := by
        refine (hbw.out.trans (hbrH.out.mono hwz)).trans ((Chg.grown (S := fun b => w.heap.size ≤ b) (Chg.refl _ w2) hg3 fun g e hl => (ho2.lt g e).1).below (by have := hbrH.out.size; omega) fun b hb e => by omega)
      refine ⟨⟨k + m, hkm, ?_, Lib.hid hb3⟩, ?_⟩
      · rw [hrd.out, bvs_append]
        exact ho3
      · rw [e9]
        show size - (k + m) < size - k
        have := hmH.out
        omega
    · obtain rfl : k = size := by omega
      have t1 : decide ((k : Int) < (k : Int)) = false := by simp
      clear hw2
      go_wp2
      rw [← hQH.out]
      exact ⟨_, rfl, ho, hbw.out⟩
#print axioms dread_any
end Go.Proofs.YtolpcfhfcdkokaaGreatDoor
