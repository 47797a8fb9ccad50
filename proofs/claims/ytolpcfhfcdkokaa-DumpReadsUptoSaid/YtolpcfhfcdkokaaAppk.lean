/-
  append once more, told with what becomes of the row that was: it is written on in its place, or nothing that was has changed. Rows all of whose elements are alike in one cell.
-/
import Derived.Test.YtolpcfhfcdkokaaApp
namespace Go.Proofs.Ytolpcfhfcdkokaa
open Go.RowKit

section
variable {P : Program} (w : World)
theorem run_appk (base : Nat) (t tx ty e : TypeId) (i : TypeInfo) (z : Value) (size bytes : Nat) (ht : P.underlying t = some (.slice e)) (hi : P.info? e = some i) (hz : i.zero = some z)
    (hsize : i.size = size) (hby : i.bytes = bytes) (hzs : z.cells.size = size)
    (v : Value) (n : Nat) (xs : List Value) (hown : w.ownsRow base e size v n xs) (x : Value) (m : Nat) (news : List Value) (hs : Src P size tx x m news w)
    (h63 : n + m ≤ maxLen) (hbytes : (n + m) * bytes ≤ 140737488355328) (hbase : base ≤ w.heap.size) :
    ∃ v' w', (Builtin.append_ #[t, tx] ty #[v, x]).run P w = .ok v' w' ∧ w'.ownsRow base e size v' (n + m) (xs ++ news) ∧ w.grownBy w' v.ownBlock ∧
      (v'.ownBlock = v.ownBlock ∨ (v'.ownBlock = some w.heap.size ∧ Below w.heap.size w w')) := by
  subst hsize
  subst hby
  have hsmall : ((n + m : Nat) : Int) ≤ 9223372036854775807 := by simp only [maxLen] at h63; omega
  have hlen : (xs ++ news).length = (n + m) * i.size := by rw [List.length_append, hown.1, hs.newsLen, Nat.add_mul]
  have grown : ∀ (old : Nat), old < n + m → ∀ (row : Option Nat),
      (w.drew.alloc (.cells ((xs ++ news).toArray ++ Builtin.zeroCells z.cells (grownCap w (n + m) old e - (n + m))) e)).ownsRow base e i.size
        (.slice (some ⟨w.heap.size, 0, none⟩) (n + m) (grownCap w (n + m) old e)) (n + m) (xs ++ news) ∧
      w.grownBy (w.drew.alloc (.cells ((xs ++ news).toArray ++ Builtin.zeroCells z.cells (grownCap w (n + m) old e - (n + m))) e)) row := by
    intro old ho row
    have hge := grownCap_ge w (n + m) old e
    have hcm : grownCap w (n + m) old e ≤ maxLen := grownCap_le_maxLen w (n + m) old e h63
    refine ⟨⟨hlen, .inr ⟨w.heap.size, _, _, rfl, hbase, heap_alloc_new w.drew _, hge, hcm, ?_, ?_⟩⟩, ⟨rfl, rfl, rfl, by simp, fun k hk _ => Below.heap_alloc w.drew _ k hk⟩⟩
    · simp only [Array.size_append, List.size_toArray, size_zeroCells, hzs, hlen, ← Nat.add_mul]
      congr 1
      omega
    · simp only [Array.toList_append]
      rw [← hlen]
      exact List.take_left
  rcases hown.2 with ⟨rfl, rfl⟩ | ⟨g, cap, cur, rfl, hbg, hg, hnc, hcm, hcs, htake⟩
  · have hx : xs = [] := List.eq_nil_of_length_eq_zero (by simpa using hown.1)
    subst hx
    by_cases hm : m = 0
    · subst hm
      have hn : news = [] := List.eq_nil_of_length_eq_zero (by simpa using hs.newsLen)
      subst hn
      refine ⟨.slice none 0 0, w, ?_, World.ownsRow_nil w base e i.size, ⟨rfl, rfl, rfl, Nat.le_refl _, fun _ _ _ => rfl⟩, Or.inl rfl⟩
      rcases hs.kind with ⟨e', hk⟩ | hk <;> simp [Builtin.append_, run_underlying ht, run_underlying hk, sizeOf, typeInfo, hi, hs.len, hs.cells]
    · have hr := run_append_grow_src (P := P) w t tx ty e i z ht hi hz none 0 0 [] (by exact run_firstCells_none w.drew i.size 0 0 0) x m news hs (by omega) hsmall (growslice_fits (by omega) hbytes)
      have hgr := grown 0 (by omega) (Value.ownBlock (.slice none 0 0))
      simp only [Nat.zero_add, List.nil_append] at hgr hr ⊢
      exact ⟨_, _, hr, hgr.1, hgr.2, Or.inr ⟨rfl, (Below.refl _ _).drew.alloc (Nat.le_refl _) _⟩⟩
  · by_cases hroom : n + m ≤ cap
    · have hfit : n * i.size + news.length ≤ cur.size := by rw [hs.newsLen, hcs, ← Nat.add_mul]; exact Nat.mul_le_mul_right _ hroom
      have hst := run_storeCells_at P g (n * i.size) e news 0 cur w hg (by simpa using hfit) hs.one
      simp only [Nat.add_zero] at hst
      have hr : (Builtin.append_ #[t, tx] ty #[.slice (some ⟨g, 0, none⟩) n cap, x]).run P w =
          .ok (.slice (some ⟨g, 0, none⟩) (n + m) cap) (w.setRow g (cur.toList.take (n * i.size) ++ news ++ cur.toList.drop (n * i.size + news.length)).toArray) := by
        rcases hs.kind with ⟨e', hk⟩ | hk <;> simp [Builtin.append_, run_underlying ht, run_underlying hk, sizeOf, typeInfo, hi, hs.len, hroom, hs.cells, Addr.add_lit, hst]
      refine ⟨_, _, hr, ⟨hlen, .inr ⟨g, cap, _, rfl, hbg, setRow_heap w g cur _ e _ hg, hroom, hcm, ?_, ?_⟩⟩, ⟨rfl, rfl, rfl, by simp, fun k _ hk => setRow_other w g k _ (fun e => hk (by simp [Value.ownBlock, e]))⟩, Or.inl rfl⟩
      · simp only [List.size_toArray, List.length_append, List.length_take, List.length_drop, Array.length_toList]
        omega
      · rw [htake, ← hlen]
        exact List.take_left
    · have hold : (Builtin.firstCells i.size n (.slice (some ⟨g, 0, none⟩) n cap)).run P w.drew = .ok xs.toArray w.drew :=
        run_firstCells_some w.drew i.size n ⟨g, 0, none⟩ n cap xs hown.1 (fun j u hu => by simpa using hown.cells (g := g) rfl j u hu)
      have hr := run_append_grow_src (P := P) w t tx ty e i z ht hi hz (some ⟨g, 0, none⟩) n cap xs hold x m news hs (by omega) hsmall (growslice_fits (by omega) hbytes)
      have hgr := grown cap (by omega) (Value.ownBlock (.slice (some ⟨g, 0, none⟩) n cap))
      exact ⟨_, _, hr, hgr.1, hgr.2, Or.inr ⟨rfl, (Below.refl _ _).drew.alloc (Nat.le_refl _) _⟩⟩

theorem wp_appk {o : Oper} {a : Act} {K : Act → World → Prop} {Q : Exit → Act → World → Prop} (s x : Operand) (t tx : TypeId)
    (ho : o.op = .call { callee := .builtin .append, args := #[s, x], argTypes := #[t, tx] })
    (base : Nat) (e : TypeId) (i : TypeInfo) (z : Value) (size bytes : Nat) (ht : P.underlying t = some (.slice e)) (hi : P.info? e = some i) (hz : i.zero = some z)
    (hsize : i.size = size) (hby : i.bytes = bytes) (hzs : z.cells.size = size)
    (v : Value) (n : Nat) (xs : List Value) (hs : a.eval s = v) (hown : w.ownsRow base e size v n xs) (m : Nat) (news : List Value) (hsrc : Src P size tx (a.eval x) m news w)
    (h63 : n + m ≤ maxLen) (hbytes : (n + m) * bytes ≤ 140737488355328) (hbase : base ≤ w.heap.size)
    (h : ∀ v' w', w'.ownsRow base e size v' (n + m) (xs ++ news) → w.grownBy w' v.ownBlock → (v'.ownBlock = v.ownBlock ∨ (v'.ownBlock = some w.heap.size ∧ Below w.heap.size w w')) → K (a.put o.dst v') w') : o.wp P a w K Q := by
  obtain ⟨v', w', hrun, h2, h3, h4⟩ := run_appk (P := P) w base t tx o.type e i z size bytes ht hi hz hsize hby hzs v n xs hown (a.eval x) m news hsrc h63 hbytes hbase
  unfold Oper.wp execOp
  simp only [ho, resolve, invoke, builtin, Sem.run_bind, Sem.run_pure, Result.andThen_ok, List.map_toArray, List.map_cons, List.map_nil, hs, hrun]
  exact h v' w' h2 h3 h4

theorem wpList_appk {ops : Array Oper} {rest : List Oper} {o : Oper} {a : Act} {Q : Exit → Act → World → Prop} (hgd : o.guard = none) (s x : Operand) (t tx : TypeId)
    (ho : o.op = .call { callee := .builtin .append, args := #[s, x], argTypes := #[t, tx] })
    (base : Nat) (e : TypeId) (i : TypeInfo) (z : Value) (size bytes : Nat) (ht : P.underlying t = some (.slice e)) (hi : P.info? e = some i) (hz : i.zero = some z)
    (hsize : i.size = size) (hby : i.bytes = bytes) (hzs : z.cells.size = size)
    (v : Value) (n : Nat) (xs : List Value) (hs : a.eval s = v) (hown : w.ownsRow base e size v n xs) (m : Nat) (news : List Value) (hsrc : Src P size tx (a.eval x) m news w)
    (h63 : n + m ≤ maxLen) (hbytes : (n + m) * bytes ≤ 140737488355328) (hbase : base ≤ w.heap.size)
    (h : ∀ v' w', w'.ownsRow base e size v' (n + m) (xs ++ news) → w.grownBy w' v.ownBlock → (v'.ownBlock = v.ownBlock ∨ (v'.ownBlock = some w.heap.size ∧ Below w.heap.size w w')) → wpList P ops Q rest (a.put o.dst v') w') : wpList P ops Q (o :: rest) a w :=
  wpList_plain hgd fun _ hK => wp_appk w s x t tx ho base e i z size bytes ht hi hz hsize hby hzs v n xs hs hown m news hsrc h63 hbytes hbase fun v' w' h2 h3 h4 => hK _ _ (h v' w' h2 h3 h4)


end

/-- Every element's cell 'off' is u. -/
def All (w : World) (v : Value) (n size off : Nat) (u : Value) : Prop := ∀ g, v.ownBlock = some g → ∀ k, k < n → w.cell? ⟨g, k * size + off, none⟩ = some u
/-- A row of one's own, every element's cell 'off' is u. -/
def OwnA (w : World) (B : Nat) (e : TypeId) (size : Nat) (v : Value) (n off : Nat) (u : Value) : Prop := ∃ xs, w.ownsRow B e size v n xs ∧ ∀ k, k < n → xs[k * size + off]? = some u
/-- A slice value of so many elements. -/
def Form (v : Value) (n : Nat) : Prop := ∃ A c, v = .slice A n c ∧ (0 < n → ∃ g, A = some ⟨g, 0, none⟩)
section
variable {w w1 : World} {B : Nat} {e : TypeId} {size n off : Nat} {v : Value} {u : Value}
theorem All.chg {S : Nat → Prop} (h : All w v n size off u) (hc : Chg S w w1) (hS : ∀ g, v.ownBlock = some g → ¬ S g) : All w1 v n size off u := fun g hg k hk =>
  (hc.cell (p := ⟨g, k * size + off, none⟩) (World.block_lt_of_cell? w _ (h g hg k hk)) (hS g hg)).trans (h g hg k hk)
theorem All.fresh (h : All w v n size off u) (hc : Below w.heap.size w w1) : All w1 v n size off u := fun g hg k hk =>
  (hc.cell (p := ⟨g, k * size + off, none⟩) (World.block_lt_of_cell? w _ (h g hg k hk))).trans (h g hg k hk)
theorem form_own {xs : List Value} (h : w.ownsRow B e size v n xs) : Form v n := by
  obtain ⟨A, c, hv, _⟩ := Sees.of_own (B := w.heap.size) h fun g hg => (h.lt g hg).2
  refine ⟨A, c, hv, fun hn => ?_⟩
  obtain ⟨g, cap, hv', _⟩ := h.form hn
  rw [hv] at hv'
  injection hv' with h1
  exact ⟨g, h1⟩
theorem OwnA.form (h : OwnA w B e size v n off u) : Form v n := by
  obtain ⟨xs, ho, _⟩ := h
  exact form_own ho
theorem own_cell {xs : List Value} (h : w.ownsRow B e size v n xs) {g : Nat} (hg : v.ownBlock = some g) {j : Nat} {x : Value} (hx : xs[j]? = some x) : w.cell? ⟨g, j, none⟩ = some x := by
  rcases h.2 with ⟨rfl, rfl⟩ | ⟨g', cap, cur, rfl, _⟩
  · cases hg
  · have e : g' = g := by simpa [Value.ownBlock] using hg
    subst e
    have h2 := h.cells (g := g') rfl j x hx
    rw [Addr.add_lit, Nat.zero_add] at h2
    exact h2
theorem OwnA.all (h : OwnA w B e size v n off u) : All w v n size off u := by
  obtain ⟨xs, ho, hx⟩ := h
  exact fun g hg k hk => own_cell ho hg (hx k hk)
theorem OwnA.chg {S : Nat → Prop} (h : OwnA w B e size v n off u) (hc : Chg S w w1) (hS : ∀ g, v.ownBlock = some g → ¬ S g) : OwnA w1 B e size v n off u := by
  obtain ⟨xs, ho, hx⟩ := h
  exact ⟨xs, own_chg ho hc hS, hx⟩
theorem OwnA.fresh (h : OwnA w B e size v n off u) (hc : Below w.heap.size w w1) : OwnA w1 B e size v n off u := by
  obtain ⟨xs, ho, hx⟩ := h
  exact ⟨xs, own_fresh ho hc, hx⟩
end
/-- One element more on a row that began as d: what d had it still has. -/
theorem keep_app {wo w W w' : World} {d v v' : Value} {B : Nat} {e : TypeId} {size n m off : Nat} {u : Value} {xs : List Value} (hG : Grows wo d w v) (hA : All w d n size off u)
    (hW : Below w.heap.size w W) (ho : w'.ownsRow B e size v' m xs) (hxs : ∀ k, k < n → xs[k * size + off]? = some u) (hg : W.grownBy w' v.ownBlock) (hat : v'.ownBlock = v.ownBlock ∨ (v'.ownBlock = some W.heap.size ∧ Below W.heap.size W w')) :
    All w' d n size off u ∧ Grows wo d w' v' := by
  have hsz := hG.chg.size
  have hszW := hW.size
  have hG2 : Grows w v w' v' := ⟨(Chg.of_fresh hW).grown hg fun _ e _ => e, hat.imp id fun e => ⟨_, e.1, hszW⟩⟩
  refine ⟨?_, hG.trans hG2⟩
  rcases hat with he | ⟨_, hb⟩
  · intro g hgd k hk
    by_cases hv : v.ownBlock = some g
    · exact own_cell ho (he.trans hv) (hxs k hk)
    · exact (hA.chg hG2.chg (fun g' hg' e' => by rw [hgd] at hg'; injection hg' with hg'; subst hg'; exact hv e')) g hgd k hk
  · exact (hA.fresh hW).fresh hb
#print axioms keep_app
end Go.Proofs.Ytolpcfhfcdkokaa
