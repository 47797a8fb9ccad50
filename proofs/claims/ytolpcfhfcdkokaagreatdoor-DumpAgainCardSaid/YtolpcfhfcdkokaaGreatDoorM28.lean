/- Joined out of the texts PFine. -/
import Derived.Test.YtolpcfhfcdkokaaGreatDoorM23
import Derived.Test.YtolpcfhfcdkokaaGreatDoorM27
/-
  Which operations may be: uses, fine.
-/
namespace Go.Proofs.YtolpcfhfcdkokaaGreatDoor
open Go.RowKit Go.Proofs
open Go.Maps (Keyed)

def runK : KE Int where
  enc n := .int .i32 n
  val n := .int .i32 n
  lt a b := decide (a < b)
  before_eq a b := by simp [Lit.before]
  same_iff a b := by simp [Lit.sameKey]
  isKey _ := trivial
theorem kRun : Keyed Tryz.prog 21 := Go.Maps.int_keyed Tryz.underlying21
theorem keyR (n : Int) (h : 0 ≤ n ∧ n ≤ 1000000) : keyOf Tryz.prog 21 (runK.val n) = some (runK.enc n) := Go.Maps.keyOf_int_mk Tryz.underlying21 (WalkArith.wf_i32 (by omega))
/-- An iterator over a string, moved on. -/
def setIter (W : World) (r : Nat) (s : ByteArray) (pos : Nat) : World := { W with heap := W.heap.setIfInBounds r (.stringIter s pos) }
theorem run_next_at {P : Program} {W : World} {r : Nat} {s : ByteArray} {pos : Nat} (h : W.heap[r]? = some (.stringIter s pos)) (hp : pos < s.size) (ty : TypeId) :
    (Instr.next (.pointer (some ⟨r, 0, none⟩)) true ty).run P W = .ok (.tuple #[.bool true, .int .i64 pos, .int .i32 (Utf8.decode s pos).1]) (setIter W r s (pos + (Utf8.decode s pos).2)) := by
  simp only [Instr.next, getObj, setObj, Sem.run_bind, Sem.run, h, Result.andThen, hp, if_true]
  simp [goInt, setIter]
theorem run_next_over {P : Program} {W : World} {r : Nat} {s : ByteArray} {pos : Nat} (h : W.heap[r]? = some (.stringIter s pos)) (hp : ¬ pos < s.size) (ty : TypeId) :
    (Instr.next (.pointer (some ⟨r, 0, none⟩)) true ty).run P W = .ok (.tuple #[.bool false]) W := by
  simp [Instr.next, getObj, Sem.run, h, hp]
theorem setIter_at {W : World} {r : Nat} (h : r < W.heap.size) (s : ByteArray) (pos : Nat) : (setIter W r s pos).heap[r]? = some (.stringIter s pos) := by
  simp [setIter, h]
theorem setIter_chg (W : World) (r : Nat) (s : ByteArray) (pos : Nat) : Chg (fun b => b = r) W (setIter W r s pos) := by
  refine ⟨rfl, rfl, rfl, by simp [setIter], fun b _ hb => ?_⟩
  simp only [setIter]
  rw [Array.getElem?_setIfInBounds_ne (fun e => hb e.symm)]

/-- An operation in memory. -/
def opC (o : Opn) (A : Option Addr) (c : Nat) : List Value := [.int .i64 o.kind, .string o.path, .string o.dst, .int .i64 o.off, .int .i64 o.len, .slice A o.data.length c, .int .i64 o.made, .int .i64 o.pick]
def opV (o : Opn) (A : Option Addr) (c : Nat) : Value := .agg (opC o A c).toArray

def usesL : List ByteArray := [⟨#[]⟩, ⟨#[112, 109]⟩, ⟨#[112, 109]⟩, ⟨#[112, 116]⟩, ⟨#[112]⟩, ⟨#[112]⟩, ⟨#[112, 116]⟩, ⟨#[112, 111, 100]⟩, ⟨#[112, 111]⟩, ⟨#[112, 111, 108]⟩, ⟨#[112]⟩, ⟨#[112]⟩, ⟨#[]⟩, ⟨#[112]⟩, ⟨#[102]⟩]
def usesS (k : Int) : ByteArray := usesL.getD k.toNat emp
def anyc (c : Int) (s : ByteArray) : Bool := s.data.toList.any fun b => ((b.toNat : Int) == c)
theorem kinds {P : Int → Prop} (h1 : P 1) (h2 : P 2) (h3 : P 3) (h4 : P 4) (h5 : P 5) (h6 : P 6) (h7 : P 7) (h8 : P 8) (h9 : P 9) (h10 : P 10) (h11 : P 11) (h12 : P 12) (h13 : P 13) (h14 : P 14) (k : Int) (hk : 1 ≤ k ∧ k ≤ 14) : P k := by
  have : k = 1 ∨ k = 2 ∨ k = 3 ∨ k = 4 ∨ k = 5 ∨ k = 6 ∨ k = 7 ∨ k = 8 ∨ k = 9 ∨ k = 10 ∨ k = 11 ∨ k = 12 ∨ k = 13 ∨ k = 14 := by omega
  rcases this with rfl | rfl | rfl | rfl | rfl | rfl | rfl | rfl | rfl | rfl | rfl | rfl | rfl | rfl <;> assumption
theorem uses_pat (k : Int) (hk : 1 ≤ k ∧ k ≤ 14) : usesS k = ⟨#[112, 109]⟩ ∨ usesS k = ⟨#[112, 116]⟩ ∨ usesS k = ⟨#[112]⟩ ∨ usesS k = ⟨#[112, 111, 100]⟩ ∨ usesS k = ⟨#[112, 111]⟩ ∨ usesS k = ⟨#[112, 111, 108]⟩ ∨ usesS k = ⟨#[]⟩ ∨ usesS k = ⟨#[102]⟩ := by
  revert k
  refine fun k hk => kinds (P := fun k => usesS k = ⟨#[112, 109]⟩ ∨ usesS k = ⟨#[112, 116]⟩ ∨ usesS k = ⟨#[112]⟩ ∨ usesS k = ⟨#[112, 111, 100]⟩ ∨ usesS k = ⟨#[112, 111]⟩ ∨ usesS k = ⟨#[112, 111, 108]⟩ ∨ usesS k = ⟨#[]⟩ ∨ usesS k = ⟨#[102]⟩) ?_ ?_ ?_ ?_ ?_ ?_ ?_ ?_ ?_ ?_ ?_ ?_ ?_ ?_ k hk
  all_goals decide
theorem uses_bits (k : Int) (hk : 1 ≤ k ∧ k ≤ 14) : useP k = anyc 112 (usesS k) ∧ useT k = anyc 116 (usesS k) ∧ useO k = anyc 111 (usesS k) ∧ useL k = anyc 108 (usesS k) ∧ useD k = anyc 100 (usesS k) ∧ useM k = anyc 109 (usesS k) ∧ useF k = anyc 102 (usesS k) := by
  refine kinds (P := fun k => useP k = anyc 112 (usesS k) ∧ useT k = anyc 116 (usesS k) ∧ useO k = anyc 111 (usesS k) ∧ useL k = anyc 108 (usesS k) ∧ useD k = anyc 100 (usesS k) ∧ useM k = anyc 109 (usesS k) ∧ useF k = anyc 102 (usesS k)) ?_ ?_ ?_ ?_ ?_ ?_ ?_ ?_ ?_ ?_ ?_ ?_ ?_ ?_ k hk
  all_goals decide
theorem uses_small (k : Int) (hk : 1 ≤ k ∧ k ≤ 14) : (usesS k).size ≤ 3 ∧ ∀ b ∈ (usesS k).data.toList, b.toNat < 128 := by
  refine kinds (P := fun k => (usesS k).size ≤ 3 ∧ ∀ b ∈ (usesS k).data.toList, b.toNat < 128) ?_ ?_ ?_ ?_ ?_ ?_ ?_ ?_ ?_ ?_ ?_ ?_ ?_ ?_ k hk
  all_goals decide
theorem fine_bits (o : Opn) (hk : 1 ≤ o.kind ∧ o.kind ≤ 14) (hm : 0 ≤ o.made ∧ o.made ≤ 1099511627776) :
    o.fine = ((anyc 112 (usesS o.kind) || decide (o.path = emp)) && (anyc 116 (usesS o.kind) || decide (o.dst = emp)) && (anyc 111 (usesS o.kind) || decide (o.off = 0)) && (anyc 108 (usesS o.kind) || decide (o.len = 0)) && (anyc 100 (usesS o.kind) || decide (o.data.length = 0)) && (anyc 109 (usesS o.kind) || decide (o.made = 0)) && (anyc 102 (usesS o.kind) || decide (o.pick = 0))) := by
  obtain ⟨h1, h2, h3, h4, h5, h6, h7⟩ := uses_bits o.kind hk
  rw [← h1, ← h2, ← h3, ← h4, ← h5, ← h6, ← h7, Bool.eq_iff_iff]
  unfold Opn.fine
  simp only [decide_eq_true_eq, Bool.and_eq_true, Bool.or_eq_true]
  constructor
  · rintro ⟨_, _, _, _, a1, a2, a3, a4, a5, a6, a7⟩
    exact ⟨⟨⟨⟨⟨⟨a1, a2⟩, a3⟩, a4⟩, a5⟩, a6⟩, a7⟩
  · rintro ⟨⟨⟨⟨⟨⟨a1, a2⟩, a3⟩, a4⟩, a5⟩, a6⟩, a7⟩
    exact ⟨hk.1, hk.2, hm.1, hm.2, a1, a2, a3, a4, a5, a6, a7⟩
theorem isE_yes {s : ByteArray} (h : s = emp) : s.toList.isEmpty = true := by rw [toList_data, h]; rfl
theorem isE_no {s : ByteArray} (h : ¬ s = emp) : s.toList.isEmpty = false := by
  cases hx : s.toList.isEmpty with
  | false => rfl
  | true => exact absurd (toList_emp (by simpa using hx)) h
theorem beqz_yes {x : Int} (h : x = 0) : (x == 0) = true := by simpa using h
theorem beqz_no {x : Int} (h : ¬ x = 0) : (x == 0) = false := by simpa using h
theorem beqn_yes {x : Nat} (h : x = 0) : ((x : Int) == 0) = true := by simp; omega
theorem beqn_no {x : Nat} (h : ¬ x = 0) : ((x : Int) == 0) = false := by simp; omega
set_option maxRecDepth 100000 in
theorem uses_any (k : Int) (hk : 1 ≤ k ∧ k ≤ 14) (w : World) : Calls Tryz.prog 61 #[.int .i64 k] w fun e w' => e = .returned (.string (usesS k)) ∧ Below w.heap.size w w' := by
  obtain ⟨s, hs⟩ : ∃ s, usesS k = s := ⟨_, rfl⟩
  rw [hs]
  have hl : ([Value.string ⟨#[]⟩, Value.string ⟨#[112, 109]⟩, Value.string ⟨#[112, 109]⟩, Value.string ⟨#[112, 116]⟩, Value.string ⟨#[112]⟩, Value.string ⟨#[112]⟩, Value.string ⟨#[112, 116]⟩, Value.string ⟨#[112, 111, 100]⟩, Value.string ⟨#[112, 111]⟩, Value.string ⟨#[112, 111, 108]⟩, Value.string ⟨#[112]⟩, Value.string ⟨#[112]⟩, Value.string ⟨#[]⟩, Value.string ⟨#[112]⟩, Value.string ⟨#[102]⟩] : List Value)[k.toNat]? = some (.string s) := by
    rw [← hs]
    exact kinds (P := fun k => ([Value.string ⟨#[]⟩, Value.string ⟨#[112, 109]⟩, Value.string ⟨#[112, 109]⟩, Value.string ⟨#[112, 116]⟩, Value.string ⟨#[112]⟩, Value.string ⟨#[112]⟩, Value.string ⟨#[112, 116]⟩, Value.string ⟨#[112, 111, 100]⟩, Value.string ⟨#[112, 111]⟩, Value.string ⟨#[112, 111, 108]⟩, Value.string ⟨#[112]⟩, Value.string ⟨#[112]⟩, Value.string ⟨#[]⟩, Value.string ⟨#[112]⟩, Value.string ⟨#[102]⟩] : List Value)[k.toNat]? = some (.string (usesS k))) rfl rfl rfl rfl rfl rfl rfl rfl rfl rfl rfl rfl rfl rfl k hk
  clear hs
  go_enter Tryz.func61, Tryz.ntmps61
  go_wp2
  go_ret
  exact ⟨rfl, (Below.refl _ _).alloc (Nat.le_refl _) _⟩
theorem opC_one (o : Opn) (A : Option Addr) (c : Nat) : (opC o A c).toArray.all (·.oneCell') = true := by
  rw [Array.all_eq_true_iff_forall_mem]
  intro u hu
  simp only [opC, List.mem_toArray, List.mem_cons, List.not_mem_nil, or_false] at hu
  rcases hu with rfl | rfl | rfl | rfl | rfl | rfl | rfl | rfl <;> rfl
def FineI (g r : Nat) (s : ByteArray) (w : World) (cs : List Value) (wr : World) : Prop :=
  ∃ (pos : Nat) (l : List (Int × Unit)), pos ≤ s.size ∧ Hid (wr.heap[r]? = some (.stringIter s pos)) ∧ Hid (MapAt wr runK truV 21 (g + 1) l) ∧ Hid (∀ z : Int, (getS z l).isSome = (s.data.toList.take pos).any fun b => ((b.toNat : Int) == z)) ∧ l.length ≤ pos ∧ Hid (Below g w wr) ∧ Hid (Blk wr g 70 cs)
set_option maxHeartbeats 6400000 in
set_option maxRecDepth 100000 in
theorem fine_any (o : Opn) (A : Option Addr) (c : Nat) (w : World) : Calls Tryz.prog 41 #[opV o A c] w fun e w' => e = .returned (.bool o.fine) ∧ Below w.heap.size w w' := by
  have hmm := @run_makeMap Tryz.prog
  obtain ⟨fb, hfb0⟩ : ∃ fb, o.fine = fb := ⟨_, rfl⟩
  rw [hfb0]
  have hfbH := Lib.hid hfb0
  clear hfb0
  unfold opV opC
  go_enter Tryz.func41, Tryz.ntmps41
  by_cases h1 : o.kind < 1
  · have t1 : decide (o.kind < 1) = true := by simpa using h1
    have hv : fb = false := by rw [← hfbH.out]; unfold Opn.fine; exact decide_eq_false fun h => by omega
    subst hv
    clear hfbH
    go_wp2
    go_ret
    exact ⟨rfl, (Below.refl _ _).alloc (Nat.le_refl _) _⟩
  have t1 : decide (o.kind < 1) = false := by simpa using h1
  by_cases h2 : 14 < o.kind
  · have t2 : decide (14 < o.kind) = true := by simpa using h2
    have hv : fb = false := by rw [← hfbH.out]; unfold Opn.fine; exact decide_eq_false fun h => by omega
    subst hv
    clear hfbH
    go_wp2
    go_ret
    exact ⟨rfl, (Below.refl _ _).alloc (Nat.le_refl _) _⟩
  have t2 : decide (14 < o.kind) = false := by simpa using h2
  by_cases h3 : o.made < 0
  · have t3 : decide (o.made < 0) = true := by simpa using h3
    have hv : fb = false := by rw [← hfbH.out]; unfold Opn.fine; exact decide_eq_false fun h => by omega
    subst hv
    clear hfbH
    go_wp2
    go_ret
    exact ⟨rfl, (Below.refl _ _).alloc (Nat.le_refl _) _⟩
  have t3 : decide (o.made < 0) = false := by simpa using h3
  by_cases h4 : 1099511627776 < o.made
  · have t4 : decide (1099511627776 < o.made) = true := by simpa using h4
    have hv : fb = false := by rw [← hfbH.out]; unfold Opn.fine; exact decide_eq_false fun h => by omega
    subst hv
    clear hfbH
    go_wp2
    go_ret
    exact ⟨rfl, (Below.refl _ _).alloc (Nat.le_refl _) _⟩
  have t4 : decide (1099511627776 < o.made) = false := by simpa using h4
  have hk : 1 ≤ o.kind ∧ o.kind ≤ 14 := by omega
  have hfb1 := fine_bits o hk (by omega)
  rw [hfbH.out] at hfb1
  have hpat := Lib.hid (uses_pat o.kind hk)
  obtain ⟨hs3, hs128'⟩ := uses_small o.kind hk
  have hcall := uses_any o.kind hk
  obtain ⟨s, hs⟩ : ∃ s, usesS o.kind = s := ⟨_, rfl⟩
  rw [hs] at hfb1 hpat hs3 hs128' hcall
  have hfb := Lib.hid hfb1
  clear hfb1
  clear hfbH hs h1 h2 h3 h4
  have hs128 := Lib.hid hs128'
  clear hs128'
  go_upto_region 4 with (fail)
  have hO0 : Blk ((w.alloc (.cells (opC o A c).toArray 70)).alloc (.map #[] 0)) w.heap.size 70 (opC o A c) := (Blk.new w _ _).alloc _
  have hM0 : MapAt ((w.alloc (.cells (opC o A c).toArray 70)).alloc (.map #[] 0)) runK truV 21 (w.heap.size + 1) [] := by
    have := MapAt.made (w.alloc (.cells (opC o A c).toArray 70)) runK truV 21
    simpa using this
  have hB0 : Below w.heap.size w ((w.alloc (.cells (opC o A c).toArray 70)).alloc (.map #[] 0)) := ((Below.refl _ _).alloc (Nat.le_refl _) _).alloc (by simp) _
  have hz0 : ((w.alloc (.cells (opC o A c).toArray 70)).alloc (.map #[] 0)).heap.size = w.heap.size + 2 := by simp
  change Code.wp _ _ _ _ ((w.alloc (.cells (opC o A c).toArray 70)).alloc (.map #[] 0))
  generalize (w.alloc (.cells (opC o A c).toArray 70)).alloc (.map #[] 0) = w0 at *
  obtain ⟨g, hg⟩ : ∃ g, w.heap.size = g := ⟨_, rfl⟩
  rw [hg] at hO0 hM0 hB0 hz0
  simp only [hg]
  have hgH := Lib.hid hg
  have hMH := Lib.hid hM0
  have hBH := Lib.hid hB0
  have z0 : w0.cell? ⟨g, 0, none⟩ = some (.int .i64 o.kind) := hO0.cell 0
  have hOH := Lib.hid hO0
  clear hg hM0 hB0 hO0 t1 t2 t3 t4 hmm
  have hc1 := hcall w0
  clear hcall
  go_wp2_with (go_at_call 61; refine hc1.mono ?_; rintro e w1 ⟨rfl, hb1⟩)
  have hB2 : Below w0.heap.size w0 (w1.iter s 0) := hb1.trans ((below_iter w1 s 0).mono hb1.size)
  have hI2' : (w1.iter s 0).heap[w1.heap.size]? = some (.stringIter s 0) := World.iter_heap w1 s 0
  have hz1 : g + 2 ≤ w1.heap.size := by have := hb1.size; omega
  have hz2 : (w1.iter s 0).heap.size = w1.heap.size + 1 := by simp [World.iter]
  clear hb1
  generalize w1.iter s 0 = w2 at *
  generalize w1.heap.size = r at *
  have hst : Hid (Blk w2 g 70 (opC o A c)) := Lib.hid (hOH.out.fresh hB2)
  have hmp : MapAt w2 runK truV 21 (g + 1) [] := hMH.out.chg (Chg.of_below (B := w0.heap.size) hB2) (by omega)
  have hbw : Hid (Below g w w2) := Lib.hid (hBH.out.trans (hB2.mono (by omega)))
  have hI2 := Lib.hid hI2'
  clear hI2'
  clear hB2 hOH hMH hBH z0 hc1
  go_loopw [5] (fun _ wr => FineI g r s w (opC o A c) wr) (fun _ wr => s.size - wr.iterPos r)
  case atStart => exact ⟨0, [], Nat.zero_le _, hI2, Lib.hid hmp, Lib.hid (fun z => rfl), Nat.le_refl _, hbw, hst⟩
  case round =>
    clear hI2 hmp hbw hst
    obtain ⟨pos, l, hpos, hI, hmp, hbits, hll, hbw, hst⟩ := hrel
    by_cases hp : pos < s.size
    · have hnx : ∀ ty, (Instr.next (.pointer (some ⟨r, 0, none⟩)) true ty).run Tryz.prog wr = _ := fun ty => run_next_at hI.out hp ty
      have hmem : s[pos]'hp ∈ s.data.toList := by rw [Array.mem_toList_iff]; exact Array.getElem_mem _
      have h128 := hs128.out _ hmem
      rw [decode_ascii s pos hp h128] at hnx
      obtain ⟨bt, hbt⟩ : ∃ bt : Nat, (s[pos]'hp).toNat = bt := ⟨_, rfl⟩
      rw [hbt] at hnx h128
      have hbtH := Lib.hid hbt
      have hrl : r < wr.heap.size := (Array.getElem?_eq_some_iff.1 hI.out).1
      have hC3 := setIter_chg wr r s (pos + 1)
      have hI3 := Lib.hid (setIter_at hrl s (pos + 1))
      have hm3 : MapAt (setIter wr r s (pos + 1)) runK truV 21 (g + 1) l := hmp.out.chg hC3 (by omega)
      have hst3 := Lib.hid (hst.out.chg hC3 (by omega))
      have hbw3 := Lib.hid (hbw.out.trans (hC3.below (B := g) (by omega) fun b hb e => by omega))
      have hip : wr.iterPos r = pos := by unfold World.iterPos; rw [hI.out]
      have hipH := Lib.hid hip
      clear hbt hmem hC3 hI hmp hst hbw hip
      generalize setIter wr r s (pos + 1) = w3 at *
      go_wp2_with (first
        | (at_mapUpdate; refine wpList_mput _ rfl _ _ _ 136 (.inl rfl) kRun Tryz.underlying136 hm3 (by unfold maxLen; omega) rfl (bt : Int) rfl (keyR _ (by omega)) () rfl ?_; intro w6 hm6' ht6; have hm6 := Lib.hid hm6'; clear hm6'; have hC6 := Lib.hid (turned_chg ht6); clear ht6))
      have hI6 : w6.heap[r]? = some (.stringIter s (pos + 1)) := (hC6.out.block r (Array.getElem?_eq_some_iff.1 hI3.out).1 (by omega)).trans hI3.out
      go_roundw
      case rel =>
        refine ⟨pos + 1, putS runK (bt : Int) () l, by omega, Lib.hid hI6, hm6, Lib.hid fun z => ?_, ?_, Lib.hid (hbw3.out.trans (hC6.out.below (B := g) (by have := hst3.out.lt; omega) fun b hb e => by omega)), Lib.hid (hst3.out.chg hC6.out (by omega))⟩
        · rw [isSome_put, hbits.out z, List.take_add_one, List.any_append, List.getElem?_eq_getElem (by rw [Array.length_toList]; exact hp)]
          have e2 : (s.data.toList[pos]'(by rw [Array.length_toList]; exact hp)).toNat = bt := hbtH.out
          simp only [Option.toList_some, List.any_cons, List.any_nil, Bool.or_false, e2]
          rw [Bool.or_comm]
          congr 1
          rw [beq_dec]
          exact decide_eq_decide.2 ⟨fun e => e.symm, fun e => e.symm⟩
        · have := length_put_le runK (bt : Int) () l
          omega
      case measure =>
        rw [show w6.iterPos r = pos + 1 by unfold World.iterPos; rw [hI6]]
        rw [hipH.out]
        omega
    · obtain rfl : pos = s.size := by omega
      have hnx : ∀ ty, (Instr.next (.pointer (some ⟨r, 0, none⟩)) true ty).run Tryz.prog wr = _ := fun ty => run_next_over hI.out hp ty
      have lk : ∀ (z : Int) (b : Bool), 0 ≤ z ∧ z ≤ 1000 → anyc z s = b → (Instr.lookup 136 (.map (some (g + 1))) (.int .i32 z) false).run Tryz.prog wr = .ok (.bool b) wr := fun z b hz hb => by
        have hzv : (zeroValue 4).run Tryz.prog wr = .ok (.bool false) wr := by kernel_rfl
        have h9 := hmp.out.look (t := 136) kRun Tryz.underlying136 hzv (keyR z (by omega))
        have h10 := hbits.out z
        rw [List.take_of_length_le (by rw [Array.length_toList]; exact Nat.le_refl _)] at h10
        unfold anyc at hb
        rw [hb] at h10
        rw [show (Value.int .i32 z) = runK.val z from rfl, h9]
        cases hgz : getS z l with
        | none => rw [hgz] at h10; rw [← h10]; rfl
        | some u => rw [hgz] at h10; rw [← h10]; rfl
      have y1 := hst.out.cell 1
      have y2 := hst.out.cell 2
      have y3 := hst.out.cell 3
      have y4 := hst.out.cell 4
      have y5 := hst.out.cell 5
      have y6 := hst.out.cell 6
      have y7 := hst.out.cell 7
      simp only [opC, List.getElem?_cons_succ, List.getElem?_cons_zero] at y1 y2 y3 y4 y5 y6 y7
      go_upto_region 8 with (fail)
      clear hnx hI hmp hbits hst hp hpos hll hs128 hs3 hk
      have hpt := hpat.out
      clear hpat
      rcases hpt with rfl | rfl | rfl | rfl | rfl | rfl | rfl | rfl
      -- BEGIN printed
      · -- the letters 'pm'
        have lp := lk 112 true (by decide) (by decide)
        have lt := lk 116 false (by decide) (by decide)
        have lo := lk 111 false (by decide) (by decide)
        have ll := lk 108 false (by decide) (by decide)
        have ld := lk 100 false (by decide) (by decide)
        have lm := lk 109 true (by decide) (by decide)
        have lf := lk 102 false (by decide) (by decide)
        have hz := hfb
        clear lk hfb
        by_cases ht : o.dst = emp
        case neg =>
          have et : o.dst.toList.isEmpty = false := isE_no ht
          have hv : fb = false := by rw [hz.out]; simp [anyc, ht]
          clear hz ht
          subst hv
          go_wp2
          go_ret
          exact ⟨rfl, by rw [hgH.out]; exact hbw.out⟩
        have et : o.dst.toList.isEmpty = true := isE_yes ht
        have kt := Lib.hid ht
        clear ht
        by_cases ho : o.off = 0
        case neg =>
          have eo : (o.off == 0) = false := beqz_no ho
          have hv : fb = false := by rw [hz.out]; simp [anyc, ho]
          clear hz ho
          subst hv
          go_wp2
          go_ret
          exact ⟨rfl, by rw [hgH.out]; exact hbw.out⟩
        have eo : (o.off == 0) = true := beqz_yes ho
        have ko := Lib.hid ho
        clear ho
        by_cases hl : o.len = 0
        case neg =>
          have el : (o.len == 0) = false := beqz_no hl
          have hv : fb = false := by rw [hz.out]; simp [anyc, hl]
          clear hz hl
          subst hv
          go_wp2
          go_ret
          exact ⟨rfl, by rw [hgH.out]; exact hbw.out⟩
        have el : (o.len == 0) = true := beqz_yes hl
        have kl := Lib.hid hl
        clear hl
        by_cases hd : o.data.length = 0
        case neg =>
          have ed : ((o.data.length : Int) == 0) = false := beqn_no hd
          have hv : fb = false := by rw [hz.out]; simp [anyc, hd]
          clear hz hd
          subst hv
          go_wp2
          go_ret
          exact ⟨rfl, by rw [hgH.out]; exact hbw.out⟩
        have ed : ((o.data.length : Int) == 0) = true := beqn_yes hd
        have kd := Lib.hid hd
        clear hd
        by_cases hf : o.pick = 0
        case neg =>
          have ef : (o.pick == 0) = false := beqz_no hf
          have hv : fb = false := by rw [hz.out]; simp [anyc, hf]
          clear hz hf
          subst hv
          go_wp2
          go_ret
          exact ⟨rfl, by rw [hgH.out]; exact hbw.out⟩
        have ef : (o.pick == 0) = true := beqz_yes hf
        have kf := Lib.hid hf
        clear hf
        have hv : fb = true := by rw [hz.out]; simp [anyc, kt.out, ko.out, kl.out, kd.out, kf.out]
        clear hz kt ko kl kd kf
        subst hv
        go_wp2
        go_ret
        exact ⟨rfl, by rw [hgH.out]; exact hbw.out⟩
      · -- the letters 'pt'
        have lp := lk 112 true (by decide) (by decide)
        have lt := lk 116 true (by decide) (by decide)
        have lo := lk 111 false (by decide) (by decide)
        have ll := lk 108 false (by decide) (by decide)
        have ld := lk 100 false (by decide) (by decide)
        have lm := lk 109 false (by decide) (by decide)
        have lf := lk 102 false (by decide) (by decide)
        have hz := hfb
        clear lk hfb
        by_cases ho : o.off = 0
        case neg =>
          have eo : (o.off == 0) = false := beqz_no ho
          have hv : fb = false := by rw [hz.out]; simp [anyc, ho]
          clear hz ho
          subst hv
          go_wp2
          go_ret
          exact ⟨rfl, by rw [hgH.out]; exact hbw.out⟩
        have eo : (o.off == 0) = true := beqz_yes ho
        have ko := Lib.hid ho
        clear ho
        by_cases hl : o.len = 0
        case neg =>
          have el : (o.len == 0) = false := beqz_no hl
          have hv : fb = false := by rw [hz.out]; simp [anyc, hl]
          clear hz hl
          subst hv
          go_wp2
          go_ret
          exact ⟨rfl, by rw [hgH.out]; exact hbw.out⟩
        have el : (o.len == 0) = true := beqz_yes hl
        have kl := Lib.hid hl
        clear hl
        by_cases hd : o.data.length = 0
        case neg =>
          have ed : ((o.data.length : Int) == 0) = false := beqn_no hd
          have hv : fb = false := by rw [hz.out]; simp [anyc, hd]
          clear hz hd
          subst hv
          go_wp2
          go_ret
          exact ⟨rfl, by rw [hgH.out]; exact hbw.out⟩
        have ed : ((o.data.length : Int) == 0) = true := beqn_yes hd
        have kd := Lib.hid hd
        clear hd
        by_cases hm : o.made = 0
        case neg =>
          have em : (o.made == 0) = false := beqz_no hm
          have hv : fb = false := by rw [hz.out]; simp [anyc, hm]
          clear hz hm
          subst hv
          go_wp2
          go_ret
          exact ⟨rfl, by rw [hgH.out]; exact hbw.out⟩
        have em : (o.made == 0) = true := beqz_yes hm
        have km := Lib.hid hm
        clear hm
        by_cases hf : o.pick = 0
        case neg =>
          have ef : (o.pick == 0) = false := beqz_no hf
          have hv : fb = false := by rw [hz.out]; simp [anyc, hf]
          clear hz hf
          subst hv
          go_wp2
          go_ret
          exact ⟨rfl, by rw [hgH.out]; exact hbw.out⟩
        have ef : (o.pick == 0) = true := beqz_yes hf
        have kf := Lib.hid hf
        clear hf
        have hv : fb = true := by rw [hz.out]; simp [anyc, ko.out, kl.out, kd.out, km.out, kf.out]
        clear hz ko kl kd km kf
        subst hv
        go_wp2
        go_ret
        exact ⟨rfl, by rw [hgH.out]; exact hbw.out⟩
      · -- the letters 'p'
        have lp := lk 112 true (by decide) (by decide)
        have lt := lk 116 false (by decide) (by decide)
        have lo := lk 111 false (by decide) (by decide)
        have ll := lk 108 false (by decide) (by decide)
        have ld := lk 100 false (by decide) (by decide)
        have lm := lk 109 false (by decide) (by decide)
        have lf := lk 102 false (by decide) (by decide)
        have hz := hfb
        clear lk hfb
        by_cases ht : o.dst = emp
        case neg =>
          have et : o.dst.toList.isEmpty = false := isE_no ht
          have hv : fb = false := by rw [hz.out]; simp [anyc, ht]
          clear hz ht
          subst hv
          go_wp2
          go_ret
          exact ⟨rfl, by rw [hgH.out]; exact hbw.out⟩
        have et : o.dst.toList.isEmpty = true := isE_yes ht
        have kt := Lib.hid ht
        clear ht
        by_cases ho : o.off = 0
        case neg =>
          have eo : (o.off == 0) = false := beqz_no ho
          have hv : fb = false := by rw [hz.out]; simp [anyc, ho]
          clear hz ho
          subst hv
          go_wp2
          go_ret
          exact ⟨rfl, by rw [hgH.out]; exact hbw.out⟩
        have eo : (o.off == 0) = true := beqz_yes ho
        have ko := Lib.hid ho
        clear ho
        by_cases hl : o.len = 0
        case neg =>
          have el : (o.len == 0) = false := beqz_no hl
          have hv : fb = false := by rw [hz.out]; simp [anyc, hl]
          clear hz hl
          subst hv
          go_wp2
          go_ret
          exact ⟨rfl, by rw [hgH.out]; exact hbw.out⟩
        have el : (o.len == 0) = true := beqz_yes hl
        have kl := Lib.hid hl
        clear hl
        by_cases hd : o.data.length = 0
        case neg =>
          have ed : ((o.data.length : Int) == 0) = false := beqn_no hd
          have hv : fb = false := by rw [hz.out]; simp [anyc, hd]
          clear hz hd
          subst hv
          go_wp2
          go_ret
          exact ⟨rfl, by rw [hgH.out]; exact hbw.out⟩
        have ed : ((o.data.length : Int) == 0) = true := beqn_yes hd
        have kd := Lib.hid hd
        clear hd
        by_cases hm : o.made = 0
        case neg =>
          have em : (o.made == 0) = false := beqz_no hm
          have hv : fb = false := by rw [hz.out]; simp [anyc, hm]
          clear hz hm
          subst hv
          go_wp2
          go_ret
          exact ⟨rfl, by rw [hgH.out]; exact hbw.out⟩
        have em : (o.made == 0) = true := beqz_yes hm
        have km := Lib.hid hm
        clear hm
        by_cases hf : o.pick = 0
        case neg =>
          have ef : (o.pick == 0) = false := beqz_no hf
          have hv : fb = false := by rw [hz.out]; simp [anyc, hf]
          clear hz hf
          subst hv
          go_wp2
          go_ret
          exact ⟨rfl, by rw [hgH.out]; exact hbw.out⟩
        have ef : (o.pick == 0) = true := beqz_yes hf
        have kf := Lib.hid hf
        clear hf
        have hv : fb = true := by rw [hz.out]; simp [anyc, kt.out, ko.out, kl.out, kd.out, km.out, kf.out]
        clear hz kt ko kl kd km kf
        subst hv
        go_wp2
        go_ret
        exact ⟨rfl, by rw [hgH.out]; exact hbw.out⟩
      · -- the letters 'pod'
        have lp := lk 112 true (by decide) (by decide)
        have lt := lk 116 false (by decide) (by decide)
        have lo := lk 111 true (by decide) (by decide)
        have ll := lk 108 false (by decide) (by decide)
        have ld := lk 100 true (by decide) (by decide)
        have lm := lk 109 false (by decide) (by decide)
        have lf := lk 102 false (by decide) (by decide)
        have hz := hfb
        clear lk hfb
        by_cases ht : o.dst = emp
        case neg =>
          have et : o.dst.toList.isEmpty = false := isE_no ht
          have hv : fb = false := by rw [hz.out]; simp [anyc, ht]
          clear hz ht
          subst hv
          go_wp2
          go_ret
          exact ⟨rfl, by rw [hgH.out]; exact hbw.out⟩
        have et : o.dst.toList.isEmpty = true := isE_yes ht
        have kt := Lib.hid ht
        clear ht
        by_cases hl : o.len = 0
        case neg =>
          have el : (o.len == 0) = false := beqz_no hl
          have hv : fb = false := by rw [hz.out]; simp [anyc, hl]
          clear hz hl
          subst hv
          go_wp2
          go_ret
          exact ⟨rfl, by rw [hgH.out]; exact hbw.out⟩
        have el : (o.len == 0) = true := beqz_yes hl
        have kl := Lib.hid hl
        clear hl
        by_cases hm : o.made = 0
        case neg =>
          have em : (o.made == 0) = false := beqz_no hm
          have hv : fb = false := by rw [hz.out]; simp [anyc, hm]
          clear hz hm
          subst hv
          go_wp2
          go_ret
          exact ⟨rfl, by rw [hgH.out]; exact hbw.out⟩
        have em : (o.made == 0) = true := beqz_yes hm
        have km := Lib.hid hm
        clear hm
        by_cases hf : o.pick = 0
        case neg =>
          have ef : (o.pick == 0) = false := beqz_no hf
          have hv : fb = false := by rw [hz.out]; simp [anyc, hf]
          clear hz hf
          subst hv
          go_wp2
          go_ret
          exact ⟨rfl, by rw [hgH.out]; exact hbw.out⟩
        have ef : (o.pick == 0) = true := beqz_yes hf
        have kf := Lib.hid hf
        clear hf
        have hv : fb = true := by rw [hz.out]; simp [anyc, kt.out, kl.out, km.out, kf.out]
        clear hz kt kl km kf
        subst hv
        go_wp2
        go_ret
        exact ⟨rfl, by rw [hgH.out]; exact hbw.out⟩
      · -- the letters 'po'
        have lp := lk 112 true (by decide) (by decide)
        have lt := lk 116 false (by decide) (by decide)
        have lo := lk 111 true (by decide) (by decide)
        have ll := lk 108 false (by decide) (by decide)
        have ld := lk 100 false (by decide) (by decide)
        have lm := lk 109 false (by decide) (by decide)
        have lf := lk 102 false (by decide) (by decide)
        have hz := hfb
        clear lk hfb
        by_cases ht : o.dst = emp
        case neg =>
          have et : o.dst.toList.isEmpty = false := isE_no ht
          have hv : fb = false := by rw [hz.out]; simp [anyc, ht]
          clear hz ht
          subst hv
          go_wp2
          go_ret
          exact ⟨rfl, by rw [hgH.out]; exact hbw.out⟩
        have et : o.dst.toList.isEmpty = true := isE_yes ht
        have kt := Lib.hid ht
        clear ht
        by_cases hl : o.len = 0
        case neg =>
          have el : (o.len == 0) = false := beqz_no hl
          have hv : fb = false := by rw [hz.out]; simp [anyc, hl]
          clear hz hl
          subst hv
          go_wp2
          go_ret
          exact ⟨rfl, by rw [hgH.out]; exact hbw.out⟩
        have el : (o.len == 0) = true := beqz_yes hl
        have kl := Lib.hid hl
        clear hl
        by_cases hd : o.data.length = 0
        case neg =>
          have ed : ((o.data.length : Int) == 0) = false := beqn_no hd
          have hv : fb = false := by rw [hz.out]; simp [anyc, hd]
          clear hz hd
          subst hv
          go_wp2
          go_ret
          exact ⟨rfl, by rw [hgH.out]; exact hbw.out⟩
        have ed : ((o.data.length : Int) == 0) = true := beqn_yes hd
        have kd := Lib.hid hd
        clear hd
        by_cases hm : o.made = 0
        case neg =>
          have em : (o.made == 0) = false := beqz_no hm
          have hv : fb = false := by rw [hz.out]; simp [anyc, hm]
          clear hz hm
          subst hv
          go_wp2
          go_ret
          exact ⟨rfl, by rw [hgH.out]; exact hbw.out⟩
        have em : (o.made == 0) = true := beqz_yes hm
        have km := Lib.hid hm
        clear hm
        by_cases hf : o.pick = 0
        case neg =>
          have ef : (o.pick == 0) = false := beqz_no hf
          have hv : fb = false := by rw [hz.out]; simp [anyc, hf]
          clear hz hf
          subst hv
          go_wp2
          go_ret
          exact ⟨rfl, by rw [hgH.out]; exact hbw.out⟩
        have ef : (o.pick == 0) = true := beqz_yes hf
        have kf := Lib.hid hf
        clear hf
        have hv : fb = true := by rw [hz.out]; simp [anyc, kt.out, kl.out, kd.out, km.out, kf.out]
        clear hz kt kl kd km kf
        subst hv
        go_wp2
        go_ret
        exact ⟨rfl, by rw [hgH.out]; exact hbw.out⟩
      · -- the letters 'pol'
        have lp := lk 112 true (by decide) (by decide)
        have lt := lk 116 false (by decide) (by decide)
        have lo := lk 111 true (by decide) (by decide)
        have ll := lk 108 true (by decide) (by decide)
        have ld := lk 100 false (by decide) (by decide)
        have lm := lk 109 false (by decide) (by decide)
        have lf := lk 102 false (by decide) (by decide)
        have hz := hfb
        clear lk hfb
        by_cases ht : o.dst = emp
        case neg =>
          have et : o.dst.toList.isEmpty = false := isE_no ht
          have hv : fb = false := by rw [hz.out]; simp [anyc, ht]
          clear hz ht
          subst hv
          go_wp2
          go_ret
          exact ⟨rfl, by rw [hgH.out]; exact hbw.out⟩
        have et : o.dst.toList.isEmpty = true := isE_yes ht
        have kt := Lib.hid ht
        clear ht
        by_cases hd : o.data.length = 0
        case neg =>
          have ed : ((o.data.length : Int) == 0) = false := beqn_no hd
          have hv : fb = false := by rw [hz.out]; simp [anyc, hd]
          clear hz hd
          subst hv
          go_wp2
          go_ret
          exact ⟨rfl, by rw [hgH.out]; exact hbw.out⟩
        have ed : ((o.data.length : Int) == 0) = true := beqn_yes hd
        have kd := Lib.hid hd
        clear hd
        by_cases hm : o.made = 0
        case neg =>
          have em : (o.made == 0) = false := beqz_no hm
          have hv : fb = false := by rw [hz.out]; simp [anyc, hm]
          clear hz hm
          subst hv
          go_wp2
          go_ret
          exact ⟨rfl, by rw [hgH.out]; exact hbw.out⟩
        have em : (o.made == 0) = true := beqz_yes hm
        have km := Lib.hid hm
        clear hm
        by_cases hf : o.pick = 0
        case neg =>
          have ef : (o.pick == 0) = false := beqz_no hf
          have hv : fb = false := by rw [hz.out]; simp [anyc, hf]
          clear hz hf
          subst hv
          go_wp2
          go_ret
          exact ⟨rfl, by rw [hgH.out]; exact hbw.out⟩
        have ef : (o.pick == 0) = true := beqz_yes hf
        have kf := Lib.hid hf
        clear hf
        have hv : fb = true := by rw [hz.out]; simp [anyc, kt.out, kd.out, km.out, kf.out]
        clear hz kt kd km kf
        subst hv
        go_wp2
        go_ret
        exact ⟨rfl, by rw [hgH.out]; exact hbw.out⟩
      · -- the letters ''
        have lp := lk 112 false (by decide) (by decide)
        have lt := lk 116 false (by decide) (by decide)
        have lo := lk 111 false (by decide) (by decide)
        have ll := lk 108 false (by decide) (by decide)
        have ld := lk 100 false (by decide) (by decide)
        have lm := lk 109 false (by decide) (by decide)
        have lf := lk 102 false (by decide) (by decide)
        have hz := hfb
        clear lk hfb
        by_cases hp : o.path = emp
        case neg =>
          have ep : o.path.toList.isEmpty = false := isE_no hp
          have hv : fb = false := by rw [hz.out]; simp [anyc, hp]
          clear hz hp
          subst hv
          go_wp2
          go_ret
          exact ⟨rfl, by rw [hgH.out]; exact hbw.out⟩
        have ep : o.path.toList.isEmpty = true := isE_yes hp
        have kp := Lib.hid hp
        clear hp
        by_cases ht : o.dst = emp
        case neg =>
          have et : o.dst.toList.isEmpty = false := isE_no ht
          have hv : fb = false := by rw [hz.out]; simp [anyc, ht]
          clear hz ht
          subst hv
          go_wp2
          go_ret
          exact ⟨rfl, by rw [hgH.out]; exact hbw.out⟩
        have et : o.dst.toList.isEmpty = true := isE_yes ht
        have kt := Lib.hid ht
        clear ht
        by_cases ho : o.off = 0
        case neg =>
          have eo : (o.off == 0) = false := beqz_no ho
          have hv : fb = false := by rw [hz.out]; simp [anyc, ho]
          clear hz ho
          subst hv
          go_wp2
          go_ret
          exact ⟨rfl, by rw [hgH.out]; exact hbw.out⟩
        have eo : (o.off == 0) = true := beqz_yes ho
        have ko := Lib.hid ho
        clear ho
        by_cases hl : o.len = 0
        case neg =>
          have el : (o.len == 0) = false := beqz_no hl
          have hv : fb = false := by rw [hz.out]; simp [anyc, hl]
          clear hz hl
          subst hv
          go_wp2
          go_ret
          exact ⟨rfl, by rw [hgH.out]; exact hbw.out⟩
        have el : (o.len == 0) = true := beqz_yes hl
        have kl := Lib.hid hl
        clear hl
        by_cases hd : o.data.length = 0
        case neg =>
          have ed : ((o.data.length : Int) == 0) = false := beqn_no hd
          have hv : fb = false := by rw [hz.out]; simp [anyc, hd]
          clear hz hd
          subst hv
          go_wp2
          go_ret
          exact ⟨rfl, by rw [hgH.out]; exact hbw.out⟩
        have ed : ((o.data.length : Int) == 0) = true := beqn_yes hd
        have kd := Lib.hid hd
        clear hd
        by_cases hm : o.made = 0
        case neg =>
          have em : (o.made == 0) = false := beqz_no hm
          have hv : fb = false := by rw [hz.out]; simp [anyc, hm]
          clear hz hm
          subst hv
          go_wp2
          go_ret
          exact ⟨rfl, by rw [hgH.out]; exact hbw.out⟩
        have em : (o.made == 0) = true := beqz_yes hm
        have km := Lib.hid hm
        clear hm
        by_cases hf : o.pick = 0
        case neg =>
          have ef : (o.pick == 0) = false := beqz_no hf
          have hv : fb = false := by rw [hz.out]; simp [anyc, hf]
          clear hz hf
          subst hv
          go_wp2
          go_ret
          exact ⟨rfl, by rw [hgH.out]; exact hbw.out⟩
        have ef : (o.pick == 0) = true := beqz_yes hf
        have kf := Lib.hid hf
        clear hf
        have hv : fb = true := by rw [hz.out]; simp [anyc, kp.out, kt.out, ko.out, kl.out, kd.out, km.out, kf.out]
        clear hz kp kt ko kl kd km kf
        subst hv
        go_wp2
        go_ret
        exact ⟨rfl, by rw [hgH.out]; exact hbw.out⟩
      · -- the letters 'f'
        have lp := lk 112 false (by decide) (by decide)
        have lt := lk 116 false (by decide) (by decide)
        have lo := lk 111 false (by decide) (by decide)
        have ll := lk 108 false (by decide) (by decide)
        have ld := lk 100 false (by decide) (by decide)
        have lm := lk 109 false (by decide) (by decide)
        have lf := lk 102 true (by decide) (by decide)
        have hz := hfb
        clear lk hfb
        by_cases hp : o.path = emp
        case neg =>
          have ep : o.path.toList.isEmpty = false := isE_no hp
          have hv : fb = false := by rw [hz.out]; simp [anyc, hp]
          clear hz hp
          subst hv
          go_wp2
          go_ret
          exact ⟨rfl, by rw [hgH.out]; exact hbw.out⟩
        have ep : o.path.toList.isEmpty = true := isE_yes hp
        have kp := Lib.hid hp
        clear hp
        by_cases ht : o.dst = emp
        case neg =>
          have et : o.dst.toList.isEmpty = false := isE_no ht
          have hv : fb = false := by rw [hz.out]; simp [anyc, ht]
          clear hz ht
          subst hv
          go_wp2
          go_ret
          exact ⟨rfl, by rw [hgH.out]; exact hbw.out⟩
        have et : o.dst.toList.isEmpty = true := isE_yes ht
        have kt := Lib.hid ht
        clear ht
        by_cases ho : o.off = 0
        case neg =>
          have eo : (o.off == 0) = false := beqz_no ho
          have hv : fb = false := by rw [hz.out]; simp [anyc, ho]
          clear hz ho
          subst hv
          go_wp2
          go_ret
          exact ⟨rfl, by rw [hgH.out]; exact hbw.out⟩
        have eo : (o.off == 0) = true := beqz_yes ho
        have ko := Lib.hid ho
        clear ho
        by_cases hl : o.len = 0
        case neg =>
          have el : (o.len == 0) = false := beqz_no hl
          have hv : fb = false := by rw [hz.out]; simp [anyc, hl]
          clear hz hl
          subst hv
          go_wp2
          go_ret
          exact ⟨rfl, by rw [hgH.out]; exact hbw.out⟩
        have el : (o.len == 0) = true := beqz_yes hl
        have kl := Lib.hid hl
        clear hl
        by_cases hd : o.data.length = 0
        case neg =>
          have ed : ((o.data.length : Int) == 0) = false := beqn_no hd
          have hv : fb = false := by rw [hz.out]; simp [anyc, hd]
          clear hz hd
          subst hv
          go_wp2
          go_ret
          exact ⟨rfl, by rw [hgH.out]; exact hbw.out⟩
        have ed : ((o.data.length : Int) == 0) = true := beqn_yes hd
        have kd := Lib.hid hd
        clear hd
        by_cases hm : o.made = 0
        case neg =>
          have em : (o.made == 0) = false := beqz_no hm
          have hv : fb = false := by rw [hz.out]; simp [anyc, hm]
          clear hz hm
          subst hv
          go_wp2
          go_ret
          exact ⟨rfl, by rw [hgH.out]; exact hbw.out⟩
        have em : (o.made == 0) = true := beqz_yes hm
        have km := Lib.hid hm
        clear hm
        have hv : fb = true := by rw [hz.out]; simp [anyc, kp.out, kt.out, ko.out, kl.out, kd.out, km.out]
        clear hz kp kt ko kl kd km
        subst hv
        go_wp2
        go_ret
        exact ⟨rfl, by rw [hgH.out]; exact hbw.out⟩
      -- END printed
end Go.Proofs.YtolpcfhfcdkokaaGreatDoor
