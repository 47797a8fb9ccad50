/- Joined out of the texts Mp. -/
import Derived.Maps.RangeWalk
import Derived.Maps.Ext
import Derived.Test.YtolpcfhfcdkokaaGreatDoorM01
/-
  Maps in memory as rising lists of keys and values: what look-up, store, delete, len and range do to them.
-/
namespace Go.Proofs.YtolpcfhfcdkokaaGreatDoor
open Go.RowKit
open Go.Maps (Keyed)

/-! ### Rising lists -/
/-- A kind of keys: how one is written as a datum and as a value; which is ahead of which. -/
structure KE (α : Type) where
  enc : α → Lit
  val : α → Value
  lt : α → α → Bool
  before_eq : ∀ a b, (enc a).before (enc b) = lt a b
  same_iff : ∀ a b, (enc a).sameKey (enc b) = true ↔ a = b
  isKey : ∀ a, WideAt.IsKeyLit (enc a)
section
variable {α β : Type} [DecidableEq α] (K : KE α)
def insS (x : α × β) : List (α × β) → List (α × β)
  | [] => [x]
  | y :: r => if K.lt x.1 y.1 then x :: y :: r else y :: insS x r
def delS (a : α) (l : List (α × β)) : List (α × β) := l.filter fun p => decide (p.1 ≠ a)
def putS (a : α) (v : β) (l : List (α × β)) : List (α × β) := insS K (a, v) (delS a l)
def getS (a : α) : List (α × β) → Option β
  | [] => none
  | y :: r => if y.1 = a then some y.2 else getS a r
theorem same_false (a b : α) (h : a ≠ b) : (K.enc a).sameKey (K.enc b) = false := by
  have _ := (inferInstance : DecidableEq α)
  cases hs : (K.enc a).sameKey (K.enc b)
  · rfl
  · exact absurd ((K.same_iff a b).1 hs) h
theorem same_dec (a b : α) : (K.enc a).sameKey (K.enc b) = decide (a = b) := by
  by_cases h : a = b
  · rw [(K.same_iff a b).2 h]; simp [h]
  · rw [same_false K a b h]; simp [h]

theorem getS_del_same (a : α) : ∀ l : List (α × β), getS a (delS a l) = none
  | [] => rfl
  | y :: r => by
    unfold delS
    by_cases h : y.1 = a
    · simp only [List.filter_cons, h, ne_eq, not_true_eq_false, decide_false, Bool.false_eq_true, if_false]
      exact getS_del_same a r
    · simp only [List.filter_cons, h, ne_eq, not_false_eq_true, decide_true, if_true, getS, if_false]
      exact getS_del_same a r
theorem getS_del_other {a b : α} (hne : b ≠ a) : ∀ l : List (α × β), getS b (delS a l) = getS b l
  | [] => rfl
  | y :: r => by
    unfold delS
    by_cases h : y.1 = a
    · simp only [List.filter_cons, h, ne_eq, not_true_eq_false, decide_false, Bool.false_eq_true, if_false, getS]
      rw [if_neg (fun e => hne e.symm)]
      exact getS_del_other hne r
    · simp only [List.filter_cons, h, ne_eq, not_false_eq_true, decide_true, if_true, getS]
      have := getS_del_other hne r
      unfold delS at this
      rw [this]
theorem getS_ins_same (x : α × β) : ∀ l : List (α × β), (∀ p ∈ l, p.1 ≠ x.1) → getS x.1 (insS K x l) = some x.2
  | [], _ => by simp [insS, getS]
  | y :: r, h => by
    unfold insS
    split
    · simp [getS]
    · simp only [getS]
      rw [if_neg (h y List.mem_cons_self)]
      exact getS_ins_same x r fun p hp => h p (List.mem_cons_of_mem _ hp)
theorem getS_ins_other {b : α} (x : α × β) (hne : b ≠ x.1) : ∀ l : List (α × β), getS b (insS K x l) = getS b l
  | [] => by simp [insS, getS, hne.symm]
  | y :: r => by
    unfold insS
    split
    · simp only [getS]
      rw [if_neg (fun e => hne e.symm)]
    · simp only [getS]
      rw [getS_ins_other x hne r]
theorem mem_delS {a : α} {l : List (α × β)} {p : α × β} : p ∈ delS a l ↔ p ∈ l ∧ p.1 ≠ a := by simp [delS]
theorem mem_insS {x p : α × β} : ∀ {l : List (α × β)}, p ∈ insS K x l ↔ p = x ∨ p ∈ l
  | [] => by have _ := (inferInstance : DecidableEq α); simp [insS]
  | y :: r => by
    unfold insS
    split
    · simp
    · rw [List.mem_cons, mem_insS, List.mem_cons]
      constructor
      · rintro (h | h | h)
        · exact .inr (.inl h)
        · exact .inl h
        · exact .inr (.inr h)
      · rintro (h | h | h)
        · exact .inr (.inl h)
        · exact .inl h
        · exact .inr (.inr h)
theorem getS_put_same (a : α) (v : β) (l : List (α × β)) : getS a (putS K a v l) = some v :=
  getS_ins_same K (a, v) _ fun _ hp => (mem_delS.1 hp).2
theorem getS_put_other {a b : α} (v : β) (hne : b ≠ a) (l : List (α × β)) : getS b (putS K a v l) = getS b l := by
  unfold putS
  rw [getS_ins_other K (a, v) hne, getS_del_other hne]
theorem mem_putS {a : α} {v : β} {l : List (α × β)} {p : α × β} : p ∈ putS K a v l ↔ p = (a, v) ∨ p ∈ l ∧ p.1 ≠ a := by
  unfold putS
  rw [mem_insS, mem_delS]
theorem length_insS (x : α × β) : ∀ l : List (α × β), (insS K x l).length = l.length + 1
  | [] => have _ := (inferInstance : DecidableEq α); rfl
  | y :: r => by
    unfold insS
    split
    · simp
    · simp [length_insS x r]
theorem mem_of_getS {a : α} {v : β} : ∀ {l : List (α × β)}, getS a l = some v → (a, v) ∈ l
  | [], h => by cases h
  | y :: r, h => by
    unfold getS at h
    split at h
    · rename_i e
      injection h with h
      rw [← e, ← h]
      exact List.mem_cons_self
    · exact List.mem_cons_of_mem _ (mem_of_getS h)
theorem getS_none {a : α} : ∀ {l : List (α × β)}, getS a l = none ↔ ∀ p ∈ l, p.1 ≠ a
  | [] => by simp [getS]
  | y :: r => by
    unfold getS
    split
    · rename_i e
      constructor
      · intro h; cases h
      · intro h; exact absurd e (h y List.mem_cons_self)
    · rename_i e
      rw [getS_none]
      constructor
      · intro h p hp
        rcases List.mem_cons.1 hp with rfl | hp
        · exact e
        · exact h p hp
      · intro h p hp
        exact h p (List.mem_cons_of_mem _ hp)
theorem delS_of_none {a : α} {l : List (α × β)} (h : getS a l = none) : delS a l = l := by
  have := getS_none.1 h
  unfold delS
  rw [List.filter_eq_self]
  intro p hp
  simpa using this p hp
theorem length_put_new {a : α} {v : β} {l : List (α × β)} (h : getS a l = none) : (putS K a v l).length = l.length + 1 := by
  unfold putS
  rw [length_insS, delS_of_none h]

theorem length_put_le (a : α) (v : β) (l : List (α × β)) : (putS K a v l).length ≤ l.length + 1 := by
  unfold putS
  rw [length_insS]
  have : (delS a l).length ≤ l.length := List.length_filter_le _ _
  omega
theorem delS_ins (a : α) (v : β) : ∀ l : List (α × β), delS a (insS K (a, v) l) = delS a l
  | [] => by simp [insS, delS]
  | y :: r => by
    unfold insS
    split
    · simp [delS]
    · have := delS_ins a v r
      unfold delS at this ⊢
      simp only [List.filter_cons]
      rw [this]
theorem delS_put (a : α) (v : β) (l : List (α × β)) : delS a (putS K a v l) = delS a l := by
  unfold putS
  rw [delS_ins]
  unfold delS
  rw [List.filter_filter]
  simp
theorem putS_put (a : α) (u v : β) (l : List (α × β)) : putS K a v (putS K a u l) = putS K a v l := by
  unfold putS
  congr 1
  exact delS_put K a u l
/-- Rising by key, none twice. -/
def RisS (l : List (α × β)) : Prop := l.Pairwise fun p q => K.lt p.1 q.1 = true
theorem lt_irrefl' (a : α) : K.lt a a = false := by have _ := (inferInstance : DecidableEq α); rw [← K.before_eq]; exact Go.WideShapes.before_irrefl _
theorem lt_trans' {a b c : α} (h1 : K.lt a b = true) (h2 : K.lt b c = true) : K.lt a c = true := by
  have _ := (inferInstance : DecidableEq α)
  rw [← K.before_eq] at *
  exact Go.WideShapes.before_trans h1 h2
theorem RisS.nd {l : List (α × β)} (h : RisS K l) : l.Pairwise fun p q => p.1 ≠ q.1 :=
  h.imp fun {p q} hpq e => by rw [e, lt_irrefl'] at hpq; cases hpq
theorem getS_of_mem : ∀ {l : List (α × β)} (_ : l.Pairwise fun p q => p.1 ≠ q.1) {p : α × β}, p ∈ l → getS p.1 l = some p.2
  | [], _, p, hp => by cases hp
  | y :: r, hd, p, hp => by
    obtain ⟨h1, h2⟩ := List.pairwise_cons.1 hd
    rcases List.mem_cons.1 hp with rfl | hp'
    · simp [getS]
    · simp only [getS]
      rw [if_neg (h1 p hp')]
      exact getS_of_mem h2 hp'
theorem RisS.del {l : List (α × β)} (h : RisS K l) (a : α) : RisS K (delS a l) := List.Pairwise.filter _ h
theorem RisS.ins (tot : ∀ a b : α, a ≠ b → K.lt a b = true ∨ K.lt b a = true) {x : α × β} : ∀ {l : List (α × β)}, RisS K l → (∀ p ∈ l, p.1 ≠ x.1) → RisS K (insS K x l)
  | [], _, _ => by simp [insS, RisS]
  | y :: r, h, hn => by
    obtain ⟨h1, h2⟩ := List.pairwise_cons.1 h
    unfold insS
    split
    · rename_i hlt
      refine List.pairwise_cons.2 ⟨fun p hp => ?_, h⟩
      rcases List.mem_cons.1 hp with rfl | hp
      · exact hlt
      · exact lt_trans' K hlt (h1 p hp)
    · rename_i hlt
      refine List.pairwise_cons.2 ⟨fun p hp => ?_, RisS.ins tot h2 fun p hp => hn p (List.mem_cons_of_mem _ hp)⟩
      rcases (mem_insS K).1 hp with rfl | hp
      · rcases tot y.1 p.1 (hn y List.mem_cons_self) with h' | h'
        · exact h'
        · exact absurd h' hlt
      · exact h1 p hp
theorem RisS.put (tot : ∀ a b : α, a ≠ b → K.lt a b = true ∨ K.lt b a = true) {l : List (α × β)} (h : RisS K l) (a : α) (v : β) : RisS K (putS K a v l) :=
  RisS.ins K tot (h.del K a) fun _ hp => (mem_delS.1 hp).2
/-- Rising lists with the same members are one. -/
theorem RisS.ext {l l' : List (α × β)} (h : RisS K l) (h' : RisS K l') (hm : ∀ a, getS a l = getS a l') : l = l' := by
  induction l generalizing l' with
  | nil =>
    cases l' with
    | nil => rfl
    | cons y r => have := hm y.1; simp [getS] at this
  | cons x l ih =>
    cases l' with
    | nil => have := hm x.1; simp [getS] at this
    | cons y r =>
      obtain ⟨h1, h2⟩ := List.pairwise_cons.1 h
      obtain ⟨h1', h2'⟩ := List.pairwise_cons.1 h'
      have hxy : x.1 = y.1 := by
        by_cases e : x.1 = y.1
        · exact e
        have a1 := hm x.1
        have a2 := hm y.1
        simp only [getS, if_true] at a1 a2
        rw [if_neg (fun e' => e e'.symm)] at a1
        rw [if_neg e] at a2
        have m1 := h1' _ (mem_of_getS a1.symm)
        have m2 := h1 _ (mem_of_getS a2)
        have := lt_trans' K m1 m2
        rw [lt_irrefl'] at this
        cases this
      have hv : x = y := by
        have a1 := hm x.1
        simp only [getS, if_true, hxy] at a1
        injection a1 with a1
        exact Prod.ext hxy a1
      subst hv
      rw [ih h2 h2' fun a => ?_]
      have a1 := hm a
      simp only [getS] at a1
      by_cases e : x.1 = a
      · have n1 : getS a l = none := getS_none.2 fun p hp e' => by have := h1 p hp; rw [e, e', lt_irrefl'] at this; cases this
        have n2 : getS a r = none := getS_none.2 fun p hp e' => by have := h1' p hp; rw [e, e', lt_irrefl'] at this; cases this
        rw [n1, n2]
      · rw [if_neg e, if_neg e] at a1
        exact a1
end

/-! ### A map's block -/
/-- How a value is told: as itself. -/
def rawR (v : Value) : Option (DataW Value × List MemPlace) := some (.held v, [])
def encL {α β : Type} (K : KE α) (V : β → Value) (l : List (α × β)) : List (Lit × DataW Value) := l.map fun p => (K.enc p.1, .held (V p.2))
/-- Block b is a map with these keys and values. -/
def MapAt (w : World) {α β : Type} (K : KE α) (V : β → Value) (k : TypeId) (b : Nat) (l : List (α × β)) : Prop := w.ownsMap Tryz.prog k rawR b l.length (.map (encL K V l))

section
variable {α β : Type} [DecidableEq α] (K : KE α) (V : β → Value)
theorem encL_del (a : α) (l : List (α × β)) : DataW.del (.map (encL K V l)) (K.enc a) = .map (encL K V (delS a l)) := by
  show DataW.map _ = _
  congr 1
  unfold encL delS
  rw [List.filter_map]
  congr 1
  apply List.filter_congr
  intro p _
  simp only [Function.comp_def]
  rw [same_dec]
  by_cases h : p.1 = a <;> simp [h]
theorem encL_ins (x : α × β) : ∀ l : List (α × β), DataW.insert (K.enc x.1, .held (V x.2)) (encL K V l) = encL K V (insS K x l)
  | [] => have _ := (inferInstance : DecidableEq α); rfl
  | y :: r => by
    show DataW.insert _ ((K.enc y.1, .held (V y.2)) :: encL K V r) = _
    unfold DataW.insert insS
    simp only [K.before_eq]
    split
    · rfl
    · rw [encL_ins x r]; rfl
theorem encL_put (a : α) (v : β) (l : List (α × β)) : DataW.put (.map (encL K V l)) (K.enc a) (.held (V v)) = .map (encL K V (putS K a v l)) := by
  have := encL_del K V a l
  unfold DataW.del at this
  injection this with this
  show DataW.map (DataW.insert _ _) = _
  rw [this]
  unfold putS
  rw [← encL_ins]
theorem encL_at (a : α) (z : DataW Value) : ∀ l : List (α × β), DataW.atKey (.map (encL K V l)) (K.enc a) z = match getS a l with | some v => .held (V v) | none => z
  | [] => rfl
  | y :: r => by
    have := encL_at a z r
    unfold DataW.atKey at this ⊢
    unfold encL at this ⊢
    simp only [List.map_cons, List.find?_cons, same_dec, getS] at this ⊢
    by_cases h : y.1 = a
    · simp [h]
    · simp only [h, decide_false, if_false]
      exact this
theorem encL_has (a : α) : ∀ l : List (α × β), Maps.has (.map (encL K V l)) (K.enc a) = (getS a l).isSome
  | [] => rfl
  | y :: r => by
    have := encL_has a r
    unfold Maps.has at this ⊢
    unfold encL at this ⊢
    simp only [List.map_cons, List.any_cons, same_dec, getS] at this ⊢
    by_cases h : y.1 = a
    · simp [h]
    · simp only [h, decide_false, Bool.false_or, if_false]
      exact this
theorem encL_size (l : List (α × β)) : Maps.size (.map (encL K V l)) = l.length := by have _ := (inferInstance : DecidableEq α); simp [Maps.size, encL]

variable {K V} {w w' : World} {k : TypeId} {b : Nat} {l : List (α × β)}
theorem MapAt.lt (h : MapAt w K V k b l) : b < w.heap.size := have _ := (inferInstance : DecidableEq α); World.ownsMap.lt h
theorem MapAt.made (w : World) (K : KE α) (V : β → Value) (k : TypeId) : MapAt (w.alloc (.map #[] 0)) K V k w.heap.size [] := have _ := (inferInstance : DecidableEq α); World.ownsMap_made _ _ _ _
theorem MapAt.chg {S : Nat → Prop} (h : MapAt w K V k b l) (hc : Chg S w w') (hb : ¬ S b) : MapAt w' K V k b l := by
  have hlt := h.lt
  obtain ⟨es, clock, hbk, F, hs, hD⟩ := h
  exact ⟨es, clock, (hc.block b hlt hb).trans hbk, F, hs, hD⟩
theorem MapAt.fresh (h : MapAt w K V k b l) (hb : Below w.heap.size w w') : MapAt w' K V k b l := h.chg (Chg.of_fresh (S := fun _ => False) hb) id
theorem MapAt.alloc (h : MapAt w K V k b l) (o : Obj) : MapAt (w.alloc o) K V k b l := have _ := (inferInstance : DecidableEq α); World.ownsMap.alloc h o
theorem MapAt.ris (h : MapAt w K V k b l) (hk : Keyed Tryz.prog k) : RisS K l := by
  have _ := (inferInstance : DecidableEq α)
  obtain ⟨es, e, hp, _⟩ := World.ownsMap.canon h hk
  injection e with e
  rw [← e] at hp
  unfold encL at hp
  rw [List.pairwise_map] at hp
  exact hp.imp fun {p q} h => by rwa [K.before_eq] at h
theorem rawR_inv {v : Value} {d : DataW Value} {ps : List MemPlace} (h : rawR v = some (d, ps)) : d = .held v := by
  unfold rawR at h
  injection h with h
  injection h with h1 h2
  exact h1.symm
def orV (V : β → Value) (z : Value) : Option β → Value
  | some v => V v
  | none => z
omit [DecidableEq α] in
theorem held_inj {a b : Value} (h : (DataW.held a : DataW Value) = .held b) : a = b := by injection h
theorem atKey_inv {v z : Value} {a : α} (h : DataW.atKey (.map (encL K V l)) (K.enc a) (.held z) = .held v) : v = orV V z (getS a l) := by
  rw [encL_at] at h
  cases hg : getS a l with
  | none => rw [hg] at h; exact (held_inj h).symm
  | some u => rw [hg] at h; exact (held_inj h).symm
theorem MapAt.look {t e : TypeId} (h : MapAt w K V k b l) (hk : Keyed Tryz.prog k) (ht : Tryz.prog.underlying t = some (.map k e)) {z : Value} (hz : (zeroValue e).run Tryz.prog w = .ok z w) {a : α} (hkey : keyOf Tryz.prog k (K.val a) = some (K.enc a)) :
    (Instr.lookup t (.map (some b)) (K.val a) false).run Tryz.prog w = .ok (orV V z (getS a l)) w := by
  obtain ⟨v, ps, hrun, hv⟩ := World.ownsMap.lookup h hk ht hz (zd := .held z) (zp := []) rfl hkey
  rw [hrun]
  rw [show v = orV V z (getS a l) from atKey_inv (rawR_inv hv)]
theorem MapAt.look_ok {t e : TypeId} (h : MapAt w K V k b l) (hk : Keyed Tryz.prog k) (ht : Tryz.prog.underlying t = some (.map k e)) {z : Value} (hz : (zeroValue e).run Tryz.prog w = .ok z w) {a : α} (hkey : keyOf Tryz.prog k (K.val a) = some (K.enc a)) :
    (Instr.lookup t (.map (some b)) (K.val a) true).run Tryz.prog w = .ok (.tuple #[orV V z (getS a l), .bool (getS a l).isSome]) w := by
  obtain ⟨v, ps, hrun, hv⟩ := World.ownsMap.look_ok h hk ht hz (zd := .held z) (zp := []) rfl hkey
  rw [hrun, encL_has]
  rw [show v = orV V z (getS a l) from atKey_inv (rawR_inv hv)]
theorem mapAt_of_owns {n : Nat} {D : DataW Value} {l' : List (α × β)} (h : w.ownsMap Tryz.prog k rawR b n D) (hD : D = .map (encL K V l')) : MapAt w K V k b l' := by
  obtain ⟨es, clock, hbk, F, hs, e⟩ := h
  rw [hD] at e
  have e2 := congrArg Maps.size e
  rw [encL_size] at e2
  simp only [Maps.size, length_sorted, List.length_map, Array.length_toList] at e2
  exact ⟨es, clock, hbk, F, by omega, e⟩
theorem MapAt.store {t e : TypeId} (h : MapAt w K V k b l) (hk : Keyed Tryz.prog k) (ht : Tryz.prog.underlying t = some (.map k e)) (hn : l.length < maxLen) {a : α} {v : β} (hkey : keyOf Tryz.prog k (K.val a) = some (K.enc a)) :
    ∃ w', (Instr.mapUpdate t (.map (some b)) (K.val a) (V v)).run Tryz.prog w = .ok () w' ∧ MapAt w' K V k b (putS K a v l) ∧ w.mapTurned w' b := by
  obtain ⟨w', hrun, ho, ht⟩ := World.ownsMap.store h hk ht hn hkey (val := V v) (d := .held (V v)) (ps := []) rfl
  exact ⟨w', hrun, mapAt_of_owns ho (encL_put K V a v l), ht⟩
theorem MapAt.drop {t e : TypeId} (h : MapAt w K V k b l) (hk : Keyed Tryz.prog k) (ht : Tryz.prog.underlying t = some (.map k e)) {a : α} (hkey : keyOf Tryz.prog k (K.val a) = some (K.enc a)) (ty : TypeId) :
    ∃ w', (Builtin.delete_ #[t, k] ty #[.map (some b), K.val a]).run Tryz.prog w = .ok (.tuple #[]) w' ∧ MapAt w' K V k b (delS a l) ∧ w.mapTurned w' b := by
  obtain ⟨w', hrun, ho, ht⟩ := World.ownsMap.drop h hk ht hkey ty
  exact ⟨w', hrun, mapAt_of_owns ho (encL_del K V a l), ht⟩
theorem MapAt.len {t e : TypeId} (h : MapAt w K V k b l) (ht : Tryz.prog.underlying t = some (.map k e)) (ty : TypeId) : (Builtin.len_ #[t] ty #[.map (some b)]).run Tryz.prog w = .ok (.int .i64 (l.length : Nat)) w := by
  rw [World.ownsMap.len h ht ty, encL_size]
theorem turned_chg (h : w.mapTurned w' b) : Chg (fun c => c = b) w w' := (Chg.refl _ w).grown h.grown fun g e _ => by injection e with e; exact e.symm
end

/-- Numbers as keys. -/
def natK : KE Nat where
  enc n := .int .i64 (n : Int)
  val n := .int .i64 (n : Int)
  lt a b := decide (a < b)
  before_eq a b := by simp [Lit.before]
  same_iff a b := by simp [Lit.sameKey]; omega
  isKey _ := trivial
/-- Whole numbers as keys. -/
def intK : KE Int where
  enc n := .int .i64 n
  val n := .int .i64 n
  lt a b := decide (a < b)
  before_eq a b := by simp [Lit.before]
  same_iff a b := by simp [Lit.sameKey]
  isKey _ := trivial
theorem natK_tot (a b : Nat) (h : a ≠ b) : natK.lt a b = true ∨ natK.lt b a = true := by simp only [natK, decide_eq_true_eq]; omega
theorem ba_ext1 {a b : ByteArray} (h : a.data.toList = b.data.toList) : a = b := by
  cases a with | mk a =>
  cases b with | mk b =>
  simp only at h
  rw [show a = b from Array.ext' h]
/-- Names as keys. -/
def strK : KE ByteArray where
  enc s := .string s.data.toList
  val s := .string s
  lt a b := bytesBefore a.data.toList b.data.toList
  before_eq a b := by simp [Lit.before]
  same_iff a b := by
    simp only [Lit.sameKey, beq_iff_eq]
    exact ⟨ba_ext1, fun h => by rw [h]⟩
  isKey _ := trivial
theorem bytesBefore_tot : ∀ a b : List UInt8, a ≠ b → bytesBefore a b = true ∨ bytesBefore b a = true
  | [], [], h => absurd rfl h
  | [], _ :: _, _ => .inl rfl
  | _ :: _, [], _ => .inr rfl
  | a :: r, b :: s, h => by
    simp only [bytesBefore, Bool.or_eq_true, decide_eq_true_eq, Bool.and_eq_true, beq_iff_eq]
    by_cases e : a = b
    · subst e
      rcases bytesBefore_tot r s (fun e => h (by rw [e])) with h' | h'
      · exact .inl (.inr ⟨rfl, h'⟩)
      · exact .inr (.inr ⟨rfl, h'⟩)
    · have : a.toNat ≠ b.toNat := fun e' => e (UInt8.toNat_inj.1 e')
      rcases Nat.lt_or_gt_of_ne this with h' | h'
      · exact .inl (.inl h')
      · exact .inr (.inl h')
theorem strK_tot (a b : ByteArray) (h : a ≠ b) : strK.lt a b = true ∨ strK.lt b a = true := bytesBefore_tot _ _ fun e => h (ba_ext1 e)

/-! ### At the operation -/
section
variable {α β : Type} [DecidableEq α] {K : KE α} {V : β → Value} {k : TypeId} {b : Nat} {l : List (α × β)} (w : World) {ops : Array Oper} {rest : List Oper} {o : Oper} {c : Act} {Q : Exit → Act → World → Prop}
theorem wpList_mlook (hg : o.guard = none) (m x : Operand) (t : TypeId) (hop : o.op = Op.lookup t m x false) {e : TypeId} (hk : Keyed Tryz.prog k) (ht : Tryz.prog.underlying t = some (.map k e)) {z : Value} (hz : (zeroValue e).run Tryz.prog w = .ok z w)
    (h : MapAt w K V k b l) (hm : c.eval m = .map (some b)) (a : α) (hx : c.eval x = K.val a) (hkey : keyOf Tryz.prog k (K.val a) = some (K.enc a)) (v : Value) (hv : orV V z (getS a l) = v)
    (hK : wpList Tryz.prog ops Q rest (c.put o.dst v) w) : wpList Tryz.prog ops Q (o :: rest) c w := by
  refine wpList_plain hg fun K' hK' => ?_
  have hrun := h.look hk ht hz hkey
  unfold Oper.wp
  simp [execOp, hop, hm, hx, hrun, Result.andThen]
  rw [hv]
  exact hK' _ _ hK
theorem wpList_mlook_ok (hg : o.guard = none) (m x : Operand) (t : TypeId) (hop : o.op = Op.lookup t m x true) {e : TypeId} (hk : Keyed Tryz.prog k) (ht : Tryz.prog.underlying t = some (.map k e)) {z : Value} (hz : (zeroValue e).run Tryz.prog w = .ok z w)
    (h : MapAt w K V k b l) (hm : c.eval m = .map (some b)) (a : α) (hx : c.eval x = K.val a) (hkey : keyOf Tryz.prog k (K.val a) = some (K.enc a)) (v : Value) (hv : orV V z (getS a l) = v) (i : Bool) (hi : (getS a l).isSome = i)
    (hK : wpList Tryz.prog ops Q rest (c.put o.dst (.tuple #[v, .bool i])) w) : wpList Tryz.prog ops Q (o :: rest) c w := by
  refine wpList_plain hg fun K' hK' => ?_
  have hrun := h.look_ok hk ht hz hkey
  unfold Oper.wp
  simp [execOp, hop, hm, hx, hrun, Result.andThen]
  rw [hv, hi]
  exact hK' _ _ hK
theorem wpList_mput (hg : o.guard = none) (m x v : Operand) (t : TypeId) (hop : o.op = Op.mapUpdate t m x v ∨ o.op = Op.insert t m x v) {e : TypeId} (hk : Keyed Tryz.prog k) (ht : Tryz.prog.underlying t = some (.map k e))
    (h : MapAt w K V k b l) (hn : l.length < maxLen) (hm : c.eval m = .map (some b)) (a : α) (hx : c.eval x = K.val a) (hkey : keyOf Tryz.prog k (K.val a) = some (K.enc a)) (u : β) (hv : c.eval v = V u)
    (hK : ∀ w', MapAt w' K V k b (putS K a u l) → w.mapTurned w' b → wpList Tryz.prog ops Q rest (c.put o.dst undef) w') : wpList Tryz.prog ops Q (o :: rest) c w := by
  refine wpList_plain hg fun K' hK' => ?_
  obtain ⟨w', hrun, r1, r2⟩ := h.store hk ht hn (v := u) hkey
  unfold Oper.wp
  rcases hop with hop | hop
  · simp [execOp, hop, hm, hx, hv, hrun, Result.andThen]
    exact hK' _ _ (hK w' r1 r2)
  · simp [execOp, hop, hm, hx, hv, hrun, Result.andThen]
    exact hK' _ _ (hK w' r1 r2)
theorem wpList_mdel (hg : o.guard = none) (m x : Operand) (t : TypeId) (hop : o.op = Op.call { callee := Callee.builtin Builtin.delete, args := #[m, x], argTypes := #[t, k] }) {e : TypeId} (hk : Keyed Tryz.prog k) (ht : Tryz.prog.underlying t = some (.map k e))
    (h : MapAt w K V k b l) (hm : c.eval m = .map (some b)) (a : α) (hx : c.eval x = K.val a) (hkey : keyOf Tryz.prog k (K.val a) = some (K.enc a))
    (hK : ∀ w', MapAt w' K V k b (delS a l) → w.mapTurned w' b → wpList Tryz.prog ops Q rest (c.put o.dst (.tuple #[])) w') : wpList Tryz.prog ops Q (o :: rest) c w := by
  refine wpList_plain hg fun K' hK' => ?_
  obtain ⟨w', hrun, r1, r2⟩ := h.drop hk ht hkey o.type
  unfold Oper.wp
  simp [execOp, hop, resolve, invoke, builtin, hm, hx, hrun, Result.andThen]
  exact hK' _ _ (hK w' r1 r2)
theorem wpList_mlen (hg : o.guard = none) (m : Operand) (t : TypeId) (hop : o.op = Op.call { callee := Callee.builtin Builtin.len, args := #[m], argTypes := #[t] }) {e : TypeId} (ht : Tryz.prog.underlying t = some (.map k e))
    (h : MapAt w K V k b l) (hm : c.eval m = .map (some b)) (n : Nat) (hn : l.length = n) (hK : wpList Tryz.prog ops Q rest (c.put o.dst (.int .i64 n)) w) : wpList Tryz.prog ops Q (o :: rest) c w := by
  refine wpList_plain hg fun K' hK' => ?_
  unfold Oper.wp
  simp [execOp, hop, resolve, invoke, builtin, hm, h.len ht o.type, Result.andThen]
  rw [hn]
  exact hK' _ _ hK
end

/-! ### A loop over a map -/
theorem leftOf_modify (es : Array MapEntry) (seen : Array Nat) (j : Nat) (f : MapEntry → MapEntry) (hf : ∀ e, (f e).born = e.born) : (leftOf (es.modify j f) seen).size = (leftOf es seen).size := by
  have e1 : ∀ a : Array MapEntry, (leftOf a seen).size = ((a.toList.map (·.born)).filter fun b => !seen.contains b).length := fun a => by
    unfold leftOf
    rw [List.filter_map, List.length_map, ← Array.length_toList, Array.toList_filter]
    rfl
  rw [e1, e1]
  have e2 : (es.modify j f).toList.map (·.born) = es.toList.map (·.born) := by
    apply List.ext_getElem?
    intro i
    simp only [List.getElem?_map, Array.getElem?_toList, Array.getElem?_modify]
    split
    · cases es[i]? <;> simp [hf]
    · rfl
  rw [e2]
open Go.ChangeMaps Go.MapKept in
/-- A store at a key that is there, in the round of a range over the map. -/
theorem ranges_store {P : Program} {k : TypeId} {R : Value → Option (DataW Value × List MemPlace)} {w : World} {b r n : Nat} {D : DataW Value} {left : Lit → Bool} {cnt : Nat} {t e : TypeId}
    (h : w.ranges P k R b r n D left cnt) (K : Keyed P k) (ht : P.underlying t = some (.map k e)) {key val : Value} {kl : Lit} {d : DataW Value} {ps : List MemPlace} (hkey : keyOf P k key = some kl) (hv : R val = some (d, ps)) (hin : Maps.has D kl = true) (hn : n < maxLen) :
    ∃ w', (Instr.mapUpdate t (.map (some b)) key val).run P w = .ok () w' ∧ w'.ranges P k R b r n (D.put kl d) left cnt ∧ w.mapTurned w' b := by
  have hne := h.ne
  obtain ⟨es, clock, since, seen, c0, hb, F, hs, rfl, hr, hold, rfl, hl1, hl2, hsc, hsk⟩ := h
  obtain ⟨es', clock', hrun, F', hput, _⟩ := Maps.fit_store (R' := R) K ht hb F (Nat.lt_of_le_of_lt hs hn) (fun _ _ _ _ hz => hz) hkey hv
  rcases K.find w hkey es.toList F.keys with ⟨h1, h2⟩ | ⟨j, e0, h1, h2, h3⟩
  · exfalso
    unfold Maps.has at hin
    obtain ⟨p, hp, hpk⟩ := List.any_eq_true.1 hin
    obtain ⟨x, hx, rfl⟩ := List.mem_map.1 (mem_sorted.1 hp)
    obtain ⟨y, hy⟩ := F.reads x hx
    have m1 := Go.WideElems.rd_key hy
    have e1 := WideAt.sameKey_eq hpk
    rw [Go.WideElems.rg_of hy] at e1
    rw [e1] at m1
    exact h2 x hx (K.inj m1 hkey)
  · have hj : es[j]? = some e0 := by simpa using h2
    have hrun2 : (Instr.mapUpdate t (.map (some b)) key val).run P w = .ok () (setBlock w b (.map (es.modify j fun e' => { e' with key := key, val := val }) clock)) := by
      simp [Instr.mapUpdate, run_underlying ht, MapKept.run_getObj_map hb, K.check w false hkey, h1, hj, h3, K.stays w hkey, MapKept.run_setObj_map _ hb, Result.andThen, setBlock]
    have heq : (Obj.map es' clock') = .map (es.modify j fun e' => { e' with key := key, val := val }) clock := by
      rw [hrun] at hrun2
      injection hrun2 with _ hw
      have a1 := heap_setBlock_same hb (.map es' clock')
      have a2 := heap_setBlock_same hb (.map (es.modify j fun e' => { e' with key := key, val := val }) clock)
      rw [hw] at a1
      rw [a1] at a2
      injection a2
    injection heq with hes hck
    have hck' := hck.symm
    subst hes hck'
    have hlist : (es.modify j (fun e' => { e' with key := key, val := val })).toList = es.toList.set j { e0 with key := key, val := val } := by rw [Array.toList_modify, ChangeMaps.modify_eq_set _ _ _ _ h2]
    have hm0 : e0 ∈ es.toList := List.mem_of_getElem? h2
    obtain ⟨y0, hy0⟩ := F.reads e0 hm0
    have hrg0 : (Go.WideElems.rg P k R e0).1 = kl := by
      rw [Go.WideElems.rg_of hy0]
      have := Go.WideElems.rd_key hy0
      rw [h3, hkey] at this
      injection this with this
      exact this.symm
    have hrgN : (Go.WideElems.rg P k R ({ e0 with key := key, val := val } : MapEntry)).1 = kl := by rw [Go.WideElems.rg_of (Go.WideElems.rd_mk hkey hv)]
    have who : ∀ x ∈ es.toList.set j { e0 with key := key, val := val }, x ∈ es.toList ∨ x = { e0 with key := key, val := val } := fun x hx => List.mem_or_eq_of_mem_set hx
    refine ⟨_, hrun, ⟨_, clock, since, seen, c0, heap_setBlock_same hb _, F', by simpa using hs, by rw [DataW.put_eq, hput], (heap_setBlock_other hb _ hne).trans hr, fun x hx => ?_, leftOf_modify es seen j _ (fun _ => rfl), fun x hx => ?_, fun x0 hx0 => ?_, hsc, hsk⟩, ⟨es, clock, _, clock, hb, rfl⟩⟩
    · rw [hlist] at hx
      rcases who x hx with hx | rfl
      · exact hold x hx
      · exact hold e0 hm0
    · rw [hlist] at hx
      rcases who x hx with hx | rfl
      · exact hl1 x hx
      · rw [hrgN, ← hrg0]
        exact hl1 e0 hm0
    · obtain ⟨x, hx, rfl⟩ := hl2 x0 hx0
      rw [hlist]
      obtain ⟨i, hi⟩ := List.getElem?_of_mem hx
      by_cases hij : i = j
      · subst hij
        rw [h2] at hi
        injection hi with hi
        subst hi
        exact ⟨_, List.mem_iff_getElem?.2 ⟨i, by rw [List.getElem?_set_self (List.getElem?_eq_some_iff.1 h2).1]⟩, by rw [hrgN, hrg0]⟩
      · exact ⟨x, List.mem_iff_getElem?.2 ⟨i, by rw [List.getElem?_set_ne (Ne.symm hij)]; exact hi⟩, rfl⟩
/-- A loop over block b is under way, by block r: what is still to come. -/
def RangeAt (w : World) {α β : Type} (K : KE α) (V : β → Value) (k : TypeId) (b r n : Nat) (l : List (α × β)) (todo : α → Bool) : Prop :=
  ∃ left cnt, w.ranges Tryz.prog k rawR b r n (.map (encL K V l)) left cnt ∧ (∀ a, left (K.enc a) = todo a) ∧ ∀ kl, left kl = true → ∃ p ∈ l, K.enc p.1 = kl
section
variable {α β : Type} [DecidableEq α] {K : KE α} {V : β → Value} {k : TypeId} {b r n : Nat} {l : List (α × β)} {todo : α → Bool} {w w' : World}
theorem RangeAt.owns (h : RangeAt w K V k b r n l todo) : MapAt w K V k b l := by
  obtain ⟨left, cnt, h, _⟩ := h
  exact mapAt_of_owns h.owns rfl
theorem RangeAt.ne (h : RangeAt w K V k b r n l todo) : r ≠ b := have _ := (inferInstance : DecidableEq α); let ⟨_, _, h, _⟩ := h; h.ne
theorem RangeAt.lt (h : RangeAt w K V k b r n l todo) : r < w.heap.size := have _ := (inferInstance : DecidableEq α); let ⟨_, _, h, _⟩ := h; h.lt
theorem RangeAt.chg {S : Nat → Prop} (h : RangeAt w K V k b r n l todo) (hc : Chg S w w') (hb : ¬ S b) (hr : ¬ S r) : RangeAt w' K V k b r n l todo := by
  have _ := (inferInstance : DecidableEq α)
  obtain ⟨left, cnt, h, hl⟩ := h
  have h1 := h.owns.lt
  have h2 := h.lt
  obtain ⟨es, clock, since, seen, c0, hbk, F, hs, hD, hrk, rest⟩ := h
  exact ⟨left, cnt, ⟨es, clock, since, seen, c0, (hc.block b h1 hb).trans hbk, F, hs, hD, (hc.block r h2 hr).trans hrk, rest⟩, hl⟩
theorem rangeLeft_chg {S : Nat → Prop} (hc : Chg S w w') (h1 : b < w.heap.size) (h2 : r < w.heap.size) (hb : ¬ S b) (hr : ¬ S r) : w'.rangeLeft b r = w.rangeLeft b r := by
  unfold World.rangeLeft
  rw [hc.block b h1 hb, hc.block r h2 hr]
theorem has_mem (K : KE α) (V : β → Value) (l : List (α × β)) (kl : Lit) (h : Maps.has (.map (encL K V l)) kl = true) : ∃ p ∈ l, K.enc p.1 = kl := by
  have _ := (inferInstance : DecidableEq α)
  unfold Maps.has at h
  obtain ⟨p, hp, hpk⟩ := List.any_eq_true.1 h
  obtain ⟨q, hq, rfl⟩ := List.mem_map.1 hp
  exact ⟨q, hq, WideAt.sameKey_eq hpk⟩
theorem MapAt.range {t e : TypeId} (h : MapAt w K V k b l) (hk : Keyed Tryz.prog k) (ht : Tryz.prog.underlying t = some (.map k e)) :
    ∃ w', (Instr.range t (.map (some b))).run Tryz.prog w = .ok (.pointer (some ⟨w.heap.size, 0, none⟩)) w' ∧ RangeAt w' K V k b w.heap.size l.length l (fun a => (getS a l).isSome) ∧ Below w.heap.size w w' ∧ w'.heap.size = w.heap.size + 1 := by
  obtain ⟨w', hrun, hr, hg, hs⟩ := World.ownsMap.range h hk ht
  refine ⟨w', hrun, ⟨_, _, hr, fun a => encL_has K V a l, has_mem K V l⟩, (Below.refl _ _).grown hg (Nat.le_refl _) (fun j hj => by cases hj), hs⟩
theorem RangeAt.next (h : RangeAt w K V k b r n l todo) (hk : Keyed Tryz.prog k) (hinv : ∀ key a, keyOf Tryz.prog k key = some (K.enc a) → key = K.val a) (ty : TypeId) :
    ((∀ a, todo a = false) ∧ (Instr.next (.pointer (some ⟨r, 0, none⟩)) false ty).run Tryz.prog w = .ok (.tuple #[.bool false]) w) ∨
    ∃ a v w', todo a = true ∧ getS a l = some v ∧ (Instr.next (.pointer (some ⟨r, 0, none⟩)) false ty).run Tryz.prog w = .ok (.tuple #[.bool true, K.val a, V v]) w' ∧
      RangeAt w' K V k b r n l (fun x => todo x && decide (x ≠ a)) ∧ w'.rangeLeft b r < w.rangeLeft b r ∧ Chg (fun c => c = r) w w' ∧ w'.heap.size = w.heap.size ∧
      (Instr.entry (.pointer (some ⟨r, 0, none⟩))).run Tryz.prog w' = .ok (.tuple #[K.val a, V v]) w' ∧ keyOf Tryz.prog k (K.val a) = some (K.enc a) := by
  obtain ⟨left, cnt, h, hl, hin⟩ := h
  rcases h.next hk ty with ⟨_, h0, hrun⟩ | ⟨key, v, kl, y, w', cnt', hkey, hlk, hv, hat, hrun, hrg, hlt, hg, hs, hen⟩
  · exact .inl ⟨fun a => by rw [← hl]; exact h0 _, hrun⟩
  · obtain ⟨p, hp, rfl⟩ := hin kl hlk
    obtain rfl := hinv _ _ hkey
    have hsome : ∃ u, getS p.1 l = some u := by
      cases hg : getS p.1 l with
      | some u => exact ⟨u, rfl⟩
      | none => exact absurd rfl (getS_none.1 hg p hp)
    obtain ⟨u, hu⟩ := hsome
    have hvu : v = V u := by
      have h1 := hat (.held v)
      rw [encL_at, hu, rawR_inv (show rawR v = some (y.1, y.2) from hv)] at h1
      exact (held_inj (by simpa using h1)).symm
    subst hvu
    refine .inr ⟨p.1, u, w', by rw [← hl]; exact hlk, hu, hrun, ⟨_, cnt', hrg, fun a => ?_, fun kl' h' => ?_⟩, ?_, (Chg.refl _ w).grown hg (fun g e _ => (Option.some.inj e).symm), hs, hen, hkey⟩
    · show (left (K.enc a) && !(K.enc a).sameKey (K.enc p.1)) = _
      rw [hl, same_dec]
      by_cases e : a = p.1 <;> simp [e]
    · simp only [Bool.and_eq_true] at h'
      exact hin kl' h'.1
    · rw [hrg.left_eq, h.left_eq]
      exact hlt
theorem RangeAt.drop {t e : TypeId} (h : RangeAt w K V k b r n l todo) (hk : Keyed Tryz.prog k) (ht : Tryz.prog.underlying t = some (.map k e)) {a : α} (hkey : keyOf Tryz.prog k (K.val a) = some (K.enc a)) (ty : TypeId) :
    ∃ w', (Builtin.delete_ #[t, k] ty #[.map (some b), K.val a]).run Tryz.prog w = .ok (.tuple #[]) w' ∧ RangeAt w' K V k b r n (delS a l) (fun x => todo x && decide (x ≠ a)) ∧ w'.rangeLeft b r ≤ w.rangeLeft b r ∧ w.mapTurned w' b := by
  obtain ⟨left, cnt, h, hl, hin⟩ := h
  obtain ⟨w', cnt', hrun, hrg, hle, htu⟩ := h.drop hk ht hkey ty
  rw [encL_del] at hrg
  refine ⟨w', hrun, ⟨_, cnt', hrg, fun x => ?_, fun kl' h' => ?_⟩, ?_, htu⟩
  · show (left (K.enc x) && !(K.enc x).sameKey (K.enc a)) = _
    rw [hl, same_dec]
    by_cases e : x = a <;> simp [e]
  · simp only [Bool.and_eq_true, Bool.not_eq_true'] at h'
    obtain ⟨p, hp, rfl⟩ := hin kl' h'.1
    refine ⟨p, mem_delS.2 ⟨hp, fun e => ?_⟩, rfl⟩
    rw [e, (K.same_iff a a).2 rfl] at h'
    exact absurd h'.2 (by simp)
  · rw [hrg.left_eq, h.left_eq]
    exact hle
theorem RangeAt.store {t e : TypeId} (h : RangeAt w K V k b r n l todo) (hk : Keyed Tryz.prog k) (ht : Tryz.prog.underlying t = some (.map k e)) {a : α} {u0 u : β} (hkey : keyOf Tryz.prog k (K.val a) = some (K.enc a)) (hin0 : getS a l = some u0) (hn : n < maxLen) :
    ∃ w', (Instr.mapUpdate t (.map (some b)) (K.val a) (V u)).run Tryz.prog w = .ok () w' ∧ RangeAt w' K V k b r n (putS K a u l) todo ∧ w'.rangeLeft b r ≤ w.rangeLeft b r ∧ w.mapTurned w' b := by
  obtain ⟨left, cnt, h, hl, hin⟩ := h
  obtain ⟨w', hrun, hrg, htu⟩ := ranges_store h hk ht hkey (val := V u) (d := .held (V u)) (ps := []) rfl (by rw [encL_has, hin0]; rfl) hn
  rw [encL_put] at hrg
  refine ⟨w', hrun, ⟨_, cnt, hrg, hl, fun kl' h' => ?_⟩, ?_, htu⟩
  · obtain ⟨p, hp, rfl⟩ := hin kl' h'
    by_cases e : p.1 = a
    · exact ⟨(a, u), (mem_putS K).2 (.inl rfl), by rw [e]⟩
    · exact ⟨p, (mem_putS K).2 (.inr ⟨hp, e⟩), rfl⟩
  · rw [hrg.left_eq, h.left_eq]
    exact Nat.le_refl _
variable {ops : Array Oper} {rest : List Oper} {o : Oper} {c : Act} {Q : Exit → Act → World → Prop}
theorem wpList_mrange (w : World) (hg : o.guard = none) (m : Operand) (t : TypeId) (hop : o.op = Op.range t m) {e : TypeId} (hk : Keyed Tryz.prog k) (ht : Tryz.prog.underlying t = some (.map k e)) (h : MapAt w K V k b l) (hm : c.eval m = .map (some b))
    (hK : ∀ w', RangeAt w' K V k b w.heap.size l.length l (fun a => (getS a l).isSome) → Below w.heap.size w w' → w'.heap.size = w.heap.size + 1 → wpList Tryz.prog ops Q rest (c.put o.dst (.pointer (some ⟨w.heap.size, 0, none⟩))) w') : wpList Tryz.prog ops Q (o :: rest) c w := by
  refine wpList_plain hg fun K' hK' => ?_
  obtain ⟨w', hrun, r1, r2, r3⟩ := h.range hk ht
  unfold Oper.wp
  simp [execOp, hop, hm, hrun, Result.andThen]
  exact hK' _ _ (hK w' r1 r2 r3)
theorem wpList_mnext (w : World) (hg : o.guard = none) (it : Operand) (hop : o.op = Op.next it false) (hk : Keyed Tryz.prog k) (hinv : ∀ key a, keyOf Tryz.prog k key = some (K.enc a) → key = K.val a) (hit : c.eval it = .pointer (some ⟨r, 0, none⟩)) (h : RangeAt w K V k b r n l todo)
    (hDone : (∀ a, todo a = false) → wpList Tryz.prog ops Q rest (c.put o.dst (.tuple #[.bool false])) w)
    (hMore : ∀ a v w', todo a = true → getS a l = some v → RangeAt w' K V k b r n l (fun x => todo x && decide (x ≠ a)) → w'.rangeLeft b r < w.rangeLeft b r → Chg (fun c => c = r) w w' → w'.heap.size = w.heap.size →
      (Instr.entry (.pointer (some ⟨r, 0, none⟩))).run Tryz.prog w' = .ok (.tuple #[K.val a, V v]) w' → keyOf Tryz.prog k (K.val a) = some (K.enc a) → wpList Tryz.prog ops Q rest (c.put o.dst (.tuple #[.bool true, K.val a, V v])) w') : wpList Tryz.prog ops Q (o :: rest) c w := by
  refine wpList_plain hg fun K' hK' => ?_
  unfold Oper.wp
  rcases h.next hk hinv o.type with ⟨h0, hrun⟩ | ⟨a, v, w', h1, h2, hrun, h3, h4, h5, h6, h7, h8⟩
  · simp [execOp, hop, hit, hrun, Result.andThen]
    exact hK' _ _ (hDone h0)
  · simp [execOp, hop, hit, hrun, Result.andThen]
    exact hK' _ _ (hMore a v w' h1 h2 h3 h4 h5 h6 h7 h8)
theorem wpList_mrdel (w : World) (hg : o.guard = none) (m x : Operand) (t : TypeId) (hop : o.op = Op.call { callee := Callee.builtin Builtin.delete, args := #[m, x], argTypes := #[t, k] }) {e : TypeId} (hk : Keyed Tryz.prog k) (ht : Tryz.prog.underlying t = some (.map k e))
    (h : RangeAt w K V k b r n l todo) (hm : c.eval m = .map (some b)) (a : α) (hx : c.eval x = K.val a) (hkey : keyOf Tryz.prog k (K.val a) = some (K.enc a))
    (hK : ∀ w', RangeAt w' K V k b r n (delS a l) (fun x => todo x && decide (x ≠ a)) → w'.rangeLeft b r ≤ w.rangeLeft b r → w.mapTurned w' b → wpList Tryz.prog ops Q rest (c.put o.dst (.tuple #[])) w') : wpList Tryz.prog ops Q (o :: rest) c w := by
  refine wpList_plain hg fun K' hK' => ?_
  obtain ⟨w', hrun, r1, r2, r3⟩ := h.drop hk ht hkey o.type
  unfold Oper.wp
  simp [execOp, hop, resolve, invoke, builtin, hm, hx, hrun, Result.andThen]
  exact hK' _ _ (hK w' r1 r2 r3)
theorem wpList_mrput (w : World) (hg : o.guard = none) (m x v : Operand) (t : TypeId) (hop : o.op = Op.mapUpdate t m x v) {e : TypeId} (hk : Keyed Tryz.prog k) (ht : Tryz.prog.underlying t = some (.map k e))
    (h : RangeAt w K V k b r n l todo) (hn : n < maxLen) (hm : c.eval m = .map (some b)) (a : α) (hx : c.eval x = K.val a) (hkey : keyOf Tryz.prog k (K.val a) = some (K.enc a)) (u0 : β) (hin0 : getS a l = some u0) (u : β) (hv : c.eval v = V u)
    (hK : ∀ w', RangeAt w' K V k b r n (putS K a u l) todo → w'.rangeLeft b r ≤ w.rangeLeft b r → w.mapTurned w' b → wpList Tryz.prog ops Q rest (c.put o.dst undef) w') : wpList Tryz.prog ops Q (o :: rest) c w := by
  refine wpList_plain hg fun K' hK' => ?_
  obtain ⟨w', hrun, r1, r2, r3⟩ := h.store hk ht (u := u) hkey hin0 hn
  unfold Oper.wp
  simp [execOp, hop, hm, hx, hv, hrun, Result.andThen]
  exact hK' _ _ (hK w' r1 r2 r3)
end
theorem natK_inv {k : TypeId} (hk : Tryz.prog.underlying k = some (.int .i64)) (key : Value) (a : Nat) (h : keyOf Tryz.prog k key = some (natK.enc a)) : key = natK.val a := by
  obtain ⟨x, rfl, e, _⟩ := Maps.keyOf_int_inv hk h
  simp only [natK, Lit.int.injEq] at e ⊢
  rw [e.2]
theorem intK_inv {k : TypeId} (hk : Tryz.prog.underlying k = some (.int .i64)) (key : Value) (a : Int) (h : keyOf Tryz.prog k key = some (intK.enc a)) : key = intK.val a := by
  obtain ⟨x, rfl, e, _⟩ := Maps.keyOf_int_inv hk h
  simp only [intK, Lit.int.injEq] at e ⊢
  rw [e.2]
theorem strK_inv {k : TypeId} (hk : Tryz.prog.underlying k = some .string) (key : Value) (a : ByteArray) (h : keyOf Tryz.prog k key = some (strK.enc a)) : key = strK.val a := by
  cases key <;> simp [keyOf, hk, mapKey] at h
  rename_i s
  have := h.2
  simp only [strK, Lit.string.injEq] at this
  rw [ba_ext1 this]; rfl
#print axioms MapAt.store
end Go.Proofs.YtolpcfhfcdkokaaGreatDoor
