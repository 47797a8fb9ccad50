/- Joined out of the texts Pm, Low, Node. -/
import Derived.Test.YtolpcfhfcdkokaaGreatDoorM01
import Derived.Test.YtolpcfhfcdkokaaGreatDoorM02
/-
  The tree in memory (package plain) as a pure value: nodes by rising numbers; how many sectors they have.
-/
namespace Go.Proofs.YtolpcfhfcdkokaaGreatDoor

/-- An inode in use. -/
structure PN where
  dir : Bool
  links : Nat
  size : Nat
  made : Nat
  data : List (Nat × List UInt8)
  slots : List ByteArray
  names : List (ByteArray × Nat)
/-- A tree. -/
structure PT where
  sectors : Nat
  inodes : Nat
  nodes : List (Nat × PN)
def PN.kind (n : PN) : Int := if n.dir then 2 else 1

/-! ### Sectors -/
def tab (k : Nat) (z : Int) : Bool := if 44 ≤ k then z == -2 || z == (((k - 44) / 32 : Nat) : Int) else if 12 ≤ k then z == -1 else false
def allTabs : List Int := -2 :: -1 :: (List.range 32).map Int.ofNat
def tabsOf (ks : List Nat) : Nat := (allTabs.filter fun z => ks.any fun k => tab k z).length
def cntK (ks : List Nat) : Nat := ks.length + tabsOf ks
def PN.keys (n : PN) : List Nat := n.data.map (·.1) ++ List.range n.slots.length
def PN.count (n : PN) : Nat := cntK n.keys
def PT.used (T : PT) : Nat := (T.nodes.map fun p => p.2.count).sum

theorem mem_allTabs {k : Nat} (hk : k ≤ 1067) {z : Int} (h : tab k z = true) : z ∈ allTabs := by
  unfold tab at h
  split at h
  · simp only [Bool.or_eq_true, beq_iff_eq] at h
    rcases h with rfl | rfl
    · simp [allTabs]
    · simp only [allTabs, List.mem_cons, List.mem_map, List.mem_range]
      exact .inr (.inr ⟨(k - 44) / 32, by omega, rfl⟩)
  · split at h
    · simp only [beq_iff_eq] at h
      subst h
      simp [allTabs]
    · cases h
theorem allTabs_nodup : allTabs.Nodup := by decide
theorem tabsOf_le (ks : List Nat) : tabsOf ks ≤ 34 := by
  unfold tabsOf
  exact Nat.le_trans (List.length_filter_le _ _) (by decide)
theorem length_le_of_subset {α : Type} [DecidableEq α] : ∀ {l1 l2 : List α}, l1.Nodup → (∀ a ∈ l1, a ∈ l2) → l1.length ≤ l2.length
  | [], _, _, _ => Nat.zero_le _
  | a :: r, l2, hn, hs => by
    obtain ⟨h1, h2⟩ := List.nodup_cons.1 hn
    have ha := hs a List.mem_cons_self
    have := length_le_of_subset (l2 := l2.erase a) h2 fun b hb => by
      have hne : b ≠ a := fun e => h1 (by rw [← e]; exact hb)
      rw [List.mem_erase_of_ne hne]
      exact hs b (List.mem_cons_of_mem _ hb)
    rw [List.length_erase_of_mem ha] at this
    have hp := List.length_pos_of_mem ha
    simp only [List.length_cons]
    omega
theorem length_eq_of_same {α : Type} [DecidableEq α] {l1 l2 : List α} (h1 : l1.Nodup) (h2 : l2.Nodup) (h : ∀ a, a ∈ l1 ↔ a ∈ l2) : l1.length = l2.length :=
  Nat.le_antisymm (length_le_of_subset h1 fun a => (h a).1) (length_le_of_subset h2 fun a => (h a).2)

/-- What the closure 'add' does to the tables. -/
def addTab (k : Nat) (tl : List (Int × Unit)) : List (Int × Unit) :=
  if 44 ≤ k then putS intK ((((k - 44) / 32 : Nat)) : Int) () (putS intK (-2) () tl) else if 12 ≤ k then putS intK (-1) () tl else tl
theorem isSome_put {α β : Type} [DecidableEq α] (K : KE α) (a z : α) (v : β) (l : List (α × β)) : (getS z (putS K a v l)).isSome = (decide (z = a) || (getS z l).isSome) := by
  by_cases h : z = a
  · subst h; rw [getS_put_same]; simp
  · rw [getS_put_other K v h]; simp [h]
theorem beq_dec (a b : Int) : (a == b) = decide (a = b) := by
  by_cases h : a = b <;> simp [h]
theorem addTab_some (k : Nat) (tl : List (Int × Unit)) (z : Int) : (getS z (addTab k tl)).isSome = (tab k z || (getS z tl).isSome) := by
  unfold addTab tab
  split
  · rw [isSome_put, isSome_put]
    simp only [beq_dec]
    cases decide (z = (((k - 44) / 32 : Nat) : Int)) <;> cases decide (z = -2) <;> rfl
  · split
    · rw [isSome_put]
      simp only [beq_dec]
    · rfl
/-- The tables are just those of the blocks seen. -/
def TabsAre (tl : List (Int × Unit)) (ks : List Nat) : Prop := ∀ z, (getS z tl).isSome = ks.any fun k => tab k z
theorem TabsAre.nil : TabsAre [] [] := fun _ => rfl
theorem TabsAre.snoc {tl : List (Int × Unit)} {ks : List Nat} (h : TabsAre tl ks) (k : Nat) : TabsAre (addTab k tl) (ks ++ [k]) := fun z => by
  rw [addTab_some, h z, List.any_append]
  simp only [List.any_cons, List.any_nil, Bool.or_false]
  rw [Bool.or_comm]
theorem TabsAre.len {tl : List (Int × Unit)} {ks : List Nat} (h : TabsAre tl ks) (hr : RisS intK tl) (hk : ∀ k ∈ ks, k ≤ 1067) : tl.length = tabsOf ks := by
  have h1 : (tl.map (·.1)).Nodup := by rw [List.Nodup, List.pairwise_map]; exact hr.nd
  rw [← List.length_map (f := (·.1)), tabsOf]
  refine length_eq_of_same h1 (allTabs_nodup.filter _) fun z => ?_
  have hz := h z
  rw [List.mem_filter]
  constructor
  · intro hm
    obtain ⟨p, hp, rfl⟩ := List.mem_map.1 hm
    rw [getS_of_mem hr.nd hp] at hz
    have hz' := hz.symm
    simp only [Option.isSome_some] at hz'
    obtain ⟨k, hk1, hk2⟩ := List.any_eq_true.1 hz'
    exact ⟨mem_allTabs (hk k hk1) hk2, hz'⟩
  · rintro ⟨-, hm⟩
    rw [hm] at hz
    cases hg : getS z tl with
    | none => rw [hg] at hz; cases hz
    | some u => exact List.mem_map.2 ⟨(z, u), mem_of_getS hg, rfl⟩
theorem tabsOf_perm {a b : List Nat} (h : ∀ k, k ∈ a ↔ k ∈ b) : tabsOf a = tabsOf b := by
  unfold tabsOf
  congr 1
  refine List.filter_congr fun z _ => ?_
  rw [Bool.eq_iff_iff, List.any_eq_true, List.any_eq_true]
  exact ⟨fun ⟨k, hk, hz⟩ => ⟨k, (h k).1 hk, hz⟩, fun ⟨k, hk, hz⟩ => ⟨k, (h k).2 hk, hz⟩⟩
theorem cntK_perm {a b : List Nat} (ha : a.Nodup) (hb : b.Nodup) (h : ∀ k, k ∈ a ↔ k ∈ b) : cntK a = cntK b := by
  unfold cntK
  rw [tabsOf_perm h, length_eq_of_same ha hb h]
theorem sum_perm {l1 l2 : List Nat} (h : l1.Perm l2) : l1.sum = l2.sum := by
  induction h with
  | nil => rfl
  | cons x _ ih => simp [ih]
  | swap x y l => simp only [List.sum_cons]; omega
  | trans _ _ ih1 ih2 => exact ih1.trans ih2
theorem getS_map {α β γ : Type} [DecidableEq α] (f : α → β → γ) (a : α) : ∀ l : List (α × β), getS a (l.map fun x => (x.1, f x.1 x.2)) = (getS a l).map (f a)
  | [] => rfl
  | y :: r => by
    simp only [List.map_cons, getS]
    split
    · rename_i h; subst h; rfl
    · exact getS_map f a r
theorem ris_keys {α β : Type} [DecidableEq α] {K : KE α} {l : List (α × β)} (h : RisS K l) : (l.map (·.1)).Nodup := by
  rw [List.Nodup, List.pairwise_map]; exact h.nd
theorem mem_keys {α β : Type} [DecidableEq α] {a : α} {l : List (α × β)} : a ∈ l.map (·.1) ↔ (getS a l).isSome = true := by
  rw [List.mem_map]
  constructor
  · rintro ⟨p, hp, rfl⟩
    cases hg : getS p.1 l with
    | none => exact absurd rfl (getS_none.1 hg p hp)
    | some u => rfl
  · intro h
    cases hg : getS a l with
    | none => rw [hg] at h; cases h
    | some u => exact ⟨_, mem_of_getS hg, rfl⟩

/-! ### What a tree's numbers are -/
structure PN.Ok (n : PN) : Prop where
  keys : ∀ p ∈ n.data, p.1 ≤ 1067
  dlen : n.data.length ≤ 1068
  secs : ∀ p ∈ n.data, p.2.length = 128
  slots : n.slots.length ≤ 1068
  links : n.links ≤ 100
  size : n.size ≤ 136704
  made : n.made ≤ 1099511627776
  nm : ∀ p ∈ n.names, p.1.size ≤ 40 ∧ p.2 ≤ 512
  nlen : n.names.length ≤ n.slots.length
  dd : n.dir = true → n.data = []
  df : n.dir = false → n.slots = [] ∧ n.names = []
  nris : RisS strK n.names
  dris : RisS natK n.data
structure PT.Ok (T : PT) : Prop where
  ris : RisS natK T.nodes
  node : ∀ p ∈ T.nodes, p.2.Ok ∧ 1 ≤ p.1 ∧ p.1 ≤ T.inodes
  ino : T.inodes ≤ 512
  s8 : 8 ≤ T.sectors
  sec : T.sectors ≤ 4096
theorem cntK_le (ks : List Nat) : cntK ks ≤ ks.length + 34 := by
  have := tabsOf_le ks
  unfold cntK; omega
theorem PN.Ok.count {n : PN} (h : n.Ok) : n.count ≤ 2200 := by
  have h1 := cntK_le n.keys
  have h2 : n.keys.length = n.data.length + n.slots.length := by simp [PN.keys]
  have h3 := h.dlen
  have h4 := h.slots
  unfold PN.count
  omega
theorem PT.Ok.len {T : PT} (h : T.Ok) : T.nodes.length ≤ 512 := by
  have e : (T.nodes.map (·.1)).length = T.nodes.length := List.length_map _
  rw [← e]
  refine Nat.le_trans (length_le_of_subset (l2 := (List.range 512).map (· + 1)) (ris_keys h.ris) fun a ha => ?_) (by simp)
  obtain ⟨p, hp, rfl⟩ := List.mem_map.1 ha
  have h1 := (h.node p hp).2
  have h2 := h.ino
  exact List.mem_map.2 ⟨p.1 - 1, List.mem_range.2 (by omega), by omega⟩
theorem sum_le {l : List Nat} {k : Nat} (h : ∀ x ∈ l, x ≤ k) : l.sum ≤ l.length * k := by
  induction l with
  | nil => simp
  | cons x r ih =>
    have h1 := h x List.mem_cons_self
    have h2 := ih fun y hy => h y (List.mem_cons_of_mem _ hy)
    simp only [List.sum_cons, List.length_cons, Nat.add_mul]
    omega
theorem PT.Ok.used {T : PT} (h : T.Ok) : T.used ≤ 1126400 := by
  have h1 : T.used ≤ (T.nodes.map fun p => p.2.count).length * 2200 := sum_le fun x hx => by
    obtain ⟨p, hp, rfl⟩ := List.mem_map.1 hx
    exact (h.node p hp).1.count
  rw [List.length_map] at h1
  have := h.len
  omega
/-- The count of the node with a number. -/
def PT.countAt (T : PT) (i : Nat) : Nat := match getS i T.nodes with | some n => n.count | none => 0
theorem PT.used_of {T : PT} (hr : RisS natK T.nodes) {ks : List Nat} (hn : ks.Nodup) (h : ∀ k, k ∈ ks ↔ (getS k T.nodes).isSome = true) : (ks.map T.countAt).sum = T.used := by
  have hp : ks.Perm (T.nodes.map (·.1)) := (List.perm_ext_iff_of_nodup hn (ris_keys hr)).2 fun a => by rw [h, mem_keys]
  rw [sum_perm (hp.map T.countAt), List.map_map]
  unfold PT.used
  congr 1
  refine List.map_congr_left fun p hp => ?_
  simp only [Function.comp_def, PT.countAt, getS_of_mem hr.nd hp]
#print axioms PT.used_of
end Go.Proofs.YtolpcfhfcdkokaaGreatDoor
/-
  The two functions that lay a number lowest byte first: dump.low (onto a row of the caller's) and the reference's low (a new row).
-/
namespace Go.Proofs.YtolpcfhfcdkokaaGreatDoor
open Go.RowKit

theorem infoU8 : (Tryz.prog.info? 5).map (fun i => (i.zero, i.size, i.bytes)) = some (some (.int .u8 0), 1, 1) := by kernel_rfl

/-- k bytes of a number, the lowest first. -/
def lowB (n : Int) : Nat → List UInt8
  | 0 => []
  | k + 1 => UInt8.ofNat (n % 256).toNat :: lowB (n / 256) k
theorem lowB_length (k : Nat) : ∀ n : Int, (lowB n k).length = k := by
  induction k with
  | zero => intro n; rfl
  | succ k ih => intro n; simp [lowB, ih]
theorem u8_of (m : Int) : ((UInt8.ofNat (m % 256).toNat).toNat : Int) = m % 256 := by
  have : (UInt8.ofNat (m % 256).toNat).toNat = (m % 256).toNat % 256 := UInt8.toNat_ofNat'
  omega
theorem lowB_step {m : Int} {k j : Nat} (h : j < k) : bvs (lowB m (k - j)) = .int .u8 (m % 256) :: bvs (lowB (m / 256) (k - (j + 1))) := by
  have e : k - j = (k - (j + 1)) + 1 := by omega
  rw [e]
  simp only [lowB, bvs, List.map_cons, u8_of m]

set_option maxHeartbeats 1600000 in
theorem low_any (B : Nat) (v : Value) (xs : List Value) (n0 : Nat) (n : Int) (k : Nat) (w : World) (hx : n0 ≤ 1000000000) (hk : k ≤ 8) (hn : 0 ≤ n) (hn2 : n ≤ 9223372036854775807) (hB : B ≤ w.heap.size)
    (hown : w.ownsRow B 5 1 v n0 xs) :
    Calls Tryz.prog 44 #[v, .int .i64 n, .int .i64 k] w fun e w' => ∃ v', e = .returned v' ∧ w'.ownsRow B 5 1 v' (n0 + k) (xs ++ bvs (lowB n k)) ∧ Grows w v w' v' := by
  obtain ⟨i0, hi, hz0, hz1, hz2⟩ := info_parts infoU8
  go_enter Tryz.func44, Tryz.ntmps44
  go_wp2
  go_loopw [0, 1, 8] (fun u q i wr => ∃ (j : Nat) (m : Int) (done : List Value), j ≤ k ∧ i = .int .i64 j ∧ q = .int .i64 m ∧ 0 ≤ m ∧ m ≤ 9223372036854775807 ∧ Hid (done ++ bvs (lowB m (k - j)) = bvs (lowB n k)) ∧
      wr.ownsRow B 5 1 u (n0 + j) (xs ++ done) ∧ Grows w v wr u)
    (fun _ _ i _ => k - (intOf i).toNat)
  case atStart => exact ⟨0, n, [], Nat.zero_le _, rfl, rfl, hn, hn2, by simp [Hid], by simpa using hown, Grows.refl _ _⟩
  case round =>
    obtain ⟨j, m, done, hj, rfl, rfl, hm0, hm1, hd, ho, hb⟩ := hrel
    have hbs := hb.chg.size
    by_cases hjk : j < k
    · have hst := Lib.hid (lowB_step (m := m) hjk)
      go_wp2_with (first
      | (at_builtin; refine wpList_append_own_at _ rfl _ _ 64 rfl B 5 i0 (.int .u8 0) 1 1 Tryz.underlying64 hi hz0 hz1 hz2 rfl (by decide) _ _ _ rfl (ho.alloc _) ⟨wr.heap.size, 0, none⟩ 1 1 [.int .u8 (m % 256)] rfl rfl ?c1 ?c2 ?c3 ?c4 ?c5 ?_)
      | go_in)
      case c1 => exact cell_one_new _ _ _
      case c2 => intro u hu; simp at hu; subst hu; rfl
      case c3 => unfold maxLen; omega
      case c4 => omega
      case c5 => simp; omega
      intro v' w1 ho' hg' _ hat'
      have hG := hb.trans (Grows.of_law ((Below.refl _ _).alloc (Nat.le_refl _) _) hg' hat' (by simp))
      clear hg' hat' hb ho
      go_wp2
      go_roundw
      case rel => exact ⟨j + 1, m / 256, done ++ [.int .u8 (m % 256)], by omega, by go_num, by go_num, by omega, by omega, by have := hd.out; rw [hst.out] at this; simpa [Hid] using this, by simpa [Nat.add_assoc] using ho', hG⟩
      case measure => simp [intOf]; omega
    · obtain rfl : j = k := by omega
      go_wp2
      go_ret
      have hd' := hd.out
      simp [lowB, bvs] at hd'
      exact ⟨_, rfl, by simpa [bvs, ← hd'] using ho, hb⟩
#print axioms low_any
end Go.Proofs.YtolpcfhfcdkokaaGreatDoor
/-
  Nodes as data: a node, its bytes, what a list of nodes looks like in memory; the reference's low.
-/
namespace Go.Proofs.YtolpcfhfcdkokaaGreatDoor
open Go.RowKit

/-- A node: its fields; where its bytes lie. -/
structure Nd where
  path : ByteArray
  kind : Int
  made : Int
  same : ByteArray
  dA : Option Addr
  dc : Nat
  data : List UInt8

/-- The node's five cells are what stands from an address on. -/
def NodeAt (w : World) (b off : Nat) (x : Nd) : Prop :=
  w.cell? ⟨b, off, none⟩ = some (.string x.path) ∧ w.cell? ⟨b, off + 1, none⟩ = some (.int .i64 x.kind) ∧ w.cell? ⟨b, off + 2, none⟩ = some (.int .i64 x.made) ∧
  w.cell? ⟨b, off + 3, none⟩ = some (.string x.same) ∧ w.cell? ⟨b, off + 4, none⟩ = some (.slice x.dA x.data.length x.dc)

/-- A slice of nodes that reads as l, below block B. -/
structure NodesAt (w : World) (B : Nat) (A : Option Addr) (l : List Nd) : Prop where
  at_ : 0 < l.length → ∃ b off, A = some ⟨b, off, none⟩ ∧ b < B ∧ ∀ i (h : i < l.length), NodeAt w b (off + i * 5) l[i]
  data : ∀ x ∈ l, Sees w B 1 x.dA x.data.length (bvs x.data)

section
variable {w w1 : World} {B B' : Nat} {A : Option Addr} {l : List Nd}
theorem NodeAt.keep {b off : Nat} {x : Nd} (h : NodeAt w b off x) (hk : ∀ p : Addr, p.block = b → w1.cell? p = w.cell? p) : NodeAt w1 b off x :=
  ⟨(hk _ rfl).trans h.1, (hk _ rfl).trans h.2.1, (hk _ rfl).trans h.2.2.1, (hk _ rfl).trans h.2.2.2.1, (hk _ rfl).trans h.2.2.2.2⟩
theorem NodesAt.keep (h : NodesAt w B A l) (hk : ∀ p : Addr, p.block < B → w1.cell? p = w.cell? p) : NodesAt w1 B A l :=
  ⟨fun hn => let ⟨b, off, e, hb, hc⟩ := h.at_ hn; ⟨b, off, e, hb, fun i hi => (hc i hi).keep fun p hp => hk p (by omega)⟩, fun x hx => (h.data x hx).keep hk⟩
theorem NodesAt.below (h : NodesAt w B A l) (hb : Below B w w1) : NodesAt w1 B A l := h.keep fun _ hp => hb.cell hp
theorem NodesAt.drewN (h : NodesAt w w.heap.size A l) (n : Nat) : NodesAt (w.drewN n) (w.drewN n).heap.size A l := ⟨h.at_, fun x hx => ⟨(h.data x hx).len, (h.data x hx).at_⟩⟩
theorem NodesAt.more (h : NodesAt w B A l) (hB : B ≤ B') : NodesAt w B' A l :=
  ⟨fun hn => let ⟨b, off, e, hb, hc⟩ := h.at_ hn; ⟨b, off, e, by omega, hc⟩, fun x hx => (h.data x hx).more hB⟩
end

/-- May a node be laid? -/
def ndOk (x : Nd) : Prop := (x.kind = 1 ∨ x.kind = 2) ∧ 0 ≤ x.made ∧ x.made ≤ 1099511627776 ∧ x.path.size ≤ 400 ∧ x.same.size ≤ 400 ∧ x.data.length ≤ 136704
instance (x : Nd) : Decidable (ndOk x) := by unfold ndOk; infer_instance
/-- A node's bytes. -/
def enc1 (x : Nd) : List UInt8 :=
  UInt8.ofNat (x.kind % 256).toNat :: (lowB x.made 8 ++ (lowB x.path.size 4 ++ (x.path.data.toList ++ (lowB x.same.size 4 ++ (x.same.data.toList ++ (lowB x.data.length 4 ++ x.data))))))
def encAll (l : List Nd) : List UInt8 := l.flatMap enc1
/-- The answer of Bytes: the bytes, in a new row; or none, and the error. -/
def Bts (l : List Nd) (w : World) (e : Ending) (w' : World) : Prop :=
  (((∀ x ∈ l, ndOk x) ∧ ∃ v', e = .returned (.tuple #[v', .int .i64 0]) ∧ w'.ownsRow w.heap.size 5 1 v' (encAll l).length (bvs (encAll l))) ∨
   ((¬ ∀ x ∈ l, ndOk x) ∧ e = .returned (.tuple #[.slice none 0 0, .int .i64 170]))) ∧ Below w.heap.size w w'
theorem enc1_length (x : Nd) : (enc1 x).length = 21 + x.path.size + x.same.size + x.data.length := by
  have h1 : x.path.data.toList.length = x.path.size := by rw [Array.length_toList]; rfl
  have h2 : x.same.data.toList.length = x.same.size := by rw [Array.length_toList]; rfl
  simp only [enc1, List.length_cons, List.length_append, lowB_length, h1, h2]
  omega
theorem enc_row (done : List UInt8) (pa : ByteArray) (ki ma : Int) (sa : ByteArray) (dA : Option Addr) (dc : Nat) (da : List UInt8) :
    bvs done ++ [.int .u8 (ki % 256)] ++ bvs (lowB ma 8) ++ bvs (lowB pa.size 4) ++ byteCells pa ++ bvs (lowB sa.size 4) ++ byteCells sa ++ bvs (lowB da.length 4) ++ bvs da = bvs (done ++ enc1 ⟨pa, ki, ma, sa, dA, dc, da⟩) := by
  simp only [enc1, bvs_append, byteCells_eq, List.append_assoc]
  congr 1
  show _ = Value.int .u8 _ :: bvs _
  rw [u8_of]
  simp only [bvs_append, List.singleton_append]
theorem enc_len (done : List UInt8) (pa : ByteArray) (ki ma : Int) (sa : ByteArray) (dA : Option Addr) (dc : Nat) (da : List UInt8) :
    (done ++ enc1 ⟨pa, ki, ma, sa, dA, dc, da⟩).length = done.length + 1 + 8 + 4 + pa.size + 4 + sa.size + 4 + da.length := by
  rw [List.length_append, enc1_length]
  show _ + (21 + pa.size + sa.size + da.length) = _
  omega
theorem encAll_append (a b : List Nd) : encAll (a ++ b) = encAll a ++ encAll b := by unfold encAll; rw [List.flatMap_append]
theorem encAll_take (l : List Nd) (i : Nat) (h : i < l.length) : encAll (l.take (i + 1)) = encAll (l.take i) ++ enc1 l[i] := by
  have e : l.take (i + 1) = l.take i ++ [l[i]] := List.take_succ_eq_append_getElem h
  rw [e, encAll_append]
  simp [encAll]
theorem encAll_le (l : List Nd) (i : Nat) (h : i < l.length) : (encAll (l.take i)).length + (enc1 l[i]).length ≤ (encAll l).length := by
  have h1 := encAll_take l i h
  have h2 : encAll l = encAll (l.take (i + 1)) ++ encAll (l.drop (i + 1)) := by rw [← encAll_append, List.take_append_drop]
  rw [h2, h1, List.length_append, List.length_append]
  omega

theorem low8 (B : Nat) (v : Value) (xs : List Value) (n0 : Nat) (n : Int) (w : World) (hx : n0 ≤ 1000000000) (hn : 0 ≤ n) (hn2 : n ≤ 1099511627776) (hB : B ≤ w.heap.size) (hown : w.ownsRow B 5 1 v n0 xs) :
    Calls Tryz.prog 44 #[v, .int .i64 n, .int .i64 8] w fun e w' => ∃ v', e = .returned v' ∧ w'.ownsRow B 5 1 v' (n0 + 8) (xs ++ bvs (lowB n 8)) ∧ Grows w v w' v' :=
  low_any B v xs n0 n 8 w hx (by omega) hn (by omega) hB hown
theorem low4 (B : Nat) (v : Value) (xs : List Value) (n0 : Nat) (n : Int) (w : World) (hx : n0 ≤ 1000000000) (hn : 0 ≤ n) (hn2 : n ≤ 1099511627776) (hB : B ≤ w.heap.size) (hown : w.ownsRow B 5 1 v n0 xs) :
    Calls Tryz.prog 44 #[v, .int .i64 n, .int .i64 4] w fun e w' => ∃ v', e = .returned v' ∧ w'.ownsRow B 5 1 v' (n0 + 4) (xs ++ bvs (lowB n 4)) ∧ Grows w v w' v' :=
  low_any B v xs n0 n 4 w hx (by omega) hn (by omega) hB hown
theorem NodeAt.grows {w w1 : World} {v v1 : Value} {g off : Nat} {x : Nd} (h : NodeAt w g off x) (hG : Grows w v w1 v1) (hne : v.ownBlock ≠ some g) : NodeAt w1 g off x :=
  h.keep fun p hp => by
    have hlt : g < w.heap.size := World.block_lt_of_cell? w _ h.1
    exact hG.chg.cell (by omega) (by rw [hp]; exact hne)
theorem NodeAt.law {w w1 : World} {row : Option Nat} {g off : Nat} {x : Nd} (h : NodeAt w g off x) (hG : w.grownBy w1 row) (hne : row ≠ some g) : NodeAt w1 g off x :=
  h.keep fun p hp => by
    have hlt : g < w.heap.size := World.block_lt_of_cell? w _ h.1
    exact hG.cell_far p (by omega) (by rw [hp]; exact hne.symm)
#print axioms low4
end Go.Proofs.YtolpcfhfcdkokaaGreatDoor
