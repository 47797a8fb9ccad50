/-
  Nodes as data: a node, its bytes, what a list of nodes looks like in memory; the reference's low.
-/
import Derived.Test.YtolpcfhfcdkokaaLow
import Derived.Test.YtolpcfhfcdkokaaApp
namespace Go.Proofs.Ytolpcfhfcdkokaa
open Go.RowKit

/-- A node: its fields; where its bytes lie. -/
structure Nd where
  path : ByteArray
  kind : Int
  made : Int
  same : ByteArray
  dA : Option Addr
  dc : Nat
  data : List UInt8

/-- The node's five cells are what stands from an address on. -/
def NodeAt (w : World) (b off : Nat) (x : Nd) : Prop :=
  w.cell? ⟨b, off, none⟩ = some (.string x.path) ∧ w.cell? ⟨b, off + 1, none⟩ = some (.int .i64 x.kind) ∧ w.cell? ⟨b, off + 2, none⟩ = some (.int .i64 x.made) ∧
  w.cell? ⟨b, off + 3, none⟩ = some (.string x.same) ∧ w.cell? ⟨b, off + 4, none⟩ = some (.slice x.dA x.data.length x.dc)

/-- A slice of nodes that reads as l, below block B. -/
structure NodesAt (w : World) (B : Nat) (A : Option Addr) (l : List Nd) : Prop where
  at_ : 0 < l.length → ∃ b off, A = some ⟨b, off, none⟩ ∧ b < B ∧ ∀ i (h : i < l.length), NodeAt w b (off + i * 5) l[i]
  data : ∀ x ∈ l, Sees w B 1 x.dA x.data.length (bvs x.data)

section
variable {w w1 : World} {B B' : Nat} {A : Option Addr} {l : List Nd}
theorem NodeAt.keep {b off : Nat} {x : Nd} (h : NodeAt w b off x) (hk : ∀ p : Addr, p.block = b → w1.cell? p = w.cell? p) : NodeAt w1 b off x :=
  ⟨(hk _ rfl).trans h.1, (hk _ rfl).trans h.2.1, (hk _ rfl).trans h.2.2.1, (hk _ rfl).trans h.2.2.2.1, (hk _ rfl).trans h.2.2.2.2⟩
theorem NodesAt.keep (h : NodesAt w B A l) (hk : ∀ p : Addr, p.block < B → w1.cell? p = w.cell? p) : NodesAt w1 B A l :=
  ⟨fun hn => let ⟨b, off, e, hb, hc⟩ := h.at_ hn; ⟨b, off, e, hb, fun i hi => (hc i hi).keep fun p hp => hk p (by omega)⟩, fun x hx => (h.data x hx).keep hk⟩
theorem NodesAt.below (h : NodesAt w B A l) (hb : Below B w w1) : NodesAt w1 B A l := h.keep fun _ hp => hb.cell hp
theorem NodesAt.drewN (h : NodesAt w w.heap.size A l) (n : Nat) : NodesAt (w.drewN n) (w.drewN n).heap.size A l := ⟨h.at_, fun x hx => ⟨(h.data x hx).len, (h.data x hx).at_⟩⟩
theorem NodesAt.more (h : NodesAt w B A l) (hB : B ≤ B') : NodesAt w B' A l :=
  ⟨fun hn => let ⟨b, off, e, hb, hc⟩ := h.at_ hn; ⟨b, off, e, by omega, hc⟩, fun x hx => (h.data x hx).more hB⟩
end

/-- May a node be laid? -/
def ndOk (x : Nd) : Prop := (x.kind = 1 ∨ x.kind = 2) ∧ 0 ≤ x.made ∧ x.made ≤ 1099511627776 ∧ x.path.size ≤ 400 ∧ x.same.size ≤ 400 ∧ x.data.length ≤ 136704
instance (x : Nd) : Decidable (ndOk x) := by unfold ndOk; infer_instance
/-- A node's bytes. -/
def enc1 (x : Nd) : List UInt8 :=
  UInt8.ofNat (x.kind % 256).toNat :: (lowB x.made 8 ++ (lowB x.path.size 4 ++ (x.path.data.toList ++ (lowB x.same.size 4 ++ (x.same.data.toList ++ (lowB x.data.length 4 ++ x.data))))))
def encAll (l : List Nd) : List UInt8 := l.flatMap enc1
/-- The answer of Bytes: the bytes, in a new row; or none, and the error. -/
def Bts (l : List Nd) (w : World) (e : Ending) (w' : World) : Prop :=
  (((∀ x ∈ l, ndOk x) ∧ ∃ v', e = .returned (.tuple #[v', .int .i64 0]) ∧ w'.ownsRow w.heap.size 5 1 v' (encAll l).length (bvs (encAll l))) ∨
   ((¬ ∀ x ∈ l, ndOk x) ∧ e = .returned (.tuple #[.slice none 0 0, .int .i64 170]))) ∧ Below w.heap.size w w'
theorem enc1_length (x : Nd) : (enc1 x).length = 21 + x.path.size + x.same.size + x.data.length := by
  have h1 : x.path.data.toList.length = x.path.size := by rw [Array.length_toList]; rfl
  have h2 : x.same.data.toList.length = x.same.size := by rw [Array.length_toList]; rfl
  simp only [enc1, List.length_cons, List.length_append, lowB_length, h1, h2]
  omega
theorem enc_row (done : List UInt8) (pa : ByteArray) (ki ma : Int) (sa : ByteArray) (dA : Option Addr) (dc : Nat) (da : List UInt8) :
    bvs done ++ [.int .u8 (ki % 256)] ++ bvs (lowB ma 8) ++ bvs (lowB pa.size 4) ++ byteCells pa ++ bvs (lowB sa.size 4) ++ byteCells sa ++ bvs (lowB da.length 4) ++ bvs da = bvs (done ++ enc1 ⟨pa, ki, ma, sa, dA, dc, da⟩) := by
  simp only [enc1, bvs_append, byteCells_eq, List.append_assoc]
  congr 1
  show _ = Value.int .u8 _ :: bvs _
  rw [u8_of]
  simp only [bvs_append, List.singleton_append]
theorem enc_len (done : List UInt8) (pa : ByteArray) (ki ma : Int) (sa : ByteArray) (dA : Option Addr) (dc : Nat) (da : List UInt8) :
    (done ++ enc1 ⟨pa, ki, ma, sa, dA, dc, da⟩).length = done.length + 1 + 8 + 4 + pa.size + 4 + sa.size + 4 + da.length := by
  rw [List.length_append, enc1_length]
  show _ + (21 + pa.size + sa.size + da.length) = _
  omega
theorem encAll_append (a b : List Nd) : encAll (a ++ b) = encAll a ++ encAll b := by unfold encAll; rw [List.flatMap_append]
theorem encAll_take (l : List Nd) (i : Nat) (h : i < l.length) : encAll (l.take (i + 1)) = encAll (l.take i) ++ enc1 l[i] := by
  have e : l.take (i + 1) = l.take i ++ [l[i]] := List.take_succ_eq_append_getElem h
  rw [e, encAll_append]
  simp [encAll]
theorem encAll_le (l : List Nd) (i : Nat) (h : i < l.length) : (encAll (l.take i)).length + (enc1 l[i]).length ≤ (encAll l).length := by
  have h1 := encAll_take l i h
  have h2 : encAll l = encAll (l.take (i + 1)) ++ encAll (l.drop (i + 1)) := by rw [← encAll_append, List.take_append_drop]
  rw [h2, h1, List.length_append, List.length_append]
  omega

set_option maxHeartbeats 1600000 in
theorem rlow_any (n : Int) (k : Nat) (w : World) (hk : k ≤ 8) (hn : 0 ≤ n) (hn2 : n ≤ 9223372036854775807) :
    Calls Try.prog 22 #[.int .i64 n, .int .i64 k] w fun e w' => ∃ v', e = .returned v' ∧ w'.ownsRow w.heap.size 5 1 v' k (bvs (lowB n k)) ∧ Below w.heap.size w w' := by
  obtain ⟨i0, hi, hz0, hz1, hz2⟩ := info_parts infoU8
  go_enter Try.func22, Try.ntmps22
  go_wp2
  go_loopw [0, 5, 6] (fun q u i wr => ∃ (j : Nat) (m : Int) (done : List Value), j ≤ k ∧ i = .int .i64 j ∧ q = .int .i64 m ∧ 0 ≤ m ∧ m ≤ 9223372036854775807 ∧ Hid (done ++ bvs (lowB m (k - j)) = bvs (lowB n k)) ∧
      wr.ownsRow w.heap.size 5 1 u j done ∧ Below w.heap.size w wr)
    (fun _ _ i _ => k - (intOf i).toNat)
  case atStart => exact ⟨0, n, [], Nat.zero_le _, rfl, rfl, hn, hn2, by simp [Hid], World.ownsRow_nil _ _ _ _, Below.refl _ _⟩
  case round =>
    obtain ⟨j, m, done, hj, rfl, rfl, hm0, hm1, hd, ho, hb⟩ := hrel
    have hbs := hb.size
    by_cases hjk : j < k
    · have hst := Lib.hid (lowB_step (m := m) hjk)
      go_wp2_with (first
      | (at_builtin; refine wpList_app _ rfl _ _ _ _ rfl w.heap.size 5 i0 (.int .u8 0) 1 1 Try.underlying29 hi hz0 hz1 hz2 rfl _ _ _ rfl (ho.alloc _) 1 [.int .u8 (m % 256)] (Src.ofSlice _ Try.underlying29 ⟨wr.heap.size, 0, none⟩ 1 1 _ rfl (cell_one_new _ _ _) ?c2) ?c3 ?c4 ?c5 ?_)
      | go_in)
      case c2 => intro u hu; simp at hu; subst hu; rfl
      case c3 => unfold maxLen; omega
      case c4 => omega
      case c5 => simp; omega
      intro v' w1 ho' hg' hat'
      have hB := (hb.alloc hbs (.cells #[.int .u8 (m % 256)] 5)).grown hg' (by simp; omega) (fun g hg => (ho.lt g hg).1)
      clear hg' hat' hb ho
      go_wp2
      go_roundw
      case rel => exact ⟨j + 1, m / 256, done ++ [.int .u8 (m % 256)], by omega, by go_num, by go_num, by omega, by omega, by have := hd.out; rw [hst.out] at this; simpa [Hid] using this, by simpa [Nat.add_assoc] using ho', hB⟩
      case measure => simp [intOf]; omega
    · obtain rfl : j = k := by omega
      go_wp2
      go_ret
      have hd' := hd.out
      simp [lowB, bvs] at hd'
      exact ⟨_, rfl, by simpa [bvs, ← hd'] using ho, hb⟩

theorem low8 (B : Nat) (v : Value) (xs : List Value) (n0 : Nat) (n : Int) (w : World) (hx : n0 ≤ 1000000000) (hn : 0 ≤ n) (hn2 : n ≤ 1099511627776) (hB : B ≤ w.heap.size) (hown : w.ownsRow B 5 1 v n0 xs) :
    Calls Try.prog 21 #[v, .int .i64 n, .int .i64 8] w fun e w' => ∃ v', e = .returned v' ∧ w'.ownsRow B 5 1 v' (n0 + 8) (xs ++ bvs (lowB n 8)) ∧ Grows w v w' v' :=
  low_any B v xs n0 n 8 w hx (by omega) hn (by omega) hB hown
theorem low4 (B : Nat) (v : Value) (xs : List Value) (n0 : Nat) (n : Int) (w : World) (hx : n0 ≤ 1000000000) (hn : 0 ≤ n) (hn2 : n ≤ 1099511627776) (hB : B ≤ w.heap.size) (hown : w.ownsRow B 5 1 v n0 xs) :
    Calls Try.prog 21 #[v, .int .i64 n, .int .i64 4] w fun e w' => ∃ v', e = .returned v' ∧ w'.ownsRow B 5 1 v' (n0 + 4) (xs ++ bvs (lowB n 4)) ∧ Grows w v w' v' :=
  low_any B v xs n0 n 4 w hx (by omega) hn (by omega) hB hown
theorem rlow8 (n : Int) (w : World) (hn : 0 ≤ n) (hn2 : n ≤ 1099511627776) :
    Calls Try.prog 22 #[.int .i64 n, .int .i64 8] w fun e w' => ∃ v', e = .returned v' ∧ w'.ownsRow w.heap.size 5 1 v' 8 (bvs (lowB n 8)) ∧ Below w.heap.size w w' :=
  rlow_any n 8 w (by omega) hn (by omega)
theorem rlow4 (n : Int) (w : World) (hn : 0 ≤ n) (hn2 : n ≤ 1099511627776) :
    Calls Try.prog 22 #[.int .i64 n, .int .i64 4] w fun e w' => ∃ v', e = .returned v' ∧ w'.ownsRow w.heap.size 5 1 v' 4 (bvs (lowB n 4)) ∧ Below w.heap.size w w' :=
  rlow_any n 4 w (by omega) hn (by omega)
theorem NodeAt.grows {w w1 : World} {v v1 : Value} {g off : Nat} {x : Nd} (h : NodeAt w g off x) (hG : Grows w v w1 v1) (hne : v.ownBlock ≠ some g) : NodeAt w1 g off x :=
  h.keep fun p hp => by
    have hlt : g < w.heap.size := World.block_lt_of_cell? w _ h.1
    exact hG.chg.cell (by omega) (by rw [hp]; exact hne)
theorem NodeAt.law {w w1 : World} {row : Option Nat} {g off : Nat} {x : Nd} (h : NodeAt w g off x) (hG : w.grownBy w1 row) (hne : row ≠ some g) : NodeAt w1 g off x :=
  h.keep fun p hp => by
    have hlt : g < w.heap.size := World.block_lt_of_cell? w _ h.1
    exact hG.cell_far p (by omega) (by rw [hp]; exact hne.symm)
#print axioms rlow_any
end Go.Proofs.Ytolpcfhfcdkokaa
