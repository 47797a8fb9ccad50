/- Joined out of the texts Sec, Num, Slot, Enc. -/
import Derived.Deep.MidRow
import Derived.Great.Ranges
import Derived.Test.YtolpcfhfcdkokaaGreatDoorM03
import Derived.Test.YtolpcfhfcdkokaaGreatDoorM05
/-
  The reference's layer 6: sectors as values: lay, says.
-/
namespace Go.Proofs.YtolpcfhfcdkokaaGreatDoor
open Go.RowKit

theorem infoSec : (Tryz.prog.info? 187).map (·.size) = some 128 := by kernel_rfl
/-- A sector as a value. -/
def secV (s : List UInt8) : Value := .agg (bvs s).toArray
/-- k bytes of n laid from a place on. -/
def layL (s : List UInt8) (at_ k : Nat) (n : Int) : List UInt8 := s.take at_ ++ (lowB n k ++ s.drop (at_ + k))
theorem layL_length (s : List UInt8) (at_ k : Nat) (n : Int) (h : at_ + k ≤ s.length) : (layL s at_ k n).length = s.length := by
  simp only [layL, List.length_append, List.length_take, List.length_drop, lowB_length]
  omega

theorem lay_step1 {done : List UInt8} {m n : Int} {j k : Nat} (h : done ++ lowB m (k - j) = lowB n k) (hj : j < k) : Hid ((done ++ [UInt8.ofNat (m % 256).toNat]) ++ lowB (m / 256) (k - (j + 1)) = lowB n k) := by
  show _ = _
  rw [show k - j = (k - (j + 1)) + 1 by omega] at h
  rw [← h, List.append_assoc]
  rfl
theorem lay_step2 {s done : List UInt8} {m : Int} {j at_ : Nat} (hd : done.length = j) (hs : at_ + j < s.length) :
    (bvs (s.take at_ ++ (done ++ s.drop (at_ + j)))).set (at_ + j) (.int .u8 (m % 256)) = bvs (s.take at_ ++ ((done ++ [UInt8.ofNat (m % 256).toNat]) ++ s.drop (at_ + (j + 1)))) := by
  have e : s.drop (at_ + j) = s[at_ + j] :: s.drop (at_ + (j + 1)) := List.drop_eq_getElem_cons hs
  have hl : (s.take at_).length = at_ := by rw [List.length_take]; omega
  have hu : Value.int .u8 (m % 256) = .int .u8 ((UInt8.ofNat (m % 256).toNat).toNat : Int) := by rw [u8_of]
  rw [hu, e]
  unfold bvs
  rw [← List.map_set (f := fun b : UInt8 => Value.int .u8 (b.toNat : Int))]
  congr 1
  rw [List.set_append_right _ _ (by omega), hl, show at_ + j - at_ = j by omega, List.set_append_right _ _ (by omega), hd, Nat.sub_self, List.set_cons_zero]
  simp
theorem secs_one (s : List UInt8) : (bvs s).toArray.all (·.oneCell') = true := by
  rw [Array.all_eq_true_iff_forall_mem]
  intro x hx
  exact bvs_one s x (by simpa using hx)

set_option maxHeartbeats 1600000 in
set_option maxRecDepth 100000 in
theorem lay_any (s : List UInt8) (at_ k : Nat) (n : Int) (w : World) (hs : s.length = 128) (hk : at_ + k ≤ 128) (hn : 0 ≤ n) (hn2 : n ≤ 9223372036854775807) :
    Calls Tryz.prog 152 #[secV s, .int .i64 at_, .int .i64 k, .int .i64 n] w fun e w' => e = .returned (secV (layL s at_ k n)) ∧ Below w.heap.size w w' := by
  unfold secV
  have hb0 := (Blk.new w 187 (bvs s)).alloc (.cells Tryz.zeroCells187 187)
  have hp0 : Blk ((w.alloc (.cells (bvs s).toArray 187)).alloc (.cells Tryz.zeroCells187 187)) (w.heap.size + 1) 187 Tryz.zeroCells187.toList := by
    have := Blk.new (w.alloc (.cells (bvs s).toArray 187)) 187 Tryz.zeroCells187.toList
    simpa using this
  have hbw : Below w.heap.size w ((w.alloc (.cells (bvs s).toArray 187)).alloc (.cells Tryz.zeroCells187 187)) := ((Below.refl _ _).alloc (Nat.le_refl _) _).alloc (by simp) _
  go_enter Tryz.func152, Tryz.ntmps152
  go_wp2
  generalize (w.alloc (.cells (bvs s).toArray 187)).alloc (.cells Tryz.zeroCells187 187) = w0 at *
  generalize hg : w.heap.size = g at *
  have hgH := Lib.hid hg
  clear hg
  go_loopw [9, 10] (fun x i wr => ∃ (j : Nat) (m : Int) (done : List UInt8), j ≤ k ∧ i = .int .i64 j ∧ x = .int .i64 m ∧ 0 ≤ m ∧ m ≤ 9223372036854775807 ∧ Hid (done ++ lowB m (k - j) = lowB n k) ∧ Hid (done.length = j) ∧
      Blk wr g 187 (bvs (s.take at_ ++ (done ++ s.drop (at_ + j)))) ∧ Blk wr (g + 1) 187 Tryz.zeroCells187.toList ∧ Below g w wr)
    (fun _ i _ => k - (intOf i).toNat)
  case atStart => exact ⟨0, n, [], Nat.zero_le _, rfl, rfl, hn, hn2, by simp [Hid], rfl, by simpa using hb0, hp0, hbw⟩
  case round =>
    obtain ⟨j, m, done, hj, rfl, rfl, hm0, hm1, hd, hdl, hB, hP, hbr⟩ := hrel
    clear hb0 hp0 hbw
    by_cases hjk : j < k
    · have hst := Lib.hid (lowB_step (m := m) hjk)
      have hln : (bvs (s.take at_ ++ (done ++ s.drop (at_ + j)))).length = 128 := by
        rw [bvs_length, List.length_append, List.length_append, List.length_take, List.length_drop, hdl.out]
        omega
      have k1 := (hB.cell (at_ + j)).trans (List.getElem?_eq_getElem (by omega))
      have k2 := hB.frozen (at_ + j)
      have hB2 := Lib.hid (hB.set_ (at_ + j) (.int .u8 (m % 256)))
      have hP2 := Lib.hid (hP.far (p := ⟨g, at_ + j, none⟩) (by simp) (.int .u8 (m % 256)))
      have hb2 := Lib.hid (hbr.setCell (p := ⟨g, at_ + j, none⟩) (Nat.le_refl _) (.int .u8 (m % 256)))
      generalize (bvs (s.take at_ ++ (done ++ s.drop (at_ + j))))[at_ + j] = old at *
      clear hB hP hbr
      go_wp2
      go_roundw
      case rel => exact ⟨j + 1, m / 256, done ++ [UInt8.ofNat (m % 256).toNat], by omega, by go_num, by go_num, by omega, by omega, lay_step1 hd.out hjk, by show _ = _; rw [List.length_append, hdl.out]; rfl, by rw [← lay_step2 hdl.out (by omega)]; exact hB2.out, hP2.out, hb2.out⟩
      case measure => simp [intOf]; omega
    · obtain rfl : k = j := by omega
      have hys : s.take at_ ++ (done ++ s.drop (at_ + k)) = layL s at_ k n := by
        have h := hd.out
        rw [Nat.sub_self] at h
        simp only [lowB, List.append_nil] at h
        rw [h]
        rfl
      rw [hys] at hB
      have hl := layL_length s at_ k n (by omega)
      have hz : Tryz.zeroCells187.toList.length = 128 := by kernel_rfl
      generalize hyy : layL s at_ k n = ys at *
      have hyyH := Lib.hid hyy
      clear hyy
      have hsz : (Tryz.prog.info? 187).map (·.size) = some (bvs ys).toArray.size := by rw [infoSec, List.size_toArray, bvs_length]; congr 1; omega
      clear hys hd
      go_wp2_with (first
        | (refine wpList_load_row rfl 187 (.tmp 4) rfl g rfl 187 (bvs ys).toArray (0, 0) _ hB Tryz.underlying187 rfl hsz ?_)
        | (refine wpList_store_row rfl 187 (.tmp 8) (.tmp 26) rfl (g + 1) (bvs ys).toArray rfl rfl 187 _ hP hsz (by rw [List.size_toArray, List.size_toArray, hz, bvs_length]; omega) (secs_one ys) ?_))
      have hrow : Blk (wr.setRow (g + 1) (bvs ys).toArray) (g + 1) 187 (bvs ys) := setRow_heap wr (g + 1) _ _ _ _ hP
      refine bodyPost_ret (results_cell_row rfl _ _ (g + 1) 187 (bvs ys).toArray (0, 0) _ rfl hrow Tryz.underlying187 rfl hsz) rfl ⟨by rw [hyyH.out], ?_⟩
      rw [hgH.out]
      exact hbr.trans (((Chg.refl (fun b => b = g + 1) wr).setRow (g := g + 1) (fun _ => rfl) _).below (Nat.le_of_lt hB.lt) (fun b hb e => by omega))
#print axioms lay_any
end Go.Proofs.YtolpcfhfcdkokaaGreatDoor
/-
  Numbers, lowest byte first, taken off bytes: the plain law.
-/
namespace Go.Proofs.YtolpcfhfcdkokaaGreatDoor
open Go.RowKit

/-- The number that bytes say, the lowest first. -/
def numL : List UInt8 → Nat
  | [] => 0
  | x :: xs => x.toNat + 256 * numL xs
theorem numL_lt (l : List UInt8) : numL l < 2 ^ (8 * l.length) := by
  induction l with
  | nil => simp [numL]
  | cons x xs ih =>
    have hx : x.toNat < 256 := x.toNat_lt
    have e : 2 ^ (8 * (x :: xs).length) = 256 * 2 ^ (8 * xs.length) := by rw [List.length_cons, Nat.mul_add, Nat.pow_add]; omega
    rw [e]
    simp only [numL]
    omega
theorem numL_snoc (l : List UInt8) (x : UInt8) : numL (l ++ [x]) = numL l + x.toNat * 2 ^ (8 * l.length) := by
  induction l with
  | nil => simp [numL]
  | cons y ys ih =>
    have e : 2 ^ (8 * (y :: ys).length) = 256 * 2 ^ (8 * ys.length) := by rw [List.length_cons, Nat.mul_add, Nat.pow_add]; omega
    rw [e, List.cons_append]
    simp only [numL, ih]
    rw [Nat.mul_add, ← Nat.mul_assoc x.toNat, Nat.mul_comm x.toNat 256, Nat.mul_assoc]
    omega
theorem numL_or (l : List UInt8) (x : UInt8) : numL l ||| (x.toNat * 2 ^ (8 * l.length)) = numL (l ++ [x]) := by
  rw [numL_snoc, Nat.or_comm, Nat.mul_comm x.toNat, ← Nat.two_pow_add_eq_or_of_lt (numL_lt l), Nat.add_comm]
theorem numL_lowB (k : Nat) : ∀ m : Int, 0 ≤ m → numL (lowB m k) = (m % (256 ^ k : Nat)).toNat := by
  induction k with
  | zero =>
    intro m hm
    show 0 = (m % ((256 ^ 0 : Nat) : Int)).toNat
    rw [Nat.pow_zero]
    omega
  | succ k ih =>
    intro m hm
    have h1 : (UInt8.ofNat (m % 256).toNat).toNat = (m % 256).toNat := by have := u8_of m; omega
    simp only [lowB, numL, ih (m / 256) (by omega), h1]
    obtain ⟨n, rfl⟩ := Int.eq_ofNat_of_zero_le hm
    rw [Nat.pow_succ, Nat.mul_comm (256 ^ k) 256]
    have e2 : n % (256 * 256 ^ k) = n % 256 + 256 * (n / 256 % 256 ^ k) := Nat.mod_mul
    generalize 256 ^ k = q at *
    have e1 : ((n : Int) / 256 % (q : Int)).toNat = n / 256 % q := rfl
    have e3 : ((n : Int) % ((256 * q : Nat) : Int)).toNat = n % (256 * q) := rfl
    have e4 : ((n : Int) % 256).toNat = n % 256 := rfl
    rw [e1, e3, e4, e2]

/-- What 'take' answers, and what is left; none: bad. -/
def takeX (k : Nat) : Option (List UInt8) → List UInt8
  | none => []
  | some r => if r.length < k then [] else r.take k
def takeO (k : Nat) : Option (List UInt8) → Option (List UInt8)
  | none => none
  | some r => if r.length < k then none else some (r.drop k)
/-- A number of so many bytes, at most so great. -/
def numX (k most : Nat) (o : Option (List UInt8)) : Nat := if numL (takeX k o) ≤ most then numL (takeX k o) else 0
def numO (k most : Nat) (o : Option (List UInt8)) : Option (List UInt8) := if numL (takeX k o) ≤ most then takeO k o else none
theorem take_lay (a r : List UInt8) : takeX a.length (some (a ++ r)) = a ∧ takeO a.length (some (a ++ r)) = some r := by
  have h : ¬ (a ++ r).length < a.length := by rw [List.length_append]; omega
  refine ⟨?_, ?_⟩
  · simp only [takeX]
    rw [if_neg h, List.take_left]
  · simp only [takeO]
    rw [if_neg h, List.drop_left]
theorem num_lay (m : Int) (k most : Nat) (r : List UInt8) (hm : 0 ≤ m) (hk : m < (256 ^ k : Nat)) (hmost : m ≤ most) :
    numX k most (some (lowB m k ++ r)) = m.toNat ∧ numO k most (some (lowB m k ++ r)) = some r := by
  have h := take_lay (lowB m k) r
  rw [lowB_length] at h
  have e : numL (lowB m k) = m.toNat := by rw [numL_lowB k m hm, Int.emod_eq_of_lt hm hk]
  unfold numX numO
  rw [h.1, h.2, e, if_pos (by omega), if_pos (by omega)]
  exact ⟨rfl, rfl⟩
end Go.Proofs.YtolpcfhfcdkokaaGreatDoor
/-
  The reference's layer 6: slots as sectors.
-/
namespace Go.Proofs.YtolpcfhfcdkokaaGreatDoor
open Go.RowKit

def inB (n a b : Int) : Bool := decide (a ≤ n ∧ n ≤ b)
set_option maxHeartbeats 1600000 in
theorem within_any (n a b : Int) (w : World) :
    Calls Tryz.prog 150 #[.int .i64 n, .int .i64 a, .int .i64 b] w fun e w' => e = .returned (.bool (inB n a b)) ∧ w = w' := by
  by_cases h1 : a ≤ n
  · by_cases h2 : n ≤ b
    · have hf := Lib.hid (show inB n a b = true from decide_eq_true ⟨h1, h2⟩)
      go_enter Tryz.func150, Tryz.ntmps150
      go_wp2
      go_ret
      exact ⟨by rw [hf.out]; rfl, rfl⟩
    · have hf := Lib.hid (show inB n a b = false from decide_eq_false (fun h => h2 h.2))
      have h3 : b < n := by omega
      clear h2
      go_enter Tryz.func150, Tryz.ntmps150
      go_wp2
      go_ret
      exact ⟨by rw [hf.out]; simp; omega, rfl⟩
  · have hf := Lib.hid (show inB n a b = false from decide_eq_false (fun h => h1 h.1))
    have h3 : n < a := by omega
    clear h1
    go_enter Tryz.func150, Tryz.ntmps150
    go_wp2
    go_ret
    exact ⟨by rw [hf.out]; rfl, rfl⟩

/-- May a name be? -/
def nameOk (s : ByteArray) : Prop := (1 ≤ s.size ∧ s.size ≤ 40) ∧ (∀ k (h : k < s.size), s[k].toNat ≠ 0 ∧ s[k].toNat ≠ 47) ∧ s.toList ≠ [46] ∧ s.toList ≠ [46, 46]
set_option maxHeartbeats 1600000 in
set_option maxRecDepth 100000 in
theorem isName_yes (s : ByteArray) (w : World) (h : nameOk s) :
    Calls Tryz.prog 151 #[.string s] w fun e w' => e = .returned (.bool true) ∧ w = w' := by
  obtain ⟨⟨h1, h2⟩, hc, h3, h4⟩ := h
  have hcH := Lib.hid hc
  have e3 : ¬ s.toList = [46] := h3
  have e4 : ¬ s.toList = [46, 46] := h4
  have hin := Lib.hid (show inB (s.size : Int) 1 40 = true from decide_eq_true ⟨by omega, by omega⟩)
  clear hc h3 h4
  go_enter Tryz.func151, Tryz.ntmps151
  go_wp2
  go_loop [3] (fun i => ∃ k : Nat, k ≤ s.size ∧ i = .int .i64 k) (fun i => s.size - (intOf i).toNat)
  case atStart => exact ⟨0, Nat.zero_le _, rfl⟩
  case round =>
    obtain ⟨k, hk, rfl⟩ := hrel
    by_cases hlt : k < s.size
    · obtain ⟨c1, c2⟩ := hcH.out k hlt
      have b1 : ((s[k].toNat : Int) == 0) = false := by simpa using c1
      have b2 : ((s[k].toNat : Int) == 47) = false := by simp; omega
      clear c1 c2
      go_wp2
      go_round
      case rel => exact ⟨k + 1, by omega, by go_num⟩
      case measure => simp [intOf]; omega
    · obtain rfl : k = s.size := by omega
      go_wp2_with (go_at_call 150; refine (within_any _ _ _ _).mono ?_; rintro e w' ⟨rfl, rfl⟩; rw [hin.out])
      go_ret
      refine ⟨?_, rfl⟩
      show Ending.returned (Value.bool (!s.toList == [46] && !s.toList == [46, 46])) = _
      rw [show (s.toList == [46]) = false by simpa using e3, show (s.toList == [46, 46]) = false by simpa using e4]
      rfl
set_option maxHeartbeats 1600000 in
set_option maxRecDepth 100000 in
theorem says_any (s : List UInt8) (at_ k : Nat) (w : World) (hs : s.length = 128) (hk : at_ + k ≤ 128) (hk4 : k ≤ 4) :
    Calls Tryz.prog 137 #[secV s, .int .i64 at_, .int .i64 k] w fun e w' => e = .returned (.int .i64 (numL ((s.drop at_).take k))) ∧ Below w.heap.size w w' := by
  unfold secV
  have hB0 := Blk.new w 187 (bvs s)
  have hb0 : Below w.heap.size w (w.alloc (.cells (bvs s).toArray 187)) := (Below.refl _ _).alloc (Nat.le_refl _) _
  have hxl : ((s.drop at_).take k).length = k := by rw [List.length_take, List.length_drop]; omega
  obtain ⟨xs, hxs⟩ : ∃ xs, xs = (s.drop at_).take k := ⟨_, rfl⟩
  have hcell : ∀ j (h : j < xs.length), (bvs s)[at_ + j]? = some (.int .u8 (xs[j].toNat : Int)) := fun j h => by
    have h1 : at_ + j < s.length := by rw [hxs, hxl] at h; omega
    rw [bvs_get s (at_ + j) h1]
    subst hxs
    simp
  rw [← hxs]
  have hxlH : Hid (xs.length = k) := by rw [hxs]; exact hxl
  clear hxs hxl
  go_enter Tryz.func137, Tryz.ntmps137
  go_wp2
  generalize w.alloc (.cells (bvs s).toArray 187) = w0 at *
  go_loop [7, 8] (fun n i => ∃ (z : Int) (m : Nat), -1 ≤ z ∧ z < k ∧ i = .int .i64 z ∧ n = .int .i64 m ∧ Hid (m = numL (xs.drop (z + 1).toNat))) (fun _ i => (intOf i + 1).toNat)
  case atStart => exact ⟨(k : Int) - 1, 0, by omega, by omega, rfl, rfl, by
    show _ = _
    have : ((k : Int) - 1 + 1).toNat = xs.length := by have := hxlH.out; omega
    rw [this, List.drop_length]
    rfl⟩
  case round =>
    obtain ⟨z, m, hz1, hz2, rfl, rfl, hm⟩ := hrel
    by_cases hz : 0 ≤ z
    · obtain ⟨j, rfl⟩ := Int.eq_ofNat_of_zero_le hz
      have hj : j < xs.length := by have := hxlH.out; omega
      have hg := Lib.hid (show numL (xs.drop j) = xs[j].toNat + 256 * numL (xs.drop (j + 1)) by rw [List.drop_eq_getElem_cons hj]; rfl)
      have hcj : w0.cell? ⟨w.heap.size, at_ + j, none⟩ = some (.int .u8 (xs[j].toNat : Int)) := (hB0.cell (at_ + j)).trans (hcell j hj)
      have hxb : xs[j].toNat < 256 := xs[j].toNat_lt
      have ei : Hid (((j : Int) + 1).toNat = j + 1) := by show _ = _; omega
      have hmb : m ≤ 4294967296 := by
        have h1 := hm.out
        have h2 := numL_lt (xs.drop (((j : Nat) : Int) + 1).toNat)
        have h3 : 2 ^ (8 * (xs.drop (((j : Nat) : Int) + 1).toNat).length) ≤ 2 ^ 32 := Nat.pow_le_pow_right (by decide) (by rw [List.length_drop]; have := hxlH.out; omega)
        omega
      have h7 : ((j : Int) == 7) = false := by simp; omega
      have hj4 : (j : Int) < 4 := by omega
      clear hcell
      generalize xs[j].toNat = y at *
      go_wp2
      go_round
      case rel =>
        refine ⟨(j : Int) - 1, y + 256 * m, by omega, by omega, by go_num, by go_num, ?_⟩
        show _ = _
        have h1 := hm.out
        rw [ei.out] at h1
        have h2 : ((j : Int) - 1 + 1).toNat = j := by omega
        rw [h2, hg.out, h1]
      case measure => simp [intOf]
    · obtain rfl : z = -1 := by omega
      have h0 : Hid (m = numL xs) := hm
      clear hcell
      go_wp2
      go_ret
      exact ⟨by rw [← h0.out]; rfl, hb0⟩
#print axioms says_any
end Go.Proofs.YtolpcfhfcdkokaaGreatDoor
/-
  The reference's layer 6: a slot's sector.
-/
namespace Go.Proofs.YtolpcfhfcdkokaaGreatDoor
open Go.RowKit

def zSec : List UInt8 := List.replicate 128 0
theorem zSec_length : zSec.length = 128 := List.length_replicate
theorem zeroSec : Tryz.zeroCells187.toList = bvs zSec := by kernel_rfl
theorem zeroSecA : Tryz.zeroCells187 = (bvs zSec).toArray := by rw [← zeroSec]
/-- A new sector variable. -/
theorem blk_zero {w : World} {g : Nat} (h : w.heap.size = g) : Blk (w.alloc (.cells Tryz.zeroCells187 187)) g 187 (bvs zSec) := by
  rw [zeroSecA, ← h]
  exact Blk.new w 187 (bvs zSec)
theorem sec_size {s : List UInt8} (h : s.length = 128) : (Tryz.prog.info? 187).map (·.size) = some (bvs s).toArray.size := by rw [infoSec, List.size_toArray, bvs_length, h]
/-- A slot's sector. -/
def encS (i : Nat) (nm : ByteArray) : List UInt8 :=
  let s := layL (layL zSec 0 4 i) 4 1 nm.size
  s.take 5 ++ (nm.data.toList ++ s.drop (5 + nm.size))
theorem enc_step {s3 ys : List UInt8} {nm : ByteArray} {k : Nat} (h : ys = s3.take 5 ++ (nm.data.toList.take k ++ s3.drop (5 + k))) (hl : ys.length = 128) (hk : k < nm.size) (h40 : nm.size ≤ 40) :
    Hid (ys.set (5 + k) nm[k] = s3.take 5 ++ (nm.data.toList.take (k + 1) ++ s3.drop (5 + (k + 1)))) := by
  show _ = _
  have hnl : nm.data.toList.length = nm.size := by rw [Array.length_toList]; rfl
  have hl3 : 5 + k < s3.length := by
    have := congrArg List.length h
    rw [hl, List.length_append, List.length_append, List.length_take, List.length_take, List.length_drop] at this
    omega
  have e : s3.drop (5 + k) = s3[5 + k] :: s3.drop (5 + (k + 1)) := List.drop_eq_getElem_cons hl3
  have e2 : nm.data.toList.take (k + 1) = nm.data.toList.take k ++ [nm[k]] := by
    rw [List.take_succ_eq_append_getElem (by omega)]
    rfl
  rw [h, e, e2, List.set_append_right _ _ (by rw [List.length_take]; omega), List.length_take, show 5 + k - min 5 s3.length = k by omega, List.set_append_right _ _ (by rw [List.length_take]; omega), List.length_take, show k - min k nm.data.toList.length = 0 by omega, List.set_cons_zero, List.append_assoc]
  rfl
theorem results_cell_row2 {fn : Func} {p u : Tmp} {ty : TypeId} {P : Program} (h : fn.results = #[.cell p ty, .tmp u]) (tmps : Array Value) (w : World) (g : Nat) (t : TypeId) (cs : Array Value) (fr : Nat × Nat) (d : TypeDesc)
    (hp : tmps.getD p undef = .pointer (some ⟨g, 0, none⟩)) (hg : w.heap[g]? = some (.cells cs t fr))
    (hu : P.underlying ty = some d) (hd : d.isRow = true) (hi : (P.info? ty).map (·.size) = some cs.size) :
    (results fn tmps).run P w = .ok (.tuple #[.agg cs, tmps.getD u undef]) w := by
  have hp' : tmps[p]?.getD undef = .pointer (some ⟨g, 0, none⟩) := by simpa using hp
  have hl := run_loadVar_row (P := P) w g t ty cs fr d hg hu (by cases d <;> simp_all [TypeDesc.isRow]) hi
  simp [results, h, hp', asAddr, hl]
def slotOk (i : Nat) (nm : ByteArray) : Prop := 1 ≤ i ∧ i ≤ 512 ∧ nameOk nm

set_option maxHeartbeats 4000000 in
set_option maxRecDepth 100000 in
theorem slotSector_full (i : Nat) (nm : ByteArray) (w : World) (h : slotOk i nm) :
    Calls Tryz.prog 136 #[.agg #[.int .i64 i, .string nm]] w fun e w' => e = .returned (.tuple #[secV (encS i nm), .int .i64 0]) ∧ Below w.heap.size w w' := by
  obtain ⟨h1, h2, hn⟩ := h
  have hn1 := hn.1.2
  have hn2 := hn.1.1
  have i0 : ((i : Int) == 0) = false := by simp; omega
  have hin := Lib.hid (show inB (i : Int) 1 512 = true from decide_eq_true ⟨by omega, by omega⟩)
  go_enter Tryz.func136, Tryz.ntmps136
  go_wp2_with fail
  refine (within_any _ _ _ _).mono ?_
  rintro e w' ⟨rfl, rfl⟩
  rw [hin.out]
  go_wp2_with fail
  refine (isName_yes nm _ hn).mono ?_
  rintro e w' ⟨rfl, rfl⟩
  go_upto_region 6 with (fail)
  have hX : Blk (((w.alloc (.cells #[.int .i64 i, .string nm] 179)).alloc (.cells Tryz.zeroCells187 187)).alloc (.cells Tryz.zeroCells187 187)) w.heap.size 179 [.int .i64 i, .string nm] :=
    ((Blk.new w 179 [.int .i64 i, .string nm]).alloc _).alloc _
  have hR : Blk (((w.alloc (.cells #[.int .i64 i, .string nm] 179)).alloc (.cells Tryz.zeroCells187 187)).alloc (.cells Tryz.zeroCells187 187)) (w.heap.size + 1) 187 (bvs zSec) := (blk_zero (w := w.alloc (.cells #[.int .i64 i, .string nm] 179)) (by simp)).alloc _
  have hS : Blk (((w.alloc (.cells #[.int .i64 i, .string nm] 179)).alloc (.cells Tryz.zeroCells187 187)).alloc (.cells Tryz.zeroCells187 187)) (w.heap.size + 1 + 1) 187 (bvs zSec) := blk_zero (w := ((w.alloc (.cells #[.int .i64 i, .string nm] 179)).alloc (.cells Tryz.zeroCells187 187))) (by simp)
  have hb : Below w.heap.size w (((w.alloc (.cells #[.int .i64 i, .string nm] 179)).alloc (.cells Tryz.zeroCells187 187)).alloc (.cells Tryz.zeroCells187 187)) :=
    (((Below.refl _ _).alloc (Nat.le_refl _) _).alloc (by simp) _).alloc (by simp; omega) _
  generalize ((w.alloc (.cells #[.int .i64 i, .string nm] 179)).alloc (.cells Tryz.zeroCells187 187)).alloc (.cells Tryz.zeroCells187 187) = w0 at *
  generalize hg : w.heap.size = g at *
  have hgH := Lib.hid hg
  clear hg
  have x0 : w0.cell? ⟨g, 0, none⟩ = some (.int .i64 i) := hX.cell 0
  have x1 : w0.cell? ⟨g, 1, none⟩ = some (.string nm) := hX.cell 1
  go_wp2_with (first
    | (refine wpList_load_row rfl 187 (.tmp 4) rfl (g + 1 + 1) rfl 187 (bvs zSec).toArray (0, 0) _ hS Tryz.underlying187 rfl (sec_size zSec_length) ?_))
  have hc1 := lay_any zSec 0 4 i w0 zSec_length (by omega) (by omega) (by omega)
  have hl1 := layL_length zSec 0 4 i (by rw [zSec_length]; omega)
  rw [zSec_length] at hl1
  generalize hs1 : layL zSec 0 4 i = s1 at *
  have hs1H := Lib.hid hs1
  clear hs1
  refine hc1.mono ?_
  rintro e w1 ⟨rfl, hb1⟩
  have hX1 := hX.fresh hb1
  have hR1 := hR.fresh hb1
  have hS1 := hS.fresh hb1
  have hgs := hS.lt
  have hbz1 := hb.trans (hb1.mono (by omega))
  have hz1 := hb1.size
  clear hX hR hS hb hb1 hc1 x0 x1
  unfold secV
  -- the second number
  have hX2 := hX1
  have hR2 : Blk (w1.setRow (g + 1 + 1) (bvs s1).toArray) (g + 1) 187 (bvs zSec) := (setRow_other w1 (g + 1 + 1) (g + 1) _ (by omega)).trans hR1
  have hX2 : Blk (w1.setRow (g + 1 + 1) (bvs s1).toArray) g 179 [.int .i64 i, .string nm] := (setRow_other w1 (g + 1 + 1) g _ (by omega)).trans hX1
  have hS2 : Blk (w1.setRow (g + 1 + 1) (bvs s1).toArray) (g + 1 + 1) 187 (bvs s1) := setRow_heap w1 (g + 1 + 1) _ _ _ _ hS1
  have hbz2 := hbz1.trans (((Chg.refl (fun b => b = g + 1 + 1) w1).setRow (g := g + 1 + 1) (fun _ => rfl) (bvs s1).toArray).below (B := g) (by omega) (fun b hb e => by omega))
  have y1 : (w1.setRow (g + 1 + 1) (bvs s1).toArray).cell? ⟨g, 1, none⟩ = some (.string nm) := hX2.cell 1
  go_wp2_with (first
    | (refine wpList_store_row rfl 187 (.tmp 4) (.tmp 29) rfl (g + 1 + 1) (bvs s1).toArray rfl rfl 187 _ hS1 (sec_size hl1) (by rw [List.size_toArray, List.size_toArray, bvs_length, bvs_length, zSec_length, hl1]) (secs_one s1) ?_)
    | (refine wpList_load_row rfl 187 (.tmp 4) rfl (g + 1 + 1) rfl 187 (bvs s1).toArray (0, 0) _ hS2 Tryz.underlying187 rfl (sec_size hl1) ?_))
  generalize w1.setRow (g + 1 + 1) (bvs s1).toArray = w2 at *
  have hc3 := lay_any s1 4 1 nm.size w2 hl1 (by omega) (by omega) (by omega)
  have hl3 := layL_length s1 4 1 nm.size (by omega)
  rw [hl1] at hl3
  generalize hs3 : layL s1 4 1 nm.size = s3 at *
  have hs3H := Lib.hid hs3
  clear hs3
  refine hc3.mono ?_
  rintro e w3 ⟨rfl, hb3⟩
  have hX3 := hX2.fresh hb3
  have hR3 := hR2.fresh hb3
  have hS3 := hS2.fresh hb3
  have hgs2 := hS2.lt
  have hbz3 := hbz2.trans (hb3.mono (by omega))
  clear hX2 hR2 hS2 hb3 hc3 y1 hbz2 hbz1 hX1 hR1 hS1
  unfold secV
  have hR4 : Blk (w3.setRow (g + 1 + 1) (bvs s3).toArray) (g + 1) 187 (bvs zSec) := (setRow_other w3 (g + 1 + 1) (g + 1) _ (by omega)).trans hR3
  have hX4 : Blk (w3.setRow (g + 1 + 1) (bvs s3).toArray) g 179 [.int .i64 i, .string nm] := (setRow_other w3 (g + 1 + 1) g _ (by omega)).trans hX3
  have hS4 : Blk (w3.setRow (g + 1 + 1) (bvs s3).toArray) (g + 1 + 1) 187 (bvs s3) := setRow_heap w3 (g + 1 + 1) _ _ _ _ hS3
  have hbz4 := hbz3.trans (((Chg.refl (fun b => b = g + 1 + 1) w3).setRow (g := g + 1 + 1) (fun _ => rfl) (bvs s3).toArray).below (B := g) (by have := hX3.lt; omega) (fun b hb e => by omega))
  go_wp2_with (first
    | (refine wpList_store_row rfl 187 (.tmp 4) (.tmp 34) rfl (g + 1 + 1) (bvs s3).toArray rfl rfl 187 _ hS3 (sec_size hl3) (by rw [List.size_toArray, List.size_toArray, bvs_length, bvs_length, hl1, hl3]) (secs_one s3) ?_))
  generalize w3.setRow (g + 1 + 1) (bvs s3).toArray = w4 at *
  clear hX3 hR3 hS3 hbz3
  go_loopw [5] (fun i wr => ∃ (k : Nat) (ys : List UInt8), k ≤ nm.size ∧ i = .int .i64 k ∧ Hid (ys = s3.take 5 ++ (nm.data.toList.take k ++ s3.drop (5 + k))) ∧ Blk wr (g + 1 + 1) 187 (bvs ys) ∧ Hid (ys.length = 128) ∧
      Blk wr (g + 1) 187 (bvs zSec) ∧ wr.cell? ⟨g, 1, none⟩ = some (.string nm) ∧ Below g w wr) (fun i _ => nm.size - (intOf i).toNat)
  case atStart => exact ⟨0, s3, Nat.zero_le _, rfl, by show _ = _; simp, hS4, hl3, hR4, hX4.cell 1, hbz4⟩
  case round =>
    obtain ⟨k, ys, hk, rfl, hys, hS, hyl, hR, x1, hb⟩ := hrel
    clear hX4 hR4 hS4 hbz4
    by_cases hlt : k < nm.size
    · have hln : 5 + k < (bvs ys).length := by rw [bvs_length, hyl.out]; omega
      have k1 := (hS.cell (5 + k)).trans (List.getElem?_eq_getElem hln)
      have k2 := hS.frozen (5 + k)
      have hst : Hid (Blk (wr.setCell ⟨g + 1 + 1, 5 + k, none⟩ (.int .u8 (nm[k].toNat : Int))) (g + 1 + 1) 187 (bvs (ys.set (5 + k) nm[k]))) := by
        have := hS.set_ (5 + k) (.int .u8 (nm[k].toNat : Int))
        rw [show (bvs ys).set (5 + k) (.int .u8 (nm[k].toNat : Int)) = bvs (ys.set (5 + k) nm[k]) by simp [bvs, List.map_set]] at this
        exact this
      have hR2 := Lib.hid (hR.far (p := ⟨g + 1 + 1, 5 + k, none⟩) (by simp) (.int .u8 (nm[k].toNat : Int)))
      have hb2 := Lib.hid (hb.setCell (p := ⟨g + 1 + 1, 5 + k, none⟩) (show g ≤ g + 1 + 1 by omega) (.int .u8 (nm[k].toNat : Int)))
      have hx2 : Hid ((wr.setCell ⟨g + 1 + 1, 5 + k, none⟩ (.int .u8 (nm[k].toNat : Int))).cell? ⟨g, 1, none⟩ = some (.string nm)) := (World.cell?_setCell_other wr _ _ _ (by simp)).trans x1
      have hy2 := enc_step hys.out hyl.out hlt (by omega)
      have hyl2 : Hid ((ys.set (5 + k) nm[k]).length = 128) := by show _ = _; rw [List.length_set]; exact hyl.out
      clear hS hR hb
      generalize ys.set (5 + k) nm[k] = ys2 at *
      generalize (bvs ys)[5 + k] = old at *
      go_wp2
      go_roundw
      case rel => exact ⟨k + 1, ys2, by omega, by go_num, hy2, hst.out, hyl2, hR2.out, hx2.out, hb2.out⟩
      case measure => simp [intOf]; omega
    · obtain rfl : k = nm.size := by omega
      have hfin : Hid (ys = encS i nm) := by
        show _ = _
        rw [hys.out, ← hs3H.out, ← hs1H.out]
        unfold encS
        rw [List.take_of_length_le (l := nm.data.toList) (by rw [Array.length_toList]; exact Nat.le_refl _)]
      go_wp2_with (first
        | (refine wpList_load_row rfl 187 (.tmp 4) rfl (g + 1 + 1) rfl 187 (bvs ys).toArray (0, 0) _ hS Tryz.underlying187 rfl (sec_size hyl.out) ?_)
        | (refine wpList_store_row rfl 187 (.tmp 2) (.tmp 49) rfl (g + 1) (bvs ys).toArray rfl rfl 187 _ hR (sec_size hyl.out) (by rw [List.size_toArray, List.size_toArray, bvs_length, bvs_length, zSec_length, hyl.out]) (secs_one ys) ?_))
      have hrow : Blk (wr.setRow (g + 1) (bvs ys).toArray) (g + 1) 187 (bvs ys) := setRow_heap wr (g + 1) _ _ _ _ hR
      refine bodyPost_ret (results_cell_row2 rfl _ _ (g + 1) 187 (bvs ys).toArray (0, 0) _ rfl hrow Tryz.underlying187 rfl (sec_size hyl.out)) rfl ⟨by rw [← hfin.out]; rfl, ?_⟩
      rw [hgH.out]
      exact hb.trans (((Chg.refl (fun b => b = g + 1) wr).setRow (g := g + 1) (fun _ => rfl) _).below (by have := hR.lt; omega) (fun b hb e => by omega))
#print axioms slotSector_full
end Go.Proofs.YtolpcfhfcdkokaaGreatDoor
