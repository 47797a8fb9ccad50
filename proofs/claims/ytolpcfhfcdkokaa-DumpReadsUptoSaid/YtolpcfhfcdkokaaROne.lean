/-
  The reference's one: the node at a place.
-/
import Derived.Test.YtolpcfhfcdkokaaRText
import Derived.Test.YtolpcfhfcdkokaaNrow
import Derived.Laws.IdiomStrings
import Derived.Deep.Cut
namespace Go.Proofs.Ytolpcfhfcdkokaa
open Go.RowKit

theorem numO_none (k most : Nat) : numO k most none = none := by unfold numO; split <;> rfl
theorem takeO_none (k : Nat) : takeO k none = none := rfl
theorem rd_s2 {o : Option (List UInt8)} (h : s2 o = none) : rdO o = none := by
  have : s8 o = none := by simp only [s8, s7, s6, s5, s4, s3, h, numO_none, takeO_none]
  unfold rdO
  split
  · rfl
  · exact this
theorem rd_s4 {o : Option (List UInt8)} (h : s4 o = none) : rdO o = none := by
  have : s8 o = none := by simp only [s8, s7, s6, s5, h, numO_none, takeO_none]
  unfold rdO
  split
  · rfl
  · exact this
theorem rd_s6 {o : Option (List UInt8)} (h : s6 o = none) : rdO o = none := by
  have : s8 o = none := by simp only [s8, s7, h, numO_none, takeO_none]
  unfold rdO
  split
  · rfl
  · exact this
theorem rd_s8 {o : Option (List UInt8)} (h : s8 o = none) : rdO o = none := by
  unfold rdO
  split
  · rfl
  · exact h
theorem rd_head (x : UInt8) (t : List UInt8) (h : x.toNat = 1 ∨ x.toNat = 2) : numX 1 2 (some (x :: t)) = x.toNat ∧ s1 (some (x :: t)) = some t := by
  have e : takeX 1 (some (x :: t)) = [x] := by
    show (if (x :: t).length < 1 then [] else (x :: t).take 1) = [x]
    rw [if_neg (by simp)]
    rfl
  have e2 : takeO 1 (some (x :: t)) = some t := by
    show (if (x :: t).length < 1 then none else some ((x :: t).drop 1)) = some t
    rw [if_neg (by simp)]
    rfl
  have e3 : numL [x] = x.toNat := by simp [numL]
  unfold s1 numX numO
  rw [e, e2, e3, if_pos (by omega), if_pos (by omega)]
  exact ⟨rfl, rfl⟩
theorem rd_bad (x : UInt8) (t : List UInt8) (h : ¬ (x.toNat = 1 ∨ x.toNat = 2)) : rdO (some (x :: t)) = none := by
  have e : takeX 1 (some (x :: t)) = [x] := by
    show (if (x :: t).length < 1 then [] else (x :: t).take 1) = [x]
    rw [if_neg (by simp)]
    rfl
  have e3 : numL [x] = x.toNat := by simp [numL]
  by_cases h0 : x.toNat = 0
  · unfold rdO
    rw [if_pos]
    unfold numX
    rw [e, e3, if_pos (by omega), h0]
  · apply rd_s2
    have : s1 (some (x :: t)) = none := by
      unfold s1 numO
      rw [e, e3, if_neg (by omega)]
    unfold s2
    rw [this]
    exact numO_none 8 1099511627776
theorem made_none {t : List UInt8} (h : t.length < 8 ∨ 1099511627776 < numL (t.take 8)) : numO 8 1099511627776 (some t) = none := by
  by_cases hl : t.length < 8
  · have e : takeX 8 (some t) = [] := if_pos hl
    have e2 : takeO 8 (some t) = none := if_pos hl
    unfold numO
    rw [e, e2]
    simp [numL]
  · have e : takeX 8 (some t) = t.take 8 := if_neg hl
    unfold numO
    rw [e, if_neg (by omega)]
theorem made_some {t : List UInt8} (hl : 8 ≤ t.length) (h : numL (t.take 8) ≤ 1099511627776) : numO 8 1099511627776 (some t) = some (t.drop 8) ∧ numX 8 1099511627776 (some t) = numL (t.take 8) := by
  have e : takeX 8 (some t) = t.take 8 := if_neg (by omega)
  have e2 : takeO 8 (some t) = some (t.drop 8) := if_neg (by omega)
  unfold numO numX
  rw [e, e2, if_pos h, if_pos h]
  exact ⟨rfl, rfl⟩

theorem results_cell_row3 {fn : Func} {p u v : Tmp} {ty : TypeId} {P : Program} (h : fn.results = #[.cell p ty, .tmp u, .tmp v]) (tmps : Array Value) (w : World) (g : Nat) (t : TypeId) (cs : Array Value) (fr : Nat × Nat) (fields)
    (hp : tmps.getD p undef = .pointer (some ⟨g, 0, none⟩)) (hg : w.heap[g]? = some (.cells cs t fr))
    (hu : P.underlying ty = some (.struct fields)) (hi : (P.info? ty).map (·.size) = some cs.size) :
    (results fn tmps).run P w = .ok (.tuple #[.agg cs, tmps.getD u undef, tmps.getD v undef]) w := by
  have hp' : tmps[p]?.getD undef = .pointer (some ⟨g, 0, none⟩) := by simpa using hp
  have hl := run_loadVar_row (P := P) w g t ty cs fr _ hg hu rfl hi
  simp [results, h, hp', asAddr, hl]

/-- '[]byte(s)': a new row. -/
theorem bytes_new {P : Program} (w : World) (src dst e : TypeId) (xs : List UInt8) (hs : P.underlying src = some .string) (hd : P.underlying dst = some (.slice e)) (he : P.underlying e = some (.int .u8)) :
    ∃ c W, (convert src dst (.string ⟨xs.toArray⟩)).run P w = .ok (.slice (some ⟨w.heap.size, 0, none⟩) xs.length c) W ∧ Below w.heap.size w W ∧ w.heap.size < W.heap.size ∧ ∀ j u, (bvs xs)[j]? = some u → W.cell? ⟨w.heap.size, j, none⟩ = some u := by
  have h := run_bytes_of_string (P := P) w src dst e ⟨xs.toArray⟩ hs hd he
  have hsz : ByteArray.size ⟨xs.toArray⟩ = xs.length := by simp [ByteArray.size]
  rw [hsz] at h
  refine ⟨_, _, h, ((Below.refl _ _).drew.alloc (Nat.le_refl _) _), by simp, fun j u hu => ?_⟩
  have hj : j < xs.length := by
    rcases Nat.lt_or_ge j xs.length with h | h
    · exact h
    · rw [List.getElem?_eq_none (by rw [bvs_length]; exact h)] at hu; cases hu
  rw [cell_of_row _ w.heap.size j _ e _ (heap_alloc_new w.drew _), bytesRow_at _ _ _ (by simpa using hj)]
  rw [bvs_get xs j hj] at hu
  simpa using hu
/-- A node's value. -/
def agg5 (x : Nd) : Value := .agg (cells5 x).toArray
/-- What one answers of the bytes r that stand at a place of bs. -/
def ROne (bs r : List UInt8) (at_ : Nat) (w : World) (e : Ending) (w' : World) : Prop :=
  ((∃ (x : Nd) (z : Nat) (g : Nat), rdO (some r) = some (bs.drop z) ∧ ndP x = rdN (some r) ∧ 0 ≤ x.kind ∧ 0 ≤ x.made ∧ at_ < z ∧ z ≤ bs.length ∧ e = .returned (.tuple #[agg5 x, .int .i64 z, .bool true]) ∧
      x.dA = some ⟨g, 0, none⟩ ∧ w.heap.size ≤ g ∧ g < w'.heap.size ∧ ∀ j u, (bvs x.data)[j]? = some u → w'.cell? ⟨g, j, none⟩ = some u) ∨
   (rdO (some r) = none ∧ ∃ (x : Nd) (z : Int), e = .returned (.tuple #[agg5 x, .int .i64 z, .bool false]))) ∧ Below w.heap.size w w'
def nd0 : Nd := ⟨⟨#[]⟩, 0, 0, ⟨#[]⟩, none, 0, []⟩

set_option maxHeartbeats 4000000 in
set_option maxRecDepth 100000 in
theorem rone_any (B : Nat) (A : Option Addr) (c : Nat) (bs : List UInt8) (at_ : Nat) (w : World) (hs : Sees w B 1 A bs.length (bvs bs)) (hB : B ≤ w.heap.size) (hcap : bs.length ≤ c) (hl : bs.length ≤ 1000000000) (hat : at_ < bs.length) :
    Calls Try.prog 26 #[.slice A bs.length c, .int .i64 at_] w (ROne bs (bs.drop at_) at_ w) := by
  have hr := Lib.hid (List.drop_eq_getElem_cons hat)
  have hp0 := Blk.new w 47 [.string ⟨#[]⟩, .int .i64 0, .int .i64 0, .string ⟨#[]⟩, .slice none 0 0]
  have hb0 : Below w.heap.size w (w.alloc (.cells #[.string ⟨#[]⟩, .int .i64 0, .int .i64 0, .string ⟨#[]⟩, .slice none 0 0] 47)) := (Below.refl _ _).alloc (Nat.le_refl _) _
  have hs0 := (hs.more hB).below hb0
  have hz0 : w.heap.size < (w.alloc (.cells #[.string ⟨#[]⟩, .int .i64 0, .int .i64 0, .string ⟨#[]⟩, .slice none 0 0] 47)).heap.size := by simp
  go_enter Try.func26, Try.ntmps26
  go_wp2_with fail
  generalize w.alloc (.cells #[.string ⟨#[]⟩, .int .i64 0, .int .i64 0, .string ⟨#[]⟩, .slice none 0 0] 47) = w0 at *
  replace hp0 : Blk w0 w.heap.size 47 [.string ⟨#[]⟩, .int .i64 0, .int .i64 0, .string ⟨#[]⟩, .slice none 0 0] := hp0
  refine (rnumber_any w.heap.size A c bs (at_ + 1) 8 w0 hs0 hl (by omega) (by omega) (by omega)).mono ?_
  rintro e w1 ⟨⟨h8, rfl⟩ | ⟨hno, rfl⟩, rfl⟩
  · have hrl : (bs.drop (at_ + 1)).length = bs.length - (at_ + 1) := List.length_drop
    have h9 : at_ + 9 ≤ bs.length := by omega
    obtain ⟨b, off, rfl, hb, hc⟩ := hs0.at_ (by omega)
    have hcy := hc at_ _ (bvs_get bs at_ hat)
    have q0 := hp0.cell 0
    have q1 := hp0.cell 1
    have q2 := hp0.cell 2
    have q3 := hp0.cell 3
    have q4 := hp0.cell 4
    have f0 := hp0.frozen 0
    have f1 := hp0.frozen 1
    have f2 := hp0.frozen 2
    have f3 := hp0.frozen 3
    have f4 := hp0.frozen 4
    have hhead := Lib.hid (rd_head bs[at_] (bs.drop (at_ + 1)))
    have hbad := Lib.hid (rd_bad bs[at_] (bs.drop (at_ + 1)))
    rw [← hr.out] at hhead hbad
    clear hrl hs hc hr
    generalize bs[at_].toNat = y at *
    by_cases hx : y = 1 ∨ y = 2
    · by_cases hm : 1099511627776 < numL ((bs.drop (at_ + 1)).take 8)
      · have hnone := Lib.hid (rd_s2 (o := some (bs.drop at_)) (by
          unfold s2
          rw [(hhead.out hx).2]
          exact made_none (.inr hm)))
        generalize numL ((bs.drop (at_ + 1)).take 8) = m at *
        have hm' : (1099511627776 : Int) < (m : Int) := by omega
        rcases hx with rfl | rfl
        all_goals
          go_wp2
          have hpz : Blk _ _ 47 (cells5 nd0) := ((((hp0.set_ 0 (.string ⟨#[]⟩)).set_ 1 (.int .i64 0)).set_ 2 (.int .i64 0)).set_ 3 (.string ⟨#[]⟩)).set_ 4 (.slice none 0 0)
          exact bodyPost_ret (results_cell_row3 rfl _ _ w.heap.size 47 _ (0, 0) _ rfl hpz Try.underlying47 (by kernel_rfl)) rfl ⟨.inr ⟨hnone.out, nd0, 0, rfl⟩, (((((hb0.setCell (Nat.le_refl _) _).setCell (Nat.le_refl _) _).setCell (Nat.le_refl _) _).setCell (Nat.le_refl _) _).setCell (Nat.le_refl _) _)⟩
      · have hS2 := Lib.hid (show s2 (some (bs.drop at_)) = some (bs.drop (at_ + 9)) ∧ numX 8 1099511627776 (s1 (some (bs.drop at_))) = numL ((bs.drop (at_ + 1)).take 8) ∧ numX 1 2 (some (bs.drop at_)) = y by
          unfold s2
          rw [(hhead.out hx).2]
          obtain ⟨e1, e2⟩ := made_some h8 (by omega)
          rw [e1, e2, List.drop_drop]
          exact ⟨rfl, rfl, (hhead.out hx).1⟩)
        generalize numL ((bs.drop (at_ + 1)).take 8) = m at *
        have hm' : (m : Int) ≤ 1099511627776 := by omega
        clear hhead hbad h8
        go_upto_region 2 with (fail)
        go_cut [39] from 13 (fun s39 wx => s39 = .bool false ∧ w0 = wx)
        case first =>
          rcases hx with rfl | rfl
          all_goals
            go_wp2
            go_meet
            exact ⟨congrArg Value.bool (by simp; omega), rfl⟩
        case rest =>
          obtain ⟨rfl, rfl⟩ := hcut
          have hB1 := Blk.new w0 47 [.string ⟨#[]⟩, .int .i64 y, .int .i64 m, .string ⟨#[]⟩, .slice none 0 0]
          have hb1 := hb0.alloc hb0.size (.cells #[.string ⟨#[]⟩, .int .i64 y, .int .i64 m, .string ⟨#[]⟩, .slice none 0 0] 47)
          have hp1 := hp0.alloc (.cells #[.string ⟨#[]⟩, .int .i64 y, .int .i64 m, .string ⟨#[]⟩, .slice none 0 0] 47)
          have hs1 := hs0.below ((Below.refl w.heap.size w0).alloc hb0.size (.cells #[.string ⟨#[]⟩, .int .i64 y, .int .i64 m, .string ⟨#[]⟩, .slice none 0 0] 47))
          clear q0 q1 q2 q3 q4 f0 f1 f2 f3 f4
          go_wp2_with fail
          generalize w0.alloc (.cells #[.string ⟨#[]⟩, .int .i64 y, .int .i64 m, .string ⟨#[]⟩, .slice none 0 0] 47) = w1 at *
          refine (rtext_any w.heap.size (some ⟨b, off, none⟩) c bs (at_ + 9) 400 w1 hs1 hcap hl (by omega) (by omega)).mono ?_
          rintro e w2 ⟨⟨r4, n4, x4, e1, e2, e3, k4, k4', k4'', hr4, rfl⟩ | ⟨hno, rfl⟩, rfl⟩
          case inr =>
            have hnone := Lib.hid (rd_s4 (o := some (bs.drop at_)) (by
              unfold s4 s3
              rw [hS2.out.1]
              exact hno))
            clear hno
            have q0 := hp1.cell 0
            have f0 := hp1.frozen 0
            have q1 := hp1.cell 1
            have f1 := hp1.frozen 1
            have q2 := hp1.cell 2
            have f2 := hp1.frozen 2
            have q3 := hp1.cell 3
            have f3 := hp1.frozen 3
            have q4 := hp1.cell 4
            have f4 := hp1.frozen 4
            go_wp2
            have hpz : Blk _ _ 47 (cells5 nd0) := ((((hp1.set_ 0 (.string ⟨#[]⟩)).set_ 1 (.int .i64 0)).set_ 2 (.int .i64 0)).set_ 3 (.string ⟨#[]⟩)).set_ 4 (.slice none 0 0)
            exact bodyPost_ret (results_cell_row3 rfl _ _ w.heap.size 47 _ (0, 0) _ rfl hpz Try.underlying47 (by kernel_rfl)) rfl ⟨.inr ⟨hnone.out, nd0, 0, rfl⟩, (((((hb1.setCell (Nat.le_refl _) _).setCell (Nat.le_refl _) _).setCell (Nat.le_refl _) _).setCell (Nat.le_refl _) _).setCell (Nat.le_refl _) _)⟩
          case inl =>
          rw [List.drop_drop, show at_ + 9 + (4 + n4) = at_ + 9 + 4 + n4 by omega] at hr4
          have hS4 := Lib.hid (show s4 (some (bs.drop at_)) = some (bs.drop (at_ + 9 + 4 + n4)) ∧ takeX (numX 4 400 (s2 (some (bs.drop at_)))) (s3 (some (bs.drop at_))) = x4 by
            unfold s4 s3
            rw [hS2.out.1, e1, e2, e3, hr4]
            exact ⟨rfl, rfl⟩)
          have k4a : at_ + 9 + 4 + n4 ≤ bs.length := by rw [List.length_drop] at k4'; omega
          clear e1 e2 e3 k4' k4'' hr4
          go_wp2_with fail
          refine (rtext_any w.heap.size (some ⟨b, off, none⟩) c bs (at_ + 9 + 4 + n4) 400 w1 hs1 hcap hl (by omega) (by omega)).mono ?_
          rintro e w2 ⟨⟨r6, n6, x6, e1, e2, e3, k6, k6', k6'', hr6, rfl⟩ | ⟨hno, rfl⟩, rfl⟩
          case inr =>
            have hnone := Lib.hid (rd_s6 (o := some (bs.drop at_)) (by
              unfold s6 s5
              rw [hS4.out.1]
              exact hno))
            clear hno
            have q0 := hp1.cell 0
            have f0 := hp1.frozen 0
            have q1 := hp1.cell 1
            have f1 := hp1.frozen 1
            have q2 := hp1.cell 2
            have f2 := hp1.frozen 2
            have q3 := hp1.cell 3
            have f3 := hp1.frozen 3
            have q4 := hp1.cell 4
            have f4 := hp1.frozen 4
            go_wp2
            have hpz : Blk _ _ 47 (cells5 nd0) := ((((hp1.set_ 0 (.string ⟨#[]⟩)).set_ 1 (.int .i64 0)).set_ 2 (.int .i64 0)).set_ 3 (.string ⟨#[]⟩)).set_ 4 (.slice none 0 0)
            exact bodyPost_ret (results_cell_row3 rfl _ _ w.heap.size 47 _ (0, 0) _ rfl hpz Try.underlying47 (by kernel_rfl)) rfl ⟨.inr ⟨hnone.out, nd0, 0, rfl⟩, (((((hb1.setCell (Nat.le_refl _) _).setCell (Nat.le_refl _) _).setCell (Nat.le_refl _) _).setCell (Nat.le_refl _) _).setCell (Nat.le_refl _) _)⟩
          case inl =>
          rw [List.drop_drop, show at_ + 9 + 4 + n4 + (4 + n6) = at_ + 9 + 4 + n4 + 4 + n6 by omega] at hr6
          have hS6 := Lib.hid (show s6 (some (bs.drop at_)) = some (bs.drop (at_ + 9 + 4 + n4 + 4 + n6)) ∧ takeX (numX 4 400 (s4 (some (bs.drop at_)))) (s5 (some (bs.drop at_))) = x6 by
            unfold s6 s5
            rw [hS4.out.1, e1, e2, e3, hr6]
            exact ⟨rfl, rfl⟩)
          have k6a : at_ + 9 + 4 + n4 + 4 + n6 ≤ bs.length := by rw [List.length_drop] at k6'; omega
          clear e1 e2 e3 k6' k6'' hr6
          go_wp2_with fail
          refine (rtext_any w.heap.size (some ⟨b, off, none⟩) c bs (at_ + 9 + 4 + n4 + 4 + n6) 136704 w1 hs1 hcap hl (by omega) (by omega)).mono ?_
          intro e w2 hT
          obtain ⟨x8, z8, ok8, rfl, rfl, H8⟩ : ∃ (x8 : List UInt8) (z8 : Int) (ok8 : Bool), e = .returned (.tuple #[.string ⟨x8.toArray⟩, .int .i64 z8, .bool ok8]) ∧ w1 = w2 ∧
              Hid ((ok8 = true ∧ ∃ z : Nat, z8 = z ∧ at_ < z ∧ z ≤ bs.length ∧ s8 (some (bs.drop at_)) = some (bs.drop z) ∧ takeX (numX 4 136704 (s6 (some (bs.drop at_)))) (s7 (some (bs.drop at_))) = x8) ∨ (ok8 = false ∧ rdO (some (bs.drop at_)) = none)) := by
            obtain ⟨⟨r8, n8, x8, e1, e2, e3, k8, k8', k8'', hr8, rfl⟩ | ⟨hno, rfl⟩, rfl⟩ := hT
            · rw [List.drop_drop] at hr8
              rw [List.length_drop] at k8'
              refine ⟨x8, _, true, rfl, rfl, .inl ⟨rfl, _, rfl, by omega, by omega, ?_, ?_⟩⟩
              · unfold s8 s7
                rw [hS6.out.1, e1, e3, hr8]
                congr 2
                omega
              · unfold s7
                rw [hS6.out.1, e1, e2]
            · refine ⟨[], 0, false, rfl, rfl, .inr ⟨rfl, rd_s8 ?_⟩⟩
              unfold s8 s7
              rw [hS6.out.1]
              exact hno
          clear hT
          have hw0 : ¬ w.heap.size = w0.heap.size := by omega
          have hwh0 : w.heap.size ≤ w0.heap.size := by omega
          generalize w0.heap.size = h at *
          have q0 := hB1.cell 0
          have q3 := hB1.cell 3
          have f0 := hB1.frozen 0
          have f3 := hB1.frozen 3
          go_upto_region 14 with (fail)
          have hB2 : Blk ((w1.setCell ⟨h, 0, none⟩ (.string ⟨x4.toArray⟩)).setCell ⟨h, 3, none⟩ (.string ⟨x6.toArray⟩)) h 47 [.string ⟨x4.toArray⟩, .int .i64 y, .int .i64 m, .string ⟨x6.toArray⟩, .slice none 0 0] := (hB1.set_ 0 (.string ⟨x4.toArray⟩)).set_ 3 (.string ⟨x6.toArray⟩)
          have hp2 := (hp1.far (p := ⟨h, 0, none⟩) hw0 (.string ⟨x4.toArray⟩)).far (p := ⟨h, 3, none⟩) hw0 (.string ⟨x6.toArray⟩)
          have hwh : w.heap.size ≤ h := hwh0
          have hb2 := (hb1.setCell (p := ⟨h, 0, none⟩) hwh (.string ⟨x4.toArray⟩)).setCell (p := ⟨h, 3, none⟩) hwh (.string ⟨x6.toArray⟩)
          generalize (w1.setCell ⟨h, 0, none⟩ (.string ⟨x4.toArray⟩)).setCell ⟨h, 3, none⟩ (.string ⟨x6.toArray⟩) = w2 at *
          clear q0 q3 f0 f3 hB1 hp1 hb1 hs1 hp0 hs0 hcy hb0
          obtain ⟨c8, w3, hrun, hb3, hz3, hc3⟩ := bytes_new (P := Try.prog) w2 9 29 5 x8 Try.underlying9 Try.underlying29 Try.underlying5
          have hc3H := Lib.hid hc3
          have hB3 := hB2.fresh hb3
          have hp3 := hp2.fresh hb3
          have hg2 := hB2.lt
          have hg3 := hp2.lt
          have hbz := hb2.trans (hb3.mono hb2.size)
          clear hc3 hB2 hp2 hb2 hb3
          have k0 : w3.cell? ⟨h, 0, none⟩ = some (.string ⟨x4.toArray⟩) := hB3.cell 0
          have k1 : w3.cell? ⟨h, 1, none⟩ = some (.int .i64 y) := hB3.cell 1
          have k2 : w3.cell? ⟨h, 2, none⟩ = some (.int .i64 m) := hB3.cell 2
          have k3 : w3.cell? ⟨h, 3, none⟩ = some (.string ⟨x6.toArray⟩) := hB3.cell 3
          have k4 : w3.cell? ⟨h, 4, none⟩ = some (.slice none 0 0) := hB3.cell 4
          have kf := hB3.frozen 4
          have q0 : w3.cell? ⟨w.heap.size, 0, none⟩ = some (.string ⟨#[]⟩) := hp3.cell 0
          have q1 : w3.cell? ⟨w.heap.size, 1, none⟩ = some (.int .i64 0) := hp3.cell 1
          have q2 : w3.cell? ⟨w.heap.size, 2, none⟩ = some (.int .i64 0) := hp3.cell 2
          have q3 : w3.cell? ⟨w.heap.size, 3, none⟩ = some (.string ⟨#[]⟩) := hp3.cell 3
          have q4 : w3.cell? ⟨w.heap.size, 4, none⟩ = some (.slice none 0 0) := hp3.cell 4
          have f0 := hp3.frozen 0
          have f1 := hp3.frozen 1
          have f2 := hp3.frozen 2
          have f3 := hp3.frozen 3
          have f4 := hp3.frozen 4
          go_wp2
          have hpz : Blk _ _ 47 (cells5 ⟨⟨x4.toArray⟩, y, m, ⟨x6.toArray⟩, some ⟨w2.heap.size, 0, none⟩, c8, x8⟩) :=
            (((((hp3.far (p := ⟨h, 4, none⟩) hw0 (.slice (some ⟨w2.heap.size, 0, none⟩) x8.length c8)).set_ 0 (.string ⟨x4.toArray⟩)).set_ 1 (.int .i64 y)).set_ 2 (.int .i64 m)).set_ 3 (.string ⟨x6.toArray⟩)).set_ 4 (.slice (some ⟨w2.heap.size, 0, none⟩) x8.length c8)
          refine bodyPost_ret (results_cell_row3 rfl _ _ w.heap.size 47 _ (0, 0) _ rfl hpz Try.underlying47 (by kernel_rfl)) rfl ⟨?_, ((((((hbz.setCell hwh _).setCell (Nat.le_refl _) _).setCell (Nat.le_refl _) _).setCell (Nat.le_refl _) _).setCell (Nat.le_refl _) _).setCell (Nat.le_refl _) _)⟩
          have hCz := ((((((Chg.refl (fun b => b < w2.heap.size) w3).setCell (p := ⟨h, 4, none⟩) (fun _ => hg2) (.slice (some ⟨w2.heap.size, 0, none⟩) x8.length c8)).setCell (p := ⟨w.heap.size, 0, none⟩) (fun _ => hg3) (.string ⟨x4.toArray⟩)).setCell (p := ⟨w.heap.size, 1, none⟩) (fun _ => hg3) (.int .i64 y)).setCell (p := ⟨w.heap.size, 2, none⟩) (fun _ => hg3) (.int .i64 m)).setCell (p := ⟨w.heap.size, 3, none⟩) (fun _ => hg3) (.string ⟨x6.toArray⟩)).setCell (p := ⟨w.heap.size, 4, none⟩) (fun _ => hg3) (.slice (some ⟨w2.heap.size, 0, none⟩) x8.length c8)
          rcases H8.out with ⟨hok, z, hz, z1, z2, e8, ex8⟩ | ⟨hok, hno⟩
          · left
            rw [hok, hz]
            refine ⟨⟨⟨x4.toArray⟩, y, m, ⟨x6.toArray⟩, some ⟨w2.heap.size, 0, none⟩, c8, x8⟩, z, w2.heap.size, ?_, ?_, by simp, by simp, z1, z2, rfl, rfl, by omega, ?_, fun j u hu => ?_⟩
            · unfold rdO
              rw [hS2.out.2.2, if_neg (by omega)]
              exact e8
            · unfold rdN
              rw [hS2.out.2.2, hS2.out.2.1, hS4.out.2, hS6.out.2, ex8]
              simp [ndP]
            · simpa using hz3
            · exact (hCz.cell (p := ⟨w2.heap.size, j, none⟩) hz3 (Nat.lt_irrefl _)).trans (hc3H.out j u hu)
          · right
            rw [hok]
            exact ⟨hno, ⟨⟨x4.toArray⟩, y, m, ⟨x6.toArray⟩, some ⟨w2.heap.size, 0, none⟩, c8, x8⟩, z8, rfl⟩
    · have hnone := Lib.hid (hbad.out hx)
      have y1 : y ≠ 1 := fun e => hx (.inl e)
      have y2 : y ≠ 2 := fun e => hx (.inr e)
      have y3 : ((y : Int) != 1) = true := by simp; omega
      have y4 : ((y : Int) != 2) = true := by simp; omega
      clear hx y1 y2 hhead hbad
      generalize numL ((bs.drop (at_ + 1)).take 8) = m at *
      go_wp2
      have hpz : Blk _ _ 47 (cells5 nd0) := ((((hp0.set_ 0 (.string ⟨#[]⟩)).set_ 1 (.int .i64 0)).set_ 2 (.int .i64 0)).set_ 3 (.string ⟨#[]⟩)).set_ 4 (.slice none 0 0)
      exact bodyPost_ret (results_cell_row3 rfl _ _ w.heap.size 47 _ (0, 0) _ rfl hpz Try.underlying47 (by kernel_rfl)) rfl ⟨.inr ⟨hnone.out, nd0, 0, rfl⟩, (((((hb0.setCell (Nat.le_refl _) _).setCell (Nat.le_refl _) _).setCell (Nat.le_refl _) _).setCell (Nat.le_refl _) _).setCell (Nat.le_refl _) _)⟩
  · have hnone := Lib.hid (show rdO (some (bs.drop at_)) = none by
      rw [hr.out]
      by_cases hx : bs[at_].toNat = 1 ∨ bs[at_].toNat = 2
      · apply rd_s2
        unfold s2
        rw [(rd_head _ _ hx).2]
        exact made_none hno
      · exact rd_bad _ _ hx)
    have q0 := hp0.cell 0
    have q1 := hp0.cell 1
    have q2 := hp0.cell 2
    have q3 := hp0.cell 3
    have q4 := hp0.cell 4
    have f0 := hp0.frozen 0
    have f1 := hp0.frozen 1
    have f2 := hp0.frozen 2
    have f3 := hp0.frozen 3
    have f4 := hp0.frozen 4
    clear hno
    go_wp2
    have hpz : Blk _ _ 47 (cells5 nd0) := ((((hp0.set_ 0 (.string ⟨#[]⟩)).set_ 1 (.int .i64 0)).set_ 2 (.int .i64 0)).set_ 3 (.string ⟨#[]⟩)).set_ 4 (.slice none 0 0)
    exact bodyPost_ret (results_cell_row3 rfl _ _ w.heap.size 47 _ (0, 0) _ rfl hpz Try.underlying47 (by kernel_rfl)) rfl ⟨.inr ⟨hnone.out, nd0, 0, rfl⟩, (((((hb0.setCell (Nat.le_refl _) _).setCell (Nat.le_refl _) _).setCell (Nat.le_refl _) _).setCell (Nat.le_refl _) _).setCell (Nat.le_refl _) _)⟩
#print axioms rone_any
end Go.Proofs.Ytolpcfhfcdkokaa
