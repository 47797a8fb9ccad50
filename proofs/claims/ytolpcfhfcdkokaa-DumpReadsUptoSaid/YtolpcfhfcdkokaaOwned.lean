/-
  owned: are lists of nodes, and their bytes, their owner's alone? Of such as are it says so.
-/
import Derived.Test.YtolpcfhfcdkokaaOwnm
namespace Go.Proofs.Ytolpcfhfcdkokaa
open Go.RowKit

set_option maxHeartbeats 16000000 in
set_option maxRecDepth 100000 in
theorem owned_any (B p m c : Nat) (lv : Nat → Value) (L : Nat → List Nd) (w : World) (hL : Lists w B p m lv L) (hB : B ≤ w.heap.size) (hp : B ≤ p) (hm : m ≤ 10) (hsz : ∀ i, i < m → (L i).length ≤ 10000000 ∧ ∀ x ∈ L i, x.data.length ≤ 1000000000) :
    Calls Try.prog 17 #[.slice (some ⟨p, 0, none⟩) m c] w fun e w' => e = .returned (.bool true) ∧ Below B w w' := by
  obtain ⟨i2, hi2, hy0, hy1, hy2⟩ := info_parts infoBytes
  have hsH := Lib.hid hsz
  have hfl := fun i hi => flat_le L 10000000 i (fun j hj => (hsz j (Nat.lt_of_lt_of_le hj hi)).1)
  have hflH : Hid (∀ i, i ≤ m → (flat L i).length ≤ i * 10000000) := hfl
  have hpw := hL.par.lt
  clear hsz hfl
  go_enter Try.func17, Try.ntmps17
  go_wp2
  go_loopw [3, 4] (fun v i wr => ∃ j : Nat, j ≤ m ∧ i = .int .i64 j ∧ wr.ownsRow w.heap.size 29 1 v (flat L j).length ((flat L j).map ndV) ∧ Below w.heap.size w wr) (fun _ i _ => m - (intOf i).toNat)
  case atStart => exact ⟨0, Nat.zero_le _, rfl, World.ownsRow_nil _ _ _ _, Below.refl _ _⟩
  case round =>
    obtain ⟨j, hj, rfl, ho, hb⟩ := hrel
    by_cases hjm : j < m
    · have hjO := hL.own j hjm
      obtain ⟨A, cA, hv, hN⟩ := hjO.nodes
      have k0 : wr.cell? ⟨p, j, none⟩ = some (.slice A (L j).length cA) := by
        rw [hb.cell (p := ⟨p, j, none⟩) hpw, hL.par.cell, range_get lv m j hjm, hv]
      obtain ⟨n, hn⟩ : ∃ n, n = (L j).length := ⟨_, rfl⟩
      have hnH := Lib.hid hn
      have hnl : n ≤ 10000000 := by have := (hsH.out j hjm).1; omega
      have hfj : (flat L j).length ≤ 100000000 := by have := hflH.out j hj; omega
      rw [← hn] at k0
      clear hn hv
      go_wp2
      obtain ⟨wo, rfl⟩ : ∃ wo : World, wo = wr := ⟨_, rfl⟩
      go_loopw [3, 5] (fun v i wr => ∃ k : Nat, k ≤ n ∧ i = .int .i64 k ∧ wr.ownsRow w.heap.size 29 1 v ((flat L j).length + k) ((flat L j ++ (L j).take k).map ndV) ∧ Below w.heap.size w wr) (fun _ i _ => n - (intOf i).toNat)
      case atStart => exact ⟨0, Nat.zero_le _, rfl, by simpa using ho, hb⟩
      case round =>
        obtain ⟨k, hk, rfl, ho2, hb2⟩ := hrel
        have k0' := (hb2.cell (p := ⟨p, j, none⟩) hpw).trans ((hb.cell (p := ⟨p, j, none⟩) hpw).symm.trans k0)
        by_cases hkn : k < n
        · have hkl : k < (L j).length := by have := hnH.out; omega
          obtain ⟨g, off, rfl, hgw, hc⟩ := hN.at_ (by omega)
          have c4 := (hb2.cell (p := ⟨g, off + k * 5 + 4, none⟩) hgw).trans (hc k hkl).2.2.2.2
          have hsn := Lib.hid (flat_snoc L j k hkl)
          have hnd : ndV (L j)[k] = .slice (L j)[k].dA (L j)[k].data.length (L j)[k].dc := rfl
          rw [hnd] at hsn
          have hbz := hb2.size
          clear hN hc hnd k0 ho
          generalize (L j)[k] = x at *
          go_wp2_with (first
            | (at_builtin; refine wpList_app _ rfl (.tmp 37) (.tmp 46) _ _ rfl w.heap.size 29 i2 _ 1 24 Try.underlying25 hi2 hy0 hy1 hy2 rfl _ ((flat L j).length + k) _ rfl (ho2.alloc _) 1 [.slice x.dA x.data.length x.dc] (src_one wr Try.underlying25 _ _ rfl) (by unfold maxLen; omega) (by omega) (by simp; omega) ?_; intro v' w1 ho' hg' hat'))
          have hb3 : Below w.heap.size w w1 := (hb2.alloc hbz _).grown hg' (by simp; omega) (fun g hg => (ho2.lt g hg).1)
          clear ho2 hg' hat' c4
          go_wp2
          go_roundw
          case rel => exact ⟨k + 1, by omega, by go_num, by rw [hsn.out]; exact ho', hb3⟩
          case measure => simp [intOf]; omega
        · obtain rfl : k = n := by omega
          have ho3 : Hid (wr.ownsRow w.heap.size 29 1 u3 (flat L (j + 1)).length ((flat L (j + 1)).map ndV)) := by
            have h1 := hnH.out
            rw [h1, List.take_length] at ho2
            rw [flat_succ, List.length_append]
            exact ho2
          clear hN k0 ho ho2
          go_wp2
          go_roundw
          case rel => exact ⟨j + 1, by omega, by go_num, ho3.out, hb2⟩
          case measure => simp [intOf]; omega
    · obtain rfl : m = j := by omega
      have hSep := hL.sep
      have hNb : (flat L m).length ≤ 100000000 := by have := hflH.out m (Nat.le_refl _); omega
      have hdb : Hid (∀ a, a < (flat L m).length → dlF L m a ≤ 1000000000) := fun a ha => by
        rw [dlF_get L m a ha]
        obtain ⟨i, hi, hx⟩ := flat_mem.1 (List.getElem_mem ha)
        exact (hsH.out i hi).2 _ hx
      have hnb : Hid (∀ a, a < m → (L a).length ≤ 10000000) := fun a ha => (hsH.out a ha).1
      have hb1 : Hid (∀ a, a < (flat L m).length → ∃ xs, wr.ownsRow B 5 1 (dvF L m a) (dlF L m a) xs) := fun a ha => by
        obtain ⟨xs, hx⟩ := hL.data a ha
        exact ⟨xs, own_fresh hx hb⟩
      have hM : Mem wr B w.heap.size p m (flat L m).length lv (dvF L m) (fun a => (L a).length) (dlF L m) u3 0 0 :=
        ⟨hL.par.fresh hb, by rw [← dvF_all]; exact ho, hb1.out, fun a ha => ⟨_, own_fresh (hL.own a ha).row hb⟩, fun a ha => absurd ha (by omega), fun a ha => absurd ha (by omega)⟩
      have hbB := hb.mono hB
      obtain ⟨nl, hnl⟩ : ∃ nl : Nat → Nat, nl = fun a => (L a).length := ⟨_, rfl⟩
      rw [← hnl] at hM
      have hnb' : Hid (∀ a, a < m → nl a ≤ 10000000) := by rw [hnl]; exact hnb
      obtain ⟨A3, c3, rfl, h3⟩ := form_own ho
      have h3H := Lib.hid h3
      have hSepH := Lib.hid hSep
      have hformD : Hid (∀ a, a < (flat L m).length → Form (dvF L m a) (dlF L m a)) := fun a ha => by obtain ⟨xs, hx⟩ := hM.down a ha; exact form_own hx
      have hformL : Hid (∀ a, a < m → Form (lv a) (nl a)) := fun a ha => by obtain ⟨xs, hx⟩ := hM.lown a ha; exact form_own hx
      clear hnb hb1 ho hL hflH hsH hnl h3 hSep
      generalize (flat L m).length = N at *
      generalize dvF L m = dv at *
      generalize dlF L m = dl at *
      have hHw := hb.size
      clear hb
      go_wp2
      go_loopw [6] (fun i wr => ∃ j : Nat, j ≤ N ∧ i = .int .i64 j ∧ Mem wr B w.heap.size p m N lv dv nl dl (.slice A3 N c3) j 0 ∧ Below B w wr ∧ w.heap.size ≤ wr.heap.size) (fun i _ => N - (intOf i).toNat)
      case atStart => exact ⟨0, Nat.zero_le _, rfl, hM, hbB, hHw⟩
      case round =>
        obtain ⟨i, hi, rfl, hM1, hb1, hH1⟩ := hrel
        clear hM hbB hHw
        by_cases hiN : i < N
        · obtain ⟨g3, e3⟩ := h3H.out (by omega)
          subst e3
          obtain ⟨xs0, ho0⟩ := hM1.down i hiN
          obtain ⟨A, cA, hv, hA⟩ := form_own ho0
          have hvH := Lib.hid hv
          have hAH := Lib.hid hA
          rw [hv] at ho0
          have hnb1 := hdb.out i hiN
          obtain ⟨n, hn⟩ : ∃ n, n = dl i := ⟨_, rfl⟩
          have hnH := Lib.hid hn
          have k0 : wr.cell? ⟨g3, i, none⟩ = some (.slice A n cA) := by rw [hn, ← hv]; exact own_cell hM1.dat rfl (range_get dv N i hiN)
          rw [← hn] at ho0 hnb1
          clear hn hv hA
          go_wp2
          obtain ⟨wo, rfl⟩ : ∃ wo : World, wo = wr := ⟨_, rfl⟩
          go_loopw [7] (fun i' wr => ∃ (k : Nat) (xs : List Value), k ≤ n ∧ i' = .int .i64 k ∧ wr.ownsRow B 5 1 (.slice A n cA) n xs ∧ Hid (∀ k', k' < k → xs[k']? = some (bv i)) ∧ Chg (fun b => (Value.slice A n cA).ownBlock = some b) wo wr) (fun i' _ => n - (intOf i').toNat)
          case atStart => exact ⟨0, xs0, Nat.zero_le _, rfl, ho0, fun k hk => absurd hk (by omega), Chg.refl _ _⟩
          case round =>
            obtain ⟨k, xs, hk, rfl, ho1, hx1, hC1⟩ := hrel
            clear ho0
            by_cases hkn : k < n
            · obtain ⟨g, eA⟩ := hAH.out (by have := hnH.out; omega)
              subst eA
              have hxl : k < xs.length := by rw [ho1.1]; omega
              have k1 := own_cell ho1 rfl (List.getElem?_eq_getElem hxl)
              have k2 := ho1.frozenAt k
              have hg3 := hM1.dat.lt g3 rfl
              have hgd := hSepH.out.dlt i g hiN (by rw [hvH.out]; rfl)
              have hne3 : ¬ (Value.slice (some ⟨g, 0, none⟩) n cA).ownBlock = some g3 := fun e => by
                have e' : g = g3 := by simpa [Value.ownBlock] using e
                omega
              have k0' := (hC1.cell (p := ⟨g3, i, none⟩) hg3.2 hne3).trans k0
              have hst := Lib.hid (ho1.stored k (.int .u8 ((i : Int) % 251))).1
              have hhd : Hid (∀ k', k' < k + 1 → (xs.set k (.int .u8 ((i : Int) % 251)))[k']? = some (bv i)) := head_set hx1.out hxl
              have hC2 := hC1.setCell (p := ⟨g, k, none⟩) (fun _ => rfl) (.int .u8 ((i : Int) % 251))
              clear k0 hg3 hgd hne3 hC1
              generalize xs[k] = old at *
              go_wp2
              go_roundw
              case rel => exact ⟨k + 1, _, by omega, by go_num, hst.out, hhd.out, hC2⟩
              case measure => simp [intOf]; omega
            · obtain rfl : n = k := by omega
              have hM2 : Mem wr B w.heap.size p m N lv dv nl dl (.slice (some ⟨g3, 0, none⟩) N c3) (i + 1) 0 := hM1.fillD hSepH.out hiN (Nat.zero_le _) (by rw [hvH.out, ← hnH.out]; exact hC1) (by rw [hvH.out, ← hnH.out]; exact ho1) (by rw [← hnH.out]; exact hx1.out)
              have hg3 := hM1.dat.lt g3 rfl
              have hne3 : ¬ (Value.slice A n cA).ownBlock = some g3 := fun e => by
                have := hSepH.out.dlt i g3 hiN (by rw [hvH.out, ← hnH.out]; exact e)
                omega
              have k0' := (hC1.cell (p := ⟨g3, i, none⟩) hg3.2 hne3).trans k0
              have hbz := hb1.trans (hC1.below (B := B) (by omega) (fun b hb e => by have := (ho1.lt b e).1; omega))
              have hHz := hC1.size
              clear hC1 hM1 k0 ho1 hx1 hne3
              go_wp2
              go_roundw
              case rel => exact ⟨i + 1, by omega, by go_num, hM2, hbz, by omega⟩
              case measure => simp [intOf]; omega
        · obtain rfl : N = i := by omega
          go_wp2
          obtain ⟨wN, rfl⟩ : ∃ wN : World, wN = wr := ⟨_, rfl⟩
          go_loopw [8] (fun i wr => ∃ j : Nat, j ≤ m ∧ i = .int .i64 j ∧ Mem wr B w.heap.size p m N lv dv nl dl (.slice A3 N c3) N j ∧ Below B w wr ∧ w.heap.size ≤ wr.heap.size) (fun i _ => m - (intOf i).toNat)
          case atStart => exact ⟨0, Nat.zero_le _, rfl, hM1, hb1, hH1⟩
          case round =>
            obtain ⟨i, hi2m, rfl, hM2, hb2, hH2⟩ := hrel
            clear hM1 hb1 hH1
            by_cases him : i < m
            · obtain ⟨xs0, ho0⟩ := hM2.lown i him
              obtain ⟨A, cA, hv, hA⟩ := form_own ho0
              have hvH := Lib.hid hv
              have hAH := Lib.hid hA
              rw [hv] at ho0
              have hnb1 := hnb'.out i him
              obtain ⟨n, hn⟩ : ∃ n, n = nl i := ⟨_, rfl⟩
              have hnH := Lib.hid hn
              have k0 : wr.cell? ⟨p, i, none⟩ = some (.slice A n cA) := by rw [hn, ← hv, hM2.par.cell]; exact range_get lv m i him
              have kv0 := hM2.par.lt
              rw [← hn] at ho0 hnb1
              clear hn hv hA
              go_wp2
              obtain ⟨wo, rfl⟩ : ∃ wo : World, wo = wr := ⟨_, rfl⟩
              go_loopw [9] (fun i' wr => ∃ (k : Nat) (xs : List Value), k ≤ n ∧ i' = .int .i64 k ∧ wr.ownsRow B 47 5 (.slice A n cA) n xs ∧ Hid (∀ k', k' < k → xs[k' * 5 + 1]? = some (kv i)) ∧ Chg (fun b => (Value.slice A n cA).ownBlock = some b) wo wr) (fun i' _ => n - (intOf i').toNat)
              case atStart => exact ⟨0, xs0, Nat.zero_le _, rfl, ho0, fun k hk => absurd hk (by omega), Chg.refl _ _⟩
              case round =>
                obtain ⟨k, xs, hk, rfl, ho1, hx1, hC1⟩ := hrel
                clear ho0
                have hnep : ¬ (Value.slice A n cA).ownBlock = some p := fun e => (hSepH.out.llt i p him (by rw [hvH.out, ← hnH.out]; exact e)).2.2 rfl
                have k0' := (hC1.cell (p := ⟨p, i, none⟩) kv0 hnep).trans k0
                by_cases hkn : k < n
                · obtain ⟨g, eA⟩ := hAH.out (by have := hnH.out; omega)
                  subst eA
                  have hxl : xs.length = n * 5 := ho1.1
                  have y0 := own_cell ho1 rfl (List.getElem?_eq_getElem (show k * 5 < xs.length by omega))
                  have y1 := own_cell ho1 rfl (List.getElem?_eq_getElem (show k * 5 + 1 < xs.length by omega))
                  have y2 := own_cell ho1 rfl (List.getElem?_eq_getElem (show k * 5 + 2 < xs.length by omega))
                  have y3 := own_cell ho1 rfl (List.getElem?_eq_getElem (show k * 5 + 3 < xs.length by omega))
                  have y4 := own_cell ho1 rfl (List.getElem?_eq_getElem (show k * 5 + 4 < xs.length by omega))
                  have z0 := ho1.frozenAt (k * 5)
                  have z1 := ho1.frozenAt (k * 5 + 1)
                  have z2 := ho1.frozenAt (k * 5 + 2)
                  have z3 := ho1.frozenAt (k * 5 + 3)
                  have z4 := ho1.frozenAt (k * 5 + 4)
                  have hst := Lib.hid (((((ho1.stored (k * 5) (.string ⟨#[]⟩)).1.stored (k * 5 + 1) (.int .i64 (-1 - (i : Int)))).1.stored (k * 5 + 2) (.int .i64 0)).1.stored (k * 5 + 3) (.string ⟨#[]⟩)).1.stored (k * 5 + 4) (.slice none 0 0)).1
                  have hhd : Hid (∀ k', k' < k + 1 → (((((xs.set (k * 5) (.string ⟨#[]⟩)).set (k * 5 + 1) (.int .i64 (-1 - (i : Int)))).set (k * 5 + 2) (.int .i64 0)).set (k * 5 + 3) (.string ⟨#[]⟩)).set (k * 5 + 4) (.slice none 0 0))[k' * 5 + 1]? = some (kv i)) := head5 hx1.out (by omega)
                  have hC2 := ((((hC1.setCell (p := ⟨g, k * 5, none⟩) (fun _ => rfl) (.string ⟨#[]⟩)).setCell (p := ⟨g, k * 5 + 1, none⟩) (fun _ => rfl) (.int .i64 (-1 - (i : Int)))).setCell (p := ⟨g, k * 5 + 2, none⟩) (fun _ => rfl) (.int .i64 0)).setCell (p := ⟨g, k * 5 + 3, none⟩) (fun _ => rfl) (.string ⟨#[]⟩)).setCell (p := ⟨g, k * 5 + 4, none⟩) (fun _ => rfl) (.slice none 0 0)
                  clear hnep k0 hC1 hx1
                  generalize xs[k * 5] = o0 at *
                  generalize xs[k * 5 + 1] = o1 at *
                  generalize xs[k * 5 + 2] = o2 at *
                  generalize xs[k * 5 + 3] = o3 at *
                  generalize xs[k * 5 + 4] = o4 at *
                  have hst2 := hst.out
                  clear hst
                  have hst := Lib.hid hst2
                  have hC2H := Lib.hid hC2
                  clear hst2 hC2 ho1
                  go_wp2
                  go_roundw
                  case rel => exact ⟨k + 1, _, by omega, by go_num, hst.out, hhd.out, hC2H.out⟩
                  case measure => simp [intOf]; omega
                · obtain rfl : n = k := by omega
                  have hM3 : Mem wr B w.heap.size p m N lv dv nl dl (.slice A3 N c3) N (i + 1) := hM2.fillL hSepH.out him (Nat.le_refl _) (by rw [hvH.out, ← hnH.out]; exact hC1) (by rw [hvH.out, ← hnH.out]; exact ho1) (by rw [← hnH.out]; exact hx1.out)
                  have hbz := hb2.trans (hC1.below (B := B) (by omega) (fun b hb e => by have := (ho1.lt b e).1; omega))
                  have hHz := hC1.size
                  clear hC1 hM2 k0 ho1 hx1 hnep
                  go_wp2
                  go_roundw
                  case rel => exact ⟨i + 1, by omega, by go_num, hM3, hbz, by omega⟩
                  case measure => simp [intOf]; omega
            · obtain rfl : m = i := by omega
              obtain ⟨wm, hwm⟩ : ∃ wm : World, wm = wr := ⟨_, rfl⟩
              obtain ⟨i0, hi0, hz0, hz1, hz2⟩ := info_parts infoU8
              have h3lt : Hid (∀ g, (Value.slice A3 N c3).ownBlock = some g → g < wm.heap.size) := fun g hg => by rw [hwm]; exact (hM2.dat.lt g hg).2
              have hHH : w.heap.size ≤ wm.heap.size := by rw [hwm]; exact hH2
              have hP0 := hM2.ph4 (fun _ => .slice none 0 0) wm.heap.size
              have hBm : B ≤ wm.heap.size := by omega
              have hmle : wm.heap.size ≤ wr.heap.size := by rw [hwm]; exact Nat.le_refl _
              clear hM2
              go_wp2
              clear hwm
              go_loopw [10, 11] (fun v i wr => ∃ (j : Nat) (gv : Nat → Value), j ≤ N ∧ i = .int .i64 j ∧ Ph4 wr B w.heap.size p m N lv dv nl dl (.slice A3 N c3) wm.heap.size j gv v ∧ Below B w wr ∧ wm.heap.size ≤ wr.heap.size) (fun _ i _ => N - (intOf i).toNat)
              case atStart => exact ⟨0, _, Nat.zero_le _, rfl, hP0, hb2, hmle⟩
              case round =>
                obtain ⟨i, gv, hiN, rfl, hP, hb3, hm3⟩ := hrel
                clear hP0 hb2 hmle hH2
                by_cases hiN2 : i < N
                · obtain ⟨g3, e3⟩ := h3H.out (by omega)
                  subst e3
                  obtain ⟨xs0, ho0, hx0'⟩ := hP.down i (Nat.le_refl _) hiN2
                  obtain ⟨A, cA, hv, hA⟩ := form_own ho0
                  have hnb1 := hdb.out i hiN2
                  obtain ⟨n, hn⟩ : ∃ n, n = dl i := ⟨_, rfl⟩
                  have hnH := Lib.hid hn
                  rw [← hn] at hv ho0 hnb1 hx0'
                  have hvH := Lib.hid hv
                  have hA0 := hP.dall i hiN2
                  rw [hv, ← hn] at hA0
                  rw [hv] at ho0
                  have k0 : wr.cell? ⟨g3, i, none⟩ = some (.slice A n cA) := by rw [← hv]; exact own_cell hP.dat rfl (range_get dv N i hiN2)
                  have hx0H : Hid (∀ k', k' < n → xs0[k']? = some (bv i)) := fun k hk => by simpa using hx0' k hk
                  have hA0H := Lib.hid hA0
                  clear hn hv hA hx0' hA0
                  go_wp2
                  obtain ⟨wo, rfl⟩ : ∃ wo : World, wo = wr := ⟨_, rfl⟩
                  go_loopw [12, 13] (fun v i' wr => ∃ (k : Nat) (xs : List Value), k ≤ 24 ∧ i' = .int .i64 k ∧ wr.ownsRow B 5 1 v (n + k) xs ∧ Hid (∀ k', k' < n + k → xs[k']? = some (bv i)) ∧ Hid (All wr (.slice A n cA) n 1 0 (bv i)) ∧ Grows wo (.slice A n cA) wr v) (fun _ i' _ => 24 - (intOf i').toNat)
                  case atStart => exact ⟨0, xs0, Nat.zero_le _, rfl, ho0, hx0H, hA0H, Grows.refl _ _⟩
                  case round =>
                    obtain ⟨k, xs, hk, rfl, ho1, hx1, hA1, hG1⟩ := hrel
                    clear ho0 hA0H
                    have hGs := hG1.chg.size
                    by_cases hk24 : k < 24
                    · clear k0
                      go_wp2_with (first
                        | (at_builtin; refine wpList_appk _ rfl (.tmp 110) (.tmp 114) _ _ rfl B 5 i0 (.int .u8 0) 1 1 Try.underlying29 hi0 hz0 hz1 hz2 rfl _ (n + k) xs rfl (ho1.alloc _) 1 [.int .u8 ((i : Int) % 251)] (src_one wr Try.underlying29 _ _ rfl) (by unfold maxLen; omega) (by omega) (by simp; omega) ?_; intro v' w1 ho' hg' hat'))
                      have hx2 : Hid (∀ k', k' < n + (k + 1) → (xs ++ [.int .u8 ((i : Int) % 251)])[k']? = some (bv i)) := snoc_all hx1.out (by simpa using ho1.1)
                      obtain ⟨hA2, hG2⟩ := keep_app (xs := xs ++ [.int .u8 ((i : Int) % 251)]) (u := bv i) (off := 0) (n := n) hG1 hA1.out ((Below.refl _ _).alloc (Nat.le_refl _) _) ho' (fun k' hk' => by simpa using hx2.out k' (by omega)) hg' hat'
                      have hA2H := Lib.hid hA2
                      clear hA2 hG1 hg' hat' ho1 hx1 hA1
                      go_wp2
                      go_roundw
                      case rel => exact ⟨k + 1, _, by omega, by go_num, ho', hx2, hA2H, hG2⟩
                      case measure => simp [intOf]; omega
                    · obtain rfl : k = 24 := by omega
                      have hu10 := hP.grow1 (v := u12) (w1 := wr) hSepH.out hHH hiN2 (by rw [hvH.out]; exact hG1)
                      obtain ⟨Av, cv, hvv, _⟩ := form_own ho1
                      subst hvv
                      clear k0
                      go_wp2_with (first
                        | (at_builtin; refine wpList_app _ rfl (.tmp 116) (.tmp 118) _ _ rfl wm.heap.size 29 i2 _ 1 24 Try.underlying25 hi2 hy0 hy1 hy2 rfl u10 i _ rfl (hu10.alloc _) 1 [.slice Av (n + 24) cv] (src_one wr Try.underlying25 _ _ rfl) (by unfold maxLen; omega) (by omega) (by simp; omega) ?_; intro v' w1 ho' hg' hat'))
                      have hP2 := hP.step hSepH.out hHH h3lt.out hm3 hiN2 (by rw [← hnH.out]; exact ho1) (by rw [← hnH.out]; exact hx1.out) (by rw [hvH.out, ← hnH.out]; exact hA1.out) (by rw [hvH.out]; exact hG1) ((Below.refl _ _).alloc (Nat.le_refl _) _) ho' hg' hat'
                      have hbw1 : Below B wo w1 := (hG1.chg.below (B := B) (by omega) (fun b hb e => by have := hSepH.out.dlt i b hiN2 (by rw [hvH.out]; exact e); omega)).trans ((((Below.refl wr.heap.size wr).alloc (Nat.le_refl _) _).mono (show B ≤ wr.heap.size by omega)).grown hg' (by simp; omega) (fun b e => by have := (hu10.lt b e).1; omega))
                      have hbz := hb3.trans hbw1
                      have hmz := hbw1.size
                      clear hP hG1 ho1 hx1 hA1 hu10 ho' hg' hat' hbw1
                      go_wp2
                      go_roundw
                      case rel => exact ⟨i + 1, _, by omega, by go_num, hP2, hbz, by omega⟩
                      case measure => simp [intOf]; omega
                · obtain rfl : N = i := by omega
                  obtain ⟨iN, hiNn, hzN0, hzN1, hzN2⟩ := info_parts infoNode
                  obtain ⟨i4, hi4, hw0, hw1, hw2⟩ := info_parts infoNodes
                  obtain ⟨hQ0, hF⟩ := hP.ph5 hHH h3lt.out hm3 (fun _ => .slice none 0 0)
                  have hFH := Lib.hid hF
                  obtain ⟨w5, hw5⟩ : ∃ w5 : World, w5 = wr := ⟨_, rfl⟩
                  rw [← hw5] at hFH hQ0
                  have hH5 : w.heap.size ≤ w5.heap.size := by rw [hw5]; omega
                  have hB5 : B ≤ w5.heap.size := by rw [hw5]; omega
                  have h5r : w5.heap.size ≤ wr.heap.size := by rw [hw5]; exact Nat.le_refl _
                  rw [hw5] at hQ0
                  have hQ1 : Ph5 wr B w.heap.size p m N lv dv nl dl (.slice A3 N c3) gv u10 w5.heap.size 0 (fun _ => .slice none 0 0) (.slice none 0 0) := by rw [hw5]; exact hQ0
                  clear hP hF hQ0 hw5
                  go_wp2
                  go_loopw [14, 15] (fun v i wr => ∃ (j : Nat) (mv : Nat → Value), j ≤ m ∧ i = .int .i64 j ∧ Ph5 wr B w.heap.size p m N lv dv nl dl (.slice A3 N c3) gv u10 w5.heap.size j mv v ∧ Below B w wr ∧ w5.heap.size ≤ wr.heap.size) (fun _ i _ => m - (intOf i).toNat)
                  case atStart => exact ⟨0, _, Nat.zero_le _, rfl, hQ1, hb3, h5r⟩
                  case round =>
                    obtain ⟨i, mv, him5, rfl, hQ, hb5, hm5⟩ := hrel
                    clear hQ1 hb3 h5r hm3
                    by_cases him6 : i < m
                    · obtain ⟨xs0, ho0, hx0'⟩ := hQ.lown i (Nat.le_refl _) him6
                      obtain ⟨A, cA, hv, hA⟩ := form_own ho0
                      have hnb1 := hnb'.out i him6
                      obtain ⟨n, hn⟩ : ∃ n, n = nl i := ⟨_, rfl⟩
                      have hnH := Lib.hid hn
                      rw [← hn] at hv ho0 hnb1 hx0'
                      have hvH := Lib.hid hv
                      have hA0 := hQ.lall i him6
                      rw [hv, ← hn] at hA0
                      rw [hv] at ho0
                      have k0 : wr.cell? ⟨p, i, none⟩ = some (.slice A n cA) := by rw [← hv, hQ.par.cell]; exact range_get lv m i him6
                      have hx0H : Hid (∀ k', k' < n → xs0[k' * 5 + 1]? = some (kv i)) := hx0'
                      have hA0H := Lib.hid hA0
                      clear hn hv hA hx0' hA0
                      go_wp2
                      obtain ⟨wo, rfl⟩ : ∃ wo : World, wo = wr := ⟨_, rfl⟩
                      go_loopw [16, 17] (fun v i' wr => ∃ (k : Nat) (xs : List Value), k ≤ 12 ∧ i' = .int .i64 k ∧ wr.ownsRow B 47 5 v (n + k) xs ∧ Hid (∀ k', k' < n + k → xs[k' * 5 + 1]? = some (kv i)) ∧ Hid (All wr (.slice A n cA) n 5 1 (kv i)) ∧ Grows wo (.slice A n cA) wr v) (fun _ i' _ => 12 - (intOf i').toNat)
                      case atStart => exact ⟨0, xs0, Nat.zero_le _, rfl, ho0, hx0H, hA0H, Grows.refl _ _⟩
                      case round =>
                        obtain ⟨k, xs, hk, rfl, ho1, hx1, hA1, hG1⟩ := hrel
                        clear ho0 hA0H
                        have hGs := hG1.chg.size
                        by_cases hk12 : k < 12
                        · clear k0
                          go_wp2_with (first
                            | (at_builtin; refine wpList_appk _ rfl (.tmp 134) (.tmp 138) _ _ rfl B 47 iN _ 5 72 Try.underlying22 hiNn hzN0 hzN1 hzN2 rfl _ (n + k) xs rfl (ho1.alloc _) 1 [.string ⟨#[]⟩, .int .i64 (-1 - (i : Int)), .int .i64 0, .string ⟨#[]⟩, .slice none 0 0] (src_node wr Try.underlying22 ⟨⟨#[]⟩, -1 - (i : Int), 0, ⟨#[]⟩, none, 0, []⟩ _) (by unfold maxLen; omega) (by omega) (by simp; omega) ?_; intro v' w1 ho' hg' hat'))
                          have hx2 : Hid (∀ k', k' < n + (k + 1) → (xs ++ [.string ⟨#[]⟩, .int .i64 (-1 - (i : Int)), .int .i64 0, .string ⟨#[]⟩, .slice none 0 0])[k' * 5 + 1]? = some (kv i)) := snoc_all5 hx1.out ho1.1
                          obtain ⟨hA2, hG2⟩ := keep_app (xs := xs ++ [.string ⟨#[]⟩, .int .i64 (-1 - (i : Int)), .int .i64 0, .string ⟨#[]⟩, .slice none 0 0]) (u := kv i) (off := 1) (n := n) hG1 hA1.out ((Below.refl _ _).alloc (Nat.le_refl _) _) ho' (fun k' hk' => hx2.out k' (by omega)) hg' hat'
                          have hA2H := Lib.hid hA2
                          clear hA2 hG1 hg' hat' ho1 hx1 hA1
                          go_wp2
                          go_roundw
                          case rel => exact ⟨k + 1, _, by omega, by go_num, ho', hx2, hA2H, hG2⟩
                          case measure => simp [intOf]; omega
                        · obtain rfl : k = 12 := by omega
                          have hu14 := hQ.more1 (v := u16) (w1 := wr) hSepH.out hH5 him6 (by rw [hvH.out]; exact hG1)
                          obtain ⟨Av, cv, hvv, _⟩ := form_own ho1
                          subst hvv
                          clear k0
                          go_wp2_with (first
                            | (at_builtin; refine wpList_app _ rfl (.tmp 140) (.tmp 142) _ _ rfl w5.heap.size 22 i4 _ 1 24 Try.underlying40 hi4 hw0 hw1 hw2 rfl u14 i _ rfl (hu14.alloc _) 1 [.slice Av (n + 12) cv] (src_one wr Try.underlying40 _ _ rfl) (by unfold maxLen; omega) (by omega) (by simp; omega) ?_; intro v' w1 ho' hg' hat'))
                          have hQ2 := hQ.step hSepH.out hFH.out hH5 hm5 him6 (by rw [← hnH.out]; exact ho1) (by rw [← hnH.out]; exact hx1.out) (by rw [hvH.out, ← hnH.out]; exact hA1.out) (by rw [hvH.out]; exact hG1) ((Below.refl _ _).alloc (Nat.le_refl _) _) ho' hg' hat'
                          have hbw1 : Below B wo w1 := (hG1.chg.below (B := B) (by omega) (fun b hb e => by have := hSepH.out.llt i b him6 (by rw [hvH.out]; exact e); omega)).trans ((((Below.refl wr.heap.size wr).alloc (Nat.le_refl _) _).mono (show B ≤ wr.heap.size by omega)).grown hg' (by simp; omega) (fun b e => by have := (hu14.lt b e).1; omega))
                          have hbz := hb5.trans hbw1
                          have hmz := hbw1.size
                          clear hQ hG1 ho1 hx1 hA1 hu14 ho' hg' hat' hbw1
                          go_wp2
                          go_roundw
                          case rel => exact ⟨i + 1, _, by omega, by go_num, hQ2, hbz, by omega⟩
                          case measure => simp [intOf]; omega
                    · obtain rfl : m = i := by omega
                      obtain ⟨A10, c10, hu10, h10⟩ := form_own hQ.grow
                      subst hu10
                      obtain ⟨A14, c14, hu14, h14⟩ := form_own hQ.more
                      subst hu14
                      have h10H := Lib.hid h10
                      have h14H := Lib.hid h14
                      have hQH := Lib.hid hQ
                      clear h10 h14 hQ
                      go_wp2
                      go_loop [18] (fun i => ∃ j : Nat, j ≤ N ∧ i = .int .i64 j) (fun i => N - (intOf i).toNat)
                      case atStart => exact ⟨0, Nat.zero_le _, rfl⟩
                      case round =>
                        obtain ⟨i, hi6, rfl⟩ := hrel
                        by_cases hi7 : i < N
                        · obtain ⟨g3, e3⟩ := h3H.out (by omega)
                          subst e3
                          obtain ⟨g10, e10⟩ := h10H.out (by omega)
                          subst e10
                          have hnb1 := hdb.out i hi7
                          obtain ⟨⟨Ag, cg, hgv, hgA⟩, hgAll⟩ := hQH.out.gall i hi7
                          obtain ⟨gg, eg⟩ := hgA (by omega)
                          subst eg
                          obtain ⟨n, hn⟩ : ∃ n, n = dl i := ⟨_, rfl⟩
                          have k1 : wr.cell? ⟨g10, i, none⟩ = some (.slice (some ⟨gg, 0, none⟩) (n + 24) cg) := by rw [hn, ← hgv]; exact own_cell hQH.out.grow rfl (range_get gv N i hi7)
                          obtain ⟨A, cA, hv, hA⟩ := hformD.out i hi7
                          have k2 : wr.cell? ⟨g3, i, none⟩ = some (.slice A n cA) := by rw [hn, ← hv]; exact own_cell hQH.out.dat rfl (range_get dv N i hi7)
                          have hAH := Lib.hid hA
                          have hg1 : Hid (∀ k, k < n + 24 → wr.cell? ⟨gg, k, none⟩ = some (.int .u8 ((i : Int) % 251))) := fun k hk => by
                            have := hgAll gg (by rw [hgv]; rfl) k (by omega)
                            rw [Nat.mul_one, Nat.add_zero] at this
                            exact this
                          have hd1 : Hid (∀ g, A = some ⟨g, 0, none⟩ → ∀ k, k < n → wr.cell? ⟨g, k, none⟩ = some (.int .u8 ((i : Int) % 251))) := fun g e k hk => by
                            have := hQH.out.dall i hi7 g (by rw [hv, e]; rfl) k (by omega)
                            rw [Nat.mul_one, Nat.add_zero] at this
                            exact this
                          have hnH := Lib.hid hn
                          rw [← hn] at hnb1
                          clear hgA hgAll hgv hv hA hn
                          go_wp2
                          go_loop [19] (fun i => ∃ k : Nat, k ≤ n + 24 ∧ i = .int .i64 k) (fun i => n + 24 - (intOf i).toNat)
                          case atStart => exact ⟨0, Nat.zero_le _, rfl⟩
                          case round =>
                            obtain ⟨k, hk6, rfl⟩ := hrel
                            by_cases hk7 : k < n + 24
                            · have c1 := hg1.out k hk7
                              by_cases hk8 : k < n
                              · obtain ⟨g, eA⟩ := hAH.out (by have := hnH.out; omega)
                                subst eA
                                have c2 := hd1.out g rfl k hk8
                                go_wp2
                                go_round
                                case rel => exact ⟨k + 1, by omega, by go_num⟩
                                case measure => simp [intOf]; omega
                              · go_wp2
                                go_round
                                case rel => exact ⟨k + 1, by omega, by go_num⟩
                                case measure => simp [intOf]; omega
                            · obtain rfl : n + 24 = k := by omega
                              go_wp2
                              go_round
                              case rel => exact ⟨i + 1, by omega, by go_num⟩
                              case measure => simp [intOf]; omega
                        · obtain rfl : N = i := by omega
                          go_wp2
                          go_loop [20] (fun i => ∃ j : Nat, j ≤ m ∧ i = .int .i64 j) (fun i => m - (intOf i).toNat)
                          case atStart => exact ⟨0, Nat.zero_le _, rfl⟩
                          case round =>
                            obtain ⟨i, hi8, rfl⟩ := hrel
                            by_cases hi9 : i < m
                            · obtain ⟨g14, e14⟩ := h14H.out (by omega)
                              subst e14
                              have hnb1 := hnb'.out i hi9
                              obtain ⟨⟨Ag, cg, hgv, hgA⟩, hgAll⟩ := hQH.out.mall i hi9
                              obtain ⟨gg, eg⟩ := hgA (by omega)
                              subst eg
                              obtain ⟨n, hn⟩ : ∃ n, n = nl i := ⟨_, rfl⟩
                              have k1 : wr.cell? ⟨g14, i, none⟩ = some (.slice (some ⟨gg, 0, none⟩) (n + 12) cg) := by rw [hn, ← hgv]; exact own_cell hQH.out.more rfl (range_get mv m i hi9)
                              obtain ⟨A, cA, hv, hA⟩ := hformL.out i hi9
                              have k2 : wr.cell? ⟨p, i, none⟩ = some (.slice A n cA) := by rw [hn, ← hv, hQH.out.par.cell]; exact range_get lv m i hi9
                              have hAH := Lib.hid hA
                              have hg1 : Hid (∀ k, k < n + 12 → wr.cell? ⟨gg, k * 5 + 1, none⟩ = some (.int .i64 (-1 - (i : Int)))) := fun k hk => hgAll gg (by rw [hgv]; rfl) k (by omega)
                              have hd1 : Hid (∀ g, A = some ⟨g, 0, none⟩ → ∀ k, k < n → wr.cell? ⟨g, k * 5 + 1, none⟩ = some (.int .i64 (-1 - (i : Int)))) := fun g e k hk => hQH.out.lall i hi9 g (by rw [hv, e]; rfl) k (by omega)
                              have hnH := Lib.hid hn
                              rw [← hn] at hnb1
                              clear hgA hgAll hgv hv hA hn
                              go_wp2
                              go_loop [21] (fun i => ∃ k : Nat, k ≤ n + 12 ∧ i = .int .i64 k) (fun i => n + 12 - (intOf i).toNat)
                              case atStart => exact ⟨0, Nat.zero_le _, rfl⟩
                              case round =>
                                obtain ⟨k, hk6, rfl⟩ := hrel
                                by_cases hk7 : k < n + 12
                                · have c1 := hg1.out k hk7
                                  by_cases hk8 : k < n
                                  · obtain ⟨g, eA⟩ := hAH.out (by have := hnH.out; omega)
                                    subst eA
                                    have c2 := hd1.out g rfl k hk8
                                    go_wp2
                                    go_round
                                    case rel => exact ⟨k + 1, by omega, by go_num⟩
                                    case measure => simp [intOf]; omega
                                  · go_wp2
                                    go_round
                                    case rel => exact ⟨k + 1, by omega, by go_num⟩
                                    case measure => simp [intOf]; omega
                                · obtain rfl : n + 12 = k := by omega
                                  go_wp2
                                  go_round
                                  case rel => exact ⟨i + 1, by omega, by go_num⟩
                                  case measure => simp [intOf]; omega
                            · obtain rfl : m = i := by omega
                              go_wp2
                              go_ret
                              exact ⟨rfl, hb5⟩
#print axioms owned_any
end Go.Proofs.Ytolpcfhfcdkokaa
