/- Joined out of the texts DList, DDump, LScr. -/
import Derived.Deep.RegionHeld3
import Derived.Test.YtolpcfhfcdkokaaGreatDoorM26
import Derived.Test.YtolpcfhfcdkokaaGreatDoorM35
/-
  Package dump: a directory is told.
-/
namespace Go.Proofs.YtolpcfhfcdkokaaGreatDoor
open Go.RowKit Go.Proofs

theorem pth_snoc_le (ns : List ByteArray) (nm : ByteArray) : (pth (ns ++ [nm])).size ≤ (pth ns).size + 1 + nm.size := by
  rw [pth_size (by simp), pthL_append]
  have h1 : (pthL [nm]).length = 1 + nm.size := by
    show (47 :: (nm.data.toList ++ [])).length = 1 + nm.size
    rw [List.length_cons, List.append_nil, Array.length_toList]
    show nm.size + 1 = _
    omega
  rw [List.length_append, h1]
  by_cases h : ns = []
  · subst h
    have : (pth []).size = 1 := rfl
    simp [pthL]
    try omega
  · rw [pth_size h]
    omega
theorem cell_drew (w : World) (a : Addr) : w.drew.cell? a = w.cell? a := rfl
theorem DmpAt.drew {p : Nat} {w0 wr : World} {v : Value} {l : List Nd} {s : DS} (h : DmpAt p w0 wr v l s) : DmpAt p w0 wr.drew v l s := h.fresh ((Below.refl _ _).drew)
theorem GrD.drew {B : Nat} {w w' : World} {v v' : Value} (h : GrD B w.drew v w' v') : GrD B w v w' v' := (GrD.fresh v ((Below.refl _ _).drew)).trans h
theorem step_len (T : PT) (s : DS) (x : Spot) : (T.step s x).nodes.length = s.nodes.length + 1 := by
  unfold PT.step
  split
  · simp
  split <;> simp
theorem foldl_len (T : PT) : ∀ (L : List Spot) (s : DS), (L.foldl T.step s).nodes.length = s.nodes.length + L.length
  | [], _ => rfl
  | x :: r, s => by rw [List.foldl_cons, foldl_len T r, step_len, List.length_cons]; omega
theorem dEnt_len {T : PT} {f : Nat} {ns : List ByteArray} {j : Nat} {s : DS} (h : (dEnt T (dList T f) ns j s).2 = 0) : (dEnt T (dList T f) ns j s).1.nodes.length = s.nodes.length + (1 + if T.isDir j = true then (tl T f ns j).length else 0) := by
  unfold dEnt at h ⊢
  split at h
  · cases h
  rename_i h1
  rw [if_neg h1]
  split at h
  · rename_i hd
    rw [if_pos hd, if_pos hd, (dList_ok f ns j _ h).1, foldl_len, step_len]
    omega
  · rename_i hd
    rw [if_neg hd, if_neg hd, step_len]
/-- Behind some entries of a directory. -/
def ListI (p B : Nat) (w0 w2 : World) (v : Value) (T : PT) (f : Nat) (ns : List ByteArray) (names : List (ByteArray × Nat)) (s : DS) (N : Nat) (e i : Value) (wr : World) : Prop :=
  ∃ (k ek : Nat) (s' : DS) (v' : Value) (l' : List Nd), k ≤ N ∧ e = .int .i64 (ek : Int) ∧ i = .int .i64 (k : Int) ∧ DmpAt p w0 wr v' l' s' ∧ GrD B w2 v wr v' ∧
    ((ek = 0 ∧ dEnts T (dList T f) ns names s = dEnts T (dList T f) ns (names.drop k) s' ∧ s'.nodes.length + (tlE T (tl T f) ns (names.drop k)).length ≤ 1000000) ∨ (ek ≠ 0 ∧ dEnts T (dList T f) ns names s = (s', ek)))
section
variable (own : Nat → Option Role) (lay : Nat → NA) (p mb : Nat) (T : PT) (m0 : Int) (w0 : World) (h0 : PlainAt w0 own lay p mb T) (hI : T.Inv) (hm : w0.cell? ⟨0, 0, none⟩ = some (.int .i64 m0))
include h0 hI hm
set_option maxHeartbeats 1600000 in
set_option maxRecDepth 100000 in
theorem dlist_long (ns : List ByteArray) (s : DS) (v : Value) (l : List Nd) (wr : World) (hD : DmpAt p w0 wr v l s) (hlong : 400 < (pth ns).size) (hsz : (pth ns).size ≤ 1000) :
    Calls Tryz.prog 33 #[.pointer (some ⟨w0.heap.size + 1, 0, none⟩), .string (pth ns)] wr (DmpP p w0 v wr (s, 70)) := by
  have hm1 : wr.cell? ⟨0, 0, none⟩ = some (.int .i64 m0) := (hD.below.cell (p := ⟨0, 0, none⟩) (World.block_lt_of_cell? _ _ hm)).trans hm
  have hP1 := h0.fresh hD.below
  obtain ⟨B, hBE⟩ : ∃ B, w0.heap.size = B := ⟨_, rfl⟩
  have hwk := hD.wk
  rw [hBE] at hwk ⊢
  have hBH := Lib.hid hBE
  have y0 := hwk.cell 0
  simp only [List.getElem?_cons_zero, ifV] at y0
  have hDH := Lib.hid hD
  have hcs := ask_L own lay p mb T (pth ns) _ m0 wr hP1 hI.wf (by omega) hm1 (run_bad_L hlong)
  unfold ifV at hcs
  obtain ⟨x, hx⟩ : ∃ x, pth ns = x := ⟨_, rfl⟩
  rw [hx] at hcs ⊢
  clear hBE hD hwk hx hP1 hm1 hlong
  go_enter Tryz.func33, Tryz.ntmps33
  go_upto_region 2 with (first
    | (go_at_call 51; refine hcs.mono ?_; rintro e w1 ⟨va, rfl, hA, -, hb1⟩; obtain ⟨dA, dc, eA, ec, rfl, -, -⟩ := hA; simp only [Ans.err, List.length_nil]; have hN1 := Blk.new w1 67 zAns)
    | (refine wpList_store_row rfl 67 (.tmp 5) (.tmp 16) rfl w1.heap.size (ansC 70 st0 (.slice dA 0 dc) (.slice eA 0 ec)).toArray rfl (by rfl) 67 _ hN1 rfl rfl (one10s _ _ _ _ _ _ _ _) ?_))
  have hb2 : Below w1.heap.size w1 ((w1.alloc (.cells zAns.toArray 67)).setRow w1.heap.size (ansC 70 st0 (.slice dA 0 dc) (.slice eA 0 ec)).toArray) := ((Chg.refl (fun b => w1.heap.size ≤ b) w1).alloc _ |>.setRow (fun _ => Nat.le_refl _) _).below (Nat.le_refl _) fun b hb e => by omega
  go_wp2
  go_loopw [6, 7] (fun e i wr' => e = .int .i64 70 ∧ i = .int .i64 0 ∧ Hid (Below wr.heap.size wr wr')) (fun _ _ _ => 0)
  case atStart => exact ⟨rfl, rfl, Lib.hid (hb1.trans (hb2.mono hb1.size))⟩
  case round =>
    obtain ⟨rfl, rfl, hbw⟩ := hrel
    go_wp2
    go_ret
    exact ⟨rfl, v, l, hDH.out.fresh hbw.out, GrD.fresh v hbw.out⟩
set_option maxHeartbeats 3200000 in
set_option maxRecDepth 100000 in
theorem dlist_any (f : Nat) : ∀ (ns : List ByteArray) (i : Nat) (n : PN) (s : DS) (v : Value) (l : List Nd) (wr : World), DmpAt p w0 wr v l s → T.walk ns 1 = (i, 0) → getS i T.nodes = some n → n.dir = true → (∀ x ∈ ns, chk x = true) → (pth ns).size ≤ 1000 → 202 ≤ ns.length + f → s.nodes.length + (tl T f ns i).length ≤ 1000000 →
    Calls Tryz.prog 33 #[.pointer (some ⟨w0.heap.size + 1, 0, none⟩), .string (pth ns)] wr (DmpP p w0 v wr (dList T f ns i s)) := by
  induction f with
  | zero =>
    intro ns i n s v l wr hD hw hg hd hc hsz hf _
    have h1 := pthL_len hc
    have h2 := pth_size (ns := ns) (fun e => by subst e; simp at hf)
    exact dlist_long own lay p mb T m0 w0 h0 hI hm ns s v l wr hD (by omega) hsz
  | succ f ih =>
    intro ns i n s v l wr hD hw hg hd hc hsz hf hcnt
    have hu : dList T (f + 1) ns i s = if 400 < (pth ns).size then (s, 70) else dEnts T (dList T f) ns (T.node i).names s := rfl
    by_cases hlong : 400 < (pth ns).size
    · rw [hu, if_pos hlong]
      exact dlist_long own lay p mb T m0 w0 h0 hI hm ns s v l wr hD hlong hsz
    rw [hu, if_neg hlong, node_of hg]
    have htl : tl T (f + 1) ns i = tlE T (tl T f) ns n.names := by
      show tlE T (tl T f) ns (T.node i).names = _
      rw [node_of hg]
    rw [htl] at hcnt
    clear hu htl
    have hm1 : wr.cell? ⟨0, 0, none⟩ = some (.int .i64 m0) := (hD.below.cell (p := ⟨0, 0, none⟩) (World.block_lt_of_cell? _ _ hm)).trans hm
    have hP1 := h0.fresh hD.below
    have hle : (pth ns).size ≤ 400 := by omega
    have hisd : T.isDir i = true := by rw [isDir_of hg]; exact hd
    have hrl := run_list (T := T) (spl_pth hc hle) hw hisd
    obtain ⟨es, hes⟩ : ∃ es, (n.names.map fun p => (p.1, p.2, (T.node p.2).kind)) = es := ⟨_, rfl⟩
    have hli : T.list i = ⟨0, st0, [], es⟩ := by unfold PT.list; rw [if_pos hisd, node_of hg, hes]
    rw [hli] at hrl
    have hcs := ask_L own lay p mb T (pth ns) _ m0 wr hP1 hI.wf (by omega) hm1 hrl
    unfold ifV at hcs
    obtain ⟨B, hBE⟩ : ∃ B, w0.heap.size = B := ⟨_, rfl⟩
    have hwk := hD.wk
    rw [hBE] at hwk
    have y0 := hwk.cell 0
    simp only [List.getElem?_cons_zero, ifV] at y0
    have hN : es.length = n.names.length := by rw [← hes, List.length_map]
    have hN2 : n.names.length ≤ 1068 := by have h1 := (hI.gr.ok.get hg).1.nlen; have h2 := (hI.gr.ok.get hg).1.slots; omega
    obtain ⟨N, hNE⟩ : ∃ N, es.length = N := ⟨_, rfl⟩
    rw [hNE] at hN
    have hDH := Lib.hid hD
    have hBH := Lib.hid hBE
    have hNH := Lib.hid hN
    have hNEH := Lib.hid hNE
    have hesH := Lib.hid hes
    have hlB : B + 1 < wr.heap.size := hwk.lt
    have hvb : Hid (∀ g, v.ownBlock = some g → B + 2 ≤ g ∧ g < wr.heap.size) := Lib.hid fun g e => by have := hD.own.row.lt g e; rw [hBE] at this; exact this
    rw [hBE]
    clear hli hrl hD hP1 hm1 hwk hN hes hNE hBE
    obtain ⟨x, hx⟩ : ∃ x, pth ns = x := ⟨_, rfl⟩
    rw [hx] at hcs ⊢
    have hxH := Lib.hid hx
    clear hx
    go_enter Tryz.func33, Tryz.ntmps33
    go_upto_region 2 with (first
      | (go_at_call 51; refine hcs.mono ?_; rintro e w1 ⟨va, rfl, hA, hF, hb1⟩; obtain ⟨dA, dc, eA, ec, rfl, -, hse⟩ := hA; simp only [List.length_nil, hNEH.out] at hse hF ⊢; have hN1 := Blk.new w1 67 zAns)
      | (refine wpList_store_row rfl 67 (.tmp 5) (.tmp 16) rfl w1.heap.size (ansC 0 st0 (.slice dA 0 dc) (.slice eA N ec)).toArray rfl (by rfl) 67 _ hN1 rfl rfl (one10s _ _ _ _ _ _ _ _) ?_))
    have hQ2 : Blk ((w1.alloc (.cells zAns.toArray 67)).setRow w1.heap.size (ansC 0 st0 (.slice dA 0 dc) (.slice eA N ec)).toArray) w1.heap.size 67 (ansC 0 st0 (.slice dA 0 dc) (.slice eA N ec)) := setRow_heap (w1.alloc (.cells zAns.toArray 67)) w1.heap.size _ (ansC 0 st0 (.slice dA 0 dc) (.slice eA N ec)).toArray _ _ hN1
    have hb2 : Below w1.heap.size w1 ((w1.alloc (.cells zAns.toArray 67)).setRow w1.heap.size (ansC 0 st0 (.slice dA 0 dc) (.slice eA N ec)).toArray) := ((Chg.refl (fun b => w1.heap.size ≤ b) w1).alloc _ |>.setRow (fun _ => Nat.le_refl _) _).below (Nat.le_refl _) fun b hb e => by omega
    have hb12 := hb1.trans (hb2.mono hb1.size)
    have hse2 := Lib.hid ((hse.below hb2).more hb2.size)
    have hEF : Hid (∀ b off, eA = some ⟨b, off, none⟩ → 0 < N → wr.heap.size ≤ b) := Lib.hid fun b off e hn => hF _ _ _ _ _ b off _ _ (by rw [e]) hn
    have hzr : wr.heap.size ≤ w1.heap.size := hb1.size
    have hb12H := Lib.hid hb12
    change Code.wp _ _ _ _ ((w1.alloc (.cells zAns.toArray 67)).setRow w1.heap.size (ansC 0 st0 (.slice dA 0 dc) (.slice eA N ec)).toArray)
    generalize (w1.alloc (.cells zAns.toArray 67)).setRow w1.heap.size (ansC 0 st0 (.slice dA 0 dc) (.slice eA N ec)).toArray = w2 at *
    generalize w1.heap.size = z at *
    have hQH := Lib.hid hQ2
    clear hcs y0 hN1 hb2 hb1 hse hF hQ2 hb12
    go_wp2
    go_loopw [6, 7] (fun e i wr' => ListI p B w0 w2 v T f ns n.names s N e i wr') (fun _ i _ => N - (intOf i).toNat)
    case atStart => exact ⟨0, 0, s, v, l, Nat.zero_le _, rfl, rfl, hDH.out.fresh hb12H.out, GrD.fresh v (Below.refl _ _), .inl ⟨rfl, rfl, hcnt⟩⟩
    case round =>
      obtain ⟨k, ek, s', v', l', hk, rfl, rfl, hD', hG', hst⟩ := hrel
      have hz0 : z < w2.heap.size := hQH.out.lt
      have hnz : ¬ (z = B ∨ z = B + 1 ∨ v.ownBlock = some z) := by
        rintro (e | e | e)
        · omega
        · omega
        · have := hvb.out z e; omega
      have hQr := hQH.out.chg hG'.chg hnz
      have q8 := hQr.cell 8
      simp only [ansC, List.getElem?_cons_succ, List.getElem?_cons_zero] at q8
      rcases hst with ⟨rfl, hst, hcn⟩ | ⟨hne, hst⟩
      · by_cases hlt : k < N
        · have t1 : decide ((k : Int) < (N : Int)) = true := by simpa using hlt
          have hltn : k < n.names.length := by rw [← hNH.out]; exact hlt
          obtain ⟨nm, j, hnj⟩ : ∃ nm j, n.names[k] = (nm, j) := ⟨_, _, rfl⟩
          have hdr : n.names.drop k = (nm, j) :: n.names.drop (k + 1) := by rw [List.drop_eq_getElem_cons hltn, hnj]
          rw [hdr] at hst hcn
          have hmem : (nm, j) ∈ n.names := by rw [← hnj]; exact List.getElem_mem _
          have hgn := getS_of_mem (hI.gr.ok.get hg).1.nris.nd hmem
          obtain ⟨m, hgm⟩ := hI.gr.ents _ _ _ _ hg hgn
          have hcn2 := hI.gr.names _ _ _ _ hg hgn
          have hwj : T.walk (ns ++ [nm]) 1 = (j, 0) := walk_snoc.2 ⟨i, hw, n, hg, hd, hgn⟩
          have hcj : ∀ y ∈ ns ++ [nm], chk y = true := fun y hy => by
            rcases List.mem_append.1 hy with hy | hy
            · exact hc y hy
            · rw [List.mem_singleton.1 hy]; exact hcn2
          have hszj : (pth (ns ++ [nm])).size ≤ 1000 := by have h1 := pth_snoc_le ns nm; have h2 : nm.size ≤ 40 := chk_40 hcn2; omega
          have hentry := fun W hDW => dentry_any own lay p mb T m0 w0 h0 hI.wf hm f (ns ++ [nm]) j m s' v' l' W hDW hwj hgm hcj hszj
            (fun hmd s v l wr hD hc => ih (ns ++ [nm]) j m s v l wr hD hwj hgm hmd hcj hszj (by rw [List.length_append, List.length_singleton]; omega) hc)
            (by
              have h1 : (tlE T (tl T f) ns ((nm, j) :: n.names.drop (k + 1))).length = 1 + ((if T.isDir j = true then tl T f (ns ++ [nm]) j else []).length + (tlE T (tl T f) ns (n.names.drop (k + 1))).length) := by rw [tlE]; simp only [List.length_cons, List.length_append]; omega
              rw [h1, isDir_of hgm] at hcn
              split
              · rename_i hmd; rw [if_pos hmd] at hcn; omega
              · rename_i hmd; rw [if_neg hmd] at hcn; simp at hcn; omega)
          have hdE : dEnts T (dList T f) ns ((nm, j) :: n.names.drop (k + 1)) s' = if (dEnt T (dList T f) (ns ++ [nm]) j s').2 ≠ 0 then dEnt T (dList T f) (ns ++ [nm]) j s' else dEnts T (dList T f) ns (n.names.drop (k + 1)) (dEnt T (dList T f) (ns ++ [nm]) j s').1 := rfl
          rw [hdE] at hst
          have hlen := dEnt_len (T := T) (f := f) (ns := ns ++ [nm]) (j := j) (s := s')
          have htll : (tlE T (tl T f) ns ((nm, j) :: n.names.drop (k + 1))).length = 1 + ((if T.isDir j = true then (tl T f (ns ++ [nm]) j).length else 0) + (tlE T (tl T f) ns (n.names.drop (k + 1))).length) := by
            rw [tlE]
            simp only [List.length_cons, List.length_append]
            split
            · omega
            · simp; omega
          rw [htll] at hcn
          obtain ⟨r, hr⟩ : ∃ r, dEnt T (dList T f) (ns ++ [nm]) j s' = r := ⟨_, rfl⟩
          rw [hr] at hst hlen
          simp only [hr] at hentry
          obtain ⟨s2, c2⟩ := r
          simp only at hst hlen
          have hek : es[k]'(by rw [hNEH.out]; exact hlt) = (nm, j, m.kind) := by
            simp only [← hesH.out, List.getElem_map, hnj, node_of hgm]
          obtain ⟨b, off, heA, hbl, hcl⟩ := hse2.out.at_ (by omega)
          subst heA
          have hbB := hEF.out b off rfl (by omega)
          have hnb : ¬ (b = B ∨ b = B + 1 ∨ v.ownBlock = some b) := by
            rintro (e | e | e)
            · omega
            · omega
            · have := hvb.out b e; omega
          have hfl := fun jj (hj : jj < 3) => flat_get entC 3 es (fun _ _ => rfl) k (by rw [hNEH.out]; exact hlt) jj hj
          have e0 := hcl (k * 3 + 0) (.string nm) (by rw [hfl 0 (by omega), hek]; rfl)
          have e2 := hcl (k * 3 + 2) (.int .i64 m.kind) (by rw [hfl 2 (by omega), hek]; rfl)
          have g0 := (hG'.chg.cell (p := ⟨b, off + (k * 3 + 0), none⟩) hbl hnb).trans e0
          have g2 := (hG'.chg.cell (p := ⟨b, off + (k * 3 + 2), none⟩) hbl hnb).trans e2
          rw [show off + (k * 3 + 0) = off + k * 3 by omega] at g0
          rw [show off + (k * 3 + 2) = off + k * 3 + 2 by omega] at g2
          have hent := hentry wr.drew hD'.drew
          rw [hBH.out] at hent
          have hund := under_any x nm wr.drew (by rw [← hxH.out]; omega) (by have h2 : nm.size ≤ 40 := chk_40 hcn2; omega)
          rw [show undP x nm = pth (ns ++ [nm]) by rw [← hxH.out]; exact undP_pth hc nm] at hund
          obtain ⟨y, hy⟩ : ∃ y, pth (ns ++ [nm]) = y := ⟨_, rfl⟩
          rw [hy] at hund hent
          have hcd : Hid (∀ w6 v6, GrD B wr v' w6 v6 → w6.cell? ⟨z, 8, none⟩ = some (.slice (some ⟨b, off, none⟩) N ec) ∧ w6.cell? ⟨b, off + k * 3, none⟩ = some (.string nm) ∧ w6.cell? ⟨b, off + k * 3 + 2, none⟩ = some (.int .i64 m.kind)) := Lib.hid fun w6 v6 hg6 => by
            have h1 := hG'.trans hg6
            have h8 := (hQH.out.chg h1.chg hnz).cell 8
            have h10 := (h1.chg.cell (p := ⟨b, off + (k * 3 + 0), none⟩) hbl hnb).trans e0
            have h12 := (h1.chg.cell (p := ⟨b, off + (k * 3 + 2), none⟩) hbl hnb).trans e2
            rw [show off + (k * 3 + 0) = off + k * 3 by omega] at h10
            rw [show off + (k * 3 + 2) = off + k * 3 + 2 by omega] at h12
            exact ⟨h8, h10, h12⟩
          have s0 : (((0 : Nat) : Int) == 0) = true := rfl
          have b0 : (0 : Int) ≤ (k : Int) := by omega
          have hkE : k + 1 ≤ 1000000 := by omega
          have hGH := Lib.hid hG'
          have hstH := Lib.hid hst
          have hlenH := Lib.hid hlen
          have hcnH := Lib.hid hcn
          have hgmd := isDir_of hgm
          rw [hgmd] at hlenH hcnH
          clear hdE hlen hcn htll hek hfl e0 e2 hentry hcl hst hD' hG' hgmd hdr hnj hmem hwj hcj hszj hgm hgn hcn2 hy
          go_upto_region 5 with (fail)
          go_region_held3 (fun w' => w'.cell? ⟨z, 8, none⟩ = some (.slice (some ⟨b, off, none⟩) N ec) ∧ w'.cell? ⟨b, off + k * 3, none⟩ = some (.string nm) ∧ w'.cell? ⟨b, off + k * 3 + 2, none⟩ = some (.int .i64 m.kind))
            (first | go_keep)
            (first
              | (go_at_call 53; refine hund.mono ?_; rintro e w' ⟨rfl, rfl⟩)
              | (go_at_call 52; refine hent.mono ?_; rintro e w6 ⟨rfl, v6, l6, hD6, hG6⟩; rw [hBH.out] at hG6; obtain ⟨k1, k2, k3⟩ := hcd.out w6 v6 hG6.drew))
          have hwr : IntKind.i64.wrap ((k : Int) + 1) = ((k + 1 : Nat) : Int) := by rw [IntWalk.i64_in _ (by omega)]; omega
          have hGf := Lib.hid (hGH.out.trans hG6.drew)
          have hDf := Lib.hid hD6
          clear hG6 hD6 k1 k2 k3 hent hund
          go_wp2
          go_roundw
          case rel =>
            refine ⟨k + 1, c2, s2, v6, l6, by omega, rfl, by go_num, hDf.out, hGf.out, ?_⟩
            by_cases hc2 : c2 = 0
            · refine .inl ⟨hc2, ?_, ?_⟩
              · rw [hstH.out, if_neg (by omega)]
              · have h1 := hlenH.out hc2
                have h2 := hcnH.out
                omega
            · refine .inr ⟨hc2, ?_⟩
              rw [hstH.out, if_pos hc2]
          case measure =>
            simp [intOf]
            omega
        · obtain rfl : k = N := by omega
          have t1 : decide ((k : Int) < (k : Int)) = false := by simp
          have s0 : (((0 : Nat) : Int) == 0) = true := rfl
          have hfin : dEnts T (dList T f) ns n.names s = (s', 0) := by rw [hst, List.drop_of_length_le (by rw [← hNH.out]; exact Nat.le_refl _)]; rfl
          have hfinH := Lib.hid hfin
          have hDf := Lib.hid hD'
          have hGf := Lib.hid hG'
          clear hfin hst hcn hD' hG'
          go_wp2
          go_ret
          rw [hfinH.out]
          refine ⟨rfl, v', l', hDf.out, ?_⟩
          rw [hBH.out]
          exact (GrD.fresh v hb12H.out).trans hGf.out
      · have hne0 : ((ek : Int) == 0) = false := by simp; omega
        have hstH := Lib.hid hst
        have hDf := Lib.hid hD'
        have hGf := Lib.hid hG'
        clear hst hD' hG' hne
        go_wp2
        go_ret
        rw [hstH.out]
        refine ⟨rfl, v', l', hDf.out, ?_⟩
        rw [hBH.out]
        exact (GrD.fresh v hb12H.out).trans hGf.out
end
#print axioms dlist_any
end Go.Proofs.YtolpcfhfcdkokaaGreatDoor
/-
  Package dump: a tree told whole.
-/
namespace Go.Proofs.YtolpcfhfcdkokaaGreatDoor
open Go.RowKit Go.Proofs

/-- What a dump leaves. -/
def DumpP (T : PT) (w : World) (e : Ending) (w' : World) : Prop :=
  (∃ v l, e = .returned (.tuple #[v, .int .i64 (T.dump.2 : Int)]) ∧ OwnN w' w.heap.size v l ∧ l.map Nd.tn = T.dump.1) ∧ Below w.heap.size w w'
theorem OwnN.base {w : World} {B B1 : Nat} {v : Value} {l : List Nd} (h : OwnN w B v l) (hb : B1 ≤ B) : OwnN w B1 v l :=
  ⟨own_base h.row fun g hg => by have := (h.row.lt g hg).1; omega, fun i hi => own_base (h.data i hi) fun g hg => by have := ((h.data i hi).lt g hg).1; omega, h.apart, h.aside⟩
set_option maxHeartbeats 1600000 in
set_option maxRecDepth 100000 in
theorem ddump_any (own : Nat → Option Role) (lay : Nat → NA) (p mb : Nat) (T : PT) (m0 : Int) (w : World) (h : PlainAt w own lay p mb T) (hI : T.Inv) (hm : w.cell? ⟨0, 0, none⟩ = some (.int .i64 m0)) (hsp : T.spots.length ≤ 1000000) :
    Calls Tryz.prog 10 #[ifV p] w (DumpP T w) := by
  have hmm := @run_makeMap Tryz.prog
  obtain ⟨n1, hn1, hd1⟩ := hI.gr.root
  have hb0 : Below w.heap.size w ((w.alloc (.map #[] 0)).alloc (.cells [ifV p, .slice none 0 0, .map (some w.heap.size)].toArray 89)) := ((Below.refl _ _).alloc (Nat.le_refl _) _).alloc (by simp) _
  have hk0 : Blk ((w.alloc (.map #[] 0)).alloc (.cells [ifV p, .slice none 0 0, .map (some w.heap.size)].toArray 89)) (w.heap.size + 1) 89 [ifV p, .slice none 0 0, .map (some w.heap.size)] := by
    have := Blk.new (w.alloc (.map #[] 0)) 89 [ifV p, .slice none 0 0, .map (some w.heap.size)]
    simpa using this
  have hD0 : DmpAt p w ((w.alloc (.map #[] 0)).alloc (.cells [ifV p, .slice none 0 0, .map (some w.heap.size)].toArray 89)) (.slice none 0 0) [] ⟨[], []⟩ :=
    ⟨hb0, hk0, (MapAt.made w natK Value.string 3).chg ((Chg.refl (fun _ => False) _).alloc _) id, OwnN.nil _ _, rfl, fun i q e => (by cases e), Nat.le_refl _⟩
  have hcs := dlist_any own lay p mb T m0 w h hI hm 202 [] 1 n1 ⟨[], []⟩ (.slice none 0 0) [] _ hD0 rfl hn1 hd1 (by simp) (by decide) (by simp) (by
    have : (tl T 202 [] 1).length ≤ 1000000 := hsp
    simpa using this)
  rw [show pth [] = ⟨#[47]⟩ from rfl] at hcs
  have hdm : T.dump = if (dList T 202 [] 1 ⟨[], []⟩).2 = 0 then ((dList T 202 [] 1 ⟨[], []⟩).1.nodes, 0) else ([], (dList T 202 [] 1 ⟨[], []⟩).2) := rfl
  obtain ⟨r, hr⟩ : ∃ r, dList T 202 [] 1 ⟨[], []⟩ = r := ⟨_, rfl⟩
  rw [hr] at hcs hdm
  obtain ⟨s1, c1⟩ := r
  have hdH := Lib.hid hdm
  obtain ⟨Q, hQ⟩ : ∃ Q, DumpP T w = Q := ⟨_, rfl⟩
  rw [hQ]
  have hQH := Lib.hid hQ
  clear hr hdm hD0 hk0 hQ
  unfold ifV at hcs
  unfold ifV
  go_enter Tryz.func10, Tryz.ntmps10
  go_upto_region 5 with (first
    | (go_at_call 33; refine hcs.mono ?_; rintro e w1 ⟨rfl, v1, l1, hD1, -⟩))
  by_cases hc1 : c1 = 0
  · have hne : ((c1 : Int) != 0) = false := by simp; omega
    have hwk := hD1.wk
    have y1 := hwk.cell 1
    simp only [List.getElem?_cons_succ, List.getElem?_cons_zero] at y1
    have hd2 := hdH.out
    rw [if_pos hc1] at hd2
    have hd2 := Lib.hid hd2
    have hDH := Lib.hid hD1
    clear hD1 hwk
    go_wp2
    rw [← hQH.out]
    refine ⟨⟨v1, l1, ?_, hDH.out.own.base (by omega), ?_⟩, hDH.out.below⟩
    · rw [hd2.out]; rfl
    · rw [hd2.out]; exact hDH.out.tn
  · have hne : ((c1 : Int) != 0) = true := by simp; omega
    have hd2 := hdH.out
    rw [if_neg hc1] at hd2
    have hd2 := Lib.hid hd2
    have hDH := Lib.hid hD1
    clear hD1
    go_wp2
    rw [← hQH.out]
    refine ⟨⟨.slice none 0 0, [], ?_, OwnN.nil _ _, ?_⟩, hDH.out.below⟩
    · rw [hd2.out]; rfl
    · rw [hd2.out]; rfl
#print axioms ddump_any
end Go.Proofs.YtolpcfhfcdkokaaGreatDoor
/-
  A script of operations in memory; is it light?
-/
namespace Go.Proofs.YtolpcfhfcdkokaaGreatDoor
open Go.RowKit Go.Proofs

/-- An operation as it lies: its fields; where its bytes lie. -/
structure Os where
  o : Opn
  dA : Option Addr
  dc : Nat
def OsAt (w : World) (b off : Nat) (x : Os) : Prop :=
  w.cell? ⟨b, off, none⟩ = some (.int .i64 x.o.kind) ∧ w.cell? ⟨b, off + 1, none⟩ = some (.string x.o.path) ∧ w.cell? ⟨b, off + 2, none⟩ = some (.string x.o.dst) ∧ w.cell? ⟨b, off + 3, none⟩ = some (.int .i64 x.o.off) ∧
  w.cell? ⟨b, off + 4, none⟩ = some (.int .i64 x.o.len) ∧ w.cell? ⟨b, off + 5, none⟩ = some (.slice x.dA x.o.data.length x.dc) ∧ w.cell? ⟨b, off + 6, none⟩ = some (.int .i64 x.o.made) ∧ w.cell? ⟨b, off + 7, none⟩ = some (.int .i64 x.o.pick)
/-- A slice of operations that reads as l, below block B. -/
structure ScrAt (w : World) (B : Nat) (A : Option Addr) (l : List Os) : Prop where
  at_ : 0 < l.length → ∃ b off, A = some ⟨b, off, none⟩ ∧ b < B ∧ ∀ i (h : i < l.length), OsAt w b (off + i * 8) l[i]
  data : ∀ x ∈ l, Sees w B 1 x.dA x.o.data.length (bvs x.o.data)
theorem osAt_keep {w w1 : World} {b off : Nat} {x : Os} (h : OsAt w b off x) (hk : ∀ p : Addr, p.block = b → w1.cell? p = w.cell? p) : OsAt w1 b off x :=
  ⟨(hk _ rfl).trans h.1, (hk _ rfl).trans h.2.1, (hk _ rfl).trans h.2.2.1, (hk _ rfl).trans h.2.2.2.1, (hk _ rfl).trans h.2.2.2.2.1, (hk _ rfl).trans h.2.2.2.2.2.1, (hk _ rfl).trans h.2.2.2.2.2.2.1, (hk _ rfl).trans h.2.2.2.2.2.2.2⟩
theorem ScrAt.below {w w1 : World} {B : Nat} {A : Option Addr} {l : List Os} (h : ScrAt w B A l) (hb : Below B w w1) : ScrAt w1 B A l :=
  ⟨fun hn => let ⟨b, off, e, hlt, hc⟩ := h.at_ hn; ⟨b, off, e, hlt, fun i hi => osAt_keep (hc i hi) fun p hp => hb.cell (by omega)⟩, fun x hx => (h.data x hx).below hb⟩
theorem ScrAt.more {w : World} {B B' : Nat} {A : Option Addr} {l : List Os} (h : ScrAt w B A l) (hB : B ≤ B') : ScrAt w B' A l :=
  ⟨fun hn => let ⟨b, off, e, hlt, hc⟩ := h.at_ hn; ⟨b, off, e, by omega, hc⟩, fun x hx => (h.data x hx).more hB⟩
def wtO (x : Os) : Nat := x.o.data.length + x.o.path.size + x.o.dst.size
def totO (l : List Os) : Nat := (l.map wtO).sum
theorem totO_take (l : List Os) (j : Nat) (h : j < l.length) : totO (l.take (j + 1)) = totO (l.take j) + wtO l[j] := by
  unfold totO
  rw [List.take_succ_eq_append_getElem h, List.map_append, List.sum_append]
  simp
theorem totO_le (l : List Os) (j : Nat) : totO (l.take j) ≤ totO l := by
  unfold totO
  conv => rhs; rw [← List.take_append_drop j l, List.map_append, List.sum_append]
  omega
def lightB (l : List Os) : Bool := decide (totO l ≤ 2097152 ∧ l.length ≤ 400)
set_option maxHeartbeats 1600000 in
set_option maxRecDepth 100000 in
theorem light_any (A : Option Addr) (cap : Nat) (l : List Os) (w : World) (hN : ScrAt w w.heap.size A l) (hln : l.length ≤ 281474976710656)
    (hbig : ∀ x ∈ l, x.o.path.size ≤ 140737488351232 ∧ x.o.dst.size ≤ 140737488351232 ∧ x.o.data.length ≤ 140737488351232) :
    Calls Tryz.prog 8 #[.slice A l.length cap] w fun e w' => e = .returned (.bool (lightB l)) ∧ ∃ n, w' = w.drewN n := by
  obtain ⟨len, hlen⟩ : ∃ len, len = l.length := ⟨_, rfl⟩
  have hlenH := Lib.hid hlen
  rw [← hlen] at hln ⊢
  clear hlen
  go_enter Tryz.func8, Tryz.ntmps8
  go_wp2
  go_loopw [3, 4] (fun n i wr => ∃ j m : Nat, j ≤ len ∧ i = .int .i64 j ∧ n = .int .i64 m ∧ Hid (m = totO (l.take j)) ∧ m ≤ 500000000000000 ∧ ∃ k, wr = w.drewN k)
    (fun _ i _ => len - (intOf i).toNat)
  case atStart => exact ⟨0, 0, Nat.zero_le _, rfl, rfl, by simp [Hid, totO], by omega, 0, rfl⟩
  case round =>
    obtain ⟨j, m, hj, rfl, rfl, hm, hmb, k, rfl⟩ := hrel
    by_cases hjk : j < len
    · have hjl : j < l.length := by have := hlenH.out; omega
      by_cases hm2 : m ≤ 2097152
      · obtain ⟨b, off, rfl, hbB, hc⟩ := hN.at_ (by omega)
        have hci := hc j hjl
        have hbg := hbig _ (List.getElem_mem hjl)
        have htk := Lib.hid (totO_take l j hjl)
        clear hN hc hbig
        generalize l[j] = x at *
        obtain ⟨⟨ok, pa, ds, oo, ol, da, om, op⟩, dA, dc⟩ := x
        obtain ⟨c0, c1, c2, c3, c4, c5, c6, c7⟩ := hci
        obtain ⟨z1, z2, z3⟩ := hbg
        simp only at c0 c1 c2 c3 c4 c5 c6 c7 z1 z2 z3
        go_wp2
        go_quiet (fail)
        go_wp2
        go_roundw
        case rel => exact ⟨j + 1, m + (da.length + pa.size + ds.size), by omega, by go_num, by go_num, by have h1 := htk.out; have h2 := hm.out; show _ = _; rw [h1, ← h2]; rfl, by omega, k + nq, by simp [World.drewN]⟩
        case measure => simp [intOf]; omega
      · have hle := totO_le l j
        have hfin : Hid (lightB l = false) := by
          have := hm.out
          show decide _ = false
          simp only [decide_eq_false_iff_not]
          omega
        clear hN hbig hle
        go_wp2
        go_ret
        exact ⟨by rw [hfin.out]; rfl, k, rfl⟩
    · obtain rfl : j = len := by omega
      have hall : Hid (m = totO l) := by have h1 := hm.out; rw [hlenH.out, List.take_length] at h1; exact h1
      have hfin : Hid (lightB l = decide ((m : Int) ≤ 2097152 ∧ (j : Int) ≤ 400)) := by
        have h1 := hall.out
        have h2 := hlenH.out
        show decide _ = decide _
        rw [decide_eq_decide, ← h1, ← h2]
        omega
      clear hN hbig
      by_cases hm2 : m ≤ 2097152
      all_goals
        go_wp2
        go_ret
        exact ⟨by rw [hfin.out]; exact congrArg (fun b => Ending.returned (Value.bool b)) (by rw [Bool.eq_iff_iff]; simp; omega), k, rfl⟩
#print axioms light_any
end Go.Proofs.YtolpcfhfcdkokaaGreatDoor
