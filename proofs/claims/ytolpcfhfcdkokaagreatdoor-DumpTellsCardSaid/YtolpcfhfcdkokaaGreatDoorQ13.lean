/- Joined out of RInode..POps2. -/
import Derived.Test.YtolpcfhfcdkokaaGreatDoorQ09
import Derived.Test.YtolpcfhfcdkokaaGreatDoorQ12
import Derived.OrdersHeld
import Derived.Deep.RegionHeld3
import Derived.Deep.MidRow
set_option maxHeartbeats 16000000
set_option maxRecDepth 100000
set_option linter.unusedSimpArgs false
set_option linter.unusedVariables false
namespace Go.Proofs.YtolpcfhfcdkokaaGreatDoor
open Lib (hid)
open Go.RowKit
theorem zCf:(Tryz.prog.info? 123).map (·.size)=some 8:=by kernel_rfl
theorem zHl (x:Hd):(zAb x).toArray.all (·.oneCell')=true:=by
 rw [Array.all_eq_true_iff_forall_mem];intro v hv
 have hv:v∈zAb x:=by simpa using hv
 simp only [zAb,List.mem_cons,List.not_mem_nil,or_false] at hv;rcases hv with rfl | rfl | rfl | rfl | rfl | rfl | rfl | rfl<;>rfl
theorem TrAt.range (w:World) (B:Nat) (t:Tr) (h:TrAt w B t) (k:Nat) (hk:k<t.l.length):∃ b off,t.A=some ⟨b,off,none⟩∧b<B∧w.rangeAt b (off+k * 8) (zAb t.l[k]):=by
 obtain⟨b,off,e,hb,hc⟩:=h.cell k hk;refine⟨b,off,e,hb,fun j v hv=>hc j v ?_ hv⟩;rcases Nat.lt_or_ge j 8 with h' | h'
 · exact h'
 · rw [List.getElem?_eq_none (by simpa [zAb] using h')] at hv;cases hv
theorem zJG {B b off:Nat} {se io bi:Int} {c:Nat} {l:List Hd} {x:Hd} {w0 w1:World} {e:Ending}
 (ht:TrAt w1 B ⟨se,io,bi,some ⟨b,off,none⟩,c,l⟩) (hr:RAt l x.ino w0 e w1) (hx:x∈l) (hu:∀ y∈l,y.ino=x.ino→y=x) :
 ∃ k:Nat,e=.returned (.int .i64 k)∧(0:Int)≤(k:Int)∧(k:Int)<(l.length:Int)∧Hid (w1.rangeAt b (off+k * 8) (zAb x)) ∧
  w1.cell? ⟨b,off+k * 8,none⟩=some (.int .i64 x.ino)∧w1.cell? ⟨b,off+k * 8+1,none⟩=some (.int .i64 x.kind)∧w1.cell? ⟨b,off+k * 8+2,none⟩=some (.int .i64 x.links) ∧
  w1.cell? ⟨b,off+k * 8+3,none⟩=some (.int .i64 x.size)∧w1.cell? ⟨b,off+k * 8+4,none⟩=some (.int .i64 x.made)∧w1.cell? ⟨b,off+k * 8+5,none⟩=some (.int .i64 x.birth) ∧
  w1.cell? ⟨b,off+k * 8+6,none⟩=some (.slice x.iA x.idx.length x.ic)∧w1.cell? ⟨b,off+k * 8+7,none⟩=some (.slice x.dA x.dat.length x.dc):=by
 rcases hr with ⟨⟨k,hk,fA,-,rfl⟩ | ⟨hno,-⟩,-⟩
 · obtain rfl:l[k]=x:=hu _ (List.getElem_mem hk) fA;obtain⟨b',off',hA,-,hc⟩:=ht.range w1 B _ k hk;simp only [Option.some.injEq,Addr.mk.injEq] at hA;obtain⟨rfl,rfl,-⟩:=hA;exact⟨k,rfl,by omega,by omega,hc,hc 0 _ rfl,hc 1 _ rfl,hc 2 _ rfl,hc 3 _ rfl,hc 4 _ rfl,hc 5 _ rfl,hc 6 _ rfl,hc 7 _ rfl⟩
 · exact absurd rfl (hno x hx)
theorem inode_any (B : Nat) (t : Tr) (x : Hd) (w : World) (ht : TrAt w B t) (hB : B ≤ w.heap.size) (hl : t.l.length ≤ 1000000000) (hc : t.l.length ≤ t.c) (hx : x ∈ t.l) (hu : ∀ y ∈ t.l, y.ino = x.ino → y = x) :
    Calls Tryz.prog 81 #[trV t, .int .i64 x.ino] w fun e w' => e = .returned (hdV x) ∧ Below w.heap.size w w' := by
  obtain ⟨se, io, bi, A, c, l⟩ := t
  have hpos : 0 < l.length := List.length_pos_of_mem hx
  obtain ⟨b, off, hA, hbB, -⟩ := ht.row.at_ (by simp only; omega)
  simp only at hA
  subst hA
  have hX0 := (Blk.new w 28 [.int .i64 se, .int .i64 io, .int .i64 bi, .slice (some ⟨b, off, none⟩) l.length c]).alloc (.cells #[.int .i64 0, .int .i64 0, .int .i64 0, .int .i64 0, .int .i64 0, .int .i64 0, .slice none 0 0, .slice none 0 0] 123)
  have hZ0 : Blk ((w.alloc (.cells #[.int .i64 se, .int .i64 io, .int .i64 bi, .slice (some ⟨b, off, none⟩) l.length c] 28)).alloc (.cells #[.int .i64 0, .int .i64 0, .int .i64 0, .int .i64 0, .int .i64 0, .int .i64 0, .slice none 0 0, .slice none 0 0] 123)) (w.heap.size + 1) 123 [.int .i64 0, .int .i64 0, .int .i64 0, .int .i64 0, .int .i64 0, .int .i64 0, .slice none 0 0, .slice none 0 0] := by
    have := Blk.new (w.alloc (.cells #[.int .i64 se, .int .i64 io, .int .i64 bi, .slice (some ⟨b, off, none⟩) l.length c] 28)) 123 [.int .i64 0, .int .i64 0, .int .i64 0, .int .i64 0, .int .i64 0, .int .i64 0, .slice none 0 0, .slice none 0 0]
    simpa using this
  have hb0 : Below w.heap.size w ((w.alloc (.cells #[.int .i64 se, .int .i64 io, .int .i64 bi, .slice (some ⟨b, off, none⟩) l.length c] 28)).alloc (.cells #[.int .i64 0, .int .i64 0, .int .i64 0, .int .i64 0, .int .i64 0, .int .i64 0, .slice none 0 0, .slice none 0 0] 123)) := ((Below.refl _ _).alloc (Nat.le_refl _) _).alloc (by simp) _
  have ht0 := (ht.more hB).below hb0
  unfold trV
  go_enter Tryz.func81, Tryz.ntmps81
  go_upto_region 1 with (fail)
  generalize (w.alloc (.cells #[.int .i64 se, .int .i64 io, .int .i64 bi, .slice (some ⟨b, off, none⟩) l.length c] 28)).alloc (.cells #[.int .i64 0, .int .i64 0, .int .i64 0, .int .i64 0, .int .i64 0, .int .i64 0, .slice none 0 0, .slice none 0 0] 123) = w0 at *
  generalize hg : w.heap.size = g at *
  have hgH := Lib.hid hg
  clear hg
  have x3 : w0.cell? ⟨g, 3, none⟩ = some (.slice (some ⟨b, off, none⟩) l.length c) := hX0.cell 3
  have hXH := Lib.hid hX0
  have hgz := hX0.lt
  have hZH := Lib.hid hZ0
  have hbH := Lib.hid hb0
  have htH := Lib.hid ht0
  have hxH := Lib.hid hx
  have huH := Lib.hid hu
  clear hX0 hZ0 hb0 ht0 hx hu ht
  refine wp_region_held_drew (S := fun w' => Chg (fun b => b = g + 1) w0 w') (by kernel_rfl) ((Chg.refl _ _).drew) fun hH => ?_
  refine wpAnyH_take (i := 0) (v := .pointer (some ⟨g, 3, none⟩)) rfl (by kernel_rfl) (by kernel_rfl) (by kernel_rfl) (fun _ _ _ h => h) (.inl ⟨by rfl, fun _ _ => by go_simp⟩) hH ?_
  (try simp only [Act.put, List.getElem_toArray, List.getElem_cons_succ, List.getElem_cons_zero, List.setIfInBounds_toArray, List.set_cons_zero, List.set_cons_succ])
  refine wpAnyH_take (i := 1) (v := .slice (some ⟨b, off, none⟩) l.length c) rfl (by kernel_rfl) (by kernel_rfl) (by kernel_rfl) (fun _ _ _ h => h) (.inl ⟨by rfl, fun W hW => by have y3 := (hW.cell (p := ⟨g, 3, none⟩) hgz (fun e : g = g + 1 => by omega)).trans x3; go_simp⟩) hH ?_
  (try simp only [Act.put, List.getElem_toArray, List.getElem_cons_succ, List.getElem_cons_zero, List.setIfInBounds_toArray, List.set_cons_zero, List.set_cons_succ])
  refine wpAnyH_take (i := 2) (v := .agg #[.int .i64 se, .int .i64 io, .int .i64 bi, .slice (some ⟨b, off, none⟩) l.length c]) rfl (by kernel_rfl) (by kernel_rfl) (by kernel_rfl) (fun _ _ _ h => h) (yieldsIf_load_mid (by rfl) 28 _ rfl g 0 rfl [.int .i64 se, .int .i64 io, .int .i64 bi, .slice (some ⟨b, off, none⟩) l.length c] _ (fun _ hw j u hu => by rw [Nat.zero_add, (hXH.out.chg hw (by omega)).cell j]; exact hu) Tryz.underlying28 rfl rfl) hH ?_
  (try simp only [Act.put, List.getElem_toArray, List.getElem_cons_succ, List.getElem_cons_zero, List.setIfInBounds_toArray, List.set_cons_zero, List.set_cons_succ])
  refine wpAnyH_take (i := 3) (v := .int .i64 x.ino) rfl (by kernel_rfl) (by kernel_rfl) (by kernel_rfl) (fun _ _ _ h => h) (.inl ⟨by rfl, fun _ _ => by go_simp⟩) hH ?_
  (try simp only [Act.put, List.getElem_toArray, List.getElem_cons_succ, List.getElem_cons_zero, List.setIfInBounds_toArray, List.set_cons_zero, List.set_cons_succ])
  refine wpAnyH_ready (rs := [4]) (by decide +kernel) (by simp) (AllReadyH.cons rfl (fun K hK => ?_) AllReadyH.nil)
  rw [if_pos (by rfl)]
  go_simp
  go_at_call 111
  refine (at_any g ⟨se, io, bi, some ⟨b, off, none⟩, c, l⟩ x.ino w0.drew (htH.out.keep fun _ _ => rfl) (by have := hgz; simp; omega) hl).mono ?_
  rintro e w1 hr
  have hb1 : Below w0.heap.size w0 w1 := (zAf (Below.refl _ w0) 1).trans hr.2
  obtain ⟨k, rfl, k0, k1, hkr, -⟩ := zJG (htH.out.below (hb1.mono (by omega))) hr hxH.out huH.out
  (try go_simp)
  have hc1 := Chg.of_fresh (S := fun b => b = g + 1) hb1
  have hbw : b < w0.heap.size := Nat.lt_trans (Nat.lt_of_lt_of_le hbB hB) hgz
  refine hK.out _ _ hc1 fun hH2 => ?_
  clear hK K hH
  (try simp only [Act.put, List.getElem_toArray, List.getElem_cons_succ, List.getElem_cons_zero, List.setIfInBounds_toArray, List.set_cons_zero, List.set_cons_succ])
  refine wpAnyH_take (i := 5) (v := .pointer (some ⟨b, off + k * 8, none⟩)) rfl (by kernel_rfl) (by kernel_rfl) (by kernel_rfl) (fun _ _ _ h => h) (.inl ⟨by rfl, fun _ _ => by go_simp⟩) hc1 ?_
  (try simp only [Act.put, List.getElem_toArray, List.getElem_cons_succ, List.getElem_cons_zero, List.setIfInBounds_toArray, List.set_cons_zero, List.set_cons_succ])
  refine wpAnyH_take (i := 6) (v := .agg (zAb x).toArray) rfl (by kernel_rfl) (by kernel_rfl) (by kernel_rfl) (fun _ _ _ h => h) (yieldsIf_load_mid (by rfl) 123 _ rfl b (off + k * 8) rfl (zAb x) _ (fun W hW => (fun j u hu => ((hW.cell (p := ⟨b, off + k * 8 + j, none⟩) hbw (fun e : b = g + 1 => by omega)).trans (((hb1.cell (p := ⟨b, off + k * 8 + j, none⟩) hbw).symm.trans (hkr.out j u hu)))))) Tryz.underlying123 rfl rfl) hc1 ?_
  (try simp only [Act.put, List.getElem_toArray, List.getElem_cons_succ, List.getElem_cons_zero, List.setIfInBounds_toArray, List.set_cons_zero, List.set_cons_succ])
  have hZ1 := hZH.out.fresh hb1
  refine wpAnyH_ready (rs := [7]) (by decide +kernel) (by simp) (AllReadyH.cons rfl (fun K hK => ?_) AllReadyH.nil)
  rw [if_pos (by rfl)]
  refine wp_store_row 123 _ _ rfl (g + 1) (zAb x).toArray rfl rfl 123 _ hZ1 rfl rfl (zHl x) ?_
  refine hK.out _ _ (hc1.setRow (fun _ => rfl) _) fun _ => ?_
  clear hK K
  (try simp only [Act.put, List.getElem_toArray, List.getElem_cons_succ, List.getElem_cons_zero, List.setIfInBounds_toArray, List.set_cons_zero, List.set_cons_succ])
  refine wpAnyH_done (by kernel_rfl) ?_ _
  have hrow := setRow_heap w1 (g + 1) _ (zAb x).toArray _ _ hZ1
  have hbl : Below g w (w1.setRow (g + 1) (zAb x).toArray) := (hbH.out.trans (hb1.mono (Nat.le_of_lt hgz))).trans (((Chg.refl (fun b => b = g + 1) w1).setRow (fun _ => rfl) _).below (Nat.le_trans (Nat.le_of_lt hgz) hb1.size) fun b hb e => by omega)
  go_wp2
  refine bodyPost_ret (results_cell_row rfl _ _ (g + 1) 123 (zAb x).toArray (0, 0) _ rfl hrow Tryz.underlying123 rfl rfl) rfl ⟨rfl, ?_⟩
  rw [hgH.out]
  exact hbl
def zBW (s:Nat×Nat×Nat×Int) (k:Nat):Nat×Nat×Nat×Int :=
 (if 44≤k∧(((k-44) / 32:Nat):Int)≠s.2.2.2 then s.1+1 else s.1,if 12≤k∧k<44 then 1 else s.2.1,if 44≤k then 1 else s.2.2.1,if 44≤k then (((k-44) / 32:Nat):Int) else s.2.2.2)
def zBt (l:List Nat):Nat :=
 let s:=l.foldl zBW (l.length,0,0,-1)
 s.1+s.2.1+s.2.2.1
theorem cStep_le (s:Nat×Nat×Nat×Int) (k:Nat) (h1:s.2.1≤1) (h2:s.2.2.1≤1):(zBW s k).1≤s.1+1∧(zBW s k).2.1≤1∧(zBW s k).2.2.1≤1:=by
 unfold zBW;refine⟨?_,?_,?_⟩
 · simp only;split<;>omega
 · simp only;split<;>omega
 · simp only;split<;>omega
theorem cFold_le:∀ (l:List Nat) (s:Nat×Nat×Nat×Int),s.2.1≤1→s.2.2.1≤1→(l.foldl zBW s).1≤s.1+l.length∧(l.foldl zBW s).2.1≤1∧(l.foldl zBW s).2.2.1≤1:=by
 intro l
 induction l with
 | nil=>intro s h1 h2;exact⟨Nat.le_refl _,h1,h2⟩
 | cons k l ih =>
  intro s h1 h2;obtain⟨a,b,c⟩:=cStep_le s k h1 h2;obtain⟨a',b',c'⟩:=ih (zBW s k) b c;rw [List.foldl_cons,List.length_cons];exact⟨by omega,b',c'⟩
theorem countL_le (l:List Nat):zBt l≤2 * l.length+2:=by
 have:=cFold_le l (l.length,0,0,-1) (Nat.zero_le _) (Nat.zero_le _);unfold zBt;simp only at this ⊢;omega
theorem zJ4 (l:List Nat) (i:Nat) (h:i<l.length) (s:Nat×Nat×Nat×Int):(l.drop i).foldl zBW s=(l.drop (i+1)).foldl zBW (zBW s l[i]):=by
 rw [List.drop_eq_getElem_cons h,List.foldl_cons]
theorem zGK (B:Nat) (A:Option Addr) (c:Nat) (l:List Nat) (w:World) (hS:Sees w B 1 A l.length (nats l)) (hl:l.length≤1000000000) (hk:∀ k∈l,k≤1000000000) :
 Calls Tryz.prog 58 #[.slice A l.length c] w fun e w'=>e=.returned (.int .i64 (zBt l))∧w'=w:=by
 go_enter Tryz.func58,Tryz.ntmps58;obtain⟨len,fB⟩:∃ len,len=l.length:=⟨_,rfl⟩;have fA:=hid fB;rw [←fB] at hl;rw [←fB];have fH:=hid hk;clear fB hk;go_wp2
 go_loop [3,4,5,6,7] (fun n s d la i=>∃ (n' s' d':Nat) (l':Int) (k:Nat),k≤len∧n=.int .i64 n'∧s=.int .i64 s'∧d=.int .i64 d'∧la=.int .i64 l'∧i=.int .i64 k∧n'≤len+k∧s'≤1∧d'≤1∧Hid ((l.drop k).foldl zBW (n',s',d',l')=l.foldl zBW (l.length,0,0,-1))) (fun _ _ _ _ i=>len-(intOf i).toNat)
 case atStart=>exact⟨len,0,0,-1,0,Nat.zero_le _,rfl,rfl,rfl,rfl,rfl,by omega,by omega,by omega,by rw [fA.out];rfl⟩
 case round =>
  obtain⟨n,s,d,la,k,fI,rfl,rfl,rfl,rfl,rfl,hn,hs,hd,hf⟩:=hrel;by_cases fJ:k<len
  · have fC:k<l.length:=by have:=fA.out;omega
    obtain⟨b,off,hA,fK,hc⟩:=hS.at_ (by omega);have c0:w.cell? ⟨b,off+k,none⟩=some (.int .i64 (l[k]:Int)):=hc k _ (zBS l k fC);have hm:=fH.out _ (List.getElem_mem fC);have fF:=hid ((zJ4 l k fC (n,s,d,la)).symm.trans hf.out);clear hf hc;subst hA;generalize l[k]=m at *;rcases Nat.lt_or_ge m 44 with h44 | h44
    · rcases Nat.lt_or_ge m 12 with h12 | h12
      · have fD:=hid (show zBW (n,s,d,la) m=(n,s,d,la) by unfold zBW;simp only;rw [if_neg (by omega),if_neg (by omega),if_neg (by omega),if_neg (by omega)]);go_wp2;go_round
        case rel=>exact⟨n,s,d,la,k+1,by omega,rfl,rfl,rfl,rfl,by go_num,by omega,hs,hd,by rw [←fF.out,fD.out];rfl⟩
        case measure=>simp [intOf];omega
      · have fD:=hid (show zBW (n,s,d,la) m=(n,1,d,la) by unfold zBW;simp only;rw [if_neg (by omega),if_pos (by omega),if_neg (by omega),if_neg (by omega)]);go_wp2;go_round
        case rel=>exact⟨n,1,d,la,k+1,by omega,rfl,rfl,rfl,rfl,by go_num,by omega,by omega,hd,by rw [←fF.out,fD.out];rfl⟩
        case measure=>simp [intOf];omega
    · obtain⟨q,hq⟩:∃ q:Nat,q=(m-44) / 32:=⟨_,rfl⟩
      have fL:((m:Int)-44).tdiv 32=(q:Int):=by
       rw [Int.tdiv_eq_ediv_of_nonneg (by omega)];omega
      have fM:q≤1000000000:=by omega
      by_cases fE:(q:Int)=la
      · have fD:=hid (show zBW (n,s,d,la) m=(n,s,1,la) by unfold zBW;simp only;rw [if_neg (by rw [←hq];simp [fE]),if_neg (by omega),if_pos h44,if_pos h44,←hq,fE]);subst fE;clear hq;go_wp2;go_round
        case rel=>exact⟨n,s,1,q,k+1,by omega,rfl,rfl,rfl,rfl,by go_num,by omega,hs,by omega,by rw [←fF.out,fD.out];rfl⟩
        case measure=>simp [intOf];omega
      · have fD:=hid (show zBW (n,s,d,la) m=(n+1,s,1,(q:Int)) by unfold zBW;simp only;rw [if_pos ⟨h44,by rw [←hq];exact fE⟩,if_neg (by omega),if_pos h44,if_pos h44,←hq]);clear hq
        have fN:((q:Int) != la)=true:=by simpa using fE
        go_wp2;go_round
        case rel=>exact⟨n+1,s,1,q,k+1,by omega,by go_num,rfl,rfl,rfl,by go_num,by omega,hs,by omega,by rw [←fF.out,fD.out];rfl⟩
        case measure=>simp [intOf];omega
  · obtain rfl:k=len:=by omega
    have fG:=hid (show n+s+d=zBt l by
     have:=hf.out;rw [List.drop_eq_nil_of_le (by have:=fA.out;omega),List.foldl_nil] at this;unfold zBt;rw [←this])
    clear hf;go_wp2;go_ret;exact⟨by rw [←fG.out];go_num,rfl⟩
open Go.Maps (Keyed)
theorem zIT {T:PT} {n:PN} (h:(T.place n).2=0):(T.place n).1≤n.slots.length∧((T.place n).1<n.slots.length∨n.slots.length≠1068):=by
 unfold PT.place at h ⊢
 cases hf:zAj emp n.slots with
 | some k=>have:=(zAV hf).1;simp only;omega
 | none =>
  rw [hf] at h;simp only at h ⊢
  split
  · rename_i h1;rw [if_pos h1] at h;cases h
  · rename_i h1
    split
    · exact⟨Nat.le_refl _,.inr h1⟩
    · exact⟨Nat.zero_le _,.inr h1⟩
theorem place_lt {T:PT} {n:PN} (hn:n.Ok) (h:(T.place n).2=0):(T.place n).1<1068:=by
 have h1:=zIT h;have h2:=hn.slots;omega
theorem zD7 {l:List ByteArray} (h:∀ x∈l,x.size≤40):(zAL l).size≤40:=by
 unfold zAL;rw [List.getLastD_eq_getLast?]
 cases hl:l.getLast? with
 | none=>simp [emp,ByteArray.size]
 | some x=>exact h x (List.mem_of_getLast? hl)
section
variable {w:World} {own:Nat→Option Role} {lay:Nat→NA} {p mb i:Nat} {T:PT} {n:PN}
theorem zH1 (h:PlainAt w own lay p mb T) (hT:T.Ok) (hg:zAd i T.nodes=some n) (m:Nat) (v:Int) (hv:v=(m:Int)) :
 PlainAt (w.setCell ⟨(lay i).nb,1,none⟩ (.int .i64 v)) own lay p mb (T.upd i {n with links:=m})∧Chg (fun b=>own b≠none) w (w.setCell ⟨(lay i).nb,1,none⟩ (.int .i64 v)):=by
 subst hv;have fA:=h.get hg;have ho:=h.owns _ (zAi hg);have fB:Chg (fun b=>b=(lay i).nb) w (w.setCell ⟨(lay i).nb,1,none⟩ (.int .i64 (m:Int))):=(Chg.refl (fun b=>b=(lay i).nb) w).setCell (p:=⟨(lay i).nb,1,none⟩) (fun _=>rfl) _
 have fE:PnAt (w.setCell ⟨(lay i).nb,1,none⟩ (.int .i64 (m:Int))) (lay i) {n with links:=m}:=by
  have fC:=ho.apart;refine⟨?_,fA.data.chg fB fun b e=>fC.1 b e,zAo fA.slots fB fun b e=>fC.2.1 b e,fA.names.chg fB fun b e=>fC.2.2.1 b e,fA.dirs,fA.files⟩;exact fA.blk.set_ 1 _
 have fD:=h.upd hT.ris hg fB (fun b _ e=>by subst e;exact .inl ho.nb) fE rfl (Ext.refl _ _) (fun b r e=>Nat.lt_of_lt_of_le (h.lt b r e) fB.size) ho;rw [zE5] at fD;exact⟨fD,fB.mono fun b _ e=>by subst e;rw [ho.nb];simp⟩
end
theorem plink_any (own:Nat→Option Role) (lay:Nat→NA) (p mb:Nat) (T:PT) (B:Nat) (A:Option Addr) (c:Nat) (l:List ByteArray) (A2:Option Addr) (c2:Nat) (l2:List ByteArray) (w:World) (h:PlainAt w own lay p mb T) (hT:T.Wf)
 (hs:Sees w B 1 A l.length (strs l)) (hl:l.length≤1000000) (hx:∀ x∈l,x.size≤1000000)
 (gP:Sees w B 1 A2 l2.length (strs l2)) (gU:l2.length≤1000000) (gV:l2.length≤c2) (gF:∀ x∈l2,x.size≤1000000) :
 Calls Tryz.prog 68 #[.pointer (some ⟨p,0,none⟩),.slice A l.length c,.slice A2 l2.length c2] w fun e w'=>e=.returned (zAW (T.link l l2).2)∧zAS own p mb (T.link l l2).1 w w':=by
 have fB:=zDu own lay p mb T B A c l w h hT hs hl hx;have fC:=zCT own lay p mb T B A2 c2 l2 w h hT gP gU gV gF;have gB:=zB0 hT l 1 (let ⟨n,h,_⟩:=hT.root;⟨n,h⟩);have gG:=zHP hT l;have fN:=zBz hT l2;have gH:=zEI hT l2;have gW:=zB4 gF
 have hu:T.link l l2=if (T.walk l 1).2≠0 then (T,(T.walk l 1).2) else if (T.last l2).2≠0 then (T,(T.last l2).2) else
  if (zAd (zAL l2) (T.node (T.last l2).1).names).isSome then (T,111) else if T.isDir (T.walk l 1).1=true then (T,102) else if (T.node (T.walk l 1).1).links=100 then (T,142) else
  if (T.place (T.node (T.last l2).1)).2≠0 then (T,(T.place (T.node (T.last l2).1)).2) else
  ((T.linksUp (T.walk l 1).1).ins (T.last l2).1 (T.place (T.node (T.last l2).1)).1 (zAL l2) (T.walk l 1).1,0):=rfl
 generalize T.walk l 1=r1 at *;generalize T.last l2=r2 at *;obtain⟨i,e1⟩:=r1;obtain⟨d,e2⟩:=r2;generalize zAL l2=nm at *;simp only at fB fC gB gG fN gH hu;have hH:=hid h;have gX:=hid hT;have fJ:=hid hT.ok;have jH:=hT.ok.ino;clear h hT hs hx gP gF;generalize l.length=len at *;generalize l2.length=len2 at *;unfold zAW at fB fC;go_enter Tryz.func68,Tryz.ntmps68;by_cases gI:e1=0
 · subst gI;rw [if_neg (by simp)] at hu;obtain⟨n,hn⟩:=gB rfl;have fD:=hid hn;have gQ:=zAn hn;rw [zAp hn,gQ] at hu;clear gB gQ hn;by_cases gJ:e2=0
   · subst gJ;rw [if_neg (by simp)] at hu;obtain⟨m,hm,gR⟩:=fN rfl;have fE:=hid hm;have fX:=hid gR;rw [zAp hm] at hu;clear fN hm gR;have gK:=hid (fJ.out.get fE.out).1;have fR:=fJ.out.get fD.out;have gL:=fR.1.links;have jI:=fR.2;clear fR
     cases hg:zAd nm m.names with
     | some j =>
      rw [hg,if_pos (show (some j).isSome=true from rfl)] at hu;have fF:=hid hu;clear hu;have fU:=hid hg;clear hg
      go_wp2_with (first
       | (go_at_call 72;refine fB.mono ?_;rintro e w' ⟨rfl,rfl⟩)
       | (go_at_call 95;refine fC.mono ?_;rintro e w1 ⟨rfl,fH⟩;have fA:=hH.out.fresh fH;have x2:=fA.c2;have gC:=fA.lookI fE.out (by omega);have k6:=(fA.get fE.out).c6;have fI:=(fA.get fE.out).lookN nm (by omega);rw [fU.out] at fI;simp only [orV,Option.isSome_some,zAW] at fI;clear fA))
      go_ret;refine⟨by rw [fF.out];rfl,?_⟩;rw [fF.out];exact .same hH.out fH
     | none =>
      rw [hg,if_neg (by simp)] at hu;have fU:=hid hg;clear hg
      cases fV:n.dir with
      | true =>
       rw [fV,if_pos rfl] at hu;have fF:=hid hu;have fK:=hid fV;clear hu fV
       go_wp2_with (first
        | (go_at_call 72;refine fB.mono ?_;rintro e w' ⟨rfl,rfl⟩)
        | (go_at_call 95;refine fC.mono ?_;rintro e w1 ⟨rfl,fH⟩;have fA:=hH.out.fresh fH;have x2:=fA.c2;have gC:=fA.lookI fE.out (by omega);have fS:=fA.lookI fD.out (by omega);have k6:=(fA.get fE.out).c6;have fI:=(fA.get fE.out).lookN nm (by omega);rw [fU.out] at fI;simp only [orV,Option.isSome_none] at fI;have k0:=(fA.get fD.out).c0;have k1:=(fA.get fD.out).c1;rw [zA1 fK.out] at k0;clear fA))
       go_ret;refine⟨by rw [fF.out];rfl,?_⟩;rw [fF.out];exact .same hH.out fH
      | false =>
       rw [fV,if_neg (by simp)] at hu;have fK:=hid fV;clear fV;obtain⟨lk,fT⟩:∃ lk,n.links=lk:=⟨_,rfl⟩;have fL:=hid fT;rw [fT] at hu gL;clear fT;by_cases fM:lk=100
       · rw [if_pos fM] at hu;have fF:=hid hu
         have gY:((lk:Int)==100)=true:=by simp;omega
         clear hu fM
         go_wp2_with (first
          | (go_at_call 72;refine fB.mono ?_;rintro e w' ⟨rfl,rfl⟩)
          | (go_at_call 95;refine fC.mono ?_;rintro e w1 ⟨rfl,fH⟩;have fA:=hH.out.fresh fH;have x2:=fA.c2;have gC:=fA.lookI fE.out (by omega);have fS:=fA.lookI fD.out (by omega);have k6:=(fA.get fE.out).c6;have fI:=(fA.get fE.out).lookN nm (by omega);rw [fU.out] at fI;simp only [orV,Option.isSome_none] at fI;have k0:=(fA.get fD.out).c0;have k1:=(fA.get fD.out).c1;rw [zAz fK.out] at k0;rw [fL.out] at k1;clear fA))
         go_ret;refine⟨by rw [fF.out];rfl,?_⟩;rw [fF.out];exact .same hH.out fH
       · rw [if_neg fM] at hu
         have gY:((lk:Int)==100)=false:=by simp;omega
         have fO:=zIT (T:=T) (n:=m);have fP:=place_lt (T:=T) gK.out;have fG:=fun W hP=>zB5 own lay p mb d T m W hP gX.out fE.out;generalize T.place m=r3 at *;obtain⟨k,e3⟩:=r3;simp only at fO fP hu fG;unfold zAW at fG;have fY:=hid fG;clear fG;by_cases gM:e3=0
         · subst gM;rw [if_neg (by simp)] at hu;have gZ:=(fO rfl).1;have jA:=fP rfl
           have hiD:i≠d:=fun e=>by
            subst e;have:=Option.some.inj (fD.out.symm.trans fE.out);subst this;have:=fX.out;rw [fK.out] at this;cases this
           have gS:T.linksUp i=T.upd i {n with links:=lk+1}:=by unfold PT.linksUp;rw [zAp fD.out,fL.out]
           rw [gS,zCg ((zAm _ hiD.symm).trans fE.out)] at hu;have fF:=hid hu;have fZ:=hid hiD;have gA:=hid (fJ.out.upd (n:={n with links:=lk+1}) (let h:=(fJ.out.get fD.out).1;⟨h.keys,h.dlen,h.secs,h.slots,by show lk+1≤100;omega,h.size,h.made,h.nm,h.nlen,h.dd,h.df,h.nris,h.dris⟩) (fJ.out.get fD.out).2);clear hu fO fP gS hiD fM
           go_wp2_with (first
            | (go_at_call 72;refine fB.mono ?_;rintro e w' ⟨rfl,rfl⟩)
            | (go_at_call 95;refine fC.mono ?_;rintro e w1 ⟨rfl,fH⟩;have fA:=hH.out.fresh fH;have x2:=fA.c2;have gC:=fA.lookI fE.out (by omega);have fS:=fA.lookI fD.out (by omega);have k6:=(fA.get fE.out).c6;have fI:=(fA.get fE.out).lookN nm (by omega);rw [fU.out] at fI;simp only [orV,Option.isSome_none] at fI;have k0:=(fA.get fD.out).c0;have k1:=(fA.get fD.out).c1;rw [zAz fK.out] at k0;rw [fL.out] at k1;have fQ:=hid fA;clear fA)
            | (go_at_call 97;refine (fY.out w1 fQ.out).mono ?_;rintro e w2 ⟨rfl,gD⟩;have fW:=fQ.out.fresh gD;have y2:=fW.c2;have jB:=fW.lookI fD.out (by omega);have j1:=(fW.get fD.out).c1;rw [fL.out] at j1;have g1:=(fW.get fD.out).blk.frozen 1;obtain⟨gE,gT⟩:=zH1 fW fJ.out fD.out (lk+1) ((lk:Int)+1) rfl;have z2:=gE.c2;have jC:=gE.lookI ((zAm _ (Ne.symm fZ.out)).trans fE.out) (by omega);have gN:=hid gE;have gO:=hid gT;clear fW gE gT)
            | (go_at_call 98;refine (zBJ gN.out gA.out ((zAm _ (Ne.symm fZ.out)).trans fE.out) fX.out gZ jA gW).mono ?_;rintro e w3 ⟨rfl,jD⟩))
           go_ret;refine⟨by rw [fF.out];rfl,?_⟩;rw [fF.out];exact zAS.fst (own1:=own) (Ext.refl _ _) ((Chg.of_fresh (fH.trans (gD.mono fH.size))).trans gO.out (fun _ _ h=>h) (fun _ _ h=>h)) jD
         · rw [if_pos gM] at hu;have fF:=hid hu
           have jE:((e3:Int) != 0)=true:=by simp;omega
           clear hu fO fP gM fM
           go_wp2_with (first
            | (go_at_call 72;refine fB.mono ?_;rintro e w' ⟨rfl,rfl⟩)
            | (go_at_call 95;refine fC.mono ?_;rintro e w1 ⟨rfl,fH⟩;have fA:=hH.out.fresh fH;have x2:=fA.c2;have gC:=fA.lookI fE.out (by omega);have fS:=fA.lookI fD.out (by omega);have k6:=(fA.get fE.out).c6;have fI:=(fA.get fE.out).lookN nm (by omega);rw [fU.out] at fI;simp only [orV,Option.isSome_none] at fI;have k0:=(fA.get fD.out).c0;have k1:=(fA.get fD.out).c1;rw [zAz fK.out] at k0;rw [fL.out] at k1;have fQ:=hid fA;clear fA)
            | (go_at_call 97;refine (fY.out w1 fQ.out).mono ?_;rintro e w2 ⟨rfl,gD⟩))
           go_ret;refine⟨by rw [fF.out];rfl,?_⟩;rw [fF.out];exact .same hH.out (fH.trans (gD.mono fH.size))
   · rw [if_pos gJ] at hu
     have jF:((e2:Int) != 0)=true:=by simp;omega
     have fF:=hid hu;clear hu fN gJ
     go_wp2_with (first
      | (go_at_call 72;refine fB.mono ?_;rintro e w' ⟨rfl,rfl⟩)
      | (go_at_call 95;refine fC.mono ?_;rintro e w1 ⟨rfl,fH⟩))
     go_ret;refine⟨by rw [fF.out];rfl,?_⟩;rw [fF.out];exact .same hH.out fH
 · rw [if_pos gI] at hu
   have jG:((e1:Int) != 0)=true:=by simp;omega
   have fF:=hid hu;clear hu gB gI;go_wp2_with (first | (go_at_call 72;refine fB.mono ?_;rintro e w' ⟨rfl,rfl⟩));go_ret;refine⟨by rw [fF.out];rfl,?_⟩;rw [fF.out];exact .same hH.out (Below.refl _ _)
end Go.Proofs.YtolpcfhfcdkokaaGreatDoor
