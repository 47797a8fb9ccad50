/- Joined out of PCount..PUsed. -/
import Derived.Test.YtolpcfhfcdkokaaGreatDoorQ06
set_option maxHeartbeats 16000000
set_option maxRecDepth 100000
namespace Go.Proofs.YtolpcfhfcdkokaaGreatDoor
open Lib (hid)
open Go.RowKit
open Go.Maps (Keyed)
def zJ6 (_:Unit):Value:=.bool true
theorem zHX (k n g h m:Nat) (tl:List (Int×Unit)) (w:World) (hA:Blk w g 3 [.int .i64 (n:Int)]) (hT:Blk w h 158 [.map (some m)]) (hm:zAy w zIC zJ6 3 m tl) (fL:h≠g) (hk:k≤1067) (hn:n≤1000000) (fT:tl.length≤1000000) :
 Calls Tryz.prog 89 #[.int .i64 (k:Int),.pointer (some ⟨g,0,none⟩),.pointer (some ⟨h,0,none⟩)] w fun e w'=>e=.returned (.tuple #[])∧Blk w' g 3 [.int .i64 ((n+1:Nat):Int)]∧zAy w' zIC zJ6 3 m (zD6 k tl)∧Chg (fun b=>b=g∨b=m) w w':=by
 have a0:w.cell? ⟨g,0,none⟩=some (.int .i64 (n:Int)):=hA.cell 0;have f0:=hA.frozen 0
 have fB:m≠g:=fun e=>by subst e;obtain⟨es,clock,hb,_⟩:=hm;rw [hA] at hb;cases hb
 have fM:h≠m:=fun e=>by subst e;obtain⟨es,clock,hb,_⟩:=hm;rw [hT] at hb;cases hb
 have fD:Blk (w.setCell ⟨g,0,none⟩ (.int .i64 ((n:Int)+1))) g 3 [.int .i64 ((n+1:Nat):Int)]:=hA.set_ 0 _;have fC:Chg (fun b=>b=g) w (w.setCell ⟨g,0,none⟩ (.int .i64 ((n:Int)+1))):=(Chg.refl (fun b=>b=g) w).setCell (p:=⟨g,0,none⟩) (fun _=>rfl) _;have fE:=hm.chg fC fB;have t1:(w.setCell ⟨g,0,none⟩ (.int .i64 ((n:Int)+1))).cell? ⟨h,0,none⟩=some (.map (some m)):=(hT.far (by simpa using fL) _).cell 0;go_enter Tryz.func89,Tryz.ntmps89;by_cases fF:44≤k
 · have fN:decide ((44:Int)≤(k:Int))=true:=by simpa using (by omega:(44:Int)≤k)
   have fG:Value.int .i64 (((k:Int)-12-32) / 32)=.int .i64 (((k-44) / 32:Nat):Int):=by congr 1;omega
   have fO:=zBM zIC (-2) () tl
   go_wp2_with (first
    | (at_mapUpdate;refine zA4 _ rfl (.tmp 9) (.const (.int .i64 (-2))) _ 158 (.inl rfl) zDW Tryz.underlying158 fE (by unfold maxLen;omega) rfl (-2) rfl (keyI _ (by omega)) () rfl ?_;intro w2 fH fI;have fA:=zAT fI;have fP:=fD.chg fA (Ne.symm fB);have t2:=(fA.cell (p:=⟨h,0,none⟩) (World.block_lt_of_cell? _ _ t1) fM).trans t1)
    | (at_mapUpdate;refine zA4 _ rfl (.tmp 10) (.tmp 14) _ 158 (.inl rfl) zDW Tryz.underlying158 fH (by unfold maxLen;omega) rfl (((k-44) / 32:Nat):Int) (show Value.int .i64 (((k:Int)-12-32) / 32)=.int .i64 _ from fG) (keyI _ (by omega)) () rfl ?_;intro w3 fQ fR))
   go_end0
   have fJ:=zAT fR;refine⟨rfl,fP.chg fJ (Ne.symm fB),?_,(fC.trans fA (fun _ _ h=>.inl h) (fun _ _ h=>.inr h)).trans fJ (fun _ _ h=>h) (fun _ _ h=>.inr h)⟩;unfold zD6;rw [if_pos fF];exact fQ
 · have fN:decide ((44:Int)≤(k:Int))=false:=by simpa using (by omega:(k:Int)<44)
   by_cases fK:12≤k
   · have fS:decide ((12:Int)≤(k:Int))=true:=by simpa using (by omega:(12:Int)≤k)
     go_wp2_with (first
      | (at_mapUpdate;refine zA4 _ rfl (.tmp 18) (.const (.int .i64 (-1))) _ 158 (.inl rfl) zDW Tryz.underlying158 fE (by unfold maxLen;omega) rfl (-1) rfl (keyI _ (by omega)) () rfl ?_;intro w2 fH fI))
     go_end0
     have fA:=zAT fI;refine⟨rfl,fD.chg fA (Ne.symm fB),?_,fC.trans fA (fun _ _ h=>.inl h) (fun _ _ h=>.inr h)⟩;unfold zD6;rw [if_neg fF,if_pos fK];exact fH
   · have fS:decide ((12:Int)≤(k:Int))=false:=by simpa using (by omega:(k:Int)<12)
     go_wp2
     go_end0
     refine⟨rfl,fD,?_,fC.mono fun _ _ h=>.inl h⟩;unfold zD6;rw [if_neg fF,if_neg fK];exact fE
structure CntAt (w:World) (nb:Nat) (d:Option Nat) (l:List (Nat×List UInt8)) (A:Option Addr) (sl c:Nat):Prop where
 c4:w.cell? ⟨nb,4,none⟩=some (.map d)
 c5:w.cell? ⟨nb,5,none⟩=some (.slice A sl c)
 map:zDx w zAG zB8 3 d l
theorem CntAt.below {w w1:World} {nb:Nat} {d:Option Nat} {l:List (Nat×List UInt8)} {A:Option Addr} {sl c:Nat} (h:CntAt w nb d l A sl c) (hb:Below w.heap.size w w1):CntAt w1 nb d l A sl c :=
 ⟨(hb.cell (p:=⟨nb,4,none⟩) (World.block_lt_of_cell? _ _ h.c4)).trans h.c4,(hb.cell (p:=⟨nb,5,none⟩) (World.block_lt_of_cell? _ _ h.c5)).trans h.c5,h.map.chg (Chg.of_fresh (S:=fun _=>False) hb) fun _ _ h=>h⟩
structure CntI (w:World) (g:Nat) (ks:List Nat) (wr:World):Prop where
 tb:Blk wr (g+1) 158 [.map (some g)]
 al:Blk wr (g+2) 3 [.int .i64 (ks.length:Int)]
 tl:∃ tl,zAy wr zIC zJ6 3 g tl∧zBZ tl ks∧tl.length≤34
 ks:∀ k∈ks,k≤1067
 ch:Below g w wr
theorem zFT {w:World} {m:Nat} {tl:List (Int×Unit)} {ks:List Nat} (hm:zAy w zIC zJ6 3 m tl) (ht:zBZ tl ks) (hk:∀ k∈ks,k≤1067):tl.length=zCm ks:=ht.len (hm.ris zDW) hk
theorem CntI.chg {w wr w1:World} {g:Nat} {ks:List Nat} (h:CntI w g ks wr) (hc:Below (g+3) wr w1):CntI w g ks w1:=by
 obtain⟨tl,h1,h2⟩:=h.tl;have hC:=Chg.of_below hc;exact⟨h.tb.chg hC (by omega),h.al.chg hC (by omega),⟨tl,h1.chg hC (by omega),h2⟩,h.ks,h.ch.trans (hc.mono (by omega))⟩
theorem CntI.snoc {w wr w1:World} {g k:Nat} {ks:List Nat} {tl:List (Int×Unit)} (h:CntI w g ks wr) (hk:k≤1067) (ht:zBZ tl ks)
 (h1:Blk w1 (g+2) 3 [.int .i64 ((ks.length+1:Nat):Int)]) (h2:zAy w1 zIC zJ6 3 g (zD6 k tl)) (hc:Chg (fun b=>b=g+2∨b=g) wr w1):CntI w g (ks++[k]) w1:=by
 have fA:∀ x∈ks++[k],x≤1067:=by
  intro x hx;rcases List.mem_append.1 hx with hx | hx
  · exact h.ks x hx
  · rw [List.mem_singleton] at hx;omega
 have h3:=ht.snoc k;refine⟨h.tb.chg hc (by omega),?_,⟨_,h2,h3,?_⟩,fA,h.ch.trans (hc.below (by have:=h.al.lt;omega) fun b hb h=>by omega)⟩
 · rw [List.length_append];exact h1
 · rw [zFT h2 h3 fA];exact zG4 _
theorem zIF {ks:List Nat} {l:List (Nat×List UInt8)} (hn:ks.Nodup) (h:∀ k∈ks,(zAd k l).isSome=true):ks.length≤l.length:=by
 have e:(l.map (·.1)).length=l.length:=List.length_map _;rw [←e];refine zAC hn fun k hk=>?_;have:=h k hk
 cases hg:zAd k l with
 | none=>rw [hg] at this;cases this
 | some u=>exact List.mem_map.2 ⟨_,zAi hg,rfl⟩
theorem zJm (nb db:Nat) (l:List (Nat×List UInt8)) (A:Option Addr) (sl c:Nat) (w:World) (hC:CntAt w nb (some db) l A sl c) (hl:∀ p∈l,p.1≤1067) (gJ:l.length≤1068) (jE:sl≤1068) :
 Calls Tryz.prog 57 #[.pointer (some ⟨nb,0,none⟩)] w fun e w'=>e=.returned (.int .i64 ((zDt (l.map (·.1)++List.range sl):Nat):Int))∧Below w.heap.size w w':=by
 have jF:=@run_makeMap Tryz.prog
 have fT:CntI w w.heap.size [] (((w.alloc (.map #[] 0)).alloc (.cells #[.map (some w.heap.size)] 158)).alloc (.cells #[.int .i64 0] 3)):=by
  have h1:=Blk.new (w.alloc (.map #[] 0)) 158 [.map (some w.heap.size)];have h2:=Blk.new ((w.alloc (.map #[] 0)).alloc (.cells #[.map (some w.heap.size)] 158)) 3 [.int .i64 0];refine⟨?_,?_,⟨[],((zAy.made w zIC zJ6 3).alloc _).alloc _,zBZ.nil,by simp⟩,by simp,(((Below.refl _ _).alloc (Nat.le_refl _) _).alloc (by simp) _).alloc (by simp;omega) _⟩
  · simpa using h1.alloc (.cells #[.int .i64 0] 3)
  · simpa using h2
 go_enter Tryz.func57,Tryz.ntmps57;go_upto_region 4 with (fail);have fU:=hC.below fT.ch;generalize ((w.alloc (.map #[] 0)).alloc (.cells #[.map (some w.heap.size)] 158)).alloc (.cells #[.int .i64 0] 3)=w0 at *;generalize hg:w.heap.size=g at *;have fO:=hid hg;have fV:=hid hC;clear hg hC;have c4:=fU.c4;have jG:=fT.al.lt;have fW:zAy w0 zAG zB8 3 db l:=fU.map
 go_wp2_with (first
  | (at_range;refine zBK _ rfl _ 107 rfl zDW Tryz.underlying107 fW rfl ?_;intro w1 gR gK jH))
 go_frame
 have gS:=fT.chg (gK.mono (by omega));have jI:=fU.below gK;generalize w0.heap.size=r at *
 have jJ:db<g:=by rw [←fO.out];exact zAy.lt (K:=zAG) (V:=zB8) (k:=3) (l:=l) fV.out.map
 have jK:nb<g:=by rw [←fO.out];exact World.block_lt_of_cell? _ _ fV.out.c4
 go_loopw [6] (fun _ wr=>∃ ks todo,zAQ wr zAG zB8 3 db r l.length l todo∧CntI w g ks wr∧Hid (∀ k,k∈ks↔(zAd k l).isSome=true∧todo k=false)∧Hid ks.Nodup) (fun _ wr=>wr.rangeLeft db r)
 case atStart=>exact⟨[],_,gR,gS,fun k=>by cases zAd k l<;>simp,List.nodup_nil⟩
 case round =>
  obtain⟨ks,todo,hr,hI,fH,fP⟩:=hrel
  go_wp2_with (first
   | (at_next;refine zBX _ rfl _ rfl zDW invN rfl hr ?_ ?_))
  · intro h0;have gT:=hid h0;clear h0;have fX:=hid (hr.owns.ris zDW);have fB:=fH;have fI:=fP;clear fH fP;have gU:ks.length≤1068:=Nat.le_trans (zIF fI.out fun k hk=>(fB.out k).1 hk |>.1) gJ;obtain⟨wa,gL⟩:∃ wa,wa=wr:=⟨_,rfl⟩;have gM:CntAt wr nb (some db) l A sl c:=fV.out.below (by rw [fO.out];exact hI.ch);have c5:=gM.c5;rw [←gL] at hI c5 ⊢;clear gL hr gM;go_wp2
    go_loopw [7,27] (fun _ i wr=>∃ k:Nat,k≤sl∧i=.int .i64 (k:Int)∧CntI w g (ks++List.range k) wr) (fun _ i _=>sl-(intOf i).toNat)
    case atStart=>exact⟨0,Nat.zero_le _,rfl,by simpa using hI⟩
    case round =>
     obtain⟨k,hk,rfl,fA⟩:=hrel;clear hI;by_cases gN:k<sl
     · obtain⟨tl,fG,fC,fY⟩:=fA.tl
       have gV:(ks++List.range k).length≤3000:=by rw [List.length_append,List.length_range];omega
       have fD:=hid fC;have gW:=hid fA;have fQ:=fA.al;have fR:=fA.tb;clear fA fC hl;generalize fJ:(ks++List.range k).length=n3 at *;have fE:=hid fJ;clear fJ
       go_wp2_with (first
        | (go_at_call 89;refine (zHX k n3 (g+2) (g+1) g tl wr fQ fR fG (by omega) (by omega) (by omega) (by omega)).mono ?_;rintro e w3 ⟨rfl,gX,gY,gZ⟩))
       go_roundw
       case rel=>exact⟨k+1,by omega,by go_num,by rw [List.range_succ,←List.append_assoc];exact gW.out.snoc (by omega) fD.out (by rw [fE.out];exact gX) gY gZ⟩
       case measure=>simp [intOf];omega
     · obtain rfl:k=sl:=by omega
       obtain⟨tl,fG,fC,fY⟩:=fA.tl;have fZ:=hid (zFT fG fC fA.ks)
       have gV:(ks++List.range k).length≤3000:=by rw [List.length_append,List.length_range];omega
       have fQ:wr.cell? ⟨g+2,0,none⟩=some (.int .i64 (((ks++List.range k).length:Nat):Int)):=fA.al.cell 0;have fR:wr.cell? ⟨g+1,0,none⟩=some (.map (some g)):=fA.tb.cell 0;have gA:=hid fA.ch;clear fC hl fA;generalize fJ:(ks++List.range k).length=n3 at *;have fE:=hid fJ;clear fJ;obtain⟨m3,fS⟩:∃ m3,m3=tl.length:=⟨_,rfl⟩;rw [←fS] at fY;have gB:=hid fS
       go_wp2_with (first
        | (at_len;refine zCE _ rfl _ 158 rfl Tryz.underlying158 fG rfl m3 fS.symm ?_;clear fS))
       go_ret;refine⟨?_,by rw [fO.out];exact gA.out⟩
       have gC:n3+m3=zDt (l.map (·.1)++List.range k):=by
        have fK:∀ x,x∈ks↔x∈l.map (·.1):=fun x=>by
         rw [fB.out,gT.out,List.mem_map]
         constructor
         · rintro ⟨h,-⟩
           cases hg:zAd x l with
           | none=>rw [hg] at h;cases h
           | some u=>exact⟨_,zAi hg,rfl⟩
         · rintro ⟨p,hp,rfl⟩;refine⟨?_,rfl⟩
           cases hg:zAd p.1 l with
           | none=>exact absurd rfl (zA9.1 hg p hp)
           | some u=>rfl
        have gD:(l.map (·.1)).Nodup:=by rw [List.Nodup,List.pairwise_map];exact fX.out.nd
        unfold zDt;rw [gB.out,←fE.out,fZ.out,List.length_append,List.length_append,zCr fI.out gD fK]
        congr 1
        exact zHM fun x=>by rw [List.mem_append,List.mem_append,fK]
       rw [←gC];rfl
  · intro k s w2 gO gE jA gN jB jL jM jC;have fF:=hid jA;have fA:=hI.chg (jB.below (show g+3≤wr.heap.size by have:=hI.al.lt;omega) fun b hb h=>by subst h;omega);obtain⟨tl,fG,fC,fY⟩:=fA.tl;have gP:k≤1067:=hl _ (zAi gE);have gU:ks.length≤1068:=Nat.le_trans (zIF fP.out fun k hk=>(fH.out k).1 hk |>.1) gJ;have fB:=hid fA.ks;have fD:=hid fC
    go_wp2_with (first
     | (go_at_call 89;refine (zHX k ks.length (g+2) (g+1) g tl w2 fA.al fA.tb fG (by omega) gP (by omega) (by omega)).mono ?_;rintro e w3 ⟨rfl,fQ,fR,gF⟩))
    have gQ:=fF.out.chg gF (fun e=>by rcases e with e | e<;>omega) (fun e=>by rcases e with e | e<;>omega);have fL:=zBn (b:=db) (r:=r) gF fF.out.owns.lt fF.out.lt (fun e=>by rcases e with e | e<;>omega) (fun e=>by rcases e with e | e<;>omega)
    have fM:w3.rangeLeft db r<wr.rangeLeft db r:=by rw [fL];exact gN
    have fN:=hid fM;have jD:=hid (fA.snoc gP fD.out fQ fR gF);have gG:=hid gQ;have gH:=hid gO;have gI:=hid gE;clear fM fL gQ fA gO gE;go_roundw
    case rel =>
     refine⟨ks++[k],_,gG.out,jD.out,fun x=>?_,?_⟩
     · rw [List.mem_append,fH.out,List.mem_singleton];by_cases e:x=k
       · subst e;rw [gI.out];simp
       · simp [e]
     · rw [Hid,List.nodup_append];refine⟨fP.out,by simp,fun a ha b hb=>?_⟩;rw [List.mem_singleton] at hb;subst hb;rintro rfl;have:=((fH.out a).1 ha).2;rw [gH.out] at this;cases this
    case measure=>exact fN.out
theorem zFs (nb:Nat) (A:Option Addr) (sl c:Nat) (w:World) (c4:w.cell? ⟨nb,4,none⟩=some (.map none)) (c5:w.cell? ⟨nb,5,none⟩=some (.slice A sl c)) (fX:sl≤1068) :
 Calls Tryz.prog 57 #[.pointer (some ⟨nb,0,none⟩)] w fun e w'=>e=.returned (.int .i64 ((zDt (List.range sl):Nat):Int))∧Below w.heap.size w w':=by
 have fY:=@run_makeMap Tryz.prog
 have fC:CntI w w.heap.size [] (((w.alloc (.map #[] 0)).alloc (.cells #[.map (some w.heap.size)] 158)).alloc (.cells #[.int .i64 0] 3)):=by
  have h1:=Blk.new (w.alloc (.map #[] 0)) 158 [.map (some w.heap.size)];have h2:=Blk.new ((w.alloc (.map #[] 0)).alloc (.cells #[.map (some w.heap.size)] 158)) 3 [.int .i64 0];refine⟨?_,?_,⟨[],((zAy.made w zIC zJ6 3).alloc _).alloc _,zBZ.nil,by simp⟩,by simp,(((Below.refl _ _).alloc (Nat.le_refl _) _).alloc (by simp) _).alloc (by simp;omega) _⟩
  · simpa using h1.alloc (.cells #[.int .i64 0] 3)
  · simpa using h2
 go_enter Tryz.func57,Tryz.ntmps57;go_upto_region 4 with (fail);have b4:=World.block_lt_of_cell? _ _ c4;have b5:=World.block_lt_of_cell? _ _ c5;have c4':=(fC.ch.cell (p:=⟨nb,4,none⟩) b4).trans c4;have c5':=(fC.ch.cell (p:=⟨nb,5,none⟩) b5).trans c5;generalize ((w.alloc (.map #[] 0)).alloc (.cells #[.map (some w.heap.size)] 158)).alloc (.cells #[.int .i64 0] 3)=w0 at *;generalize hg:w.heap.size=g at *;have fP:=hid hg;clear hg c4 c5;have fZ:=fC.al.lt;have hI:=fC.chg ((Below.refl _ w0).alloc (show g+3≤w0.heap.size by omega) (.mapIter none 0 #[] 0));have c5:=(World.cell?_alloc_lt w0 (.mapIter none 0 #[] 0) ⟨nb,5,none⟩ (World.block_lt_of_cell? _ _ c5')).trans c5';have fQ:=run_range_nilMap (P:=Tryz.prog) w0 107 3 187 Tryz.underlying107;have gA:∀ ty,(Instr.next (.pointer (some ⟨w0.heap.size,0,none⟩)) false ty).run Tryz.prog (w0.alloc (.mapIter none 0 #[] 0))=_:=fun ty=>run_next_nilMap w0 ty 0 0 #[];clear fC c5';go_wp2;refine wp_loop_rounds 1 ?_;rw [rounds_succ];clear fQ;generalize fR:w0.alloc (.mapIter none 0 #[] 0)=w1 at *;clear fR;go_wp2
 go_loopw [7,27] (fun _ i wr=>∃ k:Nat,k≤sl∧i=.int .i64 (k:Int)∧CntI w g (List.range k) wr) (fun _ i _=>sl-(intOf i).toNat)
 case atStart=>exact⟨0,Nat.zero_le _,rfl,hI⟩
 case round =>
  obtain⟨k,hk,rfl,fA⟩:=hrel;clear hI;by_cases gB:k<sl
  · obtain⟨tl,fF,fD,fM⟩:=fA.tl
    have fS:(List.range k).length≤3000:=by rw [List.length_range];omega
    have fH:=hid fD;have fT:=hid fA;have fN:=fA.al;have fO:=fA.tb;clear fA fD;generalize fE:(List.range k).length=n3 at *;have fB:=hid fE;clear fE
    go_wp2_with (first
     | (go_at_call 89;refine (zHX k n3 (g+2) (g+1) g tl wr fN fO fF (by omega) (by omega) (by omega) (by omega)).mono ?_;rintro e w3 ⟨rfl,fU,fV,fW⟩))
    go_roundw
    case rel=>exact⟨k+1,by omega,by go_num,by rw [List.range_succ];exact fT.out.snoc (by omega) fH.out (by rw [fB.out];exact fU) fV fW⟩
    case measure=>simp [intOf];omega
  · obtain rfl:k=sl:=by omega
    obtain⟨tl,fF,fD,fM⟩:=fA.tl;have fI:=hid (zFT fF fD fA.ks)
    have fS:(List.range k).length≤3000:=by rw [List.length_range];omega
    have fN:wr.cell? ⟨g+2,0,none⟩=some (.int .i64 (((List.range k).length:Nat):Int)):=fA.al.cell 0;have fO:wr.cell? ⟨g+1,0,none⟩=some (.map (some g)):=fA.tb.cell 0;have fJ:=hid fA.ch;clear fD fA;generalize fE:(List.range k).length=n3 at *;have fB:=hid fE;clear fE;obtain⟨m3,fG⟩:∃ m3,m3=tl.length:=⟨_,rfl⟩;rw [←fG] at fM;have fK:=hid fG
    go_wp2_with (first
     | (at_len;refine zCE _ rfl _ 158 rfl Tryz.underlying158 fF rfl m3 fG.symm ?_;clear fG))
    go_ret;refine⟨?_,by rw [fP.out];exact fJ.out⟩
    have fL:n3+m3=zDt (List.range k):=by unfold zDt;rw [fK.out,←fB.out,fI.out]
    rw [←fL];rfl
section
variable {w w':World} {a:NA} {n:PN} {own:Nat→Option Role} {lay:Nat→NA} {p mb i:Nat} {T:PT}
theorem PnAt.form (h:PnAt w a n):∃ A c,a.s=.slice A n.slots.length c:=by
 obtain⟨A,c,e,_⟩:=Sees.of_own (B:=w.heap.size) h.slots fun g hg=>(World.ownsRow.lt h.slots g hg).2;exact⟨A,c,e⟩
theorem zDQ (h:PnAt w a n) (ho:n.Ok) :
 Calls Tryz.prog 57 #[zCq a.nb] w fun e w'=>e=.returned (.int .i64 ((n.count:Nat):Int))∧Below w.heap.size w w':=by
 obtain⟨A,c,hs⟩:=h.form;have c4:w.cell? ⟨a.nb,4,none⟩=some (.map a.d):=h.blk.cell 4;have c5:w.cell? ⟨a.nb,5,none⟩=some a.s:=h.blk.cell 5;rw [hs] at c5;have hm:=h.data
 cases hd:a.d with
 | none =>
  rw [hd] at c4 hm;have fA:n.data=[]:=hm;have:=zFs a.nb A n.slots.length c w c4 c5 ho.slots;unfold PN.count PN.keys;rw [fA];exact this
 | some db =>
  rw [hd] at c4 hm;exact zJm a.nb db n.data A n.slots.length c w ⟨c4,c5,hm⟩ ho.keys ho.dlen ho.slots
theorem PlainAt.get (h:PlainAt w own lay p mb T) (hg:zAd i T.nodes=some n):PnAt w (lay i) n:=h.node _ (zAi hg)
theorem PlainAt.look (i:Nat):zAd i (T.nodes.map fun x=>(x.1,(lay x.1).nb))=(zAd i T.nodes).map fun _=>(lay i).nb:=zDC (fun a _=>(lay a).nb) i T.nodes
theorem PlainAt.c0 (h:PlainAt w own lay p mb T):w.cell? ⟨p,0,none⟩=some (.int .i64 (T.sectors:Int)):=h.top.cell 0
theorem PlainAt.c1 (h:PlainAt w own lay p mb T):w.cell? ⟨p,1,none⟩=some (.int .i64 (T.inodes:Int)):=h.top.cell 1
theorem PlainAt.c2 (h:PlainAt w own lay p mb T):w.cell? ⟨p,2,none⟩=some (.map (some mb)):=h.top.cell 2
end
theorem pused_any (own:Nat→Option Role) (lay:Nat→NA) (p mb:Nat) (T:PT) (w:World) (h:PlainAt w own lay p mb T) (hT:T.Ok) :
 Calls Tryz.prog 35 #[.pointer (some ⟨p,0,none⟩)] w fun e w'=>e=.returned (.int .i64 ((T.used:Nat):Int))∧Below w.heap.size w w':=by
 have c2:=h.c2;have fB:=h.nodes;go_enter Tryz.func35,Tryz.ntmps35;generalize hg:w.heap.size=g at *;have fI:=hid hg;have hH:=hid h;clear hg h
 go_wp2_with (first
  | (at_range;refine zBK _ rfl _ 96 rfl zDW Tryz.underlying96 fB rfl ?_;intro w1 fP fQ fX))
 go_frame
 rw [fI.out] at fQ fP;simp only [fI.out];have fD:=hid hT;clear fB fX hT
 go_loopw [3,5] (fun all _ wr=>∃ (ks:List Nat) (todo:Nat→Bool),zAQ wr zAG zCq 3 mb g T.nodes.length (T.nodes.map fun x=>(x.1,(lay x.1).nb)) todo∧Below g w wr∧all=.int .i64 (((ks.map T.countAt).sum:Nat):Int)∧Hid (∀ k,k∈ks↔(zAd k T.nodes).isSome=true∧todo k=false)∧Hid ks.Nodup) (fun _ _ wr=>wr.rangeLeft mb g)
 case atStart=>exact⟨[],_,(by have:=fP;rw [List.length_map] at this;exact this),fQ,rfl,fun k=>by rw [PlainAt.look];cases zAd k T.nodes<;>simp,List.nodup_nil⟩
 case round =>
  obtain⟨ks,todo,hr,hb,rfl,fE,hn⟩:=hrel
  go_wp2_with (first
   | (at_next;refine zBX _ rfl _ rfl zDW invN rfl hr ?_ ?_))
  · intro h0;have fY:=hid h0;clear h0;have fZ:=hid hb;clear hb hr;go_wp2;go_ret;refine⟨?_,fZ.out⟩;rw [←PT.used_of fD.out.ris hn.out fun k=>by rw [fE.out,fY.out];simp];rfl
  · intro k s w2 fR fC fS fT gA gB gJ gC;rw [PlainAt.look] at fC
    obtain⟨nd,fB,hs⟩:∃ nd,zAd k T.nodes=some nd∧s=(lay k).nb:=by
     cases hg:zAd k T.nodes with
     | none=>rw [hg] at fC;cases fC
     | some nd=>rw [hg] at fC;exact⟨nd,rfl,(Option.some.inj fC).symm⟩
    clear fC;subst hs;have fU:=hb.trans (gA.below (show g≤wr.heap.size by have:=hb.size;rw [fI.out] at this;exact this) fun b hb h=>by omega);have gD:=hH.out.fresh (by rw [fI.out];exact fU);have gE:=gD.get fB;have fV:=(fD.out.node _ (zAi fB)).1;have gF:=fV.count
    have fF:T.countAt k=nd.count:=by unfold PT.countAt;rw [fB]
    have gG:=fD.out.used
    have gH:(ks.map T.countAt).sum≤1126400:=by
     have gK:ks.length≤512:=by
      refine Nat.le_trans (zAC hn.out (l2:=T.nodes.map (·.1)) fun a ha=>zDJ.2 ((fE.out a).1 ha).1) ?_;rw [List.length_map];exact fD.out.len
     have:=sum_le (l:=ks.map T.countAt) (k:=2200) fun x hx=>by
      obtain⟨i,hi,rfl⟩:=List.mem_map.1 hx;have:=((fE.out i).1 hi).1
      cases hg:zAd i T.nodes with
      | none=>rw [hg] at this;cases this
      | some u=>unfold PT.countAt;rw [hg];exact ((fD.out.node _ (zAi hg)).1).count
     rw [List.length_map] at this;omega
    have fG:=hid fF;have fJ:=hid fB;have fK:=hid fR;have fA:=hid fS;have fL:=hid fT;clear fF fB fR fS fT hr gB;generalize fW:(ks.map T.countAt).sum=sm at *;have fM:=hid fW;clear fW
    go_wp2_with (first
     | (go_at_call 57;refine (zDQ gE fV).mono ?_;rintro e w3 ⟨rfl,fN⟩))
    have gI:=fA.out.chg (Chg.of_fresh (S:=fun _=>False) fN) id id;have fH:=zBn (b:=mb) (r:=g) (Chg.of_fresh (S:=fun _=>False) fN) fA.out.owns.lt fA.out.lt id id;have fO:=hid (show w3.rangeLeft mb g<wr.rangeLeft mb g by rw [fH];exact fL.out);clear fH;go_roundw
    case rel =>
     refine⟨ks++[k],_,gI,fU.trans (fN.mono (Nat.le_of_lt fA.out.lt)),?_,fun x=>?_,?_⟩
     · rw [List.map_append,List.sum_append_nat,fM.out];simp only [List.map_cons,List.map_nil,List.sum_cons,List.sum_nil,fG.out]
       go_num
     · rw [List.mem_append,fE.out,List.mem_singleton];by_cases e:x=k
       · subst e;rw [fJ.out];simp
       · simp [e]
     · rw [Hid,List.nodup_append];refine⟨hn.out,by simp,fun a ha b hb=>?_⟩;rw [List.mem_singleton] at hb;subst hb;rintro rfl;have:=((fE.out a).1 ha).2;rw [fK.out] at this;cases this
    case measure=>exact fO.out
theorem zBR {w w':World} (h:Below w.drew.heap.size w.drew w'):Below w.heap.size w w':=(zAf (Below.refl _ w) 1).trans h
def zEe (T:PT):Value:=.agg #[.int .i64 ((T.sectors:Int)-1-T.inodes-T.used),.int .i64 0,.int .i64 ((T.inodes:Int)-T.nodes.length)]
theorem PlainAt.len {w:World} {own:Nat→Option Role} {lay:Nat→NA} {p mb:Nat} {T:PT} (h:PlainAt w own lay p mb T) (ty:TypeId):(Builtin.len_ #[96] ty #[.map (some mb)]).run Tryz.prog w=.ok (.int .i64 (T.nodes.length:Nat)) w:=by
 have:=h.nodes.len Tryz.underlying96 ty;rw [List.length_map] at this;exact this
theorem zG0 (own:Nat→Option Role) (lay:Nat→NA) (p mb:Nat) (T:PT) (w:World) (h:PlainAt w own lay p mb T) (hT:T.Ok) :
 Calls Tryz.prog 14 #[.pointer (some ⟨p,0,none⟩)] w fun e w'=>e=.returned (zEe T)∧Below w.heap.size w w':=by
 have fI:Below w.heap.size w (w.alloc (.cells #[.int .i64 0,.int .i64 0,.int .i64 0] 40)):=(Below.refl _ _).alloc (Nat.le_refl _) _;have fC:=h.fresh fI;have fV:=hid h.c0;have fJ:=hid (show ∀ b,b=w.heap.size→own b=none from fun b e=>h.free (by omega));have fE:=Blk.new w 40 [.int .i64 0,.int .i64 0,.int .i64 0];have fK:=hT.used;have fL:=hT.len;have h1:=hT.ino;have h2:=hT.sec;have h3:=hT.s8;go_enter Tryz.func14,Tryz.ntmps14;go_upto_region 1 with (fail)
 replace fE:Blk (w.alloc (.cells #[.int .i64 0,.int .i64 0,.int .i64 0] 40)) w.heap.size 40 [.int .i64 0,.int .i64 0,.int .i64 0]:=fE
 generalize w.alloc (.cells #[.int .i64 0,.int .i64 0,.int .i64 0] 40)=w0 at *;generalize hg:w.heap.size=g at *;have fU:=hid hg;clear hg;have c0:=fC.c0;have c1:=fC.c1;have c2:=fC.c2;have fM:PlainAt w0.drew own lay p mb T:=fC.drew;have cl:=fM.len;have fF:=hid fM;have fN:T.nodes.length=T.nodes.length:=rfl;have gB:=hid fC;have fW:=hid fE;have fX:=hid fI;have fY:=hid hT;have fZ:=fE.lt;clear fC fE fI h hT fM fN
 have gC:p≠g:=by have:=World.block_lt_of_cell? _ _ fV.out;have e:=fU.out;simp only at this;omega
 obtain⟨us,fO⟩:∃ us,us=T.used:=⟨_,rfl⟩;obtain⟨nl,fP⟩:∃ nl,nl=T.nodes.length:=⟨_,rfl⟩;obtain⟨se,fQ⟩:∃ se,se=T.sectors:=⟨_,rfl⟩;obtain⟨io,fR⟩:∃ io,io=T.inodes:=⟨_,rfl⟩;rw [←fP] at cl fL;rw [←fQ] at c0 h2 h3;rw [←fR] at c1 h1;rw [←fO] at fK;have fG:=hid fO;have fA:=hid (And.intro fP (And.intro fQ fR));clear fO fP fQ fR;have e1:IntKind.i64.wrap ((se:Int)-1)=(se:Int)-1:=IntWalk.i64_in _ (by omega);have e2:IntKind.i64.wrap ((se:Int)-1-io)=(se:Int)-1-io:=IntWalk.i64_in _ (by omega);have e3:IntKind.i64.wrap ((se:Int)-1-io-us)=(se:Int)-1-io-us:=IntWalk.i64_in _ (by omega);have e4:IntKind.i64.wrap ((io:Int)-nl)=(io:Int)-nl:=IntWalk.i64_in _ (by omega)
 go_region_held3 (fun w'=>w'.cell? ⟨p,0,none⟩=some (.int .i64 (se:Int))∧w'.cell? ⟨p,1,none⟩=some (.int .i64 (io:Int))∧w'.cell? ⟨p,2,none⟩=some (.map (some mb))∧∀ ty,(Builtin.len_ #[96] ty #[.map (some mb)]).run Tryz.prog w'=.ok (.int .i64 (nl:Nat)) w')
  (first | go_keep)
  (first
   | (go_at_call 35;refine (pused_any own lay p mb T w0.drew fF.out fY.out).mono ?_;rintro e w1 ⟨rfl,fS⟩;have fD:=fF.out.fresh fS;have d0:=fD.c0;have d1:=fD.c1;have d2:=fD.c2;have dl:=fD.len;have fB:=fW.out.fresh (zBR fS);have f0:=fB.frozen 0;have f1:=fB.frozen 1;have f2:=fB.frozen 2;have q0:=fB.cell 0;have q1:=fB.cell 1;have q2:=fB.cell 2;rw [←fA.out.1] at dl;rw [←fA.out.2.1] at d0;rw [←fA.out.2.2] at d1;rw [←fG.out];have fH:=fD.chg (((((Chg.refl (fun b=>b=g) w1).setCell (p:=⟨g,0,none⟩) (fun _=>rfl) (.int .i64 ((se:Int)-1-io-us))).setCell (p:=⟨g,1,none⟩) (fun _=>rfl) (.int .i64 0)).setCell (p:=⟨g,2,none⟩) (fun _=>rfl) (.int .i64 ((io:Int)-nl)))) fJ.out;have dl3:=fH.len;rw [←fA.out.1] at dl3;have g0:=fH.c0;have g1:=fH.c1;have g2:=fH.c2;rw [←fA.out.2.1] at g0;rw [←fA.out.2.2] at g1;clear fH fD))
 have fT:=((fB.set_ 0 (.int .i64 ((se:Int)-1-io-us))).set_ 1 (.int .i64 0)).set_ 2 (.int .i64 ((io:Int)-nl));have gA:=((((fX.out.trans (zBR fS |>.mono (Nat.le_of_lt fZ))).setCell (p:=⟨g,0,none⟩) (Nat.le_refl _) (.int .i64 ((se:Int)-1-io-us))).setCell (p:=⟨g,1,none⟩) (Nat.le_refl _) (.int .i64 0)).setCell (p:=⟨g,2,none⟩) (Nat.le_refl _) (.int .i64 ((io:Int)-nl)));go_wp2;refine bodyPost_ret (results_cell_row rfl _ _ g 40 (#[.int .i64 ((se:Int)-1-io-us),.int .i64 0,.int .i64 ((io:Int)-nl)]:Array Value) (0,0) _ rfl fT Tryz.underlying40 rfl rfl) rfl ⟨?_,?_⟩
 · rw [fA.out.1,fA.out.2.1,fA.out.2.2,fG.out];rfl
 · rw [fU.out];exact gA
theorem zII (own:Nat→Option Role) (lay:Nat→NA) (p mb:Nat) (T:PT) (x y:Nat) (cx cy:Nat) (w:World) (h:PlainAt w own lay p mb T) (hT:T.Ok)
 (hx:∀ W,Below w.heap.size w W→Calls Tryz.prog 57 #[zCq x] W fun e w'=>e=.returned (.int .i64 (cx:Int))∧Below W.heap.size W w') (fG:cx≤2200)
 (hy:∀ W,Below w.heap.size w W→Calls Tryz.prog 57 #[zCq y] W fun e w'=>e=.returned (.int .i64 (cy:Int))∧Below W.heap.size W w') (fH:cy≤2200) :
 Calls Tryz.prog 129 #[zCq p,zCq x,zCq y] w fun e w'=>e=.returned (.bool (decide ((cy:Int)-cx≤(T.sectors:Int)-1-T.inodes-T.used)))∧Below w.heap.size w w':=by
 have fld:∀ (a b:Int) (w:World),(Instr.field 40 (.agg #[.int .i64 a,.int .i64 0,.int .i64 b]) 0).run Tryz.prog w=.ok (.int .i64 a) w:=fun _ _ _=>by kernel_rfl
 unfold zCq;go_enter Tryz.func129,Tryz.ntmps129;have fF:=hT.used;have h1:=hT.ino;have h2:=hT.sec;have h3:=hT.s8;go_wp2_with fail;refine (zG0 own lay p mb T w h hT).mono ?_;rintro e w1 ⟨rfl,fB⟩;unfold zEe;go_wp2_with fail;refine (hy w1 fB).mono ?_;rintro e w2 ⟨rfl,fD⟩;have fA:=fB.trans (fD.mono fB.size);go_wp2_with fail;refine (hx w2 fA).mono ?_;rintro e w3 ⟨rfl,fE⟩;have fC:=hid (fA.trans (fE.mono fA.size));clear fB fD fA fE hx hy h hT;go_wp2;go_ret;exact⟨rfl,fC.out⟩
end Go.Proofs.YtolpcfhfcdkokaaGreatDoor
