/- Joined out of SDo..UFile. -/
import Derived.Test.YtolpcfhfcdkokaaGreatDoorR14
import Derived.Test.YtolpcfhfcdkokaaGreatDoorR16
set_option maxHeartbeats 16000000
set_option maxRecDepth 100000
set_option linter.unusedSimpArgs false
set_option linter.unusedVariables false
namespace Go.Proofs.YtolpcfhfcdkokaaGreatDoor
open Lib (hid)
open Nat renaming zero_add → Aa,le_refl → Ab,zero_le → Ac
open Sees renaming nil → Ad,of_own → Ae
open Blk renaming new → Af,row_far → Ag
open Go renaming setRow_heap → Ah,wpList_load_row → Aj,wp_region_held_drew → Ak,yieldsIf_load_mid → Al,wpAnyH_ready → Am,wp_store_row → An,wpAnyH_done → Ao,bodyPost_ret → Ap,info_parts → Aq
open Chg renaming refl → Ar,of_fresh → As
open Proofs.Tryz renaming prog → At,underlying70 → Au,underlying28 → Av,underlying67 → Aw,underlying64 → Ax,underlying31 → Ay,underlying92 → Az
open Code renaming wp → AA
open Opn renaming code1 → AB,code2 → AC
open List renaming length_nil → AD,getElem?_cons_zero → AE,getElem_toArray → AF,getElem_cons_succ → AG,getElem_cons_zero → AH,setIfInBounds_toArray → AI,set_cons_zero → AJ,set_cons_succ → AK,getElem?_cons_succ → AL,length_append → AM
open Act renaming put → AN
open AllReadyH renaming cons → AO,nil → AP
open Value renaming slice → AQ,int → AR
open Go.RowKit
theorem zBq {w:World} {g:Nat} {ty:TypeId} {cs:List Value} (h:Blk w g ty cs):w.rangeAt g 0 cs:=fun j u hu=>by rw [Aa,h.cell j];exact hu
theorem nm_nil (w:World):NmAt w w.heap.size none 0 []:=⟨Ad,by simp,by simp,fun x h=>by cases h⟩
theorem two_new (w:World):Blk ((w.alloc (.cells z4.toArray 28)).alloc (.cells zAk.toArray 67)) (w.heap.size+1) 67 zAk:=by
 have:=Af (w.alloc (.cells z4.toArray 28)) 67 zAk;simpa using this
theorem two_box (w:World) (t:Tr) (cs:List Value):Blk ((((w.alloc (.cells z4.toArray 28)).alloc (.cells zAk.toArray 67)).setRow w.heap.size (zAa t).toArray).setRow (w.heap.size+1) cs.toArray) w.heap.size 28 (zAa t) ∧
 Blk ((((w.alloc (.cells z4.toArray 28)).alloc (.cells zAk.toArray 67)).setRow w.heap.size (zAa t).toArray).setRow (w.heap.size+1) cs.toArray) (w.heap.size+1) 67 cs ∧
 Below w.heap.size w ((((w.alloc (.cells z4.toArray 28)).alloc (.cells zAk.toArray 67)).setRow w.heap.size (zAa t).toArray).setRow (w.heap.size+1) cs.toArray):=by
 have h1:Blk ((w.alloc (.cells z4.toArray 28)).alloc (.cells zAk.toArray 67)) w.heap.size 28 z4:=(Af w 28 z4).alloc _;have h2:Blk (((w.alloc (.cells z4.toArray 28)).alloc (.cells zAk.toArray 67)).setRow w.heap.size (zAa t).toArray) w.heap.size 28 (zAa t):=Ah _ _ _ _ _ _ h1;refine⟨h2.row_far (by omega) _,Ah _ _ _ _ _ _ ((two_new w).row_far (by omega) _),?_⟩;exact (((((Ar (fun b=>w.heap.size≤b) w).alloc _).alloc _).setRow (fun _=>Ab _) _).setRow (fun _=>Nat.le_succ _) _).below nr fun b hb h=>by omega
theorem zId (S:Nat→Prop) (t:Tr) (T:PT) (op:Opn) (A:Option Addr) (c:Nat) (w:World) (h:RefS S w t T) (hS:∀ b,S b→b<w.heap.size) (hT:T.Inv)
 (hds:Sees w w.heap.size 1 A op.data.length (bvs op.data)) (gQ:op.data.length≤1000000000) :
 Calls At 32 #[.agg (zAa t).toArray,.agg (opC op A c).toArray] w (DoT S (T.run op) w):=by
 obtain⟨lk,gB⟩:=nM (T.run op);rw [gB];obtain⟨Q,hQ⟩:=nM (DoT S lk w);rw [hQ];obtain⟨g,hz⟩:=nM (w.heap.size);have fN:=hid (zBP h hz 4);have fY:=hid fun W (hb:Below g w W)=>(hds.below (hz.symm▸hb:Below w.heap.size w W)).more (hz.symm▸hb:Below w.heap.size w W).size;have gH:Hid (∀ b,S b→b<g):=hid (by rw [←hz];exact hS);have fW:=std_0 w t (opC op A c);rw [hz] at fW;have gR:=hid hT;have fP:=hid hQ;have fQ:=hid hz;unfold PT.run at gB;have hu:=hid gB.symm;have fH:=hid fun W=>rmay_any op A c W;clear gB hQ h hS hT hds;go_enter Tryz.func32,Tryz.ntmps32;go_upto_region 1 with (fail)
 try simp only [hz]
 change AA _ _ _ _ ((((w.alloc (.cells (zAa t).toArray 28)).alloc (.cells (opC op A c).toArray 70)).alloc (.cells z4.toArray 28)).alloc (.cells zAk.toArray 67));generalize (((w.alloc (.cells (zAa t).toArray 28)).alloc (.cells (opC op A c).toArray 70)).alloc (.cells z4.toArray 28)).alloc (.cells zAk.toArray 67)=w0 at *;clear hz
 cases fB:op.fine with
 | false =>
  have fI:Hid (lk=(T,.err 150)):=hid (by rw [hu.o,if_pos fB]);rw [fB] at fH
  go_wp2_with (first
   | (refine Aj rfl 70 _ rfl (g+1) rfl 70 (opC op A c).toArray _ _ fW.ob Au rfl rfl ?_)
   | (go_at_call 48;(with_reducible refine (fH.o w0).mono ?_);rintro eb w1 ⟨rfl,gC⟩;have fA:=fW.fresh gC)
   | (refine ldT fA.tb rfl rfl rfl ?_)
   | (refine stT t fA.rb rfl rfl rfl (by rfl) rfl ?_)
   | (refine stA 150 st0 zAj zAj (fA.ab.row_far (by omega) _) rfl rfl rfl (by rfl) rfl rfl rfl ?_))
  exact zA0 (k:=4) fA.rb fA.ab fP.o fI.o (fN.o _ fA.bl) (zAw _ _ 150 st0) rfl fA.bl fQ.o ⟨by omega,by omega⟩ ⟨by omega,by omega⟩ (by omega) rfl rfl rfl rfl
 | true =>
  rw [fB] at fH;have fI:=hu.o;rw [if_neg (by rw [fB];simp)] at fI
  go_upto_region 3 with (first
   | (refine Aj rfl 70 _ rfl (g+1) rfl 70 (opC op A c).toArray _ _ fW.ob Au rfl rfl ?_)
   | (go_at_call 48;(with_reducible refine (fH.o w0).mono ?_);rintro eb w1 ⟨rfl,gC⟩;have fA:=fW.fresh gC))
  obtain⟨o0,o1,o2,-,-,-,-,-⟩:=zDk fA.ob;have gI:=hid fA;have gS:=hid fB;clear fW gC fH hu fB;by_cases k12:op.kind=12
  · have fR:Hid (lk=(T,.err 0)):=hid (by
     rw [fI]
     have e1:op.code1=0:=by unfold AB;rw [if_pos (.inl k12)]
     have e2:op.code2=0:=by unfold AC;rw [if_neg (by omega)]
     rw [if_neg (by simp [e1]),if_neg (by simp [e2])];unfold PT.does;simp [k12,Ans.told,Ans.err])
    rw [k12] at o0
    go_wp2_with (first
     | (refine ldT fA.tb rfl rfl rfl ?_)
     | (refine stT t fA.rb rfl rfl rfl (by rfl) rfl ?_)
     | (refine stA 0 st0 zAj zAj (fA.ab.row_far (by omega) _) rfl rfl rfl (by rfl) rfl rfl rfl ?_))
    exact zA0 (k:=4) fA.rb fA.ab fP.o fR.o (fN.o _ fA.bl) (zAw _ _ 0 st0) rfl fA.bl fQ.o ⟨by omega,by omega⟩ ⟨by omega,by omega⟩ (by omega) rfl rfl rfl rfl
  by_cases k14:op.kind=14
  · have fR:Hid (lk=(T,.err 0)):=hid (by
     rw [fI]
     have e1:op.code1=0:=by unfold AB;rw [if_pos (.inr k14)]
     have e2:op.code2=0:=by unfold AC;rw [if_neg (by omega)]
     rw [if_neg (by simp [e1]),if_neg (by simp [e2])];unfold PT.does;simp [k14,Ans.told,Ans.err])
    rw [k14] at o0
    go_wp2_with (first
     | (refine ldT fA.tb rfl rfl rfl ?_)
     | (refine stT t fA.rb rfl rfl rfl (by rfl) rfl ?_)
     | (refine stA 0 st0 zAj zAj (fA.ab.row_far (by omega) _) rfl rfl rfl (by rfl) rfl rfl rfl ?_))
    exact zA0 (k:=4) fA.rb fA.ab fP.o fR.o (fN.o _ fA.bl) (zAw _ _ 0 st0) rfl fA.bl fQ.o ⟨by omega,by omega⟩ ⟨by omega,by omega⟩ (by omega) rfl rfl rfl rfl
  have t12:(op.kind==12)=false:=by simp;omega
  have t14:(op.kind==14)=false:=by simp;omega
  have gT:op.code1=(spl op.path).2:=by unfold AB;rw [if_neg (by omega)]
  have gU:op.from_=(spl op.path).1:=by unfold Opn.from_;rw [if_neg (by omega)]
  rw [gT,gU] at fI;have fE:=hid (zFD op.path w1);unfold RSpl at fE;have fJ:=hid (zE7 op.path);obtain⟨r1,gV⟩:=nM (spl op.path);rw [gV] at fE fI fJ;obtain⟨l1,e1⟩:=r1;simp only at fE fI fJ;have fR:=hid fI;clear fI gV gT gU;by_cases gW:e1=0;rotate_left
  · have jK:((e1:Int) != 0)=true:=by simp;omega
    have fX:Hid (lk=(T,.err e1)):=hid (by rw [fR.o,if_pos gW])
    go_wp2_with (first
     | (go_at_call 49;(with_reducible refine (fE.o).mono ?_);rintro eb w2 ⟨⟨A1,c1,rfl,gJ⟩,gD⟩;have fC:=fA.fresh gD;obtain⟨p0,p1,p2,-,-,-,-,-⟩:=zDk fC.ob)
     | (refine ldT fC.tb rfl rfl rfl ?_)
     | (refine stT t fC.rb rfl rfl rfl (by rfl) rfl ?_)
     | (refine stA e1 st0 zAj zAj (fC.ab.row_far (by omega) _) rfl rfl rfl (by rfl) rfl rfl rfl ?_))
    exact zA0 (k:=4) fC.rb fC.ab fP.o fX.o (fN.o _ fC.bl) (zAw _ _ e1 st0) rfl fC.bl fQ.o ⟨by omega,by omega⟩ ⟨by omega,by omega⟩ (by omega) rfl rfl rfl rfl
  subst gW;have fX:Hid (lk=if op.code2≠0 then (T,.err op.code2) else ((T.does op l1 op.to_).1,(T.does op l1 op.to_).2.told)):=hid (by rw [fR.o,if_neg (by simp)]);clear fR
  go_upto_region 9 with (first
   | (go_at_call 49;(with_reducible refine (fE.o).mono ?_);rintro eb w2 ⟨⟨A1,c1,rfl,gJ⟩,gD⟩;have fC:=fA.fresh gD;obtain⟨p0,p1,p2,-,-,-,-,-⟩:=zDk fC.ob))
  have fZ:=hid fun W (hb:Below w2.heap.size w2 W)=>gJ.fresh hb;have jL:=hid fC;clear fA gI gD gJ o0 o1 o2 fE;by_cases k36:op.kind=3∨op.kind=6
  case' neg =>
   have t3:(op.kind==3)=false:=by simp;omega
   have t6:(op.kind==6)=false:=by simp;omega
   have fK:Hid (lk=((T.does op l1 []).1,(T.does op l1 []).2.told)):=hid (by
    have e2:op.code2=0:=by unfold AC;rw [if_neg k36]
    have e3:op.to_=[]:=by unfold Opn.to_;rw [if_neg k36]
    rw [fX.o,e2,e3,if_neg (by simp)])
   clear fX;have fS:=hid (zHx (zAJ S g 4) t T op A c A1 c1 l1 none 0 [] w2 (fN.o w2 fC.bl) (zA8 (fun b hb=>by have:=gH.o b hb;have:=fC.le;omega) fC.le) gR.o gS.o k12 k14 (fY.o w2 fC.bl) gQ (fZ.o w2 br) fJ.o (nm_nil w2) (fun x h=>by cases h));obtain⟨r4,fL⟩:=nM (T.does op l1 []);rw [fL] at fS;obtain⟨T4,an⟩:=r4
   try simp only [AD] at fS
   have gK:Hid (lk=(T4,an.told)):=hid (by rw [fK.o,fL]);have fT:=hid fL;clear fL
   have fO:an.code≠0→T4=T:=fun h9=>by
    have h8:=zIH (T:=T) (o:=op) (l:=l1) (m:=[]);rw [fT.o] at h8;exact h8 h9
   have fD:=fC
  case' pos =>
   have gX:op.code2=(spl op.dst).2:=by unfold AC;rw [if_pos k36]
   have gY:op.to_=(spl op.dst).1:=by unfold Opn.to_;rw [if_pos k36]
   have fK:=fX.o;rw [gX,gY] at fK;have fF:=hid (zFD op.dst w2);unfold RSpl at fF;have fU:=hid (zE7 op.dst);obtain⟨r2,gZ⟩:=nM (spl op.dst);rw [gZ] at fF fK fU;obtain⟨l2,e2⟩:=r2;simp only at fF fK fU;have fV:=hid fK;clear fK fX gZ gX gY
   have t36:(op.kind==3)=true∨(op.kind==3)=false∧(op.kind==6)=true:=by rcases k36 with e | e<;>simp [e]
   by_cases jA:e2=0;rotate_left
   · have jK:((e2:Int) != 0)=true:=by simp;omega
     have gA:Hid (lk=(T,.err e2)):=hid (by rw [fV.o,if_pos jA]);rcases t36 with t3 | ⟨t3,t6⟩
     all_goals
      go_wp2_with (first
       | (go_at_call 49;(with_reducible refine (fF.o).mono ?_);rintro eb w3 ⟨⟨A2,c2,rfl,jB⟩,gE⟩;have fD:=fC.fresh gE)
       | (refine ldT fD.tb rfl rfl rfl ?_)
       | (refine stT t fD.rb rfl rfl rfl (by rfl) rfl ?_)
       | (refine stA e2 st0 zAj zAj (fD.ab.row_far (by omega) _) rfl rfl rfl (by rfl) rfl rfl rfl ?_))
      exact zA0 (k:=4) fD.rb fD.ab fP.o gA.o (fN.o _ fD.bl) (zAw _ _ e2 st0) rfl fD.bl fQ.o ⟨by omega,by omega⟩ ⟨by omega,by omega⟩ (by omega) rfl rfl rfl rfl
   subst jA;have fK:Hid (lk=((T.does op l1 l2).1,(T.does op l1 l2).2.told)):=hid (by rw [fV.o,if_neg (by simp)]);clear fV;rcases t36 with t3 | ⟨t3,t6⟩
   all_goals
    go_upto_region 13 with (first
     | (go_at_call 49;(with_reducible refine (fF.o).mono ?_);rintro eb w3 ⟨⟨A2,c2,rfl,jB⟩,gE⟩;have fD:=fC.fresh gE))
    have jM:=hid fD;clear fC fF;have fS:=hid (zHx (zAJ S g 4) t T op A c A1 c1 l1 A2 c2 l2 w3 (fN.o w3 fD.bl) (zA8 (fun b hb=>by have:=gH.o b hb;have:=fD.le;omega) fD.le) gR.o gS.o k12 k14 (fY.o w3 fD.bl) gQ (fZ.o w3 gE) fJ.o jB fU.o);obtain⟨r4,fL⟩:=nM (T.does op l1 l2);rw [fL] at fS;obtain⟨T4,an⟩:=r4
    try simp only [AD] at fS
    have gK:Hid (lk=(T4,an.told)):=hid (by rw [fK.o,fL]);have fT:=hid fL;clear fL
    have fO:an.code≠0→T4=T:=fun h9=>by
     have h8:=zIH (T:=T) (o:=op) (l:=l1) (m:=l2);rw [fT.o] at h8;exact h8 h9
  all_goals
   go_upto_region 14 with (first
    | (refine ldT fD.tb rfl rfl rfl ?_)
    | (refine Aj rfl 70 _ rfl (g+1) rfl 70 (opC op A c).toArray _ _ fD.ob Au rfl rfl ?_)
    | (go_at_call 50;(with_reducible refine (fS.o).mono ?_);rintro eb w4 ⟨⟨t4,v4,rfl,jC,jN⟩,jD⟩;obtain⟨dA,dc,eA,ec,rfl,jE,jF,jG,jH⟩:=jN)
    | (refine stT t4 ((Af w4 28 z4).alloc _) rfl rfl rfl (by rfl) rfl ?_)
    | (refine stA an.code an.stat (.slice dA an.data.length dc) (.slice eA an.ents.length ec) (Ag (two_new w4) (by omega) _) rfl rfl rfl (by rfl) rfl rfl rfl ?_))
   have gL:=fD.fresh jD;have gM:=gL.le;obtain⟨q1,q2,q3⟩:=two_box w4 t4 (zAq an.code an.stat (.slice dA an.data.length dc) (.slice eA an.ents.length ec));have jI:zD2 (zAJ S g 4) w4 (.agg (zAq an.code an.stat (.slice dA an.data.length dc) (.slice eA an.ents.length ec)).toArray) an:=⟨dA,dc,eA,ec,rfl,jE,jF,jG,jH⟩;have jO:=gL.fresh q3;have jP:=jC.fresh q3;have gN:=hid (jI.fresh q3);change AA _ _ _ _ ((((w4.alloc (.cells z4.toArray 28)).alloc (.cells zAk.toArray 67)).setRow w4.heap.size (zAa t4).toArray).setRow (w4.heap.size+1) (zAq an.code an.stat (.slice dA an.data.length dc) (.slice eA an.ents.length ec)).toArray);clear jD jE jF jG jH fS jC gL jI q3;generalize (((w4.alloc (.cells z4.toArray 28)).alloc (.cells zAk.toArray 67)).setRow w4.heap.size (zAa t4).toArray).setRow (w4.heap.size+1) (zAq an.code an.stat (.slice dA an.data.length dc) (.slice eA an.ents.length ec)).toArray=w5 at *;have gO:g+4≤w4.heap.size:=gM;generalize w4.heap.size=ub at *;have y0:=q2.cell 0;simp only [zAq,AE] at y0;have fM:=hid jO;have gP:=hid jP;have q1H:=hid q1;have q2H:=hid q2;have jQ:g+4≤ub:=gO
   have jR:∀ b,zAJ S g 4 b→b<g+4:=fun b hb=>by
    rcases hb with hb | hb
    · have:=gH.o b hb;omega
    · omega
   have gF:Below w5.heap.size w5 w5.drew:=zAd (Below.refl _ w5) 1;by_cases gG:an.code=0
   · have gA:Hid (lk=(T4,an)):=hid (by rw [gK.o];unfold Ans.told;rw [if_pos gG])
     have t1:((an.code:Int) != 0)=false:=by rw [gG];rfl
     go_upto_region 16 with (fail);have jJ:=hid fM.o.tb;refine Ak (S:=fun w'=>Blk w' ub 28 (zAa t4)∧Blk w' (ub+1) 67 (zAq an.code an.stat (.slice dA an.data.length dc) (.slice eA an.ents.length ec))) (by kernel_rfl) ⟨q1H.o,q2H.o⟩ fun hH=>?_;refine tk 0 (trV t4) rfl (Al (by rfl) 28 _ rfl ub 0 rfl (zAa t4) _ (fun _ h=>zBq h.1) Av rfl rfl) hH ?_
     try simp only [AN,AF,AG,AH,AI,AJ,AK]
     refine tk 1 (.agg (zAq an.code an.stat (.slice dA an.data.length dc) (.slice eA an.ents.length ec)).toArray) rfl (Al (by rfl) 67 _ rfl (ub+1) 0 rfl (zAq an.code an.stat (.slice dA an.data.length dc) (.slice eA an.ents.length ec)) _ (fun _ h=>zBq h.2) Aw rfl rfl) hH ?_
     try simp only [AN,AF,AG,AH,AI,AJ,AK]
     have fG:=fM.o.fresh gF;refine Am (rs:=[2]) (by kernel_rfl) (by simp) (AO rfl (fun K hK=>?_) AP);rw [if_pos (by rfl)];refine An 28 _ _ rfl (g+2) (zAa t4).toArray rfl rfl 28 _ fG.rb rfl rfl (zCm t4) ?_;refine hK.out _ _ ⟨Ag hH.1 (by omega) _,Ag hH.2 (by omega) _⟩ fun hH=>?_;clear hK K
     try simp only [AN,AF,AG,AH,AI,AJ,AK]
     refine Am (rs:=[3]) (by kernel_rfl) (by simp) (AO rfl (fun K hK=>?_) AP);rw [if_pos (by rfl)];refine An 67 _ _ rfl (g+3) (zAq an.code an.stat (.slice dA an.data.length dc) (.slice eA an.ents.length ec)).toArray rfl rfl 67 _ (fG.ab.row_far (by omega) _) rfl rfl (zEf _ _ _ _ _ _ _ _) ?_;refine hK.out _ _ ⟨Ag hH.1 (by omega) _,Ag hH.2 (by omega) _⟩ fun hH=>?_;clear hK K
     try simp only [AN,AF,AG,AH,AI,AJ,AK]
     refine Ao (by kernel_rfl) ?_ _;clear hH;go_wp2;exact zA0 (k:=4) fG.rb fG.ab fP.o gA.o (gP.o.fresh gF) (gN.o.fresh gF) rfl fG.bl fQ.o ⟨by omega,by omega⟩ ⟨by omega,by omega⟩ (by omega) rfl rfl rfl rfl
   · have gA:Hid (lk=(T,.err an.code)):=hid (by rw [gK.o,fO gG];unfold Ans.told;rw [if_neg gG])
     have t1:((an.code:Int) != 0)=true:=by simp;omega
     go_upto_region 15 with (fail);have jJ:=hid fM.o.tb;refine Ak (S:=fun w'=>Blk w' g 28 (zAa t)∧Blk w' (ub+1) 67 (zAq an.code an.stat (.slice dA an.data.length dc) (.slice eA an.ents.length ec))) (by kernel_rfl) ⟨jJ.o,q2H.o⟩ fun hH=>?_;refine tk 0 (trV t) rfl (Al (by rfl) 28 _ rfl g 0 rfl (zAa t) _ (fun _ h=>zBq h.1) Av rfl rfl) hH ?_
     try simp only [AN,AF,AG,AH,AI,AJ,AK]
     refine tk 1 (.pointer (some ⟨ub+1,0,none⟩)) rfl (.inl ⟨by rfl,fun _ _=>by go_simp⟩) hH ?_
     try simp only [AN,AF,AG,AH,AI,AJ,AK]
     refine tk 2 (.int .i64 (an.code:Int)) rfl (.inl ⟨by rfl,fun w' h=>by have h9:=h.2.cell 0;simp only [zAq,AE] at h9;go_simp⟩) hH ?_
     try simp only [AN,AF,AG,AH,AI,AJ,AK]
     refine tk 3 (.agg (zAq an.code st0 zAj zAj).toArray) rfl (.inl ⟨by rfl,fun _ _=>by go_simp;try rfl⟩) hH ?_
     try simp only [AN,AF,AG,AH,AI,AJ,AK]
     have fG:=fM.o.fresh gF;refine Am (rs:=[4]) (by kernel_rfl) (by simp) (AO rfl (fun K hK=>?_) AP);rw [if_pos (by rfl)];refine An 28 _ _ rfl (g+2) (zAa t).toArray rfl rfl 28 _ fG.rb rfl rfl (zCm t) ?_;refine hK.out _ _ ⟨Ag hH.1 (by omega) _,Ag hH.2 (by omega) _⟩ fun hH=>?_;clear hK K
     try simp only [AN,AF,AG,AH,AI,AJ,AK]
     refine Am (rs:=[5]) (by kernel_rfl) (by simp) (AO rfl (fun K hK=>?_) AP);rw [if_pos (by rfl)];refine An 67 _ _ rfl (g+3) (zAq an.code st0 zAj zAj).toArray rfl rfl 67 _ (fG.ab.row_far (by omega) _) rfl rfl (zE6 _ _) ?_;refine hK.out _ _ ⟨Ag hH.1 (by omega) _,Ag hH.2 (by omega) _⟩ fun hH=>?_;clear hK K
     try simp only [AN,AF,AG,AH,AI,AJ,AK]
     refine Ao (by kernel_rfl) ?_ _;clear hH;go_wp2;exact zA0 (k:=4) fG.rb fG.ab fP.o gA.o (fN.o _ fG.bl) (zAw _ _ an.code st0) rfl fG.bl fQ.o ⟨by omega,by omega⟩ ⟨by omega,by omega⟩ (by omega) rfl rfl rfl rfl
def AskU (S:Nat→Prop) (B:Nat) (v vi:Value) (T':PT) (an:Ans) (w:World) (e:Ending) (w':World):Prop :=
 ∃ t' va,e=.returned (.tuple #[va,.bool (decide (an.code=0))])∧zD2 S w' va an∧Blk w' B 94 (zDd t' v vi (an.code:Int))∧RefS S w' t' T'∧Chg (fun b=>b=B) w w'
theorem zEe {w:World} {B:Nat} {t:Tr} {v vi:Value} {c:Int} (h:Blk w B 94 (zDd t v vi c)):w.cell? ⟨B,0,none⟩=some (.int .i64 t.sectors)∧w.cell? ⟨B,1,none⟩=some (.int .i64 t.inodes)∧w.cell? ⟨B,2,none⟩=some (.int .i64 t.births)∧w.cell? ⟨B,3,none⟩=some (.slice t.A t.l.length t.c)∧w.cell? ⟨B,4,none⟩=some v∧w.cell? ⟨B,5,none⟩=some vi∧w.cell? ⟨B,6,none⟩=some (.int .i64 c) :=
 ⟨h.cell 0,h.cell 1,h.cell 2,h.cell 3,h.cell 4,h.cell 5,h.cell 6⟩
theorem blk_tf {w:World} {B:Nat} {t:Tr} {v vi:Value} {c:Int} (h:Blk w B 94 (zDd t v vi c)):w.frozen? ⟨B,0,none⟩=false∧w.frozen? ⟨B,1,none⟩=false∧w.frozen? ⟨B,2,none⟩=false∧w.frozen? ⟨B,3,none⟩=false :=
 ⟨h.frozen 0,h.frozen 1,h.frozen 2,h.frozen 3⟩
theorem tld_set {w:World} {B:Nat} {t:Tr} {v vi:Value} {c:Int} (h:Blk w B 94 (zDd t v vi c)) (t':Tr) :
 Blk ((((w.setCell ⟨B,0,none⟩ (.int .i64 t'.sectors)).setCell ⟨B,1,none⟩ (.int .i64 t'.inodes)).setCell ⟨B,2,none⟩ (.int .i64 t'.births)).setCell ⟨B,3,none⟩ (.slice t'.A t'.l.length t'.c)) B 94 (zDd t' v vi c) ∧
 Chg (fun b=>b=B) w ((((w.setCell ⟨B,0,none⟩ (.int .i64 t'.sectors)).setCell ⟨B,1,none⟩ (.int .i64 t'.inodes)).setCell ⟨B,2,none⟩ (.int .i64 t'.births)).setCell ⟨B,3,none⟩ (.slice t'.A t'.l.length t'.c)) :=
 ⟨(((h.set_ 0 (.int .i64 t'.sectors)).set_ 1 (.int .i64 t'.inodes)).set_ 2 (.int .i64 t'.births)).set_ 3 (.slice t'.A t'.l.length t'.c),
  ((((Ar (fun b=>b=B) w).setCell (p:=⟨B,0,none⟩) (fun _=>rfl) _).setCell (p:=⟨B,1,none⟩) (fun _=>rfl) _).setCell (p:=⟨B,2,none⟩) (fun _=>rfl) _).setCell (p:=⟨B,3,none⟩) (fun _=>rfl) _⟩
theorem tld_range {w:World} {B:Nat} {t:Tr} {v vi:Value} {c:Int} (h:Blk w B 94 (zDd t v vi c)):w.rangeAt B 0 (zAa t):=fun j u hu=>by
 have hj:j<4:=(List.getElem?_eq_some_iff.1 hu).1;rw [Aa,h.cell j]
 have:j=0∨j=1∨j=2∨j=3:=by omega
 rcases this with rfl | rfl | rfl | rfl<;>exact hu
theorem zGC (S:Nat→Prop) (B:Nat) (v vi:Value) (t:Tr) (T T':PT) (op:Opn) (an:Ans) (A:Option Addr) (c:Nat) (w:World) (hr:T.run op=(T',an)) (hk:Blk w B 94 (zDd t v vi 0)) (h:RefS S w t T) (hS:∀ b,S b→b<w.heap.size) (fF:S B) (hT:T.Inv)
 (hds:Sees w w.heap.size 1 A op.data.length (bvs op.data)) (gO:op.data.length≤1000000000) :
 Calls At 54 #[.pointer (some ⟨B,0,none⟩),.agg (opC op A c).toArray] w (AskU S B v vi T' an w):=by
 obtain⟨Q,hQ⟩:=nM (AskU S B v vi T' an w);rw [hQ];have gA:=hid hQ;obtain⟨g,hz⟩:=nM (w.heap.size);have fR:=(Af w 70 (opC op A c)).alloc (.cells zAk.toArray 67);have fG:=Af (w.alloc (.cells (opC op A c).toArray 70)) 67 zAk;have fB:Below w.heap.size w ((w.alloc (.cells (opC op A c).toArray 70)).alloc (.cells zAk.toArray 67)):=(br.alloc nr _).alloc (by simp) _;rw [show (w.alloc (.cells (opC op A c).toArray 70)).heap.size=w.heap.size+1 by simp] at fG;have gB:=hk.fresh fB;have fS:=(h.addR 2 (Ab w.heap.size)).fresh fB;have gC:=(hds.below fB).more fB.size
 have fT:∀ b,zAJ S g 2 b→b<((w.alloc (.cells (opC op A c).toArray 70)).alloc (.cells zAk.toArray 67)).heap.size:=fun b hb=>by
  have hl:=fG.lt;rcases hb with e | e
  · have:=hS b e;have:=fB.size;omega
  · omega
 rw [hz] at fR fG fB fS
 have gW:B<g:=by rw [←hz];exact hS B fF
 have fU:=hid hz;clear hQ hk h hds;go_enter Tryz.func54,Tryz.ntmps54;go_upto_region 1 with (fail)
 try simp only [hz]
 change AA _ _ _ _ ((w.alloc (.cells (opC op A c).toArray 70)).alloc (.cells zAk.toArray 67));generalize (w.alloc (.cells (opC op A c).toArray 70)).alloc (.cells zAk.toArray 67)=w0 at *;clear hz
 have gD:Hid (∀ W,Below w0.heap.size w0 W→Calls At 32 #[.agg (zAa t).toArray,.agg (opC op A c).toArray] W (DoT (SW (zAJ S g 2) w0 W) (T',an) W)):=hid fun W hb=>by
  have h9:=zId (SW (zAJ S g 2) w0 W) t T op A c W (sw_ref fS hb) (sw_lt fT hb) hT ((gC.below hb).more hb.size) gO;rw [hr] at h9;exact h9
 have fH:=hid fR;have fI:=hid gB;have fJ:=hid fG;have fK:=hid fB;have gP:=hid fT;clear hr hT gC fS fR gB fG fB fT
 go_cut [6,7] from 8 to 16 (fun c6 c7 wx=>PairQ w0 (zAJ S g 2) T' an c6 c7 wx)
 case first =>
  refine Ak (S:=fun w'=>Below w0.heap.size w0 w') (by kernel_rfl) (zAd br 1) fun hH=>?_;refine tk 0 (.pointer (some ⟨B,0,none⟩)) rfl (.inl ⟨by rfl,fun _ _=>by go_simp⟩) hH ?_
  (try simp only [AN,AF,AG,AH,AI,AJ,AK])
  refine tk 1 (.pointer (some ⟨B,0,none⟩)) rfl (.inl ⟨by rfl,fun _ _=>by go_simp⟩) hH ?_
  (try simp only [AN,AF,AG,AH,AI,AJ,AK])
  refine tk 2 (.pointer (some ⟨B,0,none⟩)) rfl (.inl ⟨by rfl,fun _ _=>by go_simp⟩) hH ?_
  (try simp only [AN,AF,AG,AH,AI,AJ,AK])
  refine tk 3 (.agg (zAa t).toArray) rfl (Al (by rfl) 28 _ rfl B 0 rfl (zAa t) _ (fun _ h=>tld_range (fI.o.fresh h)) Av rfl rfl) hH ?_
  (try simp only [AN,AF,AG,AH,AI,AJ,AK])
  refine tk 4 (.agg (opC op A c).toArray) rfl (Al (by rfl) 70 _ rfl g 0 rfl (opC op A c) _ (fun _ h=>zBq (fH.o.fresh h)) Au rfl rfl) hH ?_
  (try simp only [AN,AF,AG,AH,AI,AJ,AK])
  have bq:Below w0.heap.size w0 w0.drew:=hH;generalize w0.drew=wq at *;clear hH
  iterate 3
   all_goals first
    | refine Am (rs:=[5,9,10]) (by decide +kernel) (by simp) (AO rfl (fun K hK=>?_) (AO rfl (fun K hK=>?_) (AO rfl (fun K hK=>?_) AP)))
    | refine Am (rs:=[9,10]) (by decide +kernel) (by simp) (AO rfl (fun K hK=>?_) (AO rfl (fun K hK=>?_) AP))
    | refine Am (rs:=[5,10]) (by decide +kernel) (by simp) (AO rfl (fun K hK=>?_) (AO rfl (fun K hK=>?_) AP))
    | refine Am (rs:=[5,9]) (by decide +kernel) (by simp) (AO rfl (fun K hK=>?_) (AO rfl (fun K hK=>?_) AP))
    | refine Am (rs:=[5]) (by decide +kernel) (by simp) (AO rfl (fun K hK=>?_) AP)
    | refine Am (rs:=[9]) (by decide +kernel) (by simp) (AO rfl (fun K hK=>?_) AP)
    | refine Am (rs:=[10]) (by decide +kernel) (by simp) (AO rfl (fun K hK=>?_) AP)
   all_goals
    rw [if_pos (by rfl)]
    go_simp
    first
     | (go_at_call 32;generalize wq=wW at *;(with_reducible refine (gD.o wW bq).mono ?_);rintro e w1 ⟨⟨t4,v4,rfl,gQ,dA,dc,eA,ec,rfl,y1,y2,y3,y4⟩,fO⟩;have gR:zD2 _ w1 _ an:=⟨dA,dc,eA,ec,rfl,y1,y2,y3,y4⟩;clear y1 y2 y3 y4;have bW:=hid bq;(first | have cT:=hid (Or.inl (b:=w1.heap.size≤ub) kT.lt) | skip);(first | have cA:=hid (Or.inl (b:=w1.heap.size≤ua) kA.lt) | skip);have bq:=bq.trans (fO.mono bq.size);(try go_simp);refine hK.out _ _ bq fun hH=>?_;clear hK K hH;(try simp only [AN,AF,AG,AH,AI,AJ,AK]);refine tk 6 (.tuple #[trV t4,.agg (zAq an.code an.stat (.slice dA an.data.length dc) (.slice eA an.ents.length ec)).toArray]) rfl (.inl ⟨by rfl,fun _ _=>rfl⟩) bq ?_;(try simp only [AN,AF,AG,AH,AI,AJ,AK]);refine tk 7 (trV t4) rfl (.inl ⟨by rfl,fun _ _=>rfl⟩) bq ?_;(try simp only [AN,AF,AG,AH,AI,AJ,AK]);refine tk 8 (.agg (zAq an.code an.stat (.slice dA an.data.length dc) (.slice eA an.ents.length ec)).toArray) rfl (.inl ⟨by rfl,fun _ _=>rfl⟩) bq ?_;(try simp only [AN,AF,AG,AH,AI,AJ,AK]);obtain⟨wq,hq⟩:∃ wq,wq=w1:=⟨_,rfl⟩;have bx:Below w1.heap.size w1 wq:=(by rw [hq];exact Below.refl _ _);(first | have kT:=kT.fresh fO | skip);(first | have kA:=kA.fresh fO | skip);(first | rw [←hq] at kT | skip);(first | rw [←hq] at kA | skip);rw [←hq] at bq;rw [←hq];clear hq)
     | (have kT:=Af wq 28 z4;have gE:=hid bq.size;(first | have cT:=hid (show wq.heap.size<wW.heap.size∨_ from Or.inr bx.size) | skip);(first | have fV:=hid (Nat.ne_of_gt kA.lt) | skip);(first | have kA:=kA.alloc (.cells z4.toArray 28) | skip);(first | have bx:=bx.alloc bx.size (.cells z4.toArray 28) | skip);have bq:=bq.alloc bq.size (.cells z4.toArray 28);refine hK.out _ _ bq fun hH=>?_;clear hK K hH;(try simp only [AN,AF,AG,AH,AI,AJ,AK]);change wpAnyH _ _ _ _ _ _ _ _ (wq.alloc (.cells z4.toArray 28));generalize wq.heap.size=ub at *;generalize wq.alloc (.cells z4.toArray 28)=wq at *)
     | (have kA:=Af wq 67 zAk;have gF:=hid bq.size;(first | have cA:=hid (show wq.heap.size<wW.heap.size∨_ from Or.inr bx.size) | skip);(first | have fV:=hid (Nat.ne_of_lt kT.lt) | skip);(first | have kT:=kT.alloc (.cells zAk.toArray 67) | skip);(first | have bx:=bx.alloc bx.size (.cells zAk.toArray 67) | skip);have bq:=bq.alloc bq.size (.cells zAk.toArray 67);refine hK.out _ _ bq fun hH=>?_;clear hK K hH;(try simp only [AN,AF,AG,AH,AI,AJ,AK]);change wpAnyH _ _ _ _ _ _ _ _ (wq.alloc (.cells zAk.toArray 67));generalize wq.heap.size=ua at *;generalize wq.alloc (.cells zAk.toArray 67)=wq at *)
  all_goals
   have fW:=hid (zF8 gQ gR bW.o fO bx kT kA fV.o ⟨gE.o,cT.o⟩ ⟨gF.o,cA.o⟩);have gG:=((Ar (fun b=>w0.heap.size≤b) wq).setRow (g:=ub) (fun _=>gE.o) (zAa t4).toArray);refine Am (rs:=[11]) (by decide +kernel) (by simp) (AO rfl (fun K hK=>?_) AP);rw [if_pos (by rfl)];refine An 28 _ _ rfl ub (zAa t4).toArray rfl rfl 28 _ kT rfl rfl (zCm t4) ?_;refine hK.out _ _ (bq.trans (gG.below bq.size fun b hb e=>by omega)) fun hH=>?_;clear hK K hH
   (try simp only [AN,AF,AG,AH,AI,AJ,AK])
   refine Am (rs:=[12]) (by decide +kernel) (by simp) (AO rfl (fun K hK=>?_) AP);rw [if_pos (by rfl)];refine An 67 _ _ rfl ua (zAq an.code an.stat (.slice dA an.data.length dc) (.slice eA an.ents.length ec)).toArray rfl rfl 67 _ (kA.row_far (fun e=>fV.o e.symm) _) rfl rfl (zEf _ _ _ _ _ _ _ _) ?_;refine hK.out _ _ (bq.trans ((gG.setRow (g:=ua) (fun _=>gF.o) _).below bq.size fun b hb e=>by omega)) fun hH=>?_;clear hK K hH
   (try simp only [AN,AF,AG,AH,AI,AJ,AK])
   refine Ao (by kernel_rfl) ?_ _;go_wp2;go_meet;exact fW.o
 case rest =>
  obtain⟨ub,ua,t6,dA,dc,eA,ec,rfl,rfl,hU,hV,gH,gI,fP,gX,gY⟩:=hcut;have fQ:=fI.o.fresh fP;have gJ:=fJ.o.fresh fP;have gZ:g+1<w0.heap.size:=fJ.o.lt;obtain⟨u0,u1,u2,u3⟩:=zAp hU;obtain⟨y0,y1,y2,y3,-,-,-⟩:=zEe fQ;obtain⟨f0,f1,f2,f3⟩:=blk_tf fQ;obtain⟨k1,k2⟩:=tld_set fQ t6;have fX:=hid (gJ.chg k2 (by omega));have fY:=hV.chg k2 (by omega);have gK:=hid (gH.chg (k2.mono fun b _ (e:b=B)=>.inl (e▸fF)));have gL:=hid (gI.chg (k2.mono fun b _ (e:b=B)=>.inl (e▸fF)));have gM:=hid ((As (w:=w) (S:=fun b=>b=B) (by rw [fU.o];exact fK.o.trans (fP.mono (by omega)))).trans k2 (fun _ _ h=>h) (fun _ _ h=>h));have fZ:=k1;clear hU hV gH gI k1 k2 fQ gJ fP;go_upto_region 3 with (fail);change AA _ _ _ _ ((((wc.setCell ⟨B,0,none⟩ (.int .i64 t6.sectors)).setCell ⟨B,1,none⟩ (.int .i64 t6.inodes)).setCell ⟨B,2,none⟩ (.int .i64 t6.births)).setCell ⟨B,3,none⟩ (.slice t6.A t6.l.length t6.c));generalize (((wc.setCell ⟨B,0,none⟩ (.int .i64 t6.sectors)).setCell ⟨B,1,none⟩ (.int .i64 t6.inodes)).setCell ⟨B,2,none⟩ (.int .i64 t6.births)).setCell ⟨B,3,none⟩ (.slice t6.A t6.l.length t6.c)=w7 at *;have fC:=hid fZ;have fL:=hid fY;obtain⟨-,-,-,-,-,-,y6⟩:=zEe fZ;have v0:w7.cell? ⟨ua,0,none⟩=some (.int .i64 (an.code:Int)):=fY.cell 0;clear u0 u1 u2 u3 y0 y1 y2 y3 f0 f1 f2 f3 fZ fY gD fH fK;by_cases fM:an.code=0
  · have t1:((an.code:Int) != 0)=false:=by rw [fM];rfl
    go_upto_region 5 with (fail);clear y6 v0;have fN:=hid (show Blk w7 B 94 (zDd t6 v vi (an.code:Int)) from by rw [fM];exact fC.o);refine Ak (S:=fun w'=>Blk w' B 94 (zDd t6 v vi (an.code:Int))∧Blk w' ua 67 (zAq an.code an.stat (.slice dA an.data.length dc) (.slice eA an.ents.length ec))) (by kernel_rfl) ⟨fN.o,fL.o⟩ fun hH=>?_;refine tk 0 (.agg (zAq an.code an.stat (.slice dA an.data.length dc) (.slice eA an.ents.length ec)).toArray) rfl (Al (by rfl) 67 _ rfl ua 0 rfl (zAq an.code an.stat (.slice dA an.data.length dc) (.slice eA an.ents.length ec)) _ (fun _ h=>zBq h.2) Aw rfl rfl) hH ?_
    (try simp only [AN,AF,AG,AH,AI,AJ,AK])
    refine tk 1 (.pointer (some ⟨B,0,none⟩)) rfl (.inl ⟨by rfl,fun _ _=>by go_simp⟩) hH ?_
    (try simp only [AN,AF,AG,AH,AI,AJ,AK])
    refine tk 2 (.pointer (some ⟨B,0,none⟩)) rfl (.inl ⟨by rfl,fun _ _=>by go_simp⟩) hH ?_
    (try simp only [AN,AF,AG,AH,AI,AJ,AK])
    refine tk 3 (.pointer (some ⟨B,6,none⟩)) rfl (.inl ⟨by rfl,fun _ _=>by go_simp⟩) hH ?_
    (try simp only [AN,AF,AG,AH,AI,AJ,AK])
    refine tk 4 (.int .i64 (an.code:Int)) rfl (.inl ⟨by rfl,fun w' h=>by have h9:=h.1.cell 6;simp only [zDd,AL,AE] at h9;go_simp⟩) hH ?_
    (try simp only [AN,AF,AG,AH,AI,AJ,AK])
    have t2:((an.code:Int)==0)=true:=by rw [fM];rfl
    refine tk 5 (.bool true) rfl (.inl ⟨by rfl,fun _ _=>by go_simp⟩) hH ?_
    (try simp only [AN,AF,AG,AH,AI,AJ,AK])
    refine Am (rs:=[6]) (by kernel_rfl) (by simp) (AO rfl (fun K hK=>?_) AP);rw [if_pos (by rfl)];refine An 67 _ _ rfl (g+1) (zAq an.code an.stat (.slice dA an.data.length dc) (.slice eA an.ents.length ec)).toArray rfl rfl 67 _ fX.o rfl rfl (zEf _ _ _ _ _ _ _ _) ?_;refine hK.out _ _ ⟨Ag hH.1 (by omega) _,Ag hH.2 (by omega) _⟩ fun hH=>?_;clear hK K
    (try simp only [AN,AF,AG,AH,AI,AJ,AK])
    refine tk 7 (.bool true) rfl (.inl ⟨by rfl,fun _ _=>by go_simp⟩) hH ?_
    (try simp only [AN,AF,AG,AH,AI,AJ,AK])
    refine Ao (by kernel_rfl) ?_ _;clear hH;go_wp2;have fA:Chg (fun b=>b=g+1) w7 (w7.drew.setRow (g+1) (zAq an.code an.stat (.slice dA an.data.length dc) (.slice eA an.ents.length ec)).toArray):=((Ar (fun b=>b=g+1) w7).drew).setRow (fun _=>rfl) _;have fD:Blk (w7.drew.setRow (g+1) (zAq an.code an.stat (.slice dA an.data.length dc) (.slice eA an.ents.length ec)).toArray) (g+1) 67 (zAq an.code an.stat (.slice dA an.data.length dc) (.slice eA an.ents.length ec)):=Ah w7.drew (g+1) _ _ _ _ fX.o;refine Ap (zAz rfl _ _ (g+1) 67 (zAq an.code an.stat (.slice dA an.data.length dc) (.slice eA an.ents.length ec)).toArray (0,0) _ rfl fD Aw rfl (by kernel_rfl)) rfl ?_;rw [←gA.o];refine⟨t6,_,by rw [decide_eq_true fM];rfl,(gL.o.chg (fA.mono fun b _ (e:b=g+1)=>.inr (by omega))).mono fun _ h=>.inl h,fN.o.chg fA (by omega),(gK.o.chg (fA.mono fun b _ (e:b=g+1)=>.inr (by omega))).mono fun _ h=>.inl h,gM.o.trans fA (fun _ _ h=>h) fun b hb (e:b=g+1)=>by have:=fU.o;omega⟩
  · have t1:((an.code:Int) != 0)=true:=by simp;omega
    have f6:=fC.o.frozen 6;go_upto_region 5 with (fail);change AA _ _ _ _ (w7.setCell ⟨B,6,none⟩ (.int .i64 (an.code:Int)));have fE:Chg (fun b=>b=B) w7 (w7.setCell ⟨B,6,none⟩ (.int .i64 (an.code:Int))):=(Ar (fun b=>b=B) w7).setCell (p:=⟨B,6,none⟩) (fun _=>rfl) _;have fN:=hid (show Blk _ B 94 (zDd t6 v vi (an.code:Int)) from fC.o.set_ 6 (.int .i64 (an.code:Int)));have gS:=hid (fL.o.chg fE (by omega));have gN:=hid (fX.o.chg fE (by omega));have gT:=hid (gK.o.chg (fE.mono fun b _ (e:b=B)=>.inl (e▸fF)));have gU:=hid (gL.o.chg (fE.mono fun b _ (e:b=B)=>.inl (e▸fF)));have gV:=hid (gM.o.trans fE (fun _ _ h=>h) (fun _ _ h=>h));clear y6 v0 fE f6;generalize w7.setCell ⟨B,6,none⟩ (.int .i64 (an.code:Int))=w8 at *;refine Ak (S:=fun w'=>Blk w' B 94 (zDd t6 v vi (an.code:Int))∧Blk w' ua 67 (zAq an.code an.stat (.slice dA an.data.length dc) (.slice eA an.ents.length ec))) (by kernel_rfl) ⟨fN.o,gS.o⟩ fun hH=>?_;refine tk 0 (.agg (zAq an.code an.stat (.slice dA an.data.length dc) (.slice eA an.ents.length ec)).toArray) rfl (Al (by rfl) 67 _ rfl ua 0 rfl (zAq an.code an.stat (.slice dA an.data.length dc) (.slice eA an.ents.length ec)) _ (fun _ h=>zBq h.2) Aw rfl rfl) hH ?_
    (try simp only [AN,AF,AG,AH,AI,AJ,AK])
    refine tk 1 (.pointer (some ⟨B,0,none⟩)) rfl (.inl ⟨by rfl,fun _ _=>by go_simp⟩) hH ?_
    (try simp only [AN,AF,AG,AH,AI,AJ,AK])
    refine tk 2 (.pointer (some ⟨B,0,none⟩)) rfl (.inl ⟨by rfl,fun _ _=>by go_simp⟩) hH ?_
    (try simp only [AN,AF,AG,AH,AI,AJ,AK])
    refine tk 3 (.pointer (some ⟨B,6,none⟩)) rfl (.inl ⟨by rfl,fun _ _=>by go_simp⟩) hH ?_
    (try simp only [AN,AF,AG,AH,AI,AJ,AK])
    refine tk 4 (.int .i64 (an.code:Int)) rfl (.inl ⟨by rfl,fun w' h=>by have h9:=h.1.cell 6;simp only [zDd,AL,AE] at h9;go_simp⟩) hH ?_
    (try simp only [AN,AF,AG,AH,AI,AJ,AK])
    have t2:((an.code:Int)==0)=false:=by simp;omega
    refine tk 5 (.bool false) rfl (.inl ⟨by rfl,fun _ _=>by go_simp⟩) hH ?_
    (try simp only [AN,AF,AG,AH,AI,AJ,AK])
    refine Am (rs:=[6]) (by kernel_rfl) (by simp) (AO rfl (fun K hK=>?_) AP);rw [if_pos (by rfl)];refine An 67 _ _ rfl (g+1) (zAq an.code an.stat (.slice dA an.data.length dc) (.slice eA an.ents.length ec)).toArray rfl rfl 67 _ gN.o rfl rfl (zEf _ _ _ _ _ _ _ _) ?_;refine hK.out _ _ ⟨Ag hH.1 (by omega) _,Ag hH.2 (by omega) _⟩ fun hH=>?_;clear hK K
    (try simp only [AN,AF,AG,AH,AI,AJ,AK])
    refine tk 7 (.bool false) rfl (.inl ⟨by rfl,fun _ _=>by go_simp⟩) hH ?_
    (try simp only [AN,AF,AG,AH,AI,AJ,AK])
    refine Ao (by kernel_rfl) ?_ _;clear hH;go_wp2;have fA:Chg (fun b=>b=g+1) w8 (w8.drew.setRow (g+1) (zAq an.code an.stat (.slice dA an.data.length dc) (.slice eA an.ents.length ec)).toArray):=((Ar (fun b=>b=g+1) w8).drew).setRow (fun _=>rfl) _;have fD:Blk (w8.drew.setRow (g+1) (zAq an.code an.stat (.slice dA an.data.length dc) (.slice eA an.ents.length ec)).toArray) (g+1) 67 (zAq an.code an.stat (.slice dA an.data.length dc) (.slice eA an.ents.length ec)):=Ah w8.drew (g+1) _ _ _ _ gN.o;refine Ap (zAz rfl _ _ (g+1) 67 (zAq an.code an.stat (.slice dA an.data.length dc) (.slice eA an.ents.length ec)).toArray (0,0) _ rfl fD Aw rfl (by kernel_rfl)) rfl ?_;rw [←gA.o];refine⟨t6,_,by rw [decide_eq_false fM];rfl,(gU.o.chg (fA.mono fun b _ (e:b=g+1)=>.inr (by omega))).mono fun _ h=>.inl h,fN.o.chg fA (by omega),(gT.o.chg (fA.mono fun b _ (e:b=g+1)=>.inr (by omega))).mono fun _ h=>.inl h,gV.o.trans fA (fun _ _ h=>h) fun b hb (e:b=g+1)=>by have:=fU.o;omega⟩
theorem run_quest {T:PT} {o:Opn} (h:o.kind=9∨o.kind=10∨o.kind=11):(T.run o).1=T:=by
 have key:∀ (c:Prop) [Decidable c] (a b:PT×Ans),a.1=T→b.1=T→(if c then a else b).1=T:=fun c _ a b h1 h2=>by split<;>assumption
 unfold PT.run;refine key _ _ _ rfl (key _ _ _ rfl (key _ _ _ rfl ?_))
 show (T.does o _ _).1=T
 unfold PT.does;rw [if_neg (by omega),if_neg (by omega),if_neg (by omega),if_neg (by omega),if_neg (by omega),if_neg (by omega),if_neg (by omega)];refine key _ _ _ rfl ?_;unfold PT.asks;rcases h with h | h | h
 · rw [if_neg (by omega),if_neg (by omega)];refine key _ _ _ rfl ?_;rw [if_neg (by omega),if_neg (by omega),if_pos h]
 · rw [if_pos h]
 · rw [if_neg (by omega),if_pos h]
theorem run_q {T:PT} {o:Opn} (h:o.kind=9∨o.kind=10∨o.kind=11) {an:Ans} (ha:(T.run o).2=an):T.run o=(T,an):=Prod.ext (run_quest h) ha
theorem uask_L (S:Nat→Prop) (B:Nat) (v vi:Value) (t:Tr) (T:PT) (x:ByteArray) (an:Ans) (w:World) (ha:(T.run (opL x)).2=an) (hk:Blk w B 94 (zDd t v vi 0)) (h:RefS S w t T) (hS:∀ b,S b→b<w.heap.size) (fA:S B) (hT:T.Inv) :
 Calls At 54 #[.pointer (some ⟨B,0,none⟩),.agg #[.int .i64 11,.string x,.string ⟨#[]⟩,.int .i64 0,.int .i64 0,.slice none 0 0,.int .i64 0,.int .i64 0]] w (AskU S B v vi T an w) :=
 zGC S B v vi t T T (opL x) an none 0 w (run_q (.inr (.inr rfl)) ha) hk h hS fA hT Ad (Ac _)
theorem uask_S (S:Nat→Prop) (B:Nat) (v vi:Value) (t:Tr) (T:PT) (x:ByteArray) (an:Ans) (w:World) (ha:(T.run (opS x)).2=an) (hk:Blk w B 94 (zDd t v vi 0)) (h:RefS S w t T) (hS:∀ b,S b→b<w.heap.size) (fA:S B) (hT:T.Inv) :
 Calls At 54 #[.pointer (some ⟨B,0,none⟩),.agg #[.int .i64 10,.string x,.string ⟨#[]⟩,.int .i64 0,.int .i64 0,.slice none 0 0,.int .i64 0,.int .i64 0]] w (AskU S B v vi T an w) :=
 zGC S B v vi t T T (opS x) an none 0 w (run_q (.inr (.inl rfl)) ha) hk h hS fA hT Ad (Ac _)
theorem uask_R (S:Nat→Prop) (B:Nat) (v vi:Value) (t:Tr) (T:PT) (x:ByteArray) (k m:Int) (an:Ans) (w:World) (ha:(T.run (opR x k m)).2=an) (hk:Blk w B 94 (zDd t v vi 0)) (h:RefS S w t T) (hS:∀ b,S b→b<w.heap.size) (fA:S B) (hT:T.Inv) :
 Calls At 54 #[.pointer (some ⟨B,0,none⟩),.agg #[.int .i64 9,.string x,.string ⟨#[]⟩,.int .i64 k,.int .i64 m,.slice none 0 0,.int .i64 0,.int .i64 0]] w (AskU S B v vi T an w) :=
 zGC S B v vi t T T (opR x k m) an none 0 w (run_q (.inl rfl) ha) hk h hS fA hT Ad (Ac _)
theorem zDi {w:World} {g:Nat} {a b c d e:Value} (h:Blk w g 75 [a,b,c,d,e]):w.cell? ⟨g,0,none⟩=some a∧w.cell? ⟨g,1,none⟩=some b∧w.cell? ⟨g,2,none⟩=some c∧w.cell? ⟨g,3,none⟩=some d∧w.cell? ⟨g,4,none⟩=some e:=⟨h.cell 0,h.cell 1,h.cell 2,h.cell 3,h.cell 4⟩
def Push1 (w0 wa:World) (B:Nat) (T:PT) (v vi:Value) (l:List Nd) (js:List Nat) (x:Nd) (wx:World):Prop :=
 ∃ A9 c9,TldW w0 wx B T (.slice A9 (l.length+1) c9) vi (l++[x]) js∧GrU B wa v vi wx (.slice A9 (l.length+1) c9) vi
def Push2 (w0 wa:World) (B:Nat) (T:PT) (v vi:Value) (l:List Nd) (js:List Nat) (j:Nat) (wx:World):Prop :=
 ∃ v2,TldW w0 wx B T v v2 l (js++[j])∧GrU B wa v vi wx v v2
def FilQ (w0 w:World) (B q:Nat) (T:PT) (v vi:Value) (l:List Nd) (js:List Nat) (x fs:ByteArray) (made:Int) (d:List UInt8) (sc:List Value) (wx:World):Prop :=
 ∃ A5 c5,Blk wx q 75 [.string x,.int .i64 1,.int .i64 made,.string fs,.slice A5 d.length c5]∧wx.ownsRow q 5 1 (.slice A5 d.length c5) d.length (bvs d)∧TldW w0 wx B T v vi l js∧Chg (fun b=>b=B) w wx∧Blk wx (q+1) 63 sc
def FilI (w2:World) (B q:Nat) (T:PT) (v vi:Value) (x:ByteArray) (made:Int) (d:Dat) (size:Nat) (wr:World):Prop :=
 ∃ k A5 c5 t,k≤size∧wr.ownsRow w2.heap.size 5 1 (.slice A5 k c5) k (bvs (rdL d 0 k))∧Blk wr q 75 [.string x,.int .i64 1,.int .i64 made,.string ⟨#[]⟩,.slice A5 k c5]∧Blk wr B 94 (zDd t v vi 0) ∧
  RefS (fun b=>TS B v vi b∨b=q∨(AQ A5 k c5).ownBlock=some b) wr t T∧Chg (fun b=>b=B∨b=q) w2 wr
def dLen (w:World) (q:Nat):Nat:=slLen ((w.cell? ⟨q,4,none⟩).getD undef)
theorem ufile_any (w0:World) (B:Nat) (T:PT) (v vi:Value) (l:List Nd) (js:List Nat) (s:DS) (w:World) (hI:T.Inv) (ns:List ByteArray) (j:Nat) (n:PN) (hw:T.walk ns 1=(j,0)) (hg:zAe j T.nodes=some n) (hd:n.dir=false) (hc:∀ x∈ns,chk x=true) (kZ:(pth ns).size≤400)
 (hD:TldAt w0 w B T v vi l js s) (jR:l.length≤1000000) :
 Calls At 56 #[.pointer (some ⟨B,0,none⟩),.agg #[.string (pth ns),.int .i64 1,.int .i64 (n.made:Int),.string ⟨#[]⟩,.slice none 0 0],.agg #[.int .i64 (j:Int),.int .i64 n.kind,.int .i64 n.links,.int .i64 (n.size:Int),.int .i64 n.made,.int .i64 n.count]] w (TldP w0 B T v vi w (T.step s (ns,j),0)):=by
 obtain⟨Q,hQ⟩:=nM (TldP w0 B T v vi w (T.step s (ns,j),0));rw [hQ];have mG:=hid hQ;obtain⟨A8,c8,mH,-⟩:=Ae (B:=w.heap.size) hD.mem.own.row fun g hg=>(hD.mem.own.row.lt g hg).2;subst mH;obtain⟨Ai,ci,mI,lA⟩:=Ae (B:=w.heap.size) hD.mem.ino fun g hg=>(hD.mem.ino.lt g hg).2;subst mI;obtain⟨A8',c8',jS,lB⟩:=hD.mem.own.nodes;injection jS with e1 _ e2;subst e1 e2;have lC:=zFj hc kZ
 have fO:T.isDir j=false:=by rw [zAm hg];exact hd
 have mJ:=(hI.gr.ok.get hg).1.size;obtain⟨x,hx⟩:=nM (pth ns);rw [hx] at lC kZ ⊢;have jT:=hD.fst.get fO;obtain⟨fs,fA⟩:=nM ((zAe j s.first).getD emp);rw [fA] at jT;obtain⟨dd,fB⟩:=nM ((if (zAe j s.first).isSome=true then [] else rdL n.data 0 n.size))
 have fM:T.step s (ns,j)=⟨s.nodes++[⟨x,1,(n.made:Int),fs,dd⟩],(T.step s (ns,j)).first⟩:=by
  unfold PT.step;rw [if_neg (by rw [fO];simp),zAn hg,hx]
  cases fE:zAe j s.first with
  | some q=>rw [fE] at fA fB;simp only [Option.getD_some] at fA;simp only [Option.isSome_some,if_true] at fB;rw [←fA,←fB]
  | none=>rw [fE] at fA fB;simp only [Option.getD_none] at fA;simp at fB;rw [←fA,←fB]
 have gB:=hD.fst
 have gC:∀ i q,zAe i (T.step s (ns,j)).first=some q→q≠emp:=fun i q e=>by
  unfold PT.step at e;rw [if_neg (by rw [fO];simp)] at e
  cases fE:zAe j s.first with
  | some q'=>rw [fE] at e;exact hD.fne i q e
  | none =>
   rw [fE] at e;simp only at e;by_cases h:i=j
   · subst h;rw [zAr] at e;injection e with e;rw [←e];exact zFV ns
   · rw [zAi zAG _ h] at e;exact hD.fne i q e
 obtain⟨q,hz⟩:=nM (w.heap.size);have gD:Blk ((w.alloc (.cells #[.string x,.int .i64 1,.int .i64 (n.made:Int),.string ⟨#[]⟩,.slice none 0 0] 75)).alloc (.cells #[.int .i64 (j:Int),.int .i64 n.kind,.int .i64 n.links,.int .i64 (n.size:Int),.int .i64 n.made,.int .i64 n.count] 63)) w.heap.size 75 [.string x,.int .i64 1,.int .i64 (n.made:Int),.string ⟨#[]⟩,.slice none 0 0]:=(Af w 75 [.string x,.int .i64 1,.int .i64 (n.made:Int),.string ⟨#[]⟩,.slice none 0 0]).alloc _
 have jH:Blk ((w.alloc (.cells #[.string x,.int .i64 1,.int .i64 (n.made:Int),.string ⟨#[]⟩,.slice none 0 0] 75)).alloc (.cells #[.int .i64 (j:Int),.int .i64 n.kind,.int .i64 n.links,.int .i64 (n.size:Int),.int .i64 n.made,.int .i64 n.count] 63)) (w.heap.size+1) 63 [.int .i64 (j:Int),.int .i64 n.kind,.int .i64 n.links,.int .i64 (n.size:Int),.int .i64 n.made,.int .i64 n.count]:=by
  have:=Af (w.alloc (.cells #[.string x,.int .i64 1,.int .i64 (n.made:Int),.string ⟨#[]⟩,.slice none 0 0] 75)) 63 [.int .i64 (j:Int),.int .i64 n.kind,.int .i64 n.links,.int .i64 (n.size:Int),.int .i64 n.made,.int .i64 n.count];simpa using this
 have fY:Below w.heap.size w ((w.alloc (.cells #[.string x,.int .i64 1,.int .i64 (n.made:Int),.string ⟨#[]⟩,.slice none 0 0] 75)).alloc (.cells #[.int .i64 (j:Int),.int .i64 n.kind,.int .i64 n.links,.int .i64 (n.size:Int),.int .i64 n.made,.int .i64 n.count] 63)):=(br.alloc nr _).alloc (by simp) _;have fP:=hid hD.mem;have mK:=hid hD.tn;have jI:=hid hD.len;have jU:=hD.mem.fresh fY;have fQ:=lB.below fY;have jV:=lA.below fY
 have lD:js.length≤1000000:=by rw [jI.o];exact jR
 have fR:=fun (W:World) (B':Nat) (hN:NodesAt W B' A8 l) (hI:Sees W B' 1 Ai js.length (nats js))=>first_any l js j A8 c8 Ai ci W B' hN hI jI.o.symm (by omega);rw [jT] at fR;rw [hz] at gD jH fY fQ jV;have gE:=hid fA;have gF:=hid fB;have fS:=hid fM;have gG:=hid gB;have gH:=hid gC;have fN:=hid hz;have mL:=hid hI;have gI:=hid hD.fne;have oG:=hI.gr.ok.get hg;have oH:=hI.gr.ok.ino;clear hQ hD lB lA jT fA fB fM gB gC;go_enter Tryz.func56,Tryz.ntmps56;go_upto_region 1 with (fail)
 try simp only [hz]
 change AA _ _ _ _ ((w.alloc (.cells #[.string x,.int .i64 1,.int .i64 (n.made:Int),.string ⟨#[]⟩,.slice none 0 0] 75)).alloc (.cells #[.int .i64 (j:Int),.int .i64 n.kind,.int .i64 n.links,.int .i64 (n.size:Int),.int .i64 n.made,.int .i64 n.count] 63));generalize (w.alloc (.cells #[.string x,.int .i64 1,.int .i64 (n.made:Int),.string ⟨#[]⟩,.slice none 0 0] 75)).alloc (.cells #[.int .i64 (j:Int),.int .i64 n.kind,.int .i64 n.links,.int .i64 (n.size:Int),.int .i64 n.made,.int .i64 n.count] 63)=w1 at *;clear hz;have lE:=fR w1.drew q (fQ.keep fun _ _=>rfl) (jV.keep fun _ _=>rfl);obtain⟨t1,lF,-⟩:=jU.blk;obtain⟨-,-,-,-,y4,y5,-⟩:=zEe lF;have s0:w1.cell? ⟨q+1,0,none⟩=some (.int .i64 (j:Int)):=jH.cell 0;obtain⟨e0,e1,e2,e3,e4⟩:=zDi gD;have f3:=gD.frozen 3;have jW:=hid jU
 have oI:q≠B:=by have:=(fP.o.ts B (.inl rfl)).2;have:=fN.o;omega
 have gJ:=hid gD;have gK:=hid jH;have fT:=hid fY;clear lF jU fQ jV fR gD jH fY
 go_region_held3 (fun w'=>w'.cell? ⟨B,4,none⟩=some (.slice A8 l.length c8)∧w'.cell? ⟨B,5,none⟩=some (.slice Ai js.length ci)∧w'.cell? ⟨q+1,0,none⟩=some (.int .i64 (j:Int)))
  (first | go_keep)
  (first
   | (go_at_call 88;refine lE.mono ?_;rintro e w' ⟨rfl,rfl⟩))
 go_upto_region 2 with (fail);change AA _ _ _ _ (w1.setCell ⟨q,3,none⟩ (.string fs)).drew;have jX:Chg (fun b=>b=q) w1 (w1.setCell ⟨q,3,none⟩ (.string fs)).drew:=((Ar (fun b=>b=q) w1).setCell (p:=⟨q,3,none⟩) (fun _=>rfl) _).drew;have jY:=(gJ.o.set_ 3 (.string fs)).drew;have lG:=gK.o.chg jX (by omega)
 have jZ:Below w.heap.size w (w1.setCell ⟨q,3,none⟩ (.string fs)).drew:=by rw [fN.o];exact fT.o.trans (jX.below (by have:=fT.o.size;have:=fN.o;omega) fun b hb e=>by omega)
 have lH:=fP.o.fresh jZ;clear e0 e1 e2 e3 e4 f3 y4 y5 s0 lE jX gJ gK fT jW;generalize (w1.setCell ⟨q,3,none⟩ (.string fs)).drew=w2 at *;have e3:w2.cell? ⟨q,3,none⟩=some (.string fs):=jY.cell 3;have fU:=hid jY;have gL:=hid lG;have fI:=hid jZ;have kA:=hid lH;clear jY lG jZ lH;obtain⟨be,lI⟩:=nM (fs.toList.isEmpty)
 go_upto_if 23 with (fail)
 clear e3
 go_cut [] from 7 to 61 (fun wx=>FilQ w0 w B q T (.slice A8 l.length c8) (.slice Ai js.length ci) l js x fs n.made dd [.int .i64 (j:Int),.int .i64 n.kind,.int .i64 n.links,.int .i64 (n.size:Int),.int .i64 n.made,.int .i64 n.count] wx)
 case first =>
  cases fE:zAe j s.first with
  | some qn =>
   have fJ:=gE.o;rw [fE] at fJ;simp only [Option.getD_some] at fJ;have fH:=gF.o;rw [fE] at fH;simp only [Option.isSome_some,if_true] at fH
   have kC:be=false:=by rw [←lI,←fJ];exact zEk (gI.o _ _ fE)
   have fC:FilQ w0 w B q T (.slice A8 l.length c8) (.slice Ai js.length ci) l js x fs n.made dd [.int .i64 (j:Int),.int .i64 n.kind,.int .i64 n.links,.int .i64 (n.size:Int),.int .i64 n.made,.int .i64 n.count] w2:=by
    refine⟨none,0,?_,?_,kA.o,As fI.o,gL.o⟩
    · rw [←fH];exact fU.o
    · rw [←fH];exact World.ownsRow_nil _ _ _ _
   have fD:=hid fC;clear fC fH fJ fE;subst kC;go_wp2;go_meet;exact fD.o
  | none =>
   have fJ:=gE.o;rw [fE] at fJ;simp only [Option.getD_none] at fJ;have fH:=gF.o;rw [fE] at fH
   simp at fH
   have lJ:fs=⟨#[]⟩:=fJ.symm
   have kC:be=true:=by rw [←lI,lJ];exact zC0 rfl
   subst lJ;obtain⟨size,kD⟩:=nM (n.size);obtain⟨tw,lK,lL⟩:=fP.o.blk
   have gM:Hid (∀ k m:Nat,k<size→m≤131072→m≤size-k→(T.run (opR x k m)).2=⟨0,st0,rdL n.data k m,[]⟩):=hid fun k m hk oJ oK=>by
    have hr:n.read (k:Int) (m:Int)=⟨0,st0,rdL n.data k m,[]⟩:=by
     unfold PN.read;rw [if_neg (by omega),if_neg (by omega)];simp only [Int.toNat_natCast];rw [show min m (n.size-k)=m by omega]
    rw [zJd lC hw hg hd,hr];rfl
   have lM:=hid fH;rw [kD] at mJ;obtain⟨i0,hi,mM,mN,mO⟩:=Aq zCP;have oL:q<w2.heap.size:=fU.o.lt
   have gN:FilI w2 B q T (.slice A8 l.length c8) (.slice Ai js.length ci) x n.made n.data size w2:=⟨0,none,0,tw,Ac _,World.ownsRow_nil _ _ _ _,fU.o,lK.fresh fI.o,lL.wide fI.o (fun b hb=>by
    rcases hb with h | h | h
    · exact .inl h
    · exact .inr (by have:=fN.o;omega)
    · cases h),Ar _ _⟩
   have gO:=hid gN;have gP:=hid kD
   have fK:Hid (∀ b,TS B (.slice A8 l.length c8) (.slice Ai js.length ci) b→b<q):=hid fun b hb=>by rw [←fN.o];exact (fP.o.ts b hb).2
   have oM:=hid hd;clear gN fJ fH fE lK lL kD hd;subst kC;go_wp2
   go_loopw [7,8] (fun _ _ wr=>FilI w2 B q T (.slice A8 l.length c8) (.slice Ai js.length ci) x n.made n.data size wr) (fun _ _ wr=>size-dLen wr q)
   case atStart=>exact gO.o
   case round =>
    obtain⟨k,A5,c5,t3,hk,ho,jJ,kE,kF,jK⟩:=hrel;obtain⟨e0,-,-,-,e4⟩:=zDi jJ;have kG:=gL.o.chg jK (by have:=fK.o B (.inl rfl);omega);have s3:_=some (AR .i64 (n.size:Int)):=kG.cell 3;rw [gP.o] at s3;have gQ:=hid jK;have oN:=jK.size;by_cases lN:k<size
    · have t1:decide ((k:Int)<(size:Int))=true:=by simpa using lN
      obtain⟨m,lO⟩:=nM (min 131072 (size-k))
      have oO:min 131072 ((size:Int)-(k:Int))=(m:Int):=by omega
      have lP:∀ b,(TS B (.slice A8 l.length c8) (.slice Ai js.length ci) b∨b=q∨(AQ A5 k c5).ownBlock=some b)→b<wr.heap.size:=fun b hb=>by
       rcases hb with h | h | h
       · have:=fK.o b h;omega
       · omega
       · exact (ho.lt b h).2
      have lQ:=uask_R (fun b=>TS B (.slice A8 l.length c8) (.slice Ai js.length ci) b∨b=q∨(AQ A5 k c5).ownBlock=some b) B (.slice A8 l.length c8) (.slice Ai js.length ci) t3 T x k m _ wr (gM.o k m lN (by omega) (by omega)) kE kF lP (.inl (.inl rfl)) mL.o;have lR:=hid lO;have lS:=hid ho;have gR:=hid jJ
      have oP:((m:Int)==0)=false:=by simp;omega
      clear lO kE kF lP kG jK ho jJ
      go_upto_region 5 with (first
       | (go_at_call 54;refine lQ.mono ?_;rintro e w3 ⟨t4,va,rfl,hA,kI,lT,lU⟩;obtain⟨dA,dc,eA,ec,rfl,kJ,-,lV,-⟩:=hA;simp only [AD,zAE] at kJ lV kI ⊢;have fQ:=Af w3 67 zAk)
       | (refine stA 0 st0 (.slice dA m dc) (.slice eA 0 ec) fQ rfl rfl rfl (by rfl) rfl rfl rfl ?_))
      have lW:Blk ((w3.alloc (.cells zAk.toArray 67)).setRow w3.heap.size (zAq 0 st0 (.slice dA m dc) (.slice eA 0 ec)).toArray) w3.heap.size 67 (zAq 0 st0 (.slice dA m dc) (.slice eA 0 ec)):=Ah (w3.alloc (.cells zAk.toArray 67)) w3.heap.size _ (zAq 0 st0 (.slice dA m dc) (.slice eA 0 ec)).toArray _ _ fQ
      have fZ:Below w3.heap.size w3 ((w3.alloc (.cells zAk.toArray 67)).setRow w3.heap.size (zAq 0 st0 (.slice dA m dc) (.slice eA 0 ec)).toArray):=((Ar (fun b=>w3.heap.size≤b) w3).alloc _ |>.setRow (fun _=>Ab _) _).below nr fun b hb e=>by omega
      have mP:=(kJ.below fZ).more fZ.size;have gS:Chg (fun b=>b=B) wr ((w3.alloc (.cells zAk.toArray 67)).setRow w3.heap.size (zAq 0 st0 (.slice dA m dc) (.slice eA 0 ec)).toArray):=lU.trans (As (S:=fun b=>b=B) fZ) (fun _ _ h=>h) (fun _ _ h=>h);have jL:Hid (∀ g,(AQ A5 k c5).ownBlock=some g→w2.heap.size≤g):=hid fun g e=>(lS.o.lt g e).1;have mQ:=fK.o B (.inl rfl)
      have fF:=zAy lS.o gS fun g e h9=>by have:=jL.o g e;omega
      have kK:=gR.o.chg gS (by omega);have fL:=hid (kI.fresh fZ);have mR:=hid (lT.fresh fZ);have gT:=hid gS;change AA _ _ _ _ ((w3.alloc (.cells zAk.toArray 67)).setRow w3.heap.size (zAq 0 st0 (.slice dA m dc) (.slice eA 0 ec)).toArray);generalize (w3.alloc (.cells zAk.toArray 67)).setRow w3.heap.size (zAq 0 st0 (.slice dA m dc) (.slice eA 0 ec)).toArray=w4 at *;have x7:w4.cell? ⟨w3.heap.size,7,none⟩=some (.slice dA m dc):=lW.cell 7;obtain⟨-,-,-,-,e4'⟩:=zDi kK;have kL:=hid kK;have mS:=hid (rdL_add n.data k m)
      have mT:k+m≤size:=by have:=lR.o;omega
      have mU:w2.heap.size≤w4.heap.size:=by have:=gS.size;omega
      clear fQ fZ kJ lV lU kI lT lQ gS lW kK e0 e4 s3;generalize lX:rdL n.data k m=d2 at *;generalize mV:rdL n.data 0 k=dk at *
      have gU:d2.length=m:=by rw [←lX,zAE]
      have lY:=hid gU;clear lX mV gU
      go_wp2_with (first
       | (at_builtin;refine zAg _ rfl (.tmp 57) (.tmp 59) _ _ rfl w2.heap.size 5 i0 (.int .u8 0) 1 1 Ax hi mM mN mO rfl (.slice A5 k c5) k (bvs dk) rfl fF m (bvs d2) (zCn w4 Ax dc mP (zB4 d2)) (by unfold maxLen;omega) (by omega) mU ?_;intro v5 w5 jM lZ kM;have jN:=kL.o.law lZ (fun e=>by have:=jL.o _ e;omega);obtain⟨A9,c9,gV,-⟩:=Ae (B:=w5.heap.size) jM fun g hg=>(jM.lt g hg).2;subst gV;have z4:=jN.cell 4;have f4:=jN.frozen 4;simp only [AL,AE] at z4))
      go_roundw
      case rel =>
       have mW:Chg (fun b=>(AQ A5 k c5).ownBlock=some b) w4 w5:=(Ar _ w4).grown lZ fun g e _=>e;have mA:Chg (fun b=>b=q) w5 (w5.setCell ⟨q,4,none⟩ (.slice A9 (k+m) c9)):=(Ar (fun b=>b=q) w5).setCell (p:=⟨q,4,none⟩) (fun _=>rfl) _;have fV:Chg (fun b=>(AQ A5 k c5).ownBlock=some b∨b=q) w4 (w5.setCell ⟨q,4,none⟩ (.slice A9 (k+m) c9)):=mW.trans mA (fun _ _ h=>.inl h) (fun _ _ h=>.inr h);have mX:=gT.o.size;refine⟨k+m,A9,c9,t4,mT,?_,jN.set_ 4 _,fL.o.chg fV (fun h=>?_),mR.o.grow (fV.mono fun b _ h=>?_) fun b hb=>?_,?_⟩
       · rw [mS.o,zBZ];exact zAy jM mA fun g hg e=>by have:=(jM.lt g hg).1;omega
       · rcases h with h | h
         · have:=jL.o _ h;omega
         · omega
       · rcases h with h | h
         · exact .inr (.inr h)
         · exact .inr (.inl h)
       · rcases hb with h | h | h
         · exact .inl (.inl h)
         · exact .inl (.inr (.inl h))
         · rcases kM with e | e
           · rw [e] at h;exact .inl (.inr (.inr h))
           · rw [e] at h;injection h with h;exact .inr (by omega)
       · refine (gQ.o.trans gT.o (fun _ _ h=>h) (fun b _ e=>.inl e)).trans fV (fun _ _ h=>h) fun b hb h=>?_;rcases h with h | h
         · have:=jL.o _ h;omega
         · exact .inr h
      case measure =>
       have h1:=(jN.set_ 4 (.slice A9 (k+m) c9)).cell 4;have h2:=gR.o.cell 4;simp only [AK,AJ,AL,AE] at h1 h2;unfold dLen;rw [h1,h2]
       show size-(k+m)<size-k
       have:=lR.o;omega
    · obtain rfl:k=size:=by omega
      have t1:decide ((k:Int)<(k:Int))=false:=by simp
      have fC:FilQ w0 w B q T (.slice A8 l.length c8) (.slice Ai js.length ci) l js x ⟨#[]⟩ n.made dd [.int .i64 (j:Int),.int .i64 n.kind,.int .i64 n.links,.int .i64 (n.size:Int),.int .i64 n.made,.int .i64 n.count] wr:=by
       have mB:=gP.o
       have mC:dd.length=k:=by rw [←lM.o,zAE];exact mB
       have mQ:=fK.o B (.inl rfl)
       have mD:Chg (fun b=>b=B) w wr:=(As (S:=fun b=>b=B) fI.o).trans gQ.o (fun _ _ h=>h) fun b hb h=>h.elim id fun h=>by have:=fN.o;omega
       refine⟨A5,c5,by rw [mC];exact jJ,?_,fP.o.turn mD kE (kF.mono fun _ h=>.inl h),mD,kG⟩;rw [mC,←lM.o,mB];exact zBY ho fun g hg=>by have:=(ho.lt g hg).1;omega
      have fD:=hid fC;clear fC;go_wp2;go_meet;exact fD.o
 case rest =>
  obtain⟨A5,c5,gW,gX,gY,gZ,jA⟩:=hcut;generalize wc=wa at *;have mY:=hid gW;have mZ:=hid (show wa.ownsRow w.heap.size 5 1 (ndV ⟨x,1,n.made,fs,A5,c5,dd⟩) dd.length (bvs dd) from by rw [fN.o];exact gX);have jO:=hid gY;have mE:=hid gZ;have oA:=hid jA;clear gW gX gY gZ jA;obtain⟨tA,jB,-⟩:=jO.o.blk;have kN:=hid jB;obtain⟨-,-,-,-,y4,-,-⟩:=zEe jB;have y4':=(jB.alloc (.cells [.string x,.int .i64 1,.int .i64 (n.made:Int),.string fs,.slice A5 dd.length c5].toArray 75)).cell 4;simp only [zDd,AL,AE] at y4';obtain⟨e0,e1,e2,e3,e4⟩:=zDi mY.o;have oB:B<wa.heap.size:=jB.lt;have gA:Hid (Below wa.heap.size wa (wa.alloc (.cells [.string x,.int .i64 1,.int .i64 (n.made:Int),.string fs,.slice A5 dd.length c5].toArray 75)).drew):=hid ((br.alloc nr _).drew);have jC:=hid (zAC jO.o.own.row gA.o);have jD:=hid (zA3 (P:=At) (tx:=31) Ay (Blk.drew (Af wa 75 [.string x,.int .i64 1,.int .i64 (n.made:Int),.string fs,.slice A5 dd.length c5])) (by intro u hu;simp only [List.mem_cons,List.not_mem_nil,or_false] at hu;rcases hu with rfl | rfl | rfl | rfl | rfl<;>rfl));have kO:Hid (∀ g,(AQ A8 l.length c8).ownBlock=some g→B+1≤g):=hid fun g hg=>(jO.o.own.row.lt g hg).1;obtain⟨iN,oC,kP,kQ,kR⟩:=Aq zED;clear jB;go_upto_region 8 with (fail)
  go_cut [] from 62 to 71 (fun wx=>Push1 w0 wa B T (.slice A8 l.length c8) (.slice Ai js.length ci) l js ⟨x,1,n.made,fs,A5,c5,dd⟩ wx)
  case first =>
   go_region_law (refine zBc _ (by rfl) (.tmp 66) (.tmp 68) _ _ (by rfl) (B+1) 75 iN _ 5 72 Ay oC kP kQ kR rfl (.slice A8 l.length c8) l.length (ncs l) (by rfl) jC.o 1 [.string x,.int .i64 1,.int .i64 (n.made:Int),.string fs,.slice A5 dd.length c5] jD.o (by unfold maxLen;omega) (by omega) (by simp;omega) ?_;intro v4 w4 fF fW fG;have fL:=((kN.o.fresh gA.o).law fW (fun e=>by have:=kO.o _ e;omega));obtain⟨A9,c9,gV,-⟩:=Ae (B:=w4.heap.size) fF fun g hg=>(fF.lt g hg).2;subst gV;have z4:=fL.cell 4;have f4:=fL.frozen 4;simp only [zDd,AL,AE] at z4)
   all_goals
    obtain⟨p1,p2⟩:=TldW.push1 (x:=⟨x,1,n.made,fs,A5,c5,dd⟩) fP.o (mE.o.trans (As (S:=fun b=>b=B) gA.o) (fun _ _ h=>h) (fun _ _ h=>h)) (jO.o.fresh gA.o) (zAC mZ.o gA.o) fF fW fG;have hp:=hid (show Push1 w0 wa B T (.slice A8 l.length c8) (.slice Ai js.length ci) l js ⟨x,1,n.made,fs,A5,c5,dd⟩ _ from ⟨A9,c9,p1,(GrU.fresh _ _ gA.o).trans p2⟩);clear p1 p2 fF fW fG fL;go_wp2;go_meet;exact hp.o
  case rest =>
   obtain⟨A9,c9,jE,fX⟩:=hcut;generalize wc=wb at *;have jP:=hid jE;have oD:=hid fX
   have kS:¬TS B (.slice A8 l.length c8) (.slice Ai js.length ci) (q+1):=fun h=>by have:=(fP.o.ts _ h).2;have:=fN.o;omega
   have c0:_=some (AR .i64 (j:Int)):=(oA.o.chg fX.chg kS).cell 0;clear jE fX e0 e1 e2 e3 e4;obtain⟨tB,jF,-⟩:=jP.o.blk;have kT:=hid jF;obtain⟨-,-,-,-,-,y5,-⟩:=zEe jF;have y5':=(jF.alloc (.cells [.int .i64 (j:Int)].toArray 3)).cell 5;simp only [zDd,AL,AE] at y5';have oE:B<wb.heap.size:=jF.lt;have jQ:Hid (Below wb.heap.size wb (wb.alloc (.cells #[.int .i64 (j:Int)] 3)).drew):=hid ((br.alloc nr _).drew);have jG:=hid (zAC jP.o.ino jQ.o);have kU:Hid (∀ g,(AQ Ai js.length ci).ownBlock=some g→B+1≤g):=hid fun g hg=>(jP.o.ino.lt g hg).1;obtain⟨iI,oF,kV,kW,kX⟩:=Aq zGq;clear jF;go_upto_region 9 with (fail)
   go_cut [] from 72 to 82 (fun wx=>Push2 w0 wb B T (.slice A9 (l.length+1) c9) (.slice Ai js.length ci) (l++[⟨x,1,n.made,fs,A5,c5,dd⟩]) js j wx)
   case first =>
    go_region_law (refine zBc _ (by rfl) (.tmp 76) (.tmp 79) _ _ (by rfl) (B+1) 3 iI _ 1 8 Az oF kV kW kX rfl (.slice Ai js.length ci) js.length (nats js) (by rfl) jG.o 1 [.int .i64 (j:Int)] (zCj wb Az _ _ rfl) (by unfold maxLen;omega) (by omega) (by simp;omega) ?_;intro v4 w4 fF fW fG;have fL:=((kT.o.fresh jQ.o).law fW (fun e=>by have:=kU.o _ e;omega));obtain⟨A0,c0',gV,-⟩:=Ae (B:=w4.heap.size) fF fun g hg=>(fF.lt g hg).2;subst gV;have z5:=fL.cell 5;have f5:=fL.frozen 5;simp only [zDd,AL,AE] at z5)
    all_goals
     obtain⟨p1,p2⟩:=TldW.push2 (j:=j) (jP.o.fresh jQ.o) fF fW fG;have hp:=hid (show Push2 w0 wb B T (.slice A9 (l.length+1) c9) (.slice Ai js.length ci) (l++[⟨x,1,n.made,fs,A5,c5,dd⟩]) js j _ from ⟨_,p1,(GrU.fresh _ _ jQ.o).trans p2⟩);clear p1 p2 fF fW fG fL;go_wp2;go_meet;exact hp.o
   case rest =>
    obtain⟨v2,kY,mF⟩:=hcut
    have fC:TldP w0 B T (.slice A8 l.length c8) (.slice Ai js.length ci) w (T.step s (ns,j),0) (.returned (.bool true)) wc:=by
     refine⟨rfl,kY.below,fun _=>⟨_,v2,_,_,⟨kY,?_,gG.o.step jI.o (by exact hx.symm),gH.o,?_⟩,((GrU.one mE.o).trans oD.o).trans mF⟩,fun h=>absurd rfl h⟩
     · rw [List.map_append,mK.o,fS.o];rfl
     · rw [AM,AM,jI.o];rfl
    have fD:=hid fC;clear fC kY mF;go_wp2;rw [←mG.o];exact fD.o
end Go.Proofs.YtolpcfhfcdkokaaGreatDoor
