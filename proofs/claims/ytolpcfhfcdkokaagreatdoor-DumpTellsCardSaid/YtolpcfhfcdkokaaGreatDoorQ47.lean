/- Joined out of SDo..SDo. -/
import Derived.Test.YtolpcfhfcdkokaaGreatDoorQ44
import Derived.Test.YtolpcfhfcdkokaaGreatDoorQ46
set_option maxHeartbeats 16000000
set_option maxRecDepth 100000
set_option linter.unusedSimpArgs false
set_option linter.unusedVariables false
namespace Go.Proofs.YtolpcfhfcdkokaaGreatDoor
open Lib (hid)
open Go.RowKit
theorem zBl {w:World} {g:Nat} {ty:TypeId} {cs:List Value} (h:Blk w g ty cs):w.rangeAt g 0 cs:=fun j u hu=>by rw [Nat.zero_add,h.cell j];exact hu
theorem nm_nil (w:World):NmAt w w.heap.size none 0 []:=⟨Sees.nil,by simp,by simp,fun x h=>by cases h⟩
theorem zHt (w:World):Blk ((w.alloc (.cells z4.toArray 28)).alloc (.cells zAs.toArray 67)) (w.heap.size+1) 67 zAs:=by
 have:=Blk.new (w.alloc (.cells z4.toArray 28)) 67 zAs;simpa using this
theorem two_box (w:World) (t:Tr) (cs:List Value):Blk ((((w.alloc (.cells z4.toArray 28)).alloc (.cells zAs.toArray 67)).setRow w.heap.size (zAa t).toArray).setRow (w.heap.size+1) cs.toArray) w.heap.size 28 (zAa t) ∧
 Blk ((((w.alloc (.cells z4.toArray 28)).alloc (.cells zAs.toArray 67)).setRow w.heap.size (zAa t).toArray).setRow (w.heap.size+1) cs.toArray) (w.heap.size+1) 67 cs ∧
 Below w.heap.size w ((((w.alloc (.cells z4.toArray 28)).alloc (.cells zAs.toArray 67)).setRow w.heap.size (zAa t).toArray).setRow (w.heap.size+1) cs.toArray):=by
 have h1:Blk ((w.alloc (.cells z4.toArray 28)).alloc (.cells zAs.toArray 67)) w.heap.size 28 z4:=(Blk.new w 28 z4).alloc _;have h2:Blk (((w.alloc (.cells z4.toArray 28)).alloc (.cells zAs.toArray 67)).setRow w.heap.size (zAa t).toArray) w.heap.size 28 (zAa t):=setRow_heap _ _ _ _ _ _ h1;refine⟨h2.row_far (by omega) _,setRow_heap _ _ _ _ _ _ ((zHt w).row_far (by omega) _),?_⟩;exact (((((Chg.refl (fun b=>w.heap.size≤b) w).alloc _).alloc _).setRow (fun _=>Nat.le_refl _) _).setRow (fun _=>Nat.le_succ _) _).below (Nat.le_refl _) fun b hb h=>by omega
theorem rdo_any (S:Nat→Prop) (t:Tr) (T:PT) (op:Opn) (A:Option Addr) (c:Nat) (w:World) (h:RefS S w t T) (hS:∀ b,S b→b<w.heap.size) (hT:T.Inv)
 (hds:Sees w w.heap.size 1 A op.data.length (bvs op.data)) (jC:op.data.length≤1000000000) :
 Calls Tryz.prog 32 #[.agg (zAa t).toArray,.agg (opC op A c).toArray] w (DoT S (T.run op) w):=by
 obtain⟨lk,gR⟩:∃ lk,T.run op=lk:=⟨_,rfl⟩;rw [gR];obtain⟨Q,hQ⟩:∃ Q,DoT S lk w=Q:=⟨_,rfl⟩;rw [hQ];obtain⟨g,hz⟩:∃ g,w.heap.size=g:=⟨_,rfl⟩;have fL:=hid (zBV h hz 4);have gG:=hid fun W (hb:Below g w W)=>(hds.below (hz.symm▸hb:Below w.heap.size w W)).more (hz.symm▸hb:Below w.heap.size w W).size;have gS:Hid (∀ b,S b→b<g):=hid (by rw [←hz];exact hS);have gE:=std_0 w t (opC op A c);rw [hz] at gE;have jD:=hid hT;have fM:=hid hQ;have fN:=hid hz;unfold PT.run at gR;have hu:=hid gR.symm;have fI:=hid fun W=>rmay_any op A c W;clear gR hQ h hS hT hds;go_enter Tryz.func32,Tryz.ntmps32;go_upto_region 1 with (fail)
 try simp only [hz]
 change Code.wp _ _ _ _ ((((w.alloc (.cells (zAa t).toArray 28)).alloc (.cells (opC op A c).toArray 70)).alloc (.cells z4.toArray 28)).alloc (.cells zAs.toArray 67));generalize (((w.alloc (.cells (zAa t).toArray 28)).alloc (.cells (opC op A c).toArray 70)).alloc (.cells z4.toArray 28)).alloc (.cells zAs.toArray 67)=w0 at *;clear hz
 cases fD:op.fine with
 | false =>
  have fK:Hid (lk=(T,.err 150)):=hid (by rw [hu.out,if_pos fD]);rw [fD] at fI
  go_wp2_with (first
   | (refine wpList_load_row rfl 70 _ rfl (g+1) rfl 70 (opC op A c).toArray _ _ gE.ob Tryz.underlying70 rfl rfl ?_)
   | (go_at_call 48;(with_reducible refine (fI.out w0).mono ?_);rintro eb w1 ⟨rfl,gT⟩;have fA:=gE.fresh gT)
   | (refine wpList_load_row rfl 28 _ rfl g rfl 28 (zAa t).toArray _ _ fA.tb Tryz.underlying28 rfl rfl ?_)
   | (refine wpList_store_row rfl 28 _ _ rfl (g+2) (zAa t).toArray rfl (by rfl) 28 _ fA.rb rfl rfl (zAc t) ?_)
   | (refine wpList_store_row rfl 67 _ _ rfl (g+3) (zAh 150 st0 zAg zAg).toArray rfl (by rfl) 67 _ (fA.ab.row_far (by omega) _) rfl rfl (zBj _ _) ?_))
  exact zAZ (k:=4) fA.rb fA.ab fM.out fK.out (fL.out _ fA.bl) (zAx _ _ 150 st0) rfl fA.bl fN.out ⟨by omega,by omega⟩ ⟨by omega,by omega⟩ (by omega) rfl rfl rfl rfl
 | true =>
  rw [fD] at fI;have fK:=hu.out;rw [if_neg (by rw [fD];simp)] at fK
  go_upto_region 3 with (first
   | (refine wpList_load_row rfl 70 _ rfl (g+1) rfl 70 (opC op A c).toArray _ _ gE.ob Tryz.underlying70 rfl rfl ?_)
   | (go_at_call 48;(with_reducible refine (fI.out w0).mono ?_);rintro eb w1 ⟨rfl,gT⟩;have fA:=gE.fresh gT))
  obtain⟨o0,o1,o2,-,-,-,-,-⟩:=zDf fA.ob;have gW:=hid fA;have jE:=hid fD;clear gE gT fI hu fD;by_cases k12:op.kind=12
  · have fV:Hid (lk=(T,.err 0)):=hid (by
     rw [fK]
     have e1:op.code1=0:=by unfold Opn.code1;rw [if_pos (.inl k12)]
     have e2:op.code2=0:=by unfold Opn.code2;rw [if_neg (by omega)]
     rw [if_neg (by simp [e1]),if_neg (by simp [e2])];unfold PT.does;simp [k12,Ans.told,Ans.err])
    rw [k12] at o0
    go_wp2_with (first
     | (refine wpList_load_row rfl 28 _ rfl g rfl 28 (zAa t).toArray _ _ fA.tb Tryz.underlying28 rfl rfl ?_)
     | (refine wpList_store_row rfl 28 _ _ rfl (g+2) (zAa t).toArray rfl (by rfl) 28 _ fA.rb rfl rfl (zAc t) ?_)
     | (refine wpList_store_row rfl 67 _ _ rfl (g+3) (zAh 0 st0 zAg zAg).toArray rfl (by rfl) 67 _ (fA.ab.row_far (by omega) _) rfl rfl (zBj _ _) ?_))
    exact zAZ (k:=4) fA.rb fA.ab fM.out fV.out (fL.out _ fA.bl) (zAx _ _ 0 st0) rfl fA.bl fN.out ⟨by omega,by omega⟩ ⟨by omega,by omega⟩ (by omega) rfl rfl rfl rfl
  by_cases k14:op.kind=14
  · have fV:Hid (lk=(T,.err 0)):=hid (by
     rw [fK]
     have e1:op.code1=0:=by unfold Opn.code1;rw [if_pos (.inr k14)]
     have e2:op.code2=0:=by unfold Opn.code2;rw [if_neg (by omega)]
     rw [if_neg (by simp [e1]),if_neg (by simp [e2])];unfold PT.does;simp [k14,Ans.told,Ans.err])
    rw [k14] at o0
    go_wp2_with (first
     | (refine wpList_load_row rfl 28 _ rfl g rfl 28 (zAa t).toArray _ _ fA.tb Tryz.underlying28 rfl rfl ?_)
     | (refine wpList_store_row rfl 28 _ _ rfl (g+2) (zAa t).toArray rfl (by rfl) 28 _ fA.rb rfl rfl (zAc t) ?_)
     | (refine wpList_store_row rfl 67 _ _ rfl (g+3) (zAh 0 st0 zAg zAg).toArray rfl (by rfl) 67 _ (fA.ab.row_far (by omega) _) rfl rfl (zBj _ _) ?_))
    exact zAZ (k:=4) fA.rb fA.ab fM.out fV.out (fL.out _ fA.bl) (zAx _ _ 0 st0) rfl fA.bl fN.out ⟨by omega,by omega⟩ ⟨by omega,by omega⟩ (by omega) rfl rfl rfl rfl
  have t12:(op.kind==12)=false:=by simp;omega
  have t14:(op.kind==14)=false:=by simp;omega
  have jF:op.code1=(spl op.path).2:=by unfold Opn.code1;rw [if_neg (by omega)]
  have jG:op.from_=(spl op.path).1:=by unfold Opn.from_;rw [if_neg (by omega)]
  rw [jF,jG] at fK;have fG:=hid (zFz op.path w1);unfold RSpl at fG;have fO:=hid (zEQ op.path);obtain⟨r1,jH⟩:∃ r1,spl op.path=r1:=⟨_,rfl⟩;rw [jH] at fG fK fO;obtain⟨l1,e1⟩:=r1;simp only at fG fK fO;have fV:=hid fK;clear fK jH jF jG;by_cases jI:e1=0;rotate_left
  · have jO:((e1:Int) != 0)=true:=by simp;omega
    have gF:Hid (lk=(T,.err e1)):=hid (by rw [fV.out,if_pos jI])
    go_wp2_with (first
     | (go_at_call 49;(with_reducible refine (fG.out).mono ?_);rintro eb w2 ⟨⟨A1,c1,rfl,gX⟩,gU⟩;have fC:=fA.fresh gU;obtain⟨p0,p1,p2,-,-,-,-,-⟩:=zDf fC.ob)
     | (refine wpList_load_row rfl 28 _ rfl g rfl 28 (zAa t).toArray _ _ fC.tb Tryz.underlying28 rfl rfl ?_)
     | (refine wpList_store_row rfl 28 _ _ rfl (g+2) (zAa t).toArray rfl (by rfl) 28 _ fC.rb rfl rfl (zAc t) ?_)
     | (refine wpList_store_row rfl 67 _ _ rfl (g+3) (zAh e1 st0 zAg zAg).toArray rfl (by rfl) 67 _ (fC.ab.row_far (by omega) _) rfl rfl (zBj _ _) ?_))
    exact zAZ (k:=4) fC.rb fC.ab fM.out gF.out (fL.out _ fC.bl) (zAx _ _ e1 st0) rfl fC.bl fN.out ⟨by omega,by omega⟩ ⟨by omega,by omega⟩ (by omega) rfl rfl rfl rfl
  subst jI;have gF:Hid (lk=if op.code2≠0 then (T,.err op.code2) else ((T.does op l1 op.to_).1,(T.does op l1 op.to_).2.told)):=hid (by rw [fV.out,if_neg (by simp)]);clear fV
  go_upto_region 9 with (first
   | (go_at_call 49;(with_reducible refine (fG.out).mono ?_);rintro eb w2 ⟨⟨A1,c1,rfl,gX⟩,gU⟩;have fC:=fA.fresh gU;obtain⟨p0,p1,p2,-,-,-,-,-⟩:=zDf fC.ob))
  have gH:=hid fun W (hb:Below w2.heap.size w2 W)=>gX.fresh hb;have jP:=hid fC;clear fA gW gU gX o0 o1 o2 fG;by_cases k36:op.kind=3∨op.kind=6
  · have jJ:op.code2=(spl op.dst).2:=by unfold Opn.code2;rw [if_pos k36]
    have jK:op.to_=(spl op.dst).1:=by unfold Opn.to_;rw [if_pos k36]
    have fP:=gF.out;rw [jJ,jK] at fP;have fH:=hid (zFz op.dst w2);unfold RSpl at fH;have fW:=hid (zEQ op.dst);obtain⟨r2,jL⟩:∃ r2,spl op.dst=r2:=⟨_,rfl⟩;rw [jL] at fH fP fW;obtain⟨l2,e2⟩:=r2;simp only at fH fP fW;have fX:=hid fP;clear fP gF jL jJ jK
    have t36:(op.kind==3)=true∨(op.kind==3)=false∧(op.kind==6)=true:=by rcases k36 with e | e<;>simp [e]
    by_cases jM:e2=0;rotate_left
    · have jO:((e2:Int) != 0)=true:=by simp;omega
      have fQ:Hid (lk=(T,.err e2)):=hid (by rw [fX.out,if_pos jM]);rcases t36 with t3 | ⟨t3,t6⟩
      all_goals
       go_wp2_with (first
        | (go_at_call 49;(with_reducible refine (fH.out).mono ?_);rintro eb w3 ⟨⟨A2,c2,rfl,jN⟩,gV⟩;have fF:=fC.fresh gV)
        | (refine wpList_load_row rfl 28 _ rfl g rfl 28 (zAa t).toArray _ _ fF.tb Tryz.underlying28 rfl rfl ?_)
        | (refine wpList_store_row rfl 28 _ _ rfl (g+2) (zAa t).toArray rfl (by rfl) 28 _ fF.rb rfl rfl (zAc t) ?_)
        | (refine wpList_store_row rfl 67 _ _ rfl (g+3) (zAh e2 st0 zAg zAg).toArray rfl (by rfl) 67 _ (fF.ab.row_far (by omega) _) rfl rfl (zBj _ _) ?_))
       exact zAZ (k:=4) fF.rb fF.ab fM.out fQ.out (fL.out _ fF.bl) (zAx _ _ e2 st0) rfl fF.bl fN.out ⟨by omega,by omega⟩ ⟨by omega,by omega⟩ (by omega) rfl rfl rfl rfl
    subst jM;have fP:Hid (lk=((T.does op l1 l2).1,(T.does op l1 l2).2.told)):=hid (by rw [fX.out,if_neg (by simp)]);clear fX;rcases t36 with t3 | ⟨t3,t6⟩
    all_goals
     go_upto_region 13 with (first
      | (go_at_call 49;(with_reducible refine (fH.out).mono ?_);rintro eb w3 ⟨⟨A2,c2,rfl,jN⟩,gV⟩;have fF:=fC.fresh gV))
     have jQ:=hid fF;clear fC fH;have fR:=hid (zGE (zAM S g 4) t T op A c A1 c1 l1 A2 c2 l2 w3 (fL.out w3 fF.bl) (zBe (fun b hb=>by have:=gS.out b hb;have:=fF.le;omega) fF.le) jD.out jE.out k12 k14 (gG.out w3 fF.bl) jC (gH.out w3 gV) fO.out jN fW.out);obtain⟨r4,fS⟩:∃ r4,T.does op l1 l2=r4:=⟨_,rfl⟩;rw [fS] at fR;obtain⟨T4,an⟩:=r4
     try simp only [List.length_nil] at fR
     have gI:Hid (lk=(T4,an.told)):=hid (by rw [fP.out,fS]);have fY:=hid fS;clear fS
     go_upto_region 14 with (first
      | (refine wpList_load_row rfl 28 _ rfl g rfl 28 (zAa t).toArray _ _ fF.tb Tryz.underlying28 rfl rfl ?_)
      | (refine wpList_load_row rfl 70 _ rfl (g+1) rfl 70 (opC op A c).toArray _ _ fF.ob Tryz.underlying70 rfl rfl ?_)
      | (go_at_call 50;(with_reducible refine (fR.out).mono ?_);rintro eb w4 ⟨⟨t4,v4,rfl,gJ,gY⟩,gK⟩;obtain⟨dA,dc,eA,ec,rfl,gL,gM,gN,gO⟩:=gY)
      | (refine wpList_store_row rfl 28 _ _ rfl w4.heap.size (zAa t4).toArray rfl (by rfl) 28 _ ((Blk.new w4 28 z4).alloc _) rfl rfl (zAc t4) ?_)
      | (refine wpList_store_row rfl 67 _ _ rfl (w4.heap.size+1) (zAh an.code an.stat (.slice dA an.data.length dc) (.slice eA an.ents.length ec)).toArray rfl (by rfl) 67 _ (Blk.row_far (zHt w4) (by omega) _) rfl rfl (zAv _ _ _ _ _ _ _ _) ?_))
     have fZ:=fF.fresh gK;have gA:=fZ.le;obtain⟨q1,q2,q3⟩:=two_box w4 t4 (zAh an.code an.stat (.slice dA an.data.length dc) (.slice eA an.ents.length ec));have gP:zDV (zAM S g 4) w4 (.agg (zAh an.code an.stat (.slice dA an.data.length dc) (.slice eA an.ents.length ec)).toArray) an:=⟨dA,dc,eA,ec,rfl,gL,gM,gN,gO⟩;have gZ:=fZ.fresh q3;have jA:=gJ.fresh q3;have gB:=hid (gP.fresh q3);change Code.wp _ _ _ _ ((((w4.alloc (.cells z4.toArray 28)).alloc (.cells zAs.toArray 67)).setRow w4.heap.size (zAa t4).toArray).setRow (w4.heap.size+1) (zAh an.code an.stat (.slice dA an.data.length dc) (.slice eA an.ents.length ec)).toArray);clear gK gL gM gN gO fR gJ fZ gP q3;generalize (((w4.alloc (.cells z4.toArray 28)).alloc (.cells zAs.toArray 67)).setRow w4.heap.size (zAa t4).toArray).setRow (w4.heap.size+1) (zAh an.code an.stat (.slice dA an.data.length dc) (.slice eA an.ents.length ec)).toArray=w5 at *;have gC:g+4≤w4.heap.size:=gA;generalize w4.heap.size=ub at *;have y0:=q2.cell 0;simp only [zAh,List.getElem?_cons_zero] at y0
     have fJ:an.code≠0→T4=T:=fun h9=>by
      have h8:=zIA (T:=T) (o:=op) (l:=l1) (m:=l2);rw [fY.out] at h8;exact h8 h9
     have fE:=hid gZ;have gD:=hid jA;have q1H:=hid q1;have q2H:=hid q2;have jB:g+4≤ub:=gC
     have jR:∀ b,zAM S g 4 b→b<g+4:=fun b hb=>by
      rcases hb with hb | hb
      · have:=gS.out b hb;omega
      · omega
     have fT:Below w5.heap.size w5 w5.drew:=zAf (Below.refl _ w5) 1;by_cases fU:an.code=0
     · have fQ:Hid (lk=(T4,an)):=hid (by rw [gI.out];unfold Ans.told;rw [if_pos fU])
       have t1:((an.code:Int) != 0)=false:=by rw [fU];rfl
       go_upto_region 16 with (fail);have gQ:=hid fE.out.tb;refine wp_region_held_drew (S:=fun w'=>Blk w' ub 28 (zAa t4)∧Blk w' (ub+1) 67 (zAh an.code an.stat (.slice dA an.data.length dc) (.slice eA an.ents.length ec))) (by kernel_rfl) ⟨q1H.out,q2H.out⟩ fun hH=>?_;refine wpAnyH_take (i:=0) (v:=trV t4) rfl (by kernel_rfl) (by kernel_rfl) (by kernel_rfl) (fun _ _ _ h=>h) (yieldsIf_load_mid (by rfl) 28 _ rfl ub 0 rfl (zAa t4) _ (fun _ h=>zBl h.1) Tryz.underlying28 rfl rfl) hH ?_
       try simp only [Act.put,List.getElem_toArray,List.getElem_cons_succ,List.getElem_cons_zero,List.setIfInBounds_toArray,List.set_cons_zero,List.set_cons_succ]
       refine wpAnyH_take (i:=1) (v:=.agg (zAh an.code an.stat (.slice dA an.data.length dc) (.slice eA an.ents.length ec)).toArray) rfl (by kernel_rfl) (by kernel_rfl) (by kernel_rfl) (fun _ _ _ h=>h) (yieldsIf_load_mid (by rfl) 67 _ rfl (ub+1) 0 rfl (zAh an.code an.stat (.slice dA an.data.length dc) (.slice eA an.ents.length ec)) _ (fun _ h=>zBl h.2) Tryz.underlying67 rfl rfl) hH ?_
       try simp only [Act.put,List.getElem_toArray,List.getElem_cons_succ,List.getElem_cons_zero,List.setIfInBounds_toArray,List.set_cons_zero,List.set_cons_succ]
       have fB:=fE.out.fresh fT;refine wpAnyH_ready (rs:=[2]) (by kernel_rfl) (by simp) (AllReadyH.cons rfl (fun K hK=>?_) AllReadyH.nil);rw [if_pos (by rfl)];refine wp_store_row 28 _ _ rfl (g+2) (zAa t4).toArray rfl rfl 28 _ fB.rb rfl rfl (zAc t4) ?_;refine hK.out _ _ ⟨Blk.row_far hH.1 (by omega) _,Blk.row_far hH.2 (by omega) _⟩ fun hH=>?_;clear hK K
       try simp only [Act.put,List.getElem_toArray,List.getElem_cons_succ,List.getElem_cons_zero,List.setIfInBounds_toArray,List.set_cons_zero,List.set_cons_succ]
       refine wpAnyH_ready (rs:=[3]) (by kernel_rfl) (by simp) (AllReadyH.cons rfl (fun K hK=>?_) AllReadyH.nil);rw [if_pos (by rfl)];refine wp_store_row 67 _ _ rfl (g+3) (zAh an.code an.stat (.slice dA an.data.length dc) (.slice eA an.ents.length ec)).toArray rfl rfl 67 _ (fB.ab.row_far (by omega) _) rfl rfl (zAv _ _ _ _ _ _ _ _) ?_;refine hK.out _ _ ⟨Blk.row_far hH.1 (by omega) _,Blk.row_far hH.2 (by omega) _⟩ fun hH=>?_;clear hK K
       try simp only [Act.put,List.getElem_toArray,List.getElem_cons_succ,List.getElem_cons_zero,List.setIfInBounds_toArray,List.set_cons_zero,List.set_cons_succ]
       refine wpAnyH_done (by kernel_rfl) ?_ _;clear hH;go_wp2;exact zAZ (k:=4) fB.rb fB.ab fM.out fQ.out (gD.out.fresh fT) (gB.out.fresh fT) rfl fB.bl fN.out ⟨by omega,by omega⟩ ⟨by omega,by omega⟩ (by omega) rfl rfl rfl rfl
     · have fQ:Hid (lk=(T,.err an.code)):=hid (by rw [gI.out,fJ fU];unfold Ans.told;rw [if_neg fU])
       have t1:((an.code:Int) != 0)=true:=by simp;omega
       go_upto_region 15 with (fail);have gQ:=hid fE.out.tb;refine wp_region_held_drew (S:=fun w'=>Blk w' g 28 (zAa t)∧Blk w' (ub+1) 67 (zAh an.code an.stat (.slice dA an.data.length dc) (.slice eA an.ents.length ec))) (by kernel_rfl) ⟨gQ.out,q2H.out⟩ fun hH=>?_;refine wpAnyH_take (i:=0) (v:=trV t) rfl (by kernel_rfl) (by kernel_rfl) (by kernel_rfl) (fun _ _ _ h=>h) (yieldsIf_load_mid (by rfl) 28 _ rfl g 0 rfl (zAa t) _ (fun _ h=>zBl h.1) Tryz.underlying28 rfl rfl) hH ?_
       try simp only [Act.put,List.getElem_toArray,List.getElem_cons_succ,List.getElem_cons_zero,List.setIfInBounds_toArray,List.set_cons_zero,List.set_cons_succ]
       refine wpAnyH_take (i:=1) (v:=.pointer (some ⟨ub+1,0,none⟩)) rfl (by kernel_rfl) (by kernel_rfl) (by kernel_rfl) (fun _ _ _ h=>h) (.inl ⟨by rfl,fun _ _=>by go_simp⟩) hH ?_
       try simp only [Act.put,List.getElem_toArray,List.getElem_cons_succ,List.getElem_cons_zero,List.setIfInBounds_toArray,List.set_cons_zero,List.set_cons_succ]
       refine wpAnyH_take (i:=2) (v:=.int .i64 (an.code:Int)) rfl (by kernel_rfl) (by kernel_rfl) (by kernel_rfl) (fun _ _ _ h=>h) (.inl ⟨by rfl,fun w' h=>by have h9:=h.2.cell 0;simp only [zAh,List.getElem?_cons_zero] at h9;go_simp⟩) hH ?_
       try simp only [Act.put,List.getElem_toArray,List.getElem_cons_succ,List.getElem_cons_zero,List.setIfInBounds_toArray,List.set_cons_zero,List.set_cons_succ]
       refine wpAnyH_take (i:=3) (v:=.agg (zAh an.code st0 zAg zAg).toArray) rfl (by kernel_rfl) (by kernel_rfl) (by kernel_rfl) (fun _ _ _ h=>h) (.inl ⟨by rfl,fun _ _=>by go_simp;try rfl⟩) hH ?_
       try simp only [Act.put,List.getElem_toArray,List.getElem_cons_succ,List.getElem_cons_zero,List.setIfInBounds_toArray,List.set_cons_zero,List.set_cons_succ]
       have fB:=fE.out.fresh fT;refine wpAnyH_ready (rs:=[4]) (by kernel_rfl) (by simp) (AllReadyH.cons rfl (fun K hK=>?_) AllReadyH.nil);rw [if_pos (by rfl)];refine wp_store_row 28 _ _ rfl (g+2) (zAa t).toArray rfl rfl 28 _ fB.rb rfl rfl (zAc t) ?_;refine hK.out _ _ ⟨Blk.row_far hH.1 (by omega) _,Blk.row_far hH.2 (by omega) _⟩ fun hH=>?_;clear hK K
       try simp only [Act.put,List.getElem_toArray,List.getElem_cons_succ,List.getElem_cons_zero,List.setIfInBounds_toArray,List.set_cons_zero,List.set_cons_succ]
       refine wpAnyH_ready (rs:=[5]) (by kernel_rfl) (by simp) (AllReadyH.cons rfl (fun K hK=>?_) AllReadyH.nil);rw [if_pos (by rfl)];refine wp_store_row 67 _ _ rfl (g+3) (zAh an.code st0 zAg zAg).toArray rfl rfl 67 _ (fB.ab.row_far (by omega) _) rfl rfl (zBj _ _) ?_;refine hK.out _ _ ⟨Blk.row_far hH.1 (by omega) _,Blk.row_far hH.2 (by omega) _⟩ fun hH=>?_;clear hK K
       try simp only [Act.put,List.getElem_toArray,List.getElem_cons_succ,List.getElem_cons_zero,List.setIfInBounds_toArray,List.set_cons_zero,List.set_cons_succ]
       refine wpAnyH_done (by kernel_rfl) ?_ _;clear hH;go_wp2;exact zAZ (k:=4) fB.rb fB.ab fM.out fQ.out (fL.out _ fB.bl) (zAx _ _ an.code st0) rfl fB.bl fN.out ⟨by omega,by omega⟩ ⟨by omega,by omega⟩ (by omega) rfl rfl rfl rfl
  have t3:(op.kind==3)=false:=by simp;omega
  have t6:(op.kind==6)=false:=by simp;omega
  have fP:Hid (lk=((T.does op l1 []).1,(T.does op l1 []).2.told)):=hid (by
   have e2:op.code2=0:=by unfold Opn.code2;rw [if_neg k36]
   have e3:op.to_=[]:=by unfold Opn.to_;rw [if_neg k36]
   rw [gF.out,e2,e3,if_neg (by simp)])
  clear gF;have fR:=hid (zGE (zAM S g 4) t T op A c A1 c1 l1 none 0 [] w2 (fL.out w2 fC.bl) (zBe (fun b hb=>by have:=gS.out b hb;have:=fC.le;omega) fC.le) jD.out jE.out k12 k14 (gG.out w2 fC.bl) jC (gH.out w2 (Below.refl _ _)) fO.out (nm_nil w2) (fun x h=>by cases h));obtain⟨r4,fS⟩:∃ r4,T.does op l1 []=r4:=⟨_,rfl⟩;rw [fS] at fR;obtain⟨T4,an⟩:=r4
  try simp only [List.length_nil] at fR
  have gI:Hid (lk=(T4,an.told)):=hid (by rw [fP.out,fS]);have fY:=hid fS;clear fS
  go_upto_region 14 with (first
   | (refine wpList_load_row rfl 28 _ rfl g rfl 28 (zAa t).toArray _ _ fC.tb Tryz.underlying28 rfl rfl ?_)
   | (refine wpList_load_row rfl 70 _ rfl (g+1) rfl 70 (opC op A c).toArray _ _ fC.ob Tryz.underlying70 rfl rfl ?_)
   | (go_at_call 50;(with_reducible refine (fR.out).mono ?_);rintro eb w4 ⟨⟨t4,v4,rfl,gJ,gY⟩,gK⟩;obtain⟨dA,dc,eA,ec,rfl,gL,gM,gN,gO⟩:=gY)
   | (refine wpList_store_row rfl 28 _ _ rfl w4.heap.size (zAa t4).toArray rfl (by rfl) 28 _ ((Blk.new w4 28 z4).alloc _) rfl rfl (zAc t4) ?_)
   | (refine wpList_store_row rfl 67 _ _ rfl (w4.heap.size+1) (zAh an.code an.stat (.slice dA an.data.length dc) (.slice eA an.ents.length ec)).toArray rfl (by rfl) 67 _ (Blk.row_far (zHt w4) (by omega) _) rfl rfl (zAv _ _ _ _ _ _ _ _) ?_))
  have fZ:=fC.fresh gK;have gA:=fZ.le;obtain⟨q1,q2,q3⟩:=two_box w4 t4 (zAh an.code an.stat (.slice dA an.data.length dc) (.slice eA an.ents.length ec));have gP:zDV (zAM S g 4) w4 (.agg (zAh an.code an.stat (.slice dA an.data.length dc) (.slice eA an.ents.length ec)).toArray) an:=⟨dA,dc,eA,ec,rfl,gL,gM,gN,gO⟩;have gZ:=fZ.fresh q3;have jA:=gJ.fresh q3;have gB:=hid (gP.fresh q3);change Code.wp _ _ _ _ ((((w4.alloc (.cells z4.toArray 28)).alloc (.cells zAs.toArray 67)).setRow w4.heap.size (zAa t4).toArray).setRow (w4.heap.size+1) (zAh an.code an.stat (.slice dA an.data.length dc) (.slice eA an.ents.length ec)).toArray);clear gK gL gM gN gO fR gJ fZ gP q3;generalize (((w4.alloc (.cells z4.toArray 28)).alloc (.cells zAs.toArray 67)).setRow w4.heap.size (zAa t4).toArray).setRow (w4.heap.size+1) (zAh an.code an.stat (.slice dA an.data.length dc) (.slice eA an.ents.length ec)).toArray=w5 at *;have gC:g+4≤w4.heap.size:=gA;generalize w4.heap.size=ub at *;have y0:=q2.cell 0;simp only [zAh,List.getElem?_cons_zero] at y0
  have fJ:an.code≠0→T4=T:=fun h9=>by
   have h8:=zIA (T:=T) (o:=op) (l:=l1) (m:=[]);rw [fY.out] at h8;exact h8 h9
  have fE:=hid gZ;have gD:=hid jA;have q1H:=hid q1;have q2H:=hid q2;have jB:g+4≤ub:=gC
  have jR:∀ b,zAM S g 4 b→b<g+4:=fun b hb=>by
   rcases hb with hb | hb
   · have:=gS.out b hb;omega
   · omega
  have fT:Below w5.heap.size w5 w5.drew:=zAf (Below.refl _ w5) 1;by_cases fU:an.code=0
  · have fQ:Hid (lk=(T4,an)):=hid (by rw [gI.out];unfold Ans.told;rw [if_pos fU])
    have t1:((an.code:Int) != 0)=false:=by rw [fU];rfl
    go_upto_region 16 with (fail);have gQ:=hid fE.out.tb;refine wp_region_held_drew (S:=fun w'=>Blk w' ub 28 (zAa t4)∧Blk w' (ub+1) 67 (zAh an.code an.stat (.slice dA an.data.length dc) (.slice eA an.ents.length ec))) (by kernel_rfl) ⟨q1H.out,q2H.out⟩ fun hH=>?_;refine wpAnyH_take (i:=0) (v:=trV t4) rfl (by kernel_rfl) (by kernel_rfl) (by kernel_rfl) (fun _ _ _ h=>h) (yieldsIf_load_mid (by rfl) 28 _ rfl ub 0 rfl (zAa t4) _ (fun _ h=>zBl h.1) Tryz.underlying28 rfl rfl) hH ?_
    try simp only [Act.put,List.getElem_toArray,List.getElem_cons_succ,List.getElem_cons_zero,List.setIfInBounds_toArray,List.set_cons_zero,List.set_cons_succ]
    refine wpAnyH_take (i:=1) (v:=.agg (zAh an.code an.stat (.slice dA an.data.length dc) (.slice eA an.ents.length ec)).toArray) rfl (by kernel_rfl) (by kernel_rfl) (by kernel_rfl) (fun _ _ _ h=>h) (yieldsIf_load_mid (by rfl) 67 _ rfl (ub+1) 0 rfl (zAh an.code an.stat (.slice dA an.data.length dc) (.slice eA an.ents.length ec)) _ (fun _ h=>zBl h.2) Tryz.underlying67 rfl rfl) hH ?_
    try simp only [Act.put,List.getElem_toArray,List.getElem_cons_succ,List.getElem_cons_zero,List.setIfInBounds_toArray,List.set_cons_zero,List.set_cons_succ]
    have fB:=fE.out.fresh fT;refine wpAnyH_ready (rs:=[2]) (by kernel_rfl) (by simp) (AllReadyH.cons rfl (fun K hK=>?_) AllReadyH.nil);rw [if_pos (by rfl)];refine wp_store_row 28 _ _ rfl (g+2) (zAa t4).toArray rfl rfl 28 _ fB.rb rfl rfl (zAc t4) ?_;refine hK.out _ _ ⟨Blk.row_far hH.1 (by omega) _,Blk.row_far hH.2 (by omega) _⟩ fun hH=>?_;clear hK K
    try simp only [Act.put,List.getElem_toArray,List.getElem_cons_succ,List.getElem_cons_zero,List.setIfInBounds_toArray,List.set_cons_zero,List.set_cons_succ]
    refine wpAnyH_ready (rs:=[3]) (by kernel_rfl) (by simp) (AllReadyH.cons rfl (fun K hK=>?_) AllReadyH.nil);rw [if_pos (by rfl)];refine wp_store_row 67 _ _ rfl (g+3) (zAh an.code an.stat (.slice dA an.data.length dc) (.slice eA an.ents.length ec)).toArray rfl rfl 67 _ (fB.ab.row_far (by omega) _) rfl rfl (zAv _ _ _ _ _ _ _ _) ?_;refine hK.out _ _ ⟨Blk.row_far hH.1 (by omega) _,Blk.row_far hH.2 (by omega) _⟩ fun hH=>?_;clear hK K
    try simp only [Act.put,List.getElem_toArray,List.getElem_cons_succ,List.getElem_cons_zero,List.setIfInBounds_toArray,List.set_cons_zero,List.set_cons_succ]
    refine wpAnyH_done (by kernel_rfl) ?_ _;clear hH;go_wp2;exact zAZ (k:=4) fB.rb fB.ab fM.out fQ.out (gD.out.fresh fT) (gB.out.fresh fT) rfl fB.bl fN.out ⟨by omega,by omega⟩ ⟨by omega,by omega⟩ (by omega) rfl rfl rfl rfl
  · have fQ:Hid (lk=(T,.err an.code)):=hid (by rw [gI.out,fJ fU];unfold Ans.told;rw [if_neg fU])
    have t1:((an.code:Int) != 0)=true:=by simp;omega
    go_upto_region 15 with (fail);have gQ:=hid fE.out.tb;refine wp_region_held_drew (S:=fun w'=>Blk w' g 28 (zAa t)∧Blk w' (ub+1) 67 (zAh an.code an.stat (.slice dA an.data.length dc) (.slice eA an.ents.length ec))) (by kernel_rfl) ⟨gQ.out,q2H.out⟩ fun hH=>?_;refine wpAnyH_take (i:=0) (v:=trV t) rfl (by kernel_rfl) (by kernel_rfl) (by kernel_rfl) (fun _ _ _ h=>h) (yieldsIf_load_mid (by rfl) 28 _ rfl g 0 rfl (zAa t) _ (fun _ h=>zBl h.1) Tryz.underlying28 rfl rfl) hH ?_
    try simp only [Act.put,List.getElem_toArray,List.getElem_cons_succ,List.getElem_cons_zero,List.setIfInBounds_toArray,List.set_cons_zero,List.set_cons_succ]
    refine wpAnyH_take (i:=1) (v:=.pointer (some ⟨ub+1,0,none⟩)) rfl (by kernel_rfl) (by kernel_rfl) (by kernel_rfl) (fun _ _ _ h=>h) (.inl ⟨by rfl,fun _ _=>by go_simp⟩) hH ?_
    try simp only [Act.put,List.getElem_toArray,List.getElem_cons_succ,List.getElem_cons_zero,List.setIfInBounds_toArray,List.set_cons_zero,List.set_cons_succ]
    refine wpAnyH_take (i:=2) (v:=.int .i64 (an.code:Int)) rfl (by kernel_rfl) (by kernel_rfl) (by kernel_rfl) (fun _ _ _ h=>h) (.inl ⟨by rfl,fun w' h=>by have h9:=h.2.cell 0;simp only [zAh,List.getElem?_cons_zero] at h9;go_simp⟩) hH ?_
    try simp only [Act.put,List.getElem_toArray,List.getElem_cons_succ,List.getElem_cons_zero,List.setIfInBounds_toArray,List.set_cons_zero,List.set_cons_succ]
    refine wpAnyH_take (i:=3) (v:=.agg (zAh an.code st0 zAg zAg).toArray) rfl (by kernel_rfl) (by kernel_rfl) (by kernel_rfl) (fun _ _ _ h=>h) (.inl ⟨by rfl,fun _ _=>by go_simp;try rfl⟩) hH ?_
    try simp only [Act.put,List.getElem_toArray,List.getElem_cons_succ,List.getElem_cons_zero,List.setIfInBounds_toArray,List.set_cons_zero,List.set_cons_succ]
    have fB:=fE.out.fresh fT;refine wpAnyH_ready (rs:=[4]) (by kernel_rfl) (by simp) (AllReadyH.cons rfl (fun K hK=>?_) AllReadyH.nil);rw [if_pos (by rfl)];refine wp_store_row 28 _ _ rfl (g+2) (zAa t).toArray rfl rfl 28 _ fB.rb rfl rfl (zAc t) ?_;refine hK.out _ _ ⟨Blk.row_far hH.1 (by omega) _,Blk.row_far hH.2 (by omega) _⟩ fun hH=>?_;clear hK K
    try simp only [Act.put,List.getElem_toArray,List.getElem_cons_succ,List.getElem_cons_zero,List.setIfInBounds_toArray,List.set_cons_zero,List.set_cons_succ]
    refine wpAnyH_ready (rs:=[5]) (by kernel_rfl) (by simp) (AllReadyH.cons rfl (fun K hK=>?_) AllReadyH.nil);rw [if_pos (by rfl)];refine wp_store_row 67 _ _ rfl (g+3) (zAh an.code st0 zAg zAg).toArray rfl rfl 67 _ (fB.ab.row_far (by omega) _) rfl rfl (zBj _ _) ?_;refine hK.out _ _ ⟨Blk.row_far hH.1 (by omega) _,Blk.row_far hH.2 (by omega) _⟩ fun hH=>?_;clear hK K
    try simp only [Act.put,List.getElem_toArray,List.getElem_cons_succ,List.getElem_cons_zero,List.setIfInBounds_toArray,List.set_cons_zero,List.set_cons_succ]
    refine wpAnyH_done (by kernel_rfl) ?_ _;clear hH;go_wp2;exact zAZ (k:=4) fB.rb fB.ab fM.out fQ.out (fL.out _ fB.bl) (zAx _ _ an.code st0) rfl fB.bl fN.out ⟨by omega,by omega⟩ ⟨by omega,by omega⟩ (by omega) rfl rfl rfl rfl
end Go.Proofs.YtolpcfhfcdkokaaGreatDoor
