/- Joined out of WTells..WTells. -/
import Derived.Test.YtolpcfhfcdkokaaGreatDoorQ50
import Derived.Test.YtolpcfhfcdkokaaGreatDoorQ52
set_option maxHeartbeats 16000000
set_option maxRecDepth 100000
namespace Go.Proofs.YtolpcfhfcdkokaaGreatDoor
open Lib (hid)
open Go.RowKit Go.Proofs
theorem zF8 {l l2:List Nd} (h:l2.map Nd.tn=l.map Nd.tn):l.length=l2.length∧∀ i (h1:i<l2.length) (h2:i<l.length),ndSame l2[i] l[i]:=by
 refine⟨by have:=congrArg List.length h;simpa using this.symm,fun i h1 h2=>?_⟩
 have h4:(l2.map Nd.tn)[i]? = (l.map Nd.tn)[i]?:=by rw [h]
 rw [List.getElem?_map,List.getElem?_map,List.getElem?_eq_getElem h1,List.getElem?_eq_getElem h2] at h4;have h5:=Option.some.inj h4;simp only [Nd.tn,Tn.mk.injEq] at h5;exact h5
section
variable {w0 w:World} {S:Nat→Prop} {p mb:Nat} {T T2:PT} {t:Tr} {m0:Int}
theorem zHu (h:zD4 w0 w S p mb T T2 t) (hI:T.Inv) (hm:w0.cell? ⟨0,0,none⟩=some (.int .i64 m0)):Calls Tryz.prog 10 #[ifV p] w (zFa T w):=by
 obtain⟨own,lay,a,b,c',d,e⟩:=h;exact ddump_any own lay p mb T m0 w a hI ((e.cell (p:=⟨0,0,none⟩) (World.block_lt_of_cell? _ _ hm)).trans hm) (zIu hI)
theorem gr_rdump (h:zD4 w0 w S p mb T T2 t) (hI:T2.Inv):Calls Tryz.prog 11 #[.agg (zAa t).toArray] w (zFa T2 w):=by
 obtain⟨own,lay,a,b,c',d,e⟩:=h;exact udump_any _ t T2 w b hI (zIu hI)
theorem gr_room (h:zD4 w0 w S p mb T T2 t) (hI:T.Inv):Calls Tryz.prog 14 #[.pointer (some ⟨p,0,none⟩)] w fun e w'=>e=.returned (zEe T)∧Below w.heap.size w w':=by
 obtain⟨own,lay,a,b,c',d,e⟩:=h;exact zG0 own lay p mb T w a hI.gr.ok
theorem gr_rroom (h:zD4 w0 w S p mb T T2 t) (hI:T2.Inv):Calls Tryz.prog 15 #[.agg (zAa t).toArray] w fun e w'=>e=.returned (zEe T2)∧Below w.heap.size w w':=by
 obtain⟨own,lay,a,b,c',d,e⟩:=h;exact rroom_any _ t T2 w b hI
end
theorem zJq (a b:Int) (x y:Operand) (W:World):(eqGuard BinOp.eql 40 x y (.agg #[.int .i64 a,.int .i64 0,.int .i64 b]) (.agg #[.int .i64 a,.int .i64 0,.int .i64 b])).run Tryz.prog W=.ok () W:=by go_simp
theorem room_eq (a b:Int) (W:World):(binOp BinOp.eql 40 (.agg #[.int .i64 a,.int .i64 0,.int .i64 b]) (.agg #[.int .i64 a,.int .i64 0,.int .i64 b])).run Tryz.prog W=.ok (.bool true) W:=by go_simp
theorem zDT {P:PT} (hI:P.Inv) {l:List Nd} (h:l.map Nd.tn=P.dump.1):l.length≤4096:=by
 by_cases h0:P.dump.2=0
 · have h1:=congrArg List.length h;rw [List.length_map,(dump_ok h0).1,PT.mks_len] at h1;have:=spots_few hI;omega
 · rw [zIv h0] at h;rw [List.map_eq_nil_iff.1 h];simp
theorem zIR {P:PT} (hI:P.Inv) {l:List Nd} (h:l.map Nd.tn=P.dump.1):∀ x∈l,x.data.length≤1000000000:=fun x hx=>by
 have h9:x.tn∈P.dump.1:=h▸List.mem_map.2 ⟨x,hx,rfl⟩;by_cases h0:P.dump.2=0
 · have:=(dump_node hI h0 x.tn h9).2.2.1;simp only [Nd.tn] at this;omega
 · rw [zIv h0] at h9;cases h9
theorem tells_any (s i m0:Int) (A:Option Addr) (cap:Nat) (l:List Os) (w:World) (hN:ScrAt w w.heap.size A l) (lB:l.length≤281474976710656) (gE:∀ x∈l,x.o.path.size≤140737488351232∧x.o.dst.size≤140737488351232∧x.o.data.length≤140737488351232)
 (kL:∀ x∈l,osWf x) (hm:w.cell? ⟨0,0,none⟩=some (.int .i64 m0)) (hs : -9223372036854775808≤s∧s≤9223372036854775807) (hi : -9223372036854775808≤i∧i≤9223372036854775807) :
 Calls Tryz.prog 3 #[.int .i64 s,.int .i64 i,.slice A l.length cap] w fun e w'=>e=.returned (.bool true)∧Below w.heap.size w w':=by
 obtain⟨Q,hQ⟩:∃ Q:Ending→World→Prop,(fun e w'=>e=.returned (.bool true)∧Below w.heap.size w w')=Q:=⟨_,rfl⟩;rw [hQ];have kM:=hid hQ;have kN:=fun W hN=>light_any A cap l W hN lB gE;have kO:=fun W hN hm gF lC=>grown_any s i A cap l m0 W hN kL hm hs hi gF lC;obtain⟨len,fP⟩:∃ len,l.length=len:=⟨_,rfl⟩;rw [fP];have jN:=hid kN;have jO:=hid kO;have fM:=hid fP;have jG:=hid hm;have kP:=hid hN;obtain⟨z1,z2,z3⟩:=sz_ok s i;have fA:=hid (zGi (l.map (·.o)) (inv_new z1 z2 z3));clear kN fP kL hm hN gE kO hQ z1 z2 z3 hs hi;go_enter Tryz.func3,Tryz.ntmps3;go_upto_region 2 with (go_at_call 7;refine (awake_any _).mono ?_;rintro e w2 ⟨rfl,kQ⟩);have fE:=hid kQ;have jP:=jN.out w2 ((kP.out.below fE.out).more fE.out.size);rw [fM.out] at jP;clear kQ;go_upto_region 3 with (go_at_call 8;refine jP.mono ?_;rintro e w3 ⟨rfl,nq,rfl⟩);have kR:Below w.heap.size w (w2.drewN nq):=zAf fE.out nq;generalize w2.drewN nq=w3 at *;have fB:=hid kR;clear jP kR fE
 cases jQ:zFA l with
 | false =>
  clear jQ;go_wp2;rw [←kM.out];exact⟨rfl,fB.out⟩
 | true =>
 obtain⟨gG,fN⟩:=zHV jQ;have gH:=jO.out w3 ((kP.out.below fB.out).more fB.out.size) ((fB.out.cell (p:=⟨0,0,none⟩) (World.block_lt_of_cell? _ _ jG.out)).trans jG.out) (fun x hx=>light_one gG hx) fN;have jR:=hid ((fB.out.cell (p:=⟨0,0,none⟩) (World.block_lt_of_cell? _ _ jG.out)).trans jG.out);rw [fM.out] at gH;unfold GrownP at gH;clear jQ gG fN;obtain⟨P,hP⟩:∃ P,(PT.new (szN s) (szM s i)).runs (l.map (·.o))=P:=⟨_,rfl⟩;rw [hP] at gH fA;clear hP
 go_upto_region 6 with (first
  | (go_at_call 9;refine gH.mono ?_;rintro e w4 ⟨p,mb,t,rfl,kS⟩)
  | (refine wpList_store_row rfl 28 _ _ rfl w4.heap.size (zAa t).toArray rfl (by rfl) 28 _ (Blk.new w4 28 z4) rfl rfl (zAc t) ?_))
 obtain⟨k1,k2⟩:=zAP w4 t;change Code.wp _ _ _ _ ((w4.alloc (.cells z4.toArray 28)).setRow w4.heap.size (zAa t).toArray);have jS:=kS.fresh k2;generalize (w4.alloc (.cells z4.toArray 28)).setRow w4.heap.size (zAa t).toArray=w5 at *;generalize w4.heap.size=h at *;have fC:=hid jS;have gI:=hid k1;have jH:=zHu jS fA.out jR.out;obtain⟨cd,jT⟩:∃ cd,P.dump.2=cd:=⟨_,rfl⟩;unfold zFa ifV at jH;rw [jT] at jH;have fQ:=hid jT;clear kS k1 k2 jS gH jT;go_upto_region 9 with (go_at_call 10;refine jH.mono ?_;rintro e w6 ⟨⟨v6,l6,rfl,jU,kT⟩,jV⟩);obtain⟨A6,c6,rfl,-⟩:=jU.nodes;have jI:=zHu (fC.out.fresh jV) fA.out jR.out;unfold zFa ifV at jI;rw [fQ.out] at jI;have fR:=hid jU;have fF:=hid jV;have fG:=hid kT;clear jH jU jV kT;go_upto_region 10 with (go_at_call 10;refine jI.mono ?_;rintro e w7 ⟨⟨v7,l7,rfl,jW,kU⟩,jX⟩);obtain⟨A7,c7,rfl,-⟩:=jW.nodes;have fH:=hid (fF.out.trans (jX.mono fF.out.size));have jJ:=gr_rdump (fC.out.fresh fH.out) fA.out;unfold zFa at jJ;rw [fQ.out] at jJ;have fS:=hid jW;have gJ:=hid jX;have fI:=hid kU;have kV:=gI.out.fresh fH.out;clear jI jW jX kU
 go_upto_region 11 with (first
  | (refine wpList_load_row rfl 28 _ rfl h rfl 28 (zAa t).toArray _ _ kV Tryz.underlying28 rfl rfl ?_)
  | (go_at_call 11;refine jJ.mono ?_;rintro e w8 ⟨⟨v8,l8,rfl,jY,jK⟩,gK⟩))
 obtain⟨A8,c8,rfl,fO⟩:=jY.nodes;have gL:=hid (fH.out.trans (gK.mono fH.out.size));have fT:=(fR.out.fresh gJ.out).fresh gK;have gM:=fS.out.fresh gK;have gN:=hid jY;have lD:=hid gK;have jZ:=hid jK;obtain⟨x6,y6⟩:=zF8 (l2:=l6) (l:=l8) (by rw [fG.out,jK]);obtain⟨x7,y7⟩:=zF8 (l2:=l7) (l:=l8) (by rw [fI.out,jK]);obtain⟨A6',c6',e6,kW⟩:=fT.nodes;injection e6 with e6 _ e6';subst e6 e6';have fU:=zET A6 A8 c6 c8 l6 l8 w8 kW fO x6 (by have:=zDT fA.out fG.out;omega) y6;rw [←x6] at fU;have gO:=hid fT;have gP:=hid gM;have kA:=hid x6;have fV:=hid x7;have lE:=hid y7;clear jJ jY gK jK fT gM y6 y7 kW fO kV;rw [←x6,←x7];clear x6 x7;go_upto_region 12 with (go_at_call 12;refine fU.mono ?_;rintro e w9 ⟨rfl,gQ⟩);have fW:=gP.out.fresh gQ;have fX:=gN.out.fresh gQ;obtain⟨A7',c7',e7,kX⟩:=fW.nodes;injection e7 with e7 _ e7';subst e7 e7';obtain⟨A8',c8',e8,fO⟩:=fX.nodes;injection e8 with e8 _ e8';subst e8 e8';have fY:=zET A7 A8 c7 c8 l7 l8 w9 kX fO fV.out (by have:=zDT fA.out fI.out;omega) lE.out;rw [←fV.out] at fY;have gR:=hid (gL.out.trans (gQ.mono gL.out.size));have gS:=hid (gO.out.fresh gQ);have gT:=hid fW;have gU:=hid fX;clear fU gQ fW fX kX fO gO gP;go_upto_region 13 with (go_at_call 12;refine fY.mono ?_;rintro e w10 ⟨rfl,fD⟩);have gV:=hid (gR.out.trans (fD.mono gR.out.size));have kC:=hid (gS.out.fresh fD);have kD:=hid (gT.out.fresh fD);have kE:=hid (gU.out.fresh fD)
 have q1:((cd:Int) != (cd:Int))=false:=by simp
 clear fY fD gS gT gU
 have gW:∀ g,zJ7 (.slice A6 l6.length c6) l6 g→¬zJ7 (.slice A7 l7.length c7) l7 g:=fun g h1 h2=>by
  have:=(fR.out.blk h1).2;have:=(fS.out.blk h2).1;omega
 have hL:=lists2 kC.out kD.out fF.out.size gW;have kF:=gV.out.size;have lI:=fF.out.size
 have kG:Hid (∀ i b,i<2→zJ7 (if i=0 then (.slice A6 l6.length c6) else (.slice A7 l7.length c7)) (if i=0 then l6 else l7) b→w5.heap.size≤b∧b<w7.heap.size):=hid fun i b hi hb=>by
  by_cases e:i=0
  · rw [if_pos e,if_pos e] at hb;have h1:=fR.out.blk hb;have:=gJ.out.size;omega
  · rw [if_neg e,if_neg e] at hb;have h1:=fS.out.blk hb;omega
 rw [←kA.out,←fV.out] at hL kG
 have gX:=owned_chg w5.heap.size w10.heap.size 2 2 _ _ _ hL (by simp;omega) (by omega) (by omega) (fun i hi=>by
  by_cases e:i=0
  · simp only [if_pos e];exact⟨by have:=zDT fA.out fG.out;omega,zIR fA.out fG.out⟩
  · simp only [if_neg e];exact⟨by have:=zDT fA.out fI.out;omega,zIR fA.out fI.out⟩)
 clear hL gW;go_upto_region 16 with (go_at_call 13;refine gX.mono ?_;rintro e w11 ⟨rfl,fZ⟩);have jL:Below w10.heap.size w10 (w10.alloc (.cells #[.slice A6 l8.length c6,.slice A7 l8.length c7] 31)):=(Below.refl _ _).alloc (Nat.le_refl _) _;have fJ:=hid ((gV.out.trans (jL.mono kF)).trans (fZ.below (by have:=jL.size;omega) fun b hb ⟨i,hi,h⟩=>by have:=(kG.out i b hi h).1;omega))
 have kI:=hid ((kE.out.fresh jL).keep fZ fun g h1 ⟨i,hi,h⟩=>by
  have:=(kG.out i g hi h).2;have:=(gN.out.blk h1).1;omega)
 have lF:=gI.out.fresh fJ.out;have jM:=zHu (fC.out.fresh fJ.out) fA.out jR.out;unfold zFa ifV at jM;rw [fQ.out] at jM;clear gX fZ jL lF;go_upto_region 17 with (go_at_call 10;refine jM.mono ?_;rintro e w12 ⟨⟨v12,l9,rfl,gY,gA⟩,gB⟩);obtain⟨A12,c12,rfl,gZ⟩:=gY.nodes;obtain⟨x9,y9⟩:=zF8 (l2:=l9) (l:=l8) (by rw [gA,jZ.out]);obtain⟨A8',c8',e8,fO⟩:=(kI.out.fresh gB).nodes;injection e8 with e8 _ e8';subst e8 e8';have gC:=zET A12 A8 c12 c8 l9 l8 w12 gZ fO x9 (by have:=zDT fA.out gA;omega) y9;rw [←x9] at gC;have jA:=hid (fJ.out.trans (gB.mono fJ.out.size));rw [←x9];clear jM gY gA gB gZ fO x9 y9;go_upto_region 18 with (go_at_call 12;refine gC.mono ?_;rintro e w13 ⟨rfl,jB⟩);have gD:=jA.out.trans (jB.mono jA.out.size);have kY:Below w13.heap.size w13 w13.drew:=(Below.refl _ _).drew;have fK:=hid (gD.trans (kY.mono gD.size));have kZ:=gr_room (fC.out.fresh fK.out) fA.out;obtain⟨a0,a1,a2,a3⟩:=zAr (gI.out.fresh fK.out);have lG:∀ W,(eqGuard BinOp.eql 40 (.tmp 105) (.tmp 107) (zEe P) (zEe P)).run Tryz.prog W=.ok () W:=fun W=>zJq _ _ _ _ W;have lH:∀ W,(binOp BinOp.eql 40 (zEe P) (zEe P)).run Tryz.prog W=.ok (.bool true) W:=fun W=>room_eq _ _ W;obtain⟨rm,kJ⟩:∃ rm,zEe P=rm:=⟨_,rfl⟩;rw [kJ] at kZ lG lH;have kK:=hid kJ
 have q2:((cd:Int)==(cd:Int))=true:=by simp
 clear gC jB gD kY kJ
 go_region_held3 (fun w'=>w'.cell? ⟨h,0,none⟩=some (.int .i64 t.sectors)∧w'.cell? ⟨h,1,none⟩=some (.int .i64 t.inodes)∧w'.cell? ⟨h,2,none⟩=some (.int .i64 t.births)∧w'.cell? ⟨h,3,none⟩=some (.slice t.A t.l.length t.c))
  (first | go_keep)
  (first
   | (go_at_call 14;(with_reducible refine kZ.mono ?_);rintro e w17 ⟨rfl,jC⟩;have fL:=hid (fK.out.trans (jC.mono fK.out.size));obtain⟨b0,b1,b2,b3⟩:=zAr (gI.out.fresh fL.out);have lA:=gr_rroom (fC.out.fresh fL.out) fA.out;rw [kK.out] at lA;clear jC)
   | (go_at_call 15;(with_reducible refine lA.mono ?_);rintro e w18 ⟨rfl,jD⟩;have jE:=hid (fL.out.trans (jD.mono fL.out.size));obtain⟨d0,d1,d2,d3⟩:=zAr (gI.out.fresh jE.out);clear jD))
 go_wp2;rw [←kM.out];have jF:=fC.out.below;exact⟨rfl,(fB.out.trans (jF.mono fB.out.size)).trans (jE.out.mono (Nat.le_trans fB.out.size jF.size))⟩
end Go.Proofs.YtolpcfhfcdkokaaGreatDoor
