/- Joined out of SLinks..STakes. -/
import Derived.Test.YtolpcfhfcdkokaaGreatDoorQ36
set_option maxHeartbeats 16000000
set_option maxRecDepth 100000
set_option linter.unusedSimpArgs false
set_option linter.unusedVariables false
namespace Go.Proofs.YtolpcfhfcdkokaaGreatDoor
open Lib (hid)
open Go.RowKit
theorem zJP (S:Nat→Prop) (t:Tr) (T:PT) (A:Option Addr) (c:Nat) (l:List ByteArray) (A2:Option Addr) (c2:Nat) (l2:List ByteArray) (w:World) (h:RefS S w t T) (hS:∀ b,S b→b<w.heap.size) (hT:T.Inv)
 (hl:NmAt w w.heap.size A c l) (hc:∀ x∈l,chk x=true) (jF:NmAt w w.heap.size A2 c2 l2) (gM:∀ x∈l2,chk x=true) :
 Calls Tryz.prog 77 #[.agg (zAa t).toArray,.slice A l.length c,.slice A2 l2.length c2] w (zHx S (T.link l l2) w):=by
 obtain⟨Q,hQ⟩:∃ Q,zHx S (T.link l l2) w=Q:=⟨_,rfl⟩;rw [hQ];obtain⟨g,hz⟩:∃ g,w.heap.size=g:=⟨_,rfl⟩;have fM:=hid (zBV h hz 2);have jG:=hid (inS (k:=2) hS hz);have jH:=hid fun (j:Nat) (n:PN) (hg:zAd j T.nodes=some n)=>zDP h hz 2 hT.gr.ok hg;have gF:=hid fun W (hb:Below g w W)=>zED t T A c l W (zBV h hz 2 W hb).ref hT.wf (hl.fresh (hz.symm▸hb)) fun x hx=>zBp (hc x hx);have fJ:=hid fun W (hb:Below g w W)=>zC4 t T A2 c2 l2 W (zBV h hz 2 W hb).ref hT.wf (jF.fresh (hz.symm▸hb)) fun x hx=>zBp (gM x hx);have gN:=hid fun h=>zCw (T:=T) (m:=l2) h gM;have gO:=hid (zB0 hT.wf l 1 (let ⟨n,h,_⟩:=hT.wf.root;⟨n,h⟩));have gP:=hid (zBz hT.wf l2);have hu:=hid (PT.link.eq_1 T l l2);have fV:=st_0 w t;rw [hz] at fV;unfold zJy at fJ;rw [show trV t=.agg (zAa t).toArray from rfl] at gF fJ;have fH:=hid hT;have fK:Hid (zHx S (T.link l l2) w=Q):=hQ;generalize jY:T.link l l2=lk at hu fK;clear jY hQ h hS hT hl hc jF gM;generalize T.walk l 1=r1 at *;generalize T.last l2=r2 at *;obtain⟨i,e1⟩:=r1;obtain⟨d,e2⟩:=r2;generalize zAL l2=nm at *;generalize l.length=n1 at *;generalize l2.length=n2 at *;simp only at gF fJ gN gO gP hu;have fN:=hid hz;go_enter Tryz.func77,Tryz.ntmps77;go_upto_region 1 with (fail)
 try simp only [hz]
 change Code.wp _ _ _ _ ((w.alloc (.cells (zAa t).toArray 28)).alloc (.cells z4.toArray 28));generalize (w.alloc (.cells (zAa t).toArray 28)).alloc (.cells z4.toArray 28)=w0 at *;clear hz
 go_upto_region 2 with (first
  | (refine wpList_load_row rfl 28 _ rfl g rfl 28 (zAa t).toArray _ _ fV.tb Tryz.underlying28 rfl rfl ?_)
  | (go_at_call 80;(with_reducible refine (gF.out w0 fV.bl).mono ?_);rintro e w1 ⟨rfl,jI⟩;have fB:=fV.fresh jI))
 clear fV jI gF;by_cases h1:e1=0;rotate_left
 · have fW:((e1:Int) != 0)=true:=by simp;omega
   go_wp2_with (first
    | (refine wpList_load_row rfl 28 _ rfl g rfl 28 (zAa t).toArray _ _ fB.tb Tryz.underlying28 rfl rfl ?_)
    | (refine wpList_store_row rfl 28 _ _ rfl (g+1) (zAa t).toArray rfl (by rfl) 28 _ fB.rb rfl rfl (zAc t) ?_))
   exact zAB fB.rb fK.out (by rw [hu.out,if_pos h1]) (fM.out _ fB.bl) fB.bl fN.out ⟨by omega,by omega⟩ rfl rfl rfl rfl
 subst h1;obtain⟨m1,fX⟩:=gO.out rfl;by_cases h2:e2=0;rotate_left
 · have fW:((e2:Int) != 0)=true:=by simp;omega
   simp only [if_neg h2] at fJ
   go_wp2_with (first
    | (refine wpList_load_row rfl 28 _ rfl g rfl 28 (zAa t).toArray _ _ fB.tb Tryz.underlying28 rfl rfl ?_)
    | (go_at_call 109;(with_reducible refine (fJ.out w1 fB.bl).mono ?_);rintro e w2 ⟨rfl,gG⟩;have fI:=fB.fresh gG)
    | (refine wpList_load_row rfl 28 _ rfl g rfl 28 (zAa t).toArray _ _ fI.tb Tryz.underlying28 rfl rfl ?_)
    | (refine wpList_store_row rfl 28 _ _ rfl (g+1) (zAa t).toArray rfl (by rfl) 28 _ fI.rb rfl rfl (zAc t) ?_))
   exact zAB fI.rb fK.out (by rw [hu.out,if_neg (by simp),if_pos h2]) (fM.out _ fI.bl) fI.bl fN.out ⟨by omega,by omega⟩ rfl rfl rfl rfl
 subst h2;simp only [if_true] at fJ;obtain⟨m2,fY,gQ⟩:=gP.out rfl;have gR:=gN.out rfl;have fO:=(fH.out.gr.ok.get fY).1;obtain⟨x2,-,-,gS⟩:=jH.out d m2 fY;obtain⟨x1,jJ,fP,jK⟩:=jH.out i m1 fX;have fZ:=hid jK;have fD:=hid fX;have fE:=hid fY;have fQ:=hid gQ;have gA:=hid gR;have gT:=hid fO;have gU:Hid (lk=if (zAd nm m2.names).isSome then (T,111) else if m1.dir=true then (T,102) else if m1.links=100 then (T,142) else if (T.place m2).2≠0 then (T,(T.place m2).2) else ((T.linksUp i).ins d (T.place m2).1 nm i,0)):=hid (by rw [hu.out,if_neg (by simp),if_neg (by simp),zAp fX,zAp fY,zAn fX]);clear hu gN gO gP
 go_upto_region 7 with (first
  | (refine wpList_load_row rfl 28 _ rfl g rfl 28 (zAa t).toArray _ _ fB.tb Tryz.underlying28 rfl rfl ?_)
  | (go_at_call 109;(with_reducible refine (fJ.out w1 fB.bl).mono ?_);rintro e w2 ⟨rfl,gG⟩;have fI:=fB.fresh gG))
 clear fB gG fJ;have gV:=hid fun W (hb:Below g w W)=>zDN (gS W hb).1 fO gQ (zBp gR);have gB:=hid gS;clear gS jK fX fY gQ gR fO;simp only [hdV] at gV
 go_upto_region 8 with (first
  | (refine wpList_load_row rfl 28 _ rfl g rfl 28 (zAa t).toArray _ _ fI.tb Tryz.underlying28 rfl rfl ?_)
  | (go_at_call 81;(with_reducible refine ((gB.out w2 fI.bl).2).mono ?_);rintro e w3 ⟨rfl,jL⟩;have gW:=fI.fresh jL)
  | (go_at_call 110;(with_reducible refine ((gV.out w3 gW.bl)).mono ?_);rintro e w4 hf;obtain⟨kk,ii,rfl,jM,jN⟩:=hf.uni;have gH:=gW.fresh jN;clear hf))
 clear fI gW jL jN gV gB
 go_upto_region 9 with (first
  | (refine wpList_load_row rfl 28 _ rfl g rfl 28 (zAa t).toArray _ _ gH.tb Tryz.underlying28 rfl rfl ?_)
  | (go_at_call 81;(with_reducible refine ((fZ.out w4 gH.bl).2).mono ?_);rintro e w5 ⟨rfl,jO⟩;have gI:=gH.fresh jO)
  | (refine wpList_store_row rfl 123 _ _ rfl w5.heap.size (zAb x1).toArray rfl (by rfl) 123 _ (Blk.new w5 123 z8) rfl rfl (zHl x1) ?_))
 obtain⟨hX,fA⟩:=gI.held x1;change Code.wp _ _ _ _ ((w5.alloc (.cells z8.toArray 123)).setRow w5.heap.size (zAb x1).toArray);have jZ:g+2≤w5.heap.size:=gI.le;have kA:=((fM.out w5 gI.bl).addR 1 (Nat.le_refl _)).fresh (zBx w5 x1).2;clear gH jO gI;generalize (w5.alloc (.cells z8.toArray 123)).setRow w5.heap.size (zAb x1).toArray=w6 at *;generalize w5.heap.size=y at *;obtain⟨b0,b1,b2,b3,b4,b5,b6,b7⟩:=zAO hX;rcases jM.out with ⟨j,k,hgj,hkj,rfl,rfl⟩ | ⟨hgj,rfl,rfl⟩
 · have t0:decide ((0:Int)≤(k:Int))=true:=by simp
   go_wp2_with (first
    | (refine wpList_load_row rfl 28 _ rfl g rfl 28 (zAa t).toArray _ _ fA.tb Tryz.underlying28 rfl rfl ?_)
    | (refine wpList_store_row rfl 28 _ _ rfl (g+1) (zAa t).toArray rfl (by rfl) 28 _ fA.rb rfl rfl (zAc t) ?_))
   exact zAB fA.rb fK.out (by rw [gU.out,hgj];rfl) (fM.out _ fA.bl) fA.bl fN.out ⟨by omega,by omega⟩ rfl rfl rfl rfl
 have fC:=gU.out;rw [hgj] at fC;simp only [Option.isSome_none,Bool.false_eq_true,if_false] at fC;have gX:=hid hgj;clear jM gU hgj
 have fU:x1.kind=2∧m1.dir=true∨x1.kind=1∧m1.dir=false:=by rw [jJ];unfold PN.kind;cases m1.dir<;>simp
 rw [fP] at b2;rcases fU with ⟨fU,gC⟩ | ⟨fU,gC⟩
 · rw [fU] at b1;rw [if_pos gC] at fC;have fF:=hid fC;clear fC
   go_wp2_with (first
    | (refine wpList_load_row rfl 28 _ rfl g rfl 28 (zAa t).toArray _ _ fA.tb Tryz.underlying28 rfl rfl ?_)
    | (refine wpList_store_row rfl 28 _ _ rfl (g+1) (zAa t).toArray rfl (by rfl) 28 _ fA.rb rfl rfl (zAc t) ?_))
   exact zAB fA.rb fK.out (by rw [fF.out]) (fM.out _ fA.bl) fA.bl fN.out ⟨by omega,by omega⟩ rfl rfl rfl rfl
 rw [fU] at b1;rw [if_neg (by rw [gC];simp)] at fC;have jP:=(fH.out.gr.ok.get fD.out).1.links;by_cases fR:m1.links=100
 · rw [if_pos fR] at fC;have fF:=hid fC;rw [fR] at b2;clear fC
   go_wp2_with (first
    | (refine wpList_load_row rfl 28 _ rfl g rfl 28 (zAa t).toArray _ _ fA.tb Tryz.underlying28 rfl rfl ?_)
    | (refine wpList_store_row rfl 28 _ _ rfl (g+1) (zAa t).toArray rfl (by rfl) 28 _ fA.rb rfl rfl (zAc t) ?_))
   exact zAB fA.rb fK.out (by rw [fF.out]) (fM.out _ fA.bl) fA.bl fN.out ⟨by omega,by omega⟩ rfl rfl rfl rfl
 rw [if_neg fR] at fC;have fF:=hid fC
 have kE:decide ((m1.links:Int)≥100)=false:=by simp;omega
 clear fC;have jQ:Hid (RefS (zAM (zAM S g 2) y 1) w6 t T):=hid kA;have jR:Hid (∀ b,zAM (zAM S g 2) y 1 b→b<w6.heap.size):=hid (zBe (fun b hb=>jG.out w6 fA.le b hb) (by have:=hX.lt;omega));have fG:=hid (zI2 w6 jQ.out jR.out fH.out fE.out fQ.out (fH.out.gr.ok.get fD.out).2 gA.out gX.out);obtain⟨pl,gY⟩:∃ pl,T.place m2=pl:=⟨_,rfl⟩;obtain⟨k,c7⟩:=pl;unfold PutP at fG;rw [gY] at fG fF;simp only at fG fF;have gD:=hid gY;clear gY
 go_upto_region 16 with (first
  | (refine wpList_load_row rfl 28 _ rfl g rfl 28 (zAa t).toArray _ _ fA.tb Tryz.underlying28 rfl rfl ?_)
  | (go_at_call 112;(with_reducible refine (fG.out).mono ?_);rintro e w7 ⟨⟨t7,rfl,jS⟩,gJ⟩;have jT:=fA.fresh gJ)
  | (refine wpList_store_row rfl 28 _ _ rfl w7.heap.size (zAa t7).toArray rfl (by rfl) 28 _ (Blk.new w7 28 z4) rfl rfl (zAc t7) ?_))
 obtain⟨hU,gK⟩:=zAP w7 t7;have fS:=jT.fresh gK;have gL:=(hX.fresh gJ).fresh gK;have kF:y<w7.heap.size:=(hX.fresh gJ).lt;have gZ:=hid (jS.fresh gK);change Code.wp _ _ _ _ ((w7.alloc (.cells z4.toArray 28)).setRow w7.heap.size (zAa t7).toArray);clear fA gJ jT gK jS hX fG jR jQ b0 b1 b2 b3 b4 b5 b6 b7;generalize (w7.alloc (.cells z4.toArray 28)).setRow w7.heap.size (zAa t7).toArray=w8 at *;generalize w7.heap.size=ub at *;by_cases h7:c7=0;rotate_left
 · have fW:((c7:Int) != 0)=true:=by simp;omega
   rw [if_pos h7] at fF
   go_wp2_with (first
    | (refine wpList_load_row rfl 28 _ rfl g rfl 28 (zAa t).toArray _ _ fS.tb Tryz.underlying28 rfl rfl ?_)
    | (refine wpList_store_row rfl 28 _ _ rfl (g+1) (zAa t).toArray rfl (by rfl) 28 _ fS.rb rfl rfl (zAc t) ?_))
   exact zAB fS.rb fK.out (by rw [fF.out]) (fM.out _ fS.bl) fS.bl fN.out ⟨by omega,by omega⟩ rfl rfl rfl rfl
 subst h7;simp only [ne_eq,not_true_eq_false,if_false,if_true] at fF gZ;have b2:=gL.cell 2;simp only [zAb,List.getElem?_cons_succ,List.getElem?_cons_zero] at b2;rw [fP] at b2;have jU:IntKind.i64.wrap ((m1.links:Int)+1)=(m1.links:Int)+1:=zAF _ (by omega);have kC:Blk (w8.setCell ⟨y,2,none⟩ (.int .i64 ((m1.links:Int)+1))) y 123 (zAb {x1 with links:=(m1.links:Int)+1}):=gL.set_ 2 _;have jA:Chg (fun b=>b=y) w8 (w8.setCell ⟨y,2,none⟩ (.int .i64 ((m1.links:Int)+1))):=(Chg.refl (fun b=>b=y) w8).setCell (p:=⟨y,2,none⟩) (fun _=>rfl) _;have jB:=fS.chg jA jZ;have kD:=hU.chg jA (by omega);have jV:=(gZ.out.chg (jA.mono fun b _ (e:b=y)=>.inr (by omega))).mono fun b hb=>Or.inl hb;have jW:=((fZ.out _ jB.bl).1.linked (m1.links+1) ((m1.links:Int)+1) (by omega));have gE:(T.upd d (m2.set k nm i)).Ok:=fH.out.gr.ok.upd (zCy fH.out.wf fE.out fQ.out (by have:=zBu (T:=T) (nm:=nm) gT.out (by rw [gD.out]);rw [gD.out] at this;exact this) (zC5 gA.out) (by have:=(fH.out.gr.ok.get fD.out).2;have:=fH.out.gr.ok.ino;omega)) (fH.out.gr.ok.get fE.out).2;have fL:=hid (zBv jV (jG.out _ jB.le) gE jW);rw [show ∀ t,trV t=.agg (zAa t).toArray from fun _=>rfl,show ∀ x,hdV x=.agg (zAb x).toArray from fun _=>rfl] at fL
 have jX:lk=((T.upd d (m2.set k nm i)).upd i {m1 with links:=m1.links+1},0):=by
  have fW:d≠i:=fun e=>by
   have h1:=fE.out;rw [e,fD.out] at h1;rw [Option.some.inj h1,fQ.out] at gC;cases gC
  rw [fF.out,zIn fH.out.gr.ok _ _ fW];unfold PT.linksUp PT.ins;rw [zAp fD.out,zAm _ fW,fE.out]
 have kG:=gL.frozen 2;have jC:=hid jX;clear fF jW jV gE jX fS hU gL gZ jJ fP fU;go_upto_region 19 with (fail)
 try simp only [jU]
 try rw [jU]
 generalize w8.setCell ⟨y,2,none⟩ (.int .i64 ((m1.links:Int)+1))=w9 at *
 go_wp2_with (first
  | (refine wpList_load_row rfl 28 _ rfl ub rfl 28 (zAa t7).toArray _ _ kD Tryz.underlying28 rfl rfl ?_)
  | (refine wpList_load_row rfl 123 _ rfl y rfl 123 (zAb {x1 with links:=(m1.links:Int)+1}).toArray _ _ kC Tryz.underlying123 rfl rfl ?_)
  | (go_at_call 113;(with_reducible refine (fL.out).mono ?_);rintro e w10 ⟨⟨t10,rfl,jD⟩,jE⟩;have fT:=jB.fresh jE)
  | (refine wpList_store_row rfl 28 _ _ rfl (g+1) (zAa t10).toArray rfl (by rfl) 28 _ fT.rb rfl rfl (zAc t10) ?_))
 exact zAB fT.rb fK.out jC.out jD fT.bl fN.out ⟨by omega,by omega⟩ rfl rfl rfl rfl
theorem ne_name {T:PT} (hT:T.Inv) {d i:Nat} {n m:PN} {nm:ByteArray} (hd:zAd d T.nodes=some n) (fA:n.dir=true) (hi:zAd i T.nodes=some m) (hn:zAd nm n.names=some i):d≠i:=fun e=>by
 obtain⟨rk,hr⟩:=hT.gr.rank;subst e;have:=hr d n nm d hd hn (by rw [zAn hd];exact fA);omega
theorem zFw (S:Nat→Prop) (t:Tr) (T:PT) (A:Option Addr) (c:Nat) (l:List ByteArray) (dir:Bool) (w:World) (h:RefS S w t T) (hS:∀ b,S b→b<w.heap.size) (hT:T.Inv)
 (hl:NmAt w w.heap.size A c l) (hc:∀ x∈l,chk x=true) :
 Calls Tryz.prog 78 #[.agg (zAa t).toArray,.slice A l.length c,.bool dir] w (zHx S (if dir=true then T.rmdir l else T.unlink l) w):=by
 obtain⟨lk,fY⟩:∃ lk,(if dir=true then T.rmdir l else T.unlink l)=lk:=⟨_,rfl⟩;rw [fY];obtain⟨Q,hQ⟩:∃ Q,zHx S lk w=Q:=⟨_,rfl⟩;rw [hQ];obtain⟨g,hz⟩:∃ g,w.heap.size=g:=⟨_,rfl⟩;have fP:=hid (zBV h hz 2);have gX:=hid (inS (k:=2) hS hz);have gY:=hid fun (j:Nat) (n:PN) (hg:zAd j T.nodes=some n)=>zDP h hz 2 hT.gr.ok hg;have fN:=hid fun W (hb:Below g w W)=>zC4 t T A c l W (zBV h hz 2 W hb).ref hT.wf (hl.fresh (hz.symm▸hb)) fun x hx=>zBp (hc x hx);have gK:=hid fun h=>zCw (T:=T) (m:=l) h hc;have gL:=hid (zBz hT.wf l);unfold PT.rmdir PT.unlink at fY;rw [PT.entry.eq_1 T l] at fY;have fO:=st_0 w t;rw [hz] at fO;unfold zJy at fN;rw [show trV t=.agg (zAa t).toArray from rfl] at fN;have fF:=hid hT;have fQ:=hid hQ;have hu:=hid fY;clear fY hQ h hS hT hl hc;generalize T.last l=r2 at *;obtain⟨d,e2⟩:=r2;generalize zAL l=nm at *;generalize l.length=n1 at *;simp only at fN gK gL hu;have fR:=hid hz;go_enter Tryz.func78,Tryz.ntmps78;go_upto_region 1 with (fail)
 try simp only [hz]
 change Code.wp _ _ _ _ ((w.alloc (.cells (zAa t).toArray 28)).alloc (.cells z4.toArray 28));generalize (w.alloc (.cells (zAa t).toArray 28)).alloc (.cells z4.toArray 28)=w0 at *;clear hz;by_cases h2:e2=0;rotate_left
 · have jI:((e2:Int) != 0)=true:=by simp;omega
   simp only [if_neg h2] at fN
   have fC:lk=(T,e2):=by have h3:=hu.out;simp only [if_pos h2] at h3;cases dir<;>simp [h2] at h3<;>exact h3.symm
   go_wp2_with (first
    | (refine wpList_load_row rfl 28 _ rfl g rfl 28 (zAa t).toArray _ _ fO.tb Tryz.underlying28 rfl rfl ?_)
    | (go_at_call 109;(with_reducible refine (fN.out w0 fO.bl).mono ?_);rintro e w2 ⟨rfl,gF⟩;have fD:=fO.fresh gF)
    | (refine wpList_load_row rfl 28 _ rfl g rfl 28 (zAa t).toArray _ _ fD.tb Tryz.underlying28 rfl rfl ?_)
    | (refine wpList_store_row rfl 28 _ _ rfl (g+1) (zAa t).toArray rfl (by rfl) 28 _ fD.rb rfl rfl (zAc t) ?_))
   exact zAB fD.rb fQ.out (by exact fC) (fP.out _ fD.bl) fD.bl fR.out ⟨by omega,by omega⟩ rfl rfl rfl rfl
 subst h2;simp only [if_true] at fN;obtain⟨m2,fG,fZ⟩:=gL.out rfl;have gG:=gK.out rfl;have fE:=(fF.out.gr.ok.get fG).1;obtain⟨x2,-,-,fV⟩:=gY.out d m2 fG;have fC:=hu.out;rw [fG] at fC;simp only [ne_eq,not_true_eq_false,if_false,Option.bind_some] at fC
 go_upto_region 4 with (first
  | (refine wpList_load_row rfl 28 _ rfl g rfl 28 (zAa t).toArray _ _ fO.tb Tryz.underlying28 rfl rfl ?_)
  | (go_at_call 109;(with_reducible refine (fN.out w0 fO.bl).mono ?_);rintro e w2 ⟨rfl,gF⟩;have fD:=fO.fresh gF))
 clear fO gF fN hu gL gK
 cases fH:zAd nm m2.names with
 | none =>
  have fW:=hid fun W (hb:Below g w W)=>zGd (fV W hb).1 fE fZ (zBp gG) fH;have fK:=hid fV;rw [fH] at fC;have gH:Hid (lk=(T,110)):=hid (by simp only at fC;cases dir<;>simp at fC<;>exact fC.symm);clear fV fC fH fE;simp only [hdV] at fW
  go_wp2_with (first
   | (refine wpList_load_row rfl 28 _ rfl g rfl 28 (zAa t).toArray _ _ fD.tb Tryz.underlying28 rfl rfl ?_)
   | (go_at_call 81;(with_reducible refine ((fK.out w2 fD.bl).2).mono ?_);rintro e w3 ⟨rfl,gI⟩;have fX:=fD.fresh gI)
   | (go_at_call 110;(with_reducible refine ((fW.out w3 fX.bl)).mono ?_);rintro e w4 ⟨rfl,gJ⟩;have fI:=fX.fresh gJ)
   | (refine wpList_load_row rfl 28 _ rfl g rfl 28 (zAa t).toArray _ _ fI.tb Tryz.underlying28 rfl rfl ?_)
   | (refine wpList_store_row rfl 28 _ _ rfl (g+1) (zAa t).toArray rfl (by rfl) 28 _ fI.rb rfl rfl (zAc t) ?_))
  exact zAB fI.rb fQ.out (by rw [gH.out]) (fP.out _ fI.bl) fI.bl fR.out ⟨by omega,by omega⟩ rfl rfl rfl rfl
 | some i =>
  obtain⟨m1,fL⟩:=fF.out.gr.ents d m2 nm i fG fH;obtain⟨kp,gM⟩:=fF.out.gr.slotn d m2 nm i fG fH;obtain⟨x1,gZ,-,gN⟩:=gY.out i m1 fL;have fW:=hid fun W (hb:Below g w W)=>zDK (fV W hb).1 fE fZ (zBp gG) fH gM;have fK:=hid fV;have gO:=hid gN;rw [fH] at fC;simp only [not_true_eq_false,if_false] at fC;rw [zAn fL,zAp fL] at fC
  have gA:(T.clr d nm)=T.upd d (m2.clear nm):=by unfold PT.clr;rw [fG]
  rw [gA] at fC;have jA:=ne_name fF.out fG fZ fL fH;have gP:=hid fun W (hb:Below g w W) (hk:g+2≤W.heap.size)=>zCl (zAM S g 2) t T d m2 nm W (fP.out W hb) (gX.out W hk) fF.out.gr.ok fG fZ (zBp gG) fH gM;have gB:(T.upd d (m2.clear nm)).Ok:=fF.out.gr.ok.upd (fE.clear nm) (fF.out.gr.ok.get fG).2;have gQ:=fF.out.dev i m1 fL;have jB:=hid fun t5 W (hb:RefS (zAM S g 2) W t5 (T.upd d (m2.clear nm))) (hk:g+2≤W.heap.size)=>zGA (zAM S g 2) t5 (T.upd d (m2.clear nm)) i m1 W hb (gX.out W hk) gB (by rw [zAm _ fun e=>jA e.symm];exact fL) gQ.1 gQ.2.1;have fS:=hid fun W (hb:Below g w W) (fT:m1.dir=true)=>zFn t T i m1 x1 W ((fP.out W hb).mono fun _ h=>h.elim) ((gN W hb).1.mono fun _ h=>h.elim) fF.out.wf fL fT;have gR:=(fF.out.gr.ok.get fL).1;have jJ:m1.names.length≤1068:=Nat.le_trans gR.nlen gR.slots
  have gC:x1.kind=2∧m1.dir=true∨x1.kind=1∧m1.dir=false:=by rw [gZ];unfold PN.kind;cases m1.dir<;>simp
  simp only [hdV,trV] at fW fS gP;have gH:=hid fC;clear fV gN fC fH fE fL gM gG fG fZ gA gQ gB gR jA gZ
  go_upto_region 7 with (first
   | (refine wpList_load_row rfl 28 _ rfl g rfl 28 (zAa t).toArray _ _ fD.tb Tryz.underlying28 rfl rfl ?_)
   | (go_at_call 81;(with_reducible refine ((fK.out w2 fD.bl).2).mono ?_);rintro e w3 ⟨rfl,gI⟩;have fX:=fD.fresh gI)
   | (go_at_call 110;(with_reducible refine ((fW.out w3 fX.bl)).mono ?_);rintro e w4 ⟨rfl,gJ⟩;have fI:=fX.fresh gJ))
  clear fD fX gI gJ fW fK
  go_upto_region 8 with (first
   | (refine wpList_load_row rfl 28 _ rfl g rfl 28 (zAa t).toArray _ _ fI.tb Tryz.underlying28 rfl rfl ?_)
   | (go_at_call 81;(with_reducible refine ((gO.out w4 fI.bl).2).mono ?_);rintro e w5 ⟨rfl,jC⟩;have jD:=fI.fresh jC)
   | (refine wpList_store_row rfl 123 _ _ rfl w5.heap.size (zAb x1).toArray rfl (by rfl) 123 _ (Blk.new w5 123 z8) rfl rfl (zHl x1) ?_))
  obtain⟨hX,fA⟩:=jD.held x1;change Code.wp _ _ _ _ ((w5.alloc (.cells z8.toArray 123)).setRow w5.heap.size (zAb x1).toArray);clear fI jC jD;generalize (w5.alloc (.cells z8.toArray 123)).setRow w5.heap.size (zAb x1).toArray=w6 at *;generalize w5.heap.size=y at *;have jK:=hid hX;have jF:=fA.le;obtain⟨b0,b1,b2,b3,b4,b5,b6,b7⟩:=zAO hX
  have jL:decide ((0:Int) > (kp:Int))=false:=by simp
  rcases gC with ⟨gC,fT⟩ | ⟨gC,fT⟩
  · rw [gC] at b1;have fB:=gH.out;rw [fT] at fB
    cases dir with
    | true =>
     by_cases jE:0<m1.names.length
     · simp [jE] at fB
       have fM:=hid fB.symm;have jG:decide ((m1.names.length:Int) > 0)=true:=decide_eq_true (by omega);clear fB
       go_wp2_with (first
        | (refine zAJ (by rfl) (fun _ hK=>wp_load_row 28 _ rfl g rfl 28 (zAa t).toArray _ _ fA.tb Tryz.underlying28 rfl rfl (hK _ _ ?_)))
        | (refine zAJ (by rfl) (fun _ hK=>wp_load_row 123 _ rfl y rfl 123 (zAb x1).toArray _ _ hX Tryz.underlying123 rfl rfl (hK _ _ ?_)))
        | (go_at_call 83;(with_reducible refine ((fS.out w6 fA.bl fT)).mono ?_);rintro e w9 ⟨⟨A9,c9,rfl,-,-⟩,gD⟩;have fJ:=fA.fresh gD;have jH:=hX.fresh gD)
        | (refine wpList_load_row rfl 28 _ rfl g rfl 28 (zAa t).toArray _ _ fJ.tb Tryz.underlying28 rfl rfl ?_)
        | (refine wpList_store_row rfl 28 _ _ rfl (g+1) (zAa t).toArray rfl (by rfl) 28 _ fJ.rb rfl rfl (zAc t) ?_))
       exact zAB fJ.rb fQ.out (by exact fM.out) (fP.out _ fJ.bl) fJ.bl fR.out ⟨by omega,by omega⟩ rfl rfl rfl rfl
     · simp [jE] at fB
       have fM:=hid fB.symm;have jG:decide ((m1.names.length:Int) > 0)=false:=decide_eq_false (by omega);clear fB
       go_wp2_with (first
        | (refine zAJ (by rfl) (fun _ hK=>wp_load_row 28 _ rfl g rfl 28 (zAa t).toArray _ _ fA.tb Tryz.underlying28 rfl rfl (hK _ _ ?_)))
        | (refine zAJ (by rfl) (fun _ hK=>wp_load_row 123 _ rfl y rfl 123 (zAb x1).toArray _ _ hX Tryz.underlying123 rfl rfl (hK _ _ ?_)))
        | (go_at_call 83;(with_reducible refine ((fS.out w6 fA.bl fT)).mono ?_);rintro e w9 ⟨⟨A9,c9,rfl,-,-⟩,gD⟩;have fJ:=fA.fresh gD;have jH:=hX.fresh gD)
        | (refine wpList_load_row rfl 28 _ rfl g rfl 28 (zAa t).toArray _ _ fJ.tb Tryz.underlying28 rfl rfl ?_)
        | (go_at_call 114;(with_reducible refine ((gP.out w9 fJ.bl fJ.le)).mono ?_);rintro e w7 ⟨⟨t7,rfl,gS⟩,gT⟩;have gE:=fJ.fresh gT;have gU:=jB.out t7 w7 gS gE.le)
        | (go_at_call 115;(with_reducible refine (gU).mono ?_);rintro e w8 ⟨⟨t8,rfl,gV⟩,gW⟩;have fU:=gE.fresh gW)
        | (refine wpList_store_row rfl 28 _ _ rfl (g+1) (zAa t8).toArray rfl (by rfl) 28 _ fU.rb rfl rfl (zAc t8) ?_))
       exact zAB fU.rb fQ.out fM.out gV fU.bl fR.out ⟨by omega,by omega⟩ rfl rfl rfl rfl
    | false =>
     simp at fB
     have fM:=hid fB.symm;clear fB
     go_wp2_with (first
      | (refine wpList_load_row rfl 28 _ rfl g rfl 28 (zAa t).toArray _ _ fA.tb Tryz.underlying28 rfl rfl ?_)
      | (refine wpList_store_row rfl 28 _ _ rfl (g+1) (zAa t).toArray rfl (by rfl) 28 _ fA.rb rfl rfl (zAc t) ?_))
     exact zAB fA.rb fQ.out (by exact fM.out) (fP.out _ fA.bl) fA.bl fR.out ⟨by omega,by omega⟩ rfl rfl rfl rfl
  · rw [gC] at b1;have fB:=gH.out;rw [fT] at fB
    cases dir with
    | true =>
     simp at fB
     have fM:=hid fB.symm;clear fB
     go_wp2_with (first
      | (refine wpList_load_row rfl 28 _ rfl g rfl 28 (zAa t).toArray _ _ fA.tb Tryz.underlying28 rfl rfl ?_)
      | (refine wpList_store_row rfl 28 _ _ rfl (g+1) (zAa t).toArray rfl (by rfl) 28 _ fA.rb rfl rfl (zAc t) ?_))
     exact zAB fA.rb fQ.out (by exact fM.out) (fP.out _ fA.bl) fA.bl fR.out ⟨by omega,by omega⟩ rfl rfl rfl rfl
    | false =>
     simp at fB
     have fM:=hid fB.symm;clear fB
     go_wp2_with (first
      | (refine wpList_load_row rfl 28 _ rfl g rfl 28 (zAa t).toArray _ _ fA.tb Tryz.underlying28 rfl rfl ?_)
      | (go_at_call 114;(with_reducible refine ((gP.out w6 fA.bl jF)).mono ?_);rintro e w7 ⟨⟨t7,rfl,gS⟩,gT⟩;have gE:=fA.fresh gT;have gU:=jB.out t7 w7 gS gE.le)
      | (go_at_call 115;(with_reducible refine (gU).mono ?_);rintro e w8 ⟨⟨t8,rfl,gV⟩,gW⟩;have fU:=gE.fresh gW)
      | (refine wpList_store_row rfl 28 _ _ rfl (g+1) (zAa t8).toArray rfl (by rfl) 28 _ fU.rb rfl rfl (zAc t8) ?_))
     exact zAB fU.rb fQ.out fM.out gV fU.bl fR.out ⟨by omega,by omega⟩ rfl rfl rfl rfl
end Go.Proofs.YtolpcfhfcdkokaaGreatDoor
