/- Joined out of SRen..SRen. -/
import Derived.Test.YtolpcfhfcdkokaaGreatDoorQ36
set_option maxHeartbeats 16000000
set_option maxRecDepth 100000
namespace Go.Proofs.YtolpcfhfcdkokaaGreatDoor
open Lib (hid)
open Go.RowKit
theorem ren_src {T:PT} (hT:T.Inv) {d o i k:Nat} {n1 n2:PN} {old nm:ByteArray} (h1:zAd d T.nodes=some n1) (fC:n1.dir=true) (h2:zAd o T.nodes=some n2) (fE:n2.dir=true) (hg:zAd old n1.names=some i) (fF:¬(d=o∧old=nm)) (hf:n2.Fit k nm) (hc:chk nm=true) :
 (T.upd o (n2.set k nm i)).Ok∧∃ n' q,zAd d (T.upd o (n2.set k nm i)).nodes=some n'∧n'.dir=true∧zAd old n'.names=some i∧zAj old n'.slots=some q∧(T.ins o k nm i).clr d old=(T.upd o (n2.set k nm i)).upd d (n'.clear old)∧((T.upd o (n2.set k nm i)).upd d (n'.clear old)).Ok:=by
 obtain⟨m,hm⟩:=hT.gr.ents d n1 old i h1 hg;have hi:=hT.gr.ok.get hm;have fB:(T.upd o (n2.set k nm i)).Ok:=hT.gr.ok.upd (zCy hT.wf h2 fE hf (zC5 hc) (by have:=hT.gr.ok.ino;omega)) (hT.gr.ok.get h2).2;obtain⟨q,hq⟩:=hT.gr.slotn d n1 old i h1 hg;have fG:old≠emp:=zIe hT.wf h1 hg;refine⟨fB,?_⟩;rw [zCg h2];by_cases e:d=o
 · subst e;rw [h1] at h2;obtain rfl:=Option.some.inj h2;have fD:old≠nm:=fun e=>fF ⟨rfl,e⟩;have fA:=zA8 (T:=T) d (n1.set k nm i);refine⟨n1.set k nm i,q,fA,fC,?_,zC2 hf (Ne.symm fD) fG hq,zCt fA,fB.upd ((fB.get fA).1.clear old) (fB.get fA).2⟩
   show zAd old (zBa zA6 nm i n1.names)=some i
   rw [zAl zA6 _ fD];exact hg
 · have fA:=(zAm (T:=T) (n2.set k nm i) e).trans h1;exact⟨n1,q,fA,fC,hg,hq,zCt fA,fB.upd ((fB.get fA).1.clear old) (fB.get fA).2⟩
theorem zGs (S:Nat→Prop) (t:Tr) (T:PT) (A:Option Addr) (c:Nat) (l:List ByteArray) (A2:Option Addr) (c2:Nat) (l2:List ByteArray) (w:World) (h:RefS S w t T) (hS:∀ b,S b→b<w.heap.size) (hT:T.Inv)
 (hl:NmAt w w.heap.size A c l) (hc:∀ x∈l,chk x=true) (mH:NmAt w w.heap.size A2 c2 l2) (lI:∀ x∈l2,chk x=true) :
 Calls Tryz.prog 79 #[.agg (zAa t).toArray,.slice A l.length c,.slice A2 l2.length c2] w (zHx S (T.rename l l2) w):=by
 obtain⟨lk,kS⟩:∃ lk,T.rename l l2=lk:=⟨_,rfl⟩;rw [kS];obtain⟨Q,hQ⟩:∃ Q,zHx S lk w=Q:=⟨_,rfl⟩;rw [hQ];obtain⟨g,hz⟩:∃ g,w.heap.size=g:=⟨_,rfl⟩;have fP:=hid (zBV h hz 2);have jF:=hid (inS (k:=2) hS hz);have kT:=hid fun (j:Nat) (n:PN) (hg:zAd j T.nodes=some n)=>zDP h hz 2 hT.gr.ok hg;have jB:=hid fun W (hb:Below g w W)=>zC4 t T A c l W (zBV h hz 2 W hb).ref hT.wf (hl.fresh (hz.symm▸hb)) fun x hx=>zBp (hc x hx);have jC:=hid fun W (hb:Below g w W)=>zC4 t T A2 c2 l2 W (zBV h hz 2 W hb).ref hT.wf (mH.fresh (hz.symm▸hb)) fun x hx=>zBp (lI x hx);have jG:=hid fun h=>zCw (T:=T) (m:=l) h hc;have lJ:=hid fun h=>zCw (T:=T) (m:=l2) h lI;have jH:=hid (zBz hT.wf l);have jI:=hid (zBz hT.wf l2);rw [PT.rename.eq_1 T l l2] at kS;have hu:=hid kS.symm;have jD:=st_0 w t;rw [hz] at jD;unfold zJy at jB jC;rw [show trV t=.agg (zAa t).toArray from rfl] at jB jC;have fS:=hid hT;have fT:=hid hQ;clear kS hQ h hS hT hl hc mH lI;generalize T.last l=r1 at *;generalize T.last l2=r2 at *;obtain⟨d,e1⟩:=r1;obtain⟨o,e2⟩:=r2;generalize zAL l=old at *;generalize zAL l2=nm at *;generalize l.length=n1 at *;generalize l2.length=n2 at *;simp only at jB jC jG lJ jH jI hu;have fU:=hid hz;go_enter Tryz.func79,Tryz.ntmps79;go_upto_region 1 with (fail)
 try simp only [hz]
 change Code.wp _ _ _ _ ((w.alloc (.cells (zAa t).toArray 28)).alloc (.cells z4.toArray 28));generalize (w.alloc (.cells (zAa t).toArray 28)).alloc (.cells z4.toArray 28)=w0 at *;clear hz;by_cases h1:e1=0;rotate_left
 · have kA:((e1:Int) != 0)=true:=by simp;omega
   simp only [if_neg h1] at jB
   go_wp2_with (first
    | (refine wpList_load_row rfl 28 _ rfl g rfl 28 (zAa t).toArray _ _ jD.tb Tryz.underlying28 rfl rfl ?_)
    | (go_at_call 109;(with_reducible refine (jB.out w0 jD.bl).mono ?_);rintro e w1 ⟨rfl,kU⟩;have gC:=jD.fresh kU)
    | (refine wpList_load_row rfl 28 _ rfl g rfl 28 (zAa t).toArray _ _ gC.tb Tryz.underlying28 rfl rfl ?_)
    | (refine wpList_store_row rfl 28 _ _ rfl (g+1) (zAa t).toArray rfl (by rfl) 28 _ gC.rb rfl rfl (zAc t) ?_))
   exact zAB gC.rb fT.out (by rw [hu.out,if_pos h1]) (fP.out _ gC.bl) gC.bl fU.out ⟨by omega,by omega⟩ rfl rfl rfl rfl
 subst h1;simp only [if_true] at jB
 go_upto_region 4 with (first
  | (refine wpList_load_row rfl 28 _ rfl g rfl 28 (zAa t).toArray _ _ jD.tb Tryz.underlying28 rfl rfl ?_)
  | (go_at_call 109;(with_reducible refine (jB.out w0 jD.bl).mono ?_);rintro e w1 ⟨rfl,kU⟩;have gC:=jD.fresh kU))
 clear jD kU jB;by_cases h2:e2=0;rotate_left
 · have kA:((e2:Int) != 0)=true:=by simp;omega
   simp only [if_neg h2] at jC
   go_wp2_with (first
    | (refine wpList_load_row rfl 28 _ rfl g rfl 28 (zAa t).toArray _ _ gC.tb Tryz.underlying28 rfl rfl ?_)
    | (go_at_call 109;(with_reducible refine (jC.out w1 gC.bl).mono ?_);rintro e w2 ⟨rfl,kV⟩;have gD:=gC.fresh kV)
    | (refine wpList_load_row rfl 28 _ rfl g rfl 28 (zAa t).toArray _ _ gD.tb Tryz.underlying28 rfl rfl ?_)
    | (refine wpList_store_row rfl 28 _ _ rfl (g+1) (zAa t).toArray rfl (by rfl) 28 _ gD.rb rfl rfl (zAc t) ?_))
   exact zAB gD.rb fT.out (by rw [hu.out,if_neg (by simp),if_pos h2]) (fP.out _ gD.bl) gD.bl fU.out ⟨by omega,by omega⟩ rfl rfl rfl rfl
 subst h2;simp only [if_true] at jC
 go_upto_region 7 with (first
  | (refine wpList_load_row rfl 28 _ rfl g rfl 28 (zAa t).toArray _ _ gC.tb Tryz.underlying28 rfl rfl ?_)
  | (go_at_call 109;(with_reducible refine (jC.out w1 gC.bl).mono ?_);rintro e w2 ⟨rfl,kV⟩;have gD:=gC.fresh kV))
 clear gC kV jC;obtain⟨m1,gT,jV⟩:=jH.out (by trivial);obtain⟨m2,jE,jW⟩:=jI.out (by trivial);have gH:=jG.out (by trivial);have jX:=lJ.out (by trivial);have fA:=hu.out;rw [if_neg (by simp),if_neg (by simp),zAp gT,zAp jE] at fA;have gU:=(fS.out.gr.ok.get gT).1;have gI:=(fS.out.gr.ok.get jE).1;obtain⟨x1,-,-,kC⟩:=kT.out d m1 gT;obtain⟨x2,-,-,kD⟩:=kT.out o m2 jE;have jJ:=hid kC;have jK:=hid kD;clear hu jH jI jG lJ
 cases gR:zAd old m1.names with
 | none =>
  have jY:=hid fun W (hb:Below g w W)=>zGd (kC W hb).1 gU jV (zBp gH) gR;rw [gR] at fA;have fK:=hid fA;clear kC kD fA gR gU gI gT jE jV jW jX gH;simp only [hdV] at jY
  go_wp2_with (first
   | (refine wpList_load_row rfl 28 _ rfl g rfl 28 (zAa t).toArray _ _ gD.tb Tryz.underlying28 rfl rfl ?_)
   | (go_at_call 81;(with_reducible refine ((jJ.out w2 gD.bl).2).mono ?_);rintro e w3 ⟨rfl,kW⟩;have jZ:=gD.fresh kW)
   | (go_at_call 110;(with_reducible refine ((jY.out w3 jZ.bl)).mono ?_);rintro e w4 ⟨rfl,kX⟩;have fV:=jZ.fresh kX)
   | (refine wpList_load_row rfl 28 _ rfl g rfl 28 (zAa t).toArray _ _ fV.tb Tryz.underlying28 rfl rfl ?_)
   | (refine wpList_store_row rfl 28 _ _ rfl (g+1) (zAa t).toArray rfl (by rfl) 28 _ fV.rb rfl rfl (zAc t) ?_))
  exact zAB fV.rb fT.out (by rw [fK.out]) (fP.out _ fV.bl) fV.bl fU.out ⟨by omega,by omega⟩ rfl rfl rfl rfl
 | some i =>
  obtain⟨mi,jL⟩:=fS.out.gr.ents d m1 old i gT gR;obtain⟨kp,mI⟩:=fS.out.gr.slotn d m1 old i gT gR;obtain⟨xi,mJ,lK,mK⟩:=kT.out i mi jL;have jY:=hid fun W (hb:Below g w W)=>zDK (kC W hb).1 gU jV (zBp gH) gR mI;rw [gR] at fA;simp only at fA;rw [zAn jL,zAp jL] at fA;have lL:=hid mK;have lM:=(fS.out.gr.ok.get jL).2;have mL:=(fS.out.gr.ok.get jL).1.links;have kE:=hid fun (k:Nat) (kA:¬(d=o∧old=nm)) (hf:m2.Fit k nm)=>ren_src fS.out gT jV jE jW gR kA hf jX
  have kF:xi.kind=2∧mi.dir=true∨xi.kind=1∧mi.dir=false:=by rw [mJ];unfold PN.kind;cases mi.dir<;>simp
  have lN:=hid gT;have gV:=hid jE;have lO:=hid jL;have lP:=hid jV;have gW:=hid jW;have mY:=hid gR;have jM:=hid jX;have gJ:=hid gH;have gK:=hid gI;simp only [hdV] at jY;clear kC mK gR gU gT mI gH jV jL mJ
  go_upto_region 10 with (first
   | (refine wpList_load_row rfl 28 _ rfl g rfl 28 (zAa t).toArray _ _ gD.tb Tryz.underlying28 rfl rfl ?_)
   | (go_at_call 81;(with_reducible refine ((jJ.out w2 gD.bl).2).mono ?_);rintro e w3 ⟨rfl,kW⟩;have jZ:=gD.fresh kW)
   | (go_at_call 110;(with_reducible refine ((jY.out w3 jZ.bl)).mono ?_);rintro e w4 ⟨rfl,kX⟩;have fV:=jZ.fresh kX))
  clear gD jZ kW kX jY jJ
  have oH:decide ((0:Int) > (kp:Int))=false:=by simp
  by_cases fM:d=o∧old=nm
  · obtain⟨rfl,rfl⟩:=fM;rw [if_pos ⟨rfl,rfl⟩] at fA;have fK:=hid fA
    have kY:((d:Int)==(d:Int))=true:=by simp
    have kG:(old.toList==old.toList)=true:=by simp
    clear fA kD jE jW jX gI
    go_wp2_with (first
     | (refine wpList_load_row rfl 28 _ rfl g rfl 28 (zAa t).toArray _ _ fV.tb Tryz.underlying28 rfl rfl ?_)
     | (refine wpList_store_row rfl 28 _ _ rfl (g+1) (zAa t).toArray rfl (by rfl) 28 _ fV.rb rfl rfl (zAc t) ?_))
    exact zAB fV.rb fT.out (by rw [fK.out]) (fP.out _ fV.bl) fV.bl fU.out ⟨by omega,by omega⟩ rfl rfl rfl rfl
  rw [if_neg fM] at fA;have mZ:=hid fM
  have kI:d≠o∨(d=o∧(old.toList==nm.toList)=false):=by
   by_cases e:d=o
   · exact .inr ⟨e,by simpa using fun h=>fM ⟨e,zDm.1 h⟩⟩
   · exact .inl e
  clear fM
  go_cut [63] from 56 to 63 (fun v wx=>v=.bool false∧wx=w4)
  case first =>
   rcases kI with hdo | ⟨hdo,kG⟩
   · have kY:((d:Int)==(o:Int))=false:=by simp;omega
     go_wp2;go_meet;exact⟨rfl,rfl⟩
   · have kY:((d:Int)==(o:Int))=true:=by simp;omega
     have oA:¬old.toList=nm.toList:=by simpa using kG
     go_wp2;go_meet;exact⟨rfl,rfl⟩
  case rest =>
   obtain⟨rfl,mM⟩:=hcut;have lQ:=mM.symm;subst lQ;clear mM;have jN:=hid fun W (hb:Below g w W)=>zDN (kD W hb).1 gI jW (zBp jX);simp only [hdV] at jN;clear kD jE jW jX gI kI
   go_upto_region 13 with (first
    | (refine wpList_load_row rfl 28 _ rfl g rfl 28 (zAa t).toArray _ _ fV.tb Tryz.underlying28 rfl rfl ?_)
    | (go_at_call 81;(with_reducible refine ((jK.out w4 fV.bl).2).mono ?_);rintro e w5 ⟨rfl,mN⟩;have lR:=fV.fresh mN)
    | (go_at_call 110;(with_reducible refine ((jN.out w5 lR.bl)).mono ?_);rintro e w6 hf;obtain⟨kk,jj,rfl,lS,kZ⟩:=hf.uni;have lA:=lR.fresh kZ;clear hf))
   clear fV lR mN kZ jN
   go_upto_region 14 with (first
    | (refine wpList_load_row rfl 28 _ rfl g rfl 28 (zAa t).toArray _ _ lA.tb Tryz.underlying28 rfl rfl ?_)
    | (go_at_call 81;(with_reducible refine ((lL.out w6 lA.bl).2).mono ?_);rintro e w7 ⟨rfl,mO⟩;have mP:=lA.fresh mO)
    | (refine wpList_store_row rfl 123 _ _ rfl w7.heap.size (zAb xi).toArray rfl (by rfl) 123 _ (Blk.new w7 123 z8) rfl rfl (zHl xi) ?_))
   obtain⟨hX,fD⟩:=mP.held xi;change Code.wp _ _ _ _ ((w7.alloc (.cells z8.toArray 123)).setRow w7.heap.size (zAb xi).toArray);clear lA mO mP;generalize (w7.alloc (.cells z8.toArray 123)).setRow w7.heap.size (zAb xi).toArray=w8 at *;generalize w7.heap.size=y at *;have oI:=fD.le;obtain⟨b0,b1,b2,b3,b4,b5,b6,b7⟩:=zAO hX;rw [lK] at b2;have gL:=hid fun (k:Nat)=>kE.out k mZ.out;clear hX kE;rcases kF with ⟨kF,lB⟩ | ⟨kF,lB⟩
   · rw [kF] at b1;rw [if_pos lB] at fA;rcases lS.out with ⟨j,kj,gG,hkj,rfl,rfl⟩ | ⟨gG,rfl,rfl⟩
     · have fK:Hid (lk=(T,111)):=hid (by rw [fA,gG];rfl)
       have oB:decide ((kj:Int)≥0)=true:=by simp
       clear fA
       go_wp2_with (first
        | (refine wpList_load_row rfl 28 _ rfl g rfl 28 (zAa t).toArray _ _ fD.tb Tryz.underlying28 rfl rfl ?_)
        | (refine wpList_store_row rfl 28 _ _ rfl (g+1) (zAa t).toArray rfl (by rfl) 28 _ fD.rb rfl rfl (zAc t) ?_))
       exact zAB fD.rb fT.out (by exact fK.out) (fP.out _ fD.bl) fD.bl fU.out ⟨by omega,by omega⟩ rfl rfl rfl rfl
     have jO:=hid gG;rw [gG,if_neg (by simp)] at fA;obtain⟨rk,oC⟩:=fS.out.gr.rank;have gX:=hid (zJB t T fS.out.wf rk oC _ (fun j hj=>T.rk_le rk hj) o ((T.nodes.map fun p=>rk p.1).sum+1) i w8 (by rw [zAn lO.out];exact lB) (by omega) ((fP.out w8 fD.bl).mono fun _ h=>h.elim));unfold UndP at gX;simp only [trV] at gX;by_cases hU:T.Und o i
     · rw [if_pos hU] at fA;have fK:=hid fA;have lT:∀ b:Bool,(b=true↔T.Und o i)→b=true:=fun b hb=>hb.2 hU;clear fA hU
       go_wp2_with (first
        | (refine wpList_load_row rfl 28 _ rfl g rfl 28 (zAa t).toArray _ _ fD.tb Tryz.underlying28 rfl rfl ?_)
        | (go_at_call 116;(with_reducible refine (gX.out).mono ?_);rintro e w9 ⟨⟨b,rfl,kJ⟩,fQ⟩;obtain rfl:b=true:=lT b kJ;clear kJ;have fC:=fD.fresh fQ)
        | (refine wpList_load_row rfl 28 _ rfl g rfl 28 (zAa t).toArray _ _ fC.tb Tryz.underlying28 rfl rfl ?_)
        | (refine wpList_store_row rfl 28 _ _ rfl (g+1) (zAa t).toArray rfl (by rfl) 28 _ fC.rb rfl rfl (zAc t) ?_))
       exact zAB fC.rb fT.out (by exact fK.out) (fP.out _ fC.bl) fC.bl fU.out ⟨by omega,by omega⟩ rfl rfl rfl rfl
     rw [if_neg hU] at fA
     have lT:∀ b:Bool,(b=true↔T.Und o i)→b=false:=fun b hb=>by
      cases b
      · rfl
      · exact absurd (hb.1 rfl) hU
     have fN:=fA;clear hU fA
     go_upto_region 19 with (first
      | (refine wpList_load_row rfl 28 _ rfl g rfl 28 (zAa t).toArray _ _ fD.tb Tryz.underlying28 rfl rfl ?_)
      | (go_at_call 116;(with_reducible refine (gX.out).mono ?_);rintro e w9 ⟨⟨b,rfl,kJ⟩,fQ⟩;obtain rfl:b=false:=lT b kJ;clear kJ;have fC:=fD.fresh fQ))
     have fE:=hid (zI2 w9 (fP.out w9 fC.bl) (jF.out w9 fC.le) fS.out gV.out gW.out lM jM.out jO.out);obtain⟨pl,jP⟩:∃ pl,T.place m2=pl:=⟨_,rfl⟩;obtain⟨k,c7⟩:=pl;unfold PutP at fE;rw [jP] at fE fN;simp only at fE fN;have gM:=hid jP;clear jP;by_cases h7:c7=0;rotate_left
     · have kA:((c7:Int) != 0)=true:=by simp;omega
       rw [if_pos h7] at fN;have jQ:=hid fN;clear fN
       go_wp2_with (first
        | (refine wpList_load_row rfl 28 _ rfl g rfl 28 (zAa t).toArray _ _ fC.tb Tryz.underlying28 rfl rfl ?_)
        | (go_at_call 112;(with_reducible refine (fE.out).mono ?_);rintro e w10 ⟨⟨t7,rfl,kK⟩,fW⟩;have fB:=fC.fresh fW)
        | (refine wpList_store_row rfl 28 _ _ rfl w10.heap.size (zAa t7).toArray rfl (by rfl) 28 _ (Blk.new w10 28 z4) rfl rfl (zAc t7) ?_)
        | (refine wpList_load_row rfl 28 _ rfl g rfl 28 (zAa t).toArray _ _ (fB.fresh (zAP w10 t7).2).tb Tryz.underlying28 rfl rfl ?_)
        | (refine wpList_store_row rfl 28 _ _ rfl (g+1) (zAa t).toArray rfl (by rfl) 28 _ (fB.fresh (zAP w10 t7).2).rb rfl rfl (zAc t) ?_))
       exact zAB (fB.fresh (zAP w10 t7).2).rb fT.out jQ.out (fP.out _ (fB.fresh (zAP w10 t7).2).bl) (fB.fresh (zAP w10 t7).2).bl fU.out ⟨by omega,by omega⟩ rfl rfl rfl rfl
     subst h7
     have fO:m2.Fit k nm:=by
      have:=zBu (T:=T) (nm:=nm) gK.out (by rw [gM.out]);rw [gM.out] at this;exact this
     obtain⟨fJ,n',q,s1,s2,s3,s4,s5,fF⟩:=gL.out k fO;rw [if_neg (by simp),s5] at fN;have gS:=hid fun t7 W (hb:RefS (zAM S g 2) W t7 (T.upd o (m2.set k nm i))) (hk:g+2≤W.heap.size)=>zCl (zAM S g 2) t7 (T.upd o (m2.set k nm i)) d n' old W hb (jF.out W hk) fJ s1 s2 (zBp gJ.out) s3 s4;have jQ:=hid fN;simp only [if_true] at fE;clear fN s1 s2 s3 s4 s5 fJ fF fO;simp only [trV] at gS
     go_wp2_with (first
      | (refine wpList_load_row rfl 28 _ rfl g rfl 28 (zAa t).toArray _ _ fC.tb Tryz.underlying28 rfl rfl ?_)
      | (go_at_call 112;(with_reducible refine (fE.out).mono ?_);rintro e w10 ⟨⟨t7,rfl,kK⟩,fW⟩;have fB:=fC.fresh fW)
      | (refine wpList_store_row rfl 28 _ _ rfl w10.heap.size (zAa t7).toArray rfl (by rfl) 28 _ (Blk.new w10 28 z4) rfl rfl (zAc t7) ?_)
      | (refine wpList_load_row rfl 28 _ rfl w10.heap.size rfl 28 (zAa t7).toArray _ _ (zAP w10 t7).1 Tryz.underlying28 rfl rfl ?_)
      | (go_at_call 114;(with_reducible refine ((gS.out t7 _ (kK.fresh (zAP w10 t7).2) (fB.fresh (zAP w10 t7).2).le)).mono ?_);rintro e w11 ⟨⟨t8,rfl,lU⟩,gN⟩;have fH:=(fB.fresh (zAP w10 t7).2).fresh gN)
      | (refine wpList_store_row rfl 28 _ _ rfl (g+1) (zAa t8).toArray rfl (by rfl) 28 _ fH.rb rfl rfl (zAc t8) ?_))
     exact zAB fH.rb fT.out jQ.out lU fH.bl fU.out ⟨by omega,by omega⟩ rfl rfl rfl rfl
   rw [kF] at b1;rw [if_neg (by rw [lB];simp)] at fA;rcases lS.out with ⟨j,kj,gG,hkj,rfl,rfl⟩ | ⟨gG,rfl,rfl⟩;rotate_left
   · have jO:=hid gG;rw [gG] at fA;simp only at fA;by_cases fX:mi.links=100
     · rw [if_pos fX] at fA;have fK:=hid fA;rw [fX] at b2;clear fA
       go_wp2_with (first
        | (refine wpList_load_row rfl 28 _ rfl g rfl 28 (zAa t).toArray _ _ fD.tb Tryz.underlying28 rfl rfl ?_)
        | (refine wpList_store_row rfl 28 _ _ rfl (g+1) (zAa t).toArray rfl (by rfl) 28 _ fD.rb rfl rfl (zAc t) ?_))
       exact zAB fD.rb fT.out (by exact fK.out) (fP.out _ fD.bl) fD.bl fU.out ⟨by omega,by omega⟩ rfl rfl rfl rfl
     rw [if_neg fX] at fA
     have oD:decide ((mi.links:Int)≥100)=false:=by simp;omega
     have fN:=fA;clear fA;go_upto_region 30 with (fail);have fE:=hid (zI2 w8 (fP.out w8 fD.bl) (jF.out w8 fD.le) fS.out gV.out gW.out lM jM.out jO.out);obtain⟨pl,jP⟩:∃ pl,T.place m2=pl:=⟨_,rfl⟩;obtain⟨k,c7⟩:=pl;unfold PutP at fE;rw [jP] at fE fN;simp only at fE fN;have gM:=hid jP;clear jP;by_cases h7:c7=0;rotate_left
     · have kA:((c7:Int) != 0)=true:=by simp;omega
       rw [if_pos h7] at fN;have jQ:=hid fN;clear fN
       go_wp2_with (first
        | (refine wpList_load_row rfl 28 _ rfl g rfl 28 (zAa t).toArray _ _ fD.tb Tryz.underlying28 rfl rfl ?_)
        | (go_at_call 112;(with_reducible refine (fE.out).mono ?_);rintro e w10 ⟨⟨t7,rfl,kK⟩,fW⟩;have fB:=fD.fresh fW)
        | (refine wpList_store_row rfl 28 _ _ rfl w10.heap.size (zAa t7).toArray rfl (by rfl) 28 _ (Blk.new w10 28 z4) rfl rfl (zAc t7) ?_)
        | (refine wpList_load_row rfl 28 _ rfl g rfl 28 (zAa t).toArray _ _ (fB.fresh (zAP w10 t7).2).tb Tryz.underlying28 rfl rfl ?_)
        | (refine wpList_store_row rfl 28 _ _ rfl (g+1) (zAa t).toArray rfl (by rfl) 28 _ (fB.fresh (zAP w10 t7).2).rb rfl rfl (zAc t) ?_))
       exact zAB (fB.fresh (zAP w10 t7).2).rb fT.out jQ.out (fP.out _ (fB.fresh (zAP w10 t7).2).bl) (fB.fresh (zAP w10 t7).2).bl fU.out ⟨by omega,by omega⟩ rfl rfl rfl rfl
     subst h7
     have fO:m2.Fit k nm:=by
      have:=zBu (T:=T) (nm:=nm) gK.out (by rw [gM.out]);rw [gM.out] at this;exact this
     obtain⟨fJ,n',q,s1,s2,s3,s4,s5,fF⟩:=gL.out k fO;rw [if_neg (by simp),s5] at fN;have gS:=hid fun t7 W (hb:RefS (zAM S g 2) W t7 (T.upd o (m2.set k nm i))) (hk:g+2≤W.heap.size)=>zCl (zAM S g 2) t7 (T.upd o (m2.set k nm i)) d n' old W hb (jF.out W hk) fJ s1 s2 (zBp gJ.out) s3 s4;have jQ:=hid fN;simp only [if_true] at fE;clear fN s1 s2 s3 s4 s5 fJ fF fO;simp only [trV] at gS
     go_wp2_with (first
      | (refine wpList_load_row rfl 28 _ rfl g rfl 28 (zAa t).toArray _ _ fD.tb Tryz.underlying28 rfl rfl ?_)
      | (go_at_call 112;(with_reducible refine (fE.out).mono ?_);rintro e w10 ⟨⟨t7,rfl,kK⟩,fW⟩;have fB:=fD.fresh fW)
      | (refine wpList_store_row rfl 28 _ _ rfl w10.heap.size (zAa t7).toArray rfl (by rfl) 28 _ (Blk.new w10 28 z4) rfl rfl (zAc t7) ?_)
      | (refine wpList_load_row rfl 28 _ rfl w10.heap.size rfl 28 (zAa t7).toArray _ _ (zAP w10 t7).1 Tryz.underlying28 rfl rfl ?_)
      | (go_at_call 114;(with_reducible refine ((gS.out t7 _ (kK.fresh (zAP w10 t7).2) (fB.fresh (zAP w10 t7).2).le)).mono ?_);rintro e w11 ⟨⟨t8,rfl,lU⟩,gN⟩;have fH:=(fB.fresh (zAP w10 t7).2).fresh gN)
      | (refine wpList_store_row rfl 28 _ _ rfl (g+1) (zAa t8).toArray rfl (by rfl) 28 _ fH.rb rfl rfl (zAc t8) ?_))
     exact zAB fH.rb fT.out jQ.out lU fH.bl fU.out ⟨by omega,by omega⟩ rfl rfl rfl rfl
   obtain⟨mj,lC⟩:=fS.out.gr.ents o m2 nm j gV.out gG;obtain⟨xj,kL,-,mQ⟩:=kT.out j mj lC;have lD:=hid lC;have lV:=hid gG;have kM:=hid hkj;have gY:=hid mQ;rw [gG] at fA;simp only at fA;rw [zAn lC] at fA
   have oB:decide ((kj:Int)≥0)=true:=by simp
   have oJ:decide ((kj:Int)<0)=false:=by simp
   have fld:=zFN xj
   have gO:xj.kind=2∧mj.dir=true∨xj.kind=1∧mj.dir=false:=by rw [kL];unfold PN.kind;cases mj.dir<;>simp
   clear lC gG hkj mQ kL lS;rcases gO with ⟨gO,fY⟩ | ⟨gO,fY⟩
   · rw [gO] at fld;rw [if_pos fY] at fA;have fK:=hid fA;clear fA
     go_wp2_with (first
      | (refine zAJ (by rfl) (fun _ hK=>wp_load_row 28 _ rfl g rfl 28 (zAa t).toArray _ _ fD.tb Tryz.underlying28 rfl rfl (hK _ _ ?_)))
      | (go_at_call 81;(with_reducible refine ((gY.out w8 fD.bl).2).mono ?_);rintro e w9 ⟨rfl,fQ⟩;have fC:=fD.fresh fQ;replace b2:=(fQ.cell (p:=⟨y,2,none⟩) (World.block_lt_of_cell? _ _ b2)).trans b2)
      | (refine wpList_load_row rfl 28 _ rfl g rfl 28 (zAa t).toArray _ _ fC.tb Tryz.underlying28 rfl rfl ?_)
      | (refine wpList_store_row rfl 28 _ _ rfl (g+1) (zAa t).toArray rfl (by rfl) 28 _ fC.rb rfl rfl (zAc t) ?_))
     exact zAB fC.rb fT.out (by exact fK.out) (fP.out _ fC.bl) fC.bl fU.out ⟨by omega,by omega⟩ rfl rfl rfl rfl
   rw [gO] at fld;rw [if_neg (by rw [fY];simp)] at fA;by_cases mR:i=j
   · subst mR;rw [if_pos rfl] at fA;have fK:=hid fA
     have kY:((i:Int)==(i:Int))=true:=by simp
     clear fA
     go_wp2_with (first
      | (refine zAJ (by rfl) (fun _ hK=>wp_load_row 28 _ rfl g rfl 28 (zAa t).toArray _ _ fD.tb Tryz.underlying28 rfl rfl (hK _ _ ?_)))
      | (go_at_call 81;(with_reducible refine ((gY.out w8 fD.bl).2).mono ?_);rintro e w9 ⟨rfl,fQ⟩;have fC:=fD.fresh fQ;replace b2:=(fQ.cell (p:=⟨y,2,none⟩) (World.block_lt_of_cell? _ _ b2)).trans b2)
      | (refine wpList_load_row rfl 28 _ rfl g rfl 28 (zAa t).toArray _ _ fC.tb Tryz.underlying28 rfl rfl ?_)
      | (refine wpList_store_row rfl 28 _ _ rfl (g+1) (zAa t).toArray rfl (by rfl) 28 _ fC.rb rfl rfl (zAc t) ?_))
     exact zAB fC.rb fT.out (by exact fK.out) (fP.out _ fC.bl) fC.bl fU.out ⟨by omega,by omega⟩ rfl rfl rfl rfl
   rw [if_neg mR] at fA
   have kY:((i:Int)==(j:Int))=false:=by simp;omega
   by_cases fX:mi.links=100
   · rw [if_pos fX] at fA;have fK:=hid fA;rw [fX] at b2;clear fA
     go_wp2_with (first
      | (refine zAJ (by rfl) (fun _ hK=>wp_load_row 28 _ rfl g rfl 28 (zAa t).toArray _ _ fD.tb Tryz.underlying28 rfl rfl (hK _ _ ?_)))
      | (go_at_call 81;(with_reducible refine ((gY.out w8 fD.bl).2).mono ?_);rintro e w9 ⟨rfl,fQ⟩;have fC:=fD.fresh fQ;replace b2:=(fQ.cell (p:=⟨y,2,none⟩) (World.block_lt_of_cell? _ _ b2)).trans b2)
      | (refine wpList_load_row rfl 28 _ rfl g rfl 28 (zAa t).toArray _ _ fC.tb Tryz.underlying28 rfl rfl ?_)
      | (refine wpList_store_row rfl 28 _ _ rfl (g+1) (zAa t).toArray rfl (by rfl) 28 _ fC.rb rfl rfl (zAc t) ?_))
     exact zAB fC.rb fT.out (by exact fK.out) (fP.out _ fC.bl) fC.bl fU.out ⟨by omega,by omega⟩ rfl rfl rfl rfl
   rw [if_neg fX] at fA
   have oD:decide ((mi.links:Int)≥100)=false:=by simp;omega
   rw [kM.out] at fA;simp only [Option.getD_some] at fA;have lE:=zAV kM.out;have fO:m2.Fit kj nm:=.inr (.inr ⟨by rw [lV.out];rfl,lE.2⟩);obtain⟨fJ,n',q,s1,s2,s3,s4,s5,fF⟩:=gL.out kj fO;rw [s5] at fA;have mS:zEd i nm:=⟨lM.1,by have:=fS.out.gr.ok.ino;omega,zFC jM.out⟩;have fZ:=hid fun (S2:Nat→Prop) (W:World) (h2:HdR S2 W x2 o m2) (lW:∀ b,S2 b→b<W.heap.size)=>zIY h2 lW gK.out gW.out mS (Nat.le_of_lt lE.1) (.inr (.inr lE.2));obtain⟨n2',kN⟩:∃ n2',m2.set kj nm i=n2':=⟨_,rfl⟩;rw [kN] at fZ fJ s1 fF fA;have fG:=hid fun (S2:Nat→Prop) (W:World) (y:Hd) (h2:RefS S2 W t T) (lW:∀ b,S2 b→b<W.heap.size) (hy:HdR S2 W y o n2')=>zBv h2 lW fS.out.gr.ok hy;have lX:j≠d∧j≠o:=⟨fun e=>(by have h1:=lD.out;rw [e,lN.out] at h1;rw [←Option.some.inj h1,lP.out] at fY;cases fY),fun e=>(by have h1:=lD.out;rw [e,gV.out] at h1;rw [←Option.some.inj h1,gW.out] at fY;cases fY)⟩
   have mT:zAd j ((T.upd o n2').upd d (n'.clear old)).nodes=some mj:=by rw [zAm _ lX.1,zAm _ lX.2];exact lD.out
   have lY:=fS.out.dev j mj lD.out;have gS:=hid fun t7 W (hb:RefS (zAM S g 2) W t7 (T.upd o n2')) (hk:g+2≤W.heap.size)=>zCl (zAM S g 2) t7 (T.upd o n2') d n' old W hb (jF.out W hk) fJ s1 s2 (zBp gJ.out) s3 s4;have mU:=hid fun t7 W (hb:RefS (zAM S g 2) W t7 ((T.upd o n2').upd d (n'.clear old))) (hk:g+2≤W.heap.size)=>zGA (zAM S g 2) t7 ((T.upd o n2').upd d (n'.clear old)) j mj W hb (jF.out W hk) fF mT lY.1 lY.2.1;have fK:=hid fA;clear fA s1 s2 s3 s4 s5 fJ fF fO mS lE lX mT lY kN;simp only [trV] at gS;unfold hdV zGn at fZ;simp only [zB3,zCh] at fZ
   go_upto_region 34 with (first
    | (refine zAJ (by rfl) (fun _ hK=>wp_load_row 28 _ rfl g rfl 28 (zAa t).toArray _ _ fD.tb Tryz.underlying28 rfl rfl (hK _ _ ?_)))
    | (go_at_call 81;(with_reducible refine ((gY.out w8 fD.bl).2).mono ?_);rintro e w9 ⟨rfl,fQ⟩;have fC:=fD.fresh fQ;replace b2:=(fQ.cell (p:=⟨y,2,none⟩) (World.block_lt_of_cell? _ _ b2)).trans b2))
   clear fD fQ;have gP:=hid fun W (hb:Below w9.heap.size w9 W)=>(jK.out W (fC.fresh hb).bl).2;rw [show Value.agg (zAa t).toArray=trV t from rfl] at gP;have lF:=hid (jK.out w9 fC.bl).1;have kO:=hid (fP.out w9 fC.bl);have jR:=hid (jF.out w9 fC.le);have fR:=hid fC.tb;have oK:=fC.le;obtain⟨S1,jS⟩:∃ S1,zAM S g 2=S1:=⟨_,rfl⟩;rw [jS] at lF kO jR;have kP:=hid jS;have lZ:=hid fC;clear jS fC;unfold trV at fG gP;obtain⟨a0,a1,a2,a3⟩:=zAr fR.out;have lG:Hid (Below w9.heap.size w9 w9.drew):=hid (zAf (Below.refl _ w9) 1);have lH:Hid (Below w9.heap.size w9 (w9.alloc (.cells z4.toArray 28)).drew):=hid (zAf ((Below.refl _ _).alloc (Nat.le_refl _) _) 1);have mV:=hid (Blk.new w9 28 z4);obtain⟨T',mW⟩:∃ T',T.upd o n2'=T':=⟨_,rfl⟩;rw [mW] at fG gS mU fK;clear mW
   go_cut [22] from 145 to 154 (fun cu wx=>∃ ub t6,cu=.pointer (some ⟨ub,0,none⟩)∧Hid (Blk wx ub 28 (zAa t6))∧Hid (RefS S1 wx t6 T')∧Hid (Below w9.heap.size w9 wx))
   case first =>
    go_region_held3 (fun w'=>w'.cell? ⟨g,0,none⟩=some (.int .i64 t.sectors)∧w'.cell? ⟨g,1,none⟩=some (.int .i64 t.inodes)∧w'.cell? ⟨g,2,none⟩=some (.int .i64 t.births)∧w'.cell? ⟨g,3,none⟩=some (.slice t.A t.l.length t.c))
     (first | go_keep)
     (first
      | (go_at_call 81;first
       | ((with_reducible refine (gP.out w9.drew lG.out).mono ?_);rintro e wa ⟨rfl,jT⟩;have fL:=hid (lG.out.trans (jT.mono lG.out.size));obtain⟨a0,a1,a2,a3⟩:=zAr (fR.out.fresh fL.out);have k1:=hid (fZ.out S1 wa (lF.out.fresh fL.out) (fun b hb=>Nat.lt_of_lt_of_le (jR.out b hb) fL.out.size));have k2:=hid (fZ.out (zAM S1 wa.heap.size 1) (wa.alloc (.cells z4.toArray 28)) (((lF.out.fresh fL.out).addR 1 (Nat.le_refl _)).fresh ((Below.refl _ _).alloc (Nat.le_refl _) _)) (zBe (fun b hb=>by have:=jR.out b hb;have:=fL.out.size;simp;omega) (by simp)));clear jT)
       | ((with_reducible refine (gP.out (w9.alloc (.cells z4.toArray 28)).drew lH.out).mono ?_);rintro e wa ⟨rfl,jT⟩;have fL:=hid (lH.out.trans (jT.mono lH.out.size));obtain⟨a0,a1,a2,a3⟩:=zAr (fR.out.fresh fL.out);have mX:Hid (∀ b,(zAM S1 w9.heap.size 1) b→b<wa.heap.size):=hid (zBe (fun b hb=>Nat.lt_of_lt_of_le (jR.out b hb) fL.out.size) (by have:=jT.size;simp at this;omega));have k3:=hid (fZ.out (zAM S1 w9.heap.size 1) wa ((lF.out.addR 1 (Nat.le_refl _)).fresh fL.out) mX.out);have oE:=hid (Blk.fresh (w:=(w9.alloc (.cells z4.toArray 28)).drew) mV.out jT);clear jT))
      | (go_at_call 117;first
       | ((with_reducible refine (k1.out).mono ?_);rintro e wb ⟨⟨y5,rfl,gZ⟩,gE⟩;have fI:=hid (fL.out.trans (gE.mono fL.out.size));obtain⟨a0,a1,a2,a3⟩:=zAr (fR.out.fresh fI.out);have k4:=hid (fG.out S1 wb y5 (kO.out.fresh fI.out) (fun b hb=>Nat.lt_of_lt_of_le (jR.out b hb) fI.out.size) gZ);have k5:=hid (fG.out (zAM S1 wb.heap.size 1) (wb.alloc (.cells z4.toArray 28)) y5 (((kO.out.fresh fI.out).addR 1 (Nat.le_refl _)).fresh ((Below.refl _ _).alloc (Nat.le_refl _) _)) (zBe (fun b hb=>by have:=jR.out b hb;have:=fI.out.size;simp;omega) (by simp)) ((gZ.addR 1 (Nat.le_refl _)).fresh ((Below.refl _ _).alloc (Nat.le_refl _) _)));clear gE gZ)
       | ((with_reducible refine (k2.out).mono ?_);rintro e wb ⟨⟨y5,rfl,gZ⟩,gE⟩;have fI:=hid (fL.out.trans ((((Below.refl _ _).alloc (Nat.le_refl _) _).trans (gE.mono (by simp))).mono fL.out.size));obtain⟨a0,a1,a2,a3⟩:=zAr (fR.out.fresh fI.out);have oF:Hid (∀ b,(zAM S1 wa.heap.size 1) b→b<wb.heap.size):=hid (zBe (fun b hb=>Nat.lt_of_lt_of_le (jR.out b hb) fI.out.size) (by have:=gE.size;simp at this;omega));have k6:=hid (fG.out (zAM S1 wa.heap.size 1) wb y5 ((((kO.out.fresh fL.out).addR 1 (Nat.le_refl _)).fresh ((Below.refl _ _).alloc (Nat.le_refl _) _)).fresh gE) oF.out gZ);have mA:=hid ((Blk.new wa 28 z4).fresh gE);clear gE gZ)
       | ((with_reducible refine (k3.out).mono ?_);rintro e wb ⟨⟨y5,rfl,gZ⟩,gE⟩;have fI:=hid (fL.out.trans (gE.mono fL.out.size));obtain⟨a0,a1,a2,a3⟩:=zAr (fR.out.fresh fI.out);have k7:=hid (fG.out (zAM S1 w9.heap.size 1) wb y5 ((kO.out.addR 1 (Nat.le_refl _)).fresh fI.out) (fun b hb=>Nat.lt_of_lt_of_le (mX.out b hb) gE.size) gZ);have mA:=hid (oE.out.fresh gE);clear gE gZ))
      | (go_at_call 113;first
       | ((with_reducible refine (k4.out).mono ?_);rintro e wd ⟨⟨t6,rfl,gA⟩,gB⟩;unfold trV;have gF:=hid (fI.out.trans (gB.mono fI.out.size));obtain⟨a0,a1,a2,a3⟩:=zAr (fR.out.fresh gF.out);have oG:=hid gA;clear gB gA)
       | ((with_reducible refine (k5.out).mono ?_);rintro e wd ⟨⟨t6,rfl,gA⟩,gB⟩;unfold trV;have gF:=hid (fI.out.trans ((((Below.refl _ _).alloc (Nat.le_refl _) _).trans (gB.mono (by simp))).mono fI.out.size));obtain⟨a0,a1,a2,a3⟩:=zAr (fR.out.fresh gF.out);have hZ:=(Blk.new wb 28 z4).fresh gB;have gQ:=zCi hZ t6;have kQ:=fR.out.lt;obtain⟨d0,d1,d2,d3⟩:=zAr ((fR.out.fresh gF.out).chg gQ.2 (by have:=fI.out.size;omega));have jA:=hid gQ;clear gQ kQ;obtain⟨z0,z1,z2,z3⟩:=zHI hZ;have f0:=hZ.frozen 0;have f1:=hZ.frozen 1;have f2:=hZ.frozen 2;have f3:=hZ.frozen 3;clear hZ;have mB:=hid gA;clear gB gA)
       | ((with_reducible refine (k6.out).mono ?_);rintro e wd ⟨⟨t6,rfl,gA⟩,gB⟩;unfold trV;have gF:=hid (fI.out.trans (gB.mono fI.out.size));obtain⟨a0,a1,a2,a3⟩:=zAr (fR.out.fresh gF.out);have hZ:=mA.out.fresh gB;have gQ:=zCi hZ t6;have kQ:=fR.out.lt;obtain⟨d0,d1,d2,d3⟩:=zAr ((fR.out.fresh gF.out).chg gQ.2 (by have:=fL.out.size;omega));have jA:=hid gQ;clear gQ kQ;obtain⟨z0,z1,z2,z3⟩:=zHI hZ;have f0:=hZ.frozen 0;have f1:=hZ.frozen 1;have f2:=hZ.frozen 2;have f3:=hZ.frozen 3;clear hZ;have mB:=hid gA;clear gB gA)
       | ((with_reducible refine (k7.out).mono ?_);rintro e wd ⟨⟨t6,rfl,gA⟩,gB⟩;unfold trV;have gF:=hid (fI.out.trans (gB.mono fI.out.size));obtain⟨a0,a1,a2,a3⟩:=zAr (fR.out.fresh gF.out);have hZ:=mA.out.fresh gB;have gQ:=zCi hZ t6;have kQ:=fR.out.lt;obtain⟨d0,d1,d2,d3⟩:=zAr ((fR.out.fresh gF.out).chg gQ.2 (by omega));have jA:=hid gQ;clear gQ kQ;obtain⟨z0,z1,z2,z3⟩:=zHI hZ;have f0:=hZ.frozen 0;have f1:=hZ.frozen 1;have f2:=hZ.frozen 2;have f3:=hZ.frozen 3;clear hZ;have mB:=hid gA;clear gB gA)))
    all_goals (go_wp2;go_meet)
    all_goals first
     | exact⟨_,t6,rfl,hid (Blk.new wd 28 (zAa t6)),hid (oG.out.fresh ((Below.refl _ _).alloc (Nat.le_refl _) _)),hid (gF.out.alloc gF.out.size _)⟩
     | (obtain⟨h1,h2⟩:=zGc jA.out mB.out gF.out (by first | exact Nat.le_refl _ | exact fL.out.size | exact fI.out.size) rfl;exact⟨_,t6,rfl,hid jA.out.1,hid h1,hid h2⟩)
   case rest =>
    obtain⟨ub,t6,rfl,hU,gA,kZ⟩:=hcut;have fB:=lZ.out.fresh kZ.out;have mC:=hU.out;rw [←kP.out] at gA;have mD:=gS.out t6 wc gA.out fB.le;clear fZ fG gP lG lH mV a0 a1 a2 a3 gS
    go_wp2_with (first
     | (refine wpList_load_row rfl 28 _ rfl ub rfl 28 (zAa t6).toArray _ _ mC Tryz.underlying28 rfl rfl ?_)
     | (go_at_call 114;(with_reducible refine (mD).mono ?_);rintro e w11 ⟨⟨t11,rfl,mE⟩,gN⟩;have fH:=fB.fresh gN;have kR:=mU.out t11 w11 mE fH.le)
     | (go_at_call 115;(with_reducible refine (kR).mono ?_);rintro e w12 ⟨⟨t12,rfl,mF⟩,mG⟩;have jU:=fH.fresh mG)
     | (refine wpList_store_row rfl 28 _ _ rfl (g+1) (zAa t12).toArray rfl (by rfl) 28 _ jU.rb rfl rfl (zAc t12) ?_))
    exact zAB jU.rb fT.out fK.out mF jU.bl fU.out ⟨by omega,by omega⟩ rfl rfl rfl rfl
end Go.Proofs.YtolpcfhfcdkokaaGreatDoor
