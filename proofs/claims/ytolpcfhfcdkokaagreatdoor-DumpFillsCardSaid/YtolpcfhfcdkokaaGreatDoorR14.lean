/- Joined out of SLinks..SDoes. -/
import Derived.Test.YtolpcfhfcdkokaaGreatDoorR13
set_option maxHeartbeats 16000000
set_option maxRecDepth 100000
set_option linter.unusedSimpArgs false
set_option linter.unusedVariables false
namespace Go.Proofs.YtolpcfhfcdkokaaGreatDoor
open Lib (hid)
open Proofs.Tryz renaming prog → Aa,underlying123 → Ab,underlying28 → Ac
open Code renaming wp → Ad
open Go renaming wpList_store_row → Ae,wpList_load_row → Ag,wp_load_row → Ah,setRow_heap → Ai
open Blk renaming new → Aj
open Option renaming isSome_none → Ak
open Bool renaming false_eq_true → Al
open List renaming getElem?_cons_succ → Am,getElem?_cons_zero → An
open Chg renaming refl → Ao
open Nat renaming le_refl → Ap,lt_of_lt_of_le → Aq
open RowKit.Below renaming refl → Ar
open PT renaming does → As
open Go.RowKit
theorem zJ1 (S:Nat→Prop) (t:Tr) (T:PT) (A:Option Addr) (c:Nat) (l:List ByteArray) (A2:Option Addr) (c2:Nat) (l2:List ByteArray) (w:World) (h:RefS S w t T) (hS:∀ b,S b→b<w.heap.size) (hT:T.Inv)
 (hl:NmAt w w.heap.size A c l) (hc:∀ x∈l,chk x=true) (jF:NmAt w w.heap.size A2 c2 l2) (gM:∀ x∈l2,chk x=true) :
 Calls Aa 77 #[.agg (zAa t).toArray,.slice A l.length c,.slice A2 l2.length c2] w (zIo S (T.link l l2) w):=by
 obtain⟨Q,hQ⟩:=nM (zIo S (T.link l l2) w);rw [hQ];obtain⟨g,hz⟩:=nM (w.heap.size);have fM:=hid (zBP h hz 2);have jG:=hid (inS (k:=2) hS hz);have jH:=hid fun (j:Nat) (n:PN) (hg:zAe j T.nodes=some n)=>zDO h hz 2 hT.gr.ok hg;have gF:=hid fun W (hb:Below g w W)=>zE0 t T A c l W (zBP h hz 2 W hb).ref hT.wf (hl.fresh (hz.symm▸hb)) fun x hx=>zBl (hc x hx);have fJ:=hid fun W (hb:Below g w W)=>zCT t T A2 c2 l2 W (zBP h hz 2 W hb).ref hT.wf (jF.fresh (hz.symm▸hb)) fun x hx=>zBl (gM x hx);have gN:=hid fun h=>zCv (T:=T) (m:=l2) h gM;have gO:=hid (zBT hT.wf l 1 (let ⟨n,h,_⟩:=hT.wf.root;⟨n,h⟩));have gP:=hid (zBu hT.wf l2);have hu:=hid (PT.link.eq_1 T l l2);have fV:=st_0 w t;rw [hz] at fV;unfold zJ9 at fJ;rw [show trV t=.agg (zAa t).toArray from rfl] at gF fJ;have fH:=hid hT;have fK:Hid (zIo S (T.link l l2) w=Q):=hQ;generalize jY:T.link l l2=lk at hu fK;clear jY hQ h hS hT hl hc jF gM;generalize T.walk l 1=r1 at *;generalize T.last l2=r2 at *;obtain⟨i,e1⟩:=r1;obtain⟨d,e2⟩:=r2;generalize zAM l2=nm at *;generalize l.length=n1 at *;generalize l2.length=n2 at *;simp only at gF fJ gN gO gP hu;have fN:=hid hz;go_enter Tryz.func77,Tryz.ntmps77;go_upto_region 1 with (fail)
 try simp only [hz]
 change Ad _ _ _ _ ((w.alloc (.cells (zAa t).toArray 28)).alloc (.cells z4.toArray 28));generalize (w.alloc (.cells (zAa t).toArray 28)).alloc (.cells z4.toArray 28)=w0 at *;clear hz
 go_upto_region 2 with (first
  | (refine ldT fV.tb rfl rfl rfl ?_)
  | (go_at_call 80;(with_reducible refine (gF.o w0 fV.bl).mono ?_);rintro e w1 ⟨rfl,jI⟩;have fB:=fV.fresh jI))
 clear fV jI gF;by_cases h1:e1=0;rotate_left
 · have fW:((e1:Int) != 0)=true:=by simp;omega
   go_wp2_with (first
    | (refine ldT fB.tb rfl rfl rfl ?_)
    | (refine stT t fB.rb rfl rfl rfl (by rfl) rfl ?_))
   exact zAA fB.rb fK.o (by rw [hu.o,if_pos h1]) (fM.o _ fB.bl) fB.bl fN.o ⟨by omega,by omega⟩ rfl rfl rfl rfl
 subst h1;obtain⟨m1,fX⟩:=gO.o rfl;by_cases h2:e2=0;rotate_left
 · have fW:((e2:Int) != 0)=true:=by simp;omega
   simp only [if_neg h2] at fJ
   go_wp2_with (first
    | (refine ldT fB.tb rfl rfl rfl ?_)
    | (go_at_call 109;(with_reducible refine (fJ.o w1 fB.bl).mono ?_);rintro e w2 ⟨rfl,gG⟩;have fI:=fB.fresh gG)
    | (refine ldT fI.tb rfl rfl rfl ?_)
    | (refine stT t fI.rb rfl rfl rfl (by rfl) rfl ?_))
   exact zAA fI.rb fK.o (by rw [hu.o,if_neg (by simp),if_pos h2]) (fM.o _ fI.bl) fI.bl fN.o ⟨by omega,by omega⟩ rfl rfl rfl rfl
 subst h2;simp only [if_true] at fJ;obtain⟨m2,fY,gQ⟩:=gP.o rfl;have gR:=gN.o rfl;have fO:=(fH.o.gr.ok.get fY).1;obtain⟨x2,-,-,gS⟩:=jH.o d m2 fY;obtain⟨x1,jJ,fP,jK⟩:=jH.o i m1 fX;have fZ:=hid jK;have fD:=hid fX;have fE:=hid fY;have fQ:=hid gQ;have gA:=hid gR;have gT:=hid fO;have gU:Hid (lk=if (zAe nm m2.names).isSome then (T,111) else if m1.dir=true then (T,102) else if m1.links=100 then (T,142) else if (T.place m2).2≠0 then (T,(T.place m2).2) else ((T.linksUp i).ins d (T.place m2).1 nm i,0)):=hid (by rw [hu.o,if_neg (by simp),if_neg (by simp),zAn fX,zAn fY,zAm fX]);clear hu gN gO gP
 go_upto_region 7 with (first
  | (refine ldT fB.tb rfl rfl rfl ?_)
  | (go_at_call 109;(with_reducible refine (fJ.o w1 fB.bl).mono ?_);rintro e w2 ⟨rfl,gG⟩;have fI:=fB.fresh gG))
 clear fB gG fJ;have gV:=hid fun W (hb:Below g w W)=>zDS (gS W hb).1 fO gQ (zBl gR);have gB:=hid gS;clear gS jK fX fY gQ gR fO;simp only [hdV] at gV
 go_upto_region 8 with (first
  | (refine ldT fI.tb rfl rfl rfl ?_)
  | (go_at_call 81;(with_reducible refine ((gB.o w2 fI.bl).2).mono ?_);rintro e w3 ⟨rfl,jL⟩;have gW:=fI.fresh jL)
  | (go_at_call 110;(with_reducible refine ((gV.o w3 gW.bl)).mono ?_);rintro e w4 hf;obtain⟨kk,ii,rfl,jM,jN⟩:=hf.uni;have gH:=gW.fresh jN;clear hf))
 clear fI gW jL jN gV gB
 go_upto_region 9 with (first
  | (refine ldT gH.tb rfl rfl rfl ?_)
  | (go_at_call 81;(with_reducible refine ((fZ.o w4 gH.bl).2).mono ?_);rintro e w5 ⟨rfl,jO⟩;have gI:=gH.fresh jO)
  | (refine Ae rfl 123 _ _ rfl w5.heap.size (zAb x1).toArray rfl (by rfl) 123 _ (Aj w5 123 z8) rfl rfl (zHb x1) ?_))
 obtain⟨hX,fA⟩:=gI.held x1;change Ad _ _ _ _ ((w5.alloc (.cells z8.toArray 123)).setRow w5.heap.size (zAb x1).toArray);have jZ:g+2≤w5.heap.size:=gI.le;have kA:=((fM.o w5 gI.bl).addR 1 nr).fresh (zBt w5 x1).2;clear gH jO gI;generalize (w5.alloc (.cells z8.toArray 123)).setRow w5.heap.size (zAb x1).toArray=w6 at *;generalize w5.heap.size=y at *;obtain⟨b0,b1,b2,b3,b4,b5,b6,b7⟩:=zAN hX;rcases jM.o with ⟨j,k,hgj,hkj,rfl,rfl⟩ | ⟨hgj,rfl,rfl⟩
 · have t0:decide ((0:Int)≤(k:Int))=true:=by simp
   go_wp2_with (first
    | (refine ldT fA.tb rfl rfl rfl ?_)
    | (refine stT t fA.rb rfl rfl rfl (by rfl) rfl ?_))
   exact zAA fA.rb fK.o (by rw [gU.o,hgj];rfl) (fM.o _ fA.bl) fA.bl fN.o ⟨by omega,by omega⟩ rfl rfl rfl rfl
 have fC:=gU.o;rw [hgj] at fC;simp only [Ak,Al,if_false] at fC;have gX:=hid hgj;clear jM gU hgj
 have fU:x1.kind=2∧m1.dir=true∨x1.kind=1∧m1.dir=false:=by rw [jJ];unfold PN.kind;cases m1.dir<;>simp
 rw [fP] at b2;rcases fU with ⟨fU,gC⟩ | ⟨fU,gC⟩
 · rw [fU] at b1;rw [if_pos gC] at fC;have fF:=hid fC;clear fC
   go_wp2_with (first
    | (refine ldT fA.tb rfl rfl rfl ?_)
    | (refine stT t fA.rb rfl rfl rfl (by rfl) rfl ?_))
   exact zAA fA.rb fK.o (by rw [fF.o]) (fM.o _ fA.bl) fA.bl fN.o ⟨by omega,by omega⟩ rfl rfl rfl rfl
 rw [fU] at b1;rw [if_neg (by rw [gC];simp)] at fC;have jP:=(fH.o.gr.ok.get fD.o).1.links;by_cases fR:m1.links=100
 · rw [if_pos fR] at fC;have fF:=hid fC;rw [fR] at b2;clear fC
   go_wp2_with (first
    | (refine ldT fA.tb rfl rfl rfl ?_)
    | (refine stT t fA.rb rfl rfl rfl (by rfl) rfl ?_))
   exact zAA fA.rb fK.o (by rw [fF.o]) (fM.o _ fA.bl) fA.bl fN.o ⟨by omega,by omega⟩ rfl rfl rfl rfl
 rw [if_neg fR] at fC;have fF:=hid fC
 have kE:decide ((m1.links:Int)≥100)=false:=by simp;omega
 clear fC;have jQ:Hid (RefS (zAJ (zAJ S g 2) y 1) w6 t T):=hid kA;have jR:Hid (∀ b,zAJ (zAJ S g 2) y 1 b→b<w6.heap.size):=hid (zA8 (fun b hb=>jG.o w6 fA.le b hb) (by have:=hX.lt;omega));have fG:=hid (zJA w6 jQ.o jR.o fH.o fE.o fQ.o (fH.o.gr.ok.get fD.o).2 gA.o gX.o);obtain⟨pl,gY⟩:=nM (T.place m2);obtain⟨k,c7⟩:=pl;unfold PutP at fG;rw [gY] at fG fF;simp only at fG fF;have gD:=hid gY;clear gY
 go_upto_region 16 with (first
  | (refine ldT fA.tb rfl rfl rfl ?_)
  | (go_at_call 112;(with_reducible refine (fG.o).mono ?_);rintro e w7 ⟨⟨t7,rfl,jS⟩,gJ⟩;have jT:=fA.fresh gJ)
  | (refine stT t7 (Aj w7 28 z4) rfl rfl rfl (by rfl) rfl ?_))
 obtain⟨hU,gK⟩:=zAL w7 t7;have fS:=jT.fresh gK;have gL:=(hX.fresh gJ).fresh gK;have kF:y<w7.heap.size:=(hX.fresh gJ).lt;have gZ:=hid (jS.fresh gK);change Ad _ _ _ _ ((w7.alloc (.cells z4.toArray 28)).setRow w7.heap.size (zAa t7).toArray);clear fA gJ jT gK jS hX fG jR jQ b0 b1 b2 b3 b4 b5 b6 b7;generalize (w7.alloc (.cells z4.toArray 28)).setRow w7.heap.size (zAa t7).toArray=w8 at *;generalize w7.heap.size=ub at *;by_cases h7:c7=0;rotate_left
 · have fW:((c7:Int) != 0)=true:=by simp;omega
   rw [if_pos h7] at fF
   go_wp2_with (first
    | (refine ldT fS.tb rfl rfl rfl ?_)
    | (refine stT t fS.rb rfl rfl rfl (by rfl) rfl ?_))
   exact zAA fS.rb fK.o (by rw [fF.o]) (fM.o _ fS.bl) fS.bl fN.o ⟨by omega,by omega⟩ rfl rfl rfl rfl
 subst h7;simp only [ne_eq,not_true_eq_false,if_false,if_true] at fF gZ;have b2:=gL.cell 2;simp only [zAb,Am,An] at b2;rw [fP] at b2;have jU:IntKind.i64.wrap ((m1.links:Int)+1)=(m1.links:Int)+1:=zAF _ (by omega);have kC:Blk (w8.setCell ⟨y,2,none⟩ (.int .i64 ((m1.links:Int)+1))) y 123 (zAb {x1 with links:=(m1.links:Int)+1}):=gL.set_ 2 _;have jA:Chg (fun b=>b=y) w8 (w8.setCell ⟨y,2,none⟩ (.int .i64 ((m1.links:Int)+1))):=(Ao (fun b=>b=y) w8).setCell (p:=⟨y,2,none⟩) (fun _=>rfl) _;have jB:=fS.chg jA jZ;have kD:=hU.chg jA (by omega);have jV:=(gZ.o.chg (jA.mono fun b _ (e:b=y)=>.inr (by omega))).mono fun b hb=>Or.inl hb;have jW:=((fZ.o _ jB.bl).1.linked (m1.links+1) ((m1.links:Int)+1) (by omega));have gE:(T.upd d (m2.set k nm i)).Ok:=fH.o.gr.ok.upd (zCs fH.o.wf fE.o fQ.o (by have:=zBs (T:=T) (nm:=nm) gT.o (by rw [gD.o]);rw [gD.o] at this;exact this) (zCX gA.o) (by have:=(fH.o.gr.ok.get fD.o).2;have:=fH.o.gr.ok.ino;omega)) (fH.o.gr.ok.get fE.o).2;have fL:=hid (zBr jV (jG.o _ jB.le) gE jW);rw [show ∀ t,trV t=.agg (zAa t).toArray from fun _=>rfl,show ∀ x,hdV x=.agg (zAb x).toArray from fun _=>rfl] at fL
 have jX:lk=((T.upd d (m2.set k nm i)).upd i {m1 with links:=m1.links+1},0):=by
  have fW:d≠i:=fun e=>by
   have h1:=fE.o;rw [e,fD.o] at h1;rw [Option.some.inj h1,fQ.o] at gC;cases gC
  rw [fF.o,zJw fH.o.gr.ok _ _ fW];unfold PT.linksUp PT.ins;rw [zAn fD.o,zAl _ fW,fE.o]
 have kG:=gL.frozen 2;have jC:=hid jX;clear fF jW jV gE jX fS hU gL gZ jJ fP fU;go_upto_region 19 with (fail)
 try simp only [jU]
 try rw [jU]
 generalize w8.setCell ⟨y,2,none⟩ (.int .i64 ((m1.links:Int)+1))=w9 at *
 go_wp2_with (first
  | (refine ldT kD rfl rfl rfl ?_)
  | (refine Ag rfl 123 _ rfl y rfl 123 (zAb {x1 with links:=(m1.links:Int)+1}).toArray _ _ kC Ab rfl rfl ?_)
  | (go_at_call 113;(with_reducible refine (fL.o).mono ?_);rintro e w10 ⟨⟨t10,rfl,jD⟩,jE⟩;have fT:=jB.fresh jE)
  | (refine stT t10 fT.rb rfl rfl rfl (by rfl) rfl ?_))
 exact zAA fT.rb fK.o jC.o jD fT.bl fN.o ⟨by omega,by omega⟩ rfl rfl rfl rfl
theorem zFO (S:Nat→Prop) (t:Tr) (T:PT) (A:Option Addr) (c:Nat) (l:List ByteArray) (dir:Bool) (made:Nat) (w:World) (h:RefS S w t T) (hS:∀ b,S b→b<w.heap.size) (hT:T.Inv)
 (hl:NmAt w w.heap.size A c l) (hc:∀ x∈l,chk x=true) (kU:made≤1099511627776) :
 Calls Aa 76 #[.agg (zAa t).toArray,.slice A l.length c,.int .i64 (if dir=true then 2 else 1),.int .i64 (made:Int)] w (DoT S (T.make l dir made) w):=by
 obtain⟨lk,jE⟩:=nM (T.make l dir made);rw [jE];obtain⟨Q,hQ⟩:=nM (DoT S lk w);rw [hQ];obtain⟨kd,kG⟩:∃ kd:Int,(if dir=true then 2 else 1)=kd:=⟨_,rfl⟩;rw [kG];obtain⟨g,hz⟩:=nM (w.heap.size);have gM:=hid (zBP h hz 3);have kI:=hid (inS (k:=3) hS hz);have kV:=hid fun (j:Nat) (n:PN) (hg:zAe j T.nodes=some n)=>zDO h hz 3 hT.gr.ok hg;have fO:=hid fun W (hb:Below g w W)=>zCT t T A c l W (zBP h hz 3 W hb).ref hT.wf (hl.fresh (hz.symm▸hb)) fun x hx=>zBl (hc x hx);have jO:=hid fun h=>zCv (T:=T) (m:=l) h hc;have jP:=hid (zBu hT.wf l);have hat_:=hid fun (i:Nat) W (hb:Below g w W)=>rat_any (zBP h hz 3 W hb) hT.gr.ok i;have fU:Hid (t.inodes=(T.inodes:Int)):=hid h.ref.rep.ino;rw [PT.make.eq_1 T l dir made] at jE;have fP:=stm_0 w t;rw [hz] at fP;unfold zJ9 at fO;rw [show trV t=.agg (zAa t).toArray from rfl] at fO;have fQ:=hid hT;have gN:=hid hQ;have hu:=hid jE.symm;have kW:=hT.gr.ok.ino;clear jE hQ h hS hT hl hc;generalize T.last l=r2 at *;obtain⟨d,e2⟩:=r2;generalize zAM l=nm at *;generalize l.length=n1 at *;simp only at fO jO jP hu;have gO:=hid hz;go_enter Tryz.func76,Tryz.ntmps76;go_upto_region 1 with (fail)
 try simp only [hz]
 change Ad _ _ _ _ (((w.alloc (.cells (zAa t).toArray 28)).alloc (.cells z4.toArray 28)).alloc (.cells zAk.toArray 67));generalize ((w.alloc (.cells (zAa t).toArray 28)).alloc (.cells z4.toArray 28)).alloc (.cells zAk.toArray 67)=w0 at *;clear hz;by_cases h2:e2=0;rotate_left
 · have jF:((e2:Int) != 0)=true:=by simp;omega
   simp only [if_neg h2] at fO
   go_wp2_with (first
    | (refine ldT fP.st.tb rfl rfl rfl ?_)
    | (go_at_call 109;(with_reducible refine (fO.o w0 fP.st.bl).mono ?_);rintro e w2 ⟨rfl,fV⟩;have fA:=fP.fresh fV)
    | (refine ldT fA.st.tb rfl rfl rfl ?_)
    | (refine stT t fA.st.rb rfl rfl rfl (by rfl) rfl ?_)
    | (refine stA e2 st0 zAj zAj (fA.ab.row_far (by omega) _) rfl rfl rfl (by rfl) rfl rfl rfl ?_))
   exact zA0 fA.st.rb (z:=z4) fA.ab gN.o (by rw [hu.o,if_pos h2];rfl) (gM.o _ fA.st.bl) (zAw _ _ e2 st0) rfl fA.st.bl gO.o ⟨by omega,by omega⟩ ⟨by omega,by omega⟩ (by omega) rfl rfl rfl rfl
 subst h2;simp only [if_true] at fO;obtain⟨m2,fR,gF⟩:=jP.o (by trivial);have gG:=jO.o (by trivial);have fG:=(fQ.o.gr.ok.get fR).1;obtain⟨x2,-,-,gP⟩:=kV.o d m2 fR;have fS:=hu.o;rw [if_neg (by simp),zAn fR] at fS
 go_upto_region 4 with (first
  | (refine ldT fP.st.tb rfl rfl rfl ?_)
  | (go_at_call 109;(with_reducible refine (fO.o w0 fP.st.bl).mono ?_);rintro e w2 ⟨rfl,fV⟩;have fA:=fP.fresh fV))
 clear fP fV fO hu jP jO;have fW:=hid gP
 cases fT:zAe nm m2.names with
 | some j =>
  obtain⟨kp,kJ⟩:=fQ.o.gr.slotn d m2 nm j fR fT;have gH:=hid fun W (hb:Below g w W)=>zDK (gP W hb).1 fG gF (zBl gG) fT kJ;rw [fT] at fS;have gQ:Hid (lk=(T,.err 111)):=hid (by rw [fS];rfl)
  have lD:decide ((kp:Int)≥0)=true:=by simp
  simp only [hdV] at gH;clear gP fS fT fG fR kJ gG gF
  go_wp2_with (first
   | (refine ldT fA.st.tb rfl rfl rfl ?_)
   | (go_at_call 81;(with_reducible refine ((fW.o w2 fA.st.bl).2).mono ?_);rintro e w3 ⟨rfl,jG⟩;have gI:=fA.fresh jG)
   | (go_at_call 110;(with_reducible refine ((gH.o w3 gI.st.bl)).mono ?_);rintro e w4 ⟨rfl,jH⟩;have fK:=gI.fresh jH)
   | (refine ldT fK.st.tb rfl rfl rfl ?_)
   | (refine stT t fK.st.rb rfl rfl rfl (by rfl) rfl ?_)
   | (refine stA 111 st0 zAj zAj (fK.ab.row_far (by omega) _) rfl rfl rfl (by rfl) rfl rfl rfl ?_))
  exact zA0 fK.st.rb (z:=z4) fK.ab gN.o (by exact gQ.o) (gM.o _ fK.st.bl) (zAw _ _ 111 st0) rfl fK.st.bl gO.o ⟨by omega,by omega⟩ ⟨by omega,by omega⟩ (by omega) rfl rfl rfl rfl
 | none =>
  have gH:=hid fun W (hb:Below g w W)=>zF4 (gP W hb).1 fG gF (zBl gG) fT;rw [fT] at fS;simp only [Ak,Al,if_false] at fS;have gR:=hid fun (i:Nat) W (hb:Below g w W) (hk:g+3≤W.heap.size) (hi:1≤i∧i≤T.inodes)=>zJA W (gM.o W hb) (kI.o W hk) fQ.o fR gF hi gG fT;have fL:=hid fR;have jQ:=hid gF;have jR:=hid gG;have gS:=hid fG;have gQ:=hid fS;simp only [hdV] at gH;clear gP fS fT fG fR gG gF
  go_upto_region 7 with (first
   | (refine ldT fA.st.tb rfl rfl rfl ?_)
   | (go_at_call 81;(with_reducible refine ((fW.o w2 fA.st.bl).2).mono ?_);rintro e w3 ⟨rfl,jG⟩;have gI:=fA.fresh jG)
   | (go_at_call 110;(with_reducible refine ((gH.o w3 gI.st.bl)).mono ?_);rintro e w4 ⟨rfl,jH⟩;have fK:=gI.fresh jH))
  clear fA gI jG jH gH fW;obtain⟨io,jS⟩:=nM (T.inodes);have fD:=hid jS;rw [jS] at kW fU;clear jS;go_wp2_with fail
  go_loopw [15] (fun i' wr=>∃ k:Nat,2≤k∧i'=.int .i64 (k:Int)∧k≤io+3∧Hid (zA5 T (T.inodes+3-k) k=T.free)∧Hid (Below w4.heap.size w4 wr)) (fun i' _=>io+3-(intOf i').toNat)
  case atStart=>exact⟨2,Ap _,rfl,by omega,hid rfl,hid br⟩
  case round =>
   obtain⟨k,lE,rfl,lF,gJ,jI⟩:=hrel;have fE:=fK.fresh jI.o;obtain⟨a0,a1,a2,a3⟩:=zAp fE.st.tb;rw [fU.o] at a1;by_cases kX:k≤io;rotate_left
   · have gT:T.free=0:=by
      rw [←gJ.o]
      cases T.inodes+3-k with
      | zero=>rfl
      | succ m=>rw [zA5,if_pos (by have:=fD.o;omega)]
     have fF:Hid (lk=(T,.err 81)):=hid (by rw [gQ.o,if_pos gT]);have kY:decide ((k:Int)≤(io:Int))=false:=decide_eq_false (by omega);have kZ:decide ((k:Int) > (io:Int))=true:=decide_eq_true (by omega);clear gJ gT
     go_wp2_with (first
      | (refine ldT fE.st.tb rfl rfl rfl ?_)
      | (refine stT t fE.st.rb rfl rfl rfl (by rfl) rfl ?_)
      | (refine stA 81 st0 zAj zAj (fE.ab.row_far (by omega) _) rfl rfl rfl (by rfl) rfl rfl rfl ?_))
     exact zA0 fE.st.rb (z:=z4) fE.ab gN.o (by exact fF.o) (gM.o _ fE.st.bl) (zAw _ _ 81 st0) rfl fE.st.bl gO.o ⟨by omega,by omega⟩ ⟨by omega,by omega⟩ (by omega) rfl rfl rfl rfl
   have kY:decide ((k:Int)≤(io:Int))=true:=decide_eq_true (by omega);have fB:=hat_.o k wr fE.st.bl
   cases fX:zAe k T.nodes with
   | some nk =>
    rw [fX] at fB
    have jT:Hid (zA5 T (T.inodes+3-(k+1)) (k+1)=T.free):=hid (by
     have h9:=gJ.o;rw [show T.inodes+3-k=(T.inodes+3-(k+1))+1 by have:=fD.o;omega,zA5,if_neg (by have:=fD.o;omega),fX] at h9;exact h9)
    simp only [Option.isSome_some] at fB;clear gJ fX
    go_wp2_with (first
     | (refine zAK (by rfl) (fun _ hK=>Ah 28 _ rfl g rfl 28 (zAa t).toArray _ _ fE.st.tb Ac rfl rfl (hK _ _ ?_)))
     | (go_at_call 111;(with_reducible refine (fB).mono ?_);rintro e w5 ⟨⟨z,rfl,lA⟩,jJ⟩))
    go_roundw
    case rel=>exact⟨k+1,by omega,by go_num,by omega,jT,hid (jI.o.trans (jJ.mono jI.o.size))⟩
    case measure=>simp [intOf];omega
   | none =>
    rw [fX] at fB
    have gT:T.free=k:=by
     rw [←gJ.o];rw [show T.inodes+3-k=(T.inodes+3-(k+1))+1 by have:=fD.o;omega,zA5,if_neg (by have:=fD.o;omega),fX];rfl
    have gU:1≤k∧k≤T.inodes:=⟨by omega,by rw [fD.o];exact kX⟩;have jU:=hid fX;have fF:=gQ.o;rw [gT,if_neg (by omega)] at fF;have kZ:decide ((k:Int) > (io:Int))=false:=decide_eq_false (by omega);simp only [Ak] at fB;clear gJ fX gT gQ
    go_upto_region 12 with (first
     | (refine zAK (by rfl) (fun _ hK=>Ah 28 _ rfl g rfl 28 (zAa t).toArray _ _ fE.st.tb Ac rfl rfl (hK _ _ ?_)))
     | (go_at_call 111;(with_reducible refine (fB).mono ?_);rintro e w5 ⟨⟨z,rfl,lA⟩,jJ⟩;have gV:=fE.fresh jJ;obtain⟨a0,a1,a2,a3⟩:=zAp gV.st.tb;rw [fU.o] at a1))
    clear a0 a1 a2 a3 fE jI jJ fB fK;have gW:=hid (gR.o k w5 gV.st.bl gV.le gU);obtain⟨pl,jV⟩:=nM (T.place m2);obtain⟨kp,c7⟩:=pl;unfold PutP at gW;rw [jV] at gW fF;simp only at gW fF;have gX:=hid jV;clear jV gR
    go_upto_region 13 with (first
     | (refine ldT gV.st.tb rfl rfl rfl ?_)
     | (go_at_call 112;(with_reducible refine (gW.o).mono ?_);rintro e w7 ⟨⟨t7,rfl,kK⟩,kL⟩;have jW:=gV.fresh kL)
     | (refine stT t7 (Aj w7 28 z4) rfl rfl rfl (by rfl) rfl ?_))
    obtain⟨hU,jK⟩:=zAL w7 t7;have fM:=jW.fresh jK;have jX:g+3≤w7.heap.size:=jW.le;have jY:=hid ((kK.addR 1 nr).fresh jK);have kM:Hid (∀ b,zAJ (zAJ S g 3) w7.heap.size 1 b→b<((w7.alloc (.cells z4.toArray 28)).setRow w7.heap.size (zAa t7).toArray).heap.size):=hid (zA8 (fun b hb=>Aq (kI.o w7 jX b hb) jK.size) hU.lt);change Ad _ _ _ _ ((w7.alloc (.cells z4.toArray 28)).setRow w7.heap.size (zAa t7).toArray);clear kL jW jK kK gW;generalize (w7.alloc (.cells z4.toArray 28)).setRow w7.heap.size (zAa t7).toArray=w8 at *;generalize w7.heap.size=ub at *;by_cases h7:c7=0;rotate_left
    · have jF:((c7:Int) != 0)=true:=by simp;omega
      rw [if_pos h7] at fF;have jL:=hid fF;clear fF
      go_wp2_with (first
       | (refine ldT fM.st.tb rfl rfl rfl ?_)
       | (refine stT t fM.st.rb rfl rfl rfl (by rfl) rfl ?_)
       | (refine stA c7 st0 zAj zAj (fM.ab.row_far (by omega) _) rfl rfl rfl (by rfl) rfl rfl rfl ?_))
      exact zA0 fM.st.rb (z:=z4) fM.ab gN.o (by exact jL.o) (gM.o _ fM.st.bl) (zAw _ _ c7 st0) rfl fM.st.bl gO.o ⟨by omega,by omega⟩ ⟨by omega,by omega⟩ (by omega) rfl rfl rfl rfl
    subst h7;simp only [ne_eq,not_true_eq_false,if_false,if_true] at fF jY
    have gY:m2.Fit kp nm:=by
     have:=zBs (T:=T) (nm:=nm) gS.o (by rw [gX.o]);rw [gX.o] at this;exact this
    have fY:(T.upd d (m2.set kp nm k)).Ok:=fQ.o.gr.ok.upd (zCs fQ.o.wf fL.o jQ.o gY (zCX jR.o) (by have:=fQ.o.gr.ok.ino;omega)) (fQ.o.gr.ok.get fL.o).2
    have jF:d≠k:=fun e=>by have h1:=fL.o;rw [e,jU.o] at h1;cases h1
    obtain⟨T9,gZ⟩:=nM ((T.upd d (m2.set kp nm k)).upd k (zCR dir made))
    have kN:(T.upd k (zCR dir made)).ins d kp nm k=T9:=by rw [←gZ,zCl ((zAl _ jF).trans fL.o),zJw fQ.o.gr.ok _ _ (fun e=>jF e.symm)]
    rw [kN] at fF
    have jA:T9.Ok:=by rw [←gZ];exact fY.upd (zIi dir kU) gU
    have kO:zAe k T9.nodes=some (zCR dir made):=by rw [←gZ];exact zA6 _ _
    have jL:=hid fF;obtain⟨b',lB⟩:∃ b',IntKind.i64.wrap (t7.births+1)=b':=⟨_,rfl⟩;have jM:Blk (w8.setCell ⟨ub,2,none⟩ (.int .i64 b')) ub 28 (zAa {t7 with births:=b'}):=hU.set_ 2 _;have jN:Chg (fun b=>b=ub) w8 (w8.setCell ⟨ub,2,none⟩ (.int .i64 b')):=(Ao (fun b=>b=ub) w8).setCell (p:=⟨ub,2,none⟩) (fun _=>rfl) _;have kP:=fM.chg jN jX;have kQ:=(jY.o.chg (jN.mono fun b _ (e:b=ub)=>.inr (by omega))).births b';have fH:=zBr kQ (fun b hb=>Aq (kM.o b hb) jN.size) fY (new_rep _ _ k dir made b');rw [gZ,newH_v,kG,show trV {t7 with births:=b'}=.agg (zAa {t7 with births:=b'}).toArray from rfl] at fH;have kR:=hid fH;have jZ:=hid fun (S2:Nat→Prop) t9 W (h9:RefS S2 W t9 T9)=>zGN S2 t9 T9 k (zCR dir made) W h9 jA kO;have fV:=hU.cell 2;have f2:=hU.frozen 2;simp only [zAa,Am,An] at fV;clear fF gY fY gZ kN jA kO fH kQ jY kM fM;go_upto_region 16 with (fail)
    try simp only [lB]
    generalize w8.setCell ⟨ub,2,none⟩ (.int .i64 b')=w9 at *;clear hU fV f2 jN;obtain⟨u0,u1,u2,u3⟩:=zAp jM
    go_upto_region 17 with (first
     | (refine Ag rfl 28 _ rfl ub rfl 28 (zAa {t7 with births:=b'}).toArray _ _ jM Ac rfl rfl ?_)
     | (go_at_call 113;(with_reducible refine (kR.o).mono ?_);rintro e w10 ⟨⟨t10,rfl,fZ⟩,gA⟩;have jB:=kP.fresh gA;have gB:=jM.fresh gA)
     | (refine stT t10 gB rfl rfl rfl (by rfl) rfl ?_))
    have kA:=hid fZ;obtain⟨fN,gC⟩:Blk (w10.setRow ub (zAa t10).toArray) ub 28 (zAa t10)∧Chg (fun b=>b=ub) w10 (w10.setRow ub (zAa t10).toArray):=⟨Ai w10 ub _ _ _ _ gB,(Ao (fun b=>b=ub) w10).setRow (fun _=>rfl) _⟩;have fI:=jB.chg gC jX;have jC:=hid ((fZ.chg (gC.mono fun b _ (e:b=ub)=>.inr (by omega))).mono fun b hb=>Or.inl hb);clear fZ kA jB gB gC kP jM gA kR u0 u1 u2 u3;generalize w10.setRow ub (zAa t10).toArray=w11 at *;have lC:=hid fI;have kC:=hid fN;obtain⟨u0,u1,u2,u3⟩:=zAp fN;obtain⟨st,jD⟩:=nM (T9.stat k);rw [jD] at jL jZ;have gD:=hid fun W (h9:RefS (zAJ S g 3) W t10 T9)=>jZ.o (zAJ S g 3) t10 W h9;unfold trV stV stC at gD;have hF:Fin w w11.drew g 3 S t10 T9 z4 zAk:=Fin.fresh (wk:=w11) ⟨fI.st.rb,fI.ab,fI.st.bl,jC.o,Ap _⟩ (zAd (Ar _ w11) 1);have kD:=fN.fresh (zAd (Ar _ w11) 1);have kE:=hid hF;have kC:=hid kD;obtain⟨kS,kT⟩:=hF.tree;have gE:=hid kS;have kF:=hid (kD.chg kT (by omega));obtain⟨z0,z1,z2,z3⟩:=zH3 hF.tb;obtain⟨f0,f1,f2,f3⟩:=z_f4 hF.tb;obtain⟨v0,v1,v2,v3⟩:=zAp kF.o;clear fI fN jZ jD jC lC hF kD kS kT
    go_region_held3 (fun w'=>w'.cell? ⟨ub,0,none⟩=some (.int .i64 t10.sectors)∧w'.cell? ⟨ub,1,none⟩=some (.int .i64 t10.inodes)∧w'.cell? ⟨ub,2,none⟩=some (.int .i64 t10.births)∧w'.cell? ⟨ub,3,none⟩=some (.slice t10.A t10.l.length t10.c))
     (first | go_keep)
     (first
      | (go_at_call 82;first
       | ((with_reducible refine (gD.o w11.drew kE.o.rf).mono ?_);rintro e w12 ⟨rfl,fC⟩;have gK:=hid (kE.o.fresh fC);have gL:=hid (kC.o.fresh fC);obtain⟨u0,u1,u2,u3⟩:=zAp gL.o;obtain⟨z0,z1,z2,z3⟩:=zH3 gK.o.tb;obtain⟨f0,f1,f2,f3⟩:=z_f4 gK.o.tb;obtain⟨x1,x2⟩:=gK.o.tree;obtain⟨v0,v1,v2,v3⟩:=zAp (gL.o.chg x2 (by omega));obtain⟨⟨p0,p1,p2,p3,p4,p5,p6,p7,p8,p9⟩,q0,q1,q2,q3,q4,q5,q6,q7,q8,q9⟩:=zHH x1.ab;obtain⟨y1,y2⟩:=x1.ans 0 st.ino st.kind st.links st.size st.made st.blocks zAj zAj;obtain⟨r0,r1,r2,r3⟩:=zAp ((gL.o.chg x2 (by omega)).chg y2 (by omega));have fJ:=hid y1;clear fC x1 x2 y1 y2)
       | ((with_reducible refine (gD.o _ gE.o.rf).mono ?_);rintro e w12 ⟨rfl,fC⟩;have gK:=hid (gE.o.fresh fC);have gL:=hid (kF.o.fresh fC);obtain⟨u0,u1,u2,u3⟩:=zAp gL.o;obtain⟨⟨p0,p1,p2,p3,p4,p5,p6,p7,p8,p9⟩,q0,q1,q2,q3,q4,q5,q6,q7,q8,q9⟩:=zHH gK.o.ab;obtain⟨y1,y2⟩:=gK.o.ans 0 st.ino st.kind st.links st.size st.made st.blocks zAj zAj;obtain⟨r0,r1,r2,r3⟩:=zAp (gL.o.chg y2 (by omega));have fJ:=hid y1;clear fC y1 y2)))
    all_goals (clear kC kE gE kF)
    all_goals go_wp2
    all_goals exact zE9 fJ.o.tb fJ.o.ab gN.o jL.o fJ.o.rf (zAw _ _ 0 st) rfl fJ.o.bl gO.o rfl rfl rfl rfl
structure StD (w wk:World) (g:Nat) (t:Tr) (oc:List Value):Prop where
 tb:Blk wk g 28 (zAa t)
 ob:Blk wk (g+1) 70 oc
 rb:Blk wk (g+2) 28 z4
 ab:Blk wk (g+3) 67 zAk
 bl:Below g w wk
theorem std_0 (w:World) (t:Tr) (oc:List Value):StD w ((((w.alloc (.cells (zAa t).toArray 28)).alloc (.cells oc.toArray 70)).alloc (.cells z4.toArray 28)).alloc (.cells zAk.toArray 67)) w.heap.size t oc:=by
 refine⟨(((Aj w 28 (zAa t)).alloc _).alloc _).alloc _,?_,?_,?_,(((br.alloc nr _).alloc (by simp) _).alloc (by simp;omega) _).alloc (by simp;omega) _⟩
 · have:=((Aj (w.alloc (.cells (zAa t).toArray 28)) 70 oc).alloc (.cells z4.toArray 28)).alloc (.cells zAk.toArray 67);simpa using this
 · have:=(Aj ((w.alloc (.cells (zAa t).toArray 28)).alloc (.cells oc.toArray 70)) 28 z4).alloc (.cells zAk.toArray 67);simpa using this
 · have:=Aj (((w.alloc (.cells (zAa t).toArray 28)).alloc (.cells oc.toArray 70)).alloc (.cells z4.toArray 28)) 67 zAk;simpa using this
section
variable {w wk w':World} {g:Nat} {t:Tr} {oc:List Value}
theorem StD.le (h:StD w wk g t oc):g+4≤wk.heap.size:=h.ab.lt
theorem StD.fresh (h:StD w wk g t oc) (hb:Below wk.heap.size wk w'):StD w w' g t oc:=⟨h.tb.fresh hb,h.ob.fresh hb,h.rb.fresh hb,h.ab.fresh hb,h.bl.trans (hb.mono (by have:=h.le;omega))⟩
theorem StD.far {S:Nat→Prop} (h:StD w wk g t oc) (hc:Chg S wk w') (hS:∀ b,S b→g+4≤b):StD w w' g t oc :=
 ⟨h.tb.chg hc fun e=>by have:=hS _ e;omega,h.ob.chg hc fun e=>by have:=hS _ e;omega,h.rb.chg hc fun e=>by have:=hS _ e;omega,h.ab.chg hc fun e=>by have:=hS _ e;omega,h.bl.trans (hc.below (by have:=h.le;omega) fun b hb e=>by have:=hS _ e;omega)⟩
end
structure FinD (w wk:World) (g:Nat) (S:Nat→Prop) (t':Tr) (T':PT) (ct ca:List Value):Prop where
 tb:Blk wk (g+2) 28 ct
 ab:Blk wk (g+3) 67 ca
 bl:Below g w wk
 rf:RefS (zAJ S g 5) wk t' T'
section
variable {w wk w':World} {g:Nat} {S:Nat→Prop} {t':Tr} {T':PT} {ct ca:List Value}
theorem FinD.fresh (h:FinD w wk g S t' T' ct ca) (hb:Below wk.heap.size wk w'):FinD w w' g S t' T' ct ca:=⟨h.tb.fresh hb,h.ab.fresh hb,h.bl.trans (hb.mono (by have:=h.ab.lt;omega)),h.rf.fresh hb⟩
theorem FinD.tree (h:FinD w wk g S t' T' z4 ca):FinD w ((((wk.setCell ⟨g+2,0,none⟩ (.int .i64 t'.sectors)).setCell ⟨g+2,1,none⟩ (.int .i64 t'.inodes)).setCell ⟨g+2,2,none⟩ (.int .i64 t'.births)).setCell ⟨g+2,3,none⟩ (.slice t'.A t'.l.length t'.c)) g S t' T' (zAa t') ca∧Chg (fun b=>b=g+2) wk ((((wk.setCell ⟨g+2,0,none⟩ (.int .i64 t'.sectors)).setCell ⟨g+2,1,none⟩ (.int .i64 t'.inodes)).setCell ⟨g+2,2,none⟩ (.int .i64 t'.births)).setCell ⟨g+2,3,none⟩ (.slice t'.A t'.l.length t'.c)):=by
 have h1:=zCg h.tb t';exact⟨⟨h1.1,h.ab.chg h1.2 (by omega),h.bl.trans (h1.2.below (by have:=h.ab.lt;omega) fun b hb e=>by omega),h.rf.chg (h1.2.mono fun b _ (e:b=g+2)=>.inr (by omega))⟩,h1.2⟩
theorem FinD.ans (h:FinD w wk g S t' T' ct zAk) (c s0 s1 s2 s3 s4 s5:Int) (d e:Value):FinD w ((((((((((wk.setCell ⟨g+3,0,none⟩ (.int .i64 c)).setCell ⟨g+3,1,none⟩ (.int .i64 s0)).setCell ⟨g+3,2,none⟩ (.int .i64 s1)).setCell ⟨g+3,3,none⟩ (.int .i64 s2)).setCell ⟨g+3,4,none⟩ (.int .i64 s3)).setCell ⟨g+3,5,none⟩ (.int .i64 s4)).setCell ⟨g+3,6,none⟩ (.int .i64 s5)).setCell ⟨g+3,7,none⟩ d).setCell ⟨g+3,8,none⟩ e).setCell ⟨g+3,9,none⟩ (.bool false)) g S t' T' ct [.int .i64 c,.int .i64 s0,.int .i64 s1,.int .i64 s2,.int .i64 s3,.int .i64 s4,.int .i64 s5,d,e,.bool false]∧Chg (fun b=>b=g+3) wk ((((((((((wk.setCell ⟨g+3,0,none⟩ (.int .i64 c)).setCell ⟨g+3,1,none⟩ (.int .i64 s0)).setCell ⟨g+3,2,none⟩ (.int .i64 s1)).setCell ⟨g+3,3,none⟩ (.int .i64 s2)).setCell ⟨g+3,4,none⟩ (.int .i64 s3)).setCell ⟨g+3,5,none⟩ (.int .i64 s4)).setCell ⟨g+3,6,none⟩ (.int .i64 s5)).setCell ⟨g+3,7,none⟩ d).setCell ⟨g+3,8,none⟩ e).setCell ⟨g+3,9,none⟩ (.bool false)):=by
 have h1:=ans_set h.ab c s0 s1 s2 s3 s4 s5 d e;exact⟨⟨h.tb.chg h1.2 (by omega),h1.1,h.bl.trans (h1.2.below (by have:=h.ab.lt;omega) fun b hb e=>by omega),h.rf.chg (h1.2.mono fun b _ (e:b=g+3)=>.inr (by omega))⟩,h1.2⟩
end
theorem zDk {w:World} {g:Nat} {o:Opn} {A:Option Addr} {c:Nat} (h:Blk w g 70 (opC o A c)):w.cell? ⟨g,0,none⟩=some (.int .i64 o.kind)∧w.cell? ⟨g,1,none⟩=some (.string o.path)∧w.cell? ⟨g,2,none⟩=some (.string o.dst)∧w.cell? ⟨g,3,none⟩=some (.int .i64 o.off)∧w.cell? ⟨g,4,none⟩=some (.int .i64 o.len)∧w.cell? ⟨g,5,none⟩=some (.slice A o.data.length c)∧w.cell? ⟨g,6,none⟩=some (.int .i64 o.made)∧w.cell? ⟨g,7,none⟩=some (.int .i64 o.pick):=⟨h.cell 0,h.cell 1,h.cell 2,h.cell 3,h.cell 4,h.cell 5,h.cell 6,h.cell 7⟩
theorem zHx (S:Nat→Prop) (t:Tr) (T:PT) (op:Opn) (A:Option Addr) (c:Nat) (Af:Option Addr) (cf:Nat) (l:List ByteArray) (At:Option Addr) (ct:Nat) (l2:List ByteArray) (w:World) (h:RefS S w t T) (hS:∀ b,S b→b<w.heap.size) (hT:T.Inv)
 (gC:op.fine=true) (lK:op.kind≠12) (lL:op.kind≠14) (hds:Sees w w.heap.size 1 A op.data.length (bvs op.data)) (lM:op.data.length≤1000000000)
 (hl:NmAt w w.heap.size Af cf l) (hc:∀ x∈l,chk x=true) (kY:NmAt w w.heap.size At ct l2) (kZ:∀ x∈l2,chk x=true) :
 Calls Aa 50 #[.agg (zAa t).toArray,.agg (opC op A c).toArray,.slice Af l.length cf,.slice At l2.length ct] w (DoT S (T.does op l l2) w):=by
 obtain⟨lk,kK⟩:=nM (T.does op l l2);rw [kK];obtain⟨Q,hQ⟩:=nM (DoT S lk w);rw [hQ];obtain⟨g,hz⟩:=nM (w.heap.size);have gP:=hid (zBP h hz 5);have lR:=hid (inS (k:=5) hS hz);have lA:=hid fun (j:Nat) (n:PN) (hg:zAe j T.nodes=some n)=>zDO h hz 5 hT.gr.ok hg;have jI:=hid fun W (hb:Below g w W)=>hl.fresh (hz.symm▸hb);have lB:=hid fun W (hb:Below g w W)=>kY.fresh (hz.symm▸hb);have kL:=hid fun W (hb:Below g w W)=>(hds.below (hz.symm▸hb:Below w.heap.size w W)).more (hz.symm▸hb:Below w.heap.size w W).size;have jJ:Hid (∀ b,S b→b<g):=hid (by rw [←hz];exact hS);have jA:=std_0 w t (opC op A c);rw [hz] at jA;have gD:=hid hT;have fO:=hid hQ;have hu:=hid kK.symm;have fP:=hid hz;have jK:=hid hc;have jN:=hid kZ
 have lN:0≤op.made∧op.made≤1099511627776∧1≤op.kind∧op.kind≤14:=by
  unfold Opn.fine at gC;have:=of_decide_eq_true gC;omega
 obtain⟨lO,lS,lT,lP⟩:=lN;have lC:Hid (op.made=(op.made.toNat:Int)):=hid (Int.toNat_of_nonneg lO).symm
 have lD:op.made.toNat≤1099511627776:=by omega
 have jL:=hid fun W (hb:Below g w W)=>zE0 t T Af cf l W (zBP h hz 5 W hb).ref hT.wf (hl.fresh (hz.symm▸hb)) fun x hx=>zBl (hc x hx);rw [show trV t=.agg (zAa t).toArray from rfl] at jL;have kM:=hid (zBT hT.wf l 1 (let ⟨n,h,_⟩:=hT.wf.root;⟨n,h⟩));clear kK hQ h hS hT hl hc kY kZ hds gC;obtain⟨n1,kF⟩:=nM (l.length);obtain⟨n2,kN⟩:=nM (l2.length);have fV:=hid kF;have jO:=hid kN;rw [kF] at jL;rw [kF,kN];clear kF kN;go_enter Tryz.func50,Tryz.ntmps50;go_upto_region 1 with (fail)
 try simp only [hz]
 change Ad _ _ _ _ ((((w.alloc (.cells (zAa t).toArray 28)).alloc (.cells (opC op A c).toArray 70)).alloc (.cells z4.toArray 28)).alloc (.cells zAk.toArray 67));generalize (((w.alloc (.cells (zAa t).toArray 28)).alloc (.cells (opC op A c).toArray 70)).alloc (.cells z4.toArray 28)).alloc (.cells zAk.toArray 67)=w0 at *;clear hz
 go_upto_region 2 with (first
  | (refine ldT jA.tb rfl rfl rfl ?_)
  | (refine stT t (Aj w0 28 z4) rfl rfl rfl (by rfl) rfl ?_))
 obtain⟨hU,kG⟩:=zAL w0 t;have fF:=jA.fresh kG;have lU:g+4≤w0.heap.size:=jA.le;change Ad _ _ _ _ ((w0.alloc (.cells z4.toArray 28)).setRow w0.heap.size (zAa t).toArray);have jP:=(gP.o w0 jA.bl).addR 1 nr
 have jQ:Hid (∀ (j:Nat) (n:PN),zAe j T.nodes=some n→∃ x,x.kind=n.kind∧HdR (zAJ (zAJ S g 5) w0.heap.size 1) ((w0.alloc (.cells z4.toArray 28)).setRow w0.heap.size (zAa t).toArray) x j n∧∀ W,Below g w W→HdR (zAJ S g 5) W x j n∧Calls Aa 81 #[.agg (zAa t).toArray,.int .i64 (j:Int)] W fun e w'=>e=.returned (.agg (zAb x).toArray)∧Below W.heap.size W w'):=hid fun j n hg=>by
  obtain⟨x,h1,h2,h3⟩:=lA.o j n hg;exact⟨x,h1,((h3 w0 jA.bl).1.addR 1 nr).fresh kG,h3⟩
 have jR:=hid (jP.fresh kG);clear kG jA jP lA;generalize (w0.alloc (.cells z4.toArray 28)).setRow w0.heap.size (zAa t).toArray=w1 at *;generalize w0.heap.size=ub at *;have jM:=hid fun W (hb:Below w1.heap.size w1 W)=>jR.o.fresh hb
 have gQ:=hid fun (W:World) (hb:ub+1≤W.heap.size)=>zA8 (S:=zAJ S g 5) (g:=ub) (k:=1) (B:=W.heap.size) (fun b fG=>by
  rcases fG with fG | fG
  · have:=jJ.o b fG;omega
  · omega) hb
 have gX:ub+1≤w1.heap.size:=hU.lt;have o0:=fF.ob.cell 0;simp only [opC,An] at o0;clear jR;by_cases k1:op.kind=1
 · have fK:Hid (lk=T.make l false op.made.toNat):=hid (by rw [hu.o];unfold As;simp [k1])
   have fQ:=hid (zFO (zAJ S g 5) t T Af cf l false op.made.toNat w1 (gP.o w1 fF.bl) (fun b hb=>by
    rcases hb with hb | hb
    · have:=jJ.o b hb;omega
    · omega) gD.o (jI.o w1 fF.bl) jK.o lD)
   rw [k1] at o0;rw [fV.o,←lC.o] at fQ;rw [show (if false=true then (2:Int) else 1)=1 from rfl] at fQ;have o6:=fF.ob.cell 6;simp only [opC,An,Am] at o6
   go_wp2_with (first
    | (refine ldT fF.tb rfl rfl rfl ?_)
    | (go_at_call 76;(with_reducible refine (fQ.o).mono ?_);rintro eb w2 ⟨⟨t2,v2,rfl,fR,gT⟩,fG⟩;have fD:=fF.fresh fG;obtain⟨dA,dc,eA,ec,rfl,gU,gV,kO,kP⟩:=gT)
    | (refine stT t2 fD.rb rfl rfl rfl (by rfl) rfl ?_)
    | (refine stA _ _ (.slice dA _ dc) (.slice eA _ ec) (fD.ab.row_far (by omega) _) rfl rfl rfl (by rfl) rfl rfl rfl ?_))
   exact zA0 (k:=5) fD.rb fD.ab fO.o fK.o fR ⟨dA,dc,eA,ec,rfl,gU,gV,kO,kP⟩ rfl fD.bl fP.o ⟨by omega,by omega⟩ ⟨by omega,by omega⟩ (by omega) rfl rfl rfl rfl
 by_cases k2:op.kind=2
 · have fK:Hid (lk=T.make l true op.made.toNat):=hid (by rw [hu.o];unfold As;simp [k2])
   have fQ:=hid (zFO (zAJ S g 5) t T Af cf l true op.made.toNat w1 (gP.o w1 fF.bl) (fun b hb=>by
    rcases hb with hb | hb
    · have:=jJ.o b hb;omega
    · omega) gD.o (jI.o w1 fF.bl) jK.o lD)
   rw [k2] at o0;rw [fV.o,←lC.o] at fQ;rw [show (if true=true then (2:Int) else 1)=2 from rfl] at fQ;have o6:=fF.ob.cell 6;simp only [opC,An,Am] at o6
   go_wp2_with (first
    | (refine ldT fF.tb rfl rfl rfl ?_)
    | (go_at_call 76;(with_reducible refine (fQ.o).mono ?_);rintro eb w2 ⟨⟨t2,v2,rfl,fR,gT⟩,fG⟩;have fD:=fF.fresh fG;obtain⟨dA,dc,eA,ec,rfl,gU,gV,kO,kP⟩:=gT)
    | (refine stT t2 fD.rb rfl rfl rfl (by rfl) rfl ?_)
    | (refine stA _ _ (.slice dA _ dc) (.slice eA _ ec) (fD.ab.row_far (by omega) _) rfl rfl rfl (by rfl) rfl rfl rfl ?_))
   exact zA0 (k:=5) fD.rb fD.ab fO.o fK.o fR ⟨dA,dc,eA,ec,rfl,gU,gV,kO,kP⟩ rfl fD.bl fP.o ⟨by omega,by omega⟩ ⟨by omega,by omega⟩ (by omega) rfl rfl rfl rfl
 by_cases k3:op.kind=3
 · have fK:Hid (lk=((T.link l l2).1,.err (T.link l l2).2)):=hid (by rw [hu.o];unfold As;simp [k3]);have fI:=hid (zJ1 (zAJ (zAJ S g 5) ub 1) t T Af cf l At ct l2 w1 (jM.o w1 br) (gQ.o w1 gX) gD.o (jI.o w1 fF.bl) jK.o (lB.o w1 fF.bl) jN.o);rw [k3] at o0;obtain⟨r2,fW⟩:=nM (T.link l l2);rw [fW] at fI fK;obtain⟨T2,c2⟩:=r2;rw [fV.o,jO.o] at fI;have kQ:∀ b,zAJ (zAJ S g 5) ub 1 b→b<w1.heap.size:=gQ.o w1 gX
   go_wp2_with (first
    | (refine ldT fF.tb rfl rfl rfl ?_)
    | (go_at_call 77;(with_reducible refine (fI.o).mono ?_);rintro eb w2 ⟨⟨t2,rfl,fR⟩,fG⟩;have fD:=fF.fresh fG;have fT:=hU.fresh fG;have gE:Chg (fun b=>b=ub) w2 (w2.setRow ub (zAa t2).toArray):=(Ao (fun b=>b=ub) w2).setRow (fun _=>rfl) _;have jB:Blk (w2.setRow ub (zAa t2).toArray) ub 28 (zAa t2):=Ai _ _ _ _ _ _ fT;have fJ:=fD.far gE (fun b e=>by omega);have jC:=(fR.chg (gE.mono fun b _ (e:b=ub)=>.inr (by omega))).mono fun b hb=>Or.inl hb)
    | (refine stT t2 fT rfl rfl rfl (by rfl) rfl ?_)
    | (refine ldT jB rfl rfl rfl ?_)
    | (refine stT t2 fJ.rb rfl rfl rfl (by rfl) rfl ?_)
    | (refine stA c2 st0 zAj zAj (fJ.ab.row_far (by omega) _) rfl rfl rfl (by rfl) rfl rfl rfl ?_))
   exact zA0 (k:=5) fJ.rb fJ.ab fO.o fK.o jC (zAw _ _ c2 st0) rfl fJ.bl fP.o ⟨by omega,by omega⟩ ⟨by omega,by omega⟩ (by omega) rfl rfl rfl rfl
 by_cases k4:op.kind=4
 · have fK:Hid (lk=((T.unlink l).1,.err (T.unlink l).2)):=hid (by rw [hu.o];unfold As;simp [k4]);have fI:=hid (zFy (zAJ (zAJ S g 5) ub 1) t T Af cf l false w1 (jM.o w1 br) (gQ.o w1 gX) gD.o (jI.o w1 fF.bl) jK.o);rw [k4] at o0;obtain⟨r2,fW⟩:=nM (T.unlink l);simp only [Al,if_false] at fI;rw [fW] at fI fK;obtain⟨T2,c2⟩:=r2;rw [fV.o] at fI;have kQ:∀ b,zAJ (zAJ S g 5) ub 1 b→b<w1.heap.size:=gQ.o w1 gX
   go_wp2_with (first
    | (refine ldT fF.tb rfl rfl rfl ?_)
    | (go_at_call 78;(with_reducible refine (fI.o).mono ?_);rintro eb w2 ⟨⟨t2,rfl,fR⟩,fG⟩;have fD:=fF.fresh fG;have fT:=hU.fresh fG;have gE:Chg (fun b=>b=ub) w2 (w2.setRow ub (zAa t2).toArray):=(Ao (fun b=>b=ub) w2).setRow (fun _=>rfl) _;have jB:Blk (w2.setRow ub (zAa t2).toArray) ub 28 (zAa t2):=Ai _ _ _ _ _ _ fT;have fJ:=fD.far gE (fun b e=>by omega);have jC:=(fR.chg (gE.mono fun b _ (e:b=ub)=>.inr (by omega))).mono fun b hb=>Or.inl hb)
    | (refine stT t2 fT rfl rfl rfl (by rfl) rfl ?_)
    | (refine ldT jB rfl rfl rfl ?_)
    | (refine stT t2 fJ.rb rfl rfl rfl (by rfl) rfl ?_)
    | (refine stA c2 st0 zAj zAj (fJ.ab.row_far (by omega) _) rfl rfl rfl (by rfl) rfl rfl rfl ?_))
   exact zA0 (k:=5) fJ.rb fJ.ab fO.o fK.o jC (zAw _ _ c2 st0) rfl fJ.bl fP.o ⟨by omega,by omega⟩ ⟨by omega,by omega⟩ (by omega) rfl rfl rfl rfl
 by_cases k5:op.kind=5
 · have fK:Hid (lk=((T.rmdir l).1,.err (T.rmdir l).2)):=hid (by rw [hu.o];unfold As;simp [k5]);have fI:=hid (zFy (zAJ (zAJ S g 5) ub 1) t T Af cf l true w1 (jM.o w1 br) (gQ.o w1 gX) gD.o (jI.o w1 fF.bl) jK.o);rw [k5] at o0;obtain⟨r2,fW⟩:=nM (T.rmdir l);simp only [if_true] at fI;rw [fW] at fI fK;obtain⟨T2,c2⟩:=r2;rw [fV.o] at fI;have kQ:∀ b,zAJ (zAJ S g 5) ub 1 b→b<w1.heap.size:=gQ.o w1 gX
   go_wp2_with (first
    | (refine ldT fF.tb rfl rfl rfl ?_)
    | (go_at_call 78;(with_reducible refine (fI.o).mono ?_);rintro eb w2 ⟨⟨t2,rfl,fR⟩,fG⟩;have fD:=fF.fresh fG;have fT:=hU.fresh fG;have gE:Chg (fun b=>b=ub) w2 (w2.setRow ub (zAa t2).toArray):=(Ao (fun b=>b=ub) w2).setRow (fun _=>rfl) _;have jB:Blk (w2.setRow ub (zAa t2).toArray) ub 28 (zAa t2):=Ai _ _ _ _ _ _ fT;have fJ:=fD.far gE (fun b e=>by omega);have jC:=(fR.chg (gE.mono fun b _ (e:b=ub)=>.inr (by omega))).mono fun b hb=>Or.inl hb)
    | (refine stT t2 fT rfl rfl rfl (by rfl) rfl ?_)
    | (refine ldT jB rfl rfl rfl ?_)
    | (refine stT t2 fJ.rb rfl rfl rfl (by rfl) rfl ?_)
    | (refine stA c2 st0 zAj zAj (fJ.ab.row_far (by omega) _) rfl rfl rfl (by rfl) rfl rfl rfl ?_))
   exact zA0 (k:=5) fJ.rb fJ.ab fO.o fK.o jC (zAw _ _ c2 st0) rfl fJ.bl fP.o ⟨by omega,by omega⟩ ⟨by omega,by omega⟩ (by omega) rfl rfl rfl rfl
 by_cases k6:op.kind=6
 · have fK:Hid (lk=((T.rename l l2).1,.err (T.rename l l2).2)):=hid (by rw [hu.o];unfold As;simp [k6]);have fI:=hid (zG6 (zAJ (zAJ S g 5) ub 1) t T Af cf l At ct l2 w1 (jM.o w1 br) (gQ.o w1 gX) gD.o (jI.o w1 fF.bl) jK.o (lB.o w1 fF.bl) jN.o);rw [k6] at o0;obtain⟨r2,fW⟩:=nM (T.rename l l2);rw [fW] at fI fK;obtain⟨T2,c2⟩:=r2;rw [fV.o,jO.o] at fI;have kQ:∀ b,zAJ (zAJ S g 5) ub 1 b→b<w1.heap.size:=gQ.o w1 gX
   go_wp2_with (first
    | (refine ldT fF.tb rfl rfl rfl ?_)
    | (go_at_call 79;(with_reducible refine (fI.o).mono ?_);rintro eb w2 ⟨⟨t2,rfl,fR⟩,fG⟩;have fD:=fF.fresh fG;have fT:=hU.fresh fG;have gE:Chg (fun b=>b=ub) w2 (w2.setRow ub (zAa t2).toArray):=(Ao (fun b=>b=ub) w2).setRow (fun _=>rfl) _;have jB:Blk (w2.setRow ub (zAa t2).toArray) ub 28 (zAa t2):=Ai _ _ _ _ _ _ fT;have fJ:=fD.far gE (fun b e=>by omega);have jC:=(fR.chg (gE.mono fun b _ (e:b=ub)=>.inr (by omega))).mono fun b hb=>Or.inl hb)
    | (refine stT t2 fT rfl rfl rfl (by rfl) rfl ?_)
    | (refine ldT jB rfl rfl rfl ?_)
    | (refine stT t2 fJ.rb rfl rfl rfl (by rfl) rfl ?_)
    | (refine stA c2 st0 zAj zAj (fJ.ab.row_far (by omega) _) rfl rfl rfl (by rfl) rfl rfl rfl ?_))
   exact zA0 (k:=5) fJ.rb fJ.ab fO.o fK.o jC (zAw _ _ c2 st0) rfl fJ.bl fP.o ⟨by omega,by omega⟩ ⟨by omega,by omega⟩ (by omega) rfl rfl rfl rfl
 have fK:Hid (lk=if (T.walk l 1).2≠0 then (T,.err (T.walk l 1).2) else T.asks op (T.walk l 1).1):=hid (by rw [hu.o];unfold As;simp [k1,k2,k3,k4,k5,k6,lK,lL]);obtain⟨r1,lE⟩:=nM (T.walk l 1);rw [lE] at fK kM jL;obtain⟨i,e1⟩:=r1;simp only at fK kM jL
 have lV:7≤op.kind:=by omega
 have c1:(op.kind==1)=false:=by simp;omega
 have c2:(op.kind==2)=false:=by simp;omega
 have c3:(op.kind==3)=false:=by simp;omega
 have c4:(op.kind==4)=false:=by simp;omega
 have c5:(op.kind==5)=false:=by simp;omega
 have c6:(op.kind==6)=false:=by simp;omega
 clear lE hu
 go_upto_region 19 with (first
  | (refine ldT fF.tb rfl rfl rfl ?_)
  | (go_at_call 80;(with_reducible refine (jL.o w1 fF.bl).mono ?_);rintro eb w2 ⟨rfl,fG⟩;have fD:=fF.fresh fG;have fT:=hU.fresh fG;have o2:=fD.ob.cell 0;simp only [opC,An] at o2))
 have jD:=hid fT;have lF:Below w1.heap.size w1 w2:=fG;have jS:=hid fun W (hb:Below w2.heap.size w2 W)=>jM.o W (fG.trans (hb.mono fG.size));clear fF hU fG o0 jL jM;by_cases he:e1=0;rotate_left
 · have lW:((e1:Int) != 0)=true:=by simp;omega
   have gY:Hid (lk=(T,.err e1)):=hid (by rw [fK.o,if_pos he])
   go_wp2_with (first
    | (refine ldT fD.tb rfl rfl rfl ?_)
    | (refine stT t fD.rb rfl rfl rfl (by rfl) rfl ?_)
    | (refine stA e1 st0 zAj zAj (fD.ab.row_far (by omega) _) rfl rfl rfl (by rfl) rfl rfl rfl ?_))
   exact zA0 (k:=5) fD.rb fD.ab fO.o gY.o (gP.o _ fD.bl) (zAw _ _ e1 st0) rfl fD.bl fP.o ⟨by omega,by omega⟩ ⟨by omega,by omega⟩ (by omega) rfl rfl rfl rfl
 subst he;obtain⟨n,hn⟩:=kM.o (by trivial);obtain⟨x,lG,jT,hx⟩:=jQ.o i n hn;have lH:=hid (jT.fresh lF);have gY:Hid (lk=T.asks op i):=hid (by rw [fK.o,if_neg (by simp)]);have kR:=hid hx;have gR:=hid hn;have lQ:=hid (gD.o.gr.ok.get hn).1
 have gF:x.kind=2∧n.dir=true∨x.kind=1∧n.dir=false:=by rw [lG];unfold PN.kind;cases n.dir<;>simp
 clear fK hx hn jQ lG jT
 go_upto_region 22 with (first
  | (refine ldT fD.tb rfl rfl rfl ?_)
  | (go_at_call 81;(with_reducible refine ((kR.o w2 fD.bl).2).mono ?_);rintro eb w3 ⟨rfl,kI⟩)
  | (refine Ae rfl 123 _ _ rfl w3.heap.size (zAb x).toArray rfl (by rfl) 123 _ (Aj w3 123 z8) rfl rfl (zHb x) ?_))
 obtain⟨hX,lI⟩:=zBt w3 x;have gG:=kI.trans (lI.mono kI.size);have fE:=fD.fresh gG;have lJ:=jD.o.fresh gG;have lX:ub<w3.heap.size:=Aq jD.o.lt kI.size;change Ad _ _ _ _ ((w3.alloc (.cells z8.toArray 123)).setRow w3.heap.size (zAb x).toArray);have jU:=jS.o _ gG;have jV:=hid (lH.o.fresh gG);clear fD jD fT kI lI gG jS o2 lF lH;generalize (w3.alloc (.cells z8.toArray 123)).setRow w3.heap.size (zAb x).toArray=w4 at *;generalize w3.heap.size=y at *;have jW:=hid fun W (hb:Below w4.heap.size w4 W)=>jU.fresh hb;have jX:=hid hX;clear jU;have fB:=hid fE;have gH:=hid lJ;obtain⟨oo0,oo1,oo2,oo3,oo4,oo5,oo6,oo7⟩:=zDk fE.ob;obtain⟨b0,b1,b2,b3,b4,b5,b6,b7⟩:=zAN hX;obtain⟨a0,a1,a2,a3⟩:=zAp fE.tb;clear hX lJ;by_cases k10:op.kind=10
 · have fX:Hid (lk=(T,⟨0,T.stat i,[],[]⟩)):=hid (by rw [gY.o];unfold PT.asks;rw [if_pos k10])
   have t10:(op.kind==10)=true:=by rw [k10];rfl
   obtain⟨st,jE⟩:=nM (T.stat i);rw [jE] at fX;have kJ:=hid fun W (h9:RefS (zAJ S g 5) W t T)=>zGN (zAJ S g 5) t T i n W h9 gD.o.gr.ok gR.o;rw [jE] at kJ;unfold trV stV stC at kJ;clear jE;go_upto_region 23 with (fail);have fN:Below w4.heap.size w4 w4.drew:=zAd (Ar _ w4) 1;have hF:FinD w w4.drew g S t T z4 zAk:=FinD.fresh (wk:=w4) ⟨fB.o.rb,fB.o.ab,fB.o.bl,gP.o _ fB.o.bl⟩ fN;have gA:=hid hF;have gI:=hid (fB.o.tb.fresh fN);have fY:=hid (jX.o.fresh fN);have gJ:=hid (fB.o.ob.fresh fN);obtain⟨gZ,fU⟩:=hF.tree;have fH:=hid gZ;have gK:=hid (gI.o.chg fU (by omega));have gB:=hid (fY.o.chg fU (by omega));have gW:=hid (gJ.o.chg fU (by omega));obtain⟨z0,z1,z2,z3⟩:=zH3 hF.tb;obtain⟨f0,f1,f2,f3⟩:=z_f4 hF.tb;obtain⟨v0,v1,v2,v3⟩:=zAp (gK.o);clear fE hF gZ fU fN
   go_region_held3 (fun w'=>w'.cell? ⟨g,0,none⟩=some (.int .i64 t.sectors)∧w'.cell? ⟨g,1,none⟩=some (.int .i64 t.inodes)∧w'.cell? ⟨g,2,none⟩=some (.int .i64 t.births)∧w'.cell? ⟨g,3,none⟩=some (.slice t.A t.l.length t.c))
    (first | go_keep)
    (first
     | (go_at_call 82;first
      | ((with_reducible refine (kJ.o w4.drew gA.o.rf).mono ?_);rintro eb w12 ⟨rfl,fA⟩;have fL:=hid (gA.o.fresh fA);have fM:=hid (gI.o.fresh fA);have fS:=hid (fY.o.fresh fA);have gS:=hid (gJ.o.fresh fA);skip;obtain⟨u0,u1,u2,u3⟩:=zAp (fM.o);obtain⟨z0,z1,z2,z3⟩:=zH3 fL.o.tb;obtain⟨f0,f1,f2,f3⟩:=z_f4 fL.o.tb;obtain⟨x1,x2⟩:=fL.o.tree;obtain⟨v0,v1,v2,v3⟩:=zAp (fM.o.chg x2 (by omega));obtain⟨⟨p0,p1,p2,p3,p4,p5,p6,p7,p8,p9⟩,q0,q1,q2,q3,q4,q5,q6,q7,q8,q9⟩:=zHH x1.ab;obtain⟨y1,y2⟩:=x1.ans 0 st.ino st.kind st.links st.size st.made st.blocks zAj zAj;obtain⟨r0,r1,r2,r3⟩:=zAp ((fM.o.chg x2 (by omega)).chg y2 (by omega));have fC:=hid y1;have jF:=hid ((x2.mono (U:=zAJ S g 5) fun b _ (e:b=g+2)=>.inr (by omega)).trans (y2.mono (U:=zAJ S g 5) fun b _ (e:b=g+3)=>.inr (by omega)) (fun _ _ h=>h) (fun _ _ h=>h));clear fA x1 x2 y1 y2)
      | ((with_reducible refine (kJ.o _ fH.o.rf).mono ?_);rintro eb w12 ⟨rfl,fA⟩;have fL:=hid (fH.o.fresh fA);have fM:=hid (gK.o.fresh fA);have fS:=hid (gB.o.fresh fA);have gS:=hid (gW.o.fresh fA);skip;obtain⟨u0,u1,u2,u3⟩:=zAp (fM.o);obtain⟨⟨p0,p1,p2,p3,p4,p5,p6,p7,p8,p9⟩,q0,q1,q2,q3,q4,q5,q6,q7,q8,q9⟩:=zHH fL.o.ab;obtain⟨y1,y2⟩:=fL.o.ans 0 st.ino st.kind st.links st.size st.made st.blocks zAj zAj;obtain⟨r0,r1,r2,r3⟩:=zAp (fM.o.chg y2 (by omega));have fC:=hid y1;have jF:=hid (y2.mono (U:=zAJ S g 5) fun b _ (e:b=g+3)=>.inr (by omega));clear fA y1 y2)))
   all_goals (clear gA fH gI fY gJ gK gB gW)
   all_goals go_wp2
   all_goals exact zE9 (k:=5) fC.o.tb fC.o.ab fO.o fX.o fC.o.rf (zAw _ _ 0 st) rfl fC.o.bl fP.o rfl rfl rfl rfl
 have t10:(op.kind==10)=false:=by simp;omega
 by_cases k11:op.kind=11
 · have t11:(op.kind==11)=true:=by rw [k11];rfl
   rcases gF with ⟨gF,gL⟩ | ⟨gF,gL⟩
   · obtain⟨L,hL⟩:=nM (n.names.map (zD6 T))
     have fX:Hid (lk=(T,⟨0,st0,[],L⟩)):=hid (by
      rw [gY.o];unfold PT.asks PT.list;rw [if_neg k10,if_pos k11,if_pos (by rw [zAm gR.o];exact gL),zAn gR.o,←hL];rfl)
     have gM:=hid fun W (hb:Below g w W) (h9:RefS (zAJ S g 5) W t T)=>zFK t T i n x W (h9.mono fun _ h=>h.elim) ((kR.o W hb).1.mono fun _ h=>h.elim) gD.o.wf gR.o gL;unfold trV hdV zAb ListP at gM;rw [hL] at gM;rw [gF] at b1 gM;have jG:=jX.o;clear hL;go_upto_region 27 with (fail);have fN:Below w4.heap.size w4 w4.drew:=zAd (Ar _ w4) 1;have hF:FinD w w4.drew g S t T z4 zAk:=FinD.fresh (wk:=w4) ⟨fB.o.rb,fB.o.ab,fB.o.bl,gP.o _ fB.o.bl⟩ fN;have gA:=hid hF;have gI:=hid (fB.o.tb.fresh fN);have fY:=hid (jX.o.fresh fN);have gJ:=hid (fB.o.ob.fresh fN);obtain⟨gZ,fU⟩:=hF.tree;have fH:=hid gZ;have gK:=hid (gI.o.chg fU (by omega));have gB:=hid (fY.o.chg fU (by omega));have gW:=hid (gJ.o.chg fU (by omega));obtain⟨z0,z1,z2,z3⟩:=zH3 hF.tb;obtain⟨f0,f1,f2,f3⟩:=z_f4 hF.tb;obtain⟨v0,v1,v2,v3⟩:=zAp (gK.o);obtain⟨vx0,vx1,vx2,vx3,vx4,vx5,vx6,vx7⟩:=zAN (gB.o);clear fE hF gZ fU fN
     go_region_held3 (fun w'=>w'.cell? ⟨g,0,none⟩=some (.int .i64 t.sectors)∧w'.cell? ⟨g,1,none⟩=some (.int .i64 t.inodes)∧w'.cell? ⟨g,2,none⟩=some (.int .i64 t.births)∧w'.cell? ⟨g,3,none⟩=some (.slice t.A t.l.length t.c)∧w'.cell? ⟨y,0,none⟩=some (.int .i64 x.ino)∧w'.cell? ⟨y,1,none⟩=some (.int .i64 x.kind)∧w'.cell? ⟨y,2,none⟩=some (.int .i64 x.links)∧w'.cell? ⟨y,3,none⟩=some (.int .i64 x.size)∧w'.cell? ⟨y,4,none⟩=some (.int .i64 x.made)∧w'.cell? ⟨y,5,none⟩=some (.int .i64 x.birth)∧w'.cell? ⟨y,6,none⟩=some (.slice x.iA x.idx.length x.ic)∧w'.cell? ⟨y,7,none⟩=some (.slice x.dA x.dat.length x.dc))
      (first | go_keep)
      (first
       | (go_at_call 83;first
        | ((with_reducible refine (gM.o w4.drew gA.o.bl gA.o.rf).mono ?_);rintro eb w12 ⟨⟨A9,c9,rfl,kS,jH⟩,fA⟩;have fL:=hid (gA.o.fresh fA);have fM:=hid (gI.o.fresh fA);have fS:=hid (fY.o.fresh fA);have gS:=hid (gJ.o.fresh fA);have jY:=hid (show zD2 (zAJ S g 5) w12 (.agg (zAq 0 st0 zAj (.slice A9 L.length c9)).toArray) ⟨0,st0,[],L⟩ from ⟨none,0,A9,c9,rfl,Sees.nil,kS,fun h=>absurd h (by simp),fun _ a ea hs=>(by have h8:=jH a ea;have h9:=fY.o.lt;rcases hs with hs | hs;(have:=jJ.o _ hs;omega);omega)⟩);obtain⟨u0,u1,u2,u3⟩:=zAp (fM.o);obtain⟨ux0,ux1,ux2,ux3,ux4,ux5,ux6,ux7⟩:=zAN (fS.o);obtain⟨z0,z1,z2,z3⟩:=zH3 fL.o.tb;obtain⟨f0,f1,f2,f3⟩:=z_f4 fL.o.tb;obtain⟨x1,x2⟩:=fL.o.tree;obtain⟨v0,v1,v2,v3⟩:=zAp (fM.o.chg x2 (by omega));obtain⟨vx0,vx1,vx2,vx3,vx4,vx5,vx6,vx7⟩:=zAN (fS.o.chg x2 (by omega));obtain⟨⟨p0,p1,p2,p3,p4,p5,p6,p7,p8,p9⟩,q0,q1,q2,q3,q4,q5,q6,q7,q8,q9⟩:=zHH x1.ab;obtain⟨y1,y2⟩:=x1.ans 0 0 0 0 0 0 0 zAj (.slice A9 L.length c9);obtain⟨r0,r1,r2,r3⟩:=zAp ((fM.o.chg x2 (by omega)).chg y2 (by omega));obtain⟨rx0,rx1,rx2,rx3,rx4,rx5,rx6,rx7⟩:=zAN ((fS.o.chg x2 (by omega)).chg y2 (by omega));have fC:=hid y1;have jF:=hid ((x2.mono (U:=zAJ S g 5) fun b _ (e:b=g+2)=>.inr (by omega)).trans (y2.mono (U:=zAJ S g 5) fun b _ (e:b=g+3)=>.inr (by omega)) (fun _ _ h=>h) (fun _ _ h=>h));clear fA x1 x2 y1 y2)
        | ((with_reducible refine (gM.o _ fH.o.bl fH.o.rf).mono ?_);rintro eb w12 ⟨⟨A9,c9,rfl,kS,jH⟩,fA⟩;have fL:=hid (fH.o.fresh fA);have fM:=hid (gK.o.fresh fA);have fS:=hid (gB.o.fresh fA);have gS:=hid (gW.o.fresh fA);have jY:=hid (show zD2 (zAJ S g 5) w12 (.agg (zAq 0 st0 zAj (.slice A9 L.length c9)).toArray) ⟨0,st0,[],L⟩ from ⟨none,0,A9,c9,rfl,Sees.nil,kS,fun h=>absurd h (by simp),fun _ a ea hs=>(by have h8:=jH a ea;have h9:=gB.o.lt;rcases hs with hs | hs;(have:=jJ.o _ hs;omega);omega)⟩);obtain⟨u0,u1,u2,u3⟩:=zAp (fM.o);obtain⟨ux0,ux1,ux2,ux3,ux4,ux5,ux6,ux7⟩:=zAN (fS.o);obtain⟨⟨p0,p1,p2,p3,p4,p5,p6,p7,p8,p9⟩,q0,q1,q2,q3,q4,q5,q6,q7,q8,q9⟩:=zHH fL.o.ab;obtain⟨y1,y2⟩:=fL.o.ans 0 0 0 0 0 0 0 zAj (.slice A9 L.length c9);obtain⟨r0,r1,r2,r3⟩:=zAp (fM.o.chg y2 (by omega));obtain⟨rx0,rx1,rx2,rx3,rx4,rx5,rx6,rx7⟩:=zAN (fS.o.chg y2 (by omega));have fC:=hid y1;have jF:=hid (y2.mono (U:=zAJ S g 5) fun b _ (e:b=g+3)=>.inr (by omega));clear fA y1 y2)))
     all_goals (clear gA fH gI fY gJ gK gB gW)
     all_goals go_wp2
     all_goals exact zE9 (k:=5) fC.o.tb fC.o.ab fO.o fX.o fC.o.rf (jY.o.chg jF.o) rfl fC.o.bl fP.o rfl rfl rfl rfl
   · have fX:Hid (lk=(T,.err 113)):=hid (by
      rw [gY.o];unfold PT.asks PT.list;rw [if_neg k10,if_pos k11,if_neg (by rw [zAm gR.o,gL];simp)])
     rw [gF] at b1
     go_wp2_with (first
      | (refine ldT fE.tb rfl rfl rfl ?_)
      | (refine stT t fE.rb rfl rfl rfl (by rfl) rfl ?_)
      | (refine stA 113 st0 zAj zAj (fE.ab.row_far (by omega) _) rfl rfl rfl (by rfl) rfl rfl rfl ?_))
     exact zA0 (k:=5) fE.rb fE.ab fO.o fX.o (gP.o _ fE.bl) (zAw _ _ 113 st0) rfl fE.bl fP.o ⟨by omega,by omega⟩ ⟨by omega,by omega⟩ (by omega) rfl rfl rfl rfl
 have t11:(op.kind==11)=false:=by simp;omega
 rcases gF with ⟨gF,gL⟩ | ⟨gF,gL⟩
 · have fX:Hid (lk=(T,.err 102)):=hid (by
    rw [gY.o];unfold PT.asks;rw [if_neg k10,if_neg k11,if_pos (by rw [zAm gR.o];exact gL)])
   rw [gF] at b1
   go_wp2_with (first
    | (refine ldT fE.tb rfl rfl rfl ?_)
    | (refine stT t fE.rb rfl rfl rfl (by rfl) rfl ?_)
    | (refine stA 102 st0 zAj zAj (fE.ab.row_far (by omega) _) rfl rfl rfl (by rfl) rfl rfl rfl ?_))
   exact zA0 (k:=5) fE.rb fE.ab fO.o fX.o (gP.o _ fE.bl) (zAw _ _ 102 st0) rfl fE.bl fP.o ⟨by omega,by omega⟩ ⟨by omega,by omega⟩ (by omega) rfl rfl rfl rfl
 have fX:Hid (lk=if op.kind=7 then ((T.write i op.off op.data).1,.err (T.write i op.off op.data).2) else if op.kind=8 then ((T.trunc i op.off).1,.err (T.trunc i op.off).2) else if op.kind=9 then (T,n.read op.off op.len) else (T,.err 0)):=hid (by
  rw [gY.o];unfold PT.asks;rw [if_neg k10,if_neg k11,if_neg (by rw [zAm gR.o,gL];simp),zAn gR.o])
 rw [gF] at b1;have jG:=jX.o;clear gY;by_cases k7:op.kind=7
 · have fI:=hid (zHS (zAJ (zAJ S g 5) ub 1) t T i n x op.off op.data A c w4 (jW.o w4 br) jV.o (gQ.o w4 (by have:=gH.o.lt;omega)) gD.o gR.o gL (kL.o w4 fB.o.bl) lM)
   have t7:(op.kind==7)=true:=by rw [k7];rfl
   have fZ:=fX.o;rw [if_pos k7] at fZ;obtain⟨r2,fW⟩:=nM (T.write i op.off op.data);rw [fW] at fI fZ;obtain⟨T2,c2⟩:=r2;have kT:=hid fZ;have gN:=gH.o;clear fW fZ
   go_wp2_with (first
    | (refine ldT fE.tb rfl rfl rfl ?_)
    | (refine Ag rfl 123 _ rfl y rfl 123 (zAb x).toArray _ _ jG Ab rfl rfl ?_)
    | (go_at_call 84;(with_reducible refine (fI.o).mono ?_);rintro eb w6 ⟨⟨t2,rfl,fR⟩,jZ⟩;have kU:=fE.fresh jZ;have kA:=gN.fresh jZ;have kC:Chg (fun b=>b=ub) w6 (w6.setRow ub (zAa t2).toArray):=(Ao (fun b=>b=ub) w6).setRow (fun _=>rfl) _;have kV:Blk (w6.setRow ub (zAa t2).toArray) ub 28 (zAa t2):=Ai _ _ _ _ _ _ kA;have gO:=kU.far kC (fun b e=>by omega);have kW:=(fR.chg (kC.mono fun b _ (e:b=ub)=>.inr (by omega))).mono fun b hb=>Or.inl hb)
    | (refine stT t2 kA rfl rfl rfl (by rfl) rfl ?_)
    | (refine ldT kV rfl rfl rfl ?_)
    | (refine stT t2 gO.rb rfl rfl rfl (by rfl) rfl ?_)
    | (refine stA c2 st0 zAj zAj (gO.ab.row_far (by omega) _) rfl rfl rfl (by rfl) rfl rfl rfl ?_))
   exact zA0 (k:=5) gO.rb gO.ab fO.o kT.o kW (zAw _ _ c2 st0) rfl gO.bl fP.o ⟨by omega,by omega⟩ ⟨by omega,by omega⟩ (by omega) rfl rfl rfl rfl
 have t7:(op.kind==7)=false:=by simp;omega
 by_cases k8:op.kind=8
 · have fI:=hid (rcuts_any (zAJ (zAJ S g 5) ub 1) t T i n x op.off w4 (jW.o w4 br) jV.o (gQ.o w4 (by have:=gH.o.lt;omega)) gD.o gR.o gL)
   have t8:(op.kind==8)=true:=by rw [k8];rfl
   have fZ:=fX.o;rw [if_neg k7,if_pos k8] at fZ;obtain⟨r2,fW⟩:=nM (T.trunc i op.off);rw [fW] at fI fZ;obtain⟨T2,c2⟩:=r2;have kT:=hid fZ;have gN:=gH.o;clear fW fZ
   go_wp2_with (first
    | (refine ldT fE.tb rfl rfl rfl ?_)
    | (refine Ag rfl 123 _ rfl y rfl 123 (zAb x).toArray _ _ jG Ab rfl rfl ?_)
    | (go_at_call 85;(with_reducible refine (fI.o).mono ?_);rintro eb w6 ⟨⟨t2,rfl,fR⟩,jZ⟩;have kU:=fE.fresh jZ;have kA:=gN.fresh jZ;have kC:Chg (fun b=>b=ub) w6 (w6.setRow ub (zAa t2).toArray):=(Ao (fun b=>b=ub) w6).setRow (fun _=>rfl) _;have kV:Blk (w6.setRow ub (zAa t2).toArray) ub 28 (zAa t2):=Ai _ _ _ _ _ _ kA;have gO:=kU.far kC (fun b e=>by omega);have kW:=(fR.chg (kC.mono fun b _ (e:b=ub)=>.inr (by omega))).mono fun b hb=>Or.inl hb)
    | (refine stT t2 kA rfl rfl rfl (by rfl) rfl ?_)
    | (refine ldT kV rfl rfl rfl ?_)
    | (refine stT t2 gO.rb rfl rfl rfl (by rfl) rfl ?_)
    | (refine stA c2 st0 zAj zAj (gO.ab.row_far (by omega) _) rfl rfl rfl (by rfl) rfl rfl rfl ?_))
   exact zA0 (k:=5) gO.rb gO.ab fO.o kT.o kW (zAw _ _ c2 st0) rfl gO.bl fP.o ⟨by omega,by omega⟩ ⟨by omega,by omega⟩ (by omega) rfl rfl rfl rfl
 have t8:(op.kind==8)=false:=by simp;omega
 by_cases k9:op.kind=9
 · have t9:(op.kind==9)=true:=by rw [k9];rfl
   obtain⟨an,kX⟩:=nM (n.read op.off op.len);have fZ:Hid (lk=(T,an)):=hid (by rw [fX.o,if_neg k7,if_neg k8,if_pos k9,kX]);have kD:=hid fun W (hb:Below g w W) (hW:g+5≤W.heap.size)=>zKw (zAJ S g 5) i n x op.off op.len W (kR.o W hb).1 (zA8 (fun b fG=>by have:=jJ.o b fG;omega) hW) lQ.o gL;rw [kX] at kD;unfold zAb at kD;rw [gF] at kD;clear kX;go_upto_region 35 with (fail);have fN:Below w4.heap.size w4 w4.drew:=zAd (Ar _ w4) 1;have hF:FinD w w4.drew g S t T z4 zAk:=FinD.fresh (wk:=w4) ⟨fB.o.rb,fB.o.ab,fB.o.bl,gP.o _ fB.o.bl⟩ fN;have gA:=hid hF;have gI:=hid (fB.o.tb.fresh fN);have fY:=hid (jX.o.fresh fN);have gJ:=hid (fB.o.ob.fresh fN);obtain⟨gZ,fU⟩:=hF.tree;have fH:=hid gZ;have gK:=hid (gI.o.chg fU (by omega));have gB:=hid (fY.o.chg fU (by omega));have gW:=hid (gJ.o.chg fU (by omega));obtain⟨z0,z1,z2,z3⟩:=zH3 hF.tb;obtain⟨f0,f1,f2,f3⟩:=z_f4 hF.tb;obtain⟨v0,v1,v2,v3⟩:=zAp (gK.o);obtain⟨vx0,vx1,vx2,vx3,vx4,vx5,vx6,vx7⟩:=zAN (gB.o);obtain⟨-,-,-,vo3,vo4,-,-,-⟩:=zDk (gW.o);clear fE hF gZ fU fN
   go_region_held3 (fun w'=>w'.cell? ⟨g,0,none⟩=some (.int .i64 t.sectors)∧w'.cell? ⟨g,1,none⟩=some (.int .i64 t.inodes)∧w'.cell? ⟨g,2,none⟩=some (.int .i64 t.births)∧w'.cell? ⟨g,3,none⟩=some (.slice t.A t.l.length t.c)∧w'.cell? ⟨y,0,none⟩=some (.int .i64 x.ino)∧w'.cell? ⟨y,1,none⟩=some (.int .i64 x.kind)∧w'.cell? ⟨y,2,none⟩=some (.int .i64 x.links)∧w'.cell? ⟨y,3,none⟩=some (.int .i64 x.size)∧w'.cell? ⟨y,4,none⟩=some (.int .i64 x.made)∧w'.cell? ⟨y,5,none⟩=some (.int .i64 x.birth)∧w'.cell? ⟨y,6,none⟩=some (.slice x.iA x.idx.length x.ic)∧w'.cell? ⟨y,7,none⟩=some (.slice x.dA x.dat.length x.dc)∧w'.cell? ⟨g+1,3,none⟩=some (.int .i64 op.off)∧w'.cell? ⟨g+1,4,none⟩=some (.int .i64 op.len))
    (first | go_keep)
    (first
     | (go_at_call 86;first
      | ((with_reducible refine (kD.o w4.drew gA.o.bl (by have:=fY.o.lt;omega)).mono ?_);rintro eb w12 ⟨⟨v12,rfl,hv⟩,fA⟩;have fL:=hid (gA.o.fresh fA);have fM:=hid (gI.o.fresh fA);have fS:=hid (fY.o.fresh fA);have gS:=hid (gJ.o.fresh fA);obtain⟨dA,dc,eA,ec,rfl,kE,gT,gU,gV⟩:=hv;have jY:=hid (show zD2 (zAJ S g 5) w12 (.agg (zAq an.code an.stat (.slice dA an.data.length dc) (.slice eA an.ents.length ec)).toArray) an from ⟨dA,dc,eA,ec,rfl,kE,gT,gU,gV⟩);unfold zAq;clear kE gT gU gV;obtain⟨u0,u1,u2,u3⟩:=zAp (fM.o);obtain⟨ux0,ux1,ux2,ux3,ux4,ux5,ux6,ux7⟩:=zAN (fS.o);obtain⟨-,-,-,uo3,uo4,-,-,-⟩:=zDk (gS.o);obtain⟨z0,z1,z2,z3⟩:=zH3 fL.o.tb;obtain⟨f0,f1,f2,f3⟩:=z_f4 fL.o.tb;obtain⟨x1,x2⟩:=fL.o.tree;obtain⟨v0,v1,v2,v3⟩:=zAp (fM.o.chg x2 (by omega));obtain⟨vx0,vx1,vx2,vx3,vx4,vx5,vx6,vx7⟩:=zAN (fS.o.chg x2 (by omega));obtain⟨-,-,-,vo3,vo4,-,-,-⟩:=zDk (gS.o.chg x2 (by omega));obtain⟨⟨p0,p1,p2,p3,p4,p5,p6,p7,p8,p9⟩,q0,q1,q2,q3,q4,q5,q6,q7,q8,q9⟩:=zHH x1.ab;obtain⟨y1,y2⟩:=x1.ans an.code an.stat.ino an.stat.kind an.stat.links an.stat.size an.stat.made an.stat.blocks (.slice dA an.data.length dc) (.slice eA an.ents.length ec);obtain⟨r0,r1,r2,r3⟩:=zAp ((fM.o.chg x2 (by omega)).chg y2 (by omega));obtain⟨rx0,rx1,rx2,rx3,rx4,rx5,rx6,rx7⟩:=zAN ((fS.o.chg x2 (by omega)).chg y2 (by omega));obtain⟨-,-,-,ro3,ro4,-,-,-⟩:=zDk ((gS.o.chg x2 (by omega)).chg y2 (by omega));have fC:=hid y1;have jF:=hid ((x2.mono (U:=zAJ S g 5) fun b _ (e:b=g+2)=>.inr (by omega)).trans (y2.mono (U:=zAJ S g 5) fun b _ (e:b=g+3)=>.inr (by omega)) (fun _ _ h=>h) (fun _ _ h=>h));clear fA x1 x2 y1 y2)
      | ((with_reducible refine (kD.o _ fH.o.bl (by have:=gB.o.lt;omega)).mono ?_);rintro eb w12 ⟨⟨v12,rfl,hv⟩,fA⟩;have fL:=hid (fH.o.fresh fA);have fM:=hid (gK.o.fresh fA);have fS:=hid (gB.o.fresh fA);have gS:=hid (gW.o.fresh fA);obtain⟨dA,dc,eA,ec,rfl,kE,gT,gU,gV⟩:=hv;have jY:=hid (show zD2 (zAJ S g 5) w12 (.agg (zAq an.code an.stat (.slice dA an.data.length dc) (.slice eA an.ents.length ec)).toArray) an from ⟨dA,dc,eA,ec,rfl,kE,gT,gU,gV⟩);unfold zAq;clear kE gT gU gV;obtain⟨u0,u1,u2,u3⟩:=zAp (fM.o);obtain⟨ux0,ux1,ux2,ux3,ux4,ux5,ux6,ux7⟩:=zAN (fS.o);obtain⟨-,-,-,uo3,uo4,-,-,-⟩:=zDk (gS.o);obtain⟨⟨p0,p1,p2,p3,p4,p5,p6,p7,p8,p9⟩,q0,q1,q2,q3,q4,q5,q6,q7,q8,q9⟩:=zHH fL.o.ab;obtain⟨y1,y2⟩:=fL.o.ans an.code an.stat.ino an.stat.kind an.stat.links an.stat.size an.stat.made an.stat.blocks (.slice dA an.data.length dc) (.slice eA an.ents.length ec);obtain⟨r0,r1,r2,r3⟩:=zAp (fM.o.chg y2 (by omega));obtain⟨rx0,rx1,rx2,rx3,rx4,rx5,rx6,rx7⟩:=zAN (fS.o.chg y2 (by omega));obtain⟨-,-,-,ro3,ro4,-,-,-⟩:=zDk (gS.o.chg y2 (by omega));have fC:=hid y1;have jF:=hid (y2.mono (U:=zAJ S g 5) fun b _ (e:b=g+3)=>.inr (by omega));clear fA y1 y2)))
   all_goals (clear gA fH gI fY gJ gK gB gW)
   all_goals go_wp2
   all_goals exact zE9 (k:=5) fC.o.tb fC.o.ab fO.o fZ.o fC.o.rf (jY.o.chg jF.o) rfl fC.o.bl fP.o rfl rfl rfl rfl
 have t9:(op.kind==9)=false:=by simp;omega
 have fZ:Hid (lk=(T,.err 0)):=hid (by rw [fX.o,if_neg k7,if_neg k8,if_neg k9]);have gN:=gH.o
 go_wp2_with (first
  | (refine ldT gN rfl rfl rfl ?_)
  | (refine stT t fE.rb rfl rfl rfl (by rfl) rfl ?_)
  | (refine stA 0 st0 zAj zAj (fE.ab.row_far (by omega) _) rfl rfl rfl (by rfl) rfl rfl rfl ?_))
 exact zA0 (k:=5) fE.rb fE.ab fO.o fZ.o (gP.o _ fE.bl) (zAw _ _ 0 st0) rfl fE.bl fP.o ⟨by omega,by omega⟩ ⟨by omega,by omega⟩ (by omega) rfl rfl rfl rfl
end Go.Proofs.YtolpcfhfcdkokaaGreatDoor
