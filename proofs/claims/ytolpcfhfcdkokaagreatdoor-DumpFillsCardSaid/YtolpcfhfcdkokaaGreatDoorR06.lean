/- Joined out of PRename..PTrunc. -/
import Derived.Test.YtolpcfhfcdkokaaGreatDoorR04
import Derived.Test.YtolpcfhfcdkokaaGreatDoorR05
set_option maxHeartbeats 16000000
set_option maxRecDepth 100000
set_option linter.unusedSimpArgs false
set_option linter.unusedVariables false
namespace Go.Proofs.YtolpcfhfcdkokaaGreatDoor
open Lib (hid)
open Proofs.Tryz renaming prog → Aa,underlying67 → Ab,underlying96 → Ac,underlying65 → Ad,underlying107 → Ae,zeroCells187 → Af
open Option renaming isSome_none → Ag,isSome_some → Ah,map_some → Ai
open Option.some renaming inj → Aj
open Ne renaming symm → Ak
open Chg renaming of_fresh → Al,refl → Am
open Nat renaming le_refl → An,lt_of_lt_of_le → Ao,zero_add → Ap,le_trans → Aq
open _root_.Array renaming all_eq_true_iff_forall_mem → Ar
open List renaming mem_cons → As,not_mem_nil → At,length_map → Au,getElem!_eq_getElem?_getD → Av,map_append → Aw,mem_append → Ax,map_cons → Ay,map_nil → Az,mem_singleton → AA,pairwise_map → AB,length_append → AC,replicate → AD,size_toArray → AE
open List.Pairwise renaming nil → AF
open World renaming ownsRow_nil → AG
open Go renaming wpList_store_row → AH,setRow_heap → AI,bodyPost_ret → AJ,results_cell_row → AK
open Lib renaming compareBytes → AL
open World.ownsRow renaming lt → AM
open Value renaming int → AN
open Builtin renaming zeroCells → AO
open Result renaming andThen → AP
open Go.RowKit
open Go.Maps (Keyed)
theorem zIy {T:PT} (hT:T.Wf) {d:Nat} {n:PN} {nm:ByteArray} {i:Nat} (hg:zAe d T.nodes=some n) (h:zAe nm n.names=some i):nm≠emp:=fun e=>by
 rw [e,hT.nemp d n hg] at h;cases h
theorem PnAt.seesAt {w:World} {a:NA} {n:PN} (h:PnAt w a n):∃ A c,w.cell? ⟨a.nb,5,none⟩=some (.slice A n.slots.length c)∧Sees w w.heap.size 1 A n.slots.length (strs n.slots):=by
 obtain⟨A,c,hs,-,h1⟩:=h.sees;exact⟨A,c,by rw [←hs];exact h.c5,h1⟩
theorem zIh (own:Nat→Option Role) (lay:Nat→NA) (p mb:Nat) (T:PT) (B:Nat) (A:Option Addr) (c:Nat) (l:List ByteArray) (A2:Option Addr) (c2:Nat) (l2:List ByteArray) (w:World) (h:PlainAt w own lay p mb T) (hT:T.Wf) (hB:B≤w.heap.size)
 (hs:Sees w B 1 A l.length (strs l)) (hl:l.length≤1000000) (hc:l.length≤c) (hx:∀ x∈l,x.size≤40)
 (lH:Sees w B 1 A2 l2.length (strs l2)) (lM:l2.length≤1000000) (lN:l2.length≤c2) (kU:∀ x∈l2,x.size≤40) :
 Calls Aa 71 #[.pointer (some ⟨p,0,none⟩),.slice A l.length c,.slice A2 l2.length c2] w fun e w'=>e=.returned (zAS (T.rename l l2).2)∧zAv own p mb (T.rename l l2).1 w w':=by
 have big:∀ {l:List ByteArray},(∀ x∈l,x.size≤40)→∀ x∈l,x.size≤1000000:=fun h x hx=>by have:=h x hx;omega
 have fE:=zC6 own lay p mb T B A c l w h hT hs hl hc (big hx);have jB:=fun W (hb:Below w.heap.size w W)=>zC6 own lay p mb T B A2 c2 l2 W (h.fresh hb) hT (lH.below (hb.mono hB)) lM lN (big kU);have jV:=zBu hT l;have kV:=zEO hT l;have jW:=zBu hT l2;have kW:=zEO hT l2;have kN:=zB0 (big hx);have jK:(zAM l2).size≤40:=zEh kU;have kX:=PT.rename.eq_1 T l l2;generalize T.last l=r1 at *;generalize T.last l2=r2 at *;obtain⟨d,e1⟩:=r1;obtain⟨t,e2⟩:=r2;generalize zAM l=old at *;generalize zAM l2=nm at *;simp only at fE jB jV kV jW kW kX;have hu:=kX;clear kX;have hH:=hid h;have gK:=hid hT;have fJ:=hid hT.ok;have lT:=hT.ok.ino;have fP:=hid jB;clear h hT hs hx lH kU big jB;generalize l.length=len at *;generalize l2.length=len2 at *;unfold zAS at fE fP;go_enter Tryz.func71,Tryz.ntmps71;by_cases kY:e1=0
 · subst kY;rw [if_neg (by simp)] at hu;obtain⟨n,hn,lI⟩:=jV rfl;have fG:=hid hn;have jX:=hid lI;rw [zAn hn] at hu;clear jV hn lI;by_cases kZ:e2=0
   · subst kZ;rw [if_neg (by simp)] at hu;obtain⟨m,hm,lJ⟩:=jW rfl;have fD:=hid hm;have fY:=hid lJ;rw [zAn hm] at hu;clear jW hm lJ
     cases hg:zAe old n.names with
     | none =>
      rw [hg] at hu;have fI:=hid hu;have gI:=hid hg;clear hu hg;have tok1:True:=trivial
      go_wp2_with (first
       | (go_at_call 95;have _t:=tok1;refine fE.mono ?_;rintro e w1 ⟨rfl,fF⟩;have fB:=fP.o w1 fF;have tok2:True:=trivial;clear _t tok1)
       | (go_at_call 95;have _t:=tok2;refine fB.mono ?_;rintro e w2 ⟨rfl,fS⟩;have fC:=fF.trans (fS.mono fF.size);clear fB _t tok2;have fA:=hH.o.fresh fC;have x2:=fA.c2;have fT:=fA.lookI fG.o (by omega);have fU:=fA.lookI fD.o (by omega);have k6:=(fA.get fG.o).c6;have m6:=(fA.get fD.o).c6;have fK:=(fA.get fG.o).lookN old (by omega);have fM:=(fA.get fD.o).lookN nm (by omega);rw [gI.o] at fK;simp only [orV,Ag] at fK;clear fA fM))
      go_ret;refine⟨by rw [fI.o];rfl,?_⟩;rw [fI.o];exact .same hH.o fC
     | some i =>
      rw [hg] at hu;simp only at hu;have gI:=hid hg;obtain⟨o,ho⟩:=gK.o.ents d n old i fG.o hg;have fL:=hid ho;have lK:=fJ.o.get ho
      have gR:i≤512:=by omega
      have kP:=lK.1.links;rw [zAm ho,zAn ho] at hu;obtain⟨q,hq⟩:=gK.o.slotn d n old i fG.o hg;have kO:=hid hq;have kC:=hid (zIy gK.o fG.o hg);clear hg ho lK hq;by_cases gV:d=t∧old=nm
      · obtain⟨rfl,rfl⟩:=gV;rw [if_pos ⟨rfl,rfl⟩] at hu;have fI:=hid hu
        have lL:((d:Int)==(d:Int))=true:=by simp
        have lA:(old.toList==old.toList)=true:=by simp
        clear hu;have tok1:True:=trivial
        go_wp2_with (first
         | (go_at_call 95;have _t:=tok1;refine fE.mono ?_;rintro e w1 ⟨rfl,fF⟩;have fB:=fP.o w1 fF;have tok2:True:=trivial;clear _t tok1)
         | (go_at_call 95;have _t:=tok2;refine fB.mono ?_;rintro e w2 ⟨rfl,fS⟩;have fC:=fF.trans (fS.mono fF.size);clear fB _t tok2;have fA:=hH.o.fresh fC;have x2:=fA.c2;have fT:=fA.lookI fG.o (by omega);have fU:=fA.lookI fD.o (by omega);have k6:=(fA.get fG.o).c6;have m6:=(fA.get fD.o).c6;have fK:=(fA.get fG.o).lookN old (by omega);have fM:=(fA.get fD.o).lookN old (by omega);rw [gI.o] at fK;simp only [orV,Ah,zAS] at fK;have fW:=fA.lookI fL.o (by omega);have o0:=(fA.get fL.o).c0;have o1:=(fA.get fL.o).c1;clear fA fM))
        go_ret;refine⟨by rw [fI.o];rfl,?_⟩;rw [fI.o];exact .same hH.o fC
      · rw [if_neg gV] at hu;by_cases lB:d=t
        · subst lB;have kS:old≠nm:=fun e=>gV ⟨rfl,e⟩;have lO:m=n:=Aj (fD.o.symm.trans fG.o);subst lO
          have lL:((d:Int)==(d:Int))=true:=by simp
          have lA:(old.toList==nm.toList)=false:=by simpa using fun h=>kS (zC2.1 h)
          have lP:¬old.toList=nm.toList:=fun h=>kS (zC2.1 h);have kD:=hid kS;clear gV kS
          cases jC:o.dir with
          | true =>
           rw [jC,if_pos rfl] at hu;have fR:=hid jC;have lC:=hid (show T.isDir i=true by rw [zAm fL.o,jC]);clear jC
           cases gD:zAe nm m.names with
           | some j =>
            rw [gD,if_pos (show (some j).isSome=true from rfl)] at hu;have fI:=hid hu;have fN:=hid gD;clear hu gD;have tok1:True:=trivial
            go_wp2_with (first
             | (go_at_call 95;have _t:=tok1;refine fE.mono ?_;rintro e w1 ⟨rfl,fF⟩;have fB:=fP.o w1 fF;have tok2:True:=trivial;clear _t tok1)
             | (go_at_call 95;have _t:=tok2;refine fB.mono ?_;rintro e w2 ⟨rfl,fS⟩;have fC:=fF.trans (fS.mono fF.size);clear fB _t tok2;have fA:=hH.o.fresh fC;have x2:=fA.c2;have fT:=fA.lookI fG.o (by omega);have fU:=fA.lookI fD.o (by omega);have k6:=(fA.get fG.o).c6;have m6:=(fA.get fD.o).c6;have fK:=(fA.get fG.o).lookN old (by omega);have fM:=(fA.get fD.o).lookN nm (by omega);rw [gI.o] at fK;simp only [orV,Ah,zAS] at fK;have fW:=fA.lookI fL.o (by omega);have o0:=(fA.get fL.o).c0;have o1:=(fA.get fL.o).c1;rw [zAW fR.o] at o0;rw [fN.o] at fM;simp only [orV,Ah,zAS] at fM;clear fA))
            go_ret;refine⟨by rw [fI.o];rfl,?_⟩;rw [fI.o];exact .same hH.o fC
           | none =>
            rw [gD,if_neg (by simp)] at hu;have fN:=hid gD;clear gD;obtain⟨rk,kQ⟩:=gK.o.rank;have jM:=fun W hP=>zFR own lay p mb T gK.o rk kQ _ (fun j hj=>T.rk_le rk hj) d (by omega) ((T.nodes.map fun p=>rk p.1).sum+1) i W lC.o (by omega) hP;have gL:=hid jM;clear jM kQ;by_cases hU:T.Und d i
            · rw [if_pos hU] at hu;have fI:=hid hu;have jY:∀ b:Bool,(b=true↔T.Und d i)→b=true:=fun b hb=>hb.2 hU;clear hu hU;have tok1:True:=trivial
              go_wp2_with (first
               | (go_at_call 95;have _t:=tok1;refine fE.mono ?_;rintro e w1 ⟨rfl,fF⟩;have fB:=fP.o w1 fF;have tok2:True:=trivial;clear _t tok1)
               | (go_at_call 95;have _t:=tok2;refine fB.mono ?_;rintro e w2 ⟨rfl,fS⟩;have fC:=fF.trans (fS.mono fF.size);clear fB _t tok2;have fA:=hH.o.fresh fC;have x2:=fA.c2;have fT:=fA.lookI fG.o (by omega);have fU:=fA.lookI fD.o (by omega);have k6:=(fA.get fG.o).c6;have m6:=(fA.get fD.o).c6;have fK:=(fA.get fG.o).lookN old (by omega);have fM:=(fA.get fD.o).lookN nm (by omega);rw [gI.o] at fK;simp only [orV,Ah,zAS] at fK;have fW:=fA.lookI fL.o (by omega);have o0:=(fA.get fL.o).c0;have o1:=(fA.get fL.o).c1;rw [zAW fR.o] at o0;rw [fN.o] at fM;simp only [orV,Ag] at fM;have fV:=hid fA;clear fA)
               | (go_at_call 103;refine (gL.o w2 fV.o).mono ?_;rintro e w3 ⟨⟨b,rfl,gW⟩,jN⟩;obtain rfl:b=true:=jY b gW;clear gW;skip))
              go_ret;refine⟨by rw [fI.o];rfl,?_⟩;rw [fI.o];exact .same hH.o (fC.trans (jN.mono fC.size))
            · rw [if_neg hU] at hu
              have jY:∀ b:Bool,(b=true↔T.Und d i)→b=false:=fun b hb=>by cases b;rfl;exact absurd (hb.1 rfl) hU
              clear hU;have gS:=zBs (T:=T) (n:=m) (nm:=nm) (fJ.o.get fD.o).1;have fH:=fun W hP=>zB1 own lay p mb d T m W hP gK.o fD.o;generalize T.place m=r3 at *;obtain⟨k,e3⟩:=r3;simp only at gS hu fH;unfold zAS at fH;have gM:=hid fH;clear fH;by_cases jD:e3=0
              · subst jD;rw [if_neg (by simp)] at hu;have fQ:=hid (show m.Fit k nm from gS rfl);have gE:=hid (fJ.o.upd (zCs gK.o fD.o fY.o fQ.o jK gR) (fJ.o.get fD.o).2);have jO:=fQ.o.le;have jP:=fQ.o.lt (fJ.o.get fD.o).1;have fZ:=hid (show zAe d (T.upd d (m.set k nm i)).nodes=some (m.set k nm i) from zA6 _ _);have gN:=hid (show (m.set k nm i).dir=true from fY.o);have jQ:=hid (zC4 (j:=i) fQ.o (Ak kD.o) kC.o kO.o);have kE:=hid (gE.o.upd ((gE.o.get fZ.o).1.clear old) (gE.o.get fZ.o).2);rw [zCl fD.o,zCt fZ.o] at hu;have fI:=hid hu;clear hu;clear gS;have tok1:True:=trivial
                go_wp2_with (first
                 | (go_at_call 95;have _t:=tok1;refine fE.mono ?_;rintro e w1 ⟨rfl,fF⟩;have fB:=fP.o w1 fF;have tok2:True:=trivial;clear _t tok1)
                 | (go_at_call 95;have _t:=tok2;refine fB.mono ?_;rintro e w2 ⟨rfl,fS⟩;have fC:=fF.trans (fS.mono fF.size);clear fB _t tok2;have fA:=hH.o.fresh fC;have x2:=fA.c2;have fT:=fA.lookI fG.o (by omega);have fU:=fA.lookI fD.o (by omega);have k6:=(fA.get fG.o).c6;have m6:=(fA.get fD.o).c6;have fK:=(fA.get fG.o).lookN old (by omega);have fM:=(fA.get fD.o).lookN nm (by omega);rw [gI.o] at fK;simp only [orV,Ah,zAS] at fK;have fW:=fA.lookI fL.o (by omega);have o0:=(fA.get fL.o).c0;have o1:=(fA.get fL.o).c1;rw [zAW fR.o] at o0;rw [fN.o] at fM;simp only [orV,Ag] at fM;have fV:=hid fA;clear fA)
                 | (go_at_call 103;refine (gL.o w2 fV.o).mono ?_;rintro e w3 ⟨⟨b,rfl,gW⟩,jN⟩;obtain rfl:b=false:=jY b gW;clear gW;have gB:=fC.trans (jN.mono fC.size);have gT:=hH.o.fresh gB;have v2:=gT.c2;have kF:=gT.lookI fD.o (by omega);have jE:=hid gT;clear gT)
                 | (go_at_call 97;refine (gM.o w3 jE.o).mono ?_;rintro e w4p ⟨rfl,jF⟩;have fO:=gB.trans (jF.mono gB.size);have gU:=hH.o.fresh fO;have y2:=gU.c2;have kG:=gU.lookI fD.o (by omega);have jG:=hid gU;clear gU)
                 | (go_at_call 98;refine (zBC jG.o fJ.o fD.o fY.o jO jP (by omega)).mono ?_;rintro e w4 ⟨rfl,own4,lay4,gF,gX,jR⟩;have u2:=gF.c2;have jS:=gF.lookI fZ.o (by omega);have gO:=hid gF;have gA:=hid gX;clear gF gX)
                 | (go_at_call 101;refine (zBh gO.o gE.o fZ.o gN.o jQ.o kN).mono ?_;rintro e w5 ⟨rfl,gY,jT⟩;have gP:=hid gY;clear gY))
                go_ret;refine⟨by rw [fI.o];rfl,?_⟩;rw [fI.o];exact .of gP.o (gA.o.back fO.size) (((Al fO).trans jR (fun _ _ h=>h) (fun _ _ h=>h)).ext (gA.o.back fO.size) jT)
              · rw [if_pos jD] at hu;have fI:=hid hu
                have kI:((e3:Int) != 0)=true:=by simp;omega
                clear hu gS jD;have tok1:True:=trivial
                go_wp2_with (first
                 | (go_at_call 95;have _t:=tok1;refine fE.mono ?_;rintro e w1 ⟨rfl,fF⟩;have fB:=fP.o w1 fF;have tok2:True:=trivial;clear _t tok1)
                 | (go_at_call 95;have _t:=tok2;refine fB.mono ?_;rintro e w2 ⟨rfl,fS⟩;have fC:=fF.trans (fS.mono fF.size);clear fB _t tok2;have fA:=hH.o.fresh fC;have x2:=fA.c2;have fT:=fA.lookI fG.o (by omega);have fU:=fA.lookI fD.o (by omega);have k6:=(fA.get fG.o).c6;have m6:=(fA.get fD.o).c6;have fK:=(fA.get fG.o).lookN old (by omega);have fM:=(fA.get fD.o).lookN nm (by omega);rw [gI.o] at fK;simp only [orV,Ah,zAS] at fK;have fW:=fA.lookI fL.o (by omega);have o0:=(fA.get fL.o).c0;have o1:=(fA.get fL.o).c1;rw [zAW fR.o] at o0;rw [fN.o] at fM;simp only [orV,Ag] at fM;have fV:=hid fA;clear fA)
                 | (go_at_call 103;refine (gL.o w2 fV.o).mono ?_;rintro e w3 ⟨⟨b,rfl,gW⟩,jN⟩;obtain rfl:b=false:=jY b gW;clear gW;have gB:=fC.trans (jN.mono fC.size);have gT:=hH.o.fresh gB;have v2:=gT.c2;have kF:=gT.lookI fD.o (by omega);have jE:=hid gT;clear gT)
                 | (go_at_call 97;refine (gM.o w3 jE.o).mono ?_;rintro e w4p ⟨rfl,jF⟩;have fO:=gB.trans (jF.mono gB.size)))
                go_ret;refine⟨by rw [fI.o];rfl,?_⟩;rw [fI.o];exact .same hH.o fO
          | false =>
           rw [jC,if_neg (by simp)] at hu;have fR:=hid jC;clear jC;obtain⟨lk,jH⟩:=nM (o.links);have gC:=hid jH;rw [jH] at hu kP;clear jH
           cases gD:zAe nm m.names with
           | some j =>
            rw [gD] at hu;simp only at hu;have fN:=hid gD;obtain⟨v,hv⟩:=gK.o.ents d m nm j fD.o gD;have gJ:=hid hv;have kJ:=fJ.o.get hv
            have kR:j≤512:=by omega
            rw [zAm hv] at hu;clear gD kJ hv
            cases jL:v.dir with
            | true =>
             rw [jL,if_pos rfl] at hu;have fI:=hid hu;have gG:=hid jL;clear hu jL;have tok1:True:=trivial
             go_wp2_with (first
              | (go_at_call 95;have _t:=tok1;refine fE.mono ?_;rintro e w1 ⟨rfl,fF⟩;have fB:=fP.o w1 fF;have tok2:True:=trivial;clear _t tok1)
              | (go_at_call 95;have _t:=tok2;refine fB.mono ?_;rintro e w2 ⟨rfl,fS⟩;have fC:=fF.trans (fS.mono fF.size);clear fB _t tok2;have fA:=hH.o.fresh fC;have x2:=fA.c2;have fT:=fA.lookI fG.o (by omega);have fU:=fA.lookI fD.o (by omega);have k6:=(fA.get fG.o).c6;have m6:=(fA.get fD.o).c6;have fK:=(fA.get fG.o).lookN old (by omega);have fM:=(fA.get fD.o).lookN nm (by omega);rw [gI.o] at fK;simp only [orV,Ah,zAS] at fK;have fW:=fA.lookI fL.o (by omega);have o0:=(fA.get fL.o).c0;have o1:=(fA.get fL.o).c1;rw [zAx fR.o] at o0;rw [gC.o] at o1;rw [fN.o] at fM;simp only [orV,Ah,zAS] at fM;have jI:=fA.lookI gJ.o (by omega);have j0:=(fA.get gJ.o).c0;rw [zAW gG.o] at j0;clear fA))
             go_ret;refine⟨by rw [fI.o];rfl,?_⟩;rw [fI.o];exact .same hH.o fC
            | false =>
             rw [jL,if_neg (by simp)] at hu;have gG:=hid jL;clear jL;by_cases jZ:i=j
             · subst jZ;rw [if_pos rfl] at hu;have fI:=hid hu
               have kK:((i:Int)==(i:Int))=true:=by simp
               clear hu;have tok1:True:=trivial
               go_wp2_with (first
                | (go_at_call 95;have _t:=tok1;refine fE.mono ?_;rintro e w1 ⟨rfl,fF⟩;have fB:=fP.o w1 fF;have tok2:True:=trivial;clear _t tok1)
                | (go_at_call 95;have _t:=tok2;refine fB.mono ?_;rintro e w2 ⟨rfl,fS⟩;have fC:=fF.trans (fS.mono fF.size);clear fB _t tok2;have fA:=hH.o.fresh fC;have x2:=fA.c2;have fT:=fA.lookI fG.o (by omega);have fU:=fA.lookI fD.o (by omega);have k6:=(fA.get fG.o).c6;have m6:=(fA.get fD.o).c6;have fK:=(fA.get fG.o).lookN old (by omega);have fM:=(fA.get fD.o).lookN nm (by omega);rw [gI.o] at fK;simp only [orV,Ah,zAS] at fK;have fW:=fA.lookI fL.o (by omega);have o0:=(fA.get fL.o).c0;have o1:=(fA.get fL.o).c1;rw [zAx fR.o] at o0;rw [gC.o] at o1;rw [fN.o] at fM;simp only [orV,Ah,zAS] at fM;have jI:=fA.lookI gJ.o (by omega);have j0:=(fA.get gJ.o).c0;rw [zAx gG.o] at j0;clear fA))
               go_ret;refine⟨by rw [fI.o];rfl,?_⟩;rw [fI.o];exact .same hH.o fC
             · rw [if_neg jZ] at hu
               have kK:((i:Int)==(j:Int))=false:=by simp;omega
               have lD:=hid jZ;clear jZ;by_cases fX:lk=100
               · rw [if_pos fX] at hu;have fI:=hid hu
                 have kL:((lk:Int)==100)=true:=by simp;omega
                 clear hu fX;have tok1:True:=trivial
                 go_wp2_with (first
                  | (go_at_call 95;have _t:=tok1;refine fE.mono ?_;rintro e w1 ⟨rfl,fF⟩;have fB:=fP.o w1 fF;have tok2:True:=trivial;clear _t tok1)
                  | (go_at_call 95;have _t:=tok2;refine fB.mono ?_;rintro e w2 ⟨rfl,fS⟩;have fC:=fF.trans (fS.mono fF.size);clear fB _t tok2;have fA:=hH.o.fresh fC;have x2:=fA.c2;have fT:=fA.lookI fG.o (by omega);have fU:=fA.lookI fD.o (by omega);have k6:=(fA.get fG.o).c6;have m6:=(fA.get fD.o).c6;have fK:=(fA.get fG.o).lookN old (by omega);have fM:=(fA.get fD.o).lookN nm (by omega);rw [gI.o] at fK;simp only [orV,Ah,zAS] at fK;have fW:=fA.lookI fL.o (by omega);have o0:=(fA.get fL.o).c0;have o1:=(fA.get fL.o).c1;rw [zAx fR.o] at o0;rw [gC.o] at o1;rw [fN.o] at fM;simp only [orV,Ah,zAS] at fM;have jI:=fA.lookI gJ.o (by omega);have j0:=(fA.get gJ.o).c0;rw [zAx gG.o] at j0;clear fA))
                 go_ret;refine⟨by rw [fI.o];rfl,?_⟩;rw [fI.o];exact .same hH.o fC
               · rw [if_neg fX] at hu
                 have kL:((lk:Int)==100)=false:=by simp;omega
                 clear fX;obtain⟨s,hs⟩:=gK.o.slotn d m nm j fD.o fN.o;rw [hs] at hu;simp only [Option.getD_some] at hu;have kA:=zE4 hs;have jU:=(zAR hs);have fQ:=hid (show m.Fit s nm from by exact .inr (.inr ⟨by rw [fN.o];rfl,jU.2⟩));have gE:=hid (fJ.o.upd (zCs gK.o fD.o fY.o fQ.o jK gR) (fJ.o.get fD.o).2);have jO:=fQ.o.le;have jP:=fQ.o.lt (fJ.o.get fD.o).1;have fZ:=hid (show zAe d (T.upd d (m.set s nm i)).nodes=some (m.set s nm i) from zA6 _ _);have gN:=hid (show (m.set s nm i).dir=true from fY.o);have jQ:=hid (zC4 (j:=i) fQ.o (Ak kD.o) kC.o kO.o);have kE:=hid (gE.o.upd ((gE.o.get fZ.o).1.clear old) (gE.o.get fZ.o).2);rw [zCl fD.o,zCt fZ.o] at hu;have fI:=hid hu;clear hu
                 have kT:j≠d:=fun e=>by have h1:=gJ.o;rw [e,fD.o] at h1;have h1:=Aj h1;have h2:=gG.o;rw [←h1,fY.o] at h2;cases h2
                 have lE:=hid (show zAe j ((T.upd d (m.set s nm i)).upd d ((m.set s nm i).clear old)).nodes=some v from (zAl _ kT).trans ((zAl _ kT).trans gJ.o));have lF:=hid (gK.o.lnk j v gJ.o);have jJ:=(fJ.o.get fD.o).1.slots;have gQ:=fun W (hP:PnAt W (lay d) m)=>hP.seesAt;have gH:=hid gQ;clear hs jU gQ;have tok1:True:=trivial
                 go_wp2_with (first
                  | (go_at_call 95;have _t:=tok1;refine fE.mono ?_;rintro e w1 ⟨rfl,fF⟩;have fB:=fP.o w1 fF;have tok2:True:=trivial;clear _t tok1)
                  | (go_at_call 95;have _t:=tok2;refine fB.mono ?_;rintro e w2 ⟨rfl,fS⟩;have fC:=fF.trans (fS.mono fF.size);clear fB _t tok2;have fA:=hH.o.fresh fC;have x2:=fA.c2;have fT:=fA.lookI fG.o (by omega);have fU:=fA.lookI fD.o (by omega);have k6:=(fA.get fG.o).c6;have m6:=(fA.get fD.o).c6;have fK:=(fA.get fG.o).lookN old (by omega);have fM:=(fA.get fD.o).lookN nm (by omega);rw [gI.o] at fK;simp only [orV,Ah,zAS] at fK;have fW:=fA.lookI fL.o (by omega);have o0:=(fA.get fL.o).c0;have o1:=(fA.get fL.o).c1;rw [zAx fR.o] at o0;rw [gC.o] at o1;rw [fN.o] at fM;simp only [orV,Ah,zAS] at fM;have jI:=fA.lookI gJ.o (by omega);have j0:=(fA.get gJ.o).c0;rw [zAx gG.o] at j0;obtain⟨A5,c5,x5,gZ⟩:=gH.o w2 (fA.get fD.o);have jA:=zBx w2.heap.size A5 c5 nm m.slots w2 gZ (by omega);rw [kA] at jA;have fV:=hid fA;clear fA gZ)
                  | (go_at_call 104;refine jA.mono ?_;rintro e w' ⟨rfl,rfl⟩)
                  | (go_at_call 98;refine (zBC fV.o fJ.o fD.o fY.o jO jP (by omega)).mono ?_;rintro e w4 ⟨rfl,own4,lay4,gF,gX,jR⟩;have u2:=gF.c2;have jS:=gF.lookI fZ.o (by omega);have gO:=hid gF;have gA:=hid gX;clear gF gX)
                  | (go_at_call 101;refine (zBh gO.o gE.o fZ.o gN.o jQ.o kN).mono ?_;rintro e w5 ⟨rfl,gY,jT⟩;have gP:=hid gY;clear gY)
                  | (go_at_call 102;refine (zDZ own4 lay4 p mb j _ v w5 gP.o kE.o lE.o lF.o).mono ?_;rintro e w6 ⟨rfl,lG⟩))
                 go_ret;refine⟨by rw [fI.o];rfl,?_⟩;rw [fI.o];exact zAv.fst (gA.o.back fC.size) (((Al fC).trans jR (fun _ _ h=>h) (fun _ _ h=>h)).ext (gA.o.back fC.size) jT) lG
           | none =>
            rw [gD] at hu;simp only at hu;have fN:=hid gD;clear gD;by_cases fX:lk=100
            · rw [if_pos fX] at hu;have fI:=hid hu
              have kL:((lk:Int)==100)=true:=by simp;omega
              clear hu fX;have tok1:True:=trivial
              go_wp2_with (first
               | (go_at_call 95;have _t:=tok1;refine fE.mono ?_;rintro e w1 ⟨rfl,fF⟩;have fB:=fP.o w1 fF;have tok2:True:=trivial;clear _t tok1)
               | (go_at_call 95;have _t:=tok2;refine fB.mono ?_;rintro e w2 ⟨rfl,fS⟩;have fC:=fF.trans (fS.mono fF.size);clear fB _t tok2;have fA:=hH.o.fresh fC;have x2:=fA.c2;have fT:=fA.lookI fG.o (by omega);have fU:=fA.lookI fD.o (by omega);have k6:=(fA.get fG.o).c6;have m6:=(fA.get fD.o).c6;have fK:=(fA.get fG.o).lookN old (by omega);have fM:=(fA.get fD.o).lookN nm (by omega);rw [gI.o] at fK;simp only [orV,Ah,zAS] at fK;have fW:=fA.lookI fL.o (by omega);have o0:=(fA.get fL.o).c0;have o1:=(fA.get fL.o).c1;rw [zAx fR.o] at o0;rw [gC.o] at o1;rw [fN.o] at fM;simp only [orV,Ag] at fM;clear fA))
              go_ret;refine⟨by rw [fI.o];rfl,?_⟩;rw [fI.o];exact .same hH.o fC
            · rw [if_neg fX] at hu
              have kL:((lk:Int)==100)=false:=by simp;omega
              clear fX;have jJ:=(fJ.o.get fD.o).1.slots;have gQ:=fun W (hP:PnAt W (lay d) m)=>hP.seesAt;have gH:=hid gQ;clear gQ;obtain⟨ix,kA⟩:=nM (zIW nm m.slots);have gS:=zBs (T:=T) (n:=m) (nm:=nm) (fJ.o.get fD.o).1;have fH:=fun W hP=>zB1 own lay p mb d T m W hP gK.o fD.o;generalize T.place m=r3 at *;obtain⟨k,e3⟩:=r3;simp only at gS hu fH;unfold zAS at fH;have gM:=hid fH;clear fH;by_cases jD:e3=0
              · subst jD;rw [if_neg (by simp)] at hu;have fQ:=hid (show m.Fit k nm from gS rfl);have gE:=hid (fJ.o.upd (zCs gK.o fD.o fY.o fQ.o jK gR) (fJ.o.get fD.o).2);have jO:=fQ.o.le;have jP:=fQ.o.lt (fJ.o.get fD.o).1;have fZ:=hid (show zAe d (T.upd d (m.set k nm i)).nodes=some (m.set k nm i) from zA6 _ _);have gN:=hid (show (m.set k nm i).dir=true from fY.o);have jQ:=hid (zC4 (j:=i) fQ.o (Ak kD.o) kC.o kO.o);have kE:=hid (gE.o.upd ((gE.o.get fZ.o).1.clear old) (gE.o.get fZ.o).2);rw [zCl fD.o,zCt fZ.o] at hu;have fI:=hid hu;clear hu;clear gS;have tok1:True:=trivial
                go_wp2_with (first
                 | (go_at_call 95;have _t:=tok1;refine fE.mono ?_;rintro e w1 ⟨rfl,fF⟩;have fB:=fP.o w1 fF;have tok2:True:=trivial;clear _t tok1)
                 | (go_at_call 95;have _t:=tok2;refine fB.mono ?_;rintro e w2 ⟨rfl,fS⟩;have fC:=fF.trans (fS.mono fF.size);clear fB _t tok2;have fA:=hH.o.fresh fC;have x2:=fA.c2;have fT:=fA.lookI fG.o (by omega);have fU:=fA.lookI fD.o (by omega);have k6:=(fA.get fG.o).c6;have m6:=(fA.get fD.o).c6;have fK:=(fA.get fG.o).lookN old (by omega);have fM:=(fA.get fD.o).lookN nm (by omega);rw [gI.o] at fK;simp only [orV,Ah,zAS] at fK;have fW:=fA.lookI fL.o (by omega);have o0:=(fA.get fL.o).c0;have o1:=(fA.get fL.o).c1;rw [zAx fR.o] at o0;rw [gC.o] at o1;rw [fN.o] at fM;simp only [orV,Ag] at fM;obtain⟨A5,c5,x5,gZ⟩:=gH.o w2 (fA.get fD.o);have jA:=zBx w2.heap.size A5 c5 nm m.slots w2 gZ (by omega);rw [kA] at jA;have fV:=hid fA;clear fA gZ)
                 | (go_at_call 104;refine jA.mono ?_;rintro e w' ⟨rfl,rfl⟩)
                 | (go_at_call 97;refine (gM.o w2 fV.o).mono ?_;rintro e w4p ⟨rfl,jF⟩;have fO:=fC.trans (jF.mono fC.size);have gU:=hH.o.fresh fO;have y2:=gU.c2;have kG:=gU.lookI fD.o (by omega);have jG:=hid gU;clear gU)
                 | (go_at_call 98;refine (zBC jG.o fJ.o fD.o fY.o jO jP (by omega)).mono ?_;rintro e w4 ⟨rfl,own4,lay4,gF,gX,jR⟩;have u2:=gF.c2;have jS:=gF.lookI fZ.o (by omega);have gO:=hid gF;have gA:=hid gX;clear gF gX)
                 | (go_at_call 101;refine (zBh gO.o gE.o fZ.o gN.o jQ.o kN).mono ?_;rintro e w5 ⟨rfl,gY,jT⟩;have gP:=hid gY;clear gY))
                go_ret;refine⟨by rw [fI.o];rfl,?_⟩;rw [fI.o];exact .of gP.o (gA.o.back fO.size) (((Al fO).trans jR (fun _ _ h=>h) (fun _ _ h=>h)).ext (gA.o.back fO.size) jT)
              · rw [if_pos jD] at hu;have fI:=hid hu
                have kI:((e3:Int) != 0)=true:=by simp;omega
                clear hu gS jD;have tok1:True:=trivial
                go_wp2_with (first
                 | (go_at_call 95;have _t:=tok1;refine fE.mono ?_;rintro e w1 ⟨rfl,fF⟩;have fB:=fP.o w1 fF;have tok2:True:=trivial;clear _t tok1)
                 | (go_at_call 95;have _t:=tok2;refine fB.mono ?_;rintro e w2 ⟨rfl,fS⟩;have fC:=fF.trans (fS.mono fF.size);clear fB _t tok2;have fA:=hH.o.fresh fC;have x2:=fA.c2;have fT:=fA.lookI fG.o (by omega);have fU:=fA.lookI fD.o (by omega);have k6:=(fA.get fG.o).c6;have m6:=(fA.get fD.o).c6;have fK:=(fA.get fG.o).lookN old (by omega);have fM:=(fA.get fD.o).lookN nm (by omega);rw [gI.o] at fK;simp only [orV,Ah,zAS] at fK;have fW:=fA.lookI fL.o (by omega);have o0:=(fA.get fL.o).c0;have o1:=(fA.get fL.o).c1;rw [zAx fR.o] at o0;rw [gC.o] at o1;rw [fN.o] at fM;simp only [orV,Ag] at fM;obtain⟨A5,c5,x5,gZ⟩:=gH.o w2 (fA.get fD.o);have jA:=zBx w2.heap.size A5 c5 nm m.slots w2 gZ (by omega);rw [kA] at jA;have fV:=hid fA;clear fA gZ)
                 | (go_at_call 104;refine jA.mono ?_;rintro e w' ⟨rfl,rfl⟩)
                 | (go_at_call 97;refine (gM.o w2 fV.o).mono ?_;rintro e w4p ⟨rfl,jF⟩;have fO:=fC.trans (jF.mono fC.size)))
                go_ret;refine⟨by rw [fI.o];rfl,?_⟩;rw [fI.o];exact .same hH.o fO
        · have lL:((d:Int)==(t:Int))=false:=by simp;omega
          have kM:=hid lB;clear gV lB
          cases jC:o.dir with
          | true =>
           rw [jC,if_pos rfl] at hu;have fR:=hid jC;have lC:=hid (show T.isDir i=true by rw [zAm fL.o,jC]);clear jC
           cases gD:zAe nm m.names with
           | some j =>
            rw [gD,if_pos (show (some j).isSome=true from rfl)] at hu;have fI:=hid hu;have fN:=hid gD;clear hu gD;have tok1:True:=trivial
            go_wp2_with (first
             | (go_at_call 95;have _t:=tok1;refine fE.mono ?_;rintro e w1 ⟨rfl,fF⟩;have fB:=fP.o w1 fF;have tok2:True:=trivial;clear _t tok1)
             | (go_at_call 95;have _t:=tok2;refine fB.mono ?_;rintro e w2 ⟨rfl,fS⟩;have fC:=fF.trans (fS.mono fF.size);clear fB _t tok2;have fA:=hH.o.fresh fC;have x2:=fA.c2;have fT:=fA.lookI fG.o (by omega);have fU:=fA.lookI fD.o (by omega);have k6:=(fA.get fG.o).c6;have m6:=(fA.get fD.o).c6;have fK:=(fA.get fG.o).lookN old (by omega);have fM:=(fA.get fD.o).lookN nm (by omega);rw [gI.o] at fK;simp only [orV,Ah,zAS] at fK;have fW:=fA.lookI fL.o (by omega);have o0:=(fA.get fL.o).c0;have o1:=(fA.get fL.o).c1;rw [zAW fR.o] at o0;rw [fN.o] at fM;simp only [orV,Ah,zAS] at fM;clear fA))
            go_ret;refine⟨by rw [fI.o];rfl,?_⟩;rw [fI.o];exact .same hH.o fC
           | none =>
            rw [gD,if_neg (by simp)] at hu;have fN:=hid gD;clear gD;obtain⟨rk,kQ⟩:=gK.o.rank;have jM:=fun W hP=>zFR own lay p mb T gK.o rk kQ _ (fun j hj=>T.rk_le rk hj) t (by omega) ((T.nodes.map fun p=>rk p.1).sum+1) i W lC.o (by omega) hP;have gL:=hid jM;clear jM kQ;by_cases hU:T.Und t i
            · rw [if_pos hU] at hu;have fI:=hid hu;have jY:∀ b:Bool,(b=true↔T.Und t i)→b=true:=fun b hb=>hb.2 hU;clear hu hU;have tok1:True:=trivial
              go_wp2_with (first
               | (go_at_call 95;have _t:=tok1;refine fE.mono ?_;rintro e w1 ⟨rfl,fF⟩;have fB:=fP.o w1 fF;have tok2:True:=trivial;clear _t tok1)
               | (go_at_call 95;have _t:=tok2;refine fB.mono ?_;rintro e w2 ⟨rfl,fS⟩;have fC:=fF.trans (fS.mono fF.size);clear fB _t tok2;have fA:=hH.o.fresh fC;have x2:=fA.c2;have fT:=fA.lookI fG.o (by omega);have fU:=fA.lookI fD.o (by omega);have k6:=(fA.get fG.o).c6;have m6:=(fA.get fD.o).c6;have fK:=(fA.get fG.o).lookN old (by omega);have fM:=(fA.get fD.o).lookN nm (by omega);rw [gI.o] at fK;simp only [orV,Ah,zAS] at fK;have fW:=fA.lookI fL.o (by omega);have o0:=(fA.get fL.o).c0;have o1:=(fA.get fL.o).c1;rw [zAW fR.o] at o0;rw [fN.o] at fM;simp only [orV,Ag] at fM;have fV:=hid fA;clear fA)
               | (go_at_call 103;refine (gL.o w2 fV.o).mono ?_;rintro e w3 ⟨⟨b,rfl,gW⟩,jN⟩;obtain rfl:b=true:=jY b gW;clear gW;skip))
              go_ret;refine⟨by rw [fI.o];rfl,?_⟩;rw [fI.o];exact .same hH.o (fC.trans (jN.mono fC.size))
            · rw [if_neg hU] at hu
              have jY:∀ b:Bool,(b=true↔T.Und t i)→b=false:=fun b hb=>by cases b;rfl;exact absurd (hb.1 rfl) hU
              clear hU;have gS:=zBs (T:=T) (n:=m) (nm:=nm) (fJ.o.get fD.o).1;have fH:=fun W hP=>zB1 own lay p mb t T m W hP gK.o fD.o;generalize T.place m=r3 at *;obtain⟨k,e3⟩:=r3;simp only at gS hu fH;unfold zAS at fH;have gM:=hid fH;clear fH;by_cases jD:e3=0
              · subst jD;rw [if_neg (by simp)] at hu;have fQ:=hid (show m.Fit k nm from gS rfl);have gE:=hid (fJ.o.upd (zCs gK.o fD.o fY.o fQ.o jK gR) (fJ.o.get fD.o).2);have jO:=fQ.o.le;have jP:=fQ.o.lt (fJ.o.get fD.o).1;have fZ:=hid (show zAe d (T.upd t (m.set k nm i)).nodes=some n from (zAl _ kM.o).trans fG.o);have gN:=jX;have jQ:=kO;have kE:=hid (gE.o.upd ((gE.o.get fZ.o).1.clear old) (gE.o.get fZ.o).2);rw [zCl fD.o,zCt fZ.o] at hu;have fI:=hid hu;clear hu;clear gS;have tok1:True:=trivial
                go_wp2_with (first
                 | (go_at_call 95;have _t:=tok1;refine fE.mono ?_;rintro e w1 ⟨rfl,fF⟩;have fB:=fP.o w1 fF;have tok2:True:=trivial;clear _t tok1)
                 | (go_at_call 95;have _t:=tok2;refine fB.mono ?_;rintro e w2 ⟨rfl,fS⟩;have fC:=fF.trans (fS.mono fF.size);clear fB _t tok2;have fA:=hH.o.fresh fC;have x2:=fA.c2;have fT:=fA.lookI fG.o (by omega);have fU:=fA.lookI fD.o (by omega);have k6:=(fA.get fG.o).c6;have m6:=(fA.get fD.o).c6;have fK:=(fA.get fG.o).lookN old (by omega);have fM:=(fA.get fD.o).lookN nm (by omega);rw [gI.o] at fK;simp only [orV,Ah,zAS] at fK;have fW:=fA.lookI fL.o (by omega);have o0:=(fA.get fL.o).c0;have o1:=(fA.get fL.o).c1;rw [zAW fR.o] at o0;rw [fN.o] at fM;simp only [orV,Ag] at fM;have fV:=hid fA;clear fA)
                 | (go_at_call 103;refine (gL.o w2 fV.o).mono ?_;rintro e w3 ⟨⟨b,rfl,gW⟩,jN⟩;obtain rfl:b=false:=jY b gW;clear gW;have gB:=fC.trans (jN.mono fC.size);have gT:=hH.o.fresh gB;have v2:=gT.c2;have kF:=gT.lookI fD.o (by omega);have jE:=hid gT;clear gT)
                 | (go_at_call 97;refine (gM.o w3 jE.o).mono ?_;rintro e w4p ⟨rfl,jF⟩;have fO:=gB.trans (jF.mono gB.size);have gU:=hH.o.fresh fO;have y2:=gU.c2;have kG:=gU.lookI fD.o (by omega);have jG:=hid gU;clear gU)
                 | (go_at_call 98;refine (zBC jG.o fJ.o fD.o fY.o jO jP (by omega)).mono ?_;rintro e w4 ⟨rfl,own4,lay4,gF,gX,jR⟩;have u2:=gF.c2;have jS:=gF.lookI fZ.o (by omega);have gO:=hid gF;have gA:=hid gX;clear gF gX)
                 | (go_at_call 101;refine (zBh gO.o gE.o fZ.o gN.o jQ.o kN).mono ?_;rintro e w5 ⟨rfl,gY,jT⟩;have gP:=hid gY;clear gY))
                go_ret;refine⟨by rw [fI.o];rfl,?_⟩;rw [fI.o];exact .of gP.o (gA.o.back fO.size) (((Al fO).trans jR (fun _ _ h=>h) (fun _ _ h=>h)).ext (gA.o.back fO.size) jT)
              · rw [if_pos jD] at hu;have fI:=hid hu
                have kI:((e3:Int) != 0)=true:=by simp;omega
                clear hu gS jD;have tok1:True:=trivial
                go_wp2_with (first
                 | (go_at_call 95;have _t:=tok1;refine fE.mono ?_;rintro e w1 ⟨rfl,fF⟩;have fB:=fP.o w1 fF;have tok2:True:=trivial;clear _t tok1)
                 | (go_at_call 95;have _t:=tok2;refine fB.mono ?_;rintro e w2 ⟨rfl,fS⟩;have fC:=fF.trans (fS.mono fF.size);clear fB _t tok2;have fA:=hH.o.fresh fC;have x2:=fA.c2;have fT:=fA.lookI fG.o (by omega);have fU:=fA.lookI fD.o (by omega);have k6:=(fA.get fG.o).c6;have m6:=(fA.get fD.o).c6;have fK:=(fA.get fG.o).lookN old (by omega);have fM:=(fA.get fD.o).lookN nm (by omega);rw [gI.o] at fK;simp only [orV,Ah,zAS] at fK;have fW:=fA.lookI fL.o (by omega);have o0:=(fA.get fL.o).c0;have o1:=(fA.get fL.o).c1;rw [zAW fR.o] at o0;rw [fN.o] at fM;simp only [orV,Ag] at fM;have fV:=hid fA;clear fA)
                 | (go_at_call 103;refine (gL.o w2 fV.o).mono ?_;rintro e w3 ⟨⟨b,rfl,gW⟩,jN⟩;obtain rfl:b=false:=jY b gW;clear gW;have gB:=fC.trans (jN.mono fC.size);have gT:=hH.o.fresh gB;have v2:=gT.c2;have kF:=gT.lookI fD.o (by omega);have jE:=hid gT;clear gT)
                 | (go_at_call 97;refine (gM.o w3 jE.o).mono ?_;rintro e w4p ⟨rfl,jF⟩;have fO:=gB.trans (jF.mono gB.size)))
                go_ret;refine⟨by rw [fI.o];rfl,?_⟩;rw [fI.o];exact .same hH.o fO
          | false =>
           rw [jC,if_neg (by simp)] at hu;have fR:=hid jC;clear jC;obtain⟨lk,jH⟩:=nM (o.links);have gC:=hid jH;rw [jH] at hu kP;clear jH
           cases gD:zAe nm m.names with
           | some j =>
            rw [gD] at hu;simp only at hu;have fN:=hid gD;obtain⟨v,hv⟩:=gK.o.ents t m nm j fD.o gD;have gJ:=hid hv;have kJ:=fJ.o.get hv
            have kR:j≤512:=by omega
            rw [zAm hv] at hu;clear gD kJ hv
            cases jL:v.dir with
            | true =>
             rw [jL,if_pos rfl] at hu;have fI:=hid hu;have gG:=hid jL;clear hu jL;have tok1:True:=trivial
             go_wp2_with (first
              | (go_at_call 95;have _t:=tok1;refine fE.mono ?_;rintro e w1 ⟨rfl,fF⟩;have fB:=fP.o w1 fF;have tok2:True:=trivial;clear _t tok1)
              | (go_at_call 95;have _t:=tok2;refine fB.mono ?_;rintro e w2 ⟨rfl,fS⟩;have fC:=fF.trans (fS.mono fF.size);clear fB _t tok2;have fA:=hH.o.fresh fC;have x2:=fA.c2;have fT:=fA.lookI fG.o (by omega);have fU:=fA.lookI fD.o (by omega);have k6:=(fA.get fG.o).c6;have m6:=(fA.get fD.o).c6;have fK:=(fA.get fG.o).lookN old (by omega);have fM:=(fA.get fD.o).lookN nm (by omega);rw [gI.o] at fK;simp only [orV,Ah,zAS] at fK;have fW:=fA.lookI fL.o (by omega);have o0:=(fA.get fL.o).c0;have o1:=(fA.get fL.o).c1;rw [zAx fR.o] at o0;rw [gC.o] at o1;rw [fN.o] at fM;simp only [orV,Ah,zAS] at fM;have jI:=fA.lookI gJ.o (by omega);have j0:=(fA.get gJ.o).c0;rw [zAW gG.o] at j0;clear fA))
             go_ret;refine⟨by rw [fI.o];rfl,?_⟩;rw [fI.o];exact .same hH.o fC
            | false =>
             rw [jL,if_neg (by simp)] at hu;have gG:=hid jL;clear jL;by_cases jZ:i=j
             · subst jZ;rw [if_pos rfl] at hu;have fI:=hid hu
               have kK:((i:Int)==(i:Int))=true:=by simp
               clear hu;have tok1:True:=trivial
               go_wp2_with (first
                | (go_at_call 95;have _t:=tok1;refine fE.mono ?_;rintro e w1 ⟨rfl,fF⟩;have fB:=fP.o w1 fF;have tok2:True:=trivial;clear _t tok1)
                | (go_at_call 95;have _t:=tok2;refine fB.mono ?_;rintro e w2 ⟨rfl,fS⟩;have fC:=fF.trans (fS.mono fF.size);clear fB _t tok2;have fA:=hH.o.fresh fC;have x2:=fA.c2;have fT:=fA.lookI fG.o (by omega);have fU:=fA.lookI fD.o (by omega);have k6:=(fA.get fG.o).c6;have m6:=(fA.get fD.o).c6;have fK:=(fA.get fG.o).lookN old (by omega);have fM:=(fA.get fD.o).lookN nm (by omega);rw [gI.o] at fK;simp only [orV,Ah,zAS] at fK;have fW:=fA.lookI fL.o (by omega);have o0:=(fA.get fL.o).c0;have o1:=(fA.get fL.o).c1;rw [zAx fR.o] at o0;rw [gC.o] at o1;rw [fN.o] at fM;simp only [orV,Ah,zAS] at fM;have jI:=fA.lookI gJ.o (by omega);have j0:=(fA.get gJ.o).c0;rw [zAx gG.o] at j0;clear fA))
               go_ret;refine⟨by rw [fI.o];rfl,?_⟩;rw [fI.o];exact .same hH.o fC
             · rw [if_neg jZ] at hu
               have kK:((i:Int)==(j:Int))=false:=by simp;omega
               have lD:=hid jZ;clear jZ;by_cases fX:lk=100
               · rw [if_pos fX] at hu;have fI:=hid hu
                 have kL:((lk:Int)==100)=true:=by simp;omega
                 clear hu fX;have tok1:True:=trivial
                 go_wp2_with (first
                  | (go_at_call 95;have _t:=tok1;refine fE.mono ?_;rintro e w1 ⟨rfl,fF⟩;have fB:=fP.o w1 fF;have tok2:True:=trivial;clear _t tok1)
                  | (go_at_call 95;have _t:=tok2;refine fB.mono ?_;rintro e w2 ⟨rfl,fS⟩;have fC:=fF.trans (fS.mono fF.size);clear fB _t tok2;have fA:=hH.o.fresh fC;have x2:=fA.c2;have fT:=fA.lookI fG.o (by omega);have fU:=fA.lookI fD.o (by omega);have k6:=(fA.get fG.o).c6;have m6:=(fA.get fD.o).c6;have fK:=(fA.get fG.o).lookN old (by omega);have fM:=(fA.get fD.o).lookN nm (by omega);rw [gI.o] at fK;simp only [orV,Ah,zAS] at fK;have fW:=fA.lookI fL.o (by omega);have o0:=(fA.get fL.o).c0;have o1:=(fA.get fL.o).c1;rw [zAx fR.o] at o0;rw [gC.o] at o1;rw [fN.o] at fM;simp only [orV,Ah,zAS] at fM;have jI:=fA.lookI gJ.o (by omega);have j0:=(fA.get gJ.o).c0;rw [zAx gG.o] at j0;clear fA))
                 go_ret;refine⟨by rw [fI.o];rfl,?_⟩;rw [fI.o];exact .same hH.o fC
               · rw [if_neg fX] at hu
                 have kL:((lk:Int)==100)=false:=by simp;omega
                 clear fX;obtain⟨s,hs⟩:=gK.o.slotn t m nm j fD.o fN.o;rw [hs] at hu;simp only [Option.getD_some] at hu;have kA:=zE4 hs;have jU:=(zAR hs);have fQ:=hid (show m.Fit s nm from by exact .inr (.inr ⟨by rw [fN.o];rfl,jU.2⟩));have gE:=hid (fJ.o.upd (zCs gK.o fD.o fY.o fQ.o jK gR) (fJ.o.get fD.o).2);have jO:=fQ.o.le;have jP:=fQ.o.lt (fJ.o.get fD.o).1;have fZ:=hid (show zAe d (T.upd t (m.set s nm i)).nodes=some n from (zAl _ kM.o).trans fG.o);have gN:=jX;have jQ:=kO;have kE:=hid (gE.o.upd ((gE.o.get fZ.o).1.clear old) (gE.o.get fZ.o).2);rw [zCl fD.o,zCt fZ.o] at hu;have fI:=hid hu;clear hu
                 have kT:j≠d:=fun e=>by have h1:=gJ.o;rw [e,fG.o] at h1;have h1:=Aj h1;have h2:=gG.o;rw [←h1,jX.o] at h2;cases h2
                 have lQ:j≠t:=fun e=>by have h1:=gJ.o;rw [e,fD.o] at h1;have h1:=Aj h1;have h2:=gG.o;rw [←h1,fY.o] at h2;cases h2
                 have lE:=hid (show zAe j ((T.upd t (m.set s nm i)).upd d (n.clear old)).nodes=some v from (zAl _ kT).trans ((zAl _ lQ).trans gJ.o));have lF:=hid (gK.o.lnk j v gJ.o);have jJ:=(fJ.o.get fD.o).1.slots;have gQ:=fun W (hP:PnAt W (lay t) m)=>hP.seesAt;have gH:=hid gQ;clear hs jU gQ;have tok1:True:=trivial
                 go_wp2_with (first
                  | (go_at_call 95;have _t:=tok1;refine fE.mono ?_;rintro e w1 ⟨rfl,fF⟩;have fB:=fP.o w1 fF;have tok2:True:=trivial;clear _t tok1)
                  | (go_at_call 95;have _t:=tok2;refine fB.mono ?_;rintro e w2 ⟨rfl,fS⟩;have fC:=fF.trans (fS.mono fF.size);clear fB _t tok2;have fA:=hH.o.fresh fC;have x2:=fA.c2;have fT:=fA.lookI fG.o (by omega);have fU:=fA.lookI fD.o (by omega);have k6:=(fA.get fG.o).c6;have m6:=(fA.get fD.o).c6;have fK:=(fA.get fG.o).lookN old (by omega);have fM:=(fA.get fD.o).lookN nm (by omega);rw [gI.o] at fK;simp only [orV,Ah,zAS] at fK;have fW:=fA.lookI fL.o (by omega);have o0:=(fA.get fL.o).c0;have o1:=(fA.get fL.o).c1;rw [zAx fR.o] at o0;rw [gC.o] at o1;rw [fN.o] at fM;simp only [orV,Ah,zAS] at fM;have jI:=fA.lookI gJ.o (by omega);have j0:=(fA.get gJ.o).c0;rw [zAx gG.o] at j0;obtain⟨A5,c5,x5,gZ⟩:=gH.o w2 (fA.get fD.o);have jA:=zBx w2.heap.size A5 c5 nm m.slots w2 gZ (by omega);rw [kA] at jA;have fV:=hid fA;clear fA gZ)
                  | (go_at_call 104;refine jA.mono ?_;rintro e w' ⟨rfl,rfl⟩)
                  | (go_at_call 98;refine (zBC fV.o fJ.o fD.o fY.o jO jP (by omega)).mono ?_;rintro e w4 ⟨rfl,own4,lay4,gF,gX,jR⟩;have u2:=gF.c2;have jS:=gF.lookI fZ.o (by omega);have gO:=hid gF;have gA:=hid gX;clear gF gX)
                  | (go_at_call 101;refine (zBh gO.o gE.o fZ.o gN.o jQ.o kN).mono ?_;rintro e w5 ⟨rfl,gY,jT⟩;have gP:=hid gY;clear gY)
                  | (go_at_call 102;refine (zDZ own4 lay4 p mb j _ v w5 gP.o kE.o lE.o lF.o).mono ?_;rintro e w6 ⟨rfl,lG⟩))
                 go_ret;refine⟨by rw [fI.o];rfl,?_⟩;rw [fI.o];exact zAv.fst (gA.o.back fC.size) (((Al fC).trans jR (fun _ _ h=>h) (fun _ _ h=>h)).ext (gA.o.back fC.size) jT) lG
           | none =>
            rw [gD] at hu;simp only at hu;have fN:=hid gD;clear gD;by_cases fX:lk=100
            · rw [if_pos fX] at hu;have fI:=hid hu
              have kL:((lk:Int)==100)=true:=by simp;omega
              clear hu fX;have tok1:True:=trivial
              go_wp2_with (first
               | (go_at_call 95;have _t:=tok1;refine fE.mono ?_;rintro e w1 ⟨rfl,fF⟩;have fB:=fP.o w1 fF;have tok2:True:=trivial;clear _t tok1)
               | (go_at_call 95;have _t:=tok2;refine fB.mono ?_;rintro e w2 ⟨rfl,fS⟩;have fC:=fF.trans (fS.mono fF.size);clear fB _t tok2;have fA:=hH.o.fresh fC;have x2:=fA.c2;have fT:=fA.lookI fG.o (by omega);have fU:=fA.lookI fD.o (by omega);have k6:=(fA.get fG.o).c6;have m6:=(fA.get fD.o).c6;have fK:=(fA.get fG.o).lookN old (by omega);have fM:=(fA.get fD.o).lookN nm (by omega);rw [gI.o] at fK;simp only [orV,Ah,zAS] at fK;have fW:=fA.lookI fL.o (by omega);have o0:=(fA.get fL.o).c0;have o1:=(fA.get fL.o).c1;rw [zAx fR.o] at o0;rw [gC.o] at o1;rw [fN.o] at fM;simp only [orV,Ag] at fM;clear fA))
              go_ret;refine⟨by rw [fI.o];rfl,?_⟩;rw [fI.o];exact .same hH.o fC
            · rw [if_neg fX] at hu
              have kL:((lk:Int)==100)=false:=by simp;omega
              clear fX;have jJ:=(fJ.o.get fD.o).1.slots;have gQ:=fun W (hP:PnAt W (lay t) m)=>hP.seesAt;have gH:=hid gQ;clear gQ;obtain⟨ix,kA⟩:=nM (zIW nm m.slots);have gS:=zBs (T:=T) (n:=m) (nm:=nm) (fJ.o.get fD.o).1;have fH:=fun W hP=>zB1 own lay p mb t T m W hP gK.o fD.o;generalize T.place m=r3 at *;obtain⟨k,e3⟩:=r3;simp only at gS hu fH;unfold zAS at fH;have gM:=hid fH;clear fH;by_cases jD:e3=0
              · subst jD;rw [if_neg (by simp)] at hu;have fQ:=hid (show m.Fit k nm from gS rfl);have gE:=hid (fJ.o.upd (zCs gK.o fD.o fY.o fQ.o jK gR) (fJ.o.get fD.o).2);have jO:=fQ.o.le;have jP:=fQ.o.lt (fJ.o.get fD.o).1;have fZ:=hid (show zAe d (T.upd t (m.set k nm i)).nodes=some n from (zAl _ kM.o).trans fG.o);have gN:=jX;have jQ:=kO;have kE:=hid (gE.o.upd ((gE.o.get fZ.o).1.clear old) (gE.o.get fZ.o).2);rw [zCl fD.o,zCt fZ.o] at hu;have fI:=hid hu;clear hu;clear gS;have tok1:True:=trivial
                go_wp2_with (first
                 | (go_at_call 95;have _t:=tok1;refine fE.mono ?_;rintro e w1 ⟨rfl,fF⟩;have fB:=fP.o w1 fF;have tok2:True:=trivial;clear _t tok1)
                 | (go_at_call 95;have _t:=tok2;refine fB.mono ?_;rintro e w2 ⟨rfl,fS⟩;have fC:=fF.trans (fS.mono fF.size);clear fB _t tok2;have fA:=hH.o.fresh fC;have x2:=fA.c2;have fT:=fA.lookI fG.o (by omega);have fU:=fA.lookI fD.o (by omega);have k6:=(fA.get fG.o).c6;have m6:=(fA.get fD.o).c6;have fK:=(fA.get fG.o).lookN old (by omega);have fM:=(fA.get fD.o).lookN nm (by omega);rw [gI.o] at fK;simp only [orV,Ah,zAS] at fK;have fW:=fA.lookI fL.o (by omega);have o0:=(fA.get fL.o).c0;have o1:=(fA.get fL.o).c1;rw [zAx fR.o] at o0;rw [gC.o] at o1;rw [fN.o] at fM;simp only [orV,Ag] at fM;obtain⟨A5,c5,x5,gZ⟩:=gH.o w2 (fA.get fD.o);have jA:=zBx w2.heap.size A5 c5 nm m.slots w2 gZ (by omega);rw [kA] at jA;have fV:=hid fA;clear fA gZ)
                 | (go_at_call 104;refine jA.mono ?_;rintro e w' ⟨rfl,rfl⟩)
                 | (go_at_call 97;refine (gM.o w2 fV.o).mono ?_;rintro e w4p ⟨rfl,jF⟩;have fO:=fC.trans (jF.mono fC.size);have gU:=hH.o.fresh fO;have y2:=gU.c2;have kG:=gU.lookI fD.o (by omega);have jG:=hid gU;clear gU)
                 | (go_at_call 98;refine (zBC jG.o fJ.o fD.o fY.o jO jP (by omega)).mono ?_;rintro e w4 ⟨rfl,own4,lay4,gF,gX,jR⟩;have u2:=gF.c2;have jS:=gF.lookI fZ.o (by omega);have gO:=hid gF;have gA:=hid gX;clear gF gX)
                 | (go_at_call 101;refine (zBh gO.o gE.o fZ.o gN.o jQ.o kN).mono ?_;rintro e w5 ⟨rfl,gY,jT⟩;have gP:=hid gY;clear gY))
                go_ret;refine⟨by rw [fI.o];rfl,?_⟩;rw [fI.o];exact .of gP.o (gA.o.back fO.size) (((Al fO).trans jR (fun _ _ h=>h) (fun _ _ h=>h)).ext (gA.o.back fO.size) jT)
              · rw [if_pos jD] at hu;have fI:=hid hu
                have kI:((e3:Int) != 0)=true:=by simp;omega
                clear hu gS jD;have tok1:True:=trivial
                go_wp2_with (first
                 | (go_at_call 95;have _t:=tok1;refine fE.mono ?_;rintro e w1 ⟨rfl,fF⟩;have fB:=fP.o w1 fF;have tok2:True:=trivial;clear _t tok1)
                 | (go_at_call 95;have _t:=tok2;refine fB.mono ?_;rintro e w2 ⟨rfl,fS⟩;have fC:=fF.trans (fS.mono fF.size);clear fB _t tok2;have fA:=hH.o.fresh fC;have x2:=fA.c2;have fT:=fA.lookI fG.o (by omega);have fU:=fA.lookI fD.o (by omega);have k6:=(fA.get fG.o).c6;have m6:=(fA.get fD.o).c6;have fK:=(fA.get fG.o).lookN old (by omega);have fM:=(fA.get fD.o).lookN nm (by omega);rw [gI.o] at fK;simp only [orV,Ah,zAS] at fK;have fW:=fA.lookI fL.o (by omega);have o0:=(fA.get fL.o).c0;have o1:=(fA.get fL.o).c1;rw [zAx fR.o] at o0;rw [gC.o] at o1;rw [fN.o] at fM;simp only [orV,Ag] at fM;obtain⟨A5,c5,x5,gZ⟩:=gH.o w2 (fA.get fD.o);have jA:=zBx w2.heap.size A5 c5 nm m.slots w2 gZ (by omega);rw [kA] at jA;have fV:=hid fA;clear fA gZ)
                 | (go_at_call 104;refine jA.mono ?_;rintro e w' ⟨rfl,rfl⟩)
                 | (go_at_call 97;refine (gM.o w2 fV.o).mono ?_;rintro e w4p ⟨rfl,jF⟩;have fO:=fC.trans (jF.mono fC.size)))
                go_ret;refine⟨by rw [fI.o];rfl,?_⟩;rw [fI.o];exact .same hH.o fO
   · rw [if_pos kZ] at hu;have fI:=hid hu
     have lR:((e2:Int) != 0)=true:=by simp;omega
     clear hu jW kZ;have tok1:True:=trivial
     go_wp2_with (first
      | (go_at_call 95;have _t:=tok1;refine fE.mono ?_;rintro e w1 ⟨rfl,fF⟩;have fB:=fP.o w1 fF;have tok2:True:=trivial;clear _t tok1)
      | (go_at_call 95;have _t:=tok2;refine fB.mono ?_;rintro e w2 ⟨rfl,fS⟩;have fC:=fF.trans (fS.mono fF.size);clear fB _t tok2;skip))
     go_ret;refine⟨by rw [fI.o];rfl,?_⟩;rw [fI.o];exact .same hH.o fC
 · rw [if_pos kY] at hu;have fI:=hid hu
   have lS:((e1:Int) != 0)=true:=by simp;omega
   clear hu jV kY;have tok1:True:=trivial
   go_wp2_with (first
    | (go_at_call 95;have _t:=tok1;refine fE.mono ?_;rintro e w1 ⟨rfl,fF⟩;clear _t tok1))
   go_ret;refine⟨by rw [fI.o];rfl,?_⟩;rw [fI.o];exact .same hH.o fF
abbrev zAj:Value:=.slice none 0 0
def zAq (c:Nat) (s:St) (d e:Value):List Value:=[.int .i64 (c:Int),.int .i64 s.ino,.int .i64 s.kind,.int .i64 s.links,.int .i64 s.size,.int .i64 s.made,.int .i64 s.blocks,d,e,.bool false]
def ansV (a:Ans):Value:=.agg (zAq a.code a.stat zAj zAj).toArray
abbrev zAk:List Value:=[.int .i64 0,.int .i64 0,.int .i64 0,.int .i64 0,.int .i64 0,.int .i64 0,.int .i64 0,zAj,zAj,.bool false]
theorem zDY (T:PT):∀ (f i:Nat),zA5 T f i≠0→i≤zA5 T f i∧zA5 T f i≤T.inodes∧zAe (zA5 T f i) T.nodes=none
 | 0,_,h=>absurd rfl h
 | f+1,i,h=>by
  unfold zA5 at h ⊢
  split at h
  · exact absurd rfl h
  · rename_i h1;rw [if_neg h1]
    split at h
    · rename_i h2;rw [if_pos h2];have:=zDY T f (i+1) h;exact⟨by omega,this.2⟩
    · rename_i h2;rw [if_neg h2];refine⟨An _,by omega,?_⟩
      cases hg:zAe i T.nodes with
      | none=>rfl
      | some n=>rw [hg] at h2;exact absurd rfl h2
theorem zG3 {T:PT} (h:T.free≠0):2≤T.free∧T.free≤T.inodes∧zAe T.free T.nodes=none:=zDY T _ 2 h
section
variable {w w0 w1 w2:World} {own:Nat→Option Role} {lay:Nat→NA} {p mb i z:Nat} {T T':PT}
theorem zAv.after (h:zAv own p mb T' w0 w1) (hb:Below w.heap.size w w0) (hz:w.heap.size≤z) (fB:z<w0.heap.size) (fA:own z=none) (hc:Chg (fun b=>b=z) w1 w2):zAv own p mb T' w w2:=by
 obtain⟨o,l,h1,h2,h3⟩:=h
 have ho:o z=none:=by
  cases e:o z with
  | none=>rfl
  | some r =>
   rcases h2.new z r e with e2 | e2
   · rw [fA] at e2;cases e2
   · omega
 exact⟨o,l,h1.chg hc fun b e=>by rw [e];exact ho,h2.back hb.size,((Al hb).trans h3 (fun _ _ h=>h) (fun _ _ h=>h)).trans hc (fun _ _ h=>h) (fun b hb e=>by omega)⟩
end
theorem zE6 (c:Nat) (s:St):(zAq c s zAj zAj).toArray.all (·.oneCell')=true:=by
 rw [Ar];intro v hv
 have hv:v∈zAq c s zAj zAj:=by simpa using hv
 simp only [zAq,As,At,or_false] at hv;rcases hv with rfl | rfl | rfl | rfl | rfl | rfl | rfl | rfl | rfl | rfl<;>rfl
theorem zIi (dir:Bool) {made:Nat} (h:made≤1099511627776):(zCR dir made).Ok:=by
 refine⟨fun p hp=>(by cases hp),by simp [zCR],fun p hp=>(by cases hp),by simp [zCR],by simp [zCR],by simp [zCR],h,fun p hp=>(by cases hp),by simp [zCR],fun _=>rfl,fun _=>⟨rfl,rfl⟩,AF,AF⟩
section
variable {own:Nat→Option Role} {i:Nat}
def zBw (own:Nat→Option Role) (i z:Nat) (nm:Bool):Nat→Option Role:=fun b=>if b=z then some (.data i) else if b=z+1 then some (.node i) else if b=z+2∧nm=true then some (.names i) else own b
theorem zEc (w:World) (nm:Bool) (fA:∀ b r,own b=some r→b<w.heap.size) {w3:World} (hz:w3.heap.size=w.heap.size+(if nm then 3 else 2)) :
 Ext w own (zBw own i w.heap.size nm)∧(∀ b r,zBw own i w.heap.size nm b=some r→b<w3.heap.size)∧∀ g,g<w.heap.size→own g=none→zBw own i w.heap.size nm g=none:=by
 refine⟨⟨fun b r e=>?_,fun b r e=>?_⟩,fun b r e=>?_,fun g hg e=>?_⟩
 · have:=fA b r e;unfold zBw;rw [if_neg (by omega),if_neg (by omega),if_neg (by omega)];exact e
 · unfold zBw at e
   split at e
   · exact .inr (by omega)
   · split at e
     · exact .inr (by omega)
     · split at e
       · exact .inr (by omega)
       · exact .inl e
 · unfold zBw at e
   split at e
   · split at hz<;>omega
   · split at e
     · split at hz<;>omega
     · split at e
       · rename_i h;rw [h.2] at hz;simp only [if_true] at hz;omega
       · have:=fA b r e
         split at hz<;>omega
 · unfold zBw;rw [if_neg (by omega),if_neg (by omega),if_neg (by omega)];exact e
theorem new_file (w:World) (made:Nat) (fA:∀ b r,own b=some r→b<w.heap.size) :
 PnAt ((w.alloc (.map #[] 0)).alloc (.cells #[.int .i64 1,.int .i64 1,.int .i64 0,.int .i64 (made:Int),.map (some w.heap.size),zAj,.map none] 110)) ⟨w.heap.size+1,some w.heap.size,zAj,none⟩ (zCR false made) ∧
 Ext w own (zBw own i w.heap.size false)∧(∀ b r,zBw own i w.heap.size false b=some r→b<((w.alloc (.map #[] 0)).alloc (.cells #[.int .i64 1,.int .i64 1,.int .i64 0,.int .i64 (made:Int),.map (some w.heap.size),zAj,.map none] 110)).heap.size) ∧
 Owns (zBw own i w.heap.size false) i ⟨w.heap.size+1,some w.heap.size,zAj,none⟩∧(∀ g,g<w.heap.size→own g=none→zBw own i w.heap.size false g=none) ∧
 Below w.heap.size w ((w.alloc (.map #[] 0)).alloc (.cells #[.int .i64 1,.int .i64 1,.int .i64 0,.int .i64 (made:Int),.map (some w.heap.size),zAj,.map none] 110)):=by
 obtain⟨h1,h2,h3⟩:=zEc (own:=own) (i:=i) w false fA (w3:=(w.alloc (.map #[] 0)).alloc (.cells #[.int .i64 1,.int .i64 1,.int .i64 0,.int .i64 (made:Int),.map (some w.heap.size),zAj,.map none] 110)) (by simp);refine⟨⟨?_,(zAt.made w zAG zB6 3).alloc _,AG _ _ _ _,rfl,fun e=>(by cases e),fun _=>⟨_,rfl⟩⟩,h1,h2,⟨?_,fun b e=>?_,fun b e=>(by cases e),fun b e=>(by cases e)⟩,h3,(br.alloc nr _).alloc (by simp) _⟩
 · have:=Blk.new (w.alloc (.map #[] 0)) 110 [.int .i64 1,.int .i64 1,.int .i64 0,.int .i64 (made:Int),.map (some w.heap.size),zAj,.map none];rw [show (w.alloc (.map #[] 0)).heap.size=w.heap.size+1 by simp] at this;exact this
 · simp [zBw]
 · have e:=Aj e;simp [zBw,←e]
theorem new_dir (w:World) (made:Nat) (fB:∀ b r,own b=some r→b<w.heap.size) :
 PnAt (((w.alloc (.map #[] 0)).alloc (.cells #[.int .i64 2,.int .i64 1,.int .i64 0,.int .i64 (made:Int),.map (some w.heap.size),zAj,.map (some (w.heap.size+1+1))] 110)).alloc (.map #[] 0)) ⟨w.heap.size+1,some w.heap.size,zAj,some (w.heap.size+1+1)⟩ (zCR true made) ∧
 Ext w own (zBw own i w.heap.size true)∧(∀ b r,zBw own i w.heap.size true b=some r→b<(((w.alloc (.map #[] 0)).alloc (.cells #[.int .i64 2,.int .i64 1,.int .i64 0,.int .i64 (made:Int),.map (some w.heap.size),zAj,.map (some (w.heap.size+1+1))] 110)).alloc (.map #[] 0)).heap.size) ∧
 Owns (zBw own i w.heap.size true) i ⟨w.heap.size+1,some w.heap.size,zAj,some (w.heap.size+1+1)⟩∧(∀ g,g<w.heap.size→own g=none→zBw own i w.heap.size true g=none) ∧
 Below w.heap.size w (((w.alloc (.map #[] 0)).alloc (.cells #[.int .i64 2,.int .i64 1,.int .i64 0,.int .i64 (made:Int),.map (some w.heap.size),zAj,.map (some (w.heap.size+1+1))] 110)).alloc (.map #[] 0)):=by
 obtain⟨h1,h2,h3⟩:=zEc (own:=own) (i:=i) w true fB (w3:=((w.alloc (.map #[] 0)).alloc (.cells #[.int .i64 2,.int .i64 1,.int .i64 0,.int .i64 (made:Int),.map (some w.heap.size),zAj,.map (some (w.heap.size+1+1))] 110)).alloc (.map #[] 0)) (by simp);have fC:=zAt.made ((w.alloc (.map #[] 0)).alloc (.cells #[.int .i64 2,.int .i64 1,.int .i64 0,.int .i64 (made:Int),.map (some w.heap.size),zAj,.map (some (w.heap.size+1+1))] 110)) zAV zAS 9;refine⟨⟨?_,((zAt.made w zAG zB6 3).alloc _).alloc _,AG _ _ _ _,?_,fun _=>⟨_,rfl⟩,fun e=>(by cases e)⟩,h1,h2,⟨?_,fun b e=>?_,fun b e=>(by cases e),fun b e=>?_⟩,h3,((br.alloc nr _).alloc (by simp) _).alloc (by simp;omega) _⟩
 · have:=(Blk.new (w.alloc (.map #[] 0)) 110 [.int .i64 2,.int .i64 1,.int .i64 0,.int .i64 (made:Int),.map (some w.heap.size),zAj,.map (some (w.heap.size+1+1))]).alloc (.map #[] 0);rw [show (w.alloc (.map #[] 0)).heap.size=w.heap.size+1 by simp] at this;exact this
 · have fA:zAt (((w.alloc (.map #[] 0)).alloc (.cells #[.int .i64 2,.int .i64 1,.int .i64 0,.int .i64 (made:Int),.map (some w.heap.size),zAj,.map (some (w.heap.size+1+1))] 110)).alloc (.map #[] 0)) zAV zAS 9 (w.heap.size+1+1) []:=by simpa using fC
   exact fA
 · simp [zBw]
 · have e:=Aj e;simp [zBw,←e]
 · have e:=Aj e
   simp [zBw,←e]
   omega
end
theorem zIX {w3 w4:World} {z mb:Nat} {o:Option Nat} {n:PN} (h:PnAt w3 ⟨z+1,some z,zAj,o⟩ n) (ho:∀ x,o=some x→x=z+1+1) (hc:Chg (fun b=>b=mb) w3 w4) (hm:mb<z):PnAt w4 ⟨z+1,some z,zAj,o⟩ n :=
 h.chg hc (fun e=>by simp only at e;omega) (fun b e h=>by have e:=Aj e;omega) (fun b e h=>by cases e) (fun b e h=>by have e:=ho b e;omega)
theorem zHs (own:Nat→Option Role) (lay:Nat→NA) (p mb:Nat) (T:PT) (B:Nat) (A:Option Addr) (c:Nat) (l:List ByteArray) (dir:Bool) (made:Nat) (w:World) (h:PlainAt w own lay p mb T) (hT:T.Wf) (hB:B≤w.heap.size)
 (hs:Sees w B 1 A l.length (strs l)) (hl:l.length≤1000000) (hc:l.length≤c) (hx:∀ x∈l,x.size≤40) (hm:made≤1099511627776) :
 Calls Aa 67 #[.pointer (some ⟨p,0,none⟩),.slice A l.length c,.int .i64 (zCR dir made).kind,.int .i64 (made:Int)] w fun e w'=>e=.returned (ansV (T.make l dir made).2)∧zAv own p mb (T.make l dir made).1 w w':=by
 have big:∀ x∈l,x.size≤1000000:=fun x kG=>by have:=hx x kG;omega
 have jH:Below w.heap.size w (w.alloc (.cells zAk.toArray 67)):=br.alloc nr _;have jJ:=h.fresh jH;have gZ:=Blk.new w 67 zAk;have jX:own w.heap.size=none:=h.free nr;have kN:=@run_makeMap Aa;have fC:=zC6 own lay p mb T B A c l _ jJ hT (hs.below (jH.mono hB)) hl hc big;have fX:=zBu hT l;have jK:=zEO hT l;have jY:=zB0 big;have jA:=zEh hx;have hu:=PT.make.eq_1 T l dir made;have jB:=zG3 (T:=T);generalize T.last l=r1 at *;obtain⟨d,e1⟩:=r1;generalize zAM l=nm at *;simp only at fC fX jK hu;have gV:=hid hT;have fT:=hid hT.ok;have kO:=hT.ok.ino;clear h hT hs hx big;generalize l.length=len at *;unfold zAS at fC;go_enter Tryz.func67,Tryz.ntmps67;go_upto_region 1 with (fail)
 replace gZ:Blk (w.alloc (.cells zAk.toArray 67)) w.heap.size 67 zAk:=gZ
 generalize w.alloc (.cells zAk.toArray 67)=w0 at *;generalize hg:w.heap.size=g at *;have fS:=hid hg;have fN:=gZ.lt;have gW:=hid jH;have hH:=hid jJ;have gX:=hid gZ;have fI:=hid jX;clear hg jJ jH gZ jX;by_cases jL:e1=0
 · subst jL;rw [if_neg (by simp)] at hu;obtain⟨n,hn,jZ⟩:=fX rfl;have fF:=hid hn;have gD:=hid jZ;rw [zAn hn] at hu;clear fX hn jZ
   cases hg:zAe nm n.names with
   | some j =>
    rw [hg,if_pos (show (some j).isSome=true from rfl)] at hu;have fK:=hid hu;have fO:=hid hg;clear hu hg jB
    go_wp2_with (first
     | (go_at_call 95;refine fC.mono ?_;rintro e w1 ⟨rfl,fG⟩;have fB:=hH.o.fresh fG;have fL:=gX.o.fresh fG;have x2:=fB.c2;have fY:=fB.lookI fF.o (by omega);have k6:=(fB.get fF.o).c6;have fM:=(fB.get fF.o).lookN nm (by omega);rw [fO.o] at fM;simp only [orV,Ah,zAS] at fM;clear fB)
     | (refine AH rfl 67 (.tmp 8) (.tmp 43) rfl g (zAq 111 st0 zAj zAj).toArray rfl (by rfl) 67 _ fL rfl rfl (zE6 _ _) ?_))
    have fH:=AI w1 g _ (zAq 111 st0 zAj zAj).toArray _ _ fL;refine AJ (AK rfl _ _ g 67 (zAq 111 st0 zAj zAj).toArray (0,0) _ rfl fH Ab rfl rfl) rfl ⟨by rw [fK.o];rfl,?_⟩;rw [fK.o];exact (zAv.same hH.o fG).after (by rw [fS.o];exact gW.o) (by rw [fS.o];exact An _) fN fI.o ((Am (fun b=>b=g) w1).setRow (fun _=>rfl) _)
   | none =>
    rw [hg,if_neg (by simp)] at hu;have fO:=hid hg;clear hg;generalize kA:T.free=i at *;have fZ:=hid kA;clear kA;by_cases h0:i=0
    · rw [if_pos h0] at hu;have fK:=hid hu
      have kI:((i:Int)==0)=true:=by simp;omega
      clear hu jB h0
      go_wp2_with (first
       | (go_at_call 95;refine fC.mono ?_;rintro e w1 ⟨rfl,fG⟩;have fB:=hH.o.fresh fG;have fL:=gX.o.fresh fG;have x2:=fB.c2;have fY:=fB.lookI fF.o (by omega);have k6:=(fB.get fF.o).c6;have fM:=(fB.get fF.o).lookN nm (by omega);rw [fO.o] at fM;simp only [orV,Ag] at fM;have fA:=zDM own lay p mb T w1 fB gV.o;unfold zAS at fA;have fP:=hid fB;clear fB)
       | (go_at_call 96;rw [fZ.o] at fA;refine fA.mono ?_;rintro e w' ⟨rfl,rfl⟩)
       | (refine AH rfl 67 (.tmp 8) (.tmp 48) rfl g (zAq 81 st0 zAj zAj).toArray rfl (by rfl) 67 _ fL rfl rfl (zE6 _ _) ?_))
      have fH:=AI w1 g _ (zAq 81 st0 zAj zAj).toArray _ _ fL;refine AJ (AK rfl _ _ g 67 (zAq 81 st0 zAj zAj).toArray (0,0) _ rfl fH Ab rfl rfl) rfl ⟨by rw [fK.o];rfl,?_⟩;rw [fK.o];exact (zAv.same hH.o fG).after (by rw [fS.o];exact gW.o) (by rw [fS.o];exact An _) fN fI.o ((Am (fun b=>b=g) w1).setRow (fun _=>rfl) _)
    · rw [if_neg h0] at hu;obtain⟨kP,kJ,kC⟩:=jB h0;have jM:=hid kC
      have kI:((i:Int)==0)=false:=by simp;omega
      clear jB h0 kC;have jI:=zBs (T:=T) (n:=n) (nm:=nm) (fT.o.get fF.o).1;have fJ:=fun W hP=>zB1 own lay p mb d T n W hP gV.o fF.o;generalize T.place n=r3 at *;obtain⟨k,e3⟩:=r3;simp only at jI hu fJ;unfold zAS at fJ;have gE:=hid fJ;clear fJ;by_cases jN:e3=0
      · subst jN;rw [if_neg (by simp)] at hu
        have hiD:i≠d:=fun e=>by have h1:=jM.o;rw [e,fF.o] at h1;cases h1
        rw [zCl ((zAl _ (Ak hiD)).trans fF.o)] at hu;have fK:=hid hu;have fQ:=hid hiD;have gF:=hid (jI rfl);have kD:=gF.o.le;have kE:=gF.o.lt (fT.o.get fF.o).1;have jO:=hid (fT.o.upd (i:=i) (zIi dir hm) ⟨by omega,kJ⟩);have jP:=hid (zCs gV.o fF.o gD.o (j:=i) gF.o jA (by omega));have kF:=hid (jO.o.upd jP.o (fT.o.get fF.o).2)
        have kK:(List.map (fun x=>(x.1,(lay x.1).nb)) T.nodes).length≤1000:=by rw [Au];have:=fT.o.len;omega
        clear hu jI hiD
        cases dir with
        | false =>
         have jC:(zCR false made).kind=1:=rfl;rw [jC];clear jC;have gG:∃ s:St,(((T.upd i (zCR false made)).upd d (n.set k nm i)).stat i)=s:=⟨_,rfl⟩;obtain⟨s,jD⟩:=gG;have fU:=hid jD;clear jD
         go_wp2_with (first
          | (go_at_call 95;refine fC.mono ?_;rintro e w1 ⟨rfl,fG⟩;have fB:=hH.o.fresh fG;have fL:=gX.o.fresh fG;have x2:=fB.c2;have fY:=fB.lookI fF.o (by omega);have k6:=(fB.get fF.o).c6;have fM:=(fB.get fF.o).lookN nm (by omega);rw [fO.o] at fM;simp only [orV,Ag] at fM;have fA:=zDM own lay p mb T w1 fB gV.o;unfold zAS at fA;have fP:=hid fB;clear fB)
          | (go_at_call 96;rw [fZ.o] at fA;refine fA.mono ?_;rintro e w' ⟨rfl,rfl⟩)
          | (go_at_call 97;refine (gE.o w1 fP.o).mono ?_;rintro e w2 ⟨rfl,gC⟩;have fD:=fG.trans (gC.mono fG.size);have gY:=fL.fresh gC;have fR:=hH.o.fresh fD;have gH:=fR.nodes.lt;have y2:=fR.c2;have jQ:=hid fR;have gI:=new_file (own:=own) (i:=i) w2 made fR.lt;have gJ:Below w2.heap.size w2 ((w2.alloc (.map #[] 0)).alloc (.cells #[.int .i64 1,.int .i64 1,.int .i64 0,.int .i64 (made:Int),.map (some w2.heap.size),zAj,.map none] 110)):=gI.2.2.2.2.2;have gA:=fR.fresh gJ;have y3:=gA.c2;have gK:=gA.nodes;have fV:=hid gA;have fE:=hid gI;clear fR gA gI)
          | (at_mapUpdate;refine zAZ _ rfl _ _ _ 96 (.inl rfl) zD3 Ac gK (by unfold maxLen;omega) rfl i rfl (zHW i (by omega)) (w2.heap.size+1) rfl ?_;intro w4 jR jS;have fW:=zAP jS;have gB:=fV.o.add jM.o fW (fun b _ e=>e) jR (zIX fE.o.1 (fun x e=>by cases e) fW gH) fE.o.2.1 (fun b r e=>Ao (fE.o.2.2.1 b r e) fW.size) fE.o.2.2.2.1;have z2:=gB.c2;have jT:=gB.lookI ((zAl _ (Ak fQ.o)).trans fF.o) (by omega);have gL:=hid gB;have jU:=(gY.fresh gJ).chg fW (fun e=>by have h1:=fI.o;have h2:=fV.o.ownm;rw [←e,h1] at h2;cases h2);clear gB)
          | (go_at_call 98;refine (zBC gL.o jO.o ((zAl _ (Ak fQ.o)).trans fF.o) gD.o kD kE jY).mono ?_;rintro e w5 ⟨rfl,own5,lay5,gM,jE,jF⟩;have gN:=hid gM;have gO:=hid jE;have gP:=hid (fE.o.2.2.2.2.1 g (by have:=fD.size;omega) fI.o);have jV:=jU.chg jF (fun h=>h gP.o);have gQ:=zDx own5 lay5 p mb i _ _ w5 gM kF.o ((zAl _ fQ.o).trans (zA6 _ _));rw [fU.o] at gQ;unfold stV stC at gQ;clear gM jE)
          | (go_at_call 99;refine gQ.mono ?_;rintro e w6 ⟨rfl,gR⟩;have jG:=jV.fresh gR)
          | (refine AH rfl 67 (.tmp 8) (.tmp 94) rfl g (zAq 0 s zAj zAj).toArray rfl (by rfl) 67 _ jG rfl rfl (zE6 _ _) ?_))
         have fH:=AI w6 g _ (zAq 0 s zAj zAj).toArray _ _ jG;refine AJ (AK rfl _ _ g 67 (zAq 0 s zAj zAj).toArray (0,0) _ rfl fH Ab rfl rfl) rfl ⟨by rw [fK.o,fU.o];rfl,?_⟩;rw [fK.o]
         have gS:zAv own p mb ((T.upd i (zCR false made)).upd d (n.set k nm i)) w0 w6:=by
          have gT:=fD.trans (gJ.mono fD.size);have jW:=(fE.o.2.1.back (w:=w0) (fD.size));have gU:=(Al (S:=fun b=>own b≠none) gT).trans fW (fun _ _ h=>h) (fun b _ e=>by rw [e,hH.o.ownm];simp);exact zAv.fst jW gU (.of (gN.o.fresh gR) gO.o (jF.trans (Al gR) (fun _ _ h=>h) (fun _ _ h=>h)))
         exact gS.after (by rw [fS.o];exact gW.o) (by rw [fS.o];exact An _) fN fI.o ((Am (fun b=>b=g) w6).setRow (fun _=>rfl) _)
        | true =>
         have jC:(zCR true made).kind=2:=rfl;rw [jC];clear jC;have gG:∃ s:St,(((T.upd i (zCR true made)).upd d (n.set k nm i)).stat i)=s:=⟨_,rfl⟩;obtain⟨s,jD⟩:=gG;have fU:=hid jD;clear jD
         go_wp2_with (first
          | (go_at_call 95;refine fC.mono ?_;rintro e w1 ⟨rfl,fG⟩;have fB:=hH.o.fresh fG;have fL:=gX.o.fresh fG;have x2:=fB.c2;have fY:=fB.lookI fF.o (by omega);have k6:=(fB.get fF.o).c6;have fM:=(fB.get fF.o).lookN nm (by omega);rw [fO.o] at fM;simp only [orV,Ag] at fM;have fA:=zDM own lay p mb T w1 fB gV.o;unfold zAS at fA;have fP:=hid fB;clear fB)
          | (go_at_call 96;rw [fZ.o] at fA;refine fA.mono ?_;rintro e w' ⟨rfl,rfl⟩)
          | (go_at_call 97;refine (gE.o w1 fP.o).mono ?_;rintro e w2 ⟨rfl,gC⟩;have fD:=fG.trans (gC.mono fG.size);have gY:=fL.fresh gC;have fR:=hH.o.fresh fD;have gH:=fR.nodes.lt;have y2:=fR.c2;have jQ:=hid fR;have gI:=new_dir (own:=own) (i:=i) w2 made fR.lt;have gJ:Below w2.heap.size w2 (((w2.alloc (.map #[] 0)).alloc (.cells #[.int .i64 2,.int .i64 1,.int .i64 0,.int .i64 (made:Int),.map (some w2.heap.size),zAj,.map (some (w2.heap.size+1+1))] 110)).alloc (.map #[] 0)):=gI.2.2.2.2.2;have gA:=fR.fresh gJ;have y3:=gA.c2;have gK:=gA.nodes;have fV:=hid gA;have fE:=hid gI;clear fR gA gI)
          | (at_mapUpdate;refine zAZ _ rfl _ _ _ 96 (.inl rfl) zD3 Ac gK (by unfold maxLen;omega) rfl i rfl (zHW i (by omega)) (w2.heap.size+1) rfl ?_;intro w4 jR jS;have fW:=zAP jS;have gB:=fV.o.add jM.o fW (fun b _ e=>e) jR (zIX fE.o.1 (fun x e=>(Aj e).symm) fW gH) fE.o.2.1 (fun b r e=>Ao (fE.o.2.2.1 b r e) fW.size) fE.o.2.2.2.1;have z2:=gB.c2;have jT:=gB.lookI ((zAl _ (Ak fQ.o)).trans fF.o) (by omega);have gL:=hid gB;have jU:=(gY.fresh gJ).chg fW (fun e=>by have h1:=fI.o;have h2:=fV.o.ownm;rw [←e,h1] at h2;cases h2);clear gB)
          | (go_at_call 98;refine (zBC gL.o jO.o ((zAl _ (Ak fQ.o)).trans fF.o) gD.o kD kE jY).mono ?_;rintro e w5 ⟨rfl,own5,lay5,gM,jE,jF⟩;have gN:=hid gM;have gO:=hid jE;have gP:=hid (fE.o.2.2.2.2.1 g (by have:=fD.size;omega) fI.o);have jV:=jU.chg jF (fun h=>h gP.o);have gQ:=zDx own5 lay5 p mb i _ _ w5 gM kF.o ((zAl _ fQ.o).trans (zA6 _ _));rw [fU.o] at gQ;unfold stV stC at gQ;clear gM jE)
          | (go_at_call 99;refine gQ.mono ?_;rintro e w6 ⟨rfl,gR⟩;have jG:=jV.fresh gR)
          | (refine AH rfl 67 (.tmp 8) (.tmp 94) rfl g (zAq 0 s zAj zAj).toArray rfl (by rfl) 67 _ jG rfl rfl (zE6 _ _) ?_))
         have fH:=AI w6 g _ (zAq 0 s zAj zAj).toArray _ _ jG;refine AJ (AK rfl _ _ g 67 (zAq 0 s zAj zAj).toArray (0,0) _ rfl fH Ab rfl rfl) rfl ⟨by rw [fK.o,fU.o];rfl,?_⟩;rw [fK.o]
         have gS:zAv own p mb ((T.upd i (zCR true made)).upd d (n.set k nm i)) w0 w6:=by
          have gT:=fD.trans (gJ.mono fD.size);have jW:=(fE.o.2.1.back (w:=w0) (fD.size));have gU:=(Al (S:=fun b=>own b≠none) gT).trans fW (fun _ _ h=>h) (fun b _ e=>by rw [e,hH.o.ownm];simp);exact zAv.fst jW gU (.of (gN.o.fresh gR) gO.o (jF.trans (Al gR) (fun _ _ h=>h) (fun _ _ h=>h)))
         exact gS.after (by rw [fS.o];exact gW.o) (by rw [fS.o];exact An _) fN fI.o ((Am (fun b=>b=g) w6).setRow (fun _=>rfl) _)
      · rw [if_pos jN] at hu;have fK:=hid hu
        have kL:((e3:Int) != 0)=true:=by simp;omega
        clear hu jI jN
        go_wp2_with (first
         | (go_at_call 95;refine fC.mono ?_;rintro e w1 ⟨rfl,fG⟩;have fB:=hH.o.fresh fG;have fL:=gX.o.fresh fG;have x2:=fB.c2;have fY:=fB.lookI fF.o (by omega);have k6:=(fB.get fF.o).c6;have fM:=(fB.get fF.o).lookN nm (by omega);rw [fO.o] at fM;simp only [orV,Ag] at fM;have fA:=zDM own lay p mb T w1 fB gV.o;unfold zAS at fA;have fP:=hid fB;clear fB)
         | (go_at_call 96;rw [fZ.o] at fA;refine fA.mono ?_;rintro e w' ⟨rfl,rfl⟩)
         | (go_at_call 97;refine (gE.o w1 fP.o).mono ?_;rintro e w2 ⟨rfl,gC⟩;have fD:=fG.trans (gC.mono fG.size);have gY:=fL.fresh gC;skip)
         | (refine AH rfl 67 (.tmp 8) (.tmp 63) rfl g (zAq e3 st0 zAj zAj).toArray rfl (by rfl) 67 _ gY rfl rfl (zE6 _ _) ?_))
        have fH:=AI w2 g _ (zAq e3 st0 zAj zAj).toArray _ _ gY;refine AJ (AK rfl _ _ g 67 (zAq e3 st0 zAj zAj).toArray (0,0) _ rfl fH Ab rfl rfl) rfl ⟨by rw [fK.o];rfl,?_⟩;rw [fK.o];exact (zAv.same hH.o fD).after (by rw [fS.o];exact gW.o) (by rw [fS.o];exact An _) fN fI.o ((Am (fun b=>b=g) w2).setRow (fun _=>rfl) _)
 · rw [if_pos jL] at hu;have fK:=hid hu
   have kM:((e1:Int) != 0)=true:=by simp;omega
   clear hu fX jL jB
   go_wp2_with (first
    | (go_at_call 95;refine fC.mono ?_;rintro e w1 ⟨rfl,fG⟩;have fB:=hH.o.fresh fG;have fL:=gX.o.fresh fG;have x2:=fB.c2;clear fB)
    | (refine AH rfl 67 (.tmp 8) (.tmp 27) rfl g (zAq e1 st0 zAj zAj).toArray rfl (by rfl) 67 _ fL rfl rfl (zE6 _ _) ?_))
   have fH:=AI w1 g _ (zAq e1 st0 zAj zAj).toArray _ _ fL;refine AJ (AK rfl _ _ g 67 (zAq e1 st0 zAj zAj).toArray (0,0) _ rfl fH Ab rfl rfl) rfl ⟨by rw [fK.o];rfl,?_⟩;rw [fK.o];exact (zAv.same hH.o fG).after (by rw [fS.o];exact gW.o) (by rw [fS.o];exact An _) fN fI.o ((Am (fun b=>b=g) w1).setRow (fun _=>rfl) _)
open Go.Proofs
abbrev Ent:=ByteArray×Nat×Int
instance:Inhabited ByteArray:=⟨⟨#[]⟩⟩
def zBn (x:Ent):List Value:=[.string x.1,.int .i64 (x.2.1:Int),.int .i64 x.2.2]
theorem zCK (x:Ent):∀ v∈zBn x,v.oneCell'=true:=by
 intro v hv;simp only [zBn,As,At,or_false] at hv;rcases hv with rfl | rfl | rfl<;>rfl
def entCf (x y:Ent):Int:=AL x.1.data.toList y.1.data.toList
theorem zFG:∀ a b:List UInt8,decide (AL a b<0)=bytesBefore a b
 | [],[]=>rfl
 | [],_::_=>rfl
 | _::_,[]=>rfl
 | a::r,b::s=>by
  by_cases h1:a<b
  · simp [AL,bytesBefore,h1]
  · by_cases h2:b<a
    · have fA:¬a=b:=fun e=>by subst e;exact h1 h2
      simp [AL,bytesBefore,h1,h2,fA]
    · have he:a=b:=by
       have fB:¬a.toNat<b.toNat:=fun h=>h1 (UInt8.lt_iff_toNat_lt.2 h);have fC:¬b.toNat<a.toNat:=fun h=>h2 (UInt8.lt_iff_toNat_lt.2 h);exact UInt8.toNat_inj.1 (by omega)
      have ih:=zFG r s;subst he;simpa [AL,bytesBefore,h1] using ih
theorem entLt (x y:Ent):ltOf entCf x y=zAV.lt x.1 y.1:=zFG _ _
theorem zIl {a b c:ByteArray} (h1:zAV.lt a b=false) (h2:zAV.lt b c=false):zAV.lt a c=false:=by
 cases h:zAV.lt a c with
 | false=>rfl
 | true =>
  exfalso
  by_cases e:a=b
  · subst e;rw [h] at h2;cases h2
  · rcases zEC a b e with h' | h'
    · rw [h'] at h1;cases h1
    · rw [zDI zAV h' h] at h2;cases h2
theorem entSwo:Go.Sort.SWO (ltOf entCf) where
 irrefl x:=by rw [entLt];exact zBL zAV _
 trans x y z h1 h2:=by rw [entLt] at *;exact zDI zAV h1 h2
 ntrans x y z h1 h2:=by rw [entLt] at *;exact zIl h1 h2
theorem entCmp (x y:Ent) (w:World):Calls Aa 131 #[.agg (zBn x).toArray,.agg (zBn y).toArray] w fun e w'=>e=.returned (.int .i64 (entCf x y))∧∃ q os',w'=Go.Sort.grow (w.drewN q) os':=by
 have fA:=fun W=>Go.Proofs.Tryz.strings_Compare x.1 y.1 W;have hr:∃ r,AL x.1.data.toList y.1.data.toList=r:=⟨_,rfl⟩;obtain⟨r,hr⟩:=hr;have fB:=hid hr;rw [hr] at fA;clear hr;unfold zBn;go_enter Tryz.func131,Tryz.ntmps131;go_wp2_with (go_at_call 132;refine (fA _).mono ?_;rintro e w' ⟨rfl,rfl⟩);go_ret;exact⟨by unfold entCf;rw [fB.o];rfl,0,_,by rw [Go.Sort.alloc_eq_grow,Go.Sort.alloc_eq_grow,Go.Sort.grow_grow];rfl⟩
theorem isAggE:∀ w,(isAgg 130).run Aa w=.ok true w:=fun _=>by kernel_rfl
theorem sizeOfE:∀ w,(Go.sizeOf 130).run Aa w=.ok 3 w:=fun _=>by kernel_rfl
theorem zIF (w:World) (g n:Nat) (d:Array Ent) (os:Array Obj):Chg (fun b=>b=g) w (sortWorldK zBn 3 w g 0 n d os):=by
 refine⟨rfl,rfl,rfl,?_,fun k hk hn=>?_⟩
 · simp [sortWorldK,Go.Sort.grow,Go.Sort.putRowK]
 · unfold sortWorldK Go.Sort.putRowK;have h1:(Go.Sort.putRow id (Go.Sort.ahead w n) g 0 (Go.Sort.flatK zBn 3 d)).heap.size=w.heap.size:=Go.Sort.size_putRow _ _ _ _ _;rw [Go.Sort.heap_grow_old _ _ (by rw [h1];exact hk)];unfold Go.Sort.putRow Go.Sort.mapBlock;simp only [Array.getElem?_modify];rw [if_neg (fun e=>hn e.symm)];rfl
theorem zHg (l:List Ent) (t:Nat) (h:t<l.length * 3):(Go.Sort.flatK zBn 3 l.toArray)[t]! = (l.flatMap zBn)[t]!:=by
 have hq:t / 3<l.length:=by omega
 have hr:t % 3<3:=Nat.mod_lt _ (by omega);rw [Go.Sort.get_flatK _ _ _ _ (by simpa using h)]
 have e:t / 3 * 3+t % 3=t:=by omega
 have h2:=zDb zBn 3 l (fun _ _=>rfl) (t / 3) hq (t % 3) hr;rw [e] at h2;rw [Av (l:=l.flatMap zBn),h2,Av];simp [hq]
def Sorted3 (g n:Nat) (l:List Ent) (w w':World):Prop :=
 ∃ l':List Ent,l'.Perm l∧l'.Pairwise (fun x y=>zAV.lt y.1 x.1=false)∧Sees w' w'.heap.size 3 (some ⟨g,0,none⟩) n (l'.flatMap zBn)∧Chg (fun b=>b=g) w w'
theorem sort_any (base g c:Nat) (l:List Ent) (w:World) (h:w.ownsRow base 130 3 (.slice (some ⟨g,0,none⟩) l.length c) l.length (l.flatMap zBn)) (hl:l.length≤1000000) :
 Calls Aa 130 #[.slice (some ⟨g,0,none⟩) l.length c,.func (.func 131) #[] #[]] w fun e w'=>e=.returned (.tuple #[])∧Sorted3 g l.length l w w':=by
 have eg:∀ args w,(callFunc 131 args).run Aa w=.ok (.enter 131 args) w:=enters_of Tryz.func131 (by kernel_rfl) rfl;have hg:g<w.heap.size:=(AM h g rfl).2
 have hH:Go.Sort.HoldsK zBn 3 w g 0 l.toArray:=by
  intro j hj;rw [Go.Sort.size_flatK] at hj
  have fD:j<l.length * 3:=by simpa using hj
  have hc:=h.cellAt j (by simpa using fD);refine⟨?_,by rw [Ap];exact h.frozenAt j⟩;rw [Ap,hc,zHg l j fD];have fE:=zEv zBn 3 l (fun _ _=>rfl);rw [Av,List.getElem?_eq_getElem (by omega)];rfl
 have fB:=AnyQ.slices_SortFunc Go.Proofs.Tryz.sortE 3 isAggE sizeOfE zBn (fun _=>rfl) zCK entCf entSwo 131 #[] g 0 c l.toArray w eg (fun _ _ _ _ x y=>entCmp x y _) hH hg (by simp;omega)
 have fC:l.toArray.size=l.length:=by simp
 rw [fC] at fB;refine fB.mono ?_;rintro e w' ⟨he,d',n,os,hp,hs,rfl⟩;refine⟨he,d'.toList,?_,?_,?_,zIF w g n d' os⟩
 · have:=hp.2.2
   have fA:d'.toList.length=l.length:=by have:=hp.1;simpa using this
   have e:(d'.extract 0 l.length).toList=d'.toList:=by simp [←fA]
   have e2:(l.toArray.extract 0 l.length).toList=l:=by simp
   rw [e,e2] at this;exact this
 · rw [List.pairwise_iff_getElem];intro i j hi hj fF
   have fA:d'.size=l.length:=by rw [hp.1,fC]
   have:=hs i j (Nat.zero_le _) fF (by rw [←fA];simpa using hj);rw [entLt] at this;rw [getElem!_pos d' j (by simpa using hj),getElem!_pos d' i (by simpa using hi)] at this;simpa using this
 · have fA:d'.size=l.length:=by rw [hp.1,fC]
   have fG:d'.toList.length=l.length:=by simpa using fA
   refine⟨by rw [zEv zBn 3 _ (fun _ _=>rfl),fG],fun hn=>⟨g,0,rfl,?_,fun j u hu=>?_⟩⟩
   · exact Ao hg (zIF w g n d' os).size
   · have hj:j<d'.toList.length * 3:=by
      have:=(List.getElem?_eq_some_iff.1 hu).1
      rwa [zEv zBn 3 _ (fun _ _=>rfl)] at this
     unfold sortWorldK Go.Sort.putRowK;rw [Go.Sort.cell?_grow _ _ _ (by rw [Go.Sort.size_putRow];exact hg)];rw [Go.Sort.cell?_putRow id (Go.Sort.ahead w n) g 0 (Go.Sort.flatK zBn 3 l.toArray) (Go.Sort.flatK zBn 3 d') hH (by simp [fA]) j (by simpa using hj)];have e:=zHg d'.toList j hj
     have e2:d'.toList.toArray=d':=by simp
     rw [e2] at e
     show some ((Go.Sort.flatK zBn 3 d')[j]!)=some u
     rw [e,Av,hu];rfl
theorem sort_none (c:Nat) (w:World):Calls Aa 130 #[.slice none 0 c,.func (.func 131) #[] #[]] w fun e w'=>e=.returned (.tuple #[])∧w'=w :=
 AnyF.slices_SortFunc_none Go.Proofs.Tryz.sortE none c _ w
def PT.list (T:PT) (i:Nat):Ans:=if T.isDir i=true then ⟨0,st0,[],(T.node i).names.map fun p=>(p.1,p.2,(T.node p.2).kind)⟩ else .err 113
def zBJ (w:World) (v:Value) (a:Ans):Prop:=∃ dA dc eA ec,v=.agg (zAq a.code a.stat (.slice dA a.data.length dc) (.slice eA a.ents.length ec)).toArray∧Sees w w.heap.size 1 dA a.data.length (bvs a.data)∧Sees w w.heap.size 3 eA a.ents.length (a.ents.flatMap zBn)
def EntF (B0:Nat) (v:Value):Prop:=∀ c s A1 n1 c1 b off n2 c2,v=.agg (zAq c s (.slice A1 n1 c1) (.slice (some ⟨b,off,none⟩) n2 c2)).toArray→0<n2→B0≤b
theorem EntF.mono {B0 B1:Nat} {v:Value} (h:EntF B0 v) (hb:B1≤B0):EntF B1 v:=fun c s A1 n1 c1 b off n2 c2 e hn=>Aq hb (h c s A1 n1 c1 b off n2 c2 e hn)
theorem zGe {B0:Nat} {c:Nat} {s:St} {A1:Option Addr} {n1 c1:Nat} {eA:Option Addr} {n2 c2:Nat} (h:∀ b off,eA=some ⟨b,off,none⟩→0<n2→B0≤b):EntF B0 (.agg (zAq c s (.slice A1 n1 c1) (.slice eA n2 c2)).toArray):=fun c' s' A1' n1' c1' b off n2' c2' e hn=>by
 simp only [zAq,Value.agg.injEq,Array.mk.injEq,List.cons.injEq,Value.slice.injEq] at e;obtain⟨-,-,-,-,-,-,-,-,⟨h1,h2,h3⟩,-⟩:=e;subst h2;exact h b off h1 hn
theorem zFJ {B0:Nat} {w:World} {v:Value} {a:Ans} (h:zBJ w v a) (h0:a.ents=[]):EntF B0 v:=by
 obtain⟨dA,dc,eA,ec,rfl,_,_⟩:=h;exact zGe fun b off _ hn=>by rw [h0] at hn;exact absurd hn (by simp)
theorem zBv (w:World) (a:Ans) (h1:a.data=[]) (h2:a.ents=[]):zBJ w (ansV a) a:=by
 refine⟨none,0,none,0,?_,?_,?_⟩
 · unfold ansV;rw [h1,h2];rfl
 · rw [h1];exact Sees.nil
 · rw [h2];exact Sees.nil
theorem zEf (c:Nat) (s:St) (A1:Option Addr) (n1 c1:Nat) (A2:Option Addr) (n2 c2:Nat):(zAq c s (.slice A1 n1 c1) (.slice A2 n2 c2)).toArray.all (·.oneCell')=true:=by
 rw [Ar];intro v hv
 have hv:v∈zAq c s (.slice A1 n1 c1) (.slice A2 n2 c2):=by simpa using hv
 simp only [zAq,As,At,or_false] at hv;rcases hv with rfl | rfl | rfl | rfl | rfl | rfl | rfl | rfl | rfl | rfl<;>rfl
theorem zD7:(Tryz.prog.info? 130).map (·.size)=some 3:=by kernel_rfl
theorem zEnt:((Tryz.prog.info? 130).bind (·.zero)).map (·.cells.size)=some 3:=by kernel_rfl
theorem zIT:(Tryz.prog.info? 130).map (fun i=>(i.zero,i.size,i.bytes))=some (some (.agg #[.string ⟨#[]⟩,.int .i64 0,.int .i64 0]),3,32):=by kernel_rfl
structure Coll (T:PT) (n:PN) (l:List Ent) (todo:ByteArray→Bool):Prop where
 mem:∀ x,x∈l.map (·.1)↔(zAe x n.names).isSome=true∧todo x=false
 nd:(l.map (·.1)).Nodup
 ent:∀ e∈l,zAe e.1 n.names=some e.2.1∧e.2.2=(T.node e.2.1).kind
theorem Coll.len {T:PT} {n:PN} {l:List Ent} {todo:ByteArray→Bool} (h:Coll T n l todo):l.length≤n.names.length:=by
 have e1:(l.map (·.1)).length=l.length:=Au _;have e2:(n.names.map (·.1)).length=n.names.length:=Au _;rw [←e1,←e2];exact zAB h.nd fun x hx=>zD0.2 ((h.mem x).1 hx).1
theorem Coll.snoc {T:PT} {n:PN} {l:List Ent} {todo:ByteArray→Bool} (h:Coll T n l todo) {x:ByteArray} {j:Nat} (hx:todo x=true) (hj:zAe x n.names=some j) :
 Coll T n (l++[(x,j,(T.node j).kind)]) (fun y=>todo y && decide (y≠x)):=by
 refine⟨fun y=>?_,?_,fun e he=>?_⟩
 · rw [Aw,Ax,h.mem];simp only [Ay,Az,AA];by_cases e:y=x
   · subst e;rw [hj];simp
   · simp [e]
 · rw [Aw,List.nodup_append];refine⟨h.nd,by simp,fun a ha b hb=>?_⟩;simp only [Ay,Az,AA] at hb;subst hb;rintro rfl;have:=((h.mem a).1 ha).2;rw [hx] at this;cases this
 · rcases Ax.1 he with he | he
   · exact h.ent e he
   · rw [AA] at he;subst he;exact⟨hj,rfl⟩
theorem Coll.sorted {T:PT} {n:PN} (hr:zBo zAV n.names) {l l':List Ent} {todo:ByteArray→Bool} (h:Coll T n l todo) (h0:∀ x,todo x=false) (hp:l'.Perm l) (hs:l'.Pairwise fun x y=>zAV.lt y.1 x.1=false) :
 l'=n.names.map fun p=>(p.1,p.2,(T.node p.2).kind):=by
 have fC:(l'.map (·.1)).Nodup:=(hp.map (·.1)).symm.nodup h.nd
 have fA:zBo zAV l':=by
  unfold zBo;rw [List.Nodup,AB] at fC;refine (hs.and fC).imp fun {a b} fD=>?_;rcases zEC a.1 b.1 fD.2 with h' | h'
  · exact h'
  · rw [fD.1] at h';cases h'
 have fB:zBo zAV (n.names.map fun p=>(p.1,p.2,(T.node p.2).kind)):=by
  unfold zBo at hr ⊢;rw [AB];exact hr
 refine zBo.ext zAV fA fB fun x=>?_;have e2:zAe x (n.names.map fun p=>(p.1,p.2,(T.node p.2).kind))=(zAe x n.names).map fun j=>(j,(T.node j).kind):=zDy (fun _ (j:Nat)=>(j,(T.node j).kind)) x n.names;rw [e2]
 cases hg:zAe x n.names with
 | none =>
  refine zA7.2 fun p fE e=>?_;have:=(h.ent p (hp.mem_iff.1 fE)).1;rw [e,hg] at this;cases this
 | some j =>
  have hx:x∈l.map (·.1):=(h.mem x).2 ⟨by rw [hg];rfl,h0 x⟩;obtain⟨e,he,rfl⟩:=List.mem_map.1 hx;have h1:=h.ent e he;rw [hg] at h1;have h2:=zAU fA.nd (hp.mem_iff.2 he);rw [h2];have h3:=Aj h1.1;simp only [Ai];rw [h3,←h1.2]
theorem zG2 (own:Nat→Option Role) (lay:Nat→NA) (p mb i:Nat) (T:PT) (n:PN) (w:World) (h:PlainAt w own lay p mb T) (hT:T.Wf) (hg:zAe i T.nodes=some n) :
 Calls Aa 105 #[.pointer (some ⟨p,0,none⟩),.int .i64 (i:Int)] w fun e w'=>(∃ v,e=.returned v∧zBJ w' v (T.list i)∧EntF w.heap.size v)∧Below w.heap.size w w':=by
 have gA:Below w.heap.size w (w.alloc (.cells zAk.toArray 67)):=br.alloc nr _;have fC:=h.fresh gA;have fM:=Blk.new w 67 zAk;have fU:=hT.ok.get hg;have kG:=hT.ok.ino
 have hu:T.list i=if n.dir=true then ⟨0,st0,[],n.names.map fun p=>(p.1,p.2,(T.node p.2).kind)⟩ else .err 113:=by unfold PT.list;rw [zAm hg,zAn hg]
 have gY:=hid hT;have fV:=hid hg;have fN:=hid fU.1
 have gZ:i≤512:=by omega
 have kI:=Aq fU.1.nlen fU.1.slots;clear hT h fU;go_enter Tryz.func105,Tryz.ntmps105;go_upto_region 1 with (fail)
 replace fM:Blk (w.alloc (.cells zAk.toArray 67)) w.heap.size 67 zAk:=fM
 have fD:(w.alloc (.cells zAk.toArray 67)).heap.size=w.heap.size+1:=by simp
 generalize w.alloc (.cells zAk.toArray 67)=w0 at *;generalize jA:w.heap.size=g at *;have fE:=hid jA;have c2:=fC.c2;have kJ:=fC.lookI hg (by omega);have k0:=(fC.get hg).c0;have gB:=hid gA;have jN:=hid fC;clear jA hg gA
 cases hd:n.dir with
 | false =>
  rw [hd,if_neg (by simp)] at hu;rw [zAx hd] at k0;have fW:=hid hu;clear hu hd fC;go_wp2_with (first | (refine AH rfl 67 (.tmp 4) (.tmp 20) rfl g (zAq 113 st0 zAj zAj).toArray rfl (by rfl) 67 _ fM rfl rfl (zE6 _ _) ?_));have fA:=AI w0 g _ (zAq 113 st0 zAj zAj).toArray _ _ fM;refine AJ (AK rfl _ _ g 67 (zAq 113 st0 zAj zAj).toArray (0,0) _ rfl fA Ab rfl rfl) rfl ⟨⟨_,rfl,?_,zGe fun _ _ e _=>by cases e⟩,?_⟩
  · rw [fW.o];exact zBv _ (.err 113) rfl rfl
  · rw [fE.o];exact gB.o.trans (((Am (fun b=>b=g) w0).setRow (fun _=>rfl) _).below (by omega) fun b hb e=>by omega)
 | true =>
  rw [hd,if_pos rfl] at hu;rw [zAW hd] at k0;obtain⟨nb,jB⟩:=(fC.get fV.o).dirs hd;have k6:=(fC.get fV.o).c6;have hm:=(fC.get fV.o).names;rw [jB] at k6 hm;have fI:zAt w0 zAV zAS 9 nb n.names:=hm;have fW:=hid hu;obtain⟨iE,jO,gC,gD,gE⟩:=info_parts zIT;clear hu hd fC hm jB
  go_wp2_with (first
   | (at_range;refine zBE _ rfl _ 101 rfl kStr Tryz.underlying101 fI rfl ?_;intro w1 gF gG jC))
  go_frame
  rw [fD] at gG gF jC;simp only [fD];have gH:=fI.lt;rw [fD] at gH;clear fI
  go_loopw [6,7,8] (fun v _ _ wr=>∃ (l:List Ent) (todo:ByteArray→Bool),zAO wr zAV zAS 9 nb (g+1) n.names.length n.names todo∧Below (g+1) w0 wr∧wr.ownsRow (g+2) 130 3 v l.length (l.flatMap zBn)∧Hid (Coll T n l todo)∧Hid (l=[]→v=zAj)) (fun _ _ _ wr=>wr.rangeLeft nb (g+1))
  case atStart=>exact⟨[],_,gF,gG,AG _ _ _ _,⟨fun x=>by cases zAe x n.names<;>simp,List.nodup_nil,fun e he=>by cases he⟩,fun _=>rfl⟩
  case round =>
   obtain⟨l,todo,hr,hb,ho,hc,fJ⟩:=hrel;clear gF gG jC
   go_wp2_with (first
    | (at_next;refine zBS _ rfl _ rfl kStr invS rfl hr ?_ ?_))
   · intro h0;have jD:=hid h0;have fB:=hid hb;have fX:=hid ho;have gI:=fM.chg (Chg.of_below hb) (by omega);have gJ:=hc.o.len;clear h0 hb hr ho
     cases l with
     | nil =>
      have hv:=fJ.o rfl;subst hv;have fO:n.names.map (fun p=>(p.1,p.2,(T.node p.2).kind))=[]:=(hc.o.sorted (l':=[]) fN.o.nris jD.o (List.Perm.refl _) AF).symm;have fY:=sort_none 0 wr;have jP:=hid fO;clear fO gJ
      go_wp2_with (first
       | (go_at_call 130;refine fY.mono ?_;rintro e w' ⟨rfl,hw⟩;subst hw)
       | (refine AH rfl 67 (.tmp 4) (.tmp 49) rfl g (zAq 0 st0 zAj zAj).toArray rfl (by rfl) 67 _ gI rfl rfl (zE6 _ _) ?_))
      have fA:=AI w' g _ (zAq 0 st0 zAj zAj).toArray _ _ gI;refine AJ (AK rfl _ _ g 67 (zAq 0 st0 zAj zAj).toArray (0,0) _ rfl fA Ab rfl rfl) rfl ⟨⟨_,rfl,?_,zGe fun _ _ e _=>by cases e⟩,?_⟩
      · rw [fW.o,jP.o];exact zBv _ ⟨0,st0,[],[]⟩ rfl rfl
      · rw [fE.o];exact (gB.o.trans (fB.o.mono (by omega))).trans (((Am (fun b=>b=g) w').setRow (fun _=>rfl) _).below (by have:=fB.o.size;omega) fun b hb e=>by omega)
     | cons e0 l0 =>
      obtain⟨g1,c1,rfl,gK,jQ⟩:=zC8 fX.o (by simp);have jR:=(AM fX.o g1 rfl).1;have fY:=sort_any (g+2) g1 c1 (e0::l0) wr fX.o (by omega)
      have gL:(e0::l0).length≤1068:=by omega
      have jS:=hid hc.o;clear hc fJ fX gJ;generalize jT:e0::l0=l at *;clear jT;obtain⟨nl,fK⟩:=nM (l.length);have jU:=hid fK;rw [fK] at fY gL gK ⊢;clear fK
      go_wp2_with (first
       | (go_at_call 130;refine fY.mono ?_;rintro e w3 ⟨rfl,gM⟩;obtain⟨l',hp,hs,fP,fL⟩:=gM;have jE:=gI.chg fL (by omega);have fQ:=hid (jS.o.sorted fN.o.nris jD.o hp hs);have fR:=hid fL;have fG:=hid fP;clear hp hs fP fL)
       | (refine AH rfl 67 (.tmp 4) (.tmp 49) rfl g (zAq 0 st0 zAj (.slice (some ⟨g1,0,none⟩) nl c1)).toArray rfl (by rfl) 67 _ jE rfl rfl (zEf 0 st0 none 0 0 _ _ _) ?_))
      have fA:=AI w3 g _ (zAq 0 st0 zAj (.slice (some ⟨g1,0,none⟩) nl c1)).toArray _ _ jE;have gN:Chg (fun b=>b=g) w3 (w3.setRow g (zAq 0 st0 zAj (.slice (some ⟨g1,0,none⟩) nl c1)).toArray):=(Am (fun b=>b=g) w3).setRow (fun _=>rfl) _;refine AJ (AK rfl _ _ g 67 (zAq 0 st0 zAj (.slice (some ⟨g1,0,none⟩) nl c1)).toArray (0,0) _ rfl fA Ab rfl rfl) rfl ⟨⟨_,rfl,?_,zGe fun b off e _=>by have e1:=Aj e;injection e1 with e1 _;have:=fE.o;omega⟩,?_⟩
      · rw [fW.o]
        have gO:nl=(n.names.map (fun p=>(p.1,p.2,(T.node p.2).kind))).length:=by
         rw [←fQ.o];have:=fG.o.len;rw [zEv zBn 3 _ (fun _ _=>rfl)] at this;omega
        refine⟨none,0,some ⟨g1,0,none⟩,c1,by rw [gO];rfl,Sees.nil,?_⟩
        show Sees _ _ 3 _ (n.names.map (fun p=>(p.1,p.2,(T.node p.2).kind))).length ((n.names.map (fun p=>(p.1,p.2,(T.node p.2).kind))).flatMap zBn)
        rw [←fQ.o] at gO ⊢;rw [←gO];have jF:=fG.o;refine⟨jF.len,fun hn=>?_⟩;obtain⟨b,off,e,hb,jV⟩:=jF.at_ hn
        obtain⟨rfl,rfl⟩:g1=b∧0=off:=by
         have e:=Aj e;injection e with e1 e2;exact⟨e1,e2⟩
        exact⟨g1,0,rfl,by have:=gN.size;omega,fun j u hu=>(gN.cell (p:=⟨g1,0+j,none⟩) hb (by show ¬g1=g;omega)).trans (jV j u hu)⟩
      · rw [fE.o];exact ((gB.o.trans (fB.o.mono (by omega))).trans (fR.o.below (by have:=fB.o.size;omega) fun b hb e=>by omega)).trans (gN.below (by have:=fB.o.size;have:=fR.o.size;omega) fun b hb e=>by omega)
   · intro nm k w2 jG gP jH jI jJ kK jK jW;obtain⟨nk,fS⟩:=gY.o.ents i n nm k fV.o gP;have gQ:=gY.o.ok.get fS
     have jL:k≤512:=by omega
     have gR:=hb.trans (jJ.below (show g+1≤wr.heap.size by have:=hr.lt;omega) fun b hb h=>by omega);have fZ:=jN.o.fresh (by rw [fD];exact gR);have d2:=fZ.c2;have jX:=fZ.lookI fS (by omega);have kk0:=(fZ.get fS).c0
     have fH:nk.kind=(T.node k).kind:=by rw [zAn fS]
     have jM:=zAy ho jJ (fun g' e h=>by have:=(AM ho g' e).1;omega);have gJ:=hc.o.len;have fF:=hid jH;have gS:=hid (hc.o.snoc jG gP);have gT:=hid jI;have gU:=hid gR;have jY:=hr.lt;rw [fH] at kk0;have jZ:True:=trivial;clear jG gP jH jI hr gR fZ fS gQ fH hc fJ ho hb;have kA:(Instr.entry (.pointer (some ⟨g+1,0,none⟩))).run Aa w2=.ok (.tuple #[.string nm,.int .i64 (k:Int)]) w2:=jK;clear jK;obtain⟨kd,gV⟩:=nM ((T.node k).kind);rw [gV] at kk0;have gW:=hid gV;clear gV
     go_wp2_with (first
      | (refine zAo rfl 65 130 (.tmp 43) rfl (zBn (nm,k,kd)).toArray (by rfl) 3 Ad zD7 zEnt rfl (by omega) (by omega) ?_)
      | (at_builtin;refine zAg _ rfl (.tmp 31) (.tmp 44) _ _ rfl (g+2) 130 iE (.agg #[.string ⟨#[]⟩,.int .i64 0,.int .i64 0]) 3 32 Ad jO gC gD gE rfl u6 l.length (l.flatMap zBn) rfl (jM.alloc _) 1 (zBn (nm,k,kd)) (zA3 (P:=Aa) Ad (Blk.new w2 130 (zBn (nm,k,kd))) (zCK _)) (by unfold maxLen;omega) (by omega) (by simp;omega) ?_;intro v1 w3 kC kD kE))
     have fL:Chg (fun b=>g+2≤b) w2 w3:=((Am (fun b=>g+2≤b) w2).alloc _).grown kD (fun g' e _=>(AM jM g' e).1);have kF:=fF.o.chg fL (by omega) (by omega);have fT:=zBk (b:=nb) (r:=g+1) fL fF.o.owns.lt fF.o.lt (by omega) (by omega);have gX:=hid (show w3.rangeLeft nb (g+1)<wr.rangeLeft nb (g+1) by rw [fT];exact gT.o);clear fT;go_roundw
     case rel =>
      refine⟨l++[(nm,k,kd)],_,kF,gU.o.trans (fL.below (by have:=fF.o.lt;omega) fun b hb h=>by omega),?_,?_,?_⟩
      · rw [AC,List.flatMap_append];simpa using kC
      · rw [←gW.o];have h2:=gS.o;simp only [ne_eq,decide_not] at h2;exact h2
      · intro e;simp at e
     case measure=>exact gX.o
section
variable {P:Program}
theorem zEs {ops:Array Oper} {o:Oper} {a:Act} {w:World} {rest:List Oper} {Q:Act→Prop} (fB:o.guard=none) (ty:TypeId) (x:Operand) (ho:o.op=.load ty x)
 (g:Nat) (hx:a.eval x=.pointer (some ⟨g,0,none⟩)) (cs:Array Value) (fA:(loadVar ty ⟨g,0,none⟩).run P w=.ok (.agg cs) w)
 (h:wpStill P ops w Q rest (a.put o.dst (.agg cs))):wpStill P ops w Q (o::rest) a:=by
 have hw:Region.wanted o (yielded ops a.tmps)=true:=by simp [Region.wanted,fB]
 unfold wpStill;rw [if_pos hw];unfold Oper.still execOp;simp only [ho,hx,Instr.loadAt,Instr.sureAddr,Sem.run_bind,Sem.run_pure,Result.andThen_ok,fA];exact⟨rfl,h⟩
theorem zGn {w:World} {ops:Array Oper} {rest:List Oper} {o:Oper} {a:Act} {Q:Exit→Act→World→Prop} (fD:o.guard=none) (x:Operand) (t elem:TypeId)
 (ho:o.op=.call {callee:=.builtin .clear,args:=#[x],argTypes:=#[t]}) (hu:P.underlying t=some (.slice elem)) (hz:(zeroValue elem).run P w=.ok (AN .u8 0) w)
 (g off n c:Nat) (hx:a.eval x=.slice (some ⟨g,off,none⟩) n c) (hn:0<n) (tt:TypeId) (cur:List Value) (hg:Blk w g tt cur) (fB:off+n≤cur.length)
 (h:wpList P ops Q rest (a.put o.dst (.tuple #[])) (w.setRow g (cur.take off++AD n (AN .u8 0)++cur.drop (off+n)).toArray)):wpList P ops Q (o::rest) a w:=by
 refine wpList_plain fD fun K' fE=>?_
 have fF:(AO (AN .u8 0).cells n).toList=AD n (AN .u8 0):=by
  apply List.ext_getElem
  · simp [AO,Value.cells]
  · intro i h1 h2;have hc:(AN .u8 0).cells=#[AN .u8 0]:=rfl;simp [AO,hc,Nat.mod_one]
 have fC:=run_storeCells_at (P:=P) g off tt (AD n (AN .u8 0)) 0 cur.toArray w hg (by simpa using fB) (fun v hv=>by rw [List.eq_of_mem_replicate hv];rfl);simp only [Nat.add_zero,List.length_replicate] at fC
 have fA:(Builtin.clear_ #[t] o.type #[.slice (some ⟨g,off,none⟩) n c]).run P w=.ok (.tuple #[]) (w.setRow g (cur.take off++AD n (AN .u8 0)++cur.drop (off+n)).toArray):=by
  obtain⟨m,rfl⟩:∃ m,n=m+1:=⟨n-1,by omega⟩;simp [Builtin.clear_,run_underlying hu,hz,fF,fC,AP]
 unfold Oper.wp;simp only [List.append_assoc] at fA h
 simp [execOp,ho,resolve,invoke,builtin,hx,fA,AP]
 exact fE _ _ h
end
theorem arrLen:Tryz.prog.arrayLen 187=128:=by kernel_rfl
theorem arrUnd:Tryz.prog.underlying 187=some (.array (Tryz.prog.arrayLen 187) (Tryz.prog.elem 187)):=by kernel_rfl
theorem arrSize (w:World):(sizeOf (Tryz.prog.elem 187)).run Aa w=.ok 1 w:=by kernel_rfl
theorem zEU (w:World) (z l:Nat) (L:Int) (h:L=(l:Int)) (hl:l<128):(Instr.sliceAt 187 (.pointer (some ⟨z,0,none⟩)) (some (.int .i64 L)) none none).run Aa w=.ok (.slice (some ⟨z,l,none⟩) (128-l) (128-l)) w:=by
 subst h;rw [run_sliceAt_array_l w 187 ⟨z,0,none⟩ arrUnd .i64 l (by omega) (by rw [arrLen];omega),arrSize,arrLen]
 have fA:¬(128:Nat)=l:=by omega
 simp [AP,slicedAt,fA,Addr.add_lit]
def zBV (size k:Nat) (s:List UInt8):List UInt8:=s.take (size-k * 128)++AD (128-(size-k * 128)) 0
def zIm (size k:Nat) (s:List UInt8):Option (List UInt8):=if size≤k * 128 then none else some (if size<k * 128+128 then zBV size k s else s)
def zAI (size:Nat) (d:List (Nat×List UInt8)):List (Nat×List UInt8):=d.filterMap fun p=>(zIm size p.1 p.2).map fun s=>(p.1,s)
def PN.cut (n:PN) (size:Nat):PN:={n with data:=zAI size n.data,size:=size}
theorem ris_cut {size:Nat} {d:List (Nat×List UInt8)} (h:zBo zAG d):zBo zAG (zAI size d):=by
 unfold zBo zAI at *;rw [List.pairwise_filterMap];refine h.imp fun {a b} fA x hx y hy=>?_;rw [Option.map_eq_some_iff] at hx hy;obtain⟨_,_,rfl⟩:=hx;obtain⟨_,_,rfl⟩:=hy;exact fA
theorem get_cut {size:Nat} (k:Nat):∀ {d:List (Nat×List UInt8)},zBo zAG d→zAe k (zAI size d)=(zAe k d).bind (zIm size k)
 | [],_=>rfl
 | y::r,h=>by
  obtain⟨h1,h2⟩:=List.pairwise_cons.1 h;have ih:=get_cut (size:=size) k h2;unfold zAI at ih ⊢;simp only [List.filterMap_cons,zAe];by_cases e:y.1=k
  · subst e;rw [if_pos rfl];simp only [Option.bind_some]
    cases hc:zIm size y.1 y.2 with
    | some s=>simp [zAe]
    | none =>
     simp only [Option.map_none];rw [ih]
     have:zAe y.1 r=none:=zA7.2 fun p hp e=>by have:=h1 p hp;rw [e,zBL] at this;cases this
     rw [this];rfl
  · rw [if_neg e]
    cases hc:zIm size y.1 y.2 with
    | some s =>
     simp only [Ai,zAe];rw [if_neg e];exact ih
    | none=>exact ih
theorem cut_len (size k:Nat) (s:List UInt8) (h:s.length=128) (h1:k * 128<size) (h2:size<k * 128+128):(zBV size k s).length=128:=by
 unfold zBV;rw [AC,List.length_take,List.length_replicate];omega
theorem bvs_cut (size k:Nat) (s:List UInt8) (h:s.length=128) :
 bvs (zBV size k s)=(bvs s).take (size-k * 128)++AD (128-(size-k * 128)) (.int .u8 0)++(bvs s).drop (size-k * 128+(128-(size-k * 128))):=by
 rw [List.drop_eq_nil_of_le (by rw [zAc];omega),List.append_nil];simp [zBV,bvs,List.map_take]
theorem zKy (a:NA) (sz:Int) (w:World) (fC:sz<0∨136704<sz) (fA : -9223372036854775808≤sz∧sz≤9223372036854775807) :
 Calls Aa 107 #[zCq a.nb,.int .i64 sz] w fun e w'=>e=.returned (.int .i64 101)∧w=w':=by
 unfold zCq;go_enter Tryz.func107,Tryz.ntmps107;by_cases h0:sz<0
 · have fB:decide (sz<0)=true:=by simpa using h0
   go_wp2;go_ret;exact⟨rfl,rfl⟩
 · have fB:decide (sz<0)=false:=by simpa using h0
   have fD:decide (136704<sz)=true:=by simp;omega
   go_wp2;go_ret;exact⟨rfl,rfl⟩
theorem ptrunc_ok (own:Nat→Option Role) (i0:Nat) (a:NA) (n:PN) (db size:Nat) (w:World) (h:PnAt w a n) (ho:Owns own i0 a) (hn:n.Ok) (fL:a.d=some db) (jX:size≤136704) :
 Calls Aa 107 #[zCq a.nb,zAS size] w fun e w'=>e=.returned (.int .i64 0)∧PnAt w' a (n.cut size)∧Chg (Of own i0) w w':=by
 have c4:=h.c4;rw [fL] at c4;unfold zCq zAS;go_enter Tryz.func107,Tryz.ntmps107
 have kP:decide ((size:Int)<0)=false:=by simp
 have kQ:decide (136704<(size:Int))=false:=by simp;omega
 have hm:=h.data;rw [fL] at hm;have fC:zAt w zAG zB6 3 db n.data:=hm;have gI:=ho.apart;have fJ:=gI.1 db fL;have jY:=fC.lt;have fD:=h.blk.lt
 have jZ:n.data.length<maxLen:=by have:=hn.dlen;unfold maxLen;omega
 have fM:=hid h;have jE:=hid ho;have jF:=hid hn;have gB:=hid gI;have gC:=hid fL;clear h ho hn gI hm fL
 go_wp2_with (first
  | (at_range;refine zBE _ rfl _ 107 rfl zD3 Ae fC rfl ?_;intro w1 jG jH kA))
 go_frame
 have fN:=fC.ris zD3;clear fC;generalize hg:w.heap.size=g at *;have fE:=hid hg;clear hg
 go_loopw [5,6,7] (fun _ _ _ wr=>∃ (l:List (Nat×List UInt8)) (todo:Nat→Bool),zAO wr zAG zB6 3 db g n.data.length l todo∧Hid (Chg (fun b=>b=db) w wr)∧Hid (∀ k,zAe k l=if todo k then zAe k n.data else (zAe k n.data).bind (zIm size k))) (fun _ _ _ wr=>wr.rangeLeft db g)
 case atStart=>exact⟨_,_,jG,Al (by rw [fE.o];exact jH),fun k=>by cases zAe k n.data<;>simp⟩
 case round =>
  obtain⟨l,todo,hr,hc,hl⟩:=hrel;clear jG jH kA;have x4:wr.cell? ⟨a.nb,4,none⟩=some (.map (some db)):=(hc.o.cell (p:=⟨a.nb,4,none⟩) (by rw [fE.o];exact fD) (fun e=>fJ e.symm)).trans c4
  go_wp2_with (first
   | (at_next;refine zBS _ rfl _ rfl zD3 invN rfl hr ?_ ?_))
  · intro hz;have hB:=fM.o.blk.chg hc.o (fun e=>fJ e.symm);have y2:wr.cell? ⟨a.nb,2,none⟩=some (.int .i64 (n.size:Int)):=hB.cell 2;have z2:=hB.frozen 2
    have jI:l=zAI size n.data:=zBo.ext zAG (hr.owns.ris zD3) (ris_cut fN) fun k=>by rw [hl.o,hz,get_cut k fN];simp
    have kC:=hid jI;have jJ:=hr.owns;have kD:=hid jJ;have fK:=hid hB;clear hz jI jJ hr hB hl;go_wp2;go_ret;have gD:Chg (fun b=>b=a.nb) wr (wr.setCell ⟨a.nb,2,none⟩ (.int .i64 (size:Int))):=(Am (fun b=>b=a.nb) wr).setCell (p:=⟨a.nb,2,none⟩) (fun _=>rfl) _;refine⟨rfl,⟨?_,?_,?_,?_,fM.o.dirs,fM.o.files⟩,(hc.o.mono fun b _ e=>.inr (.inl (by rw [e];exact jE.o.d db gC.o))).trans gD (fun _ _ h=>h) (fun b _ e=>.inl (by rw [e];exact jE.o.nb))⟩
    · exact fK.o.set_ 2 _
    · have jK:=kD.o.chg gD fJ;rw [kC.o] at jK;rw [gC.o];exact jK
    · exact zAy (zAy fM.o.slots hc.o fun g' gJ e=>gB.o.2.2.2.2.1 g' db gJ gC.o e) gD fun g' gJ e=>gB.o.2.1 g' gJ e
    · exact (fM.o.names.chg hc.o fun b e h=>gB.o.2.2.2.2.2 b db e gC.o h).chg gD fun b e h=>gB.o.2.2.1 b e h
  · intro k s w2 gK gL gM jL jM kE jN gN
    have gE:zAe k n.data=some s:=by have:=hl.o k;rw [gK,if_pos rfl,gL] at this;exact this.symm
    have kF:k≤1067:=jF.o.keys _ (zAf gE);have fO:s.length=128:=jF.o.secs _ (zAf gE);have gO:Chg (fun b=>b=db) w w2:=hc.o.trans jM (fun _ _ h=>h) (fun b hb e=>by subst e;rw [fE.o] at hb;omega);have x4':w2.cell? ⟨a.nb,4,none⟩=some (.map (some db)):=(gO.cell (p:=⟨a.nb,4,none⟩) (by rw [fE.o];exact fD) (fun e=>fJ e.symm)).trans c4;have gP:(Instr.entry (.pointer (some ⟨g,0,none⟩))).run Aa w2=.ok (.tuple #[.int .i64 (k:Int),.agg (bvs s).toArray]) w2:=jN;have gQ:Blk (w2.alloc (.cells Af 187)) w2.heap.size 187 (bvs zBD):=zBf rfl;have jO:=gM.lt;have fF:=hid gM;have gR:=hid jL;have kG:=hid gK;have fP:=hid gL;have fG:=hid gE;have fQ:=hid gO;clear hr gM jL jM kE jN gN gK gL gE hc gO x4
    go_upto_region 6 with (first
     | (refine AH rfl 187 (.tmp 6) (.tmp 23) rfl w2.heap.size (bvs s).toArray rfl (by rfl) 187 _ gQ (zAD fO) (by rw [AE,AE,zAc,zAc,zAs,fO]) (zBa s) ?_))
    have gF:Chg (fun b=>w2.heap.size≤b) w2 ((w2.alloc (.cells Af 187)).setRow w2.heap.size (bvs s).toArray):=((Am _ w2).alloc _).setRow (fun _=>An _) _;have gG:Blk ((w2.alloc (.cells Af 187)).setRow w2.heap.size (bvs s).toArray) w2.heap.size 187 (bvs s):=AI _ _ _ _ _ _ gQ;have kI:w2.heap.size<((w2.alloc (.cells Af 187)).setRow w2.heap.size (bvs s).toArray).heap.size:=gG.lt;have gS:=fQ.o.size
    have kJ:db<w2.heap.size:=by rw [fE.o] at gS;omega
    have jP:=fF.o.chg gF (by omega) (by omega);have fR:=zBk (b:=db) (r:=g) gF fF.o.owns.lt fF.o.lt (by omega) (by omega);have fA:=hid (show ((w2.alloc (.cells Af 187)).setRow w2.heap.size (bvs s).toArray).rangeLeft db g<wr.rangeLeft db g by rw [fR];exact gR.o);have gT:Chg (fun b=>b=db) w ((w2.alloc (.cells Af 187)).setRow w2.heap.size (bvs s).toArray):=fQ.o.trans gF (fun _ _ h=>h) (fun b hb h=>by rw [fE.o] at hb;omega);have x43:((w2.alloc (.cells Af 187)).setRow w2.heap.size (bvs s).toArray).cell? ⟨a.nb,4,none⟩=some (.map (some db)):=(gT.cell (p:=⟨a.nb,4,none⟩) (by rw [fE.o];exact fD) (fun e=>fJ e.symm)).trans c4;have fB:=hid jP;have fH:=hid gT;clear fR jP gT gQ gF gP;generalize (w2.alloc (.cells Af 187)).setRow w2.heap.size (bvs s).toArray=w3 at *;generalize w2.heap.size=z at *;by_cases hA:size≤k * 128
    · have t1:decide ((size:Int)≤(k:Int) * 128)=true:=by simp;omega
      have fS:=hid hA;clear hA
      go_wp2_with (first
       | (at_delete;refine zGP _ rfl _ _ 107 rfl zD3 Ae fB.o rfl k rfl (zHW k (by omega)) ?_;intro w4 fT jQ jR))
      have fI:=hid fT;have gU:=hid jQ;have gV:=hid jR;clear fT jQ jR
      go_frame
      go_roundw
      case rel =>
       refine⟨_,_,fI.o,fH.o.trans (zAP gV.o) (fun _ _ h=>h) (fun _ _ h=>h),fun x=>?_⟩;by_cases e:x=k
       · subst e;rw [zBI,fG.o];simp [zIm,fS.o]
       · rw [zAT e,hl.o];simp [e]
      case measure=>exact Nat.lt_of_le_of_lt gU.o fA.o
    · have t1:decide ((size:Int)≤(k:Int) * 128)=false:=by simp;omega
      by_cases hB:size<k * 128+128
      · have t2:decide ((size:Int)<(k:Int) * 128+128)=true:=by simp;omega
        have fU:k * 128<size:=by omega
        have fS:=hid hA;have fK:=hid hB
        have kK:∀ W:World,(zeroValue 5).run Aa W=.ok (.int .u8 0) W:=fun W=>by kernel_rfl
        have kL:size-k * 128+(128-(size-k * 128))≤(bvs s).length:=by rw [zAc,fO];omega
        have gW:0<128-(size-k * 128):=by omega
        have kM:size-k * 128≤128:=by omega
        have kR:=zEU w3 z (size-k * 128) ((size:Int)-(k:Int) * 128) (by omega) (by omega);clear hA hB
        go_upto_region 11 with (first
         | (refine zGn rfl (.tmp 43) 64 5 rfl Tryz.underlying64 (kK _) z (size-k * 128) (128-(size-k * 128)) (128-(size-k * 128)) rfl gW 187 (bvs s) gG kL ?_))
        rw [←bvs_cut size k s fO];have jS:Blk (w3.setRow z (bvs (zBV size k s)).toArray) z 187 (bvs (zBV size k s)):=AI w3 z _ _ _ _ gG;have gH:Chg (fun b=>b=z) w3 (w3.setRow z (bvs (zBV size k s)).toArray):=(Am (fun b=>b=z) w3).setRow (fun _=>rfl) _;have fT:=fB.o.chg gH (by omega) (by omega);have fV:=zBk (b:=db) (r:=g) gH fB.o.owns.lt fB.o.lt (by omega) (by omega);have fW:=hid (show (w3.setRow z (bvs (zBV size k s)).toArray).rangeLeft db g<wr.rangeLeft db g by rw [fV];exact fA.o);have gX:Chg (fun b=>b=db) w (w3.setRow z (bvs (zBV size k s)).toArray):=fH.o.trans gH (fun _ _ h=>h) (fun b hb h=>by rw [fE.o] at hb;omega);have x44:=(gX.cell (p:=⟨a.nb,4,none⟩) (by rw [fE.o];exact fD) (fun e=>fJ e.symm)).trans c4;have kN:(zBV size k s).length=128:=cut_len size k s fO fU fK.o;have fI:=hid fT;have gY:=hid gX;clear fT gX fV gH x43 gG;generalize fX:zBV size k s=s4 at *;have kO:=hid fX;clear fX;generalize w3.setRow z (bvs s4).toArray=w4 at *;have gZ:=hid (fI.o.chg ((Am (fun _=>False) w4).drew) id id);have fY:Blk w4.drew z 187 (bvs s4):=jS;have jT:(loadVar 187 ⟨z,0,none⟩).run Aa ({heap:=w4.heap,tape:=w4.tape,drawn:=w4.drawn+1,os:=w4.os,output:=w4.output}:World)=.ok (.agg (bvs s4).toArray) ({heap:=w4.heap,tape:=w4.tape,drawn:=w4.drawn+1,os:=w4.os,output:=w4.output}:World):=run_loadVar_row w4.drew z _ _ _ _ _ fY Tryz.underlying187 rfl (zAD kN)
        go_still_tail 6,(by kernel_rfl)
        refine zEs rfl 187 (.tmp 6) rfl z rfl (bvs s4).toArray jT ?_;refine wpStill_nil ?_;change wpList _ _ _ _ _ w4.drew;have fZ:w4.drew.rangeLeft db g=w4.rangeLeft db g:=rfl;have gA:=hid (show w4.drew.rangeLeft db g<wr.rangeLeft db g from fW.o);have jA:=hid (gY.o.drew);clear jT jS fY fZ x44;generalize w4.drew=w5 at *
        go_wp2_with (first
         | (at_mapUpdate;refine zGR _ rfl (.tmp 47) (.tmp 48) (.tmp 49) 107 rfl zD3 Ae gZ.o jZ rfl k rfl (zHW k (by omega)) s fP.o s4 rfl ?_;intro w6 jU jV jW;have jB:=hid jU;have jC:=hid jV;have jD:=hid jW;clear jU jV jW;go_frame))
        go_roundw
        case rel =>
         refine⟨_,_,jB.o,jA.o.trans (zAP jD.o) (fun _ _ h=>h) (fun _ _ h=>h),fun x=>?_⟩;by_cases e:x=k
         · subst e;rw [zAr,fG.o];simp [zIm,fS.o,fK.o,kO.o]
         · rw [zAi zAG _ e,hl.o];simp [e]
        case measure=>exact Nat.lt_of_le_of_lt jC.o gA.o
      · have t2:decide ((size:Int)<(k:Int) * 128+128)=false:=by simp;omega
        have fS:=hid hA;have fK:=hid hB;clear hA hB;go_wp2;go_roundw
        case rel =>
         refine⟨_,_,fB.o,fH.o,fun x=>?_⟩;by_cases e:x=k
         · subst e;rw [fP.o,fG.o];simp [zIm,fS.o,fK.o]
         · rw [hl.o];simp [e]
        case measure=>exact fA.o
end Go.Proofs.YtolpcfhfcdkokaaGreatDoor
