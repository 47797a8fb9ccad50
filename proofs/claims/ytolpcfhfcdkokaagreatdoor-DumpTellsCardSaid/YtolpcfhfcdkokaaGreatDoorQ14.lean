/- Joined out of PRename..PRename. -/
import Derived.Test.YtolpcfhfcdkokaaGreatDoorQ13
set_option maxHeartbeats 16000000
set_option maxRecDepth 100000
namespace Go.Proofs.YtolpcfhfcdkokaaGreatDoor
open Lib (hid)
open Go.RowKit
open Go.Maps (Keyed)
theorem zIe {T:PT} (hT:T.Wf) {d:Nat} {n:PN} {nm:ByteArray} {i:Nat} (hg:zAd d T.nodes=some n) (h:zAd nm n.names=some i):nm≠emp:=fun e=>by
 rw [e,hT.nemp d n hg] at h;cases h
theorem PnAt.seesAt {w:World} {a:NA} {n:PN} (h:PnAt w a n):∃ A c,w.cell? ⟨a.nb,5,none⟩=some (.slice A n.slots.length c)∧Sees w w.heap.size 1 A n.slots.length (strs n.slots):=by
 obtain⟨A,c,hs,-,h1⟩:=h.sees;exact⟨A,c,by rw [←hs];exact h.c5,h1⟩
theorem zHE (own:Nat→Option Role) (lay:Nat→NA) (p mb:Nat) (T:PT) (B:Nat) (A:Option Addr) (c:Nat) (l:List ByteArray) (A2:Option Addr) (c2:Nat) (l2:List ByteArray) (w:World) (h:PlainAt w own lay p mb T) (hT:T.Wf) (hB:B≤w.heap.size)
 (hs:Sees w B 1 A l.length (strs l)) (hl:l.length≤1000000) (hc:l.length≤c) (hx:∀ x∈l,x.size≤40)
 (lH:Sees w B 1 A2 l2.length (strs l2)) (lM:l2.length≤1000000) (lN:l2.length≤c2) (kU:∀ x∈l2,x.size≤40) :
 Calls Tryz.prog 71 #[.pointer (some ⟨p,0,none⟩),.slice A l.length c,.slice A2 l2.length c2] w fun e w'=>e=.returned (zAW (T.rename l l2).2)∧zAS own p mb (T.rename l l2).1 w w':=by
 have big:∀ {l:List ByteArray},(∀ x∈l,x.size≤40)→∀ x∈l,x.size≤1000000:=fun h x hx=>by have:=h x hx;omega
 have fE:=zCT own lay p mb T B A c l w h hT hs hl hc (big hx);have jB:=fun W (hb:Below w.heap.size w W)=>zCT own lay p mb T B A2 c2 l2 W (h.fresh hb) hT (lH.below (hb.mono hB)) lM lN (big kU);have jV:=zBz hT l;have kV:=zEI hT l;have jW:=zBz hT l2;have kW:=zEI hT l2;have kN:=zB4 (big hx);have jK:(zAL l2).size≤40:=zD7 kU;have kX:=PT.rename.eq_1 T l l2;generalize T.last l=r1 at *;generalize T.last l2=r2 at *;obtain⟨d,e1⟩:=r1;obtain⟨t,e2⟩:=r2;generalize zAL l=old at *;generalize zAL l2=nm at *;simp only at fE jB jV kV jW kW kX;have hu:=kX;clear kX;have hH:=hid h;have gK:=hid hT;have fJ:=hid hT.ok;have lT:=hT.ok.ino;have fP:=hid jB;clear h hT hs hx lH kU big jB;generalize l.length=len at *;generalize l2.length=len2 at *;unfold zAW at fE fP;go_enter Tryz.func71,Tryz.ntmps71;by_cases kY:e1=0
 · subst kY;rw [if_neg (by simp)] at hu;obtain⟨n,hn,lI⟩:=jV rfl;have fG:=hid hn;have jX:=hid lI;rw [zAp hn] at hu;clear jV hn lI;by_cases kZ:e2=0
   · subst kZ;rw [if_neg (by simp)] at hu;obtain⟨m,hm,lJ⟩:=jW rfl;have fD:=hid hm;have fY:=hid lJ;rw [zAp hm] at hu;clear jW hm lJ
     cases hg:zAd old n.names with
     | none =>
      rw [hg] at hu;have fI:=hid hu;have gI:=hid hg;clear hu hg;have tok1:True:=trivial
      go_wp2_with (first
       | (go_at_call 95;have _t:=tok1;refine fE.mono ?_;rintro e w1 ⟨rfl,fF⟩;have fB:=fP.out w1 fF;have tok2:True:=trivial;clear _t tok1)
       | (go_at_call 95;have _t:=tok2;refine fB.mono ?_;rintro e w2 ⟨rfl,fS⟩;have fC:=fF.trans (fS.mono fF.size);clear fB _t tok2;have fA:=hH.out.fresh fC;have x2:=fA.c2;have fT:=fA.lookI fG.out (by omega);have fU:=fA.lookI fD.out (by omega);have k6:=(fA.get fG.out).c6;have m6:=(fA.get fD.out).c6;have fK:=(fA.get fG.out).lookN old (by omega);have fM:=(fA.get fD.out).lookN nm (by omega);rw [gI.out] at fK;simp only [orV,Option.isSome_none] at fK;clear fA fM))
      go_ret;refine⟨by rw [fI.out];rfl,?_⟩;rw [fI.out];exact .same hH.out fC
     | some i =>
      rw [hg] at hu;simp only at hu;have gI:=hid hg;obtain⟨o,ho⟩:=gK.out.ents d n old i fG.out hg;have fL:=hid ho;have lK:=fJ.out.get ho
      have gR:i≤512:=by omega
      have kP:=lK.1.links;rw [zAn ho,zAp ho] at hu;obtain⟨q,hq⟩:=gK.out.slotn d n old i fG.out hg;have kO:=hid hq;have kC:=hid (zIe gK.out fG.out hg);clear hg ho lK hq;by_cases gV:d=t∧old=nm
      · obtain⟨rfl,rfl⟩:=gV;rw [if_pos ⟨rfl,rfl⟩] at hu;have fI:=hid hu
        have lL:((d:Int)==(d:Int))=true:=by simp
        have lA:(old.toList==old.toList)=true:=by simp
        clear hu;have tok1:True:=trivial
        go_wp2_with (first
         | (go_at_call 95;have _t:=tok1;refine fE.mono ?_;rintro e w1 ⟨rfl,fF⟩;have fB:=fP.out w1 fF;have tok2:True:=trivial;clear _t tok1)
         | (go_at_call 95;have _t:=tok2;refine fB.mono ?_;rintro e w2 ⟨rfl,fS⟩;have fC:=fF.trans (fS.mono fF.size);clear fB _t tok2;have fA:=hH.out.fresh fC;have x2:=fA.c2;have fT:=fA.lookI fG.out (by omega);have fU:=fA.lookI fD.out (by omega);have k6:=(fA.get fG.out).c6;have m6:=(fA.get fD.out).c6;have fK:=(fA.get fG.out).lookN old (by omega);have fM:=(fA.get fD.out).lookN old (by omega);rw [gI.out] at fK;simp only [orV,Option.isSome_some,zAW] at fK;have fW:=fA.lookI fL.out (by omega);have o0:=(fA.get fL.out).c0;have o1:=(fA.get fL.out).c1;clear fA fM))
        go_ret;refine⟨by rw [fI.out];rfl,?_⟩;rw [fI.out];exact .same hH.out fC
      · rw [if_neg gV] at hu;by_cases lB:d=t
        · subst lB;have kS:old≠nm:=fun e=>gV ⟨rfl,e⟩;have lO:m=n:=Option.some.inj (fD.out.symm.trans fG.out);subst lO
          have lL:((d:Int)==(d:Int))=true:=by simp
          have lA:(old.toList==nm.toList)=false:=by simpa using fun h=>kS (zDm.1 h)
          have lP:¬old.toList=nm.toList:=fun h=>kS (zDm.1 h);have kD:=hid kS;clear gV kS
          cases jC:o.dir with
          | true =>
           rw [jC,if_pos rfl] at hu;have fR:=hid jC;have lC:=hid (show T.isDir i=true by rw [zAn fL.out,jC]);clear jC
           cases gD:zAd nm m.names with
           | some j =>
            rw [gD,if_pos (show (some j).isSome=true from rfl)] at hu;have fI:=hid hu;have fN:=hid gD;clear hu gD;have tok1:True:=trivial
            go_wp2_with (first
             | (go_at_call 95;have _t:=tok1;refine fE.mono ?_;rintro e w1 ⟨rfl,fF⟩;have fB:=fP.out w1 fF;have tok2:True:=trivial;clear _t tok1)
             | (go_at_call 95;have _t:=tok2;refine fB.mono ?_;rintro e w2 ⟨rfl,fS⟩;have fC:=fF.trans (fS.mono fF.size);clear fB _t tok2;have fA:=hH.out.fresh fC;have x2:=fA.c2;have fT:=fA.lookI fG.out (by omega);have fU:=fA.lookI fD.out (by omega);have k6:=(fA.get fG.out).c6;have m6:=(fA.get fD.out).c6;have fK:=(fA.get fG.out).lookN old (by omega);have fM:=(fA.get fD.out).lookN nm (by omega);rw [gI.out] at fK;simp only [orV,Option.isSome_some,zAW] at fK;have fW:=fA.lookI fL.out (by omega);have o0:=(fA.get fL.out).c0;have o1:=(fA.get fL.out).c1;rw [zA1 fR.out] at o0;rw [fN.out] at fM;simp only [orV,Option.isSome_some,zAW] at fM;clear fA))
            go_ret;refine⟨by rw [fI.out];rfl,?_⟩;rw [fI.out];exact .same hH.out fC
           | none =>
            rw [gD,if_neg (by simp)] at hu;have fN:=hid gD;clear gD;obtain⟨rk,kQ⟩:=gK.out.rank;have jM:=fun W hP=>zFt own lay p mb T gK.out rk kQ _ (fun j hj=>T.rk_le rk hj) d (by omega) ((T.nodes.map fun p=>rk p.1).sum+1) i W lC.out (by omega) hP;have gL:=hid jM;clear jM kQ;by_cases hU:T.Und d i
            · rw [if_pos hU] at hu;have fI:=hid hu;have jY:∀ b:Bool,(b=true↔T.Und d i)→b=true:=fun b hb=>hb.2 hU;clear hu hU;have tok1:True:=trivial
              go_wp2_with (first
               | (go_at_call 95;have _t:=tok1;refine fE.mono ?_;rintro e w1 ⟨rfl,fF⟩;have fB:=fP.out w1 fF;have tok2:True:=trivial;clear _t tok1)
               | (go_at_call 95;have _t:=tok2;refine fB.mono ?_;rintro e w2 ⟨rfl,fS⟩;have fC:=fF.trans (fS.mono fF.size);clear fB _t tok2;have fA:=hH.out.fresh fC;have x2:=fA.c2;have fT:=fA.lookI fG.out (by omega);have fU:=fA.lookI fD.out (by omega);have k6:=(fA.get fG.out).c6;have m6:=(fA.get fD.out).c6;have fK:=(fA.get fG.out).lookN old (by omega);have fM:=(fA.get fD.out).lookN nm (by omega);rw [gI.out] at fK;simp only [orV,Option.isSome_some,zAW] at fK;have fW:=fA.lookI fL.out (by omega);have o0:=(fA.get fL.out).c0;have o1:=(fA.get fL.out).c1;rw [zA1 fR.out] at o0;rw [fN.out] at fM;simp only [orV,Option.isSome_none] at fM;have fV:=hid fA;clear fA)
               | (go_at_call 103;refine (gL.out w2 fV.out).mono ?_;rintro e w3 ⟨⟨b,rfl,gW⟩,jN⟩;obtain rfl:b=true:=jY b gW;clear gW;skip))
              go_ret;refine⟨by rw [fI.out];rfl,?_⟩;rw [fI.out];exact .same hH.out (fC.trans (jN.mono fC.size))
            · rw [if_neg hU] at hu
              have jY:∀ b:Bool,(b=true↔T.Und d i)→b=false:=fun b hb=>by cases b;rfl;exact absurd (hb.1 rfl) hU
              clear hU;have gS:=zBu (T:=T) (n:=m) (nm:=nm) (fJ.out.get fD.out).1;have fH:=fun W hP=>zB5 own lay p mb d T m W hP gK.out fD.out;generalize T.place m=r3 at *;obtain⟨k,e3⟩:=r3;simp only at gS hu fH;unfold zAW at fH;have gM:=hid fH;clear fH;by_cases jD:e3=0
              · subst jD;rw [if_neg (by simp)] at hu;have fQ:=hid (show m.Fit k nm from gS rfl);have gE:=hid (fJ.out.upd (zCy gK.out fD.out fY.out fQ.out jK gR) (fJ.out.get fD.out).2);have jO:=fQ.out.le;have jP:=fQ.out.lt (fJ.out.get fD.out).1;have fZ:=hid (show zAd d (T.upd d (m.set k nm i)).nodes=some (m.set k nm i) from zA8 _ _);have gN:=hid (show (m.set k nm i).dir=true from fY.out);have jQ:=hid (zC2 (j:=i) fQ.out (Ne.symm kD.out) kC.out kO.out);have kE:=hid (gE.out.upd ((gE.out.get fZ.out).1.clear old) (gE.out.get fZ.out).2);rw [zCg fD.out,zCt fZ.out] at hu;have fI:=hid hu;clear hu;clear gS;have tok1:True:=trivial
                go_wp2_with (first
                 | (go_at_call 95;have _t:=tok1;refine fE.mono ?_;rintro e w1 ⟨rfl,fF⟩;have fB:=fP.out w1 fF;have tok2:True:=trivial;clear _t tok1)
                 | (go_at_call 95;have _t:=tok2;refine fB.mono ?_;rintro e w2 ⟨rfl,fS⟩;have fC:=fF.trans (fS.mono fF.size);clear fB _t tok2;have fA:=hH.out.fresh fC;have x2:=fA.c2;have fT:=fA.lookI fG.out (by omega);have fU:=fA.lookI fD.out (by omega);have k6:=(fA.get fG.out).c6;have m6:=(fA.get fD.out).c6;have fK:=(fA.get fG.out).lookN old (by omega);have fM:=(fA.get fD.out).lookN nm (by omega);rw [gI.out] at fK;simp only [orV,Option.isSome_some,zAW] at fK;have fW:=fA.lookI fL.out (by omega);have o0:=(fA.get fL.out).c0;have o1:=(fA.get fL.out).c1;rw [zA1 fR.out] at o0;rw [fN.out] at fM;simp only [orV,Option.isSome_none] at fM;have fV:=hid fA;clear fA)
                 | (go_at_call 103;refine (gL.out w2 fV.out).mono ?_;rintro e w3 ⟨⟨b,rfl,gW⟩,jN⟩;obtain rfl:b=false:=jY b gW;clear gW;have gB:=fC.trans (jN.mono fC.size);have gT:=hH.out.fresh gB;have v2:=gT.c2;have kF:=gT.lookI fD.out (by omega);have jE:=hid gT;clear gT)
                 | (go_at_call 97;refine (gM.out w3 jE.out).mono ?_;rintro e w4p ⟨rfl,jF⟩;have fO:=gB.trans (jF.mono gB.size);have gU:=hH.out.fresh fO;have y2:=gU.c2;have kG:=gU.lookI fD.out (by omega);have jG:=hid gU;clear gU)
                 | (go_at_call 98;refine (zBJ jG.out fJ.out fD.out fY.out jO jP (by omega)).mono ?_;rintro e w4 ⟨rfl,own4,lay4,gF,gX,jR⟩;have u2:=gF.c2;have jS:=gF.lookI fZ.out (by omega);have gO:=hid gF;have gA:=hid gX;clear gF gX)
                 | (go_at_call 101;refine (zBk gO.out gE.out fZ.out gN.out jQ.out kN).mono ?_;rintro e w5 ⟨rfl,gY,jT⟩;have gP:=hid gY;clear gY))
                go_ret;refine⟨by rw [fI.out];rfl,?_⟩;rw [fI.out];exact .of gP.out (gA.out.back fO.size) (((Chg.of_fresh fO).trans jR (fun _ _ h=>h) (fun _ _ h=>h)).ext (gA.out.back fO.size) jT)
              · rw [if_pos jD] at hu;have fI:=hid hu
                have kI:((e3:Int) != 0)=true:=by simp;omega
                clear hu gS jD;have tok1:True:=trivial
                go_wp2_with (first
                 | (go_at_call 95;have _t:=tok1;refine fE.mono ?_;rintro e w1 ⟨rfl,fF⟩;have fB:=fP.out w1 fF;have tok2:True:=trivial;clear _t tok1)
                 | (go_at_call 95;have _t:=tok2;refine fB.mono ?_;rintro e w2 ⟨rfl,fS⟩;have fC:=fF.trans (fS.mono fF.size);clear fB _t tok2;have fA:=hH.out.fresh fC;have x2:=fA.c2;have fT:=fA.lookI fG.out (by omega);have fU:=fA.lookI fD.out (by omega);have k6:=(fA.get fG.out).c6;have m6:=(fA.get fD.out).c6;have fK:=(fA.get fG.out).lookN old (by omega);have fM:=(fA.get fD.out).lookN nm (by omega);rw [gI.out] at fK;simp only [orV,Option.isSome_some,zAW] at fK;have fW:=fA.lookI fL.out (by omega);have o0:=(fA.get fL.out).c0;have o1:=(fA.get fL.out).c1;rw [zA1 fR.out] at o0;rw [fN.out] at fM;simp only [orV,Option.isSome_none] at fM;have fV:=hid fA;clear fA)
                 | (go_at_call 103;refine (gL.out w2 fV.out).mono ?_;rintro e w3 ⟨⟨b,rfl,gW⟩,jN⟩;obtain rfl:b=false:=jY b gW;clear gW;have gB:=fC.trans (jN.mono fC.size);have gT:=hH.out.fresh gB;have v2:=gT.c2;have kF:=gT.lookI fD.out (by omega);have jE:=hid gT;clear gT)
                 | (go_at_call 97;refine (gM.out w3 jE.out).mono ?_;rintro e w4p ⟨rfl,jF⟩;have fO:=gB.trans (jF.mono gB.size)))
                go_ret;refine⟨by rw [fI.out];rfl,?_⟩;rw [fI.out];exact .same hH.out fO
          | false =>
           rw [jC,if_neg (by simp)] at hu;have fR:=hid jC;clear jC;obtain⟨lk,jH⟩:∃ lk,o.links=lk:=⟨_,rfl⟩;have gC:=hid jH;rw [jH] at hu kP;clear jH
           cases gD:zAd nm m.names with
           | some j =>
            rw [gD] at hu;simp only at hu;have fN:=hid gD;obtain⟨v,hv⟩:=gK.out.ents d m nm j fD.out gD;have gJ:=hid hv;have kJ:=fJ.out.get hv
            have kR:j≤512:=by omega
            rw [zAn hv] at hu;clear gD kJ hv
            cases jL:v.dir with
            | true =>
             rw [jL,if_pos rfl] at hu;have fI:=hid hu;have gG:=hid jL;clear hu jL;have tok1:True:=trivial
             go_wp2_with (first
              | (go_at_call 95;have _t:=tok1;refine fE.mono ?_;rintro e w1 ⟨rfl,fF⟩;have fB:=fP.out w1 fF;have tok2:True:=trivial;clear _t tok1)
              | (go_at_call 95;have _t:=tok2;refine fB.mono ?_;rintro e w2 ⟨rfl,fS⟩;have fC:=fF.trans (fS.mono fF.size);clear fB _t tok2;have fA:=hH.out.fresh fC;have x2:=fA.c2;have fT:=fA.lookI fG.out (by omega);have fU:=fA.lookI fD.out (by omega);have k6:=(fA.get fG.out).c6;have m6:=(fA.get fD.out).c6;have fK:=(fA.get fG.out).lookN old (by omega);have fM:=(fA.get fD.out).lookN nm (by omega);rw [gI.out] at fK;simp only [orV,Option.isSome_some,zAW] at fK;have fW:=fA.lookI fL.out (by omega);have o0:=(fA.get fL.out).c0;have o1:=(fA.get fL.out).c1;rw [zAz fR.out] at o0;rw [gC.out] at o1;rw [fN.out] at fM;simp only [orV,Option.isSome_some,zAW] at fM;have jI:=fA.lookI gJ.out (by omega);have j0:=(fA.get gJ.out).c0;rw [zA1 gG.out] at j0;clear fA))
             go_ret;refine⟨by rw [fI.out];rfl,?_⟩;rw [fI.out];exact .same hH.out fC
            | false =>
             rw [jL,if_neg (by simp)] at hu;have gG:=hid jL;clear jL;by_cases jZ:i=j
             · subst jZ;rw [if_pos rfl] at hu;have fI:=hid hu
               have kK:((i:Int)==(i:Int))=true:=by simp
               clear hu;have tok1:True:=trivial
               go_wp2_with (first
                | (go_at_call 95;have _t:=tok1;refine fE.mono ?_;rintro e w1 ⟨rfl,fF⟩;have fB:=fP.out w1 fF;have tok2:True:=trivial;clear _t tok1)
                | (go_at_call 95;have _t:=tok2;refine fB.mono ?_;rintro e w2 ⟨rfl,fS⟩;have fC:=fF.trans (fS.mono fF.size);clear fB _t tok2;have fA:=hH.out.fresh fC;have x2:=fA.c2;have fT:=fA.lookI fG.out (by omega);have fU:=fA.lookI fD.out (by omega);have k6:=(fA.get fG.out).c6;have m6:=(fA.get fD.out).c6;have fK:=(fA.get fG.out).lookN old (by omega);have fM:=(fA.get fD.out).lookN nm (by omega);rw [gI.out] at fK;simp only [orV,Option.isSome_some,zAW] at fK;have fW:=fA.lookI fL.out (by omega);have o0:=(fA.get fL.out).c0;have o1:=(fA.get fL.out).c1;rw [zAz fR.out] at o0;rw [gC.out] at o1;rw [fN.out] at fM;simp only [orV,Option.isSome_some,zAW] at fM;have jI:=fA.lookI gJ.out (by omega);have j0:=(fA.get gJ.out).c0;rw [zAz gG.out] at j0;clear fA))
               go_ret;refine⟨by rw [fI.out];rfl,?_⟩;rw [fI.out];exact .same hH.out fC
             · rw [if_neg jZ] at hu
               have kK:((i:Int)==(j:Int))=false:=by simp;omega
               have lD:=hid jZ;clear jZ;by_cases fX:lk=100
               · rw [if_pos fX] at hu;have fI:=hid hu
                 have kL:((lk:Int)==100)=true:=by simp;omega
                 clear hu fX;have tok1:True:=trivial
                 go_wp2_with (first
                  | (go_at_call 95;have _t:=tok1;refine fE.mono ?_;rintro e w1 ⟨rfl,fF⟩;have fB:=fP.out w1 fF;have tok2:True:=trivial;clear _t tok1)
                  | (go_at_call 95;have _t:=tok2;refine fB.mono ?_;rintro e w2 ⟨rfl,fS⟩;have fC:=fF.trans (fS.mono fF.size);clear fB _t tok2;have fA:=hH.out.fresh fC;have x2:=fA.c2;have fT:=fA.lookI fG.out (by omega);have fU:=fA.lookI fD.out (by omega);have k6:=(fA.get fG.out).c6;have m6:=(fA.get fD.out).c6;have fK:=(fA.get fG.out).lookN old (by omega);have fM:=(fA.get fD.out).lookN nm (by omega);rw [gI.out] at fK;simp only [orV,Option.isSome_some,zAW] at fK;have fW:=fA.lookI fL.out (by omega);have o0:=(fA.get fL.out).c0;have o1:=(fA.get fL.out).c1;rw [zAz fR.out] at o0;rw [gC.out] at o1;rw [fN.out] at fM;simp only [orV,Option.isSome_some,zAW] at fM;have jI:=fA.lookI gJ.out (by omega);have j0:=(fA.get gJ.out).c0;rw [zAz gG.out] at j0;clear fA))
                 go_ret;refine⟨by rw [fI.out];rfl,?_⟩;rw [fI.out];exact .same hH.out fC
               · rw [if_neg fX] at hu
                 have kL:((lk:Int)==100)=false:=by simp;omega
                 clear fX;obtain⟨s,hs⟩:=gK.out.slotn d m nm j fD.out fN.out;rw [hs] at hu;simp only [Option.getD_some] at hu;have kA:=zEM hs;have jU:=(zAV hs);have fQ:=hid (show m.Fit s nm from by exact .inr (.inr ⟨by rw [fN.out];rfl,jU.2⟩));have gE:=hid (fJ.out.upd (zCy gK.out fD.out fY.out fQ.out jK gR) (fJ.out.get fD.out).2);have jO:=fQ.out.le;have jP:=fQ.out.lt (fJ.out.get fD.out).1;have fZ:=hid (show zAd d (T.upd d (m.set s nm i)).nodes=some (m.set s nm i) from zA8 _ _);have gN:=hid (show (m.set s nm i).dir=true from fY.out);have jQ:=hid (zC2 (j:=i) fQ.out (Ne.symm kD.out) kC.out kO.out);have kE:=hid (gE.out.upd ((gE.out.get fZ.out).1.clear old) (gE.out.get fZ.out).2);rw [zCg fD.out,zCt fZ.out] at hu;have fI:=hid hu;clear hu
                 have kT:j≠d:=fun e=>by have h1:=gJ.out;rw [e,fD.out] at h1;have h1:=Option.some.inj h1;have h2:=gG.out;rw [←h1,fY.out] at h2;cases h2
                 have lE:=hid (show zAd j ((T.upd d (m.set s nm i)).upd d ((m.set s nm i).clear old)).nodes=some v from (zAm _ kT).trans ((zAm _ kT).trans gJ.out));have lF:=hid (gK.out.lnk j v gJ.out);have jJ:=(fJ.out.get fD.out).1.slots;have gQ:=fun W (hP:PnAt W (lay d) m)=>hP.seesAt;have gH:=hid gQ;clear hs jU gQ;have tok1:True:=trivial
                 go_wp2_with (first
                  | (go_at_call 95;have _t:=tok1;refine fE.mono ?_;rintro e w1 ⟨rfl,fF⟩;have fB:=fP.out w1 fF;have tok2:True:=trivial;clear _t tok1)
                  | (go_at_call 95;have _t:=tok2;refine fB.mono ?_;rintro e w2 ⟨rfl,fS⟩;have fC:=fF.trans (fS.mono fF.size);clear fB _t tok2;have fA:=hH.out.fresh fC;have x2:=fA.c2;have fT:=fA.lookI fG.out (by omega);have fU:=fA.lookI fD.out (by omega);have k6:=(fA.get fG.out).c6;have m6:=(fA.get fD.out).c6;have fK:=(fA.get fG.out).lookN old (by omega);have fM:=(fA.get fD.out).lookN nm (by omega);rw [gI.out] at fK;simp only [orV,Option.isSome_some,zAW] at fK;have fW:=fA.lookI fL.out (by omega);have o0:=(fA.get fL.out).c0;have o1:=(fA.get fL.out).c1;rw [zAz fR.out] at o0;rw [gC.out] at o1;rw [fN.out] at fM;simp only [orV,Option.isSome_some,zAW] at fM;have jI:=fA.lookI gJ.out (by omega);have j0:=(fA.get gJ.out).c0;rw [zAz gG.out] at j0;obtain⟨A5,c5,x5,gZ⟩:=gH.out w2 (fA.get fD.out);have jA:=zBD w2.heap.size A5 c5 nm m.slots w2 gZ (by omega);rw [kA] at jA;have fV:=hid fA;clear fA gZ)
                  | (go_at_call 104;refine jA.mono ?_;rintro e w' ⟨rfl,rfl⟩)
                  | (go_at_call 98;refine (zBJ fV.out fJ.out fD.out fY.out jO jP (by omega)).mono ?_;rintro e w4 ⟨rfl,own4,lay4,gF,gX,jR⟩;have u2:=gF.c2;have jS:=gF.lookI fZ.out (by omega);have gO:=hid gF;have gA:=hid gX;clear gF gX)
                  | (go_at_call 101;refine (zBk gO.out gE.out fZ.out gN.out jQ.out kN).mono ?_;rintro e w5 ⟨rfl,gY,jT⟩;have gP:=hid gY;clear gY)
                  | (go_at_call 102;refine (zDF own4 lay4 p mb j _ v w5 gP.out kE.out lE.out lF.out).mono ?_;rintro e w6 ⟨rfl,lG⟩))
                 go_ret;refine⟨by rw [fI.out];rfl,?_⟩;rw [fI.out];exact zAS.fst (gA.out.back fC.size) (((Chg.of_fresh fC).trans jR (fun _ _ h=>h) (fun _ _ h=>h)).ext (gA.out.back fC.size) jT) lG
           | none =>
            rw [gD] at hu;simp only at hu;have fN:=hid gD;clear gD;by_cases fX:lk=100
            · rw [if_pos fX] at hu;have fI:=hid hu
              have kL:((lk:Int)==100)=true:=by simp;omega
              clear hu fX;have tok1:True:=trivial
              go_wp2_with (first
               | (go_at_call 95;have _t:=tok1;refine fE.mono ?_;rintro e w1 ⟨rfl,fF⟩;have fB:=fP.out w1 fF;have tok2:True:=trivial;clear _t tok1)
               | (go_at_call 95;have _t:=tok2;refine fB.mono ?_;rintro e w2 ⟨rfl,fS⟩;have fC:=fF.trans (fS.mono fF.size);clear fB _t tok2;have fA:=hH.out.fresh fC;have x2:=fA.c2;have fT:=fA.lookI fG.out (by omega);have fU:=fA.lookI fD.out (by omega);have k6:=(fA.get fG.out).c6;have m6:=(fA.get fD.out).c6;have fK:=(fA.get fG.out).lookN old (by omega);have fM:=(fA.get fD.out).lookN nm (by omega);rw [gI.out] at fK;simp only [orV,Option.isSome_some,zAW] at fK;have fW:=fA.lookI fL.out (by omega);have o0:=(fA.get fL.out).c0;have o1:=(fA.get fL.out).c1;rw [zAz fR.out] at o0;rw [gC.out] at o1;rw [fN.out] at fM;simp only [orV,Option.isSome_none] at fM;clear fA))
              go_ret;refine⟨by rw [fI.out];rfl,?_⟩;rw [fI.out];exact .same hH.out fC
            · rw [if_neg fX] at hu
              have kL:((lk:Int)==100)=false:=by simp;omega
              clear fX;have jJ:=(fJ.out.get fD.out).1.slots;have gQ:=fun W (hP:PnAt W (lay d) m)=>hP.seesAt;have gH:=hid gQ;clear gQ;obtain⟨ix,kA⟩:∃ ix,zIs nm m.slots=ix:=⟨_,rfl⟩;have gS:=zBu (T:=T) (n:=m) (nm:=nm) (fJ.out.get fD.out).1;have fH:=fun W hP=>zB5 own lay p mb d T m W hP gK.out fD.out;generalize T.place m=r3 at *;obtain⟨k,e3⟩:=r3;simp only at gS hu fH;unfold zAW at fH;have gM:=hid fH;clear fH;by_cases jD:e3=0
              · subst jD;rw [if_neg (by simp)] at hu;have fQ:=hid (show m.Fit k nm from gS rfl);have gE:=hid (fJ.out.upd (zCy gK.out fD.out fY.out fQ.out jK gR) (fJ.out.get fD.out).2);have jO:=fQ.out.le;have jP:=fQ.out.lt (fJ.out.get fD.out).1;have fZ:=hid (show zAd d (T.upd d (m.set k nm i)).nodes=some (m.set k nm i) from zA8 _ _);have gN:=hid (show (m.set k nm i).dir=true from fY.out);have jQ:=hid (zC2 (j:=i) fQ.out (Ne.symm kD.out) kC.out kO.out);have kE:=hid (gE.out.upd ((gE.out.get fZ.out).1.clear old) (gE.out.get fZ.out).2);rw [zCg fD.out,zCt fZ.out] at hu;have fI:=hid hu;clear hu;clear gS;have tok1:True:=trivial
                go_wp2_with (first
                 | (go_at_call 95;have _t:=tok1;refine fE.mono ?_;rintro e w1 ⟨rfl,fF⟩;have fB:=fP.out w1 fF;have tok2:True:=trivial;clear _t tok1)
                 | (go_at_call 95;have _t:=tok2;refine fB.mono ?_;rintro e w2 ⟨rfl,fS⟩;have fC:=fF.trans (fS.mono fF.size);clear fB _t tok2;have fA:=hH.out.fresh fC;have x2:=fA.c2;have fT:=fA.lookI fG.out (by omega);have fU:=fA.lookI fD.out (by omega);have k6:=(fA.get fG.out).c6;have m6:=(fA.get fD.out).c6;have fK:=(fA.get fG.out).lookN old (by omega);have fM:=(fA.get fD.out).lookN nm (by omega);rw [gI.out] at fK;simp only [orV,Option.isSome_some,zAW] at fK;have fW:=fA.lookI fL.out (by omega);have o0:=(fA.get fL.out).c0;have o1:=(fA.get fL.out).c1;rw [zAz fR.out] at o0;rw [gC.out] at o1;rw [fN.out] at fM;simp only [orV,Option.isSome_none] at fM;obtain⟨A5,c5,x5,gZ⟩:=gH.out w2 (fA.get fD.out);have jA:=zBD w2.heap.size A5 c5 nm m.slots w2 gZ (by omega);rw [kA] at jA;have fV:=hid fA;clear fA gZ)
                 | (go_at_call 104;refine jA.mono ?_;rintro e w' ⟨rfl,rfl⟩)
                 | (go_at_call 97;refine (gM.out w2 fV.out).mono ?_;rintro e w4p ⟨rfl,jF⟩;have fO:=fC.trans (jF.mono fC.size);have gU:=hH.out.fresh fO;have y2:=gU.c2;have kG:=gU.lookI fD.out (by omega);have jG:=hid gU;clear gU)
                 | (go_at_call 98;refine (zBJ jG.out fJ.out fD.out fY.out jO jP (by omega)).mono ?_;rintro e w4 ⟨rfl,own4,lay4,gF,gX,jR⟩;have u2:=gF.c2;have jS:=gF.lookI fZ.out (by omega);have gO:=hid gF;have gA:=hid gX;clear gF gX)
                 | (go_at_call 101;refine (zBk gO.out gE.out fZ.out gN.out jQ.out kN).mono ?_;rintro e w5 ⟨rfl,gY,jT⟩;have gP:=hid gY;clear gY))
                go_ret;refine⟨by rw [fI.out];rfl,?_⟩;rw [fI.out];exact .of gP.out (gA.out.back fO.size) (((Chg.of_fresh fO).trans jR (fun _ _ h=>h) (fun _ _ h=>h)).ext (gA.out.back fO.size) jT)
              · rw [if_pos jD] at hu;have fI:=hid hu
                have kI:((e3:Int) != 0)=true:=by simp;omega
                clear hu gS jD;have tok1:True:=trivial
                go_wp2_with (first
                 | (go_at_call 95;have _t:=tok1;refine fE.mono ?_;rintro e w1 ⟨rfl,fF⟩;have fB:=fP.out w1 fF;have tok2:True:=trivial;clear _t tok1)
                 | (go_at_call 95;have _t:=tok2;refine fB.mono ?_;rintro e w2 ⟨rfl,fS⟩;have fC:=fF.trans (fS.mono fF.size);clear fB _t tok2;have fA:=hH.out.fresh fC;have x2:=fA.c2;have fT:=fA.lookI fG.out (by omega);have fU:=fA.lookI fD.out (by omega);have k6:=(fA.get fG.out).c6;have m6:=(fA.get fD.out).c6;have fK:=(fA.get fG.out).lookN old (by omega);have fM:=(fA.get fD.out).lookN nm (by omega);rw [gI.out] at fK;simp only [orV,Option.isSome_some,zAW] at fK;have fW:=fA.lookI fL.out (by omega);have o0:=(fA.get fL.out).c0;have o1:=(fA.get fL.out).c1;rw [zAz fR.out] at o0;rw [gC.out] at o1;rw [fN.out] at fM;simp only [orV,Option.isSome_none] at fM;obtain⟨A5,c5,x5,gZ⟩:=gH.out w2 (fA.get fD.out);have jA:=zBD w2.heap.size A5 c5 nm m.slots w2 gZ (by omega);rw [kA] at jA;have fV:=hid fA;clear fA gZ)
                 | (go_at_call 104;refine jA.mono ?_;rintro e w' ⟨rfl,rfl⟩)
                 | (go_at_call 97;refine (gM.out w2 fV.out).mono ?_;rintro e w4p ⟨rfl,jF⟩;have fO:=fC.trans (jF.mono fC.size)))
                go_ret;refine⟨by rw [fI.out];rfl,?_⟩;rw [fI.out];exact .same hH.out fO
        · have lL:((d:Int)==(t:Int))=false:=by simp;omega
          have kM:=hid lB;clear gV lB
          cases jC:o.dir with
          | true =>
           rw [jC,if_pos rfl] at hu;have fR:=hid jC;have lC:=hid (show T.isDir i=true by rw [zAn fL.out,jC]);clear jC
           cases gD:zAd nm m.names with
           | some j =>
            rw [gD,if_pos (show (some j).isSome=true from rfl)] at hu;have fI:=hid hu;have fN:=hid gD;clear hu gD;have tok1:True:=trivial
            go_wp2_with (first
             | (go_at_call 95;have _t:=tok1;refine fE.mono ?_;rintro e w1 ⟨rfl,fF⟩;have fB:=fP.out w1 fF;have tok2:True:=trivial;clear _t tok1)
             | (go_at_call 95;have _t:=tok2;refine fB.mono ?_;rintro e w2 ⟨rfl,fS⟩;have fC:=fF.trans (fS.mono fF.size);clear fB _t tok2;have fA:=hH.out.fresh fC;have x2:=fA.c2;have fT:=fA.lookI fG.out (by omega);have fU:=fA.lookI fD.out (by omega);have k6:=(fA.get fG.out).c6;have m6:=(fA.get fD.out).c6;have fK:=(fA.get fG.out).lookN old (by omega);have fM:=(fA.get fD.out).lookN nm (by omega);rw [gI.out] at fK;simp only [orV,Option.isSome_some,zAW] at fK;have fW:=fA.lookI fL.out (by omega);have o0:=(fA.get fL.out).c0;have o1:=(fA.get fL.out).c1;rw [zA1 fR.out] at o0;rw [fN.out] at fM;simp only [orV,Option.isSome_some,zAW] at fM;clear fA))
            go_ret;refine⟨by rw [fI.out];rfl,?_⟩;rw [fI.out];exact .same hH.out fC
           | none =>
            rw [gD,if_neg (by simp)] at hu;have fN:=hid gD;clear gD;obtain⟨rk,kQ⟩:=gK.out.rank;have jM:=fun W hP=>zFt own lay p mb T gK.out rk kQ _ (fun j hj=>T.rk_le rk hj) t (by omega) ((T.nodes.map fun p=>rk p.1).sum+1) i W lC.out (by omega) hP;have gL:=hid jM;clear jM kQ;by_cases hU:T.Und t i
            · rw [if_pos hU] at hu;have fI:=hid hu;have jY:∀ b:Bool,(b=true↔T.Und t i)→b=true:=fun b hb=>hb.2 hU;clear hu hU;have tok1:True:=trivial
              go_wp2_with (first
               | (go_at_call 95;have _t:=tok1;refine fE.mono ?_;rintro e w1 ⟨rfl,fF⟩;have fB:=fP.out w1 fF;have tok2:True:=trivial;clear _t tok1)
               | (go_at_call 95;have _t:=tok2;refine fB.mono ?_;rintro e w2 ⟨rfl,fS⟩;have fC:=fF.trans (fS.mono fF.size);clear fB _t tok2;have fA:=hH.out.fresh fC;have x2:=fA.c2;have fT:=fA.lookI fG.out (by omega);have fU:=fA.lookI fD.out (by omega);have k6:=(fA.get fG.out).c6;have m6:=(fA.get fD.out).c6;have fK:=(fA.get fG.out).lookN old (by omega);have fM:=(fA.get fD.out).lookN nm (by omega);rw [gI.out] at fK;simp only [orV,Option.isSome_some,zAW] at fK;have fW:=fA.lookI fL.out (by omega);have o0:=(fA.get fL.out).c0;have o1:=(fA.get fL.out).c1;rw [zA1 fR.out] at o0;rw [fN.out] at fM;simp only [orV,Option.isSome_none] at fM;have fV:=hid fA;clear fA)
               | (go_at_call 103;refine (gL.out w2 fV.out).mono ?_;rintro e w3 ⟨⟨b,rfl,gW⟩,jN⟩;obtain rfl:b=true:=jY b gW;clear gW;skip))
              go_ret;refine⟨by rw [fI.out];rfl,?_⟩;rw [fI.out];exact .same hH.out (fC.trans (jN.mono fC.size))
            · rw [if_neg hU] at hu
              have jY:∀ b:Bool,(b=true↔T.Und t i)→b=false:=fun b hb=>by cases b;rfl;exact absurd (hb.1 rfl) hU
              clear hU;have gS:=zBu (T:=T) (n:=m) (nm:=nm) (fJ.out.get fD.out).1;have fH:=fun W hP=>zB5 own lay p mb t T m W hP gK.out fD.out;generalize T.place m=r3 at *;obtain⟨k,e3⟩:=r3;simp only at gS hu fH;unfold zAW at fH;have gM:=hid fH;clear fH;by_cases jD:e3=0
              · subst jD;rw [if_neg (by simp)] at hu;have fQ:=hid (show m.Fit k nm from gS rfl);have gE:=hid (fJ.out.upd (zCy gK.out fD.out fY.out fQ.out jK gR) (fJ.out.get fD.out).2);have jO:=fQ.out.le;have jP:=fQ.out.lt (fJ.out.get fD.out).1;have fZ:=hid (show zAd d (T.upd t (m.set k nm i)).nodes=some n from (zAm _ kM.out).trans fG.out);have gN:=jX;have jQ:=kO;have kE:=hid (gE.out.upd ((gE.out.get fZ.out).1.clear old) (gE.out.get fZ.out).2);rw [zCg fD.out,zCt fZ.out] at hu;have fI:=hid hu;clear hu;clear gS;have tok1:True:=trivial
                go_wp2_with (first
                 | (go_at_call 95;have _t:=tok1;refine fE.mono ?_;rintro e w1 ⟨rfl,fF⟩;have fB:=fP.out w1 fF;have tok2:True:=trivial;clear _t tok1)
                 | (go_at_call 95;have _t:=tok2;refine fB.mono ?_;rintro e w2 ⟨rfl,fS⟩;have fC:=fF.trans (fS.mono fF.size);clear fB _t tok2;have fA:=hH.out.fresh fC;have x2:=fA.c2;have fT:=fA.lookI fG.out (by omega);have fU:=fA.lookI fD.out (by omega);have k6:=(fA.get fG.out).c6;have m6:=(fA.get fD.out).c6;have fK:=(fA.get fG.out).lookN old (by omega);have fM:=(fA.get fD.out).lookN nm (by omega);rw [gI.out] at fK;simp only [orV,Option.isSome_some,zAW] at fK;have fW:=fA.lookI fL.out (by omega);have o0:=(fA.get fL.out).c0;have o1:=(fA.get fL.out).c1;rw [zA1 fR.out] at o0;rw [fN.out] at fM;simp only [orV,Option.isSome_none] at fM;have fV:=hid fA;clear fA)
                 | (go_at_call 103;refine (gL.out w2 fV.out).mono ?_;rintro e w3 ⟨⟨b,rfl,gW⟩,jN⟩;obtain rfl:b=false:=jY b gW;clear gW;have gB:=fC.trans (jN.mono fC.size);have gT:=hH.out.fresh gB;have v2:=gT.c2;have kF:=gT.lookI fD.out (by omega);have jE:=hid gT;clear gT)
                 | (go_at_call 97;refine (gM.out w3 jE.out).mono ?_;rintro e w4p ⟨rfl,jF⟩;have fO:=gB.trans (jF.mono gB.size);have gU:=hH.out.fresh fO;have y2:=gU.c2;have kG:=gU.lookI fD.out (by omega);have jG:=hid gU;clear gU)
                 | (go_at_call 98;refine (zBJ jG.out fJ.out fD.out fY.out jO jP (by omega)).mono ?_;rintro e w4 ⟨rfl,own4,lay4,gF,gX,jR⟩;have u2:=gF.c2;have jS:=gF.lookI fZ.out (by omega);have gO:=hid gF;have gA:=hid gX;clear gF gX)
                 | (go_at_call 101;refine (zBk gO.out gE.out fZ.out gN.out jQ.out kN).mono ?_;rintro e w5 ⟨rfl,gY,jT⟩;have gP:=hid gY;clear gY))
                go_ret;refine⟨by rw [fI.out];rfl,?_⟩;rw [fI.out];exact .of gP.out (gA.out.back fO.size) (((Chg.of_fresh fO).trans jR (fun _ _ h=>h) (fun _ _ h=>h)).ext (gA.out.back fO.size) jT)
              · rw [if_pos jD] at hu;have fI:=hid hu
                have kI:((e3:Int) != 0)=true:=by simp;omega
                clear hu gS jD;have tok1:True:=trivial
                go_wp2_with (first
                 | (go_at_call 95;have _t:=tok1;refine fE.mono ?_;rintro e w1 ⟨rfl,fF⟩;have fB:=fP.out w1 fF;have tok2:True:=trivial;clear _t tok1)
                 | (go_at_call 95;have _t:=tok2;refine fB.mono ?_;rintro e w2 ⟨rfl,fS⟩;have fC:=fF.trans (fS.mono fF.size);clear fB _t tok2;have fA:=hH.out.fresh fC;have x2:=fA.c2;have fT:=fA.lookI fG.out (by omega);have fU:=fA.lookI fD.out (by omega);have k6:=(fA.get fG.out).c6;have m6:=(fA.get fD.out).c6;have fK:=(fA.get fG.out).lookN old (by omega);have fM:=(fA.get fD.out).lookN nm (by omega);rw [gI.out] at fK;simp only [orV,Option.isSome_some,zAW] at fK;have fW:=fA.lookI fL.out (by omega);have o0:=(fA.get fL.out).c0;have o1:=(fA.get fL.out).c1;rw [zA1 fR.out] at o0;rw [fN.out] at fM;simp only [orV,Option.isSome_none] at fM;have fV:=hid fA;clear fA)
                 | (go_at_call 103;refine (gL.out w2 fV.out).mono ?_;rintro e w3 ⟨⟨b,rfl,gW⟩,jN⟩;obtain rfl:b=false:=jY b gW;clear gW;have gB:=fC.trans (jN.mono fC.size);have gT:=hH.out.fresh gB;have v2:=gT.c2;have kF:=gT.lookI fD.out (by omega);have jE:=hid gT;clear gT)
                 | (go_at_call 97;refine (gM.out w3 jE.out).mono ?_;rintro e w4p ⟨rfl,jF⟩;have fO:=gB.trans (jF.mono gB.size)))
                go_ret;refine⟨by rw [fI.out];rfl,?_⟩;rw [fI.out];exact .same hH.out fO
          | false =>
           rw [jC,if_neg (by simp)] at hu;have fR:=hid jC;clear jC;obtain⟨lk,jH⟩:∃ lk,o.links=lk:=⟨_,rfl⟩;have gC:=hid jH;rw [jH] at hu kP;clear jH
           cases gD:zAd nm m.names with
           | some j =>
            rw [gD] at hu;simp only at hu;have fN:=hid gD;obtain⟨v,hv⟩:=gK.out.ents t m nm j fD.out gD;have gJ:=hid hv;have kJ:=fJ.out.get hv
            have kR:j≤512:=by omega
            rw [zAn hv] at hu;clear gD kJ hv
            cases jL:v.dir with
            | true =>
             rw [jL,if_pos rfl] at hu;have fI:=hid hu;have gG:=hid jL;clear hu jL;have tok1:True:=trivial
             go_wp2_with (first
              | (go_at_call 95;have _t:=tok1;refine fE.mono ?_;rintro e w1 ⟨rfl,fF⟩;have fB:=fP.out w1 fF;have tok2:True:=trivial;clear _t tok1)
              | (go_at_call 95;have _t:=tok2;refine fB.mono ?_;rintro e w2 ⟨rfl,fS⟩;have fC:=fF.trans (fS.mono fF.size);clear fB _t tok2;have fA:=hH.out.fresh fC;have x2:=fA.c2;have fT:=fA.lookI fG.out (by omega);have fU:=fA.lookI fD.out (by omega);have k6:=(fA.get fG.out).c6;have m6:=(fA.get fD.out).c6;have fK:=(fA.get fG.out).lookN old (by omega);have fM:=(fA.get fD.out).lookN nm (by omega);rw [gI.out] at fK;simp only [orV,Option.isSome_some,zAW] at fK;have fW:=fA.lookI fL.out (by omega);have o0:=(fA.get fL.out).c0;have o1:=(fA.get fL.out).c1;rw [zAz fR.out] at o0;rw [gC.out] at o1;rw [fN.out] at fM;simp only [orV,Option.isSome_some,zAW] at fM;have jI:=fA.lookI gJ.out (by omega);have j0:=(fA.get gJ.out).c0;rw [zA1 gG.out] at j0;clear fA))
             go_ret;refine⟨by rw [fI.out];rfl,?_⟩;rw [fI.out];exact .same hH.out fC
            | false =>
             rw [jL,if_neg (by simp)] at hu;have gG:=hid jL;clear jL;by_cases jZ:i=j
             · subst jZ;rw [if_pos rfl] at hu;have fI:=hid hu
               have kK:((i:Int)==(i:Int))=true:=by simp
               clear hu;have tok1:True:=trivial
               go_wp2_with (first
                | (go_at_call 95;have _t:=tok1;refine fE.mono ?_;rintro e w1 ⟨rfl,fF⟩;have fB:=fP.out w1 fF;have tok2:True:=trivial;clear _t tok1)
                | (go_at_call 95;have _t:=tok2;refine fB.mono ?_;rintro e w2 ⟨rfl,fS⟩;have fC:=fF.trans (fS.mono fF.size);clear fB _t tok2;have fA:=hH.out.fresh fC;have x2:=fA.c2;have fT:=fA.lookI fG.out (by omega);have fU:=fA.lookI fD.out (by omega);have k6:=(fA.get fG.out).c6;have m6:=(fA.get fD.out).c6;have fK:=(fA.get fG.out).lookN old (by omega);have fM:=(fA.get fD.out).lookN nm (by omega);rw [gI.out] at fK;simp only [orV,Option.isSome_some,zAW] at fK;have fW:=fA.lookI fL.out (by omega);have o0:=(fA.get fL.out).c0;have o1:=(fA.get fL.out).c1;rw [zAz fR.out] at o0;rw [gC.out] at o1;rw [fN.out] at fM;simp only [orV,Option.isSome_some,zAW] at fM;have jI:=fA.lookI gJ.out (by omega);have j0:=(fA.get gJ.out).c0;rw [zAz gG.out] at j0;clear fA))
               go_ret;refine⟨by rw [fI.out];rfl,?_⟩;rw [fI.out];exact .same hH.out fC
             · rw [if_neg jZ] at hu
               have kK:((i:Int)==(j:Int))=false:=by simp;omega
               have lD:=hid jZ;clear jZ;by_cases fX:lk=100
               · rw [if_pos fX] at hu;have fI:=hid hu
                 have kL:((lk:Int)==100)=true:=by simp;omega
                 clear hu fX;have tok1:True:=trivial
                 go_wp2_with (first
                  | (go_at_call 95;have _t:=tok1;refine fE.mono ?_;rintro e w1 ⟨rfl,fF⟩;have fB:=fP.out w1 fF;have tok2:True:=trivial;clear _t tok1)
                  | (go_at_call 95;have _t:=tok2;refine fB.mono ?_;rintro e w2 ⟨rfl,fS⟩;have fC:=fF.trans (fS.mono fF.size);clear fB _t tok2;have fA:=hH.out.fresh fC;have x2:=fA.c2;have fT:=fA.lookI fG.out (by omega);have fU:=fA.lookI fD.out (by omega);have k6:=(fA.get fG.out).c6;have m6:=(fA.get fD.out).c6;have fK:=(fA.get fG.out).lookN old (by omega);have fM:=(fA.get fD.out).lookN nm (by omega);rw [gI.out] at fK;simp only [orV,Option.isSome_some,zAW] at fK;have fW:=fA.lookI fL.out (by omega);have o0:=(fA.get fL.out).c0;have o1:=(fA.get fL.out).c1;rw [zAz fR.out] at o0;rw [gC.out] at o1;rw [fN.out] at fM;simp only [orV,Option.isSome_some,zAW] at fM;have jI:=fA.lookI gJ.out (by omega);have j0:=(fA.get gJ.out).c0;rw [zAz gG.out] at j0;clear fA))
                 go_ret;refine⟨by rw [fI.out];rfl,?_⟩;rw [fI.out];exact .same hH.out fC
               · rw [if_neg fX] at hu
                 have kL:((lk:Int)==100)=false:=by simp;omega
                 clear fX;obtain⟨s,hs⟩:=gK.out.slotn t m nm j fD.out fN.out;rw [hs] at hu;simp only [Option.getD_some] at hu;have kA:=zEM hs;have jU:=(zAV hs);have fQ:=hid (show m.Fit s nm from by exact .inr (.inr ⟨by rw [fN.out];rfl,jU.2⟩));have gE:=hid (fJ.out.upd (zCy gK.out fD.out fY.out fQ.out jK gR) (fJ.out.get fD.out).2);have jO:=fQ.out.le;have jP:=fQ.out.lt (fJ.out.get fD.out).1;have fZ:=hid (show zAd d (T.upd t (m.set s nm i)).nodes=some n from (zAm _ kM.out).trans fG.out);have gN:=jX;have jQ:=kO;have kE:=hid (gE.out.upd ((gE.out.get fZ.out).1.clear old) (gE.out.get fZ.out).2);rw [zCg fD.out,zCt fZ.out] at hu;have fI:=hid hu;clear hu
                 have kT:j≠d:=fun e=>by have h1:=gJ.out;rw [e,fG.out] at h1;have h1:=Option.some.inj h1;have h2:=gG.out;rw [←h1,jX.out] at h2;cases h2
                 have lQ:j≠t:=fun e=>by have h1:=gJ.out;rw [e,fD.out] at h1;have h1:=Option.some.inj h1;have h2:=gG.out;rw [←h1,fY.out] at h2;cases h2
                 have lE:=hid (show zAd j ((T.upd t (m.set s nm i)).upd d (n.clear old)).nodes=some v from (zAm _ kT).trans ((zAm _ lQ).trans gJ.out));have lF:=hid (gK.out.lnk j v gJ.out);have jJ:=(fJ.out.get fD.out).1.slots;have gQ:=fun W (hP:PnAt W (lay t) m)=>hP.seesAt;have gH:=hid gQ;clear hs jU gQ;have tok1:True:=trivial
                 go_wp2_with (first
                  | (go_at_call 95;have _t:=tok1;refine fE.mono ?_;rintro e w1 ⟨rfl,fF⟩;have fB:=fP.out w1 fF;have tok2:True:=trivial;clear _t tok1)
                  | (go_at_call 95;have _t:=tok2;refine fB.mono ?_;rintro e w2 ⟨rfl,fS⟩;have fC:=fF.trans (fS.mono fF.size);clear fB _t tok2;have fA:=hH.out.fresh fC;have x2:=fA.c2;have fT:=fA.lookI fG.out (by omega);have fU:=fA.lookI fD.out (by omega);have k6:=(fA.get fG.out).c6;have m6:=(fA.get fD.out).c6;have fK:=(fA.get fG.out).lookN old (by omega);have fM:=(fA.get fD.out).lookN nm (by omega);rw [gI.out] at fK;simp only [orV,Option.isSome_some,zAW] at fK;have fW:=fA.lookI fL.out (by omega);have o0:=(fA.get fL.out).c0;have o1:=(fA.get fL.out).c1;rw [zAz fR.out] at o0;rw [gC.out] at o1;rw [fN.out] at fM;simp only [orV,Option.isSome_some,zAW] at fM;have jI:=fA.lookI gJ.out (by omega);have j0:=(fA.get gJ.out).c0;rw [zAz gG.out] at j0;obtain⟨A5,c5,x5,gZ⟩:=gH.out w2 (fA.get fD.out);have jA:=zBD w2.heap.size A5 c5 nm m.slots w2 gZ (by omega);rw [kA] at jA;have fV:=hid fA;clear fA gZ)
                  | (go_at_call 104;refine jA.mono ?_;rintro e w' ⟨rfl,rfl⟩)
                  | (go_at_call 98;refine (zBJ fV.out fJ.out fD.out fY.out jO jP (by omega)).mono ?_;rintro e w4 ⟨rfl,own4,lay4,gF,gX,jR⟩;have u2:=gF.c2;have jS:=gF.lookI fZ.out (by omega);have gO:=hid gF;have gA:=hid gX;clear gF gX)
                  | (go_at_call 101;refine (zBk gO.out gE.out fZ.out gN.out jQ.out kN).mono ?_;rintro e w5 ⟨rfl,gY,jT⟩;have gP:=hid gY;clear gY)
                  | (go_at_call 102;refine (zDF own4 lay4 p mb j _ v w5 gP.out kE.out lE.out lF.out).mono ?_;rintro e w6 ⟨rfl,lG⟩))
                 go_ret;refine⟨by rw [fI.out];rfl,?_⟩;rw [fI.out];exact zAS.fst (gA.out.back fC.size) (((Chg.of_fresh fC).trans jR (fun _ _ h=>h) (fun _ _ h=>h)).ext (gA.out.back fC.size) jT) lG
           | none =>
            rw [gD] at hu;simp only at hu;have fN:=hid gD;clear gD;by_cases fX:lk=100
            · rw [if_pos fX] at hu;have fI:=hid hu
              have kL:((lk:Int)==100)=true:=by simp;omega
              clear hu fX;have tok1:True:=trivial
              go_wp2_with (first
               | (go_at_call 95;have _t:=tok1;refine fE.mono ?_;rintro e w1 ⟨rfl,fF⟩;have fB:=fP.out w1 fF;have tok2:True:=trivial;clear _t tok1)
               | (go_at_call 95;have _t:=tok2;refine fB.mono ?_;rintro e w2 ⟨rfl,fS⟩;have fC:=fF.trans (fS.mono fF.size);clear fB _t tok2;have fA:=hH.out.fresh fC;have x2:=fA.c2;have fT:=fA.lookI fG.out (by omega);have fU:=fA.lookI fD.out (by omega);have k6:=(fA.get fG.out).c6;have m6:=(fA.get fD.out).c6;have fK:=(fA.get fG.out).lookN old (by omega);have fM:=(fA.get fD.out).lookN nm (by omega);rw [gI.out] at fK;simp only [orV,Option.isSome_some,zAW] at fK;have fW:=fA.lookI fL.out (by omega);have o0:=(fA.get fL.out).c0;have o1:=(fA.get fL.out).c1;rw [zAz fR.out] at o0;rw [gC.out] at o1;rw [fN.out] at fM;simp only [orV,Option.isSome_none] at fM;clear fA))
              go_ret;refine⟨by rw [fI.out];rfl,?_⟩;rw [fI.out];exact .same hH.out fC
            · rw [if_neg fX] at hu
              have kL:((lk:Int)==100)=false:=by simp;omega
              clear fX;have jJ:=(fJ.out.get fD.out).1.slots;have gQ:=fun W (hP:PnAt W (lay t) m)=>hP.seesAt;have gH:=hid gQ;clear gQ;obtain⟨ix,kA⟩:∃ ix,zIs nm m.slots=ix:=⟨_,rfl⟩;have gS:=zBu (T:=T) (n:=m) (nm:=nm) (fJ.out.get fD.out).1;have fH:=fun W hP=>zB5 own lay p mb t T m W hP gK.out fD.out;generalize T.place m=r3 at *;obtain⟨k,e3⟩:=r3;simp only at gS hu fH;unfold zAW at fH;have gM:=hid fH;clear fH;by_cases jD:e3=0
              · subst jD;rw [if_neg (by simp)] at hu;have fQ:=hid (show m.Fit k nm from gS rfl);have gE:=hid (fJ.out.upd (zCy gK.out fD.out fY.out fQ.out jK gR) (fJ.out.get fD.out).2);have jO:=fQ.out.le;have jP:=fQ.out.lt (fJ.out.get fD.out).1;have fZ:=hid (show zAd d (T.upd t (m.set k nm i)).nodes=some n from (zAm _ kM.out).trans fG.out);have gN:=jX;have jQ:=kO;have kE:=hid (gE.out.upd ((gE.out.get fZ.out).1.clear old) (gE.out.get fZ.out).2);rw [zCg fD.out,zCt fZ.out] at hu;have fI:=hid hu;clear hu;clear gS;have tok1:True:=trivial
                go_wp2_with (first
                 | (go_at_call 95;have _t:=tok1;refine fE.mono ?_;rintro e w1 ⟨rfl,fF⟩;have fB:=fP.out w1 fF;have tok2:True:=trivial;clear _t tok1)
                 | (go_at_call 95;have _t:=tok2;refine fB.mono ?_;rintro e w2 ⟨rfl,fS⟩;have fC:=fF.trans (fS.mono fF.size);clear fB _t tok2;have fA:=hH.out.fresh fC;have x2:=fA.c2;have fT:=fA.lookI fG.out (by omega);have fU:=fA.lookI fD.out (by omega);have k6:=(fA.get fG.out).c6;have m6:=(fA.get fD.out).c6;have fK:=(fA.get fG.out).lookN old (by omega);have fM:=(fA.get fD.out).lookN nm (by omega);rw [gI.out] at fK;simp only [orV,Option.isSome_some,zAW] at fK;have fW:=fA.lookI fL.out (by omega);have o0:=(fA.get fL.out).c0;have o1:=(fA.get fL.out).c1;rw [zAz fR.out] at o0;rw [gC.out] at o1;rw [fN.out] at fM;simp only [orV,Option.isSome_none] at fM;obtain⟨A5,c5,x5,gZ⟩:=gH.out w2 (fA.get fD.out);have jA:=zBD w2.heap.size A5 c5 nm m.slots w2 gZ (by omega);rw [kA] at jA;have fV:=hid fA;clear fA gZ)
                 | (go_at_call 104;refine jA.mono ?_;rintro e w' ⟨rfl,rfl⟩)
                 | (go_at_call 97;refine (gM.out w2 fV.out).mono ?_;rintro e w4p ⟨rfl,jF⟩;have fO:=fC.trans (jF.mono fC.size);have gU:=hH.out.fresh fO;have y2:=gU.c2;have kG:=gU.lookI fD.out (by omega);have jG:=hid gU;clear gU)
                 | (go_at_call 98;refine (zBJ jG.out fJ.out fD.out fY.out jO jP (by omega)).mono ?_;rintro e w4 ⟨rfl,own4,lay4,gF,gX,jR⟩;have u2:=gF.c2;have jS:=gF.lookI fZ.out (by omega);have gO:=hid gF;have gA:=hid gX;clear gF gX)
                 | (go_at_call 101;refine (zBk gO.out gE.out fZ.out gN.out jQ.out kN).mono ?_;rintro e w5 ⟨rfl,gY,jT⟩;have gP:=hid gY;clear gY))
                go_ret;refine⟨by rw [fI.out];rfl,?_⟩;rw [fI.out];exact .of gP.out (gA.out.back fO.size) (((Chg.of_fresh fO).trans jR (fun _ _ h=>h) (fun _ _ h=>h)).ext (gA.out.back fO.size) jT)
              · rw [if_pos jD] at hu;have fI:=hid hu
                have kI:((e3:Int) != 0)=true:=by simp;omega
                clear hu gS jD;have tok1:True:=trivial
                go_wp2_with (first
                 | (go_at_call 95;have _t:=tok1;refine fE.mono ?_;rintro e w1 ⟨rfl,fF⟩;have fB:=fP.out w1 fF;have tok2:True:=trivial;clear _t tok1)
                 | (go_at_call 95;have _t:=tok2;refine fB.mono ?_;rintro e w2 ⟨rfl,fS⟩;have fC:=fF.trans (fS.mono fF.size);clear fB _t tok2;have fA:=hH.out.fresh fC;have x2:=fA.c2;have fT:=fA.lookI fG.out (by omega);have fU:=fA.lookI fD.out (by omega);have k6:=(fA.get fG.out).c6;have m6:=(fA.get fD.out).c6;have fK:=(fA.get fG.out).lookN old (by omega);have fM:=(fA.get fD.out).lookN nm (by omega);rw [gI.out] at fK;simp only [orV,Option.isSome_some,zAW] at fK;have fW:=fA.lookI fL.out (by omega);have o0:=(fA.get fL.out).c0;have o1:=(fA.get fL.out).c1;rw [zAz fR.out] at o0;rw [gC.out] at o1;rw [fN.out] at fM;simp only [orV,Option.isSome_none] at fM;obtain⟨A5,c5,x5,gZ⟩:=gH.out w2 (fA.get fD.out);have jA:=zBD w2.heap.size A5 c5 nm m.slots w2 gZ (by omega);rw [kA] at jA;have fV:=hid fA;clear fA gZ)
                 | (go_at_call 104;refine jA.mono ?_;rintro e w' ⟨rfl,rfl⟩)
                 | (go_at_call 97;refine (gM.out w2 fV.out).mono ?_;rintro e w4p ⟨rfl,jF⟩;have fO:=fC.trans (jF.mono fC.size)))
                go_ret;refine⟨by rw [fI.out];rfl,?_⟩;rw [fI.out];exact .same hH.out fO
   · rw [if_pos kZ] at hu;have fI:=hid hu
     have lR:((e2:Int) != 0)=true:=by simp;omega
     clear hu jW kZ;have tok1:True:=trivial
     go_wp2_with (first
      | (go_at_call 95;have _t:=tok1;refine fE.mono ?_;rintro e w1 ⟨rfl,fF⟩;have fB:=fP.out w1 fF;have tok2:True:=trivial;clear _t tok1)
      | (go_at_call 95;have _t:=tok2;refine fB.mono ?_;rintro e w2 ⟨rfl,fS⟩;have fC:=fF.trans (fS.mono fF.size);clear fB _t tok2;skip))
     go_ret;refine⟨by rw [fI.out];rfl,?_⟩;rw [fI.out];exact .same hH.out fC
 · rw [if_pos kY] at hu;have fI:=hid hu
   have lS:((e1:Int) != 0)=true:=by simp;omega
   clear hu jV kY;have tok1:True:=trivial
   go_wp2_with (first
    | (go_at_call 95;have _t:=tok1;refine fE.mono ?_;rintro e w1 ⟨rfl,fF⟩;clear _t tok1))
   go_ret;refine⟨by rw [fI.out];rfl,?_⟩;rw [fI.out];exact .same hH.out fF
end Go.Proofs.YtolpcfhfcdkokaaGreatDoor
