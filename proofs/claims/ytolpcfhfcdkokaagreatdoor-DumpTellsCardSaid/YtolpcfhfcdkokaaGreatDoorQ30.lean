/- Joined out of PDo..PDo. -/
import Derived.Test.YtolpcfhfcdkokaaGreatDoorQ28
set_option maxHeartbeats 16000000
set_option maxRecDepth 100000
namespace Go.Proofs.YtolpcfhfcdkokaaGreatDoor
open Lib (hid)
open Go.RowKit Go.Proofs
theorem zBO.fresh {w w1:World} {v:Value} {a:Ans} (h:zBO w v a) (hb:Below w.heap.size w w1):zBO w1 v a:=by
 obtain⟨dA,dc,eA,ec,h1,h2,h3⟩:=h;exact⟨dA,dc,eA,ec,h1,(h2.below hb).more hb.size,(h3.below hb).more hb.size⟩
theorem nmAt_spl {w':World} {x:ByteArray} {A:Option Addr} {c:Nat} (hx:x.size≤100000000) (h1:(spl x).1.length≤c) (h2:c≤x.size+1) (hs:Sees w' w'.heap.size 1 A (spl x).1.length (strs (spl x).1)):NmAt w' w'.heap.size A c (spl x).1 :=
 ⟨hs,by by_cases hz:400<x.size;(rw [spl_long hz];simp);omega,h1,fun y hy=>zC5 (zEQ x y hy)⟩
theorem zEt (w:World) (B:Nat):NmAt w B none 0 []:=⟨Sees.nil,by simp,by simp,by simp⟩
theorem zAS.then_ {own:Nat→Option Role} {p mb:Nat} {T':PT} {w w1 w2:World} (h:zAS own p mb T' w w1) (hb:Below w1.heap.size w1 w2):zAS own p mb T' w w2:=by
 obtain⟨own',lay',h1,h2,h3⟩:=h;exact⟨own',lay',h1.fresh hb,h2,h3.trans (Chg.of_fresh hb) (fun _ _ h=>h) fun _ _ h=>h⟩
def SplQ (_x:ByteArray) (l:List ByteArray) (e1:Nat) (w:World) (e:Ending) (w':World):Prop :=
 (∃ A c,e=.returned (.tuple #[.slice A l.length c,.int .i64 (e1:Int)])∧NmAt w' w'.heap.size A c l)∧Below w.heap.size w w'
theorem splQ_of {x:ByteArray} {l:List ByteArray} {e1:Nat} (hr:spl x=(l,e1)) (hx:x.size≤100000000) {w w':World} {e:Ending} (h:SplP x w e w'):SplQ x l e1 w e w':=by
 obtain⟨⟨A,c,h1,h2,h3,h4⟩,hb⟩:=h;have h5:=nmAt_spl hx h2 h3 h4;rw [hr] at h1 h5;exact⟨⟨A,c,h1,h5⟩,hb⟩
theorem zF7 (x:ByteArray) (l:List ByteArray) (e1:Nat) (m0:Int) (w:World) (hr:spl x=(l,e1)) (hx:x.size≤100000000) (hm:w.cell? ⟨0,0,none⟩=some (.int .i64 m0)) :
 Calls Tryz.prog 42 #[.string x] w (SplQ x l e1 w):=(zJo x m0 w (by omega) hm).mono fun _ _ h=>splQ_of hr hx h
structure OpAt (w:World) (B:Nat) (o:Opn) (A:Option Addr) (c:Nat):Prop where
 sees:Sees w B 1 A o.data.length (bvs o.data)
 cap:o.data.length≤c
 len:o.data.length<1000000000000
 off:o.off≤9223372036854775807∧-9223372036854775808≤o.off
 most:o.len≤9223372036854775807∧-9223372036854775808≤o.len
 path:o.path.size≤100000000
 dst:o.dst.size≤100000000
theorem pdo_any (own:Nat→Option Role) (lay:Nat→NA) (p mb:Nat) (T:PT) (o:Opn) (A:Option Addr) (c:Nat) (m0:Int) (w:World) (h:PlainAt w own lay p mb T) (hT:T.Wf) (jL:OpAt w w.heap.size o A c) (hm:w.cell? ⟨0,0,none⟩=some (.int .i64 m0)) :
 Calls Tryz.prog 24 #[.pointer (some ⟨p,0,none⟩),opV o A c] w (AnsP own p mb (T.run o) w):=by
 have hu:=PT.run.eq_1 T o;have jM:own (w.heap.size+1)=none:=h.free (by omega);unfold opV;go_enter Tryz.func24,Tryz.ntmps24;go_upto_region 1 with (fail);have jD:Blk ((w.alloc (.cells (opC o A c).toArray 70)).alloc (.cells zAs.toArray 67)) w.heap.size 70 (opC o A c):=(Blk.new w _ _).alloc _
 have jE:Blk ((w.alloc (.cells (opC o A c).toArray 70)).alloc (.cells zAs.toArray 67)) (w.heap.size+1) 67 zAs:=by
  have:=Blk.new (w.alloc (.cells (opC o A c).toArray 70)) 67 zAs;simpa using this
 have gH:Below w.heap.size w ((w.alloc (.cells (opC o A c).toArray 70)).alloc (.cells zAs.toArray 67)):=((Below.refl _ _).alloc (Nat.le_refl _) _).alloc (by simp) _
 have kD:((w.alloc (.cells (opC o A c).toArray 70)).alloc (.cells zAs.toArray 67)).heap.size=w.heap.size+2:=by simp
 change Code.wp _ _ _ _ ((w.alloc (.cells (opC o A c).toArray 70)).alloc (.cells zAs.toArray 67));generalize (w.alloc (.cells (opC o A c).toArray 70)).alloc (.cells zAs.toArray 67)=w0 at *;have jU:=h.fresh gH;have gQ:w0.cell? ⟨0,0,none⟩=some (.int .i64 m0):=(gH.cell (p:=⟨0,0,none⟩) (World.block_lt_of_cell? _ _ hm)).trans hm;have jV:=(jL.sees.below gH).more gH.size;obtain⟨g,jF⟩:∃ g,w.heap.size=g:=⟨_,rfl⟩;rw [jF] at jD jE gH kD jM;simp only [jF];have fJ:=hid jF;have fX:=hid gH;have fG:=hid jM;have fR:=hid jU;have gI:=hid jV;have jN:=hid hT;have fD:=hid jL;have jW:=hid gQ;have kE:=hid jD;clear jF gH jM jV jL h jU hT hm gQ;have yc:=fun j=>jD.cell j;have y0:=yc 0;have y1:=yc 1;have y2:=yc 2;have y3:=yc 3;have y4:=yc 4;have y5:=yc 5;have y6:=yc 6;have y7:=yc 7;simp only [opC,List.getElem?_cons_succ,List.getElem?_cons_zero] at y0 y1 y2 y3 y4 y5 y6 y7;have gO:=zIi o A c w0;unfold opV opC at gO;clear jD yc;unfold opC
 cases hf:o.fine with
 | false =>
  rw [hf,if_pos rfl] at hu;rw [hf] at gO;have gR:=hid hu;clear hu hf
  go_wp2_with (first
   | (go_at_call 41;refine gO.mono ?_;rintro e w1 ⟨rfl,fY⟩;have gS:=jE.fresh fY;have fH:=hid fY;clear fY)
   | (refine wpList_store_row rfl 67 (.tmp 4) (.tmp 12) rfl (g+1) (zAh 150 st0 zAg zAg).toArray rfl (by rfl) 67 _ gS rfl rfl (zAv _ _ _ _ _ _ _ _) ?_))
  have fA:=setRow_heap w1 (g+1) _ (zAh 150 st0 zAg zAg).toArray _ _ gS;refine bodyPost_ret (results_cell_row rfl _ _ (g+1) 67 (zAh 150 st0 zAg zAg).toArray (0,0) _ rfl fA Tryz.underlying67 rfl rfl) rfl ?_;have fB:Chg (fun b=>b=g+1) w1 (w1.setRow (g+1) (zAh 150 st0 zAg zAg).toArray):=(Chg.refl (fun b=>b=g+1) w1).setRow (fun _=>rfl) _;rw [gR.out];refine⟨⟨_,rfl,zAH _ 150 st0⟩,?_⟩;exact (zAS.same fR.out fH.out).after (by rw [fJ.out];exact fX.out) (by rw [fJ.out];omega) (by omega) fG.out fB
 | true =>
  rw [hf,if_neg (by simp)] at hu;rw [hf] at gO
  have gA:0≤o.made∧o.made≤1099511627776:=by
   unfold Opn.fine at hf;have:=of_decide_eq_true hf;exact⟨this.2.2.1,this.2.2.2.1⟩
  have fO:=hid gA;have gR:=hid hu;clear hu hf gA;go_upto_region 5 with (go_at_call 41;refine gO.mono ?_;rintro e w1 ⟨rfl,fY⟩);have gS:=hid (jE.fresh fY);have jG:=hid (kE.out.fresh fY);have fH:=hid fY;have jX:w1.cell? ⟨0,0,none⟩=some (.int .i64 m0):=(fY.cell (p:=⟨0,0,none⟩) (World.block_lt_of_cell? _ _ jW.out)).trans jW.out;have gJ:=hid jX;clear fY jX gO y0 y1 y2 y3 y4 y5 y6 y7 jE;have u0:w1.cell? ⟨g,0,none⟩=some (.int .i64 o.kind):=jG.out.cell 0;have u1:w1.cell? ⟨g,1,none⟩=some (.string o.path):=jG.out.cell 1;by_cases kA:o.kind=12∨o.kind=14
  · have fI:T.run o=((T.does o [] []).1,(T.does o [] []).2.told):=by
     rw [gR.out];unfold Opn.code1 Opn.code2 Opn.from_ Opn.to_
     have nB:¬(o.kind=3∨o.kind=6):=by omega
     simp only [if_pos kA,if_neg nB];rfl
    have fF:=hid fI;have fZ:Hid (NmAt w1 w1.heap.size none 0 []):=hid (zEt w1 _);have fT:Hid (NmAt w1 w1.heap.size none 0 []):=hid (zEt w1 _)
    have s3:(o.kind==3)=false:=by simp;omega
    have s6:(o.kind==6)=false:=by simp;omega
    have kAH:=hid kA;clear fI kA;by_cases k12:o.kind=12
    case' pos =>
     have s12:(o.kind != 12)=false:=by simp;omega
     clear k12
    case' neg =>
     have s12:(o.kind != 12)=true:=by simp;omega
     have s14:(o.kind != 14)=false:=by have:=kAH.out;simp;omega
     clear k12
    all_goals
     go_upto_region 13 with (fail);clear s3 s6 s12;clear u0 u1;have gB:=fR.out.fresh fH.out;have gC:=(gI.out.below fH.out).more fH.out.size;have fE:=zEB own lay p mb T o A c none 0 [] none 0 [] w1 gB jN.out gC fD.out.cap fD.out.len fD.out.off fD.out.most fO.out fZ.out fT.out;clear gB gC;have vc:=fun j=>jG.out.cell j;have v0:=vc 0;have v1:=vc 1;have v2:=vc 2;have v3:=vc 3;have v4:=vc 4;have v5:=vc 5;have v6:=vc 6;have v7:=vc 7;simp only [opC,List.getElem?_cons_succ,List.getElem?_cons_zero] at v0 v1 v2 v3 v4 v5 v6 v7;unfold opV opC at fE;obtain⟨r,hr⟩:∃ r,T.does o [] []=r:=⟨_,rfl⟩;rw [hr] at fE;have gD:=hid hr;obtain⟨T1,an⟩:=r;clear hr vc
     go_upto_region 14 with (first
      | (go_at_call 43;refine fE.mono ?_;rintro e w4 ⟨⟨v,rfl,hA⟩,gE⟩;have gF:=hid hA;obtain⟨dA,dc,eA,ec,rfl,-,-⟩:=hA;have fK:=hid gE;obtain⟨own1,zDs,gT,gU,fU⟩:=gE;have gG:=hid (gS.out.chg fU (fun h=>h fG.out));have jY:=fU.size;have fV:=Blk.new w4 67 zAs;clear gT gU fU)
      | (refine wpList_store_row rfl 67 (.tmp 8) (.tmp 53) rfl w4.heap.size (zAh an.code an.stat (.slice dA an.data.length dc) (.slice eA an.ents.length ec)).toArray rfl (by rfl) 67 _ fV rfl rfl (zAv _ _ _ _ _ _ _ _) ?_))
     have fP:=setRow_heap (w4.alloc (.cells zAs.toArray 67)) w4.heap.size _ (zAh an.code an.stat (.slice dA an.data.length dc) (.slice eA an.ents.length ec)).toArray _ _ fV;have fP:Blk ((w4.alloc (.cells zAs.toArray 67)).setRow w4.heap.size (zAh an.code an.stat (.slice dA an.data.length dc) (.slice eA an.ents.length ec)).toArray) w4.heap.size 67 (zAh an.code an.stat (.slice dA an.data.length dc) (.slice eA an.ents.length ec)):=fP
     have fQ:Below w4.heap.size w4 ((w4.alloc (.cells zAs.toArray 67)).setRow w4.heap.size (zAh an.code an.stat (.slice dA an.data.length dc) (.slice eA an.ents.length ec)).toArray):=((Chg.refl (fun b=>w4.heap.size≤b) w4).alloc _ |>.setRow (fun _=>Nat.le_refl _) _).below (Nat.le_refl _) fun b hb e=>by omega
     have fL:=gG.out.fresh fQ;have gV:=hid (gF.out.fresh fQ);have fM:=hid fQ;clear fV fQ gG gF v0 v1 v2 v3 v4 v5 v6 v7 fE;change Code.wp _ _ _ _ ((w4.alloc (.cells zAs.toArray 67)).setRow w4.heap.size (zAh an.code an.stat (.slice dA an.data.length dc) (.slice eA an.ents.length ec)).toArray);generalize (w4.alloc (.cells zAs.toArray 67)).setRow w4.heap.size (zAh an.code an.stat (.slice dA an.data.length dc) (.slice eA an.ents.length ec)).toArray=w5 at *;have xc:=fun j=>fP.cell j;have x0:=xc 0;have x1:=xc 1;have x2:=xc 2;have x3:=xc 3;have x4:=xc 4;have x5:=xc 5;have x6:=xc 6;have x7:=xc 7;have x8:=xc 8;have x9:=xc 9;simp only [zAh,List.getElem?_cons_succ,List.getElem?_cons_zero] at x0 x1 x2 x3 x4 x5 x6 x7 x8 x9;clear xc fP;by_cases fE:an.code=0
     · have gW:((an.code:Int) != 0)=false:=by simp;omega
       have fC:Hid (an.told=an):=hid (by unfold Ans.told;rw [if_pos fE]);clear fE
       go_wp2_with (first
        | (refine wpList_store_row rfl 67 (.tmp 4) (.tmp 60) rfl (g+1) (zAh an.code an.stat (.slice dA an.data.length dc) (.slice eA an.ents.length ec)).toArray rfl (by rfl) 67 _ fL rfl rfl (zAv _ _ _ _ _ _ _ _) ?_))
       have fA:=setRow_heap w5 (g+1) _ (zAh an.code an.stat (.slice dA an.data.length dc) (.slice eA an.ents.length ec)).toArray _ _ fL;refine bodyPost_ret (results_cell_row rfl _ _ (g+1) 67 (zAh an.code an.stat (.slice dA an.data.length dc) (.slice eA an.ents.length ec)).toArray (0,0) _ rfl fA Tryz.underlying67 rfl rfl) rfl ?_;have fB:Chg (fun b=>b=g+1) w5 (w5.setRow (g+1) (zAh an.code an.stat (.slice dA an.data.length dc) (.slice eA an.ents.length ec)).toArray):=(Chg.refl (fun b=>b=g+1) w5).setRow (fun _=>rfl) _;rw [fF.out,gD.out];refine⟨⟨_,rfl,?_⟩,?_⟩
       · show zBO _ _ an.told
         rw [fC.out];exact gV.out.row fL _
       exact ((zAS.fst (Ext.refl _ _) (Chg.of_fresh fH.out) fK.out).then_ fM.out).after (by rw [fJ.out];exact fX.out) (by rw [fJ.out];omega) (by omega) fG.out fB
     · have gW:((an.code:Int) != 0)=true:=by simp;omega
       have fC:Hid (an.told=.err an.code):=hid (by unfold Ans.told;rw [if_neg fE]);clear fE
       go_wp2_with (first
        | (refine wpList_store_row rfl 67 (.tmp 4) (.tmp 59) rfl (g+1) (zAh an.code st0 zAg zAg).toArray rfl (by rfl) 67 _ fL rfl rfl (zAv _ _ _ _ _ _ _ _) ?_))
       have fA:=setRow_heap w5 (g+1) _ (zAh an.code st0 zAg zAg).toArray _ _ fL;refine bodyPost_ret (results_cell_row rfl _ _ (g+1) 67 (zAh an.code st0 zAg zAg).toArray (0,0) _ rfl fA Tryz.underlying67 rfl rfl) rfl ?_;have fB:Chg (fun b=>b=g+1) w5 (w5.setRow (g+1) (zAh an.code st0 zAg zAg).toArray):=(Chg.refl (fun b=>b=g+1) w5).setRow (fun _=>rfl) _;rw [fF.out,gD.out];refine⟨⟨_,rfl,?_⟩,?_⟩
       · show zBO _ _ an.told
         rw [fC.out];exact zAH _ an.code st0
       exact ((zAS.fst (Ext.refl _ _) (Chg.of_fresh fH.out) fK.out).then_ fM.out).after (by rw [fJ.out];exact fX.out) (by rw [fJ.out];omega) (by omega) fG.out fB
  · have gK:o.code1=(spl o.path).2∧o.from_=(spl o.path).1:=by unfold Opn.code1 Opn.from_;rw [if_neg kA,if_neg kA];exact⟨rfl,rfl⟩
    have gX:=gR.out;rw [gK.1,gK.2] at gX;obtain⟨r,hr⟩:∃ r,spl o.path=r:=⟨_,rfl⟩;obtain⟨l,e1⟩:=r;rw [hr] at gX;simp only at gX;have gY:=zF7 o.path l e1 m0 w1 hr fD.out.path gJ.out;have gL:=hid gX
    have s12:(o.kind != 12)=true:=by simp;omega
    have s14:(o.kind != 14)=true:=by simp;omega
    clear gX gK hr gR kA;go_upto_region 7 with (go_at_call 42;refine gY.mono ?_;rintro e w2 ⟨⟨A1,c1,rfl,jZ⟩,gZ⟩);have gP:=gS.out.fresh gZ;have jH:=hid (jG.out.fresh gZ);have fN:=hid (fH.out.trans (gZ.mono fH.out.size));have jO:=hid ((gZ.cell (p:=⟨0,0,none⟩) (World.block_lt_of_cell? _ _ gJ.out)).trans gJ.out);have fZ:=hid jZ;clear jZ gZ gY u0 u1 s12 s14;by_cases jI:e1≠0
    · have gM:=gL.out;rw [if_pos jI] at gM;have fW:=hid gM
      have jP:((e1:Int) != 0)=true:=by simp;omega
      clear gM jI
      go_wp2_with (first
       | (refine wpList_store_row rfl 67 (.tmp 4) (.tmp 30) rfl (g+1) (zAh e1 st0 zAg zAg).toArray rfl (by rfl) 67 _ gP rfl rfl (zAv _ _ _ _ _ _ _ _) ?_))
      have fA:=setRow_heap w2 (g+1) _ (zAh e1 st0 zAg zAg).toArray _ _ gP;refine bodyPost_ret (results_cell_row rfl _ _ (g+1) 67 (zAh e1 st0 zAg zAg).toArray (0,0) _ rfl fA Tryz.underlying67 rfl rfl) rfl ?_;have fB:Chg (fun b=>b=g+1) w2 (w2.setRow (g+1) (zAh e1 st0 zAg zAg).toArray):=(Chg.refl (fun b=>b=g+1) w2).setRow (fun _=>rfl) _;rw [fW.out];refine⟨⟨_,rfl,zAH _ e1 st0⟩,?_⟩;exact (zAS.same fR.out fN.out).after (by rw [fJ.out];exact fX.out) (by rw [fJ.out];omega) (by omega) fG.out fB
    · have jI:e1=0:=by omega
      subst jI;have gM:=gL.out;rw [if_neg (by simp)] at gM;have fW:=hid gM;clear gM;go_upto_region 9 with (fail);have u0:w2.cell? ⟨g,0,none⟩=some (.int .i64 o.kind):=jH.out.cell 0;have u2:w2.cell? ⟨g,2,none⟩=some (.string o.dst):=jH.out.cell 2;by_cases kB:o.kind=3∨o.kind=6
      · have gK:o.code2=(spl o.dst).2∧o.to_=(spl o.dst).1:=by unfold Opn.code2 Opn.to_;rw [if_pos kB,if_pos kB];exact⟨rfl,rfl⟩
        have jA:=fW.out;rw [gK.1,gK.2] at jA;obtain⟨r,hr⟩:∃ r,spl o.dst=r:=⟨_,rfl⟩;obtain⟨m,e2⟩:=r;rw [hr] at jA;simp only at jA;have gY:=zF7 o.dst m e2 m0 w2 hr fD.out.dst jO.out;have jB:=hid jA;have kBH:=hid kB;clear jA gK hr fW gL kB;have gN:=hid gP;clear gP;by_cases k3:o.kind=3
        case' pos =>
         have s3:(o.kind==3)=true:=by simp;omega
         clear k3
        case' neg =>
         have s3:(o.kind==3)=false:=by simp;omega
         have s6:(o.kind==6)=true:=by have:=kBH.out;simp;omega
         clear k3
        all_goals
         go_upto_region 11 with (go_at_call 42;refine gY.mono ?_;rintro e w3 ⟨⟨A2,c2,rfl,kC⟩,jC⟩);have jJ:=gN.out.fresh jC;have kF:=hid (jH.out.fresh jC);have fS:=hid (fN.out.trans (jC.mono fN.out.size));have fT:=hid kC;have jQ:=hid (fZ.out.fresh jC);clear kC jC gY u0 u2 s3;by_cases jK:e2≠0
         · have jR:=jB.out;rw [if_pos jK] at jR;have jS:=hid jR
           have jP:((e2:Int) != 0)=true:=by simp;omega
           clear jR jK
           go_wp2_with (first
            | (refine wpList_store_row rfl 67 (.tmp 4) (.tmp 48) rfl (g+1) (zAh e2 st0 zAg zAg).toArray rfl (by rfl) 67 _ jJ rfl rfl (zAv _ _ _ _ _ _ _ _) ?_))
           have fA:=setRow_heap w3 (g+1) _ (zAh e2 st0 zAg zAg).toArray _ _ jJ;refine bodyPost_ret (results_cell_row rfl _ _ (g+1) 67 (zAh e2 st0 zAg zAg).toArray (0,0) _ rfl fA Tryz.underlying67 rfl rfl) rfl ?_;have fB:Chg (fun b=>b=g+1) w3 (w3.setRow (g+1) (zAh e2 st0 zAg zAg).toArray):=(Chg.refl (fun b=>b=g+1) w3).setRow (fun _=>rfl) _;rw [jS.out];refine⟨⟨_,rfl,zAH _ e2 st0⟩,?_⟩;exact (zAS.same fR.out fS.out).after (by rw [fJ.out];exact fX.out) (by rw [fJ.out];omega) (by omega) fG.out fB
         · have jK:e2=0:=by omega
           subst jK;have fI:=jB.out;rw [if_neg (by simp)] at fI;have fF:=hid fI;have jT:=hid jJ;clear fI jJ;go_upto_region 13 with (fail);have gB:=fR.out.fresh fS.out;have gC:=(gI.out.below fS.out).more fS.out.size;have fE:=zEB own lay p mb T o A c A1 c1 l A2 c2 m w3 gB jN.out gC fD.out.cap fD.out.len fD.out.off fD.out.most fO.out jQ.out fT.out;clear gB gC;have vc:=fun j=>kF.out.cell j;have v0:=vc 0;have v1:=vc 1;have v2:=vc 2;have v3:=vc 3;have v4:=vc 4;have v5:=vc 5;have v6:=vc 6;have v7:=vc 7;simp only [opC,List.getElem?_cons_succ,List.getElem?_cons_zero] at v0 v1 v2 v3 v4 v5 v6 v7;unfold opV opC at fE;obtain⟨r,hr⟩:∃ r,T.does o l m=r:=⟨_,rfl⟩;rw [hr] at fE;have gD:=hid hr;obtain⟨T1,an⟩:=r;clear hr vc
           go_upto_region 14 with (first
            | (go_at_call 43;refine fE.mono ?_;rintro e w4 ⟨⟨v,rfl,hA⟩,gE⟩;have gF:=hid hA;obtain⟨dA,dc,eA,ec,rfl,-,-⟩:=hA;have fK:=hid gE;obtain⟨own1,zDs,gT,gU,fU⟩:=gE;have gG:=hid (jT.out.chg fU (fun h=>h fG.out));have jY:=fU.size;have fV:=Blk.new w4 67 zAs;clear gT gU fU)
            | (refine wpList_store_row rfl 67 (.tmp 8) (.tmp 53) rfl w4.heap.size (zAh an.code an.stat (.slice dA an.data.length dc) (.slice eA an.ents.length ec)).toArray rfl (by rfl) 67 _ fV rfl rfl (zAv _ _ _ _ _ _ _ _) ?_))
           have fP:=setRow_heap (w4.alloc (.cells zAs.toArray 67)) w4.heap.size _ (zAh an.code an.stat (.slice dA an.data.length dc) (.slice eA an.ents.length ec)).toArray _ _ fV;have fP:Blk ((w4.alloc (.cells zAs.toArray 67)).setRow w4.heap.size (zAh an.code an.stat (.slice dA an.data.length dc) (.slice eA an.ents.length ec)).toArray) w4.heap.size 67 (zAh an.code an.stat (.slice dA an.data.length dc) (.slice eA an.ents.length ec)):=fP
           have fQ:Below w4.heap.size w4 ((w4.alloc (.cells zAs.toArray 67)).setRow w4.heap.size (zAh an.code an.stat (.slice dA an.data.length dc) (.slice eA an.ents.length ec)).toArray):=((Chg.refl (fun b=>w4.heap.size≤b) w4).alloc _ |>.setRow (fun _=>Nat.le_refl _) _).below (Nat.le_refl _) fun b hb e=>by omega
           have fL:=gG.out.fresh fQ;have gV:=hid (gF.out.fresh fQ);have fM:=hid fQ;clear fV fQ gG gF v0 v1 v2 v3 v4 v5 v6 v7 fE;change Code.wp _ _ _ _ ((w4.alloc (.cells zAs.toArray 67)).setRow w4.heap.size (zAh an.code an.stat (.slice dA an.data.length dc) (.slice eA an.ents.length ec)).toArray);generalize (w4.alloc (.cells zAs.toArray 67)).setRow w4.heap.size (zAh an.code an.stat (.slice dA an.data.length dc) (.slice eA an.ents.length ec)).toArray=w5 at *;have xc:=fun j=>fP.cell j;have x0:=xc 0;have x1:=xc 1;have x2:=xc 2;have x3:=xc 3;have x4:=xc 4;have x5:=xc 5;have x6:=xc 6;have x7:=xc 7;have x8:=xc 8;have x9:=xc 9;simp only [zAh,List.getElem?_cons_succ,List.getElem?_cons_zero] at x0 x1 x2 x3 x4 x5 x6 x7 x8 x9;clear xc fP;by_cases fE:an.code=0
           · have gW:((an.code:Int) != 0)=false:=by simp;omega
             have fC:Hid (an.told=an):=hid (by unfold Ans.told;rw [if_pos fE]);clear fE
             go_wp2_with (first
              | (refine wpList_store_row rfl 67 (.tmp 4) (.tmp 60) rfl (g+1) (zAh an.code an.stat (.slice dA an.data.length dc) (.slice eA an.ents.length ec)).toArray rfl (by rfl) 67 _ fL rfl rfl (zAv _ _ _ _ _ _ _ _) ?_))
             have fA:=setRow_heap w5 (g+1) _ (zAh an.code an.stat (.slice dA an.data.length dc) (.slice eA an.ents.length ec)).toArray _ _ fL;refine bodyPost_ret (results_cell_row rfl _ _ (g+1) 67 (zAh an.code an.stat (.slice dA an.data.length dc) (.slice eA an.ents.length ec)).toArray (0,0) _ rfl fA Tryz.underlying67 rfl rfl) rfl ?_;have fB:Chg (fun b=>b=g+1) w5 (w5.setRow (g+1) (zAh an.code an.stat (.slice dA an.data.length dc) (.slice eA an.ents.length ec)).toArray):=(Chg.refl (fun b=>b=g+1) w5).setRow (fun _=>rfl) _;rw [fF.out,gD.out];refine⟨⟨_,rfl,?_⟩,?_⟩
             · show zBO _ _ an.told
               rw [fC.out];exact gV.out.row fL _
             exact ((zAS.fst (Ext.refl _ _) (Chg.of_fresh fS.out) fK.out).then_ fM.out).after (by rw [fJ.out];exact fX.out) (by rw [fJ.out];omega) (by omega) fG.out fB
           · have gW:((an.code:Int) != 0)=true:=by simp;omega
             have fC:Hid (an.told=.err an.code):=hid (by unfold Ans.told;rw [if_neg fE]);clear fE
             go_wp2_with (first
              | (refine wpList_store_row rfl 67 (.tmp 4) (.tmp 59) rfl (g+1) (zAh an.code st0 zAg zAg).toArray rfl (by rfl) 67 _ fL rfl rfl (zAv _ _ _ _ _ _ _ _) ?_))
             have fA:=setRow_heap w5 (g+1) _ (zAh an.code st0 zAg zAg).toArray _ _ fL;refine bodyPost_ret (results_cell_row rfl _ _ (g+1) 67 (zAh an.code st0 zAg zAg).toArray (0,0) _ rfl fA Tryz.underlying67 rfl rfl) rfl ?_;have fB:Chg (fun b=>b=g+1) w5 (w5.setRow (g+1) (zAh an.code st0 zAg zAg).toArray):=(Chg.refl (fun b=>b=g+1) w5).setRow (fun _=>rfl) _;rw [fF.out,gD.out];refine⟨⟨_,rfl,?_⟩,?_⟩
             · show zBO _ _ an.told
               rw [fC.out];exact zAH _ an.code st0
             exact ((zAS.fst (Ext.refl _ _) (Chg.of_fresh fS.out) fK.out).then_ fM.out).after (by rw [fJ.out];exact fX.out) (by rw [fJ.out];omega) (by omega) fG.out fB
      · have fI:T.run o=((T.does o l []).1,(T.does o l []).2.told):=by
         rw [fW.out];unfold Opn.code2 Opn.to_;rw [if_neg kB,if_neg kB];rfl
        have fF:=hid fI;have fT:Hid (NmAt w2 w2.heap.size none 0 []):=hid (zEt w2 _)
        have s3:(o.kind==3)=false:=by simp;omega
        have s6:(o.kind==6)=false:=by simp;omega
        have gN:=hid gP;clear fI kB gP;go_upto_region 13 with (fail);clear s3 s6 u0 u2;have gB:=fR.out.fresh fN.out;have gC:=(gI.out.below fN.out).more fN.out.size;have fE:=zEB own lay p mb T o A c A1 c1 l none 0 [] w2 gB jN.out gC fD.out.cap fD.out.len fD.out.off fD.out.most fO.out fZ.out fT.out;clear gB gC;have vc:=fun j=>jH.out.cell j;have v0:=vc 0;have v1:=vc 1;have v2:=vc 2;have v3:=vc 3;have v4:=vc 4;have v5:=vc 5;have v6:=vc 6;have v7:=vc 7;simp only [opC,List.getElem?_cons_succ,List.getElem?_cons_zero] at v0 v1 v2 v3 v4 v5 v6 v7;unfold opV opC at fE;obtain⟨r,hr⟩:∃ r,T.does o l []=r:=⟨_,rfl⟩;rw [hr] at fE;have gD:=hid hr;obtain⟨T1,an⟩:=r;clear hr vc
        go_upto_region 14 with (first
         | (go_at_call 43;refine fE.mono ?_;rintro e w4 ⟨⟨v,rfl,hA⟩,gE⟩;have gF:=hid hA;obtain⟨dA,dc,eA,ec,rfl,-,-⟩:=hA;have fK:=hid gE;obtain⟨own1,zDs,gT,gU,fU⟩:=gE;have gG:=hid (gN.out.chg fU (fun h=>h fG.out));have jY:=fU.size;have fV:=Blk.new w4 67 zAs;clear gT gU fU)
         | (refine wpList_store_row rfl 67 (.tmp 8) (.tmp 53) rfl w4.heap.size (zAh an.code an.stat (.slice dA an.data.length dc) (.slice eA an.ents.length ec)).toArray rfl (by rfl) 67 _ fV rfl rfl (zAv _ _ _ _ _ _ _ _) ?_))
        have fP:=setRow_heap (w4.alloc (.cells zAs.toArray 67)) w4.heap.size _ (zAh an.code an.stat (.slice dA an.data.length dc) (.slice eA an.ents.length ec)).toArray _ _ fV;have fP:Blk ((w4.alloc (.cells zAs.toArray 67)).setRow w4.heap.size (zAh an.code an.stat (.slice dA an.data.length dc) (.slice eA an.ents.length ec)).toArray) w4.heap.size 67 (zAh an.code an.stat (.slice dA an.data.length dc) (.slice eA an.ents.length ec)):=fP
        have fQ:Below w4.heap.size w4 ((w4.alloc (.cells zAs.toArray 67)).setRow w4.heap.size (zAh an.code an.stat (.slice dA an.data.length dc) (.slice eA an.ents.length ec)).toArray):=((Chg.refl (fun b=>w4.heap.size≤b) w4).alloc _ |>.setRow (fun _=>Nat.le_refl _) _).below (Nat.le_refl _) fun b hb e=>by omega
        have fL:=gG.out.fresh fQ;have gV:=hid (gF.out.fresh fQ);have fM:=hid fQ;clear fV fQ gG gF v0 v1 v2 v3 v4 v5 v6 v7 fE;change Code.wp _ _ _ _ ((w4.alloc (.cells zAs.toArray 67)).setRow w4.heap.size (zAh an.code an.stat (.slice dA an.data.length dc) (.slice eA an.ents.length ec)).toArray);generalize (w4.alloc (.cells zAs.toArray 67)).setRow w4.heap.size (zAh an.code an.stat (.slice dA an.data.length dc) (.slice eA an.ents.length ec)).toArray=w5 at *;have xc:=fun j=>fP.cell j;have x0:=xc 0;have x1:=xc 1;have x2:=xc 2;have x3:=xc 3;have x4:=xc 4;have x5:=xc 5;have x6:=xc 6;have x7:=xc 7;have x8:=xc 8;have x9:=xc 9;simp only [zAh,List.getElem?_cons_succ,List.getElem?_cons_zero] at x0 x1 x2 x3 x4 x5 x6 x7 x8 x9;clear xc fP;by_cases fE:an.code=0
        · have gW:((an.code:Int) != 0)=false:=by simp;omega
          have fC:Hid (an.told=an):=hid (by unfold Ans.told;rw [if_pos fE]);clear fE
          go_wp2_with (first
           | (refine wpList_store_row rfl 67 (.tmp 4) (.tmp 60) rfl (g+1) (zAh an.code an.stat (.slice dA an.data.length dc) (.slice eA an.ents.length ec)).toArray rfl (by rfl) 67 _ fL rfl rfl (zAv _ _ _ _ _ _ _ _) ?_))
          have fA:=setRow_heap w5 (g+1) _ (zAh an.code an.stat (.slice dA an.data.length dc) (.slice eA an.ents.length ec)).toArray _ _ fL;refine bodyPost_ret (results_cell_row rfl _ _ (g+1) 67 (zAh an.code an.stat (.slice dA an.data.length dc) (.slice eA an.ents.length ec)).toArray (0,0) _ rfl fA Tryz.underlying67 rfl rfl) rfl ?_;have fB:Chg (fun b=>b=g+1) w5 (w5.setRow (g+1) (zAh an.code an.stat (.slice dA an.data.length dc) (.slice eA an.ents.length ec)).toArray):=(Chg.refl (fun b=>b=g+1) w5).setRow (fun _=>rfl) _;rw [fF.out,gD.out];refine⟨⟨_,rfl,?_⟩,?_⟩
          · show zBO _ _ an.told
            rw [fC.out];exact gV.out.row fL _
          exact ((zAS.fst (Ext.refl _ _) (Chg.of_fresh fN.out) fK.out).then_ fM.out).after (by rw [fJ.out];exact fX.out) (by rw [fJ.out];omega) (by omega) fG.out fB
        · have gW:((an.code:Int) != 0)=true:=by simp;omega
          have fC:Hid (an.told=.err an.code):=hid (by unfold Ans.told;rw [if_neg fE]);clear fE
          go_wp2_with (first
           | (refine wpList_store_row rfl 67 (.tmp 4) (.tmp 59) rfl (g+1) (zAh an.code st0 zAg zAg).toArray rfl (by rfl) 67 _ fL rfl rfl (zAv _ _ _ _ _ _ _ _) ?_))
          have fA:=setRow_heap w5 (g+1) _ (zAh an.code st0 zAg zAg).toArray _ _ fL;refine bodyPost_ret (results_cell_row rfl _ _ (g+1) 67 (zAh an.code st0 zAg zAg).toArray (0,0) _ rfl fA Tryz.underlying67 rfl rfl) rfl ?_;have fB:Chg (fun b=>b=g+1) w5 (w5.setRow (g+1) (zAh an.code st0 zAg zAg).toArray):=(Chg.refl (fun b=>b=g+1) w5).setRow (fun _=>rfl) _;rw [fF.out,gD.out];refine⟨⟨_,rfl,?_⟩,?_⟩
          · show zBO _ _ an.told
            rw [fC.out];exact zAH _ an.code st0
          exact ((zAS.fst (Ext.refl _ _) (Chg.of_fresh fN.out) fK.out).then_ fM.out).after (by rw [fJ.out];exact fX.out) (by rw [fJ.out];omega) (by omega) fG.out fB
end Go.Proofs.YtolpcfhfcdkokaaGreatDoor
