/- Joined out of PDo..TFile. -/
import Derived.Test.YtolpcfhfcdkokaaGreatDoorR09
set_option maxHeartbeats 16000000
set_option maxRecDepth 100000
set_option linter.unusedSimpArgs false
set_option linter.unusedVariables false
namespace Go.Proofs.YtolpcfhfcdkokaaGreatDoor
open Lib (hid)
open Chg renaming of_fresh → Aa,refl → Ab
open Blk renaming new → Ac
open Code renaming wp → Ad
open World renaming block_lt_of_cell? → Ae
open List renaming getElem?_cons_succ → Af,getElem?_cons_zero → Ag,mem_cons_self → Ah,mem_cons_of_mem → Ai,filter_cons → Aj,ext_getElem → Ak,getElem_append → Al,getElem_take → Am,getElem_replicate → An,length_take → Ao,getElem_mem → Ap,getElem_map → Aq,range → Ar,getElem_set → As,getD_eq_getElem?_getD → At,getElem?_eq_getElem → Au
open Opn renaming fine → Av,code1 → Aw,code2 → Ax,from_ → Ay
open Go renaming setRow_heap → Az
open Nat renaming le_refl → AA,le_trans → AB
open Ans renaming told → AC
open Ext renaming refl → AD
open Option renaming map_some → AE
open Go.RowKit Go.Proofs
theorem zBJ.fresh {w w1:World} {v:Value} {a:Ans} (h:zBJ w v a) (hb:Below w.heap.size w w1):zBJ w1 v a:=by
 obtain⟨dA,dc,eA,ec,h1,h2,h3⟩:=h;exact⟨dA,dc,eA,ec,h1,(h2.below hb).more hb.size,(h3.below hb).more hb.size⟩
theorem nmAt_spl {w':World} {x:ByteArray} {A:Option Addr} {c:Nat} (hx:x.size≤100000000) (h1:(spl x).1.length≤c) (h2:c≤x.size+1) (hs:Sees w' w'.heap.size 1 A (spl x).1.length (strs (spl x).1)):NmAt w' w'.heap.size A c (spl x).1 :=
 ⟨hs,by by_cases hz:400<x.size;(rw [spl_long hz];simp);omega,h1,fun y hy=>zCX (zE7 x y hy)⟩
theorem zEx (w:World) (B:Nat):NmAt w B none 0 []:=⟨Sees.nil,by simp,by simp,by simp⟩
theorem zAv.then_ {own:Nat→Option Role} {p mb:Nat} {T':PT} {w w1 w2:World} (h:zAv own p mb T' w w1) (hb:Below w1.heap.size w1 w2):zAv own p mb T' w w2:=by
 obtain⟨own',lay',h1,h2,h3⟩:=h;exact⟨own',lay',h1.fresh hb,h2,h3.trans (Aa hb) (fun _ _ h=>h) fun _ _ h=>h⟩
def SplQ (_x:ByteArray) (l:List ByteArray) (e1:Nat) (w:World) (e:Ending) (w':World):Prop :=
 (∃ A c,e=.returned (.tuple #[.slice A l.length c,.int .i64 (e1:Int)])∧NmAt w' w'.heap.size A c l)∧Below w.heap.size w w'
theorem splQ_of {x:ByteArray} {l:List ByteArray} {e1:Nat} (hr:spl x=(l,e1)) (hx:x.size≤100000000) {w w':World} {e:Ending} (h:SplP x w e w'):SplQ x l e1 w e w':=by
 obtain⟨⟨A,c,h1,h2,h3,h4⟩,hb⟩:=h;have h5:=nmAt_spl hx h2 h3 h4;rw [hr] at h1 h5;exact⟨⟨A,c,h1,h5⟩,hb⟩
theorem zGr (x:ByteArray) (l:List ByteArray) (e1:Nat) (m0:Int) (w:World) (hr:spl x=(l,e1)) (hx:x.size≤100000000) (hm:w.cell? ⟨0,0,none⟩=some (.int .i64 m0)) :
 Calls Tryz.prog 42 #[.string x] w (SplQ x l e1 w):=(zJU x m0 w (by omega) hm).mono fun _ _ h=>splQ_of hr hx h
structure OpAt (w:World) (B:Nat) (o:Opn) (A:Option Addr) (c:Nat):Prop where
 sees:Sees w B 1 A o.data.length (bvs o.data)
 cap:o.data.length≤c
 len:o.data.length<1000000000000
 off:o.off≤9223372036854775807∧-9223372036854775808≤o.off
 most:o.len≤9223372036854775807∧-9223372036854775808≤o.len
 path:o.path.size≤100000000
 dst:o.dst.size≤100000000
theorem pdo_any (own:Nat→Option Role) (lay:Nat→NA) (p mb:Nat) (T:PT) (o:Opn) (A:Option Addr) (c:Nat) (m0:Int) (w:World) (h:PlainAt w own lay p mb T) (hT:T.Wf) (jK:OpAt w w.heap.size o A c) (hm:w.cell? ⟨0,0,none⟩=some (.int .i64 m0)) :
 Calls Tryz.prog 24 #[.pointer (some ⟨p,0,none⟩),opV o A c] w (AnsP own p mb (T.run o) w):=by
 have hu:=PT.run.eq_1 T o;have jL:own (w.heap.size+1)=none:=h.free (by omega);unfold opV;go_enter Tryz.func24,Tryz.ntmps24;go_upto_region 1 with (fail);have jC:Blk ((w.alloc (.cells (opC o A c).toArray 70)).alloc (.cells zAk.toArray 67)) w.heap.size 70 (opC o A c):=(Ac w _ _).alloc _
 have jD:Blk ((w.alloc (.cells (opC o A c).toArray 70)).alloc (.cells zAk.toArray 67)) (w.heap.size+1) 67 zAk:=by
  have:=Ac (w.alloc (.cells (opC o A c).toArray 70)) 67 zAk;simpa using this
 have gG:Below w.heap.size w ((w.alloc (.cells (opC o A c).toArray 70)).alloc (.cells zAk.toArray 67)):=(br.alloc nr _).alloc (by simp) _
 have kC:((w.alloc (.cells (opC o A c).toArray 70)).alloc (.cells zAk.toArray 67)).heap.size=w.heap.size+2:=by simp
 change Ad _ _ _ _ ((w.alloc (.cells (opC o A c).toArray 70)).alloc (.cells zAk.toArray 67));generalize (w.alloc (.cells (opC o A c).toArray 70)).alloc (.cells zAk.toArray 67)=w0 at *;have jT:=h.fresh gG;have gP:w0.cell? ⟨0,0,none⟩=some (.int .i64 m0):=(gG.cell (p:=⟨0,0,none⟩) (Ae _ _ hm)).trans hm;have jU:=(jK.sees.below gG).more gG.size;obtain⟨g,jE⟩:=nM (w.heap.size);rw [jE] at jC jD gG kC jL;simp only [jE];have fI:=hid jE;have fW:=hid gG;have fF:=hid jL;have fQ:=hid jT;have gH:=hid jU;have jM:=hid hT;have fC:=hid jK;have jV:=hid gP;have kD:=hid jC;clear jE gG jL jU jK h jT hT hm gP;have yc:=fun j=>jC.cell j;have y0:=yc 0;have y1:=yc 1;have y2:=yc 2;have y3:=yc 3;have y4:=yc 4;have y5:=yc 5;have y6:=yc 6;have y7:=yc 7;simp only [opC,Af,Ag] at y0 y1 y2 y3 y4 y5 y6 y7;have gN:=zJk o A c w0;unfold opV opC at gN;clear jC yc;unfold opC
 cases hf:o.fine with
 | false =>
  rw [hf,if_pos rfl] at hu;rw [hf] at gN;have gQ:=hid hu;clear hu hf
  go_wp2_with (first
   | (go_at_call 41;refine gN.mono ?_;rintro e w1 ⟨rfl,fX⟩;have gR:=jD.fresh fX;have fG:=hid fX;clear fX)
   | (refine stA 150 st0 zAj zAj gR rfl rfl rfl (by rfl) rfl rfl rfl ?_))
  refine zCS gR rfl rfl rfl fun fA=>?_;rw [gQ.o];refine⟨⟨_,rfl,zAH _ 150 st0⟩,?_⟩;exact (zAv.same fQ.o fG.o).after (by rw [fI.o];exact fW.o) (by rw [fI.o];omega) (by omega) fF.o fA
 | true =>
  rw [hf,if_neg (by simp)] at hu;rw [hf] at gN
  have fZ:0≤o.made∧o.made≤1099511627776:=by
   unfold Av at hf;have:=of_decide_eq_true hf;exact⟨this.2.2.1,this.2.2.2.1⟩
  have fN:=hid fZ;have gQ:=hid hu;clear hu hf fZ;go_upto_region 5 with (go_at_call 41;refine gN.mono ?_;rintro e w1 ⟨rfl,fX⟩);have gR:=hid (jD.fresh fX);have jF:=hid (kD.o.fresh fX);have fG:=hid fX;have jW:w1.cell? ⟨0,0,none⟩=some (.int .i64 m0):=(fX.cell (p:=⟨0,0,none⟩) (Ae _ _ jV.o)).trans jV.o;have gI:=hid jW;clear fX jW gN y0 y1 y2 y3 y4 y5 y6 y7 jD;have u0:w1.cell? ⟨g,0,none⟩=some (.int .i64 o.kind):=jF.o.cell 0;have u1:w1.cell? ⟨g,1,none⟩=some (.string o.path):=jF.o.cell 1;by_cases kA:o.kind=12∨o.kind=14
  · have fH:T.run o=((T.does o [] []).1,(T.does o [] []).2.told):=by
     rw [gQ.o];unfold Aw Ax Ay Opn.to_
     have nB:¬(o.kind=3∨o.kind=6):=by omega
     simp only [if_pos kA,if_neg nB];rfl
    have fE:=hid fH;have fY:Hid (NmAt w1 w1.heap.size none 0 []):=hid (zEx w1 _);have fS:Hid (NmAt w1 w1.heap.size none 0 []):=hid (zEx w1 _)
    have s3:(o.kind==3)=false:=by simp;omega
    have s6:(o.kind==6)=false:=by simp;omega
    have kAH:=hid kA;clear fH kA;by_cases k12:o.kind=12
    case' pos =>
     have s12:(o.kind != 12)=false:=by simp;omega
     clear k12
    case' neg =>
     have s12:(o.kind != 12)=true:=by simp;omega
     have s14:(o.kind != 14)=false:=by have:=kAH.o;simp;omega
     clear k12
    all_goals
     go_upto_region 13 with (fail);clear s3 s6 s12;clear u0 u1;have gA:=fQ.o.fresh fG.o;have gB:=(gH.o.below fG.o).more fG.o.size;have fD:=zER own lay p mb T o A c none 0 [] none 0 [] w1 gA jM.o gB fC.o.cap fC.o.len fC.o.off fC.o.most fN.o fY.o fS.o;clear gA gB;have vc:=fun j=>jF.o.cell j;have v0:=vc 0;have v1:=vc 1;have v2:=vc 2;have v3:=vc 3;have v4:=vc 4;have v5:=vc 5;have v6:=vc 6;have v7:=vc 7;simp only [opC,Af,Ag] at v0 v1 v2 v3 v4 v5 v6 v7;unfold opV opC at fD;obtain⟨r,hr⟩:=nM (T.does o [] []);rw [hr] at fD;have gC:=hid hr;obtain⟨T1,an⟩:=r;clear hr vc
     go_upto_region 14 with (first
      | (go_at_call 43;refine fD.mono ?_;rintro e w4 ⟨⟨v,rfl,hA⟩,gD⟩;have gE:=hid hA;obtain⟨dA,dc,eA,ec,rfl,-,-⟩:=hA;have fJ:=hid gD;obtain⟨own1,zCu,gS,gT,fT⟩:=gD;have gF:=hid (gR.o.chg fT (fun h=>h fF.o));have jX:=fT.size;have fU:=Ac w4 67 zAk;clear gS gT fT)
      | (refine stA an.code an.stat (.slice dA an.data.length dc) (.slice eA an.ents.length ec) fU rfl rfl rfl (by rfl) rfl rfl rfl ?_))
     have fO:=Az (w4.alloc (.cells zAk.toArray 67)) w4.heap.size _ (zAq an.code an.stat (.slice dA an.data.length dc) (.slice eA an.ents.length ec)).toArray _ _ fU;have fO:Blk ((w4.alloc (.cells zAk.toArray 67)).setRow w4.heap.size (zAq an.code an.stat (.slice dA an.data.length dc) (.slice eA an.ents.length ec)).toArray) w4.heap.size 67 (zAq an.code an.stat (.slice dA an.data.length dc) (.slice eA an.ents.length ec)):=fO
     have fP:Below w4.heap.size w4 ((w4.alloc (.cells zAk.toArray 67)).setRow w4.heap.size (zAq an.code an.stat (.slice dA an.data.length dc) (.slice eA an.ents.length ec)).toArray):=((Ab (fun b=>w4.heap.size≤b) w4).alloc _ |>.setRow (fun _=>AA _) _).below nr fun b hb e=>by omega
     have fK:=gF.o.fresh fP;have gU:=hid (gE.o.fresh fP);have fL:=hid fP;clear fU fP gF gE v0 v1 v2 v3 v4 v5 v6 v7 fD;change Ad _ _ _ _ ((w4.alloc (.cells zAk.toArray 67)).setRow w4.heap.size (zAq an.code an.stat (.slice dA an.data.length dc) (.slice eA an.ents.length ec)).toArray);generalize (w4.alloc (.cells zAk.toArray 67)).setRow w4.heap.size (zAq an.code an.stat (.slice dA an.data.length dc) (.slice eA an.ents.length ec)).toArray=w5 at *;have xc:=fun j=>fO.cell j;have x0:=xc 0;have x1:=xc 1;have x2:=xc 2;have x3:=xc 3;have x4:=xc 4;have x5:=xc 5;have x6:=xc 6;have x7:=xc 7;have x8:=xc 8;have x9:=xc 9;simp only [zAq,Af,Ag] at x0 x1 x2 x3 x4 x5 x6 x7 x8 x9;clear xc fO;by_cases fD:an.code=0
     · have gV:((an.code:Int) != 0)=false:=by simp;omega
       have fB:Hid (an.told=an):=hid (by unfold AC;rw [if_pos fD]);clear fD
       go_wp2_with (first
        | (refine stA an.code an.stat (.slice dA an.data.length dc) (.slice eA an.ents.length ec) fK rfl rfl rfl (by rfl) rfl rfl rfl ?_))
       refine zCS fK rfl rfl rfl fun fA=>?_;rw [fE.o,gC.o];refine⟨⟨_,rfl,?_⟩,?_⟩
       · show zBJ _ _ an.told
         rw [fB.o];exact gU.o.row fK _
       exact ((zAv.fst (AD _ _) (Aa fG.o) fJ.o).then_ fL.o).after (by rw [fI.o];exact fW.o) (by rw [fI.o];omega) (by omega) fF.o fA
     · have gV:((an.code:Int) != 0)=true:=by simp;omega
       have fB:Hid (an.told=.err an.code):=hid (by unfold AC;rw [if_neg fD]);clear fD
       go_wp2_with (first
        | (refine stA an.code st0 zAj zAj fK rfl rfl rfl (by rfl) rfl rfl rfl ?_))
       refine zCS fK rfl rfl rfl fun fA=>?_;rw [fE.o,gC.o];refine⟨⟨_,rfl,?_⟩,?_⟩
       · show zBJ _ _ an.told
         rw [fB.o];exact zAH _ an.code st0
       exact ((zAv.fst (AD _ _) (Aa fG.o) fJ.o).then_ fL.o).after (by rw [fI.o];exact fW.o) (by rw [fI.o];omega) (by omega) fF.o fA
  · have gJ:o.code1=(spl o.path).2∧o.from_=(spl o.path).1:=by unfold Aw Ay;rw [if_neg kA,if_neg kA];exact⟨rfl,rfl⟩
    have gW:=gQ.o;rw [gJ.1,gJ.2] at gW;obtain⟨r,hr⟩:=nM (spl o.path);obtain⟨l,e1⟩:=r;rw [hr] at gW;simp only at gW;have gX:=zGr o.path l e1 m0 w1 hr fC.o.path gI.o;have gK:=hid gW
    have s12:(o.kind != 12)=true:=by simp;omega
    have s14:(o.kind != 14)=true:=by simp;omega
    clear gW gJ hr gQ kA;go_upto_region 7 with (go_at_call 42;refine gX.mono ?_;rintro e w2 ⟨⟨A1,c1,rfl,jY⟩,gY⟩);have gO:=gR.o.fresh gY;have jG:=hid (jF.o.fresh gY);have fM:=hid (fG.o.trans (gY.mono fG.o.size));have jN:=hid ((gY.cell (p:=⟨0,0,none⟩) (Ae _ _ gI.o)).trans gI.o);have fY:=hid jY;clear jY gY gX u0 u1 s12 s14;by_cases jH:e1≠0
    · have gL:=gK.o;rw [if_pos jH] at gL;have fV:=hid gL
      have jO:((e1:Int) != 0)=true:=by simp;omega
      clear gL jH
      go_wp2_with (first
       | (refine stA e1 st0 zAj zAj gO rfl rfl rfl (by rfl) rfl rfl rfl ?_))
      refine zCS gO rfl rfl rfl fun fA=>?_;rw [fV.o];refine⟨⟨_,rfl,zAH _ e1 st0⟩,?_⟩;exact (zAv.same fQ.o fM.o).after (by rw [fI.o];exact fW.o) (by rw [fI.o];omega) (by omega) fF.o fA
    · have jH:e1=0:=by omega
      subst jH;have gL:=gK.o;rw [if_neg (by simp)] at gL;have fV:=hid gL;clear gL;go_upto_region 9 with (fail);have u0:w2.cell? ⟨g,0,none⟩=some (.int .i64 o.kind):=jG.o.cell 0;have u2:w2.cell? ⟨g,2,none⟩=some (.string o.dst):=jG.o.cell 2;by_cases kB:o.kind=3∨o.kind=6
      · have gJ:o.code2=(spl o.dst).2∧o.to_=(spl o.dst).1:=by unfold Ax Opn.to_;rw [if_pos kB,if_pos kB];exact⟨rfl,rfl⟩
        have gZ:=fV.o;rw [gJ.1,gJ.2] at gZ;obtain⟨r,hr⟩:=nM (spl o.dst);obtain⟨m,e2⟩:=r;rw [hr] at gZ;simp only at gZ;have gX:=zGr o.dst m e2 m0 w2 hr fC.o.dst jN.o;have jA:=hid gZ;have kBH:=hid kB;clear gZ gJ hr fV gK kB;have gM:=hid gO;clear gO;by_cases k3:o.kind=3
        case' pos =>
         have s3:(o.kind==3)=true:=by simp;omega
         clear k3
        case' neg =>
         have s3:(o.kind==3)=false:=by simp;omega
         have s6:(o.kind==6)=true:=by have:=kBH.o;simp;omega
         clear k3
        all_goals
         go_upto_region 11 with (go_at_call 42;refine gX.mono ?_;rintro e w3 ⟨⟨A2,c2,rfl,jZ⟩,jB⟩);have jI:=gM.o.fresh jB;have kE:=hid (jG.o.fresh jB);have fR:=hid (fM.o.trans (jB.mono fM.o.size));have fS:=hid jZ;have jP:=hid (fY.o.fresh jB);clear jZ jB gX u0 u2 s3;by_cases jJ:e2≠0
         · have jQ:=jA.o;rw [if_pos jJ] at jQ;have jR:=hid jQ
           have jO:((e2:Int) != 0)=true:=by simp;omega
           clear jQ jJ
           go_wp2_with (first
            | (refine stA e2 st0 zAj zAj jI rfl rfl rfl (by rfl) rfl rfl rfl ?_))
           refine zCS jI rfl rfl rfl fun fA=>?_;rw [jR.o];refine⟨⟨_,rfl,zAH _ e2 st0⟩,?_⟩;exact (zAv.same fQ.o fR.o).after (by rw [fI.o];exact fW.o) (by rw [fI.o];omega) (by omega) fF.o fA
         · have jJ:e2=0:=by omega
           subst jJ;have fH:=jA.o;rw [if_neg (by simp)] at fH;have fE:=hid fH;have jS:=hid jI;clear fH jI;go_upto_region 13 with (fail);have gA:=fQ.o.fresh fR.o;have gB:=(gH.o.below fR.o).more fR.o.size;have fD:=zER own lay p mb T o A c A1 c1 l A2 c2 m w3 gA jM.o gB fC.o.cap fC.o.len fC.o.off fC.o.most fN.o jP.o fS.o;clear gA gB;have vc:=fun j=>kE.o.cell j;have v0:=vc 0;have v1:=vc 1;have v2:=vc 2;have v3:=vc 3;have v4:=vc 4;have v5:=vc 5;have v6:=vc 6;have v7:=vc 7;simp only [opC,Af,Ag] at v0 v1 v2 v3 v4 v5 v6 v7;unfold opV opC at fD;obtain⟨r,hr⟩:=nM (T.does o l m);rw [hr] at fD;have gC:=hid hr;obtain⟨T1,an⟩:=r;clear hr vc
           go_upto_region 14 with (first
            | (go_at_call 43;refine fD.mono ?_;rintro e w4 ⟨⟨v,rfl,hA⟩,gD⟩;have gE:=hid hA;obtain⟨dA,dc,eA,ec,rfl,-,-⟩:=hA;have fJ:=hid gD;obtain⟨own1,zCu,gS,gT,fT⟩:=gD;have gF:=hid (jS.o.chg fT (fun h=>h fF.o));have jX:=fT.size;have fU:=Ac w4 67 zAk;clear gS gT fT)
            | (refine stA an.code an.stat (.slice dA an.data.length dc) (.slice eA an.ents.length ec) fU rfl rfl rfl (by rfl) rfl rfl rfl ?_))
           have fO:=Az (w4.alloc (.cells zAk.toArray 67)) w4.heap.size _ (zAq an.code an.stat (.slice dA an.data.length dc) (.slice eA an.ents.length ec)).toArray _ _ fU;have fO:Blk ((w4.alloc (.cells zAk.toArray 67)).setRow w4.heap.size (zAq an.code an.stat (.slice dA an.data.length dc) (.slice eA an.ents.length ec)).toArray) w4.heap.size 67 (zAq an.code an.stat (.slice dA an.data.length dc) (.slice eA an.ents.length ec)):=fO
           have fP:Below w4.heap.size w4 ((w4.alloc (.cells zAk.toArray 67)).setRow w4.heap.size (zAq an.code an.stat (.slice dA an.data.length dc) (.slice eA an.ents.length ec)).toArray):=((Ab (fun b=>w4.heap.size≤b) w4).alloc _ |>.setRow (fun _=>AA _) _).below nr fun b hb e=>by omega
           have fK:=gF.o.fresh fP;have gU:=hid (gE.o.fresh fP);have fL:=hid fP;clear fU fP gF gE v0 v1 v2 v3 v4 v5 v6 v7 fD;change Ad _ _ _ _ ((w4.alloc (.cells zAk.toArray 67)).setRow w4.heap.size (zAq an.code an.stat (.slice dA an.data.length dc) (.slice eA an.ents.length ec)).toArray);generalize (w4.alloc (.cells zAk.toArray 67)).setRow w4.heap.size (zAq an.code an.stat (.slice dA an.data.length dc) (.slice eA an.ents.length ec)).toArray=w5 at *;have xc:=fun j=>fO.cell j;have x0:=xc 0;have x1:=xc 1;have x2:=xc 2;have x3:=xc 3;have x4:=xc 4;have x5:=xc 5;have x6:=xc 6;have x7:=xc 7;have x8:=xc 8;have x9:=xc 9;simp only [zAq,Af,Ag] at x0 x1 x2 x3 x4 x5 x6 x7 x8 x9;clear xc fO;by_cases fD:an.code=0
           · have gV:((an.code:Int) != 0)=false:=by simp;omega
             have fB:Hid (an.told=an):=hid (by unfold AC;rw [if_pos fD]);clear fD
             go_wp2_with (first
              | (refine stA an.code an.stat (.slice dA an.data.length dc) (.slice eA an.ents.length ec) fK rfl rfl rfl (by rfl) rfl rfl rfl ?_))
             refine zCS fK rfl rfl rfl fun fA=>?_;rw [fE.o,gC.o];refine⟨⟨_,rfl,?_⟩,?_⟩
             · show zBJ _ _ an.told
               rw [fB.o];exact gU.o.row fK _
             exact ((zAv.fst (AD _ _) (Aa fR.o) fJ.o).then_ fL.o).after (by rw [fI.o];exact fW.o) (by rw [fI.o];omega) (by omega) fF.o fA
           · have gV:((an.code:Int) != 0)=true:=by simp;omega
             have fB:Hid (an.told=.err an.code):=hid (by unfold AC;rw [if_neg fD]);clear fD
             go_wp2_with (first
              | (refine stA an.code st0 zAj zAj fK rfl rfl rfl (by rfl) rfl rfl rfl ?_))
             refine zCS fK rfl rfl rfl fun fA=>?_;rw [fE.o,gC.o];refine⟨⟨_,rfl,?_⟩,?_⟩
             · show zBJ _ _ an.told
               rw [fB.o];exact zAH _ an.code st0
             exact ((zAv.fst (AD _ _) (Aa fR.o) fJ.o).then_ fL.o).after (by rw [fI.o];exact fW.o) (by rw [fI.o];omega) (by omega) fF.o fA
      · have fH:T.run o=((T.does o l []).1,(T.does o l []).2.told):=by
         rw [fV.o];unfold Ax Opn.to_;rw [if_neg kB,if_neg kB];rfl
        have fE:=hid fH;have fS:Hid (NmAt w2 w2.heap.size none 0 []):=hid (zEx w2 _)
        have s3:(o.kind==3)=false:=by simp;omega
        have s6:(o.kind==6)=false:=by simp;omega
        have gM:=hid gO;clear fH kB gO;go_upto_region 13 with (fail);clear s3 s6 u0 u2;have gA:=fQ.o.fresh fM.o;have gB:=(gH.o.below fM.o).more fM.o.size;have fD:=zER own lay p mb T o A c A1 c1 l none 0 [] w2 gA jM.o gB fC.o.cap fC.o.len fC.o.off fC.o.most fN.o fY.o fS.o;clear gA gB;have vc:=fun j=>jG.o.cell j;have v0:=vc 0;have v1:=vc 1;have v2:=vc 2;have v3:=vc 3;have v4:=vc 4;have v5:=vc 5;have v6:=vc 6;have v7:=vc 7;simp only [opC,Af,Ag] at v0 v1 v2 v3 v4 v5 v6 v7;unfold opV opC at fD;obtain⟨r,hr⟩:=nM (T.does o l []);rw [hr] at fD;have gC:=hid hr;obtain⟨T1,an⟩:=r;clear hr vc
        go_upto_region 14 with (first
         | (go_at_call 43;refine fD.mono ?_;rintro e w4 ⟨⟨v,rfl,hA⟩,gD⟩;have gE:=hid hA;obtain⟨dA,dc,eA,ec,rfl,-,-⟩:=hA;have fJ:=hid gD;obtain⟨own1,zCu,gS,gT,fT⟩:=gD;have gF:=hid (gM.o.chg fT (fun h=>h fF.o));have jX:=fT.size;have fU:=Ac w4 67 zAk;clear gS gT fT)
         | (refine stA an.code an.stat (.slice dA an.data.length dc) (.slice eA an.ents.length ec) fU rfl rfl rfl (by rfl) rfl rfl rfl ?_))
        have fO:=Az (w4.alloc (.cells zAk.toArray 67)) w4.heap.size _ (zAq an.code an.stat (.slice dA an.data.length dc) (.slice eA an.ents.length ec)).toArray _ _ fU;have fO:Blk ((w4.alloc (.cells zAk.toArray 67)).setRow w4.heap.size (zAq an.code an.stat (.slice dA an.data.length dc) (.slice eA an.ents.length ec)).toArray) w4.heap.size 67 (zAq an.code an.stat (.slice dA an.data.length dc) (.slice eA an.ents.length ec)):=fO
        have fP:Below w4.heap.size w4 ((w4.alloc (.cells zAk.toArray 67)).setRow w4.heap.size (zAq an.code an.stat (.slice dA an.data.length dc) (.slice eA an.ents.length ec)).toArray):=((Ab (fun b=>w4.heap.size≤b) w4).alloc _ |>.setRow (fun _=>AA _) _).below nr fun b hb e=>by omega
        have fK:=gF.o.fresh fP;have gU:=hid (gE.o.fresh fP);have fL:=hid fP;clear fU fP gF gE v0 v1 v2 v3 v4 v5 v6 v7 fD;change Ad _ _ _ _ ((w4.alloc (.cells zAk.toArray 67)).setRow w4.heap.size (zAq an.code an.stat (.slice dA an.data.length dc) (.slice eA an.ents.length ec)).toArray);generalize (w4.alloc (.cells zAk.toArray 67)).setRow w4.heap.size (zAq an.code an.stat (.slice dA an.data.length dc) (.slice eA an.ents.length ec)).toArray=w5 at *;have xc:=fun j=>fO.cell j;have x0:=xc 0;have x1:=xc 1;have x2:=xc 2;have x3:=xc 3;have x4:=xc 4;have x5:=xc 5;have x6:=xc 6;have x7:=xc 7;have x8:=xc 8;have x9:=xc 9;simp only [zAq,Af,Ag] at x0 x1 x2 x3 x4 x5 x6 x7 x8 x9;clear xc fO;by_cases fD:an.code=0
        · have gV:((an.code:Int) != 0)=false:=by simp;omega
          have fB:Hid (an.told=an):=hid (by unfold AC;rw [if_pos fD]);clear fD
          go_wp2_with (first
           | (refine stA an.code an.stat (.slice dA an.data.length dc) (.slice eA an.ents.length ec) fK rfl rfl rfl (by rfl) rfl rfl rfl ?_))
          refine zCS fK rfl rfl rfl fun fA=>?_;rw [fE.o,gC.o];refine⟨⟨_,rfl,?_⟩,?_⟩
          · show zBJ _ _ an.told
            rw [fB.o];exact gU.o.row fK _
          exact ((zAv.fst (AD _ _) (Aa fM.o) fJ.o).then_ fL.o).after (by rw [fI.o];exact fW.o) (by rw [fI.o];omega) (by omega) fF.o fA
        · have gV:((an.code:Int) != 0)=true:=by simp;omega
          have fB:Hid (an.told=.err an.code):=hid (by unfold AC;rw [if_neg fD]);clear fD
          go_wp2_with (first
           | (refine stA an.code st0 zAj zAj fK rfl rfl rfl (by rfl) rfl rfl rfl ?_))
          refine zCS fK rfl rfl rfl fun fA=>?_;rw [fE.o,gC.o];refine⟨⟨_,rfl,?_⟩,?_⟩
          · show zBJ _ _ an.told
            rw [fB.o];exact zAH _ an.code st0
          exact ((zAv.fst (AD _ _) (Aa fM.o) fJ.o).then_ fL.o).after (by rw [fI.o];exact fW.o) (by rw [fI.o];omega) (by omega) fF.o fA
def AskP (a:Ans) (w:World) (e:Ending) (w':World):Prop:=(∃ v,e=.returned v∧zBJ w' v a∧EntF w.heap.size v)∧Below w.heap.size w w'
theorem read_ents (n:PN) (off most:Int):(n.read off most).ents=[]:=by
 unfold PN.read
 split
 · rfl
 split<;>rfl
theorem zCI {w w0 w1 w2:World} {g:Nat} (hg:w.heap.size=g) (hb:Below g w w0) (fA:Below w0.heap.size w0 w1) (hc:Chg (fun b=>b=g+1) w1 w2):Below w.heap.size w w2:=by
 have h1:=hb.size;have h2:=fA.size;rw [hg];exact (hb.trans (fA.mono (by omega))).trans (hc.below (by omega) fun b hb e=>by omega)
theorem qasks_any (own:Nat→Option Role) (lay:Nat→NA) (p mb i:Nat) (T:PT) (n:PN) (o:Opn) (A:Option Addr) (c:Nat) (w:World) (h:PlainAt w own lay p mb T) (hT:T.Wf) (hg:zAe i T.nodes=some n)
 (fI:o.kind=9∨o.kind=10∨o.kind=11) (fT:o.off≤9223372036854775807∧-9223372036854775808≤o.off) (fU:o.len≤9223372036854775807∧-9223372036854775808≤o.len) :
 Calls Tryz.prog 73 #[.pointer (some ⟨p,0,none⟩),opV o A c,.int .i64 (i:Int)] w (AskP (T.asks o i).2 w):=by
 have hu:=PT.asks.eq_1 T o i;have gG:=(hT.ok.get hg).2;have gH:=hT.ok.ino;have fV:own (w.heap.size+1)=none:=h.free (by omega);unfold opV opC;go_enter Tryz.func73,Tryz.ntmps73;go_upto_region 1 with (fail);have fM:Blk ((w.alloc (.cells (opC o A c).toArray 70)).alloc (.cells zAk.toArray 67)) w.heap.size 70 (opC o A c):=(Ac w _ _).alloc _
 have fJ:Blk ((w.alloc (.cells (opC o A c).toArray 70)).alloc (.cells zAk.toArray 67)) (w.heap.size+1) 67 zAk:=by
  have:=Ac (w.alloc (.cells (opC o A c).toArray 70)) 67 zAk;simpa using this
 have fQ:Below w.heap.size w ((w.alloc (.cells (opC o A c).toArray 70)).alloc (.cells zAk.toArray 67)):=(br.alloc nr _).alloc (by simp) _
 have gD:((w.alloc (.cells (opC o A c).toArray 70)).alloc (.cells zAk.toArray 67)).heap.size=w.heap.size+2:=by simp
 change Ad _ _ _ _ ((w.alloc (.cells (opC o A c).toArray 70)).alloc (.cells zAk.toArray 67));generalize (w.alloc (.cells (opC o A c).toArray 70)).alloc (.cells zAk.toArray 67)=w0 at *;have fN:=h.fresh fQ;obtain⟨g,fR⟩:=nM (w.heap.size);rw [fR] at fM fJ fQ gD fV;simp only [fR];have fO:=hid fR;have fP:=hid fQ;have gE:=hid fV;have fG:=hid fN;have fA:=hid hg;have fW:=hid hT;have gI:=hid fJ;have fX:=hid fI;clear fR fQ fV h fI;have lkI:=fN.lookI hg (by omega);have x2:=fN.c2;have b0:=(fN.get hg).blk.cell 0;simp only [zB7,Ag] at b0;have y0:=fM.cell 0;have y3:=fM.cell 3;have y4:=fM.cell 4;have y5:=fM.cell 5;simp only [opC,Af,Ag] at y0 y3 y4 y5;clear fM fN hT hg;by_cases k10:o.kind=10
 · rw [if_pos k10] at hu;have fK:=hid hu
   have t10:decide (o.kind=10)=true:=by simpa using k10
   have s10:(o.kind==10)=true:=by simpa using k10
   have fE:=zDx own lay p mb i T n w0 fG.o fW.o.ok fA.o;obtain⟨st,fY⟩:=nM (T.stat i);rw [fY] at fE;unfold stV stC at fE;have fZ:=hid fY;clear hu fY k10
   go_wp2_with (first
    | (go_at_call 99;refine fE.mono ?_;rintro e w1 ⟨rfl,fC⟩;have fF:=fJ.fresh fC;have fD:=hid fC;clear fC)
    | (refine stA 0 st zAj zAj fF rfl rfl rfl (by rfl) rfl rfl rfl ?_))
   refine zCS fF rfl rfl rfl fun fB=>?_;rw [fK.o];rw [fZ.o];refine⟨⟨_,rfl,zAH _ 0 st,zFJ (zAH w0 0 st) rfl⟩,?_⟩;exact zCI fO.o fP.o fD.o fB
 have s10:(o.kind==10)=false:=by simpa using k10
 rw [if_neg k10] at hu;by_cases k11:o.kind=11
 · rw [if_pos k11] at hu;have fK:=hid hu
   have s11:(o.kind==11)=true:=by simpa using k11
   have fE:=zG2 own lay p mb i T n w0 fG.o fW.o fA.o;obtain⟨an,fL⟩:=nM (T.list i);rw [fL] at fE;have fH:=hid fL;clear hu fL k10 k11
   go_wp2_with (first
    | (go_at_call 105;refine fE.mono ?_;rintro e w1 ⟨⟨v,rfl,hA,hF⟩,fC⟩;have gF:=hid hF;clear hF;have fS:=hid hA;obtain⟨dA,dc,eA,ec,rfl,-,-⟩:=hA;have fF:=fJ.fresh fC;have fD:=hid fC;clear fC)
    | (refine stA an.code an.stat (.slice dA an.data.length dc) (.slice eA an.ents.length ec) fF rfl rfl rfl (by rfl) rfl rfl rfl ?_))
   refine zCS fF rfl rfl rfl fun fB=>?_;rw [fK.o];rw [fH.o];refine⟨⟨_,rfl,fS.o.row fF _,gF.o.mono (by have:=fP.o.size;have:=fO.o;omega)⟩,?_⟩;exact zCI fO.o fP.o fD.o fB
 have s11:(o.kind==11)=false:=by simpa using k11
 rw [if_neg k11,zAm fA.o] at hu
 cases hd:n.dir with
 | true =>
  rw [hd,if_pos rfl] at hu;have fK:=hid hu
  have sd:(n.kind==2)=true:=by unfold PN.kind;rw [hd];rfl
  clear hu k10 k11
  go_wp2_with (first
   | (refine stA 102 st0 zAj zAj fJ rfl rfl rfl (by rfl) rfl rfl rfl ?_))
  refine zCS fJ rfl rfl rfl fun fB=>?_;rw [fK.o];refine⟨⟨_,rfl,zAH _ 102 st0,zFJ (zAH w0 102 st0) rfl⟩,?_⟩;exact zCI fO.o fP.o br fB
 | false =>
  rw [hd,if_neg (by simp)] at hu
  have sd:(n.kind==2)=false:=by unfold PN.kind;rw [hd];rfl
  have gB:=hid hd;obtain⟨db,gC⟩:=(fG.o.get fA.o).files hd;have gA:=hid gC;clear hd gC
  have k7:¬o.kind=7:=by have:=fX.o;omega
  have s7:(o.kind==7)=false:=by simpa using k7
  rw [if_neg k7] at hu
  have k8:¬o.kind=8:=by have:=fX.o;omega
  have s8:(o.kind==8)=false:=by simpa using k8
  rw [if_neg k8] at hu;by_cases k9:o.kind=9
  · rw [if_pos k9,zAn fA.o] at hu;have fK:=hid hu
    have s9:(o.kind==9)=true:=by simpa using k9
    have fE:=zHG (lay i) n db o.off o.len w0 (fG.o.get fA.o) (fW.o.ok.get fA.o).1 gA.o fT fU;obtain⟨an,fL⟩:=nM (n.read o.off o.len);rw [fL] at fE;unfold zCq at fE;have fH:=hid fL;clear hu fL k7 k8 k9 k10 k11
    go_wp2_with (first
     | (go_at_call 108;refine fE.mono ?_;rintro e w1 ⟨⟨v,rfl,hA⟩,fC⟩;have fS:=hid hA;obtain⟨dA,dc,eA,ec,rfl,-,-⟩:=hA;have fF:=fJ.fresh fC;have fD:=hid fC;clear fC)
     | (refine stA an.code an.stat (.slice dA an.data.length dc) (.slice eA an.ents.length ec) fF rfl rfl rfl (by rfl) rfl rfl rfl ?_))
    refine zCS fF rfl rfl rfl fun fB=>?_;rw [fK.o];rw [fH.o];refine⟨⟨_,rfl,fS.o.row fF _,zFJ fS.o (by rw [←fH.o];exact read_ents n _ _)⟩,?_⟩;exact zCI fO.o fP.o fD.o fB
  · exact absurd fX.o (by omega)
theorem qdoes_any (own:Nat→Option Role) (lay:Nat→NA) (p mb:Nat) (T:PT) (o:Opn) (A:Option Addr) (c:Nat) (A1:Option Addr) (c1:Nat) (l:List ByteArray) (A2:Option Addr) (c2:Nat) (m:List ByteArray) (w:World) (h:PlainAt w own lay p mb T) (hT:T.Wf)
 (fB:o.kind=9∨o.kind=10∨o.kind=11) (fQ:o.off≤9223372036854775807∧-9223372036854775808≤o.off) (fR:o.len≤9223372036854775807∧-9223372036854775808≤o.len)
 (gA:0≤o.made∧o.made≤1099511627776) (gB:NmAt w w.heap.size A1 c1 l) (gC:NmAt w w.heap.size A2 c2 m) :
 Calls Tryz.prog 43 #[.pointer (some ⟨p,0,none⟩),opV o A c,.slice A1 l.length c1,.slice A2 m.length c2] w (AskP (T.does o l m).2 w):=by
 have hu:=PT.does.eq_1 T o l m;have fS:own (w.heap.size+1)=none:=h.free (by omega);unfold opV opC;go_enter Tryz.func43,Tryz.ntmps43;go_upto_region 1 with (fail);have fF:Blk ((w.alloc (.cells (opC o A c).toArray 70)).alloc (.cells zAk.toArray 67)) w.heap.size 70 (opC o A c):=(Ac w _ _).alloc _
 have fG:Blk ((w.alloc (.cells (opC o A c).toArray 70)).alloc (.cells zAk.toArray 67)) (w.heap.size+1) 67 zAk:=by
  have:=Ac (w.alloc (.cells (opC o A c).toArray 70)) 67 zAk;simpa using this
 have fE:Below w.heap.size w ((w.alloc (.cells (opC o A c).toArray 70)).alloc (.cells zAk.toArray 67)):=(br.alloc nr _).alloc (by simp) _
 have gF:((w.alloc (.cells (opC o A c).toArray 70)).alloc (.cells zAk.toArray 67)).heap.size=w.heap.size+2:=by simp
 change Ad _ _ _ _ ((w.alloc (.cells (opC o A c).toArray 70)).alloc (.cells zAk.toArray 67));generalize (w.alloc (.cells (opC o A c).toArray 70)).alloc (.cells zAk.toArray 67)=w0 at *;have gD:=h.fresh fE;have fH:=gB.fresh fE;have fI:=gC.fresh fE;obtain⟨g,fL⟩:=nM (w.heap.size);rw [fL] at fF fG fE gF fS;simp only [fL];have fT:=hid fL;have fU:=hid fE;have gG:=hid fS;have fJ:=hid gD;have fM:=hid hT;have gN:=hid fG;have gH:=hid fF;have fC:=hid fH;have gI:=hid fI;have fA:=hid fB;clear fL fE fS h fB gD hT gB gC fH fI;have y0:=fF.cell 0;have y6:=fF.cell 6;simp only [opC,Af,Ag] at y0 y6;clear fF;obtain⟨made,gE⟩:∃ made:Nat,o.made=(made:Int):=⟨o.made.toNat,by omega⟩;rw [gE] at y6
 have k1:¬o.kind=1:=by have:=fA.o;omega
 have s1:(o.kind==1)=false:=by simpa using k1
 rw [if_neg k1] at hu
 have k2:¬o.kind=2:=by have:=fA.o;omega
 have s2:(o.kind==2)=false:=by simpa using k2
 rw [if_neg k2] at hu
 have k3:¬o.kind=3:=by have:=fA.o;omega
 have s3:(o.kind==3)=false:=by simpa using k3
 rw [if_neg k3] at hu
 have k4:¬o.kind=4:=by have:=fA.o;omega
 have s4:(o.kind==4)=false:=by simpa using k4
 rw [if_neg k4] at hu
 have k5:¬o.kind=5:=by have:=fA.o;omega
 have s5:(o.kind==5)=false:=by simpa using k5
 rw [if_neg k5] at hu
 have k6:¬o.kind=6:=by have:=fA.o;omega
 have s6:(o.kind==6)=false:=by simpa using k6
 rw [if_neg k6] at hu
 have k12:¬o.kind=12:=by have:=fA.o;omega
 have s12:(o.kind==12)=false:=by simpa using k12
 have k14:¬o.kind=14:=by have:=fA.o;omega
 have s14:(o.kind==14)=false:=by simpa using k14
 rw [if_neg (by rintro (h | h);exact k12 h;exact k14 h)] at hu;have fK:=zDU own lay p mb T _ A1 c1 l w0 fJ.o fM.o fC.o.sees fC.o.len fC.o.big;have fN:=zBT fM.o l 1 (let ⟨n,h,_⟩:=fM.o.root;⟨n,h⟩);obtain⟨r,hr⟩:=nM (T.walk l 1);rw [hr] at fK fN hu;obtain⟨i,e1⟩:=r;simp only at fK fN hu;unfold zAS at fK;have fV:=hid fN;clear hr fN k1 k2 k3 k4 k5 k6 k12 k14;by_cases fO:e1≠0
 · rw [if_pos fO] at hu;have fW:=hid hu
   have gJ:((e1:Int) != 0)=true:=by simp;omega
   clear hu fO
   go_wp2_with (first
    | (go_at_call 72;refine fK.mono ?_;rintro e w1 ⟨rfl,rfl⟩)
    | (refine stA e1 st0 zAj zAj fG rfl rfl rfl (by rfl) rfl rfl rfl ?_))
   refine zCS fG rfl rfl rfl fun fD=>?_;rw [fW.o];refine⟨⟨_,rfl,zAH _ e1 st0,zFJ (zAH w0 e1 st0) rfl⟩,?_⟩;exact zCI fT.o fU.o br fD
 · have fO:e1=0:=by omega
   subst fO;rw [if_neg (by simp)] at hu;have fW:=hid hu;obtain⟨n,hn⟩:=fV.o rfl;have fP:=qasks_any own lay p mb i T n o A c w0 fJ.o fM.o hn fA.o fQ fR;have yc:=fun j=>gH.o.cell j;have z1:=yc 1;have z2:=yc 2;have z3:=yc 3;have z4:=yc 4;have z5:=yc 5;have z7:=yc 7;simp only [opC,Af,Ag] at z1 z2 z3 z4 z5 z7;unfold opV opC at fP;rw [gE] at fP;obtain⟨r,hr⟩:=nM (T.asks o i);rw [hr] at fP;have gK:=hid hr;obtain⟨T1,an⟩:=r;clear hu hr hn yc
   go_wp2_with (first
    | (go_at_call 72;refine fK.mono ?_;rintro e w1 ⟨rfl,rfl⟩)
    | (go_at_call 73;refine fP.mono ?_;rintro e w1 ⟨⟨v,rfl,hA,hF⟩,fX⟩;have gL:=hid hF;clear hF;have gM:=hid hA;obtain⟨dA,dc,eA,ec,rfl,-,-⟩:=hA;have fY:=hid fX;have fZ:=fG.fresh fX;clear fX)
    | (refine stA an.code an.stat (.slice dA an.data.length dc) (.slice eA an.ents.length ec) fZ rfl rfl rfl (by rfl) rfl rfl rfl ?_))
   refine zCS fZ rfl rfl rfl fun fD=>?_;rw [fW.o];rw [gK.o];refine⟨⟨_,rfl,gM.o.row fZ _,gL.o.mono (by have:=fU.o.size;have:=fT.o;omega)⟩,?_⟩;exact zCI fT.o fU.o fY.o fD
theorem qdo_any (own:Nat→Option Role) (lay:Nat→NA) (p mb:Nat) (T:PT) (o:Opn) (A:Option Addr) (c:Nat) (m0:Int) (w:World) (h:PlainAt w own lay p mb T) (hT:T.Wf) (fF:o.kind=9∨o.kind=10∨o.kind=11) (hf:o.fine=true) (gG:o.off≤9223372036854775807∧-9223372036854775808≤o.off) (gH:o.len≤9223372036854775807∧-9223372036854775808≤o.len) (jD:o.path.size≤100000) (hm:w.cell? ⟨0,0,none⟩=some (.int .i64 m0)) :
 Calls Tryz.prog 24 #[.pointer (some ⟨p,0,none⟩),opV o A c] w (AskP (T.run o).2 w):=by
 have hu:=PT.run.eq_1 T o;have gI:own (w.heap.size+1)=none:=h.free (by omega);unfold opV;go_enter Tryz.func24,Tryz.ntmps24;go_upto_region 1 with (fail);have fW:Blk ((w.alloc (.cells (opC o A c).toArray 70)).alloc (.cells zAk.toArray 67)) w.heap.size 70 (opC o A c):=(Ac w _ _).alloc _
 have gJ:Blk ((w.alloc (.cells (opC o A c).toArray 70)).alloc (.cells zAk.toArray 67)) (w.heap.size+1) 67 zAk:=by
  have:=Ac (w.alloc (.cells (opC o A c).toArray 70)) 67 zAk;simpa using this
 have fM:Below w.heap.size w ((w.alloc (.cells (opC o A c).toArray 70)).alloc (.cells zAk.toArray 67)):=(br.alloc nr _).alloc (by simp) _
 have jE:((w.alloc (.cells (opC o A c).toArray 70)).alloc (.cells zAk.toArray 67)).heap.size=w.heap.size+2:=by simp
 change Ad _ _ _ _ ((w.alloc (.cells (opC o A c).toArray 70)).alloc (.cells zAk.toArray 67));generalize (w.alloc (.cells (opC o A c).toArray 70)).alloc (.cells zAk.toArray 67)=w0 at *;have gT:=h.fresh fM;have fN:w0.cell? ⟨0,0,none⟩=some (.int .i64 m0):=(fM.cell (p:=⟨0,0,none⟩) (Ae _ _ hm)).trans hm;obtain⟨g,fX⟩:=nM (w.heap.size);rw [fX] at fW gJ fM jE gI;simp only [fX];have fY:=hid fX;have fZ:=hid fM;have jF:=hid gI;have gK:=hid gT;have jG:=hid hT;have gL:=hid fF;have gU:=hid fN;have jH:=hid fW;clear fX fM gI h gT hT hm fN fF;have yc:=fun j=>fW.cell j;have y0:=yc 0;have y1:=yc 1;have y2:=yc 2;have y3:=yc 3;have y4:=yc 4;have y5:=yc 5;have y6:=yc 6;have y7:=yc 7;simp only [opC,Af,Ag] at y0 y1 y2 y3 y4 y5 y6 y7;have gA:=zJk o A c w0;unfold opV opC at gA;clear fW yc;unfold opC;rw [hf,if_neg (by simp)] at hu;rw [hf] at gA
 have fG:0≤o.made∧o.made≤1099511627776:=by
  unfold Av at hf;have:=of_decide_eq_true hf;exact⟨this.2.2.1,this.2.2.2.1⟩
 have fI:=hid fG;have gV:=hid hu;clear hu hf fG;go_upto_region 5 with (go_at_call 41;refine gA.mono ?_;rintro e w1 ⟨rfl,fO⟩);have jI:=hid (gJ.fresh fO);have gM:=hid (jH.o.fresh fO);have fP:=hid fO;have gW:w1.cell? ⟨0,0,none⟩=some (.int .i64 m0):=(fO.cell (p:=⟨0,0,none⟩) (Ae _ _ gU.o)).trans gU.o;have fJ:=hid gW;clear fO gW gA y0 y1 y2 y3 y4 y5 y6 y7 gJ;have u0:w1.cell? ⟨g,0,none⟩=some (.int .i64 o.kind):=gM.o.cell 0;have u1:w1.cell? ⟨g,1,none⟩=some (.string o.path):=gM.o.cell 1
 have kA:¬(o.kind=12∨o.kind=14):=by have:=gL.o;omega
 have gN:o.code1=(spl o.path).2∧o.from_=(spl o.path).1:=by unfold Aw Ay;rw [if_neg kA,if_neg kA];exact⟨rfl,rfl⟩
 have fQ:=gV.o;rw [gN.1,gN.2] at fQ;obtain⟨r,hr⟩:=nM (spl o.path);obtain⟨l,e1⟩:=r;rw [hr] at fQ;simp only at fQ;have gX:=zGr o.path l e1 m0 w1 hr (AB jD (by decide)) fJ.o;have fR:=hid fQ
 have s12:(o.kind != 12)=true:=by simp;omega
 have s14:(o.kind != 14)=true:=by simp;omega
 clear fQ gN hr gV kA;go_upto_region 7 with (go_at_call 42;refine gX.mono ?_;rintro e w2 ⟨⟨A1,c1,rfl,gY⟩,fS⟩);have gB:=jI.o.fresh fS;have gO:=hid (gM.o.fresh fS);have fA:=hid (fP.o.trans (fS.mono fP.o.size));have jJ:=hid ((fS.cell (p:=⟨0,0,none⟩) (Ae _ _ fJ.o)).trans fJ.o);have gP:=hid gY;clear gY fS gX u0 u1 s12 s14;by_cases gC:e1≠0
 · have fK:=fR.o;rw [if_pos gC] at fK;have fL:=hid fK
   have jK:((e1:Int) != 0)=true:=by simp;omega
   clear fK gC
   go_wp2_with (first
    | (refine stA e1 st0 zAj zAj gB rfl rfl rfl (by rfl) rfl rfl rfl ?_))
   refine zCS gB rfl rfl rfl fun fB=>?_;rw [fL.o];refine⟨⟨_,rfl,zAH _ e1 st0,zFJ (zAH w0 e1 st0) rfl⟩,?_⟩;exact zCI fY.o fZ.o fA.o fB
 · have gC:e1=0:=by omega
   subst gC;have fK:=fR.o;rw [if_neg (by simp)] at fK;have fL:=hid fK;clear fK;go_upto_region 9 with (fail);have u0:w2.cell? ⟨g,0,none⟩=some (.int .i64 o.kind):=gO.o.cell 0;have u2:w2.cell? ⟨g,2,none⟩=some (.string o.dst):=gO.o.cell 2
   have kB:¬(o.kind=3∨o.kind=6):=by have:=gL.o;omega
   have fT:T.run o=((T.does o l []).1,(T.does o l []).2.told):=by
    rw [fL.o];unfold Ax Opn.to_;rw [if_neg kB,if_neg kB];rfl
   have fH:=hid fT;have gQ:Hid (NmAt w2 w2.heap.size none 0 []):=hid (zEx w2 _)
   have s3:(o.kind==3)=false:=by simp;omega
   have s6:(o.kind==6)=false:=by simp;omega
   have gR:=hid gB;clear fT kB gB;go_upto_region 13 with (fail);clear s3 s6 u0 u2;have gZ:=gK.o.fresh fA.o;have fD:=qdoes_any own lay p mb T o A c A1 c1 l none 0 [] w2 gZ jG.o gL.o gG gH fI.o gP.o gQ.o;clear gZ;have vc:=fun j=>gO.o.cell j;have v0:=vc 0;have v1:=vc 1;have v2:=vc 2;have v3:=vc 3;have v4:=vc 4;have v5:=vc 5;have v6:=vc 6;have v7:=vc 7;simp only [opC,Af,Ag] at v0 v1 v2 v3 v4 v5 v6 v7;unfold opV opC at fD;obtain⟨r,hr⟩:=nM (T.does o l []);rw [hr] at fD;have jA:=hid hr;obtain⟨T1,an⟩:=r;clear hr vc
   go_upto_region 14 with (first
    | (go_at_call 43;refine fD.mono ?_;rintro e w4 ⟨⟨v,rfl,hA,hF⟩,gD⟩;have jL:=hid hF;clear hF;have jB:=hid hA;obtain⟨dA,dc,eA,ec,rfl,-,-⟩:=hA;have fE:=hid gD;have jC:=hid (gR.o.fresh gD);have jO:=gD.size;have gS:=Ac w4 67 zAk;clear gD)
    | (refine stA an.code an.stat (.slice dA an.data.length dc) (.slice eA an.ents.length ec) gS rfl rfl rfl (by rfl) rfl rfl rfl ?_))
   have gE:=Az (w4.alloc (.cells zAk.toArray 67)) w4.heap.size _ (zAq an.code an.stat (.slice dA an.data.length dc) (.slice eA an.ents.length ec)).toArray _ _ gS;have gE:Blk ((w4.alloc (.cells zAk.toArray 67)).setRow w4.heap.size (zAq an.code an.stat (.slice dA an.data.length dc) (.slice eA an.ents.length ec)).toArray) w4.heap.size 67 (zAq an.code an.stat (.slice dA an.data.length dc) (.slice eA an.ents.length ec)):=gE
   have gF:Below w4.heap.size w4 ((w4.alloc (.cells zAk.toArray 67)).setRow w4.heap.size (zAq an.code an.stat (.slice dA an.data.length dc) (.slice eA an.ents.length ec)).toArray):=((Ab (fun b=>w4.heap.size≤b) w4).alloc _ |>.setRow (fun _=>AA _) _).below nr fun b hb e=>by omega
   have fU:=jC.o.fresh gF;have jM:=hid (jB.o.fresh gF);have fV:=hid gF;clear gS gF jC jB v0 v1 v2 v3 v4 v5 v6 v7 fD;change Ad _ _ _ _ ((w4.alloc (.cells zAk.toArray 67)).setRow w4.heap.size (zAq an.code an.stat (.slice dA an.data.length dc) (.slice eA an.ents.length ec)).toArray);generalize (w4.alloc (.cells zAk.toArray 67)).setRow w4.heap.size (zAq an.code an.stat (.slice dA an.data.length dc) (.slice eA an.ents.length ec)).toArray=w5 at *;have xc:=fun j=>gE.cell j;have x0:=xc 0;have x1:=xc 1;have x2:=xc 2;have x3:=xc 3;have x4:=xc 4;have x5:=xc 5;have x6:=xc 6;have x7:=xc 7;have x8:=xc 8;have x9:=xc 9;simp only [zAq,Af,Ag] at x0 x1 x2 x3 x4 x5 x6 x7 x8 x9;clear xc gE;by_cases fD:an.code=0
   · have jN:((an.code:Int) != 0)=false:=by simp;omega
     have fC:Hid (an.told=an):=hid (by unfold AC;rw [if_pos fD]);clear fD
     go_wp2_with (first
      | (refine stA an.code an.stat (.slice dA an.data.length dc) (.slice eA an.ents.length ec) fU rfl rfl rfl (by rfl) rfl rfl rfl ?_))
     refine zCS fU rfl rfl rfl fun fB=>?_;rw [fH.o,jA.o];refine⟨⟨_,rfl,?_,jL.o.mono (by have:=fZ.o.size;have:=fY.o;have:=fA.o.size;omega)⟩,?_⟩
     · show zBJ _ _ an.told
       rw [fC.o];exact jM.o.row fU _
     exact zCI fY.o fZ.o ((fA.o.trans (fE.o.mono fA.o.size)).trans (fV.o.mono (AB fA.o.size fE.o.size))) fB
   · have jN:((an.code:Int) != 0)=true:=by simp;omega
     have fC:Hid (an.told=.err an.code):=hid (by unfold AC;rw [if_neg fD]);clear fD
     go_wp2_with (first
      | (refine stA an.code st0 zAj zAj fU rfl rfl rfl (by rfl) rfl rfl rfl ?_))
     refine zCS fU rfl rfl rfl fun fB=>?_;rw [fH.o,jA.o];refine⟨⟨_,rfl,?_,zFJ (zAH w0 an.code st0) rfl⟩,?_⟩
     · show zBJ _ _ an.told
       rw [fC.o];exact zAH _ an.code st0
     exact zCI fY.o fZ.o ((fA.o.trans (fE.o.mono fA.o.size)).trans (fV.o.mono (AB fA.o.size fE.o.size))) fB
theorem zHZ {k:Nat} {s:List UInt8}:∀ {d:Dat},(∀ p∈d,k<p.1)→zBe kB (k,s) true d=d
 | [],_=>rfl
 | y::r,h=>by
  have:=h y Ah;rw [zBe,if_neg (by simp),if_neg (by simp only [kB];omega),Bool.true_or,zHZ fun p hp=>h p (Ai _ hp)];rfl
theorem zHE (k:Nat) (s:List UInt8):∀ {d:Dat},zBo zAG d→zBe kB (k,s) false d=zA2 zAG k s d
 | [],_=>rfl
 | p::m,hr=>by
  obtain⟨h3,h4⟩:=List.pairwise_cons.1 hr
  have h3:∀ q∈m,p.1<q.1:=fun q hq=>by simpa [zAG] using h3 q hq
  have ks:kB (k,s)=(k:Int):=rfl;have kp:kB p=(p.1:Int):=rfl;rw [zBe,ks,kp];rcases Nat.lt_trichotomy p.1 k with hlt | heq | hgt
  · have e:zA2 zAG k s (p::m)=p::zA2 zAG k s m:=by
     unfold zA2
     have e1:zBB k (p::m)=p::zBB k m:=by unfold zBB;rw [Aj,if_pos (by simp;omega)]
     rw [e1,zCi,if_neg (by simp [zAG];omega)]
    rw [if_neg (fun h=>by have:=h.2;omega),if_neg (by omega),show decide ((k:Int)≤(p.1:Int))=false by simp;omega,Bool.or_false,zHE k s h4,e];rfl
  · have e1:zBB k (p::m)=m:=by
     have:=delS_none (k:=k) (m:=m) fun q hq=>by have:=h3 q hq;omega
     unfold zBB at this ⊢;rw [Aj,if_neg (by simp;omega)];exact this
    have e:zA2 zAG k s (p::m)=(k,s)::m:=by
     unfold zA2;rw [e1]
     cases m with
     | nil=>rfl
     | cons q r=>rw [zCi,if_pos (by have:=h3 q Ah;simp [zAG];omega)]
    rw [if_pos ⟨rfl,by omega⟩,if_pos (by omega),show decide ((k:Int)≤(p.1:Int))=true by simp;omega,Bool.or_true,zHZ fun q hq=>by have:=h3 q hq;omega,e];rfl
  · have e:zA2 zAG k s (p::m)=(k,s)::p::m:=by
     unfold zA2
     rw [delS_none fun q hq=>by
      rcases List.mem_cons.1 hq with rfl | hq
      · omega
      · have:=h3 q hq;omega,zCi,if_pos (by simp [zAG];omega)]
    rw [if_pos ⟨rfl,by omega⟩,if_neg (by omega),show decide ((k:Int)≤(p.1:Int))=true by simp;omega,Bool.or_true,zHZ fun q hq=>by have:=h3 q hq;omega,e];rfl
where
 delS_none {k:Nat} {m:Dat} (h:∀ p∈m,p.1≠k):zBB k m=m:=by
  unfold zBB;rw [List.filter_eq_self];intro p hp;have:=h p hp;simpa using this
theorem zip_ab {α β:Type}:∀ l:List (α×β),(l.map (·.1)).zip (l.map (·.2))=l
 | []=>rfl
 | p::r=>by simp only [List.map_cons,List.zip_cons_cons,zip_ab r]
section
variable {d:Dat} {z e:Nat}
theorem zB5.more (h:zB5 d z) (he:z≤e):zB5 d e:=fun p hp=>⟨by have:=(h p hp).1;omega,fun j hj hz=>(h p hp).2 j hj (by omega)⟩
theorem zB5.cut_same (h:zB5 d z) (hs:∀ p∈d,p.2.length=128) (he:z≤e):zAI e d=d:=by
 induction d with
 | nil=>rfl
 | cons p r ih =>
  have h1:=h p Ah;have h2:=hs p Ah
  have hc:zIm e p.1 p.2=some p.2:=by
   unfold zIm;rw [if_neg (by omega)]
   congr 1
   split
   · unfold zBV
     apply Ak
     · simp;omega
     · intro j a b;rw [Al]
       split
       · rw [Am]
       · rename_i hj;rw [An,h1.2 j b (by simp at hj;omega)]
   · rfl
  have ih:=ih (fun p hp=>h p (Ai _ hp)) fun p hp=>hs p (Ai _ hp);unfold zAI at ih ⊢;rw [List.filterMap_cons,hc,ih];rfl
theorem cut_tail (hs:∀ p∈d,p.2.length=128):zB5 (zAI e d) e:=by
 intro p hp;unfold zAI at hp;obtain⟨q,hq,fA⟩:=List.mem_filterMap.1 hp;have hl:=hs q hq;unfold zIm at fA
 split at fA
 · cases fA
 · simp only [AE,Option.some.injEq] at fA;subst fA;refine⟨by simp only;omega,fun j hj hz=>?_⟩;simp only at hz;by_cases h2:e<q.1 * 128+128
   · simp only [if_pos h2] at hj ⊢;unfold zBV at hj ⊢;rw [List.getElem_append_right (by rw [Ao];omega),An]
   · simp only [if_neg h2] at hj;omega
theorem cutD_len (hs:∀ p∈d,p.2.length=128):∀ p∈zAI e d,p.2.length=128:=by
 intro p hp;unfold zAI at hp;obtain⟨q,hq,fA⟩:=List.mem_filterMap.1 hp;have hl:=hs q hq;unfold zIm at fA
 split at fA
 · cases fA
 · simp only [AE,Option.some.injEq] at fA;subst fA;simp only
   split
   · unfold zBV;simp;omega
   · exact hl
theorem zB5.blk (h:zB5 d z) (k j:Nat) (hj:j<(zA4 d k).length) (hz:z≤k * 128+j):(zA4 d k)[j]=0:=by
 have e:zA4 d k=(zAe k d).getD zBD:=rfl
 cases hg:zAe k d with
 | none =>
  have e2:zA4 d k=zBD:=by rw [e,hg];rfl
  simp only [e2,zBD,An]
 | some s =>
  have e2:zA4 d k=s:=by rw [e,hg];rfl
  simp only [e2] at hj ⊢;exact (h (k,s) (zAf hg)).2 j hj hz
theorem zB5.wr1 (h:zB5 d z) {q:Nat} {b:UInt8} (hq:q<e) (he:z≤e):zB5 (Go.Proofs.YtolpcfhfcdkokaaGreatDoor.wr1 d q b) e:=by
 intro p hp;unfold Go.Proofs.YtolpcfhfcdkokaaGreatDoor.wr1 at hp;rcases (zBj zAG).1 hp with rfl | hp
 · refine⟨by show q / 128 * 128<e;omega,fun j hj hz=>?_⟩;simp only [List.length_set] at hj hz
   show ((zA4 d (q / 128)).set (q % 128) b)[j]=0
   rw [List.getElem_set_ne (by omega)];exact h.blk _ _ hj (by omega)
 · exact h.more he p hp.1
theorem zB5.wrB (h:zB5 d z) (he:z≤e):∀ {q:Nat} {bs:List UInt8},q+bs.length≤e→zB5 (Go.Proofs.YtolpcfhfcdkokaaGreatDoor.wrB d q bs) e:=by
 intro q bs
 induction bs generalizing d q z with
 | nil=>intro _;exact h.more he
 | cons b bs ih =>
  intro hq;simp only [List.length_cons] at hq;exact ih (h.wr1 (b:=b) (by omega) he) nr (by omega)
end
section
variable {x:Hd} {i:Nat} {n:PN}
theorem RepN.fidx (h:RepN x i n) (ho:n.Ok) (hd:n.dir=false):x.idx=n.data.map (·.1):=by rw [h.idx];unfold PN.keys;rw [(ho.df hd).1];simp
theorem RepN.fdat (h:RepN x i n) (ho:n.Ok) (hd:n.dir=false):x.dat=n.data.map (·.2):=by rw [h.dat];unfold zFW zAu;rw [(ho.df hd).1];simp
theorem zIZ {d:Dat} (hr:zBo zAG d) {j:Nat} (h:j<d.length):zAe d[j].1 d=some d[j].2:=zAU hr.nd (Ap h)
theorem zJL {w w':World} {e:Ending} {d:Dat} (h1:x.idx=d.map (·.1)) (h2:x.dat=d.map (·.2)) (hr:zBo zAG d) {k:Nat} (h:RBlk x k w e w'):(∃ b:Bool,e=.returned (.tuple #[zB6 (zA4 d k),.bool b]))∧Below w.heap.size w w':=by
 refine⟨?_,h.2⟩;rcases h.1 with ⟨j,hj,hj',hk,-,rfl⟩ | ⟨fA,rfl⟩
 · have hl:j<d.length:=by rw [h1,List.length_map] at hj;exact hj
   have e1:zAe k d=some d[j].2:=by rw [←hk];simp only [h1,Aq];exact zIZ hr hl
   have e2:x.dat[j]=zA4 d k:=by unfold zA4;rw [e1];simp only [h2,Aq,Option.getD_some]
   exact⟨_,by rw [e2]⟩
 · have e1:zAe k d=none:=zA7.2 fun p hp e=>fA p.1 (by rw [h1];exact List.mem_map.2 ⟨p,hp,rfl⟩) e;exact⟨_,by unfold zA4;rw [e1];rfl⟩
def wl (off k:Nat) (ds s:List UInt8) (m:Nat):List UInt8:=(Ar m).foldl (fun s j=>if h:off≤k * 128+j∧k * 128+j-off<ds.length then s.set j ds[k * 128+j-off] else s) s
theorem zH8 (off k:Nat) (ds s:List UInt8) (m:Nat):wl off k ds s (m+1)=if h:off≤k * 128+m∧k * 128+m-off<ds.length then (wl off k ds s m).set m ds[k * 128+m-off] else wl off k ds s m:=by
 unfold wl;rw [List.range_succ,List.foldl_append];rfl
theorem zEM (off k:Nat) (ds s:List UInt8):∀ m,(wl off k ds s m).length=s.length
 | 0=>rfl
 | m+1=>by rw [zH8];split<;>simp [zEM off k ds s m]
theorem wl_get (off k:Nat) (ds s:List UInt8):∀ (m j:Nat) (h:j<(wl off k ds s m).length),(wl off k ds s m)[j]=if h':j<m∧off≤k * 128+j∧k * 128+j-off<ds.length then ds[k * 128+j-off]'(h'.2.2) else s[j]'(by rw [zEM] at h;exact h)
 | 0,j,h=>by rw [dif_neg (by omega)];rfl
 | m+1,j,h=>by
  have ih:=wl_get off k ds s m j (by rw [zEM] at h ⊢;exact h);have hs:=zH8 off k ds s m;simp only [hs];by_cases hc:off≤k * 128+m∧k * 128+m-off<ds.length
  · simp only [dif_pos hc,As];by_cases e:m=j
    · subst e;rw [if_pos rfl,dif_pos ⟨by omega,hc⟩]
    · rw [if_neg e,ih];by_cases h2:j<m∧off≤k * 128+j∧k * 128+j-off<ds.length
      · rw [dif_pos h2,dif_pos ⟨by omega,h2.2⟩]
      · rw [dif_neg h2,dif_neg (by omega)]
  · simp only [dif_neg hc,ih];by_cases h2:j<m∧off≤k * 128+j∧k * 128+j-off<ds.length
    · rw [dif_pos h2,dif_pos ⟨by omega,h2.2⟩]
    · rw [dif_neg h2,dif_neg (fun h3=>by
       by_cases e:j=m
       · subst e;exact hc h3.2
       · exact h2 ⟨by omega,h3.2⟩)]
theorem wr_step {d:Dat} (hd:DOk d) (off k:Nat) (ds:List UInt8) (h0:0<ds.length) (hl:off+ds.length≤136704) (hk:off / 128≤k) (fD:k * 128<off+ds.length) :
 zA2 zAG k (wl off k ds (zA4 d k) 128) (wrB d off (ds.take (k * 128-off)))=wrB d off (ds.take ((k+1) * 128-off)):=by
 obtain⟨a,ha⟩:=nM (k * 128-off);obtain⟨mm,fC⟩:=nM (min ((k+1) * 128-off) ds.length-a)
 have e1:ds.take ((k+1) * 128-off)=ds.take (a+mm):=by
  by_cases h:(k+1) * 128-off≤ds.length
  · rw [show a+mm=(k+1) * 128-off by omega]
  · rw [List.take_of_length_le (by omega),List.take_of_length_le (by omega)]
 have hq:(off+a) / 128=k:=by omega
 have fE:a+mm≤ds.length:=by omega
 have fF:a+mm=ds.length∨(k+1) * 128=off+a+mm:=by omega
 obtain⟨fr,fB⟩:=nM ((off+a) % 128)
 have fG:k * 128+fr=off+a:=by omega
 have fH:fr<128:=by omega
 have fI:fr+mm≤128:=by omega
 have fJ:a=0∨fr=0:=by omega
 have fA:(ds.take a).length=a:=by rw [Ao];omega
 have hD:DOk (wrB d off (ds.take a)):=hd.wrB (by rw [fA];omega);rw [e1,zJu d off ds a mm (by omega) (by omega) (hD.blk _) (by omega),hq,ha,fB]
 congr 1
 have hb:zA4 (wrB d off (ds.take a)) k=zA4 d k:=by
  apply Ak
  · rw [hD.blk,hd.blk]
  · intro j h1 h2;have hx:=zJ8 hd (k * 128+j) off (ds.take a) (by rw [fA];omega);rw [hD.blk] at h1;rw [dif_neg (by rw [fA];omega)] at hx;unfold zCO at hx;rw [show (k * 128+j) / 128=k by omega,show (k * 128+j) % 128=j by omega,At,Au (by rw [hD.blk];omega),At,Au h2] at hx;exact hx
 rw [hb];have fK:=hd.blk k;generalize zA4 d k=s at *;clear fB fC hq ha e1
 apply Ak
 · rw [zEM,length_splice _ _ _ (by simp;omega)]
 · intro j h1 h2;rw [wl_get];rw [zEM] at h1;unfold splice;simp only [Al,Ao,Am,List.getElem_drop,List.length_drop];by_cases c1:j<fr
   · rw [dif_neg (show ¬(j<128∧off≤k * 128+j∧k * 128+j-off<ds.length) by omega),dif_pos (show j<min fr s.length by omega)]
   · have c3:¬j<min fr s.length:=by omega
     by_cases c2:j-fr<mm
     · rw [dif_pos (show (j<128∧off≤k * 128+j∧k * 128+j-off<ds.length) by omega),dif_neg c3,dif_pos (show j-min fr s.length<min mm (ds.length-a) by omega)]
       congr 1
       omega
     · rw [dif_neg (show ¬(j<128∧off≤k * 128+j∧k * 128+j-off<ds.length) by omega),dif_neg c3,dif_neg (show ¬j-min fr s.length<min mm (ds.length-a) by omega)]
       congr 1
       omega
theorem wrote_rep (h:RepN x i n) (ho:n.Ok) (hd:n.dir=false) {off:Nat} {ds:List UInt8} (h0:0<ds.length) (hl:off+ds.length≤136704) (iA:Option Addr) (ic:Nat) (dA:Option Addr) (dc:Nat) :
 RepN {x with iA:=iA,ic:=ic,dA:=dA,dc:=dc,idx:=(wrB n.data off ds).map (·.1),dat:=(wrB n.data off ds).map (·.2),size:=if x.size<(off:Int)+ds.length then (off:Int)+ds.length else x.size} i (n.wrote off ds):=by
 obtain⟨e1,e2⟩:=ho.df hd;refine⟨h.ino,h.kind,h.links,?_,h.made,?_,?_,⟨h.sl.has,h.sl.one,fun e=>absurd (hd.symm.trans e) (by simp),h.sl.ok,h.sl.at_⟩,?_⟩
 · show (if x.size<(off:Int)+ds.length then (off:Int)+ds.length else x.size)=_
   have e0:¬ds.length=0:=by omega
   simp only [PN.wrote,if_neg e0];rw [h.size];rcases Nat.le_total n.size (off+ds.length) with h3 | h3
   · rw [Nat.max_eq_right h3];split<;>omega
   · rw [Nat.max_eq_left h3];split<;>omega
 · unfold PN.keys PN.wrote;simp [e1]
 · unfold zFW zAu PN.wrote;simp [e1]
 · have e0:¬ds.length=0:=by omega
   simp only [PN.wrote,if_neg e0];exact h.tl.wrB (Nat.le_max_left _ _) (Nat.le_max_right _ _)
theorem cut_rep (h:RepN x i n) (ho:n.Ok) (hd:n.dir=false) (e:Nat) (iA:Option Addr) (ic:Nat) (dA:Option Addr) (dc:Nat) :
 RepN {x with iA:=iA,ic:=ic,dA:=dA,dc:=dc,idx:=(zAI e n.data).map (·.1),dat:=(zAI e n.data).map (·.2),size:=(e:Int)} i (n.cut e):=by
 obtain⟨e1,e2⟩:=ho.df hd;refine⟨h.ino,h.kind,h.links,rfl,h.made,?_,?_,⟨h.sl.has,h.sl.one,fun e=>absurd (hd.symm.trans e) (by simp),h.sl.ok,h.sl.at_⟩,cut_tail ho.secs⟩
 · unfold PN.keys PN.cut;simp [e1]
 · unfold zFW zAu PN.cut;simp [e1]
theorem grow_rep (h:RepN x i n) (ho:n.Ok) (hd:n.dir=false) {e:Nat} (he:n.size≤e):RepN {x with size:=(e:Int)} i (n.cut e):=by
 have h2:=cut_rep h ho hd e x.iA x.ic x.dA x.dc;rw [h.tl.cut_same ho.secs he,←h.fidx ho hd,←h.fdat ho hd] at h2;exact h2
def zl (e fr:Nat) (s:List UInt8) (m:Nat):List UInt8:=(Ar m).foldl (fun s j=>if e≤fr+j then s.set j 0 else s) s
theorem zHR (e fr:Nat) (s:List UInt8) (m:Nat):zl e fr s (m+1)=if e≤fr+m then (zl e fr s m).set m 0 else zl e fr s m:=by
 unfold zl;rw [List.range_succ,List.foldl_append];rfl
theorem zDA (e fr:Nat) (s:List UInt8):∀ m,(zl e fr s m).length=s.length
 | 0=>rfl
 | m+1=>by rw [zHR];split<;>simp [zDA e fr s m]
theorem zl_get (e fr:Nat) (s:List UInt8):∀ (m j:Nat) (h:j<(zl e fr s m).length),(zl e fr s m)[j]=if j<m∧e≤fr+j then 0 else s[j]'(by rw [zDA] at h;exact h)
 | 0,j,h=>by rw [if_neg (by omega)];rfl
 | m+1,j,h=>by
  have ih:=zl_get e fr s m j (by rw [zDA] at h ⊢;exact h);have hs:=zHR e fr s m;simp only [hs];by_cases hc:e≤fr+m
  · simp only [if_pos hc,As];by_cases e:m=j
    · subst e;rw [if_pos rfl,if_pos ⟨by omega,hc⟩]
    · rw [if_neg e,ih];by_cases h2:j<m
      · congr 1;simp only [eq_iff_iff];omega
      · congr 1;simp only [eq_iff_iff];omega
  · simp only [if_neg hc,ih]
    congr 1;simp only [eq_iff_iff];constructor<;>intro h<;>refine⟨?_,h.2⟩<;>omega
theorem cut_step {d:Dat} (hs:∀ p∈d,p.2.length=128) (e:Nat) {j:Nat} (h:j<d.length) :
 zAI e (d.take (j+1))=zAI e (d.take j)++if d[j].1 * 128<e then [(d[j].1,zl e (d[j].1 * 128) d[j].2 128)] else []:=by
 have hl:=hs _ (Ap h);unfold zAI;rw [List.take_succ_eq_append_getElem h,List.filterMap_append]
 congr 1
 generalize d[j]=p at *;simp only [List.filterMap_cons,List.filterMap_nil];unfold zIm;by_cases h1:p.1 * 128<e
 · rw [if_neg (by omega),if_pos h1];simp only [AE]
   congr 2
   by_cases h4:e<p.1 * 128+128
   · rw [if_pos h4];unfold zBV
     apply Ak
     · rw [zDA];simp;omega
     · intro q h2 h3;rw [zl_get];rw [zDA] at h3;rw [Al];simp only [Ao,Am,An];by_cases h5:e≤p.1 * 128+q
       · rw [dif_neg (by omega),if_pos (by omega)]
       · rw [dif_pos (by omega),if_neg (by omega)]
   · rw [if_neg h4]
     apply Ak
     · rw [zDA]
     · intro q h2 h3;rw [zl_get];rw [zDA] at h3;rw [if_neg (by omega)]
 · rw [if_pos (by omega),if_neg h1];rfl
end
end Go.Proofs.YtolpcfhfcdkokaaGreatDoor
