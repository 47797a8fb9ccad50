/- Joined out of PAsk..PAsk. -/
import Derived.Test.YtolpcfhfcdkokaaGreatDoorQ30
set_option maxHeartbeats 16000000
set_option maxRecDepth 100000
namespace Go.Proofs.YtolpcfhfcdkokaaGreatDoor
open Lib (hid)
open Go.RowKit Go.Proofs
def AskP (a:Ans) (w:World) (e:Ending) (w':World):Prop:=(∃ v,e=.returned v∧zBO w' v a∧EntF w.heap.size v)∧Below w.heap.size w w'
theorem read_ents (n:PN) (off most:Int):(n.read off most).ents=[]:=by
 unfold PN.read
 split
 · rfl
 split<;>rfl
theorem zCD {w w0 w1 w2:World} {g:Nat} (hg:w.heap.size=g) (hb:Below g w w0) (fA:Below w0.heap.size w0 w1) (hc:Chg (fun b=>b=g+1) w1 w2):Below w.heap.size w w2:=by
 have h1:=hb.size;have h2:=fA.size;rw [hg];exact (hb.trans (fA.mono (by omega))).trans (hc.below (by omega) fun b hb e=>by omega)
theorem qasks_any (own:Nat→Option Role) (lay:Nat→NA) (p mb i:Nat) (T:PT) (n:PN) (o:Opn) (A:Option Addr) (c:Nat) (w:World) (h:PlainAt w own lay p mb T) (hT:T.Wf) (hg:zAd i T.nodes=some n)
 (fJ:o.kind=9∨o.kind=10∨o.kind=11) (fU:o.off≤9223372036854775807∧-9223372036854775808≤o.off) (fV:o.len≤9223372036854775807∧-9223372036854775808≤o.len) :
 Calls Tryz.prog 73 #[.pointer (some ⟨p,0,none⟩),opV o A c,.int .i64 (i:Int)] w (AskP (T.asks o i).2 w):=by
 have hu:=PT.asks.eq_1 T o i;have gH:=(hT.ok.get hg).2;have gI:=hT.ok.ino;have fW:own (w.heap.size+1)=none:=h.free (by omega);unfold opV opC;go_enter Tryz.func73,Tryz.ntmps73;go_upto_region 1 with (fail);have fN:Blk ((w.alloc (.cells (opC o A c).toArray 70)).alloc (.cells zAs.toArray 67)) w.heap.size 70 (opC o A c):=(Blk.new w _ _).alloc _
 have fK:Blk ((w.alloc (.cells (opC o A c).toArray 70)).alloc (.cells zAs.toArray 67)) (w.heap.size+1) 67 zAs:=by
  have:=Blk.new (w.alloc (.cells (opC o A c).toArray 70)) 67 zAs;simpa using this
 have fR:Below w.heap.size w ((w.alloc (.cells (opC o A c).toArray 70)).alloc (.cells zAs.toArray 67)):=((Below.refl _ _).alloc (Nat.le_refl _) _).alloc (by simp) _
 have gE:((w.alloc (.cells (opC o A c).toArray 70)).alloc (.cells zAs.toArray 67)).heap.size=w.heap.size+2:=by simp
 change Code.wp _ _ _ _ ((w.alloc (.cells (opC o A c).toArray 70)).alloc (.cells zAs.toArray 67));generalize (w.alloc (.cells (opC o A c).toArray 70)).alloc (.cells zAs.toArray 67)=w0 at *;have fO:=h.fresh fR;obtain⟨g,fS⟩:∃ g,w.heap.size=g:=⟨_,rfl⟩;rw [fS] at fN fK fR gE fW;simp only [fS];have fP:=hid fS;have fQ:=hid fR;have gF:=hid fW;have fH:=hid fO;have fA:=hid hg;have fX:=hid hT;have gJ:=hid fK;have fY:=hid fJ;clear fS fR fW h fJ;have lkI:=fO.lookI hg (by omega);have x2:=fO.c2;have b0:=(fO.get hg).blk.cell 0;simp only [zCc,List.getElem?_cons_zero] at b0;have y0:=fN.cell 0;have y3:=fN.cell 3;have y4:=fN.cell 4;have y5:=fN.cell 5;simp only [opC,List.getElem?_cons_succ,List.getElem?_cons_zero] at y0 y3 y4 y5;clear fN fO hT hg;by_cases k10:o.kind=10
 · rw [if_pos k10] at hu;have fL:=hid hu
   have t10:decide (o.kind=10)=true:=by simpa using k10
   have s10:(o.kind==10)=true:=by simpa using k10
   have fF:=zDU own lay p mb i T n w0 fH.out fX.out.ok fA.out;obtain⟨st,fZ⟩:∃ st,T.stat i=st:=⟨_,rfl⟩;rw [fZ] at fF;unfold stV stC at fF;have gA:=hid fZ;clear hu fZ k10
   go_wp2_with (first
    | (go_at_call 99;refine fF.mono ?_;rintro e w1 ⟨rfl,fD⟩;have fG:=fK.fresh fD;have fE:=hid fD;clear fD)
    | (refine wpList_store_row rfl 67 (.tmp 6) (.tmp 21) rfl (g+1) (zAh 0 st zAg zAg).toArray rfl (by rfl) 67 _ fG rfl rfl (zAv _ _ _ _ _ _ _ _) ?_))
   have fB:=setRow_heap w1 (g+1) _ (zAh 0 st zAg zAg).toArray _ _ fG;refine bodyPost_ret (results_cell_row rfl _ _ (g+1) 67 (zAh 0 st zAg zAg).toArray (0,0) _ rfl fB Tryz.underlying67 rfl rfl) rfl ?_;have fC:Chg (fun b=>b=g+1) w1 (w1.setRow (g+1) (zAh 0 st zAg zAg).toArray):=(Chg.refl (fun b=>b=g+1) w1).setRow (fun _=>rfl) _;rw [fL.out];rw [gA.out];refine⟨⟨_,rfl,zAH _ 0 st,zFi (zAH w0 0 st) rfl⟩,?_⟩;exact zCD fP.out fQ.out fE.out fC
 have s10:(o.kind==10)=false:=by simpa using k10
 rw [if_neg k10] at hu;by_cases k11:o.kind=11
 · rw [if_pos k11] at hu;have fL:=hid hu
   have s11:(o.kind==11)=true:=by simpa using k11
   have fF:=zGu own lay p mb i T n w0 fH.out fX.out fA.out;obtain⟨an,fM⟩:∃ an,T.list i=an:=⟨_,rfl⟩;rw [fM] at fF;have fI:=hid fM;clear hu fM k10 k11
   go_wp2_with (first
    | (go_at_call 105;refine fF.mono ?_;rintro e w1 ⟨⟨v,rfl,hA,hF⟩,fD⟩;have gG:=hid hF;clear hF;have fT:=hid hA;obtain⟨dA,dc,eA,ec,rfl,-,-⟩:=hA;have fG:=fK.fresh fD;have fE:=hid fD;clear fD)
    | (refine wpList_store_row rfl 67 (.tmp 6) (.tmp 26) rfl (g+1) (zAh an.code an.stat (.slice dA an.data.length dc) (.slice eA an.ents.length ec)).toArray rfl (by rfl) 67 _ fG rfl rfl (zAv _ _ _ _ _ _ _ _) ?_))
   have fB:=setRow_heap w1 (g+1) _ (zAh an.code an.stat (.slice dA an.data.length dc) (.slice eA an.ents.length ec)).toArray _ _ fG;refine bodyPost_ret (results_cell_row rfl _ _ (g+1) 67 (zAh an.code an.stat (.slice dA an.data.length dc) (.slice eA an.ents.length ec)).toArray (0,0) _ rfl fB Tryz.underlying67 rfl rfl) rfl ?_;have fC:Chg (fun b=>b=g+1) w1 (w1.setRow (g+1) (zAh an.code an.stat (.slice dA an.data.length dc) (.slice eA an.ents.length ec)).toArray):=(Chg.refl (fun b=>b=g+1) w1).setRow (fun _=>rfl) _;rw [fL.out];rw [fI.out];refine⟨⟨_,rfl,fT.out.row fG _,gG.out.mono (by have:=fQ.out.size;have:=fP.out;omega)⟩,?_⟩;exact zCD fP.out fQ.out fE.out fC
 have s11:(o.kind==11)=false:=by simpa using k11
 rw [if_neg k11,zAn fA.out] at hu
 cases hd:n.dir with
 | true =>
  rw [hd,if_pos rfl] at hu;have fL:=hid hu
  have sd:(n.kind==2)=true:=by unfold PN.kind;rw [hd];rfl
  clear hu k10 k11
  go_wp2_with (first
   | (refine wpList_store_row rfl 67 (.tmp 6) (.tmp 32) rfl (g+1) (zAh 102 st0 zAg zAg).toArray rfl (by rfl) 67 _ fK rfl rfl (zAv _ _ _ _ _ _ _ _) ?_))
  have fB:=setRow_heap w0 (g+1) _ (zAh 102 st0 zAg zAg).toArray _ _ fK;refine bodyPost_ret (results_cell_row rfl _ _ (g+1) 67 (zAh 102 st0 zAg zAg).toArray (0,0) _ rfl fB Tryz.underlying67 rfl rfl) rfl ?_;have fC:Chg (fun b=>b=g+1) w0 (w0.setRow (g+1) (zAh 102 st0 zAg zAg).toArray):=(Chg.refl (fun b=>b=g+1) w0).setRow (fun _=>rfl) _;rw [fL.out];refine⟨⟨_,rfl,zAH _ 102 st0,zFi (zAH w0 102 st0) rfl⟩,?_⟩;exact zCD fP.out fQ.out (Below.refl _ _) fC
 | false =>
  rw [hd,if_neg (by simp)] at hu
  have sd:(n.kind==2)=false:=by unfold PN.kind;rw [hd];rfl
  have gC:=hid hd;obtain⟨db,gD⟩:=(fH.out.get fA.out).files hd;have gB:=hid gD;clear hd gD
  have k7:¬o.kind=7:=by have:=fY.out;omega
  have s7:(o.kind==7)=false:=by simpa using k7
  rw [if_neg k7] at hu
  have k8:¬o.kind=8:=by have:=fY.out;omega
  have s8:(o.kind==8)=false:=by simpa using k8
  rw [if_neg k8] at hu;by_cases k9:o.kind=9
  · rw [if_pos k9,zAp fA.out] at hu;have fL:=hid hu
    have s9:(o.kind==9)=true:=by simpa using k9
    have fF:=zHb (lay i) n db o.off o.len w0 (fH.out.get fA.out) (fX.out.ok.get fA.out).1 gB.out fU fV;obtain⟨an,fM⟩:∃ an,n.read o.off o.len=an:=⟨_,rfl⟩;rw [fM] at fF;unfold zCq at fF;have fI:=hid fM;clear hu fM k7 k8 k9 k10 k11
    go_wp2_with (first
     | (go_at_call 108;refine fF.mono ?_;rintro e w1 ⟨⟨v,rfl,hA⟩,fD⟩;have fT:=hid hA;obtain⟨dA,dc,eA,ec,rfl,-,-⟩:=hA;have fG:=fK.fresh fD;have fE:=hid fD;clear fD)
     | (refine wpList_store_row rfl 67 (.tmp 6) (.tmp 59) rfl (g+1) (zAh an.code an.stat (.slice dA an.data.length dc) (.slice eA an.ents.length ec)).toArray rfl (by rfl) 67 _ fG rfl rfl (zAv _ _ _ _ _ _ _ _) ?_))
    have fB:=setRow_heap w1 (g+1) _ (zAh an.code an.stat (.slice dA an.data.length dc) (.slice eA an.ents.length ec)).toArray _ _ fG;refine bodyPost_ret (results_cell_row rfl _ _ (g+1) 67 (zAh an.code an.stat (.slice dA an.data.length dc) (.slice eA an.ents.length ec)).toArray (0,0) _ rfl fB Tryz.underlying67 rfl rfl) rfl ?_;have fC:Chg (fun b=>b=g+1) w1 (w1.setRow (g+1) (zAh an.code an.stat (.slice dA an.data.length dc) (.slice eA an.ents.length ec)).toArray):=(Chg.refl (fun b=>b=g+1) w1).setRow (fun _=>rfl) _;rw [fL.out];rw [fI.out];refine⟨⟨_,rfl,fT.out.row fG _,zFi fT.out (by rw [←fI.out];exact read_ents n _ _)⟩,?_⟩;exact zCD fP.out fQ.out fE.out fC
  · exact absurd fY.out (by omega)
theorem qdoes_any (own:Nat→Option Role) (lay:Nat→NA) (p mb:Nat) (T:PT) (o:Opn) (A:Option Addr) (c:Nat) (A1:Option Addr) (c1:Nat) (l:List ByteArray) (A2:Option Addr) (c2:Nat) (m:List ByteArray) (w:World) (h:PlainAt w own lay p mb T) (hT:T.Wf)
 (fB:o.kind=9∨o.kind=10∨o.kind=11) (fR:o.off≤9223372036854775807∧-9223372036854775808≤o.off) (fS:o.len≤9223372036854775807∧-9223372036854775808≤o.len)
 (gB:0≤o.made∧o.made≤1099511627776) (gC:NmAt w w.heap.size A1 c1 l) (gD:NmAt w w.heap.size A2 c2 m) :
 Calls Tryz.prog 43 #[.pointer (some ⟨p,0,none⟩),opV o A c,.slice A1 l.length c1,.slice A2 m.length c2] w (AskP (T.does o l m).2 w):=by
 have hu:=PT.does.eq_1 T o l m;have fT:own (w.heap.size+1)=none:=h.free (by omega);unfold opV opC;go_enter Tryz.func43,Tryz.ntmps43;go_upto_region 1 with (fail);have fG:Blk ((w.alloc (.cells (opC o A c).toArray 70)).alloc (.cells zAs.toArray 67)) w.heap.size 70 (opC o A c):=(Blk.new w _ _).alloc _
 have fH:Blk ((w.alloc (.cells (opC o A c).toArray 70)).alloc (.cells zAs.toArray 67)) (w.heap.size+1) 67 zAs:=by
  have:=Blk.new (w.alloc (.cells (opC o A c).toArray 70)) 67 zAs;simpa using this
 have fF:Below w.heap.size w ((w.alloc (.cells (opC o A c).toArray 70)).alloc (.cells zAs.toArray 67)):=((Below.refl _ _).alloc (Nat.le_refl _) _).alloc (by simp) _
 have gG:((w.alloc (.cells (opC o A c).toArray 70)).alloc (.cells zAs.toArray 67)).heap.size=w.heap.size+2:=by simp
 change Code.wp _ _ _ _ ((w.alloc (.cells (opC o A c).toArray 70)).alloc (.cells zAs.toArray 67));generalize (w.alloc (.cells (opC o A c).toArray 70)).alloc (.cells zAs.toArray 67)=w0 at *;have gE:=h.fresh fF;have fI:=gC.fresh fF;have fJ:=gD.fresh fF;obtain⟨g,fM⟩:∃ g,w.heap.size=g:=⟨_,rfl⟩;rw [fM] at fG fH fF gG fT;simp only [fM];have fU:=hid fM;have fV:=hid fF;have gH:=hid fT;have fK:=hid gE;have fN:=hid hT;have gO:=hid fH;have gI:=hid fG;have fC:=hid fI;have gJ:=hid fJ;have fA:=hid fB;clear fM fF fT h fB gE hT gC gD fI fJ;have y0:=fG.cell 0;have y6:=fG.cell 6;simp only [opC,List.getElem?_cons_succ,List.getElem?_cons_zero] at y0 y6;clear fG;obtain⟨made,gF⟩:∃ made:Nat,o.made=(made:Int):=⟨o.made.toNat,by omega⟩;rw [gF] at y6
 have k1:¬o.kind=1:=by have:=fA.out;omega
 have s1:(o.kind==1)=false:=by simpa using k1
 rw [if_neg k1] at hu
 have k2:¬o.kind=2:=by have:=fA.out;omega
 have s2:(o.kind==2)=false:=by simpa using k2
 rw [if_neg k2] at hu
 have k3:¬o.kind=3:=by have:=fA.out;omega
 have s3:(o.kind==3)=false:=by simpa using k3
 rw [if_neg k3] at hu
 have k4:¬o.kind=4:=by have:=fA.out;omega
 have s4:(o.kind==4)=false:=by simpa using k4
 rw [if_neg k4] at hu
 have k5:¬o.kind=5:=by have:=fA.out;omega
 have s5:(o.kind==5)=false:=by simpa using k5
 rw [if_neg k5] at hu
 have k6:¬o.kind=6:=by have:=fA.out;omega
 have s6:(o.kind==6)=false:=by simpa using k6
 rw [if_neg k6] at hu
 have k12:¬o.kind=12:=by have:=fA.out;omega
 have s12:(o.kind==12)=false:=by simpa using k12
 have k14:¬o.kind=14:=by have:=fA.out;omega
 have s14:(o.kind==14)=false:=by simpa using k14
 rw [if_neg (by rintro (h | h);exact k12 h;exact k14 h)] at hu;have fL:=zDu own lay p mb T _ A1 c1 l w0 fK.out fN.out fC.out.sees fC.out.len fC.out.big;have fO:=zB0 fN.out l 1 (let ⟨n,h,_⟩:=fN.out.root;⟨n,h⟩);obtain⟨r,hr⟩:∃ r,T.walk l 1=r:=⟨_,rfl⟩;rw [hr] at fL fO hu;obtain⟨i,e1⟩:=r;simp only at fL fO hu;unfold zAW at fL;have fW:=hid fO;clear hr fO k1 k2 k3 k4 k5 k6 k12 k14;by_cases fP:e1≠0
 · rw [if_pos fP] at hu;have fX:=hid hu
   have gK:((e1:Int) != 0)=true:=by simp;omega
   clear hu fP
   go_wp2_with (first
    | (go_at_call 72;refine fL.mono ?_;rintro e w1 ⟨rfl,rfl⟩)
    | (refine wpList_store_row rfl 67 (.tmp 8) (.tmp 66) rfl (g+1) (zAh e1 st0 zAg zAg).toArray rfl (by rfl) 67 _ fH rfl rfl (zAv _ _ _ _ _ _ _ _) ?_))
   have fD:=setRow_heap w0 (g+1) _ (zAh e1 st0 zAg zAg).toArray _ _ fH;refine bodyPost_ret (results_cell_row rfl _ _ (g+1) 67 (zAh e1 st0 zAg zAg).toArray (0,0) _ rfl fD Tryz.underlying67 rfl rfl) rfl ?_;have fE:Chg (fun b=>b=g+1) w0 (w0.setRow (g+1) (zAh e1 st0 zAg zAg).toArray):=(Chg.refl (fun b=>b=g+1) w0).setRow (fun _=>rfl) _;rw [fX.out];refine⟨⟨_,rfl,zAH _ e1 st0,zFi (zAH w0 e1 st0) rfl⟩,?_⟩;exact zCD fU.out fV.out (Below.refl _ _) fE
 · have fP:e1=0:=by omega
   subst fP;rw [if_neg (by simp)] at hu;have fX:=hid hu;obtain⟨n,hn⟩:=fW.out rfl;have fQ:=qasks_any own lay p mb i T n o A c w0 fK.out fN.out hn fA.out fR fS;have yc:=fun j=>gI.out.cell j;have z1:=yc 1;have z2:=yc 2;have z3:=yc 3;have z4:=yc 4;have z5:=yc 5;have z7:=yc 7;simp only [opC,List.getElem?_cons_succ,List.getElem?_cons_zero] at z1 z2 z3 z4 z5 z7;unfold opV opC at fQ;rw [gF] at fQ;obtain⟨r,hr⟩:∃ r,T.asks o i=r:=⟨_,rfl⟩;rw [hr] at fQ;have gL:=hid hr;obtain⟨T1,an⟩:=r;clear hu hr hn yc
   go_wp2_with (first
    | (go_at_call 72;refine fL.mono ?_;rintro e w1 ⟨rfl,rfl⟩)
    | (go_at_call 73;refine fQ.mono ?_;rintro e w1 ⟨⟨v,rfl,hA,hF⟩,fY⟩;have gM:=hid hF;clear hF;have gN:=hid hA;obtain⟨dA,dc,eA,ec,rfl,-,-⟩:=hA;have fZ:=hid fY;have gA:=fH.fresh fY;clear fY)
    | (refine wpList_store_row rfl 67 (.tmp 8) (.tmp 70) rfl (g+1) (zAh an.code an.stat (.slice dA an.data.length dc) (.slice eA an.ents.length ec)).toArray rfl (by rfl) 67 _ gA rfl rfl (zAv _ _ _ _ _ _ _ _) ?_))
   have fD:=setRow_heap w1 (g+1) _ (zAh an.code an.stat (.slice dA an.data.length dc) (.slice eA an.ents.length ec)).toArray _ _ gA;refine bodyPost_ret (results_cell_row rfl _ _ (g+1) 67 (zAh an.code an.stat (.slice dA an.data.length dc) (.slice eA an.ents.length ec)).toArray (0,0) _ rfl fD Tryz.underlying67 rfl rfl) rfl ?_;have fE:Chg (fun b=>b=g+1) w1 (w1.setRow (g+1) (zAh an.code an.stat (.slice dA an.data.length dc) (.slice eA an.ents.length ec)).toArray):=(Chg.refl (fun b=>b=g+1) w1).setRow (fun _=>rfl) _;rw [fX.out];rw [gL.out];refine⟨⟨_,rfl,gN.out.row gA _,gM.out.mono (by have:=fV.out.size;have:=fU.out;omega)⟩,?_⟩;exact zCD fU.out fV.out fZ.out fE
theorem qdo_any (own:Nat→Option Role) (lay:Nat→NA) (p mb:Nat) (T:PT) (o:Opn) (A:Option Addr) (c:Nat) (m0:Int) (w:World) (h:PlainAt w own lay p mb T) (hT:T.Wf) (fG:o.kind=9∨o.kind=10∨o.kind=11) (hf:o.fine=true) (gH:o.off≤9223372036854775807∧-9223372036854775808≤o.off) (gI:o.len≤9223372036854775807∧-9223372036854775808≤o.len) (jE:o.path.size≤100000) (hm:w.cell? ⟨0,0,none⟩=some (.int .i64 m0)) :
 Calls Tryz.prog 24 #[.pointer (some ⟨p,0,none⟩),opV o A c] w (AskP (T.run o).2 w):=by
 have hu:=PT.run.eq_1 T o;have gJ:own (w.heap.size+1)=none:=h.free (by omega);unfold opV;go_enter Tryz.func24,Tryz.ntmps24;go_upto_region 1 with (fail);have fX:Blk ((w.alloc (.cells (opC o A c).toArray 70)).alloc (.cells zAs.toArray 67)) w.heap.size 70 (opC o A c):=(Blk.new w _ _).alloc _
 have gK:Blk ((w.alloc (.cells (opC o A c).toArray 70)).alloc (.cells zAs.toArray 67)) (w.heap.size+1) 67 zAs:=by
  have:=Blk.new (w.alloc (.cells (opC o A c).toArray 70)) 67 zAs;simpa using this
 have fN:Below w.heap.size w ((w.alloc (.cells (opC o A c).toArray 70)).alloc (.cells zAs.toArray 67)):=((Below.refl _ _).alloc (Nat.le_refl _) _).alloc (by simp) _
 have jF:((w.alloc (.cells (opC o A c).toArray 70)).alloc (.cells zAs.toArray 67)).heap.size=w.heap.size+2:=by simp
 change Code.wp _ _ _ _ ((w.alloc (.cells (opC o A c).toArray 70)).alloc (.cells zAs.toArray 67));generalize (w.alloc (.cells (opC o A c).toArray 70)).alloc (.cells zAs.toArray 67)=w0 at *;have gU:=h.fresh fN;have fO:w0.cell? ⟨0,0,none⟩=some (.int .i64 m0):=(fN.cell (p:=⟨0,0,none⟩) (World.block_lt_of_cell? _ _ hm)).trans hm;obtain⟨g,fY⟩:∃ g,w.heap.size=g:=⟨_,rfl⟩;rw [fY] at fX gK fN jF gJ;simp only [fY];have fZ:=hid fY;have gA:=hid fN;have jG:=hid gJ;have gL:=hid gU;have jH:=hid hT;have gM:=hid fG;have gV:=hid fO;have jI:=hid fX;clear fY fN gJ h gU hT hm fO fG;have yc:=fun j=>fX.cell j;have y0:=yc 0;have y1:=yc 1;have y2:=yc 2;have y3:=yc 3;have y4:=yc 4;have y5:=yc 5;have y6:=yc 6;have y7:=yc 7;simp only [opC,List.getElem?_cons_succ,List.getElem?_cons_zero] at y0 y1 y2 y3 y4 y5 y6 y7;have gB:=zIi o A c w0;unfold opV opC at gB;clear fX yc;unfold opC;rw [hf,if_neg (by simp)] at hu;rw [hf] at gB
 have fH:0≤o.made∧o.made≤1099511627776:=by
  unfold Opn.fine at hf;have:=of_decide_eq_true hf;exact⟨this.2.2.1,this.2.2.2.1⟩
 have fJ:=hid fH;have gW:=hid hu;clear hu hf fH;go_upto_region 5 with (go_at_call 41;refine gB.mono ?_;rintro e w1 ⟨rfl,fP⟩);have jJ:=hid (gK.fresh fP);have gN:=hid (jI.out.fresh fP);have fQ:=hid fP;have gX:w1.cell? ⟨0,0,none⟩=some (.int .i64 m0):=(fP.cell (p:=⟨0,0,none⟩) (World.block_lt_of_cell? _ _ gV.out)).trans gV.out;have fK:=hid gX;clear fP gX gB y0 y1 y2 y3 y4 y5 y6 y7 gK;have u0:w1.cell? ⟨g,0,none⟩=some (.int .i64 o.kind):=gN.out.cell 0;have u1:w1.cell? ⟨g,1,none⟩=some (.string o.path):=gN.out.cell 1
 have kA:¬(o.kind=12∨o.kind=14):=by have:=gM.out;omega
 have gO:o.code1=(spl o.path).2∧o.from_=(spl o.path).1:=by unfold Opn.code1 Opn.from_;rw [if_neg kA,if_neg kA];exact⟨rfl,rfl⟩
 have fR:=gW.out;rw [gO.1,gO.2] at fR;obtain⟨r,hr⟩:∃ r,spl o.path=r:=⟨_,rfl⟩;obtain⟨l,e1⟩:=r;rw [hr] at fR;simp only at fR;have gY:=zF7 o.path l e1 m0 w1 hr (Nat.le_trans jE (by decide)) fK.out;have fS:=hid fR
 have s12:(o.kind != 12)=true:=by simp;omega
 have s14:(o.kind != 14)=true:=by simp;omega
 clear fR gO hr gW kA;go_upto_region 7 with (go_at_call 42;refine gY.mono ?_;rintro e w2 ⟨⟨A1,c1,rfl,gZ⟩,fT⟩);have gC:=jJ.out.fresh fT;have gP:=hid (gN.out.fresh fT);have fA:=hid (fQ.out.trans (fT.mono fQ.out.size));have jK:=hid ((fT.cell (p:=⟨0,0,none⟩) (World.block_lt_of_cell? _ _ fK.out)).trans fK.out);have gQ:=hid gZ;clear gZ fT gY u0 u1 s12 s14;by_cases gD:e1≠0
 · have fL:=fS.out;rw [if_pos gD] at fL;have fM:=hid fL
   have jL:((e1:Int) != 0)=true:=by simp;omega
   clear fL gD
   go_wp2_with (first
    | (refine wpList_store_row rfl 67 (.tmp 4) (.tmp 30) rfl (g+1) (zAh e1 st0 zAg zAg).toArray rfl (by rfl) 67 _ gC rfl rfl (zAv _ _ _ _ _ _ _ _) ?_))
   have fB:=setRow_heap w2 (g+1) _ (zAh e1 st0 zAg zAg).toArray _ _ gC;refine bodyPost_ret (results_cell_row rfl _ _ (g+1) 67 (zAh e1 st0 zAg zAg).toArray (0,0) _ rfl fB Tryz.underlying67 rfl rfl) rfl ?_;have fC:Chg (fun b=>b=g+1) w2 (w2.setRow (g+1) (zAh e1 st0 zAg zAg).toArray):=(Chg.refl (fun b=>b=g+1) w2).setRow (fun _=>rfl) _;rw [fM.out];refine⟨⟨_,rfl,zAH _ e1 st0,zFi (zAH w0 e1 st0) rfl⟩,?_⟩;exact zCD fZ.out gA.out fA.out fC
 · have gD:e1=0:=by omega
   subst gD;have fL:=fS.out;rw [if_neg (by simp)] at fL;have fM:=hid fL;clear fL;go_upto_region 9 with (fail);have u0:w2.cell? ⟨g,0,none⟩=some (.int .i64 o.kind):=gP.out.cell 0;have u2:w2.cell? ⟨g,2,none⟩=some (.string o.dst):=gP.out.cell 2
   have kB:¬(o.kind=3∨o.kind=6):=by have:=gM.out;omega
   have fU:T.run o=((T.does o l []).1,(T.does o l []).2.told):=by
    rw [fM.out];unfold Opn.code2 Opn.to_;rw [if_neg kB,if_neg kB];rfl
   have fI:=hid fU;have gR:Hid (NmAt w2 w2.heap.size none 0 []):=hid (zEt w2 _)
   have s3:(o.kind==3)=false:=by simp;omega
   have s6:(o.kind==6)=false:=by simp;omega
   have gS:=hid gC;clear fU kB gC;go_upto_region 13 with (fail);clear s3 s6 u0 u2;have jA:=gL.out.fresh fA.out;have fE:=qdoes_any own lay p mb T o A c A1 c1 l none 0 [] w2 jA jH.out gM.out gH gI fJ.out gQ.out gR.out;clear jA;have vc:=fun j=>gP.out.cell j;have v0:=vc 0;have v1:=vc 1;have v2:=vc 2;have v3:=vc 3;have v4:=vc 4;have v5:=vc 5;have v6:=vc 6;have v7:=vc 7;simp only [opC,List.getElem?_cons_succ,List.getElem?_cons_zero] at v0 v1 v2 v3 v4 v5 v6 v7;unfold opV opC at fE;obtain⟨r,hr⟩:∃ r,T.does o l []=r:=⟨_,rfl⟩;rw [hr] at fE;have jB:=hid hr;obtain⟨T1,an⟩:=r;clear hr vc
   go_upto_region 14 with (first
    | (go_at_call 43;refine fE.mono ?_;rintro e w4 ⟨⟨v,rfl,hA,hF⟩,gE⟩;have jM:=hid hF;clear hF;have jC:=hid hA;obtain⟨dA,dc,eA,ec,rfl,-,-⟩:=hA;have fF:=hid gE;have jD:=hid (gS.out.fresh gE);have jP:=gE.size;have gT:=Blk.new w4 67 zAs;clear gE)
    | (refine wpList_store_row rfl 67 (.tmp 8) (.tmp 53) rfl w4.heap.size (zAh an.code an.stat (.slice dA an.data.length dc) (.slice eA an.ents.length ec)).toArray rfl (by rfl) 67 _ gT rfl rfl (zAv _ _ _ _ _ _ _ _) ?_))
   have gF:=setRow_heap (w4.alloc (.cells zAs.toArray 67)) w4.heap.size _ (zAh an.code an.stat (.slice dA an.data.length dc) (.slice eA an.ents.length ec)).toArray _ _ gT;have gF:Blk ((w4.alloc (.cells zAs.toArray 67)).setRow w4.heap.size (zAh an.code an.stat (.slice dA an.data.length dc) (.slice eA an.ents.length ec)).toArray) w4.heap.size 67 (zAh an.code an.stat (.slice dA an.data.length dc) (.slice eA an.ents.length ec)):=gF
   have gG:Below w4.heap.size w4 ((w4.alloc (.cells zAs.toArray 67)).setRow w4.heap.size (zAh an.code an.stat (.slice dA an.data.length dc) (.slice eA an.ents.length ec)).toArray):=((Chg.refl (fun b=>w4.heap.size≤b) w4).alloc _ |>.setRow (fun _=>Nat.le_refl _) _).below (Nat.le_refl _) fun b hb e=>by omega
   have fV:=jD.out.fresh gG;have jN:=hid (jC.out.fresh gG);have fW:=hid gG;clear gT gG jD jC v0 v1 v2 v3 v4 v5 v6 v7 fE;change Code.wp _ _ _ _ ((w4.alloc (.cells zAs.toArray 67)).setRow w4.heap.size (zAh an.code an.stat (.slice dA an.data.length dc) (.slice eA an.ents.length ec)).toArray);generalize (w4.alloc (.cells zAs.toArray 67)).setRow w4.heap.size (zAh an.code an.stat (.slice dA an.data.length dc) (.slice eA an.ents.length ec)).toArray=w5 at *;have xc:=fun j=>gF.cell j;have x0:=xc 0;have x1:=xc 1;have x2:=xc 2;have x3:=xc 3;have x4:=xc 4;have x5:=xc 5;have x6:=xc 6;have x7:=xc 7;have x8:=xc 8;have x9:=xc 9;simp only [zAh,List.getElem?_cons_succ,List.getElem?_cons_zero] at x0 x1 x2 x3 x4 x5 x6 x7 x8 x9;clear xc gF;by_cases fE:an.code=0
   · have jO:((an.code:Int) != 0)=false:=by simp;omega
     have fD:Hid (an.told=an):=hid (by unfold Ans.told;rw [if_pos fE]);clear fE
     go_wp2_with (first
      | (refine wpList_store_row rfl 67 (.tmp 4) (.tmp 60) rfl (g+1) (zAh an.code an.stat (.slice dA an.data.length dc) (.slice eA an.ents.length ec)).toArray rfl (by rfl) 67 _ fV rfl rfl (zAv _ _ _ _ _ _ _ _) ?_))
     have fB:=setRow_heap w5 (g+1) _ (zAh an.code an.stat (.slice dA an.data.length dc) (.slice eA an.ents.length ec)).toArray _ _ fV;refine bodyPost_ret (results_cell_row rfl _ _ (g+1) 67 (zAh an.code an.stat (.slice dA an.data.length dc) (.slice eA an.ents.length ec)).toArray (0,0) _ rfl fB Tryz.underlying67 rfl rfl) rfl ?_;have fC:Chg (fun b=>b=g+1) w5 (w5.setRow (g+1) (zAh an.code an.stat (.slice dA an.data.length dc) (.slice eA an.ents.length ec)).toArray):=(Chg.refl (fun b=>b=g+1) w5).setRow (fun _=>rfl) _;rw [fI.out,jB.out];refine⟨⟨_,rfl,?_,jM.out.mono (by have:=gA.out.size;have:=fZ.out;have:=fA.out.size;omega)⟩,?_⟩
     · show zBO _ _ an.told
       rw [fD.out];exact jN.out.row fV _
     exact zCD fZ.out gA.out ((fA.out.trans (fF.out.mono fA.out.size)).trans (fW.out.mono (Nat.le_trans fA.out.size fF.out.size))) fC
   · have jO:((an.code:Int) != 0)=true:=by simp;omega
     have fD:Hid (an.told=.err an.code):=hid (by unfold Ans.told;rw [if_neg fE]);clear fE
     go_wp2_with (first
      | (refine wpList_store_row rfl 67 (.tmp 4) (.tmp 59) rfl (g+1) (zAh an.code st0 zAg zAg).toArray rfl (by rfl) 67 _ fV rfl rfl (zAv _ _ _ _ _ _ _ _) ?_))
     have fB:=setRow_heap w5 (g+1) _ (zAh an.code st0 zAg zAg).toArray _ _ fV;refine bodyPost_ret (results_cell_row rfl _ _ (g+1) 67 (zAh an.code st0 zAg zAg).toArray (0,0) _ rfl fB Tryz.underlying67 rfl rfl) rfl ?_;have fC:Chg (fun b=>b=g+1) w5 (w5.setRow (g+1) (zAh an.code st0 zAg zAg).toArray):=(Chg.refl (fun b=>b=g+1) w5).setRow (fun _=>rfl) _;rw [fI.out,jB.out];refine⟨⟨_,rfl,?_,zFi (zAH w0 an.code st0) rfl⟩,?_⟩
     · show zBO _ _ an.told
       rw [fD.out];exact zAH _ an.code st0
     exact zCD fZ.out gA.out ((fA.out.trans (fF.out.mono fA.out.size)).trans (fW.out.mono (Nat.le_trans fA.out.size fF.out.size))) fC
end Go.Proofs.YtolpcfhfcdkokaaGreatDoor
