/- Joined out of SLess..SUnder. -/
import Derived.Test.YtolpcfhfcdkokaaGreatDoorQ31
set_option maxHeartbeats 16000000
set_option maxRecDepth 100000
namespace Go.Proofs.YtolpcfhfcdkokaaGreatDoor
open Lib (hid)
open Go.RowKit
section
variable {S:Nat→Prop} {w:World} {x:Hd} {i:Nat} {n:PN}
theorem zDN (h:HdR S w x i n) (ho:n.Ok) (hd:n.dir=true) {nm:ByteArray} (hn:nm≠emp) :
 Calls Tryz.prog 110 #[hdV x,.string nm] w (FindP n nm w) :=
 (zI1 w.heap.size x (zAw n) nm w h.at_ (h.rep.dir ho hd) (Nat.le_refl _) (by rw [h.rep.rng ho hd,List.length_range];have:=ho.slots;omega)).mono fun _ _ h2=>zI7 h.rep ho hd hn h2
theorem zDK (h:HdR S w x i n) (ho:n.Ok) (hd:n.dir=true) {nm:ByteArray} (hn:nm≠emp) {j k:Nat} (hg:zAd nm n.names=some j) (hk:zAj nm n.slots=some k) :
 Calls Tryz.prog 110 #[hdV x,.string nm] w fun e w'=>e=.returned (.tuple #[.int .i64 (k:Int),.int .i64 (j:Int)])∧Below w.heap.size w w' :=
 (zDN h ho hd hn).mono fun e w' hf=>by
  rcases hf.1 with ⟨j',k',h1,h2,rfl⟩ | ⟨h1,_⟩
  · rw [hg] at h1;rw [hk] at h2;cases h1;cases h2;exact⟨rfl,hf.2⟩
  · rw [hg] at h1;cases h1
theorem zGd (h:HdR S w x i n) (ho:n.Ok) (hd:n.dir=true) {nm:ByteArray} (hn:nm≠emp) (hg:zAd nm n.names=none) :
 Calls Tryz.prog 110 #[hdV x,.string nm] w fun e w'=>e=.returned (.tuple #[.int .i64 (-1),.int .i64 0])∧Below w.heap.size w w' :=
 (zDN h ho hd hn).mono fun e w' hf=>by
  rcases hf.1 with ⟨j',k',h1,_⟩ | ⟨_,rfl⟩
  · rw [hg] at h1;cases h1
  · exact⟨rfl,hf.2⟩
end
theorem zCl (S:Nat→Prop) (t:Tr) (T:PT) (d:Nat) (n:PN) (nm:ByteArray) (w:World) (h:RefS S w t T) (hS:∀ b,S b→b<w.heap.size) (hT:T.Ok) (hg:zAd d T.nodes=some n) (hd:n.dir=true) (gS:nm≠emp) {j k:Nat} (gT:zAd nm n.names=some j) (hk:zAj nm n.slots=some k) :
 Calls Tryz.prog 114 #[trV t,.int .i64 (d:Int),.string nm] w (zFu S (T.upd d (n.clear nm)) w):=by
 obtain⟨Q,hQ⟩:∃ Q,zFu S (T.upd d (n.clear nm)) w=Q:=⟨_,rfl⟩;rw [hQ];have jK:=hid hQ;have gU:=(hT.get hg).1;obtain⟨x,-,gV,gW⟩:=zBC h hT hg;have fY:Below w.heap.size w ((w.alloc (.cells (zAa t).toArray 28)).alloc (.cells z4.toArray 28)):=((Below.refl _ _).alloc (Nat.le_refl _) _).alloc (by simp) _;have fZ:=(Blk.new w 28 (zAa t)).alloc (.cells z4.toArray 28);have gA:=Blk.new (w.alloc (.cells (zAa t).toArray 28)) 28 z4;rw [show (w.alloc (.cells (zAa t).toArray 28)).heap.size=w.heap.size+1 by simp] at gA;have fJ:=gW _ fY;have gB:=hid (gV.addR 2 (Nat.le_refl _));have gC:=hid (h.addR 2 (Nat.le_refl _));have gD:Hid (∀ b,zAM S w.heap.size 2 b→b<((w.alloc (.cells (zAa t).toArray 28)).alloc (.cells z4.toArray 28)).heap.size):=hid (zBe (fun b hb=>by have:=hS b hb;simp;omega) (by simp));have fR:=hid gU;have gX:=hid hd;have gY:=hid gS;have jL:=hid hT;have gH:=hid gT;have gZ:=hid hk;clear hQ gV gW h hT hg gU hd gS gT hk hS;unfold trV;go_enter Tryz.func114,Tryz.ntmps114;go_upto_region 1 with (fail);change Code.wp _ _ _ _ ((w.alloc (.cells (zAa t).toArray 28)).alloc (.cells z4.toArray 28));generalize (w.alloc (.cells (zAa t).toArray 28)).alloc (.cells z4.toArray 28)=w0 at *;obtain⟨g,gE⟩:∃ g,w.heap.size=g:=⟨_,rfl⟩;rw [gE] at fZ gA fY gD gB gC;simp only [gE];have fQ:=hid gE;have fK:=hid fY;have fL:=hid gA;obtain⟨S1,fM⟩:∃ S1,zAM S g 2=S1:=⟨_,rfl⟩;rw [fM] at gB gC gD;have fH:=hid fM;clear gE fY gA fM;unfold trV hdV at fJ
 go_upto_region 2 with (first
  | (refine wpList_load_row rfl 28 (.tmp 3) rfl g rfl 28 (zAa t).toArray _ _ fZ Tryz.underlying28 rfl rfl ?_)
  | (go_at_call 81;refine fJ.mono ?_;rintro e w1 ⟨rfl,fS⟩;have jA:=Blk.new w1 123 z8)
  | (refine wpList_store_row rfl 123 (.tmp 7) (.tmp 12) rfl w1.heap.size (zAb x).toArray rfl (by rfl) 123 _ jA rfl rfl (zHl x) ?_))
 obtain⟨jB,gI⟩:=zBx w1 x;have fF:=fS.trans (gI.mono fS.size);have gF:=hid (fK.out.trans (fF.mono (by have:=fK.out.size;have:=fQ.out;omega)));have jC:=fZ.fresh fF;have jD:=hid (fL.out.fresh fF);change Code.wp _ _ _ _ ((w1.alloc (.cells z8.toArray 123)).setRow w1.heap.size (zAb x).toArray);have jM:Hid (g+2≤w1.heap.size):=hid (by have:=fL.out.lt;have:=fS.size;omega);have fT:Hid (∀ b,S1 b→b<w1.heap.size):=hid fun b hb=>Nat.lt_of_lt_of_le (gD.out b hb) fS.size;clear fZ fL fS fF fJ jA fK gD;have fU:=gI.size;generalize (w1.alloc (.cells z8.toArray 123)).setRow w1.heap.size (zAb x).toArray=w2 at *;generalize w1.heap.size=z at *;have fN:=hid jB;have fV:=hid jC;have gJ:Hid (HdR S1 w2 x d n):=hid (gB.out.fresh (by rw [fQ.out];exact gF.out));have hrw_:Hid (RefS S1 w2 t T):=hid (gC.out.fresh (by rw [fQ.out];exact gF.out));have hSw:Hid (∀ b,S1 b→b<w2.heap.size):=hid fun b hb=>Nat.lt_of_lt_of_le (fT.out b hb) fU;clear jB jC gI gB gC fT fU;have gK:=hid (zDK gJ.out fR.out gX.out gY.out gH.out gZ.out);unfold hdV at gK
 go_upto_region 3 with (first
  | (refine wpList_load_row rfl 123 (.tmp 7) rfl z rfl 123 (zAb x).toArray _ _ fN.out Tryz.underlying123 rfl rfl ?_)
  | (go_at_call 110;refine gK.out.mono ?_;rintro e w3 ⟨rfl,fI⟩))
 have fB:=hid (fV.out.fresh fI);have fC:=hid (fN.out.fresh fI);have fO:=jD.out.fresh fI;have jE:=gJ.out.fresh fI;have jF:=hrw_.out.fresh fI;have gL:∀ b,S1 b→b<w3.heap.size:=fun b hb=>Nat.lt_of_lt_of_le (hSw.out b hb) fI.size;have fW:=hid fI;have fG:=hid (zJV (jE.fresh (zAf (Below.refl _ w3) 1)) gL fR.out gX.out gY.out gZ.out);obtain⟨n',gM⟩:∃ n',n.clear nm=n':=⟨_,rfl⟩;rw [gM] at fG;have fD:=hid fun (W:World) (y:Hd) (h2:Below w3.heap.size w3 W) (hy:HdR S1 W y d n')=>zBv (jF.fresh h2) (fun b hb=>Nat.lt_of_lt_of_le (gL b hb) h2.size) jL.out hy;obtain⟨T',gN⟩:∃ T',T.upd d n'=T':=⟨_,rfl⟩;rw [gN] at fD;have gO:=hid gM;have gP:=hid gN;have gQ:=hid fO;have f0:=fO.frozen 0;have f1:=fO.frozen 1;have f2:=fO.frozen 2;have f3:=fO.frozen 3;obtain⟨z0,z1,z2,z3⟩:=zHI fO;obtain⟨a0,a1,a2,a3⟩:=zAr fB.out;obtain⟨b0,b1,b2,b3,b4,b5,b6,b7⟩:=zAO fC.out;clear gM gN jD fV fN gJ hrw_ hSw gK fI jE jF gL fO;unfold hdV zGn zAb at fG;simp only [zB3,zCh] at fG;unfold trV at fD
 go_region_held3 (fun w'=>w'.cell? ⟨g,0,none⟩=some (.int .i64 t.sectors)∧w'.cell? ⟨g,1,none⟩=some (.int .i64 t.inodes)∧w'.cell? ⟨g,2,none⟩=some (.int .i64 t.births)∧w'.cell? ⟨g,3,none⟩=some (.slice t.A t.l.length t.c)∧w'.cell? ⟨z,0,none⟩=some (.int .i64 x.ino)∧w'.cell? ⟨z,1,none⟩=some (.int .i64 x.kind)∧w'.cell? ⟨z,2,none⟩=some (.int .i64 x.links)∧w'.cell? ⟨z,3,none⟩=some (.int .i64 x.size)∧w'.cell? ⟨z,4,none⟩=some (.int .i64 x.made)∧w'.cell? ⟨z,5,none⟩=some (.int .i64 x.birth)∧w'.cell? ⟨z,6,none⟩=some (.slice x.iA x.idx.length x.ic)∧w'.cell? ⟨z,7,none⟩=some (.slice x.dA x.dat.length x.dc))
  (first | go_keep)
  (first
   | (go_at_call 117;refine fG.out.mono ?_;rintro e w5 ⟨⟨y5,rfl,jG⟩,jH⟩;have fE:=hid ((zAf (Below.refl _ w3) 1).trans jH);obtain⟨a0,a1,a2,a3⟩:=zAr (fB.out.fresh fE.out);obtain⟨b0,b1,b2,b3,b4,b5,b6,b7⟩:=zAO (fC.out.fresh fE.out);have k1:=hid (fD.out w5 y5 fE.out jG);clear jH jG)
   | (go_at_call 113;refine k1.out.mono ?_;rintro e w6 ⟨⟨t6,rfl,jI⟩,jJ⟩;unfold trV;have fA:=hid (fE.out.trans (jJ.mono fE.out.size));have fP:=gQ.out.fresh fA.out;have gG:=zCi fP t6;have jN:=fB.out.lt;have jO:=fC.out.lt;obtain⟨a0,a1,a2,a3⟩:=zAr (fB.out.fresh fA.out);obtain⟨b0,b1,b2,b3,b4,b5,b6,b7⟩:=zAO (fC.out.fresh fA.out);obtain⟨d0,d1,d2,d3⟩:=zAr ((fB.out.fresh fA.out).chg gG.2 (by omega));obtain⟨e0,e1,e2,e3,e4,e5,e6,e7⟩:=zAO ((fC.out.fresh fA.out).chg gG.2 (by have:=jM.out;omega));have fX:=hid gG;have gR:=hid jI;have f0:=fP.frozen 0;have f1:=fP.frozen 1;have f2:=fP.frozen 2;have f3:=fP.frozen 3;obtain⟨z0,z1,z2,z3⟩:=zHI fP;clear gG jN jO jJ jI fP))
 go_wp2;refine bodyPost_ret (results_cell_row rfl _ _ (g+1) 28 (zAa t6).toArray (0,0) _ rfl fX.out.1 Tryz.underlying28 rfl rfl) rfl ?_;rw [←jK.out];obtain⟨h1,h2⟩:=ret_chg (S:=S) gR.out fX.out.2 (by rw [←fH.out];exact .inr (by omega)) (fun b hb=>by rw [←fH.out];exact .inl hb) (gF.out.trans ((fW.out.trans (fA.out.mono fW.out.size)).mono (by have:=gF.out.size;have:=fQ.out;omega))) (by omega) fQ.out;rw [gO.out,gP.out];exact⟨⟨t6,rfl,h1⟩,by rw [fQ.out];exact h2⟩
theorem RepN.linked {x:Hd} {i:Nat} {n:PN} (h:RepN x i n) (m:Nat) (l:Int) (hl:l=(m:Int)):RepN {x with links:=l} i {n with links:=m} :=
 ⟨h.ino,h.kind,hl,h.size,h.made,h.idx,h.dat,⟨h.sl.has,h.sl.one,h.sl.size,h.sl.ok,h.sl.at_⟩,h.tl⟩
theorem HdR.linked {S:Nat→Prop} {w:World} {x:Hd} {i:Nat} {n:PN} (h:HdR S w x i n) (m:Nat) (l:Int) (hl:l=(m:Int)):HdR S w {x with links:=l} i {n with links:=m} :=
 ⟨⟨h.at_.len,h.at_.sec,h.at_.idx,h.at_.dat⟩,h.rep.linked m l hl,h.oi,h.od⟩
theorem zGA (S:Nat→Prop) (t:Tr) (T:PT) (i:Nat) (n:PN) (w:World) (h:RefS S w t T) (hS:∀ b,S b→b<w.heap.size) (hT:T.Ok) (hg:zAd i T.nodes=some n) (hl:1≤n.links) (gL:n.dir=true→n.links=1) :
 Calls Tryz.prog 115 #[trV t,.int .i64 (i:Int)] w (zFu S (T.less i) w):=by
 obtain⟨Q,hQ⟩:∃ Q,zFu S (T.less i) w=Q:=⟨_,rfl⟩;rw [hQ];have gM:=hid hQ;have gC:=(hT.get hg).1;obtain⟨x,-,gD,gN⟩:=zBC h hT hg;have fT:Below w.heap.size w ((w.alloc (.cells (zAa t).toArray 28)).alloc (.cells z4.toArray 28)):=((Below.refl _ _).alloc (Nat.le_refl _) _).alloc (by simp) _;have fU:=(Blk.new w 28 (zAa t)).alloc (.cells z4.toArray 28);have fV:=Blk.new (w.alloc (.cells (zAa t).toArray 28)) 28 z4;rw [show (w.alloc (.cells (zAa t).toArray 28)).heap.size=w.heap.size+1 by simp] at fV;have fD:=gN _ fT;have fW:=hid (gD.addR 2 (Nat.le_refl _));have fX:=hid (h.addR 2 (Nat.le_refl _));have fY:Hid (∀ b,zAM S w.heap.size 2 b→b<((w.alloc (.cells (zAa t).toArray 28)).alloc (.cells z4.toArray 28)).heap.size):=hid (zBe (fun b hb=>by have:=hS b hb;simp;omega) (by simp));have jB:=hid gC;have gO:=hid hT;have gP:=hid hg;have gE:=hid hl;have gF:=hid gL;have jC:=gD.rep.links;have gQ:=gC.links;clear hQ gD gN h hT hg gC hl gL hS;unfold trV;go_enter Tryz.func115,Tryz.ntmps115;go_upto_region 1 with (fail);change Code.wp _ _ _ _ ((w.alloc (.cells (zAa t).toArray 28)).alloc (.cells z4.toArray 28));generalize (w.alloc (.cells (zAa t).toArray 28)).alloc (.cells z4.toArray 28)=w0 at *;obtain⟨g,fZ⟩:∃ g,w.heap.size=g:=⟨_,rfl⟩;rw [fZ] at fU fV fT fY fW fX;simp only [fZ];have fB:=hid fZ;have fE:=hid fT;have fF:=hid fV;obtain⟨S1,fG⟩:∃ S1,zAM S g 2=S1:=⟨_,rfl⟩;rw [fG] at fW fX fY;have fA:=hid fG;clear fZ fT fV fG;unfold trV hdV at fD
 go_upto_region 2 with (first
  | (refine wpList_load_row rfl 28 (.tmp 2) rfl g rfl 28 (zAa t).toArray _ _ fU Tryz.underlying28 rfl rfl ?_)
  | (go_at_call 81;refine fD.mono ?_;rintro e w1 ⟨rfl,fL⟩;have gR:=Blk.new w1 123 z8)
  | (refine wpList_store_row rfl 123 (.tmp 5) (.tmp 8) rfl w1.heap.size (zAb x).toArray rfl (by rfl) 123 _ gR rfl rfl (zHl x) ?_))
 obtain⟨fJ,gG⟩:=zBx w1 x;have fC:=fL.trans (gG.mono fL.size);have fM:=hid (fE.out.trans (fC.mono (by have:=fE.out.size;have:=fB.out;omega)));have gS:=fU.fresh fC;have gT:=hid (fF.out.fresh fC);change Code.wp _ _ _ _ ((w1.alloc (.cells z8.toArray 123)).setRow w1.heap.size (zAb x).toArray);have gA:Hid (g+2≤w1.heap.size):=hid (by have:=fF.out.lt;have:=fL.size;omega);have fN:Hid (∀ b,S1 b→b<w1.heap.size):=hid fun b hb=>Nat.lt_of_lt_of_le (fY.out b hb) fL.size;clear fU fF fL fC fD gR fE fY;have gH:=gG.size;generalize (w1.alloc (.cells z8.toArray 123)).setRow w1.heap.size (zAb x).toArray=w2 at *;generalize w1.heap.size=z at *;have fO:=hid fJ;have fP:=hid gS
 have gI:w.heap.size≤z:=by have:=gA.out;have:=fB.out;omega
 have gU:Hid (HdR (zAM S1 z 1) w2 x i n):=hid ((fW.out.addR 1 gI).fresh (by rw [fB.out];exact fM.out));have hrw_:Hid (RefS (zAM S1 z 1) w2 t T):=hid ((fX.out.addR 1 gI).fresh (by rw [fB.out];exact fM.out));have hSw:Hid (∀ b,zAM S1 z 1 b→b<w2.heap.size):=hid (zBe (fun b hb=>Nat.lt_of_lt_of_le (fN.out b hb) (Nat.le_of_lt fJ.lt)) fJ.lt);have x2:=fJ.cell 2;have q2:=fJ.frozen 2;simp only [zAb,List.getElem?_cons_succ,List.getElem?_cons_zero] at x2;rw [jC] at x2
 have jE:IntKind.i64.wrap ((n.links:Int)-1)=(n.links:Int)-1:=by rw [IntWalk.i64_in _ (by omega)]
 clear fJ gS gG fW fX fN gH gI;have gV:Blk (w2.setCell ⟨z,2,none⟩ (.int .i64 ((n.links:Int)-1))) z 123 (zAb {x with links:=(n.links:Int)-1}):=fO.out.set_ 2 _;have fK:Chg (fun b=>b=z) w2 (w2.setCell ⟨z,2,none⟩ (.int .i64 ((n.links:Int)-1))):=(Chg.refl (fun b=>b=z) w2).setCell (p:=⟨z,2,none⟩) (fun _=>rfl) _;have gJ:Chg (zAM S1 z 1) w2 (w2.setCell ⟨z,2,none⟩ (.int .i64 ((n.links:Int)-1))):=fK.mono fun b _ e=>.inr (by omega);have gW:=fP.out.chg fK (by have:=gA.out;omega);have gX:=gT.out.chg fK (by have:=gA.out;omega);have jD:=hid (((gU.out.chg gJ).linked (n.links-1) ((n.links:Int)-1) (by have:=gE.out;omega)));have gY:=hid (hrw_.out.chg gJ);have gZ:Hid (∀ b,zAM S1 z 1 b→b<(w2.setCell ⟨z,2,none⟩ (.int .i64 ((n.links:Int)-1))).heap.size):=hid fun b hb=>Nat.lt_of_lt_of_le (hSw.out b hb) fK.size;have gB:=hid (fM.out.trans (fK.below (B:=g) (by have:=fM.out.size;have:=fB.out;omega) fun b hb h=>by have:=gA.out;omega));clear fK gJ gU hrw_ hSw fO fP gT fM;go_upto_region 3 with (fail);generalize w2.setCell ⟨z,2,none⟩ (.int .i64 ((n.links:Int)-1))=w3 at *;generalize jA:({x with links:=(n.links:Int)-1}:Hd)=y at *
 have y2:w3.cell? ⟨z,2,none⟩=some (.int .i64 ((n.links:Int)-1)):=by have:=gV.cell 2;rw [←jA] at this;exact this
 clear jA x2 q2;by_cases h1:n.links=1
 · have t1:decide ((n.links:Int)-1<1)=true:=by simp;omega
   have fH:T.less i=T.del i:=by unfold PT.less;rw [gP.out];simp only;rw [if_pos (.inl (by omega))]
   have fQ:=zG3 (i:=i) gY.out gZ.out gO.out;unfold trV at fQ
   go_wp2_with (first
    | (refine wpList_load_row rfl 28 (.tmp 2) rfl g rfl 28 (zAa t).toArray _ _ gW Tryz.underlying28 rfl rfl ?_)
    | (go_at_call 135;refine fQ.mono ?_;rintro e w6 ⟨⟨t6,rfl,gK⟩,fR⟩;have fS:=gX.fresh fR;unfold trV)
    | (refine wpList_store_row rfl 28 (.tmp 4) (.tmp 18) rfl (g+1) (zAa t6).toArray rfl (by rfl) 28 _ fS rfl rfl (zAc t6) ?_))
   have fI:=setRow_heap w6 (g+1) _ (zAa t6).toArray _ _ fS;refine bodyPost_ret (results_cell_row rfl _ _ (g+1) 28 (zAa t6).toArray (0,0) _ rfl fI Tryz.underlying28 rfl rfl) rfl ?_;obtain⟨k1,k2⟩:=zC7 (S:=S) (r:=g+1) (zAa t6).toArray (gK.mono fun b hb=>.inl hb) (by rw [←fA.out];exact .inr (by omega)) (fun b hb=>by rw [←fA.out];exact .inl hb) (gB.out.trans (fR.mono (by have:=gB.out.size;have:=fB.out;omega))) (by omega) fB.out;rw [←gM.out,fH];exact⟨⟨t6,rfl,k1⟩,by rw [fB.out];exact k2⟩
 · have t1:decide ((n.links:Int)-1<1)=false:=by have:=gE.out;simp;omega
   have fH:T.less i=T.upd i {n with links:=n.links-1}:=by
    unfold PT.less;rw [gP.out];simp only
    rw [if_neg fun h=>by
     rcases h with h | h
     · have:=gE.out;omega
     · exact h1 (gF.out h)]
   have fQ:=zBv gY.out gZ.out gO.out jD.out;unfold trV hdV at fQ
   go_wp2_with (first
    | (refine wpList_load_row rfl 28 (.tmp 2) rfl g rfl 28 (zAa t).toArray _ _ gW Tryz.underlying28 rfl rfl ?_)
    | (refine wpList_load_row rfl 123 (.tmp 5) rfl z rfl 123 (zAb y).toArray _ _ gV Tryz.underlying123 rfl rfl ?_)
    | (go_at_call 113;refine fQ.mono ?_;rintro e w6 ⟨⟨t6,rfl,gK⟩,fR⟩;have fS:=gX.fresh fR;unfold trV)
    | (refine wpList_store_row rfl 28 (.tmp 4) (.tmp 21) rfl (g+1) (zAa t6).toArray rfl (by rfl) 28 _ fS rfl rfl (zAc t6) ?_))
   have fI:=setRow_heap w6 (g+1) _ (zAa t6).toArray _ _ fS;refine bodyPost_ret (results_cell_row rfl _ _ (g+1) 28 (zAa t6).toArray (0,0) _ rfl fI Tryz.underlying28 rfl rfl) rfl ?_;obtain⟨k1,k2⟩:=zC7 (S:=S) (r:=g+1) (zAa t6).toArray (gK.mono fun b hb=>.inl hb) (by rw [←fA.out];exact .inr (by omega)) (fun b hb=>by rw [←fA.out];exact .inl hb) (gB.out.trans (fR.mono (by have:=gB.out.size;have:=fB.out;omega))) (by omega) fB.out;rw [←gM.out,fH];exact⟨⟨t6,rfl,k1⟩,by rw [fB.out];exact k2⟩
theorem zGJ (S:Nat→Prop) (t:Tr) (T:PT) (i:Nat) (n:PN) (w:World) (h:RefS S w t T) (hT:T.Ok) (hg:zAd i T.nodes=some n) :
 Calls Tryz.prog 82 #[trV t,.int .i64 (i:Int)] w fun e w'=>e=.returned (stV (T.stat i))∧Below w.heap.size w w':=by
 obtain⟨Q,hQ⟩:∃ Q:Ending→World→Prop,(fun e w'=>e=.returned (stV (T.stat i))∧Below w.heap.size w w')=Q:=⟨_,rfl⟩;rw [hQ];have fZ:=hid hQ;have fL:=(hT.get hg).1;obtain⟨x,-,fB,fT⟩:=zBC h hT hg;have fG:Below w.heap.size w ((w.alloc (.cells (zAa t).toArray 28)).alloc (.cells #[.int .i64 0,.int .i64 0,.int .i64 0,.int .i64 0,.int .i64 0,.int .i64 0] 63)):=((Below.refl _ _).alloc (Nat.le_refl _) _).alloc (by simp) _;have fM:=(Blk.new w 28 (zAa t)).alloc (.cells #[.int .i64 0,.int .i64 0,.int .i64 0,.int .i64 0,.int .i64 0,.int .i64 0] 63);have fH:=Blk.new (w.alloc (.cells (zAa t).toArray 28)) 63 [.int .i64 0,.int .i64 0,.int .i64 0,.int .i64 0,.int .i64 0,.int .i64 0];rw [show (w.alloc (.cells (zAa t).toArray 28)).heap.size=w.heap.size+1 by simp] at fH;have fC:=fT _ fG
 have gA:Hid (stV (T.stat i)=.agg #[.int .i64 (i:Int),.int .i64 x.kind,.int .i64 x.links,.int .i64 x.size,.int .i64 x.made,.int .i64 (zBt x.idx)]):=hid (by
  unfold PT.stat stV stC;rw [hg];simp only;rw [fB.rep.kind,fB.rep.links,fB.rep.size,fB.rep.made,zG8 fB.rep fL])
 have fU:=(zGx (l:=[x]) (m:=[(i,n)]) (.cons fB.rep .nil) (by intro p hp;rw [List.mem_singleton.1 hp];exact fL) (by simp)).2 x (by simp);have gB:=hid fB;clear hQ fB fT h hT hg fL;unfold trV;go_enter Tryz.func82,Tryz.ntmps82;go_upto_region 1 with (fail);change Code.wp _ _ _ _ ((w.alloc (.cells (zAa t).toArray 28)).alloc (.cells #[.int .i64 0,.int .i64 0,.int .i64 0,.int .i64 0,.int .i64 0,.int .i64 0] 63));generalize (w.alloc (.cells (zAa t).toArray 28)).alloc (.cells #[.int .i64 0,.int .i64 0,.int .i64 0,.int .i64 0,.int .i64 0,.int .i64 0] 63)=w0 at *;obtain⟨g,fI⟩:∃ g,w.heap.size=g:=⟨_,rfl⟩;rw [fI] at fM fH fG;simp only [fI];have fJ:=hid fI;have fD:=hid fG;have fE:=hid fH;clear fI fG fH;unfold trV hdV at fC
 go_upto_region 2 with (first
  | (refine wpList_load_row rfl 28 (.tmp 2) rfl g rfl 28 (zAa t).toArray _ _ fM Tryz.underlying28 rfl rfl ?_)
  | (go_at_call 81;refine fC.mono ?_;rintro e w1 ⟨rfl,fK⟩;have fV:=Blk.new w1 123 z8)
  | (refine wpList_store_row rfl 123 (.tmp 5) (.tmp 8) rfl w1.heap.size (zAb x).toArray rfl (by rfl) 123 _ fV rfl rfl (zHl x) ?_))
 obtain⟨fN,fW⟩:=zBx w1 x;have fF:=fK.trans (fW.mono fK.size);have fO:=hid (fD.out.trans (fF.mono (by have:=fD.out.size;have:=fJ.out;omega)));have fA:=fE.out.fresh fF;change Code.wp _ _ _ _ ((w1.alloc (.cells z8.toArray 123)).setRow w1.heap.size (zAb x).toArray)
 have gD:g+2≤w1.heap.size:=by have:=fE.out.lt;have:=fK.size;omega
 clear fM fE fK fF fC fV fD;generalize (w1.alloc (.cells z8.toArray 123)).setRow w1.heap.size (zAb x).toArray=w2 at *;generalize w1.heap.size=z at *;have fX:=gB.out.fresh (by rw [fJ.out];exact fO.out);have gC:=hid (zGK w2.heap.size x.iA x.ic x.idx w2.drew (fX.at_.idx.keep fun _ _=>rfl) (by have:=fU.1;omega) fun k hk=>by have:=fU.2 k hk;omega);have fY:=zIc fA (.int .i64 (i:Int)) (.int .i64 x.kind) (.int .i64 x.links) (.int .i64 x.size) (.int .i64 x.made) (.int .i64 (zBt x.idx));have fP:=chg6 w2 (g+1) (.int .i64 (i:Int)) (.int .i64 x.kind) (.int .i64 x.links) (.int .i64 x.size) (.int .i64 x.made) (.int .i64 (zBt x.idx));obtain⟨b0,b1,b2,b3,b4,b5,b6,b7⟩:=zAO fN;obtain⟨e0,e1,e2,e3,e4,e5,e6,e7⟩:=zAO (fN.chg fP (by omega));have r0:=fA.cell 0;have r1:=fA.cell 1;have r2:=fA.cell 2;have r3:=fA.cell 3;have r4:=fA.cell 4;have r5:=fA.cell 5;have f0:=fA.frozen 0;have f1:=fA.frozen 1;have f2:=fA.frozen 2;have f3:=fA.frozen 3;have f4:=fA.frozen 4;have f5:=fA.frozen 5;simp only [List.getElem?_cons_succ,List.getElem?_cons_zero] at r0 r1 r2 r3 r4 r5;have fQ:=hid fY;have fR:=hid fP;clear fN fA fW fX fY fP
 go_region_held3 (fun w'=>w'.cell? ⟨z,1,none⟩=some (.int .i64 x.kind)∧w'.cell? ⟨z,2,none⟩=some (.int .i64 x.links)∧w'.cell? ⟨z,3,none⟩=some (.int .i64 x.size)∧w'.cell? ⟨z,4,none⟩=some (.int .i64 x.made)∧w'.cell? ⟨z,6,none⟩=some (.slice x.iA x.idx.length x.ic))
  (first | go_keep)
  (first
   | (go_at_call 58;refine gC.out.mono ?_;rintro e w' ⟨rfl,rfl⟩))
 generalize (((((w2.setCell ⟨g+1,0,none⟩ (.int .i64 (i:Int))).setCell ⟨g+1,1,none⟩ (.int .i64 x.kind)).setCell ⟨g+1,2,none⟩ (.int .i64 x.links)).setCell ⟨g+1,3,none⟩ (.int .i64 x.size)).setCell ⟨g+1,4,none⟩ (.int .i64 x.made)).setCell ⟨g+1,5,none⟩ (.int .i64 (zBt x.idx))=w3 at *;go_wp2;have fS:Blk w3.drew (g+1) 63 [.int .i64 (i:Int),.int .i64 x.kind,.int .i64 x.links,.int .i64 x.size,.int .i64 x.made,.int .i64 (zBt x.idx)]:=fQ.out;refine bodyPost_ret (results_cell_row rfl _ _ (g+1) 63 #[.int .i64 (i:Int),.int .i64 x.kind,.int .i64 x.links,.int .i64 x.size,.int .i64 x.made,.int .i64 (zBt x.idx)] (0,0) _ rfl fS Tryz.underlying63 rfl rfl) rfl ?_;rw [←fZ.out,gA.out];exact⟨rfl,by rw [fJ.out];exact zAf (fO.out.trans (fR.out.below (by have:=fO.out.size;have:=fJ.out;omega) fun b hb h=>by omega)) 1⟩
theorem zFN (x:Hd) (W:World):(Instr.field 123 (.agg (zAb x).toArray) 1).run Tryz.prog W=.ok (.int .i64 x.kind) W:=by kernel_rfl
theorem zJB (t:Tr) (T:PT) (hT:T.Wf) (rk:Nat→Nat) (hr:T.Ranked rk) (N:Nat) (hN:∀ j,T.isDir j=true→rk j≤N) (d:Nat) (m:Nat):∀ (i:Nat) (w:World),
 T.isDir i=true→N+1-rk i≤m→RefS (fun _=>False) w t T→Calls Tryz.prog 116 #[trV t,.int .i64 (d:Int),.int .i64 (i:Int)] w (UndP T d i w):=by
 induction m with
 | zero=>intro i w hi hm;have:=hN i hi;omega
 | succ m ih =>
  intro i w hi hm h
  obtain⟨n,hn⟩:∃ n,zAd i T.nodes=some n:=by
   cases hg:zAd i T.nodes with
   | none=>unfold PT.isDir at hi;rw [hg] at hi;cases hi
   | some n=>exact⟨n,rfl⟩
  have fP:n.dir=true:=by rw [←zAn hn];exact hi
  by_cases he:d=i
  · subst he
    have kF:((d:Int)==(d:Int))=true:=by simp
    clear ih hr hN h hT fP hi hm hn;unfold trV;go_enter Tryz.func116,Tryz.ntmps116;go_wp2_with fail;go_ret;exact⟨⟨true,rfl,fun _=>.here,fun _=>rfl⟩,(Below.refl _ _).alloc (Nat.le_refl _) _⟩
  · have kG:((d:Int)==(i:Int))=false:=by simp;omega
    obtain⟨Q,hQ⟩:∃ Q,UndP T d i w=Q:=⟨_,rfl⟩;rw [hQ];have jC:=hid hQ;have fQ:=(hT.ok.get hn).1;obtain⟨x,-,fV,jD⟩:=zBC h hT.ok hn;have fW:Below w.heap.size w (w.alloc (.cells (zAa t).toArray 28)):=(Below.refl _ _).alloc (Nat.le_refl _) _;have fX:=Blk.new w 28 (zAa t);have fH:=jD _ fW;have hD:=fV.rep.dir fQ fP;have jE:=fV.rep.rng fQ fP;have hH:=hid h;have fY:=hid fV;have jF:=hid hT;have fZ:=hid hn;have jR:=hid fP;have jS:=hid hr;have gN:=hid ih;have jT:=hid he;have jU:=hid hm;have jV:=hid fQ;have jG:=hid hD;obtain⟨len,fD⟩:∃ len,len=n.slots.length:=⟨_,rfl⟩;have fE:=hid fD
    have kI:len≤1068:=by rw [fD];exact fQ.slots
    have gA:Hid (x.idx.length=len):=hid (by rw [jE,List.length_range,fD]);clear ih hr hN h hT fP hi hm hn he fQ fV jD hQ hD jE fD;unfold trV;go_enter Tryz.func116,Tryz.ntmps116;go_upto_region 3 with (fail);change Code.wp _ _ _ _ (w.alloc (.cells (zAa t).toArray 28));generalize w.alloc (.cells (zAa t).toArray 28)=w0 at *;obtain⟨g,gB⟩:∃ g,w.heap.size=g:=⟨_,rfl⟩;rw [gB] at fX fW;simp only [gB];have fI:=hid gB;have fJ:=hid fW;clear gB fW;unfold trV hdV at fH
    go_upto_region 4 with (first
     | (refine wpList_load_row rfl 28 (.tmp 3) rfl g rfl 28 (zAa t).toArray _ _ fX Tryz.underlying28 rfl rfl ?_)
     | (go_at_call 81;refine fH.mono ?_;rintro e w1 ⟨rfl,gO⟩;have jH:=Blk.new w1 123 z8)
     | (refine wpList_store_row rfl 123 (.tmp 7) (.tmp 16) rfl w1.heap.size (zAb x).toArray rfl (by rfl) 123 _ jH rfl rfl (zHl x) ?_))
    obtain⟨jI,jJ⟩:=zBx w1 x;have fK:=gO.trans (jJ.mono gO.size);have gC:=hid (fJ.out.trans (fK.mono (by have:=fJ.out.size;have:=fI.out;omega)));have jW:=hid (fX.fresh fK);change Code.wp _ _ _ _ ((w1.alloc (.cells z8.toArray 123)).setRow w1.heap.size (zAb x).toArray);clear fX gO fK fH jH fJ jJ;generalize (w1.alloc (.cells z8.toArray 123)).setRow w1.heap.size (zAb x).toArray=w2 at *;generalize w1.heap.size=z at *;have fR:=hid jI;clear jI;go_wp2_with fail
    go_loopw [8] (fun i' wr=>∃ k:Nat,k≤len∧i'=.int .i64 k∧Hid (∀ q,q<k→∀ j nm,(zAw n)[q]? = some (some (j,nm))→T.isDir j=true→¬T.Und d j)∧Hid (Below w2.heap.size w2 wr)) (fun i' _=>len-(intOf i').toNat)
    case atStart=>exact⟨0,Nat.zero_le _,rfl,hid fun q hq=>absurd hq (by omega),hid (Below.refl _ _)⟩
    case round =>
     obtain⟨k,hk,rfl,fF,hb⟩:=hrel;have hX:=fR.out.fresh hb.out;obtain⟨-,-,-,-,-,-,x6,x7⟩:=zAO hX;rw [gA.out] at x6;have gP:=hid (gC.out.trans (hb.out.mono (by have:=gC.out.size;have:=fI.out;omega)));by_cases jK:k<len
     · have gQ:k<x.dat.length:=by rw [(fY.out).at_.len,gA.out];exact jK
       have gD:k<(zAw n).length:=by unfold zAw;rw [List.length_map,←fE.out];exact jK
       have gE:=fY.out.fresh (by rw [fI.out];exact gP.out);obtain⟨b2,off2,jL,jX,gF⟩:=gE.at_.sec_cell k gQ;have gG:=gE.at_.sec _ (List.getElem_mem gQ);have gR:=jG.out.ok _ (List.getElem_mem gD);rw [jG.out.get k gQ gD] at gF gG;rw [jL,gE.at_.len,gA.out] at x7;obtain⟨o,ho⟩:∃ o,(zAw n)[k]=o:=⟨_,rfl⟩;rw [ho] at gF gG gR;have fL:Hid ((zAw n)[k]? = some o):=hid (by rw [List.getElem?_eq_getElem gD,ho]);have gS:=zCk o wr gR;unfold zGn at gS;have hrw_:=hid (hH.out.fresh (w':=wr) (by rw [fI.out];exact gP.out));have jM:=hid (jW.out.fresh hb.out);have gT:=hid hb.out;clear jL gD gE ho hX hb
       go_upto_region 8 with (first
        | (refine wpList_load_mid rfl 187 (.tmp 28) rfl b2 (off2+k * 128) rfl (bvs (zFo o)) _ gF Tryz.underlying187 rfl (by rw [zBd,zAe,gG]) ?_)
        | (go_at_call 118;refine gS.mono ?_;rintro e w3 ⟨rfl,gU⟩))
       have hO:=Blk.new w3 179 [.int .i64 (zB3 o),.string (zCh o)];have gH:=gU.trans (((Below.refl w3.heap.size w3).alloc (Nat.le_refl _) (.cells #[.int .i64 (zB3 o),.string (zCh o)] 179)).mono gU.size);change Code.wp _ _ _ _ (w3.alloc (.cells [.int .i64 (zB3 o),.string (zCh o)].toArray 179));clear gU;generalize w3.alloc (.cells [.int .i64 (zB3 o),.string (zCh o)].toArray 179)=w4 at *;generalize w3.heap.size=y at *;have gI:=jM.out.fresh gH;have gJ:=hrw_.out.fresh gH;have fA:=hid (gT.out.trans (gH.mono gT.out.size));have jN:=fR.out.fresh fA.out;obtain⟨-,-,-,-,-,-,x6,x7⟩:=zAO jN;rw [gA.out] at x6;have o0:=hO.cell 0;simp only [List.getElem?_cons_zero] at o0;have jY:=hid hO;clear gH gS gF gG jN jM hrw_ gT hO
       cases o with
       | none =>
        have fB:Hid (∀ q,q<k+1→∀ j nm,(zAw n)[q]? = some (some (j,nm))→T.isDir j=true→¬T.Und d j):=hid fun q hq j nm h1 h2=>by
         by_cases e:q=k
         · subst e;rw [fL.out] at h1;cases h1
         · exact fF.out q (by omega) j nm h1 h2
        simp only [zB3] at o0;clear fF fL;go_wp2_with fail;go_roundw
        case rel=>exact⟨k+1,by omega,by go_num,fB,fA⟩
        case measure=>simp [intOf];omega
       | some on =>
        obtain⟨j,nm⟩:=on;simp only [zB3] at o0
        have kJ:((j:Int) != 0)=true:=by have:=gR.1;simp;omega
        have fS:zAd nm n.names=some j:=by
         have h1:=fL.out;unfold zAw at h1;rw [List.getElem?_map] at h1
         cases e:n.slots[k]? with
         | none=>rw [e] at h1;cases h1
         | some y=>rw [e] at h1;exact (zEx (Option.some.inj h1)).2.2
        obtain⟨mj,gK⟩:=jF.out.ents i n nm j fZ.out fS;obtain⟨xj,-,gV,fT⟩:=zBC gJ jF.out.ok gK;have fT:=fT w4 (Below.refl _ _);have gL:=gV.rep.kind;have gM:=zAn gK;unfold trV hdV at fT;have gW:=hid fS
        cases fN:mj.dir with
        | false =>
         have jO:xj.kind=1:=by rw [gL];unfold PN.kind;rw [fN];rfl
         have fB:Hid (∀ q,q<k+1→∀ j nm,(zAw n)[q]? = some (some (j,nm))→T.isDir j=true→¬T.Und d j):=hid fun q hq j' nm' h1 h2=>by
          by_cases e:q=k
          · subst e;rw [fL.out] at h1;cases h1;rw [gM,fN] at h2;cases h2
          · exact fF.out q (by omega) j' nm' h1 h2
         have fld:=zFN xj;rw [jO] at fld;clear fF fL gL gM fN gJ gV gK fS jO
         go_wp2_with (first
          | (refine zAJ (by rfl) (fun _ hK=>wp_load_row 28 (.tmp 3) rfl g rfl 28 (zAa t).toArray _ _ gI Tryz.underlying28 rfl rfl (hK _ _ ?_)))
          | (go_at_call 81;refine fT.mono ?_;rintro e w5 ⟨rfl,fO⟩))
         go_roundw
         case rel=>exact⟨k+1,by omega,by go_num,fB,hid (fA.out.trans (fO.mono fA.out.size))⟩
         case measure=>simp [intOf];omega
        | true =>
         have jP:xj.kind=2:=by rw [gL];unfold PN.kind;rw [fN];rfl
         have gX:Hid (T.isDir j=true):=hid (by rw [gM,fN]);have fld:=zFN xj;rw [jP] at fld;have kK:=jS.out i n nm j fZ.out fS gX.out;have fG:=hid fun (W:World) (hW:Below w4.heap.size w4 W)=>gN.out j W gX.out (by have:=jU.out;omega) (gJ.fresh hW);unfold trV at fG;clear gL gM fN gJ gV gK fS jP;have gY:=hid gI
         go_wp2_with (first
          | (refine zAJ (by rfl) (fun _ hK=>wp_load_row 28 (.tmp 3) rfl g rfl 28 (zAa t).toArray _ _ gI Tryz.underlying28 rfl rfl (hK _ _ ?_)))
          | (go_at_call 81;refine fT.mono ?_;rintro e w5 ⟨rfl,fO⟩;replace gI:=gY.out.fresh fO;replace o0:=(jY.out.fresh fO).cell 0;simp only [zB3,List.getElem?_cons_zero] at o0;have fC:=hid fO;clear fO)
          | (go_at_call 116;refine (fG.out w5 fC.out).mono ?_;rintro e w6 ⟨⟨bb,rfl,jQ⟩,gZ⟩;have fU:=hid jQ;clear jQ))
         · have jZ:bb=true:=by assumption
           have fM:=hid (fA.out.trans ((fC.out.trans (gZ.mono fC.out.size)).mono fA.out.size));have jA:Hid (T.Und d i):=hid (.step fZ.out gW.out gX.out (fU.out.1 jZ));rw [←jC.out];exact⟨⟨true,rfl,⟨fun _=>jA.out,fun _=>rfl⟩⟩,by rw [fI.out];exact gC.out.trans (fM.out.mono (by have:=gC.out.size;have:=fI.out;omega))⟩
         · have kA:¬bb=true:=by first | assumption | (rw [show bb=false by assumption];decide)
           have fM:=hid (fA.out.trans ((fC.out.trans (gZ.mono fC.out.size)).mono fA.out.size))
           have fB:Hid (∀ q,q<k+1→∀ j nm,(zAw n)[q]? = some (some (j,nm))→T.isDir j=true→¬T.Und d j):=hid fun q hq j' nm' h1 h2 h3=>by
            by_cases e:q=k
            · subst e;rw [fL.out] at h1;cases h1;exact kA (fU.out.2 h3)
            · exact fF.out q (by omega) j' nm' h1 h2 h3
           clear fF fL gZ;go_roundw
           case rel=>exact⟨k+1,by omega,by go_num,fB,fM⟩
           case measure=>simp [intOf];omega
     · obtain rfl:k=len:=by omega
       have jB:Hid (¬T.Und d i):=hid fun hu=>by
        cases hu with
        | here=>exact jT.out rfl
        | step h1 h2 h3 h4 =>
         rename_i kk n' nm;rw [fZ.out] at h1;obtain rfl:=Option.some.inj h1;have kC:=fY.out.rep.sl.at_ _ (zAi h2);have kD:=zF9 (fY.out.rep.sl.ok _ (zAi h2));obtain⟨q,hq,kE⟩:=List.getElem_of_mem kC;refine fF.out q (by rw [fE.out];exact hq) kk nm ?_ h3 h4;unfold zAw;rw [List.getElem?_map,List.getElem?_eq_getElem hq,kE];simp only [Option.map_some,Option.some.injEq];exact zDS kD h2
       clear fF hX hb;go_wp2_with fail;rw [←jC.out];exact⟨⟨false,rfl,⟨fun h=>(by cases h),fun h=>absurd h jB.out⟩⟩,by rw [fI.out];exact gP.out⟩
end Go.Proofs.YtolpcfhfcdkokaaGreatDoor
