/- Joined out of SByt..TFst. -/
import Derived.Test.YtolpcfhfcdkokaaGreatDoorQ39
import Derived.Test.YtolpcfhfcdkokaaGreatDoorQ41
import Derived.Test.YtolpcfhfcdkokaaGreatDoorQ42
set_option maxHeartbeats 16000000
set_option maxRecDepth 100000
namespace Go.Proofs.YtolpcfhfcdkokaaGreatDoor
open Lib (hid)
open Go.RowKit
def BytP (n:PN) (w:World) (e:Ending) (w':World):Prop :=
 ∃ ob,e=.returned (.slice (some ⟨ob,0,none⟩) n.size n.size)∧w.heap.size≤ob∧Blk w' ob 5 (bvs (rdL n.data 0 n.size))∧Below w.heap.size w w'
theorem bvs_setc (l:List UInt8) (q:Nat) (b:UInt8):(bvs l).set q (.int .u8 (b.toNat:Int))=bvs (l.set q b):=by unfold bvs;rw [List.map_set]
theorem rbyt_any (S:Nat→Prop) (i:Nat) (n:PN) (x:Hd) (w:World) (hx:HdR S w x i n) (fE:n.Ok) (hd:n.dir=false) :
 Calls Tryz.prog 122 #[.agg (zAb x).toArray] w (BytP n w):=by
 obtain⟨Q,hQ⟩:∃ Q,BytP n w=Q:=⟨_,rfl⟩;rw [hQ];have jH:=hid hQ;obtain⟨g,hz⟩:∃ g,w.heap.size=g:=⟨_,rfl⟩;have gA:=Blk.new w 123 (zAb x);have gE:Below w.heap.size w (w.alloc (.cells (zAb x).toArray 123)):=(Below.refl _ _).alloc (Nat.le_refl _) _
 have fR:(w.alloc (.cells (zAb x).toArray 123)).heap.size=w.heap.size+1:=by simp
 rw [hz] at gA gE fR;have jI:Hid (∀ W,Below g w W→HdR S W x i n):=hid fun W hb=>hx.fresh (hz▸hb);have fK:=hid (hx.rep.fidx fE hd);have fL:=hid (hx.rep.fdat fE hd);have fA:x.size=(n.size:Int):=hx.rep.size;have jJ:=fE.size;have jK:=hid fE;have jL:=hid hz;obtain⟨z,gF⟩:∃ z,n.size=z:=⟨_,rfl⟩;rw [gF] at fA jJ;have gG:=hid gF;obtain⟨d,fP⟩:∃ d,n.data=d:=⟨_,rfl⟩;rw [fP] at fK fL;have gH:=hid fP;have gI:Hid (zBs zAG d):=hid (by rw [←fP];exact fE.dris)
 have fS:Hid (∀ p∈d,p.1≤1067∧p.2.length=128):=hid fun p hp=>by rw [←fP] at hp;exact⟨fE.keys p hp,fE.secs p hp⟩
 obtain⟨len,fB⟩:∃ len,d.length=len:=⟨_,rfl⟩;have fG:=hid fB
 have jW:len≤1068:=by rw [←fB,←fP];exact fE.dlen
 have fF:Hid (x.idx.length=len):=hid (by rw [fK.out,List.length_map,fB]);have fM:Hid (x.dat.length=len):=hid (by rw [fL.out,List.length_map,fB]);obtain⟨i0,hi,jM,jN,jO⟩:=info_parts zCV;clear hQ hx fE hd gF fP fB;go_enter Tryz.func122,Tryz.ntmps122;go_upto_region 1 with (fail)
 try simp only [hz]
 change Code.wp _ _ _ _ (w.alloc (.cells (zAb x).toArray 123));generalize w.alloc (.cells (zAb x).toArray 123)=w0 at *;clear hz;obtain⟨-,-,-,c3,-,-,-,-⟩:=zAO gA;rw [fA] at c3
 go_upto_region 2 with (first
  | (at_make;refine wpList_make_full _ rfl (.tmp 7) (.tmp 7) _ rfl (g+1) 5 i0 _ 1 Tryz.underlying64 hi jM jN .i64 .i64 (z:Int) (z:Int) z rfl rfl rfl rfl (by rw [jO];omega) (by unfold maxLen;omega) (by omega) ?_;intro w1 gV gW;have gJ:Blk w1 w0.heap.size 5 (List.replicate z (.int .u8 0)):=(by (have h9:=zIf gV;rw [zBU _ rfl] at h9;exact h9))))
 have gX:Below (g+1) w0 w1:=((Chg.refl (fun _=>False) w0).grown gW (by intro g' e;simp at e)).below (by omega) fun _ _ e=>e;rw [fR] at gJ
 have fT:Hid (Blk w1 (g+1) 5 (bvs (bw d z 0 0))):=hid (by
  rw [bw_0];unfold bvs;rw [List.map_replicate];exact gJ)
 have fU:=hid gX;have fV:=hid gE;have fN:=hid gA;clear gV gW gJ gX c3 gE gA;go_wp2_with fail
 go_loopw [4] (fun i' wr=>∃ k:Nat,k≤len∧i'=.int .i64 (k:Int)∧Hid (Blk wr (g+1) 5 (bvs (bw d z k 0)))∧Hid (Below (g+1) w0 wr)) (fun i' _=>len-(intOf i').toNat)
 case atStart=>exact⟨0,Nat.zero_le _,rfl,fT,fU⟩
 case round =>
  obtain⟨k,hk,rfl,hO,hB⟩:=hrel;clear fT fU;have gK:=fN.out.below hB.out (by omega);obtain⟨-,-,-,x3,-,-,x6,x7⟩:=zAO gK;rw [fA] at x3;rw [fF.out] at x6;rw [fM.out] at x7;by_cases gL:k<len
  · have gB:k<d.length:=by rw [fG.out];exact gL
    have jP:k<x.idx.length:=by rw [fF.out];exact gL
    have jQ:k<x.dat.length:=by rw [fM.out];exact gL
    obtain⟨p,hp⟩:∃ p,d[k]=p:=⟨_,rfl⟩;obtain⟨jR,gY⟩:=fS.out p (by rw [←hp];exact List.getElem_mem gB);obtain⟨fr,s⟩:=p;simp only at jR gY
    have e1:x.idx[k]=fr:=by simp only [fK.out,List.getElem_map,hp]
    have e2:x.dat[k]=s:=by simp only [fL.out,List.getElem_map,hp]
    have fC:∀ W,Below (g+1) w0 W→∃ bi oi bd od,x.iA=some ⟨bi,oi,none⟩∧x.dA=some ⟨bd,od,none⟩∧W.cell? ⟨bi,oi+k,none⟩=some (.int .i64 (fr:Int))∧W.rangeAt bd (od+k * 128) (bvs s):=fun W hW=>by
     have h9:=(jI.out W (fV.out.trans (hW.mono (Nat.le_succ g)))).at_;obtain⟨bi,oi,gC,-,jS⟩:=h9.idx.at_ (by omega);obtain⟨bd,od,gD,-,fW⟩:=h9.sec_cell k jQ;have c0:=jS k _ (zBS x.idx k jP);rw [e1] at c0;rw [e2] at fW;exact⟨bi,oi,bd,od,gC,gD,c0,fW⟩
    have fO:=hid fC;have gM:=hid hp;obtain⟨bi,oi,bd,od,gC,gD,-,-⟩:=fC w0 (Below.refl _ _);have fX:=hid gC;have fY:=hid gD;clear hp e1 e2 fC gC gD x3 x6 x7 gK;have t0:decide ((k:Int)<(len:Int))=true:=decide_eq_true (by omega);have x6:=(zAO (fN.out.below hB.out (by omega))).2.2.2.2.2.2.1;rw [fF.out] at x6;go_wp2_with fail
    go_loopw [5] (fun j' wr=>∃ q:Nat,q≤128∧j'=.int .i64 (q:Int)∧Hid (Blk wr (g+1) 5 (bvs (bw d z k q)))∧Hid (Below (g+1) w0 wr)) (fun j' _=>128-(intOf j').toNat)
    case atStart=>exact⟨0,Nat.zero_le _,rfl,hO,hB⟩
    case round =>
     obtain⟨q,hq,rfl,fH,fI⟩:=hrel;clear hO hB x6;have gZ:=fN.out.below fI.out (by omega);obtain⟨-,-,-,x3,-,-,x6,x7⟩:=zAO gZ;rw [fA] at x3;rw [fF.out,fX.out] at x6;rw [fM.out,fY.out] at x7;obtain⟨bi2,oi2,bd2,od2,h1,h2,c0,fW⟩:=fO.out wr fI.out;rw [fX.out] at h1;rw [fY.out] at h2;injection h1 with h1;injection h1 with h1 h3;injection h2 with h2;injection h2 with h2 h4;subst h1 h3 h2 h4;have v1:IntKind.i64.wrap ((fr:Int) * 128)=(fr:Int) * 128:=zAF _ (by omega);have v2:IntKind.i64.wrap ((fr:Int) * 128+(q:Int))=(fr:Int) * 128+(q:Int):=zAF _ (by omega);have gN:=hid fW;clear gZ fW;by_cases jA:q<128
     · have t1:decide ((q:Int)<128)=true:=decide_eq_true (by omega);by_cases jT:fr * 128+q<z
       · have t2:decide ((fr:Int) * 128+(q:Int)<(z:Int))=true:=decide_eq_true (by omega);go_upto_region 6 with (fail)
         go_quiet (fail)
         have fQ:=zAf fI.out nq;have fJ:=hid (fH.out.fresh (zAf (Below.refl _ wr) nq));have y6:(wr.drewN nq).cell? ⟨g,6,none⟩=some (.slice (some ⟨bi,oi,none⟩) len x.ic):=x6;have y7:(wr.drewN nq).cell? ⟨g,7,none⟩=some (.slice (some ⟨bd,od,none⟩) len x.dc):=x7;have y0:(wr.drewN nq).cell? ⟨bi,oi+k,none⟩=some (.int .i64 (fr:Int)):=c0
         have jB:q<s.length:=by rw [gY];exact jA
         have y1:(wr.drewN nq).cell? ⟨bd,od+k * 128+q,none⟩=some (.int .u8 (s[q].toNat:Int)):=gN.out q _ (zCO s q jB);obtain⟨bv,jC⟩:∃ bv,s[q]=bv:=⟨_,rfl⟩;rw [jC] at y1;have gO:=hid fQ;obtain⟨a,ha⟩:∃ a,fr * 128+q=a:=⟨_,rfl⟩
         have jU:a<z:=by omega
         have jV:(fr:Int) * 128+(q:Int)=(a:Int):=by omega
         have gP:=hid (bw_step gI.out (z:=z) gB jA (b:=bv) (by rw [gM.out];rw [List.getElem?_eq_getElem jB,jC]));rw [gM.out] at gP;simp only [ha] at gP
         have jD:a<(bw d z k q).length:=by rw [zEY];exact jU
         have z0:=(fJ.out.cell a).trans (by rw [zCO _ _ jD]);obtain⟨ov,jE⟩:∃ ov,(bw d z k q)[a]=ov:=⟨_,rfl⟩;rw [jE] at z0;have zf:=fJ.out.frozen a;clear jE;rw [jV] at v2;have v3:IntKind.i64.wrap (a:Int)=(a:Int):=zAF _ (by omega);clear fQ fH fI x3 x6 x7 c0 t2 ha jD;generalize wr.drewN nq=w5 at *;go_upto_region 8 with (fail)
         go_region
         go_upto_region 7 with (fail)
         have jF:Blk (w5.setCell ⟨g+1,a,none⟩ (.int .u8 (bv.toNat:Int))).drew (g+1) 5 (bvs (bw d z k (q+1))):=by
          have h9:Blk (w5.setCell ⟨g+1,a,none⟩ (.int .u8 (bv.toNat:Int))) (g+1) 5 (bvs (bw d z k (q+1))):=by
           rw [gP.out,←bvs_setc];exact fJ.out.set_ a _
          exact h9
         have jG:Below (g+1) w0 (w5.setCell ⟨g+1,a,none⟩ (.int .u8 (bv.toNat:Int))).drew:=(gO.out.setCell (p:=⟨g+1,a,none⟩) (Nat.le_refl _) _).drew;have gQ:=hid jF;have gR:=hid jG;clear jF jG z0 zf fJ;go_wp2_with fail;go_roundw
         case rel=>exact⟨q+1,by omega,by go_num,gQ,gR⟩
         case measure=>simp [intOf];omega
       · have t2:decide ((fr:Int) * 128+(q:Int)<(z:Int))=false:=decide_eq_false (by omega);have fZ:=bw_next (z:=z) (j:=q) gB (by rw [gM.out];exact .inr (by omega));rw [fZ] at fH;have fD:=fH;clear fZ jT;go_upto_region 6 with (fail)
         go_quiet (fail)
         have fQ:=hid (zAf fI.out nq);have fJ:=hid (fD.out.fresh (zAf (Below.refl _ wr) nq));clear fH fD fI;go_wp2_with fail;go_roundw
         case rel=>exact⟨k+1,by omega,by go_num,fJ,fQ⟩
         case measure=>simp [intOf];omega
     · obtain rfl:q=128:=by omega
       have t1:decide ((128:Int)<128)=false:=rfl;have fZ:=bw_next (z:=z) (j:=128) gB (.inl rfl);rw [fZ] at fH;have fD:=fH;clear fZ;go_upto_region 6 with (fail)
       go_quiet (fail)
       have fQ:=hid (zAf fI.out nq);have fJ:=hid (fD.out.fresh (zAf (Below.refl _ wr) nq));clear fH fD fI;go_wp2_with fail;go_roundw
       case rel=>exact⟨k+1,by omega,by go_num,fJ,fQ⟩
       case measure=>simp [intOf];omega
  · obtain rfl:k=len:=by omega
    have gS:Hid (bw d z k 0=rdL d 0 z):=hid (by rw [←fG.out];exact bw_all d z);have gT:=hO.out;rw [gS.out] at gT;have gU:=hid gT;clear hO gT gK;go_wp2_with fail;rw [←jH.out];unfold BytP;rw [gG.out,gH.out,jL.out];exact⟨g+1,rfl,by omega,gU.out,fV.out.trans (hB.out.mono (Nat.le_succ g))⟩
theorem slice_hb (W:World) (b off n c m:Nat) (h1:m≤c) (h2:0<c):(Instr.sliceAt 64 (.slice (some ⟨b,off,none⟩) n c) none (some (.int .i64 (m:Int))) none).run Tryz.prog W=.ok (.slice (some ⟨b,off,none⟩) m c) W:=by
 have hu:Tryz.prog.underlying 64=some (.slice (Tryz.prog.elem 64)):=by kernel_rfl
 have hs:(sizeOf (Tryz.prog.elem 64)).run Tryz.prog W=.ok 1 W:=by kernel_rfl
 rw [run_sliceAt_slice W 64 _ _ _ _ hu,run_slice_h W 64 (some ⟨b,off,none⟩) n c hu .i64 m (by omega) (by omega),hs]
 have fA:¬c=0:=by omega
 simp [Result.andThen,sliced,fA,Addr.add_lit]
theorem zFh {S:Nat→Prop} {fn:Func} {p:Tmp} {a:Act} {w wz:World} {g:Nat} {an an':Ans} {Q:Ending→World→Prop} {z cs:List Value} (hR:Blk wz (g+1) 67 z) (hQ:(fun e w'=>(∃ v,e=Ending.returned v∧zDV S w' v an)∧Below w.heap.size w w')=Q) (fB:an=an')
 (hv:zDV (zAM S g 2) wz (.agg cs.toArray) an') (fC:cs.length=10) (hb:Below g w wz) (hz:w.heap.size=g)
 (h:fn.results=#[.cell p 67]) (hp:a.tmps.getD p undef=.pointer (some ⟨g+1,0,none⟩)) (hd:a.defers=[]) :
 bodyPost Tryz.prog fn Q .ret a (wz.setRow (g+1) cs.toArray):=by
 have fA:=setRow_heap wz (g+1) _ cs.toArray _ _ hR;refine bodyPost_ret (results_cell_row h _ _ (g+1) 67 cs.toArray (0,0) _ hp fA Tryz.underlying67 rfl (by rw [List.size_toArray,fC];kernel_rfl)) hd ?_;have hc:Chg (fun b=>b=g+1) wz (wz.setRow (g+1) cs.toArray):=(Chg.refl (fun b=>b=g+1) wz).setRow (fun _=>rfl) _;rw [←hQ,fB];exact⟨⟨_,rfl,(hv.chg (hc.mono fun b _ (e:b=g+1)=>.inr (by omega))).mono fun _ h=>.inl h⟩,hz.symm▸hb.trans (hc.below (by have:=hb.size;omega) fun b hb e=>by omega)⟩
theorem zJU (S:Nat→Prop) (i:Nat) (n:PN) (x:Hd) (off most:Int) (w:World) (hx:HdR S w x i n) (hS:∀ b,S b→b<w.heap.size) (fW:n.Ok) (hd:n.dir=false) :
 Calls Tryz.prog 86 #[.agg (zAb x).toArray,.int .i64 off,.int .i64 most] w fun e w'=>(∃ v,e=.returned v∧zDV S w' v (n.read off most))∧Below w.heap.size w w':=by
 obtain⟨an,fR⟩:∃ an,n.read off most=an:=⟨_,rfl⟩;rw [fR];obtain⟨Q,hQ⟩:∃ Q:Ending→World→Prop,(fun e w'=>(∃ v,e=Ending.returned v∧zDV S w' v an)∧Below w.heap.size w w')=Q:=⟨_,rfl⟩;rw [hQ];have fG:=hid hQ;obtain⟨g,hz⟩:∃ g,w.heap.size=g:=⟨_,rfl⟩;have fH:=(Blk.new w 123 (zAb x)).alloc (.cells zAs.toArray 67);have fB:=Blk.new (w.alloc (.cells (zAb x).toArray 123)) 67 zAs;have fF:Below w.heap.size w ((w.alloc (.cells (zAb x).toArray 123)).alloc (.cells zAs.toArray 67)):=((Below.refl _ _).alloc (Nat.le_refl _) _).alloc (by simp) _;rw [show (w.alloc (.cells (zAb x).toArray 123)).heap.size=w.heap.size+1 by simp] at fB;rw [hz] at fH fB fF;have gO:Hid (∀ W,Below g w W→HdR S W x i n):=hid fun W hb=>hx.fresh (hz▸hb);have gF:Hid (∀ b,S b→b<g):=hid (by rw [←hz];exact hS);have gP:=fW.size;have fX:=hid fW;have gQ:=hid hd;have fD:=hid hz;unfold PN.read at fR;have hu:=hid fR.symm;clear hQ hx hS fW hd fR;go_enter Tryz.func86,Tryz.ntmps86;go_upto_region 1 with (fail)
 try simp only [hz]
 change Code.wp _ _ _ _ ((w.alloc (.cells (zAb x).toArray 123)).alloc (.cells zAs.toArray 67));generalize (w.alloc (.cells (zAb x).toArray 123)).alloc (.cells zAs.toArray 67)=w0 at *;clear hz;by_cases fA:off<0∨most<0∨131072<most
 · have fC:Hid (an=.err 101):=hid (by rw [hu.out,if_pos fA]);by_cases q1:off<0
   · have t1:decide (off<0)=true:=decide_eq_true q1;clear fA
     go_wp2_with (first
      | (refine wpList_store_row rfl 67 _ _ rfl (g+1) (zAh 101 st0 zAg zAg).toArray rfl (by rfl) 67 _ (fB) rfl rfl (zBj _ _) ?_))
     exact zFh fB fG.out fC.out (zAx _ _ 101 st0) rfl fF fD.out rfl rfl rfl
   have t1:decide (off<0)=false:=decide_eq_false q1;by_cases q2:most<0
   · have t2:decide (most<0)=true:=decide_eq_true q2;clear fA
     go_wp2_with (first
      | (refine wpList_store_row rfl 67 _ _ rfl (g+1) (zAh 101 st0 zAg zAg).toArray rfl (by rfl) 67 _ (fB) rfl rfl (zBj _ _) ?_))
     exact zFh fB fG.out fC.out (zAx _ _ 101 st0) rfl fF fD.out rfl rfl rfl
   have t2:decide (most<0)=false:=decide_eq_false q2;have t3:decide (most > 131072)=true:=decide_eq_true (by omega);clear fA
   go_wp2_with (first
    | (refine wpList_store_row rfl 67 _ _ rfl (g+1) (zAh 101 st0 zAg zAg).toArray rfl (by rfl) 67 _ (fB) rfl rfl (zBj _ _) ?_))
   exact zFh fB fG.out fC.out (zAx _ _ 101 st0) rfl fF fD.out rfl rfl rfl
 have h0:0≤off:=by omega
 have h1:0≤most:=by omega
 obtain⟨e,rfl⟩:=Int.eq_ofNat_of_zero_le h0;obtain⟨mo,rfl⟩:=Int.eq_ofNat_of_zero_le h1
 have gT:mo≤131072:=by omega
 have fC:=hu.out;rw [if_neg fA] at fC;simp only [Int.toNat_natCast] at fC;have t1:decide ((e:Int)<0)=false:=decide_eq_false (by omega);have t2:decide ((mo:Int)<0)=false:=decide_eq_false (by omega);have t3:decide ((mo:Int) > 131072)=false:=decide_eq_false (by omega);have fS:=hid (rbyt_any S i n x w0 (gO.out w0 fF) fX.out gQ.out);unfold BytP at fS;obtain⟨z,fY⟩:∃ z,n.size=z:=⟨_,rfl⟩;obtain⟨d,gG⟩:∃ d,n.data=d:=⟨_,rfl⟩;rw [fY,gG] at fS fC;rw [fY] at gP;have gH:=hid fC;have gR:=hid fH;have fZ:=hid fB;have gA:=hid fF;clear fA hu fC h0 h1 fY gG
 go_upto_region 4 with (first
  | (refine wpList_load_row rfl 123 _ rfl g rfl 123 (zAb x).toArray _ _ fH Tryz.underlying123 rfl rfl ?_)
  | (go_at_call 122;(with_reducible refine (fS.out).mono ?_);rintro eb w1 ⟨ob,rfl,gU,hO,gB⟩))
 have fT:=fZ.out.fresh gB;have fI:=hid (gA.out.trans (gB.mono (by have:=fH.lt;omega)));have gI:=hid hO;have gV:g+2≤w0.heap.size:=fB.lt;clear fH fB fF gB fS hO;by_cases gW:z≤e
 · have fU:Hid (an=⟨0,st0,[],[]⟩):=hid (by rw [gH.out,if_pos (by omega)]);have t4:decide ((e:Int)≥(z:Int))=true:=decide_eq_true (by omega)
   go_wp2_with (first
    | (refine wpList_store_row rfl 67 _ _ rfl (g+1) (zAh 0 st0 zAg zAg).toArray rfl (by rfl) 67 _ (fT) rfl rfl (zBj _ _) ?_))
   exact zFh fT fG.out fU.out (zAx _ _ 0 st0) rfl fI.out fD.out rfl rfl rfl
 have t4:decide ((e:Int)≥(z:Int))=false:=decide_eq_false (by omega);obtain⟨m,hm⟩:∃ m,min mo (z-e)=m:=⟨_,rfl⟩;have fU:Hid (an=⟨0,st0,rdL d e m,[]⟩):=hid (by rw [gH.out,if_neg (by omega),hm])
 have gX:e+m≤z:=by omega
 have gS:∀ W:World,(Instr.sliceAt 64 (.slice (some ⟨ob,0,none⟩) z z) (some (.int .i64 (e:Int))) none none).run Tryz.prog W=.ok (.slice (some ⟨ob,e,none⟩) (z-e) (z-e)) W:=fun W=>zG7 W ob z e e rfl (by omega);have fJ:ob<w1.heap.size:=gI.out.lt
 have fK:∀ W,Below w1.heap.size w1 W→Sees W W.heap.size 1 (some ⟨ob,e,none⟩) m (bvs (rdL d e m)):=fun W hW=>by
  refine⟨by rw [zAe,zAD,Nat.mul_one],fun _=>⟨ob,e,rfl,Nat.lt_of_lt_of_le fJ hW.size,fun j u hu=>?_⟩⟩;rw [hW.cell (p:=⟨ob,e+j,none⟩) fJ];refine (gI.out.cell (e+j)).trans ?_
  have hj:j<(rdL d e m).length:=by
   have:=(List.getElem?_eq_some_iff.1 hu).1
   rwa [zAe] at this
  rw [zCO _ j hj] at hu;rw [zAD] at hj;rw [zCO _ (e+j) (by rw [zAD];omega),←hu];simp [rdL]
 have fE:=hid fK;have gJ:∀ u∈bvs (rdL d e m),u.oneCell'=true:=zCG _;obtain⟨i0,hi,gK,gL,gM⟩:=info_parts zCV;have gN:(w1.alloc (.cells #[] 5)).ownsRow w1.heap.size 5 1 (.slice (some ⟨w1.heap.size,0,none⟩) 0 0) 0 []:=⟨rfl,.inr ⟨w1.heap.size,0,#[],rfl,Nat.le_refl _,heap_alloc_new w1 _,Nat.le_refl _,by unfold maxLen;omega,rfl,rfl⟩⟩;have fV:Below w1.heap.size w1 (w1.alloc (.cells #[] 5)):=(Below.refl _ _).alloc (Nat.le_refl _) _
 have gY:m≤136704:=by omega
 clear fK;by_cases gZ:mo<z-e
 · have t5:decide (((z-e:Nat):Int) > (mo:Int))=true:=decide_eq_true (by omega)
   have gC:mo=m:=by omega
   subst gC;have jA:∀ W:World,(Instr.sliceAt 64 (.slice (some ⟨ob,e,none⟩) (z-e) (z-e)) none (some (.int .i64 (mo:Int))) none).run Tryz.prog W=.ok (.slice (some ⟨ob,e,none⟩) mo (z-e)) W:=fun W=>slice_hb W ob e (z-e) (z-e) mo (by omega) (by omega)
   go_wp2_with (first
    | (at_builtin;refine zAk _ rfl (.tmp 36) (.tmp 37) _ _ rfl w1.heap.size 5 i0 (.int .u8 0) 1 1 Tryz.underlying64 hi gK gL gM rfl _ 0 [] rfl gN mo (bvs (rdL d e mo)) (zCK _ Tryz.underlying64 (z-e) (fE.out _ fV) gJ) (by unfold maxLen;omega) (by omega) (by simp) ?_;intro v3 w3 fL gD gE;have fM:Below w1.heap.size w1 w3:=fV.grown gD (by simp) (fun g' e'=>by simp [Act.eval,Value.ownBlock] at e';omega);have fN:=World.ownsRow.lt fL;obtain⟨A3,c3,fO,fP⟩:=Sees.of_own (B:=w3.heap.size) fL fun g hg=>(fN g hg).2;have fQ:=fT.fresh fM;rw [Nat.zero_add,List.nil_append] at fP;rw [Nat.zero_add] at fO;subst fO)
    | (refine wpList_store_row rfl 67 _ _ rfl (g+1) (zAh 0 st0 (.slice A3 mo c3) zAg).toArray rfl (by rfl) 67 _ fQ rfl rfl (zAv _ _ _ _ _ _ _ _) ?_))
   refine zFh fQ fG.out fU.out ⟨A3,c3,none,0,?_,?_,Sees.nil,?_,fun h=>absurd h (by simp)⟩ rfl (fI.out.trans (fM.mono (by have:=fI.out.size;have:=fD.out;omega))) fD.out rfl rfl rfl
   · simp only [zAD,List.length_nil]
   · simp only [zAD];exact fP
   · intro _ a ea hs;have h8:=(fN a.block (by rw [ea];rfl)).1;rcases hs with hs | hs
     · have:=gF.out _ hs;omega
     · omega
 · have t5:decide (((z-e:Nat):Int) > (mo:Int))=false:=decide_eq_false (by omega)
   have gC:z-e=m:=by omega
   rw [gC] at gS t5
   go_wp2_with (first
    | (at_builtin;refine zAk _ rfl (.tmp 36) (.tmp 37) _ _ rfl w1.heap.size 5 i0 (.int .u8 0) 1 1 Tryz.underlying64 hi gK gL gM rfl _ 0 [] rfl gN m (bvs (rdL d e m)) (zCK _ Tryz.underlying64 m (fE.out _ fV) gJ) (by unfold maxLen;omega) (by omega) (by simp) ?_;intro v3 w3 fL gD gE;have fM:Below w1.heap.size w1 w3:=fV.grown gD (by simp) (fun g' e'=>by simp [Act.eval,Value.ownBlock] at e';omega);have fN:=World.ownsRow.lt fL;obtain⟨A3,c3,fO,fP⟩:=Sees.of_own (B:=w3.heap.size) fL fun g hg=>(fN g hg).2;have fQ:=fT.fresh fM;rw [Nat.zero_add,List.nil_append] at fP;rw [Nat.zero_add] at fO;subst fO)
    | (refine wpList_store_row rfl 67 _ _ rfl (g+1) (zAh 0 st0 (.slice A3 m c3) zAg).toArray rfl (by rfl) 67 _ fQ rfl rfl (zAv _ _ _ _ _ _ _ _) ?_))
   refine zFh fQ fG.out fU.out ⟨A3,c3,none,0,?_,?_,Sees.nil,?_,fun h=>absurd h (by simp)⟩ rfl (fI.out.trans (fM.mono (by have:=fI.out.size;have:=fD.out;omega))) fD.out rfl rfl rfl
   · simp only [zAD,List.length_nil]
   · simp only [zAD];exact fP
   · intro _ a ea hs;have h8:=(fN a.block (by rw [ea];rfl)).1;rcases hs with hs | hs
     · have:=gF.out _ hs;omega
     · omega
open Go.Proofs
theorem zGV (p:ByteArray):(p.toList==([47]:List UInt8))=decide (p=slash):=by
 rw [Bool.eq_iff_iff,beq_iff_eq,decide_eq_true_iff,ByteArray.toList_eq];exact⟨fun h=>zDe h,fun h=>by rw [h];rfl⟩
theorem zJk (p nm:ByteArray) (w:World) (hp:p.size≤1000000) (hn:nm.size≤1000000):Calls Tryz.prog 55 #[.string p,.string nm] w fun e w'=>e=.returned (.string (zJ8 p nm))∧w=w':=by
 obtain⟨u,hu⟩:∃ u,zJ8 p nm=u:=⟨_,rfl⟩;rw [hu];have fA:=hid hu;clear hu;by_cases h:p=slash
 · have t1:(p.toList==([47]:List UInt8))=true:=by rw [zGV,h];rfl
   have t1':p.toList=[47]:=by simpa using t1
   have fE:∀ W:World,(Op.stringOp .add ⟨#[47]⟩ nm).run Tryz.prog W=.ok (.string u) W:=fun W=>by
    refine (run_string_add_sum _ _ _ (by show 1+nm.size≤_;omega)).trans ?_;rw [←fA.out];unfold zJ8;rw [if_pos h]
    first
     | rfl
     | (congr 2;apply zDe;simp [emp,slash])
   clear fA h;go_enter Tryz.func55,Tryz.ntmps55;go_wp2;go_ret;exact⟨rfl,rfl⟩
 · have t1:(p.toList==([47]:List UInt8))=false:=by rw [zGV];exact decide_eq_false h
   have t1':¬p.toList=[47]:=by simpa using t1
   obtain⟨p2,fB⟩:∃ p2,p++slash=p2:=⟨_,rfl⟩
   have hz:p2.size=p.size+1:=by rw [←fB,ByteArray.size_append];rfl
   have fC:∀ W:World,(Op.stringOp .add p ⟨#[47]⟩).run Tryz.prog W=.ok (.string p2) W:=fun W=>by
    refine (run_string_add_sum _ _ _ (by show p.size+1≤_;omega)).trans ?_;rw [←fB];rfl
   have fD:∀ W:World,(Op.stringOp .add p2 nm).run Tryz.prog W=.ok (.string u) W:=fun W=>by
    refine (run_string_add_sum _ _ _ (by omega)).trans ?_;rw [←fA.out,←fB];unfold zJ8;rw [if_neg h]
   clear fA h fB hz;go_enter Tryz.func55,Tryz.ntmps55;go_wp2;go_ret;exact⟨rfl,rfl⟩
def fstP (l:List Nd) (js:List Nat) (j:Nat) (k:Nat):ByteArray:=(((js.zip l).drop k).find? fun p=>decide (p.1=j)).elim emp fun p=>p.2.path
theorem first_any (l:List Nd) (js:List Nat) (j:Nat) (A:Option Addr) (c:Nat) (Ai:Option Addr) (ci:Nat) (w:World) (B:Nat) (hN:NodesAt w B A l) (hI:Sees w B 1 Ai js.length (nats js)) (hl:l.length=js.length) (hz:js.length≤1000000000) :
 Calls Tryz.prog 88 #[.slice A l.length c,.slice Ai js.length ci,.int .i64 (j:Int)] w fun e w'=>e=.returned (.string (fstP l js j 0))∧w=w':=by
 obtain⟨r,hr⟩:∃ r,fstP l js j 0=r:=⟨_,rfl⟩;rw [hr];have fI:=hid hr;obtain⟨len,fB⟩:∃ len,js.length=len:=⟨_,rfl⟩;have hS:=hN.sees;rw [hl] at hS ⊢;rw [fB] at hI hz hS ⊢;have fA:=hid fB;have fD:=hid hl;have fJ:=hid hI;have fK:=hid hS;clear hr fB hl hI hS hN;go_enter Tryz.func88,Tryz.ntmps88;go_wp2
 go_loop [7] (fun i'=>∃ k:Nat,k≤len∧i'=.int .i64 (k:Int)∧Hid (fstP l js j k=r)) (fun i'=>len-(intOf i').toNat)
 case atStart=>exact⟨0,Nat.zero_le _,rfl,fI⟩
 case round =>
  obtain⟨k,hk,rfl,hf⟩:=hrel;by_cases fL:k<len
  · have fE:k<js.length:=by rw [fA.out];exact fL
    have fM:k<l.length:=by rw [fD.out];exact fE
    obtain⟨bi,oi,hA,-,fF⟩:=fJ.out.at_ (by omega);obtain⟨bn,on,fN,-,fG⟩:=fK.out.at_ (by omega);have c0:=fF k _ (zBS js k fE);have c1:=fG (k * 5+0) (.string l[k].path) (by rw [zHU l k fM 0 (by omega)];rfl);rw [Nat.add_zero] at c1;subst hA fN
    have fC:fstP l js j k=if js[k]=j then l[k].path else fstP l js j (k+1):=by
     unfold fstP;rw [List.drop_eq_getElem_cons (by rw [List.length_zip];omega),List.find?_cons];simp only [List.getElem_zip];by_cases e:js[k]=j
     · simp [e]
     · simp [e]
    obtain⟨a,ha⟩:∃ a,js[k]=a:=⟨_,rfl⟩;obtain⟨pa,fH⟩:∃ pa,l[k].path=pa:=⟨_,rfl⟩;rw [ha] at c0 fC;rw [fH] at c1 fC;clear fF fG ha fH;by_cases e:a=j
    · rw [if_pos e,hf.out] at fC
      have t1:((a:Int)==(j:Int))=true:=by rw [e];simp
      clear hf;subst fC;go_wp2;go_ret;exact⟨rfl,rfl⟩
    · rw [if_neg e] at fC;rw [fC] at hf
      have t1:((a:Int)==(j:Int))=false:=by simp;omega
      clear fC;go_wp2;go_round
      case rel=>exact⟨k+1,by omega,by go_num,hf⟩
      case measure=>simp [intOf];omega
  · obtain rfl:k=len:=by omega
    have he:r=emp:=by
     rw [←hf.out];unfold fstP;rw [List.drop_eq_nil_of_le (by rw [List.length_zip,fD.out,fA.out];omega)];rfl
    subst he;clear hf;go_wp2;go_ret;exact⟨rfl,rfl⟩
end Go.Proofs.YtolpcfhfcdkokaaGreatDoor
