/- Joined out of PWrite..PWrite. -/
import Derived.Test.YtolpcfhfcdkokaaGreatDoorQ20
set_option maxHeartbeats 16000000
set_option maxRecDepth 100000
namespace Go.Proofs.YtolpcfhfcdkokaaGreatDoor
open Lib (hid)
open Go.RowKit Go.Proofs
open Go.Maps (Keyed)
theorem zHS (w:World) (b:Nat) (d:Dat) (h:zAy w zAG zB8 3 b d) :
 Calls Tryz.prog 133 #[.map (some b)] w fun e w'=>e=.returned (.map (some w.heap.size))∧zAy w' zAG zB8 3 w.heap.size d∧Below w.heap.size w w':=by
 have:=AnyW.maps_Clone_owns Tryz.mclone 3 rawR b d.length _ w h;change Calls Tryz.prog 133 _ _ _ at this;refine this.mono ?_;rintro e w' ⟨h1,h2,_,h3⟩;exact⟨h1,h2,h3⟩
theorem slice_row (w:World) (o f len cap l:Nat) (L:Int) (h:L=(l:Int)) (hl:l<len) (hc:len≤cap):(Instr.sliceAt 64 (.slice (some ⟨o,f,none⟩) len cap) (some (.int .i64 L)) none none).run Tryz.prog w=.ok (.slice (some ⟨o,f+l,none⟩) (len-l) (cap-l)) w:=by
 subst h
 have hu:Tryz.prog.underlying 64=some (.slice (Tryz.prog.elem 64)):=by kernel_rfl
 have hs:(sizeOf (Tryz.prog.elem 64)).run Tryz.prog w=.ok 1 w:=by kernel_rfl
 rw [run_sliceAt_slice w 64 _ _ _ _ hu,run_slice_l w 64 (some ⟨o,f,none⟩) len cap hu .i64 l (by omega) (by omega),hs]
 have fA:¬cap=l:=by omega
 simp [Result.andThen,sliced,fA,Addr.add_lit]
theorem zJS (s cs:List UInt8) (fr:Nat):splice (bvs s) fr (bvs cs)=bvs (splice s fr cs):=by simp [splice,bvs,List.map_take,List.map_drop]
theorem zJX (s cs:List UInt8) (fr:Nat) (h:fr+cs.length≤s.length):(splice s fr cs).length=s.length:=length_splice s fr cs h
theorem zFK {own:Nat→Option Role} {lay:Nat→NA} {p mb i:Nat} {T:PT} {n:PN} {w w2:World} (h:PlainAt w own lay p mb T) (hT:T.Ok) (hg:zAd i T.nodes=some n) (hb:Below w.heap.size w w2) {z:Nat} (hz:w.heap.size≤z) {d:Dat} (s:Nat)
 (hm:zAy w2 zAG zB8 3 z d):zAS own p mb (T.upd i {n with data:=d,size:=s}) w (w2.setRow (lay i).nb (zCc ⟨(lay i).nb,some z,(lay i).s,(lay i).nm⟩ {n with data:=d,size:=s}).toArray):=by
 have hP:=h.get hg;have ho:Owns own i (lay i):=h.owns _ (zAi hg);have hC:Chg (fun b=>b=(lay i).nb) w (w2.setRow (lay i).nb (zCc ⟨(lay i).nb,some z,(lay i).s,(lay i).nm⟩ {n with data:=d,size:=s}).toArray):=(Chg.of_fresh (S:=fun b=>b=(lay i).nb) hb).setRow (fun _=>rfl) _;have fA:Chg (fun b=>b=(lay i).nb) w2 (w2.setRow (lay i).nb (zCc ⟨(lay i).nb,some z,(lay i).s,(lay i).nm⟩ {n with data:=d,size:=s}).toArray):=(Chg.refl (fun b=>b=(lay i).nb) w2).setRow (fun _=>rfl) _;have fD:=hP.blk.lt;have fC:=hm.lt
 have fB:∀ {b:Nat} {r:Role},own b=some r→r≠.node i→b≠(lay i).nb:=fun e hr hb=>by
  subst hb;rw [ho.nb] at e;exact hr (Option.some.inj e).symm
 have hN:PnAt (w2.setRow (lay i).nb (zCc ⟨(lay i).nb,some z,(lay i).s,(lay i).nm⟩ {n with data:=d,size:=s}).toArray) ⟨(lay i).nb,some z,(lay i).s,(lay i).nm⟩ {n with data:=d,size:=s}:=by
  refine⟨setRow_heap w2 _ _ _ _ _ (hP.blk.fresh hb),hm.chg fA (by omega),zAo hP.slots hC fun g e=>fB (ho.s g e) (fun e=>by cases e),hP.names.chg hC fun b e=>fB (ho.nm b e) (fun e=>by cases e),hP.dirs,fun _=>⟨_,rfl⟩⟩
 have he:Ext w own (own1 own z (.data i)):=own1_ext hz h.lt;refine zAS.of (h.upd hT.ris hg hC (fun b _ hb=>by subst hb;exact .inl ho.nb) hN rfl he (fun b r e=>?_) ⟨?_,?_,?_,?_⟩) he (hC.mono fun b _ e=>by subst e;rw [ho.nb];simp)
 · unfold own1 at e
   split at e
   · rename_i e1;subst e1;exact Nat.lt_of_lt_of_le fC fA.size
   · exact Nat.lt_of_lt_of_le (h.lt b r e) hC.size
 · exact he.keep _ _ ho.nb
 · intro b e;cases e;simp [own1]
 · exact fun b e=>he.keep _ _ (ho.s b e)
 · exact fun b e=>he.keep _ _ (ho.nm b e)
theorem zJJ (own:Nat→Option Role) (lay:Nat→NA) (p mb i:Nat) (T:PT) (n:PN) (off:Int) (A:Option Addr) (len cap:Nat) (bs:List UInt8) (w:World) (h:PlainAt w own lay p mb T) (hT:T.Ok) (hg:zAd i T.nodes=some n)
 (fO:n.dir=false) (hs:Sees w w.heap.size 1 A len (bvs bs)) (gG:bs.length=len) (jL:len≤cap) (lS:len<1000000000000) (lF:off≤9223372036854775807∧-9223372036854775808≤off) :
 Calls Tryz.prog 106 #[.pointer (some ⟨p,0,none⟩),zCq (lay i).nb,.int .i64 off,.slice A len cap] w fun e w'=>e=.returned (zAW (T.write i off bs).2)∧zAS own p mb (T.write i off bs).1 w w':=by
 have hu:=PT.write.eq_1 T i off bs;rw [gG] at hu;have hn:=(hT.get hg).1;have fE:=h.get hg;obtain⟨db,gH⟩:=fE.files fO;unfold zCq zAW;go_enter Tryz.func106,Tryz.ntmps106;by_cases fG:off<0∨131072<len∨136704<off+len
 · rw [if_pos fG] at hu;rw [hu];clear hu;have gI:=hid (zAS.same h (Below.refl _ w));clear h fE hn gH hs;by_cases h1:off<0
   case' pos=>have t1:decide (off<0)=true:=by simpa using h1
   case' neg =>
    have t1:decide (off<0)=false:=by simpa using h1
    by_cases h2:131072<len
    case' pos=>have t2:decide (131072<len)=true:=by simpa using h2
    case' neg =>
     have t2:decide (131072<len)=false:=by simpa using h2
     have t3:decide (136704-(len:Int)<off)=true:=by simp;omega
   all_goals
    clear fG;go_wp2;go_ret;exact⟨rfl,gI.out⟩
 · rw [if_neg fG] at hu
   have t1:decide (off<0)=false:=by simp;omega
   have t2:decide ((131072:Int)<(len:Int))=false:=by simp;omega
   have t3:decide (136704-(len:Int)<off)=false:=by simp;omega
   obtain⟨of,rfl⟩:∃ of:Nat,off=(of:Int):=⟨off.toNat,by omega⟩;simp only [Int.toNat_natCast] at hu;have kJ:=hid hu
   have lT:of+len≤136704:=by omega
   clear fG hu;have b0:w.cell? ⟨(lay i).nb,0,none⟩=some (.int .i64 n.kind):=fE.blk.cell 0;have b1:w.cell? ⟨(lay i).nb,1,none⟩=some (.int .i64 (n.links:Int)):=fE.blk.cell 1;have b2:w.cell? ⟨(lay i).nb,2,none⟩=some (.int .i64 (n.size:Int)):=fE.blk.cell 2;have b3:w.cell? ⟨(lay i).nb,3,none⟩=some (.int .i64 (n.made:Int)):=fE.blk.cell 3;have b4:w.cell? ⟨(lay i).nb,4,none⟩=some (.map (lay i).d):=fE.blk.cell 4;have b5:w.cell? ⟨(lay i).nb,5,none⟩=some (lay i).s:=fE.blk.cell 5;have b6:w.cell? ⟨(lay i).nb,6,none⟩=some (.map (lay i).nm):=fE.blk.cell 6;rw [gH] at b4;have fS:=fE.data;rw [gH] at fS;have fP:zAy w zAG zB8 3 db n.data:=fS;have hH:=hid h;have gC:=hid fE;have fF:=hid hn;have lU:=hid gH;have lG:=hid hs;have jM:=hid hT;have lH:=hid fP;clear h fE hn gH hs hT fS fP;obtain⟨A1,c1,jH⟩:=gC.out.form;rw [jH] at b5;go_upto_region 4 with (fail);have jN:Blk (w.alloc (.cells #[.int .i64 n.kind,.int .i64 (n.links:Int),.int .i64 (n.size:Int),.int .i64 (n.made:Int),.map (some db),.slice A1 n.slots.length c1,.map (lay i).nm] 110)) w.heap.size 110 [.int .i64 n.kind,.int .i64 (n.links:Int),.int .i64 (n.size:Int),.int .i64 (n.made:Int),.map (some db),.slice A1 n.slots.length c1,.map (lay i).nm]:=Blk.new w _ _;have gJ:Below w.heap.size w (w.alloc (.cells #[.int .i64 n.kind,.int .i64 (n.links:Int),.int .i64 (n.size:Int),.int .i64 (n.made:Int),.map (some db),.slice A1 n.slots.length c1,.map (lay i).nm] 110)):=(Below.refl _ _).alloc (Nat.le_refl _) _
   have jO:(w.alloc (.cells #[.int .i64 n.kind,.int .i64 (n.links:Int),.int .i64 (n.size:Int),.int .i64 (n.made:Int),.map (some db),.slice A1 n.slots.length c1,.map (lay i).nm] 110)).heap.size=w.heap.size+1:=by simp
   generalize w.alloc (.cells #[.int .i64 n.kind,.int .i64 (n.links:Int),.int .i64 (n.size:Int),.int .i64 (n.made:Int),.map (some db),.slice A1 n.slots.length c1,.map (lay i).nm] 110)=w0 at *;obtain⟨q,hq⟩:∃ q,w.heap.size=q:=⟨_,rfl⟩
   have gK:(lay i).nb<q:=by have:=gC.out.blk.lt;omega
   rw [hq] at jN gJ jO;simp only [hq];have gD:=hid hq
   have e4:w0.cell? ⟨(lay i).nb,4,none⟩=some (.map (some db)):=by rw [gJ.cell (p:=⟨(lay i).nb,4,none⟩) gK];exact b4
   have kK:zAy w0 zAG zB8 3 db n.data:=lH.out.fresh (by rw [hq];exact gJ);have fT:=hid gJ;have fH:=hid jN;clear hq b0 b1 b2 b3 b4 b5 b6 gJ jN
   go_upto_region 5 with (first
    | (go_at_call 133;refine (zHS w0 db n.data kK).mono ?_;rintro e w1 ⟨rfl,jP,fU⟩;have x1:=(fH.out.fresh fU).cell 4;have x2:=(fH.out.fresh fU).frozen 4;simp only [jO] at jP fU x1 x2))
   have kL:Blk (w1.setCell ⟨q,4,none⟩ (.map (some (q+1)))) q 110 [.int .i64 n.kind,.int .i64 (n.links:Int),.int .i64 (n.size:Int),.int .i64 (n.made:Int),.map (some (q+1)),.slice A1 n.slots.length c1,.map (lay i).nm]:=((fH.out.fresh (by rw [jO];exact fU)).set_ 4 _);have jQ:Chg (fun b=>b=q) w1 (w1.setCell ⟨q,4,none⟩ (.map (some (q+1)))):=(Chg.refl (fun b=>b=q) w1).setCell (p:=⟨q,4,none⟩) (fun _=>rfl) _;have kM:zAy (w1.setCell ⟨q,4,none⟩ (.map (some (q+1)))) zAG zB8 3 (q+1) n.data:=jP.chg jQ (by omega);have kN:Below q w (w1.setCell ⟨q,4,none⟩ (.map (some (q+1)))):=(fT.out.trans (fU.mono (by omega))).trans (jQ.below (by have:=fT.out.size;have:=fU.size;omega) fun b hb e=>by omega);clear kK e4 jP fU x1 x2 jQ;generalize w1.setCell ⟨q,4,none⟩ (.map (some (q+1)))=wS at *;have gL:=hid kL;have gM:=hid kM;have gN:=hid kN;clear kL kM kN fH fT;go_wp2_with (fail)
   go_loopw [10,11,12,13] (fun x _ _ _ wr=>∃ ix:Nat,ix≤len∧x=.int .i64 ix∧Hid (Blk wr q 110 [.int .i64 n.kind,.int .i64 (n.links:Int),.int .i64 (n.size:Int),.int .i64 (n.made:Int),.map (some (q+1)),.slice A1 n.slots.length c1,.map (lay i).nm])∧Hid (zAy wr zAG zB8 3 (q+1) (wrB n.data of (bs.take ix)))∧Hid (Below q w wr)) (fun x _ _ _ _=>len-(intOf x).toNat)
   case atStart=>exact⟨0,by omega,rfl,gL,gM,gN⟩
   case round =>
    obtain⟨ix,lV,rfl,fQ,fV,jR⟩:=hrel;clear gL gM gN;have x4:wr.cell? ⟨q,4,none⟩=some (.map (some (q+1))):=fQ.out.cell 4;by_cases jS:ix<len
    · have t5:decide ((ix:Int)<(len:Int))=true:=by simpa using jS
      obtain⟨k,kO⟩:∃ k,(of+ix) / 128=k:=⟨_,rfl⟩;obtain⟨fr,kP⟩:∃ fr,(of+ix) % 128=fr:=⟨_,rfl⟩
      have kQ:((of:Int)+ix) / 128=(k:Int):=by omega
      have kR:((of:Int)+ix) % 128=(fr:Int):=by omega
      have hk:k≤1067:=by omega
      have lI:fr<128:=by omega
      have fI:=hid jS;have kS:=hid kO;have kT:=hid kP;have fC:=fF.out.dOk.wrB (q:=of) (bs:=bs.take ix) (by rw [List.length_take];omega);have jT:=fC.dlen;have fW:(zA5 (wrB n.data of (bs.take ix)) k).length=128:=fC.blk k;obtain⟨l,jU⟩:∃ l,wrB n.data of (bs.take ix)=l:=⟨_,rfl⟩;have kU:=hid jU;rw [jU] at fW jT fV;obtain⟨bk,jI⟩:∃ bk,zA5 l k=bk:=⟨_,rfl⟩;rw [jI] at fW
      have hv:orV zB8 (zB8 zBN) (zAd k l)=.agg (bvs bk).toArray:=by rw [←jI];unfold zA5;cases zAd k l<;>rfl
      have gO:=hid jI;have gP:=hid fV.out;have jV:Blk (wr.alloc (.cells Tryz.zeroCells187 187)) wr.heap.size 187 (bvs zBN):=zBh rfl;clear jS kO kP jI jU fC;go_upto_region 8 with (fail);rw [kQ,kR];clear kQ kR
      go_upto_region 9 with (first
       | (at_lookup;refine zEb _ rfl (.tmp 50) (.tmp 51) 107 rfl zDW Tryz.underlying107 (zSecV _) gP.out rfl k rfl (zHv k (by omega)) _ hv ?_)
       | (refine wpList_store_row rfl 187 (.tmp 13) (.tmp 52) rfl wr.heap.size (bvs bk).toArray rfl (by rfl) 187 _ jV (zAE fW) (by rw [List.size_toArray,List.size_toArray,zAe,zAe,zAt,fW]) (zBc bk) ?_))
      have kV:Blk ((wr.alloc (.cells Tryz.zeroCells187 187)).setRow wr.heap.size (bvs bk).toArray) wr.heap.size 187 (bvs bk):=setRow_heap _ _ _ _ _ _ jV;have fJ:Chg (fun b=>wr.heap.size≤b) wr ((wr.alloc (.cells Tryz.zeroCells187 187)).setRow wr.heap.size (bvs bk).toArray):=((Chg.refl _ wr).alloc _).setRow (fun _=>Nat.le_refl _) _;have lW:q+1<wr.heap.size:=fV.out.lt;have gQ:=hid (fQ.out.chg fJ (by omega));have gR:=hid (fV.out.chg fJ (by omega));have gS:=hid (jR.out.trans (fJ.below (B:=q) (by omega) fun b hb h=>by omega));clear jV fJ fQ fV gP jR x4;generalize (wr.alloc (.cells Tryz.zeroCells187 187)).setRow wr.heap.size (bvs bk).toArray=w3 at *;generalize wr.heap.size=z at *;obtain⟨mm,kW⟩:∃ mm,min (len-ix) (128-fr)=mm:=⟨_,rfl⟩
      have gT:fr+mm≤128:=by omega
      have jW:ix+mm≤len:=by have:=fI.out;omega
      have jX:0<mm:=by have:=fI.out;omega
      obtain⟨ch,jJ⟩:∃ ch,(bs.drop ix).take mm=ch:=⟨_,rfl⟩
      have jY:ch.length=mm:=by rw [←jJ,List.length_take,List.length_drop];omega
      obtain⟨cs,gU⟩:∃ cs,bvs ch=cs:=⟨_,rfl⟩
      have jZ:cs.length=mm:=by rw [←gU,zAe];exact jY
      obtain⟨ab,ao,hA,lX,lJ⟩:=(lG.out.below (by rw [gD.out];exact gS.out):Sees w3 w.heap.size 1 A len (bvs bs)).at_ (by have:=fI.out;omega);subst hA
      have gV:∀ (j:Nat) (v:Value),cs[j]? = some v→w3.cell? ((⟨ab,ao+ix,none⟩:Addr).add j)=some v:=by
       intro j v hj
       have lK:j<mm:=by have:=(List.getElem?_eq_some_iff.1 hj).1;omega
       rw [Addr.add_lit,Nat.add_assoc];refine lJ (ix+j) v ?_;rw [←hj,←gU,←jJ];simp only [bvs,List.getElem?_map,List.getElem?_take,List.getElem?_drop,if_pos lK]
      have gW:∀ v∈cs,v.oneCell'=true:=by rw [←gU];exact zCG _
      have fK:splice (bvs bk) fr cs=bvs (splice bk fr ch):=by rw [←gU,zJS]
      have gX:=hid fK
      have gY:fr+cs.length≤(bvs bk).length:=by rw [jZ,zAe,fW];exact gT
      have lL:∀ W:World,(Instr.sliceAt 64 (.slice (some ⟨ab,ao,none⟩) len cap) (some (.int .i64 (ix:Int))) none none).run Tryz.prog W=.ok (.slice (some ⟨ab,ao+ix,none⟩) (len-ix) (cap-ix)) W:=fun W=>slice_row W _ _ _ _ _ _ rfl fI.out jL;have lM:∀ W:World,(Instr.sliceAt 187 (.pointer (some ⟨z,0,none⟩)) (some (.int .i64 (fr:Int))) none none).run Tryz.prog W=.ok (.slice (some ⟨z,fr,none⟩) (128-fr) (128-fr)) W:=fun W=>zEG W _ _ _ rfl lI;have kX:=hid (show cs.length=Nat.min (len-ix) (128-fr) by rw [jZ];exact kW.symm)
      have lY:IntKind.i64.wrap ((ix:Int)+(mm:Int))=((ix+mm:Nat):Int):=by rw [IntWalk.i64_in _ (by omega)];omega
      have lN:(Tryz.prog.info? 5).map (·.size)=some 1:=by kernel_rfl
      have kA:=hid jJ;clear fK kW gU jJ
      go_region_law (refine step_copy_splice rfl (.tmp 55) (.tmp 58) 64 64 rfl 5 Tryz.underlying64 lN _ _ (128-fr) (128-fr) (len-ix) (cap-ix) rfl rfl z fr _ 187 kV cs kX.out (fun _=>⟨rfl,_,rfl,gV⟩) gY gW z _ (Below.refl _ _) (Nat.le_refl _) ?_;intro w5 HG5 gE;have lO:Blk w5 z 187 (bvs (splice bk fr ch)):=(by (have h9:=HG5.out;rw [gX.out] at h9;exact h9));have fX:Hid (Below z w3 w5):=⟨gE.os,gE.tape,gE.output,gE.size,gE.block⟩;rw [jZ];clear HG5 gE)
      simp only [List.getElem_toArray,List.getElem_cons_succ,List.getElem_cons_zero]
      go_frame
      have fY:=gQ.out.below fX.out (by omega);have kC:=gR.out.chg (Chg.of_below fX.out) (by omega);have kY:=hid (gS.out.trans (fX.out.mono (by omega)));have x5:w5.cell? ⟨q,4,none⟩=some (.map (some (q+1))):=fY.cell 4
      have fK:(splice bk fr ch).length=128:=by rw [zJX _ _ _ (by omega)];exact fW
      have gZ:=hid fY
      have kD:Hid (zBa zAG k (splice bk fr ch) l=wrB n.data of (bs.take (ix+mm))):=by
       have h9:=zI8 n.data of bs ix mm (by omega) jX (by rw [kU.out,kS.out,gO.out];exact fW) (by rw [kT.out];exact gT);rw [kU.out,kS.out,kT.out,gO.out,kA.out] at h9;exact h9.symm
      generalize splice bk fr ch=sp at *;clear fY gQ gR gS kV gX gY kX gV gW lL lM hv
      go_wp2_with (first
       | (refine wpList_load_row rfl 187 (.tmp 13) rfl z rfl 187 (bvs sp).toArray (0,0) _ lO Tryz.underlying187 rfl (zAE fK) ?_)
       | (at_mapUpdate;refine zA4 _ rfl _ _ _ 107 (.inl rfl) zDW Tryz.underlying107 kC (by unfold maxLen;omega) rfl k rfl (zHv k (by omega)) sp rfl ?_;intro w6 kZ lA;have lB:=zAT lA;have kE:=hid kZ;have jA:=hid lB;clear kZ lB lA))
      go_frame
      refine⟨?_,?measure⟩
      · repeat apply Exists.intro
        refine⟨?_,rfl⟩;refine⟨ix+mm,jW,by go_num,hid (gZ.out.chg jA.out (by omega)),?_,hid (kY.out.trans (jA.out.below (by have:=kY.out.size;rw [gD.out] at this;exact this) fun b hb e=>by omega))⟩;rw [←kD.out];exact kE
      case measure =>
       simp [intOf]
       omega
    · obtain rfl:ix=len:=by omega
      have t5:decide ((ix:Int)<(ix:Int))=false:=by simp
      have fC:=fF.out.dOk.wrB (q:=of) (bs:=bs) (by omega);have fL:=fV.out;rw [List.take_of_length_le (by omega)] at fL;have fM:({n with data:=wrB n.data of bs}:PN).Ok:=⟨fC.keys,fC.dlen,fC.secs,fF.out.slots,fF.out.links,fF.out.size,fF.out.made,fF.out.nm,fF.out.nlen,fun e=>by (have e':n.dir=true:=e;rw [fO] at e';cases e'),fF.out.df,fF.out.nris,fC.ris⟩
      have jK:Below w.heap.size w wr:=by rw [gD.out];exact jR.out
      have jB:=gC.out.chg (Chg.of_fresh (S:=fun _=>False) jK) id (fun _ _ h=>h) (fun _ _ h=>h) (fun _ _ h=>h)
      have hN:PnAt wr ⟨q,some (q+1),(lay i).s,(lay i).nm⟩ {n with data:=wrB n.data of bs}:=by
       refine⟨?_,fL,jB.slots,jB.names,jB.dirs,fun _=>⟨_,rfl⟩⟩;have h9:=fQ.out;rw [←jH] at h9;exact h9
      obtain⟨n2,lC⟩:∃ n2:PN,({n with data:=wrB n.data of bs}:PN)=n2:=⟨_,rfl⟩;rw [lC] at hN fM;have lD:∀ W,Below wr.heap.size wr W→Calls Tryz.prog 57 #[zCq (lay i).nb] W fun e w'=>e=.returned (.int .i64 ((n.count:Nat):Int))∧Below W.heap.size W w':=fun W hW=>zDQ (jB.chg (Chg.of_fresh (S:=fun _=>False) hW) id (fun _ _ h=>h) (fun _ _ h=>h) (fun _ _ h=>h)) fF.out;have jC:∀ W,Below wr.heap.size wr W→Calls Tryz.prog 57 #[zCq q] W fun e w'=>e=.returned (.int .i64 ((n2.count:Nat):Int))∧Below W.heap.size W w':=fun W hW=>zDQ (a:=⟨q,some (q+1),(lay i).s,(lay i).nm⟩) (hN.chg (Chg.of_fresh (S:=fun _=>False) hW) id (fun _ _ h=>h) (fun _ _ h=>h) (fun _ _ h=>h)) fM;have fA:=zII own lay p mb T (lay i).nb q n.count n2.count wr (hH.out.fresh jK) jM.out lD fF.out.count jC fM.count;rw [←lC] at fA;clear lD jC;unfold zCq at fA;have fB:=hid jK;have fR:=hid fL
      have fZ:Hid ((T.node i).wrote of bs={n with data:=wrB n.data of bs,size:=if ix=0 then n.size else max n.size (of+ix)}):=by
       show _=_
       rw [zAp hg];unfold PN.wrote;rw [gG]
      obtain⟨cy,kF⟩:∃ cy,({n with data:=wrB n.data of bs}:PN).count=cy:=⟨_,rfl⟩
      have jD:((T.node i).wrote of bs).count=cy:=by
       rw [fZ.out,←kF];unfold PN.count PN.keys;rfl
      have fN:=kJ.out;rw [jD,zAp hg] at fN;rw [kF] at fA
      have lE:n.wrote of bs={n with data:=wrB n.data of bs,size:=if ix=0 then n.size else max n.size (of+ix)}:=by have:=fZ.out;rw [zAp hg] at this;exact this
      rw [lE] at fN;obtain⟨lim,jE⟩:∃ lim,(T.sectors:Int)-1-T.inodes-T.used=lim:=⟨_,rfl⟩;rw [jE] at fN fA;clear kF jD lE kJ fZ jE;clear hN fM jB jK fL fV fC x4;by_cases hR:(cy:Int)-n.count≤lim
      · rw [decide_eq_true hR] at fA;rw [if_pos hR] at fN;have hW:=hid fN;clear fN hR
        have jF:∀ (v:Nat),([.int .i64 n.kind,.int .i64 (n.links:Int),.int .i64 (v:Int),.int .i64 (n.made:Int),.map (some (q+1)),.slice A1 n.slots.length c1,.map (lay i).nm]:List Value).toArray.all (·.oneCell')=true:=fun v=>by simp [Value.oneCell']
        by_cases hz:ix=0
        · have t6:decide ((0:Int)<(ix:Int))=false:=by simp;omega
          have t7:decide (0<ix)=false:=by simp;omega
          have kG:=hid hz;clear hz
          go_wp2_with (first
           | (go_at_call 129;refine fA.mono ?_;rintro e w2 ⟨rfl,fD⟩;have gA:=fQ.out.fresh fD;have lP:=gC.out.blk.fresh (fB.out.trans (fD.mono fB.out.size));have jG:=hid fD;have z0:=gA.cell 0;have z1:=gA.cell 1;have z2:=gA.cell 2;have z3:=gA.cell 3;have z4:=gA.cell 4;have z5:=gA.cell 5;have z6:=gA.cell 6;clear fD)
           | (refine wpList_store_row rfl 110 (.tmp 84) (.tmp 83) rfl (lay i).nb [.int .i64 n.kind,.int .i64 (n.links:Int),.int .i64 (n.size:Int),.int .i64 (n.made:Int),.map (some (q+1)),.slice A1 n.slots.length c1,.map (lay i).nm].toArray rfl (by rfl) 110 _ lP rfl rfl (jF _) ?_))
          go_ret;rw [hW.out];refine⟨rfl,?_⟩;have h9:=zFK hH.out jM.out hg (fB.out.trans (jG.out.mono fB.out.size)) (z:=q+1) (by have:=gD.out;omega) n.size (fR.out.fresh jG.out);rw [jH] at h9;rw [if_pos kG.out];exact h9
        · have t6:decide ((0:Int)<(ix:Int))=true:=by simp;omega
          have t7:decide (0<ix)=true:=by simp;omega
          have hY:Hid (∀ W,Below wr.heap.size wr W→W.cell? ⟨(lay i).nb,2,none⟩=some (.int .i64 (n.size:Int))∧W.cell? ⟨q,2,none⟩=some (.int .i64 (n.size:Int))∧W.frozen? ⟨q,2,none⟩=false):=fun W hW=>⟨(gC.out.blk.fresh (fB.out.trans (hW.mono fB.out.size))).cell 2,(fQ.out.fresh hW).cell 2,(fQ.out.fresh hW).frozen 2⟩;have kG:=hid hz;clear hz
          go_upto_region 15 with (first
           | (go_at_call 129;refine fA.mono ?_;rintro e w2 ⟨rfl,fD⟩;obtain⟨y3,y4,y5⟩:=hY.out w2 fD))
          have gF:max ((n.size:Nat):Int) ((of:Int)+(ix:Int))=((max n.size (of+ix):Nat):Int):=by omega
          rw [gF];clear gF;obtain⟨mx,gF⟩:∃ mx,max n.size (of+ix)=mx:=⟨_,rfl⟩;rw [gF];have fJ:Chg (fun b=>b=q) w2 (w2.setCell ⟨q,2,none⟩ (.int .i64 (mx:Int))):=(Chg.refl (fun b=>b=q) w2).setCell (p:=⟨q,2,none⟩) (fun _=>rfl) _;have gB:Blk (w2.setCell ⟨q,2,none⟩ (.int .i64 (mx:Int))) q 110 [.int .i64 n.kind,.int .i64 (n.links:Int),.int .i64 (mx:Int),.int .i64 (n.made:Int),.map (some (q+1)),.slice A1 n.slots.length c1,.map (lay i).nm]:=(fQ.out.fresh fD).set_ 2 _;have lQ:=(gC.out.blk.fresh (fB.out.trans (fD.mono fB.out.size))).chg fJ (by omega);have lR:=hid ((fR.out.fresh fD).chg fJ (by omega));have gS:=hid ((fB.out.trans (fD.mono fB.out.size)).trans (fJ.below (B:=w.heap.size) (by have:=fB.out.size;have:=fD.size;omega) fun b hb e=>by have:=gD.out;omega));have kI:=hid gF;clear fJ gF y3 y4 y5 fD hY;generalize w2.setCell ⟨q,2,none⟩ (.int .i64 (mx:Int))=w3 at *;have z0:=gB.cell 0;have z1:=gB.cell 1;have z2:=gB.cell 2;have z3:=gB.cell 3;have z4:=gB.cell 4;have z5:=gB.cell 5;have z6:=gB.cell 6
          go_wp2_with (first
           | (refine wpList_store_row rfl 110 (.tmp 84) (.tmp 83) rfl (lay i).nb [.int .i64 n.kind,.int .i64 (n.links:Int),.int .i64 (mx:Int),.int .i64 (n.made:Int),.map (some (q+1)),.slice A1 n.slots.length c1,.map (lay i).nm].toArray rfl (by rfl) 110 _ lQ rfl rfl (jF _) ?_))
          go_ret;rw [hW.out];refine⟨rfl,?_⟩;have h9:=zFK hH.out jM.out hg gS.out (z:=q+1) (by have:=gD.out;omega) mx lR.out;rw [jH] at h9;rw [if_neg kG.out,kI.out];exact h9
      · rw [decide_eq_false hR] at fA;rw [if_neg hR] at fN;have hW:=hid fN;clear fN hR;go_wp2_with (go_at_call 129;refine fA.mono ?_;rintro e w2 ⟨rfl,fD⟩);go_ret;rw [hW.out];exact⟨rfl,zAS.same hH.out (fB.out.trans (fD.mono fB.out.size))⟩
end Go.Proofs.YtolpcfhfcdkokaaGreatDoor
