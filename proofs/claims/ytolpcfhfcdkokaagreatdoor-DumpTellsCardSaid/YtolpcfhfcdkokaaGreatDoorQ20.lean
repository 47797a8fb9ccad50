/- Joined out of PRead..PWLaw. -/
import Derived.IntWalk
import Derived.Test.YtolpcfhfcdkokaaGreatDoorQ18
set_option maxHeartbeats 16000000
set_option maxRecDepth 100000
namespace Go.Proofs.YtolpcfhfcdkokaaGreatDoor
open Lib (hid)
open Go.RowKit Go.Proofs
open Go.Maps (Keyed)
def zA5 (d:List (Nat×List UInt8)) (k:Nat):List UInt8:=(zAd k d).getD zBN
def zCP (d:List (Nat×List UInt8)) (q:Nat):UInt8:=(zA5 d (q / 128)).getD (q % 128) 0
def rdL (d:List (Nat×List UInt8)) (off m:Nat):List UInt8:=(List.range m).map fun j=>zCP d (off+j)
def PN.read (n:PN) (off most:Int):Ans :=
 if off<0∨most<0∨131072<most then .err 101 else if (n.size:Int)≤off then ⟨0,st0,[],[]⟩ else ⟨0,st0,rdL n.data off.toNat (min most.toNat (n.size-off.toNat)),[]⟩
theorem zAD (d:List (Nat×List UInt8)) (off m:Nat):(rdL d off m).length=m:=by simp [rdL]
theorem blkOf_len {n:PN} (hn:n.Ok) (k:Nat):(zA5 n.data k).length=128:=by
 unfold zA5
 cases hg:zAd k n.data with
 | none=>exact zAt
 | some s=>exact hn.secs _ (zAi hg)
theorem rdL_chunk (d:List (Nat×List UInt8)) (off a mm:Nat) (hl:(zA5 d ((off+a) / 128)).length=128) (h:(off+a) % 128+mm≤128) :
 rdL d off (a+mm)=rdL d off a++((zA5 d ((off+a) / 128)).drop ((off+a) % 128)).take mm:=by
 apply List.ext_getElem
 · rw [List.length_append,List.length_take,List.length_drop,zAD,zAD,hl];omega
 · intro i h1 h2;rw [zAD] at h1;by_cases hi:i<a
   · rw [List.getElem_append_left (by rw [zAD];exact hi)];simp [rdL]
   · rw [List.getElem_append_right (by rw [zAD];omega)];simp only [rdL,List.getElem_map,List.getElem_range,List.getElem_take,List.getElem_drop,List.length_map,List.length_range];unfold zCP
     have e1:(off+i) / 128=(off+a) / 128:=by omega
     have e2:(off+i) % 128=(off+a) % 128+(i-a):=by omega
     rw [e1,e2,List.getD_eq_getElem?_getD,List.getElem?_eq_getElem (by rw [hl];omega)];rfl
theorem zGQ (d:List (Nat×List UInt8)) (off m a mm:Nat) (fC:a+mm≤m) (hl:(zA5 d ((off+a) / 128)).length=128) (h:(off+a) % 128+mm≤128) :
 splice (bvs (rdL d off a)++List.replicate (m-a) (Value.int .u8 0)) a (bvs (((zA5 d ((off+a) / 128)).drop ((off+a) % 128)).take mm))=bvs (rdL d off (a+mm))++List.replicate (m-(a+mm)) (Value.int .u8 0):=by
 have fA:(bvs (((zA5 d ((off+a) / 128)).drop ((off+a) % 128)).take mm)).length=mm:=by rw [zAe,List.length_take,List.length_drop,hl];omega
 have fB:(bvs (rdL d off a)).length=a:=by rw [zAe,zAD]
 unfold splice;rw [fA,List.take_append_of_le_length (by omega),List.take_of_length_le (by omega),rdL_chunk d off a mm hl h,zB6,List.append_assoc]
 congr 2
 rw [List.drop_append,fB,List.drop_eq_nil_of_le (by omega),List.nil_append,List.drop_replicate]
 congr 1
 omega
theorem zSecV (w:World):(zeroValue 187).run Tryz.prog w=.ok (zB8 zBN) w:=by kernel_rfl
theorem zG7 (w:World) (o m l:Nat) (L:Int) (h:L=(l:Int)) (hl:l<m):(Instr.sliceAt 64 (.slice (some ⟨o,0,none⟩) m m) (some (.int .i64 L)) none none).run Tryz.prog w=.ok (.slice (some ⟨o,l,none⟩) (m-l) (m-l)) w:=by
 subst h
 have hu:Tryz.prog.underlying 64=some (.slice (Tryz.prog.elem 64)):=by kernel_rfl
 have hs:(sizeOf (Tryz.prog.elem 64)).run Tryz.prog w=.ok 1 w:=by kernel_rfl
 rw [run_sliceAt_slice w 64 _ _ _ _ hu,run_slice_l w 64 (some ⟨o,0,none⟩) m m hu .i64 l (by omega) (by omega),hs]
 have fA:¬m=l:=by omega
 simp [Result.andThen,sliced,fA,Addr.add_lit]
theorem zHb (a:NA) (n:PN) (db:Nat) (off most:Int) (w:World) (h:PnAt w a n) (hn:n.Ok) (gP:a.d=some db) (jF:off≤9223372036854775807∧-9223372036854775808≤off) (gQ:most≤9223372036854775807∧-9223372036854775808≤most) :
 Calls Tryz.prog 108 #[zCq a.nb,.int .i64 off,.int .i64 most] w fun e w'=>(∃ v,e=.returned v∧zBO w' v (n.read off most))∧Below w.heap.size w w':=by
 have fY:Below w.heap.size w (w.alloc (.cells zAs.toArray 67)):=(Below.refl _ _).alloc (Nat.le_refl _) _;have fE:=Blk.new w 67 zAs;have fI:PnAt (w.alloc (.cells zAs.toArray 67)) a n:=h.chg (Chg.of_fresh (S:=fun _=>False) fY) id (fun _ _ h=>h) (fun _ _ h=>h) (fun _ _ h=>h);have hu:=PN.read.eq_1 n off most;have jG:=hn.size;unfold zCq;clear h;go_enter Tryz.func108,Tryz.ntmps108;go_upto_region 1 with (fail)
 replace fE:Blk (w.alloc (.cells zAs.toArray 67)) w.heap.size 67 zAs:=fE
 have fZ:(w.alloc (.cells zAs.toArray 67)).heap.size=w.heap.size+1:=by simp
 generalize w.alloc (.cells zAs.toArray 67)=w0 at *;generalize gR:w.heap.size=g at *;have gA:=hid gR;have gB:=hid fY;have c2:=fI.c2;clear gR fY;by_cases fC:off<0∨most<0∨131072<most
 · rw [if_pos fC] at hu;have fJ:=hid hu;clear hu;by_cases h1:off<0
   case' pos=>have t1:decide (off<0)=true:=by simpa using h1
   case' neg =>
    have t1:decide (off<0)=false:=by simpa using h1
    by_cases h2:most<0
    case' pos=>have t2:decide (most<0)=true:=by simpa using h2
    case' neg =>
     have t2:decide (most<0)=false:=by simpa using h2
     have t3:decide (131072<most)=true:=by simp;omega
   all_goals
    clear fC;go_wp2_with (first | (refine wpList_store_row rfl 67 (.tmp 6) (.tmp 22) rfl g (zAh 101 st0 zAg zAg).toArray rfl (by rfl) 67 _ fE rfl rfl (zBj _ _) ?_));have fA:=setRow_heap w0 g _ (zAh 101 st0 zAg zAg).toArray _ _ fE;refine bodyPost_ret (results_cell_row rfl _ _ g 67 (zAh 101 st0 zAg zAg).toArray (0,0) _ rfl fA Tryz.underlying67 rfl rfl) rfl ⟨⟨_,rfl,?_⟩,?_⟩
    · rw [fJ.out];exact zBy _ (.err 101) rfl rfl
    · rw [gA.out];exact gB.out.trans (((Chg.refl (fun b=>b=g) w0).setRow (fun _=>rfl) _).below (by omega) fun b hb e=>by omega)
 · rw [if_neg fC] at hu
   have t1:decide (off<0)=false:=by simp;omega
   have t2:decide (most<0)=false:=by simp;omega
   have t3:decide (131072<most)=false:=by simp;omega
   have gS:most≤131072:=by omega
   obtain⟨of,rfl⟩:∃ of:Nat,off=(of:Int):=⟨off.toNat,by omega⟩;obtain⟨mo,rfl⟩:∃ mo:Nat,most=(mo:Int):=⟨most.toNat,by omega⟩;clear fC;by_cases fD:(n.size:Int)≤(of:Int)
   · rw [if_pos fD] at hu;have fJ:=hid hu
     have t4:decide (n.size≤of)=true:=by simp;omega
     clear hu fD;go_wp2_with (first | (refine wpList_store_row rfl 67 (.tmp 6) (.tmp 29) rfl g (zAh 0 st0 zAg zAg).toArray rfl (by rfl) 67 _ fE rfl rfl (zBj _ _) ?_));have fA:=setRow_heap w0 g _ (zAh 0 st0 zAg zAg).toArray _ _ fE;refine bodyPost_ret (results_cell_row rfl _ _ g 67 (zAh 0 st0 zAg zAg).toArray (0,0) _ rfl fA Tryz.underlying67 rfl rfl) rfl ⟨⟨_,rfl,?_⟩,?_⟩
     · rw [fJ.out];exact zBy _ ⟨0,st0,[],[]⟩ rfl rfl
     · rw [gA.out];exact gB.out.trans (((Chg.refl (fun b=>b=g) w0).setRow (fun _=>rfl) _).below (by omega) fun b hb e=>by omega)
   · rw [if_neg fD] at hu
     have t4:decide (n.size≤of)=false:=by simp;omega
     simp only [Int.toNat_natCast] at hu;obtain⟨m,hm⟩:∃ m,min mo (n.size-of)=m:=⟨_,rfl⟩;rw [hm] at hu;have fJ:=hid hu
     have jH:min (mo:Int) ((n.size:Int)-of)=(m:Int):=by omega
     have jI:m≤131072:=by omega
     have jJ:of+m≤136704:=by omega
     have jX:=hid hm;obtain⟨i0,hi,jK,jL,jM⟩:=info_parts zCV;clear hu fD hm
     go_upto_region 6 with (first
      | (at_make;refine wpList_make_full _ rfl (.tmp 37) (.tmp 37) _ rfl (g+1) 5 i0 _ 1 Tryz.underlying64 hi jK jL .i64 .i64 (m:Int) (m:Int) m rfl rfl rfl rfl (by rw [jM];omega) (by unfold maxLen;omega) (by omega) ?_;intro w1 gT gU;have gC:Blk w1 w0.heap.size 5 (List.replicate m (.int .u8 0)):=(by (have h9:=zIf gT;rw [zBU _ rfl] at h9;exact h9))))
     have gV:Below (g+1) w0 w1:=((Chg.refl (fun _=>False) w0).grown gU (by intro g' e;simp at e)).below (by omega) fun _ _ e=>e;rw [fZ] at gC
     have fK:Blk w1 (g+1) 5 (bvs (rdL n.data of 0)++List.replicate (m-0) (.int .u8 0)):=by simpa [rdL,bvs] using gC
     have fL:=hid fK;have fM:=hid gV;have fF:=fI.data;rw [gP] at fF;have fB:zAy w0 zAG zB8 3 db n.data:=fF;have jN:=fB.lt;have fN:=hid fB;have c4:=fI.c4;rw [gP] at c4;have gD:=fI.blk.lt;have jO:=hid hn;clear gT gU gC fK gV fF fB fI c2 hn jG;go_wp2_with (fail)
     go_loopw [8,9,10,11] (fun i _ _ _ wr=>∃ ix:Nat,ix≤m∧i=.int .i64 ix∧Hid (Blk wr (g+1) 5 (bvs (rdL n.data of ix)++List.replicate (m-ix) (.int .u8 0)))∧Hid (Below (g+1) w0 wr)) (fun i _ _ _ _=>m-(intOf i).toNat)
     case atStart=>exact⟨0,by omega,rfl,fL,fM⟩
     case round =>
      obtain⟨ix,jY,rfl,fO,fG⟩:=hrel;clear fL fM;have x4:wr.cell? ⟨a.nb,4,none⟩=some (.map (some db)):=((Chg.of_below fG.out).cell (p:=⟨a.nb,4,none⟩) gD (by simp;omega)).trans c4;by_cases gE:ix<m
      · have t5:decide ((ix:Int)<(m:Int))=true:=by simpa using gE
        obtain⟨k,gW⟩:∃ k,(of+ix) / 128=k:=⟨_,rfl⟩;obtain⟨fr,gX⟩:∃ fr,(of+ix) % 128=fr:=⟨_,rfl⟩
        have hq:((of:Int)+ix) / 128=(k:Int):=by omega
        have hr:((of:Int)+ix) % 128=(fr:Int):=by omega
        have hk:k≤1067:=by omega
        have jP:fr<128:=by omega
        have fH:=hid gE;have gY:=hid gW;have gZ:=hid gX;have jA:=hid (fN.out.chg (Chg.of_below fG.out) (by omega));have fP:(zA5 n.data k).length=128:=blkOf_len jO.out k;obtain⟨bk,fW⟩:∃ bk,zA5 n.data k=bk:=⟨_,rfl⟩;rw [fW] at fP
        have hv:orV zB8 (zB8 zBN) (zAd k n.data)=.agg (bvs bk).toArray:=by rw [←fW];unfold zA5;cases zAd k n.data<;>rfl
        have fQ:=hid fW;have gF:Blk (wr.alloc (.cells Tryz.zeroCells187 187)) wr.heap.size 187 (bvs zBN):=zBh rfl;clear gE gW gX fW;go_upto_region 9 with (fail);rw [hq,hr];clear hq hr
        go_upto_region 10 with (first
         | (at_lookup;refine zEb _ rfl (.tmp 54) (.tmp 55) 107 rfl zDW Tryz.underlying107 (zSecV _) jA.out rfl k rfl (zHv k (by omega)) _ hv ?_)
         | (refine wpList_store_row rfl 187 (.tmp 11) (.tmp 56) rfl wr.heap.size (bvs bk).toArray rfl (by rfl) 187 _ gF (zAE fP) (by rw [List.size_toArray,List.size_toArray,zAe,zAe,zAt,fP]) (zBc bk) ?_))
        have jQ:Blk ((wr.alloc (.cells Tryz.zeroCells187 187)).setRow wr.heap.size (bvs bk).toArray) wr.heap.size 187 (bvs bk):=setRow_heap _ _ _ _ _ _ gF;have gG:Chg (fun b=>wr.heap.size≤b) wr ((wr.alloc (.cells Tryz.zeroCells187 187)).setRow wr.heap.size (bvs bk).toArray):=((Chg.refl _ wr).alloc _).setRow (fun _=>Nat.le_refl _) _;have jZ:g+1<wr.heap.size:=fO.out.lt;have jR:=hid (fO.out.chg gG (by omega));have fR:=hid (fG.out.trans (gG.below (B:=g+1) (by omega) fun b hb h=>by omega));clear gF gG fO fG jA x4;generalize (wr.alloc (.cells Tryz.zeroCells187 187)).setRow wr.heap.size (bvs bk).toArray=w3 at *;generalize wr.heap.size=z at *;obtain⟨mm,jB⟩:∃ mm,min (128-fr) (m-ix)=mm:=⟨_,rfl⟩
        have gH:fr+mm≤128:=by omega
        have fS:ix+mm≤m:=by have:=fH.out;omega
        have jS:0<mm:=by have:=fH.out;omega
        have fX:(bvs ((bk.drop fr).take mm)).length=mm:=by rw [zAe,List.length_take,List.length_drop,fP];omega
        obtain⟨cs,fT⟩:∃ cs,bvs ((bk.drop fr).take mm)=cs:=⟨_,rfl⟩;rw [fT] at fX;have gI:Blk w3.drew z 187 (bvs bk):=jQ;have gJ:Blk w3.drew (g+1) 5 (bvs (rdL n.data of ix)++List.replicate (m-ix) (.int .u8 0)):=jR.out
        have gK:∀ (j:Nat) (v:Value),cs[j]? = some v→w3.drew.cell? ((⟨z,fr,none⟩:Addr).add j)=some v:=by
         intro j v hj;rw [Addr.add_lit,gI.cell,←hj,←fT]
         have jT:j<mm:=by have:=(List.getElem?_eq_some_iff.1 hj).1;omega
         simp only [bvs,List.getElem?_map,List.getElem?_take,List.getElem?_drop,if_pos jT]
        have gL:∀ v∈cs,v.oneCell'=true:=by rw [←fT];exact zCG _
        have fU:splice (bvs (rdL n.data of ix)++List.replicate (m-ix) (Value.int .u8 0)) ix cs=bvs (rdL n.data of (ix+mm))++List.replicate (m-(ix+mm)) (Value.int .u8 0):=by
         have:=zGQ n.data of m ix mm fS (by rw [gY.out,fQ.out];exact fP) (by rw [gZ.out];exact gH);rw [gY.out,gZ.out,fQ.out,fT] at this;exact this
        have gM:ix+cs.length≤(bvs (rdL n.data of ix)++List.replicate (m-ix) (Value.int .u8 0)).length:=by rw [fX,List.length_append,zAe,zAD,List.length_replicate];omega
        have fV:=hid fU;have kA:∀ W:World,(Instr.sliceAt 64 (.slice (some ⟨g+1,0,none⟩) m m) (some (.int .i64 (ix:Int))) none none).run Tryz.prog W=.ok (.slice (some ⟨g+1,ix,none⟩) (m-ix) (m-ix)) W:=fun W=>zG7 W _ _ _ _ rfl fH.out;have kC:∀ W:World,(Instr.sliceAt 187 (.pointer (some ⟨z,0,none⟩)) (some (.int .i64 (fr:Int))) none none).run Tryz.prog W=.ok (.slice (some ⟨z,fr,none⟩) (128-fr) (128-fr)) W:=fun W=>zEG W _ _ _ rfl jP;have jU:=hid (show cs.length=Nat.min (128-fr) (m-ix) by rw [fX];exact jB.symm)
        have kD:IntKind.i64.wrap ((ix:Int)+(mm:Int))=((ix+mm:Nat):Int):=by rw [IntWalk.i64_in _ (by omega)];omega
        clear fU jB fT
        have jV:(Tryz.prog.info? 5).map (·.size)=some 1:=by kernel_rfl
        go_region_law (refine step_copy_splice rfl (.tmp 60) (.tmp 62) 64 64 rfl 5 Tryz.underlying64 jV _ _ (m-ix) (m-ix) (128-fr) (128-fr) rfl rfl (g+1) ix _ 5 gJ cs jU.out (fun _=>⟨rfl,_,rfl,gK⟩) gM gL (g+1) w0 ⟨fR.out.os,fR.out.tape,fR.out.output,fR.out.size,fR.out.block⟩ (Nat.le_refl _) ?_;intro w5 HG5 jC;have jW:Hid (Blk w5 (g+1) 5 (bvs (rdL n.data of (ix+mm))++List.replicate (m-(ix+mm)) (.int .u8 0))):=(by (have h9:=HG5.out;rw [fV.out] at h9;exact h9));have gN:=hid jC;rw [fX];clear HG5 jC)
        simp only [List.getElem_toArray,List.getElem_cons_succ,List.getElem_cons_zero]
        go_frame
        refine⟨?_,?measure⟩
        · repeat apply Exists.intro
          refine⟨?_,rfl⟩;exact⟨ix+mm,fS,by go_num,jW,gN⟩
        case measure =>
         simp [intOf]
         omega
      · obtain rfl:ix=m:=by omega
        have t5:decide ((ix:Int)<(ix:Int))=false:=by simp
        have gO:=hid (show Blk wr (g+1) 5 (bvs (rdL n.data of ix)) by simpa using fO.out);have jD:=fE.below fG.out (by omega);clear fO;go_wp2_with (first | (refine wpList_store_row rfl 67 (.tmp 6) (.tmp 66) rfl g (zAh 0 st0 (.slice (some ⟨g+1,0,none⟩) ix ix) zAg).toArray rfl (by rfl) 67 _ jD rfl rfl (zAv 0 st0 _ _ _ none 0 0) ?_));have fA:=setRow_heap wr g _ (zAh 0 st0 (.slice (some ⟨g+1,0,none⟩) ix ix) zAg).toArray _ _ jD;refine bodyPost_ret (results_cell_row rfl _ _ g 67 (zAh 0 st0 (.slice (some ⟨g+1,0,none⟩) ix ix) zAg).toArray (0,0) _ rfl fA Tryz.underlying67 rfl rfl) rfl ⟨⟨_,rfl,?_⟩,?_⟩
        · rw [fJ.out];have jE:=gO.out.chg ((Chg.refl (fun b=>b=g) wr).setRow (fun _=>rfl) (zAh 0 st0 (.slice (some ⟨g+1,0,none⟩) ix ix) zAg).toArray) (by omega);refine⟨some ⟨g+1,0,none⟩,ix,none,0,?_,?_,?_⟩
          · rw [zAD];rfl
          · rw [zAD];exact⟨by rw [zAe,zAD,Nat.mul_one],fun _=>⟨g+1,0,rfl,jE.lt,fun j u hu=>by rw [Nat.zero_add,jE.cell];exact hu⟩⟩
          · exact Sees.nil
        · rw [gA.out];exact (gB.out.trans (fG.out.mono (by omega))).trans (((Chg.refl (fun b=>b=g) wr).setRow (fun _=>rfl) _).below (by have:=fG.out.size;omega) fun b hb e=>by omega)
abbrev Dat:=List (Nat×List UInt8)
def wr1 (d:Dat) (q:Nat) (b:UInt8):Dat:=zBa zAG (q / 128) ((zA5 d (q / 128)).set (q % 128) b) d
def wrB (d:Dat) (q:Nat):List UInt8→Dat
 | []=>d
 | b::bs=>wrB (wr1 d q b) (q+1) bs
theorem zFx (d:Dat) (q:Nat) (xs ys:List UInt8):wrB d q (xs++ys)=wrB (wrB d q xs) (q+xs.length) ys:=by
 induction xs generalizing d q with
 | nil=>rfl
 | cons x xs ih=>simp only [List.cons_append,wrB,ih,List.length_cons];congr 1;omega
theorem zGL (d:Dat) (k:Nat) (s:List UInt8):zA5 (zBa zAG k s d) k=s:=by simp [zA5,zAu]
theorem zEL (d:Dat) {k j:Nat} (h:j≠k) (s:List UInt8):zA5 (zBa zAG k s d) j=zA5 d j:=by simp [zA5,zAl zAG s h]
theorem zH4 (s cs:List UInt8) (fr:Nat) (b:UInt8) (h:fr+cs.length<s.length):(splice s fr cs).set (fr+cs.length) b=splice s fr (cs++[b]):=by
 unfold splice
 apply List.ext_getElem
 · simp;omega
 · intro i h1 h2;rw [List.getElem_set];simp only [List.getElem_append,List.length_take,List.length_append,List.length_cons,List.length_nil,List.getElem_take,List.getElem_drop,List.getElem_cons];simp only [List.length_set,List.length_append,List.length_take,List.length_drop] at h1
   have hm:min fr s.length=fr:=by omega
   simp only [hm]
   split
   · rename_i e;subst e;rw [dif_neg (by omega),dif_pos (by omega),dif_neg (by omega)];simp
   · rename_i e;by_cases a1:i<fr
     · rw [dif_pos a1,dif_pos a1]
     · rw [dif_neg a1,dif_neg a1];by_cases a2:i-fr<cs.length
       · rw [dif_pos a2,dif_pos (by omega),dif_pos a2]
       · rw [dif_neg a2,dif_neg (by omega)]
         congr 1
         omega
theorem wrB_chunk (d:Dat) (q:Nat) (cs:List UInt8) (h0:0<cs.length) (hl:(zA5 d (q / 128)).length=128) (h:q % 128+cs.length≤128) :
 wrB d q cs=zBa zAG (q / 128) (splice (zA5 d (q / 128)) (q % 128) cs) d:=by
 obtain⟨xs,b,rfl⟩:∃ xs b,cs=xs++[b]:=⟨cs.dropLast,cs.getLast (List.ne_nil_of_length_pos h0),(List.dropLast_concat_getLast _).symm⟩;clear h0
 induction hn:xs.length generalizing xs b with
 | zero =>
  obtain rfl:=List.eq_nil_of_length_eq_zero hn;simp only [List.nil_append,wrB,wr1]
  congr 1
  unfold splice;rw [List.set_eq_take_append_cons_drop,if_pos (by simp at h;omega)];simp
 | succ n ih =>
  obtain⟨ys,c,rfl⟩:∃ ys c,xs=ys++[c]:=⟨xs.dropLast,xs.getLast (List.ne_nil_of_length_pos (by omega)),(List.dropLast_concat_getLast _).symm⟩;simp only [List.length_append,List.length_cons,List.length_nil] at h hn;rw [zFx,ih ys c (by simp;omega) (by omega)]
  have e1:(q+(ys++[c]).length) / 128=q / 128:=by simp;omega
  have e2:(q+(ys++[c]).length) % 128=q % 128+(ys++[c]).length:=by simp;omega
  simp only [wrB,wr1,e1,e2];rw [zGL,putS_put,zH4 _ _ _ _ (by simp;omega)]
theorem zI8 (d:Dat) (off:Nat) (ds:List UInt8) (a mm:Nat) (h:a+mm≤ds.length) (h0:0<mm) (hl:(zA5 (wrB d off (ds.take a)) ((off+a) / 128)).length=128) (hf:(off+a) % 128+mm≤128) :
 wrB d off (ds.take (a+mm))=zBa zAG ((off+a) / 128) (splice (zA5 (wrB d off (ds.take a)) ((off+a) / 128)) ((off+a) % 128) ((ds.drop a).take mm)) (wrB d off (ds.take a)):=by
 rw [List.take_add,zFx]
 have e:(ds.take a).length=a:=by rw [List.length_take];omega
 have e2:((ds.drop a).take mm).length=mm:=by rw [List.length_take,List.length_drop];omega
 rw [e,wrB_chunk _ _ _ (by omega) hl (by omega)]
structure DOk (d:Dat):Prop where
 keys:∀ p∈d,p.1≤1067
 dlen:d.length≤1068
 secs:∀ p∈d,p.2.length=128
 ris:zBs zAG d
theorem DOk.blk {d:Dat} (h:DOk d) (k:Nat):(zA5 d k).length=128:=by
 unfold zA5
 cases hg:zAd k d with
 | none=>exact zAt
 | some s=>exact h.secs _ (zAi hg)
theorem ris_len:∀ (l:Dat) (m:Nat),zBs zAG l→(∀ p∈l,m≤p.1∧p.1≤1067)→l.length≤1068-m
 | [],_,_,_=>by simp
 | p::l,m,hr,hk=>by
  have h1:=hk p (by simp);have fA:=List.pairwise_cons.1 hr;have:=ris_len l (p.1+1) fA.2 fun q hq=>⟨by have:=fA.1 q hq;simp [zAG] at this;omega,(hk q (List.mem_cons_of_mem _ hq)).2⟩;simp only [List.length_cons];omega
theorem DOk.put {d:Dat} (h:DOk d) {k:Nat} (hk:k≤1067) {s:List UInt8} (hs:s.length=128):DOk (zBa zAG k s d):=by
 have hr:zBs zAG (zBa zAG k s d):=h.ris.put zAG zCj k s
 have fA:∀ p∈zBa zAG k s d,p.1≤1067:=fun p hp=>by
  rcases (zBm zAG).1 hp with rfl | hp
  · exact hk
  · exact h.keys p hp.1
 refine⟨fA,?_,fun p hp=>?_,hr⟩
 · have:=ris_len _ 0 hr fun p hp=>⟨Nat.zero_le _,fA p hp⟩;omega
 · rcases (zBm zAG).1 hp with rfl | hp
   · exact hs
   · exact h.secs p hp.1
theorem DOk.wr1 {d:Dat} (h:DOk d) {q:Nat} (hq:q<136704) (b:UInt8):DOk (wr1 d q b):=h.put (by omega) (by rw [List.length_set];exact h.blk _)
theorem DOk.wrB {d:Dat} (h:DOk d):∀ {q:Nat} {bs:List UInt8},q+bs.length≤136704→DOk (wrB d q bs):=by
 intro q bs
 induction bs generalizing d q with
 | nil=>intro _;exact h
 | cons b bs ih =>
  intro hq;simp only [List.length_cons] at hq;exact ih (h.wr1 (by omega) b) (by omega)
theorem PN.Ok.dOk {n:PN} (h:n.Ok):DOk n.data:=⟨h.keys,h.dlen,h.secs,h.dris⟩
theorem zJl {d:Dat} (h:DOk d) (q:Nat) (b:UInt8) (x:Nat):zCP (Go.Proofs.YtolpcfhfcdkokaaGreatDoor.wr1 d q b) x=if x=q then b else zCP d x:=by
 unfold zCP Go.Proofs.YtolpcfhfcdkokaaGreatDoor.wr1;by_cases hk:x / 128=q / 128
 · rw [hk,zGL];have hl:=h.blk (q / 128);by_cases e:x=q
   · subst e;rw [if_pos rfl,List.getD_eq_getElem?_getD,List.getElem?_set_self (by omega)];rfl
   · rw [if_neg e,List.getD_eq_getElem?_getD,List.getElem?_set_ne (by omega),←List.getD_eq_getElem?_getD]
 · rw [zEL _ hk,if_neg (fun e=>hk (by rw [e]))]
theorem zJ1 {d:Dat} (h:DOk d) (x:Nat):∀ (q:Nat) (bs:List UInt8),q+bs.length≤136704→zCP (Go.Proofs.YtolpcfhfcdkokaaGreatDoor.wrB d q bs) x=if h:q≤x∧x<q+bs.length then bs[x-q]'(by omega) else zCP d x:=by
 intro q bs
 induction bs generalizing d q with
 | nil=>intro _;rw [dif_neg (by simp)];rfl
 | cons b bs ih =>
  intro hq;simp only [List.length_cons] at hq
  show zCP (Go.Proofs.YtolpcfhfcdkokaaGreatDoor.wrB (Go.Proofs.YtolpcfhfcdkokaaGreatDoor.wr1 d q b) (q+1) bs) x=_
  rw [ih (h.wr1 (by omega) b) (q+1) (by omega),zJl h];simp only [List.length_cons];by_cases h1:q+1≤x∧x<q+1+bs.length
  · rw [dif_pos h1,dif_pos (by omega)]
    have e:x-q=(x-(q+1))+1:=by omega
    simp only [e,List.getElem_cons_succ]
  · rw [dif_neg h1];by_cases h2:x=q
    · subst h2;rw [if_pos rfl,dif_pos (by omega)];simp
    · rw [if_neg h2,dif_neg (by omega)]
def PN.wrote (n:PN) (off:Nat) (ds:List UInt8):PN:={n with data:=Go.Proofs.YtolpcfhfcdkokaaGreatDoor.wrB n.data off ds,size:=if ds.length=0 then n.size else max n.size (off+ds.length)}
def PT.write (T:PT) (i:Nat) (off:Int) (ds:List UInt8):PT×Nat :=
 if off<0∨131072<ds.length∨136704<off+ds.length then (T,101) else
 let n:=T.node i
 let n':=n.wrote off.toNat ds
 if (n'.count:Int)-n.count≤(T.sectors:Int)-1-T.inodes-T.used then (T.upd i n',0) else (T,80)
end Go.Proofs.YtolpcfhfcdkokaaGreatDoor
