/- Joined out of PRead..QOps. -/
import Derived.IntWalk
import Derived.Test.YtolpcfhfcdkokaaGreatDoorR06
set_option maxHeartbeats 16000000
set_option maxRecDepth 100000
set_option linter.unusedSimpArgs false
set_option linter.unusedVariables false
namespace Go.Proofs.YtolpcfhfcdkokaaGreatDoor
open Lib (hid)
open List renaming range → Aa,ext_getElem → Ab,length_append → Ac,length_take → Ad,length_drop → Ae,getElem_take → Af,getD_eq_getElem?_getD → Ag,replicate → Ah,nil_append → Ai,size_toArray → Aj,getElem_cons_succ → Ak,length_cons → Al,length_nil → Am,length_set → An,pairwise_cons → Ao,mem_cons_of_mem → Ap,any_eq_true → Aq,getLastD_eq_getLast? → Ar,getLast?_eq_some_getLast → As,getLast_mem → At,mem_map → Au
open Value renaming int → Av
open Proofs.Tryz renaming prog → Aw,underlying67 → Ax,underlying64 → Ay,zeroCells187 → Az
open Go renaming wpList_store_row → AA,setRow_heap → AB,bodyPost_ret → AC,results_cell_row → AD
open Chg renaming refl → AE
open PN renaming count → AF,keys → AG
open Option.some renaming inj → AH
open Go.RowKit Go.Proofs
open Go.Maps (Keyed)
def zA4 (d:List (Nat×List UInt8)) (k:Nat):List UInt8:=(zAe k d).getD zBD
def zCO (d:List (Nat×List UInt8)) (q:Nat):UInt8:=(zA4 d (q / 128)).getD (q % 128) 0
def rdL (d:List (Nat×List UInt8)) (off m:Nat):List UInt8:=(Aa m).map fun j=>zCO d (off+j)
def PN.read (n:PN) (off most:Int):Ans :=
 if off<0∨most<0∨131072<most then .err 101 else if (n.size:Int)≤off then ⟨0,st0,[],[]⟩ else ⟨0,st0,rdL n.data off.toNat (min most.toNat (n.size-off.toNat)),[]⟩
theorem zAE (d:List (Nat×List UInt8)) (off m:Nat):(rdL d off m).length=m:=by simp [rdL]
theorem blkOf_len {n:PN} (hn:n.Ok) (k:Nat):(zA4 n.data k).length=128:=by
 unfold zA4
 cases hg:zAe k n.data with
 | none=>exact zAs
 | some s=>exact hn.secs _ (zAf hg)
theorem rdL_chunk (d:List (Nat×List UInt8)) (off a mm:Nat) (hl:(zA4 d ((off+a) / 128)).length=128) (h:(off+a) % 128+mm≤128) :
 rdL d off (a+mm)=rdL d off a++((zA4 d ((off+a) / 128)).drop ((off+a) % 128)).take mm:=by
 apply Ab
 · rw [Ac,Ad,Ae,zAE,zAE,hl];omega
 · intro i h1 h2;rw [zAE] at h1;by_cases hi:i<a
   · rw [List.getElem_append_left (by rw [zAE];exact hi)];simp [rdL]
   · rw [List.getElem_append_right (by rw [zAE];omega)];simp only [rdL,List.getElem_map,List.getElem_range,Af,List.getElem_drop,List.length_map,List.length_range];unfold zCO
     have e1:(off+i) / 128=(off+a) / 128:=by omega
     have e2:(off+i) % 128=(off+a) % 128+(i-a):=by omega
     rw [e1,e2,Ag,List.getElem?_eq_getElem (by rw [hl];omega)];rfl
theorem zG9 (d:List (Nat×List UInt8)) (off m a mm:Nat) (fC:a+mm≤m) (hl:(zA4 d ((off+a) / 128)).length=128) (h:(off+a) % 128+mm≤128) :
 splice (bvs (rdL d off a)++Ah (m-a) (Av .u8 0)) a (bvs (((zA4 d ((off+a) / 128)).drop ((off+a) % 128)).take mm))=bvs (rdL d off (a+mm))++Ah (m-(a+mm)) (Av .u8 0):=by
 have fA:(bvs (((zA4 d ((off+a) / 128)).drop ((off+a) % 128)).take mm)).length=mm:=by rw [zAc,Ad,Ae,hl];omega
 have fB:(bvs (rdL d off a)).length=a:=by rw [zAc,zAE]
 unfold splice;rw [fA,List.take_append_of_le_length (by omega),List.take_of_length_le (by omega),rdL_chunk d off a mm hl h,zBZ,List.append_assoc]
 congr 2
 rw [List.drop_append,fB,List.drop_eq_nil_of_le (by omega),Ai,List.drop_replicate]
 congr 1
 omega
theorem zSecV (w:World):(zeroValue 187).run Aw w=.ok (zB6 zBD) w:=by kernel_rfl
theorem zGY (w:World) (o m l:Nat) (L:Int) (h:L=(l:Int)) (hl:l<m):(Instr.sliceAt 64 (.slice (some ⟨o,0,none⟩) m m) (some (.int .i64 L)) none none).run Aw w=.ok (.slice (some ⟨o,l,none⟩) (m-l) (m-l)) w:=by
 subst h
 have hu:Tryz.prog.underlying 64=some (.slice (Tryz.prog.elem 64)):=by kernel_rfl
 have hs:(sizeOf (Tryz.prog.elem 64)).run Aw w=.ok 1 w:=by kernel_rfl
 rw [run_sliceAt_slice w 64 _ _ _ _ hu,run_slice_l w 64 (some ⟨o,0,none⟩) m m hu .i64 l (by omega) (by omega),hs]
 have fA:¬m=l:=by omega
 simp [Result.andThen,sliced,fA,Addr.add_lit]
theorem zHG (a:NA) (n:PN) (db:Nat) (off most:Int) (w:World) (h:PnAt w a n) (hn:n.Ok) (gP:a.d=some db) (jF:off≤9223372036854775807∧-9223372036854775808≤off) (gQ:most≤9223372036854775807∧-9223372036854775808≤most) :
 Calls Aw 108 #[zCq a.nb,.int .i64 off,.int .i64 most] w fun e w'=>(∃ v,e=.returned v∧zBJ w' v (n.read off most))∧Below w.heap.size w w':=by
 have fY:Below w.heap.size w (w.alloc (.cells zAk.toArray 67)):=br.alloc nr _;have fE:=Blk.new w 67 zAk;have fI:PnAt (w.alloc (.cells zAk.toArray 67)) a n:=h.chg (Chg.of_fresh (S:=fun _=>False) fY) id (fun _ _ h=>h) (fun _ _ h=>h) (fun _ _ h=>h);have hu:=PN.read.eq_1 n off most;have jG:=hn.size;unfold zCq;clear h;go_enter Tryz.func108,Tryz.ntmps108;go_upto_region 1 with (fail)
 replace fE:Blk (w.alloc (.cells zAk.toArray 67)) w.heap.size 67 zAk:=fE
 have fZ:(w.alloc (.cells zAk.toArray 67)).heap.size=w.heap.size+1:=by simp
 generalize w.alloc (.cells zAk.toArray 67)=w0 at *;generalize gR:w.heap.size=g at *;have gA:=hid gR;have gB:=hid fY;have c2:=fI.c2;clear gR fY;by_cases fC:off<0∨most<0∨131072<most
 · rw [if_pos fC] at hu;have fJ:=hid hu;clear hu;by_cases h1:off<0
   case' pos=>have t1:decide (off<0)=true:=by simpa using h1
   case' neg =>
    have t1:decide (off<0)=false:=by simpa using h1
    by_cases h2:most<0
    case' pos=>have t2:decide (most<0)=true:=by simpa using h2
    case' neg =>
     have t2:decide (most<0)=false:=by simpa using h2
     have t3:decide (131072<most)=true:=by simp;omega
   all_goals
    clear fC;go_wp2_with (first | (refine AA rfl 67 (.tmp 6) (.tmp 22) rfl g (zAq 101 st0 zAj zAj).toArray rfl (by rfl) 67 _ fE rfl rfl (zE6 _ _) ?_));have fA:=AB w0 g _ (zAq 101 st0 zAj zAj).toArray _ _ fE;refine AC (AD rfl _ _ g 67 (zAq 101 st0 zAj zAj).toArray (0,0) _ rfl fA Ax rfl rfl) rfl ⟨⟨_,rfl,?_⟩,?_⟩
    · rw [fJ.o];exact zBv _ (.err 101) rfl rfl
    · rw [gA.o];exact gB.o.trans (((AE (fun b=>b=g) w0).setRow (fun _=>rfl) _).below (by omega) fun b hb e=>by omega)
 · rw [if_neg fC] at hu
   have t1:decide (off<0)=false:=by simp;omega
   have t2:decide (most<0)=false:=by simp;omega
   have t3:decide (131072<most)=false:=by simp;omega
   have gS:most≤131072:=by omega
   obtain⟨of,rfl⟩:∃ of:Nat,off=(of:Int):=⟨off.toNat,by omega⟩;obtain⟨mo,rfl⟩:∃ mo:Nat,most=(mo:Int):=⟨most.toNat,by omega⟩;clear fC;by_cases fD:(n.size:Int)≤(of:Int)
   · rw [if_pos fD] at hu;have fJ:=hid hu
     have t4:decide (n.size≤of)=true:=by simp;omega
     clear hu fD;go_wp2_with (first | (refine AA rfl 67 (.tmp 6) (.tmp 29) rfl g (zAq 0 st0 zAj zAj).toArray rfl (by rfl) 67 _ fE rfl rfl (zE6 _ _) ?_));have fA:=AB w0 g _ (zAq 0 st0 zAj zAj).toArray _ _ fE;refine AC (AD rfl _ _ g 67 (zAq 0 st0 zAj zAj).toArray (0,0) _ rfl fA Ax rfl rfl) rfl ⟨⟨_,rfl,?_⟩,?_⟩
     · rw [fJ.o];exact zBv _ ⟨0,st0,[],[]⟩ rfl rfl
     · rw [gA.o];exact gB.o.trans (((AE (fun b=>b=g) w0).setRow (fun _=>rfl) _).below (by omega) fun b hb e=>by omega)
   · rw [if_neg fD] at hu
     have t4:decide (n.size≤of)=false:=by simp;omega
     simp only [Int.toNat_natCast] at hu;obtain⟨m,hm⟩:=nM (min mo (n.size-of));rw [hm] at hu;have fJ:=hid hu
     have jH:min (mo:Int) ((n.size:Int)-of)=(m:Int):=by omega
     have jI:m≤131072:=by omega
     have jJ:of+m≤136704:=by omega
     have jX:=hid hm;obtain⟨i0,hi,jK,jL,jM⟩:=info_parts zCP;clear hu fD hm
     go_upto_region 6 with (first
      | (at_make;refine wpList_make_full _ rfl (.tmp 37) (.tmp 37) _ rfl (g+1) 5 i0 _ 1 Ay hi jK jL .i64 .i64 (m:Int) (m:Int) m rfl rfl rfl rfl (by rw [jM];omega) (by unfold maxLen;omega) (by omega) ?_;intro w1 gT gU;have gC:Blk w1 w0.heap.size 5 (Ah m (.int .u8 0)):=(by (have h9:=zEI gT;rw [zBg _ rfl] at h9;exact h9))))
     have gV:Below (g+1) w0 w1:=((AE (fun _=>False) w0).grown gU (by intro g' e;simp at e)).below (by omega) fun _ _ e=>e;rw [fZ] at gC
     have fK:Blk w1 (g+1) 5 (bvs (rdL n.data of 0)++Ah (m-0) (.int .u8 0)):=by simpa [rdL,bvs] using gC
     have fL:=hid fK;have fM:=hid gV;have fF:=fI.data;rw [gP] at fF;have fB:zAt w0 zAG zB6 3 db n.data:=fF;have jN:=fB.lt;have fN:=hid fB;have c4:=fI.c4;rw [gP] at c4;have gD:=fI.blk.lt;have jO:=hid hn;clear gT gU gC fK gV fF fB fI c2 hn jG;go_wp2_with (fail)
     go_loopw [8,9,10,11] (fun i _ _ _ wr=>∃ ix:Nat,ix≤m∧i=.int .i64 ix∧Hid (Blk wr (g+1) 5 (bvs (rdL n.data of ix)++Ah (m-ix) (.int .u8 0)))∧Hid (Below (g+1) w0 wr)) (fun i _ _ _ _=>m-(intOf i).toNat)
     case atStart=>exact⟨0,by omega,rfl,fL,fM⟩
     case round =>
      obtain⟨ix,jY,rfl,fO,fG⟩:=hrel;clear fL fM;have x4:wr.cell? ⟨a.nb,4,none⟩=some (.map (some db)):=((Chg.of_below fG.o).cell (p:=⟨a.nb,4,none⟩) gD (by simp;omega)).trans c4;by_cases gE:ix<m
      · have t5:decide ((ix:Int)<(m:Int))=true:=by simpa using gE
        obtain⟨k,gW⟩:=nM ((of+ix) / 128);obtain⟨fr,gX⟩:=nM ((of+ix) % 128)
        have hq:((of:Int)+ix) / 128=(k:Int):=by omega
        have hr:((of:Int)+ix) % 128=(fr:Int):=by omega
        have hk:k≤1067:=by omega
        have jP:fr<128:=by omega
        have fH:=hid gE;have gY:=hid gW;have gZ:=hid gX;have jA:=hid (fN.o.chg (Chg.of_below fG.o) (by omega));have fP:(zA4 n.data k).length=128:=blkOf_len jO.o k;obtain⟨bk,fW⟩:=nM (zA4 n.data k);rw [fW] at fP
        have hv:orV zB6 (zB6 zBD) (zAe k n.data)=.agg (bvs bk).toArray:=by rw [←fW];unfold zA4;cases zAe k n.data<;>rfl
        have fQ:=hid fW;have gF:Blk (wr.alloc (.cells Az 187)) wr.heap.size 187 (bvs zBD):=zBf rfl;clear gE gW gX fW;go_upto_region 9 with (fail);rw [hq,hr];clear hq hr
        go_upto_region 10 with (first
         | (at_lookup;refine zEg _ rfl (.tmp 54) (.tmp 55) 107 rfl zD3 Tryz.underlying107 (zSecV _) jA.o rfl k rfl (zHW k (by omega)) _ hv ?_)
         | (refine AA rfl 187 (.tmp 11) (.tmp 56) rfl wr.heap.size (bvs bk).toArray rfl (by rfl) 187 _ gF (zAD fP) (by rw [Aj,Aj,zAc,zAc,zAs,fP]) (zBa bk) ?_))
        have jQ:Blk ((wr.alloc (.cells Az 187)).setRow wr.heap.size (bvs bk).toArray) wr.heap.size 187 (bvs bk):=AB _ _ _ _ _ _ gF;have gG:Chg (fun b=>wr.heap.size≤b) wr ((wr.alloc (.cells Az 187)).setRow wr.heap.size (bvs bk).toArray):=((AE _ wr).alloc _).setRow (fun _=>Nat.le_refl _) _;have jZ:g+1<wr.heap.size:=fO.o.lt;have jR:=hid (fO.o.chg gG (by omega));have fR:=hid (fG.o.trans (gG.below (B:=g+1) (by omega) fun b hb h=>by omega));clear gF gG fO fG jA x4;generalize (wr.alloc (.cells Az 187)).setRow wr.heap.size (bvs bk).toArray=w3 at *;generalize wr.heap.size=z at *;obtain⟨mm,jB⟩:=nM (min (128-fr) (m-ix))
        have gH:fr+mm≤128:=by omega
        have fS:ix+mm≤m:=by have:=fH.o;omega
        have jS:0<mm:=by have:=fH.o;omega
        have fX:(bvs ((bk.drop fr).take mm)).length=mm:=by rw [zAc,Ad,Ae,fP];omega
        obtain⟨cs,fT⟩:=nM (bvs ((bk.drop fr).take mm));rw [fT] at fX;have gI:Blk w3.drew z 187 (bvs bk):=jQ;have gJ:Blk w3.drew (g+1) 5 (bvs (rdL n.data of ix)++Ah (m-ix) (.int .u8 0)):=jR.o
        have gK:∀ (j:Nat) (v:Value),cs[j]? = some v→w3.drew.cell? ((⟨z,fr,none⟩:Addr).add j)=some v:=by
         intro j v hj;rw [Addr.add_lit,gI.cell,←hj,←fT]
         have jT:j<mm:=by have:=(List.getElem?_eq_some_iff.1 hj).1;omega
         simp only [bvs,List.getElem?_map,List.getElem?_take,List.getElem?_drop,if_pos jT]
        have gL:∀ v∈cs,v.oneCell'=true:=by rw [←fT];exact zB4 _
        have fU:splice (bvs (rdL n.data of ix)++Ah (m-ix) (Av .u8 0)) ix cs=bvs (rdL n.data of (ix+mm))++Ah (m-(ix+mm)) (Av .u8 0):=by
         have:=zG9 n.data of m ix mm fS (by rw [gY.o,fQ.o];exact fP) (by rw [gZ.o];exact gH);rw [gY.o,gZ.o,fQ.o,fT] at this;exact this
        have gM:ix+cs.length≤(bvs (rdL n.data of ix)++Ah (m-ix) (Av .u8 0)).length:=by rw [fX,Ac,zAc,zAE,List.length_replicate];omega
        have fV:=hid fU;have kA:∀ W:World,(Instr.sliceAt 64 (.slice (some ⟨g+1,0,none⟩) m m) (some (.int .i64 (ix:Int))) none none).run Aw W=.ok (.slice (some ⟨g+1,ix,none⟩) (m-ix) (m-ix)) W:=fun W=>zGY W _ _ _ _ rfl fH.o;have kC:∀ W:World,(Instr.sliceAt 187 (.pointer (some ⟨z,0,none⟩)) (some (.int .i64 (fr:Int))) none none).run Aw W=.ok (.slice (some ⟨z,fr,none⟩) (128-fr) (128-fr)) W:=fun W=>zEU W _ _ _ rfl jP;have jU:=hid (show cs.length=Nat.min (128-fr) (m-ix) by rw [fX];exact jB.symm)
        have kD:IntKind.i64.wrap ((ix:Int)+(mm:Int))=((ix+mm:Nat):Int):=by rw [IntWalk.i64_in _ (by omega)];omega
        clear fU jB fT
        have jV:(Tryz.prog.info? 5).map (·.size)=some 1:=by kernel_rfl
        go_region_law (refine step_copy_splice rfl (.tmp 60) (.tmp 62) 64 64 rfl 5 Ay jV _ _ (m-ix) (m-ix) (128-fr) (128-fr) rfl rfl (g+1) ix _ 5 gJ cs jU.o (fun _=>⟨rfl,_,rfl,gK⟩) gM gL (g+1) w0 ⟨fR.o.os,fR.o.tape,fR.o.output,fR.o.size,fR.o.block⟩ nr ?_;intro w5 HG5 jC;have jW:Hid (Blk w5 (g+1) 5 (bvs (rdL n.data of (ix+mm))++Ah (m-(ix+mm)) (.int .u8 0))):=(by (have h9:=HG5.o;rw [fV.o] at h9;exact h9));have gN:=hid jC;rw [fX];clear HG5 jC)
        simp only [List.getElem_toArray,Ak,List.getElem_cons_zero]
        go_frame
        refine⟨?_,?measure⟩
        · repeat apply Exists.intro
          refine⟨?_,rfl⟩;exact⟨ix+mm,fS,by go_num,jW,gN⟩
        case measure =>
         simp [intOf]
         omega
      · obtain rfl:ix=m:=by omega
        have t5:decide ((ix:Int)<(ix:Int))=false:=by simp
        have gO:=hid (show Blk wr (g+1) 5 (bvs (rdL n.data of ix)) by simpa using fO.o);have jD:=fE.below fG.o (by omega);clear fO;go_wp2_with (first | (refine AA rfl 67 (.tmp 6) (.tmp 66) rfl g (zAq 0 st0 (.slice (some ⟨g+1,0,none⟩) ix ix) zAj).toArray rfl (by rfl) 67 _ jD rfl rfl (zEf 0 st0 _ _ _ none 0 0) ?_));have fA:=AB wr g _ (zAq 0 st0 (.slice (some ⟨g+1,0,none⟩) ix ix) zAj).toArray _ _ jD;refine AC (AD rfl _ _ g 67 (zAq 0 st0 (.slice (some ⟨g+1,0,none⟩) ix ix) zAj).toArray (0,0) _ rfl fA Ax rfl rfl) rfl ⟨⟨_,rfl,?_⟩,?_⟩
        · rw [fJ.o];have jE:=gO.o.chg ((AE (fun b=>b=g) wr).setRow (fun _=>rfl) (zAq 0 st0 (.slice (some ⟨g+1,0,none⟩) ix ix) zAj).toArray) (by omega);refine⟨some ⟨g+1,0,none⟩,ix,none,0,?_,?_,?_⟩
          · rw [zAE];rfl
          · rw [zAE];exact⟨by rw [zAc,zAE,Nat.mul_one],fun _=>⟨g+1,0,rfl,jE.lt,fun j u hu=>by rw [Nat.zero_add,jE.cell];exact hu⟩⟩
          · exact Sees.nil
        · rw [gA.o];exact (gB.o.trans (fG.o.mono (by omega))).trans (((AE (fun b=>b=g) wr).setRow (fun _=>rfl) _).below (by have:=fG.o.size;omega) fun b hb e=>by omega)
abbrev Dat:=List (Nat×List UInt8)
def wr1 (d:Dat) (q:Nat) (b:UInt8):Dat:=zA2 zAG (q / 128) ((zA4 d (q / 128)).set (q % 128) b) d
def wrB (d:Dat) (q:Nat):List UInt8→Dat
 | []=>d
 | b::bs=>wrB (wr1 d q b) (q+1) bs
theorem zFL (d:Dat) (q:Nat) (xs ys:List UInt8):wrB d q (xs++ys)=wrB (wrB d q xs) (q+xs.length) ys:=by
 induction xs generalizing d q with
 | nil=>rfl
 | cons x xs ih=>simp only [List.cons_append,wrB,ih,Al];congr 1;omega
theorem zHA (d:Dat) (k:Nat) (s:List UInt8):zA4 (zA2 zAG k s d) k=s:=by simp [zA4,zAr]
theorem zEV (d:Dat) {k j:Nat} (h:j≠k) (s:List UInt8):zA4 (zA2 zAG k s d) j=zA4 d j:=by simp [zA4,zAi zAG s h]
theorem zIg (s cs:List UInt8) (fr:Nat) (b:UInt8) (h:fr+cs.length<s.length):(splice s fr cs).set (fr+cs.length) b=splice s fr (cs++[b]):=by
 unfold splice
 apply Ab
 · simp;omega
 · intro i h1 h2;rw [List.getElem_set];simp only [List.getElem_append,Ad,Ac,Al,Am,Af,List.getElem_drop,List.getElem_cons];simp only [An,Ac,Ad,Ae] at h1
   have hm:min fr s.length=fr:=by omega
   simp only [hm]
   split
   · rename_i e;subst e;rw [dif_neg (by omega),dif_pos (by omega),dif_neg (by omega)];simp
   · rename_i e;by_cases a1:i<fr
     · rw [dif_pos a1,dif_pos a1]
     · rw [dif_neg a1,dif_neg a1];by_cases a2:i-fr<cs.length
       · rw [dif_pos a2,dif_pos (by omega),dif_pos a2]
       · rw [dif_neg a2,dif_neg (by omega)]
         congr 1
         omega
theorem wrB_chunk (d:Dat) (q:Nat) (cs:List UInt8) (h0:0<cs.length) (hl:(zA4 d (q / 128)).length=128) (h:q % 128+cs.length≤128) :
 wrB d q cs=zA2 zAG (q / 128) (splice (zA4 d (q / 128)) (q % 128) cs) d:=by
 obtain⟨xs,b,rfl⟩:∃ xs b,cs=xs++[b]:=⟨cs.dropLast,cs.getLast (List.ne_nil_of_length_pos h0),(List.dropLast_concat_getLast _).symm⟩;clear h0
 induction hn:xs.length generalizing xs b with
 | zero =>
  obtain rfl:=List.eq_nil_of_length_eq_zero hn;simp only [Ai,wrB,wr1]
  congr 1
  unfold splice;rw [List.set_eq_take_append_cons_drop,if_pos (by simp at h;omega)];simp
 | succ n ih =>
  obtain⟨ys,c,rfl⟩:∃ ys c,xs=ys++[c]:=⟨xs.dropLast,xs.getLast (List.ne_nil_of_length_pos (by omega)),(List.dropLast_concat_getLast _).symm⟩;simp only [Ac,Al,Am] at h hn;rw [zFL,ih ys c (by simp;omega) (by omega)]
  have e1:(q+(ys++[c]).length) / 128=q / 128:=by simp;omega
  have e2:(q+(ys++[c]).length) % 128=q % 128+(ys++[c]).length:=by simp;omega
  simp only [wrB,wr1,e1,e2];rw [zHA,putS_put,zIg _ _ _ _ (by simp;omega)]
theorem zJu (d:Dat) (off:Nat) (ds:List UInt8) (a mm:Nat) (h:a+mm≤ds.length) (h0:0<mm) (hl:(zA4 (wrB d off (ds.take a)) ((off+a) / 128)).length=128) (hf:(off+a) % 128+mm≤128) :
 wrB d off (ds.take (a+mm))=zA2 zAG ((off+a) / 128) (splice (zA4 (wrB d off (ds.take a)) ((off+a) / 128)) ((off+a) % 128) ((ds.drop a).take mm)) (wrB d off (ds.take a)):=by
 rw [List.take_add,zFL]
 have e:(ds.take a).length=a:=by rw [Ad];omega
 have e2:((ds.drop a).take mm).length=mm:=by rw [Ad,Ae];omega
 rw [e,wrB_chunk _ _ _ (by omega) hl (by omega)]
structure DOk (d:Dat):Prop where
 keys:∀ p∈d,p.1≤1067
 dlen:d.length≤1068
 secs:∀ p∈d,p.2.length=128
 ris:zBo zAG d
theorem DOk.blk {d:Dat} (h:DOk d) (k:Nat):(zA4 d k).length=128:=by
 unfold zA4
 cases hg:zAe k d with
 | none=>exact zAs
 | some s=>exact h.secs _ (zAf hg)
theorem ris_len:∀ (l:Dat) (m:Nat),zBo zAG l→(∀ p∈l,m≤p.1∧p.1≤1067)→l.length≤1068-m
 | [],_,_,_=>by simp
 | p::l,m,hr,hk=>by
  have h1:=hk p (by simp);have fA:=Ao.1 hr;have:=ris_len l (p.1+1) fA.2 fun q hq=>⟨by have:=fA.1 q hq;simp [zAG] at this;omega,(hk q (Ap _ hq)).2⟩;simp only [Al];omega
theorem DOk.put {d:Dat} (h:DOk d) {k:Nat} (hk:k≤1067) {s:List UInt8} (hs:s.length=128):DOk (zA2 zAG k s d):=by
 have hr:zBo zAG (zA2 zAG k s d):=h.ris.put zAG zCo k s
 have fA:∀ p∈zA2 zAG k s d,p.1≤1067:=fun p hp=>by
  rcases (zBj zAG).1 hp with rfl | hp
  · exact hk
  · exact h.keys p hp.1
 refine⟨fA,?_,fun p hp=>?_,hr⟩
 · have:=ris_len _ 0 hr fun p hp=>⟨Nat.zero_le _,fA p hp⟩;omega
 · rcases (zBj zAG).1 hp with rfl | hp
   · exact hs
   · exact h.secs p hp.1
theorem DOk.wr1 {d:Dat} (h:DOk d) {q:Nat} (hq:q<136704) (b:UInt8):DOk (wr1 d q b):=h.put (by omega) (by rw [An];exact h.blk _)
theorem DOk.wrB {d:Dat} (h:DOk d):∀ {q:Nat} {bs:List UInt8},q+bs.length≤136704→DOk (wrB d q bs):=by
 intro q bs
 induction bs generalizing d q with
 | nil=>intro _;exact h
 | cons b bs ih =>
  intro hq;simp only [Al] at hq;exact ih (h.wr1 (by omega) b) (by omega)
theorem PN.Ok.dOk {n:PN} (h:n.Ok):DOk n.data:=⟨h.keys,h.dlen,h.secs,h.dris⟩
theorem zJY {d:Dat} (h:DOk d) (q:Nat) (b:UInt8) (x:Nat):zCO (Go.Proofs.YtolpcfhfcdkokaaGreatDoor.wr1 d q b) x=if x=q then b else zCO d x:=by
 unfold zCO Go.Proofs.YtolpcfhfcdkokaaGreatDoor.wr1;by_cases hk:x / 128=q / 128
 · rw [hk,zHA];have hl:=h.blk (q / 128);by_cases e:x=q
   · subst e;rw [if_pos rfl,Ag,List.getElem?_set_self (by omega)];rfl
   · rw [if_neg e,Ag,List.getElem?_set_ne (by omega),←Ag]
 · rw [zEV _ hk,if_neg (fun e=>hk (by rw [e]))]
theorem zJ8 {d:Dat} (h:DOk d) (x:Nat):∀ (q:Nat) (bs:List UInt8),q+bs.length≤136704→zCO (Go.Proofs.YtolpcfhfcdkokaaGreatDoor.wrB d q bs) x=if h:q≤x∧x<q+bs.length then bs[x-q]'(by omega) else zCO d x:=by
 intro q bs
 induction bs generalizing d q with
 | nil=>intro _;rw [dif_neg (by simp)];rfl
 | cons b bs ih =>
  intro hq;simp only [Al] at hq
  show zCO (Go.Proofs.YtolpcfhfcdkokaaGreatDoor.wrB (Go.Proofs.YtolpcfhfcdkokaaGreatDoor.wr1 d q b) (q+1) bs) x=_
  rw [ih (h.wr1 (by omega) b) (q+1) (by omega),zJY h];simp only [Al];by_cases h1:q+1≤x∧x<q+1+bs.length
  · rw [dif_pos h1,dif_pos (by omega)]
    have e:x-q=(x-(q+1))+1:=by omega
    simp only [e,Ak]
  · rw [dif_neg h1];by_cases h2:x=q
    · subst h2;rw [if_pos rfl,dif_pos (by omega)];simp
    · rw [if_neg h2,dif_neg (by omega)]
def PN.wrote (n:PN) (off:Nat) (ds:List UInt8):PN:={n with data:=Go.Proofs.YtolpcfhfcdkokaaGreatDoor.wrB n.data off ds,size:=if ds.length=0 then n.size else max n.size (off+ds.length)}
def PT.write (T:PT) (i:Nat) (off:Int) (ds:List UInt8):PT×Nat :=
 if off<0∨131072<ds.length∨136704<off+ds.length then (T,101) else
 let n:=T.node i
 let n':=n.wrote off.toNat ds
 if (n'.count:Int)-n.count≤(T.sectors:Int)-1-T.inodes-T.used then (T.upd i n',0) else (T,80)
section
variable {α β:Type} [DecidableEq α]
def zGJ (f:β→Nat) (l:List (α×β)):Nat:=(l.map fun p=>f p.2).sum
def atV (f:β→Nat) (a:α) (l:List (α×β)):Nat:=match zAe a l with | some v=>f v | none=>0
theorem delS_cons (a:α) (y:α×β) (r:List (α×β)):zBB a (y::r)=if y.1=a then zBB a r else y::zBB a r:=by
 unfold zBB;by_cases h:y.1=a<;>simp [h]
theorem zCy (f:β→Nat) (y:α×β) (r:List (α×β)):zGJ f (y::r)=f y.2+zGJ f r:=have _:=(inferInstance:DecidableEq α);rfl
theorem zIA (K:KE α) (f:β→Nat) (x:α×β):∀ l:List (α×β),zGJ f (zCi K x l)=f x.2+zGJ f l
 | []=>rfl
 | y::r=>by
  unfold zCi
  split
  · rfl
  · rw [zCy,zIA K f x r,zCy];omega
theorem atV_cons (f:β→Nat) (a:α) (y:α×β) (r:List (α×β)):atV f a (y::r)=if y.1=a then f y.2 else atV f a r:=by
 unfold atV;rw [zAe];by_cases h:y.1=a<;>simp [h]
theorem zEJ {f:β→Nat} {a:α} {l:List (α×β)} (h:zAe a l=none):atV f a l=0:=by unfold atV;rw [h]
theorem zCJ {f:β→Nat} {a:α} {v:β} {l:List (α×β)} (h:zAe a l=some v):atV f a l=f v:=by unfold atV;rw [h]
theorem zC9 (f:β→Nat) (a:α):∀ {l:List (α×β)},(l.Pairwise fun p q=>p.1≠q.1)→zGJ f (zBB a l)+atV f a l=zGJ f l
 | [],_=>rfl
 | y::r,h=>by
  obtain⟨h1,h2⟩:=Ao.1 h;have ih:=zC9 f a h2;rw [delS_cons,atV_cons,zCy];by_cases e:y.1=a
  · rw [if_pos e,if_pos e];have hn:zAe a r=none:=zA7.2 fun p hp e'=>h1 p hp (by rw [e,e']);rw [zEJ hn] at ih;omega
  · rw [if_neg e,if_neg e,zCy];omega
theorem zDD (K:KE α) (f:β→Nat) (a:α) (v:β) {l:List (α×β)} (h:zBo K l):zGJ f (zA2 K a v l)+atV f a l=f v+zGJ f l:=by
 unfold zA2;rw [zIA];have:=zC9 f a h.nd
 show f v+zGJ f (zBB a l)+atV f a l=_
 omega
theorem zGE {f:β→Nat} {p:α×β}:∀ {l:List (α×β)},p∈l→f p.2≤zGJ f l
 | y::r,h=>by
  rw [zCy];rcases List.mem_cons.1 h with rfl | h
  · omega
  · have:=zGE (f:=f) h;omega
theorem zHq {f:β→Nat}:∀ {l:List (α×β)},zGJ f l=0→∀ p∈l,f p.2=0:=fun h p hp=>by have:=zGE (f:=f) hp;omega
theorem zHf {f:β→Nat}:∀ {l:List (α×β)},(∀ p∈l,f p.2=0)→zGJ f l=0
 | [],_=>rfl
 | y::r,h=>by rw [zCy,h y List.mem_cons_self,zHf fun p hp=>h p (Ap _ hp)]
theorem zIC {f:β→Nat} {l:List (α×β)} (h:zGJ f l≠0):∃ p∈l,f p.2≠0:=by
 by_cases hx:∃ p∈l,f p.2≠0
 · exact hx
 · exact absurd (zHf fun p hp=>by by_cases e:f p.2=0;exact e;exact absurd ⟨p,hp,e⟩ hx) h
theorem zJa {f:β→Nat} {l:List (α×β)} (hn:l.Pairwise fun p q=>p.1≠q.1) {p q:α×β} (hp:p∈l) (hq:q∈l) (h:p.1≠q.1):f p.2+f q.2≤zGJ f l:=by
 have h1:=zC9 f p.1 hn;have h2:=zCJ (f:=f) (zAU hn hp);have h3:=zGE (f:=f) (zBG.2 ⟨hq,fun e=>h e.symm⟩);omega
end
def zEH (j v:Nat):Nat:=if v=j then 1 else 0
def PN.refs (n:PN) (j:Nat):Nat:=zGJ (zEH j) n.names
def PT.refs (T:PT) (j:Nat):Nat:=zGJ (fun n:PN=>n.refs j) T.nodes
theorem PT.refs_upd {T:PT} (hr:zBo zAG T.nodes) {i:Nat} {n n':PN} (h:zAe i T.nodes=some n) (j:Nat):(T.upd i n').refs j+n.refs j=n'.refs j+T.refs j:=by
 have:=zDD zAG (fun n:PN=>n.refs j) i n' hr;rw [zCJ h] at this;exact this
theorem PT.used_upd {T:PT} (hr:zBo zAG T.nodes) {i:Nat} {n n':PN} (h:zAe i T.nodes=some n):(T.upd i n').used+n.count=n'.count+T.used:=by
 have:=zDD zAG AF i n' hr;rw [zCJ h] at this;exact this
theorem PT.refs_new {T:PT} (hr:zBo zAG T.nodes) {i:Nat} {n':PN} (h:zAe i T.nodes=none) (j:Nat):(T.upd i n').refs j=n'.refs j+T.refs j:=by
 have:=zDD zAG (fun n:PN=>n.refs j) i n' hr;rw [zEJ h] at this;exact this
theorem PT.used_new {T:PT} (hr:zBo zAG T.nodes) {i:Nat} {n':PN} (h:zAe i T.nodes=none):(T.upd i n').used=n'.count+T.used:=by
 have:=zDD zAG AF i n' hr;rw [zEJ h] at this;exact this
theorem PT.refs_del {T:PT} (hr:zBo zAG T.nodes) {i:Nat} {n:PN} (h:zAe i T.nodes=some n) (j:Nat):(T.del i).refs j+n.refs j=T.refs j:=by
 have:=zC9 (fun n:PN=>n.refs j) i hr.nd;rw [zCJ h] at this;exact this
theorem PT.used_del {T:PT} (hr:zBo zAG T.nodes) {i:Nat} {n:PN} (h:zAe i T.nodes=some n):(T.del i).used+n.count=T.used:=by
 have:=zC9 AF i hr.nd;rw [zCJ h] at this;exact this
theorem PN.refs_set {n:PN} (hr:zBo zAV n.names) (k:Nat) (nm:ByteArray) (i j:Nat):(n.set k nm i).refs j+atV (zEH j) nm n.names=zEH j i+n.refs j :=
 zDD zAV (zEH j) nm i hr
theorem PN.refs_clear {n:PN} (hr:zBo zAV n.names) {nm:ByteArray} {i:Nat} (h:zAe nm n.names=some i) (j:Nat):(n.clear nm).refs j+zEH j i=n.refs j:=by
 have:=zC9 (zEH j) nm hr.nd;rw [zCJ h] at this;exact this
theorem PN.refs_nil {n:PN} (h:n.names=[]) (j:Nat):n.refs j=0:=by unfold PN.refs;rw [h];rfl
theorem PN.refs_pos {n:PN} (hr:zBo zAV n.names) {j:Nat}:n.refs j≠0↔∃ nm,zAe nm n.names=some j:=by
 constructor
 · intro h;obtain⟨p,hp,h1⟩:=zIC h;refine⟨p.1,?_⟩;rw [zAU hr.nd hp];unfold zEH at h1;by_cases e:p.2=j
   · rw [e]
   · rw [if_neg e] at h1;exact absurd rfl h1
 · rintro ⟨nm,h⟩ h0;have:=zHq h0 _ (zAf h);simp [zEH] at this
theorem PT.refs_pos {T:PT} (hT:T.Ok) {j:Nat}:T.refs j≠0↔∃ i n nm,zAe i T.nodes=some n∧zAe nm n.names=some j:=by
 constructor
 · intro h;obtain⟨p,hp,h1⟩:=zIC h;obtain⟨nm,h2⟩:=(PN.refs_pos (hT.node p hp).1.nris).1 h1;exact⟨p.1,p.2,nm,zAU hT.ris.nd hp,h2⟩
 · rintro ⟨i,n,nm,h1,h2⟩ h0;have:=zHq h0 _ (zAf h1);exact (PN.refs_pos (hT.get h1).1.nris).2 ⟨nm,h2⟩ this
theorem PT.refs_one {T:PT} (hT:T.Ok) {j:Nat} (h1:T.refs j≤1) {i i':Nat} {n n':PN} {nm nm':ByteArray} (ha:zAe i T.nodes=some n) (hb:zAe nm n.names=some j) (fA:zAe i' T.nodes=some n') (fB:zAe nm' n'.names=some j):i=i'∧nm=nm':=by
 have hp:1≤n.refs j:=Nat.one_le_iff_ne_zero.2 ((PN.refs_pos (hT.get ha).1.nris).2 ⟨_,hb⟩);have fC:1≤n'.refs j:=Nat.one_le_iff_ne_zero.2 ((PN.refs_pos (hT.get fA).1.nris).2 ⟨_,fB⟩)
 have hi:i=i':=by
  by_cases e:i=i'
  · exact e
  · have:=zJa (f:=fun n:PN=>n.refs j) hT.ris.nd (zAf ha) (zAf fA) e;have h2:T.refs j=zGJ (fun n:PN=>n.refs j) T.nodes:=rfl;simp only at this;omega
 subst hi;have hn:n=n':=AH (ha.symm.trans fA);subst hn;refine⟨rfl,?_⟩;by_cases e:nm=nm'
 · exact e
 · have:=zJa (f:=zEH j) (hT.get ha).1.nris.nd (zAf hb) (zAf fB) e;have h3:n.refs j≤T.refs j:=zGE (f:=fun n:PN=>n.refs j) (zAf ha);have h4:n.refs j=zGJ (zEH j) n.names:=rfl
   simp [zEH] at this
   omega
def chk (x:ByteArray):Bool:=decide (0<x.size∧x.size≤40∧x.data.toList≠[46]∧x.data.toList≠[46,46]∧∀ b∈x.data.toList,b≠0∧b≠47)
theorem zBl {x:ByteArray} (h:chk x=true):x≠emp:=by
 rintro rfl
 revert h
 decide
theorem zCX {x:ByteArray} (h:chk x=true):x.size≤40:=by
 unfold chk at h;exact (of_decide_eq_true h).2.1
structure PT.Gr (T:PT):Prop where
 ok:T.Ok
 root:∃ n,zAe 1 T.nodes=some n∧n.dir=true
 ents:∀ i n nm j,zAe i T.nodes=some n→zAe nm n.names=some j→∃ m,zAe j T.nodes=some m
 slotn:∀ i n nm j,zAe i T.nodes=some n→zAe nm n.names=some j→∃ k,zAh nm n.slots=some k
 rank:∃ rk:Nat→Nat,T.Ranked rk
 names:∀ i n nm j,zAe i T.nodes=some n→zAe nm n.names=some j→chk nm=true
 root0:T.refs 1=0
def PT.Dev (T:PT) (e:Nat→Int):Prop:=∀ j n,zAe j T.nodes=some n→1≤n.links∧(n.dir=true→n.links=1)∧(j≠1→(T.refs j:Int)=n.links+e j)
def no:Nat→Int:=fun _=>0
def at1 (i:Nat) (v:Int):Nat→Int:=fun j=>if j=i then v else 0
structure PT.Inv (T:PT):Prop where
 gr:T.Gr
 dev:T.Dev no
 room:T.used+T.inodes+1≤T.sectors
theorem PT.Gr.nemp {T:PT} (h:T.Gr) (i:Nat) (n:PN) (hg:zAe i T.nodes=some n):zAe emp n.names=none:=by
 cases hc:zAe emp n.names with
 | none=>rfl
 | some j=>exact absurd rfl (zBl (h.names i n emp j hg hc))
theorem PT.Inv.wf {T:PT} (h:T.Inv):T.Wf:=⟨h.gr.ok,h.gr.root,h.gr.ents,h.gr.slotn,fun i n hg=>(h.dev i n hg).1,h.gr.nemp,h.gr.rank⟩
theorem zDX {T:PT} {i:Nat} {n n':PN} (h:zAe i T.nodes=some n) (hd:n'.dir=n.dir) (j:Nat):(T.upd i n').isDir j=T.isDir j:=by
 unfold PT.isDir;by_cases e:j=i
 · subst e;rw [zA6,h];exact hd
 · rw [zAl _ e]
theorem zBb {T:PT} {i j:Nat} {n' m:PN} (h:zAe j (T.upd i n').nodes=some m):(j=i∧m=n')∨(j≠i∧zAe j T.nodes=some m):=by
 by_cases e:j=i
 · subst e;rw [zA6] at h;exact .inl ⟨rfl,(AH h).symm⟩
 · rw [zAl _ e] at h;exact .inr ⟨e,h⟩
theorem zCC {T:PT} {i j:Nat} {n' m:PN} (h:zAe j T.nodes=some m):∃ m',zAe j (T.upd i n').nodes=some m':=by
 by_cases e:j=i
 · subst e;exact⟨_,zA6 _ _⟩
 · exact⟨m,by rw [zAl _ e];exact h⟩
theorem PN.refs_names {n n':PN} (h:n'.names=n.names) (j:Nat):n'.refs j=n.refs j:=by unfold PN.refs;rw [h]
theorem zCp {T:PT} (hT:T.Ok) {i:Nat} {n n':PN} (h:zAe i T.nodes=some n) (hn:n'.names=n.names) (j:Nat):(T.upd i n').refs j=T.refs j:=by
 have:=PT.refs_upd hT.ris (n':=n') h j;rw [PN.refs_names hn] at this;omega
theorem PT.Gr.turn {T:PT} (h:T.Gr) {i:Nat} {n n':PN} (hg:zAe i T.nodes=some n) (hd:n'.dir=n.dir) (hn:n'.names=n.names) (hs:n'.slots=n.slots) (ho:n'.Ok):(T.upd i n').Gr:=by
 have back:∀ {j m},zAe j (T.upd i n').nodes=some m→∃ m0,zAe j T.nodes=some m0∧m.names=m0.names∧m.slots=m0.slots:=fun {j m} h1=>by
  rcases zBb h1 with ⟨rfl,rfl⟩ | ⟨_,h2⟩
  · exact⟨n,hg,hn,hs⟩
  · exact⟨m,h2,rfl,rfl⟩
 refine⟨h.ok.upd ho (h.ok.get hg).2,?_,fun j m nm k h1 h2=>?_,fun j m nm k h1 h2=>?_,?_,fun j m nm k h1 h2=>?_,by rw [zCp h.ok hg hn];exact h.root0⟩
 · obtain⟨m,h1,h2⟩:=h.root;by_cases e:1=i
   · subst e;refine⟨n',zA6 _ _,?_⟩;rw [hd,←h2,AH (hg.symm.trans h1)]
   · exact⟨m,by rw [zAl _ e];exact h1,h2⟩
 · obtain⟨m0,h3,h4,_⟩:=back h1;rw [h4] at h2;obtain⟨x,hx⟩:=h.ents _ _ _ _ h3 h2;exact zCC hx
 · obtain⟨m0,h3,h4,h5⟩:=back h1;rw [h4] at h2;rw [h5];exact h.slotn _ _ _ _ h3 h2
 · obtain⟨rk,hr⟩:=h.rank;refine⟨rk,fun j m nm k h1 h2 h3=>?_⟩;obtain⟨m0,h4,h5,_⟩:=back h1;rw [h5] at h2;rw [zDX hg hd] at h3;exact hr _ _ _ _ h4 h2 h3
 · obtain⟨m0,h3,h4,_⟩:=back h1;rw [h4] at h2;exact h.names _ _ _ _ h3 h2
theorem PT.Dev.turn {T:PT} (hT:T.Ok) {e e':Nat→Int} (h:T.Dev e) {i:Nat} {n n':PN} (hg:zAe i T.nodes=some n) (hd:n'.dir=n.dir) (hn:n'.names=n.names) (hl:1≤n'.links) (fA:n.dir=true→n'.links=1)
 (he:i≠1→(n.links:Int)+e i=n'.links+e' i) (ho:∀ j,j≠i→e j=e' j):(T.upd i n').Dev e':=fun j m h1=>by
 rcases zBb h1 with ⟨rfl,rfl⟩ | ⟨h3,h2⟩
 · obtain⟨_,_,h6⟩:=h j n hg;refine⟨hl,fun h7=>fA (by rw [←hd];exact h7),fun h7=>?_⟩;rw [zCp hT hg hn,h6 h7];exact he h7
 · obtain⟨h4,h5,h6⟩:=h j m h2;refine⟨h4,h5,fun h7=>?_⟩;rw [zCp hT hg hn,h6 h7,ho j h3]
theorem PT.Inv.turn {T:PT} (h:T.Inv) {i:Nat} {n n':PN} (hg:zAe i T.nodes=some n) (hd:n'.dir=n.dir) (hn:n'.names=n.names) (hs:n'.slots=n.slots) (hl:n'.links=n.links) (ho:n'.Ok) (hr:n'.count+T.used+T.inodes+1≤T.sectors+n.count):(T.upd i n').Inv:=by
 refine⟨h.gr.turn hg hd hn hs ho,h.dev.turn h.gr.ok hg hd hn (by rw [hl];exact (h.dev i n hg).1) (fun h1=>by rw [hl];exact (h.dev i n hg).2.1 h1) (fun _=>by rw [hl]) (fun _ _=>rfl),?_⟩;have:=PT.used_upd h.gr.ok.ris (n':=n') hg
 show (T.upd i n').used+T.inodes+1≤T.sectors
 omega
theorem zEB {n:PN} {k j:Nat} {nm x:ByteArray} {v:Nat} (h:zAe x (n.set k nm j).names=some v):(x=nm∧v=j)∨(x≠nm∧zAe x n.names=some v):=by
 have h':zAe x (zA2 zAV nm j n.names)=some v:=h;by_cases e:x=nm
 · subst e;rw [zAr] at h';exact .inl ⟨rfl,(AH h').symm⟩
 · rw [zAi zAV j e] at h';exact .inr ⟨e,h'⟩
theorem zD4 {x:ByteArray}:∀ {l:List ByteArray} {k:Nat},k<l.length→∃ q,zAh x (l.set k x)=some q:=fun {l k} h=>zCU (List.mem_iff_getElem.2 ⟨k,by rw [An];exact h,by simp⟩)
theorem PN.Fit.slot {n:PN} {k j:Nat} {nm:ByteArray} (h:n.Fit k nm):∃ q,zAh nm (n.set k nm j).slots=some q:=by
 have fA:=h.le;unfold PN.set;simp only
 split
 · exact zCU (by simp)
 · exact zD4 (by omega)
theorem PT.Gr.set {T:PT} (h:T.Gr) {d:Nat} {n:PN} (hg:zAe d T.nodes=some n) (hd:n.dir=true) {k j:Nat} {nm:ByteArray} (hf:n.Fit k nm) (hc:chk nm=true) {m:PN} (hj:zAe j T.nodes=some m) (fB:j≠1) (ho:(n.set k nm j).Ok)
 (hr:∃ rk:Nat→Nat,T.Ranked rk∧(T.isDir j=true→rk d<rk j)):(T.upd d (n.set k nm j)).Gr:=by
 refine⟨h.ok.upd ho (h.ok.get hg).2,?_,fun i x nm' v h1 h2=>?_,fun i x nm' v h1 h2=>?_,?_,fun i x nm' v h1 h2=>?_,?_⟩
 · obtain⟨m,h1,h2⟩:=h.root;by_cases e:1=d
   · subst e;exact⟨_,zA6 _ _,hd⟩
   · exact⟨m,by rw [zAl _ e];exact h1,h2⟩
 · rcases zBb h1 with ⟨rfl,rfl⟩ | ⟨_,h3⟩
   · rcases zEB h2 with ⟨_,rfl⟩ | ⟨_,h4⟩
     · exact zCC hj
     · obtain⟨y,hy⟩:=h.ents _ _ _ _ hg h4;exact zCC hy
   · obtain⟨y,hy⟩:=h.ents _ _ _ _ h3 h2;exact zCC hy
 · rcases zBb h1 with ⟨rfl,rfl⟩ | ⟨_,h3⟩
   · rcases zEB h2 with ⟨rfl,_⟩ | ⟨h5,h4⟩
     · exact hf.slot
     · obtain⟨q,hq⟩:=h.slotn _ _ _ _ hg h4;exact⟨q,zC4 hf (fun e=>h5 e.symm) (zBl (h.names _ _ _ _ hg h4)) hq⟩
   · exact h.slotn _ _ _ _ h3 h2
 · obtain⟨rk,fA,fC⟩:=hr;refine⟨rk,fun i x nm' v h1 h2 h3=>?_⟩;rw [zDX (n':=n.set k nm j) hg rfl] at h3;rcases zBb h1 with ⟨rfl,rfl⟩ | ⟨_,h4⟩
   · rcases zEB h2 with ⟨_,rfl⟩ | ⟨_,h4⟩
     · exact fC h3
     · exact fA _ _ _ _ hg h4 h3
   · exact fA _ _ _ _ h4 h2 h3
 · rcases zBb h1 with ⟨rfl,rfl⟩ | ⟨_,h3⟩
   · rcases zEB h2 with ⟨rfl,_⟩ | ⟨_,h4⟩
     · exact hc
     · exact h.names _ _ _ _ hg h4
   · exact h.names _ _ _ _ h3 h2
 · have h1:=PT.refs_upd h.ok.ris (n':=n.set k nm j) hg 1;have h2:=PN.refs_set (h.ok.get hg).1.nris k nm j 1;have h3:=h.root0;have h4:zEH 1 j=0:=if_neg fB;omega
theorem refs_ins {T:PT} (h:T.Ok) {d:Nat} {n:PN} (hg:zAe d T.nodes=some n) (k:Nat) (nm:ByteArray) (i j:Nat):(T.upd d (n.set k nm i)).refs j+atV (zEH j) nm n.names=zEH j i+T.refs j:=by
 have h1:=PT.refs_upd h.ris (n':=n.set k nm i) hg j;have h2:=PN.refs_set (h.get hg).1.nris k nm i j;omega
theorem PT.Dev.set {T:PT} (hT:T.Ok) {e e':Nat→Int} (h:T.Dev e) {d:Nat} {n:PN} (hg:zAe d T.nodes=some n) (k:Nat) (nm:ByteArray) (i:Nat)
 (he:∀ j,e' j=e j+zEH j i-(atV (zEH j) nm n.names:Nat)):(T.upd d (n.set k nm i)).Dev e':=fun j m h1=>by
 have h9:=refs_ins hT hg k nm i j;have h8:=he j;rcases zBb h1 with ⟨rfl,rfl⟩ | ⟨h3,h2⟩
 · obtain⟨h4,h5,h6⟩:=h j n hg;refine⟨h4,h5,fun h7=>?_⟩;have:=h6 h7
   show _=(n.links:Int)+_
   omega
 · obtain⟨h4,h5,h6⟩:=h j m h2;refine⟨h4,h5,fun h7=>?_⟩;have:=h6 h7;omega
theorem zDa {n:PN} {nm x:ByteArray} {v:Nat} (h:zAe x (n.clear nm).names=some v):x≠nm∧zAe x n.names=some v:=by
 have h':zAe x (zBB nm n.names)=some v:=h;by_cases e:x=nm
 · subst e;rw [zBI] at h';cases h'
 · rw [zAT e] at h';exact⟨e,h'⟩
theorem PT.Gr.clear {T:PT} (h:T.Gr) {d:Nat} {n:PN} (hg:zAe d T.nodes=some n) (hd:n.dir=true) {j:Nat} {nm:ByteArray} (hj:zAe nm n.names=some j):(T.upd d (n.clear nm)).Gr:=by
 obtain⟨k,hk⟩:=h.slotn _ _ _ _ hg hj;refine⟨h.ok.upd ((h.ok.get hg).1.clear nm) (h.ok.get hg).2,?_,fun i x nm' v h1 h2=>?_,fun i x nm' v h1 h2=>?_,?_,fun i x nm' v h1 h2=>?_,?_⟩
 · obtain⟨m,h1,h2⟩:=h.root;by_cases e:1=d
   · subst e;exact⟨_,zA6 _ _,hd⟩
   · exact⟨m,by rw [zAl _ e];exact h1,h2⟩
 · rcases zBb h1 with ⟨rfl,rfl⟩ | ⟨_,h3⟩
   · obtain⟨y,hy⟩:=h.ents _ _ _ _ hg (zDa h2).2;exact zCC hy
   · obtain⟨y,hy⟩:=h.ents _ _ _ _ h3 h2;exact zCC hy
 · rcases zBb h1 with ⟨rfl,rfl⟩ | ⟨_,h3⟩
   · obtain⟨h5,h4⟩:=zDa h2;obtain⟨q,hq⟩:=h.slotn _ _ _ _ hg h4;refine⟨q,?_⟩;unfold PN.clear;simp only [hk];refine zCW hq (fun e=>zBl (h.names _ _ _ _ hg h4) e.symm) fun e=>h5 ?_;rw [(zAR hk).2] at e;exact (AH e).symm
   · exact h.slotn _ _ _ _ h3 h2
 · obtain⟨rk,hr⟩:=h.rank;refine⟨rk,fun i x nm' v h1 h2 h3=>?_⟩;rw [zDX (n':=n.clear nm) hg rfl] at h3;rcases zBb h1 with ⟨rfl,rfl⟩ | ⟨_,h4⟩
   · exact hr _ _ _ _ hg (zDa h2).2 h3
   · exact hr _ _ _ _ h4 h2 h3
 · rcases zBb h1 with ⟨rfl,rfl⟩ | ⟨_,h3⟩
   · exact h.names _ _ _ _ hg (zDa h2).2
   · exact h.names _ _ _ _ h3 h2
 · have h1:=PT.refs_upd h.ok.ris (n':=n.clear nm) hg 1;have h2:=PN.refs_clear (h.ok.get hg).1.nris hj 1;have h3:=h.root0;omega
theorem PT.Dev.clear {T:PT} (hT:T.Ok) {e e':Nat→Int} (h:T.Dev e) {d:Nat} {n:PN} (hg:zAe d T.nodes=some n) {nm:ByteArray} {i:Nat} (hi:zAe nm n.names=some i)
 (he:∀ j,e' j=e j-zEH j i):(T.upd d (n.clear nm)).Dev e':=fun j m h1=>by
 have h9:=PT.refs_upd hT.ris (n':=n.clear nm) hg j;have fA:=PN.refs_clear (hT.get hg).1.nris hi j;have h8:=he j;rcases zBb h1 with ⟨rfl,rfl⟩ | ⟨h3,h2⟩
 · obtain⟨h4,h5,h6⟩:=h j n hg;refine⟨h4,h5,fun h7=>?_⟩;have:=h6 h7
   show _=(n.links:Int)+_
   omega
 · obtain⟨h4,h5,h6⟩:=h j m h2;refine⟨h4,h5,fun h7=>?_⟩;have:=h6 h7;omega
theorem zFh (n:PN) (nm:ByteArray):(n.clear nm).count=n.count:=by
 unfold AF AG PN.clear;simp only
 split
 · rw [An]
 · rfl
theorem zB8 {T:PT} {i j:Nat} {m:PN} (h:zAe j (T.del i).nodes=some m):j≠i∧zAe j T.nodes=some m:=by
 have h':zAe j (zBB i T.nodes)=some m:=h;by_cases e:j=i
 · subst e;rw [zBI] at h';cases h'
 · rw [zAT e] at h';exact⟨e,h'⟩
theorem zG1 {T:PT} {i j:Nat} (h:j≠i):zAe j (T.del i).nodes=zAe j T.nodes:=zAT h _
theorem PT.Gr.del {T:PT} (h:T.Gr) {i:Nat} {n:PN} (hg:zAe i T.nodes=some n) (h1:i≠1) (h0:T.refs i=0) (hn:n.names=[]):(T.del i).Gr:=by
 have hr:∀ j,(T.del i).refs j=T.refs j:=fun j=>by
  have:=PT.refs_del h.ok.ris hg j;rw [PN.refs_nil hn] at this;omega
 refine⟨h.ok.del i,?_,fun j x nm v ha hb=>?_,fun j x nm v ha hb=>h.slotn _ _ _ _ (zB8 ha).2 hb,?_,fun j x nm v ha hb=>h.names _ _ _ _ (zB8 ha).2 hb,by rw [hr];exact h.root0⟩
 · obtain⟨m,h2,h3⟩:=h.root;exact⟨m,by rw [zG1 (fun e=>h1 e.symm)];exact h2,h3⟩
 · obtain⟨y,hy⟩:=h.ents _ _ _ _ (zB8 ha).2 hb;refine⟨y,?_⟩;rw [zG1]
   · exact hy
   · rintro rfl;exact (PT.refs_pos h.ok).2 ⟨_,_,_,(zB8 ha).2,hb⟩ h0
 · obtain⟨rk,hr⟩:=h.rank;refine⟨rk,fun j x nm v ha hb hc=>hr _ _ _ _ (zB8 ha).2 hb ?_⟩;unfold PT.isDir at hc ⊢
   cases hv:zAe v (T.del i).nodes with
   | none=>rw [hv] at hc;cases hc
   | some m=>rw [(zB8 hv).2];rw [hv] at hc;exact hc
theorem PT.Dev.del {T:PT} (hT:T.Ok) {e e':Nat→Int} (h:T.Dev e) {i:Nat} {n:PN} (hg:zAe i T.nodes=some n) (hn:n.names=[]) (he:∀ j,j≠i→e' j=e j):(T.del i).Dev e':=fun j m h1=>by
 obtain⟨h2,h3⟩:=zB8 h1;obtain⟨h4,h5,h6⟩:=h j m h3;refine⟨h4,h5,fun h7=>?_⟩;have:=PT.refs_del hT.ris hg j;rw [PN.refs_nil hn] at this;have:=h6 h7;rw [he j h2];omega
theorem less_of {T:PT} {i:Nat} {n:PN} (hg:zAe i T.nodes=some n):T.less i=if n.links-1=0∨n.dir=true then T.del i else T.upd i {n with links:=n.links-1}:=by unfold PT.less;rw [hg]
theorem PN.Ok.lnk {n:PN} (h:n.Ok) {l:Nat} (hl:l≤100):({n with links:=l}:PN).Ok:=⟨h.keys,h.dlen,h.secs,h.slots,hl,h.size,h.made,h.nm,h.nlen,h.dd,h.df,h.nris,h.dris⟩
theorem PT.Gr.less {T:PT} {i:Nat} (h:T.Gr) (hv:T.Dev (at1 i (-1))) {n:PN} (hg:zAe i T.nodes=some n) (h1:i≠1) (hn:n.names=[]):(T.less i).Gr∧(T.less i).Dev no∧(T.less i).used≤T.used:=by
 obtain⟨l1,l2,l3⟩:=hv i n hg;have l4:=l3 h1;simp only [at1,if_true] at l4;rw [less_of hg]
 split
 · rename_i hc
   have h0:T.refs i=0:=by
    rcases hc with hc | hc
    · omega
    · have:=l2 hc;omega
   refine⟨h.del hg h1 h0 hn,hv.del h.ok hg hn fun j hj=>by simp [no,at1,hj],?_⟩;have:=PT.used_del h.ok.ris hg;omega
 · rename_i hc;have fA:n.links-1≠0:=fun e=>hc (.inl e);have fB:=(h.ok.get hg).1.links;refine⟨h.turn hg rfl rfl rfl ((h.ok.get hg).1.lnk (by omega)),hv.turn h.ok hg rfl rfl (by show 1≤n.links-1;omega) (fun e=>absurd (.inr e) hc) (fun _=>by simp only [at1,no,if_true];show _=((n.links-1:Nat):Int)+_;omega) (fun j hj=>by simp [at1,no,hj]),?_⟩;have:=PT.used_upd h.ok.ris (n':={n with links:=n.links-1}) hg;have e:({n with links:=n.links-1}:PN).count=n.count:=rfl;omega
theorem zIj {a b:List Nat} (h:∀ k∈a,k∈b):zCh a≤zCh b:=by
 unfold zCh;rw [←List.countP_eq_length_filter,←List.countP_eq_length_filter];refine List.countP_mono_left fun z _ hz=>?_;obtain⟨k,hk,h1⟩:=Aq.1 hz;exact Aq.2 ⟨k,h k hk,h1⟩
theorem cntK_mono {a b:List Nat} (ha:a.Nodup) (h:∀ k∈a,k∈b):zDw a≤zDw b:=by
 have:=zIj h;have:=zAB ha h;unfold zDw;omega
theorem count_dir {n:PN} (h:n.Ok) (hd:n.dir=true):n.count=zDw (Aa n.slots.length):=by
 unfold AF AG;rw [h.dd hd];rfl
theorem zFp {n:PN} (h:n.Ok) (hd:n.dir=false):n.count=zDw (n.data.map (·.1)):=by
 unfold AF AG;rw [(h.df hd).1];simp
theorem zKr {T:PT} {n:PN} (hn:n.Ok) (hd:n.dir=true) (hr:T.used+T.inodes+1≤T.sectors) (h:(T.place n).2=0) (nm:ByteArray) (i:Nat):(n.set (T.place n).1 nm i).count+T.used+T.inodes+1≤T.sectors+n.count:=by
 have h1:(n.set (T.place n).1 nm i).count=zDw (Aa (n.set (T.place n).1 nm i).slots.length):=by
  unfold AF AG;have:(n.set (T.place n).1 nm i).data=[]:=hn.dd hd;rw [this];rfl
 have h2:=count_dir hn hd;rw [h1];unfold PT.place at h ⊢
 cases hf:zAh emp n.slots with
 | some k =>
  have:=(zAR hf).1;simp only [PN.set,if_neg (Nat.ne_of_lt this),An];omega
 | none =>
  rw [hf] at h;simp only at h ⊢;by_cases h3:n.slots.length=1068
  · rw [if_pos h3] at h;cases h
  · rw [if_neg h3] at h ⊢;by_cases h4:T.room n.count (zDw (Aa (n.slots.length+1)))=true
    · rw [if_pos h4];unfold PT.room at h4;have h5:=of_decide_eq_true h4;simp only [PN.set,if_true,Ac,List.length_singleton];omega
    · rw [if_neg h4] at h;cases h
theorem PT.Gr.ne1 {T:PT} (h:T.Gr) {i j:Nat} {n:PN} {nm:ByteArray} (hg:zAe i T.nodes=some n) (hj:zAe nm n.names=some j):j≠1:=by
 rintro rfl;exact (PT.refs_pos h.ok).2 ⟨_,_,_,hg,hj⟩ h.root0
theorem PT.Gr.loop {T:PT} (h:T.Gr) {i:Nat} {n:PN} {nm:ByteArray} (hg:zAe i T.nodes=some n):zAe nm n.names≠some i:=fun hj=>by
 obtain⟨rk,hr⟩:=h.rank
 cases hd:n.dir with
 | true =>
  have:=hr i n nm i hg hj (by rw [zAm hg,hd]);omega
 | false =>
  rw [((h.ok.get hg).1.df hd).2] at hj;cases hj
theorem PT.wf_of {T:PT} {e:Nat→Int} (h:T.Gr) (hv:T.Dev e):T.Wf:=⟨h.ok,h.root,h.ents,h.slotn,fun i n hg=>(hv i n hg).1,h.nemp,h.rank⟩
theorem zGu (i j:Nat) (_e:Nat→Int):at1 i (-1) j=no j-zEH j i:=by
 unfold at1 no zEH;by_cases h:j=i
 · subst h;simp
 · rw [if_neg h,if_neg (fun e=>h e.symm)];simp
theorem zI9 {T:PT} (h:T.Inv) {d i:Nat} {n m:PN} {nm:ByteArray} (hn:zAe d T.nodes=some n) (hd:n.dir=true) (fA:zAe nm n.names=some i) (hm:zAe i T.nodes=some m) (fB:m.names=[]):((T.clr d nm).less i).Inv:=by
 have hiD:i≠d:=fun e=>h.gr.loop hn (e▸fA);rw [zCt hn];have hG:=h.gr.clear hn hd fA;have hD:(T.upd d (n.clear nm)).Dev (at1 i (-1)):=h.dev.clear h.gr.ok hn fA fun j=>zGu i j no;obtain⟨h1,h2,h3⟩:=hG.less hD ((zAl _ hiD).trans hm) (h.gr.ne1 hn fA) fB;refine⟨h1,h2,?_⟩;have h4:=PT.used_upd h.gr.ok.ris (n':=n.clear nm) hn;rw [zFh] at h4;have h5:=h.room
 have h6:((T.upd d (n.clear nm)).less i).inodes=T.inodes∧((T.upd d (n.clear nm)).less i).sectors=T.sectors:=by
  unfold PT.less
  split
  · split<;>exact⟨rfl,rfl⟩
  · exact⟨rfl,rfl⟩
 rw [h6.1,h6.2];omega
theorem zKs {T:PT} (h:T.Inv) (l:List ByteArray):(T.unlink l).1.Inv:=by
 have fA:=zDz h.wf l;unfold PT.unlink
 split
 · exact h
 · rename_i h0;obtain⟨n,m,hn,hd,fB,hm,-⟩:=fA (by simpa using h0)
   split
   · exact h
   · rename_i h1;rw [zAm hm] at h1;exact zI9 h hn hd fB hm ((h.gr.ok.get hm).1.df (by simpa using h1)).2
theorem inv_rmdir {T:PT} (h:T.Inv) (l:List ByteArray):(T.rmdir l).1.Inv:=by
 have fA:=zDz h.wf l;unfold PT.rmdir
 split
 · exact h
 · rename_i h0;obtain⟨n,m,hn,hd,fB,hm,-⟩:=fA (by simpa using h0)
   split
   · exact h
   · split
     · exact h
     · rename_i h1 h2;rw [zAn hm] at h2;exact zI9 h hn hd fB hm (List.eq_nil_of_length_eq_zero (by omega))
theorem zH1 {T:PT} {e:Nat→Int} (h:T.Gr) (hv:T.Dev e) (hr:T.used+T.inodes+1≤T.sectors) {d i:Nat} {n m:PN} {nm:ByteArray} (hn:zAe d T.nodes=some n) (hd:n.dir=true) (hp:(T.place n).2=0) (hc:chk nm=true) (h0:zAe nm n.names=none) (hm:zAe i T.nodes=some m) (hi:i≠1)
 (hk:∃ rk:Nat→Nat,T.Ranked rk∧(T.isDir i=true→rk d<rk i)) {e':Nat→Int} (he:∀ j,e' j=e j+zEH j i) :
 (T.upd d (n.set (T.place n).1 nm i)).Gr∧(T.upd d (n.set (T.place n).1 nm i)).Dev e'∧(T.upd d (n.set (T.place n).1 nm i)).used+T.inodes+1≤T.sectors:=by
 have hw:=PT.wf_of h hv;have fA:=(h.ok.get hn).1;have hf:n.Fit (T.place n).1 nm:=zBs fA hp;have fB:=h.ok.ino;have fC:=(h.ok.get hm).2;refine⟨h.set hn hd hf hc hm hi (zCs hw hn hd hf (zCX hc) (by omega)) hk,hv.set h.ok hn _ _ _ fun j=>by rw [zEJ h0,he];simp,?_⟩;have h1:=PT.used_upd h.ok.ris (n':=n.set (T.place n).1 nm i) hn;have h2:=zKr fA hd hr hp nm i;omega
theorem zJm {T T':PT} (n:PN) (h1:T'.sectors=T.sectors) (h2:T'.inodes=T.inodes) (h3:T'.used=T.used):T'.place n=T.place n:=by
 unfold PT.place PT.room;rw [h1,h2,h3]
theorem inv_link {T:PT} (h:T.Inv) (l m:List ByteArray) (hc:∀ x∈m,chk x=true):(T.link l m).1.Inv:=by
 have fB:=zBu h.wf m;have fC:=zBT h.wf l 1 (let ⟨n,h,_⟩:=h.wf.root;⟨n,h⟩);unfold PT.link
 split
 · exact h
 rename_i h0;obtain⟨x,hx⟩:=fC (by simpa using h0)
 split
 · exact h
 rename_i h1;obtain⟨n,hn,hd⟩:=fB (by simpa using h1);rw [zAn hn,zAn hx,zAm hx]
 split
 · exact h
 rename_i h2
 split
 · exact h
 rename_i h3
 split
 · exact h
 rename_i h4
 split
 · exact h
 rename_i h5
 have fA:x.dir=false:=by simpa using h3
 have hp:(T.place n).2=0:=by simpa using h5
 have fG:zAe (zAM m) n.names=none:=by simpa using h2
 have fH:(T.last m).1≠(T.walk l 1).1:=fun e=>by
  rw [e,hx] at hn;rw [AH hn,hd] at fA;cases fA
 have fI:(T.walk l 1).1≠1:=fun e=>by
  obtain⟨r,hr,fJ⟩:=h.gr.root;rw [e,hr] at hx;rw [←AH hx,fJ] at fA;cases fA
 have fD:m≠[]:=fun e=>by
  unfold PT.last at h1;rw [if_pos e] at h1;exact h1 (by simp)
 have fK:chk (zAM m)=true:=by
  unfold zAM;rw [Ar,As fD];exact hc _ (At fD)
 generalize (T.last m).1=d at *;generalize (T.walk l 1).1=i at *;unfold PT.linksUp;rw [zAn hx];have fM:=(h.gr.ok.get hx).1.links;have hG:=h.gr.turn (n':={x with links:=x.links+1}) hx rfl rfl rfl ((h.gr.ok.get hx).1.lnk (by omega))
 have hD:(T.upd i {x with links:=x.links+1}).Dev (at1 i (-1)):=h.dev.turn h.gr.ok hx rfl rfl (by simp) (fun e=>by rw [fA] at e;cases e) (fun _=>by simp only [at1,no,if_true];omega) fun j hj=>by simp [at1,no,hj]
 have hU:(T.upd i {x with links:=x.links+1}).used=T.used:=by
  have:=PT.used_upd h.gr.ok.ris (n':={x with links:=x.links+1}) hx;have e:({x with links:=x.links+1}:PN).count=x.count:=rfl;omega
 have fE:zAe d (T.upd i {x with links:=x.links+1}).nodes=some n:=(zAl _ fH).trans hn;rw [zCl fE];have fF:=zJm (T:=T) (T':=T.upd i {x with links:=x.links+1}) n rfl rfl hU;rw [←fF];obtain⟨rk,fL⟩:=hG.rank
 obtain⟨a1,a2,a3⟩:=zH1 (e':=no) hG hD (by rw [hU];exact h.room) fE hd (by rw [fF];exact hp) fK fG (zA6 _ _) fI ⟨rk,fL,fun e=>by rw [zDX (n':={x with links:=x.links+1}) hx rfl,zAm hx,fA] at e;cases e⟩ fun j=>by
  have:=zGu i j no;omega
 exact⟨a1,a2,a3⟩
theorem PT.Gr.new {T:PT} (h:T.Gr) {i:Nat} {n:PN} (hg:zAe i T.nodes=none) (hi:1≤i∧i≤T.inodes) (hn:n.names=[]) (ho:n.Ok):(T.upd i n).Gr:=by
 have hr:∀ j,(T.upd i n).refs j=T.refs j:=fun j=>by
  have:=PT.refs_new h.ok.ris (n':=n) hg j;rw [PN.refs_nil hn] at this;omega
 have fA:∀ {j x nm v},zAe j (T.upd i n).nodes=some x→zAe nm x.names=some v→zAe j T.nodes=some x∧v≠i:=fun {j x nm v} h1 h2=>by
  rcases zBb h1 with ⟨_,rfl⟩ | ⟨_,h3⟩
  · rw [hn] at h2;cases h2
  · refine⟨h3,?_⟩;rintro rfl;obtain⟨y,hy⟩:=h.ents _ _ _ _ h3 h2;rw [hg] at hy;cases hy
 refine⟨h.ok.upd ho hi,?_,fun j x nm v h1 h2=>?_,fun j x nm v h1 h2=>h.slotn _ _ _ _ (fA h1 h2).1 h2,?_,fun j x nm v h1 h2=>h.names _ _ _ _ (fA h1 h2).1 h2,by rw [hr];exact h.root0⟩
 · obtain⟨m,h1,h2⟩:=h.root;refine⟨m,?_,h2⟩;rw [zAl]
   · exact h1
   · rintro rfl;rw [hg] at h1;cases h1
 · obtain⟨y,hy⟩:=h.ents _ _ _ _ (fA h1 h2).1 h2;exact zCC hy
 · obtain⟨rk,fB⟩:=h.rank;refine⟨rk,fun j x nm v h1 h2 h3=>fB _ _ _ _ (fA h1 h2).1 h2 ?_⟩;unfold PT.isDir at h3 ⊢;rw [zAl _ (fA h1 h2).2] at h3;exact h3
theorem PT.Gr.unnamed {T:PT} (h:T.Gr) {i:Nat} (hg:zAe i T.nodes=none):T.refs i=0:=by
 by_cases e:T.refs i=0
 · exact e
 · obtain⟨j,n,nm,h1,h2⟩:=(PT.refs_pos h.ok).1 e;obtain⟨y,hy⟩:=h.ents _ _ _ _ h1 h2;rw [hg] at hy;cases hy
theorem zJq {T:PT} (h:T.Inv) (l:List ByteArray) (dir:Bool) (made:Nat) (hm:made≤1099511627776) (hc:∀ x∈l,chk x=true):(T.make l dir made).1.Inv:=by
 have fA:=zBu h.wf l;unfold PT.make
 split
 · exact h
 rename_i h1;obtain⟨n,hn,hd⟩:=fA (by simpa using h1);rw [zAn hn]
 split
 · exact h
 rename_i h2
 split
 · exact h
 rename_i h3
 split
 · exact h
 rename_i h5
 have hp:(T.place n).2=0:=by simpa using h5
 have fF:zAe (zAM l) n.names=none:=by simpa using h2
 obtain⟨f1,f2,f3⟩:=zG3 h3
 have fB:l≠[]:=fun e=>by
  unfold PT.last at h1;rw [if_pos e] at h1;exact h1 (by simp)
 have fG:chk (zAM l)=true:=by
  unfold zAM;rw [Ar,As fB];exact hc _ (At fB)
 generalize (T.last l).1=d at *;generalize T.free=i at *
 have fC:d≠i:=by rintro rfl;rw [f3] at hn;cases hn
 have hG:=h.gr.new (n:=zCR dir made) f3 ⟨by omega,f2⟩ rfl (zIi dir hm)
 have hR:∀ j,(T.upd i (zCR dir made)).refs j=T.refs j:=fun j=>by
  have:=PT.refs_new h.gr.ok.ris (n':=zCR dir made) f3 j;rw [PN.refs_nil rfl] at this;omega
 have hD:(T.upd i (zCR dir made)).Dev (at1 i (-1)):=fun j m hj=>by
  rcases zBb hj with ⟨rfl,rfl⟩ | ⟨h7,h6⟩
  · refine⟨Nat.le_refl _,fun _=>rfl,fun _=>?_⟩;rw [hR,h.gr.unnamed f3];simp [at1,zCR]
  · obtain⟨b1,b2,b3⟩:=h.dev j m h6;refine⟨b1,b2,fun b4=>?_⟩;rw [hR,b3 b4];simp [at1,no,h7]
 have hU:(T.upd i (zCR dir made)).used=T.used:=by
  have:=PT.used_new h.gr.ok.ris (n':=zCR dir made) f3
  have e:(zCR dir made).count=0:=by cases dir<;>rfl
  omega
 have fD:zAe d (T.upd i (zCR dir made)).nodes=some n:=(zAl _ fC).trans hn;rw [zCl fD];have fE:=zJm (T:=T) (T':=T.upd i (zCR dir made)) n rfl rfl hU;rw [←fE];obtain⟨rk,fH⟩:=hG.rank
 have fI:∀ {j x nm v},zAe j (T.upd i (zCR dir made)).nodes=some x→zAe nm x.names=some v→j≠i∧v≠i:=fun {j x nm v} b1 b2=>by
  rcases zBb b1 with ⟨_,rfl⟩ | ⟨b4,b3⟩
  · cases b2
  · refine⟨b4,?_⟩;rintro rfl;obtain⟨y,hy⟩:=h.gr.ents _ _ _ _ b3 b2;rw [f3] at hy;cases hy
 obtain⟨a1,a2,a3⟩:=zH1 (e':=no) hG hD (by rw [hU];exact h.room) fD hd (by rw [fE];exact hp) fG fF (zA6 _ _) (by omega) ⟨fun x=>if x=i then rk d+1 else rk x,fun j x nm v b1 b2 b3=>by
  obtain⟨b4,b5⟩:=fI b1 b2
  show (if j=i then rk d+1 else rk j)<if v=i then rk d+1 else rk v
  rw [if_neg b4,if_neg b5]
  exact fH _ _ _ _ b1 b2 b3,fun _=>by show (if d=i then rk d+1 else rk d)<if i=i then rk d+1 else rk i;rw [if_neg fC,if_pos rfl];omega⟩ fun j=>by
  have:=zGu i j no;omega
 exact⟨a1,a2,a3⟩
theorem und_snoc {T:PT} {i j v:Nat} {n:PN} {nm:ByteArray} (h:T.Und j i) (hg:zAe j T.nodes=some n) (hv:zAe nm n.names=some v) (hd:T.isDir v=true):T.Und v i:=by
 induction h with
 | here=>exact .step hg hv hd .here
 | step h1 h2 h3 _ ih=>exact .step h1 h2 h3 ih
open Classical in
theorem rank_move {T:PT} {rk:Nat→Nat} (h:T.Ranked rk) {t i:Nat} (hu:¬T.Und t i):∃ rk':Nat→Nat,T.Ranked rk'∧rk' t<rk' i:=by
 refine⟨fun y=>rk y+if T.Und y i then rk t+1 else 0,fun j n nm v h1 h2 h3=>?_,?_⟩
 · have:=h j n nm v h1 h2 h3;simp only;by_cases e:T.Und j i
   · rw [if_pos e,if_pos (und_snoc e h1 h2 h3)];omega
   · rw [if_neg e];omega
 · simp only;rw [if_neg hu,if_pos .here];omega
theorem clr_inv {T:PT} {i:Nat} {e:Nat→Int} (h:T.Gr) (hv:T.Dev e) {d:Nat} {n:PN} {nm:ByteArray} (hn:zAe d T.nodes=some n) (hd:n.dir=true) (hi:zAe nm n.names=some i) {e':Nat→Int} (he:∀ j,e' j=e j-zEH j i) :
 (T.clr d nm).Gr∧(T.clr d nm).Dev e'∧(T.clr d nm).used=T.used:=by
 rw [zCt hn];refine⟨h.clear hn hd hi,hv.clear h.ok hn hi he,?_⟩;have:=PT.used_upd h.ok.ris (n':=n.clear nm) hn;rw [zFh] at this;omega
theorem zF2 (i j:Nat):at1 i 1 j=no j+zEH j i:=by
 unfold at1 no zEH;by_cases h:j=i
 · subst h;simp
 · rw [if_neg h,if_neg (fun e=>h e.symm)];simp
theorem zIJ {T:PT} {d t k i:Nat} {n nt:PN} {old nm:ByteArray} (hn:zAe d T.nodes=some n) (hd:n.dir=true) (ho:zAe old n.names=some i) (ht:zAe t T.nodes=some nt) (fA:d=t→old≠nm):∃ n1,zAe d (T.upd t (nt.set k nm i)).nodes=some n1∧n1.dir=true∧zAe old n1.names=some i:=by
 by_cases e:d=t
 · subst e;have:=AH (hn.symm.trans ht);subst this;refine⟨_,zA6 _ _,hd,?_⟩
   show zAe old (zA2 zAV nm i n.names)=some i
   rw [zAi zAV i (fA rfl)];exact ho
 · exact⟨n,(zAl _ e).trans hn,hd,ho⟩
theorem zIL {T:PT} (h:T.Inv) {d t i:Nat} {n nt x:PN} {old nm:ByteArray} (hn:zAe d T.nodes=some n) (hd:n.dir=true) (ho:zAe old n.names=some i) (ht:zAe t T.nodes=some nt) (fA:nt.dir=true) (hx:zAe i T.nodes=some x)
 (hp:(T.place nt).2=0) (hc:chk nm=true) (h0:zAe nm nt.names=none) (hk:∃ rk:Nat→Nat,T.Ranked rk∧(T.isDir i=true→rk t<rk i)):((T.ins t (T.place nt).1 nm i).clr d old).Inv:=by
 rw [zCl ht];obtain⟨a1,a2,a3⟩:=zH1 (e':=at1 i 1) h.gr h.dev h.room ht fA hp hc h0 hx (h.gr.ne1 hn ho) hk fun j=>zF2 i j
 have fB:d=t→old≠nm:=fun e e2=>by
  subst e;subst e2;have:=AH (hn.symm.trans ht);subst this;rw [ho] at h0;cases h0
 obtain⟨n1,b1,b2,b3⟩:=zIJ (k:=(T.place nt).1) hn hd ho ht fB
 obtain⟨c1,c2,c3⟩:=clr_inv (e':=no) a1 a2 b1 b2 b3 fun j=>by have:=zF2 i j;omega
 have h6:∀ (T:PT) d nm,(T.clr d nm).inodes=T.inodes∧(T.clr d nm).sectors=T.sectors:=fun T d nm=>by
  unfold PT.clr
  split<;>exact⟨rfl,rfl⟩
 refine⟨c1,c2,?_⟩;rw [c3,(h6 _ _ _).1,(h6 _ _ _).2];exact a3
theorem inv_over {T:PT} (h:T.Inv) {d t i j k:Nat} {n nt x y:PN} {old nm:ByteArray} (hn:zAe d T.nodes=some n) (hd:n.dir=true) (ho:zAe old n.names=some i) (ht:zAe t T.nodes=some nt) (fB:nt.dir=true) (hx:zAe i T.nodes=some x) (fC:x.dir=false)
 (hk:zAh nm nt.slots=some k) (hj:zAe nm nt.names=some j) (hy:zAe j T.nodes=some y) (fA:y.dir=false) (fD:i≠j):(((T.ins t k nm i).clr d old).less j).Inv:=by
 rw [zCl ht];have hw:=h.wf;have hc:=h.gr.names _ _ _ _ ht hj;have hf:nt.Fit k nm:=.inr (.inr ⟨by rw [hj];rfl,(zAR hk).2⟩);have fJ:=h.gr.ok.ino;have fK:=(h.gr.ok.get hx).2;obtain⟨rk,fE⟩:=h.gr.rank;have a1:=h.gr.set ht fB hf hc hx (h.gr.ne1 hn ho) (zCs hw ht fB hf (zCX hc) (by omega)) ⟨rk,fE,fun e=>by rw [zAm hx,fC] at e;cases e⟩
 have a2:(T.upd t (nt.set k nm i)).Dev (fun q=>at1 i 1 q-zEH q j):=h.dev.set h.gr.ok ht _ _ _ fun q=>by
  rw [zCJ hj];have:=zF2 i q;omega
 have fF:d=t→old≠nm:=fun e e2=>by
  subst e;subst e2;have:=AH (hn.symm.trans ht);subst this;rw [ho] at hj;exact fD (AH hj)
 obtain⟨n1,b1,b2,b3⟩:=zIJ (k:=k) hn hd ho ht fF
 obtain⟨c1,c2,c3⟩:=clr_inv (e':=at1 j (-1)) a1 a2 b1 b2 b3 fun q=>by
  have:=zF2 i q;have:=zGu j q no;simp only [no] at *;omega
 have fG:j≠t:=fun e=>by subst e;rw [ht] at hy;rw [←AH hy,fB] at fA;cases fA
 have fH:j≠d:=fun e=>by subst e;rw [hn] at hy;rw [←AH hy,hd] at fA;cases fA
 have fI:zAe j ((T.upd t (nt.set k nm i)).clr d old).nodes=some y:=by
  rw [zCt b1,zAl _ fH,zAl _ fG];exact hy
 obtain⟨d1,d2,d3⟩:=c1.less c2 fI (h.gr.ne1 ht hj) ((h.gr.ok.get hy).1.df fA).2
 have h6:∀ (T:PT) d nm,(T.clr d nm).inodes=T.inodes∧(T.clr d nm).sectors=T.sectors:=fun T d nm=>by
  unfold PT.clr
  split<;>exact⟨rfl,rfl⟩
 have h7:∀ (T:PT) d,(T.less d).inodes=T.inodes∧(T.less d).sectors=T.sectors:=fun T d=>by
  unfold PT.less
  split
  · split<;>exact⟨rfl,rfl⟩
  · exact⟨rfl,rfl⟩
 refine⟨d1,d2,?_⟩;rw [(h7 _ _).1,(h7 _ _).2,(h6 _ _ _).1,(h6 _ _ _).2];have e1:=PT.used_upd h.gr.ok.ris (n':=nt.set k nm i) ht
 have e2:(nt.set k nm i).count=nt.count:=by
  have:=(zAR hk).1;unfold AF AG PN.set;simp only [if_neg (Nat.ne_of_lt this),An]
 have e3:=h.room
 show _+T.inodes+1≤T.sectors
 omega
theorem zCv {T:PT} {m:List ByteArray} (h:(T.last m).2=0) (hc:∀ x∈m,chk x=true):chk (zAM m)=true:=by
 have fA:m≠[]:=fun e=>by
  unfold PT.last at h;rw [if_pos e] at h;cases h
 unfold zAM;rw [Ar,As fA];exact hc _ (At fA)
theorem zKg {T:PT} (h:T.Inv) (l m:List ByteArray) (hc:∀ x∈m,chk x=true):(T.rename l m).1.Inv:=by
 have fB:=zBu h.wf l;have fA:=zBu h.wf m;have fG:=zCv (T:=T) (m:=m);unfold PT.rename
 split
 · exact h
 rename_i h1
 split
 · exact h
 rename_i h2;obtain⟨n,hn,hd⟩:=fB (by simpa using h1);obtain⟨nt,ht,fC⟩:=fA (by simpa using h2);have fE:=fG (by simpa using h2) hc;rw [zAn hn,zAn ht];generalize (T.last l).1=d at *;generalize (T.last m).1=t at *;generalize zAM l=old at *;generalize zAM m=nm at *
 cases hi:zAe old n.names with
 | none=>exact h
 | some i =>
  simp only;obtain⟨x,hx⟩:=h.gr.ents _ _ _ _ hn hi;rw [zAm hx]
  split
  · exact h
  rename_i h3
  split
  · rename_i h4
    split
    · exact h
    rename_i h5
    split
    · exact h
    rename_i h6
    split
    · exact h
    rename_i h7;obtain⟨rk,fD⟩:=h.gr.rank;obtain⟨rk',fH,fI⟩:=rank_move fD h6;exact zIL h hn hd hi ht fC hx (by simpa using h7) fE (by simpa using h5) ⟨rk',fH,fun _=>fI⟩
  · rename_i h4
    have fF:x.dir=false:=by simpa using h4
    cases hj:zAe nm nt.names with
    | none =>
     simp only
     split
     · exact h
     split
     · exact h
     rename_i h7;obtain⟨rk,fD⟩:=h.gr.rank;exact zIL h hn hd hi ht fC hx (by simpa using h7) fE hj ⟨rk,fD,fun e=>by rw [zAm hx,fF] at e;cases e⟩
    | some j =>
     simp only;obtain⟨y,hy⟩:=h.gr.ents _ _ _ _ ht hj;rw [zAm hy]
     split
     · exact h
     rename_i h5
     split
     · exact h
     rename_i h6
     split
     · exact h
     obtain⟨k,hk⟩:=h.gr.slotn _ _ _ _ ht hj;rw [hk];exact inv_over h hn hd hi ht fC hx fF hk hj hy (by simpa using h5) h6
theorem zJH {n:PN} (h:n.Ok) (hd:n.dir=false) {off:Nat} {ds:List UInt8} (ho:off+ds.length≤136704):(n.wrote off ds).Ok:=by
 have hk:=h.dOk.wrB (q:=off) (bs:=ds) ho;refine⟨hk.keys,hk.dlen,hk.secs,h.slots,h.links,?_,h.made,h.nm,h.nlen,fun e=>?_,h.df,h.nris,hk.ris⟩
 · have:=h.size;unfold PN.wrote;simp only
   split<;>omega
 · have e':n.dir=true:=e;rw [hd] at e';cases e'
theorem inv_write {T:PT} (h:T.Inv) {i:Nat} {n:PN} (hg:zAe i T.nodes=some n) (hd:n.dir=false) (off:Int) (ds:List UInt8):(T.write i off ds).1.Inv:=by
 unfold PT.write
 split
 · exact h
 rename_i h1;simp only;rw [zAn hg]
 split
 · rename_i h2;have h3:=h.room;exact h.turn hg rfl rfl rfl rfl (zJH (h.gr.ok.get hg).1 hd (by omega)) (by omega)
 · exact h
theorem cut_ok {n:PN} (h:n.Ok) {size:Nat} (hs:size≤136704):(n.cut size).Ok:=by
 have hm:∀ p∈zAI size n.data,(∃ s,(p.1,s)∈n.data)∧p.2.length=128:=fun p hp=>by
  unfold zAI at hp;obtain⟨q,hq,h1⟩:=List.mem_filterMap.1 hp;have fA:=h.secs q hq;unfold zIm at h1
  split at h1
  · cases h1
  · rename_i h2;simp only [Option.map_some,Option.some.injEq] at h1;subst h1;refine⟨⟨q.2,hq⟩,?_⟩;simp only
    split
    · exact cut_len size q.1 q.2 fA (by omega) (by omega)
    · exact fA
 refine⟨fun p hp=>?_,?_,fun p hp=>(hm p hp).2,h.slots,h.links,hs,h.made,h.nm,h.nlen,fun e=>?_,h.df,h.nris,ris_cut h.dris⟩
 · obtain⟨⟨s,h1⟩,_⟩:=hm p hp;exact h.keys (p.1,s) h1
 · exact Nat.le_trans (List.length_filterMap_le _ _) h.dlen
 · show zAI size n.data=[]
   rw [h.dd e];rfl
theorem cut_count {n:PN} (h:n.Ok) (hd:n.dir=false) (size:Nat) (hs:size≤136704):(n.cut size).count≤n.count:=by
 rw [zFp h hd,zFp (cut_ok h hs) hd];refine cntK_mono (zEF (cut_ok h hs).dris) fun k hk=>?_;obtain⟨p,hp,rfl⟩:=Au.1 hk;have fA:p∈zAI size n.data:=hp;unfold zAI at fA;obtain⟨q,hq,h1⟩:=List.mem_filterMap.1 fA
 cases hc:zIm size q.1 q.2 with
 | none=>rw [hc] at h1;cases h1
 | some s =>
  rw [hc] at h1;simp only [Option.map_some,Option.some.injEq] at h1;rw [←h1];exact Au.2 ⟨q,hq,rfl⟩
def PT.trunc (T:PT) (i:Nat) (off:Int):PT×Nat:=if off<0∨136704<off then (T,101) else (T.upd i ((T.node i).cut off.toNat),0)
theorem inv_trunc {T:PT} (h:T.Inv) {i:Nat} {n:PN} (hg:zAe i T.nodes=some n) (hd:n.dir=false) (off:Int):(T.trunc i off).1.Inv:=by
 unfold PT.trunc
 split
 · exact h
 rename_i h1;rw [zAn hg];have h2:=cut_count (h.gr.ok.get hg).1 hd off.toNat (by omega);have h3:=h.room;exact h.turn hg rfl rfl rfl rfl (cut_ok (h.gr.ok.get hg).1 (by omega)) (by omega)
end Go.Proofs.YtolpcfhfcdkokaaGreatDoor
