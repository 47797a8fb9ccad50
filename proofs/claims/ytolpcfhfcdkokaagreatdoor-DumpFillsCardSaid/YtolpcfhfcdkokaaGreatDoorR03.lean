/- Joined out of Enc..SCount. -/
import Derived.OrdersHeld
import Derived.Test.YtolpcfhfcdkokaaGreatDoorR02
set_option maxHeartbeats 16000000
set_option maxRecDepth 100000
set_option linter.unusedSimpArgs false
set_option linter.unusedVariables false
namespace Go.Proofs.YtolpcfhfcdkokaaGreatDoor
open Lib (hid)
open Proofs.Tryz renaming zeroCells187 → Aa,prog → Ab,underlying187 → Ac,underlying5 → Ad,underlying64 → Ae,underlying9 → Af,underlying123 → Ag,underlying3 → Ah,underlying158 → Ai,underlying107 → Aj,underlying96 → Ak
open Blk renaming new → Al
open List renaming size_toArray → Am,length_append → An,length_take → Ao,length_drop → Ap,drop_eq_getElem_cons → Aq,take_succ_eq_append_getElem → Ar,set_append_right → As,set_cons_zero → At,append_assoc → Au,getElem?_eq_getElem → Av,length_set → Aw,mem_cons_self → Ax,mem_range → Ay,drop_of_length_le → Az,nil_append → AA,getElem?_eq_none → AB,getElem_mem → AC,getElem_of_mem → AD,length_map → AE,mem_cons → AF,getElem_toArray → AG,getElem_cons_succ → AH,getElem_cons_zero → AI,setIfInBounds_toArray → AJ,set_cons_succ → AK,foldl_cons → AL,length_cons → AM,mem_append → AN,mem_singleton → AO,mem_map → AP,range → AQ,length_range → AR,length_singleton → AS,getElem?_eq_some_iff → AT,filter_congr → AU,filter_cons → AV,any_append → AW,any_eq_true → AX
open _root_.Array renaming length_toList → AY
open Go renaming wpList_load_row → AZ,setRow_other → B0,setRow_heap → B1,wpList_store_row → B2,bodyPost_ret → B3,wp_load_row → B4,wpList_load_mid → B5,yieldsIf_load_mid → B6,wpAnyH_ready → B7,results_cell_row → B8
open Chg renaming refl → B9,of_fresh → Ba
open Nat renaming zero_le → Bb,le_refl → Bc,le_of_lt → Bd,lt_or_ge → Be,lt_of_lt_of_le → Bf,le_trans → Bg
open Bool renaming false_eq_true → Bh
open RowKit.Below renaming refl → Bi
open Act renaming put → Bj
open AllReadyH renaming cons → Bk,nil → Bl
open World renaming block_lt_of_cell? → Bm
open Option.some renaming inj → Bn
open IntWalk renaming i64_in → Bo
open Go.RowKit
def zBD:List UInt8:=List.replicate 128 0
theorem zAs:zBD.length=128:=List.length_replicate
theorem zeroSec:Tryz.zeroCells187.toList=bvs zBD:=by kernel_rfl
theorem zeroSecA:Aa=(bvs zBD).toArray:=by rw [←zeroSec]
theorem zBf {w:World} {g:Nat} (h:w.heap.size=g):Blk (w.alloc (.cells Aa 187)) g 187 (bvs zBD):=by
 rw [zeroSecA,←h];exact Al w 187 (bvs zBD)
theorem zAD {s:List UInt8} (h:s.length=128):(Tryz.prog.info? 187).map (·.size)=some (bvs s).toArray.size:=by rw [zA9,Am,zAc,h]
def encS (i:Nat) (nm:ByteArray):List UInt8 :=
 let s:=zJD (zJD zBD 0 4 i) 4 1 nm.size
 s.take 5++(nm.data.toList++s.drop (5+nm.size))
theorem enc_step {s3 ys:List UInt8} {nm:ByteArray} {k:Nat} (h:ys=s3.take 5++(nm.data.toList.take k++s3.drop (5+k))) (hl:ys.length=128) (hk:k<nm.size) (fB:nm.size≤40) :
 Hid (ys.set (5+k) nm[k]=s3.take 5++(nm.data.toList.take (k+1)++s3.drop (5+(k+1)))):=by
 show _=_
 have fC:nm.data.toList.length=nm.size:=by rw [AY];rfl
 have fA:5+k<s3.length:=by
  have:=congrArg List.length h;rw [hl,An,An,Ao,Ao,Ap] at this;omega
 have e:s3.drop (5+k)=s3[5+k]::s3.drop (5+(k+1)):=Aq fA
 have e2:nm.data.toList.take (k+1)=nm.data.toList.take k++[nm[k]]:=by
  rw [Ar (by omega)];rfl
 rw [h,e,e2,As _ _ (by rw [Ao];omega),Ao,show 5+k-min 5 s3.length=k by omega,As _ _ (by rw [Ao];omega),Ao,show k-min k nm.data.toList.length=0 by omega,At,Au];rfl
theorem zAz {fn:Func} {p u:Tmp} {ty:TypeId} {P:Program} (h:fn.results=#[.cell p ty,.tmp u]) (tmps:Array Value) (w:World) (g:Nat) (t:TypeId) (cs:Array Value) (fr:Nat×Nat) (d:TypeDesc)
 (hp:tmps.getD p undef=.pointer (some ⟨g,0,none⟩)) (hg:w.heap[g]? = some (.cells cs t fr))
 (hu:P.underlying ty=some d) (hd:d.isRow=true) (hi:(P.info? ty).map (·.size)=some cs.size) :
 (results fn tmps).run P w=.ok (.tuple #[.agg cs,tmps.getD u undef]) w:=by
 have fA:tmps[p]?.getD undef=.pointer (some ⟨g,0,none⟩):=by simpa using hp
 have hl:=run_loadVar_row (P:=P) w g t ty cs fr d hg hu (by cases d<;>simp_all [TypeDesc.isRow]) hi;simp [results,h,fA,asAddr,hl]
def zEo (i:Nat) (nm:ByteArray):Prop:=1≤i∧i≤512∧nameOk nm
theorem zC5 (i:Nat) (nm:ByteArray) (w:World) (h:zEo i nm) :
 Calls Ab 136 #[.agg #[.int .i64 i,.string nm]] w fun e w'=>e=.returned (.tuple #[zB6 (encS i nm),.int .i64 0])∧Below w.heap.size w w':=by
 obtain⟨h1,h2,hn⟩:=h;have gO:=hn.1.2;have gP:=hn.1.1
 have i0:((i:Int)==0)=false:=by simp;omega
 have gF:=hid (show inB (i:Int) 1 512=true from decide_eq_true ⟨by omega,by omega⟩);go_enter Tryz.func136,Tryz.ntmps136;go_wp2_with fail;refine (zFs _ _ _ _).mono ?_;rintro e w' ⟨rfl,rfl⟩;rw [gF.o];go_wp2_with fail;refine (zJP nm _ hn).mono ?_;rintro e w' ⟨rfl,rfl⟩;go_upto_region 6 with (fail)
 have hX:Blk (((w.alloc (.cells #[.int .i64 i,.string nm] 179)).alloc (.cells Aa 187)).alloc (.cells Aa 187)) w.heap.size 179 [.int .i64 i,.string nm] :=
  ((Al w 179 [.int .i64 i,.string nm]).alloc _).alloc _
 have hR:Blk (((w.alloc (.cells #[.int .i64 i,.string nm] 179)).alloc (.cells Aa 187)).alloc (.cells Aa 187)) (w.heap.size+1) 187 (bvs zBD):=(zBf (w:=w.alloc (.cells #[.int .i64 i,.string nm] 179)) (by simp)).alloc _;have hS:Blk (((w.alloc (.cells #[.int .i64 i,.string nm] 179)).alloc (.cells Aa 187)).alloc (.cells Aa 187)) (w.heap.size+1+1) 187 (bvs zBD):=zBf (w:=((w.alloc (.cells #[.int .i64 i,.string nm] 179)).alloc (.cells Aa 187))) (by simp)
 have hb:Below w.heap.size w (((w.alloc (.cells #[.int .i64 i,.string nm] 179)).alloc (.cells Aa 187)).alloc (.cells Aa 187)) :=
  ((br.alloc nr _).alloc (by simp) _).alloc (by simp;omega) _
 generalize ((w.alloc (.cells #[.int .i64 i,.string nm] 179)).alloc (.cells Aa 187)).alloc (.cells Aa 187)=w0 at *;generalize hg:w.heap.size=g at *;have gG:=hid hg;clear hg;have x0:w0.cell? ⟨g,0,none⟩=some (.int .i64 i):=hX.cell 0;have x1:w0.cell? ⟨g,1,none⟩=some (.string nm):=hX.cell 1
 go_wp2_with (first
  | (refine AZ rfl 187 (.tmp 4) rfl (g+1+1) rfl 187 (bvs zBD).toArray (0,0) _ hS Ac rfl (zAD zAs) ?_))
 have fV:=lay_any zBD 0 4 i w0 zAs (by omega) (by omega) (by omega);have fA:=zDn zBD 0 4 i (by rw [zAs];omega);rw [zAs] at fA;generalize fW:zJD zBD 0 4 i=s1 at *;have fM:=hid fW;clear fW;refine fV.mono ?_;rintro e w1 ⟨rfl,fC⟩;have fN:=hX.fresh fC;have fX:=hR.fresh fC;have fO:=hS.fresh fC;have gQ:=hS.lt;have fD:=hb.trans (fC.mono (by omega));have gR:=fC.size;clear hX hR hS hb fC fV x0 x1;unfold zB6;have fI:=fN;have fJ:Blk (w1.setRow (g+1+1) (bvs s1).toArray) (g+1) 187 (bvs zBD):=(B0 w1 (g+1+1) (g+1) _ (by omega)).trans fX;have fI:Blk (w1.setRow (g+1+1) (bvs s1).toArray) g 179 [.int .i64 i,.string nm]:=(B0 w1 (g+1+1) g _ (by omega)).trans fN;have fK:Blk (w1.setRow (g+1+1) (bvs s1).toArray) (g+1+1) 187 (bvs s1):=B1 w1 (g+1+1) _ _ _ _ fO;have fE:=fD.trans (((B9 (fun b=>b=g+1+1) w1).setRow (g:=g+1+1) (fun _=>rfl) (bvs s1).toArray).below (B:=g) (by omega) (fun b hb e=>by omega));have y1:(w1.setRow (g+1+1) (bvs s1).toArray).cell? ⟨g,1,none⟩=some (.string nm):=fI.cell 1
 go_wp2_with (first
  | (refine B2 rfl 187 (.tmp 4) (.tmp 29) rfl (g+1+1) (bvs s1).toArray rfl rfl 187 _ fO (zAD fA) (by rw [Am,Am,zAc,zAc,zAs,fA]) (zBa s1) ?_)
  | (refine AZ rfl 187 (.tmp 4) rfl (g+1+1) rfl 187 (bvs s1).toArray (0,0) _ fK Ac rfl (zAD fA) ?_))
 generalize w1.setRow (g+1+1) (bvs s1).toArray=w2 at *;have fY:=lay_any s1 4 1 nm.size w2 fA (by omega) (by omega) (by omega);have fL:=zDn s1 4 1 nm.size (by omega);rw [fA] at fL;generalize fZ:zJD s1 4 1 nm.size=s3 at *;have fP:=hid fZ;clear fZ;refine fY.mono ?_;rintro e w3 ⟨rfl,fF⟩;have fQ:=fI.fresh fF;have gA:=fJ.fresh fF;have fR:=fK.fresh fF;have gH:=fK.lt;have fG:=fE.trans (fF.mono (by omega));clear fI fJ fK fF fY y1 fE fD fN fX fO;unfold zB6;have gB:Blk (w3.setRow (g+1+1) (bvs s3).toArray) (g+1) 187 (bvs zBD):=(B0 w3 (g+1+1) (g+1) _ (by omega)).trans gA;have gC:Blk (w3.setRow (g+1+1) (bvs s3).toArray) g 179 [.int .i64 i,.string nm]:=(B0 w3 (g+1+1) g _ (by omega)).trans fQ;have gD:Blk (w3.setRow (g+1+1) (bvs s3).toArray) (g+1+1) 187 (bvs s3):=B1 w3 (g+1+1) _ _ _ _ fR;have fH:=fG.trans (((B9 (fun b=>b=g+1+1) w3).setRow (g:=g+1+1) (fun _=>rfl) (bvs s3).toArray).below (B:=g) (by have:=fQ.lt;omega) (fun b hb e=>by omega))
 go_wp2_with (first
  | (refine B2 rfl 187 (.tmp 4) (.tmp 34) rfl (g+1+1) (bvs s3).toArray rfl rfl 187 _ fR (zAD fL) (by rw [Am,Am,zAc,zAc,fA,fL]) (zBa s3) ?_))
 generalize w3.setRow (g+1+1) (bvs s3).toArray=w4 at *;clear fQ gA fR fG
 go_loopw [5] (fun i wr=>∃ (k:Nat) (ys:List UInt8),k≤nm.size∧i=.int .i64 k∧Hid (ys=s3.take 5++(nm.data.toList.take k++s3.drop (5+k)))∧Blk wr (g+1+1) 187 (bvs ys)∧Hid (ys.length=128) ∧
  Blk wr (g+1) 187 (bvs zBD)∧wr.cell? ⟨g,1,none⟩=some (.string nm)∧Below g w wr) (fun i _=>nm.size-(intOf i).toNat)
 case atStart=>exact⟨0,s3,Bb _,rfl,by show _=_;simp,gD,fL,gB,gC.cell 1,fH⟩
 case round =>
  obtain⟨k,ys,hk,rfl,gE,hS,fB,hR,x1,hb⟩:=hrel;clear gC gB gD fH;by_cases gI:k<nm.size
  · have gJ:5+k<(bvs ys).length:=by rw [zAc,fB.o];omega
    have k1:=(hS.cell (5+k)).trans (Av gJ);have k2:=hS.frozen (5+k)
    have gK:Hid (Blk (wr.setCell ⟨g+1+1,5+k,none⟩ (.int .u8 (nm[k].toNat:Int))) (g+1+1) 187 (bvs (ys.set (5+k) nm[k]))):=by
     have:=hS.set_ (5+k) (.int .u8 (nm[k].toNat:Int));rw [show (bvs ys).set (5+k) (.int .u8 (nm[k].toNat:Int))=bvs (ys.set (5+k) nm[k]) by simp [bvs,List.map_set]] at this;exact this
    have fJ:=hid (hR.far (p:=⟨g+1+1,5+k,none⟩) (by simp) (.int .u8 (nm[k].toNat:Int)));have gL:=hid (hb.setCell (p:=⟨g+1+1,5+k,none⟩) (show g≤g+1+1 by omega) (.int .u8 (nm[k].toNat:Int)));have gM:Hid ((wr.setCell ⟨g+1+1,5+k,none⟩ (.int .u8 (nm[k].toNat:Int))).cell? ⟨g,1,none⟩=some (.string nm)):=(World.cell?_setCell_other wr _ _ _ (by simp)).trans x1;have gN:=enc_step gE.o fB.o gI (by omega)
    have fS:Hid ((ys.set (5+k) nm[k]).length=128):=by show _=_;rw [Aw];exact fB.o
    clear hS hR hb;generalize ys.set (5+k) nm[k]=ys2 at *;generalize (bvs ys)[5+k]=old at *;go_wp2;go_roundw
    case rel=>exact⟨k+1,ys2,by omega,by go_num,gN,gK.o,fS,fJ.o,gM.o,gL.o⟩
    case measure=>simp [intOf];omega
  · obtain rfl:k=nm.size:=by omega
    have fT:Hid (ys=encS i nm):=by
     show _=_
     rw [gE.o,←fP.o,←fM.o];unfold encS;rw [List.take_of_length_le (l:=nm.data.toList) (by rw [AY];exact Bc _)]
    go_wp2_with (first
     | (refine AZ rfl 187 (.tmp 4) rfl (g+1+1) rfl 187 (bvs ys).toArray (0,0) _ hS Ac rfl (zAD fB.o) ?_)
     | (refine B2 rfl 187 (.tmp 2) (.tmp 49) rfl (g+1) (bvs ys).toArray rfl rfl 187 _ hR (zAD fB.o) (by rw [Am,Am,zAc,zAc,zAs,fB.o]) (zBa ys) ?_))
    have fU:Blk (wr.setRow (g+1) (bvs ys).toArray) (g+1) 187 (bvs ys):=B1 wr (g+1) _ _ _ _ hR;refine B3 (zAz rfl _ _ (g+1) 187 (bvs ys).toArray (0,0) _ rfl fU Ac rfl (zAD fB.o)) rfl ⟨by rw [←fT.o];rfl,?_⟩;rw [gG.o];exact hb.trans (((B9 (fun b=>b=g+1) wr).setRow (g:=g+1) (fun _=>rfl) _).below (by have:=hR.lt;omega) (fun b hb e=>by omega))
theorem plainU8:Tryz.prog.plainKey 5=true:=by kernel_rfl
theorem cellsU8':Tryz.prog.cellsOf 5=1:=by kernel_rfl
theorem sec_eq {s:List UInt8} (hs:s.length=128) (w:World):(Op.equalIn 10000 187 (.agg (bvs s).toArray) (.agg (bvs s).toArray)).run Ab w=.ok true w:=by
 obtain⟨i0,hi,_,_,_⟩:=info_parts zCP;rw [show (10000:Nat)=9999+1 from rfl,run_equalIn_array w 9999 _ _ Ac hi,cellsU8']
 have h:∀ is:List Nat,(∀ i∈is,i<128)→(Op.eqItems 9999 5 1 (bvs s).toArray (bvs s).toArray is).run Ab w=.ok true w:=by
  intro is
  induction is with
  | nil=>intro _;simp [Op.eqItems]
  | cons i is ih =>
   intro fA
   have hi:i<s.length:=by rw [hs];exact fA i Ax
   have hp:(part 5 (bvs s).toArray (i * 1)).run Ab w=.ok (.int .u8 (s[i].toNat:Int)) w:=run_part_plain w plainU8 (by rw [Nat.mul_one,List.getElem?_toArray];exact zBK s i hi);have he:=run_equalIn_int (P:=Ab) w 9998 5 .u8 .u8 (s[i].toNat:Int) (s[i].toNat:Int) Ad;simp only [Op.eqItems,Sem.run_bind,hp,Result.andThen_ok,he,beq_self_eq_true,Bool.not_true,Bh,if_false];exact ih fun j hj=>fA j (List.mem_cons_of_mem _ hj)
 exact h _ fun i hi=>Ay.1 hi
theorem zJX:Tryz.prog.eqGuardType Tryz.prog.depth 187=false:=by kernel_rfl
theorem zAK {P:Program} {ops:Array Oper} {Q:Exit→Act→World→Prop} {a:Act} {w:World} {rest:List Oper} {o:Oper} (hw:Region.wanted o (yielded ops a.tmps)=true)
 (h:∀ K:Act→World→Prop,(∀ a' w',wpList P ops Q rest a' w'→K a' w')→o.wp P a w K Q):wpList P ops Q (o::rest) a w:=by
 exact wpList_step fun K hK=>by rw [if_pos hw];exact h K hK
theorem zEA (i:Nat) (nm:ByteArray) (h:nm.size≤40):encS i nm=zB2 i 4++(zB2 nm.size 1++(nm.data.toList++zBD.drop (5+nm.size))):=by
 have hS:zJD (zJD zBD 0 4 i) 4 1 nm.size=zB2 i 4++(zB2 nm.size 1++zBD.drop 5):=by
  have h1:zJD zBD 0 4 i=zB2 i 4++zBD.drop 4:=by simp [zJD]
  have hl:(zB2 (i:Int) 4).length=4:=zAY _ _;rw [h1];simp only [zJD];rw [List.take_left' hl,List.drop_append,hl,Az (by omega),AA,List.drop_drop]
 unfold encS;rw [hS];have fA:(zB2 (i:Int) 4).length=4:=zAY _ _;have fB:(zB2 (nm.size:Int) 1).length=1:=zAY _ _
 have e1:(zB2 (i:Int) 4++(zB2 nm.size 1++zBD.drop 5)).take 5=zB2 i 4++zB2 nm.size 1:=by
  rw [←Au,List.take_left' (by rw [An];omega)]
 have e2:(zB2 (i:Int) 4++(zB2 nm.size 1++zBD.drop 5)).drop (5+nm.size)=zBD.drop (5+nm.size):=by
  rw [←Au,List.drop_append,Az (by rw [An];omega),AA,An,List.drop_drop]
  congr 1
  omega
 show List.take 5 _++(_++List.drop (5+nm.size) _)=_
 rw [e1,e2,Au]
theorem zFU (i:Nat) (nm:ByteArray) (h:nm.size≤40):(encS i nm).length=128:=by
 have hn:nm.data.toList.length=nm.size:=by rw [AY];rfl
 rw [zEA i nm h];simp only [An,zAY,Ap,zAs,hn];omega
theorem enc_ino (i:Nat) (nm:ByteArray) (h:nm.size≤40) (hi:i≤512):zGG (((encS i nm).drop 0).take 4)=i:=by
 rw [zEA i nm h,List.drop_zero,List.take_left' (zAY _ _),zHC 4 _ (by omega),Int.emod_eq_of_lt (by omega) (by simp;omega)];rfl
theorem enc_size (i:Nat) (nm:ByteArray) (h:nm.size≤40):zGG (((encS i nm).drop 4).take 1)=nm.size:=by
 rw [zEA i nm h,List.drop_left' (zAY _ _),List.take_left' (zAY _ _),zHC 1 _ (by omega),Int.emod_eq_of_lt (by omega) (by simp;omega)];rfl
theorem enc_name (i:Nat) (nm:ByteArray) (h:nm.size≤40) (k:Nat) (hk:k<nm.size):(encS i nm)[5+k]? = some nm[k]:=by
 have hn:nm.data.toList.length=nm.size:=by rw [AY];rfl
 have e:encS i nm=(zB2 (i:Int) 4++zB2 nm.size 1)++(nm.data.toList++zBD.drop (5+nm.size)):=by rw [zEA i nm h,Au]
 have hl:(zB2 (i:Int) 4++zB2 (nm.size:Int) 1).length=5:=by rw [An,zAY,zAY]
 rw [e,List.getElem?_append_right (by omega),hl,show 5+k-5=k by omega,List.getElem?_append_left (by omega),Av (by omega)];rfl
theorem zEl (i:Nat) (nm:ByteArray) (s:List UInt8) (w:World) (jQ:nm.size≤40) (fA:s.length=128) (gE:zGG ((s.drop 0).take 4)=i) (gF:zGG ((s.drop 4).take 1)=nm.size)
 (fC:∀ k (hk:k<nm.size),s[5+k]? = some nm[k])
 (gG:∀ w:World,Calls Ab 136 #[.agg #[.int .i64 i,.string nm]] w fun e w'=>e=.returned (.tuple #[zB6 s,.int .i64 0])∧Below w.heap.size w w') :
 Calls Ab 118 #[zB6 s] w fun e w'=>e=.returned (.tuple #[.agg #[.int .i64 i,.string nm],.int .i64 0])∧Below w.heap.size w w':=by
 have jA:=hid fC
 have jB:decide ((nm.size:Int)≤40)=true:=by simp;omega
 have fS:=hid gG;clear gG fC;unfold zB6;have fO:=(Al w 187 (bvs s)).alloc (.cells #[.int .i64 0,.string ⟨#[]⟩] 179)
 have gH:Blk ((w.alloc (.cells (bvs s).toArray 187)).alloc (.cells #[.int .i64 0,.string ⟨#[]⟩] 179)) (w.heap.size+1) 179 [.int .i64 0,.string ⟨#[]⟩]:=by
  have:=Al (w.alloc (.cells (bvs s).toArray 187)) 179 [.int .i64 0,.string ⟨#[]⟩];simpa using this
 have gI:Below w.heap.size w ((w.alloc (.cells (bvs s).toArray 187)).alloc (.cells #[.int .i64 0,.string ⟨#[]⟩] 179)):=(br.alloc nr _).alloc (by simp) _;go_enter Tryz.func118,Tryz.ntmps118;go_upto_region 1 with (fail);generalize (w.alloc (.cells (bvs s).toArray 187)).alloc (.cells #[.int .i64 0,.string ⟨#[]⟩] 179)=w0 at *;generalize hg:w.heap.size=g at *;have jC:=hid hg;clear hg
 go_wp2_with (first
  | (refine AZ rfl 187 (.tmp 1) rfl g rfl 187 (bvs s).toArray (0,0) _ fO Ac rfl (zAD fA) ?_))
 have fT:=zJi s 0 4 w0 fA (by omega) (by omega);rw [gE] at fT;refine fT.mono ?_;rintro e w1 ⟨rfl,fP⟩;have fU:=fO.fresh fP;have fV:=gH.fresh fP;have fD:=gI.trans (fP.mono (Bd fO.lt));have gJ:=Al w1 179 [.int .i64 i,.string ⟨#[]⟩];have fQ:=fU.alloc (.cells #[.int .i64 i,.string ⟨#[]⟩] 179);have gK:=fV.alloc (.cells #[.int .i64 i,.string ⟨#[]⟩] 179);have fE:=fD.alloc (show g≤w1.heap.size by have:=fU.lt;omega) (.cells #[.int .i64 i,.string ⟨#[]⟩] 179);have jD:=fV.lt;clear fO gH gI fP fT fU fV fD gE;go_upto_region 2 with (fail);generalize w1.alloc (.cells #[.int .i64 i,.string ⟨#[]⟩] 179)=w2 at *;generalize w1.heap.size=x at *
 go_wp2_with (first
  | (refine AZ rfl 187 (.tmp 1) rfl g rfl 187 (bvs s).toArray (0,0) _ fQ Ac rfl (zAD fA) ?_))
 have fW:=zJi s 4 1 w2 fA (by omega) (by omega);rw [gF] at fW;refine fW.mono ?_;rintro e w3 ⟨rfl,fF⟩;have gL:=fQ.fresh fF;have gM:=gK.fresh fF;have fX:Blk w3 x 179 [.int .i64 i,.string ⟨#[]⟩]:=gJ.fresh fF;have fG:=fE.trans (fF.mono (Bd fQ.lt));clear fQ gK gJ fE fF fW gF;obtain⟨i0,jE,jF,jG,jH⟩:=info_parts zCP
 have gN:Hid (nm.data.toList.length=nm.size):=by show _=_;rw [AY];rfl
 have jI:x<w3.heap.size:=fX.lt;go_wp2_with fail
 go_loopw [6,7] (fun v i wr=>∃ k:Nat,k≤nm.size∧i=.int .i64 k∧wr.ownsRow w3.heap.size 5 1 v k (bvs (nm.data.toList.take k))∧Below w3.heap.size w3 wr) (fun _ i _=>nm.size-(intOf i).toNat)
 case atStart=>exact⟨0,Bb _,rfl,World.ownsRow_nil _ _ _ _,Bi _ _⟩
 case round =>
  obtain⟨k,hk,rfl,ho,hb⟩:=hrel;have jJ:=hb.size;have hB:=gL.fresh hb;by_cases jK:k<nm.size
  · have gO:=jA.o k jK
    have k1:wr.cell? ⟨g,5+k,none⟩=some (.int .u8 (nm[k].toNat:Int)):=by
     rw [hB.cell];unfold bvs;rw [List.getElem?_map,gO];rfl
    have jL:Hid (bvs (nm.data.toList.take (k+1))=bvs (nm.data.toList.take k)++[.int .u8 (nm[k].toNat:Int)]):=by
     show _=_
     rw [Ar (by have:=gN.o;omega),zBZ];rfl
    clear gO hB;generalize nm[k]=y at *
    go_wp2_with (first
     | (at_builtin;refine zAg _ rfl (.tmp 22) (.tmp 27) _ _ rfl w3.heap.size 5 i0 (.int .u8 0) 1 1 Ae jE jF jG jH rfl _ k _ rfl (ho.alloc _) 1 [.int .u8 (y.toNat:Int)] (zCr wr Ae _ _ rfl) (by unfold maxLen;omega) (by omega) (by simp;omega) ?_;intro v' w4 jM gP fY))
    have fR:=(hb.alloc jJ (.cells #[.int .u8 (y.toNat:Int)] 5)).grown gP (by simp;omega) (fun g hg=>(ho.lt g hg).1);clear ho gP fY;go_wp2;go_roundw
    case rel=>exact⟨k+1,by omega,by go_num,by rw [jL.o];exact jM,fR⟩
    case measure=>simp [intOf];omega
  · obtain rfl:k=nm.size:=by omega
    have fH:=zEX (P:=Ab) Ae Ad ho 9 Af
    have gQ:(⟨(nm.data.toList.take nm.size).toArray⟩:ByteArray)=nm:=by
     rw [List.take_of_length_le (by rw [gN.o];exact Bc _)]
    rw [gQ] at fH;have hX:=fX.fresh hb;have hR:=gM.fresh hb;have y0:wr.cell? ⟨x,0,none⟩=some (.int .i64 i):=hX.cell 0;have y1:wr.cell? ⟨x,1,none⟩=some (.string ⟨#[]⟩):=hX.cell 1;have f1:=hX.frozen 1;have gR:Blk (wr.setCell ⟨x,1,none⟩ (.string nm)) x 179 [.int .i64 i,.string nm]:=hX.set_ 1 (.string nm);have gS:=hB.far (p:=⟨x,1,none⟩) (show g≠x by omega) (.string nm);have gT:=hR.far (p:=⟨x,1,none⟩) (show g+1≠x by omega) (.string nm);have fR:=fG.trans ((hb.mono (show g≤w3.heap.size by omega)).setCell (p:=⟨x,1,none⟩) (show g≤x by omega) (.string nm));have fI:=hid gR;have fB:=hid gS;have fJ:=hid gT;have fK:=hid fR;clear hX hB hR gR gS gT fR gL gM fX fG ho hb gQ;go_wp2_with fail;generalize wr.setCell ⟨x,1,none⟩ (.string nm)=w5 at *;refine (fS.o w5).mono ?_;rintro e w6 ⟨rfl,fL⟩;have fZ:=fI.o.fresh fL;have gA:=fB.o.fresh fL;have gU:=fJ.o.fresh fL;have fM:=fK.o.trans (fL.mono (Bd fB.o.lt));clear fI fB fJ fK fL y0 y1 f1 fH;unfold zB6;have gB:=zBf (w:=w6) rfl;have gV:=fZ.alloc (.cells Aa 187);have gW:=gA.alloc (.cells Aa 187);have gX:=gU.alloc (.cells Aa 187);have gY:=fM.alloc (show g≤w6.heap.size from Bd gA.lt) (.cells Aa 187);have jR:=fZ.lt
    have gC:(w6.alloc (.cells Aa 187)).heap.size=w6.heap.size+1:=by simp
    clear fZ gA gU fM
    go_upto_region 11 with (first
     | (refine B2 rfl 187 (.tmp 8) (.tmp 35) rfl w6.heap.size (bvs s).toArray rfl rfl 187 _ gB (zAD fA) (by rw [Am,Am,zAc,zAc,zAs,fA]) (zBa s) ?_))
    have jS:¬g=w6.heap.size:=by omega
    have jN:Blk ((w6.alloc (.cells Aa 187)).setRow w6.heap.size (bvs s).toArray) w6.heap.size 187 (bvs s):=B1 _ w6.heap.size _ _ _ _ gB;have jO:Blk ((w6.alloc (.cells Aa 187)).setRow w6.heap.size (bvs s).toArray) g 187 (bvs s):=(B0 _ w6.heap.size g _ (by omega)).trans gW;have gZ:Blk ((w6.alloc (.cells Aa 187)).setRow w6.heap.size (bvs s).toArray) x 179 [.int .i64 i,.string nm]:=(B0 _ w6.heap.size x _ (by omega)).trans gV;have fN:Blk ((w6.alloc (.cells Aa 187)).setRow w6.heap.size (bvs s).toArray) (g+1) 179 [.int .i64 0,.string ⟨#[]⟩]:=(B0 _ w6.heap.size (g+1) _ (by omega)).trans gX;have jP:=gY.trans (((B9 (fun b=>b=w6.heap.size) (w6.alloc (.cells Aa 187))).setRow (g:=w6.heap.size) (fun _=>rfl) (bvs s).toArray).below (B:=g) (by omega) (fun b hb e=>by omega));have hm:=zJX;clear gB gW gV gX gY gC;generalize (w6.alloc (.cells Aa 187)).setRow w6.heap.size (bvs s).toArray=w8 at *;generalize w6.heap.size=z at *;have jT:=sec_eq fA w8;have y0:w8.cell? ⟨x,0,none⟩=some (.int .i64 i):=gZ.cell 0;have y1:w8.cell? ⟨x,1,none⟩=some (.string nm):=gZ.cell 1;have q0:w8.cell? ⟨g+1,0,none⟩=some (.int .i64 0):=fN.cell 0;have q1:w8.cell? ⟨g+1,1,none⟩=some (.string ⟨#[]⟩):=fN.cell 1;have f0:=fN.frozen 0;have f1:=fN.frozen 1
    go_wp2_with (first
     | (refine zAK (by rfl) (fun _ hK=>B4 187 (.tmp 8) rfl z rfl 187 (bvs s).toArray (0,0) _ jN Ac rfl (zAD fA) (hK _ _ ?_)))
     | (refine zAK (by rfl) (fun _ hK=>B4 187 (.tmp 1) rfl g rfl 187 (bvs s).toArray (0,0) _ jO Ac rfl (zAD fA) (hK _ _ ?_))))
    have gD:Blk _ (g+1) 179 [.int .i64 i,.string nm]:=(fN.set_ 0 (.int .i64 i)).set_ 1 (.string nm);refine B3 (zAz rfl _ _ (g+1) 179 #[.int .i64 i,.string nm] (0,0) _ rfl gD Tryz.underlying179 rfl (by kernel_rfl)) rfl ⟨rfl,?_⟩;rw [jC.o];exact (jP.setCell (p:=⟨g+1,0,none⟩) (show g≤g+1 by omega) _).setCell (p:=⟨g+1,1,none⟩) (show g≤g+1 by omega) _
theorem zCQ (w:World) :
 Calls Ab 136 #[.agg #[.int .i64 0,.string ⟨#[]⟩]] w fun e w'=>e=.returned (.tuple #[zB6 zBD,.int .i64 0])∧Below w.heap.size w w':=by
 go_enter Tryz.func136,Tryz.ntmps136;go_upto_region 3 with (fail);have hR:Blk (((w.alloc (.cells #[.int .i64 0,.string ⟨#[]⟩] 179)).alloc (.cells Aa 187)).alloc (.cells Aa 187)) (w.heap.size+1) 187 (bvs zBD):=(zBf (w:=w.alloc (.cells #[.int .i64 0,.string ⟨#[]⟩] 179)) (by simp)).alloc _;have hS:Blk (((w.alloc (.cells #[.int .i64 0,.string ⟨#[]⟩] 179)).alloc (.cells Aa 187)).alloc (.cells Aa 187)) (w.heap.size+1+1) 187 (bvs zBD):=zBf (w:=(w.alloc (.cells #[.int .i64 0,.string ⟨#[]⟩] 179)).alloc (.cells Aa 187)) (by simp)
 have hb:Below w.heap.size w (((w.alloc (.cells #[.int .i64 0,.string ⟨#[]⟩] 179)).alloc (.cells Aa 187)).alloc (.cells Aa 187)) :=
  ((br.alloc nr _).alloc (by simp) _).alloc (by simp;omega) _
 generalize ((w.alloc (.cells #[.int .i64 0,.string ⟨#[]⟩] 179)).alloc (.cells Aa 187)).alloc (.cells Aa 187)=w0 at *;generalize hg:w.heap.size=g at *;have fB:=hid hg;clear hg
 go_wp2_with (first
  | (refine AZ rfl 187 (.tmp 4) rfl (g+1+1) rfl 187 (bvs zBD).toArray (0,0) _ hS Ac rfl (zAD zAs) ?_)
  | (refine B2 rfl 187 (.tmp 2) (.tmp 14) rfl (g+1) (bvs zBD).toArray rfl rfl 187 _ hR (zAD zAs) rfl (zBa zBD) ?_))
 have fA:Blk (w0.setRow (g+1) (bvs zBD).toArray) (g+1) 187 (bvs zBD):=B1 w0 (g+1) _ _ _ _ hR;refine B3 (zAz rfl _ _ (g+1) 187 (bvs zBD).toArray (0,0) _ rfl fA Ac rfl (zAD zAs)) rfl ⟨rfl,?_⟩;rw [fB.o];exact hb.trans (((B9 (fun b=>b=g+1) w0).setRow (g:=g+1) (fun _=>rfl) _).below (by have:=hR.lt;omega) (fun b hb e=>by omega))
abbrev Slt:=Option (Nat×ByteArray)
def zHy:Slt→Prop
 | none=>True
 | some (i,nm)=>zEo i nm
def zFt:Slt→List UInt8
 | none=>zBD
 | some (i,nm)=>encS i nm
def zB3:Slt→Nat
 | none=>0
 | some (i,_)=>i
def zCk:Slt→ByteArray
 | none=>⟨#[]⟩
 | some (_,nm)=>nm
def zGH (o:Slt):Value:=.agg #[.int .i64 (zB3 o),.string (zCk o)]
theorem zE3 (o:Slt) (h:zHy o):(zFt o).length=128:=by
 cases o with
 | none=>exact zAs
 | some x=>exact zFU x.1 x.2 h.2.2.1.2
theorem zFm (o:Slt) (w:World) (h:zHy o) :
 Calls Ab 136 #[zGH o] w fun e w'=>e=.returned (.tuple #[zB6 (zFt o),.int .i64 0])∧Below w.heap.size w w':=by
 cases o with
 | none=>exact zCQ w
 | some x=>exact zC5 x.1 x.2 w h
theorem zCf (o:Slt) (w:World) (h:zHy o) :
 Calls Ab 118 #[zB6 (zFt o)] w fun e w'=>e=.returned (.tuple #[zGH o,.int .i64 0])∧Below w.heap.size w w':=by
 cases o with
 | none=>exact zEl 0 ⟨#[]⟩ zBD w (by decide) zAs (by decide +kernel) (by decide +kernel) (fun k hk=>absurd hk (by simp [ByteArray.size])) zCQ
 | some x =>
  have fA:=h.2.2.1.2;exact zEl x.1 x.2 _ w fA (zFU x.1 x.2 fA) (enc_ino x.1 x.2 fA h.2.1) (enc_size x.1 x.2 fA) (fun k hk=>enc_name x.1 x.2 fA k hk) (fun w=>zC5 x.1 x.2 w h)
structure Hd where
 ino:Int
 kind:Int
 links:Int
 size:Int
 made:Int
 birth:Int
 iA:Option Addr
 ic:Nat
 idx:List Nat
 dA:Option Addr
 dc:Nat
 dat:List (List UInt8)
def nats (l:List Nat):List Value:=l.map fun (n:Nat)=>Value.int .i64 (n:Int)
theorem zBO (l:List Nat) (i:Nat) (h:i<l.length):(nats l)[i]? = some (.int .i64 (l[i]:Int)):=by simp [nats,h]
def secs (l:List (List UInt8)):List Value:=l.flatMap bvs
def zAb (x:Hd):List Value :=
 [.int .i64 x.ino,.int .i64 x.kind,.int .i64 x.links,.int .i64 x.size,.int .i64 x.made,.int .i64 x.birth,.slice x.iA x.idx.length x.ic,.slice x.dA x.dat.length x.dc]
def hdV (x:Hd):Value:=.agg (zAb x).toArray
structure HdAt (w:World) (B:Nat) (x:Hd):Prop where
 len:x.dat.length=x.idx.length
 sec:∀ s∈x.dat,s.length=128
 idx:Sees w B 1 x.iA x.idx.length (nats x.idx)
 dat:Sees w B 128 x.dA x.dat.length (secs x.dat)
structure Tr where
 sectors:Int
 inodes:Int
 births:Int
 A:Option Addr
 c:Nat
 l:List Hd
def trV (t:Tr):Value:=.agg #[.int .i64 t.sectors,.int .i64 t.inodes,.int .i64 t.births,.slice t.A t.l.length t.c]
structure TrAt (w:World) (B:Nat) (t:Tr):Prop where
 row:Sees w B 8 t.A t.l.length (t.l.flatMap zAb)
 hds:∀ x∈t.l,HdAt w B x
section
variable {w w1:World} {B B':Nat} {x:Hd} {t:Tr}
theorem HdAt.keep (h:HdAt w B x) (hk:∀ p:Addr,p.block<B→w1.cell? p=w.cell? p):HdAt w1 B x:=⟨h.len,h.sec,h.idx.keep hk,h.dat.keep hk⟩
theorem HdAt.below (h:HdAt w B x) (hb:Below B w w1):HdAt w1 B x:=h.keep fun _ hp=>hb.cell hp
theorem HdAt.more (h:HdAt w B x) (hB:B≤B'):HdAt w B' x:=⟨h.len,h.sec,h.idx.more hB,h.dat.more hB⟩
theorem TrAt.keep (h:TrAt w B t) (hk:∀ p:Addr,p.block<B→w1.cell? p=w.cell? p):TrAt w1 B t:=⟨h.row.keep hk,fun x hx=>(h.hds x hx).keep hk⟩
theorem TrAt.below (h:TrAt w B t) (hb:Below B w w1):TrAt w1 B t:=h.keep fun _ hp=>hb.cell hp
theorem TrAt.more (h:TrAt w B t) (hB:B≤B'):TrAt w B' t:=⟨h.row.more hB,fun x hx=>(h.hds x hx).more hB⟩
theorem TrAt.cell (h:TrAt w B t) (k:Nat) (hk:k<t.l.length):∃ b off,t.A=some ⟨b,off,none⟩∧b<B∧∀ j u,j<8→(zAb t.l[k])[j]? = some u→w.cell? ⟨b,off+k * 8+j,none⟩=some u:=by
 obtain⟨b,off,e,hb,hc⟩:=h.row.at_ (by omega);refine⟨b,off,e,hb,fun j u hj hu=>?_⟩;rw [Nat.add_assoc];exact hc (k * 8+j) u ((zDb zAb 8 t.l (fun _ _=>rfl) k hk j hj).trans hu)
theorem HdAt.sec_cell (h:HdAt w B x) (k:Nat) (hk:k<x.dat.length):∃ b off,x.dA=some ⟨b,off,none⟩∧b<B∧w.rangeAt b (off+k * 128) (bvs x.dat[k]):=by
 obtain⟨b,off,e,hb,hc⟩:=h.dat.at_ (by omega);refine⟨b,off,e,hb,fun j v hv=>?_⟩
 have hl:∀ s∈x.dat,(bvs s).length=128:=fun s hs=>by rw [zAc];exact h.sec s hs
 have hj:j<128:=by
  rcases Be j 128 with h' | h'
  · exact h'
  · rw [AB (by rw [hl _ (AC hk)];exact h')] at hv;cases hv
 rw [Nat.add_assoc];exact hc (k * 128+j) v ((zDb bvs 128 x.dat hl k hk j hj).trans hv)
end
def RAt (l:List Hd) (i:Int) (w:World) (e:Ending) (w':World):Prop :=
 ((∃ k,∃ h:k<l.length,l[k].ino=i∧(∀ j (hj:j<k),l[j].ino≠i)∧e=.returned (.int .i64 k))∨((∀ x∈l,x.ino≠i)∧e=.returned (.int .i64 (-1))))∧Below w.heap.size w w'
theorem at_any (B:Nat) (t:Tr) (i:Int) (w:World) (ht:TrAt w B t) (hB:B≤w.heap.size) (hl:t.l.length≤1000000000) :
 Calls Ab 111 #[trV t,.int .i64 i] w (RAt t.l i w):=by
 have fI:=Al w 28 [.int .i64 t.sectors,.int .i64 t.inodes,.int .i64 t.births,.slice t.A t.l.length t.c];have fE:Below w.heap.size w (w.alloc (.cells #[.int .i64 t.sectors,.int .i64 t.inodes,.int .i64 t.births,.slice t.A t.l.length t.c] 28)):=br.alloc nr _;have fJ:=(ht.more hB).below fE;unfold trV;go_enter Tryz.func111,Tryz.ntmps111;go_upto_region 1 with (fail);generalize w.alloc (.cells #[.int .i64 t.sectors,.int .i64 t.inodes,.int .i64 t.births,.slice t.A t.l.length t.c] 28)=w0 at *;have x3:w0.cell? ⟨w.heap.size,3,none⟩=some (.slice t.A t.l.length t.c):=fI.cell 3;clear fI;obtain⟨len,fB⟩:∃ len,len=t.l.length:=⟨_,rfl⟩;have fA:=hid fB;rw [←fB] at hl x3;clear fB;go_wp2
 go_loop [5] (fun i'=>∃ k:Nat,k≤len∧i'=.int .i64 k∧Hid (∀ j (hj:j<k) (h:j<t.l.length),t.l[j].ino≠i)) (fun i'=>len-(intOf i').toNat)
 case atStart=>exact⟨0,Bb _,rfl,fun j hj=>absurd hj (by omega)⟩
 case round =>
  obtain⟨k,hk,rfl,fC⟩:=hrel;by_cases fK:k<len
  · have fD:k<t.l.length:=by have:=fA.o;omega
    obtain⟨b,off,hA,fL,hc⟩:=fJ.cell k fD;have c0:w0.cell? ⟨b,off+k * 8,none⟩=some (.int .i64 t.l[k].ino):=hc 0 _ (by omega) rfl;rw [hA] at x3;clear hA hc;by_cases he:t.l[k].ino=i
    · have fF:=hid (show ∃ k',∃ h:k'<t.l.length,t.l[k'].ino=i∧(∀ j (hj:j<k'),t.l[j].ino≠i)∧(k':Int)=k from ⟨k,fD,he,fun j hj=>fC.o j hj (by omega),rfl⟩);rw [he] at c0;clear he fC;go_wp2;go_ret;obtain⟨k',h1,h2,h3,h4⟩:=fF.o;exact⟨.inl ⟨k',h1,h2,h3,by rw [h4];rfl⟩,fE⟩
    · have fM:(t.l[k].ino==i)=false:=by simpa using he
      have fG:Hid (∀ j (hj:j<k+1) (h:j<t.l.length),t.l[j].ino≠i):=fun j hj h=>by
       by_cases e:j=k
       · subst e;exact he
       · exact fC.o j (by omega) h
      clear he;generalize t.l[k].ino=y at *;go_wp2;go_round
      case rel=>exact⟨k+1,by omega,by go_num,fG⟩
      case measure=>simp [intOf];omega
  · obtain rfl:k=len:=by omega
    have fH:Hid (∀ x∈t.l,x.ino≠i):=fun x hx=>by
     obtain⟨j,hj,rfl⟩:=AD hx;exact fC.o j (by have:=fA.o;omega) hj
    clear fC;go_wp2;go_ret;exact⟨.inr ⟨fH.o,rfl⟩,fE⟩
def RBlk (x:Hd) (k:Nat) (w:World) (e:Ending) (w':World):Prop :=
 ((∃ j,∃ h:j<x.idx.length,∃ h':j<x.dat.length,x.idx[j]=k∧(∀ i (hi:i<j),x.idx[i]≠k)∧e=.returned (.tuple #[zB6 x.dat[j],.bool true]))∨((∀ i∈x.idx,i≠k)∧e=.returned (.tuple #[zB6 zBD,.bool false])))∧Below w.heap.size w w'
theorem zHi (B:Nat) (x:Hd) (k:Nat) (w:World) (hx:HdAt w B x) (hB:B≤w.heap.size) (hl:x.idx.length≤1000000000) :
 Calls Ab 119 #[hdV x,.int .i64 k] w (RBlk x k w):=by
 have fJ:=(Al w 123 (zAb x)).alloc (.cells Aa 187);have fE:Blk ((w.alloc (.cells (zAb x).toArray 123)).alloc (.cells Aa 187)) (w.heap.size+1) 187 (bvs zBD):=zBf (by simp);have fK:Below w.heap.size w ((w.alloc (.cells (zAb x).toArray 123)).alloc (.cells Aa 187)):=(br.alloc nr _).alloc (by simp) _;have fF:=(hx.more hB).below fK;unfold hdV;go_enter Tryz.func119,Tryz.ntmps119;go_upto_region 1 with (fail);generalize (w.alloc (.cells (zAb x).toArray 123)).alloc (.cells Aa 187)=w0 at *;have x6:w0.cell? ⟨w.heap.size,6,none⟩=some (.slice x.iA x.idx.length x.ic):=fJ.cell 6;have x7:w0.cell? ⟨w.heap.size,7,none⟩=some (.slice x.dA x.dat.length x.dc):=fJ.cell 7;clear fJ;generalize hg:w.heap.size=g at *;have fO:=hid hg;clear hg;obtain⟨len,fB⟩:∃ len,len=x.idx.length:=⟨_,rfl⟩;have fA:=hid fB;rw [fF.len] at x7;rw [←fB] at hl x6 x7;clear fB;generalize fQ:(zAb x).toArray=cx at *;clear fQ;go_wp2
 go_loop [6] (fun i'=>∃ i:Nat,i≤len∧i'=.int .i64 i∧Hid (∀ j (hj:j<i) (h:j<x.idx.length),x.idx[j]≠k)) (fun i'=>len-(intOf i').toNat)
 case atStart=>exact⟨0,Bb _,rfl,fun j hj=>absurd hj (by omega)⟩
 case round =>
  obtain⟨i,hi,rfl,fG⟩:=hrel;by_cases fT:i<len
  · have fH:i<x.idx.length:=by have:=fA.o;omega
    have fC:i<x.dat.length:=by have:=fA.o;have:=fF.len;omega
    obtain⟨b,off,hA,fU,hc⟩:=fF.idx.at_ (by omega);have c0:w0.cell? ⟨b,off+i,none⟩=some (.int .i64 (x.idx[i]:Int)):=hc i _ (zBO x.idx i fH);rw [hA] at x6;by_cases he:x.idx[i]=k
    · obtain⟨b2,off2,fP,fR,fS⟩:=fF.sec_cell i fC;have fI:=fF.sec _ (AC fC);have fL:=hid (show ∃ j,∃ h:j<x.idx.length,∃ h':j<x.dat.length,x.idx[j]=k∧(∀ i' (hi:i'<j),x.idx[i']≠k)∧x.dat[j]=x.dat[i] from ⟨i,fH,fC,he,fun j hj=>fG.o j hj (by omega),rfl⟩);rw [fP] at x7;rw [he] at c0;clear he fG hA hc fP;generalize x.dat[i]=s at *
      go_wp2_with (first
       | (refine B5 rfl 187 (.tmp 24) rfl b2 (off2+i * 128) rfl (bvs s) _ fS Ac rfl (by rw [zA9,zAc,fI]) ?_)
       | (refine B2 rfl 187 (.tmp 4) (.tmp 25) rfl (g+1) (bvs s).toArray rfl rfl 187 _ fE (zAD fI) (by rw [Am,Am,zAc,zAc,zAs,fI]) (zBa s) ?_))
      have fD:Blk (w0.setRow (g+1) (bvs s).toArray) (g+1) 187 (bvs s):=B1 w0 (g+1) _ _ _ _ fE;obtain⟨j,h1,h2,h3,h4,h5⟩:=fL.o;refine B3 (zAz rfl _ _ (g+1) 187 (bvs s).toArray (0,0) _ rfl fD Ac rfl (zAD fI)) rfl ⟨.inl ⟨j,h1,h2,h3,h4,by rw [h5];rfl⟩,?_⟩;rw [fO.o];exact fK.trans (((B9 (fun b=>b=g+1) w0).setRow (g:=g+1) (fun _=>rfl) _).below (by have:=fE.lt;omega) (fun b hb e=>by omega))
    · have fV:((x.idx[i]:Int)==(k:Int))=false:=by simp;omega
      have fM:Hid (∀ j (hj:j<i+1) (h:j<x.idx.length),x.idx[j]≠k):=fun j hj h=>by
       by_cases e:j=i
       · subst e;exact he
       · exact fG.o j (by omega) h
      clear he hA hc;generalize x.idx[i]=y at *;go_wp2;go_round
      case rel=>exact⟨i+1,by omega,by go_num,fM⟩
      case measure=>simp [intOf];omega
  · obtain rfl:i=len:=by omega
    have fN:Hid (∀ y∈x.idx,y≠k):=fun y hy=>by
     obtain⟨j,hj,rfl⟩:=AD hy;exact fG.o j (by have:=fA.o;omega) hj
    clear fG
    go_wp2_with (first
     | (refine B2 rfl 187 (.tmp 4) (.tmp 26) rfl (g+1) (bvs zBD).toArray rfl (by rfl) 187 _ fE (zAD zAs) rfl (zBa zBD) ?_))
    have fD:Blk (w0.setRow (g+1) (bvs zBD).toArray) (g+1) 187 (bvs zBD):=B1 w0 (g+1) _ _ _ _ fE;refine B3 (zAz rfl _ _ (g+1) 187 (bvs zBD).toArray (0,0) _ rfl fD Ac rfl (zAD zAs)) rfl ⟨.inr ⟨fN.o,rfl⟩,?_⟩;rw [fO.o];exact fK.trans (((B9 (fun b=>b=g+1) w0).setRow (g:=g+1) (fun _=>rfl) _).below (by have:=fE.lt;omega) (fun b hb e=>by omega))
structure Dir (x:Hd) (S:List Slt):Prop where
 dat:x.dat=S.map zFt
 ok:∀ o∈S,zHy o
theorem Dir.len {x:Hd} {S:List Slt} (h:Dir x S):x.dat.length=S.length:=by rw [h.dat,AE]
theorem Dir.get {x:Hd} {S:List Slt} (h:Dir x S) (i:Nat) (hi:i<x.dat.length) (fA:i<S.length):x.dat[i]=zFt S[i]:=by
 have h1:x.dat[i]? = (S.map zFt)[i]?:=by rw [h.dat]
 simpa [hi,fA] using h1
def RFind (x:Hd) (S:List Slt) (nm:ByteArray) (w:World) (e:Ending) (w':World):Prop :=
 ((∃ j n,∃ h:j<x.idx.length,∃ h':j<S.length,S[j]=some (n,nm)∧(∀ i (hi:i<j) n',S[i]≠some (n',nm))∧e=.returned (.tuple #[.int .i64 (x.idx[j]:Int),.int .i64 (n:Int)])) ∨
  ((∀ n,some (n,nm) ∉ S)∧e=.returned (.tuple #[.int .i64 (-1),.int .i64 0])))∧Below w.heap.size w w'
theorem zIR (B:Nat) (x:Hd) (S:List Slt) (nm:ByteArray) (w:World) (hx:HdAt w B x) (hD:Dir x S) (hB:B≤w.heap.size) (hl:x.idx.length≤1000000000) :
 Calls Ab 110 #[hdV x,.string nm] w (RFind x S nm w):=by
 have gB:=Al w 123 (zAb x);have fT:Below w.heap.size w (w.alloc (.cells (zAb x).toArray 123)):=br.alloc nr _;have gC:=(hx.more hB).below fT;unfold hdV;go_enter Tryz.func110,Tryz.ntmps110;go_upto_region 1 with (fail);generalize w.alloc (.cells (zAb x).toArray 123)=w0 at *;generalize hg:w.heap.size=g at *;have gD:=hid hg;clear hg;obtain⟨len,fD⟩:∃ len,len=x.idx.length:=⟨_,rfl⟩;have fA:=hid fD;rw [←fD] at hl;clear fD hx;generalize gJ:(zAb x).toArray=cx at *;clear gJ;go_wp2
 go_loopw [6] (fun i' wr=>∃ i:Nat,i≤len∧i'=.int .i64 i∧Hid (∀ j (hj:j<i) (h:j<S.length) n,S[j]≠some (n,nm))∧Blk wr g 123 (zAb x)∧HdAt wr g x∧Below g w wr) (fun i' _=>len-(intOf i').toNat)
 case atStart=>exact⟨0,Bb _,rfl,fun j hj=>absurd hj (by omega),gB,gC,fT⟩
 case round =>
  obtain⟨i,hi,rfl,fE,hX,fC,hb⟩:=hrel;clear gB gC fT;have x6:wr.cell? ⟨g,6,none⟩=some (.slice x.iA x.idx.length x.ic):=hX.cell 6;have x7:wr.cell? ⟨g,7,none⟩=some (.slice x.dA x.dat.length x.dc):=hX.cell 7;rw [fC.len] at x7;rw [←fA.o] at x6 x7;have gR:=hX.lt;by_cases gS:i<len
  · have fF:i<x.idx.length:=by have:=fA.o;omega
    have fG:i<x.dat.length:=by have:=fA.o;have:=fC.len;omega
    have fU:i<S.length:=by have:=hD.len;omega
    obtain⟨b,off,hA,gT,hc⟩:=fC.idx.at_ (by omega);obtain⟨b2,off2,gE,gK,fV⟩:=fC.sec_cell i fG;have gF:=hc i _ (zBO x.idx i fF);have gG:=hD.ok _ (AC fU);have fW:=fC.sec _ (AC fG);rw [hD.get i fG fU] at fV fW;rw [gE] at x7;have fX:=hid (And.intro hA gF);clear hc gE hA gF;generalize ho:S[i]=o at *;have fY:=hid ho;clear ho
    go_wp2_with (first
     | (refine B5 rfl 187 (.tmp 20) rfl b2 (off2+i * 128) rfl (bvs (zFt o)) _ fV Ac rfl (by rw [zA9,zAc,fW]) ?_))
    refine (zCf o wr gG).mono ?_;rintro e w1 ⟨rfl,fP⟩;have fQ:=hX.fresh fP;have fJ:=fC.below (fP.mono (by omega));have fK:=hb.trans (fP.mono (by omega));have fR:=fQ.alloc (.cells #[.int .i64 (zB3 o),.string (zCk o)] 179);have fL:=Al w1 179 [.int .i64 (zB3 o),.string (zCk o)];have fH:=fJ.below ((Bi g w1).alloc (by have:=fQ.lt;omega) (.cells #[.int .i64 (zB3 o),.string (zCk o)] 179));have fM:=fK.alloc (show g≤w1.heap.size by have:=fQ.lt;omega) (.cells #[.int .i64 (zB3 o),.string (zCk o)] 179);clear hX fC hb fP fQ fJ fK x6 x7 fV;unfold zGH
    have gL:(w1.alloc (.cells #[.int .i64 (zB3 o),.string (zCk o)] 179)).heap.size=w1.heap.size+1:=by simp
    have gU:=fR.lt;go_upto_region 5 with (fail)
    replace fL:Blk (w1.alloc (.cells #[.int .i64 (zB3 o),.string (zCk o)] 179)) w1.heap.size 179 [.int .i64 (zB3 o),.string (zCk o)]:=fL
    generalize w1.alloc (.cells #[.int .i64 (zB3 o),.string (zCk o)] 179)=w2 at *;generalize w1.heap.size=z at *;have o0:w2.cell? ⟨z,0,none⟩=some (.int .i64 (zB3 o)):=fL.cell 0;have o1:w2.cell? ⟨z,1,none⟩=some (.string (zCk o)):=fL.cell 1;have x6:w2.cell? ⟨g,6,none⟩=some (.slice x.iA x.idx.length x.ic):=fR.cell 6;rw [←fA.o] at x6
    have gM:w2.cell? ⟨b,off+i,none⟩=some (.int .i64 (x.idx[i]:Int)):=by
     obtain⟨b',off',fS,_,gN⟩:=fH.idx.at_ (by omega);have hA:=fX.o.1;rw [hA] at fS;injection fS with fS;injection fS with h1 h2;subst h1 h2;exact gN i _ (zBO x.idx i fF)
    rw [fX.o.1] at x6;have gH:=hid fR;have fN:=hid fH;have fO:=hid fM;clear fR fH fM fL fX fW
    have fB:Hid ((∀ n,o≠some (n,nm))→∀ j (hj:j<i+1) (h:j<S.length) n,S[j]≠some (n,nm)):=fun gI j hj h n=>by
     by_cases e:j=i
     · subst e;rw [fY.o];exact gI n
     · exact fE.o j (by omega) h n
    cases o with
    | none =>
     have fI:=hid (fB.o (fun n e=>by cases e));simp only [zB3,zCk] at o0 o1;clear fE fB;go_wp2;go_roundw
     case rel=>exact⟨i+1,by omega,by go_num,fI.o,gH.o,fN.o,fO.o⟩
     case measure=>simp [intOf];omega
    | some on =>
     obtain⟨n,nm2⟩:=on
     have gV:((n:Int) != 0)=true:=by
      have:=gG.1
      simp
      omega
     simp only [zB3,zCk] at o0 o1;by_cases he:nm2=nm
     · have fZ:=hid (show ∃ j n',∃ h:j<x.idx.length,∃ h':j<S.length,S[j]=some (n',nm)∧(∀ i' (hi:i'<j) n'',S[i']≠some (n'',nm))∧x.idx[j]=x.idx[i]∧n'=n from
        ⟨i,n,fF,fU,by rw [fY.o,he],fun i' gO n''=>fE.o i' gO (by omega) n'',rfl,rfl⟩)
       subst he;clear fE fB fY;generalize x.idx[i]=y at *
       have gP:(i:Int)<(len:Int):=by omega
       have gW:(0:Int)≤(i:Int):=by omega
       go_upto_region 6 with (fail)
       go_quiet (fail)
       go_wp2
       go_ret2
       obtain⟨j,n',h1,h2,h3,h4,h5,h6⟩:=fZ.o;refine⟨.inl ⟨j,n',h1,h2,h3,h4,by rw [h5,h6];rfl⟩,?_⟩;rw [gD.o];exact zAd fO.o _
     · have fI:=hid (fB.o (fun n' e=>by injection e with e;injection e with _ e;exact he e))
       have gI:(nm2.toList==nm.toList)=false:=by simpa using fun h=>he (zC2.1 h)
       have gQ:¬nm2.toList=nm.toList:=fun h=>he (zC2.1 h);clear fE fB he;go_wp2;go_roundw
       case rel=>exact⟨i+1,by omega,by go_num,fI.o,gH.o,fN.o,fO.o⟩
       case measure=>simp [intOf];omega
  · obtain rfl:i=len:=by omega
    have gA:Hid (∀ n,some (n,nm) ∉ S):=fun n hm=>by
     obtain⟨j,hj,e⟩:=AD hm;exact fE.o j (by have:=hD.len;have:=fC.len;have:=fA.o;omega) hj n e
    have fO:=hid hb;clear fE hX fC hb;go_wp2
    go_ret2
    refine⟨.inr ⟨gA.o,rfl⟩,?_⟩;rw [gD.o];exact fO.o
theorem tk{P:Program} {ops:Array Oper} {Q:Exit→Act→World→Prop} {md:Region.Mode} {S:World→Prop} {oi:Oper} {fuel:Nat} {listed:Array Bool} {a:Act} {w:World} (i:Nat) (v:Value) (hi:ops[i]?=some oi) (hy:YieldsIf P ops S oi v a) (hS:S w)
 (h:wpAnyH P md ops Q S fuel (listed.setIfInBounds i true) (a.put oi.dst v) w) (hs:Region.noSelect ops=true:=by kernel_rfl) (hf:Region.free md ops listed i=true:=by kernel_rfl) (hr:(Region.ready md ops listed).contains i=true:=by kernel_rfl)
 (hQ:∀ c a w,Q (.panic c) (a.put oi.dst v) w→Q (.panic c) a w:=by exact fun _ _ _ h=>h):wpAnyH P md ops Q S (fuel+1) listed a w:=wpAnyH_take hi hs hf hr hQ hy hS h
theorem zCe:(Tryz.prog.info? 123).map (·.size)=some 8:=by kernel_rfl
theorem zHb (x:Hd):(zAb x).toArray.all (·.oneCell')=true:=by
 rw [Array.all_eq_true_iff_forall_mem];intro v hv
 have hv:v∈zAb x:=by simpa using hv
 simp only [zAb,AF,List.not_mem_nil,or_false] at hv;rcases hv with rfl | rfl | rfl | rfl | rfl | rfl | rfl | rfl<;>rfl
theorem TrAt.range (w:World) (B:Nat) (t:Tr) (h:TrAt w B t) (k:Nat) (hk:k<t.l.length):∃ b off,t.A=some ⟨b,off,none⟩∧b<B∧w.rangeAt b (off+k * 8) (zAb t.l[k]):=by
 obtain⟨b,off,e,hb,hc⟩:=h.cell k hk;refine⟨b,off,e,hb,fun j v hv=>hc j v ?_ hv⟩;rcases Be j 8 with h' | h'
 · exact h'
 · rw [AB (by simpa [zAb] using h')] at hv;cases hv
theorem zJ4 {B b off:Nat} {se io bi:Int} {c:Nat} {l:List Hd} {x:Hd} {w0 w1:World} {e:Ending}
 (ht:TrAt w1 B ⟨se,io,bi,some ⟨b,off,none⟩,c,l⟩) (hr:RAt l x.ino w0 e w1) (hx:x∈l) (hu:∀ y∈l,y.ino=x.ino→y=x) :
 ∃ k:Nat,e=.returned (.int .i64 k)∧(0:Int)≤(k:Int)∧(k:Int)<(l.length:Int)∧Hid (w1.rangeAt b (off+k * 8) (zAb x)) ∧
  w1.cell? ⟨b,off+k * 8,none⟩=some (.int .i64 x.ino)∧w1.cell? ⟨b,off+k * 8+1,none⟩=some (.int .i64 x.kind)∧w1.cell? ⟨b,off+k * 8+2,none⟩=some (.int .i64 x.links) ∧
  w1.cell? ⟨b,off+k * 8+3,none⟩=some (.int .i64 x.size)∧w1.cell? ⟨b,off+k * 8+4,none⟩=some (.int .i64 x.made)∧w1.cell? ⟨b,off+k * 8+5,none⟩=some (.int .i64 x.birth) ∧
  w1.cell? ⟨b,off+k * 8+6,none⟩=some (.slice x.iA x.idx.length x.ic)∧w1.cell? ⟨b,off+k * 8+7,none⟩=some (.slice x.dA x.dat.length x.dc):=by
 rcases hr with ⟨⟨k,hk,fA,-,rfl⟩ | ⟨hno,-⟩,-⟩
 · obtain rfl:l[k]=x:=hu _ (AC hk) fA;obtain⟨b',off',hA,-,hc⟩:=ht.range w1 B _ k hk;simp only [Option.some.injEq,Addr.mk.injEq] at hA;obtain⟨rfl,rfl,-⟩:=hA;exact⟨k,rfl,by omega,by omega,hc,hc 0 _ rfl,hc 1 _ rfl,hc 2 _ rfl,hc 3 _ rfl,hc 4 _ rfl,hc 5 _ rfl,hc 6 _ rfl,hc 7 _ rfl⟩
 · exact absurd rfl (hno x hx)
theorem inode_any (B:Nat) (t:Tr) (x:Hd) (w:World) (ht:TrAt w B t) (hB:B≤w.heap.size) (hl:t.l.length≤1000000000) (hc:t.l.length≤t.c) (hx:x∈t.l) (hu:∀ y∈t.l,y.ino=x.ino→y=x) :
 Calls Ab 81 #[trV t,.int .i64 x.ino] w fun e w'=>e=.returned (hdV x)∧Below w.heap.size w w':=by
 obtain⟨se,io,bi,A,c,l⟩:=t;have fL:0<l.length:=List.length_pos_of_mem hx;obtain⟨b,off,hA,fM,-⟩:=ht.row.at_ (by simp only;omega);simp only at hA;subst hA;have fC:=(Al w 28 [.int .i64 se,.int .i64 io,.int .i64 bi,.slice (some ⟨b,off,none⟩) l.length c]).alloc (.cells #[.int .i64 0,.int .i64 0,.int .i64 0,.int .i64 0,.int .i64 0,.int .i64 0,.slice none 0 0,.slice none 0 0] 123)
 have fG:Blk ((w.alloc (.cells #[.int .i64 se,.int .i64 io,.int .i64 bi,.slice (some ⟨b,off,none⟩) l.length c] 28)).alloc (.cells #[.int .i64 0,.int .i64 0,.int .i64 0,.int .i64 0,.int .i64 0,.int .i64 0,.slice none 0 0,.slice none 0 0] 123)) (w.heap.size+1) 123 [.int .i64 0,.int .i64 0,.int .i64 0,.int .i64 0,.int .i64 0,.int .i64 0,.slice none 0 0,.slice none 0 0]:=by
  have:=Al (w.alloc (.cells #[.int .i64 se,.int .i64 io,.int .i64 bi,.slice (some ⟨b,off,none⟩) l.length c] 28)) 123 [.int .i64 0,.int .i64 0,.int .i64 0,.int .i64 0,.int .i64 0,.int .i64 0,.slice none 0 0,.slice none 0 0];simpa using this
 have fE:Below w.heap.size w ((w.alloc (.cells #[.int .i64 se,.int .i64 io,.int .i64 bi,.slice (some ⟨b,off,none⟩) l.length c] 28)).alloc (.cells #[.int .i64 0,.int .i64 0,.int .i64 0,.int .i64 0,.int .i64 0,.int .i64 0,.slice none 0 0,.slice none 0 0] 123)):=(br.alloc nr _).alloc (by simp) _;have fH:=(ht.more hB).below fE;unfold trV;go_enter Tryz.func81,Tryz.ntmps81;go_upto_region 1 with (fail);generalize (w.alloc (.cells #[.int .i64 se,.int .i64 io,.int .i64 bi,.slice (some ⟨b,off,none⟩) l.length c] 28)).alloc (.cells #[.int .i64 0,.int .i64 0,.int .i64 0,.int .i64 0,.int .i64 0,.int .i64 0,.slice none 0 0,.slice none 0 0] 123)=w0 at *;generalize hg:w.heap.size=g at *;have fN:=hid hg;clear hg;have x3:w0.cell? ⟨g,3,none⟩=some (.slice (some ⟨b,off,none⟩) l.length c):=fC.cell 3;have fO:=hid fC;have fB:=fC.lt;have fP:=hid fG;have fQ:=hid fE;have fI:=hid fH;have fR:=hid hx;have fS:=hid hu;clear fC fG fE fH hx hu ht;refine wp_region_held_drew (S:=fun w'=>Chg (fun b=>b=g+1) w0 w') (by kernel_rfl) ((B9 _ _).drew) fun hH=>?_;refine tk 0 (.pointer (some ⟨g,3,none⟩)) rfl (.inl ⟨by rfl,fun _ _=>by go_simp⟩) hH ?_
 (try simp only [Bj,AG,AH,AI,AJ,At,AK])
 refine tk 1 (.slice (some ⟨b,off,none⟩) l.length c) rfl (.inl ⟨by rfl,fun W hW=>by have y3:=(hW.cell (p:=⟨g,3,none⟩) fB (fun e:g=g+1=>by omega)).trans x3;go_simp⟩) hH ?_
 (try simp only [Bj,AG,AH,AI,AJ,At,AK])
 refine tk 2 (.agg #[.int .i64 se,.int .i64 io,.int .i64 bi,.slice (some ⟨b,off,none⟩) l.length c]) rfl (B6 (by rfl) 28 _ rfl g 0 rfl [.int .i64 se,.int .i64 io,.int .i64 bi,.slice (some ⟨b,off,none⟩) l.length c] _ (fun _ hw j u hu=>by rw [Nat.zero_add,(fO.o.chg hw (by omega)).cell j];exact hu) Tryz.underlying28 rfl rfl) hH ?_
 (try simp only [Bj,AG,AH,AI,AJ,At,AK])
 refine tk 3 (.int .i64 x.ino) rfl (.inl ⟨by rfl,fun _ _=>by go_simp⟩) hH ?_
 (try simp only [Bj,AG,AH,AI,AJ,At,AK])
 refine B7 (rs:=[4]) (by decide +kernel) (by simp) (Bk rfl (fun K hK=>?_) Bl);rw [if_pos (by rfl)]
 go_simp
 go_at_call 111
 refine (at_any g ⟨se,io,bi,some ⟨b,off,none⟩,c,l⟩ x.ino w0.drew (fI.o.keep fun _ _=>rfl) (by have:=fB;simp;omega) hl).mono ?_;rintro e w1 hr;have fA:Below w0.heap.size w0 w1:=(zAd (Bi _ w0) 1).trans hr.2;obtain⟨k,rfl,k0,k1,fT,-⟩:=zJ4 (fI.o.below (fA.mono (by omega))) hr fR.o fS.o
 (try go_simp)
 have fD:=Ba (S:=fun b=>b=g+1) fA;have fJ:b<w0.heap.size:=Nat.lt_trans (Bf fM hB) fB;refine hK.out _ _ fD fun fV=>?_;clear hK K hH
 (try simp only [Bj,AG,AH,AI,AJ,At,AK])
 refine tk 5 (.pointer (some ⟨b,off+k * 8,none⟩)) rfl (.inl ⟨by rfl,fun _ _=>by go_simp⟩) fD ?_
 (try simp only [Bj,AG,AH,AI,AJ,At,AK])
 refine tk 6 (.agg (zAb x).toArray) rfl (B6 (by rfl) 123 _ rfl b (off+k * 8) rfl (zAb x) _ (fun W hW=>(fun j u hu=>((hW.cell (p:=⟨b,off+k * 8+j,none⟩) fJ (fun e:b=g+1=>by omega)).trans (((fA.cell (p:=⟨b,off+k * 8+j,none⟩) fJ).symm.trans (fT.o j u hu)))))) Ag rfl rfl) fD ?_
 (try simp only [Bj,AG,AH,AI,AJ,At,AK])
 have fK:=fP.o.fresh fA;refine B7 (rs:=[7]) (by decide +kernel) (by simp) (Bk rfl (fun K hK=>?_) Bl);rw [if_pos (by rfl)];refine wp_store_row 123 _ _ rfl (g+1) (zAb x).toArray rfl rfl 123 _ fK rfl rfl (zHb x) ?_;refine hK.out _ _ (fD.setRow (fun _=>rfl) _) fun _=>?_;clear hK K
 (try simp only [Bj,AG,AH,AI,AJ,At,AK])
 refine wpAnyH_done (by kernel_rfl) ?_ _;have fF:=B1 w1 (g+1) _ (zAb x).toArray _ _ fK;have fU:Below g w (w1.setRow (g+1) (zAb x).toArray):=(fQ.o.trans (fA.mono (Bd fB))).trans (((B9 (fun b=>b=g+1) w1).setRow (fun _=>rfl) _).below (Bg (Bd fB) fA.size) fun b hb e=>by omega);go_wp2;refine B3 (B8 rfl _ _ (g+1) 123 (zAb x).toArray (0,0) _ rfl fF Ag rfl rfl) rfl ⟨rfl,?_⟩;rw [fN.o];exact fU
def zBQ (s:Nat×Nat×Nat×Int) (k:Nat):Nat×Nat×Nat×Int :=
 (if 44≤k∧(((k-44) / 32:Nat):Int)≠s.2.2.2 then s.1+1 else s.1,if 12≤k∧k<44 then 1 else s.2.1,if 44≤k then 1 else s.2.2.1,if 44≤k then (((k-44) / 32:Nat):Int) else s.2.2.2)
def zBp (l:List Nat):Nat :=
 let s:=l.foldl zBQ (l.length,0,0,-1)
 s.1+s.2.1+s.2.2.1
theorem cStep_le (s:Nat×Nat×Nat×Int) (k:Nat) (h1:s.2.1≤1) (h2:s.2.2.1≤1):(zBQ s k).1≤s.1+1∧(zBQ s k).2.1≤1∧(zBQ s k).2.2.1≤1:=by
 unfold zBQ;refine⟨?_,?_,?_⟩
 · simp only;split<;>omega
 · simp only;split<;>omega
 · simp only;split<;>omega
theorem cFold_le:∀ (l:List Nat) (s:Nat×Nat×Nat×Int),s.2.1≤1→s.2.2.1≤1→(l.foldl zBQ s).1≤s.1+l.length∧(l.foldl zBQ s).2.1≤1∧(l.foldl zBQ s).2.2.1≤1:=by
 intro l
 induction l with
 | nil=>intro s h1 h2;exact⟨Bc _,h1,h2⟩
 | cons k l ih =>
  intro s h1 h2;obtain⟨a,b,c⟩:=cStep_le s k h1 h2;obtain⟨a',b',c'⟩:=ih (zBQ s k) b c;rw [AL,AM];exact⟨by omega,b',c'⟩
theorem countL_le (l:List Nat):zBp l≤2 * l.length+2:=by
 have:=cFold_le l (l.length,0,0,-1) (Bb _) (Bb _);unfold zBp;simp only at this ⊢;omega
theorem zJO (l:List Nat) (i:Nat) (h:i<l.length) (s:Nat×Nat×Nat×Int):(l.drop i).foldl zBQ s=(l.drop (i+1)).foldl zBQ (zBQ s l[i]):=by
 rw [Aq h,AL]
theorem zGO (B:Nat) (A:Option Addr) (c:Nat) (l:List Nat) (w:World) (hS:Sees w B 1 A l.length (nats l)) (hl:l.length≤1000000000) (hk:∀ k∈l,k≤1000000000) :
 Calls Ab 58 #[.slice A l.length c] w fun e w'=>e=.returned (.int .i64 (zBp l))∧w'=w:=by
 go_enter Tryz.func58,Tryz.ntmps58;obtain⟨len,fB⟩:∃ len,len=l.length:=⟨_,rfl⟩;have fA:=hid fB;rw [←fB] at hl;rw [←fB];have fH:=hid hk;clear fB hk;go_wp2
 go_loop [3,4,5,6,7] (fun n s d la i=>∃ (n' s' d':Nat) (l':Int) (k:Nat),k≤len∧n=.int .i64 n'∧s=.int .i64 s'∧d=.int .i64 d'∧la=.int .i64 l'∧i=.int .i64 k∧n'≤len+k∧s'≤1∧d'≤1∧Hid ((l.drop k).foldl zBQ (n',s',d',l')=l.foldl zBQ (l.length,0,0,-1))) (fun _ _ _ _ i=>len-(intOf i).toNat)
 case atStart=>exact⟨len,0,0,-1,0,Bb _,rfl,rfl,rfl,rfl,rfl,by omega,by omega,by omega,by rw [fA.o];rfl⟩
 case round =>
  obtain⟨n,s,d,la,k,fI,rfl,rfl,rfl,rfl,rfl,hn,hs,hd,hf⟩:=hrel;by_cases fJ:k<len
  · have fC:k<l.length:=by have:=fA.o;omega
    obtain⟨b,off,hA,fK,hc⟩:=hS.at_ (by omega);have c0:w.cell? ⟨b,off+k,none⟩=some (.int .i64 (l[k]:Int)):=hc k _ (zBO l k fC);have hm:=fH.o _ (AC fC);have fF:=hid ((zJO l k fC (n,s,d,la)).symm.trans hf.o);clear hf hc;subst hA;generalize l[k]=m at *;rcases Be m 44 with h44 | h44
    · rcases Be m 12 with h12 | h12
      · have fD:=hid (show zBQ (n,s,d,la) m=(n,s,d,la) by unfold zBQ;simp only;rw [if_neg (by omega),if_neg (by omega),if_neg (by omega),if_neg (by omega)]);go_wp2;go_round
        case rel=>exact⟨n,s,d,la,k+1,by omega,rfl,rfl,rfl,rfl,by go_num,by omega,hs,hd,by rw [←fF.o,fD.o];rfl⟩
        case measure=>simp [intOf];omega
      · have fD:=hid (show zBQ (n,s,d,la) m=(n,1,d,la) by unfold zBQ;simp only;rw [if_neg (by omega),if_pos (by omega),if_neg (by omega),if_neg (by omega)]);go_wp2;go_round
        case rel=>exact⟨n,1,d,la,k+1,by omega,rfl,rfl,rfl,rfl,by go_num,by omega,by omega,hd,by rw [←fF.o,fD.o];rfl⟩
        case measure=>simp [intOf];omega
    · obtain⟨q,hq⟩:∃ q:Nat,q=(m-44) / 32:=⟨_,rfl⟩
      have fL:((m:Int)-44).tdiv 32=(q:Int):=by
       rw [Int.tdiv_eq_ediv_of_nonneg (by omega)];omega
      have fM:q≤1000000000:=by omega
      by_cases fE:(q:Int)=la
      · have fD:=hid (show zBQ (n,s,d,la) m=(n,s,1,la) by unfold zBQ;simp only;rw [if_neg (by rw [←hq];simp [fE]),if_neg (by omega),if_pos h44,if_pos h44,←hq,fE]);subst fE;clear hq;go_wp2;go_round
        case rel=>exact⟨n,s,1,q,k+1,by omega,rfl,rfl,rfl,rfl,by go_num,by omega,hs,by omega,by rw [←fF.o,fD.o];rfl⟩
        case measure=>simp [intOf];omega
      · have fD:=hid (show zBQ (n,s,d,la) m=(n+1,s,1,(q:Int)) by unfold zBQ;simp only;rw [if_pos ⟨h44,by rw [←hq];exact fE⟩,if_neg (by omega),if_pos h44,if_pos h44,←hq]);clear hq
        have fN:((q:Int) != la)=true:=by simpa using fE
        go_wp2;go_round
        case rel=>exact⟨n+1,s,1,q,k+1,by omega,by go_num,rfl,rfl,rfl,by go_num,by omega,hs,by omega,by rw [←fF.o,fD.o];rfl⟩
        case measure=>simp [intOf];omega
  · obtain rfl:k=len:=by omega
    have fG:=hid (show n+s+d=zBp l by
     have:=hf.o;rw [List.drop_eq_nil_of_le (by have:=fA.o;omega),List.foldl_nil] at this;unfold zBp;rw [←this])
    clear hf;go_wp2;go_ret;exact⟨by rw [←fG.o];go_num,rfl⟩
open Go.Maps (Keyed)
theorem zD3:Keyed Ab 3:=Go.Maps.int_keyed Ah
theorem kStr:Keyed Ab 9:=Go.Maps.string_keyed Af
theorem zHW (n:Nat) (h:n≤1000000000):keyOf Ab 3 (zAG.val n)=some (zAG.enc n):=Go.Maps.keyOf_int_mk Ah (WalkArith.wf_i64 (by omega))
theorem keyI (n:Int) (h : -1000000000≤n∧n≤1000000000):keyOf Ab 3 (zIE.val n)=some (zIE.enc n):=Go.Maps.keyOf_int_mk Ah (WalkArith.wf_i64 (by omega))
theorem keyS (s:ByteArray) (h:s.size≤maxLen):keyOf Ab 9 (zAV.val s)=some (zAV.enc s):=Go.WideMaps.keyOf_string_mk Af h
theorem invN (key:Value) (a:Nat) (h:keyOf Ab 3 key=some (zAG.enc a)):key=zAG.val a:=natK_inv Ah key a h
theorem invS (key:Value) (a:ByteArray) (h:keyOf Ab 9 key=some (zAV.enc a)):key=zAV.val a:=strK_inv Af key a h
def zCq (n:Nat):Value:=.pointer (some ⟨n,0,none⟩)
def zAS (n:Nat):Value:=.int .i64 (n:Int)
def strs (l:List ByteArray):List Value:=l.map Value.string
structure NA where
 nb:Nat
 d:Option Nat
 s:Value
 nm:Option Nat
def zDJ (w:World) {α β:Type} (K:KE α) (V:β→Value) (k:TypeId) (o:Option Nat) (l:List (α×β)):Prop :=
 match o with
 | some b=>zAt w K V k b l
 | none=>l=[]
def zB7 (a:NA) (n:PN):List Value:=[.int .i64 n.kind,.int .i64 (n.links:Int),.int .i64 (n.size:Int),.int .i64 (n.made:Int),.map a.d,a.s,.map a.nm]
structure PnAt (w:World) (a:NA) (n:PN):Prop where
 blk:Blk w a.nb 110 (zB7 a n)
 data:zDJ w zAG zB6 3 a.d n.data
 slots:w.ownsRow 0 9 1 a.s n.slots.length (strs n.slots)
 names:zDJ w zAV zAS 9 a.nm n.names
 dirs:n.dir=true→∃ b,a.nm=some b
 files:n.dir=false→∃ b,a.d=some b
inductive Role where
 | top
 | nodes
 | node (i:Nat)
 | data (i:Nat)
 | slots (i:Nat)
 | names (i:Nat)
deriving DecidableEq
structure Owns (own:Nat→Option Role) (i:Nat) (a:NA):Prop where
 nb:own a.nb=some (.node i)
 d:∀ b,a.d=some b→own b=some (.data i)
 s:∀ b,a.s.ownBlock=some b→own b=some (.slots i)
 nm:∀ b,a.nm=some b→own b=some (.names i)
structure PlainAt (w:World) (own:Nat→Option Role) (lay:Nat→NA) (p mb:Nat) (T:PT):Prop where
 top:Blk w p 98 [.int .i64 (T.sectors:Int),.int .i64 (T.inodes:Int),.map (some mb)]
 ownp:own p=some .top
 ownm:own mb=some .nodes
 nodes:zAt w zAG zCq 3 mb (T.nodes.map fun x=>(x.1,(lay x.1).nb))
 node:∀ x∈T.nodes,PnAt w (lay x.1) x.2
 owns:∀ x∈T.nodes,Owns own x.1 (lay x.1)
 lt:∀ b r,own b=some r→b<w.heap.size
section
variable {w w':World} {a:NA} {n:PN} {own:Nat→Option Role} {lay:Nat→NA} {p mb i:Nat} {T:PT} {S:Nat→Prop}
theorem zDJ.chg {α β:Type} [DecidableEq α] {K:KE α} {V:β→Value} {k:TypeId} {o:Option Nat} {l:List (α×β)} (h:zDJ w K V k o l) (hc:Chg S w w') (hn:∀ b,o=some b→¬S b):zDJ w' K V k o l:=by
 cases o with
 | none=>exact h
 | some b=>exact zAt.chg h hc (hn b rfl)
theorem PnAt.chg (h:PnAt w a n) (hc:Chg S w w') (h1:¬S a.nb) (h2:∀ b,a.d=some b→¬S b) (h3:∀ b,a.s.ownBlock=some b→¬S b) (h4:∀ b,a.nm=some b→¬S b):PnAt w' a n :=
 ⟨h.blk.chg hc h1,h.data.chg hc h2,zAy h.slots hc h3,h.names.chg hc h4,h.dirs,h.files⟩
theorem PnAt.chg_owns (h:PnAt w a n) (ho:Owns own i a) (hc:Chg S w w') (hS:∀ b,S b→∀ r,own b=some r→r≠.node i∧r≠.data i∧r≠.slots i∧r≠.names i):PnAt w' a n :=
 h.chg hc (fun hb=>(hS _ hb _ ho.nb).1 rfl) (fun b e hb=>(hS _ hb _ (ho.d b e)).2.1 rfl) (fun b e hb=>(hS _ hb _ (ho.s b e)).2.2.1 rfl) (fun b e hb=>(hS _ hb _ (ho.nm b e)).2.2.2 rfl)
theorem PlainAt.chg (h:PlainAt w own lay p mb T) (hc:Chg S w w') (hS:∀ b,S b→own b=none):PlainAt w' own lay p mb T:=by
 have hn:∀ {b r},own b=some r→¬S b:=fun e hb=>by rw [hS _ hb] at e;cases e
 exact⟨h.top.chg hc (hn h.ownp),h.ownp,h.ownm,h.nodes.chg hc (hn h.ownm),fun x hx=>(h.node x hx).chg_owns (h.owns x hx) hc fun b hb r e=>absurd hb (hn e),h.owns,fun b r e=>Bf (h.lt b r e) hc.size⟩
theorem PlainAt.free (h:PlainAt w own lay p mb T) {g:Nat} (hg:w.heap.size≤g):own g=none:=by
 cases e:own g with
 | none=>rfl
 | some r=>have:=h.lt g r e;omega
theorem PlainAt.drew (h:PlainAt w own lay p mb T):PlainAt w.drew own lay p mb T:=h.chg ((B9 (fun _=>False) w).drew) fun _ h=>h.elim
theorem PlainAt.fresh (h:PlainAt w own lay p mb T) (hb:Below w.heap.size w w'):PlainAt w' own lay p mb T:=h.chg (Ba (S:=fun _=>False) hb) fun _ h=>h.elim
end
def zKE (_:Unit):Value:=.bool true
theorem zHU (k n g h m:Nat) (tl:List (Int×Unit)) (w:World) (hA:Blk w g 3 [.int .i64 (n:Int)]) (hT:Blk w h 158 [.map (some m)]) (hm:zAt w zIE zKE 3 m tl) (fL:h≠g) (hk:k≤1067) (hn:n≤1000000) (fT:tl.length≤1000000) :
 Calls Ab 89 #[.int .i64 (k:Int),.pointer (some ⟨g,0,none⟩),.pointer (some ⟨h,0,none⟩)] w fun e w'=>e=.returned (.tuple #[])∧Blk w' g 3 [.int .i64 ((n+1:Nat):Int)]∧zAt w' zIE zKE 3 m (zEm k tl)∧Chg (fun b=>b=g∨b=m) w w':=by
 have a0:w.cell? ⟨g,0,none⟩=some (.int .i64 (n:Int)):=hA.cell 0;have f0:=hA.frozen 0
 have fB:m≠g:=fun e=>by subst e;obtain⟨es,clock,hb,_⟩:=hm;rw [hA] at hb;cases hb
 have fM:h≠m:=fun e=>by subst e;obtain⟨es,clock,hb,_⟩:=hm;rw [hT] at hb;cases hb
 have fD:Blk (w.setCell ⟨g,0,none⟩ (.int .i64 ((n:Int)+1))) g 3 [.int .i64 ((n+1:Nat):Int)]:=hA.set_ 0 _;have fC:Chg (fun b=>b=g) w (w.setCell ⟨g,0,none⟩ (.int .i64 ((n:Int)+1))):=(B9 (fun b=>b=g) w).setCell (p:=⟨g,0,none⟩) (fun _=>rfl) _;have fE:=hm.chg fC fB;have t1:(w.setCell ⟨g,0,none⟩ (.int .i64 ((n:Int)+1))).cell? ⟨h,0,none⟩=some (.map (some m)):=(hT.far (by simpa using fL) _).cell 0;go_enter Tryz.func89,Tryz.ntmps89;by_cases fF:44≤k
 · have fN:decide ((44:Int)≤(k:Int))=true:=by simpa using (by omega:(44:Int)≤k)
   have fG:Value.int .i64 (((k:Int)-12-32) / 32)=.int .i64 (((k-44) / 32:Nat):Int):=by congr 1;omega
   have fO:=zBi zIE (-2) () tl
   go_wp2_with (first
    | (at_mapUpdate;refine zAZ _ rfl (.tmp 9) (.const (.int .i64 (-2))) _ 158 (.inl rfl) zD3 Ai fE (by unfold maxLen;omega) rfl (-2) rfl (keyI _ (by omega)) () rfl ?_;intro w2 fH fI;have fA:=zAP fI;have fP:=fD.chg fA (Ne.symm fB);have t2:=(fA.cell (p:=⟨h,0,none⟩) (Bm _ _ t1) fM).trans t1)
    | (at_mapUpdate;refine zAZ _ rfl (.tmp 10) (.tmp 14) _ 158 (.inl rfl) zD3 Ai fH (by unfold maxLen;omega) rfl (((k-44) / 32:Nat):Int) (show Value.int .i64 (((k:Int)-12-32) / 32)=.int .i64 _ from fG) (keyI _ (by omega)) () rfl ?_;intro w3 fQ fR))
   go_end0
   have fJ:=zAP fR;refine⟨rfl,fP.chg fJ (Ne.symm fB),?_,(fC.trans fA (fun _ _ h=>.inl h) (fun _ _ h=>.inr h)).trans fJ (fun _ _ h=>h) (fun _ _ h=>.inr h)⟩;unfold zEm;rw [if_pos fF];exact fQ
 · have fN:decide ((44:Int)≤(k:Int))=false:=by simpa using (by omega:(k:Int)<44)
   by_cases fK:12≤k
   · have fS:decide ((12:Int)≤(k:Int))=true:=by simpa using (by omega:(12:Int)≤k)
     go_wp2_with (first
      | (at_mapUpdate;refine zAZ _ rfl (.tmp 18) (.const (.int .i64 (-1))) _ 158 (.inl rfl) zD3 Ai fE (by unfold maxLen;omega) rfl (-1) rfl (keyI _ (by omega)) () rfl ?_;intro w2 fH fI))
     go_end0
     have fA:=zAP fI;refine⟨rfl,fD.chg fA (Ne.symm fB),?_,fC.trans fA (fun _ _ h=>.inl h) (fun _ _ h=>.inr h)⟩;unfold zEm;rw [if_neg fF,if_pos fK];exact fH
   · have fS:decide ((12:Int)≤(k:Int))=false:=by simpa using (by omega:(k:Int)<12)
     go_wp2
     go_end0
     refine⟨rfl,fD,?_,fC.mono fun _ _ h=>.inl h⟩;unfold zEm;rw [if_neg fF,if_neg fK];exact fE
structure CntAt (w:World) (nb:Nat) (d:Option Nat) (l:List (Nat×List UInt8)) (A:Option Addr) (sl c:Nat):Prop where
 c4:w.cell? ⟨nb,4,none⟩=some (.map d)
 c5:w.cell? ⟨nb,5,none⟩=some (.slice A sl c)
 map:zDJ w zAG zB6 3 d l
theorem CntAt.below {w w1:World} {nb:Nat} {d:Option Nat} {l:List (Nat×List UInt8)} {A:Option Addr} {sl c:Nat} (h:CntAt w nb d l A sl c) (hb:Below w.heap.size w w1):CntAt w1 nb d l A sl c :=
 ⟨(hb.cell (p:=⟨nb,4,none⟩) (Bm _ _ h.c4)).trans h.c4,(hb.cell (p:=⟨nb,5,none⟩) (Bm _ _ h.c5)).trans h.c5,h.map.chg (Ba (S:=fun _=>False) hb) fun _ _ h=>h⟩
structure CntI (w:World) (g:Nat) (ks:List Nat) (wr:World):Prop where
 tb:Blk wr (g+1) 158 [.map (some g)]
 al:Blk wr (g+2) 3 [.int .i64 (ks.length:Int)]
 tl:∃ tl,zAt wr zIE zKE 3 g tl∧zBU tl ks∧tl.length≤34
 ks:∀ k∈ks,k≤1067
 ch:Below g w wr
theorem zGD {w:World} {m:Nat} {tl:List (Int×Unit)} {ks:List Nat} (hm:zAt w zIE zKE 3 m tl) (ht:zBU tl ks) (hk:∀ k∈ks,k≤1067):tl.length=zCh ks:=ht.len (hm.ris zD3) hk
theorem CntI.chg {w wr w1:World} {g:Nat} {ks:List Nat} (h:CntI w g ks wr) (hc:Below (g+3) wr w1):CntI w g ks w1:=by
 obtain⟨tl,h1,h2⟩:=h.tl;have hC:=Chg.of_below hc;exact⟨h.tb.chg hC (by omega),h.al.chg hC (by omega),⟨tl,h1.chg hC (by omega),h2⟩,h.ks,h.ch.trans (hc.mono (by omega))⟩
theorem CntI.snoc {w wr w1:World} {g k:Nat} {ks:List Nat} {tl:List (Int×Unit)} (h:CntI w g ks wr) (hk:k≤1067) (ht:zBU tl ks)
 (h1:Blk w1 (g+2) 3 [.int .i64 ((ks.length+1:Nat):Int)]) (h2:zAt w1 zIE zKE 3 g (zEm k tl)) (hc:Chg (fun b=>b=g+2∨b=g) wr w1):CntI w g (ks++[k]) w1:=by
 have fA:∀ x∈ks++[k],x≤1067:=by
  intro x hx;rcases AN.1 hx with hx | hx
  · exact h.ks x hx
  · rw [AO] at hx;omega
 have h3:=ht.snoc k;refine⟨h.tb.chg hc (by omega),?_,⟨_,h2,h3,?_⟩,fA,h.ch.trans (hc.below (by have:=h.al.lt;omega) fun b hb h=>by omega)⟩
 · rw [An];exact h1
 · rw [zGD h2 h3 fA];exact zHv _
theorem zID {ks:List Nat} {l:List (Nat×List UInt8)} (hn:ks.Nodup) (h:∀ k∈ks,(zAe k l).isSome=true):ks.length≤l.length:=by
 have e:(l.map (·.1)).length=l.length:=AE _;rw [←e];refine zAB hn fun k hk=>?_;have:=h k hk
 cases hg:zAe k l with
 | none=>rw [hg] at this;cases this
 | some u=>exact AP.2 ⟨_,zAf hg,rfl⟩
theorem zKf (nb db:Nat) (l:List (Nat×List UInt8)) (A:Option Addr) (sl c:Nat) (w:World) (hC:CntAt w nb (some db) l A sl c) (hl:∀ p∈l,p.1≤1067) (gJ:l.length≤1068) (jE:sl≤1068) :
 Calls Ab 57 #[.pointer (some ⟨nb,0,none⟩)] w fun e w'=>e=.returned (.int .i64 ((zDw (l.map (·.1)++AQ sl):Nat):Int))∧Below w.heap.size w w':=by
 have jF:=@run_makeMap Ab
 have fT:CntI w w.heap.size [] (((w.alloc (.map #[] 0)).alloc (.cells #[.map (some w.heap.size)] 158)).alloc (.cells #[.int .i64 0] 3)):=by
  have h1:=Al (w.alloc (.map #[] 0)) 158 [.map (some w.heap.size)];have h2:=Al ((w.alloc (.map #[] 0)).alloc (.cells #[.map (some w.heap.size)] 158)) 3 [.int .i64 0];refine⟨?_,?_,⟨[],((zAt.made w zIE zKE 3).alloc _).alloc _,zBU.nil,by simp⟩,by simp,((br.alloc nr _).alloc (by simp) _).alloc (by simp;omega) _⟩
  · simpa using h1.alloc (.cells #[.int .i64 0] 3)
  · simpa using h2
 go_enter Tryz.func57,Tryz.ntmps57;go_upto_region 4 with (fail);have fU:=hC.below fT.ch;generalize ((w.alloc (.map #[] 0)).alloc (.cells #[.map (some w.heap.size)] 158)).alloc (.cells #[.int .i64 0] 3)=w0 at *;generalize hg:w.heap.size=g at *;have fO:=hid hg;have fV:=hid hC;clear hg hC;have c4:=fU.c4;have jG:=fT.al.lt;have fW:zAt w0 zAG zB6 3 db l:=fU.map
 go_wp2_with (first
  | (at_range;refine zBE _ rfl _ 107 rfl zD3 Aj fW rfl ?_;intro w1 gR gK jH))
 go_frame
 have gS:=fT.chg (gK.mono (by omega));have jI:=fU.below gK;generalize w0.heap.size=r at *
 have jJ:db<g:=by rw [←fO.o];exact zAt.lt (K:=zAG) (V:=zB6) (k:=3) (l:=l) fV.o.map
 have jK:nb<g:=by rw [←fO.o];exact Bm _ _ fV.o.c4
 go_loopw [6] (fun _ wr=>∃ ks todo,zAO wr zAG zB6 3 db r l.length l todo∧CntI w g ks wr∧Hid (∀ k,k∈ks↔(zAe k l).isSome=true∧todo k=false)∧Hid ks.Nodup) (fun _ wr=>wr.rangeLeft db r)
 case atStart=>exact⟨[],_,gR,gS,fun k=>by cases zAe k l<;>simp,List.nodup_nil⟩
 case round =>
  obtain⟨ks,todo,hr,hI,fH,fP⟩:=hrel
  go_wp2_with (first
   | (at_next;refine zBS _ rfl _ rfl zD3 invN rfl hr ?_ ?_))
  · intro h0;have gT:=hid h0;clear h0;have fX:=hid (hr.owns.ris zD3);have fB:=fH;have fI:=fP;clear fH fP;have gU:ks.length≤1068:=Bg (zID fI.o fun k hk=>(fB.o k).1 hk |>.1) gJ;obtain⟨wa,gL⟩:∃ wa,wa=wr:=⟨_,rfl⟩;have gM:CntAt wr nb (some db) l A sl c:=fV.o.below (by rw [fO.o];exact hI.ch);have c5:=gM.c5;rw [←gL] at hI c5 ⊢;clear gL hr gM;go_wp2
    go_loopw [7,27] (fun _ i wr=>∃ k:Nat,k≤sl∧i=.int .i64 (k:Int)∧CntI w g (ks++AQ k) wr) (fun _ i _=>sl-(intOf i).toNat)
    case atStart=>exact⟨0,Bb _,rfl,by simpa using hI⟩
    case round =>
     obtain⟨k,hk,rfl,fA⟩:=hrel;clear hI;by_cases gN:k<sl
     · obtain⟨tl,fG,fC,fY⟩:=fA.tl
       have gV:(ks++AQ k).length≤3000:=by rw [An,AR];omega
       have fD:=hid fC;have gW:=hid fA;have fQ:=fA.al;have fR:=fA.tb;clear fA fC hl;generalize fJ:(ks++AQ k).length=n3 at *;have fE:=hid fJ;clear fJ
       go_wp2_with (first
        | (go_at_call 89;refine (zHU k n3 (g+2) (g+1) g tl wr fQ fR fG (by omega) (by omega) (by omega) (by omega)).mono ?_;rintro e w3 ⟨rfl,gX,gY,gZ⟩))
       go_roundw
       case rel=>exact⟨k+1,by omega,by go_num,by rw [List.range_succ,←Au];exact gW.o.snoc (by omega) fD.o (by rw [fE.o];exact gX) gY gZ⟩
       case measure=>simp [intOf];omega
     · obtain rfl:k=sl:=by omega
       obtain⟨tl,fG,fC,fY⟩:=fA.tl;have fZ:=hid (zGD fG fC fA.ks)
       have gV:(ks++AQ k).length≤3000:=by rw [An,AR];omega
       have fQ:wr.cell? ⟨g+2,0,none⟩=some (.int .i64 (((ks++AQ k).length:Nat):Int)):=fA.al.cell 0;have fR:wr.cell? ⟨g+1,0,none⟩=some (.map (some g)):=fA.tb.cell 0;have gA:=hid fA.ch;clear fC hl fA;generalize fJ:(ks++AQ k).length=n3 at *;have fE:=hid fJ;clear fJ;obtain⟨m3,fS⟩:∃ m3,m3=tl.length:=⟨_,rfl⟩;rw [←fS] at fY;have gB:=hid fS
       go_wp2_with (first
        | (at_len;refine zCE _ rfl _ 158 rfl Ai fG rfl m3 fS.symm ?_;clear fS))
       go_ret;refine⟨?_,by rw [fO.o];exact gA.o⟩
       have gC:n3+m3=zDw (l.map (·.1)++AQ k):=by
        have fK:∀ x,x∈ks↔x∈l.map (·.1):=fun x=>by
         rw [fB.o,gT.o,AP]
         constructor
         · rintro ⟨h,-⟩
           cases hg:zAe x l with
           | none=>rw [hg] at h;cases h
           | some u=>exact⟨_,zAf hg,rfl⟩
         · rintro ⟨p,hp,rfl⟩;refine⟨?_,rfl⟩
           cases hg:zAe p.1 l with
           | none=>exact absurd rfl (zA7.1 hg p hp)
           | some u=>rfl
        have gD:(l.map (·.1)).Nodup:=by rw [List.Nodup,List.pairwise_map];exact fX.o.nd
        unfold zDw;rw [gB.o,←fE.o,fZ.o,An,An,zCx fI.o gD fK]
        congr 1
        exact zIu fun x=>by rw [AN,AN,fK]
       rw [←gC];rfl
  · intro k s w2 gO gE jA gN jB jL jM jC;have fF:=hid jA;have fA:=hI.chg (jB.below (show g+3≤wr.heap.size by have:=hI.al.lt;omega) fun b hb h=>by subst h;omega);obtain⟨tl,fG,fC,fY⟩:=fA.tl;have gP:k≤1067:=hl _ (zAf gE);have gU:ks.length≤1068:=Bg (zID fP.o fun k hk=>(fH.o k).1 hk |>.1) gJ;have fB:=hid fA.ks;have fD:=hid fC
    go_wp2_with (first
     | (go_at_call 89;refine (zHU k ks.length (g+2) (g+1) g tl w2 fA.al fA.tb fG (by omega) gP (by omega) (by omega)).mono ?_;rintro e w3 ⟨rfl,fQ,fR,gF⟩))
    have gQ:=fF.o.chg gF (fun e=>by rcases e with e | e<;>omega) (fun e=>by rcases e with e | e<;>omega);have fL:=zBk (b:=db) (r:=r) gF fF.o.owns.lt fF.o.lt (fun e=>by rcases e with e | e<;>omega) (fun e=>by rcases e with e | e<;>omega)
    have fM:w3.rangeLeft db r<wr.rangeLeft db r:=by rw [fL];exact gN
    have fN:=hid fM;have jD:=hid (fA.snoc gP fD.o fQ fR gF);have gG:=hid gQ;have gH:=hid gO;have gI:=hid gE;clear fM fL gQ fA gO gE;go_roundw
    case rel =>
     refine⟨ks++[k],_,gG.o,jD.o,fun x=>?_,?_⟩
     · rw [AN,fH.o,AO];by_cases e:x=k
       · subst e;rw [gI.o];simp
       · simp [e]
     · rw [Hid,List.nodup_append];refine⟨fP.o,by simp,fun a ha b hb=>?_⟩;rw [AO] at hb;subst hb;rintro rfl;have:=((fH.o a).1 ha).2;rw [gH.o] at this;cases this
    case measure=>exact fN.o
theorem zFI (nb:Nat) (A:Option Addr) (sl c:Nat) (w:World) (c4:w.cell? ⟨nb,4,none⟩=some (.map none)) (c5:w.cell? ⟨nb,5,none⟩=some (.slice A sl c)) (fX:sl≤1068) :
 Calls Ab 57 #[.pointer (some ⟨nb,0,none⟩)] w fun e w'=>e=.returned (.int .i64 ((zDw (AQ sl):Nat):Int))∧Below w.heap.size w w':=by
 have fY:=@run_makeMap Ab
 have fC:CntI w w.heap.size [] (((w.alloc (.map #[] 0)).alloc (.cells #[.map (some w.heap.size)] 158)).alloc (.cells #[.int .i64 0] 3)):=by
  have h1:=Al (w.alloc (.map #[] 0)) 158 [.map (some w.heap.size)];have h2:=Al ((w.alloc (.map #[] 0)).alloc (.cells #[.map (some w.heap.size)] 158)) 3 [.int .i64 0];refine⟨?_,?_,⟨[],((zAt.made w zIE zKE 3).alloc _).alloc _,zBU.nil,by simp⟩,by simp,((br.alloc nr _).alloc (by simp) _).alloc (by simp;omega) _⟩
  · simpa using h1.alloc (.cells #[.int .i64 0] 3)
  · simpa using h2
 go_enter Tryz.func57,Tryz.ntmps57;go_upto_region 4 with (fail);have b4:=Bm _ _ c4;have b5:=Bm _ _ c5;have c4':=(fC.ch.cell (p:=⟨nb,4,none⟩) b4).trans c4;have c5':=(fC.ch.cell (p:=⟨nb,5,none⟩) b5).trans c5;generalize ((w.alloc (.map #[] 0)).alloc (.cells #[.map (some w.heap.size)] 158)).alloc (.cells #[.int .i64 0] 3)=w0 at *;generalize hg:w.heap.size=g at *;have fP:=hid hg;clear hg c4 c5;have fZ:=fC.al.lt;have hI:=fC.chg ((Bi _ w0).alloc (show g+3≤w0.heap.size by omega) (.mapIter none 0 #[] 0));have c5:=(World.cell?_alloc_lt w0 (.mapIter none 0 #[] 0) ⟨nb,5,none⟩ (Bm _ _ c5')).trans c5';have fQ:=run_range_nilMap (P:=Ab) w0 107 3 187 Aj;have gA:∀ ty,(Instr.next (.pointer (some ⟨w0.heap.size,0,none⟩)) false ty).run Ab (w0.alloc (.mapIter none 0 #[] 0))=_:=fun ty=>run_next_nilMap w0 ty 0 0 #[];clear fC c5';go_wp2;refine wp_loop_rounds 1 ?_;rw [rounds_succ];clear fQ;generalize fR:w0.alloc (.mapIter none 0 #[] 0)=w1 at *;clear fR;go_wp2
 go_loopw [7,27] (fun _ i wr=>∃ k:Nat,k≤sl∧i=.int .i64 (k:Int)∧CntI w g (AQ k) wr) (fun _ i _=>sl-(intOf i).toNat)
 case atStart=>exact⟨0,Bb _,rfl,hI⟩
 case round =>
  obtain⟨k,hk,rfl,fA⟩:=hrel;clear hI;by_cases gB:k<sl
  · obtain⟨tl,fF,fD,fM⟩:=fA.tl
    have fS:(AQ k).length≤3000:=by rw [AR];omega
    have fH:=hid fD;have fT:=hid fA;have fN:=fA.al;have fO:=fA.tb;clear fA fD;generalize fE:(AQ k).length=n3 at *;have fB:=hid fE;clear fE
    go_wp2_with (first
     | (go_at_call 89;refine (zHU k n3 (g+2) (g+1) g tl wr fN fO fF (by omega) (by omega) (by omega) (by omega)).mono ?_;rintro e w3 ⟨rfl,fU,fV,fW⟩))
    go_roundw
    case rel=>exact⟨k+1,by omega,by go_num,by rw [List.range_succ];exact fT.o.snoc (by omega) fH.o (by rw [fB.o];exact fU) fV fW⟩
    case measure=>simp [intOf];omega
  · obtain rfl:k=sl:=by omega
    obtain⟨tl,fF,fD,fM⟩:=fA.tl;have fI:=hid (zGD fF fD fA.ks)
    have fS:(AQ k).length≤3000:=by rw [AR];omega
    have fN:wr.cell? ⟨g+2,0,none⟩=some (.int .i64 (((AQ k).length:Nat):Int)):=fA.al.cell 0;have fO:wr.cell? ⟨g+1,0,none⟩=some (.map (some g)):=fA.tb.cell 0;have fJ:=hid fA.ch;clear fD fA;generalize fE:(AQ k).length=n3 at *;have fB:=hid fE;clear fE;obtain⟨m3,fG⟩:∃ m3,m3=tl.length:=⟨_,rfl⟩;rw [←fG] at fM;have fK:=hid fG
    go_wp2_with (first
     | (at_len;refine zCE _ rfl _ 158 rfl Ai fF rfl m3 fG.symm ?_;clear fG))
    go_ret;refine⟨?_,by rw [fP.o];exact fJ.o⟩
    have fL:n3+m3=zDw (AQ k):=by unfold zDw;rw [fK.o,←fB.o,fI.o]
    rw [←fL];rfl
section
variable {w w':World} {a:NA} {n:PN} {own:Nat→Option Role} {lay:Nat→NA} {p mb i:Nat} {T:PT}
theorem PnAt.form (h:PnAt w a n):∃ A c,a.s=.slice A n.slots.length c:=by
 obtain⟨A,c,e,_⟩:=Sees.of_own (B:=w.heap.size) h.slots fun g hg=>(World.ownsRow.lt h.slots g hg).2;exact⟨A,c,e⟩
theorem zDL (h:PnAt w a n) (ho:n.Ok) :
 Calls Ab 57 #[zCq a.nb] w fun e w'=>e=.returned (.int .i64 ((n.count:Nat):Int))∧Below w.heap.size w w':=by
 obtain⟨A,c,hs⟩:=h.form;have c4:w.cell? ⟨a.nb,4,none⟩=some (.map a.d):=h.blk.cell 4;have c5:w.cell? ⟨a.nb,5,none⟩=some a.s:=h.blk.cell 5;rw [hs] at c5;have hm:=h.data
 cases hd:a.d with
 | none =>
  rw [hd] at c4 hm;have fA:n.data=[]:=hm;have:=zFI a.nb A n.slots.length c w c4 c5 ho.slots;unfold PN.count PN.keys;rw [fA];exact this
 | some db =>
  rw [hd] at c4 hm;exact zKf a.nb db n.data A n.slots.length c w ⟨c4,c5,hm⟩ ho.keys ho.dlen ho.slots
theorem PlainAt.get (h:PlainAt w own lay p mb T) (hg:zAe i T.nodes=some n):PnAt w (lay i) n:=h.node _ (zAf hg)
theorem PlainAt.look (i:Nat):zAe i (T.nodes.map fun x=>(x.1,(lay x.1).nb))=(zAe i T.nodes).map fun _=>(lay i).nb:=zDy (fun a _=>(lay a).nb) i T.nodes
theorem PlainAt.c0 (h:PlainAt w own lay p mb T):w.cell? ⟨p,0,none⟩=some (.int .i64 (T.sectors:Int)):=h.top.cell 0
theorem PlainAt.c1 (h:PlainAt w own lay p mb T):w.cell? ⟨p,1,none⟩=some (.int .i64 (T.inodes:Int)):=h.top.cell 1
theorem PlainAt.c2 (h:PlainAt w own lay p mb T):w.cell? ⟨p,2,none⟩=some (.map (some mb)):=h.top.cell 2
end
theorem pused_any (own:Nat→Option Role) (lay:Nat→NA) (p mb:Nat) (T:PT) (w:World) (h:PlainAt w own lay p mb T) (hT:T.Ok) :
 Calls Ab 35 #[.pointer (some ⟨p,0,none⟩)] w fun e w'=>e=.returned (.int .i64 ((T.used:Nat):Int))∧Below w.heap.size w w':=by
 have c2:=h.c2;have fB:=h.nodes;go_enter Tryz.func35,Tryz.ntmps35;generalize hg:w.heap.size=g at *;have fI:=hid hg;have hH:=hid h;clear hg h
 go_wp2_with (first
  | (at_range;refine zBE _ rfl _ 96 rfl zD3 Ak fB rfl ?_;intro w1 fP fQ fX))
 go_frame
 rw [fI.o] at fQ fP;simp only [fI.o];have fD:=hid hT;clear fB fX hT
 go_loopw [3,5] (fun all _ wr=>∃ (ks:List Nat) (todo:Nat→Bool),zAO wr zAG zCq 3 mb g T.nodes.length (T.nodes.map fun x=>(x.1,(lay x.1).nb)) todo∧Below g w wr∧all=.int .i64 (((ks.map T.countAt).sum:Nat):Int)∧Hid (∀ k,k∈ks↔(zAe k T.nodes).isSome=true∧todo k=false)∧Hid ks.Nodup) (fun _ _ wr=>wr.rangeLeft mb g)
 case atStart=>exact⟨[],_,(by have:=fP;rw [AE] at this;exact this),fQ,rfl,fun k=>by rw [PlainAt.look];cases zAe k T.nodes<;>simp,List.nodup_nil⟩
 case round =>
  obtain⟨ks,todo,hr,hb,rfl,fE,hn⟩:=hrel
  go_wp2_with (first
   | (at_next;refine zBS _ rfl _ rfl zD3 invN rfl hr ?_ ?_))
  · intro h0;have fY:=hid h0;clear h0;have fZ:=hid hb;clear hb hr;go_wp2;go_ret;refine⟨?_,fZ.o⟩;rw [←PT.used_of fD.o.ris hn.o fun k=>by rw [fE.o,fY.o];simp];rfl
  · intro k s w2 fR fC fS fT gA gB gJ gC;rw [PlainAt.look] at fC
    obtain⟨nd,fB,hs⟩:∃ nd,zAe k T.nodes=some nd∧s=(lay k).nb:=by
     cases hg:zAe k T.nodes with
     | none=>rw [hg] at fC;cases fC
     | some nd=>rw [hg] at fC;exact⟨nd,rfl,(Bn fC).symm⟩
    clear fC;subst hs;have fU:=hb.trans (gA.below (show g≤wr.heap.size by have:=hb.size;rw [fI.o] at this;exact this) fun b hb h=>by omega);have gD:=hH.o.fresh (by rw [fI.o];exact fU);have gE:=gD.get fB;have fV:=(fD.o.node _ (zAf fB)).1;have gF:=fV.count
    have fF:T.countAt k=nd.count:=by unfold PT.countAt;rw [fB]
    have gG:=fD.o.used
    have gH:(ks.map T.countAt).sum≤1126400:=by
     have gK:ks.length≤512:=by
      refine Bg (zAB hn.o (l2:=T.nodes.map (·.1)) fun a ha=>zD0.2 ((fE.o a).1 ha).1) ?_;rw [AE];exact fD.o.len
     have:=sum_le (l:=ks.map T.countAt) (k:=2200) fun x hx=>by
      obtain⟨i,hi,rfl⟩:=AP.1 hx;have:=((fE.o i).1 hi).1
      cases hg:zAe i T.nodes with
      | none=>rw [hg] at this;cases this
      | some u=>unfold PT.countAt;rw [hg];exact ((fD.o.node _ (zAf hg)).1).count
     rw [AE] at this;omega
    have fG:=hid fF;have fJ:=hid fB;have fK:=hid fR;have fA:=hid fS;have fL:=hid fT;clear fF fB fR fS fT hr gB;generalize fW:(ks.map T.countAt).sum=sm at *;have fM:=hid fW;clear fW
    go_wp2_with (first
     | (go_at_call 57;refine (zDL gE fV).mono ?_;rintro e w3 ⟨rfl,fN⟩))
    have gI:=fA.o.chg (Ba (S:=fun _=>False) fN) id id;have fH:=zBk (b:=mb) (r:=g) (Ba (S:=fun _=>False) fN) fA.o.owns.lt fA.o.lt id id;have fO:=hid (show w3.rangeLeft mb g<wr.rangeLeft mb g by rw [fH];exact fL.o);clear fH;go_roundw
    case rel =>
     refine⟨ks++[k],_,gI,fU.trans (fN.mono (Bd fA.o.lt)),?_,fun x=>?_,?_⟩
     · rw [List.map_append,List.sum_append_nat,fM.o];simp only [List.map_cons,List.map_nil,List.sum_cons,List.sum_nil,fG.o]
       go_num
     · rw [AN,fE.o,AO];by_cases e:x=k
       · subst e;rw [fJ.o];simp
       · simp [e]
     · rw [Hid,List.nodup_append];refine⟨hn.o,by simp,fun a ha b hb=>?_⟩;rw [AO] at hb;subst hb;rintro rfl;have:=((fE.o a).1 ha).2;rw [fK.o] at this;cases this
    case measure=>exact fO.o
theorem zBM {w w':World} (h:Below w.drew.heap.size w.drew w'):Below w.heap.size w w':=(zAd (Bi _ w) 1).trans h
def zEq (T:PT):Value:=.agg #[.int .i64 ((T.sectors:Int)-1-T.inodes-T.used),.int .i64 0,.int .i64 ((T.inodes:Int)-T.nodes.length)]
theorem PlainAt.len {w:World} {own:Nat→Option Role} {lay:Nat→NA} {p mb:Nat} {T:PT} (h:PlainAt w own lay p mb T) (ty:TypeId):(Builtin.len_ #[96] ty #[.map (some mb)]).run Ab w=.ok (.int .i64 (T.nodes.length:Nat)) w:=by
 have:=h.nodes.len Ak ty;rw [AE] at this;exact this
theorem zHp (own:Nat→Option Role) (lay:Nat→NA) (p mb:Nat) (T:PT) (w:World) (h:PlainAt w own lay p mb T) (hT:T.Ok) :
 Calls Ab 14 #[.pointer (some ⟨p,0,none⟩)] w fun e w'=>e=.returned (zEq T)∧Below w.heap.size w w':=by
 have fI:Below w.heap.size w (w.alloc (.cells #[.int .i64 0,.int .i64 0,.int .i64 0] 40)):=br.alloc nr _;have fC:=h.fresh fI;have fV:=hid h.c0;have fJ:=hid (show ∀ b,b=w.heap.size→own b=none from fun b e=>h.free (by omega));have fE:=Al w 40 [.int .i64 0,.int .i64 0,.int .i64 0];have fK:=hT.used;have fL:=hT.len;have h1:=hT.ino;have h2:=hT.sec;have h3:=hT.s8;go_enter Tryz.func14,Tryz.ntmps14;go_upto_region 1 with (fail)
 replace fE:Blk (w.alloc (.cells #[.int .i64 0,.int .i64 0,.int .i64 0] 40)) w.heap.size 40 [.int .i64 0,.int .i64 0,.int .i64 0]:=fE
 generalize w.alloc (.cells #[.int .i64 0,.int .i64 0,.int .i64 0] 40)=w0 at *;generalize hg:w.heap.size=g at *;have fU:=hid hg;clear hg;have c0:=fC.c0;have c1:=fC.c1;have c2:=fC.c2;have fM:PlainAt w0.drew own lay p mb T:=fC.drew;have cl:=fM.len;have fF:=hid fM;have fN:T.nodes.length=T.nodes.length:=rfl;have gB:=hid fC;have fW:=hid fE;have fX:=hid fI;have fY:=hid hT;have fZ:=fE.lt;clear fC fE fI h hT fM fN
 have gC:p≠g:=by have:=Bm _ _ fV.o;have e:=fU.o;simp only at this;omega
 obtain⟨us,fO⟩:∃ us,us=T.used:=⟨_,rfl⟩;obtain⟨nl,fP⟩:∃ nl,nl=T.nodes.length:=⟨_,rfl⟩;obtain⟨se,fQ⟩:∃ se,se=T.sectors:=⟨_,rfl⟩;obtain⟨io,fR⟩:∃ io,io=T.inodes:=⟨_,rfl⟩;rw [←fP] at cl fL;rw [←fQ] at c0 h2 h3;rw [←fR] at c1 h1;rw [←fO] at fK;have fG:=hid fO;have fA:=hid (And.intro fP (And.intro fQ fR));clear fO fP fQ fR;have e1:IntKind.i64.wrap ((se:Int)-1)=(se:Int)-1:=Bo _ (by omega);have e2:IntKind.i64.wrap ((se:Int)-1-io)=(se:Int)-1-io:=Bo _ (by omega);have e3:IntKind.i64.wrap ((se:Int)-1-io-us)=(se:Int)-1-io-us:=Bo _ (by omega);have e4:IntKind.i64.wrap ((io:Int)-nl)=(io:Int)-nl:=Bo _ (by omega)
 go_region_held3 (fun w'=>w'.cell? ⟨p,0,none⟩=some (.int .i64 (se:Int))∧w'.cell? ⟨p,1,none⟩=some (.int .i64 (io:Int))∧w'.cell? ⟨p,2,none⟩=some (.map (some mb))∧∀ ty,(Builtin.len_ #[96] ty #[.map (some mb)]).run Ab w'=.ok (.int .i64 (nl:Nat)) w')
  (first | go_keep)
  (first
   | (go_at_call 35;refine (pused_any own lay p mb T w0.drew fF.o fY.o).mono ?_;rintro e w1 ⟨rfl,fS⟩;have fD:=fF.o.fresh fS;have d0:=fD.c0;have d1:=fD.c1;have d2:=fD.c2;have dl:=fD.len;have fB:=fW.o.fresh (zBM fS);have f0:=fB.frozen 0;have f1:=fB.frozen 1;have f2:=fB.frozen 2;have q0:=fB.cell 0;have q1:=fB.cell 1;have q2:=fB.cell 2;rw [←fA.o.1] at dl;rw [←fA.o.2.1] at d0;rw [←fA.o.2.2] at d1;rw [←fG.o];have fH:=fD.chg (((((B9 (fun b=>b=g) w1).setCell (p:=⟨g,0,none⟩) (fun _=>rfl) (.int .i64 ((se:Int)-1-io-us))).setCell (p:=⟨g,1,none⟩) (fun _=>rfl) (.int .i64 0)).setCell (p:=⟨g,2,none⟩) (fun _=>rfl) (.int .i64 ((io:Int)-nl)))) fJ.o;have dl3:=fH.len;rw [←fA.o.1] at dl3;have g0:=fH.c0;have g1:=fH.c1;have g2:=fH.c2;rw [←fA.o.2.1] at g0;rw [←fA.o.2.2] at g1;clear fH fD))
 have fT:=((fB.set_ 0 (.int .i64 ((se:Int)-1-io-us))).set_ 1 (.int .i64 0)).set_ 2 (.int .i64 ((io:Int)-nl));have gA:=((((fX.o.trans (zBM fS |>.mono (Bd fZ))).setCell (p:=⟨g,0,none⟩) nr (.int .i64 ((se:Int)-1-io-us))).setCell (p:=⟨g,1,none⟩) nr (.int .i64 0)).setCell (p:=⟨g,2,none⟩) nr (.int .i64 ((io:Int)-nl)));go_wp2;refine B3 (B8 rfl _ _ g 40 (#[.int .i64 ((se:Int)-1-io-us),.int .i64 0,.int .i64 ((io:Int)-nl)]:Array Value) (0,0) _ rfl fT Tryz.underlying40 rfl rfl) rfl ⟨?_,?_⟩
 · rw [fA.o.1,fA.o.2.1,fA.o.2.2,fG.o];rfl
 · rw [fU.o];exact gA
theorem zI1 (own:Nat→Option Role) (lay:Nat→NA) (p mb:Nat) (T:PT) (x y:Nat) (cx cy:Nat) (w:World) (h:PlainAt w own lay p mb T) (hT:T.Ok)
 (hx:∀ W,Below w.heap.size w W→Calls Ab 57 #[zCq x] W fun e w'=>e=.returned (.int .i64 (cx:Int))∧Below W.heap.size W w') (fG:cx≤2200)
 (hy:∀ W,Below w.heap.size w W→Calls Ab 57 #[zCq y] W fun e w'=>e=.returned (.int .i64 (cy:Int))∧Below W.heap.size W w') (fH:cy≤2200) :
 Calls Ab 129 #[zCq p,zCq x,zCq y] w fun e w'=>e=.returned (.bool (decide ((cy:Int)-cx≤(T.sectors:Int)-1-T.inodes-T.used)))∧Below w.heap.size w w':=by
 have fld:∀ (a b:Int) (w:World),(Instr.field 40 (.agg #[.int .i64 a,.int .i64 0,.int .i64 b]) 0).run Ab w=.ok (.int .i64 a) w:=fun _ _ _=>by kernel_rfl
 unfold zCq;go_enter Tryz.func129,Tryz.ntmps129;have fF:=hT.used;have h1:=hT.ino;have h2:=hT.sec;have h3:=hT.s8;go_wp2_with fail;refine (zHp own lay p mb T w h hT).mono ?_;rintro e w1 ⟨rfl,fB⟩;unfold zEq;go_wp2_with fail;refine (hy w1 fB).mono ?_;rintro e w2 ⟨rfl,fD⟩;have fA:=fB.trans (fD.mono fB.size);go_wp2_with fail;refine (hx w2 fA).mono ?_;rintro e w3 ⟨rfl,fE⟩;have fC:=hid (fA.trans (fE.mono fA.size));clear fB fD fA fE hx hy h hT;go_wp2;go_ret;exact⟨rfl,fC.o⟩
def zAh (x:ByteArray):List ByteArray→Option Nat
 | []=>none
 | y::r=>if y=x then some 0 else (zAh x r).map (· + 1)
def emp:ByteArray:=⟨#[]⟩
def PT.walk (T:PT):List ByteArray→Nat→Nat×Nat
 | [],i=>(i,0)
 | nm::r,i=>match zAe i T.nodes with
  | none=>(0,999)
  | some d=>if d.dir=false then (0,113) else match zAe nm d.names with
   | none=>(0,110)
   | some j=>T.walk r j
def PT.isDir (T:PT) (i:Nat):Bool:=match zAe i T.nodes with | some d=>d.dir | none=>false
def PT.last (T:PT) (l:List ByteArray):Nat×Nat :=
 if l=[] then (0,143) else
 let r:=T.walk l.dropLast 1
 if r.2=0∧T.isDir r.1=false then (r.1,113) else r
def zAM (l:List ByteArray):ByteArray:=l.getLastD emp
def PT.room (T:PT) (was is:Nat):Bool:=decide ((is:Int)-was≤(T.sectors:Int)-1-T.inodes-T.used)
def PT.place (T:PT) (d:PN):Nat×Nat :=
 match zAh emp d.slots with
 | some k=>(k,0)
 | none=>if d.slots.length=1068 then (0,112) else if T.room d.count (zDw (AQ (d.slots.length+1))) then (d.slots.length,0) else (0,80)
def PN.set (d:PN) (k:Nat) (nm:ByteArray) (i:Nat):PN :=
 {d with slots:=if k=d.slots.length then d.slots++[nm] else d.slots.set k nm,size:=if k=d.slots.length then (d.slots.length+1) * 128 else d.size,names:=zA2 zAV nm i d.names}
def PN.clear (d:PN) (nm:ByteArray):PN :=
 {d with slots:=match zAh nm d.slots with | some k=>d.slots.set k emp | none=>d.slots,names:=zBB nm d.names}
def PT.upd (T:PT) (i:Nat) (n:PN):PT:={T with nodes:=zA2 zAG i n T.nodes}
def PT.del (T:PT) (i:Nat):PT:={T with nodes:=zBB i T.nodes}
def PT.less (T:PT) (i:Nat):PT:=match zAe i T.nodes with
 | some n=>if n.links-1=0∨n.dir=true then T.del i else T.upd i {n with links:=n.links-1}
 | none=>T
def zA5 (T:PT):Nat→Nat→Nat
 | 0,_=>0
 | f+1,i=>if T.inodes<i then 0 else if (zAe i T.nodes).isSome then zA5 T f (i+1) else i
def PT.free (T:PT):Nat:=zA5 T (T.inodes+1) 2
theorem zAR {x:ByteArray}:∀ {l:List ByteArray} {k:Nat},zAh x l=some k→k<l.length∧l[k]? = some x
 | [],k,h=>by cases h
 | y::r,k,h=>by
  unfold zAh at h
  split at h
  · rename_i e;injection h with h;subst h;exact⟨by simp,by simp [e]⟩
  · cases hr:zAh x r with
    | none=>rw [hr] at h;cases h
    | some j =>
     rw [hr] at h;injection h with h;subst h;have:=zAR hr;exact⟨by simp;omega,by simpa using this.2⟩
theorem zBW {x:ByteArray}:∀ {l:List ByteArray},zAh x l=none↔∀ y∈l,y≠x
 | []=>by simp [zAh]
 | y::r=>by
  unfold zAh
  split
  · rename_i e
    constructor
    · intro h;cases h
    · intro h;exact absurd e (h y Ax)
  · rename_i e;rw [Option.map_eq_none_iff,zBW];simp [e]
theorem zGc {x:ByteArray} {l:List ByteArray}:∀ (k:Nat),(∀ j (_hj:j<k) (h:j<l.length),l[j]≠x)→k≤l.length→zAh x l=(zAh x (l.drop k)).map (· + k):=by
 induction l with
 | nil =>
  intro k _ hk
  have:k=0:=by simpa using hk
  subst this;simp [zAh]
 | cons y r ih =>
  intro k h hk
  cases k with
  | zero=>simp
  | succ k =>
   have hy:y≠x:=h 0 (by omega) (by simp);rw [zAh,if_neg hy,ih k (fun j hj h'=>by have:=h (j+1) (by omega) (by simp;omega);simpa using this) (by simpa using hk),List.drop_succ_cons]
   cases zAh x (r.drop k) with
   | none=>rfl
   | some j=>simp;omega
structure St where
 ino:Int
 kind:Int
 links:Int
 size:Int
 made:Int
 blocks:Int
def st0:St:=⟨0,0,0,0,0,0⟩
def PT.stat (T:PT) (i:Nat):St:=match zAe i T.nodes with
 | some n=>⟨i,n.kind,n.links,n.size,n.made,n.count⟩
 | none=>st0
structure Ans where
 code:Nat
 stat:St
 data:List UInt8
 ents:List (ByteArray×Nat×Int)
def Ans.err (c:Nat):Ans:=⟨c,st0,[],[]⟩
def PT.entry (T:PT) (l:List ByteArray):Nat×ByteArray×Nat×Nat :=
 let r:=T.last l
 if r.2≠0 then (0,emp,0,r.2) else
 match (zAe r.1 T.nodes).bind fun d=>zAe (zAM l) d.names with
 | none=>(0,emp,0,110)
 | some j=>(r.1,zAM l,j,0)
def PT.clr (T:PT) (d:Nat) (nm:ByteArray):PT:=match zAe d T.nodes with | some n=>T.upd d (n.clear nm) | none=>T
def PT.ins (T:PT) (d k:Nat) (nm:ByteArray) (i:Nat):PT:=match zAe d T.nodes with | some n=>T.upd d (n.set k nm i) | none=>T
def PT.node (T:PT) (i:Nat):PN:=(zAe i T.nodes).getD ⟨false,0,0,0,[],[],[]⟩
def PT.linksUp (T:PT) (i:Nat):PT:=T.upd i {T.node i with links:=(T.node i).links+1}
def PT.unlink (T:PT) (l:List ByteArray):PT×Nat :=
 if (T.entry l).2.2.2≠0 then (T,(T.entry l).2.2.2) else if T.isDir (T.entry l).2.2.1=true then (T,102) else ((T.clr (T.entry l).1 (T.entry l).2.1).less (T.entry l).2.2.1,0)
def PT.rmdir (T:PT) (l:List ByteArray):PT×Nat :=
 if (T.entry l).2.2.2≠0 then (T,(T.entry l).2.2.2) else if T.isDir (T.entry l).2.2.1=false then (T,113) else if 0<(T.node (T.entry l).2.2.1).names.length then (T,140) else ((T.clr (T.entry l).1 (T.entry l).2.1).less (T.entry l).2.2.1,0)
def PT.link (T:PT) (l m:List ByteArray):PT×Nat :=
 if (T.walk l 1).2≠0 then (T,(T.walk l 1).2) else if (T.last m).2≠0 then (T,(T.last m).2) else
 if (zAe (zAM m) (T.node (T.last m).1).names).isSome then (T,111) else if T.isDir (T.walk l 1).1=true then (T,102) else if (T.node (T.walk l 1).1).links=100 then (T,142) else
 if (T.place (T.node (T.last m).1)).2≠0 then (T,(T.place (T.node (T.last m).1)).2) else
 ((T.linksUp (T.walk l 1).1).ins (T.last m).1 (T.place (T.node (T.last m).1)).1 (zAM m) (T.walk l 1).1,0)
def zCR (dir:Bool) (made:Nat):PN:=⟨dir,1,0,made,[],[],[]⟩
def PT.make (T:PT) (l:List ByteArray) (dir:Bool) (made:Nat):PT×Ans :=
 if (T.last l).2≠0 then (T,.err (T.last l).2) else if (zAe (zAM l) (T.node (T.last l).1).names).isSome then (T,.err 111) else if T.free=0 then (T,.err 81) else
 if (T.place (T.node (T.last l).1)).2≠0 then (T,.err (T.place (T.node (T.last l).1)).2) else
 (((T.upd T.free (zCR dir made)).ins (T.last l).1 (T.place (T.node (T.last l).1)).1 (zAM l) T.free),⟨0,((T.upd T.free (zCR dir made)).ins (T.last l).1 (T.place (T.node (T.last l).1)).1 (zAM l) T.free).stat T.free,[],[]⟩)
inductive PT.Und (T:PT) (d:Nat):Nat→Prop where
 | here:PT.Und T d d
 | step {i k:Nat} {n:PN} {nm:ByteArray}:zAe i T.nodes=some n→zAe nm n.names=some k→T.isDir k=true→PT.Und T d k→PT.Und T d i
def PT.Ranked (T:PT) (rk:Nat→Nat):Prop:=∀ i n nm j,zAe i T.nodes=some n→zAe nm n.names=some j→T.isDir j=true→rk i<rk j
open Classical in
noncomputable def PT.rename (T:PT) (l m:List ByteArray):PT×Nat :=
 if (T.last l).2≠0 then (T,(T.last l).2) else if (T.last m).2≠0 then (T,(T.last m).2) else
 match zAe (zAM l) (T.node (T.last l).1).names with
 | none=>(T,110)
 | some i =>
  if (T.last l).1=(T.last m).1∧zAM l=zAM m then (T,0) else
  if T.isDir i=true then
   if (zAe (zAM m) (T.node (T.last m).1).names).isSome then (T,111) else if T.Und (T.last m).1 i then (T,141) else
   if (T.place (T.node (T.last m).1)).2≠0 then (T,(T.place (T.node (T.last m).1)).2) else
   ((T.ins (T.last m).1 (T.place (T.node (T.last m).1)).1 (zAM m) i).clr (T.last l).1 (zAM l),0)
  else match zAe (zAM m) (T.node (T.last m).1).names with
   | some j=>if T.isDir j=true then (T,111) else if i=j then (T,0) else if (T.node i).links=100 then (T,142) else
    (((T.ins (T.last m).1 ((zAh (zAM m) (T.node (T.last m).1).slots).getD 0) (zAM m) i).clr (T.last l).1 (zAM l)).less j,0)
   | none=>if (T.node i).links=100 then (T,142) else if (T.place (T.node (T.last m).1)).2≠0 then (T,(T.place (T.node (T.last m).1)).2) else
    ((T.ins (T.last m).1 (T.place (T.node (T.last m).1)).1 (zAM m) i).clr (T.last l).1 (zAM l),0)
structure PT.Wf (T:PT):Prop where
 ok:T.Ok
 root:∃ n,zAe 1 T.nodes=some n∧n.dir=true
 ents:∀ i n nm j,zAe i T.nodes=some n→zAe nm n.names=some j→∃ m,zAe j T.nodes=some m
 slotn:∀ i n nm j,zAe i T.nodes=some n→zAe nm n.names=some j→∃ k,zAh nm n.slots=some k
 lnk:∀ i n,zAe i T.nodes=some n→1≤n.links
 nemp:∀ i n,zAe i T.nodes=some n→zAe emp n.names=none
 rank:∃ rk:Nat→Nat,∀ i n nm j,zAe i T.nodes=some n→zAe nm n.names=some j→T.isDir j=true→rk i<rk j
theorem PT.Ok.get {T:PT} (h:T.Ok) {i:Nat} {n:PN} (hg:zAe i T.nodes=some n):n.Ok∧1≤i∧i≤T.inodes:=h.node _ (zAf hg)
theorem PT.Ok.upd {T:PT} (h:T.Ok) {i:Nat} {n:PN} (hn:n.Ok) (hi:1≤i∧i≤T.inodes):(T.upd i n).Ok:=by
 refine⟨h.ris.put zAG zCo i n,fun p hp=>?_,h.ino,h.s8,h.sec⟩;rcases (zBj zAG).1 hp with rfl | ⟨hp,-⟩
 · exact⟨hn,hi⟩
 · exact h.node p hp
theorem PT.Ok.del {T:PT} (h:T.Ok) (i:Nat):(T.del i).Ok:=⟨h.ris.del zAG i,fun p hp=>h.node p (zBG.1 hp).1,h.ino,h.s8,h.sec⟩
theorem PN.Ok.clear {n:PN} (h:n.Ok) (nm:ByteArray):(n.clear nm).Ok:=by
 refine⟨h.keys,h.dlen,h.secs,?_,h.links,h.size,h.made,fun p hp=>h.nm p (zBG.1 hp).1,?_,h.dd,fun e=>?_,?_,?_⟩
 · unfold PN.clear;simp only
   split
   · rw [Aw];exact h.slots
   · exact h.slots
 · have h1:(zBB nm n.names).length≤n.names.length:=List.length_filter_le _ _;have h2:=h.nlen;unfold PN.clear;simp only
   split
   · rw [Aw];omega
   · omega
 · obtain⟨h1,h2⟩:=h.df e;unfold PN.clear;simp only [h1,h2];exact⟨by simp [zAh],rfl⟩
 · exact h.nris.del zAV nm
 · exact h.dris
theorem PN.Ok.set {n:PN} (h:n.Ok) (hd:n.dir=true) {k:Nat} {nm:ByteArray} {j:Nat} (_hk:k≤n.slots.length) (fB:k<1068) (fA:nm.size≤40) (hj:j≤512) (hl:(zA2 zAV nm j n.names).length≤(n.set k nm j).slots.length):(n.set k nm j).Ok:=by
 refine⟨h.keys,h.dlen,h.secs,?_,h.links,?_,h.made,fun p hp=>?_,?_,h.dd,fun e=>?_,h.nris.put zAV zEC nm j,h.dris⟩
 · unfold PN.set;simp only
   split
   · rw [An,AS];omega
   · rw [Aw];exact h.slots
 · unfold PN.set;simp only
   split
   · omega
   · exact h.size
 · rcases (zBj zAV).1 hp with rfl | ⟨hp,-⟩
   · exact⟨fA,hj⟩
   · exact h.nm p hp
 · exact hl
 · have e':n.dir=false:=e;rw [hd] at e';cases e'
theorem zAn {T:PT} {i:Nat} {n:PN} (h:zAe i T.nodes=some n):T.node i=n:=by unfold PT.node;rw [h];rfl
theorem zCU {x:ByteArray} {l:List ByteArray} (h:x∈l):∃ k,zAh x l=some k:=by
 cases hf:zAh x l with
 | some k=>exact⟨k,rfl⟩
 | none=>exact absurd rfl (zBW.1 hf x h)
def PN.Fit (n:PN) (k:Nat) (nm:ByteArray):Prop:=(k=n.slots.length∧n.slots.length<1068)∨(k<n.slots.length∧n.slots[k]? = some emp)∨((zAe nm n.names).isSome=true∧n.slots[k]? = some nm)
theorem PN.Fit.le {n:PN} {k:Nat} {nm:ByteArray} (h:n.Fit k nm):k≤n.slots.length:=by
 rcases h with h | h | h
 · omega
 · omega
 · have:=(AT.1 h.2).1;omega
theorem PN.Fit.lt {n:PN} {k:Nat} {nm:ByteArray} (h:n.Fit k nm) (hn:n.Ok):k<1068:=by
 have:=hn.slots;rcases h with h | h | h
 · omega
 · omega
 · have:=(AT.1 h.2).1;omega
theorem zBs {T:PT} {n:PN} (hn:n.Ok) {nm:ByteArray} (h:(T.place n).2=0):n.Fit (T.place n).1 nm:=by
 have hs:=hn.slots;unfold PT.place at h ⊢
 cases hf:zAh emp n.slots with
 | some k=>exact .inr (.inl (zAR hf))
 | none =>
  rw [hf] at h;simp only at h ⊢
  split
  · rename_i h1;rw [if_pos h1] at h;cases h
  · rename_i h1;rw [if_neg h1] at h
    split
    · exact .inl ⟨rfl,by omega⟩
    · rename_i h2;rw [if_neg h2] at h;cases h
theorem zCs {T:PT} (hT:T.Wf) {d:Nat} {n:PN} (hg:zAe d T.nodes=some n) (hd:n.dir=true) {k j:Nat} {nm:ByteArray} (hf:n.Fit k nm) (hs:nm.size≤40) (hj:j≤512):(n.set k nm j).Ok:=by
 have hn:=(hT.ok.get hg).1;refine hn.set hd hf.le (hf.lt hn) hs hj ?_;have fE:=hn.nris;have hl:=hn.nlen;have fF:=zBi zAV nm j n.names;rcases hf with ⟨rfl,-⟩ | ⟨h1,h2⟩ | ⟨h1,h2⟩
 · simp only [PN.set,if_true,An,AS];omega
 · simp only [PN.set,if_neg (Nat.ne_of_lt h1),Aw]
   have fB:n.names.length≤(n.slots.eraseIdx k).length:=by
    have e:(n.names.map (·.1)).length=n.names.length:=AE _;rw [←e];refine zAB (zEF fE) fun x hx=>?_;have fC:=zD0.1 hx
    cases fA:zAe x n.names with
    | none=>rw [fA] at fC;cases fC
    | some u =>
     obtain⟨q,hq⟩:=hT.slotn d n x u hg fA;have fD:=zAR hq
     have fG:q≠k:=fun e=>by
      subst e;have:=Bn (fD.2.symm.trans h2);rw [this,hT.nemp d n hg] at fA;cases fA
     rw [List.mem_eraseIdx_iff_getElem?];exact⟨q,fG,fD.2⟩
   rw [List.length_eraseIdx,if_pos h1] at fB;omega
 · have fB:=(AT.1 h2).1;simp only [PN.set,if_neg (Nat.ne_of_lt fB),Aw]
   have:(zA2 zAV nm j n.names).length≤n.names.length:=by
    unfold zA2;rw [zDq];have hm:nm∈n.names.map (·.1):=zD0.2 h1
    have:(zBB nm n.names).length<n.names.length:=by
     unfold zBB
     rcases Be (List.filter (fun p=>decide (p.1≠nm)) n.names).length n.names.length with h | h
     · exact h
     · have fH:=List.length_filter_le (fun p:ByteArray×Nat=>decide (p.1≠nm)) n.names;have fI:=List.length_filter_eq_length_iff.1 (Nat.le_antisymm fH h);obtain⟨p,hp,e⟩:=AP.1 hm;have:=fI p hp;simp [e] at this
    omega
   omega
theorem zCW {x y:ByteArray}:∀ {l:List ByteArray} {k q:Nat},zAh x l=some q→y≠x→l[k]?≠some x→zAh x (l.set k y)=some q
 | [],_,_,h,_,_=>by cases h
 | z::r,0,q,h,hy,hk=>by
  unfold zAh at h;have hz:z≠x:=fun e=>hk (by simp [e]);rw [if_neg hz] at h;rw [At,zAh,if_neg hy];exact h
 | z::r,k+1,q,h,hy,hk=>by
  unfold zAh at h;rw [AK,zAh]
  split
  · rename_i e;rw [if_pos e] at h;exact h
  · rename_i e;rw [if_neg e] at h
    cases hr:zAh x r with
    | none=>rw [hr] at h;cases h
    | some j =>
     rw [hr] at h;rw [zCW hr hy (by simpa using hk)];exact h
theorem zDP {x y:ByteArray}:∀ {l:List ByteArray} {q:Nat},zAh x l=some q→zAh x (l++[y])=some q
 | [],_,h=>by cases h
 | z::r,q,h=>by
  unfold zAh at h;rw [List.cons_append,zAh]
  split
  · rename_i e;rw [if_pos e] at h;exact h
  · rename_i e;rw [if_neg e] at h
    cases hr:zAh x r with
    | none=>rw [hr] at h;cases h
    | some j =>
     rw [hr] at h;rw [zDP hr];exact h
theorem zC4 {n:PN} {k j q:Nat} {nm x:ByteArray} (hf:n.Fit k nm) (fA:nm≠x) (hx:x≠emp) (hq:zAh x n.slots=some q):zAh x (n.set k nm j).slots=some q:=by
 unfold PN.set;simp only
 split
 · exact zDP hq
 · refine zCW hq fA fun e=>?_;rcases hf with ⟨h,-⟩ | ⟨-,h⟩ | ⟨-,h⟩
   · exact absurd h (by assumption)
   · rw [h] at e;exact hx (Bn e).symm
   · rw [h] at e;exact fA (Bn e)
theorem zFT {α:Type} [DecidableEq α] (p:α→Bool) (j:α):∀ L:List α,L.Nodup→j∈L→(L.filter fun x=>p x || decide (x=j)).length=(L.filter p).length+if p j=true then 0 else 1
 | [],_,h=>by cases h
 | y::r,hn,h=>by
  obtain⟨h1,h2⟩:=List.nodup_cons.1 hn;by_cases e:y=j
  · subst e
    have hr:(r.filter fun x=>p x || decide (x=y))=r.filter p:=by
     refine AU fun x hx=>?_;have:x≠y:=fun e=>h1 (e▸hx);simp [this]
    cases hp:p y with
    | true=>simp [AV,hp,hr]
    | false=>simp [AV,hp,hr]
  · have hj:j∈r:=by
     rcases AF.1 h with h | h
     · exact absurd h.symm e
     · exact h
    have ih:=zFT p j r h2 hj
    cases hp:p y with
    | true=>simp only [AV,hp,Bool.true_or,if_true,AM,ih];omega
    | false=>simp only [AV,hp,e,decide_false,Bool.or_false,Bh,if_false,ih]
def tbl (a:List Nat) (j:Nat):Bool:=a.any fun k=>decide (44≤k∧(k-44) / 32=j)
def zKo (a:List Nat):Nat:=((AQ 32).filter (tbl a)).length
def sgl (a:List Nat):Nat:=if a.any (fun k=>decide (12≤k∧k<44))=true then 1 else 0
def dbl (a:List Nat):Nat:=if a.any (fun k=>decide (44≤k))=true then 1 else 0
theorem zEu (a:List Nat) (k j:Nat):tbl (a++[k]) j=(tbl a j || decide (44≤k∧(k-44) / 32=j)):=by unfold tbl;rw [AW];simp
theorem tblN_snoc (a:List Nat) (k:Nat) (h:k≤1067):zKo (a++[k])=zKo a+if 44≤k∧tbl a ((k-44) / 32)=false then 1 else 0:=by
 unfold zKo;by_cases fA:44≤k
 · have e:(AQ 32).filter (tbl (a++[k]))=(AQ 32).filter fun x=>tbl a x || decide (x=(k-44) / 32):=by
    refine AU fun x _=>?_;rw [zEu]
    congr 1
    exact decide_eq_decide.2 ⟨fun h=>h.2.symm,fun h=>⟨fA,h.symm⟩⟩
   rw [e,zFT _ _ _ List.nodup_range (Ay.2 (by omega))];cases tbl a ((k-44) / 32)<;>simp [fA]
 · have e:(AQ 32).filter (tbl (a++[k]))=(AQ 32).filter (tbl a):=by
    refine AU fun x _=>?_;rw [zEu];simp [fA]
   rw [e,if_neg (by omega)];rfl
def LaOk (a:List Nat) (la:Int):Prop:=(∀ k∈a,44≤k→∃ j:Nat,la=(j:Int)∧tbl a j=true∧(k-44) / 32≤j)∧((∀ k∈a,¬44≤k)→la=-1)
theorem zFE (m:Nat):∀ (a:List Nat) (r:List Nat),(a++r).Pairwise (· < ·)→(∀ k∈a++r,k≤1067)→∀ la,LaOk a la→r.foldl zBQ (m+zKo a,sgl a,dbl a,la)=(m+zKo (a++r),sgl (a++r),dbl (a++r),(r.foldl zBQ (m+zKo a,sgl a,dbl a,la)).2.2.2)
 | a,[],_,_,la,_=>by simp
 | a,k::r,hs,hb,la,hl=>by
  have hk:=hb k (by simp);have fC:∀ y∈a,y<k:=fun y hy=>(List.pairwise_append.1 hs).2.2 y hy k Ax
  have e1:a++k::r=(a++[k])++r:=by simp
  have key:∃ la',zBQ (m+zKo a,sgl a,dbl a,la) k=(m+zKo (a++[k]),sgl (a++[k]),dbl (a++[k]),la')∧LaOk (a++[k]) la':=by
   have fF:sgl (a++[k])=if 12≤k∧k<44 then 1 else sgl a:=by
    unfold sgl;rw [AW];by_cases h:12≤k∧k<44
    · simp [h]
    · rw [if_neg h];simp [h]
   have fG:dbl (a++[k])=if 44≤k then 1 else dbl a:=by
    unfold dbl;rw [AW];by_cases h:44≤k
    · simp [h]
    · rw [if_neg h];simp [h]
   rw [tblN_snoc a k hk,fF,fG];unfold zBQ;simp only;by_cases fA:44≤k
   · have fD:((((k-44) / 32:Nat):Int)≠la)↔tbl a ((k-44) / 32)=false:=by
      constructor
      · intro fH
        cases ht:tbl a ((k-44) / 32) with
        | false=>rfl
        | true =>
         exfalso
         unfold tbl at ht;obtain⟨y,hy,hp⟩:=AX.1 ht;have hp:=of_decide_eq_true hp;obtain⟨j,h1,h2,h3⟩:=hl.1 y hy hp.1;unfold tbl at h2;obtain⟨z,hz,hq⟩:=AX.1 h2;have hq:=of_decide_eq_true hq;have:=fC z hz
         apply fH
         rw [h1];omega
      · intro ht e;by_cases fE:∃ y∈a,44≤y
        · obtain⟨y,hy,h5⟩:=fE;obtain⟨j,h1,h2,h3⟩:=hl.1 y hy h5;rw [h1] at e
          have e:(k-44) / 32=j:=by omega
          rw [e,h2] at ht;cases ht
        · have:=hl.2 fun y hy h=>fE ⟨y,hy,h⟩;omega
     refine⟨(((k-44) / 32:Nat):Int),?_,fun y hy fB=>⟨(k-44) / 32,rfl,?_,?_⟩,fun h=>absurd fA (h k (by simp))⟩
     · rw [if_pos fA,if_pos fA]
       congr 1
       by_cases ht:tbl a ((k-44) / 32)=false
       · rw [if_pos ⟨fA,fD.2 ht⟩,if_pos ⟨fA,ht⟩];omega
       · rw [if_neg fun h=>ht (fD.1 h.2),if_neg fun h=>ht h.2];omega
     · rw [zEu];simp [fA]
     · rcases AN.1 hy with h | h
       · have:=fC y h;omega
       · rw [AO.1 h];omega
   · refine⟨la,?_,fun y hy fB=>?_,fun h=>hl.2 fun y hy=>h y (List.mem_append_left _ hy)⟩
     · have c1:¬(44≤k∧(((k-44) / 32:Nat):Int)≠la):=fun h=>fA h.1;have c2:¬(44≤k∧tbl a ((k-44) / 32)=false):=fun h=>fA h.1;simp only [if_neg fA,if_neg c1,if_neg c2,Nat.add_zero]
     · rcases AN.1 hy with h | h
       · obtain⟨j,h1,h2,h3⟩:=hl.1 y h fB;exact⟨j,h1,by rw [zEu,h2];rfl,h3⟩
       · rw [AO.1 h] at fB;exact absurd fB fA
  obtain⟨la',h1,h2⟩:=key;rw [AL,h1];have ih:=zFE m (a++[k]) r (by rw [←e1];exact hs) (by rw [←e1];exact hb) la' h2;rw [←e1] at ih;exact ih
theorem zKB (ks:List Nat):zCh ks=dbl ks+sgl ks+zKo ks:=by
 unfold zCh zDr;rw [AV,AV]
 have h2:(ks.any fun k=>tab k (-2))=ks.any fun k=>decide (44≤k):=by
  congr 1;funext k
  unfold tab;by_cases h:44≤k
  · simp [h]
  · by_cases h':12≤k<;>simp [h,h']
 have h1:(ks.any fun k=>tab k (-1))=ks.any fun k=>decide (12≤k∧k<44):=by
  congr 1;funext k
  unfold tab;by_cases h:44≤k
  · have:¬((-1:Int)=(((k-44) / 32:Nat):Int)):=by omega
    rw [if_pos h];simp only [Int.reduceNeg,Int.reduceBEq,Bool.false_or];rw [Bool.eq_iff_iff];simp only [beq_iff_eq,decide_eq_true_iff];omega
  · by_cases h':12≤k
    · simp [h,h'];omega
    · simp [h,h']
 have h3:(((AQ 32).map Int.ofNat).filter fun z=>ks.any fun k=>tab k z).length=zKo ks:=by
  unfold zKo;rw [List.filter_map,AE]
  congr 1
  refine AU fun j _=>?_;unfold tbl;simp only [Function.comp]
  congr 1;funext k
  unfold tab;by_cases h:44≤k
  · rw [if_pos h,Bool.eq_iff_iff];simp only [Bool.or_eq_true,beq_iff_eq,decide_eq_true_iff,h,true_and]
    constructor
    · rintro (h | h)
      · have:(Int.ofNat j)=(j:Int):=rfl;omega
      · have:(Int.ofNat j)=(j:Int):=rfl;omega
    · intro h;exact .inr (by rw [h];rfl)
  · by_cases h':12≤k
    · rw [if_neg h,if_pos h',Bool.eq_iff_iff];simp only [beq_iff_eq,decide_eq_true_iff,h,false_and,iff_false];have:(Int.ofNat j)=(j:Int):=rfl;omega
    · simp [h,h']
 unfold dbl sgl;rw [h2,h1]
 cases (ks.any fun k=>decide (44≤k))<;>cases (ks.any fun k=>decide (12≤k∧k<44))<;>simp only [Bh,if_false,if_true,AM,h3]<;>omega
theorem zKu {l:List Nat} (hs:l.Pairwise (· < ·)) (hb:∀ k∈l,k≤1067):zBp l=zDw l:=by
 have h:=zFE l.length [] l (by simpa using hs) (by simpa using hb) (-1) ⟨fun k hk=>(by cases hk),fun _=>rfl⟩
 have e:(l.length+zKo [],sgl [],dbl [],(-1:Int))=(l.length,0,0,-1):=by
  have:zKo []=0:=by decide
  rw [this];rfl
 rw [e] at h;unfold zBp zDw;rw [zKB,h];simp only [AA];omega
end Go.Proofs.YtolpcfhfcdkokaaGreatDoor
