/- Joined out of Slot..Pl. -/
import Derived.Test.YtolpcfhfcdkokaaGreatDoorQ05
set_option maxHeartbeats 16000000
set_option maxRecDepth 100000
namespace Go.Proofs.YtolpcfhfcdkokaaGreatDoor
open Lib (hid)
open Go.RowKit
def inB (n a b:Int):Bool:=decide (a≤n∧n≤b)
theorem zFB (n a b:Int) (w:World) :
 Calls Tryz.prog 150 #[.int .i64 n,.int .i64 a,.int .i64 b] w fun e w'=>e=.returned (.bool (inB n a b))∧w=w':=by
 by_cases h1:a≤n
 · by_cases h2:n≤b
   · have hf:=hid (show inB n a b=true from decide_eq_true ⟨h1,h2⟩);go_enter Tryz.func150,Tryz.ntmps150;go_wp2;go_ret;exact⟨by rw [hf.out];rfl,rfl⟩
   · have hf:=hid (show inB n a b=false from decide_eq_false (fun h=>h2 h.2))
     have h3:b<n:=by omega
     clear h2;go_enter Tryz.func150,Tryz.ntmps150;go_wp2;go_ret;exact⟨by rw [hf.out];simp;omega,rfl⟩
 · have hf:=hid (show inB n a b=false from decide_eq_false (fun h=>h1 h.1))
   have h3:n<a:=by omega
   clear h1;go_enter Tryz.func150,Tryz.ntmps150;go_wp2;go_ret;exact⟨by rw [hf.out];rfl,rfl⟩
def nameOk (s:ByteArray):Prop:=(1≤s.size∧s.size≤40)∧(∀ k (h:k<s.size),s[k].toNat≠0∧s[k].toNat≠47)∧s.toList≠[46]∧s.toList≠[46,46]
theorem zJQ (s:ByteArray) (w:World) (h:nameOk s) :
 Calls Tryz.prog 151 #[.string s] w fun e w'=>e=.returned (.bool true)∧w=w':=by
 obtain⟨⟨h1,h2⟩,hc,h3,h4⟩:=h;have fA:=hid hc;have e3:¬s.toList=[46]:=h3;have e4:¬s.toList=[46,46]:=h4;have fB:=hid (show inB (s.size:Int) 1 40=true from decide_eq_true ⟨by omega,by omega⟩);clear hc h3 h4;go_enter Tryz.func151,Tryz.ntmps151;go_wp2
 go_loop [3] (fun i=>∃ k:Nat,k≤s.size∧i=.int .i64 k) (fun i=>s.size-(intOf i).toNat)
 case atStart=>exact⟨0,Nat.zero_le _,rfl⟩
 case round =>
  obtain⟨k,hk,rfl⟩:=hrel;by_cases fC:k<s.size
  · obtain⟨c1,c2⟩:=fA.out k fC
    have b1:((s[k].toNat:Int)==0)=false:=by simpa using c1
    have b2:((s[k].toNat:Int)==47)=false:=by simp;omega
    clear c1 c2;go_wp2;go_round
    case rel=>exact⟨k+1,by omega,by go_num⟩
    case measure=>simp [intOf];omega
  · obtain rfl:k=s.size:=by omega
    go_wp2_with (go_at_call 150;refine (zFB _ _ _ _).mono ?_;rintro e w' ⟨rfl,rfl⟩;rw [fB.out]);go_ret;refine⟨?_,rfl⟩
    show Ending.returned (Value.bool (!s.toList==[46] && !s.toList==[46,46]))=_
    rw [show (s.toList==[46])=false by simpa using e3,show (s.toList==[46,46])=false by simpa using e4];rfl
theorem zIO (s:List UInt8) (at_ k:Nat) (w:World) (hs:s.length=128) (hk:at_+k≤128) (fG:k≤4) :
 Calls Tryz.prog 137 #[zB8 s,.int .i64 at_,.int .i64 k] w fun e w'=>e=.returned (.int .i64 (zGp ((s.drop at_).take k)))∧Below w.heap.size w w':=by
 unfold zB8;have fE:=Blk.new w 187 (bvs s);have fF:Below w.heap.size w (w.alloc (.cells (bvs s).toArray 187)):=(Below.refl _ _).alloc (Nat.le_refl _) _
 have fD:((s.drop at_).take k).length=k:=by rw [List.length_take,List.length_drop];omega
 obtain⟨xs,fC⟩:∃ xs,xs=(s.drop at_).take k:=⟨_,rfl⟩
 have fA:∀ j (h:j<xs.length),(bvs s)[at_+j]? = some (.int .u8 (xs[j].toNat:Int)):=fun j h=>by
  have h1:at_+j<s.length:=by rw [fC,fD] at h;omega
  rw [zCO s (at_+j) h1];subst fC;simp
 rw [←fC]
 have fB:Hid (xs.length=k):=by rw [fC];exact fD
 clear fC fD;go_enter Tryz.func137,Tryz.ntmps137;go_wp2;generalize w.alloc (.cells (bvs s).toArray 187)=w0 at *
 go_loop [7,8] (fun n i=>∃ (z:Int) (m:Nat),-1≤z∧z<k∧i=.int .i64 z∧n=.int .i64 m∧Hid (m=zGp (xs.drop (z+1).toNat))) (fun _ i=>(intOf i+1).toNat)
 case atStart=>exact⟨(k:Int)-1,0,by omega,by omega,rfl,rfl,by
  show _=_
  have:((k:Int)-1+1).toNat=xs.length:=by have:=fB.out;omega
  rw [this,List.drop_length];rfl⟩
 case round =>
  obtain⟨z,m,fH,fI,rfl,rfl,hm⟩:=hrel;by_cases hz:0≤z
  · obtain⟨j,rfl⟩:=Int.eq_ofNat_of_zero_le hz
    have hj:j<xs.length:=by have:=fB.out;omega
    have hg:=hid (show zGp (xs.drop j)=xs[j].toNat+256 * zGp (xs.drop (j+1)) by rw [List.drop_eq_getElem_cons hj];rfl);have fJ:w0.cell? ⟨w.heap.size,at_+j,none⟩=some (.int .u8 (xs[j].toNat:Int)):=(fE.cell (at_+j)).trans (fA j hj);have fK:xs[j].toNat<256:=xs[j].toNat_lt
    have ei:Hid (((j:Int)+1).toNat=j+1):=by show _=_;omega
    have fL:m≤4294967296:=by
     have h1:=hm.out;have h2:=numL_lt (xs.drop (((j:Nat):Int)+1).toNat);have h3:2 ^ (8 * (xs.drop (((j:Nat):Int)+1).toNat).length)≤2 ^ 32:=Nat.pow_le_pow_right (by decide) (by rw [List.length_drop];have:=fB.out;omega);omega
    have h7:((j:Int)==7)=false:=by simp;omega
    have fM:(j:Int)<4:=by omega
    clear fA;generalize xs[j].toNat=y at *;go_wp2;go_round
    case rel =>
     refine⟨(j:Int)-1,y+256 * m,by omega,by omega,by go_num,by go_num,?_⟩
     show _=_
     have h1:=hm.out;rw [ei.out] at h1
     have h2:((j:Int)-1+1).toNat=j:=by omega
     rw [h2,hg.out,h1]
    case measure=>simp [intOf]
  · obtain rfl:z=-1:=by omega
    have h0:Hid (m=zGp xs):=hm;clear fA;go_wp2;go_ret;exact⟨by rw [←h0.out];rfl,fF⟩
def zBN:List UInt8:=List.replicate 128 0
theorem zAt:zBN.length=128:=List.length_replicate
theorem zeroSec:Tryz.zeroCells187.toList=bvs zBN:=by kernel_rfl
theorem zeroSecA:Tryz.zeroCells187=(bvs zBN).toArray:=by rw [←zeroSec]
theorem zBh {w:World} {g:Nat} (h:w.heap.size=g):Blk (w.alloc (.cells Tryz.zeroCells187 187)) g 187 (bvs zBN):=by
 rw [zeroSecA,←h];exact Blk.new w 187 (bvs zBN)
theorem zAE {s:List UInt8} (h:s.length=128):(Tryz.prog.info? 187).map (·.size)=some (bvs s).toArray.size:=by rw [zBd,List.size_toArray,zAe,h]
def encS (i:Nat) (nm:ByteArray):List UInt8 :=
 let s:=zH7 (zH7 zBN 0 4 i) 4 1 nm.size
 s.take 5++(nm.data.toList++s.drop (5+nm.size))
theorem enc_step {s3 ys:List UInt8} {nm:ByteArray} {k:Nat} (h:ys=s3.take 5++(nm.data.toList.take k++s3.drop (5+k))) (hl:ys.length=128) (hk:k<nm.size) (fB:nm.size≤40) :
 Hid (ys.set (5+k) nm[k]=s3.take 5++(nm.data.toList.take (k+1)++s3.drop (5+(k+1)))):=by
 show _=_
 have fC:nm.data.toList.length=nm.size:=by rw [Array.length_toList];rfl
 have fA:5+k<s3.length:=by
  have:=congrArg List.length h;rw [hl,List.length_append,List.length_append,List.length_take,List.length_take,List.length_drop] at this;omega
 have e:s3.drop (5+k)=s3[5+k]::s3.drop (5+(k+1)):=List.drop_eq_getElem_cons fA
 have e2:nm.data.toList.take (k+1)=nm.data.toList.take k++[nm[k]]:=by
  rw [List.take_succ_eq_append_getElem (by omega)];rfl
 rw [h,e,e2,List.set_append_right _ _ (by rw [List.length_take];omega),List.length_take,show 5+k-min 5 s3.length=k by omega,List.set_append_right _ _ (by rw [List.length_take];omega),List.length_take,show k-min k nm.data.toList.length=0 by omega,List.set_cons_zero,List.append_assoc];rfl
theorem zAA {fn:Func} {p u:Tmp} {ty:TypeId} {P:Program} (h:fn.results=#[.cell p ty,.tmp u]) (tmps:Array Value) (w:World) (g:Nat) (t:TypeId) (cs:Array Value) (fr:Nat×Nat) (d:TypeDesc)
 (hp:tmps.getD p undef=.pointer (some ⟨g,0,none⟩)) (hg:w.heap[g]? = some (.cells cs t fr))
 (hu:P.underlying ty=some d) (hd:d.isRow=true) (hi:(P.info? ty).map (·.size)=some cs.size) :
 (results fn tmps).run P w=.ok (.tuple #[.agg cs,tmps.getD u undef]) w:=by
 have fA:tmps[p]?.getD undef=.pointer (some ⟨g,0,none⟩):=by simpa using hp
 have hl:=run_loadVar_row (P:=P) w g t ty cs fr d hg hu (by cases d<;>simp_all [TypeDesc.isRow]) hi;simp [results,h,fA,asAddr,hl]
def zEd (i:Nat) (nm:ByteArray):Prop:=1≤i∧i≤512∧nameOk nm
theorem zCU (i:Nat) (nm:ByteArray) (w:World) (h:zEd i nm) :
 Calls Tryz.prog 136 #[.agg #[.int .i64 i,.string nm]] w fun e w'=>e=.returned (.tuple #[zB8 (encS i nm),.int .i64 0])∧Below w.heap.size w w':=by
 obtain⟨h1,h2,hn⟩:=h;have gO:=hn.1.2;have gP:=hn.1.1
 have i0:((i:Int)==0)=false:=by simp;omega
 have gF:=hid (show inB (i:Int) 1 512=true from decide_eq_true ⟨by omega,by omega⟩);go_enter Tryz.func136,Tryz.ntmps136;go_wp2_with fail;refine (zFB _ _ _ _).mono ?_;rintro e w' ⟨rfl,rfl⟩;rw [gF.out];go_wp2_with fail;refine (zJQ nm _ hn).mono ?_;rintro e w' ⟨rfl,rfl⟩;go_upto_region 6 with (fail)
 have hX:Blk (((w.alloc (.cells #[.int .i64 i,.string nm] 179)).alloc (.cells Tryz.zeroCells187 187)).alloc (.cells Tryz.zeroCells187 187)) w.heap.size 179 [.int .i64 i,.string nm] :=
  ((Blk.new w 179 [.int .i64 i,.string nm]).alloc _).alloc _
 have hR:Blk (((w.alloc (.cells #[.int .i64 i,.string nm] 179)).alloc (.cells Tryz.zeroCells187 187)).alloc (.cells Tryz.zeroCells187 187)) (w.heap.size+1) 187 (bvs zBN):=(zBh (w:=w.alloc (.cells #[.int .i64 i,.string nm] 179)) (by simp)).alloc _;have hS:Blk (((w.alloc (.cells #[.int .i64 i,.string nm] 179)).alloc (.cells Tryz.zeroCells187 187)).alloc (.cells Tryz.zeroCells187 187)) (w.heap.size+1+1) 187 (bvs zBN):=zBh (w:=((w.alloc (.cells #[.int .i64 i,.string nm] 179)).alloc (.cells Tryz.zeroCells187 187))) (by simp)
 have hb:Below w.heap.size w (((w.alloc (.cells #[.int .i64 i,.string nm] 179)).alloc (.cells Tryz.zeroCells187 187)).alloc (.cells Tryz.zeroCells187 187)) :=
  (((Below.refl _ _).alloc (Nat.le_refl _) _).alloc (by simp) _).alloc (by simp;omega) _
 generalize ((w.alloc (.cells #[.int .i64 i,.string nm] 179)).alloc (.cells Tryz.zeroCells187 187)).alloc (.cells Tryz.zeroCells187 187)=w0 at *;generalize hg:w.heap.size=g at *;have gG:=hid hg;clear hg;have x0:w0.cell? ⟨g,0,none⟩=some (.int .i64 i):=hX.cell 0;have x1:w0.cell? ⟨g,1,none⟩=some (.string nm):=hX.cell 1
 go_wp2_with (first
  | (refine wpList_load_row rfl 187 (.tmp 4) rfl (g+1+1) rfl 187 (bvs zBN).toArray (0,0) _ hS Tryz.underlying187 rfl (zAE zAt) ?_))
 have fV:=lay_any zBN 0 4 i w0 zAt (by omega) (by omega) (by omega);have fA:=zDi zBN 0 4 i (by rw [zAt];omega);rw [zAt] at fA;generalize fW:zH7 zBN 0 4 i=s1 at *;have fM:=hid fW;clear fW;refine fV.mono ?_;rintro e w1 ⟨rfl,fC⟩;have fN:=hX.fresh fC;have fX:=hR.fresh fC;have fO:=hS.fresh fC;have gQ:=hS.lt;have fD:=hb.trans (fC.mono (by omega));have gR:=fC.size;clear hX hR hS hb fC fV x0 x1;unfold zB8;have fI:=fN;have fJ:Blk (w1.setRow (g+1+1) (bvs s1).toArray) (g+1) 187 (bvs zBN):=(setRow_other w1 (g+1+1) (g+1) _ (by omega)).trans fX;have fI:Blk (w1.setRow (g+1+1) (bvs s1).toArray) g 179 [.int .i64 i,.string nm]:=(setRow_other w1 (g+1+1) g _ (by omega)).trans fN;have fK:Blk (w1.setRow (g+1+1) (bvs s1).toArray) (g+1+1) 187 (bvs s1):=setRow_heap w1 (g+1+1) _ _ _ _ fO;have fE:=fD.trans (((Chg.refl (fun b=>b=g+1+1) w1).setRow (g:=g+1+1) (fun _=>rfl) (bvs s1).toArray).below (B:=g) (by omega) (fun b hb e=>by omega));have y1:(w1.setRow (g+1+1) (bvs s1).toArray).cell? ⟨g,1,none⟩=some (.string nm):=fI.cell 1
 go_wp2_with (first
  | (refine wpList_store_row rfl 187 (.tmp 4) (.tmp 29) rfl (g+1+1) (bvs s1).toArray rfl rfl 187 _ fO (zAE fA) (by rw [List.size_toArray,List.size_toArray,zAe,zAe,zAt,fA]) (zBc s1) ?_)
  | (refine wpList_load_row rfl 187 (.tmp 4) rfl (g+1+1) rfl 187 (bvs s1).toArray (0,0) _ fK Tryz.underlying187 rfl (zAE fA) ?_))
 generalize w1.setRow (g+1+1) (bvs s1).toArray=w2 at *;have fY:=lay_any s1 4 1 nm.size w2 fA (by omega) (by omega) (by omega);have fL:=zDi s1 4 1 nm.size (by omega);rw [fA] at fL;generalize fZ:zH7 s1 4 1 nm.size=s3 at *;have fP:=hid fZ;clear fZ;refine fY.mono ?_;rintro e w3 ⟨rfl,fF⟩;have fQ:=fI.fresh fF;have gA:=fJ.fresh fF;have fR:=fK.fresh fF;have gH:=fK.lt;have fG:=fE.trans (fF.mono (by omega));clear fI fJ fK fF fY y1 fE fD fN fX fO;unfold zB8;have gB:Blk (w3.setRow (g+1+1) (bvs s3).toArray) (g+1) 187 (bvs zBN):=(setRow_other w3 (g+1+1) (g+1) _ (by omega)).trans gA;have gC:Blk (w3.setRow (g+1+1) (bvs s3).toArray) g 179 [.int .i64 i,.string nm]:=(setRow_other w3 (g+1+1) g _ (by omega)).trans fQ;have gD:Blk (w3.setRow (g+1+1) (bvs s3).toArray) (g+1+1) 187 (bvs s3):=setRow_heap w3 (g+1+1) _ _ _ _ fR;have fH:=fG.trans (((Chg.refl (fun b=>b=g+1+1) w3).setRow (g:=g+1+1) (fun _=>rfl) (bvs s3).toArray).below (B:=g) (by have:=fQ.lt;omega) (fun b hb e=>by omega))
 go_wp2_with (first
  | (refine wpList_store_row rfl 187 (.tmp 4) (.tmp 34) rfl (g+1+1) (bvs s3).toArray rfl rfl 187 _ fR (zAE fL) (by rw [List.size_toArray,List.size_toArray,zAe,zAe,fA,fL]) (zBc s3) ?_))
 generalize w3.setRow (g+1+1) (bvs s3).toArray=w4 at *;clear fQ gA fR fG
 go_loopw [5] (fun i wr=>∃ (k:Nat) (ys:List UInt8),k≤nm.size∧i=.int .i64 k∧Hid (ys=s3.take 5++(nm.data.toList.take k++s3.drop (5+k)))∧Blk wr (g+1+1) 187 (bvs ys)∧Hid (ys.length=128) ∧
  Blk wr (g+1) 187 (bvs zBN)∧wr.cell? ⟨g,1,none⟩=some (.string nm)∧Below g w wr) (fun i _=>nm.size-(intOf i).toNat)
 case atStart=>exact⟨0,s3,Nat.zero_le _,rfl,by show _=_;simp,gD,fL,gB,gC.cell 1,fH⟩
 case round =>
  obtain⟨k,ys,hk,rfl,gE,hS,fB,hR,x1,hb⟩:=hrel;clear gC gB gD fH;by_cases gI:k<nm.size
  · have gJ:5+k<(bvs ys).length:=by rw [zAe,fB.out];omega
    have k1:=(hS.cell (5+k)).trans (List.getElem?_eq_getElem gJ);have k2:=hS.frozen (5+k)
    have gK:Hid (Blk (wr.setCell ⟨g+1+1,5+k,none⟩ (.int .u8 (nm[k].toNat:Int))) (g+1+1) 187 (bvs (ys.set (5+k) nm[k]))):=by
     have:=hS.set_ (5+k) (.int .u8 (nm[k].toNat:Int));rw [show (bvs ys).set (5+k) (.int .u8 (nm[k].toNat:Int))=bvs (ys.set (5+k) nm[k]) by simp [bvs,List.map_set]] at this;exact this
    have fJ:=hid (hR.far (p:=⟨g+1+1,5+k,none⟩) (by simp) (.int .u8 (nm[k].toNat:Int)));have gL:=hid (hb.setCell (p:=⟨g+1+1,5+k,none⟩) (show g≤g+1+1 by omega) (.int .u8 (nm[k].toNat:Int)));have gM:Hid ((wr.setCell ⟨g+1+1,5+k,none⟩ (.int .u8 (nm[k].toNat:Int))).cell? ⟨g,1,none⟩=some (.string nm)):=(World.cell?_setCell_other wr _ _ _ (by simp)).trans x1;have gN:=enc_step gE.out fB.out gI (by omega)
    have fS:Hid ((ys.set (5+k) nm[k]).length=128):=by show _=_;rw [List.length_set];exact fB.out
    clear hS hR hb;generalize ys.set (5+k) nm[k]=ys2 at *;generalize (bvs ys)[5+k]=old at *;go_wp2;go_roundw
    case rel=>exact⟨k+1,ys2,by omega,by go_num,gN,gK.out,fS,fJ.out,gM.out,gL.out⟩
    case measure=>simp [intOf];omega
  · obtain rfl:k=nm.size:=by omega
    have fT:Hid (ys=encS i nm):=by
     show _=_
     rw [gE.out,←fP.out,←fM.out];unfold encS;rw [List.take_of_length_le (l:=nm.data.toList) (by rw [Array.length_toList];exact Nat.le_refl _)]
    go_wp2_with (first
     | (refine wpList_load_row rfl 187 (.tmp 4) rfl (g+1+1) rfl 187 (bvs ys).toArray (0,0) _ hS Tryz.underlying187 rfl (zAE fB.out) ?_)
     | (refine wpList_store_row rfl 187 (.tmp 2) (.tmp 49) rfl (g+1) (bvs ys).toArray rfl rfl 187 _ hR (zAE fB.out) (by rw [List.size_toArray,List.size_toArray,zAe,zAe,zAt,fB.out]) (zBc ys) ?_))
    have fU:Blk (wr.setRow (g+1) (bvs ys).toArray) (g+1) 187 (bvs ys):=setRow_heap wr (g+1) _ _ _ _ hR;refine bodyPost_ret (zAA rfl _ _ (g+1) 187 (bvs ys).toArray (0,0) _ rfl fU Tryz.underlying187 rfl (zAE fB.out)) rfl ⟨by rw [←fT.out];rfl,?_⟩;rw [gG.out];exact hb.trans (((Chg.refl (fun b=>b=g+1) wr).setRow (g:=g+1) (fun _=>rfl) _).below (by have:=hR.lt;omega) (fun b hb e=>by omega))
open Go.Maps (Keyed)
theorem zDW:Keyed Tryz.prog 3:=Go.Maps.int_keyed Tryz.underlying3
theorem kStr:Keyed Tryz.prog 9:=Go.Maps.string_keyed Tryz.underlying9
theorem zHv (n:Nat) (h:n≤1000000000):keyOf Tryz.prog 3 (zAG.val n)=some (zAG.enc n):=Go.Maps.keyOf_int_mk Tryz.underlying3 (WalkArith.wf_i64 (by omega))
theorem keyI (n:Int) (h : -1000000000≤n∧n≤1000000000):keyOf Tryz.prog 3 (zIC.val n)=some (zIC.enc n):=Go.Maps.keyOf_int_mk Tryz.underlying3 (WalkArith.wf_i64 (by omega))
theorem keyS (s:ByteArray) (h:s.size≤maxLen):keyOf Tryz.prog 9 (zA6.val s)=some (zA6.enc s):=Go.WideMaps.keyOf_string_mk Tryz.underlying9 h
theorem invN (key:Value) (a:Nat) (h:keyOf Tryz.prog 3 key=some (zAG.enc a)):key=zAG.val a:=natK_inv Tryz.underlying3 key a h
theorem invS (key:Value) (a:ByteArray) (h:keyOf Tryz.prog 9 key=some (zA6.enc a)):key=zA6.val a:=strK_inv Tryz.underlying9 key a h
def zCq (n:Nat):Value:=.pointer (some ⟨n,0,none⟩)
def zAW (n:Nat):Value:=.int .i64 (n:Int)
def strs (l:List ByteArray):List Value:=l.map Value.string
structure NA where
 nb:Nat
 d:Option Nat
 s:Value
 nm:Option Nat
def zDx (w:World) {α β:Type} (K:KE α) (V:β→Value) (k:TypeId) (o:Option Nat) (l:List (α×β)):Prop :=
 match o with
 | some b=>zAy w K V k b l
 | none=>l=[]
def zCc (a:NA) (n:PN):List Value:=[.int .i64 n.kind,.int .i64 (n.links:Int),.int .i64 (n.size:Int),.int .i64 (n.made:Int),.map a.d,a.s,.map a.nm]
structure PnAt (w:World) (a:NA) (n:PN):Prop where
 blk:Blk w a.nb 110 (zCc a n)
 data:zDx w zAG zB8 3 a.d n.data
 slots:w.ownsRow 0 9 1 a.s n.slots.length (strs n.slots)
 names:zDx w zA6 zAW 9 a.nm n.names
 dirs:n.dir=true→∃ b,a.nm=some b
 files:n.dir=false→∃ b,a.d=some b
inductive Role where
 | top
 | nodes
 | node (i:Nat)
 | data (i:Nat)
 | slots (i:Nat)
 | names (i:Nat)
deriving DecidableEq
structure Owns (own:Nat→Option Role) (i:Nat) (a:NA):Prop where
 nb:own a.nb=some (.node i)
 d:∀ b,a.d=some b→own b=some (.data i)
 s:∀ b,a.s.ownBlock=some b→own b=some (.slots i)
 nm:∀ b,a.nm=some b→own b=some (.names i)
structure PlainAt (w:World) (own:Nat→Option Role) (lay:Nat→NA) (p mb:Nat) (T:PT):Prop where
 top:Blk w p 98 [.int .i64 (T.sectors:Int),.int .i64 (T.inodes:Int),.map (some mb)]
 ownp:own p=some .top
 ownm:own mb=some .nodes
 nodes:zAy w zAG zCq 3 mb (T.nodes.map fun x=>(x.1,(lay x.1).nb))
 node:∀ x∈T.nodes,PnAt w (lay x.1) x.2
 owns:∀ x∈T.nodes,Owns own x.1 (lay x.1)
 lt:∀ b r,own b=some r→b<w.heap.size
section
variable {w w':World} {a:NA} {n:PN} {own:Nat→Option Role} {lay:Nat→NA} {p mb i:Nat} {T:PT} {S:Nat→Prop}
theorem zDx.chg {α β:Type} [DecidableEq α] {K:KE α} {V:β→Value} {k:TypeId} {o:Option Nat} {l:List (α×β)} (h:zDx w K V k o l) (hc:Chg S w w') (hn:∀ b,o=some b→¬S b):zDx w' K V k o l:=by
 cases o with
 | none=>exact h
 | some b=>exact zAy.chg h hc (hn b rfl)
theorem PnAt.chg (h:PnAt w a n) (hc:Chg S w w') (h1:¬S a.nb) (h2:∀ b,a.d=some b→¬S b) (h3:∀ b,a.s.ownBlock=some b→¬S b) (h4:∀ b,a.nm=some b→¬S b):PnAt w' a n :=
 ⟨h.blk.chg hc h1,h.data.chg hc h2,zAo h.slots hc h3,h.names.chg hc h4,h.dirs,h.files⟩
theorem PnAt.chg_owns (h:PnAt w a n) (ho:Owns own i a) (hc:Chg S w w') (hS:∀ b,S b→∀ r,own b=some r→r≠.node i∧r≠.data i∧r≠.slots i∧r≠.names i):PnAt w' a n :=
 h.chg hc (fun hb=>(hS _ hb _ ho.nb).1 rfl) (fun b e hb=>(hS _ hb _ (ho.d b e)).2.1 rfl) (fun b e hb=>(hS _ hb _ (ho.s b e)).2.2.1 rfl) (fun b e hb=>(hS _ hb _ (ho.nm b e)).2.2.2 rfl)
theorem PlainAt.chg (h:PlainAt w own lay p mb T) (hc:Chg S w w') (hS:∀ b,S b→own b=none):PlainAt w' own lay p mb T:=by
 have hn:∀ {b r},own b=some r→¬S b:=fun e hb=>by rw [hS _ hb] at e;cases e
 exact⟨h.top.chg hc (hn h.ownp),h.ownp,h.ownm,h.nodes.chg hc (hn h.ownm),fun x hx=>(h.node x hx).chg_owns (h.owns x hx) hc fun b hb r e=>absurd hb (hn e),h.owns,fun b r e=>Nat.lt_of_lt_of_le (h.lt b r e) hc.size⟩
theorem PlainAt.free (h:PlainAt w own lay p mb T) {g:Nat} (hg:w.heap.size≤g):own g=none:=by
 cases e:own g with
 | none=>rfl
 | some r=>have:=h.lt g r e;omega
theorem PlainAt.drew (h:PlainAt w own lay p mb T):PlainAt w.drew own lay p mb T:=h.chg ((Chg.refl (fun _=>False) w).drew) fun _ h=>h.elim
theorem PlainAt.fresh (h:PlainAt w own lay p mb T) (hb:Below w.heap.size w w'):PlainAt w' own lay p mb T:=h.chg (Chg.of_fresh (S:=fun _=>False) hb) fun _ h=>h.elim
end
end Go.Proofs.YtolpcfhfcdkokaaGreatDoor
