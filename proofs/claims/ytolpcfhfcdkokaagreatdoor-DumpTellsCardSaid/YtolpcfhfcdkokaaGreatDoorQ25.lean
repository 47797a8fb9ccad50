/- Joined out of PFine..PFine. -/
import Derived.Test.YtolpcfhfcdkokaaGreatDoorQ24
set_option maxHeartbeats 16000000
set_option maxRecDepth 100000
namespace Go.Proofs.YtolpcfhfcdkokaaGreatDoor
open Lib (hid)
open Go.RowKit Go.Proofs
open Go.Maps (Keyed)
def runK:KE Int where
 enc n:=.int .i32 n
 val n:=.int .i32 n
 lt a b:=decide (a<b)
 before_eq a b:=by simp [Lit.before]
 same_iff a b:=by simp [Lit.sameKey]
 isKey _:=trivial
theorem kRun:Keyed Tryz.prog 21:=Go.Maps.int_keyed Tryz.underlying21
theorem keyR (n:Int) (h:0≤n∧n≤1000000):keyOf Tryz.prog 21 (runK.val n)=some (runK.enc n):=Go.Maps.keyOf_int_mk Tryz.underlying21 (WalkArith.wf_i32 (by omega))
def zCB (W:World) (r:Nat) (s:ByteArray) (pos:Nat):World:={W with heap:=W.heap.setIfInBounds r (.stringIter s pos)}
theorem zHW {P:Program} {W:World} {r:Nat} {s:ByteArray} {pos:Nat} (h:W.heap[r]? = some (.stringIter s pos)) (hp:pos<s.size) (ty:TypeId) :
 (Instr.next (.pointer (some ⟨r,0,none⟩)) true ty).run P W=.ok (.tuple #[.bool true,.int .i64 pos,.int .i32 (Utf8.decode s pos).1]) (zCB W r s (pos+(Utf8.decode s pos).2)):=by
 simp only [Instr.next,getObj,setObj,Sem.run_bind,Sem.run,h,Result.andThen,hp,if_true];simp [goInt,zCB]
theorem zGb {P:Program} {W:World} {r:Nat} {s:ByteArray} {pos:Nat} (h:W.heap[r]? = some (.stringIter s pos)) (hp:¬pos<s.size) (ty:TypeId) :
 (Instr.next (.pointer (some ⟨r,0,none⟩)) true ty).run P W=.ok (.tuple #[.bool false]) W:=by
 simp [Instr.next,getObj,Sem.run,h,hp]
theorem zJ0 {W:World} {r:Nat} (h:r<W.heap.size) (s:ByteArray) (pos:Nat):(zCB W r s pos).heap[r]? = some (.stringIter s pos):=by
 simp [zCB,h]
theorem zHw (W:World) (r:Nat) (s:ByteArray) (pos:Nat):Chg (fun b=>b=r) W (zCB W r s pos):=by
 refine⟨rfl,rfl,rfl,by simp [zCB],fun b _ hb=>?_⟩;simp only [zCB];rw [Array.getElem?_setIfInBounds_ne (fun e=>hb e.symm)]
def opC (o:Opn) (A:Option Addr) (c:Nat):List Value:=[.int .i64 o.kind,.string o.path,.string o.dst,.int .i64 o.off,.int .i64 o.len,.slice A o.data.length c,.int .i64 o.made,.int .i64 o.pick]
def opV (o:Opn) (A:Option Addr) (c:Nat):Value:=.agg (opC o A c).toArray
def usesL:List ByteArray:=[⟨#[]⟩,⟨#[112,109]⟩,⟨#[112,109]⟩,⟨#[112,116]⟩,⟨#[112]⟩,⟨#[112]⟩,⟨#[112,116]⟩,⟨#[112,111,100]⟩,⟨#[112,111]⟩,⟨#[112,111,108]⟩,⟨#[112]⟩,⟨#[112]⟩,⟨#[]⟩,⟨#[112]⟩,⟨#[102]⟩]
def zA3 (k:Int):ByteArray:=usesL.getD k.toNat emp
def anyc (c:Int) (s:ByteArray):Bool:=s.data.toList.any fun b=>((b.toNat:Int)==c)
theorem kinds {P:Int→Prop} (h1:P 1) (h2:P 2) (h3:P 3) (h4:P 4) (h5:P 5) (h6:P 6) (h7:P 7) (h8:P 8) (h9:P 9) (fA:P 10) (fB:P 11) (fC:P 12) (fD:P 13) (fE:P 14) (k:Int) (hk:1≤k∧k≤14):P k:=by
 have:k=1∨k=2∨k=3∨k=4∨k=5∨k=6∨k=7∨k=8∨k=9∨k=10∨k=11∨k=12∨k=13∨k=14:=by omega
 rcases this with rfl | rfl | rfl | rfl | rfl | rfl | rfl | rfl | rfl | rfl | rfl | rfl | rfl | rfl<;>assumption
theorem uses_pat (k:Int) (hk:1≤k∧k≤14):zA3 k=⟨#[112,109]⟩∨zA3 k=⟨#[112,116]⟩∨zA3 k=⟨#[112]⟩∨zA3 k=⟨#[112,111,100]⟩∨zA3 k=⟨#[112,111]⟩∨zA3 k=⟨#[112,111,108]⟩∨zA3 k=⟨#[]⟩∨zA3 k=⟨#[102]⟩:=by
 revert k
 refine fun k hk=>kinds (P:=fun k=>zA3 k=⟨#[112,109]⟩∨zA3 k=⟨#[112,116]⟩∨zA3 k=⟨#[112]⟩∨zA3 k=⟨#[112,111,100]⟩∨zA3 k=⟨#[112,111]⟩∨zA3 k=⟨#[112,111,108]⟩∨zA3 k=⟨#[]⟩∨zA3 k=⟨#[102]⟩) ?_ ?_ ?_ ?_ ?_ ?_ ?_ ?_ ?_ ?_ ?_ ?_ ?_ ?_ k hk
 all_goals decide
theorem uses_bits (k:Int) (hk:1≤k∧k≤14):zHp k=anyc 112 (zA3 k)∧zHr k=anyc 116 (zA3 k)∧zHq k=anyc 111 (zA3 k)∧zHk k=anyc 108 (zA3 k)∧zHo k=anyc 100 (zA3 k)∧zHn k=anyc 109 (zA3 k)∧zHm k=anyc 102 (zA3 k):=by
 refine kinds (P:=fun k=>zHp k=anyc 112 (zA3 k)∧zHr k=anyc 116 (zA3 k)∧zHq k=anyc 111 (zA3 k)∧zHk k=anyc 108 (zA3 k)∧zHo k=anyc 100 (zA3 k)∧zHn k=anyc 109 (zA3 k)∧zHm k=anyc 102 (zA3 k)) ?_ ?_ ?_ ?_ ?_ ?_ ?_ ?_ ?_ ?_ ?_ ?_ ?_ ?_ k hk
 all_goals decide
theorem zJw (k:Int) (hk:1≤k∧k≤14):(zA3 k).size≤3∧∀ b∈(zA3 k).data.toList,b.toNat<128:=by
 refine kinds (P:=fun k=>(zA3 k).size≤3∧∀ b∈(zA3 k).data.toList,b.toNat<128) ?_ ?_ ?_ ?_ ?_ ?_ ?_ ?_ ?_ ?_ ?_ ?_ ?_ ?_ k hk
 all_goals decide
theorem fine_bits (o:Opn) (hk:1≤o.kind∧o.kind≤14) (hm:0≤o.made∧o.made≤1099511627776) :
 o.fine=((anyc 112 (zA3 o.kind) || decide (o.path=emp)) && (anyc 116 (zA3 o.kind) || decide (o.dst=emp)) && (anyc 111 (zA3 o.kind) || decide (o.off=0)) && (anyc 108 (zA3 o.kind) || decide (o.len=0)) && (anyc 100 (zA3 o.kind) || decide (o.data.length=0)) && (anyc 109 (zA3 o.kind) || decide (o.made=0)) && (anyc 102 (zA3 o.kind) || decide (o.pick=0))):=by
 obtain⟨h1,h2,h3,h4,h5,h6,h7⟩:=uses_bits o.kind hk;rw [←h1,←h2,←h3,←h4,←h5,←h6,←h7,Bool.eq_iff_iff];unfold Opn.fine;simp only [decide_eq_true_eq,Bool.and_eq_true,Bool.or_eq_true]
 constructor
 · rintro ⟨_,_,_,_,a1,a2,a3,a4,a5,a6,a7⟩;exact⟨⟨⟨⟨⟨⟨a1,a2⟩,a3⟩,a4⟩,a5⟩,a6⟩,a7⟩
 · rintro ⟨⟨⟨⟨⟨⟨a1,a2⟩,a3⟩,a4⟩,a5⟩,a6⟩,a7⟩;exact⟨hk.1,hk.2,hm.1,hm.2,a1,a2,a3,a4,a5,a6,a7⟩
theorem zCd {s:ByteArray} (h:s=emp):s.toList.isEmpty=true:=by rw [toList_data,h];rfl
theorem zCZ {s:ByteArray} (h:¬s=emp):s.toList.isEmpty=false:=by
 cases hx:s.toList.isEmpty with
 | false=>rfl
 | true=>exact absurd (zJr (by simpa using hx)) h
theorem zAK {x:Int} (h:x=0):(x==0)=true:=by simpa using h
theorem zAY {x:Int} (h:¬x=0):(x==0)=false:=by simpa using h
theorem zCN {x:Nat} (h:x=0):((x:Int)==0)=true:=by simp;omega
theorem zDo {x:Nat} (h:¬x=0):((x:Int)==0)=false:=by simp;omega
theorem uses_any (k:Int) (hk:1≤k∧k≤14) (w:World):Calls Tryz.prog 61 #[.int .i64 k] w fun e w'=>e=.returned (.string (zA3 k))∧Below w.heap.size w w':=by
 obtain⟨s,hs⟩:∃ s,zA3 k=s:=⟨_,rfl⟩;rw [hs]
 have hl:([Value.string ⟨#[]⟩,Value.string ⟨#[112,109]⟩,Value.string ⟨#[112,109]⟩,Value.string ⟨#[112,116]⟩,Value.string ⟨#[112]⟩,Value.string ⟨#[112]⟩,Value.string ⟨#[112,116]⟩,Value.string ⟨#[112,111,100]⟩,Value.string ⟨#[112,111]⟩,Value.string ⟨#[112,111,108]⟩,Value.string ⟨#[112]⟩,Value.string ⟨#[112]⟩,Value.string ⟨#[]⟩,Value.string ⟨#[112]⟩,Value.string ⟨#[102]⟩]:List Value)[k.toNat]? = some (.string s):=by
  rw [←hs];exact kinds (P:=fun k=>([Value.string ⟨#[]⟩,Value.string ⟨#[112,109]⟩,Value.string ⟨#[112,109]⟩,Value.string ⟨#[112,116]⟩,Value.string ⟨#[112]⟩,Value.string ⟨#[112]⟩,Value.string ⟨#[112,116]⟩,Value.string ⟨#[112,111,100]⟩,Value.string ⟨#[112,111]⟩,Value.string ⟨#[112,111,108]⟩,Value.string ⟨#[112]⟩,Value.string ⟨#[112]⟩,Value.string ⟨#[]⟩,Value.string ⟨#[112]⟩,Value.string ⟨#[102]⟩]:List Value)[k.toNat]? = some (.string (zA3 k))) rfl rfl rfl rfl rfl rfl rfl rfl rfl rfl rfl rfl rfl rfl k hk
 clear hs;go_enter Tryz.func61,Tryz.ntmps61;go_wp2;go_ret;exact⟨rfl,(Below.refl _ _).alloc (Nat.le_refl _) _⟩
def FineI (g r:Nat) (s:ByteArray) (w:World) (cs:List Value) (wr:World):Prop :=
 ∃ (pos:Nat) (l:List (Int×Unit)),pos≤s.size∧Hid (wr.heap[r]? = some (.stringIter s pos))∧Hid (zAy wr runK zJ6 21 (g+1) l)∧Hid (∀ z:Int,(zAd z l).isSome=(s.data.toList.take pos).any fun b=>((b.toNat:Int)==z))∧l.length≤pos∧Hid (Below g w wr)∧Hid (Blk wr g 70 cs)
theorem zIi (o:Opn) (A:Option Addr) (c:Nat) (w:World):Calls Tryz.prog 41 #[opV o A c] w fun e w'=>e=.returned (.bool o.fine)∧Below w.heap.size w w':=by
 have gR:=@run_makeMap Tryz.prog;obtain⟨fb,fK⟩:∃ fb,o.fine=fb:=⟨_,rfl⟩;rw [fK];have fC:=hid fK;clear fK;unfold opV opC;go_enter Tryz.func41,Tryz.ntmps41;by_cases h1:o.kind<1
 · have t1:decide (o.kind<1)=true:=by simpa using h1
   have hv:fb=false:=by rw [←fC.out];unfold Opn.fine;exact decide_eq_false fun h=>by omega
   subst hv;clear fC;go_wp2;go_ret;exact⟨rfl,(Below.refl _ _).alloc (Nat.le_refl _) _⟩
 have t1:decide (o.kind<1)=false:=by simpa using h1
 by_cases h2:14<o.kind
 · have t2:decide (14<o.kind)=true:=by simpa using h2
   have hv:fb=false:=by rw [←fC.out];unfold Opn.fine;exact decide_eq_false fun h=>by omega
   subst hv;clear fC;go_wp2;go_ret;exact⟨rfl,(Below.refl _ _).alloc (Nat.le_refl _) _⟩
 have t2:decide (14<o.kind)=false:=by simpa using h2
 by_cases h3:o.made<0
 · have t3:decide (o.made<0)=true:=by simpa using h3
   have hv:fb=false:=by rw [←fC.out];unfold Opn.fine;exact decide_eq_false fun h=>by omega
   subst hv;clear fC;go_wp2;go_ret;exact⟨rfl,(Below.refl _ _).alloc (Nat.le_refl _) _⟩
 have t3:decide (o.made<0)=false:=by simpa using h3
 by_cases h4:1099511627776<o.made
 · have t4:decide (1099511627776<o.made)=true:=by simpa using h4
   have hv:fb=false:=by rw [←fC.out];unfold Opn.fine;exact decide_eq_false fun h=>by omega
   subst hv;clear fC;go_wp2;go_ret;exact⟨rfl,(Below.refl _ _).alloc (Nat.le_refl _) _⟩
 have t4:decide (1099511627776<o.made)=false:=by simpa using h4
 have hk:1≤o.kind∧o.kind≤14:=by omega
 have fI:=fine_bits o hk (by omega);rw [fC.out] at fI;have fL:=hid (uses_pat o.kind hk);obtain⟨gG,fE⟩:=zJw o.kind hk;have fG:=uses_any o.kind hk;obtain⟨s,hs⟩:∃ s,zA3 o.kind=s:=⟨_,rfl⟩;rw [hs] at fI fL gG fE fG;have fD:=hid fI;clear fI;clear fC hs h1 h2 h3 h4;have fJ:=hid fE;clear fE;go_upto_region 4 with (fail);have fT:Blk ((w.alloc (.cells (opC o A c).toArray 70)).alloc (.map #[] 0)) w.heap.size 70 (opC o A c):=(Blk.new w _ _).alloc _
 have fY:zAy ((w.alloc (.cells (opC o A c).toArray 70)).alloc (.map #[] 0)) runK zJ6 21 (w.heap.size+1) []:=by
  have:=zAy.made (w.alloc (.cells (opC o A c).toArray 70)) runK zJ6 21;simpa using this
 have fZ:Below w.heap.size w ((w.alloc (.cells (opC o A c).toArray 70)).alloc (.map #[] 0)):=((Below.refl _ _).alloc (Nat.le_refl _) _).alloc (by simp) _
 have gS:((w.alloc (.cells (opC o A c).toArray 70)).alloc (.map #[] 0)).heap.size=w.heap.size+2:=by simp
 change Code.wp _ _ _ _ ((w.alloc (.cells (opC o A c).toArray 70)).alloc (.map #[] 0));generalize (w.alloc (.cells (opC o A c).toArray 70)).alloc (.map #[] 0)=w0 at *;obtain⟨g,hg⟩:∃ g,w.heap.size=g:=⟨_,rfl⟩;rw [hg] at fT fY fZ gS;simp only [hg];have fB:=hid hg;have gH:=hid fY;have gI:=hid fZ;have z0:w0.cell? ⟨g,0,none⟩=some (.int .i64 o.kind):=fT.cell 0;have gJ:=hid fT;clear hg fY fZ fT t1 t2 t3 t4 gR;have gK:=fG w0;clear fG;go_wp2_with (go_at_call 61;refine gK.mono ?_;rintro e w1 ⟨rfl,fU⟩);have fV:Below w0.heap.size w0 (w1.iter s 0):=fU.trans ((zDa w1 s 0).mono fU.size);have fO:(w1.iter s 0).heap[w1.heap.size]? = some (.stringIter s 0):=World.iter_heap w1 s 0
 have gZ:g+2≤w1.heap.size:=by have:=fU.size;omega
 have jA:(w1.iter s 0).heap.size=w1.heap.size+1:=by simp [World.iter]
 clear fU;generalize w1.iter s 0=w2 at *;generalize w1.heap.size=r at *;have fF:Hid (Blk w2 g 70 (opC o A c)):=hid (gJ.out.fresh fV);have fM:zAy w2 runK zJ6 21 (g+1) []:=gH.out.chg (Chg.of_below (B:=w0.heap.size) fV) (by omega);have fA:Hid (Below g w w2):=hid (gI.out.trans (fV.mono (by omega)));have gL:=hid fO;clear fO;clear fV gJ gH gI z0 gK
 go_loopw [5] (fun _ wr=>FineI g r s w (opC o A c) wr) (fun _ wr=>s.size-wr.iterPos r)
 case atStart=>exact⟨0,[],Nat.zero_le _,gL,hid fM,hid (fun z=>rfl),Nat.le_refl _,fA,fF⟩
 case round =>
  clear gL fM fA fF;obtain⟨pos,l,gA,hI,fM,fH,gT,fA,fF⟩:=hrel;by_cases hp:pos<s.size
  · have fW:∀ ty,(Instr.next (.pointer (some ⟨r,0,none⟩)) true ty).run Tryz.prog wr=_:=fun ty=>zHW hI.out hp ty
    have fP:s[pos]'hp∈s.data.toList:=by rw [Array.mem_toList_iff];exact Array.getElem_mem _
    have fQ:=fJ.out _ fP;rw [decode_ascii s pos hp fQ] at fW;obtain⟨bt,gB⟩:∃ bt:Nat,(s[pos]'hp).toNat=bt:=⟨_,rfl⟩;rw [gB] at fW fQ;have gC:=hid gB;have gU:r<wr.heap.size:=(Array.getElem?_eq_some_iff.1 hI.out).1;have fX:=zHw wr r s (pos+1);have gM:=hid (zJ0 gU s (pos+1));have gV:zAy (zCB wr r s (pos+1)) runK zJ6 21 (g+1) l:=fM.out.chg fX (by omega);have fR:=hid (fF.out.chg fX (by omega));have gD:=hid (fA.out.trans (fX.below (B:=g) (by omega) fun b hb e=>by omega))
    have gN:wr.iterPos r=pos:=by unfold World.iterPos;rw [hI.out]
    have gE:=hid gN;clear gB fP fX hI fM fF fA gN;generalize zCB wr r s (pos+1)=w3 at *
    go_wp2_with (first
     | (at_mapUpdate;refine zA4 _ rfl _ _ _ 136 (.inl rfl) kRun Tryz.underlying136 gV (by unfold maxLen;omega) rfl (bt:Int) rfl (keyR _ (by omega)) () rfl ?_;intro w6 fS gO;have gW:=hid fS;clear fS;have gF:=hid (zAT gO);clear gO))
    have gP:w6.heap[r]? = some (.stringIter s (pos+1)):=(gF.out.block r (Array.getElem?_eq_some_iff.1 gM.out).1 (by omega)).trans gM.out;go_roundw
    case rel =>
     refine⟨pos+1,zBa runK (bt:Int) () l,by omega,hid gP,gW,hid fun z=>?_,?_,hid (gD.out.trans (gF.out.below (B:=g) (by have:=fR.out.lt;omega) fun b hb e=>by omega)),hid (fR.out.chg gF.out (by omega))⟩
     · rw [zC9,fH.out z,List.take_add_one,List.any_append,List.getElem?_eq_getElem (by rw [Array.length_toList];exact hp)];have e2:(s.data.toList[pos]'(by rw [Array.length_toList];exact hp)).toNat=bt:=gC.out;simp only [Option.toList_some,List.any_cons,List.any_nil,Bool.or_false,e2];rw [Bool.or_comm]
       congr 1
       rw [zH3];exact decide_eq_decide.2 ⟨fun e=>e.symm,fun e=>e.symm⟩
     · have:=zBM runK (bt:Int) () l;omega
    case measure =>
     rw [show w6.iterPos r=pos+1 by unfold World.iterPos;rw [gP]];rw [gE.out];omega
  · obtain rfl:pos=s.size:=by omega
    have fW:∀ ty,(Instr.next (.pointer (some ⟨r,0,none⟩)) true ty).run Tryz.prog wr=_:=fun ty=>zGb hI.out hp ty
    have lk:∀ (z:Int) (b:Bool),0≤z∧z≤1000→anyc z s=b→(Instr.lookup 136 (.map (some (g+1))) (.int .i32 z) false).run Tryz.prog wr=.ok (.bool b) wr:=fun z b hz hb=>by
     have gX:(zeroValue 4).run Tryz.prog wr=.ok (.bool false) wr:=by kernel_rfl
     have h9:=fM.out.look (t:=136) kRun Tryz.underlying136 gX (keyR z (by omega));have fN:=fH.out z;rw [List.take_of_length_le (by rw [Array.length_toList];exact Nat.le_refl _)] at fN;unfold anyc at hb;rw [hb] at fN;rw [show (Value.int .i32 z)=runK.val z from rfl,h9]
     cases gQ:zAd z l with
     | none=>rw [gQ] at fN;rw [←fN];rfl
     | some u=>rw [gQ] at fN;rw [←fN];rfl
    have y1:=fF.out.cell 1;have y2:=fF.out.cell 2;have y3:=fF.out.cell 3;have y4:=fF.out.cell 4;have y5:=fF.out.cell 5;have y6:=fF.out.cell 6;have y7:=fF.out.cell 7;simp only [opC,List.getElem?_cons_succ,List.getElem?_cons_zero] at y1 y2 y3 y4 y5 y6 y7;go_upto_region 8 with (fail);clear fW hI fM fH fF hp gA gT fJ gG hk;have gY:=fL.out;clear fL;rcases gY with rfl | rfl | rfl | rfl | rfl | rfl | rfl | rfl
    ·
     have lp:=lk 112 true (by decide) (by decide);have lt:=lk 116 false (by decide) (by decide);have lo:=lk 111 false (by decide) (by decide);have ll:=lk 108 false (by decide) (by decide);have ld:=lk 100 false (by decide) (by decide);have lm:=lk 109 true (by decide) (by decide);have lf:=lk 102 false (by decide) (by decide);have hz:=fD;clear lk fD;by_cases ht:o.dst=emp
     case neg =>
      have et:o.dst.toList.isEmpty=false:=zCZ ht
      have hv:fb=false:=by rw [hz.out];simp [anyc,ht]
      clear hz ht;subst hv;go_wp2;go_ret;exact⟨rfl,by rw [fB.out];exact fA.out⟩
     have et:o.dst.toList.isEmpty=true:=zCd ht;have kt:=hid ht;clear ht;by_cases ho:o.off=0
     case neg =>
      have eo:(o.off==0)=false:=zAY ho
      have hv:fb=false:=by rw [hz.out];simp [anyc,ho]
      clear hz ho;subst hv;go_wp2;go_ret;exact⟨rfl,by rw [fB.out];exact fA.out⟩
     have eo:(o.off==0)=true:=zAK ho;have ko:=hid ho;clear ho;by_cases hl:o.len=0
     case neg =>
      have el:(o.len==0)=false:=zAY hl
      have hv:fb=false:=by rw [hz.out];simp [anyc,hl]
      clear hz hl;subst hv;go_wp2;go_ret;exact⟨rfl,by rw [fB.out];exact fA.out⟩
     have el:(o.len==0)=true:=zAK hl;have kl:=hid hl;clear hl;by_cases hd:o.data.length=0
     case neg =>
      have ed:((o.data.length:Int)==0)=false:=zDo hd
      have hv:fb=false:=by rw [hz.out];simp [anyc,hd]
      clear hz hd;subst hv;go_wp2;go_ret;exact⟨rfl,by rw [fB.out];exact fA.out⟩
     have ed:((o.data.length:Int)==0)=true:=zCN hd;have kd:=hid hd;clear hd;by_cases hf:o.pick=0
     case neg =>
      have ef:(o.pick==0)=false:=zAY hf
      have hv:fb=false:=by rw [hz.out];simp [anyc,hf]
      clear hz hf;subst hv;go_wp2;go_ret;exact⟨rfl,by rw [fB.out];exact fA.out⟩
     have ef:(o.pick==0)=true:=zAK hf;have kf:=hid hf;clear hf
     have hv:fb=true:=by rw [hz.out];simp [anyc,kt.out,ko.out,kl.out,kd.out,kf.out]
     clear hz kt ko kl kd kf;subst hv;go_wp2;go_ret;exact⟨rfl,by rw [fB.out];exact fA.out⟩
    ·
     have lp:=lk 112 true (by decide) (by decide);have lt:=lk 116 true (by decide) (by decide);have lo:=lk 111 false (by decide) (by decide);have ll:=lk 108 false (by decide) (by decide);have ld:=lk 100 false (by decide) (by decide);have lm:=lk 109 false (by decide) (by decide);have lf:=lk 102 false (by decide) (by decide);have hz:=fD;clear lk fD;by_cases ho:o.off=0
     case neg =>
      have eo:(o.off==0)=false:=zAY ho
      have hv:fb=false:=by rw [hz.out];simp [anyc,ho]
      clear hz ho;subst hv;go_wp2;go_ret;exact⟨rfl,by rw [fB.out];exact fA.out⟩
     have eo:(o.off==0)=true:=zAK ho;have ko:=hid ho;clear ho;by_cases hl:o.len=0
     case neg =>
      have el:(o.len==0)=false:=zAY hl
      have hv:fb=false:=by rw [hz.out];simp [anyc,hl]
      clear hz hl;subst hv;go_wp2;go_ret;exact⟨rfl,by rw [fB.out];exact fA.out⟩
     have el:(o.len==0)=true:=zAK hl;have kl:=hid hl;clear hl;by_cases hd:o.data.length=0
     case neg =>
      have ed:((o.data.length:Int)==0)=false:=zDo hd
      have hv:fb=false:=by rw [hz.out];simp [anyc,hd]
      clear hz hd;subst hv;go_wp2;go_ret;exact⟨rfl,by rw [fB.out];exact fA.out⟩
     have ed:((o.data.length:Int)==0)=true:=zCN hd;have kd:=hid hd;clear hd;by_cases hm:o.made=0
     case neg =>
      have em:(o.made==0)=false:=zAY hm
      have hv:fb=false:=by rw [hz.out];simp [anyc,hm]
      clear hz hm;subst hv;go_wp2;go_ret;exact⟨rfl,by rw [fB.out];exact fA.out⟩
     have em:(o.made==0)=true:=zAK hm;have km:=hid hm;clear hm;by_cases hf:o.pick=0
     case neg =>
      have ef:(o.pick==0)=false:=zAY hf
      have hv:fb=false:=by rw [hz.out];simp [anyc,hf]
      clear hz hf;subst hv;go_wp2;go_ret;exact⟨rfl,by rw [fB.out];exact fA.out⟩
     have ef:(o.pick==0)=true:=zAK hf;have kf:=hid hf;clear hf
     have hv:fb=true:=by rw [hz.out];simp [anyc,ko.out,kl.out,kd.out,km.out,kf.out]
     clear hz ko kl kd km kf;subst hv;go_wp2;go_ret;exact⟨rfl,by rw [fB.out];exact fA.out⟩
    ·
     have lp:=lk 112 true (by decide) (by decide);have lt:=lk 116 false (by decide) (by decide);have lo:=lk 111 false (by decide) (by decide);have ll:=lk 108 false (by decide) (by decide);have ld:=lk 100 false (by decide) (by decide);have lm:=lk 109 false (by decide) (by decide);have lf:=lk 102 false (by decide) (by decide);have hz:=fD;clear lk fD;by_cases ht:o.dst=emp
     case neg =>
      have et:o.dst.toList.isEmpty=false:=zCZ ht
      have hv:fb=false:=by rw [hz.out];simp [anyc,ht]
      clear hz ht;subst hv;go_wp2;go_ret;exact⟨rfl,by rw [fB.out];exact fA.out⟩
     have et:o.dst.toList.isEmpty=true:=zCd ht;have kt:=hid ht;clear ht;by_cases ho:o.off=0
     case neg =>
      have eo:(o.off==0)=false:=zAY ho
      have hv:fb=false:=by rw [hz.out];simp [anyc,ho]
      clear hz ho;subst hv;go_wp2;go_ret;exact⟨rfl,by rw [fB.out];exact fA.out⟩
     have eo:(o.off==0)=true:=zAK ho;have ko:=hid ho;clear ho;by_cases hl:o.len=0
     case neg =>
      have el:(o.len==0)=false:=zAY hl
      have hv:fb=false:=by rw [hz.out];simp [anyc,hl]
      clear hz hl;subst hv;go_wp2;go_ret;exact⟨rfl,by rw [fB.out];exact fA.out⟩
     have el:(o.len==0)=true:=zAK hl;have kl:=hid hl;clear hl;by_cases hd:o.data.length=0
     case neg =>
      have ed:((o.data.length:Int)==0)=false:=zDo hd
      have hv:fb=false:=by rw [hz.out];simp [anyc,hd]
      clear hz hd;subst hv;go_wp2;go_ret;exact⟨rfl,by rw [fB.out];exact fA.out⟩
     have ed:((o.data.length:Int)==0)=true:=zCN hd;have kd:=hid hd;clear hd;by_cases hm:o.made=0
     case neg =>
      have em:(o.made==0)=false:=zAY hm
      have hv:fb=false:=by rw [hz.out];simp [anyc,hm]
      clear hz hm;subst hv;go_wp2;go_ret;exact⟨rfl,by rw [fB.out];exact fA.out⟩
     have em:(o.made==0)=true:=zAK hm;have km:=hid hm;clear hm;by_cases hf:o.pick=0
     case neg =>
      have ef:(o.pick==0)=false:=zAY hf
      have hv:fb=false:=by rw [hz.out];simp [anyc,hf]
      clear hz hf;subst hv;go_wp2;go_ret;exact⟨rfl,by rw [fB.out];exact fA.out⟩
     have ef:(o.pick==0)=true:=zAK hf;have kf:=hid hf;clear hf
     have hv:fb=true:=by rw [hz.out];simp [anyc,kt.out,ko.out,kl.out,kd.out,km.out,kf.out]
     clear hz kt ko kl kd km kf;subst hv;go_wp2;go_ret;exact⟨rfl,by rw [fB.out];exact fA.out⟩
    ·
     have lp:=lk 112 true (by decide) (by decide);have lt:=lk 116 false (by decide) (by decide);have lo:=lk 111 true (by decide) (by decide);have ll:=lk 108 false (by decide) (by decide);have ld:=lk 100 true (by decide) (by decide);have lm:=lk 109 false (by decide) (by decide);have lf:=lk 102 false (by decide) (by decide);have hz:=fD;clear lk fD;by_cases ht:o.dst=emp
     case neg =>
      have et:o.dst.toList.isEmpty=false:=zCZ ht
      have hv:fb=false:=by rw [hz.out];simp [anyc,ht]
      clear hz ht;subst hv;go_wp2;go_ret;exact⟨rfl,by rw [fB.out];exact fA.out⟩
     have et:o.dst.toList.isEmpty=true:=zCd ht;have kt:=hid ht;clear ht;by_cases hl:o.len=0
     case neg =>
      have el:(o.len==0)=false:=zAY hl
      have hv:fb=false:=by rw [hz.out];simp [anyc,hl]
      clear hz hl;subst hv;go_wp2;go_ret;exact⟨rfl,by rw [fB.out];exact fA.out⟩
     have el:(o.len==0)=true:=zAK hl;have kl:=hid hl;clear hl;by_cases hm:o.made=0
     case neg =>
      have em:(o.made==0)=false:=zAY hm
      have hv:fb=false:=by rw [hz.out];simp [anyc,hm]
      clear hz hm;subst hv;go_wp2;go_ret;exact⟨rfl,by rw [fB.out];exact fA.out⟩
     have em:(o.made==0)=true:=zAK hm;have km:=hid hm;clear hm;by_cases hf:o.pick=0
     case neg =>
      have ef:(o.pick==0)=false:=zAY hf
      have hv:fb=false:=by rw [hz.out];simp [anyc,hf]
      clear hz hf;subst hv;go_wp2;go_ret;exact⟨rfl,by rw [fB.out];exact fA.out⟩
     have ef:(o.pick==0)=true:=zAK hf;have kf:=hid hf;clear hf
     have hv:fb=true:=by rw [hz.out];simp [anyc,kt.out,kl.out,km.out,kf.out]
     clear hz kt kl km kf;subst hv;go_wp2;go_ret;exact⟨rfl,by rw [fB.out];exact fA.out⟩
    ·
     have lp:=lk 112 true (by decide) (by decide);have lt:=lk 116 false (by decide) (by decide);have lo:=lk 111 true (by decide) (by decide);have ll:=lk 108 false (by decide) (by decide);have ld:=lk 100 false (by decide) (by decide);have lm:=lk 109 false (by decide) (by decide);have lf:=lk 102 false (by decide) (by decide);have hz:=fD;clear lk fD;by_cases ht:o.dst=emp
     case neg =>
      have et:o.dst.toList.isEmpty=false:=zCZ ht
      have hv:fb=false:=by rw [hz.out];simp [anyc,ht]
      clear hz ht;subst hv;go_wp2;go_ret;exact⟨rfl,by rw [fB.out];exact fA.out⟩
     have et:o.dst.toList.isEmpty=true:=zCd ht;have kt:=hid ht;clear ht;by_cases hl:o.len=0
     case neg =>
      have el:(o.len==0)=false:=zAY hl
      have hv:fb=false:=by rw [hz.out];simp [anyc,hl]
      clear hz hl;subst hv;go_wp2;go_ret;exact⟨rfl,by rw [fB.out];exact fA.out⟩
     have el:(o.len==0)=true:=zAK hl;have kl:=hid hl;clear hl;by_cases hd:o.data.length=0
     case neg =>
      have ed:((o.data.length:Int)==0)=false:=zDo hd
      have hv:fb=false:=by rw [hz.out];simp [anyc,hd]
      clear hz hd;subst hv;go_wp2;go_ret;exact⟨rfl,by rw [fB.out];exact fA.out⟩
     have ed:((o.data.length:Int)==0)=true:=zCN hd;have kd:=hid hd;clear hd;by_cases hm:o.made=0
     case neg =>
      have em:(o.made==0)=false:=zAY hm
      have hv:fb=false:=by rw [hz.out];simp [anyc,hm]
      clear hz hm;subst hv;go_wp2;go_ret;exact⟨rfl,by rw [fB.out];exact fA.out⟩
     have em:(o.made==0)=true:=zAK hm;have km:=hid hm;clear hm;by_cases hf:o.pick=0
     case neg =>
      have ef:(o.pick==0)=false:=zAY hf
      have hv:fb=false:=by rw [hz.out];simp [anyc,hf]
      clear hz hf;subst hv;go_wp2;go_ret;exact⟨rfl,by rw [fB.out];exact fA.out⟩
     have ef:(o.pick==0)=true:=zAK hf;have kf:=hid hf;clear hf
     have hv:fb=true:=by rw [hz.out];simp [anyc,kt.out,kl.out,kd.out,km.out,kf.out]
     clear hz kt kl kd km kf;subst hv;go_wp2;go_ret;exact⟨rfl,by rw [fB.out];exact fA.out⟩
    ·
     have lp:=lk 112 true (by decide) (by decide);have lt:=lk 116 false (by decide) (by decide);have lo:=lk 111 true (by decide) (by decide);have ll:=lk 108 true (by decide) (by decide);have ld:=lk 100 false (by decide) (by decide);have lm:=lk 109 false (by decide) (by decide);have lf:=lk 102 false (by decide) (by decide);have hz:=fD;clear lk fD;by_cases ht:o.dst=emp
     case neg =>
      have et:o.dst.toList.isEmpty=false:=zCZ ht
      have hv:fb=false:=by rw [hz.out];simp [anyc,ht]
      clear hz ht;subst hv;go_wp2;go_ret;exact⟨rfl,by rw [fB.out];exact fA.out⟩
     have et:o.dst.toList.isEmpty=true:=zCd ht;have kt:=hid ht;clear ht;by_cases hd:o.data.length=0
     case neg =>
      have ed:((o.data.length:Int)==0)=false:=zDo hd
      have hv:fb=false:=by rw [hz.out];simp [anyc,hd]
      clear hz hd;subst hv;go_wp2;go_ret;exact⟨rfl,by rw [fB.out];exact fA.out⟩
     have ed:((o.data.length:Int)==0)=true:=zCN hd;have kd:=hid hd;clear hd;by_cases hm:o.made=0
     case neg =>
      have em:(o.made==0)=false:=zAY hm
      have hv:fb=false:=by rw [hz.out];simp [anyc,hm]
      clear hz hm;subst hv;go_wp2;go_ret;exact⟨rfl,by rw [fB.out];exact fA.out⟩
     have em:(o.made==0)=true:=zAK hm;have km:=hid hm;clear hm;by_cases hf:o.pick=0
     case neg =>
      have ef:(o.pick==0)=false:=zAY hf
      have hv:fb=false:=by rw [hz.out];simp [anyc,hf]
      clear hz hf;subst hv;go_wp2;go_ret;exact⟨rfl,by rw [fB.out];exact fA.out⟩
     have ef:(o.pick==0)=true:=zAK hf;have kf:=hid hf;clear hf
     have hv:fb=true:=by rw [hz.out];simp [anyc,kt.out,kd.out,km.out,kf.out]
     clear hz kt kd km kf;subst hv;go_wp2;go_ret;exact⟨rfl,by rw [fB.out];exact fA.out⟩
    ·
     have lp:=lk 112 false (by decide) (by decide);have lt:=lk 116 false (by decide) (by decide);have lo:=lk 111 false (by decide) (by decide);have ll:=lk 108 false (by decide) (by decide);have ld:=lk 100 false (by decide) (by decide);have lm:=lk 109 false (by decide) (by decide);have lf:=lk 102 false (by decide) (by decide);have hz:=fD;clear lk fD;by_cases hp:o.path=emp
     case neg =>
      have ep:o.path.toList.isEmpty=false:=zCZ hp
      have hv:fb=false:=by rw [hz.out];simp [anyc,hp]
      clear hz hp;subst hv;go_wp2;go_ret;exact⟨rfl,by rw [fB.out];exact fA.out⟩
     have ep:o.path.toList.isEmpty=true:=zCd hp;have kp:=hid hp;clear hp;by_cases ht:o.dst=emp
     case neg =>
      have et:o.dst.toList.isEmpty=false:=zCZ ht
      have hv:fb=false:=by rw [hz.out];simp [anyc,ht]
      clear hz ht;subst hv;go_wp2;go_ret;exact⟨rfl,by rw [fB.out];exact fA.out⟩
     have et:o.dst.toList.isEmpty=true:=zCd ht;have kt:=hid ht;clear ht;by_cases ho:o.off=0
     case neg =>
      have eo:(o.off==0)=false:=zAY ho
      have hv:fb=false:=by rw [hz.out];simp [anyc,ho]
      clear hz ho;subst hv;go_wp2;go_ret;exact⟨rfl,by rw [fB.out];exact fA.out⟩
     have eo:(o.off==0)=true:=zAK ho;have ko:=hid ho;clear ho;by_cases hl:o.len=0
     case neg =>
      have el:(o.len==0)=false:=zAY hl
      have hv:fb=false:=by rw [hz.out];simp [anyc,hl]
      clear hz hl;subst hv;go_wp2;go_ret;exact⟨rfl,by rw [fB.out];exact fA.out⟩
     have el:(o.len==0)=true:=zAK hl;have kl:=hid hl;clear hl;by_cases hd:o.data.length=0
     case neg =>
      have ed:((o.data.length:Int)==0)=false:=zDo hd
      have hv:fb=false:=by rw [hz.out];simp [anyc,hd]
      clear hz hd;subst hv;go_wp2;go_ret;exact⟨rfl,by rw [fB.out];exact fA.out⟩
     have ed:((o.data.length:Int)==0)=true:=zCN hd;have kd:=hid hd;clear hd;by_cases hm:o.made=0
     case neg =>
      have em:(o.made==0)=false:=zAY hm
      have hv:fb=false:=by rw [hz.out];simp [anyc,hm]
      clear hz hm;subst hv;go_wp2;go_ret;exact⟨rfl,by rw [fB.out];exact fA.out⟩
     have em:(o.made==0)=true:=zAK hm;have km:=hid hm;clear hm;by_cases hf:o.pick=0
     case neg =>
      have ef:(o.pick==0)=false:=zAY hf
      have hv:fb=false:=by rw [hz.out];simp [anyc,hf]
      clear hz hf;subst hv;go_wp2;go_ret;exact⟨rfl,by rw [fB.out];exact fA.out⟩
     have ef:(o.pick==0)=true:=zAK hf;have kf:=hid hf;clear hf
     have hv:fb=true:=by rw [hz.out];simp [anyc,kp.out,kt.out,ko.out,kl.out,kd.out,km.out,kf.out]
     clear hz kp kt ko kl kd km kf;subst hv;go_wp2;go_ret;exact⟨rfl,by rw [fB.out];exact fA.out⟩
    ·
     have lp:=lk 112 false (by decide) (by decide);have lt:=lk 116 false (by decide) (by decide);have lo:=lk 111 false (by decide) (by decide);have ll:=lk 108 false (by decide) (by decide);have ld:=lk 100 false (by decide) (by decide);have lm:=lk 109 false (by decide) (by decide);have lf:=lk 102 true (by decide) (by decide);have hz:=fD;clear lk fD;by_cases hp:o.path=emp
     case neg =>
      have ep:o.path.toList.isEmpty=false:=zCZ hp
      have hv:fb=false:=by rw [hz.out];simp [anyc,hp]
      clear hz hp;subst hv;go_wp2;go_ret;exact⟨rfl,by rw [fB.out];exact fA.out⟩
     have ep:o.path.toList.isEmpty=true:=zCd hp;have kp:=hid hp;clear hp;by_cases ht:o.dst=emp
     case neg =>
      have et:o.dst.toList.isEmpty=false:=zCZ ht
      have hv:fb=false:=by rw [hz.out];simp [anyc,ht]
      clear hz ht;subst hv;go_wp2;go_ret;exact⟨rfl,by rw [fB.out];exact fA.out⟩
     have et:o.dst.toList.isEmpty=true:=zCd ht;have kt:=hid ht;clear ht;by_cases ho:o.off=0
     case neg =>
      have eo:(o.off==0)=false:=zAY ho
      have hv:fb=false:=by rw [hz.out];simp [anyc,ho]
      clear hz ho;subst hv;go_wp2;go_ret;exact⟨rfl,by rw [fB.out];exact fA.out⟩
     have eo:(o.off==0)=true:=zAK ho;have ko:=hid ho;clear ho;by_cases hl:o.len=0
     case neg =>
      have el:(o.len==0)=false:=zAY hl
      have hv:fb=false:=by rw [hz.out];simp [anyc,hl]
      clear hz hl;subst hv;go_wp2;go_ret;exact⟨rfl,by rw [fB.out];exact fA.out⟩
     have el:(o.len==0)=true:=zAK hl;have kl:=hid hl;clear hl;by_cases hd:o.data.length=0
     case neg =>
      have ed:((o.data.length:Int)==0)=false:=zDo hd
      have hv:fb=false:=by rw [hz.out];simp [anyc,hd]
      clear hz hd;subst hv;go_wp2;go_ret;exact⟨rfl,by rw [fB.out];exact fA.out⟩
     have ed:((o.data.length:Int)==0)=true:=zCN hd;have kd:=hid hd;clear hd;by_cases hm:o.made=0
     case neg =>
      have em:(o.made==0)=false:=zAY hm
      have hv:fb=false:=by rw [hz.out];simp [anyc,hm]
      clear hz hm;subst hv;go_wp2;go_ret;exact⟨rfl,by rw [fB.out];exact fA.out⟩
     have em:(o.made==0)=true:=zAK hm;have km:=hid hm;clear hm
     have hv:fb=true:=by rw [hz.out];simp [anyc,kp.out,kt.out,ko.out,kl.out,kd.out,km.out]
     clear hz kp kt ko kl kd km;subst hv;go_wp2;go_ret;exact⟨rfl,by rw [fB.out];exact fA.out⟩
end Go.Proofs.YtolpcfhfcdkokaaGreatDoor
