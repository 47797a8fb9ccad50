/- Joined out of LScr..OpenOps. -/
import Derived.Test.YtolpcfhfcdkokaaGreatDoorQ46
set_option maxHeartbeats 16000000
set_option maxRecDepth 100000
namespace Go.Proofs.YtolpcfhfcdkokaaGreatDoor
open Lib (hid)
open Go.RowKit Go.Proofs
structure Os where
 o:Opn
 dA:Option Addr
 dc:Nat
def OsAt (w:World) (b off:Nat) (x:Os):Prop :=
 w.cell? ⟨b,off,none⟩=some (.int .i64 x.o.kind)∧w.cell? ⟨b,off+1,none⟩=some (.string x.o.path)∧w.cell? ⟨b,off+2,none⟩=some (.string x.o.dst)∧w.cell? ⟨b,off+3,none⟩=some (.int .i64 x.o.off) ∧
 w.cell? ⟨b,off+4,none⟩=some (.int .i64 x.o.len)∧w.cell? ⟨b,off+5,none⟩=some (.slice x.dA x.o.data.length x.dc)∧w.cell? ⟨b,off+6,none⟩=some (.int .i64 x.o.made)∧w.cell? ⟨b,off+7,none⟩=some (.int .i64 x.o.pick)
structure ScrAt (w:World) (B:Nat) (A:Option Addr) (l:List Os):Prop where
 at_:0<l.length→∃ b off,A=some ⟨b,off,none⟩∧b<B∧∀ i (h:i<l.length),OsAt w b (off+i * 8) l[i]
 data:∀ x∈l,Sees w B 1 x.dA x.o.data.length (bvs x.o.data)
theorem zGR {w w1:World} {b off:Nat} {x:Os} (h:OsAt w b off x) (hk:∀ p:Addr,p.block=b→w1.cell? p=w.cell? p):OsAt w1 b off x :=
 ⟨(hk _ rfl).trans h.1,(hk _ rfl).trans h.2.1,(hk _ rfl).trans h.2.2.1,(hk _ rfl).trans h.2.2.2.1,(hk _ rfl).trans h.2.2.2.2.1,(hk _ rfl).trans h.2.2.2.2.2.1,(hk _ rfl).trans h.2.2.2.2.2.2.1,(hk _ rfl).trans h.2.2.2.2.2.2.2⟩
theorem ScrAt.below {w w1:World} {B:Nat} {A:Option Addr} {l:List Os} (h:ScrAt w B A l) (hb:Below B w w1):ScrAt w1 B A l :=
 ⟨fun hn=>let ⟨b,off,e,fA,hc⟩:=h.at_ hn;⟨b,off,e,fA,fun i hi=>zGR (hc i hi) fun p hp=>hb.cell (by omega)⟩,fun x hx=>(h.data x hx).below hb⟩
theorem ScrAt.more {w:World} {B B':Nat} {A:Option Addr} {l:List Os} (h:ScrAt w B A l) (hB:B≤B'):ScrAt w B' A l :=
 ⟨fun hn=>let ⟨b,off,e,fA,hc⟩:=h.at_ hn;⟨b,off,e,by omega,hc⟩,fun x hx=>(h.data x hx).more hB⟩
def wtO (x:Os):Nat:=x.o.data.length+x.o.path.size+x.o.dst.size
def zJE (l:List Os):Nat:=(l.map wtO).sum
theorem totO_take (l:List Os) (j:Nat) (h:j<l.length):zJE (l.take (j+1))=zJE (l.take j)+wtO l[j]:=by
 unfold zJE;rw [List.take_succ_eq_append_getElem h,List.map_append,List.sum_append];simp
theorem totO_le (l:List Os) (j:Nat):zJE (l.take j)≤zJE l:=by
 unfold zJE
 conv=>rhs;rw [←List.take_append_drop j l,List.map_append,List.sum_append]
 omega
def zFA (l:List Os):Bool:=decide (zJE l≤2097152∧l.length≤400)
theorem light_any (A:Option Addr) (cap:Nat) (l:List Os) (w:World) (hN:ScrAt w w.heap.size A l) (fG:l.length≤281474976710656)
 (fB:∀ x∈l,x.o.path.size≤140737488351232∧x.o.dst.size≤140737488351232∧x.o.data.length≤140737488351232) :
 Calls Tryz.prog 8 #[.slice A l.length cap] w fun e w'=>e=.returned (.bool (zFA l))∧∃ n,w'=w.drewN n:=by
 obtain⟨len,fC⟩:∃ len,len=l.length:=⟨_,rfl⟩;have fA:=hid fC;rw [←fC] at fG ⊢;clear fC;go_enter Tryz.func8,Tryz.ntmps8;go_wp2
 go_loopw [3,4] (fun n i wr=>∃ j m:Nat,j≤len∧i=.int .i64 j∧n=.int .i64 m∧Hid (m=zJE (l.take j))∧m≤500000000000000∧∃ k,wr=w.drewN k)
  (fun _ i _=>len-(intOf i).toNat)
 case atStart=>exact⟨0,0,Nat.zero_le _,rfl,rfl,by simp [Hid,zJE],by omega,0,rfl⟩
 case round =>
  obtain⟨j,m,hj,rfl,rfl,hm,fM,k,rfl⟩:=hrel;by_cases fN:j<len
  · have fE:j<l.length:=by have:=fA.out;omega
    by_cases fH:m≤2097152
    · obtain⟨b,off,rfl,fO,hc⟩:=hN.at_ (by omega);have fI:=hc j fE;have fJ:=fB _ (List.getElem_mem fE);have fK:=hid (totO_take l j fE);clear hN hc fB;generalize l[j]=x at *;obtain⟨⟨ok,pa,ds,oo,ol,da,om,op⟩,dA,dc⟩:=x;obtain⟨c0,c1,c2,c3,c4,c5,c6,c7⟩:=fI;obtain⟨z1,z2,z3⟩:=fJ;simp only at c0 c1 c2 c3 c4 c5 c6 c7 z1 z2 z3;go_wp2
      go_quiet (fail)
      go_wp2;go_roundw
      case rel=>exact⟨j+1,m+(da.length+pa.size+ds.size),by omega,by go_num,by go_num,by have h1:=fK.out;have h2:=hm.out;show _=_;rw [h1,←h2];rfl,by omega,k+nq,by simp [World.drewN]⟩
      case measure=>simp [intOf];omega
    · have fL:=totO_le l j
      have fD:Hid (zFA l=false):=by
       have:=hm.out
       show decide _=false
       simp only [decide_eq_false_iff_not];omega
      clear hN fB fL;go_wp2;go_ret;exact⟨by rw [fD.out];rfl,k,rfl⟩
  · obtain rfl:j=len:=by omega
    have fF:Hid (m=zJE l):=by have h1:=hm.out;rw [fA.out,List.take_length] at h1;exact h1
    have fD:Hid (zFA l=decide ((m:Int)≤2097152∧(j:Int)≤400)):=by
     have h1:=fF.out;have h2:=fA.out
     show decide _=decide _
     rw [decide_eq_decide,←h1,←h2];omega
    clear hN fB;by_cases fH:m≤2097152
    all_goals
     go_wp2;go_ret;exact⟨by rw [fD.out];exact congrArg (fun b=>Ending.returned (Value.bool b)) (by rw [Bool.eq_iff_iff];simp;omega),k,rfl⟩
theorem one8o (a d e f g:Int) (b c:ByteArray) (A:Option Addr) (n k:Nat):(([.int .i64 a,.string b,.string c,.int .i64 d,.int .i64 e,.slice A n k,.int .i64 f,.int .i64 g]:List Value).toArray).all (·.oneCell')=true:=by
 rw [Array.all_eq_true_iff_forall_mem];intro v hv;simp only [List.mem_toArray,List.mem_cons,List.not_mem_nil,or_false] at hv;rcases hv with rfl | rfl | rfl | rfl | rfl | rfl | rfl | rfl<;>rfl
def TwinP (o:Opn) (w:World) (e:Ending) (w':World):Prop:=(∃ A c,e=.returned (opV o A c)∧Sees w' w'.heap.size 1 A o.data.length (bvs o.data)∧o.data.length≤c)∧Below w.heap.size w w'
theorem twin_any (o:Opn) (A:Option Addr) (c:Nat) (w:World) (hs:Sees w w.heap.size 1 A o.data.length (bvs o.data)) (hl:o.data.length≤1000000000) :
 Calls Tryz.prog 25 #[opV o A c] w (TwinP o w):=by
 obtain⟨i0,hi,fW,fH,fX⟩:=info_parts zCV;obtain⟨ok,pa,ds,oo,ol,da,om,op⟩:=o;obtain⟨Q,hQ⟩:∃ Q,TwinP ⟨ok,pa,ds,oo,ol,da,om,op⟩ w=Q:=⟨_,rfl⟩;rw [hQ];have fY:=hid hQ;simp only at hs hl;obtain⟨len,fB⟩:∃ len,da.length=len:=⟨_,rfl⟩;have fA:=hid fB;unfold opV opC;simp only [fB];rw [fB] at hs hl;clear hQ fB;go_enter Tryz.func25,Tryz.ntmps25;go_upto_region 2 with (fail);have fE:Below w.heap.size w ((w.alloc (.cells [.int .i64 ok,.string pa,.string ds,.int .i64 oo,.int .i64 ol,.slice A len c,.int .i64 om,.int .i64 op].toArray 70)).alloc (.cells [.int .i64 0,.string ⟨#[]⟩,.string ⟨#[]⟩,.int .i64 0,.int .i64 0,.slice none 0 0,.int .i64 0,.int .i64 0].toArray 70)):=((Below.refl _ _).alloc (Nat.le_refl _) _).alloc (by simp) _;have fG:Blk ((w.alloc (.cells [.int .i64 ok,.string pa,.string ds,.int .i64 oo,.int .i64 ol,.slice A len c,.int .i64 om,.int .i64 op].toArray 70)).alloc (.cells [.int .i64 0,.string ⟨#[]⟩,.string ⟨#[]⟩,.int .i64 0,.int .i64 0,.slice none 0 0,.int .i64 0,.int .i64 0].toArray 70)) w.heap.size 70 [.int .i64 ok,.string pa,.string ds,.int .i64 oo,.int .i64 ol,.slice A len c,.int .i64 om,.int .i64 op]:=(Blk.new w _ _).alloc _
 have fI:Blk ((w.alloc (.cells [.int .i64 ok,.string pa,.string ds,.int .i64 oo,.int .i64 ol,.slice A len c,.int .i64 om,.int .i64 op].toArray 70)).alloc (.cells [.int .i64 0,.string ⟨#[]⟩,.string ⟨#[]⟩,.int .i64 0,.int .i64 0,.slice none 0 0,.int .i64 0,.int .i64 0].toArray 70)) (w.heap.size+1) 70 [.int .i64 0,.string ⟨#[]⟩,.string ⟨#[]⟩,.int .i64 0,.int .i64 0,.slice none 0 0,.int .i64 0,.int .i64 0]:=by
  have h9:=Blk.new (w.alloc (.cells [.int .i64 ok,.string pa,.string ds,.int .i64 oo,.int .i64 ol,.slice A len c,.int .i64 om,.int .i64 op].toArray 70)) 70 [.int .i64 0,.string ⟨#[]⟩,.string ⟨#[]⟩,.int .i64 0,.int .i64 0,.slice none 0 0,.int .i64 0,.int .i64 0];simpa using h9
 have fZ:((w.alloc (.cells [.int .i64 ok,.string pa,.string ds,.int .i64 oo,.int .i64 ol,.slice A len c,.int .i64 om,.int .i64 op].toArray 70)).alloc (.cells [.int .i64 0,.string ⟨#[]⟩,.string ⟨#[]⟩,.int .i64 0,.int .i64 0,.slice none 0 0,.int .i64 0,.int .i64 0].toArray 70)).heap.size=w.heap.size+2:=by simp
 change Code.wp _ _ _ _ ((w.alloc (.cells [.int .i64 ok,.string pa,.string ds,.int .i64 oo,.int .i64 ol,.slice A len c,.int .i64 om,.int .i64 op].toArray 70)).alloc (.cells [.int .i64 0,.string ⟨#[]⟩,.string ⟨#[]⟩,.int .i64 0,.int .i64 0,.slice none 0 0,.int .i64 0,.int .i64 0].toArray 70));generalize ((w.alloc (.cells [.int .i64 ok,.string pa,.string ds,.int .i64 oo,.int .i64 ol,.slice A len c,.int .i64 om,.int .i64 op].toArray 70)).alloc (.cells [.int .i64 0,.string ⟨#[]⟩,.string ⟨#[]⟩,.int .i64 0,.int .i64 0,.slice none 0 0,.int .i64 0,.int .i64 0].toArray 70))=w1 at *;have fT:=(hs.below fE).more fE.size;obtain⟨g,fJ⟩:∃ g,w.heap.size=g:=⟨_,rfl⟩;rw [fJ] at fG fZ fI;have fK:=hid fI;simp only [fJ];have gA:=hid fJ;have yc:=fun j=>fG.cell j;have y5:=yc 5;simp only [List.getElem?_cons_succ,List.getElem?_cons_zero] at y5;have fL:=zCK (tx:=64) w1 Tryz.underlying64 c fT (zCG _);have fM:=hid fG;clear yc fG hs fT fI
 go_upto_region 3 with (first
  | (at_builtin;refine zAk _ (by rfl) _ _ _ _ (by rfl) (g+2) 5 i0 (.int .u8 0) 1 1 Tryz.underlying64 hi fW fH fX rfl (.slice none 0 0) 0 [] (by rfl) (World.ownsRow_nil _ _ _ _) len (bvs da) fL (by unfold maxLen;omega) (by omega) (by omega) ?_;intro v2 w2 fD fU fN;obtain⟨A2,c2,rfl,gB⟩:=Sees.of_own (B:=w2.heap.size) fD (fun g hg=>(fD.lt g hg).2);have fO:Chg (fun _=>False) w1 w2:=(Chg.refl _ w1).grown fU (fun g e=>by cases e);have fP:=fM.out.chg fO id;have yc:=fun j=>fP.cell j;have f5:=fP.frozen 5;have x0:=yc 0;have x1:=yc 1;have x2:=yc 2;have x3:=yc 3;have x4:=yc 4;have x5:=yc 5;have x6:=yc 6;have x7:=yc 7;simp only [List.getElem?_cons_succ,List.getElem?_cons_zero] at x0 x1 x2 x3 x4 x5 x6 x7;have fQ:=hid fD;have fC:=hid fO;clear fD fO fP yc fN fU))
 have fF:Chg (fun b=>b=g) w2 (w2.setCell ⟨g,5,none⟩ (.slice A2 len c2)):=(Chg.refl (fun b=>b=g) w2).setCell (p:=⟨g,5,none⟩) (fun _=>rfl) _;have fV:Blk (w2.setCell ⟨g,5,none⟩ (.slice A2 len c2)) (g+1) 70 [.int .i64 0,.string ⟨#[]⟩,.string ⟨#[]⟩,.int .i64 0,.int .i64 0,.slice none 0 0,.int .i64 0,.int .i64 0]:=(fK.out.chg fC.out id).chg fF (by omega);have fR:=setRow_heap (w2.setCell ⟨g,5,none⟩ (.slice A2 len c2)) (g+1) _ ([.int .i64 ok,.string pa,.string ds,.int .i64 oo,.int .i64 ol,.slice A2 len c2,.int .i64 om,.int .i64 op]:List Value).toArray _ _ fV;go_wp2_with (refine wpList_store_row rfl 70 (.tmp 2) (.tmp 9) rfl (g+1) ([.int .i64 ok,.string pa,.string ds,.int .i64 oo,.int .i64 ol,.slice A2 len c2,.int .i64 om,.int .i64 op]:List Value).toArray rfl (by rfl) 70 _ fV rfl rfl (one8o _ _ _ _ _ _ _ _ _ _) ?_);refine bodyPost_ret (results_cell_row rfl _ _ (g+1) 70 ([.int .i64 ok,.string pa,.string ds,.int .i64 oo,.int .i64 ol,.slice A2 len c2,.int .i64 om,.int .i64 op]:List Value).toArray (0,0) _ rfl fR Tryz.underlying70 rfl rfl) rfl ?_;rw [←fY.out];have fS:Chg (fun b=>b=g+1) (w2.setCell ⟨g,5,none⟩ (.slice A2 len c2)) ((w2.setCell ⟨g,5,none⟩ (.slice A2 len c2)).setRow (g+1) ([.int .i64 ok,.string pa,.string ds,.int .i64 oo,.int .i64 ol,.slice A2 len c2,.int .i64 om,.int .i64 op]:List Value).toArray):=(Chg.refl (fun b=>b=g+1) _).setRow (fun _=>rfl) _;have fD:=fQ.out;refine⟨⟨A2,c2,?_,?_,?_⟩,?_⟩
 · unfold opV opC;simp only [fA.out]
 · simp only [fA.out]
   have h9:=(gB.chgS (by decide) fF (fun b off e hn hb=>by
    subst e;have:=(fD.lt b rfl).1
    omega)).chgS (by decide) fS (fun b off e hn hb=>by
    subst e;have:=(fD.lt b rfl).1;omega) |>.more (Nat.le_trans fF.size fS.size)
   simpa using h9
 · simp only [fA.out];rcases fD.2 with ⟨h8,h9⟩ | ⟨g',cap,cur,h9,_,_,hnc,_⟩
   · omega
   · injection h9 with _ _ e3;omega
 · have gC:=gA.out;exact ((fE.trans (fC.out.below fE.size fun _ _ h=>h)).trans (fF.below (Nat.le_trans fE.size fC.out.size) fun b hb e=>by omega)).trans (fS.below (Nat.le_trans (Nat.le_trans fE.size fC.out.size) fF.size) fun b hb e=>by omega)
def pkN (c:Int) (n:Nat):Nat:=(if c<0 then (-(c+1)).toNat else c.toNat) % n
theorem zJi (c:Int) {n:Nat} (h:0<n):pkN c n<n:=Nat.mod_lt _ h
theorem zJe (c:Int) (n:Nat) (w:World) (h1 : -9223372036854775808≤c) (h2:c≤9223372036854775807) (hn:0<n) (fA:n≤1000000000) :
 Calls Tryz.prog 27 #[.int .i64 c,.int .i64 n] w fun e w'=>e=.returned (.int .i64 (pkN c n:Nat))∧w=w':=by
 go_enter Tryz.func27,Tryz.ntmps27;by_cases hc:c<0
 · have t1:decide (c<0)=true:=by simpa using hc
   have hv : -((c+1).tmod (n:Int))=((pkN c n:Nat):Int):=by
    unfold pkN;rw [if_pos hc];obtain⟨x,hx⟩:∃ x:Nat,-(c+1)=(x:Int):=⟨(-(c+1)).toNat,by omega⟩;rw [hx,Int.toNat_natCast,show c+1=-(x:Int) by omega,Int.neg_tmod,Int.neg_neg,Int.tmod_eq_emod_of_nonneg (by omega)];rfl
   go_wp2;go_ret;exact⟨rfl,rfl⟩
 · have t1:decide (c<0)=false:=by simpa using hc
   have hv:c % (n:Int)=((pkN c n:Nat):Int):=by
    unfold pkN;rw [if_neg hc];obtain⟨x,rfl⟩:=Int.eq_ofNat_of_zero_le (by omega:0≤c);rw [Int.toNat_natCast];rfl
   go_wp2;go_ret;exact⟨rfl,rfl⟩
def szN (s:Int):Nat:=8+pkN s 4089
def szM (s i:Int):Nat:=1+pkN i (min 512 (szN s-2))
theorem sz_ok (s i:Int):(8≤szN s∧szN s≤4096)∧(1≤szM s i∧szM s i≤512)∧szM s i+2≤szN s:=by
 have h1:=zJi s (n:=4089) (by decide);have h2:=zJi i (n:=min 512 (szN s-2)) (by unfold szN;omega);unfold szM;have h3:szN s=8+pkN s 4089:=rfl;omega
theorem sizes_any (s i:Int) (w:World) (h1 : -9223372036854775808≤s) (h2:s≤9223372036854775807) (h3 : -9223372036854775808≤i) (h4:i≤9223372036854775807) :
 Calls Tryz.prog 22 #[.int .i64 s,.int .i64 i] w fun e w'=>e=.returned (.tuple #[.int .i64 (szN s:Nat),.int .i64 (szM s i:Nat)])∧w=w':=by
 have c1:=zJe s 4089 w h1 h2 (by decide) (by decide);have c2:=zJe i (min 512 (szN s-2)) w h3 h4 (by unfold szN;omega) (by omega);have l1:=zJi s (n:=4089) (by decide);obtain⟨a,ha⟩:∃ a,pkN s 4089=a:=⟨_,rfl⟩;have l2:=zJi i (n:=min 512 (szN s-2)) (by unfold szN;omega)
 have e1:szN s=8+a:=by unfold szN;rw [ha]
 have e2:szM s i=1+pkN i (min 512 (szN s-2)):=rfl;rw [e2];rw [e1] at c2 l2 ⊢;rw [ha] at c1 l1;rw [show ((4089:Nat):Int)=4089 from rfl] at c1;obtain⟨b,hb⟩:∃ b,pkN i (min 512 (8+a-2))=b:=⟨_,rfl⟩;rw [hb] at c2 l2 ⊢;obtain⟨q,hq⟩:∃ q,min 512 (8+a-2)=q:=⟨_,rfl⟩;rw [hq] at c2 l2
 have fA:min (512:Int) (8+(a:Int)-2)=(q:Int):=by omega
 clear ha e1 e2 hb;go_enter Tryz.func22,Tryz.ntmps22
 go_wp2_with (first
  | (go_at_call 27;(with_reducible refine c1.mono ?_);rintro e w1 ⟨rfl,rfl⟩)
  | (go_at_call 27;(with_reducible refine c2.mono ?_);rintro e w1 ⟨rfl,rfl⟩))
 go_ret2
 exact⟨rfl,rfl⟩
noncomputable def PT.runs (T:PT) (l:List Opn):PT:=l.foldl (fun T o=>(T.run o).1) T
theorem zGi:∀ (l:List Opn) {T:PT},T.Inv→(T.runs l).Inv
 | [],_,h=>h
 | o::r,_,h=>zGi r (inv_run h o)
noncomputable def PT.after (T:PT) (l:List Os) (j:Nat):PT:=T.runs ((l.take j).map (·.o))
theorem zJK (T:PT) (l:List Os):T.after l 0=T:=rfl
theorem zJ2 (T:PT) (l:List Os) (j:Nat) (h:j<l.length):T.after l (j+1)=((T.after l j).run l[j].o).1:=by
 unfold PT.after PT.runs;rw [List.take_succ_eq_append_getElem h,List.map_append,List.foldl_append];rfl
theorem inv_after {T:PT} (h:T.Inv) (l:List Os) (j:Nat):(T.after l j).Inv:=zGi _ h
theorem after_all (T:PT) (l:List Os) (j:Nat) (h:j=l.length):T.after l j=T.runs (l.map (·.o)):=by
 unfold PT.after;rw [h,List.take_length]
theorem zFl {α:Type} (f:α→Nat):∀ {l:List α} {x:α},x∈l→f x≤(l.map f).sum
 | y::r,x,h=>by
  rw [List.map_cons,List.sum_cons];rcases List.mem_cons.1 h with rfl | h
  · omega
  · have:=zFl f h;omega
theorem zHV {l:List Os} (h:zFA l=true):zJE l≤2097152∧l.length≤400:=by simpa [zFA] using h
theorem light_one {l:List Os} (h:zJE l≤2097152) {x:Os} (hx:x∈l):x.o.data.length≤2097152∧x.o.path.size≤2097152∧x.o.dst.size≤2097152:=by
 have h1:wtO x≤zJE l:=zFl wtO hx;unfold wtO at h1;omega
def osWf (x:Os):Prop:=(x.o.off≤9223372036854775807∧-9223372036854775808≤x.o.off)∧(x.o.len≤9223372036854775807∧-9223372036854775808≤x.o.len)
theorem rused_any {w:World} {t:Tr} {T:PT} (h:RefAt w t T) (ho:T.Ok):Calls Tryz.prog 36 #[trV t] w fun e w'=>e=.returned (.int .i64 (T.used:Int))∧Below w.heap.size w w':=by
 refine (zI0 w.heap.size t w h.tr (Nat.le_refl _) (h.rep.small ho)).mono ?_;rintro e w' ⟨rfl,hb⟩;exact⟨by rw [h.rep.used ho],hb⟩
theorem room_set {w:World} {r:Nat} (h:Blk w r 40 [.int .i64 0,.int .i64 0,.int .i64 0]) (a b c:Int):Blk (((w.setCell ⟨r,0,none⟩ (.int .i64 a)).setCell ⟨r,1,none⟩ (.int .i64 b)).setCell ⟨r,2,none⟩ (.int .i64 c)) r 40 [.int .i64 a,.int .i64 b,.int .i64 c] ∧
 Chg (fun b=>b=r) w (((w.setCell ⟨r,0,none⟩ (.int .i64 a)).setCell ⟨r,1,none⟩ (.int .i64 b)).setCell ⟨r,2,none⟩ (.int .i64 c)) :=
 ⟨((h.set_ 0 _).set_ 1 _).set_ 2 _,(((Chg.refl (fun b=>b=r) w).setCell (p:=⟨r,0,none⟩) (fun _=>rfl) _).setCell (p:=⟨r,1,none⟩) (fun _=>rfl) _).setCell (p:=⟨r,2,none⟩) (fun _=>rfl) _⟩
theorem rroom_any (S:Nat→Prop) (t:Tr) (T:PT) (w:World) (h:RefS S w t T) (hT:T.Inv) :
 Calls Tryz.prog 15 #[.agg (zAa t).toArray] w fun e w'=>e=.returned (zEe T)∧Below w.heap.size w w':=by
 obtain⟨Q,hQ⟩:∃ Q:Ending→World→Prop,(fun e w'=>e=.returned (zEe T)∧Below w.heap.size w w')=Q:=⟨_,rfl⟩;rw [hQ];have gA:=hid hQ;have fJ:=(Blk.new w 28 (zAa t)).alloc (.cells #[.int .i64 0,.int .i64 0,.int .i64 0] 40)
 have fN:Blk ((w.alloc (.cells (zAa t).toArray 28)).alloc (.cells #[.int .i64 0,.int .i64 0,.int .i64 0] 40)) (w.heap.size+1) 40 [.int .i64 0,.int .i64 0,.int .i64 0]:=by
  have:=Blk.new (w.alloc (.cells (zAa t).toArray 28)) 40 [.int .i64 0,.int .i64 0,.int .i64 0];simpa using this
 have fF:Below w.heap.size w ((w.alloc (.cells (zAa t).toArray 28)).alloc (.cells #[.int .i64 0,.int .i64 0,.int .i64 0] 40)):=((Below.refl _ _).alloc (Nat.le_refl _) _).alloc (by simp) _;have fY:=h.fresh fF;have fB:=h.ref.rep.sec;have fC:=h.ref.rep.ino;have fA:t.l.length=T.nodes.length:=h.ref.rep.all.len;have fG:=hT.gr.ok;have gB:=fG.len;have gC:=fG.ino;have gD:=fG.sec;have fO:=hT.room;have fZ:=hid fA;have gI:=hid hT;obtain⟨us,fK⟩:∃ us,T.used=us:=⟨_,rfl⟩;obtain⟨se,fP⟩:∃ se,T.sectors=se:=⟨_,rfl⟩;obtain⟨io,fQ⟩:∃ io,T.inodes=io:=⟨_,rfl⟩;obtain⟨nl,fR⟩:∃ nl,T.nodes.length=nl:=⟨_,rfl⟩;rw [fP] at fB gD fO;rw [fQ] at fC gC fO;rw [fR] at fA gB;rw [fK] at fO;have hv:Hid (zEe T=.agg #[.int .i64 ((se:Int)-1-io-us),.int .i64 0,.int .i64 ((io:Int)-nl)]):=hid (by rw [←fK,←fP,←fQ,←fR];rfl);have fD:=fun W (hb:Below ((w.alloc (.cells (zAa t).toArray 28)).alloc (.cells #[.int .i64 0,.int .i64 0,.int .i64 0] 40)).heap.size ((w.alloc (.cells (zAa t).toArray 28)).alloc (.cells #[.int .i64 0,.int .i64 0,.int .i64 0] 40)) W)=>rused_any (fY.fresh (w':=W) hb).ref fG;rw [fK] at fD;unfold trV at fD;rw [fB,fC,fA] at fD;have fS:=hid fB;have fT:=hid fC;have fU:=hid fA;obtain⟨a0,a1,a2,a3⟩:=zAr fJ;rw [fB] at a0;rw [fC] at a1;rw [fA] at a3;obtain⟨g,hz⟩:∃ g,w.heap.size=g:=⟨_,rfl⟩;have fL:=hid hz;clear hQ h hT fY fK fP fQ fR fG;go_enter Tryz.func15,Tryz.ntmps15;go_upto_region 1 with (fail);change Code.wp _ _ _ _ ((w.alloc (.cells (zAa t).toArray 28)).alloc (.cells #[.int .i64 0,.int .i64 0,.int .i64 0] 40));generalize (w.alloc (.cells (zAa t).toArray 28)).alloc (.cells #[.int .i64 0,.int .i64 0,.int .i64 0] 40)=w0 at *;rw [hz] at fJ fN fF a0 a1 a2 a3
 try simp only [hz]
 have fH:Below w0.heap.size w0 w0.drew:=zAf (Below.refl _ w0) 1;have fV:=hid (fD w0.drew fH);have gE:=hid (fJ.fresh fH);have gF:=hid (fN.fresh fH);have fW:=hid (fF.trans (fH.mono (by have:=fF.size;have:=fL.out;omega)));have v1:IntKind.i64.wrap ((se:Int)-1)=(se:Int)-1:=zAF _ (by omega);have v2:IntKind.i64.wrap ((se:Int)-1-io)=(se:Int)-1-io:=zAF _ (by omega);have v3:IntKind.i64.wrap ((se:Int)-1-io-us)=(se:Int)-1-io-us:=zAF _ (by omega);have v4:IntKind.i64.wrap ((io:Int)-nl)=(io:Int)-nl:=zAF _ (by omega);clear fD fJ fN fF fH hz fB fC fA
 go_region_held3 (fun w'=>w'.cell? ⟨g,0,none⟩=some (.int .i64 (se:Int))∧w'.cell? ⟨g,1,none⟩=some (.int .i64 (io:Int))∧w'.cell? ⟨g,2,none⟩=some (.int .i64 t.births)∧w'.cell? ⟨g,3,none⟩=some (.slice t.A nl t.c))
  (first | go_keep)
  (first
   | (go_at_call 36;(with_reducible refine fV.out.mono ?_);rintro e w3 ⟨rfl,fM⟩;have fE:=gF.out.fresh fM;have fX:=gE.out.fresh fM;obtain⟨u0,u1,u2,u3⟩:=zAr fX;obtain⟨x1,x2⟩:=room_set fE ((se:Int)-1-io-us) 0 ((io:Int)-nl);have z0:=fE.cell 0;have z1:=fE.cell 1;have z2:=fE.cell 2;simp only [List.getElem?_cons_succ,List.getElem?_cons_zero] at z0 z1 z2;have f0:=fE.frozen 0;have f1:=fE.frozen 1;have f2:=fE.frozen 2;obtain⟨r0,r1,r2,r3⟩:=zAr (fX.chg x2 (by omega));have gG:=hid x1;have gH:=hid x2;have fI:=hid fM;clear x1 x2 fM fE fX;simp only [fS.out,fT.out,fU.out] at u0 u1 u3 r0 r1 r3))
 go_wp2;refine bodyPost_ret (results_cell_row rfl _ _ (g+1) 40 (#[.int .i64 ((se:Int)-1-io-us),.int .i64 0,.int .i64 ((io:Int)-nl)]:Array Value) (0,0) _ rfl gG.out Tryz.underlying40 rfl rfl) rfl ?_;rw [←gA.out];exact⟨by rw [hv.out],by rw [fL.out];exact (fW.out.trans (fI.out.mono (by have:=fW.out.size;have:=fL.out;omega))).trans (gH.out.below (by have:=fW.out.size;have:=fI.out.size;have:=fL.out;omega) fun b hb e=>by omega)⟩
open Go.ChangeShapes Go.WideShapes Go.ChangeAt
theorem cellsOp:Tryz.prog.cellsOf 70=8:=by kernel_rfl
theorem bytesOp:Tryz.prog.bytesOf 70=96:=by kernel_rfl
def zIb {H:Type} (x:Os) (d:DataW H):Prop :=
 ∃ dd:DataW H,d=.agg [.lit (.int .i64 x.o.kind),.lit (.string x.o.path.data.toList),.lit (.string x.o.dst.data.toList),.lit (.int .i64 x.o.off),.lit (.int .i64 x.o.len),dd,.lit (.int .i64 x.o.made),.lit (.int .i64 x.o.pick)] ∧
  ((dd=.nil∧x.o.data=[])∨∃ es sp,dd=.slice es sp∧es.length=x.o.data.length)
theorem wf_64 {n:Int} (h:(Lit.int .i64 n).wf=true):n≤9223372036854775807∧-9223372036854775808≤n:=by
 have hx : -9223372036854775808≤n∧n≤9223372036854775807:=by simpa [Lit.wf,IntKind.min,IntKind.max,IntKind.signed,IntKind.bits] using h
 omega
def osC (x:Os):List Value:=[.int .i64 x.o.kind,.string x.o.path,.string x.o.dst,.int .i64 x.o.off,.int .i64 x.o.len,.slice x.dA x.o.data.length x.dc,.int .i64 x.o.made,.int .i64 x.o.pick]
theorem open_op {H:Type} {enc:TypeId×Value→H} {W:World} {fuel:Nat} {cs:List Value} {x:DataW H×List MemPlace} (h:DataW.trod enc Tryz.prog W 0 (fun _=>true) true fuel 70 cs=some x) :
 ∃ nd:Os,cs=osC nd∧Sees W W.heap.size 1 nd.dA nd.o.data.length (bvs nd.o.data)∧zIb nd x.1∧osWf nd:=by
 obtain⟨xs,n,rfl,rfl,fB,fC,hf⟩:=DataW.trod_struct Tryz.underlying70 h;rw [cellsOp] at fB;have fA:xs.length=8:=fC
 obtain⟨k0,k1,k2,k3,k4,k5,k6,k7,rfl⟩:∃ a b c d e f g i,cs=[a,b,c,d,e,f,g,i]:=by
  match cs,fB with
  | [a,b,c,d,e,f,g,i],_=>exact⟨a,b,c,d,e,f,g,i,rfl⟩
 obtain⟨y0,y1,y2,y3,y4,y5,y6,y7,rfl⟩:∃ a b c d e f g i,xs=[a,b,c,d,e,f,g,i]:=by
  match xs,fA with
  | [a,b,c,d,e,f,g,i],_=>exact⟨a,b,c,d,e,f,g,i,rfl⟩
 have f0:DataW.trod enc Tryz.prog W 0 (fun _=>true) true n 3 (([k0,k1,k2,k3,k4,k5,k6,k7].drop 0).take (Tryz.prog.cellsOf 3))=some y0:=hf 0 _ rfl;have f1:DataW.trod enc Tryz.prog W 0 (fun _=>true) true n 9 (([k0,k1,k2,k3,k4,k5,k6,k7].drop 1).take (Tryz.prog.cellsOf 9))=some y1:=hf 1 _ rfl;have f2:DataW.trod enc Tryz.prog W 0 (fun _=>true) true n 9 (([k0,k1,k2,k3,k4,k5,k6,k7].drop 2).take (Tryz.prog.cellsOf 9))=some y2:=hf 2 _ rfl;have f3:DataW.trod enc Tryz.prog W 0 (fun _=>true) true n 3 (([k0,k1,k2,k3,k4,k5,k6,k7].drop 3).take (Tryz.prog.cellsOf 3))=some y3:=hf 3 _ rfl;have f4:DataW.trod enc Tryz.prog W 0 (fun _=>true) true n 3 (([k0,k1,k2,k3,k4,k5,k6,k7].drop 4).take (Tryz.prog.cellsOf 3))=some y4:=hf 4 _ rfl;have f5:DataW.trod enc Tryz.prog W 0 (fun _=>true) true n 64 (([k0,k1,k2,k3,k4,k5,k6,k7].drop 5).take (Tryz.prog.cellsOf 64))=some y5:=hf 5 _ rfl;have f6:DataW.trod enc Tryz.prog W 0 (fun _=>true) true n 3 (([k0,k1,k2,k3,k4,k5,k6,k7].drop 6).take (Tryz.prog.cellsOf 3))=some y6:=hf 6 _ rfl;have f7:DataW.trod enc Tryz.prog W 0 (fun _=>true) true n 3 (([k0,k1,k2,k3,k4,k5,k6,k7].drop 7).take (Tryz.prog.cellsOf 3))=some y7:=hf 7 _ rfl;rw [cellsStr] at f1 f2;rw [cellsInt] at f0 f3 f4 f6 f7;rw [cellsSl] at f5;obtain⟨i0,e0,z0,v0⟩:=DataW.trod_int Tryz.underlying3 f0;obtain⟨s1,e1,z1,_⟩:=DataW.trod_string Tryz.underlying9 f1;obtain⟨s2,e2,z2,_⟩:=DataW.trod_string Tryz.underlying9 f2;obtain⟨i3,e3,z3,v3⟩:=DataW.trod_int Tryz.underlying3 f3;obtain⟨i4,e4,z4,v4⟩:=DataW.trod_int Tryz.underlying3 f4;obtain⟨A,c,l,e5,_,_,hS,z5⟩:=zJF f5;obtain⟨i6,e6,z6,v6⟩:=DataW.trod_int Tryz.underlying3 f6;obtain⟨i7,e7,z7,v7⟩:=DataW.trod_int Tryz.underlying3 f7
 simp at e0 e1 e2 e3 e4 e5 e6 e7
 subst e0 e1 e2 e3 e4 e5 e6 e7;refine⟨⟨⟨i0,s1,s2,i3,i4,l,i6,i7⟩,A,c⟩,rfl,hS,⟨y5.1,?_,z5⟩,wf_64 v3,wf_64 v4⟩;simp [z0,z1,z2,z3,z4,z6,z7]
theorem open_ops {H:Type} {enc:TypeId×Value→H} {W:World} {fuel:Nat} {cs:List Value} {x:DataW H×List MemPlace} (hf:DataW.trod enc Tryz.prog W 0 (fun _=>true) true fuel 22 cs=some x) :
 ∃ (A:Option Addr) (c:Nat) (l:List Os),cs=[.slice A l.length c]∧ScrAt W W.heap.size A l∧(∀ y∈l,osWf y)∧((x.1=.nil∧l=[])∨∃ es sp,x.1=.slice es sp∧es.length=l.length∧∀ i (hi:i<l.length) (fF:i<es.length),zIb l[i] es[i]):=by
 rcases Deep.open_slice Tryz.underlying22 hf with ⟨hcs,hx⟩ | ⟨a,len,cap,m,k,D,Pl,hcs,_,hl,hm,hmm,hx,fD⟩
 · subst hx;exact⟨none,0,[],hcs,⟨fun h=>absurd h (by simp),fun x hx=>absurd hx (by simp)⟩,fun y hy=>absurd hy (by simp),.inl ⟨rfl,rfl⟩⟩
 · subst hx;simp only [if_true] at hmm;subst hmm;rw [cellsOp] at fD
   have fC:∀ i,i<len→∃ nd:Os,W.cells? 0 (a.add (i * 8)) 8=some (osC nd)∧Sees W W.heap.size 1 nd.dA nd.o.data.length (bvs nd.o.data)∧zIb nd (D i)∧osWf nd:=fun i hi=>by
    obtain⟨cs',h1,h2⟩:=fD i (by omega);obtain⟨nd,rfl,h3,h4,h5⟩:=open_op h2;exact⟨nd,h1,h3,h4,h5⟩
   have:Inhabited Os:=⟨⟨⟨0,ByteArray.empty,ByteArray.empty,0,0,[],0,0⟩,none,0⟩⟩;obtain⟨f,fA⟩:=Deep.choose_lt fC;refine⟨some a,_,(List.range len).map f,by simpa using hcs,⟨fun hn=>?_,fun x hx=>?_⟩,fun y hy=>?_,.inr ⟨_,_,rfl,by simp,fun i hi fF=>?_⟩⟩
   · rw [List.length_map,List.length_range] at hn;obtain⟨h1,_,_,_⟩:=fA 0 hn;obtain⟨_,_,h2⟩:=World.cells?_some h1;have h3:=h2 0 (by show 0<8;omega);simp only [Nat.zero_mul] at h3;obtain⟨b,off,spot⟩:=a
     have fE:W.cell? ⟨b,off,spot⟩=some (.int .i64 (f 0).o.kind):=by simpa [Addr.add,osC] using h3
     have fB:spot=none:=by simpa using World.cell?_spot fE
     subst fB;refine⟨b,off,rfl,World.block_lt_of_cell? W _ fE,fun i hi=>?_⟩;rw [List.length_map,List.length_range] at hi;obtain⟨g1,_,_,_⟩:=fA i hi;obtain⟨_,_,g2⟩:=World.cells?_some g1
     have go:∀ k,W.cell? (((⟨b,off,none⟩:Addr).add (i * 8)).add k)=W.cell? ⟨b,off+i * 8+k,none⟩:=fun k=>by rw [Addr.add_lit,Addr.add_lit]
     have c0:=g2 0 (by show 0<8;omega);have c1:=g2 1 (by show 1<8;omega);have c2:=g2 2 (by show 2<8;omega);have c3:=g2 3 (by show 3<8;omega);have c4:=g2 4 (by show 4<8;omega);have c5:=g2 5 (by show 5<8;omega);have c6:=g2 6 (by show 6<8;omega);have c7:=g2 7 (by show 7<8;omega);rw [go] at c0 c1 c2 c3 c4 c5 c6 c7;simp only [List.getElem_map,List.getElem_range];exact⟨c0,c1,c2,c3,c4,c5,c6,c7⟩
   · obtain⟨i,hi,rfl⟩:=List.mem_map.1 hx;exact (fA i (List.mem_range.1 hi)).2.1
   · obtain⟨i,hi,rfl⟩:=List.mem_map.1 hy;exact (fA i (List.mem_range.1 hi)).2.2.2
   · simp only [List.getElem_map,List.getElem_range];rw [List.length_map,List.length_range] at hi;exact (fA i hi).2.2.1
theorem ops_big {H:Type} {l:List Os} {d:DataW H} (h:(d=.nil∧l=[])∨∃ es sp,d=.slice es sp∧es.length=l.length∧∀ i (hi:i<l.length) (fF:i<es.length),zIb l[i] es[i])
 (hw:∀ x∈d.weights Tryz.prog 22,x≤140737488351232) :
 l.length≤281474976710656∧∀ x∈l,x.o.path.size≤140737488351232∧x.o.dst.size≤140737488351232∧x.o.data.length≤140737488351232:=by
 rcases h with ⟨_,rfl⟩ | ⟨es,sp,rfl,hl,hn⟩
 · exact⟨by simp,fun x hx=>absurd hx (by simp)⟩
 · have fB:∀ x∈DataW.weightsAll Tryz.prog 70 es,x≤140737488351232:=fun x hx=>hw x (by simp only [DataW.weights,Tryz.underlying22,List.mem_cons,List.mem_append];exact .inr (.inl hx));have fC:=hw ((es.length+sp.length) * Tryz.prog.bytesOf 70) (by simp only [DataW.weights,Tryz.underlying22,List.mem_cons];exact .inl trivial);rw [bytesOp] at fC;refine⟨by omega,fun x hx=>?_⟩;obtain⟨i,hi,rfl⟩:=List.getElem_of_mem hx;obtain⟨dd,e,fD⟩:=hn i hi (by omega);have fE:es[i]'(by omega)∈es:=List.getElem_mem _;have fA:∀ x∈(es[i]'(by omega)).weights Tryz.prog 70,x≤140737488351232:=fun x hx=>fB x (zE9 Tryz.prog _ es _ fE x hx);rw [e] at fA
   have hW:∀ z,(z=l[i].o.path.data.toList.length∨z=l[i].o.dst.data.toList.length∨z∈dd.weights Tryz.prog 64)→z≤140737488351232:=fun z hz=>fA z (by
    simp only [DataW.weights,Tryz.underlying70,DataW.weightsEach,List.map_cons,List.map_nil,List.mem_append,List.mem_cons,List.not_mem_nil,or_false,false_or];rcases hz with h | h | h
    · exact .inl h
    · exact .inr (.inl h)
    · exact .inr (.inr h))
   have p1:=hW _ (.inl rfl);have p2:=hW _ (.inr (.inl rfl));rw [Array.length_toList] at p1 p2;refine⟨p1,p2,?_⟩;rcases fD with ⟨_,h0⟩ | ⟨es',sp',rfl,h0⟩
   · rw [h0];simp
   · have:=hW ((es'.length+sp'.length) * Tryz.prog.bytesOf 5) (.inr (.inr (by simp only [DataW.weights,Tryz.underlying64,List.mem_cons];exact .inl trivial)));rw [bytesU8] at this;omega
end Go.Proofs.YtolpcfhfcdkokaaGreatDoor
