/- Joined out of RSet..QInv. -/
import Derived.Test.YtolpcfhfcdkokaaGreatDoorQ19
import Derived.Test.YtolpcfhfcdkokaaGreatDoorQ20
set_option maxHeartbeats 16000000
set_option maxRecDepth 100000
namespace Go.Proofs.YtolpcfhfcdkokaaGreatDoor
open Lib (hid)
open Go.RowKit
def setH (x:Hd) (k:Nat) (o:Slt) (iA:Option Addr) (ic:Nat) (dA:Option Addr) (dc:Nat):Hd :=
 {x with iA:=iA,ic:=ic,dA:=dA,dc:=dc,idx:=(zBg kB (k,zFo o) false (x.idx.zip x.dat)).map (·.1),dat:=(zBg kB (k,zFo o) false (x.idx.zip x.dat)).map (·.2),size:=if x.size<128 * ((k:Int)+1) then 128 * ((k:Int)+1) else x.size}
theorem Sees.chgR {w w1:World} {B size n:Nat} {A:Option Addr} {xs:List Value} {S:Nat→Prop} (h:Sees w B size A n xs) (hs:0<size) (hc:Chg S w w1) (hn:∀ b off,A=some ⟨b,off,none⟩→0<n→¬S b):Sees w1 B size A n xs:=by
 refine⟨h.len,fun h0=>?_⟩;obtain⟨b,off,e,hb,fA⟩:=h.at_ h0
 have hl:0<xs.length:=by rw [h.len];exact Nat.mul_pos h0 hs
 have fB:b<w.heap.size:=World.block_lt_of_cell? _ _ (fA 0 _ (List.getElem?_eq_getElem hl));exact⟨b,off,e,hb,fun j u hu=>(hc.cell (p:=⟨b,off+j,none⟩) fB (hn b off e h0)).trans (fA j u hu)⟩
theorem set_any (B:Nat) (x:Hd) (k:Nat) (o:Slt) (w:World) (hx:HdAt w B x) (hB:B≤w.heap.size) (ho:zGH o) (hl:x.idx.length≤1100) (hk:k≤1100) :
 Calls Tryz.prog 117 #[hdV x,.int .i64 k,zGn o] w fun e w'=>(∃ iA ic dA dc,e=.returned (hdV (setH x k o iA ic dA dc))∧HdAt w' w'.heap.size (setH x k o iA ic dA dc)∧zFO w.heap.size iA∧zFO w.heap.size dA)∧Below w.heap.size w w':=by
 unfold hdV zGn;go_enter Tryz.func117,Tryz.ntmps117;go_upto_region 1 with (fail);have fP:Below w.heap.size w (((w.alloc (.cells (zAb x).toArray 123)).alloc (.cells #[.int .i64 (zB3 o),.string (zCh o)] 179)).alloc (.cells z8.toArray 123)):=(((Below.refl _ _).alloc (Nat.le_refl _) _).alloc (by simp) _).alloc (by simp;omega) _;have fL:=((Blk.new w 123 (zAb x)).alloc (.cells #[.int .i64 (zB3 o),.string (zCh o)] 179)).alloc (.cells z8.toArray 123)
 have gC:Blk (((w.alloc (.cells (zAb x).toArray 123)).alloc (.cells #[.int .i64 (zB3 o),.string (zCh o)] 179)).alloc (.cells z8.toArray 123)) (w.heap.size+1) 179 [.int .i64 (zB3 o),.string (zCh o)]:=by
  have:=(Blk.new (w.alloc (.cells (zAb x).toArray 123)) 179 [.int .i64 (zB3 o),.string (zCh o)]).alloc (.cells z8.toArray 123);simpa using this
 have gD:Blk (((w.alloc (.cells (zAb x).toArray 123)).alloc (.cells #[.int .i64 (zB3 o),.string (zCh o)] 179)).alloc (.cells z8.toArray 123)) (w.heap.size+2) 123 z8:=by
  have:=Blk.new ((w.alloc (.cells (zAb x).toArray 123)).alloc (.cells #[.int .i64 (zB3 o),.string (zCh o)] 179)) 123 z8;simpa using this
 have gE:=(hx.more hB).below fP;generalize ((w.alloc (.cells (zAb x).toArray 123)).alloc (.cells #[.int .i64 (zB3 o),.string (zCh o)] 179)).alloc (.cells #[.int .i64 0,.int .i64 0,.int .i64 0,.int .i64 0,.int .i64 0,.int .i64 0,.slice none 0 0,.slice none 0 0] 123)=w0 at *;generalize hg:w.heap.size=g at *;have fQ:=hid hg;clear hg hx
 go_wp2_with (first
  | (refine wpList_load_row rfl 179 (.tmp 5) rfl (g+1) rfl 179 _ _ _ gC rfl rfl rfl ?_))
 refine (zE7 o w0 ho).mono ?_;rintro e w1 ⟨rfl,fI⟩;have fM:=zEN o ho;have gF:=fL.fresh fI;have fR:=gD.fresh fI;have gG:=gE.below (fI.mono (by have:=fL.lt;omega));have gH:=fP.trans (fI.mono (by have:=fL.lt;omega));clear fL gD gC fP fI gE;have fS:Blk (w1.alloc (.cells Tryz.zeroCells187 187)) w1.heap.size 187 (bvs zBN):=zBh rfl;unfold zB8;generalize hs:zFo o=s at *;have fT:=hid hs;clear hs
 go_upto_region 2 with (first
  | (refine wpList_store_row rfl 187 (.tmp 7) (.tmp 13) rfl w1.heap.size (bvs s).toArray rfl (by rfl) 187 _ fS (zAE fM) (by rw [List.size_toArray,List.size_toArray,zAe,zAe,zAt,fM]) (zBc s) ?_))
 have hC:Chg (fun b=>w1.heap.size≤b) w1 ((w1.alloc (.cells Tryz.zeroCells187 187)).setRow w1.heap.size (bvs s).toArray):=((Chg.refl _ w1).alloc _).setRow (fun _=>Nat.le_refl _) _;have gI:=fR.lt;have gJ:=gF.chg hC (by omega);have fF:=fR.chg hC (by omega)
 have fB:Below g w1 _:=hC.below (by omega) fun b hb h=>by omega
 have gK:=gG.below fB;have gL:=gH.trans fB;have gM:Blk ((w1.alloc (.cells Tryz.zeroCells187 187)).setRow w1.heap.size (bvs s).toArray) w1.heap.size 187 (bvs s):=setRow_heap _ w1.heap.size _ _ _ _ fS;clear hC gF fR gG gH fS fB;generalize (w1.alloc (.cells Tryz.zeroCells187 187)).setRow w1.heap.size (bvs s).toArray=w2 at *;generalize w1.heap.size=z at *
 go_wp2_with (first
  | (refine wpList_load_row rfl 123 (.tmp 3) rfl g rfl 123 (zAb x).toArray _ _ gJ Tryz.underlying123 rfl rfl ?_)
  | (refine wpList_load_row rfl 187 (.tmp 7) rfl z rfl 187 (bvs s).toArray _ _ gM Tryz.underlying187 rfl (zAE fM) ?_))
 refine (zId g x k s w2 gK (by have:=fF.lt;omega) fM hl).mono ?_;rintro e w3 ⟨⟨iA,ic,dA,dc,rfl,fU,gN,gO⟩,fV⟩;have gP:Hid (∀ a,iA=some a→g+2<a.block):=hid fun a e=>Nat.lt_of_lt_of_le fF.lt (gN a e);have gQ:Hid (∀ a,dA=some a→g+2<a.block):=hid fun a e=>Nat.lt_of_lt_of_le fF.lt (gO a e);clear gN gO;have fW:=fF.fresh fV;have gR:=gL.trans (fV.mono (by have:=fF.lt;omega));clear gJ gM gK gL fV fF;obtain⟨y,hy⟩:∃ y:Hd,({x with iA:=iA,ic:=ic,dA:=dA,dc:=dc,idx:=(zBg kB (k,s) false (x.idx.zip x.dat)).map (·.1),dat:=(zBg kB (k,s) false (x.idx.zip x.dat)).map (·.2)}:Hd)=y:=⟨_,rfl⟩;have fN:=hid hy;rw [hy] at fU ⊢;clear hy;have fX:=Blk.new w3 123 z8;unfold hdV
 go_upto_region 3 with (first
  | (refine wpList_store_row rfl 123 (.tmp 9) (.tmp 18) rfl w3.heap.size (zAb y).toArray rfl (by rfl) 123 _ fX rfl rfl (zHl y) ?_))
 have hC:Chg (fun b=>w3.heap.size≤b) w3 ((w3.alloc (.cells z8.toArray 123)).setRow w3.heap.size (zAb y).toArray):=((Chg.refl _ w3).alloc _).setRow (fun _=>Nat.le_refl _) _;have gI:=fW.lt;have fY:=fW.chg hC (by omega)
 have fB:Below w3.heap.size w3 _:=hC.below (Nat.le_refl _) fun b hb h=>by omega
 have gS:=fU.below fB;have gT:=gR.trans (fB.mono (by omega));have fG:Blk ((w3.alloc (.cells z8.toArray 123)).setRow w3.heap.size (zAb y).toArray) w3.heap.size 123 (zAb y):=setRow_heap _ w3.heap.size _ _ _ _ fX;clear hC fW fU gR fX fB;generalize (w3.alloc (.cells #[.int .i64 0,.int .i64 0,.int .i64 0,.int .i64 0,.int .i64 0,.int .i64 0,.slice none 0 0,.slice none 0 0] 123)).setRow w3.heap.size (zAb y).toArray=w4 at *;generalize w3.heap.size=u at *;have y3:w4.cell? ⟨u,3,none⟩=some (.int .i64 y.size):=fG.cell 3;have q3:=fG.frozen 3
 have gW:g+2<u:=by have:=fY.lt;have:=gI;omega
 have gU:y.size=x.size:=by rw [←fN.out]
 have fC:=hid fY;have fZ:=hid gT;have gA:=hid gS;have fJ:=hid gU;clear fY gT gS gU
 have key:∀ (z:Hd) (w5:World),Blk w5 u 123 (zAb z)→Chg (fun b=>b=u) w4 w5→z=setH x k o iA ic dA dc→(∃ iA ic dA dc,Ending.returned (.agg (zAb z).toArray)=.returned (.agg (zAb (setH x k o iA ic dA dc)).toArray)∧HdAt (w5.setRow (g+2) (zAb z).toArray) (w5.setRow (g+2) (zAb z).toArray).heap.size (setH x k o iA ic dA dc)∧zFO w.heap.size iA∧zFO w.heap.size dA)∧Below w.heap.size w (w5.setRow (g+2) (zAb z).toArray):=by
  intro z w5 hz hc e;have fO:Chg (fun b=>b=u∨b=g+2) w4 (w5.setRow (g+2) (zAb z).toArray):=(hc.mono (U:=fun b=>b=u∨b=g+2) fun b _ h=>.inl h).setRow (g:=g+2) (fun _=>.inr rfl) _;refine⟨⟨iA,ic,dA,dc,by rw [e],?_,fun a e=>by have:=gP.out a e;have:=fQ.out;omega,fun a e=>by have:=gQ.out a e;have:=fQ.out;omega⟩,?_⟩
  · have h1:HdAt w4 u (setH x k o iA ic dA dc):=by
     have h9:=gA.out;rw [←fN.out,←fT.out] at h9;exact⟨h9.len,h9.sec,h9.idx,h9.dat⟩
    have h2:HdAt (w5.setRow (g+2) (zAb z).toArray) u (setH x k o iA ic dA dc):=⟨h1.len,h1.sec,h1.idx.chgR (by decide) fO (fun b off e hn hb=>?_),h1.dat.chgR (by decide) fO (fun b off e hn hb=>?_)⟩
    · exact h2.more (by have:=fO.size;have:=hz.lt;have:=hc.size;simp;omega)
    · obtain⟨b',off',e',gV,_⟩:=h1.idx.at_ hn;rw [e] at e';injection e' with e';injection e' with e1 _ _;have:=gP.out _ e;simp only at this;omega
    · obtain⟨b',off',e',gV,_⟩:=h1.dat.at_ hn;rw [e] at e';injection e' with e';injection e' with e1 _ _;have:=gQ.out _ e;simp only at this;omega
  · rw [fQ.out];exact fZ.out.trans (fO.below (by have:=fC.out.lt;omega) fun b hb h=>by omega)
 have fA:=hid key;clear key;by_cases fH:x.size<128 * ((k:Int)+1)
 · have t1:decide (x.size<128 * ((k:Int)+1))=true:=by simpa using fH
   have hq:Blk (w4.setCell ⟨u,3,none⟩ (.int .i64 (128 * ((k:Int)+1)))) u 123 (zAb {y with size:=128 * ((k:Int)+1)}):=fG.set_ 3 _;have gB:Chg (fun b=>b=u) w4 (w4.setCell ⟨u,3,none⟩ (.int .i64 (128 * ((k:Int)+1)))):=(Chg.refl (fun b=>b=u) w4).setCell (p:=⟨u,3,none⟩) (fun _=>rfl) _;have fK:Blk (w4.setCell ⟨u,3,none⟩ (.int .i64 (128 * ((k:Int)+1)))) (g+2) 123 z8:=fC.out.chg gB (by omega);have fD:=hid (fA.out _ _ hq gB (by rw [←fN.out,←fT.out];unfold setH;rw [if_pos fH]));have fE:=setRow_heap (w4.setCell ⟨u,3,none⟩ (.int .i64 (128 * ((k:Int)+1)))) (g+2) _ (zAb {y with size:=128 * ((k:Int)+1)}).toArray _ _ fK;rw [fJ.out] at y3;clear fH gB fA fG;generalize hz:({y with size:=128 * ((k:Int)+1)}:Hd)=z at *;clear hz
   go_wp2_with (first
    | (refine wpList_load_row rfl 123 (.tmp 9) rfl u rfl 123 (zAb z).toArray _ _ hq Tryz.underlying123 rfl rfl ?_)
    | (refine wpList_store_row rfl 123 (.tmp 6) (.tmp 29) rfl (g+2) (zAb z).toArray rfl (by rfl) 123 _ fK rfl rfl (zHl z) ?_))
   refine bodyPost_ret (results_cell_row rfl _ _ (g+2) 123 (zAb z).toArray (0,0) _ rfl fE Tryz.underlying123 rfl rfl) rfl ?_;exact fD.out
 · have t1:decide (x.size<128 * ((k:Int)+1))=false:=by simpa using fH
   have fK:Blk w4 (g+2) 123 z8:=fC.out;have fD:=hid (fA.out _ _ fG (Chg.refl _ w4) (by rw [←fN.out,←fT.out];unfold setH;rw [if_neg fH]));have fE:=setRow_heap w4 (g+2) _ (zAb y).toArray _ _ fK;rw [fJ.out] at y3;clear fH fA
   go_wp2_with (first
    | (refine wpList_load_row rfl 123 (.tmp 9) rfl u rfl 123 (zAb y).toArray _ _ fG Tryz.underlying123 rfl rfl ?_)
    | (refine wpList_store_row rfl 123 (.tmp 6) (.tmp 29) rfl (g+2) (zAb y).toArray rfl (by rfl) 123 _ fK rfl rfl (zHl y) ?_))
   refine bodyPost_ret (results_cell_row rfl _ _ (g+2) 123 (zAb y).toArray (0,0) _ rfl fE Tryz.underlying123 rfl rfl) rfl ?_;exact fD.out
section
variable {α β:Type} [DecidableEq α]
def zGo (f:β→Nat) (l:List (α×β)):Nat:=(l.map fun p=>f p.2).sum
def atV (f:β→Nat) (a:α) (l:List (α×β)):Nat:=match zAd a l with | some v=>f v | none=>0
theorem delS_cons (a:α) (y:α×β) (r:List (α×β)):zBE a (y::r)=if y.1=a then zBE a r else y::zBE a r:=by
 unfold zBE;by_cases h:y.1=a<;>simp [h]
theorem zCz (f:β→Nat) (y:α×β) (r:List (α×β)):zGo f (y::r)=f y.2+zGo f r:=have _:=(inferInstance:DecidableEq α);rfl
theorem zH8 (K:KE α) (f:β→Nat) (x:α×β):∀ l:List (α×β),zGo f (zCn K x l)=f x.2+zGo f l
 | []=>rfl
 | y::r=>by
  unfold zCn
  split
  · rfl
  · rw [zCz,zH8 K f x r,zCz];omega
theorem atV_cons (f:β→Nat) (a:α) (y:α×β) (r:List (α×β)):atV f a (y::r)=if y.1=a then f y.2 else atV f a r:=by
 unfold atV;rw [zAd];by_cases h:y.1=a<;>simp [h]
theorem zEr {f:β→Nat} {a:α} {l:List (α×β)} (h:zAd a l=none):atV f a l=0:=by unfold atV;rw [h]
theorem zCF {f:β→Nat} {a:α} {v:β} {l:List (α×β)} (h:zAd a l=some v):atV f a l=f v:=by unfold atV;rw [h]
theorem zDc (f:β→Nat) (a:α):∀ {l:List (α×β)},(l.Pairwise fun p q=>p.1≠q.1)→zGo f (zBE a l)+atV f a l=zGo f l
 | [],_=>rfl
 | y::r,h=>by
  obtain⟨h1,h2⟩:=List.pairwise_cons.1 h;have ih:=zDc f a h2;rw [delS_cons,atV_cons,zCz];by_cases e:y.1=a
  · rw [if_pos e,if_pos e];have hn:zAd a r=none:=zA9.2 fun p hp e'=>h1 p hp (by rw [e,e']);rw [zEr hn] at ih;omega
  · rw [if_neg e,if_neg e,zCz];omega
theorem zDD (K:KE α) (f:β→Nat) (a:α) (v:β) {l:List (α×β)} (h:zBs K l):zGo f (zBa K a v l)+atV f a l=f v+zGo f l:=by
 unfold zBa;rw [zH8];have:=zDc f a h.nd
 show f v+zGo f (zBE a l)+atV f a l=_
 omega
theorem zF3 {f:β→Nat} {p:α×β}:∀ {l:List (α×β)},p∈l→f p.2≤zGo f l
 | y::r,h=>by
  rw [zCz];rcases List.mem_cons.1 h with rfl | h
  · omega
  · have:=zF3 (f:=f) h;omega
theorem zHa {f:β→Nat}:∀ {l:List (α×β)},zGo f l=0→∀ p∈l,f p.2=0:=fun h p hp=>by have:=zF3 (f:=f) hp;omega
theorem zG2 {f:β→Nat}:∀ {l:List (α×β)},(∀ p∈l,f p.2=0)→zGo f l=0
 | [],_=>rfl
 | y::r,h=>by rw [zCz,h y List.mem_cons_self,zG2 fun p hp=>h p (List.mem_cons_of_mem _ hp)]
theorem zJc {f:β→Nat} {l:List (α×β)} (h:zGo f l≠0):∃ p∈l,f p.2≠0:=by
 by_cases hx:∃ p∈l,f p.2≠0
 · exact hx
 · exact absurd (zG2 fun p hp=>by by_cases e:f p.2=0;exact e;exact absurd ⟨p,hp,e⟩ hx) h
theorem zIh {f:β→Nat} {l:List (α×β)} (hn:l.Pairwise fun p q=>p.1≠q.1) {p q:α×β} (hp:p∈l) (hq:q∈l) (h:p.1≠q.1):f p.2+f q.2≤zGo f l:=by
 have h1:=zDc f p.1 hn;have h2:=zCF (f:=f) (zA0 hn hp);have h3:=zF3 (f:=f) (zBL.2 ⟨hq,fun e=>h e.symm⟩);omega
end
def zEh (j v:Nat):Nat:=if v=j then 1 else 0
def PN.refs (n:PN) (j:Nat):Nat:=zGo (zEh j) n.names
def PT.refs (T:PT) (j:Nat):Nat:=zGo (fun n:PN=>n.refs j) T.nodes
theorem PT.refs_upd {T:PT} (hr:zBs zAG T.nodes) {i:Nat} {n n':PN} (h:zAd i T.nodes=some n) (j:Nat):(T.upd i n').refs j+n.refs j=n'.refs j+T.refs j:=by
 have:=zDD zAG (fun n:PN=>n.refs j) i n' hr;rw [zCF h] at this;exact this
theorem PT.used_upd {T:PT} (hr:zBs zAG T.nodes) {i:Nat} {n n':PN} (h:zAd i T.nodes=some n):(T.upd i n').used+n.count=n'.count+T.used:=by
 have:=zDD zAG PN.count i n' hr;rw [zCF h] at this;exact this
theorem PT.refs_new {T:PT} (hr:zBs zAG T.nodes) {i:Nat} {n':PN} (h:zAd i T.nodes=none) (j:Nat):(T.upd i n').refs j=n'.refs j+T.refs j:=by
 have:=zDD zAG (fun n:PN=>n.refs j) i n' hr;rw [zEr h] at this;exact this
theorem PT.used_new {T:PT} (hr:zBs zAG T.nodes) {i:Nat} {n':PN} (h:zAd i T.nodes=none):(T.upd i n').used=n'.count+T.used:=by
 have:=zDD zAG PN.count i n' hr;rw [zEr h] at this;exact this
theorem PT.refs_del {T:PT} (hr:zBs zAG T.nodes) {i:Nat} {n:PN} (h:zAd i T.nodes=some n) (j:Nat):(T.del i).refs j+n.refs j=T.refs j:=by
 have:=zDc (fun n:PN=>n.refs j) i hr.nd;rw [zCF h] at this;exact this
theorem PT.used_del {T:PT} (hr:zBs zAG T.nodes) {i:Nat} {n:PN} (h:zAd i T.nodes=some n):(T.del i).used+n.count=T.used:=by
 have:=zDc PN.count i hr.nd;rw [zCF h] at this;exact this
theorem PN.refs_set {n:PN} (hr:zBs zA6 n.names) (k:Nat) (nm:ByteArray) (i j:Nat):(n.set k nm i).refs j+atV (zEh j) nm n.names=zEh j i+n.refs j :=
 zDD zA6 (zEh j) nm i hr
theorem PN.refs_clear {n:PN} (hr:zBs zA6 n.names) {nm:ByteArray} {i:Nat} (h:zAd nm n.names=some i) (j:Nat):(n.clear nm).refs j+zEh j i=n.refs j:=by
 have:=zDc (zEh j) nm hr.nd;rw [zCF h] at this;exact this
theorem PN.refs_nil {n:PN} (h:n.names=[]) (j:Nat):n.refs j=0:=by unfold PN.refs;rw [h];rfl
theorem PN.refs_pos {n:PN} (hr:zBs zA6 n.names) {j:Nat}:n.refs j≠0↔∃ nm,zAd nm n.names=some j:=by
 constructor
 · intro h;obtain⟨p,hp,h1⟩:=zJc h;refine⟨p.1,?_⟩;rw [zA0 hr.nd hp];unfold zEh at h1;by_cases e:p.2=j
   · rw [e]
   · rw [if_neg e] at h1;exact absurd rfl h1
 · rintro ⟨nm,h⟩ h0;have:=zHa h0 _ (zAi h);simp [zEh] at this
theorem PT.refs_pos {T:PT} (hT:T.Ok) {j:Nat}:T.refs j≠0↔∃ i n nm,zAd i T.nodes=some n∧zAd nm n.names=some j:=by
 constructor
 · intro h;obtain⟨p,hp,h1⟩:=zJc h;obtain⟨nm,h2⟩:=(PN.refs_pos (hT.node p hp).1.nris).1 h1;exact⟨p.1,p.2,nm,zA0 hT.ris.nd hp,h2⟩
 · rintro ⟨i,n,nm,h1,h2⟩ h0;have:=zHa h0 _ (zAi h1);exact (PN.refs_pos (hT.get h1).1.nris).2 ⟨nm,h2⟩ this
theorem PT.refs_one {T:PT} (hT:T.Ok) {j:Nat} (h1:T.refs j≤1) {i i':Nat} {n n':PN} {nm nm':ByteArray} (ha:zAd i T.nodes=some n) (hb:zAd nm n.names=some j) (fA:zAd i' T.nodes=some n') (fB:zAd nm' n'.names=some j):i=i'∧nm=nm':=by
 have hp:1≤n.refs j:=Nat.one_le_iff_ne_zero.2 ((PN.refs_pos (hT.get ha).1.nris).2 ⟨_,hb⟩);have fC:1≤n'.refs j:=Nat.one_le_iff_ne_zero.2 ((PN.refs_pos (hT.get fA).1.nris).2 ⟨_,fB⟩)
 have hi:i=i':=by
  by_cases e:i=i'
  · exact e
  · have:=zIh (f:=fun n:PN=>n.refs j) hT.ris.nd (zAi ha) (zAi fA) e;have h2:T.refs j=zGo (fun n:PN=>n.refs j) T.nodes:=rfl;simp only at this;omega
 subst hi;have hn:n=n':=Option.some.inj (ha.symm.trans fA);subst hn;refine⟨rfl,?_⟩;by_cases e:nm=nm'
 · exact e
 · have:=zIh (f:=zEh j) (hT.get ha).1.nris.nd (zAi hb) (zAi fB) e;have h3:n.refs j≤T.refs j:=zF3 (f:=fun n:PN=>n.refs j) (zAi ha);have h4:n.refs j=zGo (zEh j) n.names:=rfl
   simp [zEh] at this
   omega
def chk (x:ByteArray):Bool:=decide (0<x.size∧x.size≤40∧x.data.toList≠[46]∧x.data.toList≠[46,46]∧∀ b∈x.data.toList,b≠0∧b≠47)
theorem zBp {x:ByteArray} (h:chk x=true):x≠emp:=by
 rintro rfl
 revert h
 decide
theorem zC5 {x:ByteArray} (h:chk x=true):x.size≤40:=by
 unfold chk at h;exact (of_decide_eq_true h).2.1
structure PT.Gr (T:PT):Prop where
 ok:T.Ok
 root:∃ n,zAd 1 T.nodes=some n∧n.dir=true
 ents:∀ i n nm j,zAd i T.nodes=some n→zAd nm n.names=some j→∃ m,zAd j T.nodes=some m
 slotn:∀ i n nm j,zAd i T.nodes=some n→zAd nm n.names=some j→∃ k,zAj nm n.slots=some k
 rank:∃ rk:Nat→Nat,T.Ranked rk
 names:∀ i n nm j,zAd i T.nodes=some n→zAd nm n.names=some j→chk nm=true
 root0:T.refs 1=0
def PT.Dev (T:PT) (e:Nat→Int):Prop:=∀ j n,zAd j T.nodes=some n→1≤n.links∧(n.dir=true→n.links=1)∧(j≠1→(T.refs j:Int)=n.links+e j)
def no:Nat→Int:=fun _=>0
def at1 (i:Nat) (v:Int):Nat→Int:=fun j=>if j=i then v else 0
structure PT.Inv (T:PT):Prop where
 gr:T.Gr
 dev:T.Dev no
 room:T.used+T.inodes+1≤T.sectors
theorem PT.Gr.nemp {T:PT} (h:T.Gr) (i:Nat) (n:PN) (hg:zAd i T.nodes=some n):zAd emp n.names=none:=by
 cases hc:zAd emp n.names with
 | none=>rfl
 | some j=>exact absurd rfl (zBp (h.names i n emp j hg hc))
theorem PT.Inv.wf {T:PT} (h:T.Inv):T.Wf:=⟨h.gr.ok,h.gr.root,h.gr.ents,h.gr.slotn,fun i n hg=>(h.dev i n hg).1,h.gr.nemp,h.gr.rank⟩
theorem zDy {T:PT} {i:Nat} {n n':PN} (h:zAd i T.nodes=some n) (hd:n'.dir=n.dir) (j:Nat):(T.upd i n').isDir j=T.isDir j:=by
 unfold PT.isDir;by_cases e:j=i
 · subst e;rw [zA8,h];exact hd
 · rw [zAm _ e]
theorem zBb {T:PT} {i j:Nat} {n' m:PN} (h:zAd j (T.upd i n').nodes=some m):(j=i∧m=n')∨(j≠i∧zAd j T.nodes=some m):=by
 by_cases e:j=i
 · subst e;rw [zA8] at h;exact .inl ⟨rfl,(Option.some.inj h).symm⟩
 · rw [zAm _ e] at h;exact .inr ⟨e,h⟩
theorem zCH {T:PT} {i j:Nat} {n' m:PN} (h:zAd j T.nodes=some m):∃ m',zAd j (T.upd i n').nodes=some m':=by
 by_cases e:j=i
 · subst e;exact⟨_,zA8 _ _⟩
 · exact⟨m,by rw [zAm _ e];exact h⟩
theorem PN.refs_names {n n':PN} (h:n'.names=n.names) (j:Nat):n'.refs j=n.refs j:=by unfold PN.refs;rw [h]
theorem zCp {T:PT} (hT:T.Ok) {i:Nat} {n n':PN} (h:zAd i T.nodes=some n) (hn:n'.names=n.names) (j:Nat):(T.upd i n').refs j=T.refs j:=by
 have:=PT.refs_upd hT.ris (n':=n') h j;rw [PN.refs_names hn] at this;omega
theorem PT.Gr.turn {T:PT} (h:T.Gr) {i:Nat} {n n':PN} (hg:zAd i T.nodes=some n) (hd:n'.dir=n.dir) (hn:n'.names=n.names) (hs:n'.slots=n.slots) (ho:n'.Ok):(T.upd i n').Gr:=by
 have back:∀ {j m},zAd j (T.upd i n').nodes=some m→∃ m0,zAd j T.nodes=some m0∧m.names=m0.names∧m.slots=m0.slots:=fun {j m} h1=>by
  rcases zBb h1 with ⟨rfl,rfl⟩ | ⟨_,h2⟩
  · exact⟨n,hg,hn,hs⟩
  · exact⟨m,h2,rfl,rfl⟩
 refine⟨h.ok.upd ho (h.ok.get hg).2,?_,fun j m nm k h1 h2=>?_,fun j m nm k h1 h2=>?_,?_,fun j m nm k h1 h2=>?_,by rw [zCp h.ok hg hn];exact h.root0⟩
 · obtain⟨m,h1,h2⟩:=h.root;by_cases e:1=i
   · subst e;refine⟨n',zA8 _ _,?_⟩;rw [hd,←h2,Option.some.inj (hg.symm.trans h1)]
   · exact⟨m,by rw [zAm _ e];exact h1,h2⟩
 · obtain⟨m0,h3,h4,_⟩:=back h1;rw [h4] at h2;obtain⟨x,hx⟩:=h.ents _ _ _ _ h3 h2;exact zCH hx
 · obtain⟨m0,h3,h4,h5⟩:=back h1;rw [h4] at h2;rw [h5];exact h.slotn _ _ _ _ h3 h2
 · obtain⟨rk,hr⟩:=h.rank;refine⟨rk,fun j m nm k h1 h2 h3=>?_⟩;obtain⟨m0,h4,h5,_⟩:=back h1;rw [h5] at h2;rw [zDy hg hd] at h3;exact hr _ _ _ _ h4 h2 h3
 · obtain⟨m0,h3,h4,_⟩:=back h1;rw [h4] at h2;exact h.names _ _ _ _ h3 h2
theorem PT.Dev.turn {T:PT} (hT:T.Ok) {e e':Nat→Int} (h:T.Dev e) {i:Nat} {n n':PN} (hg:zAd i T.nodes=some n) (hd:n'.dir=n.dir) (hn:n'.names=n.names) (hl:1≤n'.links) (fA:n.dir=true→n'.links=1)
 (he:i≠1→(n.links:Int)+e i=n'.links+e' i) (ho:∀ j,j≠i→e j=e' j):(T.upd i n').Dev e':=fun j m h1=>by
 rcases zBb h1 with ⟨rfl,rfl⟩ | ⟨h3,h2⟩
 · obtain⟨_,_,h6⟩:=h j n hg;refine⟨hl,fun h7=>fA (by rw [←hd];exact h7),fun h7=>?_⟩;rw [zCp hT hg hn,h6 h7];exact he h7
 · obtain⟨h4,h5,h6⟩:=h j m h2;refine⟨h4,h5,fun h7=>?_⟩;rw [zCp hT hg hn,h6 h7,ho j h3]
theorem PT.Inv.turn {T:PT} (h:T.Inv) {i:Nat} {n n':PN} (hg:zAd i T.nodes=some n) (hd:n'.dir=n.dir) (hn:n'.names=n.names) (hs:n'.slots=n.slots) (hl:n'.links=n.links) (ho:n'.Ok) (hr:n'.count+T.used+T.inodes+1≤T.sectors+n.count):(T.upd i n').Inv:=by
 refine⟨h.gr.turn hg hd hn hs ho,h.dev.turn h.gr.ok hg hd hn (by rw [hl];exact (h.dev i n hg).1) (fun h1=>by rw [hl];exact (h.dev i n hg).2.1 h1) (fun _=>by rw [hl]) (fun _ _=>rfl),?_⟩;have:=PT.used_upd h.gr.ok.ris (n':=n') hg
 show (T.upd i n').used+T.inodes+1≤T.sectors
 omega
theorem zEs {n:PN} {k j:Nat} {nm x:ByteArray} {v:Nat} (h:zAd x (n.set k nm j).names=some v):(x=nm∧v=j)∨(x≠nm∧zAd x n.names=some v):=by
 have h':zAd x (zBa zA6 nm j n.names)=some v:=h;by_cases e:x=nm
 · subst e;rw [zAu] at h';exact .inl ⟨rfl,(Option.some.inj h').symm⟩
 · rw [zAl zA6 j e] at h';exact .inr ⟨e,h'⟩
theorem zDZ {x:ByteArray}:∀ {l:List ByteArray} {k:Nat},k<l.length→∃ q,zAj x (l.set k x)=some q:=fun {l k} h=>zCX (List.mem_iff_getElem.2 ⟨k,by rw [List.length_set];exact h,by simp⟩)
theorem PN.Fit.slot {n:PN} {k j:Nat} {nm:ByteArray} (h:n.Fit k nm):∃ q,zAj nm (n.set k nm j).slots=some q:=by
 have fA:=h.le;unfold PN.set;simp only
 split
 · exact zCX (by simp)
 · exact zDZ (by omega)
theorem PT.Gr.set {T:PT} (h:T.Gr) {d:Nat} {n:PN} (hg:zAd d T.nodes=some n) (hd:n.dir=true) {k j:Nat} {nm:ByteArray} (hf:n.Fit k nm) (hc:chk nm=true) {m:PN} (hj:zAd j T.nodes=some m) (fB:j≠1) (ho:(n.set k nm j).Ok)
 (hr:∃ rk:Nat→Nat,T.Ranked rk∧(T.isDir j=true→rk d<rk j)):(T.upd d (n.set k nm j)).Gr:=by
 refine⟨h.ok.upd ho (h.ok.get hg).2,?_,fun i x nm' v h1 h2=>?_,fun i x nm' v h1 h2=>?_,?_,fun i x nm' v h1 h2=>?_,?_⟩
 · obtain⟨m,h1,h2⟩:=h.root;by_cases e:1=d
   · subst e;exact⟨_,zA8 _ _,hd⟩
   · exact⟨m,by rw [zAm _ e];exact h1,h2⟩
 · rcases zBb h1 with ⟨rfl,rfl⟩ | ⟨_,h3⟩
   · rcases zEs h2 with ⟨_,rfl⟩ | ⟨_,h4⟩
     · exact zCH hj
     · obtain⟨y,hy⟩:=h.ents _ _ _ _ hg h4;exact zCH hy
   · obtain⟨y,hy⟩:=h.ents _ _ _ _ h3 h2;exact zCH hy
 · rcases zBb h1 with ⟨rfl,rfl⟩ | ⟨_,h3⟩
   · rcases zEs h2 with ⟨rfl,_⟩ | ⟨h5,h4⟩
     · exact hf.slot
     · obtain⟨q,hq⟩:=h.slotn _ _ _ _ hg h4;exact⟨q,zC2 hf (fun e=>h5 e.symm) (zBp (h.names _ _ _ _ hg h4)) hq⟩
   · exact h.slotn _ _ _ _ h3 h2
 · obtain⟨rk,fA,fC⟩:=hr;refine⟨rk,fun i x nm' v h1 h2 h3=>?_⟩;rw [zDy (n':=n.set k nm j) hg rfl] at h3;rcases zBb h1 with ⟨rfl,rfl⟩ | ⟨_,h4⟩
   · rcases zEs h2 with ⟨_,rfl⟩ | ⟨_,h4⟩
     · exact fC h3
     · exact fA _ _ _ _ hg h4 h3
   · exact fA _ _ _ _ h4 h2 h3
 · rcases zBb h1 with ⟨rfl,rfl⟩ | ⟨_,h3⟩
   · rcases zEs h2 with ⟨rfl,_⟩ | ⟨_,h4⟩
     · exact hc
     · exact h.names _ _ _ _ hg h4
   · exact h.names _ _ _ _ h3 h2
 · have h1:=PT.refs_upd h.ok.ris (n':=n.set k nm j) hg 1;have h2:=PN.refs_set (h.ok.get hg).1.nris k nm j 1;have h3:=h.root0;have h4:zEh 1 j=0:=if_neg fB;omega
theorem refs_ins {T:PT} (h:T.Ok) {d:Nat} {n:PN} (hg:zAd d T.nodes=some n) (k:Nat) (nm:ByteArray) (i j:Nat):(T.upd d (n.set k nm i)).refs j+atV (zEh j) nm n.names=zEh j i+T.refs j:=by
 have h1:=PT.refs_upd h.ris (n':=n.set k nm i) hg j;have h2:=PN.refs_set (h.get hg).1.nris k nm i j;omega
theorem PT.Dev.set {T:PT} (hT:T.Ok) {e e':Nat→Int} (h:T.Dev e) {d:Nat} {n:PN} (hg:zAd d T.nodes=some n) (k:Nat) (nm:ByteArray) (i:Nat)
 (he:∀ j,e' j=e j+zEh j i-(atV (zEh j) nm n.names:Nat)):(T.upd d (n.set k nm i)).Dev e':=fun j m h1=>by
 have h9:=refs_ins hT hg k nm i j;have h8:=he j;rcases zBb h1 with ⟨rfl,rfl⟩ | ⟨h3,h2⟩
 · obtain⟨h4,h5,h6⟩:=h j n hg;refine⟨h4,h5,fun h7=>?_⟩;have:=h6 h7
   show _=(n.links:Int)+_
   omega
 · obtain⟨h4,h5,h6⟩:=h j m h2;refine⟨h4,h5,fun h7=>?_⟩;have:=h6 h7;omega
theorem zC6 {n:PN} {nm x:ByteArray} {v:Nat} (h:zAd x (n.clear nm).names=some v):x≠nm∧zAd x n.names=some v:=by
 have h':zAd x (zBE nm n.names)=some v:=h;by_cases e:x=nm
 · subst e;rw [zBI] at h';cases h'
 · rw [zAX e] at h';exact⟨e,h'⟩
theorem PT.Gr.clear {T:PT} (h:T.Gr) {d:Nat} {n:PN} (hg:zAd d T.nodes=some n) (hd:n.dir=true) {j:Nat} {nm:ByteArray} (hj:zAd nm n.names=some j):(T.upd d (n.clear nm)).Gr:=by
 obtain⟨k,hk⟩:=h.slotn _ _ _ _ hg hj;refine⟨h.ok.upd ((h.ok.get hg).1.clear nm) (h.ok.get hg).2,?_,fun i x nm' v h1 h2=>?_,fun i x nm' v h1 h2=>?_,?_,fun i x nm' v h1 h2=>?_,?_⟩
 · obtain⟨m,h1,h2⟩:=h.root;by_cases e:1=d
   · subst e;exact⟨_,zA8 _ _,hd⟩
   · exact⟨m,by rw [zAm _ e];exact h1,h2⟩
 · rcases zBb h1 with ⟨rfl,rfl⟩ | ⟨_,h3⟩
   · obtain⟨y,hy⟩:=h.ents _ _ _ _ hg (zC6 h2).2;exact zCH hy
   · obtain⟨y,hy⟩:=h.ents _ _ _ _ h3 h2;exact zCH hy
 · rcases zBb h1 with ⟨rfl,rfl⟩ | ⟨_,h3⟩
   · obtain⟨h5,h4⟩:=zC6 h2;obtain⟨q,hq⟩:=h.slotn _ _ _ _ hg h4;refine⟨q,?_⟩;unfold PN.clear;simp only [hk];refine zCS hq (fun e=>zBp (h.names _ _ _ _ hg h4) e.symm) fun e=>h5 ?_;rw [(zAV hk).2] at e;exact (Option.some.inj e).symm
   · exact h.slotn _ _ _ _ h3 h2
 · obtain⟨rk,hr⟩:=h.rank;refine⟨rk,fun i x nm' v h1 h2 h3=>?_⟩;rw [zDy (n':=n.clear nm) hg rfl] at h3;rcases zBb h1 with ⟨rfl,rfl⟩ | ⟨_,h4⟩
   · exact hr _ _ _ _ hg (zC6 h2).2 h3
   · exact hr _ _ _ _ h4 h2 h3
 · rcases zBb h1 with ⟨rfl,rfl⟩ | ⟨_,h3⟩
   · exact h.names _ _ _ _ hg (zC6 h2).2
   · exact h.names _ _ _ _ h3 h2
 · have h1:=PT.refs_upd h.ok.ris (n':=n.clear nm) hg 1;have h2:=PN.refs_clear (h.ok.get hg).1.nris hj 1;have h3:=h.root0;omega
theorem PT.Dev.clear {T:PT} (hT:T.Ok) {e e':Nat→Int} (h:T.Dev e) {d:Nat} {n:PN} (hg:zAd d T.nodes=some n) {nm:ByteArray} {i:Nat} (hi:zAd nm n.names=some i)
 (he:∀ j,e' j=e j-zEh j i):(T.upd d (n.clear nm)).Dev e':=fun j m h1=>by
 have h9:=PT.refs_upd hT.ris (n':=n.clear nm) hg j;have fA:=PN.refs_clear (hT.get hg).1.nris hi j;have h8:=he j;rcases zBb h1 with ⟨rfl,rfl⟩ | ⟨h3,h2⟩
 · obtain⟨h4,h5,h6⟩:=h j n hg;refine⟨h4,h5,fun h7=>?_⟩;have:=h6 h7
   show _=(n.links:Int)+_
   omega
 · obtain⟨h4,h5,h6⟩:=h j m h2;refine⟨h4,h5,fun h7=>?_⟩;have:=h6 h7;omega
theorem zEX (n:PN) (nm:ByteArray):(n.clear nm).count=n.count:=by
 unfold PN.count PN.keys PN.clear;simp only
 split
 · rw [List.length_set]
 · rfl
theorem zCa {T:PT} {i j:Nat} {m:PN} (h:zAd j (T.del i).nodes=some m):j≠i∧zAd j T.nodes=some m:=by
 have h':zAd j (zBE i T.nodes)=some m:=h;by_cases e:j=i
 · subst e;rw [zBI] at h';cases h'
 · rw [zAX e] at h';exact⟨e,h'⟩
theorem zGD {T:PT} {i j:Nat} (h:j≠i):zAd j (T.del i).nodes=zAd j T.nodes:=zAX h _
theorem PT.Gr.del {T:PT} (h:T.Gr) {i:Nat} {n:PN} (hg:zAd i T.nodes=some n) (h1:i≠1) (h0:T.refs i=0) (hn:n.names=[]):(T.del i).Gr:=by
 have hr:∀ j,(T.del i).refs j=T.refs j:=fun j=>by
  have:=PT.refs_del h.ok.ris hg j;rw [PN.refs_nil hn] at this;omega
 refine⟨h.ok.del i,?_,fun j x nm v ha hb=>?_,fun j x nm v ha hb=>h.slotn _ _ _ _ (zCa ha).2 hb,?_,fun j x nm v ha hb=>h.names _ _ _ _ (zCa ha).2 hb,by rw [hr];exact h.root0⟩
 · obtain⟨m,h2,h3⟩:=h.root;exact⟨m,by rw [zGD (fun e=>h1 e.symm)];exact h2,h3⟩
 · obtain⟨y,hy⟩:=h.ents _ _ _ _ (zCa ha).2 hb;refine⟨y,?_⟩;rw [zGD]
   · exact hy
   · rintro rfl;exact (PT.refs_pos h.ok).2 ⟨_,_,_,(zCa ha).2,hb⟩ h0
 · obtain⟨rk,hr⟩:=h.rank;refine⟨rk,fun j x nm v ha hb hc=>hr _ _ _ _ (zCa ha).2 hb ?_⟩;unfold PT.isDir at hc ⊢
   cases hv:zAd v (T.del i).nodes with
   | none=>rw [hv] at hc;cases hc
   | some m=>rw [(zCa hv).2];rw [hv] at hc;exact hc
theorem PT.Dev.del {T:PT} (hT:T.Ok) {e e':Nat→Int} (h:T.Dev e) {i:Nat} {n:PN} (hg:zAd i T.nodes=some n) (hn:n.names=[]) (he:∀ j,j≠i→e' j=e j):(T.del i).Dev e':=fun j m h1=>by
 obtain⟨h2,h3⟩:=zCa h1;obtain⟨h4,h5,h6⟩:=h j m h3;refine⟨h4,h5,fun h7=>?_⟩;have:=PT.refs_del hT.ris hg j;rw [PN.refs_nil hn] at this;have:=h6 h7;rw [he j h2];omega
theorem less_of {T:PT} {i:Nat} {n:PN} (hg:zAd i T.nodes=some n):T.less i=if n.links-1=0∨n.dir=true then T.del i else T.upd i {n with links:=n.links-1}:=by unfold PT.less;rw [hg]
theorem PN.Ok.lnk {n:PN} (h:n.Ok) {l:Nat} (hl:l≤100):({n with links:=l}:PN).Ok:=⟨h.keys,h.dlen,h.secs,h.slots,hl,h.size,h.made,h.nm,h.nlen,h.dd,h.df,h.nris,h.dris⟩
theorem PT.Gr.less {T:PT} {i:Nat} (h:T.Gr) (hv:T.Dev (at1 i (-1))) {n:PN} (hg:zAd i T.nodes=some n) (h1:i≠1) (hn:n.names=[]):(T.less i).Gr∧(T.less i).Dev no∧(T.less i).used≤T.used:=by
 obtain⟨l1,l2,l3⟩:=hv i n hg;have l4:=l3 h1;simp only [at1,if_true] at l4;rw [less_of hg]
 split
 · rename_i hc
   have h0:T.refs i=0:=by
    rcases hc with hc | hc
    · omega
    · have:=l2 hc;omega
   refine⟨h.del hg h1 h0 hn,hv.del h.ok hg hn fun j hj=>by simp [no,at1,hj],?_⟩;have:=PT.used_del h.ok.ris hg;omega
 · rename_i hc;have fA:n.links-1≠0:=fun e=>hc (.inl e);have fB:=(h.ok.get hg).1.links;refine⟨h.turn hg rfl rfl rfl ((h.ok.get hg).1.lnk (by omega)),hv.turn h.ok hg rfl rfl (by show 1≤n.links-1;omega) (fun e=>absurd (.inr e) hc) (fun _=>by simp only [at1,no,if_true];show _=((n.links-1:Nat):Int)+_;omega) (fun j hj=>by simp [at1,no,hj]),?_⟩;have:=PT.used_upd h.ok.ris (n':={n with links:=n.links-1}) hg;have e:({n with links:=n.links-1}:PN).count=n.count:=rfl;omega
end Go.Proofs.YtolpcfhfcdkokaaGreatDoor
