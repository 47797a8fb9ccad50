/- Joined out of PWalk..POps2. -/
import Derived.StillTailTactics
import Derived.Test.YtolpcfhfcdkokaaGreatDoorR03
set_option maxHeartbeats 16000000
set_option maxRecDepth 100000
set_option linter.unusedSimpArgs false
set_option linter.unusedVariables false
namespace Go.Proofs.YtolpcfhfcdkokaaGreatDoor
open Lib (hid)
open List renaming drop_eq_getElem_cons → Aa,length_nil → Ab,getLastD_eq_getLast? → Ac,length_dropLast → Ad,mem_cons_of_mem → Ae,map_cons → Af,length_set → Ag,range → Ah
open Proofs.Tryz renaming prog → Ai,underlying96 → Aj,underlying101 → Ak,underlying108 → Al
open Nat renaming zero_le → Am,add_sub_cancel → An,lt_of_lt_of_le → Ao,le_trans → Ap,le_refl → Aq,le_of_lt → Ar
open Option renaming isSome_none → As,isSome_some → At
open RowKit.Below renaming refl → Au
open PT renaming isDir → Av
open World.ownsRow renaming lt → Aw
open Chg renaming of_fresh → Ax,refl → Ay
open Option.some renaming inj → Az
open Value renaming ownBlock → AA
open Go renaming info_parts → AB,bodyPost_ret → AC
open Sees renaming of_own → AD
open Go.RowKit
open Go.Maps (Keyed)
theorem zDp (l:List ByteArray):(strs l).length=l.length:=by simp [strs]
theorem zCM (l:List ByteArray) (k:Nat) (h:k<l.length):(strs l)[k]? = some (.string l[k]):=by simp [strs,h]
def zIW (x:ByteArray) (l:List ByteArray):Int:=match zAh x l with | some k=>(k:Int) | none=>-1
theorem idxV_at {x:ByteArray} {l:List ByteArray} (k:Nat) (hk:k<l.length) (hx:l[k]=x) (h:∀ j (_:j<k) (h:j<l.length),l[j]≠x):zIW x l=k:=by
 unfold zIW;rw [zGc k h (by omega)];have e:l.drop k=l[k]::l.drop (k+1):=Aa hk;rw [e,zAh,if_pos hx];simp
theorem idxV_no {x:ByteArray} {l:List ByteArray} (h:∀ j (_:j<l.length) (h:j<l.length),l[j]≠x):zIW x l=-1:=by
 unfold zIW;rw [zBW.2 fun y hy=>by obtain⟨j,hj,rfl⟩:=List.getElem_of_mem hy;exact h j hj hj]
theorem zBx (B:Nat) (A:Option Addr) (c:Nat) (x:ByteArray) (l:List ByteArray) (w:World) (hs:Sees w B 1 A l.length (strs l)) (hl:l.length≤1000000) :
 Calls Ai 104 #[.slice A l.length c,.string x] w fun e w'=>e=.returned (.int .i64 (zIW x l))∧w=w':=by
 go_enter Tryz.func104,Tryz.ntmps104;obtain⟨len,fB⟩:∃ len,len=l.length:=⟨_,rfl⟩;have fA:=hid fB;rw [←fB] at hl ⊢;clear fB;go_wp2
 go_loop [8] (fun i=>∃ k:Nat,k≤len∧i=.int .i64 (k:Int)∧Hid (∀ j (hj:j<k) (h:j<l.length),l[j]≠x)) (fun i=>len-(intOf i).toNat)
 case atStart=>exact⟨0,Am _,rfl,fun j hj=>absurd hj (by omega)⟩
 case round =>
  obtain⟨k,hk,rfl,fD⟩:=hrel;by_cases fH:k<len
  · have fF:k<l.length:=by have:=fA.o;omega
    obtain⟨b,off,hA,hb,hc⟩:=hs.at_ (by omega);have c0:=hc k _ (zCM l k fF);subst hA;clear hc;by_cases he:l[k]=x
    · have fC:=hid (idxV_at k fF he fD.o);rw [he] at c0;clear he fD;go_wp2;go_ret;exact⟨by rw [fC.o];rfl,rfl⟩
    · have fE:Hid (∀ j (hj:j<k+1) (h:j<l.length),l[j]≠x):=fun j hj h=>by
       by_cases e:j=k
       · subst e;exact he
       · exact fD.o j (by omega) h
      have fI:(x.toList==l[k].toList)=false:=by simpa using fun h=>he (zC2.1 h).symm
      have fG:¬x.toList=l[k].toList:=fun h=>he (zC2.1 h).symm;clear he;generalize l[k]=y at *;go_wp2;go_round
      case rel=>exact⟨k+1,by omega,by go_num,fE⟩
      case measure=>simp [intOf];omega
  · obtain rfl:k=len:=by omega
    have fC:=hid (idxV_no (x:=x) (l:=l) fun j hj h=>fD.o j (by have:=fA.o;omega) h);clear fD;go_wp2;go_ret;exact⟨by rw [fC.o];rfl,rfl⟩
theorem zPtr (w:World):(zeroValue 106).run Ai w=.ok (.pointer none) w:=by kernel_rfl
theorem zInt (w:World):(zeroValue 3).run Ai w=.ok (.int .i64 0) w:=by kernel_rfl
section
variable {w w':World} {a:NA} {n:PN} {own:Nat→Option Role} {lay:Nat→NA} {p mb i:Nat} {T:PT}
theorem PlainAt.lookI (h:PlainAt w own lay p mb T) (hg:zAe i T.nodes=some n) (hi:i≤1000000000):(Instr.lookup 96 (.map (some mb)) (.int .i64 (i:Int)) false).run Ai w=.ok (.pointer (some ⟨(lay i).nb,0,none⟩)) w:=by
 have:=h.nodes.look zD3 Aj (zPtr w) (zHW i hi);rw [PlainAt.look,hg] at this;exact this
theorem PnAt.c0 (h:PnAt w a n):w.cell? ⟨a.nb,0,none⟩=some (.int .i64 n.kind):=h.blk.cell 0
theorem PnAt.c1 (h:PnAt w a n):w.cell? ⟨a.nb,1,none⟩=some (.int .i64 (n.links:Int)):=h.blk.cell 1
theorem PnAt.c2 (h:PnAt w a n):w.cell? ⟨a.nb,2,none⟩=some (.int .i64 (n.size:Int)):=h.blk.cell 2
theorem PnAt.c3 (h:PnAt w a n):w.cell? ⟨a.nb,3,none⟩=some (.int .i64 (n.made:Int)):=h.blk.cell 3
theorem PnAt.c4 (h:PnAt w a n):w.cell? ⟨a.nb,4,none⟩=some (.map a.d):=h.blk.cell 4
theorem PnAt.c5 (h:PnAt w a n):w.cell? ⟨a.nb,5,none⟩=some a.s:=h.blk.cell 5
theorem PnAt.c6 (h:PnAt w a n):w.cell? ⟨a.nb,6,none⟩=some (.map a.nm):=h.blk.cell 6
theorem PnAt.lookN (h:PnAt w a n) (x:ByteArray) (hx:x.size≤1000000000):(Instr.lookup 101 (.map a.nm) (.string x) true).run Ai w=.ok (.tuple #[orV zAS (.int .i64 0) (zAe x n.names),.bool (zAe x n.names).isSome]) w:=by
 have hm:=h.names
 cases hn:a.nm with
 | some b =>
  rw [hn] at hm;exact zAt.look_ok hm kStr Ak (zInt w) (keyS x (by unfold maxLen;omega))
 | none =>
  rw [hn] at hm;have fA:n.names=[]:=hm;rw [fA];exact Go.Maps.look_nil true kStr Ak (zInt w) (keyS x (by unfold maxLen;omega))
end
theorem zAW {n:PN} (h:n.dir=true):n.kind=2:=by unfold PN.kind;rw [h];rfl
theorem zAx {n:PN} (h:n.dir=false):n.kind=1:=by unfold PN.kind;rw [h];rfl
theorem zDU (own:Nat→Option Role) (lay:Nat→NA) (p mb:Nat) (T:PT) (B:Nat) (A:Option Addr) (c:Nat) (l:List ByteArray) (w:World) (h:PlainAt w own lay p mb T) (hT:T.Wf)
 (hs:Sees w B 1 A l.length (strs l)) (hl:l.length≤1000000) (hx:∀ x∈l,x.size≤1000000) :
 Calls Ai 72 #[.pointer (some ⟨p,0,none⟩),.slice A l.length c] w fun e w'=>e=.returned (.tuple #[zAS (T.walk l 1).1,zAS (T.walk l 1).2])∧w=w':=by
 have c2:=h.c2;go_enter Tryz.func72,Tryz.ntmps72;obtain⟨len,fC⟩:∃ len,len=l.length:=⟨_,rfl⟩;have fB:=hid fC;have hH:=hid h;have fE:=hid hT;rw [←fC] at hl ⊢;clear fC h hT;obtain⟨n1,fK,-⟩:=fE.o.root;have fH:=hid fK;clear fK;go_wp2
 go_loop [6,14] (fun i k'=>∃ k i0:Nat,k≤len∧k'=.int .i64 (k:Int)∧i=.int .i64 (i0:Int)∧Hid (T.walk (l.drop k) i0=T.walk l 1)∧Hid (∃ n,zAe i0 T.nodes=some n)) (fun _ k=>len-(intOf k).toNat)
 case atStart=>exact⟨0,1,Am _,rfl,rfl,rfl,n1,fH.o⟩
 case round =>
  obtain⟨k,i0,hk,rfl,rfl,fF,n,hn⟩:=hrel;by_cases fM:k<len
  · have fI:k<l.length:=by have:=fB.o;omega
    obtain⟨b,off,hA,hb,hc⟩:=hs.at_ (by omega);have cn:=hc k _ (zCM l k fI);subst hA;clear hc;have fN:=fE.o.ok.get hn;have fO:=fE.o.ok.ino;have fP:=hH.o.lookI hn (by omega);have fG:=hH.o.get hn;have k0:=fG.c0;have k6:=fG.c6;have fQ:=hx _ (List.getElem_mem fI);have fD:=fG.lookN l[k] (by omega);have e:l.drop k=l[k]::l.drop (k+1):=Aa fI;have fA:=fF.o;rw [e,PT.walk,hn] at fA;simp only at fA;have fL:=hid hn;clear fG hn e fF;generalize l[k]=y at *;by_cases hd:n.dir=true
    · rw [zAW hd] at k0;rw [if_neg (by rw [hd];simp)] at fA
      cases hg:zAe y n.names with
      | none =>
       rw [hg] at fA fD;have hw:=hid fA;simp only [orV,As] at fD;clear fA hg hd;go_wp2
       go_ret2
       exact⟨by rw [←hw.o];rfl,rfl⟩
      | some j =>
       rw [hg] at fA fD;have hw:=hid fA;simp only [orV,At,zAS] at fD;have hj:=hid (fE.o.ents i0 n y j fL.o hg);clear fA hg hd;go_wp2;go_round
       case rel=>exact⟨k+1,j,by omega,by go_num,rfl,hw.o,hj.o⟩
       case measure=>simp [intOf];omega
    · have fJ:n.dir=false:=by simpa using hd
      rw [zAx fJ] at k0;rw [if_pos fJ] at fA;have hw:=hid fA;clear fA hd fJ fD;go_wp2
      go_ret2
      exact⟨by rw [←hw.o];rfl,rfl⟩
  · obtain rfl:k=len:=by omega
    have hw:=hid fF.o;clear fF;go_wp2
    go_ret2
    refine⟨?_,rfl⟩;rw [←hw.o,List.drop_eq_nil_of_le (by have:=fB.o;omega)];rfl
theorem zBT {T:PT} (hT:T.Wf):∀ (l:List ByteArray) (i:Nat),(∃ n,zAe i T.nodes=some n)→(T.walk l i).2=0→∃ n,zAe (T.walk l i).1 T.nodes=some n
 | [],i,h,_=>h
 | nm::r,i,⟨n,hn⟩,h0=>by
  unfold PT.walk at h0 ⊢;rw [hn] at h0 ⊢;simp only at h0 ⊢
  split at h0
  · cases h0
  · rename_i hd;rw [if_neg hd]
    cases hg:zAe nm n.names with
    | none=>rw [hg] at h0;cases h0
    | some j =>
     rw [hg] at h0;simp only at h0;exact zBT hT r j (hT.ents i n nm j hn hg) h0
theorem zHP {T:PT} (hT:T.Wf) (l:List ByteArray):(T.walk l 1).1≤512:=by
 by_cases h:(T.walk l 1).2=0
 · obtain⟨n,hn⟩:=zBT hT l 1 (let ⟨n,h,_⟩:=hT.root;⟨n,h⟩) h;have:=(hT.ok.get hn).2.2;have:=hT.ok.ino;omega
 · have:∀ (l:List ByteArray) (i:Nat),(T.walk l i).2≠0→(T.walk l i).1=0:=by
    intro l
    induction l with
    | nil=>intro i h;exact absurd rfl h
    | cons nm r ih =>
     intro i h;unfold PT.walk at h ⊢
     split at h
     · rfl
     · split at h
       · rename_i hd;simp [hd]
       · rename_i hd;simp only [hd]
         cases hg:zAe nm _ with
         | none=>rfl
         | some j=>rw [hg] at h;exact ih j h
   rw [this l 1 h];omega
theorem zGM {T:PT}:∀ (l:List ByteArray) (i:Nat),(T.walk l i).2≤999
 | [],_=>by simp [PT.walk]
 | nm::r,i=>by
  unfold PT.walk
  split
  · simp
  · split
    · simp
    · split
      · simp
      · exact zGM r _
theorem zC6 (own:Nat→Option Role) (lay:Nat→NA) (p mb:Nat) (T:PT) (B:Nat) (A:Option Addr) (c:Nat) (l:List ByteArray) (w:World) (h:PlainAt w own lay p mb T) (hT:T.Wf)
 (hs:Sees w B 1 A l.length (strs l)) (hl:l.length≤1000000) (hc:l.length≤c) (hx:∀ x∈l,x.size≤1000000) :
 Calls Ai 95 #[.pointer (some ⟨p,0,none⟩),.slice A l.length c] w fun e w'=>e=.returned (.tuple #[zAS (T.last l).1,.string (zAM l),zAS (T.last l).2])∧Below w.heap.size w w':=by
 have c2:=h.c2;go_enter Tryz.func95,Tryz.ntmps95;by_cases fF:l=[]
 · subst fF;simp only [Ab];go_wp2
   go_ret3
   exact⟨rfl,Au _ _⟩
 · have fH:0<l.length:=List.length_pos_iff.2 fF;obtain⟨b,off,hA,hb,fE⟩:=hs.at_ fH
   have fD:l.length-1<l.length:=by omega
   have cl:=fE (l.length-1) _ (zCM l _ fD)
   have fM:l[l.length-1]=zAM l:=by
    unfold zAM;rw [Ac,List.getLast?_eq_getElem?,List.getElem?_eq_getElem fD];rfl
   rw [fM] at cl
   have fN:Sees w B 1 A l.dropLast.length (strs l.dropLast):=by
    have:=hs.take (k:=l.length-1) (by omega);rw [Ad]
    have e:(strs l).take ((l.length-1) * 1)=strs l.dropLast:=by rw [Nat.mul_one,List.dropLast_eq_take];simp [strs,List.map_take]
    rw [e] at this;exact this
   have fA:=zDU own lay p mb T B A c l.dropLast w h hT fN (by rw [Ad];omega) (fun x fQ=>hx x (List.dropLast_subset l fQ));have fO:l.dropLast.length=l.length-1:=Ad;rw [fO] at fA;subst hA
   have fB:T.last l=(if (T.walk l.dropLast 1).2=0∧T.isDir (T.walk l.dropLast 1).1=false then ((T.walk l.dropLast 1).1,113) else T.walk l.dropLast 1):=by unfold PT.last;rw [if_neg fF]
   have fJ:=zBT hT l.dropLast 1 (let ⟨n,h,_⟩:=hT.root;⟨n,h⟩);have fK:=zHP hT l.dropLast;have fR:=zGM (T:=T) l.dropLast 1;generalize T.walk l.dropLast 1=r at *;obtain⟨i,e⟩:=r;simp only at fB fJ fK fR fA;clear fN fO fM fE hs hx;obtain⟨len,fG⟩:∃ len,len=l.length:=⟨_,rfl⟩;have fP:=hid fG;rw [←fG] at hl hc fH fD cl fA ⊢;clear fG
   have fT:((len:Int)==0)=false:=by simp;omega
   obtain⟨m,rfl⟩:∃ m,len=m+1:=⟨len-1,by omega⟩;simp only [An] at cl fA;by_cases he:e=0
   · obtain⟨n,hn⟩:=fJ he;have fU:=h.lookI hn (by omega);have k0:=(h.get hn).c0;subst he
     have fI:T.isDir i=n.dir:=by unfold Av;rw [hn]
     rw [fI] at fB;have fC:=hid fB;clear fB fI hn fJ;unfold zAS at fA;by_cases hd:n.dir=true
     · rw [zAW hd] at k0;rw [hd] at fC;clear hd;go_wp2_with (first | (go_at_call 72;refine fA.mono ?_;rintro e w' ⟨rfl,rfl⟩))
       go_quiet (fail)
       go_wp2
       go_ret3
       refine⟨?_,zAd br _⟩;rw [fC.o];rfl
     · have fL:n.dir=false:=by simpa using hd
       rw [zAx fL] at k0;rw [fL] at fC;clear hd fL;go_wp2_with (first | (go_at_call 72;refine fA.mono ?_;rintro e w' ⟨rfl,rfl⟩))
       go_quiet (fail)
       go_wp2
       go_ret3
       refine⟨?_,zAd br _⟩;rw [fC.o];rfl
   · have hz:((e:Int)==0)=false:=by simp;omega
     have fC:=hid fB;have fS:=hid he;clear fB he fJ;unfold zAS at fA;go_wp2_with (first | (go_at_call 72;refine fA.mono ?_;rintro e w' ⟨rfl,rfl⟩))
     go_quiet (fail)
     go_wp2
     go_ret3
     refine⟨?_,zAd br _⟩;rw [fC.o,if_neg (fun h=>fS.o h.1)];rfl
structure Ext (w:World) (own own':Nat→Option Role):Prop where
 keep:∀ b r,own b=some r→own' b=some r
 new:∀ b r,own' b=some r→own b=some r∨w.heap.size≤b
theorem Ext.refl (w:World) (own:Nat→Option Role):Ext w own own:=⟨fun _ _ h=>h,fun _ _ h=>.inl h⟩
theorem Ext.trans {w w1:World} {o o1 o2:Nat→Option Role} (h:Ext w o o1) (k:Ext w1 o1 o2) (hs:w.heap.size≤w1.heap.size):Ext w o o2 :=
 ⟨fun b r e=>k.keep b r (h.keep b r e),fun b r e=>by
  rcases k.new b r e with e | e
  · exact h.new b r e
  · exact .inr (by omega)⟩
theorem Ext.back {w w1:World} {o o1:Nat→Option Role} (h:Ext w1 o o1) (hs:w.heap.size≤w1.heap.size):Ext w o o1 :=
 ⟨h.keep,fun b r e=>(h.new b r e).imp id fun h=>by omega⟩
theorem Owns.ext {w:World} {own own':Nat→Option Role} {i:Nat} {a:NA} (h:Owns own i a) (he:Ext w own own'):Owns own' i a :=
 ⟨he.keep _ _ h.nb,fun b e=>he.keep _ _ (h.d b e),fun b e=>he.keep _ _ (h.s b e),fun b e=>he.keep _ _ (h.nm b e)⟩
def Of (own:Nat→Option Role) (i b:Nat):Prop:=own b=some (.node i)∨own b=some (.data i)∨own b=some (.slots i)∨own b=some (.names i)
def own1 (own:Nat→Option Role) (g:Nat) (r:Role):Nat→Option Role:=fun b=>if b=g then some r else own b
def zCu (lay:Nat→NA) (i:Nat) (a:NA):Nat→NA:=fun j=>if j=i then a else lay j
theorem own1_ext {w:World} {own:Nat→Option Role} {g:Nat} {r:Role} (hg:w.heap.size≤g) (hn:∀ b r,own b=some r→b<w.heap.size):Ext w own (own1 own g r):=by
 refine⟨fun b r' e=>?_,fun b r' e=>?_⟩
 · have:=hn b r' e;unfold own1;rw [if_neg (by omega)];exact e
 · unfold own1 at e
   split at e
   · exact .inr (by omega)
   · exact .inl e
section
variable {w w':World} {n n':PN} {a':NA} {own own':Nat→Option Role} {lay:Nat→NA} {p mb i:Nat} {T:PT} {S:Nat→Prop}
theorem Of.ne (h:PlainAt w own lay p mb T) {b:Nat} (hb:Of own i b):b≠p∧b≠mb:=by
 constructor
 · rintro rfl;rcases hb with e | e | e | e<;>(have:=h.ownp;rw [e] at this;cases this)
 · rintro rfl;rcases hb with e | e | e | e<;>(have:=h.ownm;rw [e] at this;cases this)
theorem PnAt.other {a:NA} {j:Nat} (h:PnAt w a n) (ho:Owns own j a) (hj:j≠i) (hc:Chg S w w') (hS:∀ b,b<w.heap.size→S b→Of own i b∨own b=some .nodes∨own b=none):PnAt w' a n:=by
 have key:∀ x r,own x=some r→(r=.node j∨r=.data j∨r=.slots j∨r=.names j)→x<w.heap.size→¬S x:=by
  intro x r e hr hx fA;rcases hS x hx fA with h | h | h
  · rcases h with h | h | h | h<;>(rw [e] at h;injection h with h;subst h;rcases hr with hr | hr | hr | hr<;>first | (injection hr with hr;exact hj hr.symm) | cases hr)
  · rw [e] at h;injection h with h;subst h;rcases hr with hr | hr | hr | hr<;>cases hr
  · rw [e] at h;cases h
 refine⟨h.blk.chg hc ?_,?_,zAy h.slots hc fun g hg=>?_,?_,h.dirs,h.files⟩
 · exact key _ _ ho.nb (.inl rfl) h.blk.lt
 · have hd:=h.data
   cases e:a.d with
   | none=>rw [e] at hd;exact hd
   | some x=>rw [e] at hd;exact zAt.chg hd hc (key _ _ (ho.d x e) (.inr (.inl rfl)) (zAt.lt hd))
 · exact key _ _ (ho.s g hg) (.inr (.inr (.inl rfl))) (Aw h.slots g hg).2
 · have hd:=h.names
   cases e:a.nm with
   | none=>rw [e] at hd;exact hd
   | some x=>rw [e] at hd;exact zAt.chg hd hc (key _ _ (ho.nm x e) (.inr (.inr (.inr rfl))) (zAt.lt hd))
theorem keys_put {α β γ:Type} [DecidableEq α] {K:KE α} (tot:∀ a b:α,a≠b→K.lt a b=true∨K.lt b a=true) {l:List (α×β)} (hr:zBo K l) {a:α} {v:β} (f g:α→γ) (fB:∀ x,x≠a→g x=f x) (fC:(zAe a l).isSome=true→g a=f a) (fA:(zAe a l).isSome=true) :
 (zA2 K a v l).map (fun x=>(x.1,g x.1))=l.map fun x=>(x.1,f x.1):=by
 have ris:∀ {l:List (α×β)} (h:α→γ),zBo K l→zBo K (l.map fun x=>(x.1,h x.1)):=fun h hl=>by
  unfold zBo at hl ⊢;rw [List.pairwise_map];exact hl
 refine zBo.ext K (ris g (hr.put K tot a v)) (ris f hr) fun b=>?_;rw [zDy (fun x _=>g x),zDy (fun x _=>f x)];by_cases e:b=a
 · subst e;rw [zAr]
   cases hg:zAe b l with
   | none=>rw [hg] at fA;cases fA
   | some u=>simp [fC fA]
 · rw [zAi K v e]
   cases zAe b l with
   | none=>rfl
   | some u=>simp [fB b e]
theorem PlainAt.upd (h:PlainAt w own lay p mb T) (hr:zBo zAG T.nodes) (hg:zAe i T.nodes=some n) (hc:Chg S w w') (hS:∀ b,b<w.heap.size→S b→Of own i b) (hn:PnAt w' a' n') (ha:a'.nb=(lay i).nb)
 (he:Ext w own own') (fB:∀ b r,own' b=some r→b<w'.heap.size) (ho:Owns own' i a'):PlainAt w' own' (zCu lay i a') p mb (T.upd i n'):=by
 have hp:¬S p:=fun fA=>by
  have:=(Of.ne h (hS p h.top.lt fA)).1;exact this rfl
 have hm:¬S mb:=fun fA=>by
  have:=(Of.ne h (hS mb h.nodes.lt fA)).2;exact this rfl
 refine⟨h.top.chg hc hp,he.keep _ _ h.ownp,he.keep _ _ h.ownm,?_,fun x hx=>?_,fun x hx=>?_,fB⟩
 · have e:=keys_put (K:=zAG) zCo hr (a:=i) (v:=n') (fun j=>(lay j).nb) (fun j=>(zCu lay i a' j).nb) (fun j hj=>by unfold zCu;rw [if_neg hj]) (fun _=>by unfold zCu;rw [if_pos rfl];exact ha) (by rw [hg];rfl);unfold PT.upd;simp only;rw [e];exact h.nodes.chg hc hm
 · rcases (zBj zAG).1 hx with rfl | ⟨hx,hne⟩
   · unfold zCu;rw [if_pos rfl];exact hn
   · unfold zCu;rw [if_neg hne];exact (h.node x hx).other (h.owns x hx) hne hc fun b hb fC=>.inl (hS b hb fC)
 · rcases (zBj zAG).1 hx with rfl | ⟨hx,hne⟩
   · unfold zCu;rw [if_pos rfl];exact ho
   · unfold zCu;rw [if_neg hne];exact (h.owns x hx).ext he
theorem PlainAt.del (h:PlainAt w own lay p mb T) (hc:Chg S w w') (hS:∀ b,b<w.heap.size→S b→Of own i b∨b=mb) (hm:zAt w' zAG zCq 3 mb (zBB i (T.nodes.map fun x=>(x.1,(lay x.1).nb)))):PlainAt w' own lay p mb (T.del i):=by
 have hp:¬S p:=fun fB=>by
  rcases hS p h.top.lt fB with h1 | h1
  · exact (Of.ne h h1).1 rfl
  · have:=h.ownp;rw [h1,h.ownm] at this;cases this
 refine⟨h.top.chg hc hp,h.ownp,h.ownm,?_,fun x hx=>?_,fun x hx=>?_,fun b r e=>Ao (h.lt b r e) hc.size⟩
 · have e:zBB i (T.nodes.map fun x=>(x.1,(lay x.1).nb))=(T.del i).nodes.map fun x=>(x.1,(lay x.1).nb):=by
    unfold PT.del zBB;simp only;rw [List.filter_map];rfl
   rw [←e];exact hm
 · obtain⟨hx,fA⟩:=zBG.1 hx;refine (h.node x hx).other (h.owns x hx) fA hc fun b hb fC=>?_;rcases hS b hb fC with h1 | h1
   · exact .inl h1
   · rw [h1];exact .inr (.inl h.ownm)
 · obtain⟨hx,fA⟩:=zBG.1 hx;exact h.owns x hx
theorem PlainAt.add (h:PlainAt w own lay p mb T) (hg:zAe i T.nodes=none) (hc:Chg S w w') (hS:∀ b,b<w.heap.size→S b→b=mb) (hm:zAt w' zAG zCq 3 mb (zA2 zAG i a'.nb (T.nodes.map fun x=>(x.1,(lay x.1).nb)))) (hn:PnAt w' a' n')
 {wE:World} (he:Ext wE own own') (fA:∀ b r,own' b=some r→b<w'.heap.size) (ho:Owns own' i a'):PlainAt w' own' (zCu lay i a') p mb (T.upd i n'):=by
 have hp:¬S p:=fun fB=>by
  have h1:=hS p h.top.lt fB;have:=h.ownp;rw [h1,h.ownm] at this;cases this
 refine⟨h.top.chg hc hp,he.keep _ _ h.ownp,he.keep _ _ h.ownm,?_,fun x hx=>?_,fun x hx=>?_,fA⟩
 · have hk:=zA7.1 hg
   have e:zA2 zAG i a'.nb (T.nodes.map fun x=>(x.1,(lay x.1).nb))=(T.upd i n').nodes.map fun x=>(x.1,(zCu lay i a' x.1).nb):=by
    unfold PT.upd zA2;simp only;rw [zEn hg,zEn (by rw [PlainAt.look,hg];rfl)];clear hm hp hc h;generalize T.nodes=l at *
    induction l with
    | nil=>simp [zCi,zCu]
    | cons y r ih =>
     have hy:y.1≠i:=hk y List.mem_cons_self;have ihr:=ih (by unfold zAe at hg;rwa [if_neg hy] at hg) fun q hq=>hk q (Ae _ hq);simp only [Af,zCi]
     split
     · simp only [Af,zCu,if_neg hy,if_true]
       congr 2
       refine List.map_congr_left fun q hq=>?_;rw [if_neg (hk q (Ae _ hq))]
     · rw [Af,←ihr];simp [zCu,hy]
   rw [←e];exact hm
 · rcases (zBj zAG).1 hx with rfl | ⟨hx,hne⟩
   · unfold zCu;rw [if_pos rfl];exact hn
   · unfold zCu;rw [if_neg hne];refine (h.node x hx).other (i:=i) (h.owns x hx) hne hc fun b hb fC=>?_;rw [hS b hb fC];exact .inr (.inl h.ownm)
 · rcases (zBj zAG).1 hx with rfl | ⟨hx,hne⟩
   · unfold zCu;rw [if_pos rfl];exact ho
   · unfold zCu;rw [if_neg hne];exact (h.owns x hx).ext he
end
def zAv (own:Nat→Option Role) (p mb:Nat) (T':PT) (w w':World):Prop :=
 ∃ own' lay',PlainAt w' own' lay' p mb T'∧Ext w own own'∧Chg (fun b=>own b≠none) w w'
theorem zEY (lay:Nat→NA) (i:Nat):zCu lay i (lay i)=lay:=by
 funext j
 unfold zCu
 split
 · rename_i h;rw [h]
 · rfl
section
variable {w w1 w2:World} {own:Nat→Option Role} {lay:Nat→NA} {p mb i:Nat} {T T1 T2:PT}
theorem zAv.of {own':Nat→Option Role} {lay':Nat→NA} (h:PlainAt w1 own' lay' p mb T1) (he:Ext w own own') (hc:Chg (fun b=>own b≠none) w w1):zAv own p mb T1 w w1:=⟨own',lay',h,he,hc⟩
theorem zAv.same (h:PlainAt w own lay p mb T) (hb:Below w.heap.size w w1):zAv own p mb T w w1:=⟨own,lay,h.fresh hb,Ext.refl _ _,Ax hb⟩
theorem Chg.ext {w w1 w2:World} {o o1:Nat→Option Role} (h:Chg (fun b=>o b≠none) w w1) (he:Ext w o o1) (k:Chg (fun b=>o1 b≠none) w1 w2):Chg (fun b=>o b≠none) w w2 :=
 h.trans k (fun _ _ h=>h) fun b hb h=>by
  cases e:o1 b with
  | none=>exact absurd e h
  | some r =>
   rcases he.new b r e with e | e
   · rw [e];simp
   · omega
theorem Chg.of_of {o:Nat→Option Role} (h:Chg (Of o i) w w1):Chg (fun b=>o b≠none) w w1:=h.mono fun b _ h=>by
 rcases h with e | e | e | e<;>(rw [e];simp)
end
theorem zGw:(Tryz.prog.info? 9).map (fun i=>(i.zero,i.size,i.bytes))=some (some (.string ⟨#[]⟩),1,16):=by kernel_rfl
theorem zJv (l:List ByteArray) (k:Nat) (x:ByteArray):(strs l).set k (.string x)=strs (l.set k x):=by simp [strs,List.map_set]
theorem strs_snoc (l:List ByteArray) (x:ByteArray):strs l++[.string x]=strs (l++[x]):=by simp [strs]
theorem zC8 {w:World} {base:Nat} {e:TypeId} {size:Nat} {v:Value} {n:Nat} {xs:List Value} (h:w.ownsRow base e size v n xs) (hn:0<n):∃ g c,v=.slice (some ⟨g,0,none⟩) n c∧n≤c∧g<w.heap.size:=by
 rcases h.2 with ⟨_,h0⟩ | ⟨g,cap,cur,rfl,hb,hg,hnc,_⟩
 · omega
 · exact⟨g,cap,rfl,hnc,(Array.getElem?_eq_some_iff.1 hg).1⟩
theorem PnAt.turn {w w':World} {a:NA} {n n':PN} {s':Value} {S:Nat→Prop} (h:PnAt w a n) (hc:Chg S w w') (hd:∀ b,a.d=some b→¬S b) (hb:Blk w' a.nb 110 (zB7 {a with s:=s'} n')) (hs:w'.ownsRow 0 9 1 s' n'.slots.length (strs n'.slots)) (hn:zDJ w' zAV zAS 9 a.nm n'.names) (fB:n'.data=n.data) (fA:n'.dir=n.dir) :
 PnAt w' {a with s:=s'} n':=⟨hb,by rw [fB];exact h.data.chg hc hd,hs,hn,fun e=>h.dirs (by rw [←fA];exact e),fun e=>h.files (by rw [←fA];exact e)⟩
section
variable {w w':World} {own:Nat→Option Role} {i:Nat} {a:NA} {b:Nat}
theorem Owns.apart (h:Owns own i a):(∀ x,a.d=some x→x≠a.nb)∧(∀ x,a.s.ownBlock=some x→x≠a.nb)∧(∀ x,a.nm=some x→x≠a.nb)∧(∀ x y,a.s.ownBlock=some x→a.nm=some y→x≠y)∧(∀ x y,a.s.ownBlock=some x→a.d=some y→x≠y)∧(∀ x y,a.nm=some x→a.d=some y→x≠y):=by
 refine⟨fun x hx e=>?_,fun x hx e=>?_,fun x hx e=>?_,fun x y hx hy e=>?_,fun x y hx hy e=>?_,fun x y hx hy e=>?_⟩
 · have h1:=h.d x hx;rw [e,h.nb] at h1;cases h1
 · have h1:=h.s x hx;rw [e,h.nb] at h1;cases h1
 · have h1:=h.nm x hx;rw [e,h.nb] at h1;cases h1
 · have h1:=h.s x hx;rw [e,h.nm y hy] at h1;cases h1
 · have h1:=h.s x hx;rw [e,h.d y hy] at h1;cases h1
 · have h1:=h.nm x hx;rw [e,h.d y hy] at h1;cases h1
end
theorem nset_in (own:Nat→Option Role) (i0:Nat) (a:NA) (n:PN) (nb k j:Nat) (nm:ByteArray) (w:World) (h:PnAt w a n) (ho:Owns own i0 a) (hn:n.Ok) (fC:a.nm=some nb) (hk:k<n.slots.length) (hs:nm.size≤1000000) :
 Calls Ai 98 #[zCq a.nb,zAS k,.string nm,zAS j] w fun e w'=>e=.returned (.tuple #[])∧PnAt w' a (n.set k nm j)∧Chg (Of own i0) w w':=by
 obtain⟨g,c,fF,fM,hg⟩:=zC8 h.slots (by omega);have fG:=ho.apart;have fN:=hn.slots;have fW:=Ap hn.nlen hn.slots;have c5:=h.c5;have c6:=h.c6;have fA:=h.slots;rw [fF] at c5 fA;rw [fC] at c6;have hm:=h.names;rw [fC] at hm;have e1:=fA.cellAt k (by omega);rw [zCM _ _ hk] at e1
 replace e1:∃ x0,w.cell? ⟨g,k,none⟩=some (.string x0):=⟨_,e1⟩
 obtain⟨x0,e1⟩:=e1;have f1:=fA.frozenAt k;obtain⟨fB,fX⟩:=fA.stored k (.string nm);have fO:g≠a.nb:=fG.2.1 g (by rw [fF];rfl);have fI:g≠nb:=fG.2.2.2.1 g nb (by rw [fF];rfl) fC;have fP:nb≠a.nb:=fG.2.2.1 nb fC;have fQ:Chg (Of own i0) w (w.setCell ⟨g,k,none⟩ (.string nm)):=(Ay _ w).setCell (p:=⟨g,k,none⟩) (fun _=>.inr (.inr (.inl (ho.s g (by rw [fF];rfl))))) _;have fJ:Blk (w.setCell ⟨g,k,none⟩ (.string nm)) a.nb 110 (zB7 a n):=h.blk.far (by simpa using fO.symm) _;have fR:=zAt.chg hm ((Ay (fun b=>b=g) w).setCell (p:=⟨g,k,none⟩) (fun _=>rfl) (.string nm)) (fun e=>fI e.symm)
 have d6:(w.setCell ⟨g,k,none⟩ (.string nm)).cell? ⟨a.nb,6,none⟩=some (.map (some nb)):=by rw [←fC];exact fJ.cell 6
 unfold zCq zAS;go_enter Tryz.func98,Tryz.ntmps98;have fS:=hid h;have fK:=hid fG;obtain⟨len,fE⟩:∃ len,len=n.slots.length:=⟨_,rfl⟩;have fD:=hid fE;rw [←fE] at hk fN c5 fA fB fM
 have fY:((k:Int)==(len:Int))=false:=by simp;omega
 have fT:=hid fB;clear fE h fG hm fA fB
 go_wp2_with (first
  | (at_mapUpdate;refine zAZ _ rfl _ _ _ 101 (.inl rfl) kStr Ak fR (by unfold maxLen;omega) rfl nm rfl (keyS nm (by unfold maxLen;omega)) j rfl ?_;intro w2 fU fV))
 go_end0
 have fH:=zAP fV;have hC:Chg (Of own i0) w w2:=fQ.trans fH (fun _ _ h=>h) (fun b _ h=>by subst h;exact .inr (.inr (.inr (ho.nm _ fC))));have hX:Chg (fun b=>b=g∨b=nb) w w2:=((Ay (fun b=>b=g∨b=nb) w).setCell (p:=⟨g,k,none⟩) (fun _=>.inl rfl) (.string nm)).trans fH (fun _ _ h=>h) (fun b _ h=>.inr h);refine⟨rfl,?_,hC⟩
 have fL:k≠n.slots.length:=by have:=fD.o;omega
 have:=fS.o.turn (n':=n.set k nm j) (s':=a.s) hX (fun b e hb=>?_) ?_ ?_ ?_ rfl rfl
 · exact this
 · rcases hb with hb | hb
   · exact (fK.o.2.2.2.2.1 g b (by rw [fF];rfl) e) hb.symm
   · exact (fK.o.2.2.2.2.2 nb b fC e) hb.symm
 · have:=fJ.chg fH (fun e=>fP e.symm);simp only [PN.set,if_neg fL];exact this
 · rw [fF]
   have es:(n.set k nm j).slots=n.slots.set k nm:=by simp [PN.set,fL]
   rw [es,Ag,←fD.o,←zJv];exact zAy fT.o fH fun x hx e=>by have:g=x:=Az hx;subst this;exact fI e
 · rw [fC];exact fU
theorem own_set2 {w1:World} {g1 m c1:Nat} {xs:List Value} (h:w1.ownsRow 0 9 1 (.slice (some ⟨g1,0,none⟩) m c1) m xs) (nb:Nat) (fA:g1≠nb) (u v:Value) (k:Nat) (nm:ByteArray) :
 (((w1.setCell ⟨nb,5,none⟩ u).setCell ⟨nb,2,none⟩ v).setCell ⟨g1,k,none⟩ (.string nm)).ownsRow 0 9 1 (.slice (some ⟨g1,0,none⟩) m c1) m (xs.set k (.string nm))∧((w1.setCell ⟨nb,5,none⟩ u).setCell ⟨nb,2,none⟩ v).grownBy (((w1.setCell ⟨nb,5,none⟩ u).setCell ⟨nb,2,none⟩ v).setCell ⟨g1,k,none⟩ (.string nm)) (some g1) :=
 (zAy h (((Ay (fun b=>b=nb) w1).setCell (p:=⟨nb,5,none⟩) (fun _=>rfl) u).setCell (p:=⟨nb,2,none⟩) (fun _=>rfl) v) (fun _ e hg=>fA ((Az e).trans hg))).stored k (.string nm)
def NTurn (own:Nat→Option Role) (i:Nat) (a:NA) (n':PN) (w w':World):Prop :=
 ∃ s' own',PnAt w' {a with s:=s'} n'∧Chg (Of own i) w w'∧Ext w own own'∧Owns own' i {a with s:=s'}∧∀ b r,own' b=some r→b<w'.heap.size
theorem new_facts {own:Nat→Option Role} {i0:Nat} {a:NA} {n:PN} {nb len c0 g1 c1 m:Nat} {A0:Option Addr} {w w1:World} {o:Obj} (h:PnAt w a n) (ho:Owns own i0 a) (fB:∀ b r,own b=some r→b<w.heap.size) (hs:a.s=.slice A0 len c0) (fA:a.nm=some nb)
 (hg:(w.alloc o).grownBy w1 (AA (.slice A0 len c0))) (fC:AA (.slice (some ⟨g1,0,none⟩) m c1)=AA (.slice A0 len c0)∨AA (.slice (some ⟨g1,0,none⟩) m c1)=some (w.alloc o).heap.size) :
 w1.cell? ⟨a.nb,5,none⟩=some (.slice A0 len c0)∧w1.cell? ⟨a.nb,2,none⟩=some (.int .i64 (n.size:Int))∧w1.cell? ⟨a.nb,6,none⟩=some (.map (some nb))∧w1.frozen? ⟨a.nb,5,none⟩=false∧w1.frozen? ⟨a.nb,2,none⟩=false ∧
  Chg (fun b=>own b=some (.slots i0)) w w1∧zAt w1 zAV zAS 9 nb n.names∧Blk w1 a.nb 110 (zB7 a n)∧g1≠a.nb∧g1≠nb:=by
 have fF:=ho.apart;have hC:Chg (fun b=>own b=some (.slots i0)) w w1:=((Ay _ w).alloc o).grown hg fun g e _=>ho.s g (by rw [hs];exact e)
 have fD:¬own a.nb=some (.slots i0):=by rw [ho.nb];intro e;cases e
 have fE:¬own nb=some (.slots i0):=by rw [ho.nm nb fA];intro e;cases e
 have hB:=h.blk.chg hC fD;have hm:=h.names;rw [fA] at hm;refine⟨by rw [←hs];exact hB.cell 5,hB.cell 2,by rw [←fA];exact hB.cell 6,hB.frozen 5,hB.frozen 2,hC,zAt.chg hm hC fE,hB,?_,?_⟩
 · rintro rfl;rcases fC with e | e
   · have:=ho.s a.nb (by rw [hs];exact e.symm);rw [ho.nb] at this;cases this
   · have:=fB _ _ ho.nb;have e:=Az e
     simp at e
     omega
 · rintro rfl;rcases fC with e | e
   · have:=ho.s g1 (by rw [hs];exact e.symm);rw [ho.nm g1 fA] at this;cases this
   · have:=fB _ _ (ho.nm g1 fA);have e:=Az e
     simp at e
     omega
theorem nset_new (own:Nat→Option Role) (i0:Nat) (a:NA) (n:PN) (nb j:Nat) (nm:ByteArray) (w:World) (h:PnAt w a n) (ho:Owns own i0 a) (fR:∀ b r,own b=some r→b<w.heap.size) (hn:n.Ok) (fE:a.nm=some nb) (hk:n.slots.length<1068) (hs:nm.size≤1000000) :
 Calls Ai 98 #[zCq a.nb,zAS n.slots.length,.string nm,zAS j] w fun e w'=>e=.returned (.tuple #[])∧NTurn own i0 a (n.set n.slots.length nm j) w w':=by
 have fS:=ho.apart;have gF:=hn.slots;have gN:=Ap hn.nlen hn.slots;have c5:=h.c5;have c6:=h.c6;have c2:=h.c2;have f5:=h.blk.frozen 5;have f2:=h.blk.frozen 2;have fF:=h.slots;obtain⟨A0,c0,fO⟩:=h.form;rw [fO] at c5 fF;rw [fE] at c6;have hm:=h.names;rw [fE] at hm;have fX:nb≠a.nb:=fS.2.2.1 nb fE;obtain⟨i0',hi,gG,fY,fZ⟩:=AB zGw;unfold zCq zAS;go_enter Tryz.func98,Tryz.ntmps98;have fP:=hid h;have gA:=hid fS;have fC:=hid ho;have fJ:=hid fR;obtain⟨len,fG⟩:∃ len,len=n.slots.length:=⟨_,rfl⟩;have fA:=hid fG;rw [←fG] at hk gF c5 fF fO;have gB:=hid fO;clear fG h fS ho fR fO;rw [←fA.o]
 have gO:((len:Int)==(len:Int))=true:=by simp
 go_upto_region 2 with (first
  | (at_builtin;refine zAg _ rfl (.tmp 19) (.tmp 20) _ _ rfl 0 9 i0' (.string ⟨#[]⟩) 1 16 Al hi gG fY fZ rfl (.slice A0 len c0) len (strs n.slots) rfl (fF.alloc _) 1 [.string ⟨#[]⟩] (zCr w Al _ _ rfl) (by unfold maxLen;omega) (by omega) (by simp) ?_;intro v1 w1 fK gC fD;obtain⟨g1,c1,rfl,gH,gI⟩:=zC8 fK (by omega);obtain⟨e5,e2,e6,k5,k2,fI,gD,gE,fT,fU⟩:=new_facts fP.o fC.o fJ.o gB.o fE gC fD))
 have x1:w1.cell? ⟨g1,len,none⟩=some (.string ⟨#[]⟩):=by
  rw [fK.cellAt len (by omega),List.getElem?_append_right (by rw [zDp];have:=fA.o;omega),zDp,←fA.o];simp
 have y1:=fK.frozenAt len;obtain⟨fL,gJ⟩:=own_set2 fK a.nb fT (.slice (some ⟨g1,0,none⟩) (len+1) c1) (.int .i64 (((len:Int)+1) * 128)) len nm
 have fH:Chg (fun b=>b=a.nb∨b=g1) w1 (((w1.setCell ⟨a.nb,5,none⟩ (.slice (some ⟨g1,0,none⟩) (len+1) c1)).setCell ⟨a.nb,2,none⟩ (.int .i64 (((len:Int)+1) * 128))).setCell ⟨g1,len,none⟩ (.string nm)) :=
  (((Ay (fun b=>b=a.nb∨b=g1) w1).setCell (p:=⟨a.nb,5,none⟩) (fun _=>.inl rfl) _).setCell (p:=⟨a.nb,2,none⟩) (fun _=>.inl rfl) _).setCell (p:=⟨g1,len,none⟩) (fun _=>.inr rfl) _
 have gK:=gD.chg fH (fun e=>e.elim fX (fun e=>fU e.symm))
 have fQ:Blk (((w1.setCell ⟨a.nb,5,none⟩ (.slice (some ⟨g1,0,none⟩) (len+1) c1)).setCell ⟨a.nb,2,none⟩ (.int .i64 (((len:Int)+1) * 128))).setCell ⟨g1,len,none⟩ (.string nm)) a.nb 110 (zB7 {a with s:=.slice (some ⟨g1,0,none⟩) (len+1) c1} (n.set n.slots.length nm j)):=by
  have:=((gE.set_ 5 (.slice (some ⟨g1,0,none⟩) (len+1) c1)).set_ 2 (.int .i64 (((len:Int)+1) * 128))).far (p:=⟨g1,len,none⟩) (by simpa using fT.symm) (.string nm)
  have e:zB7 {a with s:=.slice (some ⟨g1,0,none⟩) (len+1) c1} (n.set n.slots.length nm j)=((zB7 a n).set 5 (.slice (some ⟨g1,0,none⟩) (len+1) c1)).set 2 (.int .i64 (((len:Int)+1) * 128)):=by
   simp [zB7,PN.set,PN.kind,←fA.o]
  rw [e];exact this
 have hF:=hid (And.intro fI (And.intro fH (And.intro fL (And.intro fQ fD))));clear fI fH fL fQ fD gD gE gJ fF fK gC
 go_wp2_with (first
  | (at_mapUpdate;refine zAZ _ rfl _ _ _ 101 (.inl rfl) kStr Ak gK (by unfold maxLen;omega) rfl nm rfl (keyS nm (by unfold maxLen;omega)) j rfl ?_;intro w2 gL gM))
 go_end0
 have fV:=fA.o;subst fV;obtain⟨fI,fH,fL,fQ,fD⟩:=hF.o;have fM:=zAP gM;have fY:=fI.size;have fZ:=fH.size;have gP:=fM.size
 have fB:g1<w.heap.size→own g1=some (.slots i0):=fun fR=>by
  rcases fD with e | e
  · exact fC.o.s g1 (by rw [gB.o];exact e.symm)
  · have e:=Az e;simp at e;omega
 have hC:Chg (Of own i0) w w2:=(fI.trans fH (fun _ _ h=>.inr (.inr (.inl h))) (fun b hb h=>by
  rcases h with rfl | rfl
  · exact .inl fC.o.nb
  · exact .inr (.inr (.inl (fB hb))))).trans fM (fun _ _ h=>h) (fun b _ h=>by subst h;exact .inr (.inr (.inr (fC.o.nm _ fE))))
 have es:(n.set n.slots.length nm j).slots=n.slots++[nm]:=by simp [PN.set]
 refine⟨rfl,.slice (some ⟨g1,0,none⟩) (n.slots.length+1) c1,fun b=>if b=g1 then some (Role.slots i0) else own b,⟨fQ.chg fM (fun e=>fX e.symm),?_,?_,?_,fP.o.dirs,fP.o.files⟩,hC,⟨fun b r e=>?_,fun b r e=>?_⟩,⟨?_,fun b e=>?_,fun b e=>?_,fun b e=>?_⟩,fun b r e=>?_⟩
 · have hd:zDJ w2 zAG zB6 3 a.d n.data:=by
    refine ((fP.o.data.chg fI fun b e h=>?_).chg fH fun b e h=>?_).chg fM fun b e h=>?_
    · rw [fC.o.d b e] at h;cases h
    · rcases h with rfl | rfl
      · exact gA.o.1 _ e rfl
      · have fN:=fJ.o _ _ (fC.o.d _ e);have:=fB fN;rw [fC.o.d _ e] at this;cases this
    · subst h;exact gA.o.2.2.2.2.2 _ b fE e rfl
   exact hd
 · rw [es,List.length_append,←strs_snoc]
   have fW:((strs n.slots++[Value.string ⟨#[]⟩]).set n.slots.length (.string nm))=strs n.slots++[.string nm]:=by
    rw [←zDp,List.set_append_right _ _ nr];simp
   rw [fW] at fL;exact zAy fL fM fun x hx e=>by have hx:=Az hx;exact fU (hx.trans e)
 · show zDJ w2 zAV zAS 9 a.nm _
   rw [fE];exact gL
 · have:=fJ.o b r e;by_cases hb:b=g1
   · subst hb;have:=fB this;rw [this] at e;simp [e]
   · simp [hb,e]
 · by_cases hb:b=g1
   · subst hb;simp only [if_true] at e;by_cases fN:b<w.heap.size
     · rw [←e];exact .inl (fB fN)
     · exact .inr (by omega)
   · simp only [hb,if_false] at e;exact .inl e
 · simp only;rw [if_neg (fun e=>fT e.symm)];exact fC.o.nb
 · skip
   have fN:=fJ.o _ _ (fC.o.d _ e);rw [if_neg (fun h=>by subst h;have:=fB fN;rw [fC.o.d _ e] at this;cases this)];exact fC.o.d b e
 · have e:g1=b:=Az e;simp [e]
 · skip
   have e':a.nm=some b:=e;rw [fE] at e';have e':=Az e';subst e';rw [if_neg (fun h=>fU h.symm)];exact fC.o.nm _ fE
 · by_cases hb:b=g1
   · subst hb;omega
   · simp only [hb,if_false] at e;have:=fJ.o b r e;omega
theorem nset_any (own:Nat→Option Role) (i0:Nat) (a:NA) (n:PN) (nb k j:Nat) (nm:ByteArray) (w:World) (h:PnAt w a n) (ho:Owns own i0 a) (fA:∀ b r,own b=some r→b<w.heap.size) (hn:n.Ok) (fB:a.nm=some nb) (hk:k≤n.slots.length) (fC:k<1068) (hs:nm.size≤1000000) :
 Calls Ai 98 #[zCq a.nb,zAS k,.string nm,zAS j] w fun e w'=>e=.returned (.tuple #[])∧NTurn own i0 a (n.set k nm j) w w':=by
 by_cases fD:k=n.slots.length
 · subst fD;exact nset_new own i0 a n nb j nm w h ho fA hn fB fC hs
 · refine (nset_in own i0 a n nb k j nm w h ho hn fB (by omega) hs).mono ?_;rintro e w' ⟨he,h1,h2⟩;exact⟨he,a.s,own,h1,h2,Ext.refl _ _,ho,fun b r e=>Ao (fA b r e) h2.size⟩
theorem zKc (own:Nat→Option Role) (i0:Nat) (a:NA) (n:PN) (nb k:Nat) (nm:ByteArray) (w:World) (h:PnAt w a n) (ho:Owns own i0 a) (hn:n.Ok) (fF:a.nm=some nb) (hk:zAh nm n.slots=some k) (hs:nm.size≤1000000) :
 Calls Ai 101 #[zCq a.nb,.string nm] w fun e w'=>e=.returned (.tuple #[])∧PnAt w' a (n.clear nm)∧Chg (Of own i0) w w':=by
 have fN:=(zAR hk).1;obtain⟨g,c,fG,fS,hg⟩:=zC8 h.slots (by omega);have fI:=ho.apart;have fT:=hn.slots;have gE:=Ap hn.nlen hn.slots;have c5:=h.c5;have c6:=h.c6;have fA:=h.slots
 have fB:Sees w w.heap.size 1 (some ⟨g,0,none⟩) n.slots.length (strs n.slots):=by
  obtain⟨A,c',hv,h1⟩:=AD (B:=w.heap.size) fA fun g hg=>(Aw fA g hg).2;rw [fG] at hv;injection hv with e1 e2 e3;rw [e1];exact h1
 rw [fG] at c5 fA;rw [fF] at c6;have hm:=h.names;rw [fF] at hm;have e1:=fA.cellAt k (by omega);rw [zCM _ _ fN] at e1
 replace e1:∃ x0,w.cell? ⟨g,k,none⟩=some (.string x0):=⟨_,e1⟩
 obtain⟨x0,e1⟩:=e1;have f1:=fA.frozenAt k;obtain⟨fC,gF⟩:=fA.stored k (.string ⟨#[]⟩);have fU:g≠a.nb:=fI.2.1 g (by rw [fG];rfl);have fO:g≠nb:=fI.2.2.2.1 g nb (by rw [fG];rfl) fF;have fV:nb≠a.nb:=fI.2.2.1 nb fF
 have fP:zIW nm n.slots=k:=by unfold zIW;rw [hk]
 have fD:∀ W:World,W.heap=w.heap→Calls Ai 104 #[.slice (some ⟨g,0,none⟩) n.slots.length c,.string nm] W fun e w'=>e=.returned (.int .i64 (zIW nm n.slots))∧W=w' :=
  fun W hW=>zBx w.heap.size (some ⟨g,0,none⟩) c nm n.slots W (fB.keep fun p _=>by unfold World.cell?;rw [hW]) (by omega)
 unfold zCq;go_enter Tryz.func101,Tryz.ntmps101;have fW:=hid h;have fQ:=hid fI;have fX:=hid ho;obtain⟨len,fE⟩:∃ len,len=n.slots.length:=⟨_,rfl⟩;have fJ:=hid fE;have fY:=hid hk;have fK:=hid fG;rw [fP,←fE] at fD;rw [←fE] at fN fT c5 fA fC fS fB;have fZ:=hid fC;have gA:Chg (Of own i0) w (w.setCell ⟨g,k,none⟩ (.string ⟨#[]⟩)).drew:=((Ay _ w).setCell (p:=⟨g,k,none⟩) (fun _=>.inr (.inr (.inl (ho.s g (by rw [fG];rfl))))) _).drew;have fM:Chg (fun b=>b=g) w (w.setCell ⟨g,k,none⟩ (.string ⟨#[]⟩)).drew:=((Ay (fun b=>b=g) w).setCell (p:=⟨g,k,none⟩) (fun _=>rfl) _).drew;have fR:Blk (w.setCell ⟨g,k,none⟩ (.string ⟨#[]⟩)).drew a.nb 110 (zB7 a n):=h.blk.chg fM (fun e=>fU e.symm);have gB:=zAt.chg hm fM (fun e=>fO e.symm)
 have d6:(w.setCell ⟨g,k,none⟩ (.string ⟨#[]⟩)).cell? ⟨a.nb,6,none⟩=some (.map (some nb)):=by rw [←fF];exact fR.cell 6
 have gG:=hid fB;clear fE h fI hm fA fC hk fG fP fB ho;have fH:=hid fD;clear fD;go_wp2_with fail
 go_region_with (go_at_call 104;refine (fH.o _ (by rfl)).mono ?_;rintro e w' ⟨rfl,rfl⟩)
 all_goals
  go_wp2_with (first
   | (at_delete;refine zDv _ rfl _ _ 101 rfl kStr Ak gB rfl nm rfl (keyS nm (by unfold maxLen;omega)) ?_;intro w2 gC gD))
  go_end0
  have fL:=zAP gD;have hC:Chg (Of own i0) w w2:=gA.trans fL (fun _ _ h=>h) (fun b _ h=>by subst h;exact .inr (.inr (.inr (fX.o.nm _ fF))));have hX:Chg (fun b=>b=g∨b=nb) w w2:=fM.trans fL (fun _ _ h=>.inl h) (fun b _ h=>.inr h);refine⟨rfl,?_,hC⟩
  have es:(n.clear nm).slots=n.slots.set k emp:=by simp only [PN.clear,fY.o]
  have:=fW.o.turn (n':=n.clear nm) (s':=a.s) hX (fun b e hb=>?_) ?_ ?_ ?_ rfl rfl
  · exact this
  · rcases hb with hb | hb
    · exact (fQ.o.2.2.2.2.1 g b (by rw [fK.o];rfl) e) hb.symm
    · exact (fQ.o.2.2.2.2.2 nb b fF e) hb.symm
  · exact fR.chg fL (fun e=>fV e.symm)
  · rw [es,Ag,←zJv,fK.o,←fJ.o];exact zAy fZ.o.drew fL fun x hx e=>fO ((Az hx).trans e)
  · rw [fF];exact gC
section
variable {w:World} {own:Nat→Option Role} {lay:Nat→NA} {p mb d:Nat} {T:PT} {n:PN}
theorem zBh (h:PlainAt w own lay p mb T) (hT:T.Ok) (hg:zAe d T.nodes=some n) (hd:n.dir=true) {nm:ByteArray} {k:Nat} (hk:zAh nm n.slots=some k) (hs:nm.size≤1000000) :
 Calls Ai 101 #[.pointer (some ⟨(lay d).nb,0,none⟩),.string nm] w fun e w'=>e=.returned (.tuple #[])∧PlainAt w' own lay p mb (T.upd d (n.clear nm))∧Chg (fun b=>own b≠none) w w':=by
 have fA:=h.get hg;obtain⟨nb,fB⟩:=fA.dirs hd;have ho:=h.owns _ (zAf hg);refine (zKc own d (lay d) n nb k nm w fA ho (hT.get hg).1 fB hk hs).mono ?_;rintro e w' ⟨he,h1,h2⟩;have:=h.upd hT.ris hg h2 (fun b _ hb=>hb) h1 rfl (Ext.refl _ _) (fun b r e=>Ao (h.lt b r e) h2.size) ho;rw [zEY] at this;exact⟨he,this,Chg.of_of h2⟩
theorem zBC (h:PlainAt w own lay p mb T) (hT:T.Ok) (hg:zAe d T.nodes=some n) (hd:n.dir=true) {nm:ByteArray} {k j:Nat} (hk:k≤n.slots.length) (fB:k<1068) (hs:nm.size≤1000000) :
 Calls Ai 98 #[.pointer (some ⟨(lay d).nb,0,none⟩),.int .i64 (k:Int),.string nm,.int .i64 (j:Int)] w fun e w'=>e=.returned (.tuple #[])∧zAv own p mb (T.upd d (n.set k nm j)) w w':=by
 have fA:=h.get hg;obtain⟨nb,fC⟩:=fA.dirs hd;have ho:=h.owns _ (zAf hg);refine (nset_any own d (lay d) n nb k j nm w fA ho h.lt (hT.get hg).1 fC hk fB hs).mono ?_;rintro e w' ⟨he,s',own',h1,h2,h3,h4,h5⟩;exact⟨he,own',_,h.upd hT.ris hg h2 (fun b _ hb=>hb) h1 rfl h3 h5 h4,h3,Chg.of_of h2⟩
end
section
variable {w:World} {own:Nat→Option Role} {lay:Nat→NA} {p mb i:Nat} {T:PT}
theorem PlainAt.lookNo (h:PlainAt w own lay p mb T) (hg:zAe i T.nodes=none) (hi:i≤1000000000):(Instr.lookup 96 (.map (some mb)) (.int .i64 (i:Int)) false).run Ai w=.ok (.pointer none) w:=by
 have:=h.nodes.look zD3 Aj (zPtr w) (zHW i hi);rw [PlainAt.look,hg] at this;exact this
end
theorem zDM (own:Nat→Option Role) (lay:Nat→NA) (p mb:Nat) (T:PT) (w:World) (h:PlainAt w own lay p mb T) (hT:T.Wf) :
 Calls Ai 96 #[.pointer (some ⟨p,0,none⟩)] w fun e w'=>e=.returned (zAS T.free)∧w=w':=by
 have c1:=h.c1;have c2:=h.c2;have fF:=hT.ok.ino;have fI:=hid hT;have hH:=hid h;go_enter Tryz.func96,Tryz.ntmps96;obtain⟨io,fC⟩:∃ io,io=T.inodes:=⟨_,rfl⟩;have fB:=hid fC;rw [←fC] at c1 fF;clear fC hT h;go_wp2
 go_loop [3] (fun i=>∃ k:Nat,2≤k∧i=.int .i64 (k:Int)∧k≤io+3∧Hid (zA5 T (T.inodes+3-k) k=T.free)) (fun i=>io+3-(intOf i).toNat)
 case atStart=>exact⟨2,Aq _,rfl,by omega,rfl⟩
 case round =>
  obtain⟨k,hk,rfl,fJ,hf⟩:=hrel;by_cases fE:k≤io
  · have fA:=hf.o;rw [←fB.o,show io+3-k=(io+2-k)+1 by omega,zA5,←fB.o,if_neg (by omega)] at fA
    have fG:decide ((k:Int)≤(io:Int))=true:=by simpa using fE
    cases hg:zAe k T.nodes with
    | none =>
     rw [hg] at fA;have fD:=hid fA;have fH:=hH.o.lookNo hg (by omega);clear fA hf hg;go_wp2;go_ret;exact⟨by rw [←fD.o];rfl,rfl⟩
    | some n =>
     rw [hg] at fA;have fD:=hid fA;have fH:=hH.o.lookI hg (by omega);clear fA hf hg;go_wp2;go_round
     case rel=>exact⟨k+1,by omega,by go_num,by omega,by rw [←fB.o,show io+3-(k+1)=io+2-k by omega];exact fD.o⟩
     case measure=>simp [intOf];omega
  · have fG:decide ((k:Int)≤(io:Int))=false:=by simpa using fE
    have fA:=hf.o
    have hz:zA5 T (T.inodes+3-k) k=0:=by
     cases hm:T.inodes+3-k with
     | zero=>rfl
     | succ m=>rw [zA5,if_pos (by have:=fB.o;omega)]
    rw [hz] at fA;have fD:=hid fA;clear fA hf hz;go_wp2;go_ret;exact⟨by rw [←fD.o];rfl,rfl⟩
theorem zJ6 (B:Nat) (A:Option Addr) (c:Nat) (xs:List ByteArray) (w:World) (hs:Sees w B 1 A xs.length (strs xs)) (hB:B≤w.heap.size) (hl:xs.length≤1000000) :
 Calls Ai 128 #[.slice A xs.length c] w fun e w'=>∃ v',e=.returned v'∧w'.ownsRow w.heap.size 9 1 v' xs.length (strs xs)∧Below w.heap.size w w':=by
 go_enter Tryz.func128,Tryz.ntmps128
 have hq:∀ n c',(binOp .eql 108 (.slice A n c') (.slice none 0 0)).run Ai w=.ok (.bool A.isNone) w:=fun n c'=>by
  have h:∀ d:Nat,(Op.equalIn (d+1) 108 (.slice A n c') (.slice none 0 0)).run Ai w=.ok A.isNone w:=fun d=>by
   cases A<;>simp [Op.equalIn,run_underlying (P:=Ai) Al]
  simp only [binOp];simp [Op.equal,Op.maxDepth,h 9999]
 have fA:=hq xs.length c;clear hq;rcases A with _ | ad
 · have hx:xs=[]:=by
    cases xs with
    | nil=>rfl
    | cons x xs=>obtain⟨b,off,e,_⟩:=hs.at_ (by simp);cases e
   subst hx;simp only [Ab,Option.isNone_none] at fA;simp only [Ab];go_wp2;go_ret;exact⟨_,rfl,⟨rfl,.inl ⟨rfl,rfl⟩⟩,Au _ _⟩
 · simp only [Option.isNone_some] at fA;obtain⟨i0,hi,fC,fD,fE⟩:=AB zGw;have fB:Below w.heap.size w (w.alloc (.cells #[] 9)):=br.alloc nr _;have fF:(w.alloc (.cells #[] 9)).ownsRow w.heap.size 9 1 (.slice (some ⟨w.heap.size,0,none⟩) 0 0) 0 []:=⟨rfl,.inr ⟨w.heap.size,0,#[],rfl,Aq _,heap_alloc_new w _,Aq _,by unfold maxLen;omega,rfl,rfl⟩⟩
   have h1:∀ u∈strs xs,u.oneCell'=true:=by
    intro u hu;obtain⟨b,_,rfl⟩:=List.mem_map.1 hu;rfl
   go_wp2_with (first
    | (at_builtin;refine zAg _ rfl _ _ _ _ rfl w.heap.size 9 i0 (.string ⟨#[]⟩) 1 16 Al hi fC fD fE rfl _ 0 [] rfl fF xs.length (strs xs) (zCn _ Al c ((hs.more hB).below fB) h1) (by unfold maxLen;omega) (by omega) (by simp) ?_;intro v' w' fG fH fI)
    | go_in)
   go_wp2;go_ret;exact⟨_,rfl,by simpa using fG,fB.grown fH (by simp) (fun g e=>by simp [Act.eval,AA] at e;omega)⟩
theorem idxV_none {x:ByteArray} {l:List ByteArray} (h:zAh x l=none):zIW x l=-1:=by unfold zIW;rw [h]
theorem zE4 {x:ByteArray} {l:List ByteArray} {k:Nat} (h:zAh x l=some k):zIW x l=k:=by unfold zIW;rw [h]
theorem PnAt.sees {w:World} {a:NA} {n:PN} (h:PnAt w a n):∃ A c,a.s=.slice A n.slots.length c∧n.slots.length≤c∧Sees w w.heap.size 1 A n.slots.length (strs n.slots):=by
 have fA:=h.slots;obtain⟨A,c,hv,h1⟩:=AD (B:=w.heap.size) fA fun g hg=>(Aw fA g hg).2;refine⟨A,c,hv,?_,h1⟩;rcases fA.2 with ⟨e,e2⟩ | ⟨g,cap,cur,e,_,_,hnc,_⟩
 · omega
 · rw [hv] at e;injection e with e1 e2 e3;omega
theorem zB1 (own:Nat→Option Role) (lay:Nat→NA) (p mb i:Nat) (T:PT) (n:PN) (w:World) (h:PlainAt w own lay p mb T) (hT:T.Wf) (hg:zAe i T.nodes=some n) :
 Calls Ai 97 #[.pointer (some ⟨p,0,none⟩),.pointer (some ⟨(lay i).nb,0,none⟩)] w fun e w'=>e=.returned (.tuple #[zAS (T.place n).1,zAS (T.place n).2])∧Below w.heap.size w w':=by
 have hn:=(hT.ok.get hg).1;have fI:=h.get hg;obtain⟨A,c,fO,gG,hs⟩:=fI.sees;have c5:=fI.c5;rw [fO] at c5;have fT:=hn.slots;have fA:=zBx w.heap.size A c emp n.slots w hs (by omega);have fB:=zJ6 w.heap.size A c n.slots w hs nr (by omega);have hH:=hid h;have gH:=hid hT;have gR:=hid fI;have gA:=hid hn;have gI:=hid hg;go_enter Tryz.func97,Tryz.ntmps97;generalize fP:(lay i).nb=nb at *;have fU:=hid fP
 cases hf:zAh emp n.slots with
 | some k =>
  have gB:T.place n=(k,0):=by unfold PT.place;rw [hf]
  rw [zE4 hf] at fA;rw [gB];clear hf gB fP h fI hs fO hT hn hg fB;unfold emp at fA;go_wp2_with (first | (go_at_call 104;refine fA.mono ?_;rintro e w' ⟨rfl,rfl⟩))
  go_ret2
  exact⟨rfl,Au _ _⟩
 | none =>
  rw [idxV_none hf] at fA;unfold emp at fA
  have fD:T.place n=if n.slots.length=1068 then (0,112) else if T.room n.count (zDw (Ah (n.slots.length+1))) then (n.slots.length,0) else (0,80):=by unfold PT.place;rw [hf]
  obtain⟨len,fF⟩:∃ len,len=n.slots.length:=⟨_,rfl⟩;have fJ:=hid fF;rw [←fF] at fD fA fB fT c5 gG;by_cases fE:len=1068
  · subst fE;rw [if_pos rfl] at fD;rw [fD];clear hf fD fP h fI hs fO hT hn hg fB fF;go_wp2_with (first | (go_at_call 104;refine fA.mono ?_;rintro e w' ⟨rfl,rfl⟩))
    go_ret2
    exact⟨rfl,Au _ _⟩
  · rw [if_neg fE] at fD
    have gS:((len:Int)==1068)=false:=by simp;omega
    have gJ:len<1068:=by omega
    have fK:=hid fD;obtain⟨i0,hi,gK,gL,gM⟩:=AB zGw;clear hf fD fP h fI hs fO hT hn hg fF fE
    go_upto_region 7 with (first
     | (go_at_call 104;refine fA.mono ?_;rintro e w' ⟨rfl,rfl⟩)
     | (go_at_call 128;refine fB.mono ?_;rintro e w1 ⟨v1,rfl,fL,fV⟩;obtain⟨A1,k1,gN,gO⟩:=AD (B:=w1.heap.size) fL (fun g hg=>(Aw fL g hg).2);subst gN;have gC:=fV.size)
     | (at_builtin;refine zAg _ rfl _ _ _ _ rfl w.heap.size 9 i0 (.string ⟨#[]⟩) 1 16 Al hi gK gL gM rfl (.slice A1 len k1) len (strs n.slots) rfl (fL.alloc _) 1 [.string ⟨#[]⟩] (zCr w1 Al _ _ rfl) (by unfold maxLen;omega) (by omega) (by simp;omega) ?_;intro v2 w2 fW gD fX;obtain⟨A2,k2,gP,gQ⟩:=AD (B:=w2.heap.size) fW (fun g hg=>(Aw fW g hg).2);subst gP))
    have fY:Below w.heap.size w w2:=(fV.trans ((Au _ w1).alloc gC _)).grown gD (Ap gC (by simp)) (fun g e=>(Aw fL g e).1);have fQ:=fY.alloc fY.size (.cells #[.int .i64 0,.int .i64 0,.int .i64 0,.int .i64 0,.map none,.slice A2 (len+1) k2,.map none] 110);have fM:=Blk.new w2 110 [.int .i64 0,.int .i64 0,.int .i64 0,.int .i64 0,.map none,.slice A2 (len+1) k2,.map none];have fZ:=hH.o.fresh fQ;have gE:=gI.o;have fN:=fJ.o
    have fR:=zI1 own lay p mb T nb w2.heap.size n.count (zDw (Ah (len+1))) _ fZ gH.o.ok (fun W hb=>by rw [←fU.o];exact zDL ((fZ.fresh hb).get gE) gA.o) gA.o.count
     (fun W hb=>zFI w2.heap.size A2 (len+1) k2 W ((hb.cell (p:=⟨w2.heap.size,4,none⟩) fM.lt).trans (fM.cell 4)) ((hb.cell (p:=⟨w2.heap.size,5,none⟩) fM.lt).trans (fM.cell 5)) (by omega)) (by have:=cntK_le (Ah (len+1));rw [List.length_range] at this;omega)
    unfold zCq at fR;have gF:decide (((zDw (Ah (len+1)):Nat):Int)-(n.count:Int)≤(T.sectors:Int)-1-T.inodes-T.used)=T.room n.count (zDw (Ah (len+1))):=rfl;rw [gF] at fR;clear gF;have fC:=fK.o;have c5':=(fQ.cell (p:=⟨nb,5,none⟩) (World.block_lt_of_cell? _ _ c5)).trans c5;generalize T.room n.count (zDw (Ah (len+1)))=r at *;have fG:=hid fQ;clear fY fQ fM fZ gE fN c5 fK fL fW gO gQ fX gD fV fB fA;generalize w2.alloc (.cells #[.int .i64 0,.int .i64 0,.int .i64 0,.int .i64 0,.map none,.slice A2 (len+1) k2,.map none] 110)=w3 at *;generalize w2.heap.size=z at *
    cases r with
    | true =>
     simp only [if_true] at fC;have fH:=hid fC;clear fC;go_wp2_with (first | (go_at_call 129;refine fR.mono ?_;rintro e w4 ⟨rfl,fS⟩;have c5'':=(fS.cell (p:=⟨nb,5,none⟩) (World.block_lt_of_cell? _ _ c5')).trans c5'))
     go_ret2
     exact⟨by rw [fH.o];rfl,fG.o.trans (fS.mono fG.o.size)⟩
    | false =>
     simp only [Bool.false_eq_true,if_false] at fC;have fH:=hid fC;clear fC;go_wp2_with (first | (go_at_call 129;refine fR.mono ?_;rintro e w4 ⟨rfl,fS⟩))
     go_ret2
     exact⟨by rw [fH.o];rfl,fG.o.trans (fS.mono fG.o.size)⟩
theorem zDZ (own:Nat→Option Role) (lay:Nat→NA) (p mb i:Nat) (T:PT) (n:PN) (w:World) (h:PlainAt w own lay p mb T) (hT:T.Ok) (hg:zAe i T.nodes=some n) (hl:1≤n.links) :
 Calls Ai 102 #[zCq p,zAS i] w fun e w'=>e=.returned (.tuple #[])∧zAv own p mb (T.less i) w w':=by
 have fX:=hT.get hg;have gD:=hT.ino;have fK:=fX.1.links;have c2:=h.c2;have gE:=h.lookI hg (by omega);have fB:=h.get hg;have k1:=fB.c1;have k0:=fB.c0;have f1:=fB.blk.frozen 1;have ho:=h.owns _ (zAf hg);obtain⟨m,hm⟩:∃ m,n.links=m+1:=⟨n.links-1,by omega⟩;have fE:Chg (fun b=>b=(lay i).nb) w (w.setCell ⟨(lay i).nb,1,none⟩ (.int .i64 (m:Int))):=(Ay (fun b=>b=(lay i).nb) w).setCell (p:=⟨(lay i).nb,1,none⟩) (fun _=>rfl) _
 have fU:PnAt (w.setCell ⟨(lay i).nb,1,none⟩ (.int .i64 (m:Int))) (lay i) {n with links:=m}:=by
  have fL:=ho.apart;refine⟨?_,fB.data.chg fE fun b e=>fL.1 b e,zAy fB.slots fE fun b e=>fL.2.1 b e,fB.names.chg fE fun b e=>fL.2.2.1 b e,fB.dirs,fB.files⟩;exact fB.blk.set_ 1 _
 have fC:=h.upd hT.ris hg fE (fun b _ e=>by subst e;exact .inl ho.nb) fU rfl (Ext.refl _ _) (fun b r e=>Ao (h.lt b r e) fE.size) ho;rw [zEY] at fC;have fI:zAe i (T.upd i {n with links:=m}).nodes=some {n with links:=m}:=zAr zAG i _ _;have d2:=fC.c2;have fY:=fC.lookI fI (by omega);have k1':=(fC.get fI).c1;have k0':=(fC.get fI).c0;have fV:=fC.nodes;have fW:zAv own p mb (T.upd i {n with links:=m}) w (w.setCell ⟨(lay i).nb,1,none⟩ (.int .i64 (m:Int))):=.of fC (Ext.refl _ _) (fE.mono fun b _ e=>by subst e;rw [ho.nb];simp);have fM:=hid fW;have fJ:=hid fC;have gF:=hid ho
 have fZ:(List.map (fun x=>(x.1,(lay x.1).nb)) (T.upd i {n with links:=m}).nodes).length≤1000:=by
  rw [List.length_map];have:=zBi zAG i {n with links:=m} T.nodes;have:=hT.len
  show (zA2 zAG i _ T.nodes).length≤1000
  omega
 have fD:T.less i=if m=0∨n.dir=true then T.del i else T.upd i {n with links:=m}:=by
  unfold PT.less;rw [hg];simp only [hm,An]
 have fN:=hid fD;rw [hm] at k1 fK;simp only at k1' k0';unfold zCq zAS;clear fD fW fC ho fU fB h hg fI hT fE hm;go_enter Tryz.func102,Tryz.ntmps102;generalize (lay i).nb=nb at *;generalize fO:({n with links:=m}:PN).kind=kd at k0' k0;have fA:n.kind=kd:=fO;rw [fA] at k0;by_cases hz:m=0
 · have gA:((m:Int)==0)=true:=by simp;omega
   have fP:=hid hz;clear hz
   go_wp2_with (first
    | (at_delete;refine zDv _ rfl _ _ 96 rfl zD3 Aj fV rfl i rfl (zHW i (by omega)) ?_;intro w2 fQ fR))
   go_end0
   refine⟨rfl,?_⟩;have fG:=zAP fR;obtain⟨-,-,gB,gC,fS⟩:=fM.o;have fH:=fJ.o.del (i:=i) fG (fun b _ e=>.inr e) fQ
   have e:(T.upd i {n with links:=m}).del i=T.del i:=by unfold PT.del PT.upd;simp only [zGk]
   rw [e] at fH;rw [fN.o,if_pos (.inl fP.o)];exact .of fH (Ext.refl _ _) (fS.trans fG (fun _ _ h=>h) fun b _ e=>by subst e;rw [fJ.o.ownm];simp)
 · have gA:((m:Int)==0)=false:=by simp;omega
   have fP:=hid hz;clear hz
   cases hd:n.dir with
   | true =>
    have fF:kd=2:=by rw [←fA];exact zAW hd
    subst fF;have fT:=hid hd;clear hd fO fA
    go_wp2_with (first
    | (at_delete;refine zDv _ rfl _ _ 96 rfl zD3 Aj fV rfl i rfl (zHW i (by omega)) ?_;intro w2 fQ fR))
    go_end0
    refine⟨rfl,?_⟩;have fG:=zAP fR;obtain⟨-,-,gB,gC,fS⟩:=fM.o;have fH:=fJ.o.del (i:=i) fG (fun b _ e=>.inr e) fQ
    have e:(T.upd i {n with links:=m}).del i=T.del i:=by unfold PT.del PT.upd;simp only [zGk]
    rw [e] at fH;rw [fN.o,if_pos (.inr fT.o)];exact .of fH (Ext.refl _ _) (fS.trans fG (fun _ _ h=>h) fun b _ e=>by subst e;rw [fJ.o.ownm];simp)
   | false =>
    have fF:kd=1:=by rw [←fA];exact zAx hd
    subst fF;have fT:=hid hd;clear hd fO fA;go_wp2
    go_end0
    refine⟨rfl,?_⟩;rw [fN.o,if_neg (fun h=>h.elim fP.o (fun h=>by rw [fT.o] at h;cases h))];exact fM.o
def stC (s:St):List Value:=[.int .i64 s.ino,.int .i64 s.kind,.int .i64 s.links,.int .i64 s.size,.int .i64 s.made,.int .i64 s.blocks]
def stV (s:St):Value:=.agg (stC s).toArray
theorem chg6 (w:World) (g:Nat) (v0 v1 v2 v3 v4 v5:Value):Chg (fun b=>b=g) w ((((((w.setCell ⟨g,0,none⟩ v0).setCell ⟨g,1,none⟩ v1).setCell ⟨g,2,none⟩ v2).setCell ⟨g,3,none⟩ v3).setCell ⟨g,4,none⟩ v4).setCell ⟨g,5,none⟩ v5) :=
 ((((((Ay (fun b=>b=g) w).setCell (p:=⟨g,0,none⟩) (fun _=>rfl) v0).setCell (p:=⟨g,1,none⟩) (fun _=>rfl) v1).setCell (p:=⟨g,2,none⟩) (fun _=>rfl) v2).setCell (p:=⟨g,3,none⟩) (fun _=>rfl) v3).setCell (p:=⟨g,4,none⟩) (fun _=>rfl) v4).setCell (p:=⟨g,5,none⟩) (fun _=>rfl) v5
theorem zI5 {w:World} {g:Nat} {t:TypeId} {a0 a1 a2 a3 a4 a5:Value} (h:Blk w g t [a0,a1,a2,a3,a4,a5]) (v0 v1 v2 v3 v4 v5:Value) :
 Blk ((((((w.setCell ⟨g,0,none⟩ v0).setCell ⟨g,1,none⟩ v1).setCell ⟨g,2,none⟩ v2).setCell ⟨g,3,none⟩ v3).setCell ⟨g,4,none⟩ v4).setCell ⟨g,5,none⟩ v5) g t [v0,v1,v2,v3,v4,v5]:=((((((h.set_ 0 v0).set_ 1 v1).set_ 2 v2).set_ 3 v3).set_ 4 v4).set_ 5 v5)
theorem zDx (own:Nat→Option Role) (lay:Nat→NA) (p mb i:Nat) (T:PT) (n:PN) (w:World) (h:PlainAt w own lay p mb T) (hT:T.Ok) (hg:zAe i T.nodes=some n) :
 Calls Ai 99 #[.pointer (some ⟨p,0,none⟩),.int .i64 (i:Int)] w fun e w'=>e=.returned (stV (T.stat i))∧Below w.heap.size w w':=by
 have fQ:=hT.get hg;have gG:=hT.ino;have fK:Below w.heap.size w (w.alloc (.cells #[.int .i64 0,.int .i64 0,.int .i64 0,.int .i64 0,.int .i64 0,.int .i64 0] 63)):=br.alloc nr _;have fB:=h.fresh fK;have fD:=Blk.new w 63 [.int .i64 0,.int .i64 0,.int .i64 0,.int .i64 0,.int .i64 0,.int .i64 0]
 have fR:T.stat i=⟨i,n.kind,n.links,n.size,n.made,n.count⟩:=by unfold PT.stat;rw [hg]
 have fE:=h.get hg;have fY:=fE.blk.lt;go_enter Tryz.func99,Tryz.ntmps99;go_upto_region 1 with (fail)
 replace fD:Blk (w.alloc (.cells #[.int .i64 0,.int .i64 0,.int .i64 0,.int .i64 0,.int .i64 0,.int .i64 0] 63)) w.heap.size 63 [.int .i64 0,.int .i64 0,.int .i64 0,.int .i64 0,.int .i64 0,.int .i64 0]:=fD
 generalize w.alloc (.cells #[.int .i64 0,.int .i64 0,.int .i64 0,.int .i64 0,.int .i64 0,.int .i64 0] 63)=w0 at *;generalize fS:w.heap.size=g at *;have fT:=hid fS;clear fS;have c2:=fB.c2;have gH:=fB.lookI hg (by omega);have fF:=fB.get hg;have k0:=fF.c0;have k1:=fF.c1;have k2:=fF.c2;have k3:=fF.c3;have fZ:=fD.lt;have fU:PnAt w0.drew (lay i) n:=(fB.drew).get hg
 have gA:(lay i).nb≠g:=by omega
 have fV:∀ w1,Below w0.heap.size w0 w1→PnAt w1 (lay i) n:=fun w1 hb=>(fB.fresh hb).get hg
 have fG:∀ w1 v0 v1 v2 v3 v4 v5,PnAt w1 (lay i) n→PnAt ((((((w1.setCell ⟨g,0,none⟩ v0).setCell ⟨g,1,none⟩ v1).setCell ⟨g,2,none⟩ v2).setCell ⟨g,3,none⟩ v3).setCell ⟨g,4,none⟩ v4).setCell ⟨g,5,none⟩ v5) (lay i) n:=fun w1 v0 v1 v2 v3 v4 v5 h1=>by
  have ho:=fB.owns _ (zAf hg)
  have fL:∀ b r,own b=some r→b<g:=fun b r e=>by rw [←fT.o];exact h.lt b r e
  refine h1.chg (chg6 w1 g v0 v1 v2 v3 v4 v5) gA (fun b e hb=>?_) (fun b e hb=>?_) (fun b e hb=>?_)
  · have:=fL _ _ (ho.d b e);omega
  · have:=fL _ _ (ho.s b e);omega
  · have:=fL _ _ (ho.nm b e);omega
 have fH:=fun W (hn:PnAt W (lay i) n)=>zDL hn fQ.1;have gB:=hid fV;have gC:=hid fG;have gD:=hid fD;have gE:=hid fK;have fM:=hid fU;have fN:=hid fR;have fW:=hid fH;clear fV fG fD fK fU fR fF fB fE h fH hT fQ;unfold zCq at fW;generalize fX:(lay i).nb=nb at *;have fO:=hid fX;clear fX;go_upto_region 2 with (fail)
 go_region_held3 (fun w'=>w'.cell? ⟨nb,0,none⟩=some (.int .i64 n.kind)∧w'.cell? ⟨nb,1,none⟩=some (.int .i64 (n.links:Int))∧w'.cell? ⟨nb,2,none⟩=some (.int .i64 (n.size:Int))∧w'.cell? ⟨nb,3,none⟩=some (.int .i64 (n.made:Int)))
  (first | go_keep)
  (first
   | (go_at_call 57;refine (fW.o w0.drew fM.o).mono ?_;rintro e w1 ⟨rfl,fJ⟩;have fC:=gB.o w1 (zBM fJ);have d0:=fC.c0;have d1:=fC.c1;have d2:=fC.c2;have d3:=fC.c3;have fA:=gD.o.fresh (zBM fJ);have f0:=fA.frozen 0;have q0:=fA.cell 0;have f1:=fA.frozen 1;have q1:=fA.cell 1;have f2:=fA.frozen 2;have q2:=fA.cell 2;have f3:=fA.frozen 3;have q3:=fA.cell 3;have f4:=fA.frozen 4;have q4:=fA.cell 4;have f5:=fA.frozen 5;have q5:=fA.cell 5;have fI:=gC.o w1 (.int .i64 (i:Int)) (.int .i64 n.kind) (.int .i64 (n.links:Int)) (.int .i64 (n.size:Int)) (.int .i64 (n.made:Int)) (.int .i64 (n.count:Int)) fC;have e0:=fI.c0;have e1:=fI.c1;have e2:=fI.c2;have e3:=fI.c3;rw [fO.o] at d0 d1 d2 d3 e0 e1 e2 e3;clear fI fC))
 have fP:=zI5 fA (.int .i64 (i:Int)) (.int .i64 n.kind) (.int .i64 (n.links:Int)) (.int .i64 (n.size:Int)) (.int .i64 (n.made:Int)) (.int .i64 (n.count:Int));have gF:=(gE.o.trans ((zBM fJ).mono (Ar fZ))).trans ((chg6 w1 g (.int .i64 (i:Int)) (.int .i64 n.kind) (.int .i64 (n.links:Int)) (.int .i64 (n.size:Int)) (.int .i64 (n.made:Int)) (.int .i64 (n.count:Int))).below (show g≤w1.heap.size by have:=(zBM fJ).size;omega) fun b hb e=>by omega);go_wp2;refine AC (results_cell_row rfl _ _ g 63 (#[.int .i64 (i:Int),.int .i64 n.kind,.int .i64 (n.links:Int),.int .i64 (n.size:Int),.int .i64 (n.made:Int),.int .i64 (n.count:Int)]:Array Value) (0,0) _ rfl fP Tryz.underlying63 rfl rfl) rfl ⟨?_,?_⟩
 · rw [fN.o];rfl
 · rw [fT.o];exact gF
theorem zC3 {fn:Func} {t u v x:Tmp} (h:fn.results=#[.tmp t,.tmp u,.tmp v,.tmp x]) (tmps:Array Value) (P:Program) (w:World) :
 (results fn tmps).run P w=.ok (.tuple #[tmps.getD t undef,tmps.getD u undef,tmps.getD v undef,tmps.getD x undef]) w:=by
 simp [results,h]
theorem zBu {T:PT} (hT:T.Wf) (l:List ByteArray) (h0:(T.last l).2=0):∃ n,zAe (T.last l).1 T.nodes=some n∧n.dir=true:=by
 unfold PT.last at h0 ⊢
 split
 · rename_i h;rw [if_pos h] at h0;cases h0
 · rename_i h;rw [if_neg h] at h0;simp only at h0 ⊢;by_cases hc:(T.walk l.dropLast 1).2=0∧T.isDir (T.walk l.dropLast 1).1=false
   · rw [if_pos hc] at h0;cases h0
   · rw [if_neg hc] at h0 ⊢;obtain⟨n,hn⟩:=zBT hT l.dropLast 1 (let ⟨n,h,_⟩:=hT.root;⟨n,h⟩) h0;refine⟨n,hn,?_⟩
     have hd:T.isDir (T.walk l.dropLast 1).1=n.dir:=by unfold Av;rw [hn]
     cases fA:n.dir with
     | true=>rfl
     | false=>exact absurd ⟨h0,by rw [hd,fA]⟩ hc
theorem zEO {T:PT} (hT:T.Wf) (l:List ByteArray):(T.last l).1≤512:=by
 have:=zHP hT l.dropLast;unfold PT.last
 split
 · simp
 · simp only
   split
   · exact this
   · exact this
theorem zB0 {l:List ByteArray} (h:∀ x∈l,x.size≤1000000):(zAM l).size≤1000000:=by
 unfold zAM;rw [Ac]
 cases hl:l.getLast? with
 | none=>simp [emp,ByteArray.size]
 | some x=>exact h x (List.mem_of_getLast? hl)
theorem zFS (own:Nat→Option Role) (lay:Nat→NA) (p mb:Nat) (T:PT) (B:Nat) (A:Option Addr) (c:Nat) (l:List ByteArray) (w:World) (h:PlainAt w own lay p mb T) (hT:T.Wf)
 (hs:Sees w B 1 A l.length (strs l)) (hl:l.length≤1000000) (hc:l.length≤c) (hx:∀ x∈l,x.size≤1000000) :
 Calls Ai 100 #[.pointer (some ⟨p,0,none⟩),.slice A l.length c] w fun e w'=>e=.returned (.tuple #[zAS (T.entry l).1,.string (T.entry l).2.1,zAS (T.entry l).2.2.1,zAS (T.entry l).2.2.2])∧Below w.heap.size w w':=by
 have fA:=zC6 own lay p mb T B A c l w h hT hs hl hc hx;have hH:=hid h;have fL:=hid hT;have fM:=zB0 hx;have fC:=zBu hT l;have fH:=zEO hT l
 have fB:T.entry l=if (T.last l).2≠0 then (0,emp,0,(T.last l).2) else match (zAe (T.last l).1 T.nodes).bind fun d=>zAe (zAM l) d.names with | none=>(0,emp,0,110) | some j=>((T.last l).1,zAM l,j,0):=rfl
 go_enter Tryz.func100,Tryz.ntmps100;generalize T.last l=r at *;obtain⟨i,e⟩:=r;generalize zAM l=nm at *;simp only at fC fH fB fA;unfold zAS at fA;clear h hT hs hx;generalize l.length=len at *;by_cases he:e=0
 · subst he;obtain⟨n,hn,hd⟩:=fC rfl;rw [if_neg (by simp),hn] at fB;simp only [Option.bind_some] at fB
   cases hg:zAe nm n.names with
   | none =>
    rw [hg] at fB;have fF:=hid fB;clear fB fC hd;go_wp2_with (first | (go_at_call 95;refine fA.mono ?_;rintro e w1 ⟨rfl,fE⟩;have fD:=hH.o.fresh fE;have c2:=fD.c2;have fI:=fD.lookI hn (by omega);have k6:=(fD.get hn).c6;have fG:=(fD.get hn).lookN nm (by omega);rw [hg] at fG;simp only [orV,As] at fG;have fJ:=hid hg;have fK:=hid hn;clear hg hn fD));refine AC (zC3 rfl _ _ _) rfl ⟨?_,fE⟩;rw [fF.o];rfl
   | some j =>
    rw [hg] at fB;have fF:=hid fB;clear fB fC hd;go_wp2_with (first | (go_at_call 95;refine fA.mono ?_;rintro e w1 ⟨rfl,fE⟩;have fD:=hH.o.fresh fE;have c2:=fD.c2;have fI:=fD.lookI hn (by omega);have k6:=(fD.get hn).c6;have fG:=(fD.get hn).lookN nm (by omega);rw [hg] at fG;simp only [orV,At,zAS] at fG;have fJ:=hid hg;have fK:=hid hn;clear hg hn fD));refine AC (zC3 rfl _ _ _) rfl ⟨?_,fE⟩;rw [fF.o];rfl
 · rw [if_pos he] at fB
   have fN:((e:Int) != 0)=true:=by simp;omega
   have fF:=hid fB;clear fB fC he;go_wp2_with (first | (go_at_call 95;refine fA.mono ?_;rintro e w1 ⟨rfl,fE⟩));refine AC (zC3 rfl _ _ _) rfl ⟨?_,fE⟩;rw [fF.o];rfl
theorem PT.rk_le (T:PT) (rk:Nat→Nat) {j:Nat} (h:T.isDir j=true):rk j≤(T.nodes.map fun p=>rk p.1).sum:=by
 unfold Av at h
 cases hg:zAe j T.nodes with
 | none=>rw [hg] at h;cases h
 | some n =>
  have hm:=zAf hg
  have:∀ (l:List (Nat×PN)),(j,n)∈l→rk j≤(l.map fun p=>rk p.1).sum:=by
   intro l
   induction l with
   | nil=>intro h;cases h
   | cons y r ih =>
    intro h;rw [Af,List.sum_cons];rcases List.mem_cons.1 h with rfl | h
    · simp
    · have:=ih h;omega
  exact this _ hm
theorem zAm {T:PT} {i:Nat} {n:PN} (h:zAe i T.nodes=some n):T.isDir i=n.dir:=by unfold Av;rw [h]
def UndP (T:PT) (d i:Nat) (w:World) (e:Ending) (w':World):Prop:=(∃ b:Bool,e=.returned (.bool b)∧(b=true↔T.Und d i))∧Below w.heap.size w w'
theorem zFR (own:Nat→Option Role) (lay:Nat→NA) (p mb:Nat) (T:PT) (hT:T.Wf) (rk:Nat→Nat) (hr:T.Ranked rk) (N:Nat) (hN:∀ j,T.isDir j=true→rk j≤N) (d:Nat) (_hd:d≤512) (m:Nat):∀ (i:Nat) (w:World),T.isDir i=true→N<rk i+m→PlainAt w own lay p mb T →
 Calls Ai 103 #[.pointer (some ⟨p,0,none⟩),.int .i64 (d:Int),.int .i64 (i:Int)] w (UndP T d i w):=by
 induction m with
 | zero=>intro i w hi hm;have:=hN i hi;omega
 | succ m ih =>
  intro i w hi hm h
  obtain⟨n,hn⟩:∃ n,zAe i T.nodes=some n:=by
   cases hg:zAe i T.nodes with
   | none=>unfold Av at hi;rw [hg] at hi;cases hi
   | some n=>exact⟨n,rfl⟩
  have fT:n.dir=true:=by rw [←zAm hn];exact hi
  have fU:=hT.ok.get hn;have jA:=hT.ok.ino;have fH:=h.get hn;obtain⟨nb,fP⟩:=fH.dirs fT;by_cases he:d=i
  · subst he
    have jB:((d:Int)==(d:Int))=true:=by simp
    clear ih hr hN fH h hT fU fT hi hm hn fP;go_enter Tryz.func103,Tryz.ntmps103;go_wp2_with fail;go_ret;exact⟨⟨true,rfl,fun _=>.here,fun _=>rfl⟩,Au _ _⟩
  · have jC:((d:Int)==(i:Int))=false:=by simp;omega
    have c2:=h.c2;have jD:=h.lookI hn (by omega);have k6:=fH.c6;rw [fP] at k6;have fV:=fH.names;rw [fP] at fV;have fI:zAt w zAV zAS 9 nb n.names:=fV;have hH:=hid h;have gE:=hid hT;have fQ:=hid hn;have gN:=hid hr;have fW:=hid ih;have jE:=hid hN;have gO:=hid he;have gP:=hid fU.1.nm
    have gF:i≤512:=by omega
    clear ih hr hN fH h hT fU fT hi hn fP he fV;generalize hg:w.heap.size=g at *;have fF:=hid hg;clear hg;go_enter Tryz.func103,Tryz.ntmps103
    go_wp2_with (first
     | (at_range;refine zBE _ rfl _ 101 rfl kStr Ak fI rfl ?_;intro w1 gG gH gQ))
    go_frame
    rw [fF.o] at gH gG;simp only [fF.o];clear fI gQ
    go_loopw [8] (fun _ wr=>∃ todo:ByteArray→Bool,zAO wr zAV zAS 9 nb g n.names.length n.names todo∧Below g w wr∧Hid (∀ nm k,zAe nm n.names=some k→todo nm=false→T.isDir k=true→¬T.Und d k)) (fun _ wr=>wr.rangeLeft nb g)
    case atStart=>exact⟨_,gG,gH,fun nm k h1 h2=>by rw [h1] at h2;cases h2⟩
    case round =>
     obtain⟨todo,hr,hb,fX⟩:=hrel
     go_wp2_with (first
      | (at_next;refine zBS _ rfl _ rfl kStr invS rfl hr ?_ ?_))
     · intro h0;have gR:=hid h0;have gS:=hid hb;clear h0 hb hr;go_wp2_with fail;go_ret;refine⟨⟨false,rfl,⟨fun h=>(by cases h),fun hu=>?_⟩⟩,by rw [fF.o];exact gS.o⟩
       exfalso
       cases hu with
       | here=>exact gO.o rfl
       | step h1 h2 h3 h4 =>
        rw [fQ.o] at h1;obtain rfl:=Az h1;exact fX.o _ _ h2 (gR.o _) h3 h4
     · intro nm k w2 gI fY gJ gK gT gU gV gW;obtain⟨nk,fJ⟩:=gE.o.ents i n nm k fQ.o fY;have fZ:=gE.o.ok.get fJ
       have gA:g≤wr.heap.size:=by have:=hb.size;rw [fF.o] at this;exact this
       have gB:=hb.trans (gT.below gA fun b hb h=>by omega);have fK:=hH.o.fresh (by rw [fF.o];exact gB);have d2:=fK.c2;have gX:=fK.lookI fJ (by omega);have kk0:=(fK.get fJ).c0
       have gL:k≤512:=by omega
       have fR:=zAm fJ;have fB:=hid fY;have gY:=hid gI;have fA:=hid gJ;have fL:=hid gK;have gC:=hid fK;have fD:=hid gB;clear gI fY gJ gK hr gU fK gB fJ fZ;unfold zAS at gV
       cases fG:nk.dir with
       | false =>
        rw [zAx fG] at kk0;have fE:=hid (show T.isDir k=false by rw [fR,fG]);clear fR fG;go_wp2_with fail;go_roundw
        case rel =>
         refine⟨_,fA.o,fD.o,fun nm' k' h1 h2 h3=>?_⟩;by_cases e:nm'=nm
         · subst e;rw [fB.o] at h1;obtain rfl:=Az h1;rw [fE.o] at h3;cases h3
         · exact fX.o nm' k' h1 (by simpa [e] using h2) h3
        case measure=>exact fL.o
       | true =>
        rw [zAW fG] at kk0
        have fC:T.isDir k=true:=by rw [fR,fG]
        have fE:=hid fC;have fM:=fW.o k w2 fC (by have:=gN.o i n nm k fQ.o fB.o fC;omega) gC.o;clear fR fG fC;go_wp2_with (first | (go_at_call 103;refine fM.mono ?_;rintro e w3 ⟨⟨b,rfl,gM⟩,fS⟩;have fN:=hid gM;clear gM;cases b))
        · have gZ:=fA.o.chg (Ax (S:=fun _=>False) fS) id id;have fO:=zBk (b:=nb) (r:=g) (Ax (S:=fun _=>False) fS) fA.o.owns.lt fA.o.lt id id;have gD:=hid (show w3.rangeLeft nb g<wr.rangeLeft nb g by rw [fO];exact fL.o);clear fO;go_wp2_with fail;go_roundw
          case rel =>
           refine⟨_,gZ,fD.o.trans (fS.mono (Ar fA.o.lt)),fun nm' k' h1 h2 h3=>?_⟩;by_cases e:nm'=nm
           · subst e;rw [fB.o] at h1;obtain rfl:=Az h1;intro hu;have:=fN.o.2 hu;cases this
           · exact fX.o nm' k' h1 (by simpa [e] using h2) h3
          case measure=>exact gD.o
        · go_wp2_with fail;go_ret;refine⟨⟨true,rfl,fun _=>.step fQ.o fB.o fE.o (fN.o.1 (by simp)),fun _=>rfl⟩,?_⟩;rw [fF.o];exact fD.o.trans (fS.mono (Ar fA.o.lt))
theorem zDz {T:PT} (hT:T.Wf) (l:List ByteArray) (h:(T.entry l).2.2.2=0):∃ n m,zAe (T.entry l).1 T.nodes=some n∧n.dir=true∧zAe (T.entry l).2.1 n.names=some (T.entry l).2.2.1∧zAe (T.entry l).2.2.1 T.nodes=some m∧(T.entry l).2.1=zAM l:=by
 unfold PT.entry at h ⊢;simp only at h ⊢;by_cases h0:(T.last l).2=0
 · rw [if_neg (by simpa using h0)] at h ⊢;obtain⟨n,hn,hd⟩:=zBu hT l h0;rw [hn] at h ⊢;simp only [Option.bind_some] at h ⊢
   cases hg:zAe (zAM l) n.names with
   | none=>rw [hg] at h;cases h
   | some j =>
    obtain⟨m,hm⟩:=hT.ents _ n _ j hn hg;exact⟨n,m,hn,hd,hg,hm,rfl⟩
 · rw [if_pos (by simpa using h0)] at h;exact absurd h h0
theorem zIV {T:PT} (hT:T.Wf) (l:List ByteArray):(T.entry l).1≤512∧(T.entry l).2.2.1≤512:=by
 have fA:=hT.ok.ino;by_cases h:(T.entry l).2.2.2=0
 · obtain⟨n,m,h1,-,-,h2,-⟩:=zDz hT l h;have:=hT.ok.get h1;have:=hT.ok.get h2;omega
 · unfold PT.entry at h ⊢;simp only at h ⊢
   split
   · simp
   · rename_i h0;rw [if_neg h0] at h
     split
     · simp
     · rename_i j hj;rw [hj] at h;exact absurd rfl h
theorem zA6 {T:PT} (i:Nat) (n:PN):zAe i (T.upd i n).nodes=some n:=zAr zAG i n _
theorem zAl {T:PT} {i j:Nat} (n:PN) (h:j≠i):zAe j (T.upd i n).nodes=zAe j T.nodes:=zAi zAG n h _
theorem zCt {T:PT} {d:Nat} {n:PN} {nm:ByteArray} (h:zAe d T.nodes=some n):T.clr d nm=T.upd d (n.clear nm):=by unfold PT.clr;rw [h]
theorem zCl {T:PT} {d k j:Nat} {n:PN} {nm:ByteArray} (h:zAe d T.nodes=some n):T.ins d k nm j=T.upd d (n.set k nm j):=by unfold PT.ins;rw [h]
theorem zAv.fst {own own1:Nat→Option Role} {p mb:Nat} {T2:PT} {w w1 w2:World} (h:Ext w own own1) (hc:Chg (fun b=>own b≠none) w w1) (k:zAv own1 p mb T2 w1 w2):zAv own p mb T2 w w2:=by
 obtain⟨o2,l2,k1,k2,k3⟩:=k;exact⟨o2,l2,k1,h.trans k2 hc.size,hc.ext h k3⟩
theorem zH5 (own:Nat→Option Role) (lay:Nat→NA) (p mb:Nat) (T:PT) (B:Nat) (A:Option Addr) (c:Nat) (l:List ByteArray) (w:World) (h:PlainAt w own lay p mb T) (hT:T.Wf)
 (hs:Sees w B 1 A l.length (strs l)) (hl:l.length≤1000000) (hc:l.length≤c) (hx:∀ x∈l,x.size≤1000000) :
 Calls Ai 69 #[.pointer (some ⟨p,0,none⟩),.slice A l.length c] w fun e w'=>e=.returned (zAS (T.unlink l).2)∧zAv own p mb (T.unlink l).1 w w':=by
 have fA:=zFS own lay p mb T B A c l w h hT hs hl hc hx;have fJ:=zDz hT l;have fT:=zIV hT l;have hu:T.unlink l=if (T.entry l).2.2.2≠0 then (T,(T.entry l).2.2.2) else if T.isDir (T.entry l).2.2.1=true then (T,102) else ((T.clr (T.entry l).1 (T.entry l).2.1).less (T.entry l).2.2.1,0):=rfl;have fU:=zB0 hx;generalize T.entry l=r at *;obtain⟨d,nm,i,e⟩:=r;simp only at fA fJ fT hu;have hH:=hid h;have fP:=hid hT;have fC:=hid hT.ok;clear h hs hx;generalize l.length=len at *;unfold zAS at fA;go_enter Tryz.func69,Tryz.ntmps69;by_cases he:e=0
 · subst he;obtain⟨n,m,hn,hd,fQ,hm,rfl⟩:=fJ rfl;rw [if_neg (by simp)] at hu;have fK:=zAm hm;have fF:=hid hm;have fG:=hid hn;have fL:=hid fQ;have fR:=hid hd;clear fJ hT hd fQ hm hn
   cases fD:m.dir with
   | true =>
    rw [fK,fD,if_pos rfl] at hu;have fE:=hid hu;have fH:=hid fD;clear hu fK fD;go_wp2_with (first | (go_at_call 100;refine fA.mono ?_;rintro e w1 ⟨rfl,fI⟩;have fB:=hH.o.fresh fI;have c2:=fB.c2;have fV:=fB.lookI fF.o (by omega);have k0:=(fB.get fF.o).c0;rw [zAW fH.o] at k0;clear fB));go_ret;refine⟨by rw [fE.o];rfl,?_⟩;rw [fE.o];exact .same hH.o fI
   | false =>
    rw [fK,fD,if_neg (by simp)] at hu;have fE:=hid hu;have fH:=hid fD
    have hiD:i≠d:=fun e=>by
     subst e;have:=fF.o.symm.trans fG.o;have:=Az this;rw [this,fR.o] at fD;cases fD
    clear hu fK fD;obtain⟨k,hk⟩:=fP.o.slotn d n (zAM l) i fG.o fL.o;have fW:=hid hk;clear hk;have fM:=hid hiD;clear hiD
    go_wp2_with (first
     | (go_at_call 100;refine fA.mono ?_;rintro e w1 ⟨rfl,fI⟩;have fB:=hH.o.fresh fI;have c2:=fB.c2;have fV:=fB.lookI fF.o (by omega);have fX:=fB.lookI fG.o (by omega);have k0:=(fB.get fF.o).c0;rw [zAx fH.o] at k0;have fN:=hid fB;clear fB)
     | (go_at_call 101;refine (zBh fN.o fC.o fG.o fR.o fW.o fU).mono ?_;rintro e w2 ⟨rfl,fS,fY⟩;have fO:=hid fS;clear fS)
     | (go_at_call 102;refine (zDZ own lay p mb i (T.upd d (n.clear (zAM l))) m w2 fO.o (fC.o.upd ((fC.o.get fG.o).1.clear _) (fC.o.get fG.o).2) ((zAl _ fM.o).trans fF.o) (fP.o.lnk _ _ fF.o)).mono ?_;rintro e w3 ⟨rfl,fZ⟩))
    go_ret;refine⟨by rw [fE.o];rfl,?_⟩;rw [fE.o,zCt fG.o];exact zAv.fst (own1:=own) (Ext.refl _ _) ((Ax fI).trans fY (fun _ _ h=>h) (fun _ _ h=>h)) fZ
 · rw [if_pos he] at hu
   have gA:((e:Int) != 0)=true:=by simp;omega
   have fE:=hid hu;clear hu fJ he;go_wp2_with (first | (go_at_call 100;refine fA.mono ?_;rintro e w1 ⟨rfl,fI⟩));go_ret;refine⟨by rw [fE.o];rfl,?_⟩;rw [fE.o];exact .same hH.o fI
theorem zKz (own:Nat→Option Role) (lay:Nat→NA) (p mb:Nat) (T:PT) (B:Nat) (A:Option Addr) (c:Nat) (l:List ByteArray) (w:World) (h:PlainAt w own lay p mb T) (hT:T.Wf)
 (hs:Sees w B 1 A l.length (strs l)) (hl:l.length≤1000000) (hc:l.length≤c) (hx:∀ x∈l,x.size≤1000000) :
 Calls Ai 70 #[.pointer (some ⟨p,0,none⟩),.slice A l.length c] w fun e w'=>e=.returned (zAS (T.rmdir l).2)∧zAv own p mb (T.rmdir l).1 w w':=by
 have fB:=zFS own lay p mb T B A c l w h hT hs hl hc hx;have fP:=zDz hT l;have fZ:=zIV hT l;have hu:T.rmdir l=if (T.entry l).2.2.2≠0 then (T,(T.entry l).2.2.2) else if T.isDir (T.entry l).2.2.1=false then (T,113) else if 0<(T.node (T.entry l).2.2.1).names.length then (T,140) else ((T.clr (T.entry l).1 (T.entry l).2.1).less (T.entry l).2.2.1,0):=rfl;have gA:=zB0 hx;generalize T.entry l=r at *;obtain⟨d,nm,i,e⟩:=r;simp only at fB fP fZ hu;have hH:=hid h;have fQ:=hid hT;have fH:=hid hT.ok;clear h hs hx;generalize l.length=len at *;unfold zAS at fB;go_enter Tryz.func70,Tryz.ntmps70;by_cases he:e=0
 · subst he;obtain⟨n,m,hn,hd,fV,hm,rfl⟩:=fP rfl;rw [if_neg (by simp)] at hu;have fM:=zAm hm;have fC:=hid hm;have fI:=hid hn;have fN:=hid fV;have gB:=hid hd;clear fP hT hd fV hm hn
   cases fJ:m.dir with
   | false =>
    rw [fM,fJ,if_pos rfl] at hu;have fF:=hid hu;have fE:=hid fJ;clear hu fM fJ;go_wp2_with (first | (go_at_call 100;refine fB.mono ?_;rintro e w1 ⟨rfl,fG⟩;have fA:=hH.o.fresh fG;have c2:=fA.c2;have fW:=fA.lookI fC.o (by omega);have k0:=(fA.get fC.o).c0;rw [zAx fE.o] at k0;clear fA));go_ret;refine⟨by rw [fF.o];rfl,?_⟩;rw [fF.o];exact .same hH.o fG
   | true =>
    rw [fM,fJ,if_neg (by simp),zAn fC.o] at hu;have fE:=hid fJ;obtain⟨rk,fX⟩:=fQ.o.rank
    have hiD:i≠d:=fun e=>by
     subst e;have:=fX i n (zAM l) i fI.o fN.o (by rw [fM,fJ]);omega
    clear fM fJ fX;obtain⟨k,hk⟩:=fQ.o.slotn d n (zAM l) i fI.o fN.o;have gC:=hid hk;clear hk;have fR:=hid hiD;clear hiD;obtain⟨nl,fS⟩:=nM (m.names.length);have fO:=hid fS;rw [fS] at hu;clear fS;by_cases h0:0<nl
    · rw [if_pos h0] at hu;have fF:=hid hu
      have gD:decide (0<nl)=true:=by simpa using h0
      clear hu
      go_wp2_with (first
       | (go_at_call 100;refine fB.mono ?_;rintro e w1 ⟨rfl,fG⟩;have fA:=hH.o.fresh fG;have c2:=fA.c2;have fW:=fA.lookI fC.o (by omega);have k0:=(fA.get fC.o).c0;rw [zAW fE.o] at k0;obtain⟨nbm,fD⟩:=(fA.get fC.o).dirs fE.o;have k6:=(fA.get fC.o).c6;rw [fD] at k6;have fK:=(fA.get fC.o).names;rw [fD] at fK;have fL:=hid fK;clear fA fK fD)
       | (at_len;refine zCE _ rfl _ 101 rfl Ak (fL.o:zAt _ zAV zAS 9 nbm m.names) rfl nl fO.o ?_))
      go_ret;refine⟨by rw [fF.o];rfl,?_⟩;rw [fF.o];exact .same hH.o fG
    · rw [if_neg h0] at hu;have fF:=hid hu
      have gD:decide (0<nl)=false:=by simpa using h0
      clear hu
      go_wp2_with (first
       | (go_at_call 100;refine fB.mono ?_;rintro e w1 ⟨rfl,fG⟩;have fA:=hH.o.fresh fG;have c2:=fA.c2;have fW:=fA.lookI fC.o (by omega);have gE:=fA.lookI fI.o (by omega);have k0:=(fA.get fC.o).c0;rw [zAW fE.o] at k0;obtain⟨nbm,fD⟩:=(fA.get fC.o).dirs fE.o;have k6:=(fA.get fC.o).c6;rw [fD] at k6;have fK:=(fA.get fC.o).names;rw [fD] at fK;have fL:=hid fK;have fT:=hid fA;clear fA fK fD)
       | (at_len;refine zCE _ rfl _ 101 rfl Ak (fL.o:zAt _ zAV zAS 9 nbm m.names) rfl nl fO.o ?_)
       | (go_at_call 101;refine (zBh fT.o fH.o fI.o gB.o gC.o gA).mono ?_;rintro e w2 ⟨rfl,fY,gF⟩;have fU:=hid fY;clear fY)
       | (go_at_call 102;refine (zDZ own lay p mb i (T.upd d (n.clear (zAM l))) m w2 fU.o (fH.o.upd ((fH.o.get fI.o).1.clear _) (fH.o.get fI.o).2) ((zAl _ fR.o).trans fC.o) (fQ.o.lnk _ _ fC.o)).mono ?_;rintro e w3 ⟨rfl,gG⟩))
      go_ret;refine⟨by rw [fF.o];rfl,?_⟩;rw [fF.o,zCt fI.o];exact zAv.fst (own1:=own) (Ext.refl _ _) ((Ax fG).trans gF (fun _ _ h=>h) (fun _ _ h=>h)) gG
 · rw [if_pos he] at hu
   have gH:((e:Int) != 0)=true:=by simp;omega
   have fF:=hid hu;clear hu fP he;go_wp2_with (first | (go_at_call 100;refine fB.mono ?_;rintro e w1 ⟨rfl,fG⟩));go_ret;refine⟨by rw [fF.o];rfl,?_⟩;rw [fF.o];exact .same hH.o fG
theorem zIQ {T:PT} {n:PN} (h:(T.place n).2=0):(T.place n).1≤n.slots.length∧((T.place n).1<n.slots.length∨n.slots.length≠1068):=by
 unfold PT.place at h ⊢
 cases hf:zAh emp n.slots with
 | some k=>have:=(zAR hf).1;simp only;omega
 | none =>
  rw [hf] at h;simp only at h ⊢
  split
  · rename_i h1;rw [if_pos h1] at h;cases h
  · rename_i h1
    split
    · exact⟨Aq _,.inr h1⟩
    · exact⟨Am _,.inr h1⟩
theorem place_lt {T:PT} {n:PN} (hn:n.Ok) (h:(T.place n).2=0):(T.place n).1<1068:=by
 have h1:=zIQ h;have h2:=hn.slots;omega
theorem zEh {l:List ByteArray} (h:∀ x∈l,x.size≤40):(zAM l).size≤40:=by
 unfold zAM;rw [Ac]
 cases hl:l.getLast? with
 | none=>simp [emp,ByteArray.size]
 | some x=>exact h x (List.mem_of_getLast? hl)
section
variable {w:World} {own:Nat→Option Role} {lay:Nat→NA} {p mb i:Nat} {T:PT} {n:PN}
theorem zH0 (h:PlainAt w own lay p mb T) (hT:T.Ok) (hg:zAe i T.nodes=some n) (m:Nat) (v:Int) (hv:v=(m:Int)) :
 PlainAt (w.setCell ⟨(lay i).nb,1,none⟩ (.int .i64 v)) own lay p mb (T.upd i {n with links:=m})∧Chg (fun b=>own b≠none) w (w.setCell ⟨(lay i).nb,1,none⟩ (.int .i64 v)):=by
 subst hv;have fA:=h.get hg;have ho:=h.owns _ (zAf hg);have fB:Chg (fun b=>b=(lay i).nb) w (w.setCell ⟨(lay i).nb,1,none⟩ (.int .i64 (m:Int))):=(Ay (fun b=>b=(lay i).nb) w).setCell (p:=⟨(lay i).nb,1,none⟩) (fun _=>rfl) _
 have fE:PnAt (w.setCell ⟨(lay i).nb,1,none⟩ (.int .i64 (m:Int))) (lay i) {n with links:=m}:=by
  have fC:=ho.apart;refine⟨?_,fA.data.chg fB fun b e=>fC.1 b e,zAy fA.slots fB fun b e=>fC.2.1 b e,fA.names.chg fB fun b e=>fC.2.2.1 b e,fA.dirs,fA.files⟩;exact fA.blk.set_ 1 _
 have fD:=h.upd hT.ris hg fB (fun b _ e=>by subst e;exact .inl ho.nb) fE rfl (Ext.refl _ _) (fun b r e=>Ao (h.lt b r e) fB.size) ho;rw [zEY] at fD;exact⟨fD,fB.mono fun b _ e=>by subst e;rw [ho.nb];simp⟩
end
theorem plink_any (own:Nat→Option Role) (lay:Nat→NA) (p mb:Nat) (T:PT) (B:Nat) (A:Option Addr) (c:Nat) (l:List ByteArray) (A2:Option Addr) (c2:Nat) (l2:List ByteArray) (w:World) (h:PlainAt w own lay p mb T) (hT:T.Wf)
 (hs:Sees w B 1 A l.length (strs l)) (hl:l.length≤1000000) (hx:∀ x∈l,x.size≤1000000)
 (gP:Sees w B 1 A2 l2.length (strs l2)) (gU:l2.length≤1000000) (gV:l2.length≤c2) (gF:∀ x∈l2,x.size≤1000000) :
 Calls Ai 68 #[.pointer (some ⟨p,0,none⟩),.slice A l.length c,.slice A2 l2.length c2] w fun e w'=>e=.returned (zAS (T.link l l2).2)∧zAv own p mb (T.link l l2).1 w w':=by
 have fB:=zDU own lay p mb T B A c l w h hT hs hl hx;have fC:=zC6 own lay p mb T B A2 c2 l2 w h hT gP gU gV gF;have gB:=zBT hT l 1 (let ⟨n,h,_⟩:=hT.root;⟨n,h⟩);have gG:=zHP hT l;have fN:=zBu hT l2;have gH:=zEO hT l2;have gW:=zB0 gF
 have hu:T.link l l2=if (T.walk l 1).2≠0 then (T,(T.walk l 1).2) else if (T.last l2).2≠0 then (T,(T.last l2).2) else
  if (zAe (zAM l2) (T.node (T.last l2).1).names).isSome then (T,111) else if T.isDir (T.walk l 1).1=true then (T,102) else if (T.node (T.walk l 1).1).links=100 then (T,142) else
  if (T.place (T.node (T.last l2).1)).2≠0 then (T,(T.place (T.node (T.last l2).1)).2) else
  ((T.linksUp (T.walk l 1).1).ins (T.last l2).1 (T.place (T.node (T.last l2).1)).1 (zAM l2) (T.walk l 1).1,0):=rfl
 generalize T.walk l 1=r1 at *;generalize T.last l2=r2 at *;obtain⟨i,e1⟩:=r1;obtain⟨d,e2⟩:=r2;generalize zAM l2=nm at *;simp only at fB fC gB gG fN gH hu;have hH:=hid h;have gX:=hid hT;have fJ:=hid hT.ok;have jH:=hT.ok.ino;clear h hT hs hx gP gF;generalize l.length=len at *;generalize l2.length=len2 at *;unfold zAS at fB fC;go_enter Tryz.func68,Tryz.ntmps68;by_cases gI:e1=0
 · subst gI;rw [if_neg (by simp)] at hu;obtain⟨n,hn⟩:=gB rfl;have fD:=hid hn;have gQ:=zAm hn;rw [zAn hn,gQ] at hu;clear gB gQ hn;by_cases gJ:e2=0
   · subst gJ;rw [if_neg (by simp)] at hu;obtain⟨m,hm,gR⟩:=fN rfl;have fE:=hid hm;have fX:=hid gR;rw [zAn hm] at hu;clear fN hm gR;have gK:=hid (fJ.o.get fE.o).1;have fR:=fJ.o.get fD.o;have gL:=fR.1.links;have jI:=fR.2;clear fR
     cases hg:zAe nm m.names with
     | some j =>
      rw [hg,if_pos (show (some j).isSome=true from rfl)] at hu;have fF:=hid hu;clear hu;have fU:=hid hg;clear hg
      go_wp2_with (first
       | (go_at_call 72;refine fB.mono ?_;rintro e w' ⟨rfl,rfl⟩)
       | (go_at_call 95;refine fC.mono ?_;rintro e w1 ⟨rfl,fH⟩;have fA:=hH.o.fresh fH;have x2:=fA.c2;have gC:=fA.lookI fE.o (by omega);have k6:=(fA.get fE.o).c6;have fI:=(fA.get fE.o).lookN nm (by omega);rw [fU.o] at fI;simp only [orV,At,zAS] at fI;clear fA))
      go_ret;refine⟨by rw [fF.o];rfl,?_⟩;rw [fF.o];exact .same hH.o fH
     | none =>
      rw [hg,if_neg (by simp)] at hu;have fU:=hid hg;clear hg
      cases fV:n.dir with
      | true =>
       rw [fV,if_pos rfl] at hu;have fF:=hid hu;have fK:=hid fV;clear hu fV
       go_wp2_with (first
        | (go_at_call 72;refine fB.mono ?_;rintro e w' ⟨rfl,rfl⟩)
        | (go_at_call 95;refine fC.mono ?_;rintro e w1 ⟨rfl,fH⟩;have fA:=hH.o.fresh fH;have x2:=fA.c2;have gC:=fA.lookI fE.o (by omega);have fS:=fA.lookI fD.o (by omega);have k6:=(fA.get fE.o).c6;have fI:=(fA.get fE.o).lookN nm (by omega);rw [fU.o] at fI;simp only [orV,As] at fI;have k0:=(fA.get fD.o).c0;have k1:=(fA.get fD.o).c1;rw [zAW fK.o] at k0;clear fA))
       go_ret;refine⟨by rw [fF.o];rfl,?_⟩;rw [fF.o];exact .same hH.o fH
      | false =>
       rw [fV,if_neg (by simp)] at hu;have fK:=hid fV;clear fV;obtain⟨lk,fT⟩:=nM (n.links);have fL:=hid fT;rw [fT] at hu gL;clear fT;by_cases fM:lk=100
       · rw [if_pos fM] at hu;have fF:=hid hu
         have gY:((lk:Int)==100)=true:=by simp;omega
         clear hu fM
         go_wp2_with (first
          | (go_at_call 72;refine fB.mono ?_;rintro e w' ⟨rfl,rfl⟩)
          | (go_at_call 95;refine fC.mono ?_;rintro e w1 ⟨rfl,fH⟩;have fA:=hH.o.fresh fH;have x2:=fA.c2;have gC:=fA.lookI fE.o (by omega);have fS:=fA.lookI fD.o (by omega);have k6:=(fA.get fE.o).c6;have fI:=(fA.get fE.o).lookN nm (by omega);rw [fU.o] at fI;simp only [orV,As] at fI;have k0:=(fA.get fD.o).c0;have k1:=(fA.get fD.o).c1;rw [zAx fK.o] at k0;rw [fL.o] at k1;clear fA))
         go_ret;refine⟨by rw [fF.o];rfl,?_⟩;rw [fF.o];exact .same hH.o fH
       · rw [if_neg fM] at hu
         have gY:((lk:Int)==100)=false:=by simp;omega
         have fO:=zIQ (T:=T) (n:=m);have fP:=place_lt (T:=T) gK.o;have fG:=fun W hP=>zB1 own lay p mb d T m W hP gX.o fE.o;generalize T.place m=r3 at *;obtain⟨k,e3⟩:=r3;simp only at fO fP hu fG;unfold zAS at fG;have fY:=hid fG;clear fG;by_cases gM:e3=0
         · subst gM;rw [if_neg (by simp)] at hu;have gZ:=(fO rfl).1;have jA:=fP rfl
           have hiD:i≠d:=fun e=>by
            subst e;have:=Az (fD.o.symm.trans fE.o);subst this;have:=fX.o;rw [fK.o] at this;cases this
           have gS:T.linksUp i=T.upd i {n with links:=lk+1}:=by unfold PT.linksUp;rw [zAn fD.o,fL.o]
           rw [gS,zCl ((zAl _ hiD.symm).trans fE.o)] at hu;have fF:=hid hu;have fZ:=hid hiD;have gA:=hid (fJ.o.upd (n:={n with links:=lk+1}) (let h:=(fJ.o.get fD.o).1;⟨h.keys,h.dlen,h.secs,h.slots,by show lk+1≤100;omega,h.size,h.made,h.nm,h.nlen,h.dd,h.df,h.nris,h.dris⟩) (fJ.o.get fD.o).2);clear hu fO fP gS hiD fM
           go_wp2_with (first
            | (go_at_call 72;refine fB.mono ?_;rintro e w' ⟨rfl,rfl⟩)
            | (go_at_call 95;refine fC.mono ?_;rintro e w1 ⟨rfl,fH⟩;have fA:=hH.o.fresh fH;have x2:=fA.c2;have gC:=fA.lookI fE.o (by omega);have fS:=fA.lookI fD.o (by omega);have k6:=(fA.get fE.o).c6;have fI:=(fA.get fE.o).lookN nm (by omega);rw [fU.o] at fI;simp only [orV,As] at fI;have k0:=(fA.get fD.o).c0;have k1:=(fA.get fD.o).c1;rw [zAx fK.o] at k0;rw [fL.o] at k1;have fQ:=hid fA;clear fA)
            | (go_at_call 97;refine (fY.o w1 fQ.o).mono ?_;rintro e w2 ⟨rfl,gD⟩;have fW:=fQ.o.fresh gD;have y2:=fW.c2;have jB:=fW.lookI fD.o (by omega);have j1:=(fW.get fD.o).c1;rw [fL.o] at j1;have g1:=(fW.get fD.o).blk.frozen 1;obtain⟨gE,gT⟩:=zH0 fW fJ.o fD.o (lk+1) ((lk:Int)+1) rfl;have z2:=gE.c2;have jC:=gE.lookI ((zAl _ (Ne.symm fZ.o)).trans fE.o) (by omega);have gN:=hid gE;have gO:=hid gT;clear fW gE gT)
            | (go_at_call 98;refine (zBC gN.o gA.o ((zAl _ (Ne.symm fZ.o)).trans fE.o) fX.o gZ jA gW).mono ?_;rintro e w3 ⟨rfl,jD⟩))
           go_ret;refine⟨by rw [fF.o];rfl,?_⟩;rw [fF.o];exact zAv.fst (own1:=own) (Ext.refl _ _) ((Ax (fH.trans (gD.mono fH.size))).trans gO.o (fun _ _ h=>h) (fun _ _ h=>h)) jD
         · rw [if_pos gM] at hu;have fF:=hid hu
           have jE:((e3:Int) != 0)=true:=by simp;omega
           clear hu fO fP gM fM
           go_wp2_with (first
            | (go_at_call 72;refine fB.mono ?_;rintro e w' ⟨rfl,rfl⟩)
            | (go_at_call 95;refine fC.mono ?_;rintro e w1 ⟨rfl,fH⟩;have fA:=hH.o.fresh fH;have x2:=fA.c2;have gC:=fA.lookI fE.o (by omega);have fS:=fA.lookI fD.o (by omega);have k6:=(fA.get fE.o).c6;have fI:=(fA.get fE.o).lookN nm (by omega);rw [fU.o] at fI;simp only [orV,As] at fI;have k0:=(fA.get fD.o).c0;have k1:=(fA.get fD.o).c1;rw [zAx fK.o] at k0;rw [fL.o] at k1;have fQ:=hid fA;clear fA)
            | (go_at_call 97;refine (fY.o w1 fQ.o).mono ?_;rintro e w2 ⟨rfl,gD⟩))
           go_ret;refine⟨by rw [fF.o];rfl,?_⟩;rw [fF.o];exact .same hH.o (fH.trans (gD.mono fH.size))
   · rw [if_pos gJ] at hu
     have jF:((e2:Int) != 0)=true:=by simp;omega
     have fF:=hid hu;clear hu fN gJ
     go_wp2_with (first
      | (go_at_call 72;refine fB.mono ?_;rintro e w' ⟨rfl,rfl⟩)
      | (go_at_call 95;refine fC.mono ?_;rintro e w1 ⟨rfl,fH⟩))
     go_ret;refine⟨by rw [fF.o];rfl,?_⟩;rw [fF.o];exact .same hH.o fH
 · rw [if_pos gI] at hu
   have jG:((e1:Int) != 0)=true:=by simp;omega
   have fF:=hid hu;clear hu gB gI;go_wp2_with (first | (go_at_call 72;refine fB.mono ?_;rintro e w' ⟨rfl,rfl⟩));go_ret;refine⟨by rw [fF.o];rfl,?_⟩;rw [fF.o];exact .same hH.o br
end Go.Proofs.YtolpcfhfcdkokaaGreatDoor
