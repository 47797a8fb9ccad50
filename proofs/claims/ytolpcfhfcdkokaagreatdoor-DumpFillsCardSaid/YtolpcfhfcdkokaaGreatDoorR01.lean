/- Joined out of Base..Open. -/
import Derived.Test.YtolpcfhfcdkokaaGreatDoorRows
import Derived.WalkKit
import Derived.WalkLawsBesides
import Derived.WalkSpells
import Derived.Deep.RegionHeld3
import Derived.Deep.AppendLies
import Derived.Deep.AppendSrc
import Derived.Maps.AppendAt
import Derived.Deep.QuietTactic
import Derived.BigQuiet
import Derived.Laws.CopyOwn
import Derived.Lib.Hide
import Derived.Deep.DeepCutAuto
import Derived.Deep.LoopGhost
import Derived.Laws.Bits64b
import Derived.ProofKit
import Derived.OpenShut
import Derived.ShutString
import Derived.SizedLaws
import Derived.Deep.Slices
set_option maxHeartbeats 16000000
set_option maxRecDepth 100000
set_option linter.unusedSimpArgs false
set_option linter.unusedVariables false
namespace Go.RowKit
theorem Hid.o{p:Prop} (h:Hid p):p:=h
end Go.RowKit
namespace Go.Proofs.YtolpcfhfcdkokaaGreatDoor
open Lib (hid)
open Nat renaming le_refl → Aa,le_trans → Ab,lt_of_lt_of_le → Ac,zero_add → Ad,zero_le → Ae
open RowKit.Below renaming refl → Af
open Go renaming setRow_other → Ag,info_parts → Ah,run_underlying → Ai
open List renaming getElem?_take → Aj,length_take → Ak,mem_map → Al,map_cons → Am,length_append → An,size_toArray → Ao,map_nil → Ap,mem_singleton → Aq,length_cons → Ar,take_succ_eq_append_getElem → As,getElem_mem → At,mem_append → Au,map_append → Av,length_nil → Aw,length_map → Ax,getElem?_eq_getElem → Ay,length_range → Az,getElem_map → AA,getElem_range → AB,mem_range → AC,mem_cons → AD
open Value renaming int → AE,ownBlock → AF,bool → AG
open UInt8 renaming ofNat → AH
open Proofs.Tryz renaming prog → AI,underlying64 → AJ,underlying9 → AK,underlying5 → AL,underlying3 → AM,underlying31 → AN
open Addr renaming add_lit → AO
open World renaming ownsRow_nil → AP,block_lt_of_cell? → AQ
open _root_.Array renaming length_toList → AR
open _root_.ByteArray renaming empty → AS
open DataW renaming trod → AT,trod_int → AU,weights → AV
open Go.RowKit
theorem nr{n:Nat}:n≤n:=Aa _
theorem br{B:Nat} {w:World}:Below B w w:=Af _ _
theorem nm{α:Type} (a:α):∃ x,a=x:=⟨_,rfl⟩
theorem nM{α:Sort _} (a:α):∃ x,a=x:=⟨_,rfl⟩
structure Chg (S:Nat→Prop) (w w':World):Prop where
 os:w'.os=w.os
 tape:w'.tape=w.tape
 output:w'.output=w.output
 size:w.heap.size≤w'.heap.size
 block:∀ k,k<w.heap.size→¬S k→w'.heap[k]? = w.heap[k]?
section
variable {S T U:Nat→Prop} {w w1 w2:World} {B:Nat}
theorem Chg.refl (S:Nat→Prop) (w:World):Chg S w w:=⟨rfl,rfl,rfl,Aa _,fun _ _ _=>rfl⟩
theorem Chg.trans (h:Chg S w w1) (k:Chg T w1 w2) (hs:∀ b,b<w.heap.size→S b→U b) (ht:∀ b,b<w.heap.size→T b→U b):Chg U w w2 :=
 ⟨k.os.trans h.os,k.tape.trans h.tape,k.output.trans h.output,Ab h.size k.size,fun b hb hn =>
  (k.block b (Ac hb h.size) (fun hT=>hn (ht b hb hT))).trans (h.block b hb (fun hS=>hn (hs b hb hS)))⟩
theorem Chg.mono (h:Chg S w w1) (hs:∀ b,b<w.heap.size→S b→U b):Chg U w w1:=⟨h.os,h.tape,h.output,h.size,fun b hb hn=>h.block b hb fun hS=>hn (hs b hb hS)⟩
theorem Chg.drew (h:Chg S w w1):Chg S w w1.drew:=⟨h.os,h.tape,h.output,h.size,h.block⟩
theorem Chg.drewN (h:Chg S w w1) (n:Nat):Chg S w (w1.drewN n):=⟨h.os,h.tape,h.output,h.size,h.block⟩
theorem Chg.alloc (h:Chg S w w1) (o:Obj):Chg S w (w1.alloc o) :=
 ⟨h.os,h.tape,h.output,by have:=h.size;simp;omega,fun b hb hn=>(Below.heap_alloc w1 o b (Ac hb h.size)).trans (h.block b hb hn)⟩
theorem Chg.setCell (h:Chg S w w1) {p:Addr} (hp:p.block<w.heap.size→S p.block) (u:Value):Chg S w (w1.setCell p u) :=
 ⟨h.os,h.tape,h.output,by have:=h.size;simp [World.setCell];omega,fun b hb hn=>(Below.heap_setCell w1 p u b (fun e=>hn (e▸hp (e▸hb)))).trans (h.block b hb hn)⟩
theorem Chg.setRow (h:Chg S w w1) {g:Nat} (hp:g<w.heap.size→S g) (cs:Array Value):Chg S w (w1.setRow g cs) :=
 ⟨h.os,h.tape,h.output,by have:=h.size;simp;omega,fun b hb hn=>(Ag w1 g b cs (fun e=>hn (e▸hp (e▸hb)))).trans (h.block b hb hn)⟩
theorem Chg.grown {row:Option Nat} (h:Chg S w w1) (hg:w1.grownBy w2 row) (hr:∀ g,row=some g→g<w.heap.size→S g):Chg S w w2 :=
 ⟨hg.os.trans h.os,hg.tape.trans h.tape,hg.output.trans h.output,Ab h.size hg.size,fun b hb hn =>
  (hg.block b (Ac hb h.size) (fun e=>hn (hr b e.symm hb))).trans (h.block b hb hn)⟩
theorem zAd (h:Below B w w1) (n:Nat):Below B w (w1.drewN n):=⟨h.os,h.tape,h.output,h.size,h.block⟩
theorem Chg.of_below (h:Below B w w1):Chg (fun b=>B≤b) w w1:=⟨h.os,h.tape,h.output,h.size,fun b _ hn=>h.block b (by omega)⟩
theorem Chg.of_fresh (h:Below w.heap.size w w1):Chg S w w1:=⟨h.os,h.tape,h.output,h.size,fun b hb _=>h.block b hb⟩
theorem Chg.below (h:Chg S w w1) (hB:B≤w.heap.size) (hs:∀ b,b<B→¬S b):Below B w w1:=⟨h.os,h.tape,h.output,h.size,fun b hb=>h.block b (by omega) (hs b hb)⟩
theorem Chg.cell (h:Chg S w w1) {p:Addr} (hp:p.block<w.heap.size) (hn:¬S p.block):w1.cell? p=w.cell? p:=World.cell?_of_block (w:=w) (h.block p.block hp hn)
theorem zAy {base:Nat} {e:TypeId} {size:Nat} {v:Value} {n:Nat} {xs:List Value} (h:w.ownsRow base e size v n xs) (hc:Chg S w w1) (hn:∀ g,v.ownBlock=some g→¬S g):w1.ownsRow base e size v n xs:=by
 obtain⟨h1,h2⟩:=h;refine⟨h1,?_⟩;rcases h2 with h2 | ⟨g,cap,cur,hv,hg,hh,r⟩
 · exact Or.inl h2
 · refine Or.inr ⟨g,cap,cur,hv,hg,?_,r⟩;have fA:g<w.heap.size:=(Array.getElem?_eq_some_iff.1 hh).1;rw [hc.block g fA (hn g (by rw [hv];rfl))];exact hh
theorem own_below {B:Nat} {base:Nat} {e:TypeId} {size:Nat} {v:Value} {n:Nat} {xs:List Value} (h:w.ownsRow base e size v n xs) (hc:Below B w w1) (hn:∀ g,v.ownBlock=some g→g<B):w1.ownsRow base e size v n xs :=
 zAy h (Chg.of_below hc) fun g hg=>by have:=hn g hg;omega
theorem zBY {base base':Nat} {e:TypeId} {size:Nat} {v:Value} {n:Nat} {xs:List Value} (h:w.ownsRow base e size v n xs) (hb:∀ g,v.ownBlock=some g→base'≤g):w.ownsRow base' e size v n xs:=by
 obtain⟨h1,h2⟩:=h;refine⟨h1,?_⟩;rcases h2 with h2 | ⟨g,cap,cur,hv,hg,r⟩
 · exact Or.inl h2
 · exact Or.inr ⟨g,cap,cur,hv,hb g (by rw [hv];rfl),r⟩
end
structure Grows (w:World) (v:Value) (w':World) (v':Value):Prop where
 chg:Chg (fun b=>v.ownBlock=some b) w w'
 at_:v'.ownBlock=v.ownBlock∨∃ g,v'.ownBlock=some g∧w.heap.size≤g
theorem Grows.refl (w:World) (v:Value):Grows w v w v:=⟨Chg.refl _ _,.inl rfl⟩
theorem Grows.trans {w w1 w2:World} {v v1 v2:Value} (h:Grows w v w1 v1) (k:Grows w1 v1 w2 v2):Grows w v w2 v2:=by
 have hs:=h.chg.size
 constructor
 · refine h.chg.trans k.chg (fun b _ hb=>hb) (fun b hb fA=>?_);rcases h.at_ with e | ⟨g,e,hg⟩
   · rw [←e];exact fA
   · rw [e] at fA;injection fA;omega
 · rcases k.at_ with e | ⟨g,e,hg⟩
   · rw [e];exact h.at_
   · exact .inr ⟨g,e,by omega⟩
theorem Grows.drew {w w1:World} {v v1:Value} (h:Grows w v w1 v1):Grows w v w1.drew v1:=⟨h.chg.drew,h.at_⟩
theorem Grows.first {w0 w w1:World} {v v1:Value} (hb:Below w0.heap.size w0 w) (h:Grows w v w1 v1) (hv:∀ g,v.ownBlock=some g→w0.heap.size≤g):Below w0.heap.size w0 w1∧∀ g,v1.ownBlock=some g→w0.heap.size≤g:=by
 have hs:=hb.size;refine⟨hb.trans (h.chg.below hs fun b hb e=>by have:=hv b e;omega),fun g hg=>?_⟩;rcases h.at_ with e | ⟨g',e,hg'⟩
 · exact hv g (e▸hg)
 · rw [e] at hg;injection hg;omega
theorem Grows.of_law {w0 w w1:World} {v v1:Value} {k:Nat} (hb:Below w0.heap.size w0 w) (hg:w.grownBy w1 v.ownBlock) (fA:v1.ownBlock=v.ownBlock∨v1.ownBlock=some k) (hk:w0.heap.size≤k):Grows w0 v w1 v1 :=
 ⟨(Chg.of_fresh hb).grown hg fun _ e _=>e,fA.imp id fun e=>⟨k,e,hk⟩⟩
structure Sees (w:World) (B size:Nat) (A:Option Addr) (n:Nat) (xs:List Value):Prop where
 len:xs.length=n * size
 at_:0<n→∃ b off,A=some ⟨b,off,none⟩∧b<B∧∀ j u,xs[j]? = some u→w.cell? ⟨b,off+j,none⟩=some u
section
variable {w w1:World} {B B' size n:Nat} {A:Option Addr} {xs:List Value}
theorem Sees.nil:Sees w B size none 0 []:=⟨by simp,fun h=>absurd h (by omega)⟩
theorem Sees.keep (h:Sees w B size A n xs) (hk:∀ p:Addr,p.block<B→w1.cell? p=w.cell? p):Sees w1 B size A n xs :=
 ⟨h.len,fun hn=>let ⟨b,off,e,hb,hc⟩:=h.at_ hn;⟨b,off,e,hb,fun j u hu=>(hk ⟨b,off+j,none⟩ hb).trans (hc j u hu)⟩⟩
theorem Sees.below (h:Sees w B size A n xs) (hb:Below B w w1):Sees w1 B size A n xs:=h.keep fun _ hp=>hb.cell hp
theorem Sees.more (h:Sees w B size A n xs) (hB:B≤B'):Sees w B' size A n xs:=⟨h.len,fun hn=>let ⟨b,off,e,hb,hc⟩:=h.at_ hn;⟨b,off,e,by omega,hc⟩⟩
theorem Sees.of_own {base:Nat} {e:TypeId} {v:Value} (h:w.ownsRow base e size v n xs) (hv:∀ g,v.ownBlock=some g→g<B):∃ A c,v=.slice A n c∧Sees w B size A n xs:=by
 rcases h.2 with ⟨rfl,rfl⟩ | ⟨g,cap,cur,rfl,hb,hg,hnc,hcm,hcs,ht⟩
 · refine⟨none,0,rfl,h.1,fun hn=>absurd hn (by omega)⟩
 · refine⟨_,_,rfl,h.1,fun _=>⟨g,0,rfl,hv g rfl,fun j u hu=>?_⟩⟩;rw [Ad,cell_of_row w g j cur e (0,0) hg];rw [←ht,Aj] at hu
   split at hu
   · simpa using hu
   · cases hu
theorem Sees.take {k:Nat} (h:Sees w B size A n xs) (hk:k≤n):Sees w B size A k (xs.take (k * size)) :=
 ⟨by rw [Ak,h.len];exact Nat.min_eq_left (Nat.mul_le_mul_right _ hk),fun hn=>by
  obtain⟨b,off,e,hb,hc⟩:=h.at_ (by omega);refine⟨b,off,e,hb,fun j u hu=>hc j u ?_⟩;rw [Aj] at hu
  split at hu
  · exact hu
  · cases hu⟩
end
def bvs (l:List UInt8):List Value:=l.map fun b=>AE .u8 (b.toNat:Int)
theorem zAc (l:List UInt8):(bvs l).length=l.length:=by simp [bvs]
theorem zBZ (a b:List UInt8):bvs (a++b)=bvs a++bvs b:=by simp [bvs]
theorem zB4 (l:List UInt8):∀ u∈bvs l,u.oneCell'=true:=by
 intro u hu;obtain⟨b,_,rfl⟩:=Al.1 hu;rfl
theorem zBK (l:List UInt8) (j:Nat) (h:j<l.length):(bvs l)[j]? = some (.int .u8 (l[j].toNat:Int)):=by simp [bvs,h]
theorem zHu (s:ByteArray):byteCells s=bvs s.data.toList:=rfl
theorem zCP:(Tryz.prog.info? 5).map (fun i=>(i.zero,i.size,i.bytes))=some (some (.int .u8 0),1,1):=by kernel_rfl
def zB2 (n:Int):Nat→List UInt8
 | 0=>[]
 | k+1=>AH (n % 256).toNat::zB2 (n / 256) k
theorem zAY (k:Nat):∀ n:Int,(zB2 n k).length=k:=by
 induction k with
 | zero=>intro n;rfl
 | succ k ih=>intro n;simp [zB2,ih]
theorem u8_of (m:Int):((AH (m % 256).toNat).toNat:Int)=m % 256:=by
 have:(AH (m % 256).toNat).toNat=(m % 256).toNat % 256:=UInt8.toNat_ofNat';omega
theorem zHD {m:Int} {k j:Nat} (h:j<k):bvs (zB2 m (k-j))=.int .u8 (m % 256)::bvs (zB2 (m / 256) (k-(j+1))):=by
 have e:k-j=(k-(j+1))+1:=by omega
 rw [e];simp only [zB2,bvs,Am,u8_of m]
theorem low_any (B:Nat) (v:Value) (xs:List Value) (n0:Nat) (n:Int) (k:Nat) (w:World) (hx:n0≤1000000000) (hk:k≤8) (hn:0≤n) (fE:n≤9223372036854775807) (hB:B≤w.heap.size)
 (fB:w.ownsRow B 5 1 v n0 xs) :
 Calls AI 44 #[v,.int .i64 n,.int .i64 k] w fun e w'=>∃ v',e=.returned v'∧w'.ownsRow B 5 1 v' (n0+k) (xs++bvs (zB2 n k))∧Grows w v w' v':=by
 obtain⟨i0,hi,fF,fG,fH⟩:=Ah zCP;go_enter Tryz.func44,Tryz.ntmps44;go_wp2
 go_loopw [0,1,8] (fun u q i wr=>∃ (j:Nat) (m:Int) (done:List Value),j≤k∧i=.int .i64 j∧q=.int .i64 m∧0≤m∧m≤9223372036854775807∧Hid (done++bvs (zB2 m (k-j))=bvs (zB2 n k)) ∧
  wr.ownsRow B 5 1 u (n0+j) (xs++done)∧Grows w v wr u)
  (fun _ _ i _=>k-(intOf i).toNat)
 case atStart=>exact⟨0,n,[],Ae _,rfl,rfl,hn,fE,by simp [Hid],by simpa using fB,Grows.refl _ _⟩
 case round =>
  obtain⟨j,m,done,hj,rfl,rfl,fL,fM,hd,ho,hb⟩:=hrel;have fN:=hb.chg.size;by_cases fI:j<k
  · have fJ:=hid (zHD (m:=m) fI)
    go_wp2_with (first
    | (at_builtin;refine wpList_append_own_at _ rfl _ _ 64 rfl B 5 i0 (.int .u8 0) 1 1 AJ hi fF fG fH rfl (by decide) _ _ _ rfl (ho.alloc _) ⟨wr.heap.size,0,none⟩ 1 1 [.int .u8 (m % 256)] rfl rfl ?c1 ?c2 ?c3 ?c4 ?c5 ?_)
    | go_in)
    case c1=>exact cell_one_new _ _ _
    case c2=>intro u hu;simp at hu;subst hu;rfl
    case c3=>unfold maxLen;omega
    case c4=>omega
    case c5=>simp;omega
    intro v' w1 fK fC _ fA;have hG:=hb.trans (Grows.of_law (br.alloc nr _) fC fA (by simp));clear fC fA hb ho;go_wp2;go_roundw
    case rel=>exact⟨j+1,m / 256,done++[.int .u8 (m % 256)],by omega,by go_num,by go_num,by omega,by omega,by have:=hd.o;rw [fJ.o] at this;simpa [Hid] using this,by simpa [Nat.add_assoc] using fK,hG⟩
    case measure=>simp [intOf];omega
  · obtain rfl:j=k:=by omega
    go_wp2;go_ret;have fD:=hd.o
    simp [zB2,bvs] at fD
    exact⟨_,rfl,by simpa [bvs,←fD] using ho,hb⟩
section
variable {P:Program} (w:World)
theorem zCn {B size:Nat} {tx e':TypeId} (hk:P.underlying tx=some (.slice e')) {A:Option Addr} {n:Nat} (c:Nat) {xs:List Value} (h:Sees w B size A n xs) (h1:∀ u∈xs,u.oneCell'=true) :
 Src P size tx (.slice A n c) n xs w:=by
 rcases A with _ | ad
 · have hn:n=0:=by
    rcases Nat.eq_zero_or_pos n with h0 | h0
    · exact h0
    · obtain⟨b,off,e,_⟩:=h.at_ h0;cases e
   subst hn;have hx:xs=[]:=List.eq_nil_of_length_eq_zero (by simpa using h.len);subst hx;exact Src.ofNil w hk c
 · refine Src.ofSlice w hk ad n c xs h.len (fun j u hu=>?_) h1;rcases Nat.eq_zero_or_pos n with h0 | h0
   · subst h0;have hx:xs=[]:=List.eq_nil_of_length_eq_zero (by simpa using h.len);subst hx;simp at hu
   · obtain⟨b,off,e,hb,hc⟩:=h.at_ h0;injection e with e;subst e;rw [AO];exact hc j u hu
theorem run_app (base:Nat) (t tx ty e:TypeId) (i:TypeInfo) (z:Value) (size bytes:Nat) (ht:P.underlying t=some (.slice e)) (hi:P.info? e=some i) (hz:i.zero=some z)
 (fG:i.size=size) (fN:i.bytes=bytes) (fO:z.cells.size=size)
 (v:Value) (n:Nat) (xs:List Value) (fA:w.ownsRow base e size v n xs) (x:Value) (m:Nat) (news:List Value) (hs:Src P size tx x m news w)
 (fL:n+m≤maxLen) (fB:(n+m) * bytes≤140737488355328) (fH:base≤w.heap.size) :
 ∃ v' w',(Builtin.append_ #[t,tx] ty #[v,x]).run P w=.ok v' w'∧w'.ownsRow base e size v' (n+m) (xs++news)∧w.grownBy w' v.ownBlock ∧
  (v'.ownBlock=v.ownBlock∨v'.ownBlock=some w.heap.size):=by
 subst fG;subst fN
 have fC:((n+m:Nat):Int)≤9223372036854775807:=by simp only [maxLen] at fL;omega
 have fD:(xs++news).length=(n+m) * i.size:=by rw [An,fA.1,hs.newsLen,Nat.add_mul]
 have grown:∀ (old:Nat),old<n+m→∀ (row:Option Nat),
  (w.drew.alloc (.cells ((xs++news).toArray++Builtin.zeroCells z.cells (grownCap w (n+m) old e-(n+m))) e)).ownsRow base e i.size
   (.slice (some ⟨w.heap.size,0,none⟩) (n+m) (grownCap w (n+m) old e)) (n+m) (xs++news) ∧
  w.grownBy (w.drew.alloc (.cells ((xs++news).toArray++Builtin.zeroCells z.cells (grownCap w (n+m) old e-(n+m))) e)) row:=by
  intro old ho row;have fP:=grownCap_ge w (n+m) old e;have fI:grownCap w (n+m) old e≤maxLen:=grownCap_le_maxLen w (n+m) old e fL;refine⟨⟨fD,.inr ⟨w.heap.size,_,_,rfl,fH,heap_alloc_new w.drew _,fP,fI,?_,?_⟩⟩,⟨rfl,rfl,rfl,by simp,fun k hk _=>Below.heap_alloc w.drew _ k hk⟩⟩
  · simp only [Array.size_append,Ao,size_zeroCells,fO,fD,←Nat.add_mul]
    congr 1
    omega
  · simp only [Array.toList_append];rw [←fD];exact List.take_left
 rcases fA.2 with ⟨rfl,rfl⟩ | ⟨g,cap,cur,rfl,hbg,hg,hnc,fI,hcs,htake⟩
 · have hx:xs=[]:=List.eq_nil_of_length_eq_zero (by simpa using fA.1);subst hx;by_cases hm:m=0
   · subst hm;have hn:news=[]:=List.eq_nil_of_length_eq_zero (by simpa using hs.newsLen);subst hn;refine⟨.slice none 0 0,w,?_,AP w base e i.size,⟨rfl,rfl,rfl,Aa _,fun _ _ _=>rfl⟩,Or.inl rfl⟩;rcases hs.kind with ⟨e',hk⟩ | hk<;>simp [Builtin.append_,Ai ht,Ai hk,sizeOf,typeInfo,hi,hs.len,hs.cells]
   · have hr:=run_append_grow_src (P:=P) w t tx ty e i z ht hi hz none 0 0 [] (by exact run_firstCells_none w.drew i.size 0 0 0) x m news hs (by omega) fC (growslice_fits (by omega) fB);have fF:=grown 0 (by omega) (AF (.slice none 0 0));simp only [Ad,List.nil_append] at fF hr ⊢;exact⟨_,_,hr,fF.1,fF.2,Or.inr rfl⟩
 · by_cases fE:n+m≤cap
   · have fJ:n * i.size+news.length≤cur.size:=by rw [hs.newsLen,hcs,←Nat.add_mul];exact Nat.mul_le_mul_right _ fE
     have fM:=run_storeCells_at P g (n * i.size) e news 0 cur w hg (by simpa using fJ) hs.one;simp only [Nat.add_zero] at fM
     have hr:(Builtin.append_ #[t,tx] ty #[.slice (some ⟨g,0,none⟩) n cap,x]).run P w =
      .ok (.slice (some ⟨g,0,none⟩) (n+m) cap) (w.setRow g (cur.toList.take (n * i.size)++news++cur.toList.drop (n * i.size+news.length)).toArray):=by
      rcases hs.kind with ⟨e',hk⟩ | hk<;>simp [Builtin.append_,Ai ht,Ai hk,sizeOf,typeInfo,hi,hs.len,fE,hs.cells,AO,fM]
     refine⟨_,_,hr,⟨fD,.inr ⟨g,cap,_,rfl,hbg,setRow_heap w g cur _ e _ hg,fE,fI,?_,?_⟩⟩,⟨rfl,rfl,rfl,by simp,fun k _ hk=>Ag w g k _ (fun e=>hk (by simp [AF,e]))⟩,Or.inl rfl⟩
     · simp only [Ao,An,Ak,List.length_drop,AR];omega
     · rw [htake,←fD];exact List.take_left
   · have fK:(Builtin.firstCells i.size n (.slice (some ⟨g,0,none⟩) n cap)).run P w.drew=.ok xs.toArray w.drew :=
      run_firstCells_some w.drew i.size n ⟨g,0,none⟩ n cap xs fA.1 (fun j u hu=>by simpa using fA.cells (g:=g) rfl j u hu)
     have hr:=run_append_grow_src (P:=P) w t tx ty e i z ht hi hz (some ⟨g,0,none⟩) n cap xs fK x m news hs (by omega) fC (growslice_fits (by omega) fB);have fF:=grown cap (by omega) (AF (.slice (some ⟨g,0,none⟩) n cap));exact⟨_,_,hr,fF.1,fF.2,Or.inr rfl⟩
theorem wp_app {o:Oper} {a:Act} {K:Act→World→Prop} {Q:Exit→Act→World→Prop} (s x:Operand) (t tx:TypeId)
 (ho:o.op=.call {callee:=.builtin .append,args:=#[s,x],argTypes:=#[t,tx]})
 (base:Nat) (e:TypeId) (i:TypeInfo) (z:Value) (size bytes:Nat) (ht:P.underlying t=some (.slice e)) (hi:P.info? e=some i) (hz:i.zero=some z)
 (fB:i.size=size) (fG:i.bytes=bytes) (fH:z.cells.size=size)
 (v:Value) (n:Nat) (xs:List Value) (hs:a.eval s=v) (fD:w.ownsRow base e size v n xs) (m:Nat) (news:List Value) (fE:Src P size tx (a.eval x) m news w)
 (fI:n+m≤maxLen) (fA:(n+m) * bytes≤140737488355328) (fC:base≤w.heap.size)
 (h:∀ v' w',w'.ownsRow base e size v' (n+m) (xs++news)→w.grownBy w' v.ownBlock→(v'.ownBlock=v.ownBlock∨v'.ownBlock=some w.heap.size)→K (a.put o.dst v') w'):o.wp P a w K Q:=by
 obtain⟨v',w',fF,h2,h3,h4⟩:=run_app (P:=P) w base t tx o.type e i z size bytes ht hi hz fB fG fH v n xs fD (a.eval x) m news fE fI fA fC;unfold Oper.wp execOp;simp only [ho,resolve,invoke,builtin,Sem.run_bind,Sem.run_pure,Result.andThen_ok,List.map_toArray,Am,Ap,hs,fF];exact h v' w' h2 h3 h4
theorem zAg {ops:Array Oper} {rest:List Oper} {o:Oper} {a:Act} {Q:Exit→Act→World→Prop} (fF:o.guard=none) (s x:Operand) (t tx:TypeId)
 (ho:o.op=.call {callee:=.builtin .append,args:=#[s,x],argTypes:=#[t,tx]})
 (base:Nat) (e:TypeId) (i:TypeInfo) (z:Value) (size bytes:Nat) (ht:P.underlying t=some (.slice e)) (hi:P.info? e=some i) (hz:i.zero=some z)
 (fB:i.size=size) (fG:i.bytes=bytes) (fH:z.cells.size=size)
 (v:Value) (n:Nat) (xs:List Value) (hs:a.eval s=v) (fD:w.ownsRow base e size v n xs) (m:Nat) (news:List Value) (fE:Src P size tx (a.eval x) m news w)
 (fI:n+m≤maxLen) (fA:(n+m) * bytes≤140737488355328) (fC:base≤w.heap.size)
 (h:∀ v' w',w'.ownsRow base e size v' (n+m) (xs++news)→w.grownBy w' v.ownBlock→(v'.ownBlock=v.ownBlock∨v'.ownBlock=some w.heap.size)→wpList P ops Q rest (a.put o.dst v') w'):wpList P ops Q (o::rest) a w :=
 wpList_plain fF fun _ hK=>wp_app w s x t tx ho base e i z size bytes ht hi hz fB fG fH v n xs hs fD m news fE fI fA fC fun v' w' h2 h3 h4=>hK _ _ (h v' w' h2 h3 h4)
theorem zBc {ops:Array Oper} {o:Oper} {a:Act} {K:Act→World→Prop} {Q:Exit→Act→World→Prop} {E:Prop} (fF:o.guard=none) (s x:Operand) (t tx:TypeId)
 (ho:o.op=.call {callee:=.builtin .append,args:=#[s,x],argTypes:=#[t,tx]})
 (base:Nat) (e:TypeId) (i:TypeInfo) (z:Value) (size bytes:Nat) (ht:P.underlying t=some (.slice e)) (hi:P.info? e=some i) (hz:i.zero=some z)
 (fB:i.size=size) (fG:i.bytes=bytes) (fH:z.cells.size=size)
 (v:Value) (n:Nat) (xs:List Value) (hs:a.eval s=v) (fD:w.ownsRow base e size v n xs) (m:Nat) (news:List Value) (fE:Src P size tx (a.eval x) m news w)
 (fI:n+m≤maxLen) (fA:(n+m) * bytes≤140737488355328) (fC:base≤w.heap.size)
 (h:∀ v' w',w'.ownsRow base e size v' (n+m) (xs++news)→w.grownBy w' v.ownBlock→(v'.ownBlock=v.ownBlock∨v'.ownBlock=some w.heap.size)→K (a.put o.dst v') w') :
 if Region.wanted o (yielded ops a.tmps)=true then Oper.wp P o a w K Q else E:=by
 have hw:Region.wanted o (yielded ops a.tmps)=true:=by simp [Region.wanted,fF]
 rw [if_pos hw];exact wp_app w s x t tx ho base e i z size bytes ht hi hz fB fG fH v n xs hs fD m news fE fI fA fC h
end
theorem zCr {P:Program} (w:World) {tx e':TypeId} (hk:P.underlying tx=some (.slice e')) (x:Value) (t:TypeId) (h1:x.oneCell'=true):Src P 1 tx (.slice (some ⟨w.heap.size,0,none⟩) 1 1) 1 [x] (w.alloc (.cells #[x] t)) :=
 Src.ofSlice _ hk ⟨w.heap.size,0,none⟩ 1 1 [x] rfl (cell_one_new w x t) (by intro u hu;rw [Aq] at hu;subst hu;exact h1)
theorem zCj {P:Program} (w:World) {tx e':TypeId} (hk:P.underlying tx=some (.slice e')) (x:Value) (t:TypeId) (h1:x.oneCell'=true):Src P 1 tx (.slice (some ⟨w.heap.size,0,none⟩) 1 1) 1 [x] (w.alloc (.cells #[x] t)).drew :=
 Src.ofSlice _ hk ⟨w.heap.size,0,none⟩ 1 1 [x] rfl (cell_one_new w x t) (by intro u hu;rw [Aq] at hu;subst hu;exact h1)
theorem zAC {w w1:World} {base:Nat} {e:TypeId} {size:Nat} {v:Value} {n:Nat} {xs:List Value} (h:w.ownsRow base e size v n xs) (hb:Below w.heap.size w w1):w1.ownsRow base e size v n xs :=
 own_below h hb fun g hg=>(h.lt g hg).2
theorem zEz {W w2:World} {row:Option Nat} (hg:W.grownBy w2 row) {p:Addr} {u:Value} (hc:W.cell? p=some u) (fA:row≠some p.block):w2.cell? p=some u :=
 (hg.cell_far p (AQ W p hc) (fun e=>fA e.symm)).trans hc
theorem zHa {W w2:World} {o:Obj} {row:Option Nat} (hg:(W.alloc o).drew.grownBy w2 row) {p:Addr} {u:Value} (hc:W.cell? p=some u) (fA:row≠some p.block):w2.cell? p=some u :=
 zEz hg ((World.cell?_alloc_lt W o p (AQ W p hc)).trans hc) fA
theorem zBd {w w1:World} {v v1:Value} (hG:Grows w v w1 v1) {p:Addr} {u:Value} (hc:w.cell? p=some u) (fA:v.ownBlock≠some p.block):w1.cell? p=some u :=
 (hG.chg.cell (AQ w p hc) fA).trans hc
theorem zDg {w w1:World} {v v1:Value} {g:Nat} (hG:Grows w v w1 v1) (fA:v.ownBlock≠some g) (hg:g<w.heap.size):v1.ownBlock≠some g:=by
 rcases hG.at_ with e | ⟨g',e,hg'⟩
 · rw [e];exact fA
 · rw [e];intro h;injection h;omega
theorem ne_law {W:World} {v v1:Value} {g k:Nat} (fA:v1.ownBlock=v.ownBlock∨v1.ownBlock=some k) (fB:v.ownBlock≠some g) (hg:g<W.heap.size) (hk:W.heap.size≤k):v1.ownBlock≠some g:=by
 rcases fA with e | e
 · rw [e];exact fB
 · rw [e];intro h;injection h;omega
structure Nd where
 path:ByteArray
 kind:Int
 made:Int
 same:ByteArray
 dA:Option Addr
 dc:Nat
 data:List UInt8
def zDj (w:World) (b off:Nat) (x:Nd):Prop :=
 w.cell? ⟨b,off,none⟩=some (.string x.path)∧w.cell? ⟨b,off+1,none⟩=some (.int .i64 x.kind)∧w.cell? ⟨b,off+2,none⟩=some (.int .i64 x.made) ∧
 w.cell? ⟨b,off+3,none⟩=some (.string x.same)∧w.cell? ⟨b,off+4,none⟩=some (.slice x.dA x.data.length x.dc)
structure NodesAt (w:World) (B:Nat) (A:Option Addr) (l:List Nd):Prop where
 at_:0<l.length→∃ b off,A=some ⟨b,off,none⟩∧b<B∧∀ i (h:i<l.length),zDj w b (off+i * 5) l[i]
 data:∀ x∈l,Sees w B 1 x.dA x.data.length (bvs x.data)
section
variable {w w1:World} {B B':Nat} {A:Option Addr} {l:List Nd}
theorem zDj.keep {b off:Nat} {x:Nd} (h:zDj w b off x) (hk:∀ p:Addr,p.block=b→w1.cell? p=w.cell? p):zDj w1 b off x :=
 ⟨(hk _ rfl).trans h.1,(hk _ rfl).trans h.2.1,(hk _ rfl).trans h.2.2.1,(hk _ rfl).trans h.2.2.2.1,(hk _ rfl).trans h.2.2.2.2⟩
theorem NodesAt.keep (h:NodesAt w B A l) (hk:∀ p:Addr,p.block<B→w1.cell? p=w.cell? p):NodesAt w1 B A l :=
 ⟨fun hn=>let ⟨b,off,e,hb,hc⟩:=h.at_ hn;⟨b,off,e,hb,fun i hi=>(hc i hi).keep fun p hp=>hk p (by omega)⟩,fun x hx=>(h.data x hx).keep hk⟩
theorem NodesAt.below (h:NodesAt w B A l) (hb:Below B w w1):NodesAt w1 B A l:=h.keep fun _ hp=>hb.cell hp
theorem NodesAt.more (h:NodesAt w B A l) (hB:B≤B'):NodesAt w B' A l :=
 ⟨fun hn=>let ⟨b,off,e,hb,hc⟩:=h.at_ hn;⟨b,off,e,by omega,hc⟩,fun x hx=>(h.data x hx).more hB⟩
end
def zEb (x:Nd):Prop:=(x.kind=1∨x.kind=2)∧0≤x.made∧x.made≤1099511627776∧x.path.size≤400∧x.same.size≤400∧x.data.length≤136704
instance (x:Nd):Decidable (zEb x):=by unfold zEb;infer_instance
def enc1 (x:Nd):List UInt8 :=
 AH (x.kind % 256).toNat::(zB2 x.made 8++(zB2 x.path.size 4++(x.path.data.toList++(zB2 x.same.size 4++(x.same.data.toList++(zB2 x.data.length 4++x.data))))))
def zBz (l:List Nd):List UInt8:=l.flatMap enc1
def Bts (l:List Nd) (w:World) (e:Ending) (w':World):Prop :=
 (((∀ x∈l,zEb x)∧∃ v',e=.returned (.tuple #[v',.int .i64 0])∧w'.ownsRow w.heap.size 5 1 v' (zBz l).length (bvs (zBz l))) ∨
  ((¬∀ x∈l,zEb x)∧e=.returned (.tuple #[.slice none 0 0,.int .i64 170])))∧Below w.heap.size w w'
theorem zFf (x:Nd):(enc1 x).length=21+x.path.size+x.same.size+x.data.length:=by
 have h1:x.path.data.toList.length=x.path.size:=by rw [AR];rfl
 have h2:x.same.data.toList.length=x.same.size:=by rw [AR];rfl
 simp only [enc1,Ar,An,zAY,h1,h2];omega
theorem enc_row (done:List UInt8) (pa:ByteArray) (ki ma:Int) (sa:ByteArray) (dA:Option Addr) (dc:Nat) (da:List UInt8) :
 bvs done++[.int .u8 (ki % 256)]++bvs (zB2 ma 8)++bvs (zB2 pa.size 4)++byteCells pa++bvs (zB2 sa.size 4)++byteCells sa++bvs (zB2 da.length 4)++bvs da=bvs (done++enc1 ⟨pa,ki,ma,sa,dA,dc,da⟩):=by
 simp only [enc1,zBZ,zHu,List.append_assoc]
 congr 1
 show _=AE .u8 _::bvs _
 rw [u8_of];simp only [zBZ,List.singleton_append]
theorem enc_len (done:List UInt8) (pa:ByteArray) (ki ma:Int) (sa:ByteArray) (dA:Option Addr) (dc:Nat) (da:List UInt8) :
 (done++enc1 ⟨pa,ki,ma,sa,dA,dc,da⟩).length=done.length+1+8+4+pa.size+4+sa.size+4+da.length:=by
 rw [An,zFf]
 show _+(21+pa.size+sa.size+da.length)=_
 omega
theorem zD1 (a b:List Nd):zBz (a++b)=zBz a++zBz b:=by unfold zBz;rw [List.flatMap_append]
theorem zFc (l:List Nd) (i:Nat) (h:i<l.length):zBz (l.take (i+1))=zBz (l.take i)++enc1 l[i]:=by
 have e:l.take (i+1)=l.take i++[l[i]]:=As h;rw [e,zD1];simp [zBz]
theorem encAll_le (l:List Nd) (i:Nat) (h:i<l.length):(zBz (l.take i)).length+(enc1 l[i]).length≤(zBz l).length:=by
 have h1:=zFc l i h
 have h2:zBz l=zBz (l.take (i+1))++zBz (l.drop (i+1)):=by rw [←zD1,List.take_append_drop]
 rw [h2,h1,An,An];omega
theorem low8 (B:Nat) (v:Value) (xs:List Value) (n0:Nat) (n:Int) (w:World) (hx:n0≤1000000000) (hn:0≤n) (fB:n≤1099511627776) (hB:B≤w.heap.size) (fA:w.ownsRow B 5 1 v n0 xs) :
 Calls AI 44 #[v,.int .i64 n,.int .i64 8] w fun e w'=>∃ v',e=.returned v'∧w'.ownsRow B 5 1 v' (n0+8) (xs++bvs (zB2 n 8))∧Grows w v w' v' :=
 low_any B v xs n0 n 8 w hx (by omega) hn (by omega) hB fA
theorem low4 (B:Nat) (v:Value) (xs:List Value) (n0:Nat) (n:Int) (w:World) (hx:n0≤1000000000) (hn:0≤n) (fB:n≤1099511627776) (hB:B≤w.heap.size) (fA:w.ownsRow B 5 1 v n0 xs) :
 Calls AI 44 #[v,.int .i64 n,.int .i64 4] w fun e w'=>∃ v',e=.returned v'∧w'.ownsRow B 5 1 v' (n0+4) (xs++bvs (zB2 n 4))∧Grows w v w' v' :=
 low_any B v xs n0 n 4 w hx (by omega) hn (by omega) hB fA
theorem bytes_any (A:Option Addr) (cap:Nat) (l:List Nd) (w:World) (hN:NodesAt w w.heap.size A l) (jX:(zBz l).length≤1000000000) (jO:l.length≤1000000000) :
 Calls AI 28 #[.slice A l.length cap] w (Bts l w):=by
 obtain⟨i0,hi,gD,gE,gF⟩:=Ah zCP;obtain⟨len,fG⟩:∃ len,len=l.length:=⟨_,rfl⟩;have fD:=hid fG;rw [←fG] at jO ⊢;clear fG;go_enter Tryz.func28,Tryz.ntmps28;go_wp2
 go_loopw [4,9] (fun u i wr=>∃ (j:Nat),j≤len∧Hid (∀ x∈l.take j,zEb x)∧i=.int .i64 j∧wr.ownsRow w.heap.size 5 1 u (zBz (l.take j)).length (bvs (zBz (l.take j)))∧Below w.heap.size w wr)
  (fun _ i _=>len-(intOf i).toNat)
 case atStart=>exact⟨0,Ae _,(by simp [Hid]),rfl,by simpa [zBz,bvs] using AP _ _ _ _,Af _ _⟩
 case round =>
  obtain⟨j,hj,fH,rfl,ho,hb⟩:=hrel;have jP:=hb.size;by_cases jY:j<len
  · have fN:j<l.length:=by have:=fD.o;omega
    obtain⟨b,off,rfl,jZ,hc⟩:=hN.at_ (by omega);have jQ:=(hc j fN).keep (w1:=wr) fun p hp=>hb.cell (by omega);have fP:=At fN;have fQ:l.take (j+1)=l.take j++[l[j]]:=As fN
    have fE:Hid (zEb l[j]→∀ x∈l.take (j+1),zEb x):=by
     intro hx y hy;rw [fQ,Au,Aq] at hy;rcases hy with hy | rfl
     · exact fH.o y hy
     · exact hx
    have fR:Hid (¬zEb l[j]→¬∀ x∈l,zEb x):=fun hn ha=>hn (ha _ fP);clear fQ fP fH;have gQ:=hN.data _ (At fN);have gR:=encAll_le l j fN;have jR:=hid (zFc l j fN);rw [zFf] at gR;clear hc hN;generalize l[j]=x at *;generalize zBz (l.take j)=done at *;obtain⟨pa,ki,ma,sa,dA,dc,da⟩:=x;obtain⟨c0,c1,c2,c3,c4⟩:=jQ;simp only at c0 c1 c2 c3 c4 gR gQ;have fS:∀ g,u4.ownBlock=some g→g<wr.heap.size:=fun g hg=>(ho.lt g hg).2;go_upto_region 5 with (fail)
    have jS:zDj (wr.alloc (.cells #[.string pa,.int .i64 ki,.int .i64 ma,.string sa,.slice dA da.length dc] 75)) wr.heap.size 0 ⟨pa,ki,ma,sa,dA,dc,da⟩:=by
     refine⟨?_,?_,?_,?_,?_⟩<;>(rw [World.cell?_alloc_at _ _ _ _ rfl];rfl)
    have fF:=hb.alloc jP (.cells #[.string pa,.int .i64 ki,.int .i64 ma,.string sa,.slice dA da.length dc] 75);have gH:=ho.alloc (.cells #[.string pa,.int .i64 ki,.int .i64 ma,.string sa,.slice dA da.length dc] 75)
    have fC:wr.heap.size<(wr.alloc (.cells #[.string pa,.int .i64 ki,.int .i64 ma,.string sa,.slice dA da.length dc] 75)).heap.size:=by simp
    generalize wr.alloc (.cells #[.string pa,.int .i64 ki,.int .i64 ma,.string sa,.slice dA da.length dc] 75)=W1 at *;generalize wr.heap.size=g at *;clear ho hb c0 c1 c2 c3 c4;obtain⟨c0,c1,c2,c3,c4⟩:=jS
    go_cut [9,48] from 9 to 82 (fun s9 s48 wx=>∃ bad:Bool,s9=.int .i64 j∧s48=.bool bad∧Hid (bad=!decide (zEb ⟨pa,ki,ma,sa,dA,dc,da⟩))∧W1=wx)
    case first =>
     by_cases hk:ki=1∨ki=2
     · rcases hk with rfl | rfl
       all_goals
        by_cases h1:ma<0
        · (go_wp2;go_meet;exact⟨!decide (zEb _),rfl,congrArg AG (by rw [Bool.eq_iff_iff];simp [zEb];omega),rfl,rfl⟩)
        · by_cases h2:1099511627776<ma
          · (go_wp2;go_meet;exact⟨!decide (zEb _),rfl,congrArg AG (by rw [Bool.eq_iff_iff];simp [zEb];omega),rfl,rfl⟩)
          · by_cases h3:400<pa.size
            · (go_wp2;go_meet;exact⟨!decide (zEb _),rfl,congrArg AG (by rw [Bool.eq_iff_iff];simp [zEb];omega),rfl,rfl⟩)
            · by_cases h4:400<sa.size
              · (go_wp2;go_meet;exact⟨!decide (zEb _),rfl,congrArg AG (by rw [Bool.eq_iff_iff];simp [zEb];omega),rfl,rfl⟩)
              · by_cases h5:136704<da.length
                · (go_wp2;go_meet;exact⟨!decide (zEb _),rfl,congrArg AG (by rw [Bool.eq_iff_iff];simp [zEb];omega),rfl,rfl⟩)
                · (go_wp2;go_meet;exact⟨!decide (zEb _),rfl,congrArg AG (by rw [Bool.eq_iff_iff];simp [zEb];omega),rfl,rfl⟩)
     · have jT:ki≠1:=fun h=>hk (.inl h);have jU:ki≠2:=fun h=>hk (.inr h);clear hk;go_wp2;go_meet;exact⟨!decide (zEb _),rfl,congrArg AG (by rw [Bool.eq_iff_iff];simp [zEb,jT,jU]),rfl,rfl⟩
    case rest =>
     obtain⟨bad,rfl,rfl,gI,rfl⟩:=hcut;cases bad
     case true =>
      go_wp2
      go_ret2
      exact⟨.inr ⟨fR.o (by simpa using gI.o.symm),rfl⟩,fF⟩
     case false =>
     have fB:zEb ⟨pa,ki,ma,sa,dA,dc,da⟩:=by simpa using gI.o.symm
     obtain⟨hk,gS,gT,hp,hs,hd⟩:=id fB;simp only at hk gS gT hp hs hd;have fT:=hid (fE.o fB);clear fE fR gI fB;go_wp2
     have gJ:done.length+1≤1000000000:=by omega
     have fA:u4.ownBlock≠some g:=fun e=>by have:=fS g e;omega
     go_region_held3 (fun w'=>w'.cell? ⟨g,0+1,none⟩=some (.int .i64 ki)∧w'.cell? ⟨g,0+2,none⟩=some (.int .i64 ma))
      (first | go_keep)
      (first
       | (refine zBc _ (by rfl) _ _ _ _ (by rfl) w.heap.size 5 i0 (.int .u8 0) 1 1 AJ hi gD gE gF rfl u4 done.length (bvs done) (by rfl) ((gH.alloc _).drew) 1 [.int .u8 (ki % 256)] (zCj W1 AJ _ _ rfl) (by unfold maxLen;omega) (by omega) (by have:=fF.size;simp;omega) ?_;intro v2 w2 gU fU fI;have k1:=zHa fU c1 fA;have k2:=zHa fU c2 fA;have fJ:=ne_law (W:=W1) fI fA fC (by simp);have fV:W1.heap.size<w2.heap.size:=Ac (by simp) fU.size;have gV:w.heap.size≤w2.heap.size:=Ab fF.size (Nat.le_of_lt fV))
       | (go_at_call 44;refine (low8 w.heap.size v2 (bvs done++[.int .u8 (ki % 256)]) (done.length+1) ma w2 gJ gS gT gV gU).mono ?_;rintro e w3 ⟨v3,rfl,gW,gG⟩;have k1':=zBd gG k1 fJ;have k2':=zBd gG k2 fJ))
     have G3:=(Grows.of_law ((Af W1.heap.size W1).alloc nr _).drew fU fI (by simp)).trans gG;clear fU fI gG gU fJ k1 k2 k1' k2' fV gV;have gX:=G3.chg.size;have fK:=zDg G3 fA fC
     have gY:g<w3.heap.size:=by omega
     have c0':=zBd G3 c0 fA;have c3':=zBd G3 c3 fA;have c4':=zBd G3 c4 fA;have gK:w.heap.size≤w3.heap.size:=Ab fF.size gX;clear c0 c1 c2;go_wp2
     go_region_held3 (fun w'=>w'.cell? ⟨g,0,none⟩=some (.string pa))
      (first | go_keep)
      (first
       | (go_at_call 44;refine (low4 w.heap.size v3 _ (done.length+1+8) pa.size w3.drew (by omega) (by omega) (by omega) gK gW).mono ?_;rintro e w4 ⟨v4,rfl,gZ,fW⟩;have k4:=zBd fW c0' fK;have jA:=fW.chg.size;have jB:w.heap.size≤w4.heap.size:=Ab gK jA)
       | (refine zBc _ (by rfl) _ _ _ _ (by rfl) w.heap.size 5 i0 (.int .u8 0) 1 1 AJ hi gD gE gF rfl v4 (done.length+1+8+4) _ (by rfl) gZ pa.size (byteCells pa) (Src.ofString _ AK pa) (by unfold maxLen;omega) (by omega) jB ?_;intro v5 w5 jC gL fX;have k5:=zEz gL k4 (zDg fW fK gY)))
     have G5:=G3.drew.trans (fW.trans (Grows.of_law (Af w4.heap.size w4) gL fX nr));clear G3 fW gL fX gW gZ fK k4 k5 jA jB gK gX gY;have jD:=G5.chg.size;have fL:=zDg G5 fA fC;go_wp2;have gM:w.heap.size≤w5.heap.size:=Ab fF.size jD
     have fY:g<w5.heap.size:=by omega
     have q3:=zBd G5 c3 fA
     go_region_held3 (fun w'=>w'.cell? ⟨g,0+3,none⟩=some (.string sa))
      (first | go_keep)
      (first
       | (go_at_call 44;refine (low4 w.heap.size v5 _ (done.length+1+8+4+pa.size) sa.size w5.drew (by omega) (by omega) (by omega) gM jC).mono ?_;rintro e w6 ⟨v6,rfl,jE,fZ⟩;have k6:=zBd fZ q3 fL;have jF:=fZ.chg.size;have jG:w.heap.size≤w6.heap.size:=Ab gM jF)
       | (refine zBc _ (by rfl) _ _ _ _ (by rfl) w.heap.size 5 i0 (.int .u8 0) 1 1 AJ hi gD gE gF rfl v6 (done.length+1+8+4+pa.size+4) _ (by rfl) jE sa.size (byteCells sa) (Src.ofString _ AK sa) (by unfold maxLen;omega) (by omega) jG ?_;intro v7 w7 jH gN gA;have k7:=zEz gN k6 (zDg fZ fL fY)))
     have G7:=G5.drew.trans (fZ.trans (Grows.of_law (Af w6.heap.size w6) gN gA nr));clear G5 fZ gN gA jC jE fL k6 k7 jF jG gM jD fY;have jI:=G7.chg.size;have fM:=zDg G7 fA fC;go_wp2;have gO:w.heap.size≤w7.heap.size:=Ab fF.size jI
     have gB:g<w7.heap.size:=by omega
     have q4:=zBd G7 c4 fA
     go_region_held3 (fun w'=>w'.cell? ⟨g,0+4,none⟩=some (.slice dA da.length dc))
      (first | go_keep)
      (first
       | (go_at_call 44;refine (low4 w.heap.size v7 _ (done.length+1+8+4+pa.size+4+sa.size) da.length w7.drew (by omega) (by omega) (by omega) gO jH).mono ?_;rintro e w8 ⟨v8,rfl,jJ,fO⟩;have k8:=zBd fO q4 fM;have jK:=fO.chg.size;have jL:w.heap.size≤w8.heap.size:=Ab gO jK;have jM:=(Grows.first fF (G7.drew.trans fO) (fun q hq=>(gH.lt q hq).1)).1)
       | (refine zBc _ (by rfl) _ _ _ _ (by rfl) w.heap.size 5 i0 (.int .u8 0) 1 1 AJ hi gD gE gF rfl v8 (done.length+1+8+4+pa.size+4+sa.size+4) _ (by rfl) jJ da.length (bvs da) (zCn _ AJ dc (gQ.below jM) (zB4 da)) (by unfold maxLen;omega) (by omega) jL ?_;intro v9 w9 jV gP gC;have k9:=zEz gP k8 (zDg fO fM gB)))
     have G9:=G7.drew.trans (fO.trans (Grows.of_law (Af w8.heap.size w8) gP gC nr));have jW:=(Grows.first fF G9 (fun q hq=>(gH.lt q hq).1)).1;clear G7 fO gP gC jH jJ fM k8 k9 jK jL gO jI gB jM c3 c4;go_wp2;go_roundw
     case rel=>exact⟨j+1,by omega,fT.o,by go_num,by rw [jR.o,enc_len,←enc_row];exact jV,jW⟩
     case measure=>simp [intOf];omega
  · obtain rfl:j=len:=by omega
    go_wp2
    go_ret2
    have h9:=fD.o;have jN:=fH.o;rw [h9,List.take_length] at ho jN;exact⟨.inl ⟨jN,_,rfl,ho⟩,hb⟩
section
variable {P:Program} {w:World}
theorem zIr {src e:TypeId} (hs:P.underlying src=some (.slice e)) (he:P.underlying e=some (.int .u8)) {B:Nat} {A:Option Addr} (c:Nat) {n:Nat} {l:List UInt8} (h:Sees w B 1 A n (bvs l)) :
 ∀ dst,P.underlying dst=some .string→(convert src dst (.slice A n c)).run P w=.ok (.string ⟨l.toArray⟩) w:=by
 intro dst hd
 have hl:n=l.length:=by have:=h.len;rw [zAc] at this;omega
 subst hl;rcases A with _ | ad
 · have h0:l=[]:=by
    rcases Nat.eq_zero_or_pos l.length with h0 | h0
    · exact List.eq_nil_of_length_eq_zero h0
    · obtain⟨b,off,e,_⟩:=h.at_ h0;cases e
   subst h0;exact run_convert_bytes_nil w src e hs he _ c dst hd
 · have fA:(loadCells ad l.length).run P w=.ok (((l.map fun b=>(b.toNat:Int)).map (AE .u8)).toArray) w:=by
    have:=run_loadCells_list (P:=P) w ad (bvs l) (fun j v hj=>by
     rcases Nat.eq_zero_or_pos l.length with h0 | h0
     · have:l=[]:=List.eq_nil_of_length_eq_zero h0;subst this;simp [bvs] at hj
     · obtain⟨b,off,e,hb,hc⟩:=h.at_ h0;injection e with e;subst e;rw [AO];exact hc j v hj)
    rw [zAc] at this;rw [this,bvs,List.map_map];rfl
   rw [run_convert_bytes_string w src dst e _ _ c hs he hd,run_bytesToString w _ _ c _ fA,foldl_push_bytes]
   have hiD:(fun n:Int=>AH n.toNat) ∘ (fun b:UInt8=>(b.toNat:Int))=id:=by
    funext b
    simp
   rw [List.map_map,hiD,List.map_id]
   simp [AS,ByteArray.emptyWithCapacity]
   rfl
theorem zEX {src e0:TypeId} (hs:P.underlying src=some (.slice e0)) (he:P.underlying e0=some (.int .u8)) {base:Nat} {e:TypeId} {v:Value} {n:Nat} {l:List UInt8} (h:w.ownsRow base e 1 v n (bvs l)) :
 ∀ dst,P.underlying dst=some .string→(convert src dst v).run P w=.ok (.string ⟨l.toArray⟩) w:=by
 obtain⟨A,c,rfl,hS⟩:=Sees.of_own (B:=w.heap.size) h fun g hg=>(h.lt g hg).2;exact zIr hs he c hS
end
def zHN (l:List Nd):Nat:=(l.map fun x=>x.path.size+x.same.size+x.data.length).sum
theorem zFg (l:List Nd) (i:Nat) (h:i<l.length):zHN (l.take (i+1))=zHN (l.take i)+(l[i].path.size+l[i].same.size+l[i].data.length):=by
 have e:l.take (i+1)=l.take i++[l[i]]:=As h;rw [e];unfold zHN;rw [Av,List.sum_append];simp only [Am,Ap,List.sum_cons,List.sum_nil,Nat.add_zero]
theorem zH7 (l:List Nd) (i:Nat):zHN (l.take i)≤zHN l:=by
 have e:zHN l=zHN (l.take i)+zHN (l.drop i):=by
  unfold zHN;rw [←List.sum_append,←Av,List.take_append_drop]
 omega
def fewB (l:List Nd):Bool:=decide (zHN l≤2097152∧l.length≤5000)
theorem few_any (A:Option Addr) (cap:Nat) (l:List Nd) (w:World) (hN:NodesAt w w.heap.size A l) (fG:l.length≤281474976710656)
 (fB:∀ x∈l,x.path.size≤140737488351232∧x.same.size≤140737488351232∧x.data.length≤140737488351232) :
 Calls AI 16 #[.slice A l.length cap] w fun e w'=>e=.returned (.bool (fewB l))∧∃ n,w'=w.drewN n:=by
 obtain⟨len,fC⟩:∃ len,len=l.length:=⟨_,rfl⟩;have fA:=hid fC;rw [←fC] at fG ⊢;clear fC;go_enter Tryz.func16,Tryz.ntmps16;go_wp2
 go_loopw [3,4] (fun n i wr=>∃ j m:Nat,j≤len∧i=.int .i64 j∧n=.int .i64 m∧Hid (m=zHN (l.take j))∧m≤500000000000000∧∃ k,wr=w.drewN k)
  (fun _ i _=>len-(intOf i).toNat)
 case atStart=>exact⟨0,0,Ae _,rfl,rfl,by simp [Hid,zHN],by omega,0,rfl⟩
 case round =>
  obtain⟨j,m,hj,rfl,rfl,hm,fM,k,rfl⟩:=hrel;by_cases fN:j<len
  · have fE:j<l.length:=by have:=fA.o;omega
    by_cases fH:m≤2097152
    · obtain⟨b,off,rfl,fO,hc⟩:=hN.at_ (by omega);have fI:=hc j fE;have fJ:=fB _ (At fE);have fK:=hid (zFg l j fE);clear hN hc fB;generalize l[j]=x at *;obtain⟨pa,ki,ma,sa,dA,dc,da⟩:=x;obtain⟨c0,c1,c2,c3,c4⟩:=fI;obtain⟨z1,z2,z3⟩:=fJ;simp only at c0 c1 c2 c3 c4 z1 z2 z3;go_wp2
      go_quiet (fail)
      go_wp2;go_roundw
      case rel=>exact⟨j+1,m+(pa.size+sa.size+da.length),by omega,by go_num,by go_num,by have h1:=fK.o;have h2:=hm.o;show _=_;rw [h1,←h2],by omega,k+nq,by simp [World.drewN]⟩
      case measure=>simp [intOf];omega
    · have fL:=zH7 l j
      have fD:Hid (fewB l=false):=by
       have:=hm.o
       show decide _=false
       simp only [decide_eq_false_iff_not];omega
      clear hN fB fL;go_wp2;go_ret;exact⟨by rw [fD.o];rfl,k,rfl⟩
  · obtain rfl:j=len:=by omega
    have fF:Hid (m=zHN l):=by have h1:=hm.o;rw [fA.o,List.take_length] at h1;exact h1
    have fD:Hid (fewB l=decide ((m:Int)≤2097152∧(j:Int)≤5000)):=by
     have h1:=fF.o;have h2:=fA.o
     show decide _=decide _
     rw [decide_eq_decide,←h1,←h2];omega
    clear hN fB;by_cases fH:m≤2097152
    all_goals
     go_wp2;go_ret;exact⟨by rw [fD.o];exact congrArg (fun b=>Ending.returned (AG b)) (by rw [Bool.eq_iff_iff];simp;omega),k,rfl⟩
def chapC:Nd:=⟨⟨#[47,99]⟩,1,7,AS,none,0,[]⟩
theorem zGS:zBz [chapC]=[1,7,0,0,0,0,0,0,0,2,0,0,0,47,99,0,0,0,0,0,0,0,0]:=by decide +kernel
theorem ok_chapC:∀ x∈[chapC],zEb x:=by
 intro x hx;rw [Aq] at hx;subst hx
 decide +kernel
theorem awake_any (w:World) :
 Calls AI 7 #[] w fun e w'=>e=.returned (.bool true)∧Below w.heap.size w w':=by
 have fA:NodesAt (w.alloc (.cells #[.string ⟨#[47,99]⟩,.int .i64 1,.int .i64 7,.string ⟨#[]⟩,.slice none 0 0] 75)) (w.heap.size+1) (some ⟨w.heap.size,0,none⟩) [chapC]:=by
  refine⟨fun _=>⟨w.heap.size,0,rfl,by omega,fun i hi=>?_⟩,fun x hx=>?_⟩
  · have:i=0:=by simpa using hi
    subst this;refine⟨?_,?_,?_,?_,?_⟩<;>(rw [World.cell?_alloc_at _ _ _ _ rfl];rfl)
  · rw [Aq] at hx;subst hx;exact Sees.nil
 go_enter Tryz.func7,Tryz.ntmps7;go_wp2_with fail;have hc:=bytes_any (some ⟨w.heap.size,0,none⟩) 1 [chapC] (w.alloc (.cells #[.string ⟨#[47,99]⟩,.int .i64 1,.int .i64 7,.string ⟨#[]⟩,.slice none 0 0] 75)) (by simpa using fA) (by rw [zGS];decide) (by decide);refine hc.mono ?_;rintro e w1 ⟨⟨_,v1,rfl,ho⟩ | ⟨hn,_⟩,hb⟩
 case inr=>exact absurd ok_chapC hn
 rw [zGS] at ho;have hs:=zEX (P:=AI) AJ AL ho 9 AK;have hB:Below w.heap.size w w1:=(br.alloc nr _).trans (hb.mono (by simp));clear ho hb fA hc;go_wp2;go_ret;exact⟨by rfl,hB⟩
def zGG:List UInt8→Nat
 | []=>0
 | x::xs=>x.toNat+256 * zGG xs
theorem numL_lt (l:List UInt8):zGG l<2 ^ (8 * l.length):=by
 induction l with
 | nil=>simp [zGG]
 | cons x xs ih =>
  have hx:x.toNat<256:=x.toNat_lt
  have e:2 ^ (8 * (x::xs).length)=256 * 2 ^ (8 * xs.length):=by rw [Ar,Nat.mul_add,Nat.pow_add];omega
  rw [e];simp only [zGG];omega
theorem zHC (k:Nat):∀ m:Int,0≤m→zGG (zB2 m k)=(m % (256 ^ k:Nat)).toNat:=by
 induction k with
 | zero =>
  intro m hm
  show 0=(m % ((256 ^ 0:Nat):Int)).toNat
  rw [Nat.pow_zero];omega
 | succ k ih =>
  intro m hm
  have h1:(AH (m % 256).toNat).toNat=(m % 256).toNat:=by have:=u8_of m;omega
  simp only [zB2,zGG,ih (m / 256) (by omega),h1];obtain⟨n,rfl⟩:=Int.eq_ofNat_of_zero_le hm;rw [Nat.pow_succ,Nat.mul_comm (256 ^ k) 256];have e2:n % (256 * 256 ^ k)=n % 256+256 * (n / 256 % 256 ^ k):=Nat.mod_mul;generalize 256 ^ k=q at *;have e1:((n:Int) / 256 % (q:Int)).toNat=n / 256 % q:=rfl;have e3:((n:Int) % ((256 * q:Nat):Int)).toNat=n % (256 * q):=rfl;have e4:((n:Int) % 256).toNat=n % 256:=rfl;rw [e1,e3,e4,e2]
def takeX (k:Nat):Option (List UInt8)→List UInt8
 | none=>[]
 | some r=>if r.length<k then [] else r.take k
def takeO (k:Nat):Option (List UInt8)→Option (List UInt8)
 | none=>none
 | some r=>if r.length<k then none else some (r.drop k)
def numX (k most:Nat) (o:Option (List UInt8)):Nat:=if zGG (takeX k o)≤most then zGG (takeX k o) else 0
def numO (k most:Nat) (o:Option (List UInt8)):Option (List UInt8):=if zGG (takeX k o)≤most then takeO k o else none
theorem clone_any (B:Nat) (A:Option Addr) (c:Nat) (xs:List UInt8) (w:World) (hs:Sees w B 1 A xs.length (bvs xs)) (hB:B≤w.heap.size) (hl:xs.length≤1000000000) :
 Calls AI 47 #[.slice A xs.length c] w fun e w'=>∃ v',e=.returned v'∧w'.ownsRow w.heap.size 5 1 v' xs.length (bvs xs)∧Below w.heap.size w w':=by
 go_enter Tryz.func47,Tryz.ntmps47
 have hq:∀ n c',(binOp .eql 64 (.slice A n c') (.slice none 0 0)).run AI w=.ok (.bool A.isNone) w:=fun n c'=>by
  have h:∀ d:Nat,(Op.equalIn (d+1) 64 (.slice A n c') (.slice none 0 0)).run AI w=.ok A.isNone w:=fun d=>by
   cases A<;>simp [Op.equalIn,Ai (P:=AI) AJ]
  simp only [binOp];simp [Op.equal,Op.maxDepth,h 9999]
 have fA:=hq xs.length c;clear hq;rcases A with _ | ad
 · have hx:xs=[]:=by
    cases xs with
    | nil=>rfl
    | cons x xs=>obtain⟨b,off,e,_⟩:=hs.at_ (by simp);cases e
   subst hx;simp only [Aw,Option.isNone_none] at fA;simp only [Aw];go_wp2;go_ret;exact⟨_,rfl,⟨rfl,.inl ⟨rfl,rfl⟩⟩,Af _ _⟩
 · simp only [Option.isNone_some] at fA;obtain⟨i0,hi,fC,fD,fE⟩:=Ah zCP;have fB:Below w.heap.size w (w.alloc (.cells #[] 5)):=br.alloc nr _;have fF:(w.alloc (.cells #[] 5)).ownsRow w.heap.size 5 1 (.slice (some ⟨w.heap.size,0,none⟩) 0 0) 0 []:=⟨rfl,.inr ⟨w.heap.size,0,#[],rfl,Aa _,heap_alloc_new w _,Aa _,by unfold maxLen;omega,rfl,rfl⟩⟩
   go_wp2_with (first
    | (at_builtin;refine zAg _ rfl _ _ _ _ rfl w.heap.size 5 i0 (.int .u8 0) 1 1 AJ hi fC fD fE rfl _ 0 [] rfl fF xs.length (bvs xs) (zCn _ AJ c ((hs.more hB).below fB) (zB4 xs)) (by unfold maxLen;omega) (by omega) (by simp) ?_;intro v' w' fG fH fI)
    | go_in)
   go_wp2;go_ret;exact⟨_,rfl,by simpa using fG,fB.grown fH (by simp) (fun g e=>by simp [Act.eval,AF] at e;omega)⟩
open Go.ChangeShapes Go.WideShapes Go.ChangeAt
theorem zHz:Tryz.prog.cellsOf 75=5:=by kernel_rfl
theorem zIO:Tryz.prog.cellsOf 3=1:=by kernel_rfl
theorem zJG:Tryz.prog.cellsOf 9=1:=by kernel_rfl
theorem cellsSl:Tryz.prog.cellsOf 64=1:=by kernel_rfl
theorem cellsU8:Tryz.prog.cellsOf 5=1:=by kernel_rfl
theorem bytesU8:Tryz.prog.bytesOf 5=1:=by kernel_rfl
theorem bytesNode:Tryz.prog.bytesOf 75=72:=by kernel_rfl
def zJl {H:Type} (x:Nd) (d:DataW H):Prop :=
 ∃ dd:DataW H,d=.agg [.lit (.string x.path.data.toList),.lit (.int .i64 x.kind),.lit (.int .i64 x.made),.lit (.string x.same.data.toList),dd] ∧
  ((dd=.nil∧x.data=[])∨∃ es sp,dd=.slice es sp∧es.length=x.data.length)
theorem u8_back (n:Int) (h:(Lit.int .u8 n).wf=true):((AH n.toNat).toNat:Int)=n:=by
 have hx:0≤n∧n≤255:=by simpa [Lit.wf,IntKind.min,IntKind.max,IntKind.signed,IntKind.bits] using h
 have:(AH n.toNat).toNat=n.toNat % 256:=UInt8.toNat_ofNat';omega
theorem zFX {H:Type} {enc:TypeId×Value→H} {W:World} {fuel:Nat} {cs:List Value} {x:DataW H×List MemPlace} (h:AT enc AI W 0 (fun _=>true) true fuel 64 cs=some x) :
 ∃ (A:Option Addr) (c:Nat) (l:List UInt8),cs=[.slice A l.length c]∧l.length≤c∧c≤maxLen∧Sees W W.heap.size 1 A l.length (bvs l) ∧
  ((x.1=.nil∧l=[])∨∃ es sp,x.1=.slice es sp∧es.length=l.length):=by
 rcases open_ints AJ AL cellsU8 h with ⟨rfl,rfl⟩ | ⟨a,len,cap,zs,rfl,_,hl,hm,hz,rfl,hcell,hwf⟩
 · exact⟨none,0,[],rfl,Aa _,by unfold maxLen;omega,Sees.nil,.inl ⟨rfl,rfl⟩⟩
 · simp only [if_true] at hz
   have fA:((zs.take len).map fun n=>AH n.toNat).length=len:=by rw [Ax,Ak];omega
   refine⟨some a,cap,(zs.take len).map fun n=>AH n.toNat,by rw [fA],by omega,hm,⟨by rw [zAc];omega,fun hn=>?_⟩,.inr ⟨_,_,rfl,by rw [fA];simp [lits];omega⟩⟩;rw [fA] at hn;have fD:=hcell 0 (by omega);obtain⟨b,off,spot⟩:=a
   have fB:spot=none:=by simpa [Addr.add] using World.cell?_spot fD
   subst fB;refine⟨b,off,rfl,?_,fun j u hu=>?_⟩
   · have:=AQ W _ fD;simpa [Addr.add] using this
   · have hj:j<len:=by
      rcases Nat.lt_or_ge j len with h | h
      · exact h
      · have:(bvs ((zs.take len).map fun n=>AH n.toNat)).length≤j:=by rw [zAc,fA];exact h
        rw [List.getElem?_eq_none this] at hu;cases hu
     have fC:j<zs.length:=by omega
     have hc:=hcell j fC;rw [AO] at hc;rw [hc];have hw:=hwf _ (At fC);have fE:=u8_back _ hw;simp only [bvs,List.map_map,List.getElem?_map,Aj,hj,if_true,Ay fC,Option.map_some,Function.comp,fE] at hu;rw [←hu];simp [List.getD,Ay fC]
theorem open_node {H:Type} {enc:TypeId×Value→H} {W:World} {fuel:Nat} {cs:List Value} {x:DataW H×List MemPlace} (h:AT enc AI W 0 (fun _=>true) true fuel 75 cs=some x) :
 ∃ nd:Nd,cs=[.string nd.path,.int .i64 nd.kind,.int .i64 nd.made,.string nd.same,.slice nd.dA nd.data.length nd.dc]∧Sees W W.heap.size 1 nd.dA nd.data.length (bvs nd.data)∧nd.data.length≤nd.dc∧zJl nd x.1:=by
 obtain⟨xs,n,rfl,rfl,fB,fC,hf⟩:=DataW.trod_struct Tryz.underlying75 h;rw [zHz] at fB;have fA:xs.length=5:=fC
 obtain⟨k0,k1,k2,k3,k4,rfl⟩:∃ a b c d e,cs=[a,b,c,d,e]:=by
  match cs,fB with
  | [a,b,c,d,e],_=>exact⟨a,b,c,d,e,rfl⟩
 obtain⟨y0,y1,y2,y3,y4,rfl⟩:∃ a b c d e,xs=[a,b,c,d,e]:=by
  match xs,fA with
  | [a,b,c,d,e],_=>exact⟨a,b,c,d,e,rfl⟩
 have f0:AT enc AI W 0 (fun _=>true) true n 9 (([k0,k1,k2,k3,k4].drop 0).take (Tryz.prog.cellsOf 9))=some y0:=hf 0 _ rfl;have f1:AT enc AI W 0 (fun _=>true) true n 3 (([k0,k1,k2,k3,k4].drop 1).take (Tryz.prog.cellsOf 3))=some y1:=hf 1 _ rfl;have f2:AT enc AI W 0 (fun _=>true) true n 3 (([k0,k1,k2,k3,k4].drop 2).take (Tryz.prog.cellsOf 3))=some y2:=hf 2 _ rfl;have f3:AT enc AI W 0 (fun _=>true) true n 9 (([k0,k1,k2,k3,k4].drop 3).take (Tryz.prog.cellsOf 9))=some y3:=hf 3 _ rfl;have f4:AT enc AI W 0 (fun _=>true) true n 64 (([k0,k1,k2,k3,k4].drop 4).take (Tryz.prog.cellsOf 64))=some y4:=hf 4 _ rfl;rw [zJG] at f0 f3;rw [zIO] at f1 f2;rw [cellsSl] at f4;obtain⟨s0,e0,z0,_⟩:=DataW.trod_string AK f0;obtain⟨i1,e1,z1,_⟩:=AU AM f1;obtain⟨i2,e2,z2,_⟩:=AU AM f2;obtain⟨s3,e3,z3,_⟩:=DataW.trod_string AK f3;obtain⟨A,c,l,e4,fD,_,hS,z4⟩:=zFX f4
 simp at e0 e1 e2 e3 e4
 subst e0 e1 e2 e3 e4;refine⟨⟨s0,i1,i2,s3,A,c,l⟩,rfl,hS,fD,y4.1,?_,z4⟩;simp [z0,z1,z2,z3]
theorem zJN {H:Type} {enc:TypeId×Value→H} {W:World} {A:Option Addr} {n c:Nat} {d:DataW H} {p:List MemPlace} (h:DataW.Trod enc AI W 0 (fun _=>true) true 31 (.slice A n c) d p) :
 ∃ l:List Nd,l.length=n∧n≤c∧c≤maxLen∧NodesAt W W.heap.size A l∧(∀ x∈l,x.data.length≤x.dc)∧((d=.nil∧l=[])∨∃ es sp,d=.slice es sp∧es.length=l.length∧∀ i (hi:i<l.length) (fG:i<es.length),zJl l[i] es[i]):=by
 obtain⟨fuel,hf⟩:=h;rcases Deep.open_slice AN hf with ⟨fA,hx⟩ | ⟨a,len,cap,m,k,D,Pl,fA,_,hl,hm,hmm,hx,fE⟩
 · simp [Value.cells] at fA
   obtain⟨rfl,rfl,rfl⟩:=fA;simp only [Prod.mk.injEq] at hx;exact⟨[],rfl,Aa _,by unfold maxLen;omega,⟨fun h=>absurd h (by simp),fun x hx=>absurd hx (by simp)⟩,fun x hx=>absurd hx (by simp),.inl ⟨hx.1,rfl⟩⟩
 · simp [Value.cells] at fA
   obtain⟨rfl,rfl,rfl⟩:=fA;simp only [Prod.mk.injEq] at hx;simp only [if_true] at hmm;subst hmm;rw [zHz] at fE
   have fD:∀ i,i<n→∃ nd:Nd,W.cells? 0 (a.add (i * 5)) 5=some [.string nd.path,.int .i64 nd.kind,.int .i64 nd.made,.string nd.same,.slice nd.dA nd.data.length nd.dc]∧Sees W W.heap.size 1 nd.dA nd.data.length (bvs nd.data)∧nd.data.length≤nd.dc∧zJl nd (D i):=fun i hi=>by
    obtain⟨cs',h1,h2⟩:=fE i (by omega);obtain⟨nd,rfl,h3,h4,h5⟩:=open_node h2;exact⟨nd,h1,h3,h4,h5⟩
   have:Inhabited Nd:=⟨⟨AS,0,0,AS,none,0,[]⟩⟩;obtain⟨f,fB⟩:=Deep.choose_lt fD;refine⟨(List.range n).map f,by simp,hl,hm,⟨fun hn=>?_,fun x hx=>?_⟩,fun x hx=>?_,.inr ⟨_,_,hx.1,by simp,fun i hi fG=>?_⟩⟩
   · rw [Ax,Az] at hn;obtain⟨h1,_,_,_⟩:=fB 0 hn;obtain⟨_,_,h2⟩:=World.cells?_some h1;have h3:=h2 0 (by omega);simp only [Nat.zero_mul] at h3;obtain⟨b,off,spot⟩:=a
     have fF:W.cell? ⟨b,off,spot⟩=some (.string (f 0).path):=by simpa [Addr.add] using h3
     have fC:spot=none:=by simpa using World.cell?_spot fF
     subst fC;refine⟨b,off,rfl,AQ W _ fF,fun i hi=>?_⟩;rw [Ax,Az] at hi;obtain⟨g1,_,_,_⟩:=fB i hi;obtain⟨_,_,g2⟩:=World.cells?_some g1
     have go:∀ k,W.cell? (((⟨b,off,none⟩:Addr).add (i * 5)).add k)=W.cell? ⟨b,off+i * 5+k,none⟩:=fun k=>by rw [AO,AO]
     have c0:=g2 0 (by omega);have c1:=g2 1 (by omega);have c2:=g2 2 (by omega);have c3:=g2 3 (by omega);have c4:=g2 4 (by omega);rw [go] at c0 c1 c2 c3 c4;simp only [AA,AB];exact⟨c0,c1,c2,c3,c4⟩
   · obtain⟨i,hi,rfl⟩:=Al.1 hx;exact (fB i (AC.1 hi)).2.1
   · obtain⟨i,hi,rfl⟩:=Al.1 hx;exact (fB i (AC.1 hi)).2.2.1
   · simp only [AA,AB];rw [Ax,Az] at hi;exact (fB i hi).2.2.2
theorem zDl {H:Type} (P:Program) (e:TypeId):∀ (l:List (DataW H)) (d:DataW H),d∈l→∀ x∈d.weights P e,x∈DataW.weightsAll P e l:=by
 intro l
 induction l with
 | nil=>intro d hd;cases hd
 | cons y l ih =>
  intro d hd x hx;simp only [DataW.weightsAll,Au];rcases AD.1 hd with rfl | hd
  · exact .inl hx
  · exact .inr (ih d hd x hx)
theorem nodes_big {H:Type} {l:List Nd} {d:DataW H} (h:(d=.nil∧l=[])∨∃ es sp,d=.slice es sp∧es.length=l.length∧∀ i (hi:i<l.length) (fF:i<es.length),zJl l[i] es[i])
 (hw:∀ x∈d.weights AI 31,x≤140737488351232) :
 l.length≤281474976710656∧∀ x∈l,x.path.size≤140737488351232∧x.same.size≤140737488351232∧x.data.length≤140737488351232:=by
 rcases h with ⟨_,rfl⟩ | ⟨es,sp,rfl,hl,hn⟩
 · exact⟨by simp,fun x hx=>absurd hx (by simp)⟩
 · have fB:∀ x∈DataW.weightsAll AI 75 es,x≤140737488351232:=fun x hx=>hw x (by simp only [AV,AN,AD,Au];exact .inr (.inl hx));have fC:=hw ((es.length+sp.length) * Tryz.prog.bytesOf 75) (by simp only [AV,AN,AD];exact .inl trivial);rw [bytesNode] at fC;refine⟨by omega,fun x hx=>?_⟩;obtain⟨i,hi,rfl⟩:=List.getElem_of_mem hx;obtain⟨dd,e,fD⟩:=hn i hi (by omega);have fE:es[i]'(by omega)∈es:=At _;have fA:∀ x∈(es[i]'(by omega)).weights AI 75,x≤140737488351232:=fun x hx=>fB x (zDl AI _ es _ fE x hx);rw [e] at fA
   have hW:∀ z,(z=l[i].path.data.toList.length∨z=l[i].same.data.toList.length∨z∈dd.weights AI 64)→z≤140737488351232:=fun z hz=>fA z (by
    simp only [AV,Tryz.underlying75,DataW.weightsEach,Am,Ap,Au,AD,List.not_mem_nil,or_false,false_or];rcases hz with h | h | h
    · exact .inl h
    · exact .inr (.inl h)
    · exact .inr (.inr h))
   have p1:=hW _ (.inl rfl);have p2:=hW _ (.inr (.inl rfl));rw [AR] at p1 p2;refine⟨p1,p2,?_⟩;rcases fD with ⟨_,h0⟩ | ⟨es',sp',rfl,h0⟩
   · rw [h0];simp
   · have:=hW ((es'.length+sp'.length) * Tryz.prog.bytesOf 5) (.inr (.inr (by simp only [AV,AJ,AD];exact .inl trivial)));rw [bytesU8] at this;omega
end Go.Proofs.YtolpcfhfcdkokaaGreatDoor
