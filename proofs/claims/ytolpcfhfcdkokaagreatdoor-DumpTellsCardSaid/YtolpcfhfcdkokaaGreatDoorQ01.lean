/- Joined out of Base..Shelf. -/
import Derived.Test.YtolpcfhfcdkokaaGreatDoorRows
import Derived.WalkKit
import Derived.WalkLawsBesides
import Derived.WalkSpells
import Derived.Deep.RegionHeld3
import Derived.Deep.AppendLies
import Derived.Deep.AppendSrc
import Derived.Maps.AppendAt
import Derived.Deep.QuietTactic
import Derived.BigQuiet
import Derived.Laws.CopyOwn
import Derived.Lib.Hide
import Derived.Shelf.Small.Strs
import Derived.Shelf.Strings.Search3
import Derived.Shelf.Strings.Prefix
import Derived.Shelf.Strings.Split
import Derived.Shelf.SlSortCmp.WholeK
import Derived.Shelf.SlSortCmp.NoneTotal
import Derived.Shelf.SlMaps.Clone
import Derived.Ground.SlsfProg
import Derived.Ground.SlmcProg
import Derived.Shelf.Small.Bits
import Derived.Test.YtolpcfhfcdkokaaGreatDoorProg
set_option maxHeartbeats 16000000
set_option maxRecDepth 100000
namespace Go.Proofs.YtolpcfhfcdkokaaGreatDoor
open Lib (hid)
open Go.RowKit
structure Chg (S:Nat→Prop) (w w':World):Prop where
 os:w'.os=w.os
 tape:w'.tape=w.tape
 output:w'.output=w.output
 size:w.heap.size≤w'.heap.size
 block:∀ k,k<w.heap.size→¬S k→w'.heap[k]? = w.heap[k]?
section
variable {S T U:Nat→Prop} {w w1 w2:World} {B:Nat}
theorem Chg.refl (S:Nat→Prop) (w:World):Chg S w w:=⟨rfl,rfl,rfl,Nat.le_refl _,fun _ _ _=>rfl⟩
theorem Chg.trans (h:Chg S w w1) (k:Chg T w1 w2) (hs:∀ b,b<w.heap.size→S b→U b) (ht:∀ b,b<w.heap.size→T b→U b):Chg U w w2 :=
 ⟨k.os.trans h.os,k.tape.trans h.tape,k.output.trans h.output,Nat.le_trans h.size k.size,fun b hb hn =>
  (k.block b (Nat.lt_of_lt_of_le hb h.size) (fun hT=>hn (ht b hb hT))).trans (h.block b hb (fun hS=>hn (hs b hb hS)))⟩
theorem Chg.mono (h:Chg S w w1) (hs:∀ b,b<w.heap.size→S b→U b):Chg U w w1:=⟨h.os,h.tape,h.output,h.size,fun b hb hn=>h.block b hb fun hS=>hn (hs b hb hS)⟩
theorem Chg.drew (h:Chg S w w1):Chg S w w1.drew:=⟨h.os,h.tape,h.output,h.size,h.block⟩
theorem Chg.drewN (h:Chg S w w1) (n:Nat):Chg S w (w1.drewN n):=⟨h.os,h.tape,h.output,h.size,h.block⟩
theorem Chg.alloc (h:Chg S w w1) (o:Obj):Chg S w (w1.alloc o) :=
 ⟨h.os,h.tape,h.output,by have:=h.size;simp;omega,fun b hb hn=>(Below.heap_alloc w1 o b (Nat.lt_of_lt_of_le hb h.size)).trans (h.block b hb hn)⟩
theorem Chg.setCell (h:Chg S w w1) {p:Addr} (hp:p.block<w.heap.size→S p.block) (u:Value):Chg S w (w1.setCell p u) :=
 ⟨h.os,h.tape,h.output,by have:=h.size;simp [World.setCell];omega,fun b hb hn=>(Below.heap_setCell w1 p u b (fun e=>hn (e▸hp (e▸hb)))).trans (h.block b hb hn)⟩
theorem Chg.setRow (h:Chg S w w1) {g:Nat} (hp:g<w.heap.size→S g) (cs:Array Value):Chg S w (w1.setRow g cs) :=
 ⟨h.os,h.tape,h.output,by have:=h.size;simp;omega,fun b hb hn=>(setRow_other w1 g b cs (fun e=>hn (e▸hp (e▸hb)))).trans (h.block b hb hn)⟩
theorem Chg.grown {row:Option Nat} (h:Chg S w w1) (hg:w1.grownBy w2 row) (hr:∀ g,row=some g→g<w.heap.size→S g):Chg S w w2 :=
 ⟨hg.os.trans h.os,hg.tape.trans h.tape,hg.output.trans h.output,Nat.le_trans h.size hg.size,fun b hb hn =>
  (hg.block b (Nat.lt_of_lt_of_le hb h.size) (fun e=>hn (hr b e.symm hb))).trans (h.block b hb hn)⟩
theorem zAf (h:Below B w w1) (n:Nat):Below B w (w1.drewN n):=⟨h.os,h.tape,h.output,h.size,h.block⟩
theorem Chg.of_below (h:Below B w w1):Chg (fun b=>B≤b) w w1:=⟨h.os,h.tape,h.output,h.size,fun b _ hn=>h.block b (by omega)⟩
theorem Chg.of_fresh (h:Below w.heap.size w w1):Chg S w w1:=⟨h.os,h.tape,h.output,h.size,fun b hb _=>h.block b hb⟩
theorem Chg.below (h:Chg S w w1) (hB:B≤w.heap.size) (hs:∀ b,b<B→¬S b):Below B w w1:=⟨h.os,h.tape,h.output,h.size,fun b hb=>h.block b (by omega) (hs b hb)⟩
theorem Chg.cell (h:Chg S w w1) {p:Addr} (hp:p.block<w.heap.size) (hn:¬S p.block):w1.cell? p=w.cell? p:=World.cell?_of_block (w:=w) (h.block p.block hp hn)
theorem zAo {base:Nat} {e:TypeId} {size:Nat} {v:Value} {n:Nat} {xs:List Value} (h:w.ownsRow base e size v n xs) (hc:Chg S w w1) (hn:∀ g,v.ownBlock=some g→¬S g):w1.ownsRow base e size v n xs:=by
 obtain⟨h1,h2⟩:=h;refine⟨h1,?_⟩;rcases h2 with h2 | ⟨g,cap,cur,hv,hg,hh,r⟩
 · exact Or.inl h2
 · refine Or.inr ⟨g,cap,cur,hv,hg,?_,r⟩;have fA:g<w.heap.size:=(Array.getElem?_eq_some_iff.1 hh).1;rw [hc.block g fA (hn g (by rw [hv];rfl))];exact hh
theorem own_below {B:Nat} {base:Nat} {e:TypeId} {size:Nat} {v:Value} {n:Nat} {xs:List Value} (h:w.ownsRow base e size v n xs) (hc:Below B w w1) (hn:∀ g,v.ownBlock=some g→g<B):w1.ownsRow base e size v n xs :=
 zAo h (Chg.of_below hc) fun g hg=>by have:=hn g hg;omega
theorem zBT {base base':Nat} {e:TypeId} {size:Nat} {v:Value} {n:Nat} {xs:List Value} (h:w.ownsRow base e size v n xs) (hb:∀ g,v.ownBlock=some g→base'≤g):w.ownsRow base' e size v n xs:=by
 obtain⟨h1,h2⟩:=h;refine⟨h1,?_⟩;rcases h2 with h2 | ⟨g,cap,cur,hv,hg,r⟩
 · exact Or.inl h2
 · exact Or.inr ⟨g,cap,cur,hv,hb g (by rw [hv];rfl),r⟩
end
structure Grows (w:World) (v:Value) (w':World) (v':Value):Prop where
 chg:Chg (fun b=>v.ownBlock=some b) w w'
 at_:v'.ownBlock=v.ownBlock∨∃ g,v'.ownBlock=some g∧w.heap.size≤g
theorem Grows.refl (w:World) (v:Value):Grows w v w v:=⟨Chg.refl _ _,.inl rfl⟩
theorem Grows.trans {w w1 w2:World} {v v1 v2:Value} (h:Grows w v w1 v1) (k:Grows w1 v1 w2 v2):Grows w v w2 v2:=by
 have hs:=h.chg.size
 constructor
 · refine h.chg.trans k.chg (fun b _ hb=>hb) (fun b hb fA=>?_);rcases h.at_ with e | ⟨g,e,hg⟩
   · rw [←e];exact fA
   · rw [e] at fA;injection fA;omega
 · rcases k.at_ with e | ⟨g,e,hg⟩
   · rw [e];exact h.at_
   · exact .inr ⟨g,e,by omega⟩
theorem Grows.drew {w w1:World} {v v1:Value} (h:Grows w v w1 v1):Grows w v w1.drew v1:=⟨h.chg.drew,h.at_⟩
theorem Grows.first {w0 w w1:World} {v v1:Value} (hb:Below w0.heap.size w0 w) (h:Grows w v w1 v1) (hv:∀ g,v.ownBlock=some g→w0.heap.size≤g):Below w0.heap.size w0 w1∧∀ g,v1.ownBlock=some g→w0.heap.size≤g:=by
 have hs:=hb.size;refine⟨hb.trans (h.chg.below hs fun b hb e=>by have:=hv b e;omega),fun g hg=>?_⟩;rcases h.at_ with e | ⟨g',e,hg'⟩
 · exact hv g (e▸hg)
 · rw [e] at hg;injection hg;omega
theorem Grows.of_law {w0 w w1:World} {v v1:Value} {k:Nat} (hb:Below w0.heap.size w0 w) (hg:w.grownBy w1 v.ownBlock) (fA:v1.ownBlock=v.ownBlock∨v1.ownBlock=some k) (hk:w0.heap.size≤k):Grows w0 v w1 v1 :=
 ⟨(Chg.of_fresh hb).grown hg fun _ e _=>e,fA.imp id fun e=>⟨k,e,hk⟩⟩
structure Sees (w:World) (B size:Nat) (A:Option Addr) (n:Nat) (xs:List Value):Prop where
 len:xs.length=n * size
 at_:0<n→∃ b off,A=some ⟨b,off,none⟩∧b<B∧∀ j u,xs[j]? = some u→w.cell? ⟨b,off+j,none⟩=some u
section
variable {w w1:World} {B B' size n:Nat} {A:Option Addr} {xs:List Value}
theorem Sees.nil:Sees w B size none 0 []:=⟨by simp,fun h=>absurd h (by omega)⟩
theorem Sees.keep (h:Sees w B size A n xs) (hk:∀ p:Addr,p.block<B→w1.cell? p=w.cell? p):Sees w1 B size A n xs :=
 ⟨h.len,fun hn=>let ⟨b,off,e,hb,hc⟩:=h.at_ hn;⟨b,off,e,hb,fun j u hu=>(hk ⟨b,off+j,none⟩ hb).trans (hc j u hu)⟩⟩
theorem Sees.below (h:Sees w B size A n xs) (hb:Below B w w1):Sees w1 B size A n xs:=h.keep fun _ hp=>hb.cell hp
theorem Sees.more (h:Sees w B size A n xs) (hB:B≤B'):Sees w B' size A n xs:=⟨h.len,fun hn=>let ⟨b,off,e,hb,hc⟩:=h.at_ hn;⟨b,off,e,by omega,hc⟩⟩
theorem Sees.of_own {base:Nat} {e:TypeId} {v:Value} (h:w.ownsRow base e size v n xs) (hv:∀ g,v.ownBlock=some g→g<B):∃ A c,v=.slice A n c∧Sees w B size A n xs:=by
 rcases h.2 with ⟨rfl,rfl⟩ | ⟨g,cap,cur,rfl,hb,hg,hnc,hcm,hcs,ht⟩
 · refine⟨none,0,rfl,h.1,fun hn=>absurd hn (by omega)⟩
 · refine⟨_,_,rfl,h.1,fun _=>⟨g,0,rfl,hv g rfl,fun j u hu=>?_⟩⟩;rw [Nat.zero_add,cell_of_row w g j cur e (0,0) hg];rw [←ht,List.getElem?_take] at hu
   split at hu
   · simpa using hu
   · cases hu
theorem Sees.take {k:Nat} (h:Sees w B size A n xs) (hk:k≤n):Sees w B size A k (xs.take (k * size)) :=
 ⟨by rw [List.length_take,h.len];exact Nat.min_eq_left (Nat.mul_le_mul_right _ hk),fun hn=>by
  obtain⟨b,off,e,hb,hc⟩:=h.at_ (by omega);refine⟨b,off,e,hb,fun j u hu=>hc j u ?_⟩;rw [List.getElem?_take] at hu
  split at hu
  · exact hu
  · cases hu⟩
end
def bvs (l:List UInt8):List Value:=l.map fun b=>Value.int .u8 (b.toNat:Int)
theorem zAe (l:List UInt8):(bvs l).length=l.length:=by simp [bvs]
theorem zB6 (a b:List UInt8):bvs (a++b)=bvs a++bvs b:=by simp [bvs]
theorem zCG (l:List UInt8):∀ u∈bvs l,u.oneCell'=true:=by
 intro u hu;obtain⟨b,_,rfl⟩:=List.mem_map.1 hu;rfl
theorem zCO (l:List UInt8) (j:Nat) (h:j<l.length):(bvs l)[j]? = some (.int .u8 (l[j].toNat:Int)):=by simp [bvs,h]
theorem zGN (s:ByteArray):byteCells s=bvs s.data.toList:=rfl
theorem zCV:(Tryz.prog.info? 5).map (fun i=>(i.zero,i.size,i.bytes))=some (some (.int .u8 0),1,1):=by kernel_rfl
def zB7 (n:Int):Nat→List UInt8
 | 0=>[]
 | k+1=>UInt8.ofNat (n % 256).toNat::zB7 (n / 256) k
theorem zA2 (k:Nat):∀ n:Int,(zB7 n k).length=k:=by
 induction k with
 | zero=>intro n;rfl
 | succ k ih=>intro n;simp [zB7,ih]
theorem u8_of (m:Int):((UInt8.ofNat (m % 256).toNat).toNat:Int)=m % 256:=by
 have:(UInt8.ofNat (m % 256).toNat).toNat=(m % 256).toNat % 256:=UInt8.toNat_ofNat';omega
theorem zHe {m:Int} {k j:Nat} (h:j<k):bvs (zB7 m (k-j))=.int .u8 (m % 256)::bvs (zB7 (m / 256) (k-(j+1))):=by
 have e:k-j=(k-(j+1))+1:=by omega
 rw [e];simp only [zB7,bvs,List.map_cons,u8_of m]
theorem low_any (B:Nat) (v:Value) (xs:List Value) (n0:Nat) (n:Int) (k:Nat) (w:World) (hx:n0≤1000000000) (hk:k≤8) (hn:0≤n) (fE:n≤9223372036854775807) (hB:B≤w.heap.size)
 (fB:w.ownsRow B 5 1 v n0 xs) :
 Calls Tryz.prog 44 #[v,.int .i64 n,.int .i64 k] w fun e w'=>∃ v',e=.returned v'∧w'.ownsRow B 5 1 v' (n0+k) (xs++bvs (zB7 n k))∧Grows w v w' v':=by
 obtain⟨i0,hi,fF,fG,fH⟩:=info_parts zCV;go_enter Tryz.func44,Tryz.ntmps44;go_wp2
 go_loopw [0,1,8] (fun u q i wr=>∃ (j:Nat) (m:Int) (done:List Value),j≤k∧i=.int .i64 j∧q=.int .i64 m∧0≤m∧m≤9223372036854775807∧Hid (done++bvs (zB7 m (k-j))=bvs (zB7 n k)) ∧
  wr.ownsRow B 5 1 u (n0+j) (xs++done)∧Grows w v wr u)
  (fun _ _ i _=>k-(intOf i).toNat)
 case atStart=>exact⟨0,n,[],Nat.zero_le _,rfl,rfl,hn,fE,by simp [Hid],by simpa using fB,Grows.refl _ _⟩
 case round =>
  obtain⟨j,m,done,hj,rfl,rfl,fL,fM,hd,ho,hb⟩:=hrel;have fN:=hb.chg.size;by_cases fI:j<k
  · have fJ:=hid (zHe (m:=m) fI)
    go_wp2_with (first
    | (at_builtin;refine wpList_append_own_at _ rfl _ _ 64 rfl B 5 i0 (.int .u8 0) 1 1 Tryz.underlying64 hi fF fG fH rfl (by decide) _ _ _ rfl (ho.alloc _) ⟨wr.heap.size,0,none⟩ 1 1 [.int .u8 (m % 256)] rfl rfl ?c1 ?c2 ?c3 ?c4 ?c5 ?_)
    | go_in)
    case c1=>exact cell_one_new _ _ _
    case c2=>intro u hu;simp at hu;subst hu;rfl
    case c3=>unfold maxLen;omega
    case c4=>omega
    case c5=>simp;omega
    intro v' w1 fK fC _ fA;have hG:=hb.trans (Grows.of_law ((Below.refl _ _).alloc (Nat.le_refl _) _) fC fA (by simp));clear fC fA hb ho;go_wp2;go_roundw
    case rel=>exact⟨j+1,m / 256,done++[.int .u8 (m % 256)],by omega,by go_num,by go_num,by omega,by omega,by have:=hd.out;rw [fJ.out] at this;simpa [Hid] using this,by simpa [Nat.add_assoc] using fK,hG⟩
    case measure=>simp [intOf];omega
  · obtain rfl:j=k:=by omega
    go_wp2;go_ret;have fD:=hd.out
    simp [zB7,bvs] at fD
    exact⟨_,rfl,by simpa [bvs,←fD] using ho,hb⟩
section
variable {P:Program} (w:World)
theorem zCK {B size:Nat} {tx e':TypeId} (hk:P.underlying tx=some (.slice e')) {A:Option Addr} {n:Nat} (c:Nat) {xs:List Value} (h:Sees w B size A n xs) (h1:∀ u∈xs,u.oneCell'=true) :
 Src P size tx (.slice A n c) n xs w:=by
 rcases A with _ | ad
 · have hn:n=0:=by
    rcases Nat.eq_zero_or_pos n with h0 | h0
    · exact h0
    · obtain⟨b,off,e,_⟩:=h.at_ h0;cases e
   subst hn;have hx:xs=[]:=List.eq_nil_of_length_eq_zero (by simpa using h.len);subst hx;exact Src.ofNil w hk c
 · refine Src.ofSlice w hk ad n c xs h.len (fun j u hu=>?_) h1;rcases Nat.eq_zero_or_pos n with h0 | h0
   · subst h0;have hx:xs=[]:=List.eq_nil_of_length_eq_zero (by simpa using h.len);subst hx;simp at hu
   · obtain⟨b,off,e,hb,hc⟩:=h.at_ h0;injection e with e;subst e;rw [Addr.add_lit];exact hc j u hu
theorem run_app (base:Nat) (t tx ty e:TypeId) (i:TypeInfo) (z:Value) (size bytes:Nat) (ht:P.underlying t=some (.slice e)) (hi:P.info? e=some i) (hz:i.zero=some z)
 (fG:i.size=size) (fN:i.bytes=bytes) (fO:z.cells.size=size)
 (v:Value) (n:Nat) (xs:List Value) (fA:w.ownsRow base e size v n xs) (x:Value) (m:Nat) (news:List Value) (hs:Src P size tx x m news w)
 (fL:n+m≤maxLen) (fB:(n+m) * bytes≤140737488355328) (fH:base≤w.heap.size) :
 ∃ v' w',(Builtin.append_ #[t,tx] ty #[v,x]).run P w=.ok v' w'∧w'.ownsRow base e size v' (n+m) (xs++news)∧w.grownBy w' v.ownBlock ∧
  (v'.ownBlock=v.ownBlock∨v'.ownBlock=some w.heap.size):=by
 subst fG;subst fN
 have fC:((n+m:Nat):Int)≤9223372036854775807:=by simp only [maxLen] at fL;omega
 have fD:(xs++news).length=(n+m) * i.size:=by rw [List.length_append,fA.1,hs.newsLen,Nat.add_mul]
 have grown:∀ (old:Nat),old<n+m→∀ (row:Option Nat),
  (w.drew.alloc (.cells ((xs++news).toArray++Builtin.zeroCells z.cells (grownCap w (n+m) old e-(n+m))) e)).ownsRow base e i.size
   (.slice (some ⟨w.heap.size,0,none⟩) (n+m) (grownCap w (n+m) old e)) (n+m) (xs++news) ∧
  w.grownBy (w.drew.alloc (.cells ((xs++news).toArray++Builtin.zeroCells z.cells (grownCap w (n+m) old e-(n+m))) e)) row:=by
  intro old ho row;have fP:=grownCap_ge w (n+m) old e;have fI:grownCap w (n+m) old e≤maxLen:=grownCap_le_maxLen w (n+m) old e fL;refine⟨⟨fD,.inr ⟨w.heap.size,_,_,rfl,fH,heap_alloc_new w.drew _,fP,fI,?_,?_⟩⟩,⟨rfl,rfl,rfl,by simp,fun k hk _=>Below.heap_alloc w.drew _ k hk⟩⟩
  · simp only [Array.size_append,List.size_toArray,size_zeroCells,fO,fD,←Nat.add_mul]
    congr 1
    omega
  · simp only [Array.toList_append];rw [←fD];exact List.take_left
 rcases fA.2 with ⟨rfl,rfl⟩ | ⟨g,cap,cur,rfl,hbg,hg,hnc,fI,hcs,htake⟩
 · have hx:xs=[]:=List.eq_nil_of_length_eq_zero (by simpa using fA.1);subst hx;by_cases hm:m=0
   · subst hm;have hn:news=[]:=List.eq_nil_of_length_eq_zero (by simpa using hs.newsLen);subst hn;refine⟨.slice none 0 0,w,?_,World.ownsRow_nil w base e i.size,⟨rfl,rfl,rfl,Nat.le_refl _,fun _ _ _=>rfl⟩,Or.inl rfl⟩;rcases hs.kind with ⟨e',hk⟩ | hk<;>simp [Builtin.append_,run_underlying ht,run_underlying hk,sizeOf,typeInfo,hi,hs.len,hs.cells]
   · have hr:=run_append_grow_src (P:=P) w t tx ty e i z ht hi hz none 0 0 [] (by exact run_firstCells_none w.drew i.size 0 0 0) x m news hs (by omega) fC (growslice_fits (by omega) fB);have fF:=grown 0 (by omega) (Value.ownBlock (.slice none 0 0));simp only [Nat.zero_add,List.nil_append] at fF hr ⊢;exact⟨_,_,hr,fF.1,fF.2,Or.inr rfl⟩
 · by_cases fE:n+m≤cap
   · have fJ:n * i.size+news.length≤cur.size:=by rw [hs.newsLen,hcs,←Nat.add_mul];exact Nat.mul_le_mul_right _ fE
     have fM:=run_storeCells_at P g (n * i.size) e news 0 cur w hg (by simpa using fJ) hs.one;simp only [Nat.add_zero] at fM
     have hr:(Builtin.append_ #[t,tx] ty #[.slice (some ⟨g,0,none⟩) n cap,x]).run P w =
      .ok (.slice (some ⟨g,0,none⟩) (n+m) cap) (w.setRow g (cur.toList.take (n * i.size)++news++cur.toList.drop (n * i.size+news.length)).toArray):=by
      rcases hs.kind with ⟨e',hk⟩ | hk<;>simp [Builtin.append_,run_underlying ht,run_underlying hk,sizeOf,typeInfo,hi,hs.len,fE,hs.cells,Addr.add_lit,fM]
     refine⟨_,_,hr,⟨fD,.inr ⟨g,cap,_,rfl,hbg,setRow_heap w g cur _ e _ hg,fE,fI,?_,?_⟩⟩,⟨rfl,rfl,rfl,by simp,fun k _ hk=>setRow_other w g k _ (fun e=>hk (by simp [Value.ownBlock,e]))⟩,Or.inl rfl⟩
     · simp only [List.size_toArray,List.length_append,List.length_take,List.length_drop,Array.length_toList];omega
     · rw [htake,←fD];exact List.take_left
   · have fK:(Builtin.firstCells i.size n (.slice (some ⟨g,0,none⟩) n cap)).run P w.drew=.ok xs.toArray w.drew :=
      run_firstCells_some w.drew i.size n ⟨g,0,none⟩ n cap xs fA.1 (fun j u hu=>by simpa using fA.cells (g:=g) rfl j u hu)
     have hr:=run_append_grow_src (P:=P) w t tx ty e i z ht hi hz (some ⟨g,0,none⟩) n cap xs fK x m news hs (by omega) fC (growslice_fits (by omega) fB);have fF:=grown cap (by omega) (Value.ownBlock (.slice (some ⟨g,0,none⟩) n cap));exact⟨_,_,hr,fF.1,fF.2,Or.inr rfl⟩
theorem wp_app {o:Oper} {a:Act} {K:Act→World→Prop} {Q:Exit→Act→World→Prop} (s x:Operand) (t tx:TypeId)
 (ho:o.op=.call {callee:=.builtin .append,args:=#[s,x],argTypes:=#[t,tx]})
 (base:Nat) (e:TypeId) (i:TypeInfo) (z:Value) (size bytes:Nat) (ht:P.underlying t=some (.slice e)) (hi:P.info? e=some i) (hz:i.zero=some z)
 (fB:i.size=size) (fG:i.bytes=bytes) (fH:z.cells.size=size)
 (v:Value) (n:Nat) (xs:List Value) (hs:a.eval s=v) (fD:w.ownsRow base e size v n xs) (m:Nat) (news:List Value) (fE:Src P size tx (a.eval x) m news w)
 (fI:n+m≤maxLen) (fA:(n+m) * bytes≤140737488355328) (fC:base≤w.heap.size)
 (h:∀ v' w',w'.ownsRow base e size v' (n+m) (xs++news)→w.grownBy w' v.ownBlock→(v'.ownBlock=v.ownBlock∨v'.ownBlock=some w.heap.size)→K (a.put o.dst v') w'):o.wp P a w K Q:=by
 obtain⟨v',w',fF,h2,h3,h4⟩:=run_app (P:=P) w base t tx o.type e i z size bytes ht hi hz fB fG fH v n xs fD (a.eval x) m news fE fI fA fC;unfold Oper.wp execOp;simp only [ho,resolve,invoke,builtin,Sem.run_bind,Sem.run_pure,Result.andThen_ok,List.map_toArray,List.map_cons,List.map_nil,hs,fF];exact h v' w' h2 h3 h4
theorem zAk {ops:Array Oper} {rest:List Oper} {o:Oper} {a:Act} {Q:Exit→Act→World→Prop} (fF:o.guard=none) (s x:Operand) (t tx:TypeId)
 (ho:o.op=.call {callee:=.builtin .append,args:=#[s,x],argTypes:=#[t,tx]})
 (base:Nat) (e:TypeId) (i:TypeInfo) (z:Value) (size bytes:Nat) (ht:P.underlying t=some (.slice e)) (hi:P.info? e=some i) (hz:i.zero=some z)
 (fB:i.size=size) (fG:i.bytes=bytes) (fH:z.cells.size=size)
 (v:Value) (n:Nat) (xs:List Value) (hs:a.eval s=v) (fD:w.ownsRow base e size v n xs) (m:Nat) (news:List Value) (fE:Src P size tx (a.eval x) m news w)
 (fI:n+m≤maxLen) (fA:(n+m) * bytes≤140737488355328) (fC:base≤w.heap.size)
 (h:∀ v' w',w'.ownsRow base e size v' (n+m) (xs++news)→w.grownBy w' v.ownBlock→(v'.ownBlock=v.ownBlock∨v'.ownBlock=some w.heap.size)→wpList P ops Q rest (a.put o.dst v') w'):wpList P ops Q (o::rest) a w :=
 wpList_plain fF fun _ hK=>wp_app w s x t tx ho base e i z size bytes ht hi hz fB fG fH v n xs hs fD m news fE fI fA fC fun v' w' h2 h3 h4=>hK _ _ (h v' w' h2 h3 h4)
theorem zBw {ops:Array Oper} {o:Oper} {a:Act} {K:Act→World→Prop} {Q:Exit→Act→World→Prop} {E:Prop} (fF:o.guard=none) (s x:Operand) (t tx:TypeId)
 (ho:o.op=.call {callee:=.builtin .append,args:=#[s,x],argTypes:=#[t,tx]})
 (base:Nat) (e:TypeId) (i:TypeInfo) (z:Value) (size bytes:Nat) (ht:P.underlying t=some (.slice e)) (hi:P.info? e=some i) (hz:i.zero=some z)
 (fB:i.size=size) (fG:i.bytes=bytes) (fH:z.cells.size=size)
 (v:Value) (n:Nat) (xs:List Value) (hs:a.eval s=v) (fD:w.ownsRow base e size v n xs) (m:Nat) (news:List Value) (fE:Src P size tx (a.eval x) m news w)
 (fI:n+m≤maxLen) (fA:(n+m) * bytes≤140737488355328) (fC:base≤w.heap.size)
 (h:∀ v' w',w'.ownsRow base e size v' (n+m) (xs++news)→w.grownBy w' v.ownBlock→(v'.ownBlock=v.ownBlock∨v'.ownBlock=some w.heap.size)→K (a.put o.dst v') w') :
 if Region.wanted o (yielded ops a.tmps)=true then Oper.wp P o a w K Q else E:=by
 have hw:Region.wanted o (yielded ops a.tmps)=true:=by simp [Region.wanted,fF]
 rw [if_pos hw];exact wp_app w s x t tx ho base e i z size bytes ht hi hz fB fG fH v n xs hs fD m news fE fI fA fC h
end
theorem zBH {P:Program} (w:World) {tx e':TypeId} (hk:P.underlying tx=some (.slice e')) (x:Value) (t:TypeId) (h1:x.oneCell'=true):Src P 1 tx (.slice (some ⟨w.heap.size,0,none⟩) 1 1) 1 [x] (w.alloc (.cells #[x] t)) :=
 Src.ofSlice _ hk ⟨w.heap.size,0,none⟩ 1 1 [x] rfl (cell_one_new w x t) (by intro u hu;rw [List.mem_singleton] at hu;subst hu;exact h1)
theorem zCo {P:Program} (w:World) {tx e':TypeId} (hk:P.underlying tx=some (.slice e')) (x:Value) (t:TypeId) (h1:x.oneCell'=true):Src P 1 tx (.slice (some ⟨w.heap.size,0,none⟩) 1 1) 1 [x] (w.alloc (.cells #[x] t)).drew :=
 Src.ofSlice _ hk ⟨w.heap.size,0,none⟩ 1 1 [x] rfl (cell_one_new w x t) (by intro u hu;rw [List.mem_singleton] at hu;subst hu;exact h1)
theorem zAN {w w1:World} {base:Nat} {e:TypeId} {size:Nat} {v:Value} {n:Nat} {xs:List Value} (h:w.ownsRow base e size v n xs) (hb:Below w.heap.size w w1):w1.ownsRow base e size v n xs :=
 own_below h hb fun g hg=>(h.lt g hg).2
theorem zEy {W w2:World} {row:Option Nat} (hg:W.grownBy w2 row) {p:Addr} {u:Value} (hc:W.cell? p=some u) (fA:row≠some p.block):w2.cell? p=some u :=
 (hg.cell_far p (World.block_lt_of_cell? W p hc) (fun e=>fA e.symm)).trans hc
theorem zHd {W w2:World} {o:Obj} {row:Option Nat} (hg:(W.alloc o).drew.grownBy w2 row) {p:Addr} {u:Value} (hc:W.cell? p=some u) (fA:row≠some p.block):w2.cell? p=some u :=
 zEy hg ((World.cell?_alloc_lt W o p (World.block_lt_of_cell? W p hc)).trans hc) fA
theorem zBf {w w1:World} {v v1:Value} (hG:Grows w v w1 v1) {p:Addr} {u:Value} (hc:w.cell? p=some u) (fA:v.ownBlock≠some p.block):w1.cell? p=some u :=
 (hG.chg.cell (World.block_lt_of_cell? w p hc) fA).trans hc
theorem zDb {w w1:World} {v v1:Value} {g:Nat} (hG:Grows w v w1 v1) (fA:v.ownBlock≠some g) (hg:g<w.heap.size):v1.ownBlock≠some g:=by
 rcases hG.at_ with e | ⟨g',e,hg'⟩
 · rw [e];exact fA
 · rw [e];intro h;injection h;omega
theorem ne_law {W:World} {v v1:Value} {g k:Nat} (fA:v1.ownBlock=v.ownBlock∨v1.ownBlock=some k) (fB:v.ownBlock≠some g) (hg:g<W.heap.size) (hk:W.heap.size≤k):v1.ownBlock≠some g:=by
 rcases fA with e | e
 · rw [e];exact fB
 · rw [e];intro h;injection h;omega
end Go.Proofs.YtolpcfhfcdkokaaGreatDoor
namespace Go.Proofs
open Go.Shelf
def Tryz.lays106_ren:Go.Shelf.Ren:=⟨fun | 106=>132 | 213=>148 | 265=>166 | n=>n,fun | 9=>9 | 3=>3 | n=>n,fun | n=>n⟩
theorem Tryz.lays106:Go.Proofs.Lays.n106 Tryz.prog Tryz.lays106_ren:={
 mixed:=by kernel_rfl
 f106:=Tryz.func132.trans (congrArg some (by kernel_rfl))
 f213:=Tryz.func148.trans (congrArg some (by kernel_rfl))
 f265:=Tryz.func166.trans (congrArg some (by kernel_rfl))
 t3:=Tryz.underlying3
 a3:=Tryz.isAgg3
 z3:=Tryz.sizeOf3
 v3:=Tryz.zeroValue3
 t9:=Tryz.underlying9
 a9:=Tryz.isAgg9
 z9:=Tryz.sizeOf9
 v9:=Tryz.zeroValue9}
open Go.RowKit in
theorem Tryz.strings_Compare (a b:ByteArray) (w:World) :
 Calls Tryz.prog 132 #[.string a,.string b] w fun e w'=>e=.returned (.int .i64 (Lib.compareBytes a.data.toList b.data.toList))∧w'=w:=Any.strings_Compare Tryz.lays106 a b w
def Tryz.lays144_ren:Go.Shelf.Ren:=⟨fun | 144=>64 | 143=>93 | 219=>125 | 217=>139 | 225=>140 | 224=>141 | 267=>142 | 266=>153 | 314=>154 | n=>n,fun | 9=>9 | 4=>4 | 3=>3 | 5=>5 | 46=>145 | 146=>216 | 51=>215 | n=>n,fun | 1=>0 | n=>n⟩
theorem Tryz.lays144:Go.Proofs.Lays.n144 Tryz.prog Tryz.lays144_ren:={
 mixed:=by kernel_rfl
 f143:=Tryz.func93.trans (congrArg some (by kernel_rfl))
 f144:=Tryz.func64.trans (congrArg some (by kernel_rfl))
 f217:=Tryz.func139.trans (congrArg some (by kernel_rfl))
 f219:=Tryz.func125.trans (congrArg some (by kernel_rfl))
 f224:=Tryz.func141.trans (congrArg some (by kernel_rfl))
 f225:=Tryz.func140.trans (congrArg some (by kernel_rfl))
 f266:=Tryz.func153.trans (congrArg some (by kernel_rfl))
 f267:=Tryz.func142.trans (congrArg some (by kernel_rfl))
 f314:=Tryz.func154.trans (congrArg some (by kernel_rfl))
 t3:=Tryz.underlying3
 a3:=Tryz.isAgg3
 z3:=Tryz.sizeOf3
 v3:=Tryz.zeroValue3
 t4:=Tryz.underlying4
 a4:=Tryz.isAgg4
 z4:=Tryz.sizeOf4
 v4:=Tryz.zeroValue4
 t5:=Tryz.underlying5
 a5:=Tryz.isAgg5
 z5:=Tryz.sizeOf5
 v5:=Tryz.zeroValue5
 t9:=Tryz.underlying9
 a9:=Tryz.isAgg9
 z9:=Tryz.sizeOf9
 v9:=Tryz.zeroValue9
 t46:=Tryz.underlying145
 a46:=Tryz.isAgg145
 z46:=Tryz.sizeOf145
 v46:=Tryz.zeroValue145
 t51:=Tryz.underlying215
 a51:=Tryz.isAgg215
 z51:=Tryz.sizeOf215
 v51:=Tryz.zeroValue215
 t146:=Tryz.underlying216
 a146:=Tryz.isAgg216
 z146:=Tryz.sizeOf216
 v146:=Tryz.zeroValue216
 g1:=by kernel_rfl}
open Go.Lib
theorem Tryz.strings_Contains (s sub:ByteArray) (m:Int) (w:World) (hs:s.size<4294967281) (hm:w.cell? ⟨0,0,none⟩=some (.int .i64 m)) :
 Calls Tryz.prog 64 #[.string s,.string sub] w fun e w'=>e=.returned (.bool (Lib.contains s.data.toList sub.data.toList))∧w'=w:=Any.strings_Contains Tryz.lays144 s sub m w hs hm
def Tryz.lays99_ren:Go.Shelf.Ren:=⟨fun | 99=>62 | 206=>91 | n=>n,fun | 9=>9 | 4=>4 | 3=>3 | n=>n,fun | n=>n⟩
theorem Tryz.lays99:Go.Proofs.Lays.n99 Tryz.prog Tryz.lays99_ren:={
 mixed:=by kernel_rfl
 f99:=Tryz.func62.trans (congrArg some (by kernel_rfl))
 f206:=Tryz.func91.trans (congrArg some (by kernel_rfl))
 t3:=Tryz.underlying3
 a3:=Tryz.isAgg3
 z3:=Tryz.sizeOf3
 v3:=Tryz.zeroValue3
 t4:=Tryz.underlying4
 a4:=Tryz.isAgg4
 z4:=Tryz.sizeOf4
 v4:=Tryz.zeroValue4
 t9:=Tryz.underlying9
 a9:=Tryz.isAgg9
 z9:=Tryz.sizeOf9
 v9:=Tryz.zeroValue9}
theorem Tryz.strings_HasPrefix (s p:ByteArray) (w:World) :
 Calls Tryz.prog 62 #[.string s,.string p] w fun e w'=>e=.returned (.bool (Lib.hasPrefix s.data.toList p.data.toList))∧w'=w:=Any.strings_HasPrefix Tryz.lays99 s p w
def Tryz.lays100_ren:Go.Shelf.Ren:=⟨fun | 100=>63 | 207=>92 | n=>n,fun | 9=>9 | 4=>4 | 3=>3 | n=>n,fun | n=>n⟩
theorem Tryz.lays100:Go.Proofs.Lays.n100 Tryz.prog Tryz.lays100_ren:={
 mixed:=by kernel_rfl
 f100:=Tryz.func63.trans (congrArg some (by kernel_rfl))
 f207:=Tryz.func92.trans (congrArg some (by kernel_rfl))
 t3:=Tryz.underlying3
 a3:=Tryz.isAgg3
 z3:=Tryz.sizeOf3
 v3:=Tryz.zeroValue3
 t4:=Tryz.underlying4
 a4:=Tryz.isAgg4
 z4:=Tryz.sizeOf4
 v4:=Tryz.zeroValue4
 t9:=Tryz.underlying9
 a9:=Tryz.isAgg9
 z9:=Tryz.sizeOf9
 v9:=Tryz.zeroValue9}
theorem Tryz.strings_HasSuffix (s p:ByteArray) (w:World) (hs:s.size≤9223372036854775807) :
 Calls Tryz.prog 63 #[.string s,.string p] w fun e w'=>e=.returned (.bool (Lib.hasSuffix s.data.toList p.data.toList))∧w'=w:=Any.strings_HasSuffix Tryz.lays100 s p w hs
def Tryz.lays146_ren:Go.Shelf.Ren:=⟨fun | 146=>65 | 221=>94 | 268=>126 | 138=>127 | 143=>93 | 195=>143 | 197=>144 | 218=>145 | 219=>125 | 260=>155 | 217=>139 | 225=>140 | 224=>141 | 267=>142 | 266=>153 | 314=>154 | n=>n,fun | 9=>9 | 31=>108 | 3=>3 | 4=>4 | 0=>0 | 105=>208 | 21=>21 | 5=>5 | 46=>145 | 119=>227 | 139=>230 | 138=>229 | 146=>216 | 51=>215 | n=>n,fun | 1=>0 | 3=>1 | 4=>2 | n=>n⟩
theorem Tryz.lays146:Go.Proofs.Lays.n146 Tryz.prog Tryz.lays146_ren:={
 mixed:=by kernel_rfl
 f138:=Tryz.func127.trans (congrArg some (by kernel_rfl))
 f143:=Tryz.func93.trans (congrArg some (by kernel_rfl))
 f146:=Tryz.func65.trans (congrArg some (by kernel_rfl))
 f195:=Tryz.func143.trans (congrArg some (by kernel_rfl))
 f197:=Tryz.func144.trans (congrArg some (by kernel_rfl))
 f217:=Tryz.func139.trans (congrArg some (by kernel_rfl))
 f218:=Tryz.func145.trans (congrArg some (by kernel_rfl))
 f219:=Tryz.func125.trans (congrArg some (by kernel_rfl))
 f221:=Tryz.func94.trans (congrArg some (by kernel_rfl))
 f224:=Tryz.func141.trans (congrArg some (by kernel_rfl))
 f225:=Tryz.func140.trans (congrArg some (by kernel_rfl))
 f260:=Tryz.func155.trans (congrArg some (by kernel_rfl))
 f266:=Tryz.func153.trans (congrArg some (by kernel_rfl))
 f267:=Tryz.func142.trans (congrArg some (by kernel_rfl))
 f268:=Tryz.func126.trans (congrArg some (by kernel_rfl))
 f314:=Tryz.func154.trans (congrArg some (by kernel_rfl))
 t0:=Tryz.underlying0
 a0:=Tryz.isAgg0
 z0:=Tryz.sizeOf0
 v0:=Tryz.zeroValue0
 t3:=Tryz.underlying3
 a3:=Tryz.isAgg3
 z3:=Tryz.sizeOf3
 v3:=Tryz.zeroValue3
 t4:=Tryz.underlying4
 a4:=Tryz.isAgg4
 z4:=Tryz.sizeOf4
 v4:=Tryz.zeroValue4
 t5:=Tryz.underlying5
 a5:=Tryz.isAgg5
 z5:=Tryz.sizeOf5
 v5:=Tryz.zeroValue5
 t9:=Tryz.underlying9
 a9:=Tryz.isAgg9
 z9:=Tryz.sizeOf9
 v9:=Tryz.zeroValue9
 t21:=Tryz.underlying21
 a21:=Tryz.isAgg21
 z21:=Tryz.sizeOf21
 v21:=Tryz.zeroValue21
 t31:=Tryz.underlying108
 a31:=Tryz.isAgg108
 z31:=Tryz.sizeOf108
 v31:=Tryz.zeroValue108
 t46:=Tryz.underlying145
 a46:=Tryz.isAgg145
 z46:=Tryz.sizeOf145
 v46:=Tryz.zeroValue145
 t51:=Tryz.underlying215
 a51:=Tryz.isAgg215
 z51:=Tryz.sizeOf215
 v51:=Tryz.zeroValue215
 t105:=Tryz.underlying208
 a105:=Tryz.isAgg208
 z105:=Tryz.sizeOf208
 v105:=Tryz.zeroValue208
 t119:=Tryz.underlying227
 a119:=Tryz.isAgg227
 z119:=Tryz.sizeOf227
 t138:=Tryz.underlying229
 a138:=Tryz.isAgg229
 z138:=Tryz.sizeOf229
 v138:=Tryz.zeroValue229
 t139:=Tryz.underlying230
 a139:=Tryz.isAgg230
 z139:=Tryz.sizeOf230
 v139:=Tryz.zeroValue230
 t146:=Tryz.underlying216
 a146:=Tryz.isAgg216
 z146:=Tryz.sizeOf216
 v146:=Tryz.zeroValue216
 g1:=by kernel_rfl
 g3:=by kernel_rfl
 g4:=by kernel_rfl}
theorem Tryz.strings_Split (s sep:ByteArray) (m:Int) (w:World) (hs:s.size<4294967281) (hm:w.cell? ⟨0,0,none⟩=some (.int .i64 m)) (h1:1≤sep.size) :
 Calls Tryz.prog 65 #[.string s,.string sep] w fun e w' =>
  e=.returned (.slice (some ⟨w.heap.size,0,none⟩) (Lib.countB s sep+1) (Lib.countB s sep+1))∧w'=w.alloc (.cells ((Lib.splitB sep 0 (Lib.countB s sep) s).map Value.string).toArray 9):=Any.strings_Split Tryz.lays146 (by kernel_rfl) s sep m w hs hm h1
def Tryz.sortE_ren:Go.Shelf.Ren:=⟨fun | 6=>130 | 15=>147 | 14=>146 | 28=>164 | 29=>165 | 20=>156 | 21=>157 | 22=>158 | 23=>159 | 24=>160 | 25=>161 | 26=>162 | 27=>163 | 46=>167 | 47=>168 | 48=>169 | 49=>170 | 50=>171 | 57=>172 | n=>n,fun | 22=>65 | 24=>130 | 25=>199 | 3=>3 | 39=>145 | 0=>0 | 53=>215 | 55=>146 | 4=>4 | 46=>220 | 45=>219 | 50=>164 | 5=>5 | 9=>9 | 66=>231 | 70=>235 | 76=>237 | 77=>58 | n=>n,fun | n=>n⟩
theorem Tryz.sortE:Go.Proofs.SlLaysF0.n6 Tryz.prog Tryz.sortE_ren:={
 mixed:=by kernel_rfl
 f6:=⟨Tryz.f130.name,by decide,Tryz.func130.trans (congrArg some (by kernel_rfl))⟩
 f14:=⟨Tryz.f146.name,by decide,Tryz.func146.trans (congrArg some (by kernel_rfl))⟩
 f15:=Tryz.func147.trans (congrArg some (by kernel_rfl))
 f20:=⟨Tryz.f156.name,by decide,Tryz.func156.trans (congrArg some (by kernel_rfl))⟩
 f21:=⟨Tryz.f157.name,by decide,Tryz.func157.trans (congrArg some (by kernel_rfl))⟩
 f22:=⟨Tryz.f158.name,by decide,Tryz.func158.trans (congrArg some (by kernel_rfl))⟩
 f23:=⟨Tryz.f159.name,by decide,Tryz.func159.trans (congrArg some (by kernel_rfl))⟩
 f24:=⟨Tryz.f160.name,by decide,Tryz.func160.trans (congrArg some (by kernel_rfl))⟩
 f25:=⟨Tryz.f161.name,by decide,Tryz.func161.trans (congrArg some (by kernel_rfl))⟩
 f26:=⟨Tryz.f162.name,by decide,Tryz.func162.trans (congrArg some (by kernel_rfl))⟩
 f27:=⟨Tryz.f163.name,by decide,Tryz.func163.trans (congrArg some (by kernel_rfl))⟩
 f28:=Tryz.func164.trans (congrArg some (by kernel_rfl))
 f29:=Tryz.func165.trans (congrArg some (by kernel_rfl))
 f46:=⟨Tryz.f167.name,by decide,Tryz.func167.trans (congrArg some (by kernel_rfl))⟩
 f47:=Tryz.func168.trans (congrArg some (by kernel_rfl))
 f48:=Tryz.func169.trans (congrArg some (by kernel_rfl))
 f49:=⟨Tryz.f170.name,by decide,Tryz.func170.trans (congrArg some (by kernel_rfl))⟩
 f50:=⟨Tryz.f171.name,by decide,Tryz.func171.trans (congrArg some (by kernel_rfl))⟩
 f57:=⟨Tryz.f172.name,by decide,Tryz.func172.trans (congrArg some (by kernel_rfl))⟩
 t0:=Tryz.underlying0
 a0:=Tryz.isAgg0
 z0:=Tryz.sizeOf0
 v0:=Tryz.zeroValue0
 t3:=Tryz.underlying3
 a3:=Tryz.isAgg3
 z3:=Tryz.sizeOf3
 v3:=Tryz.zeroValue3
 t4:=Tryz.underlying4
 a4:=Tryz.isAgg4
 z4:=Tryz.sizeOf4
 v4:=Tryz.zeroValue4
 t5:=Tryz.underlying5
 a5:=Tryz.isAgg5
 z5:=Tryz.sizeOf5
 v5:=Tryz.zeroValue5
 t9:=Tryz.underlying9
 a9:=Tryz.isAgg9
 z9:=Tryz.sizeOf9
 v9:=Tryz.zeroValue9
 t22:=Tryz.underlying65
 a22:=Tryz.isAgg65
 z22:=Tryz.sizeOf65
 v22:=Tryz.zeroValue65
 t25:=Tryz.underlying199
 a25:=Tryz.isAgg199
 z25:=Tryz.sizeOf199
 v25:=Tryz.zeroValue199
 t39:=Tryz.underlying145
 a39:=Tryz.isAgg145
 z39:=Tryz.sizeOf145
 v39:=Tryz.zeroValue145
 t45:=Tryz.underlying219
 a45:=Tryz.isAgg219
 z45:=Tryz.sizeOf219
 v45:=Tryz.zeroValue219
 t46:=Tryz.underlying220
 a46:=Tryz.isAgg220
 z46:=Tryz.sizeOf220
 v46:=Tryz.zeroValue220
 t50:=Tryz.underlying164
 a50:=Tryz.isAgg164
 z50:=Tryz.sizeOf164
 v50:=Tryz.zeroValue164
 t53:=Tryz.underlying215
 a53:=Tryz.isAgg215
 z53:=Tryz.sizeOf215
 v53:=Tryz.zeroValue215
 t55:=Tryz.underlying146
 a55:=Tryz.isAgg146
 z55:=Tryz.sizeOf146
 v55:=Tryz.zeroValue146
 t66:=Tryz.underlying231
 a66:=Tryz.isAgg231
 z66:=Tryz.sizeOf231
 v66:=Tryz.zeroValue231
 t70:=Tryz.underlying235
 a70:=Tryz.isAgg235
 z70:=Tryz.sizeOf235
 v70:=Tryz.zeroValue235
 t76:=Tryz.underlying237
 a76:=Tryz.isAgg237
 z76:=Tryz.sizeOf237
 v76:=Tryz.zeroValue237
 t77:=Tryz.underlying58
 a77:=Tryz.isAgg58
 z77:=Tryz.sizeOf58
 v77:=Tryz.zeroValue58}
def Tryz.mclone_ren:Go.Shelf.Ren:=⟨fun | 5=>133 | 7=>149 | n=>n,fun | 23=>107 | 25=>3 | 3=>187 | 4=>4 | 20=>20 | n=>n,fun | n=>n⟩
theorem Tryz.mclone:Go.Proofs.SlLaysW.n5 Tryz.prog Tryz.mclone_ren:={
 mixed:=by kernel_rfl
 f5:=⟨Tryz.f133.name,by decide,Tryz.func133.trans (congrArg some (by kernel_rfl))⟩
 f7:=Tryz.func149.trans (congrArg some (by kernel_rfl))
 t4:=Tryz.underlying4
 a4:=Tryz.isAgg4
 z4:=Tryz.sizeOf4
 v4:=Tryz.zeroValue4
 t20:=Tryz.underlying20
 a20:=Tryz.isAgg20
 z20:=Tryz.sizeOf20
 v20:=Tryz.zeroValue20
 t23:=Tryz.underlying107
 a23:=Tryz.isAgg107
 z23:=Tryz.sizeOf107
 v23:=Tryz.zeroValue107}
end Go.Proofs
