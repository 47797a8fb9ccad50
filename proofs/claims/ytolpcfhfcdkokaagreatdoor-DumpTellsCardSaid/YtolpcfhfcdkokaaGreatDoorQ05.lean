/- Joined out of Ba..World. -/
import Derived.ChangeKeysEq
import Derived.Laws.StructEq
import Derived.Great.BuildSlice
import Derived.Laws.Bits64b
import Derived.ProofKit
import Derived.OpenShut
import Derived.ShutString
import Derived.SizedLaws
import Derived.Deep.Slices
import Derived.Shelf.Vars
import Derived.Deep.DeepHandedRow
import Derived.Lib.LaidTab
import Derived.Test.YtolpcfhfcdkokaaGreatDoorQ04
set_option maxHeartbeats 16000000
set_option maxRecDepth 100000
namespace Go.Proofs.YtolpcfhfcdkokaaGreatDoor
open Lib (hid)
open Go.RowKit
theorem zDd {α:Type} (f:α→List Value) (k:Nat):∀ (l:List α) (_:∀ x∈l,(f x).length=k) (i:Nat) (h:i<l.length) (j:Nat),j<k→(l.flatMap f)[i * k+j]? = (f l[i])[j]?:=by
 intro l
 induction l with
 | nil=>intro _ i h;exact absurd h (by simp)
 | cons x l ih =>
  intro hk i h j hj;have hx:=hk x List.mem_cons_self;rw [List.flatMap_cons]
  cases i with
  | zero=>rw [List.getElem?_append_left (by rw [hx];omega)];simp
  | succ i =>
   have e:(i+1) * k=k+i * k:=by rw [Nat.succ_mul,Nat.add_comm]
   rw [List.getElem?_append_right (by rw [hx];omega),hx,show (i+1) * k+j-k=i * k+j by omega,ih (fun y hy=>hk y (List.mem_cons_of_mem _ hy)) i (by simpa using h) j hj];simp
theorem zEl {α:Type} (f:α→List Value) (k:Nat):∀ l:List α,(∀ x∈l,(f x).length=k)→(l.flatMap f).length=l.length * k:=by
 intro l
 induction l with
 | nil=>intro _;simp
 | cons x l ih=>intro hk;rw [List.flatMap_cons,List.length_append,hk x List.mem_cons_self,ih (fun y hy=>hk y (List.mem_cons_of_mem _ hy)),List.length_cons,Nat.succ_mul,Nat.add_comm]
theorem ba_ext0 {a b:ByteArray} (h:a.data.toList=b.data.toList):a=b:=by
 cases a with | mk a =>
 cases b with | mk b =>
 simp only at h;rw [show a=b from Array.ext' h]
theorem zDm {a b:ByteArray}:a.toList=b.toList↔a=b:=by
 constructor
 · intro h;rw [ByteArray.toList_eq,ByteArray.toList_eq] at h;exact ba_ext0 h
 · intro h;rw [h]
section
variable {P:Program}
theorem fill_one (s:Nat) (hs:0<s) (z cs:Array Value) (hz:z.size=s) (hc:cs.size=s):Instr.fill (fun i=>some (i * s,s)) z [(0,.agg cs)]=some cs:=by
 obtain⟨r,hr,fA,hk⟩:=Great.fill_dense hs [.agg cs] 0 z (by intro v hv;rw [List.mem_singleton] at hv;subst hv;exact hc) (by simp [hz]);have e:([Value.agg cs].zipIdx 0).map (fun x=>(x.2,x.1))=[(0,.agg cs)]:=rfl;rw [e] at hr;rw [hr]
 congr 1
 refine Array.ext (by omega) fun k h1 h2=>?_;have:=hk k;rw [if_pos ⟨by omega,by simp;omega⟩,Nat.div_eq_of_lt (by omega),Nat.mod_eq_of_lt (by omega)] at this;have e2:([Value.agg cs][0-0]?).bind (fun v=>v.cells[k]?)=cs[k]?:=rfl;rw [e2,Array.getElem?_eq_getElem h1,Array.getElem?_eq_getElem h2] at this;injection this
theorem zAq {w:World} {ops:Array Oper} {rest:List Oper} {o:Oper} {a:Act} {Q:Exit→Act→World→Prop} (hg:o.guard=none) (t e:TypeId) (x:Operand) (ho:o.op=.buildSlice t 1 #[(0,x)])
 (cs:Array Value) (hx:a.eval x=.agg cs) (size:Nat) (hu:P.underlying t=some (.slice e)) (fA:(P.info? e).map (·.size)=some size) (hz:((P.info? e).bind (·.zero)).map (·.cells.size)=some size)
 (hc:cs.size=size) (fC:0<size) (fE:size≤2 ^ 20)
 (h:wpList P ops Q rest (a.put o.dst (.slice (some ⟨w.heap.size,0,none⟩) 1 1)) (w.alloc (.cells cs e))):wpList P ops Q (o::rest) a w:=by
 cases fB:P.info? e with
 | none=>simp [fB] at fA
 | some ie =>
  cases fD:ie.zero with
  | none=>simp [fB,fD] at hz
  | some z =>
   simp only [fB,fD,Option.map_some,Option.some.injEq,Option.bind_some] at fA hz;refine wpList_buildSlice hg t e 1 _ ho cs ie z hu fB fD (by rw [fA];omega) (by rw [fA];omega) ?_ h;rw [fA];simp only [List.map_toArray,List.map_cons,List.map_nil,hx];exact fill_one size fC _ cs (by simp) hc
theorem zBP {w:World} {g:Nat} {t:TypeId} {cs:List Value} {tx e':TypeId} (hk:P.underlying tx=some (.slice e')) (hg:Blk w g t cs) (h1:∀ u∈cs,u.oneCell'=true) :
 Src P cs.length tx (.slice (some ⟨g,0,none⟩) 1 1) 1 cs w :=
 Src.ofSlice w hk ⟨g,0,none⟩ 1 1 cs (by simp) (fun j u hu=>by rw [Addr.add_lit,Nat.zero_add];exact (hg.cell j).trans hu) h1
end
def zCx (x:Nd):List Value:=[.string x.path,.int .i64 x.kind,.int .i64 x.made,.string x.same,.slice x.dA x.data.length x.dc]
def ncs (l:List Nd):List Value:=l.flatMap zCx
def ndV (x:Nd):Value:=.slice x.dA x.data.length x.dc
theorem zFr (l:List Nd):(ncs l).length=l.length * 5:=by
 induction l with
 | nil=>rfl
 | cons x l ih =>
  simp only [ncs,List.flatMap_cons,List.length_append,List.length_cons] at *;rw [ih];simp only [zCx,List.length_cons,List.length_nil];omega
theorem zJL (a b:List Nd):ncs (a++b)=ncs a++ncs b:=by unfold ncs;rw [List.flatMap_append]
theorem ncs_snoc (a:List Nd) (x:Nd):ncs (a++[x])=ncs a++zCx x:=by rw [zJL];simp [ncs]
theorem zHU:∀ (l:List Nd) (i:Nat) (h:i<l.length) (k:Nat),k<5→(ncs l)[i * 5+k]? = (zCx l[i])[k]?:=by
 intro l
 induction l with
 | nil=>intro i h;exact absurd h (by simp)
 | cons x l ih =>
  intro i h k hk;have e:ncs (x::l)=zCx x++ncs l:=rfl;have h5:(zCx x).length=5:=rfl;rw [e]
  cases i with
  | zero=>rw [List.getElem?_append_left (by omega)];simp
  | succ i =>
   rw [List.getElem?_append_right (by omega),h5,show (i+1) * 5+k-5=i * 5+k by omega,ih i (by simpa using h) k hk];simp
section
variable {w w1:World} {B:Nat} {A:Option Addr} {l:List Nd}
theorem NodesAt.sees (h:NodesAt w B A l):Sees w B 5 A l.length (ncs l) :=
 ⟨zFr l,fun hn=>by
  obtain⟨b,off,e,hb,hc⟩:=h.at_ hn;refine⟨b,off,e,hb,fun j u hu=>?_⟩
  have hj:j<l.length * 5:=by
   rcases Nat.lt_or_ge j (l.length * 5) with h | h
   · exact h
   · rw [List.getElem?_eq_none (by rw [zFr];exact h)] at hu;cases hu
  have hi:j / 5<l.length:=by omega
  obtain⟨c0,c1,c2,c3,c4⟩:=hc (j / 5) hi;have hg:=zHU l (j / 5) hi (j % 5) (by omega);rw [show j / 5 * 5+j % 5=j by omega,hu] at hg
  have hm:j % 5=0∨j % 5=1∨j % 5=2∨j % 5=3∨j % 5=4:=by omega
  rcases hm with m | m | m | m | m<;>rw [m] at hg<;>injection hg with hg<;>subst hg
  · rw [show off+j=off+j / 5 * 5 by omega];exact c0
  · rw [show off+j=off+j / 5 * 5+1 by omega];exact c1
  · rw [show off+j=off+j / 5 * 5+2 by omega];exact c2
  · rw [show off+j=off+j / 5 * 5+3 by omega];exact c3
  · rw [show off+j=off+j / 5 * 5+4 by omega];exact c4⟩
theorem zGe (h:Sees w B 5 A l.length (ncs l)) (hd:∀ x∈l,Sees w B 1 x.dA x.data.length (bvs x.data)):NodesAt w B A l :=
 ⟨fun hn=>by
  obtain⟨b,off,e,hb,hc⟩:=h.at_ hn;refine⟨b,off,e,hb,fun i hi=>?_⟩;have go:∀ k u,k<5→(zCx l[i])[k]? = some u→w.cell? ⟨b,off+(i * 5+k),none⟩=some u:=fun k u hk hu=>hc (i * 5+k) u ((zHU l i hi k hk).trans hu);exact⟨go 0 _ (by omega) rfl,go 1 _ (by omega) rfl,go 2 _ (by omega) rfl,go 3 _ (by omega) rfl,go 4 _ (by omega) rfl⟩,hd⟩
end
structure OwnN (w:World) (B:Nat) (v:Value) (l:List Nd):Prop where
 row:w.ownsRow B 75 5 v l.length (ncs l)
 data:∀ i (h:i<l.length),w.ownsRow B 5 1 (ndV l[i]) l[i].data.length (bvs l[i].data)
 apart:∀ i j (hi:i<l.length) (hj:j<l.length) g,i≠j→(ndV l[i]).ownBlock=some g→(ndV l[j]).ownBlock≠some g
 aside:∀ i (h:i<l.length) g,v.ownBlock=some g→(ndV l[i]).ownBlock≠some g
theorem OwnN.nil (w:World) (B:Nat):OwnN w B (.slice none 0 0) [] :=
 ⟨World.ownsRow_nil _ _ _ _,fun i h=>absurd h (by simp),fun i j h=>absurd h (by simp),fun i h=>absurd h (by simp)⟩
theorem OwnN.chg {S:Nat→Prop} {w w1:World} {B:Nat} {v:Value} {l:List Nd} (h:OwnN w B v l) (hc:Chg S w w1) (hS:∀ b,B≤b→¬S b):OwnN w1 B v l :=
 ⟨zAo h.row hc fun g hg=>hS g (h.row.lt g hg).1,fun i hi=>zAo (h.data i hi) hc fun g hg=>hS g ((h.data i hi).lt g hg).1,h.apart,h.aside⟩
theorem OwnN.fresh {w w1:World} {B:Nat} {v:Value} {l:List Nd} (h:OwnN w B v l) (hc:Below w.heap.size w w1):OwnN w1 B v l :=
 ⟨zAN h.row hc,fun i hi=>zAN (h.data i hi) hc,h.apart,h.aside⟩
theorem OwnN.nodes {w:World} {B:Nat} {v:Value} {l:List Nd} (h:OwnN w B v l):∃ A c,v=.slice A l.length c∧NodesAt w w.heap.size A l:=by
 obtain⟨A,c,e,hs⟩:=Sees.of_own (B:=w.heap.size) h.row fun g hg=>(h.row.lt g hg).2;refine⟨A,c,e,zGe hs fun x hx=>?_⟩;obtain⟨i,hi,rfl⟩:=List.getElem_of_mem hx;obtain⟨A',c',e',fA⟩:=Sees.of_own (B:=w.heap.size) (h.data i hi) fun g hg=>((h.data i hi).lt g hg).2;unfold ndV at e';injection e' with e1 e2 e3;rw [e1];exact fA
theorem OwnN.step {S:Nat→Prop} {w w1 w2:World} {B:Nat} {v v':Value} {l:List Nd} {x:Nd} (h:OwnN w B v l) (hc:Chg S w w1) (hS:∀ b,B≤b→¬S b) (hB:B≤w.heap.size)
 (hd:w1.ownsRow w.heap.size 5 1 (ndV x) x.data.length (bvs x.data)) (fE:w2.ownsRow B 75 5 v' (l.length+1) (ncs l++zCx x)) (hg:Grows w1 v w2 v'):OwnN w2 B v' (l++[x]):=by
 have fL:=zAo h.row hc fun g hg=>hS g (h.row.lt g hg).1;have fI:∀ i (hi:i<l.length),w1.ownsRow B 5 1 (ndV l[i]) l[i].data.length (bvs l[i].data):=fun i hi=>zAo (h.data i hi) hc fun g hg=>hS g ((h.data i hi).lt g hg).1;have fF:∀ i (hi:i<l.length) g,(ndV l[i]).ownBlock=some g→g<w.heap.size:=fun i hi g hg=>((h.data i hi).lt g hg).2
 have fG:∀ g,v.ownBlock=some g→(ndV x).ownBlock≠some g:=fun g hv hx=>by
  have h1:=(h.row.lt g hv).2;have h2:=(hd.lt g hx).1;omega
 have fJ:∀ i (hi:i<l.length),w2.ownsRow B 5 1 (ndV l[i]) l[i].data.length (bvs l[i].data):=fun i hi=>zAo (fI i hi) hg.chg fun g fC hv=>h.aside i hi g hv fC;have fH:w2.ownsRow w.heap.size 5 1 (ndV x) x.data.length (bvs x.data):=zAo hd hg.chg fun g hx hv=>fG g hv hx;have fB:∀ i (hi:i<l.length) (fC:i<(l++[x]).length),(l++[x])[i]=l[i]:=fun i hi fC=>List.getElem_append_left hi
 have fA:∀ (fC:l.length<(l++[x]).length),(l++[x])[l.length]=x:=fun fC=>by simp
 refine⟨by rw [ncs_snoc];simpa using fE,fun i hi=>?_,fun i j hi hj g fK fD=>?_,fun i hi g hv=>?_⟩
 · rcases Nat.lt_or_ge i l.length with h1 | h1
   · rw [fB i h1];exact fJ i h1
   · obtain rfl:i=l.length:=by rw [List.length_append,List.length_singleton] at hi;omega
     rw [fA];exact zBT fH fun g hg=>by have:=(fH.lt g hg).1;omega
 · rw [List.length_append,List.length_singleton] at hi hj;rcases Nat.lt_or_ge i l.length with h1 | h1
   · rw [fB i h1] at fD;rcases Nat.lt_or_ge j l.length with h2 | h2
     · rw [fB j h2];exact h.apart i j h1 h2 g fK fD
     · obtain rfl:j=l.length:=by omega
       rw [fA];intro e;have h3:=(hd.lt g e).1;have h4:=fF i h1 g fD;omega
   · obtain rfl:i=l.length:=by omega
     rw [fA] at fD;have h3:=(hd.lt g fD).1
     have h2:j<l.length:=by omega
     rw [fB j h2];intro e;have h4:=fF j h2 g e;omega
 · rw [List.length_append,List.length_singleton] at hi;have fM:=hc.size;rcases Nat.lt_or_ge i l.length with h1 | h1
   · rw [fB i h1];intro e;rcases hg.at_ with e1 | ⟨g',e1,hg'⟩
     · rw [e1] at hv;exact h.aside i h1 g hv e
     · rw [e1] at hv;injection hv with hv;subst hv;have h4:=fF i h1 _ e;omega
   · obtain rfl:i=l.length:=by omega
     rw [fA];intro e;rcases hg.at_ with e1 | ⟨g',e1,hg'⟩
     · rw [e1] at hv;exact fG g hv e
     · rw [e1] at hv;injection hv with hv;subst hv;have h4:=(hd.lt _ e).2;omega
def nd0:Nd:=⟨⟨#[]⟩,0,0,⟨#[]⟩,none,0,[]⟩
theorem own_baseN {w:World} {B B':Nat} {v:Value} {l:List Nd} (h:OwnN w B v l) (hB:B'≤B):OwnN w B' v l :=
 ⟨zBT h.row fun g hg=>Nat.le_trans hB (h.row.lt g hg).1,fun i hi=>zBT (h.data i hi) fun g hg=>Nat.le_trans hB ((h.data i hi).lt g hg).1,h.apart,h.aside⟩
theorem src_node {P:Program} (w:World) {tx e':TypeId} (hk:P.underlying tx=some (.slice e')) (x:Nd) (t:TypeId) :
 Src P 5 tx (.slice (some ⟨w.heap.size,0,none⟩) 1 1) 1 (zCx x) (w.alloc (.cells #[.string x.path,.int .i64 x.kind,.int .i64 x.made,.string x.same,.slice x.dA x.data.length x.dc] t)) :=
 Src.ofSlice _ hk ⟨w.heap.size,0,none⟩ 1 1 (zCx x) rfl (World.news_of_block (cs:=#[.string x.path,.int .i64 x.kind,.int .i64 x.made,.string x.same,.slice x.dA x.data.length x.dc]) (heap_alloc_new w _)) (by
  intro u hu;simp only [zCx,List.mem_cons,List.not_mem_nil,or_false] at hu
  rcases hu with rfl | rfl | rfl | rfl | rfl<;>rfl)
def zJ7 (v:Value) (l:List Nd) (g:Nat):Prop:=v.ownBlock=some g∨∃ x∈l,(ndV x).ownBlock=some g
structure Lists (w:World) (B p m:Nat) (lv:Nat→Value) (L:Nat→List Nd):Prop where
 par:Blk w p 31 ((List.range m).map lv)
 own:∀ i,i<m→OwnN w B (lv i) (L i)
 apart:∀ i j g,i<m→j<m→i≠j→zJ7 (lv i) (L i) g→¬zJ7 (lv j) (L j) g
 aside:∀ i,i<m→¬zJ7 (lv i) (L i) p
theorem OwnN.blk {w:World} {B:Nat} {v:Value} {l:List Nd} (h:OwnN w B v l) {g:Nat} (hg:zJ7 v l g):B≤g∧g<w.heap.size:=by
 rcases hg with hg | ⟨x,hx,hg⟩
 · exact h.row.lt g hg
 · obtain⟨i,hi,rfl⟩:=List.getElem_of_mem hx;exact (h.data i hi).lt g hg
theorem lists2 {w:World} {B1 B2:Nat} {v1 v2:Value} {l1 l2:List Nd} (h1:OwnN w B1 v1 l1) (h2:OwnN w B2 v2 l2) (hB:B1≤B2) (hd:∀ g,zJ7 v1 l1 g→¬zJ7 v2 l2 g) :
 Lists (w.alloc (.cells #[v1,v2] 31)) B1 w.heap.size 2 (fun i=>if i=0 then v1 else v2) (fun i=>if i=0 then l1 else l2):=by
 have hb:Below w.heap.size w (w.alloc (.cells #[v1,v2] 31)):=(Below.refl _ _).alloc (Nat.le_refl _) _;refine⟨Blk.new w 31 [v1,v2],fun i hi=>?_,fun i j g hi hj fA hg=>?_,fun i hi hg=>?_⟩
 · by_cases e:i=0
   · simp only [if_pos e];exact h1.fresh hb
   · simp only [if_neg e];exact own_baseN (h2.fresh hb) hB
 · by_cases e:i=0
   · simp only [if_pos e] at hg;simp only [if_neg (show ¬j=0 by omega)];exact hd g hg
   · simp only [if_neg e] at hg;simp only [if_pos (show j=0 by omega)];exact fun h=>hd g h hg
 · by_cases e:i=0
   · simp only [if_pos e] at hg;have:=(h1.blk hg).2;omega
   · simp only [if_neg e] at hg;have:=(h2.blk hg).2;omega
theorem OwnN.keep {S:Nat→Prop} {w w1:World} {B:Nat} {v:Value} {l:List Nd} (h:OwnN w B v l) (hc:Chg S w w1) (hS:∀ g,zJ7 v l g→¬S g):OwnN w1 B v l :=
 ⟨zAo h.row hc fun g hg=>hS g (.inl hg),fun i hi=>zAo (h.data i hi) hc fun g hg=>hS g (.inr ⟨_,List.getElem_mem hi,hg⟩),h.apart,h.aside⟩
section
variable {P:Program} (w:World)
theorem run_appk (base:Nat) (t tx ty e:TypeId) (i:TypeInfo) (z:Value) (size bytes:Nat) (ht:P.underlying t=some (.slice e)) (hi:P.info? e=some i) (hz:i.zero=some z)
 (fG:i.size=size) (fN:i.bytes=bytes) (fO:z.cells.size=size)
 (v:Value) (n:Nat) (xs:List Value) (fA:w.ownsRow base e size v n xs) (x:Value) (m:Nat) (news:List Value) (hs:Src P size tx x m news w)
 (fL:n+m≤maxLen) (fB:(n+m) * bytes≤140737488355328) (fH:base≤w.heap.size) :
 ∃ v' w',(Builtin.append_ #[t,tx] ty #[v,x]).run P w=.ok v' w'∧w'.ownsRow base e size v' (n+m) (xs++news)∧w.grownBy w' v.ownBlock ∧
  (v'.ownBlock=v.ownBlock∨(v'.ownBlock=some w.heap.size∧Below w.heap.size w w')):=by
 subst fG;subst fN
 have fC:((n+m:Nat):Int)≤9223372036854775807:=by simp only [maxLen] at fL;omega
 have fD:(xs++news).length=(n+m) * i.size:=by rw [List.length_append,fA.1,hs.newsLen,Nat.add_mul]
 have grown:∀ (old:Nat),old<n+m→∀ (row:Option Nat),
  (w.drew.alloc (.cells ((xs++news).toArray++Builtin.zeroCells z.cells (grownCap w (n+m) old e-(n+m))) e)).ownsRow base e i.size
   (.slice (some ⟨w.heap.size,0,none⟩) (n+m) (grownCap w (n+m) old e)) (n+m) (xs++news) ∧
  w.grownBy (w.drew.alloc (.cells ((xs++news).toArray++Builtin.zeroCells z.cells (grownCap w (n+m) old e-(n+m))) e)) row:=by
  intro old ho row;have fP:=grownCap_ge w (n+m) old e;have fI:grownCap w (n+m) old e≤maxLen:=grownCap_le_maxLen w (n+m) old e fL;refine⟨⟨fD,.inr ⟨w.heap.size,_,_,rfl,fH,heap_alloc_new w.drew _,fP,fI,?_,?_⟩⟩,⟨rfl,rfl,rfl,by simp,fun k hk _=>Below.heap_alloc w.drew _ k hk⟩⟩
  · simp only [Array.size_append,List.size_toArray,size_zeroCells,fO,fD,←Nat.add_mul]
    congr 1
    omega
  · simp only [Array.toList_append];rw [←fD];exact List.take_left
 rcases fA.2 with ⟨rfl,rfl⟩ | ⟨g,cap,cur,rfl,hbg,hg,hnc,fI,hcs,htake⟩
 · have hx:xs=[]:=List.eq_nil_of_length_eq_zero (by simpa using fA.1);subst hx;by_cases hm:m=0
   · subst hm;have hn:news=[]:=List.eq_nil_of_length_eq_zero (by simpa using hs.newsLen);subst hn;refine⟨.slice none 0 0,w,?_,World.ownsRow_nil w base e i.size,⟨rfl,rfl,rfl,Nat.le_refl _,fun _ _ _=>rfl⟩,Or.inl rfl⟩;rcases hs.kind with ⟨e',hk⟩ | hk<;>simp [Builtin.append_,run_underlying ht,run_underlying hk,sizeOf,typeInfo,hi,hs.len,hs.cells]
   · have hr:=run_append_grow_src (P:=P) w t tx ty e i z ht hi hz none 0 0 [] (by exact run_firstCells_none w.drew i.size 0 0 0) x m news hs (by omega) fC (growslice_fits (by omega) fB);have fF:=grown 0 (by omega) (Value.ownBlock (.slice none 0 0));simp only [Nat.zero_add,List.nil_append] at fF hr ⊢;exact⟨_,_,hr,fF.1,fF.2,Or.inr ⟨rfl,(Below.refl _ _).drew.alloc (Nat.le_refl _) _⟩⟩
 · by_cases fE:n+m≤cap
   · have fJ:n * i.size+news.length≤cur.size:=by rw [hs.newsLen,hcs,←Nat.add_mul];exact Nat.mul_le_mul_right _ fE
     have fM:=run_storeCells_at P g (n * i.size) e news 0 cur w hg (by simpa using fJ) hs.one;simp only [Nat.add_zero] at fM
     have hr:(Builtin.append_ #[t,tx] ty #[.slice (some ⟨g,0,none⟩) n cap,x]).run P w =
      .ok (.slice (some ⟨g,0,none⟩) (n+m) cap) (w.setRow g (cur.toList.take (n * i.size)++news++cur.toList.drop (n * i.size+news.length)).toArray):=by
      rcases hs.kind with ⟨e',hk⟩ | hk<;>simp [Builtin.append_,run_underlying ht,run_underlying hk,sizeOf,typeInfo,hi,hs.len,fE,hs.cells,Addr.add_lit,fM]
     refine⟨_,_,hr,⟨fD,.inr ⟨g,cap,_,rfl,hbg,setRow_heap w g cur _ e _ hg,fE,fI,?_,?_⟩⟩,⟨rfl,rfl,rfl,by simp,fun k _ hk=>setRow_other w g k _ (fun e=>hk (by simp [Value.ownBlock,e]))⟩,Or.inl rfl⟩
     · simp only [List.size_toArray,List.length_append,List.length_take,List.length_drop,Array.length_toList];omega
     · rw [htake,←fD];exact List.take_left
   · have fK:(Builtin.firstCells i.size n (.slice (some ⟨g,0,none⟩) n cap)).run P w.drew=.ok xs.toArray w.drew :=
      run_firstCells_some w.drew i.size n ⟨g,0,none⟩ n cap xs fA.1 (fun j u hu=>by simpa using fA.cells (g:=g) rfl j u hu)
     have hr:=run_append_grow_src (P:=P) w t tx ty e i z ht hi hz (some ⟨g,0,none⟩) n cap xs fK x m news hs (by omega) fC (growslice_fits (by omega) fB);have fF:=grown cap (by omega) (Value.ownBlock (.slice (some ⟨g,0,none⟩) n cap));exact⟨_,_,hr,fF.1,fF.2,Or.inr ⟨rfl,(Below.refl _ _).drew.alloc (Nat.le_refl _) _⟩⟩
theorem wp_appk {o:Oper} {a:Act} {K:Act→World→Prop} {Q:Exit→Act→World→Prop} (s x:Operand) (t tx:TypeId)
 (ho:o.op=.call {callee:=.builtin .append,args:=#[s,x],argTypes:=#[t,tx]})
 (base:Nat) (e:TypeId) (i:TypeInfo) (z:Value) (size bytes:Nat) (ht:P.underlying t=some (.slice e)) (hi:P.info? e=some i) (hz:i.zero=some z)
 (fB:i.size=size) (fG:i.bytes=bytes) (fH:z.cells.size=size)
 (v:Value) (n:Nat) (xs:List Value) (hs:a.eval s=v) (fD:w.ownsRow base e size v n xs) (m:Nat) (news:List Value) (fE:Src P size tx (a.eval x) m news w)
 (fI:n+m≤maxLen) (fA:(n+m) * bytes≤140737488355328) (fC:base≤w.heap.size)
 (h:∀ v' w',w'.ownsRow base e size v' (n+m) (xs++news)→w.grownBy w' v.ownBlock→(v'.ownBlock=v.ownBlock∨(v'.ownBlock=some w.heap.size∧Below w.heap.size w w'))→K (a.put o.dst v') w'):o.wp P a w K Q:=by
 obtain⟨v',w',fF,h2,h3,h4⟩:=run_appk (P:=P) w base t tx o.type e i z size bytes ht hi hz fB fG fH v n xs fD (a.eval x) m news fE fI fA fC;unfold Oper.wp execOp;simp only [ho,resolve,invoke,builtin,Sem.run_bind,Sem.run_pure,Result.andThen_ok,List.map_toArray,List.map_cons,List.map_nil,hs,fF];exact h v' w' h2 h3 h4
theorem zES {ops:Array Oper} {rest:List Oper} {o:Oper} {a:Act} {Q:Exit→Act→World→Prop} (fF:o.guard=none) (s x:Operand) (t tx:TypeId)
 (ho:o.op=.call {callee:=.builtin .append,args:=#[s,x],argTypes:=#[t,tx]})
 (base:Nat) (e:TypeId) (i:TypeInfo) (z:Value) (size bytes:Nat) (ht:P.underlying t=some (.slice e)) (hi:P.info? e=some i) (hz:i.zero=some z)
 (fB:i.size=size) (fG:i.bytes=bytes) (fH:z.cells.size=size)
 (v:Value) (n:Nat) (xs:List Value) (hs:a.eval s=v) (fD:w.ownsRow base e size v n xs) (m:Nat) (news:List Value) (fE:Src P size tx (a.eval x) m news w)
 (fI:n+m≤maxLen) (fA:(n+m) * bytes≤140737488355328) (fC:base≤w.heap.size)
 (h:∀ v' w',w'.ownsRow base e size v' (n+m) (xs++news)→w.grownBy w' v.ownBlock→(v'.ownBlock=v.ownBlock∨(v'.ownBlock=some w.heap.size∧Below w.heap.size w w'))→wpList P ops Q rest (a.put o.dst v') w'):wpList P ops Q (o::rest) a w :=
 wpList_plain fF fun _ hK=>wp_appk w s x t tx ho base e i z size bytes ht hi hz fB fG fH v n xs hs fD m news fE fI fA fC fun v' w' h2 h3 h4=>hK _ _ (h v' w' h2 h3 h4)
end
def All (w:World) (v:Value) (n size off:Nat) (u:Value):Prop:=∀ g,v.ownBlock=some g→∀ k,k<n→w.cell? ⟨g,k * size+off,none⟩=some u
def zJx (w:World) (B:Nat) (e:TypeId) (size:Nat) (v:Value) (n off:Nat) (u:Value):Prop:=∃ xs,w.ownsRow B e size v n xs∧∀ k,k<n→xs[k * size+off]? = some u
def Form (v:Value) (n:Nat):Prop:=∃ A c,v=.slice A n c∧(0<n→∃ g,A=some ⟨g,0,none⟩)
section
variable {w w1:World} {B:Nat} {e:TypeId} {size n off:Nat} {v:Value} {u:Value}
theorem All.chg {S:Nat→Prop} (h:All w v n size off u) (hc:Chg S w w1) (hS:∀ g,v.ownBlock=some g→¬S g):All w1 v n size off u:=fun g hg k hk =>
 (hc.cell (p:=⟨g,k * size+off,none⟩) (World.block_lt_of_cell? w _ (h g hg k hk)) (hS g hg)).trans (h g hg k hk)
theorem All.fresh (h:All w v n size off u) (hc:Below w.heap.size w w1):All w1 v n size off u:=fun g hg k hk =>
 (hc.cell (p:=⟨g,k * size+off,none⟩) (World.block_lt_of_cell? w _ (h g hg k hk))).trans (h g hg k hk)
theorem zBo {xs:List Value} (h:w.ownsRow B e size v n xs):Form v n:=by
 obtain⟨A,c,hv,_⟩:=Sees.of_own (B:=w.heap.size) h fun g hg=>(h.lt g hg).2;refine⟨A,c,hv,fun hn=>?_⟩;obtain⟨g,cap,fA,_⟩:=h.form hn;rw [hv] at fA;injection fA with h1;exact⟨g,h1⟩
theorem zBi {xs:List Value} (h:w.ownsRow B e size v n xs) {g:Nat} (hg:v.ownBlock=some g) {j:Nat} {x:Value} (hx:xs[j]? = some x):w.cell? ⟨g,j,none⟩=some x:=by
 rcases h.2 with ⟨rfl,rfl⟩ | ⟨g',cap,cur,rfl,_⟩
 · cases hg
 · have e:g'=g:=by simpa [Value.ownBlock] using hg
   subst e;have h2:=h.cells (g:=g') rfl j x hx;rw [Addr.add_lit,Nat.zero_add] at h2;exact h2
theorem zJx.all (h:zJx w B e size v n off u):All w v n size off u:=by
 obtain⟨xs,ho,hx⟩:=h;exact fun g hg k hk=>zBi ho hg (hx k hk)
theorem zJx.chg {S:Nat→Prop} (h:zJx w B e size v n off u) (hc:Chg S w w1) (hS:∀ g,v.ownBlock=some g→¬S g):zJx w1 B e size v n off u:=by
 obtain⟨xs,ho,hx⟩:=h;exact⟨xs,zAo ho hc hS,hx⟩
end
theorem zIG {wo w W w':World} {d v v':Value} {B:Nat} {e:TypeId} {size n m off:Nat} {u:Value} {xs:List Value} (hG:Grows wo d w v) (hA:All w d n size off u)
 (hW:Below w.heap.size w W) (ho:w'.ownsRow B e size v' m xs) (fF:∀ k,k<n→xs[k * size+off]? = some u) (hg:W.grownBy w' v.ownBlock) (fC:v'.ownBlock=v.ownBlock∨(v'.ownBlock=some W.heap.size∧Below W.heap.size W w')) :
 All w' d n size off u∧Grows wo d w' v':=by
 have fG:=hG.chg.size;have fB:=hW.size;have fD:Grows w v w' v':=⟨(Chg.of_fresh hW).grown hg fun _ e _=>e,fC.imp id fun e=>⟨_,e.1,fB⟩⟩;refine⟨?_,hG.trans fD⟩;rcases fC with he | ⟨_,hb⟩
 · intro g fE k hk;by_cases hv:v.ownBlock=some g
   · exact zBi ho (he.trans hv) (fF k hk)
   · exact (hA.chg fD.chg (fun g' fA e'=>by rw [fE] at fA;injection fA with fA;subst fA;exact hv e')) g fE k hk
 · exact (hA.fresh hW).fresh hb
open Go.ChangeShapes Go.WideShapes Go.ChangeAt
theorem cellsInt:Tryz.prog.cellsOf 3=1:=by kernel_rfl
theorem cellsStr:Tryz.prog.cellsOf 9=1:=by kernel_rfl
theorem cellsSl:Tryz.prog.cellsOf 64=1:=by kernel_rfl
theorem cellsU8:Tryz.prog.cellsOf 5=1:=by kernel_rfl
theorem bytesU8:Tryz.prog.bytesOf 5=1:=by kernel_rfl
theorem u8_back (n:Int) (h:(Lit.int .u8 n).wf=true):((UInt8.ofNat n.toNat).toNat:Int)=n:=by
 have hx:0≤n∧n≤255:=by simpa [Lit.wf,IntKind.min,IntKind.max,IntKind.signed,IntKind.bits] using h
 have:(UInt8.ofNat n.toNat).toNat=n.toNat % 256:=UInt8.toNat_ofNat';omega
theorem zJF {H:Type} {enc:TypeId×Value→H} {W:World} {fuel:Nat} {cs:List Value} {x:DataW H×List MemPlace} (h:DataW.trod enc Tryz.prog W 0 (fun _=>true) true fuel 64 cs=some x) :
 ∃ (A:Option Addr) (c:Nat) (l:List UInt8),cs=[.slice A l.length c]∧l.length≤c∧c≤maxLen∧Sees W W.heap.size 1 A l.length (bvs l) ∧
  ((x.1=.nil∧l=[])∨∃ es sp,x.1=.slice es sp∧es.length=l.length):=by
 rcases open_ints Tryz.underlying64 Tryz.underlying5 cellsU8 h with ⟨rfl,rfl⟩ | ⟨a,len,cap,zs,rfl,_,hl,hm,hz,rfl,hcell,hwf⟩
 · exact⟨none,0,[],rfl,Nat.le_refl _,by unfold maxLen;omega,Sees.nil,.inl ⟨rfl,rfl⟩⟩
 · simp only [if_true] at hz
   have fA:((zs.take len).map fun n=>UInt8.ofNat n.toNat).length=len:=by rw [List.length_map,List.length_take];omega
   refine⟨some a,cap,(zs.take len).map fun n=>UInt8.ofNat n.toNat,by rw [fA],by omega,hm,⟨by rw [zAe];omega,fun hn=>?_⟩,.inr ⟨_,_,rfl,by rw [fA];simp [lits];omega⟩⟩;rw [fA] at hn;have fD:=hcell 0 (by omega);obtain⟨b,off,spot⟩:=a
   have fB:spot=none:=by simpa [Addr.add] using World.cell?_spot fD
   subst fB;refine⟨b,off,rfl,?_,fun j u hu=>?_⟩
   · have:=World.block_lt_of_cell? W _ fD;simpa [Addr.add] using this
   · have hj:j<len:=by
      rcases Nat.lt_or_ge j len with h | h
      · exact h
      · have:(bvs ((zs.take len).map fun n=>UInt8.ofNat n.toNat)).length≤j:=by rw [zAe,fA];exact h
        rw [List.getElem?_eq_none this] at hu;cases hu
     have fC:j<zs.length:=by omega
     have hc:=hcell j fC;rw [Addr.add_lit] at hc;rw [hc];have hw:=hwf _ (List.getElem_mem fC);have fE:=u8_back _ hw;simp only [bvs,List.map_map,List.getElem?_map,List.getElem?_take,hj,if_true,List.getElem?_eq_getElem fC,Option.map_some,Function.comp,fE] at hu;rw [←hu];simp [List.getD,List.getElem?_eq_getElem fC]
theorem zE9 {H:Type} (P:Program) (e:TypeId):∀ (l:List (DataW H)) (d:DataW H),d∈l→∀ x∈d.weights P e,x∈DataW.weightsAll P e l:=by
 intro l
 induction l with
 | nil=>intro d hd;cases hd
 | cons y l ih =>
  intro d hd x hx;simp only [DataW.weightsAll,List.mem_append];rcases List.mem_cons.1 hd with rfl | hd
  · exact .inl hx
  · exact .inr (ih d hd x hx)
theorem own:ownKnob Tryz.prog.godebug=none:=by kernel_rfl
theorem zHF:laidOutB Tryz.prog=true:=by kernel_rfl
theorem maxCell {W:World} (h:W.ShapedOpen Tryz.prog):∃ m,W.cell? ⟨0,0,none⟩=some (.int .i64 m) :=
 cell_of_shapedOpen_int (P:=Tryz.prog) (g:=0) (t:=3) (zero:=#[.int .i64 0]) h (of_decide_eq_true (by kernel_rfl)) (by kernel_rfl) rfl (by kernel_rfl) (by kernel_rfl) Tryz.underlying3
def rangesL:List Nat:=[128,191,160,191,128,159,144,191,128,143,0,0,0,0,0,0,0,0,0,0,0,0,0,0,0,0,0,0,0,0,0,0]
def u8s (l:List Nat):Array Value:=(l.map fun (n:Nat)=>Value.int .u8 (n:Int)).toArray
def layU8 (l:List Nat):Obj→Obj
 | .cells _ t frozen=>.cells (u8s l) t frozen
 | o=>o
noncomputable def zGv (os:Go.Os):World:=World.holding Tryz.prog os ⟨#[],#[],[]⟩
noncomputable def zEC (os:Go.Os):World :=
 {zGv os with heap:=((zGv os).heap.modify 1 (layU8 Go.Pinned.utf8FirstZ)).modify 2 (layU8 rangesL)}
end Go.Proofs.YtolpcfhfcdkokaaGreatDoor
