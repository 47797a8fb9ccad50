/- Joined out of Lend..Pm. -/
import Derived.Deep.MidRow
import Derived.Great.Ranges
import Derived.ChangeKeysEq
import Derived.Laws.StructEq
import Derived.Great.BuildSlice
import Derived.Maps.RangeWalk
import Derived.Maps.Ext
import Derived.Test.YtolpcfhfcdkokaaGreatDoorR01
set_option maxHeartbeats 16000000
set_option maxRecDepth 100000
set_option linter.unusedSimpArgs false
set_option linter.unusedVariables false
namespace Go.Proofs.YtolpcfhfcdkokaaGreatDoor
open Lib (hid)
open Chg renaming refl → Aa
open List renaming size_toArray → Ab,replicate → Ac,getElem?_set → Ad,getElem?_set_ne → Ae,set_append_right → Af,range → Ag,mem_range → Ah,mem_singleton → Ai,getElem?_eq_getElem → Aj,length_append → Ak,length_take → Al,length_drop → Am,drop_eq_getElem_cons → An,mem_cons_self → Ao,flatMap_cons → Ap,mem_cons_of_mem → Aq,length_cons → Ar,map_cons → As,filter_cons → At,mem_cons → Au,pairwise_cons → Aw,filter_congr → Ax,pairwise_map → Ay,length_map → Az,any_eq_true → AA,mem_map → AB
open Go renaming setRow_heap → AC,info_parts → AD,bodyPost_ret → AE,results_cell_row → AF,wpList_plain → AG
open Proofs.Tryz renaming prog → AH,underlying64 → AI,zeroCells187 → AJ,underlying187 → AK
open _root_.Array renaming length_toList → AL
open Nat renaming zero_le → AM,le_trans → AN
open World renaming block_lt_of_cell? → AO,cell?_setCell_other → AP
open UInt8 renaming ofNat → AQ
open Bool renaming false_eq_true → AR,and_eq_true → AS
open Instr renaming mapUpdate → AT,next → AU
open Result renaming andThen → AV
open Go.RowKit
theorem zED:(Tryz.prog.info? 75).map (fun i=>(i.zero,i.size,i.bytes))=some (some (.agg #[.string ByteArray.empty,.int .i64 0,.int .i64 0,.string ByteArray.empty,.slice none 0 0]),5,72):=by kernel_rfl
theorem infoBytes:(Tryz.prog.info? 64).map (fun i=>(i.zero,i.size,i.bytes))=some (some (.slice none 0 0),1,24):=by kernel_rfl
def Blk (w:World) (g:Nat) (t:TypeId) (cs:List Value):Prop:=w.heap[g]? = some (.cells cs.toArray t (0,0))
section
variable {w w1:World} {g:Nat} {t:TypeId} {cs:List Value}
theorem Blk.lt (h:Blk w g t cs):g<w.heap.size:=(Array.getElem?_eq_some_iff.1 h).1
theorem Blk.cell (h:Blk w g t cs) (i:Nat):w.cell? ⟨g,i,none⟩=cs[i]?:=by rw [cell_of_row w g i cs.toArray t (0,0) h];simp
theorem Blk.frozen (h:Blk w g t cs) (i:Nat):w.frozen? ⟨g,i,none⟩=false:=frozen_of_row w g i cs.toArray t h
theorem Blk.chg {S:Nat→Prop} (h:Blk w g t cs) (hc:Chg S w w1) (hn:¬S g):Blk w1 g t cs:=(hc.block g h.lt hn).trans h
theorem Blk.below {B:Nat} (h:Blk w g t cs) (hc:Below B w w1) (hn:g<B):Blk w1 g t cs:=(hc.block g hn).trans h
theorem Blk.fresh (h:Blk w g t cs) (hc:Below w.heap.size w w1):Blk w1 g t cs:=(hc.block g h.lt).trans h
theorem Blk.law {row:Option Nat} (h:Blk w g t cs) (hc:w.grownBy w1 row) (hn:row≠some g):Blk w1 g t cs:=(hc.block g h.lt (fun e=>hn e.symm)).trans h
theorem Blk.alloc (h:Blk w g t cs) (o:Obj):Blk (w.alloc o) g t cs:=(Below.heap_alloc w o g h.lt).trans h
theorem Blk.new (w:World) (t:TypeId) (cs:List Value):Blk (w.alloc (.cells cs.toArray t)) w.heap.size t cs:=heap_alloc_new w _
theorem Blk.set_ (h:Blk w g t cs) (i:Nat) (u:Value):Blk (w.setCell ⟨g,i,none⟩ u) g t (cs.set i u):=by
 unfold Blk at h ⊢;simp [World.setCell,Array.getElem?_modify,h]
theorem Blk.far (h:Blk w g t cs) {p:Addr} (hp:g≠p.block) (u:Value):Blk (w.setCell p u) g t cs:=(Below.heap_setCell w p u g hp).trans h
theorem Blk.eq (h:Blk w g t cs) {t':TypeId} {cs':List Value} (h':Blk w g t' cs'):t=t'∧cs=cs':=by
 unfold Blk at h h';rw [h] at h';injection h' with h';injection h' with h1 h2;exact⟨h2,by simpa using h1⟩
theorem zEI {base:Nat} {e:TypeId} {size n:Nat} {xs:List Value} (h:w.ownsRow base e size (.slice (some ⟨g,0,none⟩) n n) n xs):Blk w g e xs:=by
 rcases h.2 with ⟨h0,_⟩ | ⟨g',cap,cur,hv,hb,hg,hnc,hcm,hcs,ht⟩
 · cases h0
 · injection hv with h1 h2 h3;injection h1 with h1;injection h1 with h1;subst h1;have hc:cap=n:=h3.symm;subst hc
   have:cur.toList=xs:=by rw [←ht,List.take_of_length_le (by simp [hcs])]
   unfold Blk;rw [hg,←this]
end
theorem zGX {P:Program} {w:World} {ops:Array Oper} {rest:List Oper} {o:Oper} {a:Act} {Q:Exit→Act→World→Prop} (fC:o.guard=none) (d s:Operand) (dT sT:TypeId)
 (ho:o.op=.call {callee:=.builtin .copy,args:=#[d,s],argTypes:=#[dT,sT]}) (elem:TypeId) (hu:P.underlying dT=some (.slice elem)) (fD:(P.info? elem).map (·.size)=some 1)
 (g dLen dCap:Nat) (sp:Option Addr) (sLen sCap:Nat) (hd:a.eval d=.slice (some ⟨g,0,none⟩) dLen dCap) (hs:a.eval s=.slice sp sLen sCap)
 (t:TypeId) (cur:List Value) (hg:Blk w g t cur) (B:Nat) (cs:List Value) (fA:Sees w B 1 sp sLen cs) (fE:sLen≤dLen) (fF:sLen≤cur.length) (h1:∀ v∈cs,v.oneCell'=true)
 (h:∀ w',Blk w' g t (cs++cur.drop sLen)→Chg (fun b=>b=g) w w'→wpList P ops Q rest (a.put o.dst (goInt sLen)) w') :
 wpList P ops Q (o::rest) a w:=by
 have hl:cs.length=sLen:=by have:=fA.len;omega
 by_cases h0:sLen=0
 · subst h0;have fG:cs=[]:=List.eq_nil_of_length_eq_zero hl;subst fG;exact wpList_copy_nothing fC d s dT sT ho elem hu fD _ sp dLen dCap 0 sCap hd hs (by simp) (h w (by simpa using hg) (Aa _ _))
 · obtain⟨b,off,rfl,_,hc⟩:=fA.at_ (by omega)
   have fB:0+cs.length≤cur.toArray.size:=by rw [Ab];omega
   refine wpList_copy_own fC d s dT sT ho elem hu fD g 0 dLen dCap ⟨b,off,none⟩ sLen sCap hd hs cur.toArray t hg cs (by rw [hl];exact (Nat.min_eq_left fE).symm) (fun j v hv=>by rw [Addr.add_lit];exact hc j v hv) fB h1 ?_;rw [hl];refine h _ ?_ ((Aa (fun b=>b=g) w).setRow (g:=g) (fun _=>rfl) _);have:=AC w g cur.toArray (cur.take 0++(cs++cur.drop (0+sLen))).toArray t _ hg;simpa [Blk] using this
theorem zBg (z:Value) (hz:z.cells=#[z]) (n:Nat):(madeCells z.cells (n * 1)).toList=Ac n z:=by rw [hz,Nat.mul_one,toList_madeCells_one]
theorem zFv {w:World} {g:Nat} {t:TypeId} {cs:List Value} (h:Blk w g t cs) (o:Nat) (ho:o+5≤cs.length) (x0 x1 x2 x3 x4:Value) (X:World)
 (hX:X=((((w.setCell ⟨g,o,none⟩ x0).setCell ⟨g,o+1,none⟩ x1).setCell ⟨g,o+2,none⟩ x2).setCell ⟨g,o+3,none⟩ x3).setCell ⟨g,o+4,none⟩ x4) :
 ∃ cs',Blk X g t cs'∧cs'.length=cs.length∧X.cell? ⟨g,o,none⟩=some x0∧X.cell? ⟨g,o+1,none⟩=some x1∧X.cell? ⟨g,o+2,none⟩=some x2∧X.cell? ⟨g,o+3,none⟩=some x3∧X.cell? ⟨g,o+4,none⟩=some x4 ∧
  Chg (fun b=>b=g) w X∧∀ i,i<o∨o+5≤i→X.cell? ⟨g,i,none⟩=w.cell? ⟨g,i,none⟩:=by
 have hB:=((((h.set_ o x0).set_ (o+1) x1).set_ (o+2) x2).set_ (o+3) x3).set_ (o+4) x4;rw [←hX] at hB;refine⟨_,hB,by simp,?_,?_,?_,?_,?_,?_,?_⟩
 · rw [hB.cell];simp [Ad];omega
 · rw [hB.cell];simp [Ad];omega
 · rw [hB.cell];simp [Ad];omega
 · rw [hB.cell];simp [Ad];omega
 · rw [hB.cell];simp [Ad];omega
 · rw [hX];exact (((((Aa (fun b=>b=g) w).setCell (fun _=>rfl) x0).setCell (fun _=>rfl) x1).setCell (fun _=>rfl) x2).setCell (fun _=>rfl) x3).setCell (fun _=>rfl) x4
 · intro i hi;rw [hB.cell,h.cell];rw [Ae (by omega),Ae (by omega),Ae (by omega),Ae (by omega),Ae (by omega)]
def marks (m:Nat):List Value:=Ac m (.int .u8 201)++Ac (5-m) (.int .u8 0)
theorem marks_set (xs:List Value) (n m:Nat) (hn:xs.length=n) (hm:m<5):(xs++marks m).set (n+m) (.int .u8 201)=xs++marks (m+1):=by
 subst hn;rw [Af _ _ (by omega)]
 congr 1
 have:m=0∨m=1∨m=2∨m=3∨m=4:=by omega
 rcases this with rfl | rfl | rfl | rfl | rfl<;>simp [marks,Ac]
theorem marks_get (xs:List Value) (n m:Nat) (hn:xs.length=n) (hm:m<5):(xs++marks m)[n+m]? = some (.int .u8 0):=by
 subst hn;rw [List.getElem?_append_right (by omega)]
 have:m=0∨m=1∨m=2∨m=3∨m=4:=by omega
 rcases this with rfl | rfl | rfl | rfl | rfl<;>simp [marks,Ac]
def zIq (l:List Nd) (i:Nat):Nat:=(l.map fun x=>x.data.length).getD i 0
theorem zHr (l:List Nd) (i:Nat) (h:i<l.length):zIq l i=l[i].data.length:=by simp [zIq,h]
def zDh (x:Nd) (b:Nat):Nd:=⟨x.path,x.kind,x.made,x.same,some ⟨b,0,none⟩,x.data.length+5,x.data⟩
def mark5:List Value:=Ac 5 (.int .u8 201)
structure LMem (w:World) (g:Nat) (l:List Nd) (j:Nat) (bs:Nat→Nat) (lo:Nat):Prop where
 node:∀ i (h:i<l.length),i<j→zDj w g (i * 5) (zDh l[i] (bs i))
 data:∀ i (h:i<l.length),i<j→Blk w (bs i) 5 (bvs l[i].data++mark5)
 low:∀ i,i<j→lo≤bs i
 inj:∀ i k,i<j→k<j→bs i=bs k→i=k
theorem LMem.keep {w w1:World} {g:Nat} {l:List Nd} {j:Nat} {bs:Nat→Nat} {lo:Nat} {S:Nat→Prop} (h:LMem w g l j bs lo) (hc:Chg S w w1) (hg:¬S g) (hb:∀ i,i<j→¬S (bs i)) (fA:g<w.heap.size):LMem w1 g l j bs lo :=
 ⟨fun i hi hj=>(h.node i hi hj).keep fun p hp=>hc.cell (by omega) (by rw [hp];exact hg),fun i hi hj=>(h.data i hi hj).chg hc (hb i hj),h.low,h.inj⟩
theorem LMem.step {wo wr Y W:World} {g:Nat} {l:List Nd} {j:Nat} {bs:Nat→Nat} {lo h:Nat} {x:Nd} {S:Nat→Prop} (hM:LMem wo g l j bs lo) (fB:Below wo.heap.size wo wr) (hC:Chg (fun b=>b=g) wr Y)
 (hO:∀ i,i<j * 5∨j * 5+5≤i→Y.cell? ⟨g,i,none⟩=wr.cell? ⟨g,i,none⟩) (hn:zDj Y g (j * 5) (zDh x h)) (hd:Blk wr h 5 (bvs x.data++mark5)) (fA:Chg S Y W) (fC:¬S g) (fF:∀ i,i<j→¬S (bs i)) (fG:¬S h)
 (fM:j<l.length) (hx:l[j]=x) (hh:wo.heap.size≤h) (fH:g<wo.heap.size) (fI:g<lo) (fJ:lo≤h):LMem W g l (j+1) (fun i=>if i=j then h else bs i) lo:=by
 have fK:=fB.size;have fL:=hC.size;have fD:∀ i,i<j→bs i<wo.heap.size:=fun i hi=>(hM.data i (by omega) hi).lt;refine⟨fun i hi fE=>?_,fun i hi fE=>?_,fun i fE=>?_,fun i k hi hk e=>?_⟩
 · by_cases e:i=j
   · subst e;simp only [if_true];rw [hx];exact hn.keep fun p hp=>fA.cell (by omega) (by rw [hp];exact fC)
   · simp only [if_neg e];obtain⟨a0,a1,a2,a3,a4⟩:=hM.node i hi (by omega)
     have go:∀ o u,o<j * 5→wo.cell? ⟨g,o,none⟩=some u→W.cell? ⟨g,o,none⟩=some u:=fun o u ho hu =>
      (fA.cell (p:=⟨g,o,none⟩) (show g<_ by omega) fC).trans ((hO o (.inl ho)).trans ((fB.cell (p:=⟨g,o,none⟩) fH).trans hu))
     exact⟨go _ _ (by omega) a0,go _ _ (by omega) a1,go _ _ (by omega) a2,go _ _ (by omega) a3,go _ _ (by omega) a4⟩
 · by_cases e:i=j
   · subst e;simp only [if_true];rw [hx];exact (hd.chg hC (by omega)).chg fA fG
   · simp only [if_neg e];have h1:=hM.low i (by omega);exact (((hM.data i hi (by omega)).fresh fB).chg hC (by omega)).chg fA (fF i (by omega))
 · by_cases e:i=j
   · simp only [if_pos e];exact fJ
   · simp only [if_neg e];exact hM.low i (by omega)
 · by_cases e1:i=j<;>by_cases e2:k=j
   · omega
   · simp only [if_pos e1,if_neg e2] at e;have:=fD k (by omega);omega
   · simp only [if_neg e1,if_pos e2] at e;have:=fD i (by omega);omega
   · simp only [if_neg e1,if_neg e2] at e;exact hM.inj i k (by omega) (by omega) e
def zEd (l:List Nd) (bs:Nat→Nat) (j:Nat):List Value:=(Ag j).map fun i=>.slice (some ⟨bs i,0,none⟩) (zIq l i+5) (zIq l i+5)
structure LentAt (w:World) (B g:Nat) (vb:Value) (bs:Nat→Nat) (l:List Nd):Prop where
 gB:B≤g
 mem:LMem w g l l.length bs (g+1)
 row:∃ cs,Blk w g 75 cs∧cs.length=(l.length+3) * 5
 marked:∀ i,l.length≤i→i<l.length+3→w.cell? ⟨g,i * 5,none⟩=some (.string ⟨#[109,97,114,107]⟩)∧w.cell? ⟨g,i * 5+4,none⟩=some (.slice none 0 0)
 own:w.ownsRow (g+1) 64 1 vb l.length (zEd l bs l.length)
def zGv (l:List Nd) (w:World) (e:Ending) (w':World):Prop :=
 ∃ (g:Nat) (vb:Value) (bs:Nat→Nat),e=.returned (.agg #[.slice (some ⟨g,0,none⟩) (l.length+3) (l.length+3),vb])∧LentAt w' w.heap.size g vb bs l∧Below w.heap.size w w'
theorem zIa (l:List Nd) (bs:Nat→Nat) (j h n:Nat) (hn:zIq l j=n):zEd l (fun i=>if i=j then h else bs i) (j+1)=zEd l bs j++[.slice (some ⟨h,0,none⟩) (n+5) (n+5)]:=by
 subst hn;unfold zEd;rw [List.range_succ,List.map_append]
 congr 1
 · refine List.map_congr_left fun i hi=>?_;have:=Ah.1 hi;simp only [if_neg (show ¬i=j by omega)]
 · simp
theorem src_blk {P:Program} {w:World} {g:Nat} {t:TypeId} {x:Value} {tx e':TypeId} (hk:P.underlying tx=some (.slice e')) (hg:w.heap[g]? = some (.cells #[x] t (0,0))) (h1:x.oneCell'=true) :
 Src P 1 tx (.slice (some ⟨g,0,none⟩) 1 1) 1 [x] w :=
 Src.ofSlice w hk ⟨g,0,none⟩ 1 1 [x] rfl (World.news_of_block (cs:=#[x]) hg) (by intro u hu;rw [Ai] at hu;subst hu;exact h1)
theorem lend_big (A:Option Addr) (cap:Nat) (l:List Nd) (w:World) (hN:NodesAt w w.heap.size A l) (jF:l.length≤5000) (jG:zHN l≤1000000000) :
 Calls AH 17 #[.slice A l.length cap] w (zGv l w):=by
 obtain⟨i0,hi,jH,gJ,jI⟩:=AD zCP;obtain⟨i1,jJ,jK,jL,jM⟩:=AD zED;obtain⟨i2,jN,jO,jP,jQ⟩:=AD infoBytes
 have fW:(Tryz.prog.info? 5).map (·.size)=some 1:=by rw [hi];simp [gJ]
 obtain⟨len,fH⟩:∃ len,len=l.length:=⟨_,rfl⟩;have fF:=hid fH;rw [←fH] at jF ⊢;clear fH;go_enter Tryz.func17,Tryz.ntmps17
 go_wp2_with (first
  | (at_make;refine wpList_make_full _ rfl (.tmp 10) (.tmp 10) _ rfl w.heap.size 75 i1 _ 5 Tryz.underlying31 jJ jK jL .i64 .i64 ((len:Int)+3) ((len:Int)+3) (len+3) rfl rfl (by omega) (by omega) (by rw [jM];omega) (by unfold maxLen;omega) (by simp) ?_;intro w1 gK fX))
 have gL:=Blk.new w 49 [.slice none 0 0,.slice none 0 0];have fE:=zEI gK;have fI:Below w.heap.size w w1:=(br.alloc nr _).grown fX (by simp) (by simp);have gM:=gL.law fX (by simp);have fY:=fE.lt;simp only [World.size_alloc] at fY fE;clear gK fX gL;generalize gN:w.heap.size+1=g at *;have hq:=Blk.new w1 49 [.slice (some ⟨g,0,none⟩) (len+3) (len+3),.slice none 0 0];have jR:=gM.alloc (.cells #[.slice (some ⟨g,0,none⟩) (len+3) (len+3),.slice none 0 0] 49);have fG:=fE.alloc (.cells #[.slice (some ⟨g,0,none⟩) (len+3) (len+3),.slice none 0 0] 49);have jS:=fI.alloc fI.size (.cells #[.slice (some ⟨g,0,none⟩) (len+3) (len+3),.slice none 0 0] 49)
 have fZ:w1.heap.size<(w1.alloc (.cells #[.slice (some ⟨g,0,none⟩) (len+3) (len+3),.slice none 0 0] 49)).heap.size:=by simp
 clear gM fE fI;have jT:∃ cs,Blk (w1.alloc (.cells #[.slice (some ⟨g,0,none⟩) (len+3) (len+3),.slice none 0 0] 49)) g 75 cs∧cs.length=(len+3) * 5:=⟨_,fG,by rw [AL,size_madeCells]⟩;clear fG;generalize w1.alloc (.cells #[.slice (some ⟨g,0,none⟩) (len+3) (len+3),.slice none 0 0] 49)=W at *;generalize gO:w1.heap.size=q at *;have jU:=hid gO;have gA:=hid gN
 have lA:w.heap.size<g:=by omega
 clear gO gN
 go_loopw [4] (fun i wr=>∃ (j:Nat) (vb:Value) (bs:Nat→Nat),j≤len∧i=.int .i64 j∧Below w.heap.size w wr∧q<wr.heap.size∧Blk wr q 49 [.slice (some ⟨g,0,none⟩) (len+3) (len+3),vb] ∧
  Blk wr w.heap.size 49 [.slice none 0 0,.slice none 0 0]∧(∃ cs,Blk wr g 75 cs∧cs.length=(len+3) * 5)∧LMem wr g l j bs (q+1)∧wr.ownsRow (q+1) 64 1 vb j (zEd l bs j))
  (fun i _=>len-(intOf i).toNat)
 case atStart=>exact⟨0,_,fun _=>0,AM _,rfl,jS,fZ,hq,jR,jT,⟨fun i h hi=>absurd hi (by omega),fun i h hi=>absurd hi (by omega),fun i hi=>absurd hi (by omega),fun i k hi=>absurd hi (by omega)⟩,World.ownsRow_nil _ _ _ _⟩
 case round =>
  obtain⟨j,vb,bs,hj,rfl,hb,jV,gP,gQ,⟨cs,gR,gS⟩,hM,fB⟩:=hrel;by_cases lB:j<len
  · have fJ:j<l.length:=by have:=fF.o;omega
    obtain⟨b,off,rfl,lC,hc⟩:=hN.at_ (by omega);have jW:=(hc j fJ).keep (w1:=wr) fun p hp=>hb.cell (by omega);have gT:=(hN.data _ (List.getElem_mem fJ)).below hb;have jX:=zFg l j fJ;have jY:=zH7 l (j+1)
    have jZ:l[j].data.length≤1000000000:=by omega
    clear jX jY hc hN;have kA:=hid (zHr l j fJ);generalize gU:l[j]=x at *;have kC:=hid gU;clear gU;obtain⟨pa,ki,ma,sa,dA,dc,da⟩:=x;obtain⟨c0,c1,c2,c3,c4⟩:=jW;simp only at c0 c1 c2 c3 c4 jZ gT
    have fO:b<wr.heap.size:=by have:=hb.size;omega
    have gB:¬b=wr.heap.size:=by omega
    go_wp2_with (first
     | (at_make;refine wpList_make_full _ rfl (.tmp 25) (.tmp 25) _ rfl (q+1) 5 i0 _ 1 AI hi jH gJ .i64 .i64 ((da.length:Int)+5) ((da.length:Int)+5) (da.length+5) rfl rfl (by omega) (by omega) (by rw [jI];omega) (by unfold maxLen;omega) (by omega) ?_;intro w2 gV fP;have c4':=fP.cell c4 (by simp);have gW:Blk w2 wr.heap.size 5 (Ac (da.length+5) (.int .u8 0)):=by (have h9:=zEI gV;rw [zBg _ rfl] at h9;exact h9))
     | (refine zGX rfl (.tmp 27) (.tmp 32) _ _ rfl 5 AI fW wr.heap.size _ _ _ _ _ rfl rfl 5 (Ac (da.length+5) (.int .u8 0)) gW w.heap.size (bvs da) (gT.keep fun p hp=>fP.cell_far p (Nat.lt_of_lt_of_le hp hb.size) (by simp)) (by omega) (by rw [List.length_replicate];omega) (zB4 da) ?_;intro w3 gC gD;have c4'':=(gD.cell (p:=⟨b,off+j * 5+4,none⟩) (AO w2 _ c4') (show ¬b=wr.heap.size from gB)).trans c4'))
    have kD:Below wr.heap.size wr w3:=((Below.refl wr.heap.size wr).grown fP nr (by simp)).trans (gD.below fP.size (fun b' fM e=>by omega))
    have kE:Blk w3 wr.heap.size 5 (bvs da++marks 0):=by
     have e:List.drop da.length (Ac (da.length+5) (Value.int .u8 0))=marks 0:=by rw [List.drop_replicate];simp [marks]
     rw [e] at gC;exact gC
    clear gC gW gV gD fP c4' c4'';obtain⟨wo,rfl⟩:∃ wo:World,wo=wr:=⟨_,rfl⟩
    go_loopw [6] (fun k wr=>∃ m:Nat,m≤5∧k=.int .i64 ((da.length:Int)+m)∧Blk wr wo.heap.size 5 (bvs da++marks m)∧Below wo.heap.size wo wr)
     (fun k _=>da.length+5-(intOf k).toNat)
    case atStart=>exact⟨0,by omega,by simp,kE,kD⟩
    case round =>
     obtain⟨m,hm,rfl,fU,fD⟩:=hrel;by_cases gX:m<5
     · have k1:=(fU.cell (da.length+m)).trans (marks_get _ _ m (zAc da) gX);have k2:=fU.frozen (da.length+m);go_wp2;have gY:=fU.set_ (da.length+m) (.int .u8 201);rw [marks_set _ _ m (zAc da) gX] at gY;go_roundw
       case rel=>exact⟨m+1,by omega,by go_num,gY,fD.setCell nr _⟩
       case measure=>simp [intOf];omega
     · obtain rfl:m=5:=by omega
       go_wp2
       have gZ:g<wo.heap.size:=by omega
       have fK:=gP.below fD jV;have fA:=gR.below fD gZ;have q0:=fK.cell 0;have e0:=(fD.cell (p:=⟨b,off+j * 5,none⟩) fO).trans c0;have e1:=(fD.cell (p:=⟨b,off+j * 5+1,none⟩) fO).trans c1;have e2:=(fD.cell (p:=⟨b,off+j * 5+2,none⟩) fO).trans c2;have e3:=(fD.cell (p:=⟨b,off+j * 5+3,none⟩) fO).trans c3;have e4:=(fD.cell (p:=⟨b,off+j * 5+4,none⟩) fO).trans c4;have y0:=(fA.cell (j * 5)).trans (Aj (by omega));have y1:=(fA.cell (j * 5+1)).trans (Aj (by omega));have y2:=(fA.cell (j * 5+2)).trans (Aj (by omega));have y3:=(fA.cell (j * 5+3)).trans (Aj (by omega));have y4:=(fA.cell (j * 5+4)).trans (Aj (by omega));have z0:=fA.frozen (j * 5);have z1:=fA.frozen (j * 5+1);have z2:=fA.frozen (j * 5+2);have z3:=fA.frozen (j * 5+3);have z4:=fA.frozen (j * 5+4)
       have j0:(0:Int)≤(j:Int):=by omega
       have j1:(j:Int)<(len:Int):=by omega
       have j2:(j:Int)<(len:Int)+3:=by omega
       have j3:b≠g:=by have:=gA.o;omega
       clear c0 c1 c2 c3 c4
       go_region
       go_upto_region 12 with (fail);obtain⟨cs2,n1,n2,x0,x1,x2,x3,x4,nC,nO⟩:=zFv fA (j * 5) (by omega) (.string pa) (.int .i64 ki) (.int .i64 ma) (.string sa) (.slice dA da.length dc) _ rfl;generalize ((((wr.setCell ⟨g,j * 5,none⟩ (.string pa)).setCell ⟨g,j * 5+1,none⟩ (.int .i64 ki)).setCell ⟨g,j * 5+2,none⟩ (.int .i64 ma)).setCell ⟨g,j * 5+3,none⟩ (.string sa)).setCell ⟨g,j * 5+4,none⟩ (.slice dA da.length dc)=X at *;clear e0 e1 e2 e3 y0 y1 y2 y3 y4 z0 z1 z2 z3 z4 q0;have q0:=(fK.chg nC (by omega)).cell 0;have e4':=(nC.cell (p:=⟨b,off+j * 5+4,none⟩) (AO wr _ e4) (by show ¬b=g;exact j3)).trans e4;have z4:=n1.frozen (j * 5+4);clear e4
       go_region
       have kF:=n1.set_ (j * 5+4) (.slice (some ⟨wo.heap.size,0,none⟩) da.length (da.length+5));have fN:=nC.setCell (p:=⟨g,j * 5+4,none⟩) (fun _=>rfl) (.slice (some ⟨wo.heap.size,0,none⟩) da.length (da.length+5))
       have kG:zDj (X.setCell ⟨g,j * 5+4,none⟩ (.slice (some ⟨wo.heap.size,0,none⟩) da.length (da.length+5))) g (j * 5) (zDh ⟨pa,ki,ma,sa,dA,dc,da⟩ wo.heap.size) :=
        ⟨(AP X _ _ _ (by simp)).trans x0,(AP X _ _ _ (by simp)).trans x1,(AP X _ _ _ (by simp)).trans x2,(AP X _ _ _ (by simp)).trans x3,World.cell?_setCell_same X _ _ x4⟩
       have kI:∀ i,i<j * 5∨j * 5+5≤i→(X.setCell ⟨g,j * 5+4,none⟩ (.slice (some ⟨wo.heap.size,0,none⟩) da.length (da.length+5))).cell? ⟨g,i,none⟩=wr.cell? ⟨g,i,none⟩:=fun i hi=>(AP X _ _ _ (by intro e;injection e with _ e;omega)).trans (nO i hi);generalize X.setCell ⟨g,j * 5+4,none⟩ (.slice (some ⟨wo.heap.size,0,none⟩) da.length (da.length+5))=Y at *;have gE:=fK.chg fN (by omega);have q1:=gE.cell 1;have lD:=fN.size;clear n1 nC nO x0 x1 x2 x3 x4 q0 e4' z4 fA;have fQ:∀ b',vb.ownBlock=some b'→q+1≤b':=fun b' fM=>(fB.lt b' fM).1;have gF:=zAy (zAC fB fD) fN (fun b' fM=>by have:=fQ b' fM;omega)
       have kJ:vb.ownBlock≠some q:=fun e=>by have:=fQ q e;omega
       have gG:q<Y.heap.size:=gE.lt;have kK:q+1≤Y.heap.size:=gG
       go_wp2_with (first
        | (at_builtin;refine zAg _ rfl (.tmp 71) (.tmp 73) _ _ rfl (q+1) 64 i2 _ 1 24 Tryz.underlying47 jN jO jP jQ rfl vb j (zEd l bs j) rfl (gF.alloc _) 1 [.slice (some ⟨wo.heap.size,0,none⟩) (da.length+5) (da.length+5)] (src_blk Tryz.underlying47 (heap_alloc_new Y _) rfl) (by unfold maxLen;omega) (by omega) (by simp;omega) ?_;intro v5 w5 jA jB kL;obtain⟨g5,c5,rfl,kM,kN⟩:=jA.form (by omega);have gH:=Blk.law (w:=(Y.alloc _).drew.drew) (gE.alloc _) jB kJ;have c51:=gH.cell 1;have f51:=gH.frozen 1))
       have CT:Chg (fun b'=>b'=q∨vb.ownBlock=some b') Y (w5.setCell ⟨q,1,none⟩ (.slice (some ⟨g5,0,none⟩) (j+1) c5)) :=
        ((((Aa _ Y).alloc _).drew.drew).grown jB (fun g' e _=>.inr e)).setCell (fun _=>.inl rfl) _
       have jC:¬(g=q∨vb.ownBlock=some g):=fun h=>h.elim (by omega) (fun e=>by have:=fQ g e;omega);have kO:¬(w.heap.size=q∨vb.ownBlock=some w.heap.size):=fun h=>h.elim (by omega) (fun e=>by have:=fQ _ e;omega);have kP:¬(wo.heap.size=q∨vb.ownBlock=some wo.heap.size):=fun h=>h.elim (by omega) (fun e=>by have:=(fB.lt _ e).2;omega)
       have fR:∀ i,i<j→¬(bs i=q∨vb.ownBlock=some (bs i)):=fun i hi h=>h.elim (fun e=>by have:=hM.low i hi;omega) (fun e=>by
        have h1:=hM.data i (by omega) hi;rcases fB.2 with ⟨h2,_⟩ | ⟨g',cap',cur',h2,_,h3,_⟩
        · rw [h2] at e;cases e
        · rw [h2] at e;injection e with e;subst e;have:=(Blk.eq (t':=64) (cs':=cur'.toList) h1 (by unfold Blk;simpa using h3)).1;exact absurd this (by decide))
       have kQ:=LMem.step hM fD fN kI kG (by simpa [marks,mark5] using fU) CT jC fR kP fJ kC.o nr gZ (by omega) (by omega);have lE:=CT.size;have kR:=gH.set_ 1 (.slice (some ⟨g5,0,none⟩) (j+1) c5)
       have kS:∀ b':Nat,(Value.slice (some ⟨g5,0,none⟩) (j+1) c5).ownBlock=some b'→¬b'=q:=by
        intro b' e
        have e':g5=b':=by simpa [Value.ownBlock] using e
        omega
       have kT:=zAy jA ((Aa (fun b'=>b'=q) w5).setCell (p:=⟨q,1,none⟩) (fun _=>rfl) (.slice (some ⟨g5,0,none⟩) (j+1) c5)) kS
       have kU:Below w.heap.size w (w5.setCell ⟨q,1,none⟩ (.slice (some ⟨g5,0,none⟩) (j+1) c5)) :=
        (hb.trans (fD.mono hb.size)).trans (((fN.trans CT (U:=fun b'=>b'=g∨b'=q∨vb.ownBlock=some b') (fun b' _ e=>.inl e) (fun b' _ e=>.inr e)).below (by have:=hb.size;have:=fD.size;omega) (fun b' fM e=>e.elim (by omega) fun e=>e.elim (by omega) fun e=>by have:=fQ b' e;omega)))
       go_roundw
       case rel =>
        exact⟨j+1,.slice (some ⟨g5,0,none⟩) (j+1) c5,_,by omega,by go_num,kU,by omega,kR,(((gQ.fresh fD).chg fN (by omega)).chg CT kO),⟨_,kF.chg CT jC,by simpa using n2.trans gS⟩,kQ,by rw [zIa _ _ _ _ _ kA.o];exact kT⟩
       case measure=>simp [intOf];omega
  · obtain rfl:j=len:=by omega
    go_wp2;obtain⟨wo,rfl⟩:∃ wo:World,wo=wr:=⟨_,rfl⟩
    go_loopw [7] (fun k wr=>∃ m:Nat,m≤3∧k=.int .i64 ((j:Int)+m)∧Chg (fun b'=>b'=g) wo wr∧(∃ cs,Blk wr g 75 cs∧cs.length=(j+3) * 5) ∧
     (∀ i,i<j * 5→wr.cell? ⟨g,i,none⟩=wo.cell? ⟨g,i,none⟩) ∧
     (∀ k,k<m→wr.cell? ⟨g,(j+k) * 5,none⟩=some (.string ⟨#[109,97,114,107]⟩)∧wr.cell? ⟨g,(j+k) * 5+4,none⟩=some (.slice none 0 0)))
     (fun k _=>j+3-(intOf k).toNat)
    case atStart=>exact⟨0,by omega,by simp,Aa _ _,⟨cs,gR,gS⟩,fun _ _=>rfl,fun k hk=>absurd hk (by omega)⟩
    case round =>
     obtain⟨m,hm,rfl,hC,⟨cs2,fC,kV⟩,fS,jD⟩:=hrel;have jE:=gP.chg hC (by omega);have q0:=jE.cell 0;by_cases lF:m<3
     · have y0:=(fC.cell ((j+m) * 5)).trans (Aj (by omega));have y1:=(fC.cell ((j+m) * 5+1)).trans (Aj (by omega));have y2:=(fC.cell ((j+m) * 5+2)).trans (Aj (by omega));have y3:=(fC.cell ((j+m) * 5+3)).trans (Aj (by omega));have y4:=(fC.cell ((j+m) * 5+4)).trans (Aj (by omega));have z0:=fC.frozen ((j+m) * 5);have z1:=fC.frozen ((j+m) * 5+1);have z2:=fC.frozen ((j+m) * 5+2);have z3:=fC.frozen ((j+m) * 5+3);have z4:=fC.frozen ((j+m) * 5+4);go_wp2;obtain⟨cs3,n1,n2,x0,x1,x2,x3,x4,nC,nO⟩:=zFv fC ((j+m) * 5) (by omega) (.string ⟨#[109,97,114,107]⟩) (.int .i64 0) (.int .i64 0) (.string ByteArray.empty) (.slice none 0 0) _ rfl;go_roundw
       case rel =>
        refine⟨m+1,by omega,by go_num,hC.trans nC (fun _ _ e=>e) (fun _ _ e=>e),⟨cs3,n1,by omega⟩,fun i hi=>(nO i (.inl (by omega))).trans (fS i hi),fun k hk=>?_⟩;by_cases e:k=m
        · subst e;exact⟨x0,x4⟩
        · have:=jD k (by omega);exact⟨(nO _ (.inl (by omega))).trans this.1,(nO _ (.inl (by omega))).trans this.2⟩
       case measure=>simp [intOf];omega
     · obtain rfl:m=3:=by omega
       have q1:=jE.cell 1;have fT:=(gQ.chg hC (by omega));have p0:=fT.cell 0;have p1:=fT.cell 1;have p2:=fT.frozen 0;have p3:=fT.frozen 1;obtain⟨Av,cv,rfl,_⟩:=Sees.of_own (B:=wo.heap.size) fB fun g' kW=>(fB.lt g' kW).2;go_wp2;have kX:=(fT.set_ 0 (.slice (some ⟨g,0,none⟩) (j+3) (j+3))).set_ 1 (.slice Av j cv);have fL:=((Aa (fun b'=>b'=w.heap.size) wr).setCell (p:=⟨w.heap.size,0,none⟩) (fun _=>rfl) (.slice (some ⟨g,0,none⟩) (j+3) (j+3))).setCell (p:=⟨w.heap.size,1,none⟩) (fun _=>rfl) (.slice Av j cv)
       have fV:¬g=w.heap.size:=by omega
       have gI:=(hC.trans fL (U:=fun b'=>b'=g∨b'=w.heap.size) (fun _ _ e=>.inl e) (fun _ _ e=>.inr e));have kY:=hb.trans (gI.below (B:=w.heap.size) (by have:=hb.size;omega) (fun b' fM e=>e.elim (by omega) (by omega)));have fJ:j=l.length:=fF.o;refine AE (v:=.agg #[.slice (some ⟨g,0,none⟩) (j+3) (j+3),.slice Av j cv]) (AF rfl _ _ w.heap.size 49 _ (0,0) _ rfl kX Tryz.underlying49 rfl (by kernel_rfl)) rfl ?_;subst fJ
       have lG:g+1≤q+1:=by omega
       have kZ:LMem ((wr.setCell ⟨w.heap.size,0,none⟩ (.slice (some ⟨g,0,none⟩) (l.length+3) (l.length+3))).setCell ⟨w.heap.size,1,none⟩ (.slice Av l.length cv)) g l l.length bs (g+1):=by
        refine⟨fun i hi hj=>?_,fun i hi hj=>?_,fun i hi=>by have:=hM.low i hi;omega,hM.inj⟩
        · obtain⟨a0,a1,a2,a3,a4⟩:=hM.node i hi hj
          have go:∀ o u,o<l.length * 5→wo.cell? ⟨g,o,none⟩=some u→((wr.setCell ⟨w.heap.size,0,none⟩ (.slice (some ⟨g,0,none⟩) (l.length+3) (l.length+3))).setCell ⟨w.heap.size,1,none⟩ (.slice Av l.length cv)).cell? ⟨g,o,none⟩=some u:=fun o u ho hu =>
           (fL.cell (p:=⟨g,o,none⟩) fC.lt fV).trans ((fS o ho).trans hu)
          exact⟨go _ _ (by omega) a0,go _ _ (by omega) a1,go _ _ (by omega) a2,go _ _ (by omega) a3,go _ _ (by omega) a4⟩
        · have:=hM.low i hj;exact ((hM.data i hi hj).chg hC (by omega)).chg fL (by omega)
       refine⟨g,.slice Av l.length cv,bs,rfl,⟨by omega,kZ,⟨cs2,fC.chg fL fV,kV⟩,fun i h1 h2=>?_,?_⟩,kY⟩
       · obtain⟨m1,m2⟩:=jD (i-l.length) (by omega)
         have e:l.length+(i-l.length)=i:=by omega
         rw [e] at m1 m2;exact⟨(fL.cell (p:=⟨g,i * 5,none⟩) fC.lt fV).trans m1,(fL.cell (p:=⟨g,i * 5+4,none⟩) fC.lt fV).trans m2⟩
       · refine zBY (zAy (zAy fB hC fun b' e=>?_) fL fun b' e=>?_) fun b' e=>?_
         · have:=(fB.lt b' e).1;omega
         · have:=(fB.lt b' e).1;omega
         · have:=(fB.lt b' e).1;omega
theorem lend_any (A:Option Addr) (cap:Nat) (l:List Nd) (w:World) (hN:NodesAt w w.heap.size A l) (fA:l.length≤5000) (fB:zHN l≤2097152) :
 Calls AH 17 #[.slice A l.length cap] w (zGv l w):=lend_big A cap l w hN fA (by omega)
theorem zA9:(Tryz.prog.info? 187).map (·.size)=some 128:=by kernel_rfl
def zB6 (s:List UInt8):Value:=.agg (bvs s).toArray
def zJD (s:List UInt8) (at_ k:Nat) (n:Int):List UInt8:=s.take at_++(zB2 n k++s.drop (at_+k))
theorem zDn (s:List UInt8) (at_ k:Nat) (n:Int) (h:at_+k≤s.length):(zJD s at_ k n).length=s.length:=by
 simp only [zJD,Ak,Al,Am,zAY];omega
theorem lay_step1 {done:List UInt8} {m n:Int} {j k:Nat} (h:done++zB2 m (k-j)=zB2 n k) (hj:j<k):Hid ((done++[AQ (m % 256).toNat])++zB2 (m / 256) (k-(j+1))=zB2 n k):=by
 show _=_
 rw [show k-j=(k-(j+1))+1 by omega] at h;rw [←h,List.append_assoc];rfl
theorem lay_step2 {s done:List UInt8} {m:Int} {j at_:Nat} (hd:done.length=j) (hs:at_+j<s.length) :
 (bvs (s.take at_++(done++s.drop (at_+j)))).set (at_+j) (.int .u8 (m % 256))=bvs (s.take at_++((done++[AQ (m % 256).toNat])++s.drop (at_+(j+1)))):=by
 have e:s.drop (at_+j)=s[at_+j]::s.drop (at_+(j+1)):=An hs
 have hl:(s.take at_).length=at_:=by rw [Al];omega
 have hu:Value.int .u8 (m % 256)=.int .u8 ((AQ (m % 256).toNat).toNat:Int):=by rw [u8_of]
 rw [hu,e];unfold bvs;rw [←List.map_set (f:=fun b:UInt8=>Value.int .u8 (b.toNat:Int))]
 congr 1
 rw [Af _ _ (by omega),hl,show at_+j-at_=j by omega,Af _ _ (by omega),hd,Nat.sub_self,List.set_cons_zero];simp
theorem zBa (s:List UInt8):(bvs s).toArray.all (·.oneCell')=true:=by
 rw [Array.all_eq_true_iff_forall_mem];intro x hx;exact zB4 s x (by simpa using hx)
theorem lay_any (s:List UInt8) (at_ k:Nat) (n:Int) (w:World) (hs:s.length=128) (hk:at_+k≤128) (hn:0≤n) (fL:n≤9223372036854775807) :
 Calls AH 152 #[zB6 s,.int .i64 at_,.int .i64 k,.int .i64 n] w fun e w'=>e=.returned (zB6 (zJD s at_ k n))∧Below w.heap.size w w':=by
 unfold zB6;have fF:=(Blk.new w 187 (bvs s)).alloc (.cells AJ 187)
 have fG:Blk ((w.alloc (.cells (bvs s).toArray 187)).alloc (.cells AJ 187)) (w.heap.size+1) 187 Tryz.zeroCells187.toList:=by
  have:=Blk.new (w.alloc (.cells (bvs s).toArray 187)) 187 Tryz.zeroCells187.toList;simpa using this
 have fH:Below w.heap.size w ((w.alloc (.cells (bvs s).toArray 187)).alloc (.cells AJ 187)):=(br.alloc nr _).alloc (by simp) _;go_enter Tryz.func152,Tryz.ntmps152;go_wp2;generalize (w.alloc (.cells (bvs s).toArray 187)).alloc (.cells AJ 187)=w0 at *;generalize hg:w.heap.size=g at *;have fM:=hid hg;clear hg
 go_loopw [9,10] (fun x i wr=>∃ (j:Nat) (m:Int) (done:List UInt8),j≤k∧i=.int .i64 j∧x=.int .i64 m∧0≤m∧m≤9223372036854775807∧Hid (done++zB2 m (k-j)=zB2 n k)∧Hid (done.length=j) ∧
  Blk wr g 187 (bvs (s.take at_++(done++s.drop (at_+j))))∧Blk wr (g+1) 187 Tryz.zeroCells187.toList∧Below g w wr)
  (fun _ i _=>k-(intOf i).toNat)
 case atStart=>exact⟨0,n,[],AM _,rfl,rfl,hn,fL,by simp [Hid],rfl,by simpa using fF,fG,fH⟩
 case round =>
  obtain⟨j,m,done,hj,rfl,rfl,fQ,fR,hd,fA,hB,hP,fB⟩:=hrel;clear fF fG fH;by_cases fI:j<k
  · have fS:=hid (zHD (m:=m) fI)
    have fT:(bvs (s.take at_++(done++s.drop (at_+j)))).length=128:=by
     rw [zAc,Ak,Ak,Al,Am,fA.o];omega
    have k1:=(hB.cell (at_+j)).trans (Aj (by omega));have k2:=hB.frozen (at_+j);have fN:=hid (hB.set_ (at_+j) (.int .u8 (m % 256)));have fO:=hid (hP.far (p:=⟨g,at_+j,none⟩) (by simp) (.int .u8 (m % 256)));have fP:=hid (fB.setCell (p:=⟨g,at_+j,none⟩) nr (.int .u8 (m % 256)));generalize (bvs (s.take at_++(done++s.drop (at_+j))))[at_+j]=old at *;clear hB hP fB;go_wp2;go_roundw
    case rel=>exact⟨j+1,m / 256,done++[AQ (m % 256).toNat],by omega,by go_num,by go_num,by omega,by omega,lay_step1 hd.o fI,by show _=_;rw [Ak,fA.o];rfl,by rw [←lay_step2 fA.o (by omega)];exact fN.o,fO.o,fP.o⟩
    case measure=>simp [intOf];omega
  · obtain rfl:k=j:=by omega
    have fJ:s.take at_++(done++s.drop (at_+k))=zJD s at_ k n:=by
     have h:=hd.o;rw [Nat.sub_self] at h;simp only [zB2,List.append_nil] at h;rw [h];rfl
    rw [fJ] at hB;have hl:=zDn s at_ k n (by omega)
    have hz:Tryz.zeroCells187.toList.length=128:=by kernel_rfl
    generalize fK:zJD s at_ k n=ys at *;have fC:=hid fK;clear fK
    have fD:(Tryz.prog.info? 187).map (·.size)=some (bvs ys).toArray.size:=by rw [zA9,Ab,zAc];congr 1;omega
    clear fJ hd
    go_wp2_with (first
     | (refine wpList_load_row rfl 187 (.tmp 4) rfl g rfl 187 (bvs ys).toArray (0,0) _ hB AK rfl fD ?_)
     | (refine wpList_store_row rfl 187 (.tmp 8) (.tmp 26) rfl (g+1) (bvs ys).toArray rfl rfl 187 _ hP fD (by rw [Ab,Ab,hz,zAc];omega) (zBa ys) ?_))
    have fE:Blk (wr.setRow (g+1) (bvs ys).toArray) (g+1) 187 (bvs ys):=AC wr (g+1) _ _ _ _ hP;refine AE (AF rfl _ _ (g+1) 187 (bvs ys).toArray (0,0) _ rfl fE AK rfl fD) rfl ⟨by rw [fC.o],?_⟩;rw [fM.o];exact fB.trans (((Aa (fun b=>b=g+1) wr).setRow (g:=g+1) (fun _=>rfl) _).below (Nat.le_of_lt hB.lt) (fun b hb e=>by omega))
def inB (n a b:Int):Bool:=decide (a≤n∧n≤b)
theorem zFs (n a b:Int) (w:World) :
 Calls AH 150 #[.int .i64 n,.int .i64 a,.int .i64 b] w fun e w'=>e=.returned (.bool (inB n a b))∧w=w':=by
 by_cases h1:a≤n
 · by_cases h2:n≤b
   · have hf:=hid (show inB n a b=true from decide_eq_true ⟨h1,h2⟩);go_enter Tryz.func150,Tryz.ntmps150;go_wp2;go_ret;exact⟨by rw [hf.o];rfl,rfl⟩
   · have hf:=hid (show inB n a b=false from decide_eq_false (fun h=>h2 h.2))
     have h3:b<n:=by omega
     clear h2;go_enter Tryz.func150,Tryz.ntmps150;go_wp2;go_ret;exact⟨by rw [hf.o];simp;omega,rfl⟩
 · have hf:=hid (show inB n a b=false from decide_eq_false (fun h=>h1 h.1))
   have h3:n<a:=by omega
   clear h1;go_enter Tryz.func150,Tryz.ntmps150;go_wp2;go_ret;exact⟨by rw [hf.o];rfl,rfl⟩
def nameOk (s:ByteArray):Prop:=(1≤s.size∧s.size≤40)∧(∀ k (h:k<s.size),s[k].toNat≠0∧s[k].toNat≠47)∧s.toList≠[46]∧s.toList≠[46,46]
theorem zJP (s:ByteArray) (w:World) (h:nameOk s) :
 Calls AH 151 #[.string s] w fun e w'=>e=.returned (.bool true)∧w=w':=by
 obtain⟨⟨h1,h2⟩,hc,h3,h4⟩:=h;have fA:=hid hc;have e3:¬s.toList=[46]:=h3;have e4:¬s.toList=[46,46]:=h4;have fB:=hid (show inB (s.size:Int) 1 40=true from decide_eq_true ⟨by omega,by omega⟩);clear hc h3 h4;go_enter Tryz.func151,Tryz.ntmps151;go_wp2
 go_loop [3] (fun i=>∃ k:Nat,k≤s.size∧i=.int .i64 k) (fun i=>s.size-(intOf i).toNat)
 case atStart=>exact⟨0,AM _,rfl⟩
 case round =>
  obtain⟨k,hk,rfl⟩:=hrel;by_cases fC:k<s.size
  · obtain⟨c1,c2⟩:=fA.o k fC
    have b1:((s[k].toNat:Int)==0)=false:=by simpa using c1
    have b2:((s[k].toNat:Int)==47)=false:=by simp;omega
    clear c1 c2;go_wp2;go_round
    case rel=>exact⟨k+1,by omega,by go_num⟩
    case measure=>simp [intOf];omega
  · obtain rfl:k=s.size:=by omega
    go_wp2_with (go_at_call 150;refine (zFs _ _ _ _).mono ?_;rintro e w' ⟨rfl,rfl⟩;rw [fB.o]);go_ret;refine⟨?_,rfl⟩
    show Ending.returned (Value.bool (!s.toList==[46] && !s.toList==[46,46]))=_
    rw [show (s.toList==[46])=false by simpa using e3,show (s.toList==[46,46])=false by simpa using e4];rfl
theorem zJi (s:List UInt8) (at_ k:Nat) (w:World) (hs:s.length=128) (hk:at_+k≤128) (fG:k≤4) :
 Calls AH 137 #[zB6 s,.int .i64 at_,.int .i64 k] w fun e w'=>e=.returned (.int .i64 (zGG ((s.drop at_).take k)))∧Below w.heap.size w w':=by
 unfold zB6;have fE:=Blk.new w 187 (bvs s);have fF:Below w.heap.size w (w.alloc (.cells (bvs s).toArray 187)):=br.alloc nr _
 have fD:((s.drop at_).take k).length=k:=by rw [Al,Am];omega
 obtain⟨xs,fC⟩:∃ xs,xs=(s.drop at_).take k:=⟨_,rfl⟩
 have fA:∀ j (h:j<xs.length),(bvs s)[at_+j]? = some (.int .u8 (xs[j].toNat:Int)):=fun j h=>by
  have h1:at_+j<s.length:=by rw [fC,fD] at h;omega
  rw [zBK s (at_+j) h1];subst fC;simp
 rw [←fC]
 have fB:Hid (xs.length=k):=by rw [fC];exact fD
 clear fC fD;go_enter Tryz.func137,Tryz.ntmps137;go_wp2;generalize w.alloc (.cells (bvs s).toArray 187)=w0 at *
 go_loop [7,8] (fun n i=>∃ (z:Int) (m:Nat),-1≤z∧z<k∧i=.int .i64 z∧n=.int .i64 m∧Hid (m=zGG (xs.drop (z+1).toNat))) (fun _ i=>(intOf i+1).toNat)
 case atStart=>exact⟨(k:Int)-1,0,by omega,by omega,rfl,rfl,by
  show _=_
  have:((k:Int)-1+1).toNat=xs.length:=by have:=fB.o;omega
  rw [this,List.drop_length];rfl⟩
 case round =>
  obtain⟨z,m,fH,fI,rfl,rfl,hm⟩:=hrel;by_cases hz:0≤z
  · obtain⟨j,rfl⟩:=Int.eq_ofNat_of_zero_le hz
    have hj:j<xs.length:=by have:=fB.o;omega
    have hg:=hid (show zGG (xs.drop j)=xs[j].toNat+256 * zGG (xs.drop (j+1)) by rw [An hj];rfl);have fJ:w0.cell? ⟨w.heap.size,at_+j,none⟩=some (.int .u8 (xs[j].toNat:Int)):=(fE.cell (at_+j)).trans (fA j hj);have fK:xs[j].toNat<256:=xs[j].toNat_lt
    have ei:Hid (((j:Int)+1).toNat=j+1):=by show _=_;omega
    have fL:m≤4294967296:=by
     have h1:=hm.o;have h2:=numL_lt (xs.drop (((j:Nat):Int)+1).toNat);have h3:2 ^ (8 * (xs.drop (((j:Nat):Int)+1).toNat).length)≤2 ^ 32:=Nat.pow_le_pow_right (by decide) (by rw [Am];have:=fB.o;omega);omega
    have h7:((j:Int)==7)=false:=by simp;omega
    have fM:(j:Int)<4:=by omega
    clear fA;generalize xs[j].toNat=y at *;go_wp2;go_round
    case rel =>
     refine⟨(j:Int)-1,y+256 * m,by omega,by omega,by go_num,by go_num,?_⟩
     show _=_
     have h1:=hm.o;rw [ei.o] at h1
     have h2:((j:Int)-1+1).toNat=j:=by omega
     rw [h2,hg.o,h1]
    case measure=>simp [intOf]
  · obtain rfl:z=-1:=by omega
    have h0:Hid (m=zGG xs):=hm;clear fA;go_wp2;go_ret;exact⟨by rw [←h0.o];rfl,fF⟩
theorem zDb {α:Type} (f:α→List Value) (k:Nat):∀ (l:List α) (_:∀ x∈l,(f x).length=k) (i:Nat) (h:i<l.length) (j:Nat),j<k→(l.flatMap f)[i * k+j]? = (f l[i])[j]?:=by
 intro l
 induction l with
 | nil=>intro _ i h;exact absurd h (by simp)
 | cons x l ih =>
  intro hk i h j hj;have hx:=hk x Ao;rw [Ap]
  cases i with
  | zero=>rw [List.getElem?_append_left (by rw [hx];omega)];simp
  | succ i =>
   have e:(i+1) * k=k+i * k:=by rw [Nat.succ_mul,Nat.add_comm]
   rw [List.getElem?_append_right (by rw [hx];omega),hx,show (i+1) * k+j-k=i * k+j by omega,ih (fun y hy=>hk y (Aq _ hy)) i (by simpa using h) j hj];simp
theorem zEv {α:Type} (f:α→List Value) (k:Nat):∀ l:List α,(∀ x∈l,(f x).length=k)→(l.flatMap f).length=l.length * k:=by
 intro l
 induction l with
 | nil=>intro _;simp
 | cons x l ih=>intro hk;rw [Ap,Ak,hk x Ao,ih (fun y hy=>hk y (Aq _ hy)),Ar,Nat.succ_mul,Nat.add_comm]
theorem ba_ext0 {a b:ByteArray} (h:a.data.toList=b.data.toList):a=b:=by
 cases a with | mk a =>
 cases b with | mk b =>
 simp only at h;rw [show a=b from Array.ext' h]
theorem zC2 {a b:ByteArray}:a.toList=b.toList↔a=b:=by
 constructor
 · intro h;rw [ByteArray.toList_eq,ByteArray.toList_eq] at h;exact ba_ext0 h
 · intro h;rw [h]
section
variable {P:Program}
theorem fill_one (s:Nat) (hs:0<s) (z cs:Array Value) (hz:z.size=s) (hc:cs.size=s):Instr.fill (fun i=>some (i * s,s)) z [(0,.agg cs)]=some cs:=by
 obtain⟨r,hr,fA,hk⟩:=Great.fill_dense hs [.agg cs] 0 z (by intro v hv;rw [Ai] at hv;subst hv;exact hc) (by simp [hz]);have e:([Value.agg cs].zipIdx 0).map (fun x=>(x.2,x.1))=[(0,.agg cs)]:=rfl;rw [e] at hr;rw [hr]
 congr 1
 refine Array.ext (by omega) fun k h1 h2=>?_;have:=hk k;rw [if_pos ⟨by omega,by simp;omega⟩,Nat.div_eq_of_lt (by omega),Nat.mod_eq_of_lt (by omega)] at this;have e2:([Value.agg cs][0-0]?).bind (fun v=>v.cells[k]?)=cs[k]?:=rfl;rw [e2,Array.getElem?_eq_getElem h1,Array.getElem?_eq_getElem h2] at this;injection this
theorem zAo {w:World} {ops:Array Oper} {rest:List Oper} {o:Oper} {a:Act} {Q:Exit→Act→World→Prop} (hg:o.guard=none) (t e:TypeId) (x:Operand) (ho:o.op=.buildSlice t 1 #[(0,x)])
 (cs:Array Value) (hx:a.eval x=.agg cs) (size:Nat) (hu:P.underlying t=some (.slice e)) (fA:(P.info? e).map (·.size)=some size) (hz:((P.info? e).bind (·.zero)).map (·.cells.size)=some size)
 (hc:cs.size=size) (fC:0<size) (fE:size≤2 ^ 20)
 (h:wpList P ops Q rest (a.put o.dst (.slice (some ⟨w.heap.size,0,none⟩) 1 1)) (w.alloc (.cells cs e))):wpList P ops Q (o::rest) a w:=by
 cases fB:P.info? e with
 | none=>simp [fB] at fA
 | some ie =>
  cases fD:ie.zero with
  | none=>simp [fB,fD] at hz
  | some z =>
   simp only [fB,fD,Option.map_some,Option.some.injEq,Option.bind_some] at fA hz;refine wpList_buildSlice hg t e 1 _ ho cs ie z hu fB fD (by rw [fA];omega) (by rw [fA];omega) ?_ h;rw [fA];simp only [List.map_toArray,As,List.map_nil,hx];exact fill_one size fC _ cs (by simp) hc
theorem zA3 {w:World} {g:Nat} {t:TypeId} {cs:List Value} {tx e':TypeId} (hk:P.underlying tx=some (.slice e')) (hg:Blk w g t cs) (h1:∀ u∈cs,u.oneCell'=true) :
 Src P cs.length tx (.slice (some ⟨g,0,none⟩) 1 1) 1 cs w :=
 Src.ofSlice w hk ⟨g,0,none⟩ 1 1 cs (by simp) (fun j u hu=>by rw [Addr.add_lit,Nat.zero_add];exact (hg.cell j).trans hu) h1
end
open Go.Maps (Keyed)
structure KE (α:Type) where
 enc:α→Lit
 val:α→Value
 lt:α→α→Bool
 before_eq:∀ a b,(enc a).before (enc b)=lt a b
 same_iff:∀ a b,(enc a).sameKey (enc b)=true↔a=b
 isKey:∀ a,WideAt.IsKeyLit (enc a)
section
variable {α β:Type} [DecidableEq α] (K:KE α)
def zCi (x:α×β):List (α×β)→List (α×β)
 | []=>[x]
 | y::r=>if K.lt x.1 y.1 then x::y::r else y::zCi x r
def zBB (a:α) (l:List (α×β)):List (α×β):=l.filter fun p=>decide (p.1≠a)
def zA2 (a:α) (v:β) (l:List (α×β)):List (α×β):=zCi K (a,v) (zBB a l)
def zAe (a:α):List (α×β)→Option β
 | []=>none
 | y::r=>if y.1=a then some y.2 else zAe a r
theorem zJM (a b:α) (h:a≠b):(K.enc a).sameKey (K.enc b)=false:=by
 have _:=(inferInstance:DecidableEq α);cases hs:(K.enc a).sameKey (K.enc b)
 · rfl
 · exact absurd ((K.same_iff a b).1 hs) h
theorem zDG (a b:α):(K.enc a).sameKey (K.enc b)=decide (a=b):=by
 by_cases h:a=b
 · rw [(K.same_iff a b).2 h];simp [h]
 · rw [zJM K a b h];simp [h]
theorem zBI (a:α):∀ l:List (α×β),zAe a (zBB a l)=none
 | []=>rfl
 | y::r=>by
  unfold zBB;by_cases h:y.1=a
  · simp only [At,h,ne_eq,not_true_eq_false,decide_false,AR,if_false];exact zBI a r
  · simp only [At,h,ne_eq,not_false_eq_true,decide_true,if_true,zAe,if_false];exact zBI a r
theorem zAT {a b:α} (fA:b≠a):∀ l:List (α×β),zAe b (zBB a l)=zAe b l
 | []=>rfl
 | y::r=>by
  unfold zBB;by_cases h:y.1=a
  · simp only [At,h,ne_eq,not_true_eq_false,decide_false,AR,if_false,zAe];rw [if_neg (fun e=>fA e.symm)];exact zAT fA r
  · simp only [At,h,ne_eq,not_false_eq_true,decide_true,if_true,zAe];have:=zAT fA r;unfold zBB at this;rw [this]
theorem zDV (x:α×β):∀ l:List (α×β),(∀ p∈l,p.1≠x.1)→zAe x.1 (zCi K x l)=some x.2
 | [],_=>by simp [zCi,zAe]
 | y::r,h=>by
  unfold zCi
  split
  · simp [zAe]
  · simp only [zAe];rw [if_neg (h y Ao)];exact zDV x r fun p hp=>h p (Aq _ hp)
theorem zDm {b:α} (x:α×β) (fA:b≠x.1):∀ l:List (α×β),zAe b (zCi K x l)=zAe b l
 | []=>by simp [zCi,zAe,fA.symm]
 | y::r=>by
  unfold zCi
  split
  · simp only [zAe];rw [if_neg (fun e=>fA e.symm)]
  · simp only [zAe];rw [zDm x fA r]
theorem zBG {a:α} {l:List (α×β)} {p:α×β}:p∈zBB a l↔p∈l∧p.1≠a:=by simp [zBB]
theorem zF5 {x p:α×β}:∀ {l:List (α×β)},p∈zCi K x l↔p=x∨p∈l
 | []=>by have _:=(inferInstance:DecidableEq α);simp [zCi]
 | y::r=>by
  unfold zCi
  split
  · simp
  · rw [Au,zF5,Au]
    constructor
    · rintro (h | h | h)
      · exact .inr (.inl h)
      · exact .inl h
      · exact .inr (.inr h)
    · rintro (h | h | h)
      · exact .inr (.inl h)
      · exact .inl h
      · exact .inr (.inr h)
theorem zAr (a:α) (v:β) (l:List (α×β)):zAe a (zA2 K a v l)=some v :=
 zDV K (a,v) _ fun _ hp=>(zBG.1 hp).2
theorem zAi {a b:α} (v:β) (fA:b≠a) (l:List (α×β)):zAe b (zA2 K a v l)=zAe b l:=by
 unfold zA2;rw [zDm K (a,v) fA,zAT fA]
theorem zBj {a:α} {v:β} {l:List (α×β)} {p:α×β}:p∈zA2 K a v l↔p=(a,v)∨p∈l∧p.1≠a:=by
 unfold zA2;rw [zF5,zBG]
theorem zDq (x:α×β):∀ l:List (α×β),(zCi K x l).length=l.length+1
 | []=>have _:=(inferInstance:DecidableEq α);rfl
 | y::r=>by
  unfold zCi
  split
  · simp
  · simp [zDq x r]
theorem zAf {a:α} {v:β}:∀ {l:List (α×β)},zAe a l=some v→(a,v)∈l
 | [],h=>by cases h
 | y::r,h=>by
  unfold zAe at h
  split at h
  · rename_i e;injection h with h;rw [←e,←h];exact Ao
  · exact Aq _ (zAf h)
theorem zA7 {a:α}:∀ {l:List (α×β)},zAe a l=none↔∀ p∈l,p.1≠a
 | []=>by simp [zAe]
 | y::r=>by
  unfold zAe
  split
  · rename_i e
    constructor
    · intro h;cases h
    · intro h;exact absurd e (h y Ao)
  · rename_i e;rw [zA7]
    constructor
    · intro h p hp;rcases Au.1 hp with rfl | hp
      · exact e
      · exact h p hp
    · intro h p hp;exact h p (Aq _ hp)
theorem zEn {a:α} {l:List (α×β)} (h:zAe a l=none):zBB a l=l:=by
 have:=zA7.1 h;unfold zBB;rw [List.filter_eq_self];intro p hp;simpa using this p hp
theorem zBi (a:α) (v:β) (l:List (α×β)):(zA2 K a v l).length≤l.length+1:=by
 unfold zA2;rw [zDq];have:(zBB a l).length≤l.length:=List.length_filter_le _ _;omega
theorem zI6 (a:α) (v:β):∀ l:List (α×β),zBB a (zCi K (a,v) l)=zBB a l
 | []=>by simp [zCi,zBB]
 | y::r=>by
  unfold zCi
  split
  · simp [zBB]
  · have:=zI6 a v r;unfold zBB at this ⊢;simp only [At];rw [this]
theorem zGk (a:α) (v:β) (l:List (α×β)):zBB a (zA2 K a v l)=zBB a l:=by
 unfold zA2;rw [zI6];unfold zBB;rw [List.filter_filter];simp
theorem putS_put (a:α) (u v:β) (l:List (α×β)):zA2 K a v (zA2 K a u l)=zA2 K a v l:=by
 unfold zA2
 congr 1
 exact zGk K a u l
def zBo (l:List (α×β)):Prop:=l.Pairwise fun p q=>K.lt p.1 q.1=true
theorem zBL (a:α):K.lt a a=false:=by have _:=(inferInstance:DecidableEq α);rw [←K.before_eq];exact Go.WideShapes.before_irrefl _
theorem zDI {a b c:α} (h1:K.lt a b=true) (h2:K.lt b c=true):K.lt a c=true:=by
 have _:=(inferInstance:DecidableEq α);rw [←K.before_eq] at *;exact Go.WideShapes.before_trans h1 h2
theorem zBo.nd {l:List (α×β)} (h:zBo K l):l.Pairwise fun p q=>p.1≠q.1 :=
 h.imp fun {p q} fA e=>by rw [e,zBL] at fA;cases fA
theorem zAU:∀ {l:List (α×β)} (_:l.Pairwise fun p q=>p.1≠q.1) {p:α×β},p∈l→zAe p.1 l=some p.2
 | [],_,p,hp=>by cases hp
 | y::r,hd,p,hp=>by
  obtain⟨h1,h2⟩:=Aw.1 hd;rcases Au.1 hp with rfl | hp'
  · simp [zAe]
  · simp only [zAe];rw [if_neg (h1 p hp')];exact zAU h2 hp'
theorem zBo.del {l:List (α×β)} (h:zBo K l) (a:α):zBo K (zBB a l):=List.Pairwise.filter _ h
theorem zBo.ins (tot:∀ a b:α,a≠b→K.lt a b=true∨K.lt b a=true) {x:α×β}:∀ {l:List (α×β)},zBo K l→(∀ p∈l,p.1≠x.1)→zBo K (zCi K x l)
 | [],_,_=>by simp [zCi,zBo]
 | y::r,h,hn=>by
  obtain⟨h1,h2⟩:=Aw.1 h;unfold zCi
  split
  · rename_i fA;refine Aw.2 ⟨fun p hp=>?_,h⟩;rcases Au.1 hp with rfl | hp
    · exact fA
    · exact zDI K fA (h1 p hp)
  · rename_i fA;refine Aw.2 ⟨fun p hp=>?_,zBo.ins tot h2 fun p hp=>hn p (Aq _ hp)⟩;rcases (zF5 K).1 hp with rfl | hp
    · rcases tot y.1 p.1 (hn y Ao) with h' | h'
      · exact h'
      · exact absurd h' fA
    · exact h1 p hp
theorem zBo.put (tot:∀ a b:α,a≠b→K.lt a b=true∨K.lt b a=true) {l:List (α×β)} (h:zBo K l) (a:α) (v:β):zBo K (zA2 K a v l) :=
 zBo.ins K tot (h.del K a) fun _ hp=>(zBG.1 hp).2
theorem zBo.ext {l l':List (α×β)} (h:zBo K l) (h':zBo K l') (hm:∀ a,zAe a l=zAe a l'):l=l':=by
 induction l generalizing l' with
 | nil =>
  cases l' with
  | nil=>rfl
  | cons y r=>have:=hm y.1;simp [zAe] at this
 | cons x l ih =>
  cases l' with
  | nil=>have:=hm x.1;simp [zAe] at this
  | cons y r =>
   obtain⟨h1,h2⟩:=Aw.1 h;obtain⟨fA,fC⟩:=Aw.1 h'
   have fB:x.1=y.1:=by
    by_cases e:x.1=y.1
    · exact e
    have a1:=hm x.1;have a2:=hm y.1;simp only [zAe,if_true] at a1 a2;rw [if_neg (fun e'=>e e'.symm)] at a1;rw [if_neg e] at a2;have m1:=fA _ (zAf a1.symm);have m2:=h1 _ (zAf a2);have:=zDI K m1 m2;rw [zBL] at this;cases this
   have hv:x=y:=by
    have a1:=hm x.1;simp only [zAe,if_true,fB] at a1;injection a1 with a1;exact Prod.ext fB a1
   subst hv;rw [ih h2 fC fun a=>?_];have a1:=hm a;simp only [zAe] at a1;by_cases e:x.1=a
   · have n1:zAe a l=none:=zA7.2 fun p hp e'=>by have:=h1 p hp;rw [e,e',zBL] at this;cases this
     have n2:zAe a r=none:=zA7.2 fun p hp e'=>by have:=fA p hp;rw [e,e',zBL] at this;cases this
     rw [n1,n2]
   · rw [if_neg e,if_neg e] at a1;exact a1
end
def rawR (v:Value):Option (DataW Value×List MemPlace):=some (.held v,[])
def zFo {α β:Type} (K:KE α) (V:β→Value) (l:List (α×β)):List (Lit×DataW Value):=l.map fun p=>(K.enc p.1,.held (V p.2))
def zAt (w:World) {α β:Type} (K:KE α) (V:β→Value) (k:TypeId) (b:Nat) (l:List (α×β)):Prop:=w.ownsMap AH k rawR b l.length (.map (zFo K V l))
section
variable {α β:Type} [DecidableEq α] (K:KE α) (V:β→Value)
theorem zGs (a:α) (l:List (α×β)):DataW.del (.map (zFo K V l)) (K.enc a)=.map (zFo K V (zBB a l)):=by
 show DataW.map _=_
 congr 1
 unfold zFo zBB;rw [List.filter_map]
 congr 1
 apply Ax
 intro p _;simp only [Function.comp_def];rw [zDG];by_cases h:p.1=a<;>simp [h]
theorem zIU (x:α×β):∀ l:List (α×β),DataW.insert (K.enc x.1,.held (V x.2)) (zFo K V l)=zFo K V (zCi K x l)
 | []=>have _:=(inferInstance:DecidableEq α);rfl
 | y::r=>by
  show DataW.insert _ ((K.enc y.1,.held (V y.2))::zFo K V r)=_
  unfold DataW.insert zCi;simp only [K.before_eq]
  split
  · rfl
  · rw [zIU x r];rfl
theorem zIK (a:α) (v:β) (l:List (α×β)):DataW.put (.map (zFo K V l)) (K.enc a) (.held (V v))=.map (zFo K V (zA2 K a v l)):=by
 have:=zGs K V a l;unfold DataW.del at this;injection this with this
 show DataW.map (DataW.insert _ _)=_
 rw [this];unfold zA2;rw [←zIU]
theorem zIp (a:α) (z:DataW Value):∀ l:List (α×β),DataW.atKey (.map (zFo K V l)) (K.enc a) z=match zAe a l with | some v=>.held (V v) | none=>z
 | []=>rfl
 | y::r=>by
  have:=zIp a z r;unfold DataW.atKey at this ⊢;unfold zFo at this ⊢;simp only [As,List.find?_cons,zDG,zAe] at this ⊢;by_cases h:y.1=a
  · simp [h]
  · simp only [h,decide_false,if_false];exact this
theorem zEw (a:α):∀ l:List (α×β),Maps.has (.map (zFo K V l)) (K.enc a)=(zAe a l).isSome
 | []=>rfl
 | y::r=>by
  have:=zEw a r;unfold Maps.has at this ⊢;unfold zFo at this ⊢;simp only [As,List.any_cons,zDG,zAe] at this ⊢;by_cases h:y.1=a
  · simp [h]
  · simp only [h,decide_false,Bool.false_or,if_false];exact this
theorem zHI (l:List (α×β)):Maps.size (.map (zFo K V l))=l.length:=by have _:=(inferInstance:DecidableEq α);simp [Maps.size,zFo]
variable {K V} {w w':World} {k:TypeId} {b:Nat} {l:List (α×β)}
theorem zAt.lt (h:zAt w K V k b l):b<w.heap.size:=have _:=(inferInstance:DecidableEq α);World.ownsMap.lt h
theorem zAt.made (w:World) (K:KE α) (V:β→Value) (k:TypeId):zAt (w.alloc (.map #[] 0)) K V k w.heap.size []:=have _:=(inferInstance:DecidableEq α);World.ownsMap_made _ _ _ _
theorem zAt.chg {S:Nat→Prop} (h:zAt w K V k b l) (hc:Chg S w w') (hb:¬S b):zAt w' K V k b l:=by
 have fA:=h.lt;obtain⟨es,clock,fB,F,hs,hD⟩:=h;exact⟨es,clock,(hc.block b fA hb).trans fB,F,hs,hD⟩
theorem zAt.fresh (h:zAt w K V k b l) (hb:Below w.heap.size w w'):zAt w' K V k b l:=h.chg (Chg.of_fresh (S:=fun _=>False) hb) id
theorem zAt.alloc (h:zAt w K V k b l) (o:Obj):zAt (w.alloc o) K V k b l:=have _:=(inferInstance:DecidableEq α);World.ownsMap.alloc h o
theorem zAt.ris (h:zAt w K V k b l) (hk:Keyed AH k):zBo K l:=by
 have _:=(inferInstance:DecidableEq α);obtain⟨es,e,hp,_⟩:=World.ownsMap.canon h hk;injection e with e;rw [←e] at hp;unfold zFo at hp;rw [Ay] at hp;exact hp.imp fun {p q} h=>by rwa [K.before_eq] at h
theorem zGt {v:Value} {d:DataW Value} {ps:List MemPlace} (h:rawR v=some (d,ps)):d=.held v:=by
 unfold rawR at h;injection h with h;injection h with h1 h2;exact h1.symm
def orV (V:β→Value) (z:Value):Option β→Value
 | some v=>V v
 | none=>z
omit [DecidableEq α] in
theorem zGy {a b:Value} (h:(DataW.held a:DataW Value)=.held b):a=b:=by injection h
theorem zHk {v z:Value} {a:α} (h:DataW.atKey (.map (zFo K V l)) (K.enc a) (.held z)=.held v):v=orV V z (zAe a l):=by
 rw [zIp] at h
 cases hg:zAe a l with
 | none=>rw [hg] at h;exact (zGy h).symm
 | some u=>rw [hg] at h;exact (zGy h).symm
theorem zAt.look {t e:TypeId} (h:zAt w K V k b l) (hk:Keyed AH k) (ht:Tryz.prog.underlying t=some (.map k e)) {z:Value} (hz:(zeroValue e).run AH w=.ok z w) {a:α} (fA:keyOf AH k (K.val a)=some (K.enc a)) :
 (Instr.lookup t (.map (some b)) (K.val a) false).run AH w=.ok (orV V z (zAe a l)) w:=by
 obtain⟨v,ps,fB,hv⟩:=World.ownsMap.lookup h hk ht hz (zd:=.held z) (zp:=[]) rfl fA;rw [fB];rw [show v=orV V z (zAe a l) from zHk (zGt hv)]
theorem zAt.look_ok {t e:TypeId} (h:zAt w K V k b l) (hk:Keyed AH k) (ht:Tryz.prog.underlying t=some (.map k e)) {z:Value} (hz:(zeroValue e).run AH w=.ok z w) {a:α} (fA:keyOf AH k (K.val a)=some (K.enc a)) :
 (Instr.lookup t (.map (some b)) (K.val a) true).run AH w=.ok (.tuple #[orV V z (zAe a l),.bool (zAe a l).isSome]) w:=by
 obtain⟨v,ps,fB,hv⟩:=World.ownsMap.look_ok h hk ht hz (zd:=.held z) (zp:=[]) rfl fA;rw [fB,zEw];rw [show v=orV V z (zAe a l) from zHk (zGt hv)]
theorem zCF {n:Nat} {D:DataW Value} {l':List (α×β)} (h:w.ownsMap AH k rawR b n D) (hD:D=.map (zFo K V l')):zAt w K V k b l':=by
 obtain⟨es,clock,fA,F,hs,e⟩:=h;rw [hD] at e;have e2:=congrArg Maps.size e;rw [zHI] at e2;simp only [Maps.size,length_sorted,Az,AL] at e2;exact⟨es,clock,fA,F,by omega,e⟩
theorem zAt.store {t e:TypeId} (h:zAt w K V k b l) (hk:Keyed AH k) (ht:Tryz.prog.underlying t=some (.map k e)) (hn:l.length<maxLen) {a:α} {v:β} (fA:keyOf AH k (K.val a)=some (K.enc a)) :
 ∃ w',(AT t (.map (some b)) (K.val a) (V v)).run AH w=.ok () w'∧zAt w' K V k b (zA2 K a v l)∧w.mapTurned w' b:=by
 obtain⟨w',fB,ho,ht⟩:=World.ownsMap.store h hk ht hn fA (val:=V v) (d:=.held (V v)) (ps:=[]) rfl;exact⟨w',fB,zCF ho (zIK K V a v l),ht⟩
theorem zAt.drop {t e:TypeId} (h:zAt w K V k b l) (hk:Keyed AH k) (ht:Tryz.prog.underlying t=some (.map k e)) {a:α} (fA:keyOf AH k (K.val a)=some (K.enc a)) (ty:TypeId) :
 ∃ w',(Builtin.delete_ #[t,k] ty #[.map (some b),K.val a]).run AH w=.ok (.tuple #[]) w'∧zAt w' K V k b (zBB a l)∧w.mapTurned w' b:=by
 obtain⟨w',fB,ho,ht⟩:=World.ownsMap.drop h hk ht fA ty;exact⟨w',fB,zCF ho (zGs K V a l),ht⟩
theorem zAt.len {t e:TypeId} (h:zAt w K V k b l) (ht:Tryz.prog.underlying t=some (.map k e)) (ty:TypeId):(Builtin.len_ #[t] ty #[.map (some b)]).run AH w=.ok (.int .i64 (l.length:Nat)) w:=by
 rw [World.ownsMap.len h ht ty,zHI]
theorem zAP (h:w.mapTurned w' b):Chg (fun c=>c=b) w w':=(Aa _ w).grown h.grown fun g e _=>by injection e with e;exact e.symm
end
def zAG:KE Nat where
 enc n:=.int .i64 (n:Int)
 val n:=.int .i64 (n:Int)
 lt a b:=decide (a<b)
 before_eq a b:=by simp [Lit.before]
 same_iff a b:=by simp [Lit.sameKey];omega
 isKey _:=trivial
def zIE:KE Int where
 enc n:=.int .i64 n
 val n:=.int .i64 n
 lt a b:=decide (a<b)
 before_eq a b:=by simp [Lit.before]
 same_iff a b:=by simp [Lit.sameKey]
 isKey _:=trivial
theorem zCo (a b:Nat) (h:a≠b):zAG.lt a b=true∨zAG.lt b a=true:=by simp only [zAG,decide_eq_true_eq];omega
theorem zGB {a b:ByteArray} (h:a.data.toList=b.data.toList):a=b:=by
 cases a with | mk a =>
 cases b with | mk b =>
 simp only at h;rw [show a=b from Array.ext' h]
def zAV:KE ByteArray where
 enc s:=.string s.data.toList
 val s:=.string s
 lt a b:=bytesBefore a.data.toList b.data.toList
 before_eq a b:=by simp [Lit.before]
 same_iff a b:=by
  simp only [Lit.sameKey,beq_iff_eq];exact⟨zGB,fun h=>by rw [h]⟩
 isKey _:=trivial
theorem zC1:∀ a b:List UInt8,a≠b→bytesBefore a b=true∨bytesBefore b a=true
 | [],[],h=>absurd rfl h
 | [],_::_,_=>.inl rfl
 | _::_,[],_=>.inr rfl
 | a::r,b::s,h=>by
  simp only [bytesBefore,Bool.or_eq_true,decide_eq_true_eq,AS,beq_iff_eq];by_cases e:a=b
  · subst e
    rcases zC1 r s (fun e=>h (by rw [e])) with h' | h'
    · exact .inl (.inr ⟨rfl,h'⟩)
    · exact .inr (.inr ⟨rfl,h'⟩)
  · have:a.toNat≠b.toNat:=fun e'=>e (UInt8.toNat_inj.1 e');rcases Nat.lt_or_gt_of_ne this with h' | h'
    · exact .inl (.inl h')
    · exact .inr (.inl h')
theorem zEC (a b:ByteArray) (h:a≠b):zAV.lt a b=true∨zAV.lt b a=true:=zC1 _ _ fun e=>h (zGB e)
section
variable {α β:Type} [DecidableEq α] {K:KE α} {V:β→Value} {k:TypeId} {b:Nat} {l:List (α×β)} (w:World) {ops:Array Oper} {rest:List Oper} {o:Oper} {c:Act} {Q:Exit→Act→World→Prop}
theorem zEg (hg:o.guard=none) (m x:Operand) (t:TypeId) (fC:o.op=Op.lookup t m x false) {e:TypeId} (hk:Keyed AH k) (ht:Tryz.prog.underlying t=some (.map k e)) {z:Value} (hz:(zeroValue e).run AH w=.ok z w)
 (h:zAt w K V k b l) (hm:c.eval m=.map (some b)) (a:α) (hx:c.eval x=K.val a) (fA:keyOf AH k (K.val a)=some (K.enc a)) (v:Value) (hv:orV V z (zAe a l)=v)
 (hK:wpList AH ops Q rest (c.put o.dst v) w):wpList AH ops Q (o::rest) c w:=by
 refine AG hg fun K' fD=>?_;have fB:=h.look hk ht hz fA;unfold Oper.wp
 simp [execOp,fC,hm,hx,fB,AV]
 rw [hv];exact fD _ _ hK
theorem zAZ (hg:o.guard=none) (m x v:Operand) (t:TypeId) (fA:o.op=Op.mapUpdate t m x v∨o.op=Op.insert t m x v) {e:TypeId} (hk:Keyed AH k) (ht:Tryz.prog.underlying t=some (.map k e))
 (h:zAt w K V k b l) (hn:l.length<maxLen) (hm:c.eval m=.map (some b)) (a:α) (hx:c.eval x=K.val a) (fC:keyOf AH k (K.val a)=some (K.enc a)) (u:β) (hv:c.eval v=V u)
 (hK:∀ w',zAt w' K V k b (zA2 K a u l)→w.mapTurned w' b→wpList AH ops Q rest (c.put o.dst undef) w'):wpList AH ops Q (o::rest) c w:=by
 refine AG hg fun K' fD=>?_;obtain⟨w',fB,r1,r2⟩:=h.store hk ht hn (v:=u) fC;unfold Oper.wp;rcases fA with fA | fA
 · simp [execOp,fA,hm,hx,hv,fB,AV]
   exact fD _ _ (hK w' r1 r2)
 · simp [execOp,fA,hm,hx,hv,fB,AV]
   exact fD _ _ (hK w' r1 r2)
theorem zDv (hg:o.guard=none) (m x:Operand) (t:TypeId) (fC:o.op=Op.call {callee:=Callee.builtin Builtin.delete,args:=#[m,x],argTypes:=#[t,k]}) {e:TypeId} (hk:Keyed AH k) (ht:Tryz.prog.underlying t=some (.map k e))
 (h:zAt w K V k b l) (hm:c.eval m=.map (some b)) (a:α) (hx:c.eval x=K.val a) (fA:keyOf AH k (K.val a)=some (K.enc a))
 (hK:∀ w',zAt w' K V k b (zBB a l)→w.mapTurned w' b→wpList AH ops Q rest (c.put o.dst (.tuple #[])) w'):wpList AH ops Q (o::rest) c w:=by
 refine AG hg fun K' fD=>?_;obtain⟨w',fB,r1,r2⟩:=h.drop hk ht fA o.type;unfold Oper.wp
 simp [execOp,fC,resolve,invoke,builtin,hm,hx,fB,AV]
 exact fD _ _ (hK w' r1 r2)
theorem zCE (hg:o.guard=none) (m:Operand) (t:TypeId) (fA:o.op=Op.call {callee:=Callee.builtin Builtin.len,args:=#[m],argTypes:=#[t]}) {e:TypeId} (ht:Tryz.prog.underlying t=some (.map k e))
 (h:zAt w K V k b l) (hm:c.eval m=.map (some b)) (n:Nat) (hn:l.length=n) (hK:wpList AH ops Q rest (c.put o.dst (.int .i64 n)) w):wpList AH ops Q (o::rest) c w:=by
 refine AG hg fun K' fB=>?_;unfold Oper.wp
 simp [execOp,fA,resolve,invoke,builtin,hm,h.len ht o.type,AV]
 rw [hn];exact fB _ _ hK
end
theorem zGo (es:Array MapEntry) (seen:Array Nat) (j:Nat) (f:MapEntry→MapEntry) (hf:∀ e,(f e).born=e.born):(leftOf (es.modify j f) seen).size=(leftOf es seen).size:=by
 have e1:∀ a:Array MapEntry,(leftOf a seen).size=((a.toList.map (·.born)).filter fun b=>!seen.contains b).length:=fun a=>by
  unfold leftOf;rw [List.filter_map,Az,←AL,Array.toList_filter];rfl
 rw [e1,e1]
 have e2:(es.modify j f).toList.map (·.born)=es.toList.map (·.born):=by
  apply List.ext_getElem?
  intro i;simp only [List.getElem?_map,Array.getElem?_toList,Array.getElem?_modify]
  split
  · cases es[i]?<;>simp [hf]
  · rfl
 rw [e2]
open Go.ChangeMaps Go.MapKept in
theorem zGW {P:Program} {k:TypeId} {R:Value→Option (DataW Value×List MemPlace)} {w:World} {b r n:Nat} {D:DataW Value} {left:Lit→Bool} {cnt:Nat} {t e:TypeId}
 (h:w.ranges P k R b r n D left cnt) (K:Keyed P k) (ht:P.underlying t=some (.map k e)) {key val:Value} {kl:Lit} {d:DataW Value} {ps:List MemPlace} (fA:keyOf P k key=some kl) (hv:R val=some (d,ps)) (fK:Maps.has D kl=true) (hn:n<maxLen) :
 ∃ w',(AT t (.map (some b)) key val).run P w=.ok () w'∧w'.ranges P k R b r n (D.put kl d) left cnt∧w.mapTurned w' b:=by
 have fO:=h.ne;obtain⟨es,clock,since,seen,c0,hb,F,hs,rfl,hr,fD,rfl,fL,fP,fQ,fR⟩:=h;obtain⟨es',clock',fE,F',fH,_⟩:=Maps.fit_store (R':=R) K ht hb F (Nat.lt_of_le_of_lt hs hn) (fun _ _ _ _ hz=>hz) fA hv;rcases K.find w fA es.toList F.keys with ⟨h1,h2⟩ | ⟨j,e0,h1,h2,h3⟩
 · exfalso
   unfold Maps.has at fK;obtain⟨p,hp,fS⟩:=AA.1 fK;obtain⟨x,hx,rfl⟩:=AB.1 (mem_sorted.1 hp);obtain⟨y,hy⟩:=F.reads x hx;have m1:=Go.WideElems.rd_key hy;have e1:=WideAt.sameKey_eq fS;rw [Go.WideElems.rg_of hy] at e1;rw [e1] at m1;exact h2 x hx (K.inj m1 fA)
 · have hj:es[j]? = some e0:=by simpa using h2
   have fC:(AT t (.map (some b)) key val).run P w=.ok () (setBlock w b (.map (es.modify j fun e'=>{e' with key:=key,val:=val}) clock)):=by
    simp [AT,run_underlying ht,MapKept.run_getObj_map hb,K.check w false fA,h1,hj,h3,K.stays w fA,MapKept.run_setObj_map _ hb,AV,setBlock]
   have fT:(Obj.map es' clock')=.map (es.modify j fun e'=>{e' with key:=key,val:=val}) clock:=by
    rw [fE] at fC;injection fC with _ hw;have a1:=heap_setBlock_same hb (.map es' clock');have a2:=heap_setBlock_same hb (.map (es.modify j fun e'=>{e' with key:=key,val:=val}) clock);rw [hw] at a1;rw [a1] at a2;injection a2
   injection fT with hes hck;have fI:=hck.symm;subst hes fI
   have fB:(es.modify j (fun e'=>{e' with key:=key,val:=val})).toList=es.toList.set j {e0 with key:=key,val:=val}:=by rw [Array.toList_modify,ChangeMaps.modify_eq_set _ _ _ _ h2]
   have fJ:e0∈es.toList:=List.mem_of_getElem? h2;obtain⟨y0,fM⟩:=F.reads e0 fJ
   have fF:(Go.WideElems.rg P k R e0).1=kl:=by
    rw [Go.WideElems.rg_of fM];have:=Go.WideElems.rd_key fM;rw [h3,fA] at this;injection this with this;exact this.symm
   have fG:(Go.WideElems.rg P k R ({e0 with key:=key,val:=val}:MapEntry)).1=kl:=by rw [Go.WideElems.rg_of (Go.WideElems.rd_mk fA hv)]
   have who:∀ x∈es.toList.set j {e0 with key:=key,val:=val},x∈es.toList∨x={e0 with key:=key,val:=val}:=fun x hx=>List.mem_or_eq_of_mem_set hx;refine⟨_,fE,⟨_,clock,since,seen,c0,heap_setBlock_same hb _,F',by simpa using hs,by rw [DataW.put_eq,fH],(heap_setBlock_other hb _ fO).trans hr,fun x hx=>?_,zGo es seen j _ (fun _=>rfl),fun x hx=>?_,fun x0 fU=>?_,fQ,fR⟩,⟨es,clock,_,clock,hb,rfl⟩⟩
   · rw [fB] at hx;rcases who x hx with hx | rfl
     · exact fD x hx
     · exact fD e0 fJ
   · rw [fB] at hx;rcases who x hx with hx | rfl
     · exact fL x hx
     · rw [fG,←fF];exact fL e0 fJ
   · obtain⟨x,hx,rfl⟩:=fP x0 fU;rw [fB];obtain⟨i,hi⟩:=List.getElem?_of_mem hx;by_cases fN:i=j
     · subst fN;rw [h2] at hi;injection hi with hi;subst hi;exact⟨_,List.mem_iff_getElem?.2 ⟨i,by rw [List.getElem?_set_self (List.getElem?_eq_some_iff.1 h2).1]⟩,by rw [fG,fF]⟩
     · exact⟨x,List.mem_iff_getElem?.2 ⟨i,by rw [Ae (Ne.symm fN)];exact hi⟩,rfl⟩
def zAO (w:World) {α β:Type} (K:KE α) (V:β→Value) (k:TypeId) (b r n:Nat) (l:List (α×β)) (todo:α→Bool):Prop :=
 ∃ left cnt,w.ranges AH k rawR b r n (.map (zFo K V l)) left cnt∧(∀ a,left (K.enc a)=todo a)∧∀ kl,left kl=true→∃ p∈l,K.enc p.1=kl
section
variable {α β:Type} [DecidableEq α] {K:KE α} {V:β→Value} {k:TypeId} {b r n:Nat} {l:List (α×β)} {todo:α→Bool} {w w':World}
theorem zAO.owns (h:zAO w K V k b r n l todo):zAt w K V k b l:=by
 obtain⟨left,cnt,h,_⟩:=h;exact zCF h.owns rfl
theorem zAO.ne (h:zAO w K V k b r n l todo):r≠b:=have _:=(inferInstance:DecidableEq α);let ⟨_,_,h,_⟩:=h;h.ne
theorem zAO.lt (h:zAO w K V k b r n l todo):r<w.heap.size:=have _:=(inferInstance:DecidableEq α);let ⟨_,_,h,_⟩:=h;h.lt
theorem zAO.chg {S:Nat→Prop} (h:zAO w K V k b r n l todo) (hc:Chg S w w') (hb:¬S b) (hr:¬S r):zAO w' K V k b r n l todo:=by
 have _:=(inferInstance:DecidableEq α);obtain⟨left,cnt,h,hl⟩:=h;have h1:=h.owns.lt;have h2:=h.lt;obtain⟨es,clock,since,seen,c0,fA,F,hs,hD,fB,rest⟩:=h;exact⟨left,cnt,⟨es,clock,since,seen,c0,(hc.block b h1 hb).trans fA,F,hs,hD,(hc.block r h2 hr).trans fB,rest⟩,hl⟩
theorem zBk {S:Nat→Prop} (hc:Chg S w w') (h1:b<w.heap.size) (h2:r<w.heap.size) (hb:¬S b) (hr:¬S r):w'.rangeLeft b r=w.rangeLeft b r:=by
 unfold World.rangeLeft;rw [hc.block b h1 hb,hc.block r h2 hr]
theorem has_mem (K:KE α) (V:β→Value) (l:List (α×β)) (kl:Lit) (h:Maps.has (.map (zFo K V l)) kl=true):∃ p∈l,K.enc p.1=kl:=by
 have _:=(inferInstance:DecidableEq α);unfold Maps.has at h;obtain⟨p,hp,fA⟩:=AA.1 h;obtain⟨q,hq,rfl⟩:=AB.1 hp;exact⟨q,hq,WideAt.sameKey_eq fA⟩
theorem zAt.range {t e:TypeId} (h:zAt w K V k b l) (hk:Keyed AH k) (ht:Tryz.prog.underlying t=some (.map k e)) :
 ∃ w',(Instr.range t (.map (some b))).run AH w=.ok (.pointer (some ⟨w.heap.size,0,none⟩)) w'∧zAO w' K V k b w.heap.size l.length l (fun a=>(zAe a l).isSome)∧Below w.heap.size w w'∧w'.heap.size=w.heap.size+1:=by
 obtain⟨w',fA,hr,hg,hs⟩:=World.ownsMap.range h hk ht;refine⟨w',fA,⟨_,_,hr,fun a=>zEw K V a l,has_mem K V l⟩,br.grown hg nr (fun j hj=>by cases hj),hs⟩
theorem zAO.next (h:zAO w K V k b r n l todo) (hk:Keyed AH k) (fD:∀ key a,keyOf AH k key=some (K.enc a)→key=K.val a) (ty:TypeId) :
 ((∀ a,todo a=false)∧(AU (.pointer (some ⟨r,0,none⟩)) false ty).run AH w=.ok (.tuple #[.bool false]) w) ∨
 ∃ a v w',todo a=true∧zAe a l=some v∧(AU (.pointer (some ⟨r,0,none⟩)) false ty).run AH w=.ok (.tuple #[.bool true,K.val a,V v]) w' ∧
  zAO w' K V k b r n l (fun x=>todo x && decide (x≠a))∧w'.rangeLeft b r<w.rangeLeft b r∧Chg (fun c=>c=r) w w'∧w'.heap.size=w.heap.size ∧
  (Instr.entry (.pointer (some ⟨r,0,none⟩))).run AH w'=.ok (.tuple #[K.val a,V v]) w'∧keyOf AH k (K.val a)=some (K.enc a):=by
 obtain⟨left,cnt,h,hl,fE⟩:=h;rcases h.next hk ty with ⟨_,h0,fA⟩ | ⟨key,v,kl,y,w',cnt',fB,fF,hv,hat,fA,hrg,hlt,hg,hs,fG⟩
 · exact .inl ⟨fun a=>by rw [←hl];exact h0 _,fA⟩
 · obtain⟨p,hp,rfl⟩:=fE kl fF;obtain rfl:=fD _ _ fB
   have fC:∃ u,zAe p.1 l=some u:=by
    cases hg:zAe p.1 l with
    | some u=>exact⟨u,rfl⟩
    | none=>exact absurd rfl (zA7.1 hg p hp)
   obtain⟨u,hu⟩:=fC
   have fH:v=V u:=by
    have h1:=hat (.held v);rw [zIp,hu,zGt (show rawR v=some (y.1,y.2) from hv)] at h1;exact (zGy (by simpa using h1)).symm
   subst fH;refine .inr ⟨p.1,u,w',by rw [←hl];exact fF,hu,fA,⟨_,cnt',hrg,fun a=>?_,fun kl' h'=>?_⟩,?_,(Aa _ w).grown hg (fun g e _=>(Option.some.inj e).symm),hs,fG,fB⟩
   · show (left (K.enc a) && !(K.enc a).sameKey (K.enc p.1))=_
     rw [hl,zDG];by_cases e:a=p.1<;>simp [e]
   · simp only [AS] at h';exact fE kl' h'.1
   · rw [hrg.left_eq,h.left_eq];exact hlt
theorem zAO.drop {t e:TypeId} (h:zAO w K V k b r n l todo) (hk:Keyed AH k) (ht:Tryz.prog.underlying t=some (.map k e)) {a:α} (fA:keyOf AH k (K.val a)=some (K.enc a)) (ty:TypeId) :
 ∃ w',(Builtin.delete_ #[t,k] ty #[.map (some b),K.val a]).run AH w=.ok (.tuple #[]) w'∧zAO w' K V k b r n (zBB a l) (fun x=>todo x && decide (x≠a))∧w'.rangeLeft b r≤w.rangeLeft b r∧w.mapTurned w' b:=by
 obtain⟨left,cnt,h,hl,fD⟩:=h;obtain⟨w',cnt',fB,fC,fE,fF⟩:=h.drop hk ht fA ty;rw [zGs] at fC;refine⟨w',fB,⟨_,cnt',fC,fun x=>?_,fun kl' h'=>?_⟩,?_,fF⟩
 · show (left (K.enc x) && !(K.enc x).sameKey (K.enc a))=_
   rw [hl,zDG];by_cases e:x=a<;>simp [e]
 · simp only [AS,Bool.not_eq_true'] at h';obtain⟨p,hp,rfl⟩:=fD kl' h'.1;refine⟨p,zBG.2 ⟨hp,fun e=>?_⟩,rfl⟩;rw [e,(K.same_iff a a).2 rfl] at h';exact absurd h'.2 (by simp)
 · rw [fC.left_eq,h.left_eq];exact fE
theorem zAO.store {t e:TypeId} (h:zAO w K V k b r n l todo) (hk:Keyed AH k) (ht:Tryz.prog.underlying t=some (.map k e)) {a:α} {u0 u:β} (fA:keyOf AH k (K.val a)=some (K.enc a)) (fB:zAe a l=some u0) (hn:n<maxLen) :
 ∃ w',(AT t (.map (some b)) (K.val a) (V u)).run AH w=.ok () w'∧zAO w' K V k b r n (zA2 K a u l) todo∧w'.rangeLeft b r≤w.rangeLeft b r∧w.mapTurned w' b:=by
 obtain⟨left,cnt,h,hl,fE⟩:=h;obtain⟨w',fC,fD,fF⟩:=zGW h hk ht fA (val:=V u) (d:=.held (V u)) (ps:=[]) rfl (by rw [zEw,fB];rfl) hn;rw [zIK] at fD;refine⟨w',fC,⟨_,cnt,fD,hl,fun kl' h'=>?_⟩,?_,fF⟩
 · obtain⟨p,hp,rfl⟩:=fE kl' h';by_cases e:p.1=a
   · exact⟨(a,u),(zBj K).2 (.inl rfl),by rw [e]⟩
   · exact⟨p,(zBj K).2 (.inr ⟨hp,e⟩),rfl⟩
 · rw [fD.left_eq,h.left_eq];exact Nat.le_refl _
variable {ops:Array Oper} {rest:List Oper} {o:Oper} {c:Act} {Q:Exit→Act→World→Prop}
theorem zBE (w:World) (hg:o.guard=none) (m:Operand) (t:TypeId) (fB:o.op=Op.range t m) {e:TypeId} (hk:Keyed AH k) (ht:Tryz.prog.underlying t=some (.map k e)) (h:zAt w K V k b l) (hm:c.eval m=.map (some b))
 (hK:∀ w',zAO w' K V k b w.heap.size l.length l (fun a=>(zAe a l).isSome)→Below w.heap.size w w'→w'.heap.size=w.heap.size+1→wpList AH ops Q rest (c.put o.dst (.pointer (some ⟨w.heap.size,0,none⟩))) w'):wpList AH ops Q (o::rest) c w:=by
 refine AG hg fun K' fC=>?_;obtain⟨w',fA,r1,r2,r3⟩:=h.range hk ht;unfold Oper.wp
 simp [execOp,fB,hm,fA,AV]
 exact fC _ _ (hK w' r1 r2 r3)
theorem zBS (w:World) (hg:o.guard=none) (it:Operand) (fD:o.op=Op.next it false) (hk:Keyed AH k) (fC:∀ key a,keyOf AH k key=some (K.enc a)→key=K.val a) (fE:c.eval it=.pointer (some ⟨r,0,none⟩)) (h:zAO w K V k b r n l todo)
 (fA:(∀ a,todo a=false)→wpList AH ops Q rest (c.put o.dst (.tuple #[.bool false])) w)
 (fB:∀ a v w',todo a=true→zAe a l=some v→zAO w' K V k b r n l (fun x=>todo x && decide (x≠a))→w'.rangeLeft b r<w.rangeLeft b r→Chg (fun c=>c=r) w w'→w'.heap.size=w.heap.size →
  (Instr.entry (.pointer (some ⟨r,0,none⟩))).run AH w'=.ok (.tuple #[K.val a,V v]) w'→keyOf AH k (K.val a)=some (K.enc a)→wpList AH ops Q rest (c.put o.dst (.tuple #[.bool true,K.val a,V v])) w'):wpList AH ops Q (o::rest) c w:=by
 refine AG hg fun K' fF=>?_;unfold Oper.wp;rcases h.next hk fC o.type with ⟨h0,hrun⟩ | ⟨a,v,w',h1,h2,hrun,h3,h4,h5,h6,h7,h8⟩
 · simp [execOp,fD,fE,hrun,AV]
   exact fF _ _ (fA h0)
 · simp [execOp,fD,fE,hrun,AV]
   exact fF _ _ (fB a v w' h1 h2 h3 h4 h5 h6 h7 h8)
theorem zGP (w:World) (hg:o.guard=none) (m x:Operand) (t:TypeId) (fC:o.op=Op.call {callee:=Callee.builtin Builtin.delete,args:=#[m,x],argTypes:=#[t,k]}) {e:TypeId} (hk:Keyed AH k) (ht:Tryz.prog.underlying t=some (.map k e))
 (h:zAO w K V k b r n l todo) (hm:c.eval m=.map (some b)) (a:α) (hx:c.eval x=K.val a) (fA:keyOf AH k (K.val a)=some (K.enc a))
 (hK:∀ w',zAO w' K V k b r n (zBB a l) (fun x=>todo x && decide (x≠a))→w'.rangeLeft b r≤w.rangeLeft b r→w.mapTurned w' b→wpList AH ops Q rest (c.put o.dst (.tuple #[])) w'):wpList AH ops Q (o::rest) c w:=by
 refine AG hg fun K' fD=>?_;obtain⟨w',fB,r1,r2,r3⟩:=h.drop hk ht fA o.type;unfold Oper.wp
 simp [execOp,fC,resolve,invoke,builtin,hm,hx,fB,AV]
 exact fD _ _ (hK w' r1 r2 r3)
theorem zGR (w:World) (hg:o.guard=none) (m x v:Operand) (t:TypeId) (fD:o.op=Op.mapUpdate t m x v) {e:TypeId} (hk:Keyed AH k) (ht:Tryz.prog.underlying t=some (.map k e))
 (h:zAO w K V k b r n l todo) (hn:n<maxLen) (hm:c.eval m=.map (some b)) (a:α) (hx:c.eval x=K.val a) (fA:keyOf AH k (K.val a)=some (K.enc a)) (u0:β) (fB:zAe a l=some u0) (u:β) (hv:c.eval v=V u)
 (hK:∀ w',zAO w' K V k b r n (zA2 K a u l) todo→w'.rangeLeft b r≤w.rangeLeft b r→w.mapTurned w' b→wpList AH ops Q rest (c.put o.dst undef) w'):wpList AH ops Q (o::rest) c w:=by
 refine AG hg fun K' fE=>?_;obtain⟨w',fC,r1,r2,r3⟩:=h.store hk ht (u:=u) fA fB hn;unfold Oper.wp
 simp [execOp,fD,hm,hx,hv,fC,AV]
 exact fE _ _ (hK w' r1 r2 r3)
end
theorem natK_inv {k:TypeId} (hk:Tryz.prog.underlying k=some (.int .i64)) (key:Value) (a:Nat) (h:keyOf AH k key=some (zAG.enc a)):key=zAG.val a:=by
 obtain⟨x,rfl,e,_⟩:=Maps.keyOf_int_inv hk h;simp only [zAG,Lit.int.injEq] at e ⊢;rw [e.2]
theorem strK_inv {k:TypeId} (hk:Tryz.prog.underlying k=some .string) (key:Value) (a:ByteArray) (h:keyOf AH k key=some (zAV.enc a)):key=zAV.val a:=by
 cases key<;>simp [keyOf,hk,mapKey] at h;rename_i s;have:=h.2;simp only [zAV,Lit.string.injEq] at this;rw [zGB this];rfl
structure PN where
 dir:Bool
 links:Nat
 size:Nat
 made:Nat
 data:List (Nat×List UInt8)
 slots:List ByteArray
 names:List (ByteArray×Nat)
structure PT where
 sectors:Nat
 inodes:Nat
 nodes:List (Nat×PN)
def PN.kind (n:PN):Int:=if n.dir then 2 else 1
def tab (k:Nat) (z:Int):Bool:=if 44≤k then z==-2 || z==(((k-44) / 32:Nat):Int) else if 12≤k then z==-1 else false
def zDr:List Int:=-2::-1::(Ag 32).map Int.ofNat
def zCh (ks:List Nat):Nat:=(zDr.filter fun z=>ks.any fun k=>tab k z).length
def zDw (ks:List Nat):Nat:=ks.length+zCh ks
def PN.keys (n:PN):List Nat:=n.data.map (·.1)++Ag n.slots.length
def PN.count (n:PN):Nat:=zDw n.keys
def PT.used (T:PT):Nat:=(T.nodes.map fun p=>p.2.count).sum
theorem zIv {k:Nat} (hk:k≤1067) {z:Int} (h:tab k z=true):z∈zDr:=by
 unfold tab at h
 split at h
 · simp only [Bool.or_eq_true,beq_iff_eq] at h;rcases h with rfl | rfl
   · simp [zDr]
   · simp only [zDr,Au,AB,Ah];exact .inr (.inr ⟨(k-44) / 32,by omega,rfl⟩)
 · split at h
   · simp only [beq_iff_eq] at h;subst h;simp [zDr]
   · cases h
theorem zGx:zDr.Nodup:=by decide
theorem zHv (ks:List Nat):zCh ks≤34:=by
 unfold zCh;exact AN (List.length_filter_le _ _) (by decide)
theorem zAB {α:Type} [DecidableEq α]:∀ {l1 l2:List α},l1.Nodup→(∀ a∈l1,a∈l2)→l1.length≤l2.length
 | [],_,_,_=>AM _
 | a::r,l2,hn,hs=>by
  obtain⟨h1,h2⟩:=List.nodup_cons.1 hn;have ha:=hs a Ao
  have:=zAB (l2:=l2.erase a) h2 fun b hb=>by
   have fA:b≠a:=fun e=>h1 (by rw [←e];exact hb);rw [List.mem_erase_of_ne fA];exact hs b (Aq _ hb)
  rw [List.length_erase_of_mem ha] at this;have hp:=List.length_pos_of_mem ha;simp only [Ar];omega
theorem zCx {α:Type} [DecidableEq α] {l1 l2:List α} (h1:l1.Nodup) (h2:l2.Nodup) (h:∀ a,a∈l1↔a∈l2):l1.length=l2.length :=
 Nat.le_antisymm (zAB h1 fun a=>(h a).1) (zAB h2 fun a=>(h a).2)
def zEm (k:Nat) (tl:List (Int×Unit)):List (Int×Unit) :=
 if 44≤k then zA2 zIE ((((k-44) / 32:Nat)):Int) () (zA2 zIE (-2) () tl) else if 12≤k then zA2 zIE (-1) () tl else tl
theorem zDf {α β:Type} [DecidableEq α] (K:KE α) (a z:α) (v:β) (l:List (α×β)):(zAe z (zA2 K a v l)).isSome=(decide (z=a) || (zAe z l).isSome):=by
 by_cases h:z=a
 · subst h;rw [zAr];simp
 · rw [zAi K v h];simp [h]
theorem zHQ (a b:Int):(a==b)=decide (a=b):=by
 by_cases h:a=b<;>simp [h]
theorem zIf (k:Nat) (tl:List (Int×Unit)) (z:Int):(zAe z (zEm k tl)).isSome=(tab k z || (zAe z tl).isSome):=by
 unfold zEm tab
 split
 · rw [zDf,zDf];simp only [zHQ];cases decide (z=(((k-44) / 32:Nat):Int))<;>cases decide (z=-2)<;>rfl
 · split
   · rw [zDf];simp only [zHQ]
   · rfl
def zBU (tl:List (Int×Unit)) (ks:List Nat):Prop:=∀ z,(zAe z tl).isSome=ks.any fun k=>tab k z
theorem zBU.nil:zBU [] []:=fun _=>rfl
theorem zBU.snoc {tl:List (Int×Unit)} {ks:List Nat} (h:zBU tl ks) (k:Nat):zBU (zEm k tl) (ks++[k]):=fun z=>by
 rw [zIf,h z,List.any_append];simp only [List.any_cons,List.any_nil,Bool.or_false];rw [Bool.or_comm]
theorem zBU.len {tl:List (Int×Unit)} {ks:List Nat} (h:zBU tl ks) (hr:zBo zIE tl) (hk:∀ k∈ks,k≤1067):tl.length=zCh ks:=by
 have h1:(tl.map (·.1)).Nodup:=by rw [List.Nodup,Ay];exact hr.nd
 rw [←Az (f:=(·.1)),zCh];refine zCx h1 (zGx.filter _) fun z=>?_;have hz:=h z;rw [List.mem_filter]
 constructor
 · intro hm;obtain⟨p,hp,rfl⟩:=AB.1 hm;rw [zAU hr.nd hp] at hz;have fA:=hz.symm;simp only [Option.isSome_some] at fA;obtain⟨k,fB,fC⟩:=AA.1 fA;exact⟨zIv (hk k fB) fC,fA⟩
 · rintro ⟨-,hm⟩;rw [hm] at hz
   cases hg:zAe z tl with
   | none=>rw [hg] at hz;cases hz
   | some u=>exact AB.2 ⟨(z,u),zAf hg,rfl⟩
theorem zIu {a b:List Nat} (h:∀ k,k∈a↔k∈b):zCh a=zCh b:=by
 unfold zCh
 congr 1
 refine Ax fun z _=>?_;rw [Bool.eq_iff_iff,AA,AA];exact⟨fun⟨k,hk,hz⟩=>⟨k,(h k).1 hk,hz⟩,fun⟨k,hk,hz⟩=>⟨k,(h k).2 hk,hz⟩⟩
theorem sum_perm {l1 l2:List Nat} (h:l1.Perm l2):l1.sum=l2.sum:=by
 induction h with
 | nil=>rfl
 | cons x _ ih=>simp [ih]
 | swap x y l=>simp only [List.sum_cons];omega
 | trans _ _ ih1 ih2=>exact ih1.trans ih2
theorem zDy {α β γ:Type} [DecidableEq α] (f:α→β→γ) (a:α):∀ l:List (α×β),zAe a (l.map fun x=>(x.1,f x.1 x.2))=(zAe a l).map (f a)
 | []=>rfl
 | y::r=>by
  simp only [As,zAe]
  split
  · rename_i h;subst h;rfl
  · exact zDy f a r
theorem zEF {α β:Type} [DecidableEq α] {K:KE α} {l:List (α×β)} (h:zBo K l):(l.map (·.1)).Nodup:=by
 rw [List.Nodup,Ay];exact h.nd
theorem zD0 {α β:Type} [DecidableEq α] {a:α} {l:List (α×β)}:a∈l.map (·.1)↔(zAe a l).isSome=true:=by
 rw [AB]
 constructor
 · rintro ⟨p,hp,rfl⟩
   cases hg:zAe p.1 l with
   | none=>exact absurd rfl (zA7.1 hg p hp)
   | some u=>rfl
 · intro h
   cases hg:zAe a l with
   | none=>rw [hg] at h;cases h
   | some u=>exact⟨_,zAf hg,rfl⟩
structure PN.Ok (n:PN):Prop where
 keys:∀ p∈n.data,p.1≤1067
 dlen:n.data.length≤1068
 secs:∀ p∈n.data,p.2.length=128
 slots:n.slots.length≤1068
 links:n.links≤100
 size:n.size≤136704
 made:n.made≤1099511627776
 nm:∀ p∈n.names,p.1.size≤40∧p.2≤512
 nlen:n.names.length≤n.slots.length
 dd:n.dir=true→n.data=[]
 df:n.dir=false→n.slots=[]∧n.names=[]
 nris:zBo zAV n.names
 dris:zBo zAG n.data
structure PT.Ok (T:PT):Prop where
 ris:zBo zAG T.nodes
 node:∀ p∈T.nodes,p.2.Ok∧1≤p.1∧p.1≤T.inodes
 ino:T.inodes≤512
 s8:8≤T.sectors
 sec:T.sectors≤4096
theorem cntK_le (ks:List Nat):zDw ks≤ks.length+34:=by
 have:=zHv ks;unfold zDw;omega
theorem PN.Ok.count {n:PN} (h:n.Ok):n.count≤2200:=by
 have h1:=cntK_le n.keys
 have h2:n.keys.length=n.data.length+n.slots.length:=by simp [PN.keys]
 have h3:=h.dlen;have h4:=h.slots;unfold PN.count;omega
theorem PT.Ok.len {T:PT} (h:T.Ok):T.nodes.length≤512:=by
 have e:(T.nodes.map (·.1)).length=T.nodes.length:=Az _;rw [←e];refine AN (zAB (l2:=(Ag 512).map (· + 1)) (zEF h.ris) fun a ha=>?_) (by simp);obtain⟨p,hp,rfl⟩:=AB.1 ha;have h1:=(h.node p hp).2;have h2:=h.ino;exact AB.2 ⟨p.1-1,Ah.2 (by omega),by omega⟩
theorem sum_le {l:List Nat} {k:Nat} (h:∀ x∈l,x≤k):l.sum≤l.length * k:=by
 induction l with
 | nil=>simp
 | cons x r ih =>
  have h1:=h x Ao;have h2:=ih fun y hy=>h y (Aq _ hy);simp only [List.sum_cons,Ar,Nat.add_mul];omega
theorem PT.Ok.used {T:PT} (h:T.Ok):T.used≤1126400:=by
 have h1:T.used≤(T.nodes.map fun p=>p.2.count).length * 2200:=sum_le fun x hx=>by
  obtain⟨p,hp,rfl⟩:=AB.1 hx;exact (h.node p hp).1.count
 rw [Az] at h1;have:=h.len;omega
def PT.countAt (T:PT) (i:Nat):Nat:=match zAe i T.nodes with | some n=>n.count | none=>0
theorem PT.used_of {T:PT} (hr:zBo zAG T.nodes) {ks:List Nat} (hn:ks.Nodup) (h:∀ k,k∈ks↔(zAe k T.nodes).isSome=true):(ks.map T.countAt).sum=T.used:=by
 have hp:ks.Perm (T.nodes.map (·.1)):=(List.perm_ext_iff_of_nodup hn (zEF hr)).2 fun a=>by rw [h,zD0]
 rw [sum_perm (hp.map T.countAt),List.map_map];unfold PT.used
 congr 1
 refine List.map_congr_left fun p hp=>?_;simp only [Function.comp_def,PT.countAt,zAU hr.nd hp]
end Go.Proofs.YtolpcfhfcdkokaaGreatDoor
