/- Joined out of ReadLaw..SRd. -/
import Derived.Test.YtolpcfhfcdkokaaGreatDoorR12
set_option maxHeartbeats 16000000
set_option maxRecDepth 100000
set_option linter.unusedSimpArgs false
set_option linter.unusedVariables false
namespace Go.Proofs.YtolpcfhfcdkokaaGreatDoor
open Lib (hid)
open List renaming flatMap_cons → Aa,length_append → Ab,length_cons → Ac,length_nil → Ad,flatMap_append → Ae,getElem_of_mem → Af,length_singleton → Ag,getElem?_eq_getElem → Ah,getElem?_cons_succ → Ai,getElem?_cons_zero → Aj,getElem_mem → Ak,map_cons → Al,take_succ_eq_append_getElem → Am,mem_append → An,mem_singleton → Ao,length_take → Ap,getElem?_eq_some_iff → Aq,length_map → Ar,append_nil → As,size_toArray → At,getElem_map → Au,nil_append → Av
open Nat renaming lt_or_ge → Aw,le_refl → Ax,zero_le → Ay,lt_of_lt_of_le → Az,zero_add → AA
open World renaming ownsRow_nil → AB,block_lt_of_cell? → AC
open Sees renaming of_own → AD,nil → AE
open Proofs.Tryz renaming prog → AF,underlying67 → AG,underlying187 → AH,underlying130 → AI,underlying65 → AJ,underlying28 → AK,underlying123 → AL,zeroCells187 → AM,underlying64 → AN
open Chg renaming refl → AO,of_fresh → AP
open Blk renaming new → AQ
open Code renaming wp → AR
open Go renaming setRow_heap → AS,bodyPost_ret → AT,info_parts → AU,wpList_load_mid → AV,wpList_load_row → AW,wpList_store_row → AX,wp_load_row → AY
open RowKit.Below renaming refl → AZ
open World.ownsRow renaming lt → B0
open Lib renaming toList_data → B1
open Go.RowKit
def s1 (o:Option (List UInt8)):Option (List UInt8):=numO 1 2 o
def s2 (o:Option (List UInt8)):Option (List UInt8):=numO 8 1099511627776 (s1 o)
def s3 (o:Option (List UInt8)):Option (List UInt8):=numO 4 400 (s2 o)
def s4 (o:Option (List UInt8)):Option (List UInt8):=takeO (numX 4 400 (s2 o)) (s3 o)
def s5 (o:Option (List UInt8)):Option (List UInt8):=numO 4 400 (s4 o)
def s6 (o:Option (List UInt8)):Option (List UInt8):=takeO (numX 4 400 (s4 o)) (s5 o)
def s7 (o:Option (List UInt8)):Option (List UInt8):=numO 4 136704 (s6 o)
def s8 (o:Option (List UInt8)):Option (List UInt8):=takeO (numX 4 136704 (s6 o)) (s7 o)
def zCN (x:Nd):List Value:=[.string x.path,.int .i64 x.kind,.int .i64 x.made,.string x.same,.slice x.dA x.data.length x.dc]
def ncs (l:List Nd):List Value:=l.flatMap zCN
def ndV (x:Nd):Value:=.slice x.dA x.data.length x.dc
theorem zFB (l:List Nd):(ncs l).length=l.length * 5:=by
 induction l with
 | nil=>rfl
 | cons x l ih =>
  simp only [ncs,Aa,Ab,Ac] at *;rw [ih];simp only [zCN,Ac,Ad];omega
theorem zJ2 (a b:List Nd):ncs (a++b)=ncs a++ncs b:=by unfold ncs;rw [Ae]
theorem ncs_snoc (a:List Nd) (x:Nd):ncs (a++[x])=ncs a++zCN x:=by rw [zJ2];simp [ncs]
theorem zIc:∀ (l:List Nd) (i:Nat) (h:i<l.length) (k:Nat),k<5→(ncs l)[i * 5+k]? = (zCN l[i])[k]?:=by
 intro l
 induction l with
 | nil=>intro i h;exact absurd h (by simp)
 | cons x l ih =>
  intro i h k hk;have e:ncs (x::l)=zCN x++ncs l:=rfl;have h5:(zCN x).length=5:=rfl;rw [e]
  cases i with
  | zero=>rw [List.getElem?_append_left (by omega)];simp
  | succ i =>
   rw [List.getElem?_append_right (by omega),h5,show (i+1) * 5+k-5=i * 5+k by omega,ih i (by simpa using h) k hk];simp
section
variable {w w1:World} {B:Nat} {A:Option Addr} {l:List Nd}
theorem NodesAt.sees (h:NodesAt w B A l):Sees w B 5 A l.length (ncs l) :=
 ⟨zFB l,fun hn=>by
  obtain⟨b,off,e,hb,hc⟩:=h.at_ hn;refine⟨b,off,e,hb,fun j u hu=>?_⟩
  have hj:j<l.length * 5:=by
   rcases Aw j (l.length * 5) with h | h
   · exact h
   · rw [List.getElem?_eq_none (by rw [zFB];exact h)] at hu;cases hu
  have hi:j / 5<l.length:=by omega
  obtain⟨c0,c1,c2,c3,c4⟩:=hc (j / 5) hi;have hg:=zIc l (j / 5) hi (j % 5) (by omega);rw [show j / 5 * 5+j % 5=j by omega,hu] at hg
  have hm:j % 5=0∨j % 5=1∨j % 5=2∨j % 5=3∨j % 5=4:=by omega
  rcases hm with m | m | m | m | m<;>rw [m] at hg<;>injection hg with hg<;>subst hg
  · rw [show off+j=off+j / 5 * 5 by omega];exact c0
  · rw [show off+j=off+j / 5 * 5+1 by omega];exact c1
  · rw [show off+j=off+j / 5 * 5+2 by omega];exact c2
  · rw [show off+j=off+j / 5 * 5+3 by omega];exact c3
  · rw [show off+j=off+j / 5 * 5+4 by omega];exact c4⟩
theorem zGg (h:Sees w B 5 A l.length (ncs l)) (hd:∀ x∈l,Sees w B 1 x.dA x.data.length (bvs x.data)):NodesAt w B A l :=
 ⟨fun hn=>by
  obtain⟨b,off,e,hb,hc⟩:=h.at_ hn;refine⟨b,off,e,hb,fun i hi=>?_⟩;have go:∀ k u,k<5→(zCN l[i])[k]? = some u→w.cell? ⟨b,off+(i * 5+k),none⟩=some u:=fun k u hk hu=>hc (i * 5+k) u ((zIc l i hi k hk).trans hu);exact⟨go 0 _ (by omega) rfl,go 1 _ (by omega) rfl,go 2 _ (by omega) rfl,go 3 _ (by omega) rfl,go 4 _ (by omega) rfl⟩,hd⟩
end
structure OwnN (w:World) (B:Nat) (v:Value) (l:List Nd):Prop where
 row:w.ownsRow B 75 5 v l.length (ncs l)
 data:∀ i (h:i<l.length),w.ownsRow B 5 1 (ndV l[i]) l[i].data.length (bvs l[i].data)
 apart:∀ i j (hi:i<l.length) (hj:j<l.length) g,i≠j→(ndV l[i]).ownBlock=some g→(ndV l[j]).ownBlock≠some g
 aside:∀ i (h:i<l.length) g,v.ownBlock=some g→(ndV l[i]).ownBlock≠some g
theorem OwnN.nil (w:World) (B:Nat):OwnN w B (.slice none 0 0) [] :=
 ⟨AB _ _ _ _,fun i h=>absurd h (by simp),fun i j h=>absurd h (by simp),fun i h=>absurd h (by simp)⟩
theorem OwnN.chg {S:Nat→Prop} {w w1:World} {B:Nat} {v:Value} {l:List Nd} (h:OwnN w B v l) (hc:Chg S w w1) (hS:∀ b,B≤b→¬S b):OwnN w1 B v l :=
 ⟨zAy h.row hc fun g hg=>hS g (h.row.lt g hg).1,fun i hi=>zAy (h.data i hi) hc fun g hg=>hS g ((h.data i hi).lt g hg).1,h.apart,h.aside⟩
theorem OwnN.fresh {w w1:World} {B:Nat} {v:Value} {l:List Nd} (h:OwnN w B v l) (hc:Below w.heap.size w w1):OwnN w1 B v l :=
 ⟨zAC h.row hc,fun i hi=>zAC (h.data i hi) hc,h.apart,h.aside⟩
theorem OwnN.nodes {w:World} {B:Nat} {v:Value} {l:List Nd} (h:OwnN w B v l):∃ A c,v=.slice A l.length c∧NodesAt w w.heap.size A l:=by
 obtain⟨A,c,e,hs⟩:=AD (B:=w.heap.size) h.row fun g hg=>(h.row.lt g hg).2;refine⟨A,c,e,zGg hs fun x hx=>?_⟩;obtain⟨i,hi,rfl⟩:=Af hx;obtain⟨A',c',e',fA⟩:=AD (B:=w.heap.size) (h.data i hi) fun g hg=>((h.data i hi).lt g hg).2;unfold ndV at e';injection e' with e1 e2 e3;rw [e1];exact fA
theorem OwnN.step {S:Nat→Prop} {w w1 w2:World} {B:Nat} {v v':Value} {l:List Nd} {x:Nd} (h:OwnN w B v l) (hc:Chg S w w1) (hS:∀ b,B≤b→¬S b) (hB:B≤w.heap.size)
 (hd:w1.ownsRow w.heap.size 5 1 (ndV x) x.data.length (bvs x.data)) (fE:w2.ownsRow B 75 5 v' (l.length+1) (ncs l++zCN x)) (hg:Grows w1 v w2 v'):OwnN w2 B v' (l++[x]):=by
 have fL:=zAy h.row hc fun g hg=>hS g (h.row.lt g hg).1;have fI:∀ i (hi:i<l.length),w1.ownsRow B 5 1 (ndV l[i]) l[i].data.length (bvs l[i].data):=fun i hi=>zAy (h.data i hi) hc fun g hg=>hS g ((h.data i hi).lt g hg).1;have fF:∀ i (hi:i<l.length) g,(ndV l[i]).ownBlock=some g→g<w.heap.size:=fun i hi g hg=>((h.data i hi).lt g hg).2
 have fG:∀ g,v.ownBlock=some g→(ndV x).ownBlock≠some g:=fun g hv hx=>by
  have h1:=(h.row.lt g hv).2;have h2:=(hd.lt g hx).1;omega
 have fJ:∀ i (hi:i<l.length),w2.ownsRow B 5 1 (ndV l[i]) l[i].data.length (bvs l[i].data):=fun i hi=>zAy (fI i hi) hg.chg fun g fC hv=>h.aside i hi g hv fC;have fH:w2.ownsRow w.heap.size 5 1 (ndV x) x.data.length (bvs x.data):=zAy hd hg.chg fun g hx hv=>fG g hv hx;have fB:∀ i (hi:i<l.length) (fC:i<(l++[x]).length),(l++[x])[i]=l[i]:=fun i hi fC=>List.getElem_append_left hi
 have fA:∀ (fC:l.length<(l++[x]).length),(l++[x])[l.length]=x:=fun fC=>by simp
 refine⟨by rw [ncs_snoc];simpa using fE,fun i hi=>?_,fun i j hi hj g fK fD=>?_,fun i hi g hv=>?_⟩
 · rcases Aw i l.length with h1 | h1
   · rw [fB i h1];exact fJ i h1
   · obtain rfl:i=l.length:=by rw [Ab,Ag] at hi;omega
     rw [fA];exact zBY fH fun g hg=>by have:=(fH.lt g hg).1;omega
 · rw [Ab,Ag] at hi hj;rcases Aw i l.length with h1 | h1
   · rw [fB i h1] at fD;rcases Aw j l.length with h2 | h2
     · rw [fB j h2];exact h.apart i j h1 h2 g fK fD
     · obtain rfl:j=l.length:=by omega
       rw [fA];intro e;have h3:=(hd.lt g e).1;have h4:=fF i h1 g fD;omega
   · obtain rfl:i=l.length:=by omega
     rw [fA] at fD;have h3:=(hd.lt g fD).1
     have h2:j<l.length:=by omega
     rw [fB j h2];intro e;have h4:=fF j h2 g e;omega
 · rw [Ab,Ag] at hi;have fM:=hc.size;rcases Aw i l.length with h1 | h1
   · rw [fB i h1];intro e;rcases hg.at_ with e1 | ⟨g',e1,hg'⟩
     · rw [e1] at hv;exact h.aside i h1 g hv e
     · rw [e1] at hv;injection hv with hv;subst hv;have h4:=fF i h1 _ e;omega
   · obtain rfl:i=l.length:=by omega
     rw [fA];intro e;rcases hg.at_ with e1 | ⟨g',e1,hg'⟩
     · rw [e1] at hv;exact fG g hv e
     · rw [e1] at hv;injection hv with hv;subst hv;have h4:=(hd.lt _ e).2;omega
open Go.Proofs
def ifV (p:Nat):Value:=.iface 25 (.pointer (some ⟨p,0,none⟩))
theorem method_do (a:Addr) (w:World):(method 354 25 (.pointer (some a)) "Do").run AF w=.ok (24,.pointer (some a)) w:=by kernel_rfl
theorem blk_set10 {w:World} {g:Nat} {t:TypeId} {a0 a1 a2 a3 a4 a5 a6 a7 a8 a9:Value} (h:Blk w g t [a0,a1,a2,a3,a4,a5,a6,a7,a8,a9]) (v0 v1 v2 v3 v4 v5 v6 v7 v8 v9:Value) :
 Blk ((((((((((w.setCell ⟨g,0,none⟩ (v0)).setCell ⟨g,1,none⟩ (v1)).setCell ⟨g,2,none⟩ (v2)).setCell ⟨g,3,none⟩ (v3)).setCell ⟨g,4,none⟩ (v4)).setCell ⟨g,5,none⟩ (v5)).setCell ⟨g,6,none⟩ (v6)).setCell ⟨g,7,none⟩ (v7)).setCell ⟨g,8,none⟩ (v8)).setCell ⟨g,9,none⟩ (v9)) g t [v0,v1,v2,v3,v4,v5,v6,v7,v8,v9]:=(((((((((h.set_ 0 v0).set_ 1 v1).set_ 2 v2).set_ 3 v3).set_ 4 v4).set_ 5 v5).set_ 6 v6).set_ 7 v7).set_ 8 v8).set_ 9 v9
theorem zKx (w:World) (g:Nat) (v0 v1 v2 v3 v4 v5 v6 v7 v8 v9:Value):Chg (fun b=>b=g) w ((((((((((w.setCell ⟨g,0,none⟩ (v0)).setCell ⟨g,1,none⟩ (v1)).setCell ⟨g,2,none⟩ (v2)).setCell ⟨g,3,none⟩ (v3)).setCell ⟨g,4,none⟩ (v4)).setCell ⟨g,5,none⟩ (v5)).setCell ⟨g,6,none⟩ (v6)).setCell ⟨g,7,none⟩ (v7)).setCell ⟨g,8,none⟩ (v8)).setCell ⟨g,9,none⟩ (v9)) :=
 ((((((((((AO (fun b=>b=g) w).setCell (p:=⟨g,0,none⟩) (fun _=>rfl) v0).setCell (p:=⟨g,1,none⟩) (fun _=>rfl) v1).setCell (p:=⟨g,2,none⟩) (fun _=>rfl) v2).setCell (p:=⟨g,3,none⟩) (fun _=>rfl) v3).setCell (p:=⟨g,4,none⟩) (fun _=>rfl) v4).setCell (p:=⟨g,5,none⟩) (fun _=>rfl) v5).setCell (p:=⟨g,6,none⟩) (fun _=>rfl) v6).setCell (p:=⟨g,7,none⟩) (fun _=>rfl) v7).setCell (p:=⟨g,8,none⟩) (fun _=>rfl) v8).setCell (p:=⟨g,9,none⟩) (fun _=>rfl) v9
theorem Sees.chg1 {w w1:World} {B size n z:Nat} {A:Option Addr} {xs:List Value} (h:Sees w B size A n xs) (hs:0<size) {t:TypeId} {cs:List Value} (hz:Blk w z t cs) (hd:∀ u,xs[0]? = some u→∀ off:Nat,cs[off]?≠some u) (hc:Chg (fun b=>b=z) w w1):Sees w1 B size A n xs:=by
 refine⟨h.len,fun hn=>?_⟩;obtain⟨b,off,e,hb,fA⟩:=h.at_ hn
 have fB:b≠z:=fun e=>by
  subst e
  have hl:0<xs.length:=by rw [h.len];exact Nat.mul_pos hn hs
  have h0:xs[0]? = some xs[0]:=Ah hl;have h1:=fA 0 _ h0;rw [Nat.add_zero,hz.cell off] at h1;exact hd _ h0 off h1
 refine⟨b,off,e,hb,fun j u hu=>?_⟩;rw [←fA j u hu];exact hc.cell (p:=⟨b,off+j,none⟩) (AC _ _ (fA j u hu)) fB
theorem zBJ.chg1 {w w1:World} {v:Value} {a:Ans} (h:zBJ w v a) {z:Nat} (hz:Blk w z 67 zAk) (hC:Chg (fun b=>b=z) w w1):zBJ w1 v a:=by
 obtain⟨dA,dc,eA,ec,h1,h2,h3⟩:=h;refine⟨dA,dc,eA,ec,h1,(h2.chg1 (by decide) hz (fun u hu off e=>?_) hC).more hC.size,(h3.chg1 (by decide) hz (fun u hu off e=>?_) hC).more hC.size⟩
 · obtain⟨x,rfl⟩:=bvs_0 hu;rcases zEy e with ⟨_,_,e,e2⟩ | ⟨_,_,_,e⟩ | ⟨_,e⟩
   · cases e;cases e2
   · cases e
   · cases e
 · obtain⟨x,rfl⟩:=ent_0 hu;rcases zEy e with ⟨_,_,e,_⟩ | ⟨_,_,_,e⟩ | ⟨_,e⟩<;>cases e
theorem Blk.drew {w:World} {g:Nat} {t:TypeId} {cs:List Value} (h:Blk w g t cs):Blk w.drew g t cs:=h
def AskQ (a:Ans) (Pv:Value→Prop) (R:World→World→Prop) (w:World) (e:Ending) (w':World):Prop :=
 ∃ v w0 w1,e=.returned (.tuple #[v,.int .i64 (a.code:Int)])∧zBJ w' v a∧Pv v∧Below w.heap.size w w0∧R w0 w1∧Chg (fun b=>w.heap.size≤b∧b<w0.heap.size) w1 w'
theorem ask_gen (p:Nat) (o:Opn) (A:Option Addr) (c:Nat) (a:Ans) (Pv:Value→Prop) (R:World→World→Prop) (w:World) (hR:∀ W W',R W W'→W.heap.size≤W'.heap.size∧∀ b,w.heap.size≤b→b<W.heap.size→W'.heap[b]? = W.heap[b]?)
 (fB:∀ W,Below w.heap.size w W→Calls AF 24 #[.pointer (some ⟨p,0,none⟩),opV o A c] W fun e w'=>(∃ v,e=.returned v∧zBJ w' v a∧Pv v)∧R W w') :
 Calls AF 51 #[ifV p,opV o A c] w (AskQ a Pv R w):=by
 unfold opV opC ifV;have gD:=method_do;go_enter Tryz.func51,Tryz.ntmps51;go_upto_region 1 with (fail);have fJ:Blk ((w.alloc (.cells (opC o A c).toArray 70)).alloc (.cells zAk.toArray 67)) w.heap.size 70 (opC o A c):=(AQ w _ _).alloc _
 have fK:Blk ((w.alloc (.cells (opC o A c).toArray 70)).alloc (.cells zAk.toArray 67)) (w.heap.size+1) 67 zAk:=by
  have:=AQ (w.alloc (.cells (opC o A c).toArray 70)) 67 zAk;simpa using this
 have fF:Below w.heap.size w ((w.alloc (.cells (opC o A c).toArray 70)).alloc (.cells zAk.toArray 67)):=(br.alloc nr _).alloc (by simp) _
 have fY:((w.alloc (.cells (opC o A c).toArray 70)).alloc (.cells zAk.toArray 67)).heap.size=w.heap.size+2:=by simp
 change AR _ _ _ _ ((w.alloc (.cells (opC o A c).toArray 70)).alloc (.cells zAk.toArray 67));generalize (w.alloc (.cells (opC o A c).toArray 70)).alloc (.cells zAk.toArray 67)=w0 at *;have fL:=fB w0 fF;have fM:=hR w0;obtain⟨g,fG⟩:=nM (w.heap.size);rw [fG] at fJ fK fF fY fM;simp only [fG];have fR:=hid fG;have fZ:=hid fF;have gA:=hid fM;have yc:=fun j=>fJ.cell j;have y0:=yc 0;have y1:=yc 1;have y2:=yc 2;have y3:=yc 3;have y4:=yc 4;have y5:=yc 5;have y6:=yc 6;have y7:=yc 7;simp only [opC,Ai,Aj] at y0 y1 y2 y3 y4 y5 y6 y7;unfold opV opC at fL;clear fG fF fM yc fJ fB hR
 go_upto_region 2 with (first
  | (go_at_call 24;refine fL.mono ?_;rintro e w4 ⟨⟨v,rfl,hA,fS⟩,fT⟩;have fN:=hid fS;clear fS;have fU:=hid hA;obtain⟨dA,dc,eA,ec,rfl,-,-⟩:=hA;have fD:=hid fT;have fO:=AQ w4 67 zAk;clear fT)
  | (refine stA a.code a.stat (.slice dA a.data.length dc) (.slice eA a.ents.length ec) fO rfl rfl rfl (by rfl) rfl rfl rfl ?_))
 have fV:Blk ((w4.alloc (.cells zAk.toArray 67)).setRow w4.heap.size (zAq a.code a.stat (.slice dA a.data.length dc) (.slice eA a.ents.length ec)).toArray) w4.heap.size 67 (zAq a.code a.stat (.slice dA a.data.length dc) (.slice eA a.ents.length ec)):=AS (w4.alloc (.cells zAk.toArray 67)) w4.heap.size _ (zAq a.code a.stat (.slice dA a.data.length dc) (.slice eA a.ents.length ec)).toArray _ _ fO
 have fH:Below w4.heap.size w4 ((w4.alloc (.cells zAk.toArray 67)).setRow w4.heap.size (zAq a.code a.stat (.slice dA a.data.length dc) (.slice eA a.ents.length ec)).toArray):=((AO (fun b=>w4.heap.size≤b) w4).alloc _ |>.setRow (fun _=>Ax _) _).below nr fun b hb e=>by omega
 have fC:=gA.o w4 fD.o;have gB:w0.heap.size≤w4.heap.size:=fC.1;have fW:Blk w4 (g+1) 67 zAk:=(fC.2 (g+1) (by omega) (by omega)).trans fK;have fA:=fW.fresh fH;have gC:=hid (fU.o.fresh fH);have fP:=hid fH;clear fO fH fU fL fW fK fC;change AR _ _ _ _ ((w4.alloc (.cells zAk.toArray 67)).setRow w4.heap.size (zAq a.code a.stat (.slice dA a.data.length dc) (.slice eA a.ents.length ec)).toArray);generalize (w4.alloc (.cells zAk.toArray 67)).setRow w4.heap.size (zAq a.code a.stat (.slice dA a.data.length dc) (.slice eA a.ents.length ec)).toArray=w5 at *;have xc:=fun j=>fV.cell j;have x0:=xc 0;have x1:=xc 1;have x2:=xc 2;have x3:=xc 3;have x4:=xc 4;have x5:=xc 5;have x6:=xc 6;have x7:=xc 7;have x8:=xc 8;have x9:=xc 9;simp only [zAq,Ai,Aj] at x0 x1 x2 x3 x4 x5 x6 x7 x8 x9;obtain⟨z,fI⟩:=nM (w4.heap.size);rw [fI] at x0 x1 x2 x3 x4 x5 x6 x7 x8 x9 gB;simp only [fI];have gE:=hid fI
 have gF:g+1<z:=by omega
 have f0:=fA.frozen 0;have f1:=fA.frozen 1;have f2:=fA.frozen 2;have f3:=fA.frozen 3;have f4:=fA.frozen 4;have f5:=fA.frozen 5;have f6:=fA.frozen 6;have f7:=fA.frozen 7;have f8:=fA.frozen 8;have f9:=fA.frozen 9;have q0:=fA.cell 0;have q1:=fA.cell 1;have q2:=fA.cell 2;have q3:=fA.cell 3;have q4:=fA.cell 4;have q5:=fA.cell 5;have q6:=fA.cell 6;have q7:=fA.cell 7;have q8:=fA.cell 8;have q9:=fA.cell 9;simp only [zAk,Ai,Aj] at q0 q1 q2 q3 q4 q5 q6 q7 q8 q9;have fE:=hid fA;clear xc fV y0 y1 y2 y3 y4 y5 y6 y7 fI fA
 go_frame
 go_region
 have fQ:=blk_set10 fE.o (.int .i64 (a.code:Int)) (.int .i64 a.stat.ino) (.int .i64 a.stat.kind) (.int .i64 a.stat.links) (.int .i64 a.stat.size) (.int .i64 a.stat.made) (.int .i64 a.stat.blocks) (.slice dA a.data.length dc) (.slice eA a.ents.length ec) (.bool false);have fX:=zKx w5 (g+1) (.int .i64 (a.code:Int)) (.int .i64 a.stat.ino) (.int .i64 a.stat.kind) (.int .i64 a.stat.links) (.int .i64 a.stat.size) (.int .i64 a.stat.made) (.int .i64 a.stat.blocks) (.slice dA a.data.length dc) (.slice eA a.ents.length ec) (.bool false);go_wp2;refine AT (zAz rfl _ _ (g+1) 67 (zAq a.code a.stat (.slice dA a.data.length dc) (.slice eA a.ents.length ec)).toArray (0,0) _ rfl fQ.drew AG rfl rfl) rfl ?_;refine⟨_,w0,w4,rfl,gC.o.chg1 fE.o fX.drew,fN.o,by rw [fR.o];exact fZ.o,fD.o,?_⟩;refine (AP fP.o).trans fX.drew (fun _ _ h=>h) fun b hb e=>?_;rw [fR.o];omega
def AskA (a:Ans) (w:World) (e:Ending) (w':World):Prop:=∃ v,e=.returned (.tuple #[v,.int .i64 (a.code:Int)])∧zBJ w' v a∧EntF w.heap.size v∧Below w.heap.size w w'
def AskT (own:Nat→Option Role) (p mb:Nat) (r:PT×Ans) (w:World) (e:Ending) (w':World):Prop:=∃ v,e=.returned (.tuple #[v,.int .i64 (r.2.code:Int)])∧zBJ w' v r.2∧zAv own p mb r.1 w w'
theorem ask_q (own:Nat→Option Role) (lay:Nat→NA) (p mb:Nat) (T:PT) (o:Opn) (A:Option Addr) (c:Nat) (m0:Int) (w:World) (h:PlainAt w own lay p mb T) (hT:T.Wf) (fA:o.kind=9∨o.kind=10∨o.kind=11) (hf:o.fine=true) (fB:o.off≤9223372036854775807∧-9223372036854775808≤o.off) (fC:o.len≤9223372036854775807∧-9223372036854775808≤o.len) (fD:o.path.size≤100000) (hm:w.cell? ⟨0,0,none⟩=some (.int .i64 m0)) :
 Calls AF 51 #[ifV p,opV o A c] w (AskA (T.run o).2 w):=by
 refine (ask_gen p o A c (T.run o).2 (EntF w.heap.size) (fun W W'=>Below W.heap.size W W') w (fun W W' h=>⟨h.size,fun b _ hb=>h.block b hb⟩) fun W hW=>?_).mono ?_
 · exact (qdo_any own lay p mb T o A c m0 W (h.fresh hW) hT fA hf fB fC fD ((hW.cell (p:=⟨0,0,none⟩) (AC _ _ hm)).trans hm)).mono fun e w' ⟨⟨v,h1,h2,h3⟩,h4⟩=>⟨⟨v,h1,h2,h3.mono hW.size⟩,h4⟩
 · rintro e w' ⟨v,w0,w1,h1,h2,hF,h3,h4,h5⟩;refine⟨v,h1,h2,hF,(h3.trans (h4.mono h3.size)).trans (h5.below (by have:=h3.size;have:=h4.size;omega) fun b hb e=>by omega)⟩
theorem zAv.after2 {w w0 w1 w2:World} {own:Nat→Option Role} {p mb:Nat} {T':PT} (h:zAv own p mb T' w0 w1) (hb:Below w.heap.size w w0) (fA:∀ b r,own b=some r→b<w.heap.size) (hc:Chg (fun b=>w.heap.size≤b∧b<w0.heap.size) w1 w2):zAv own p mb T' w w2:=by
 obtain⟨o,l,h1,h2,h3⟩:=h
 have ho:∀ z,w.heap.size≤z→z<w0.heap.size→o z=none:=fun z hz fB=>by
  cases e:o z with
  | none=>rfl
  | some r =>
   rcases h2.new z r e with e2 | e2
   · have:=fA z r e2;omega
   · omega
 exact⟨o,l,h1.chg hc fun b e=>ho b e.1 e.2,h2.back hb.size,((AP hb).trans h3 (fun _ _ h=>h) (fun _ _ h=>h)).trans hc (fun _ _ h=>h) (fun b hb e=>by omega)⟩
theorem OpAt.fresh {w w1:World} {o:Opn} {A:Option Addr} {c:Nat} (h:OpAt w w.heap.size o A c) (hb:Below w.heap.size w w1):OpAt w1 w1.heap.size o A c:=⟨(h.sees.below hb).more hb.size,h.cap,h.len,h.off,h.most,h.path,h.dst⟩
theorem ask_t (own:Nat→Option Role) (lay:Nat→NA) (p mb:Nat) (T:PT) (o:Opn) (A:Option Addr) (c:Nat) (m0:Int) (w:World) (h:PlainAt w own lay p mb T) (hT:T.Wf) (fA:OpAt w w.heap.size o A c) (hm:w.cell? ⟨0,0,none⟩=some (.int .i64 m0)) :
 Calls AF 51 #[ifV p,opV o A c] w (AskT own p mb (T.run o) w):=by
 refine (ask_gen p o A c (T.run o).2 (fun _=>True) (fun W W'=>w.heap.size≤W.heap.size∧zAv own p mb (T.run o).1 W W') w (fun W W' hh=>?_) fun W hW=>?_).mono ?_
 · obtain⟨_,o,l,h1,h2,h3⟩:=hh
   exact⟨h3.size,fun b hb fB=>h3.block b fB fun hn=>by
    cases e:o b with
    | none=>cases e2:own b with
     | none=>exact hn e2
     | some r=>have:=h.lt b r e2;omega
    | some r=>cases e2:own b with
     | none=>exact hn e2
     | some r=>have:=h.lt b r e2;omega⟩
 · exact (pdo_any own lay p mb T o A c m0 W (h.fresh hW) hT (fA.fresh hW) ((hW.cell (p:=⟨0,0,none⟩) (AC _ _ hm)).trans hm)).mono fun e w' ⟨⟨v,h1,h2⟩,h3⟩=>⟨⟨v,h1,h2,trivial⟩,hW.size,h3⟩
 · rintro e w' ⟨v,w0,w1,h1,h2,_,h3,⟨_,h4⟩,h5⟩;exact⟨v,h1,h2,h4.after2 h3 h.lt h5⟩
structure StM (w wk:World) (g:Nat) (t:Tr):Prop where
 st:StT w wk g t
 ab:Blk wk (g+2) 67 zAk
theorem stm_0 (w:World) (t:Tr):StM w (((w.alloc (.cells (zAa t).toArray 28)).alloc (.cells z4.toArray 28)).alloc (.cells zAk.toArray 67)) w.heap.size t:=by
 refine⟨(st_0 w t).fresh (br.alloc nr _),?_⟩;have:=AQ ((w.alloc (.cells (zAa t).toArray 28)).alloc (.cells z4.toArray 28)) 67 zAk;simpa using this
section
variable {w wk w':World} {g k:Nat} {t:Tr} {T:PT} {S:Nat→Prop}
theorem StM.le (h:StM w wk g t):g+3≤wk.heap.size:=h.ab.lt
theorem StM.fresh (h:StM w wk g t) (hb:Below wk.heap.size wk w'):StM w w' g t:=⟨h.st.fresh hb,h.ab.fresh hb⟩
theorem StM.chg {y:Nat} (h:StM w wk g t) (hc:Chg (fun b=>b=y) wk w') (hy:g+3≤y):StM w w' g t:=⟨h.st.chg hc (by omega),h.ab.chg hc (by omega)⟩
theorem Blk.row_far {w:World} {b r:Nat} {ty:TypeId} {cs:List Value} (h:Blk w b ty cs) (fA:b≠r) (x:Array Value):Blk (w.setRow r x) b ty cs:=h.chg ((AO (fun b=>b=r) w).setRow (fun _=>rfl) _) fA
theorem rat_any {W:World} (h:RefS S W t T) (ho:T.Ok) (i:Nat) :
 Calls AF 111 #[.agg (zAa t).toArray,.int .i64 (i:Int)] W fun e w'=>(∃ z:Int,e=.returned (.int .i64 z)∧decide (z≥0)=(zAe i T.nodes).isSome)∧Below W.heap.size W w':=by
 refine (at_any W.heap.size t (i:Int) W h.ref.tr nr (by have:=h.ref.len ho;omega)).mono ?_;rintro e w' ⟨h1,hb⟩;refine⟨?_,hb⟩;rcases h1 with ⟨k,hk,h2,-,rfl⟩ | ⟨hno,rfl⟩
 · refine⟨_,rfl,?_⟩;obtain⟨p,hp,hr⟩:=h.ref.rep.all.mem (Ak hk)
   have e2:p.1=i:=by have:=hr.ino;rw [h2] at this;omega
   rw [←e2,zAU ho.ris.nd hp];simp
 · refine⟨_,rfl,?_⟩
   cases hg:zAe i T.nodes with
   | none=>rfl
   | some n =>
    obtain⟨x,hx,hr⟩:=h.ref.rep.all.get hg;exact absurd hr.ino (hno x hx)
theorem RefS.births {W:World} (h:RefS S W t T) (b:Int):RefS S W {t with births:=b} T:=⟨⟨⟨h.ref.tr.row,h.ref.tr.hds⟩,⟨h.ref.rep.sec,h.ref.rep.ino,h.ref.rep.all,h.ref.rep.cap⟩⟩,h.oA,h.os⟩
def newH (i:Nat) (kd made b:Int):Hd:=⟨i,kd,1,0,made,b,none,0,[],none,0,[]⟩
theorem newH_v (i:Nat) (kd made b:Int):hdV (newH i kd made b)=.agg #[.int .i64 (i:Int),.int .i64 kd,.int .i64 1,.int .i64 0,.int .i64 made,.int .i64 b,.slice none 0 0,.slice none 0 0]:=rfl
theorem new_rep (S:Nat→Prop) (W:World) (i:Nat) (dir:Bool) (made:Nat) (b:Int):HdR S W (newH i (if dir=true then 2 else 1) made b) i (zCR dir made):=by
 refine⟨⟨rfl,fun s h=>(by cases h),AE,AE⟩,⟨rfl,?_,rfl,rfl,rfl,rfl,rfl,⟨fun nm h=>(by cases h),List.Pairwise.nil,fun _=>rfl,fun p h=>(by cases h),fun p h=>(by cases h)⟩,fun p h=>(by cases h)⟩,fun h=>absurd h (by simp [newH]),fun h=>absurd h (by simp [newH])⟩;unfold zCR PN.kind newH;cases dir<;>rfl
theorem ans_set {r:Nat} (h:Blk wk r 67 zAk) (c s0 s1 s2 s3 s4 s5:Int) (d e:Value) :
 Blk ((((((((((wk.setCell ⟨r,0,none⟩ (.int .i64 c)).setCell ⟨r,1,none⟩ (.int .i64 s0)).setCell ⟨r,2,none⟩ (.int .i64 s1)).setCell ⟨r,3,none⟩ (.int .i64 s2)).setCell ⟨r,4,none⟩ (.int .i64 s3)).setCell ⟨r,5,none⟩ (.int .i64 s4)).setCell ⟨r,6,none⟩ (.int .i64 s5)).setCell ⟨r,7,none⟩ d).setCell ⟨r,8,none⟩ e).setCell ⟨r,9,none⟩ (.bool false)) r 67 [.int .i64 c,.int .i64 s0,.int .i64 s1,.int .i64 s2,.int .i64 s3,.int .i64 s4,.int .i64 s5,d,e,.bool false] ∧
 Chg (fun b=>b=r) wk ((((((((((wk.setCell ⟨r,0,none⟩ (.int .i64 c)).setCell ⟨r,1,none⟩ (.int .i64 s0)).setCell ⟨r,2,none⟩ (.int .i64 s1)).setCell ⟨r,3,none⟩ (.int .i64 s2)).setCell ⟨r,4,none⟩ (.int .i64 s3)).setCell ⟨r,5,none⟩ (.int .i64 s4)).setCell ⟨r,6,none⟩ (.int .i64 s5)).setCell ⟨r,7,none⟩ d).setCell ⟨r,8,none⟩ e).setCell ⟨r,9,none⟩ (.bool false)) :=
 ⟨(((((((((h.set_ 0 _).set_ 1 _).set_ 2 _).set_ 3 _).set_ 4 _).set_ 5 _).set_ 6 _).set_ 7 _).set_ 8 _).set_ 9 _,
  (((((((((((AO (fun b=>b=r) wk).setCell (p:=⟨r,0,none⟩) (fun _=>rfl) _).setCell (p:=⟨r,1,none⟩) (fun _=>rfl) _).setCell (p:=⟨r,2,none⟩) (fun _=>rfl) _).setCell (p:=⟨r,3,none⟩) (fun _=>rfl) _).setCell (p:=⟨r,4,none⟩) (fun _=>rfl) _).setCell (p:=⟨r,5,none⟩) (fun _=>rfl) _).setCell (p:=⟨r,6,none⟩) (fun _=>rfl) _).setCell (p:=⟨r,7,none⟩) (fun _=>rfl) _).setCell (p:=⟨r,8,none⟩) (fun _=>rfl) _).setCell (p:=⟨r,9,none⟩) (fun _=>rfl) _)⟩
theorem zHH {r:Nat} (h:Blk wk r 67 zAk):(wk.cell? ⟨r,0,none⟩=some (.int .i64 0)∧wk.cell? ⟨r,1,none⟩=some (.int .i64 0)∧wk.cell? ⟨r,2,none⟩=some (.int .i64 0)∧wk.cell? ⟨r,3,none⟩=some (.int .i64 0)∧wk.cell? ⟨r,4,none⟩=some (.int .i64 0)∧wk.cell? ⟨r,5,none⟩=some (.int .i64 0)∧wk.cell? ⟨r,6,none⟩=some (.int .i64 0)∧wk.cell? ⟨r,7,none⟩=some zAj∧wk.cell? ⟨r,8,none⟩=some zAj∧wk.cell? ⟨r,9,none⟩=some (.bool false)) ∧
 wk.frozen? ⟨r,0,none⟩=false∧wk.frozen? ⟨r,1,none⟩=false∧wk.frozen? ⟨r,2,none⟩=false∧wk.frozen? ⟨r,3,none⟩=false∧wk.frozen? ⟨r,4,none⟩=false∧wk.frozen? ⟨r,5,none⟩=false∧wk.frozen? ⟨r,6,none⟩=false∧wk.frozen? ⟨r,7,none⟩=false∧wk.frozen? ⟨r,8,none⟩=false∧wk.frozen? ⟨r,9,none⟩=false :=
 ⟨⟨h.cell 0,h.cell 1,h.cell 2,h.cell 3,h.cell 4,h.cell 5,h.cell 6,h.cell 7,h.cell 8,h.cell 9⟩,h.frozen 0,h.frozen 1,h.frozen 2,h.frozen 3,h.frozen 4,h.frozen 5,h.frozen 6,h.frozen 7,h.frozen 8,h.frozen 9⟩
theorem z_f4 {r:Nat} (h:Blk wk r 28 z4):wk.frozen? ⟨r,0,none⟩=false∧wk.frozen? ⟨r,1,none⟩=false∧wk.frozen? ⟨r,2,none⟩=false∧wk.frozen? ⟨r,3,none⟩=false:=⟨h.frozen 0,h.frozen 1,h.frozen 2,h.frozen 3⟩
end
structure Fin (w wk:World) (g k:Nat) (S:Nat→Prop) (t':Tr) (T':PT) (ct ca:List Value):Prop where
 tb:Blk wk (g+1) 28 ct
 ab:Blk wk (g+2) 67 ca
 bl:Below g w wk
 rf:RefS (zAJ S g k) wk t' T'
 k3:3≤k
section
variable {w wk w':World} {g k:Nat} {S:Nat→Prop} {t':Tr} {T':PT} {ct ca:List Value}
theorem Fin.fresh (h:Fin w wk g k S t' T' ct ca) (hb:Below wk.heap.size wk w'):Fin w w' g k S t' T' ct ca:=⟨h.tb.fresh hb,h.ab.fresh hb,h.bl.trans (hb.mono (by have:=h.ab.lt;omega)),h.rf.fresh hb,h.k3⟩
theorem Fin.tree (h:Fin w wk g k S t' T' z4 ca):Fin w ((((wk.setCell ⟨g+1,0,none⟩ (.int .i64 t'.sectors)).setCell ⟨g+1,1,none⟩ (.int .i64 t'.inodes)).setCell ⟨g+1,2,none⟩ (.int .i64 t'.births)).setCell ⟨g+1,3,none⟩ (.slice t'.A t'.l.length t'.c)) g k S t' T' (zAa t') ca∧Chg (fun b=>b=g+1) wk ((((wk.setCell ⟨g+1,0,none⟩ (.int .i64 t'.sectors)).setCell ⟨g+1,1,none⟩ (.int .i64 t'.inodes)).setCell ⟨g+1,2,none⟩ (.int .i64 t'.births)).setCell ⟨g+1,3,none⟩ (.slice t'.A t'.l.length t'.c)):=by
 have h1:=zCg h.tb t';have h3:=h.k3;exact⟨⟨h1.1,h.ab.chg h1.2 (by omega),h.bl.trans (h1.2.below (by have:=h.ab.lt;omega) fun b hb e=>by omega),h.rf.chg (h1.2.mono fun b _ (e:b=g+1)=>.inr (by omega)),h3⟩,h1.2⟩
theorem Fin.ans (h:Fin w wk g k S t' T' ct zAk) (c s0 s1 s2 s3 s4 s5:Int) (d e:Value):Fin w ((((((((((wk.setCell ⟨g+2,0,none⟩ (.int .i64 c)).setCell ⟨g+2,1,none⟩ (.int .i64 s0)).setCell ⟨g+2,2,none⟩ (.int .i64 s1)).setCell ⟨g+2,3,none⟩ (.int .i64 s2)).setCell ⟨g+2,4,none⟩ (.int .i64 s3)).setCell ⟨g+2,5,none⟩ (.int .i64 s4)).setCell ⟨g+2,6,none⟩ (.int .i64 s5)).setCell ⟨g+2,7,none⟩ d).setCell ⟨g+2,8,none⟩ e).setCell ⟨g+2,9,none⟩ (.bool false)) g k S t' T' ct [.int .i64 c,.int .i64 s0,.int .i64 s1,.int .i64 s2,.int .i64 s3,.int .i64 s4,.int .i64 s5,d,e,.bool false]∧Chg (fun b=>b=g+2) wk ((((((((((wk.setCell ⟨g+2,0,none⟩ (.int .i64 c)).setCell ⟨g+2,1,none⟩ (.int .i64 s0)).setCell ⟨g+2,2,none⟩ (.int .i64 s1)).setCell ⟨g+2,3,none⟩ (.int .i64 s2)).setCell ⟨g+2,4,none⟩ (.int .i64 s3)).setCell ⟨g+2,5,none⟩ (.int .i64 s4)).setCell ⟨g+2,6,none⟩ (.int .i64 s5)).setCell ⟨g+2,7,none⟩ d).setCell ⟨g+2,8,none⟩ e).setCell ⟨g+2,9,none⟩ (.bool false)):=by
 have h1:=ans_set h.ab c s0 s1 s2 s3 s4 s5 d e;have h3:=h.k3;exact⟨⟨h.tb.chg h1.2 (by omega),h1.1,h.bl.trans (h1.2.below (by have:=h.ab.lt;omega) fun b hb e=>by omega),h.rf.chg (h1.2.mono fun b _ (e:b=g+2)=>.inr (by omega)),h3⟩,h1.2⟩
end
def zKD (x:Ent):Bool→List Ent→List Ent
 | done,[]=>if done then [] else [x]
 | done,y::r=>if done=false∧zAV.lt x.1 y.1=true then x::y::zKD x true r else y::zKD x done r
theorem zHh (x:Ent):∀ l:List Ent,zKD x true l=l
 | []=>rfl
 | y::r=>by rw [zKD,if_neg (by simp),zHh x r]
def zD6 (T:PT) (p:ByteArray×Nat):Ent:=(p.1,p.2,(T.node p.2).kind)
theorem zIP (T:PT) (nm:ByteArray) (i:Nat):∀ {l:List (ByteArray×Nat)},zKD (zD6 T (nm,i)) false (l.map (zD6 T))=(zCi zAV (nm,i) l).map (zD6 T)
 | []=>rfl
 | y::r=>by
  rw [Al,zKD,zCi];by_cases h:zAV.lt nm y.1=true
  · rw [if_pos ⟨rfl,h⟩,if_pos h,zHh];rfl
  · rw [if_neg fun hh=>h hh.2,if_neg h,Al,zIP T nm i]
theorem zJr {α β:Type} [DecidableEq α] {a:α}:∀ {l:List (α×β)},zAe a l=none→zBB a l=l
 | [],_=>rfl
 | y::r,h=>by
  unfold zAe at h
  split at h
  · cases h
  · rename_i e;have ih:=zJr h;unfold zBB at ih ⊢;rw [List.filter_cons,if_pos (by simpa using e),ih]
structure Fst (n:PN) (k:Nat) (F:List (ByteArray×Nat)):Prop where
 ris:zBo zAV F
 get:∀ nm∈n.slots.take k,zAe nm F=zAe nm n.names
 no:∀ nm,nm ∉ n.slots.take k→zAe nm F=none
theorem fst_0 (n:PN):Fst n 0 []:=⟨List.Pairwise.nil,fun nm h=>absurd h (by rw [List.take_zero];simp),fun _ _=>rfl⟩
section
variable {n:PN} {k:Nat} {F:List (ByteArray×Nat)}
theorem Fst.free (h:Fst n k F) (hk:k<n.slots.length) (he:n.slots[k]=emp) (h0:zAe emp n.names=none):Fst n (k+1) F:=by
 refine⟨h.ris,fun nm hm=>?_,fun nm hm=>?_⟩
 · rw [Am hk,he] at hm;rcases An.1 hm with h1 | h1
   · exact h.get nm h1
   · obtain rfl:=Ao.1 h1;by_cases h2:(emp:ByteArray)∈n.slots.take k
     · exact h.get _ h2
     · rw [h.no _ h2,h0]
 · exact h.no nm fun h1=>hm (by rw [Am hk];exact List.mem_append_left _ h1)
theorem Fst.put (h:Fst n k F) (hs:SlOk n) (hk:k<n.slots.length) {nm:ByteArray} {i:Nat} (he:n.slots[k]=nm) (hn:nm≠emp) (hg:zAe nm n.names=some i):Fst n (k+1) (zCi zAV (nm,i) F):=by
 have fB:nm ∉ n.slots.take k:=fun hm=>by
  obtain⟨q,hq,e⟩:=Af hm;rw [Ap] at hq;rw [List.getElem_take] at e;have:=zGl hs hn (k:=k) (q:=q) (by rw [Ah hk,he]) (by rw [Ah (by omega),e]);omega
 have fA:zCi zAV (nm,i) F=zA2 zAV nm i F:=by unfold zA2;rw [zJr (h.no _ fB)]
 rw [fA];refine⟨h.ris.put zAV zEC nm i,fun x hm=>?_,fun x hm=>?_⟩
 · rw [Am hk,he] at hm;by_cases e:x=nm
   · subst e;rw [zAr,hg]
   · rw [zAi zAV i e];rcases An.1 hm with h1 | h1
     · exact h.get x h1
     · exact absurd (Ao.1 h1) e
 · rw [Am hk,he] at hm;rw [zAi zAV i fun e=>hm (by rw [e];simp)];exact h.no x fun h1=>hm (List.mem_append_left _ h1)
theorem Fst.all (h:Fst n n.slots.length F) (hs:SlOk n) (ho:n.Ok):F=n.names:=by
 refine zBo.ext zAV h.ris ho.nris fun nm=>?_;by_cases h1:nm∈n.slots
 · exact h.get nm (by rw [List.take_length];exact h1)
 · rw [h.no nm (by rw [List.take_length];exact h1)]
   cases e:zAe nm n.names with
   | none=>rfl
   | some i=>exact absurd (hs.at_ _ (zAf e)) h1
end
def ListP (l:List Ent) (w:World) (e:Ending) (w':World):Prop:=(∃ A c,e=.returned (.slice A l.length c)∧Sees w' w'.heap.size 3 A l.length (l.flatMap zBn)∧∀ a,A=some a→w.heap.size≤a.block)∧Below w.heap.size w w'
theorem ent_set {w:World} {g i:Nat} {nm:ByteArray} {kd:Int} (h:Blk w g 130 [.string ⟨#[]⟩,.int .i64 0,.int .i64 0]):Blk (((w.setCell ⟨g,0,none⟩ (.string nm)).setCell ⟨g,1,none⟩ (.int .i64 (i:Int))).setCell ⟨g,2,none⟩ (.int .i64 kd)) g 130 (zBn (nm,i,kd)) ∧
 Chg (fun b=>b=g) w (((w.setCell ⟨g,0,none⟩ (.string nm)).setCell ⟨g,1,none⟩ (.int .i64 (i:Int))).setCell ⟨g,2,none⟩ (.int .i64 kd)) :=
 ⟨((h.set_ 0 (.string nm)).set_ 1 (.int .i64 (i:Int))).set_ 2 (.int .i64 kd),
  (((AO (fun b=>b=g) w).setCell (p:=⟨g,0,none⟩) (fun _=>rfl) _).setCell (p:=⟨g,1,none⟩) (fun _=>rfl) _).setCell (p:=⟨g,2,none⟩) (fun _=>rfl) _⟩
theorem zDo:∀ a b:List UInt8,(!Op.bytesLess a b && !(a==b))=bytesBefore b a
 | [],[]=>by simp [Op.bytesLess,bytesBefore]
 | [],b::s=>by simp [Op.bytesLess,bytesBefore]
 | a::r,[]=>by simp [Op.bytesLess,bytesBefore]
 | a::r,b::s=>by
  have ih:=zDo r s;rw [bytesBefore,←ih];simp only [Op.bytesLess];by_cases h1:a<b
  · have h2:¬b<a:=fun h=>absurd (UInt8.lt_trans h1 h) (UInt8.lt_irrefl _)
    have h3:¬b=a:=fun e=>by subst e;exact h2 h1
    simp [h1,h2,h3]
  · by_cases h2:a=b
    · subst h2;simp [h1]
    · have h3:b<a:=by
       rw [UInt8.lt_iff_toNat_lt] at h1 ⊢;have:a.toNat≠b.toNat:=fun e=>h2 (UInt8.toNat_inj.1 e);omega
      simp [h1,h2,h3]
theorem ents_at {w:World} {B m:Nat} {A:Option Addr} {l:List Ent} (h:Sees w B 3 A m (l.flatMap zBn)) (hm:l.length=m) (q:Nat) (hq:q<l.length):∃ b off,A=some ⟨b,off,none⟩∧∀ w',Below B w w'→w'.rangeAt b (off+q * 3) (zBn l[q]):=by
 obtain⟨b,off,e,hb,hc⟩:=h.at_ (by omega);refine⟨b,off,e,fun w' hw j v hj=>?_⟩;have fA:j<3:=(Aq.1 hj).1;rw [Nat.add_assoc,hw.cell (p:=⟨b,off+(q * 3+j),none⟩) hb];exact hc _ _ ((zDb zBn 3 l (fun _ _=>rfl) q hq j fA).trans hj)
theorem zIG {α β:Type} (K:KE α) (x:α×β):∀ l:List (α×β),(zCi K x l).length=l.length+1
 | []=>rfl
 | y::r=>by unfold zCi;split<;>simp [zIG K x r]
theorem zFK (t:Tr) (T:PT) (d:Nat) (n:PN) (x:Hd) (w:World) (h:RefS (fun _=>False) w t T) (hx:HdR (fun _=>False) w x d n) (hT:T.Wf) (hg:zAe d T.nodes=some n) (hd:n.dir=true) :
 Calls AF 83 #[trV t,hdV x] w (ListP (n.names.map (zD6 T)) w):=by
 obtain⟨Q,hQ⟩:=nM (ListP (n.names.map (zD6 T)) w);rw [hQ];have kX:=hid hQ;obtain⟨iE,gL,fJ,fK,fL⟩:=AU zIT;have gM:=(hT.ok.get hg).1;have hD:=hx.rep.dir gM hd;have kK:=hx.rep.rng gM hd;obtain⟨len,fU⟩:∃ len,len=n.slots.length:=⟨_,rfl⟩;have fM:=hid fU
 have kY:len≤1068:=by rw [fU];exact gM.slots
 have gV:Hid (x.idx.length=len):=hid (by rw [kK,List.length_range,fU]);have jI:Below w.heap.size w ((w.alloc (.cells (zAa t).toArray 28)).alloc (.cells (zAb x).toArray 123)):=(br.alloc nr _).alloc (by simp) _;have jJ:=(AQ w 28 (zAa t)).alloc (.cells (zAb x).toArray 123);have gW:=AQ (w.alloc (.cells (zAa t).toArray 28)) 123 (zAb x);rw [show (w.alloc (.cells (zAa t).toArray 28)).heap.size=w.heap.size+1 by simp] at gW;have hH:=hid h;have gN:=hid hx;have jK:=hid hT;have kL:=hid hg;have jL:=hid gM;have kM:=hid hD;clear hQ h hx hT hg hd gM hD kK fU;unfold trV hdV;go_enter Tryz.func83,Tryz.ntmps83;go_upto_region 1 with (fail);change AR _ _ _ _ ((w.alloc (.cells (zAa t).toArray 28)).alloc (.cells (zAb x).toArray 123));generalize (w.alloc (.cells (zAa t).toArray 28)).alloc (.cells (zAb x).toArray 123)=w0 at *;obtain⟨g,gX⟩:=nM (w.heap.size);rw [gX] at gW jJ jI;simp only [gX];have gY:=hid gX;have gO:=hid jI;have jM:=hid jJ;have fN:=hid gW;clear gX jI jJ gW;go_wp2_with fail
 go_loopw [5,6] (fun v i' wr=>∃ (k:Nat) (F:List (ByteArray×Nat)),k≤len∧i'=.int .i64 k∧F.length≤k∧Hid (Fst n k F)∧Hid (wr.ownsRow (g+2) 130 3 v (F.map (zD6 T)).length ((F.map (zD6 T)).flatMap zBn))∧Hid (Below (g+2) w0 wr)) (fun _ i' _=>len-(intOf i').toNat)
 case atStart=>exact⟨0,[],Ay _,rfl,Ax _,hid (fst_0 n),hid (AB _ _ _ _),hid br⟩
 case round =>
  obtain⟨k,F,hk,rfl,kZ,hF,hO,hb⟩:=hrel;have kN:Hid (Below g w wr):=hid (gO.o.trans (hb.o.mono (by omega)));have hX:=fN.o.below hb.o (by omega);obtain⟨-,-,-,-,-,-,x6,x7⟩:=zAN hX;rw [gV.o] at x6;by_cases jN:k<len
  · have jO:k<x.dat.length:=by rw [(gN.o).at_.len,gV.o];exact jN
    have jP:k<(zAu n).length:=by unfold zAu;rw [Ar,←fM.o];exact jN
    have jQ:k<n.slots.length:=by rw [←fM.o];exact jN
    have gZ:=gN.o.fresh (by rw [gY.o];exact kN.o);obtain⟨b2,off2,kO,lA,jA⟩:=gZ.at_.sec_cell k jO;have jB:=gZ.at_.sec _ (Ak jO);have jR:=kM.o.ok _ (Ak jP);rw [kM.o.get k jO jP] at jA jB;rw [kO,gZ.at_.len,gV.o] at x7;obtain⟨o,ho⟩:=nM ((zAu n)[k]);rw [ho] at jA jB jR;have jC:Hid (slN n n.slots[k]=o):=hid (by rw [←ho];simp [zAu]);have jS:=zCf o wr jR;unfold zGH at jS;clear kO jP gZ ho hX
    go_upto_region 6 with (first
     | (refine AV rfl 187 (.tmp 24) rfl b2 (off2+k * 128) rfl (bvs (zFt o)) _ jA AH rfl (by rw [zA9,zAc,jB]) ?_)
     | (go_at_call 118;refine jS.mono ?_;rintro e w3 ⟨rfl,jD⟩))
    have jE:=AQ w3 179 [.int .i64 (zB3 o),.string (zCk o)];have jT:=jD.trans (((AZ w3.heap.size w3).alloc nr (.cells #[.int .i64 (zB3 o),.string (zCk o)] 179)).mono jD.size);change AR _ _ _ _ (w3.alloc (.cells [.int .i64 (zB3 o),.string (zCk o)].toArray 179));have lO:wr.heap.size≤w3.heap.size:=jD.size;clear jD;generalize w3.alloc (.cells [.int .i64 (zB3 o),.string (zCk o)].toArray 179)=w4 at *;generalize w3.heap.size=y at *;have kP:=hid (zAC hO.o jT);have fH:=hid (hb.o.trans (jT.mono (by have:=hb.o.size;have:=fN.o.lt;omega)));obtain⟨-,-,-,-,-,-,x6,x7⟩:=zAN (fN.o.below fH.o (by omega));rw [gV.o] at x6;have o0:=jE.cell 0;have o1:=jE.cell 1;simp only [Aj,Ai] at o0 o1;have gP:=hid jE;clear jT jS jA jB hO hb jE
    cases o with
    | none =>
     have jF:Hid (Fst n (k+1) F):=hid (hF.o.free jQ (by
      have h1:=jC.o;unfold slN at h1;by_cases e:n.slots[k]=emp
      · exact e
      · rw [if_neg e] at h1;have h2:=gN.o.rep.sl.has _ (Ak jQ) e
        cases e3:zAe n.slots[k] n.names with
        | none=>rw [e3] at h2;cases h2
        | some i=>rw [e3] at h1;cases h1) (jK.o.nemp d n kL.o))
     simp only [zB3] at o0;clear hF jC;go_wp2_with fail;go_roundw
     case rel=>exact⟨k+1,F,by omega,by go_num,by omega,jF,kP,fH⟩
     case measure=>simp [intOf];omega
    | some on =>
     obtain⟨i,nm⟩:=on;simp only [zB3,zCk] at o0 o1
     have lP:((i:Int)==0)=false:=by have:=jR.1;simp;omega
     have gI:=zEt jC.o;obtain⟨mi,jU⟩:=jK.o.ents d n nm i kL.o gI.2.2;have jF:Hid (Fst n (k+1) (zCi zAV (nm,i) F)):=hid (hF.o.put gN.o.rep.sl jQ gI.1 (by rw [←gI.1];exact gI.2.1) gI.2.2);have jV:=jM.o.below fH.o (by omega);have lB:=hid (hH.o.fresh (w':=w4) (by rw [gY.o];exact gO.o.trans (fH.o.mono (by omega))));obtain⟨xi,-,gQ,jW⟩:=zBy lB.o jK.o.ok jU
     have jX:xi.kind=(T.node i).kind:=by rw [gQ.rep.kind,zAn jU]
     have fld:=zGb xi;unfold trV hdV at jW;have gR:=hid jW;have fV:Hid (Blk w4 y 179 [.int .i64 (i:Int),.string nm]):=hid gP.o;have fW:=hid jV;have jY:Hid (Below w4.heap.size w4 w4.drew):=hid (zAd (AZ _ w4) 1);have jZ:Hid (Below w4.heap.size w4 (w4.alloc (.cells #[.string ⟨#[]⟩,.int .i64 0,.int .i64 0] 130)).drew):=hid (zAd (br.alloc nr _) 1);have lC:=hid (AQ w4 130 [.string ⟨#[]⟩,.int .i64 0,.int .i64 0]);obtain⟨a0,a1,a2,a3⟩:=zAp jV;obtain⟨kd,gS⟩:=nM (xi.kind);rw [gS] at jX fld;have kA:=hid jX;clear hF jC gI jU jW gQ gS jX jV;go_upto_region 7 with (fail)
     go_cut [9] from 32 to 41 (fun v wx=>∃ ub,v=.pointer (some ⟨ub,0,none⟩)∧Hid (w4.heap.size≤ub)∧Hid (Blk wx ub 130 (zBn (nm,i,kd)))∧Hid (Below w4.heap.size w4 wx))
     case first =>
      go_region_held3 (fun w'=>w'.cell? ⟨g,0,none⟩=some (.int .i64 t.sectors)∧w'.cell? ⟨g,1,none⟩=some (.int .i64 t.inodes)∧w'.cell? ⟨g,2,none⟩=some (.int .i64 t.births)∧w'.cell? ⟨g,3,none⟩=some (.slice t.A t.l.length t.c)∧w'.cell? ⟨y,0,none⟩=some (.int .i64 (i:Int))∧w'.cell? ⟨y,1,none⟩=some (.string nm))
       (first | go_keep)
       (first
        | (go_at_call 81;first
         | ((with_reducible refine (gR.o w4.drew jY.o).mono ?_);rintro e w5 ⟨rfl,gJ⟩;have fD:=hid (jY.o.trans (gJ.mono jY.o.size));obtain⟨a0,a1,a2,a3⟩:=zAp (fW.o.fresh fD.o);obtain⟨c0,c1⟩:=zCV (fV.o.fresh fD.o);clear gJ)
         | ((with_reducible refine (gR.o (w4.alloc (.cells #[.string ⟨#[]⟩,.int .i64 0,.int .i64 0] 130)).drew jZ.o).mono ?_);rintro e w5 ⟨rfl,gJ⟩;have fD:=hid (jZ.o.trans (gJ.mono jZ.o.size));obtain⟨a0,a1,a2,a3⟩:=zAp (fW.o.fresh fD.o);obtain⟨c0,c1⟩:=zCV (fV.o.fresh fD.o);have gD:=hid (Blk.fresh (w:=(w4.alloc (.cells #[.string ⟨#[]⟩,.int .i64 0,.int .i64 0] 130)).drew) lC.o gJ);have jG:=ent_set (i:=i) (nm:=nm) (kd:=kd) gD.o;have lD:=fW.o.lt;have lE:=fV.o.lt;obtain⟨d0,d1,d2,d3⟩:=zAp ((fW.o.fresh fD.o).chg jG.2 (by omega));obtain⟨d4,d5⟩:=zCV ((fV.o.fresh fD.o).chg jG.2 (by omega));have gT:=hid jG;have z0:=gD.o.cell 0;have z1:=gD.o.cell 1;have z2:=gD.o.cell 2;have f0:=gD.o.frozen 0;have f1:=gD.o.frozen 1;have f2:=gD.o.frozen 2;simp only [Ai,Aj] at z0 z1 z2;clear gJ jG lD lE)))
      all_goals (go_wp2;go_meet)
      · exact⟨_,rfl,hid fD.o.size,hid (AQ w5 130 (zBn (nm,i,kd))),hid (fD.o.alloc fD.o.size _)⟩
      · exact⟨_,rfl,hid nr,hid gT.o.1,hid (fD.o.trans (gT.o.2.below fD.o.size fun b hb h=>by omega))⟩
     case rest =>
      obtain⟨ub,rfl,lF,lG,kQ⟩:=hcut;have kC:=hid (zAC kP.o kQ.o);have gE:=hid (fH.o.trans (kQ.o.mono (by have:=fH.o.size;have:=fN.o.lt;omega)));have lQ:y<ub:=Az gP.o.lt lF.o;generalize wc=w6 at *;obtain⟨L,hL⟩:=nM (F.map (zD6 T));obtain⟨m,hm⟩:=nM (L.length)
      have lR:m≤k:=by rw [←hm,←hL,Ar];exact kZ
      rw [hL] at kC;have lH:=hid hL;have kR:=hid hm;obtain⟨A5,c5,kS,gA⟩:=AD (B:=w6.heap.size) kC.o fun g hg=>(B0 kC.o g hg).2;rw [hm] at kS;subst kS;have gF:=hid gA;clear hL hm gA;go_wp2_with fail
      go_loopw [10,11,12] (fun v dn i' wr=>∃ (q:Nat) (acc:List Ent) (done:Bool),q≤m∧i'=.int .i64 q∧dn=.bool done∧acc.length≤2 * q∧Hid (acc++zKD (nm,i,kd) done (L.drop q)=zKD (nm,i,kd) false L)∧Hid (wr.ownsRow w6.heap.size 130 3 v acc.length (acc.flatMap zBn))∧Hid (Below w6.heap.size w6 wr)) (fun _ _ i' _=>m-(intOf i').toNat)
      case atStart=>exact⟨0,[],false,Ay _,rfl,rfl,by simp,hid (by simp),hid (AB _ _ _ _),hid br⟩
      case round =>
       obtain⟨q,acc,done,hq,rfl,rfl,kT,fX,hN,fI⟩:=hrel;have gB:=lG.o.fresh fI.o;have e0:=gB.cell 0;simp only [zBn,Aj] at e0;by_cases lI:q<m
       · have kU:q<L.length:=by rw [kR.o];exact lI
         obtain⟨b5,off5,lJ,kD⟩:=ents_at gF.o rfl q kU;have fO:L.drop q=L[q]::L.drop (q+1):=List.drop_eq_getElem_cons kU;have hy:=kD wr fI.o;have fP:=hid kD;obtain⟨y,kE⟩:=nM (L[q]);rw [kE] at fO hy;rw [kE] at fP;have y0:=hy 0 _ rfl;rw [Nat.add_zero] at y0;subst lJ;have lK:=kY;have fQ:=hN.o;obtain⟨al,fE⟩:=nM (acc.length);obtain⟨fl,gG⟩:=nM (acc.flatMap zBn);rw [fE] at kT;rw [fE,gG] at fQ;have fF:=hid fE;have fR:=hid gG;have fA:=fX.o;rw [fO,zKD] at fA;clear kD fO fE gG fX kE
         cases done with
         | true =>
          rw [if_neg (by simp)] at fA;have fB:=hid fA;clear fA;go_upto_region 13 with (fail)
          go_quiet (fail)
          have fC:=hid (zAd fI.o nq);have gC:=zAC fQ (zAd (AZ _ wr) nq);have jH:=fP.o _ fC.o;have kF:=gB.fresh (zAd (AZ _ wr) nq);clear fQ hy gB hN fI;generalize wr.drewN nq=wq at *
          go_wp2_with (first
           | (refine AV rfl 130 (.tmp 67) rfl b5 (off5+q * 3) rfl (zBn y) _ jH AI rfl rfl ?_)
           | (refine zAo rfl 65 130 (.tmp 68) rfl (zBn y).toArray (by rfl) 3 AJ zD7 zEnt rfl (by omega) (by omega) ?_)
           | (at_builtin;refine zAg _ rfl (.tmp 64) (.tmp 69) _ _ rfl w6.heap.size 130 iE (.agg #[.string ⟨#[]⟩,.int .i64 0,.int .i64 0]) 3 32 AJ gL fJ fK fL rfl u10 al fl rfl (gC.alloc _) 1 (zBn y) (zA3 (P:=AF) AJ (AQ wq 130 (zBn y)) (zCK _)) (by unfold maxLen;omega) (by omega) (by have:=fC.o.size;simp;omega) ?_;intro v1 w9 ho hg fY;have fG:Chg (fun b=>w6.heap.size≤b) wq w9:=((AO (fun b=>w6.heap.size≤b) wq).alloc _).grown hg (fun g' e _=>(B0 gC g' e).1);have fT:=hid (fC.o.trans (fG.below fC.o.size fun b hb h=>by omega));have fZ:=hid ho;clear ho;clear fG hg fY))
          go_roundw
          case rel=>exact⟨q+1,acc++[y],true,by omega,by go_num,rfl,by simp only [Ab,Ac,Ad,fF.o];omega,hid (by have h9:=fB.o;simpa using h9),hid (by simp only [Ab,Ae,Ac,Ad,Aa,List.flatMap_nil,As,fF.o,fR.o];have h9:=fZ.o;simpa using h9),fT⟩
          case measure=>simp [intOf];omega
         | false =>
          by_cases gK:zAV.lt nm y.1=true
          · rw [if_pos ⟨rfl,gK⟩] at fA;have fB:=hid fA
            have fS:(!Op.bytesLess y.1.toList nm.toList && !(y.1.toList==nm.toList))=true:=by rw [zDo,B1,B1];exact gK
            clear fA gK;go_upto_region 13 with (fail);have gH:=hid fS;clear fS
            go_quiet (fail)
            rw [gH.o];have fC:=hid (zAd fI.o nq);have gC:=zAC fQ (zAd (AZ _ wr) nq);have jH:=fP.o _ fC.o;have kF:=gB.fresh (zAd (AZ _ wr) nq);clear fQ hy gB hN fI;generalize wr.drewN nq=wq at *
            go_wp2_with (first
             | (refine AW rfl 130 (.tmp 9) rfl ub rfl 130 (zBn (nm,i,kd)).toArray _ _ kF AI rfl rfl ?_)
             | (refine zAo rfl 65 130 (.tmp 61) rfl (zBn (nm,i,kd)).toArray (by rfl) 3 AJ zD7 zEnt rfl (by omega) (by omega) ?_)
             | (at_builtin;refine zAg _ rfl (.tmp 60) (.tmp 62) _ _ rfl w6.heap.size 130 iE (.agg #[.string ⟨#[]⟩,.int .i64 0,.int .i64 0]) 3 32 AJ gL fJ fK fL rfl u10 al fl rfl (gC.alloc _) 1 (zBn (nm,i,kd)) (zA3 (P:=AF) AJ (AQ wq 130 (zBn (nm,i,kd))) (zCK _)) (by unfold maxLen;omega) (by omega) (by have:=fC.o.size;simp;omega) ?_;intro v1 w9 ho hg fY;have fG:Chg (fun b=>w6.heap.size≤b) wq w9:=((AO (fun b=>w6.heap.size≤b) wq).alloc _).grown hg (fun g' e _=>(B0 gC g' e).1);have fT:=hid (fC.o.trans (fG.below fC.o.size fun b hb h=>by omega));have fZ:=ho;have lL:=fP.o w9 fT.o;clear ho;clear fG hg fY)
             | (refine AV rfl 130 (.tmp 67) rfl b5 (off5+q * 3) rfl (zBn y) _ lL AI rfl rfl ?_)
             | (refine zAo rfl 65 130 (.tmp 68) rfl (zBn y).toArray (by rfl) 3 AJ zD7 zEnt rfl (by omega) (by omega) ?_)
             | (at_builtin;refine zAg _ rfl (.tmp 64) (.tmp 69) _ _ rfl w6.heap.size 130 iE (.agg #[.string ⟨#[]⟩,.int .i64 0,.int .i64 0]) 3 32 AJ gL fJ fK fL rfl v1 (al+1) (fl++zBn (nm,i,kd)) rfl (fZ.alloc _) 1 (zBn y) (zA3 (P:=AF) AJ (AQ w9 130 (zBn y)) (zCK _)) (by unfold maxLen;omega) (by omega) (by have:=fT.o.size;simp;omega) ?_;intro v2 w10 ho hg fY;have fG:Chg (fun b=>w6.heap.size≤b) w9 w10:=((AO (fun b=>w6.heap.size≤b) w9).alloc _).grown hg (fun g' e _=>(B0 fZ g' e).1);have kG:=hid (fT.o.trans (fG.below fT.o.size fun b hb h=>by omega));have kI:=hid ho;clear ho;clear fG hg fY))
            go_roundw
            case rel=>exact⟨q+1,acc++[(nm,i,kd),y],true,by omega,by go_num,rfl,by simp only [Ab,Ac,Ad,fF.o];omega,hid (by have h9:=fB.o;simpa using h9),hid (by simp only [Ab,Ae,Ac,Ad,Aa,List.flatMap_nil,As,fF.o,fR.o];have h9:=kI.o;simpa using h9),kG⟩
            case measure=>simp [intOf];omega
          · rw [if_neg (fun h=>gK h.2)] at fA;have fB:=hid fA
            have fS:(!Op.bytesLess y.1.toList nm.toList && !(y.1.toList==nm.toList))=false:=by rw [zDo,B1,B1];show zAV.lt nm y.1=false;simpa using gK
            clear fA gK;go_upto_region 13 with (fail);have gH:=hid fS;clear fS
            go_quiet (fail)
            rw [gH.o];have fC:=hid (zAd fI.o nq);have gC:=zAC fQ (zAd (AZ _ wr) nq);have jH:=fP.o _ fC.o;have kF:=gB.fresh (zAd (AZ _ wr) nq);clear fQ hy gB hN fI;generalize wr.drewN nq=wq at *
            go_wp2_with (first
             | (refine AV rfl 130 (.tmp 67) rfl b5 (off5+q * 3) rfl (zBn y) _ jH AI rfl rfl ?_)
             | (refine zAo rfl 65 130 (.tmp 68) rfl (zBn y).toArray (by rfl) 3 AJ zD7 zEnt rfl (by omega) (by omega) ?_)
             | (at_builtin;refine zAg _ rfl (.tmp 64) (.tmp 69) _ _ rfl w6.heap.size 130 iE (.agg #[.string ⟨#[]⟩,.int .i64 0,.int .i64 0]) 3 32 AJ gL fJ fK fL rfl u10 al fl rfl (gC.alloc _) 1 (zBn y) (zA3 (P:=AF) AJ (AQ wq 130 (zBn y)) (zCK _)) (by unfold maxLen;omega) (by omega) (by have:=fC.o.size;simp;omega) ?_;intro v1 w9 ho hg fY;have fG:Chg (fun b=>w6.heap.size≤b) wq w9:=((AO (fun b=>w6.heap.size≤b) wq).alloc _).grown hg (fun g' e _=>(B0 gC g' e).1);have fT:=hid (fC.o.trans (fG.below fC.o.size fun b hb h=>by omega));have fZ:=hid ho;clear ho;clear fG hg fY))
            go_roundw
            case rel=>exact⟨q+1,acc++[y],false,by omega,by go_num,rfl,by simp only [Ab,Ac,Ad,fF.o];omega,hid (by have h9:=fB.o;simpa using h9),hid (by simp only [Ab,Ae,Ac,Ad,Aa,List.flatMap_nil,As,fF.o,fR.o];have h9:=fZ.o;simpa using h9),fT⟩
            case measure=>simp [intOf];omega
       · obtain rfl:q=m:=by omega
         have kV:L.drop q=[]:=List.drop_eq_nil_of_le (by rw [kR.o];exact Ax _)
         have gU:zKD (nm,i,kd) false L=(zCi zAV (nm,i) F).map (zD6 T):=by
          have h9:=zIP T nm i (l:=F);unfold zD6 at h9;rw [←kA.o] at h9;rw [←lH.o];exact h9
         have fA:=fX.o;rw [kV,gU] at fA;have fQ:=hN.o;obtain⟨al,fE⟩:=nM (acc.length);obtain⟨fl,gG⟩:=nM (acc.flatMap zBn);rw [fE] at kT;rw [fE,gG] at fQ;have fF:=hid fE;have fR:=hid gG
         have kW:g+2≤w6.heap.size:=by have:=gE.o.size;have:=fN.o.lt;omega
         have lS:(zCi zAV (nm,i) F).length=F.length+1:=zIG zAV (nm,i) F;clear fX kV gU fE gG
         cases done with
         | true =>
          have fB:Hid (acc=(zCi zAV (nm,i) F).map (zD6 T)):=hid (by simpa [zKD] using fA);clear fA;go_wp2_with fail;go_roundw
          case rel=>exact⟨k+1,zCi zAV (nm,i) F,by omega,by go_num,by omega,jF,hid (by rw [←fB.o];exact zBY hN.o fun g' e=>by have:=(B0 hN.o g' e).1;omega),hid (gE.o.trans (fI.o.mono kW))⟩
          case measure=>simp [intOf];omega
         | false =>
          have fB:Hid (acc++[(nm,i,kd)]=(zCi zAV (nm,i) F).map (zD6 T)):=hid (by simpa [zKD] using fA);clear fA
          go_wp2_with (first
           | (refine AW rfl 130 (.tmp 9) rfl ub rfl 130 (zBn (nm,i,kd)).toArray _ _ gB AI rfl rfl ?_)
           | (refine zAo rfl 65 130 (.tmp 74) rfl (zBn (nm,i,kd)).toArray (by rfl) 3 AJ zD7 zEnt rfl (by omega) (by omega) ?_)
           | (at_builtin;refine zAg _ rfl (.tmp 73) (.tmp 75) _ _ rfl w6.heap.size 130 iE (.agg #[.string ⟨#[]⟩,.int .i64 0,.int .i64 0]) 3 32 AJ gL fJ fK fL rfl u10 al fl rfl (fQ.alloc _) 1 (zBn (nm,i,kd)) (zA3 (P:=AF) AJ (AQ wr 130 (zBn (nm,i,kd))) (zCK _)) (by unfold maxLen;omega) (by omega) (by have:=fI.o.size;simp;omega) ?_;intro v1 w9 ho hg fY;have fG:Chg (fun b=>w6.heap.size≤b) wr w9:=((AO (fun b=>w6.heap.size≤b) wr).alloc _).grown hg (fun g' e _=>(B0 fQ g' e).1);have fT:=hid (fI.o.trans (fG.below fI.o.size fun b hb h=>by omega));have fZ:=hid ho;clear ho;clear fG hg fY))
          go_roundw
          case rel=>exact⟨k+1,zCi zAV (nm,i) F,by omega,by go_num,by omega,jF,hid (by rw [←fB.o];simp only [Ab,Ae,Ac,Ad,Aa,List.flatMap_nil,As,fF.o,fR.o];exact zBY fZ.o fun g' e=>by have:=(B0 fZ.o g' e).1;omega),hid (gE.o.trans (fT.o.mono kW))⟩
          case measure=>simp [intOf];omega
  · obtain rfl:k=len:=by omega
    have lM:Hid (F=n.names):=hid (by have h1:=hF.o;rw [fM.o] at h1;exact h1.all gN.o.rep.sl jL.o);obtain⟨A,c,hv,kJ⟩:=AD (B:=wr.heap.size) hO.o fun g hg=>(B0 hO.o g hg).2;have lN:=(B0 hO.o);subst hv;clear hF;go_wp2_with fail;rw [←kX.o,←lM.o];refine⟨⟨A,c,rfl,kJ,fun a e=>?_⟩,by rw [gY.o];exact kN.o⟩;have:=(lN a.block (by rw [e];rfl)).1;have:=gY.o;omega
theorem ne_name {T:PT} (hT:T.Inv) {d i:Nat} {n m:PN} {nm:ByteArray} (hd:zAe d T.nodes=some n) (fA:n.dir=true) (hi:zAe i T.nodes=some m) (hn:zAe nm n.names=some i):d≠i:=fun e=>by
 obtain⟨rk,hr⟩:=hT.gr.rank;subst e;have:=hr d n nm d hd hn (by rw [zAm hd];exact fA);omega
theorem zFy (S:Nat→Prop) (t:Tr) (T:PT) (A:Option Addr) (c:Nat) (l:List ByteArray) (dir:Bool) (w:World) (h:RefS S w t T) (hS:∀ b,S b→b<w.heap.size) (hT:T.Inv)
 (hl:NmAt w w.heap.size A c l) (hc:∀ x∈l,chk x=true) :
 Calls AF 78 #[.agg (zAa t).toArray,.slice A l.length c,.bool dir] w (zIo S (if dir=true then T.rmdir l else T.unlink l) w):=by
 obtain⟨lk,fY⟩:=nM ((if dir=true then T.rmdir l else T.unlink l));rw [fY];obtain⟨Q,hQ⟩:=nM (zIo S lk w);rw [hQ];obtain⟨g,hz⟩:=nM (w.heap.size);have fP:=hid (zBP h hz 2);have gX:=hid (inS (k:=2) hS hz);have gY:=hid fun (j:Nat) (n:PN) (hg:zAe j T.nodes=some n)=>zDO h hz 2 hT.gr.ok hg;have fN:=hid fun W (hb:Below g w W)=>zCT t T A c l W (zBP h hz 2 W hb).ref hT.wf (hl.fresh (hz.symm▸hb)) fun x hx=>zBl (hc x hx);have gK:=hid fun h=>zCv (T:=T) (m:=l) h hc;have gL:=hid (zBu hT.wf l);unfold PT.rmdir PT.unlink at fY;rw [PT.entry.eq_1 T l] at fY;have fO:=st_0 w t;rw [hz] at fO;unfold zJ9 at fN;rw [show trV t=.agg (zAa t).toArray from rfl] at fN;have fF:=hid hT;have fQ:=hid hQ;have hu:=hid fY;clear fY hQ h hS hT hl hc;generalize T.last l=r2 at *;obtain⟨d,e2⟩:=r2;generalize zAM l=nm at *;generalize l.length=n1 at *;simp only at fN gK gL hu;have fR:=hid hz;go_enter Tryz.func78,Tryz.ntmps78;go_upto_region 1 with (fail)
 try simp only [hz]
 change AR _ _ _ _ ((w.alloc (.cells (zAa t).toArray 28)).alloc (.cells z4.toArray 28));generalize (w.alloc (.cells (zAa t).toArray 28)).alloc (.cells z4.toArray 28)=w0 at *;clear hz;by_cases h2:e2=0;rotate_left
 · have jI:((e2:Int) != 0)=true:=by simp;omega
   simp only [if_neg h2] at fN
   have fC:lk=(T,e2):=by have h3:=hu.o;simp only [if_pos h2] at h3;cases dir<;>simp [h2] at h3<;>exact h3.symm
   go_wp2_with (first
    | (refine ldT fO.tb rfl rfl rfl ?_)
    | (go_at_call 109;(with_reducible refine (fN.o w0 fO.bl).mono ?_);rintro e w2 ⟨rfl,gF⟩;have fD:=fO.fresh gF)
    | (refine ldT fD.tb rfl rfl rfl ?_)
    | (refine stT t fD.rb rfl rfl rfl (by rfl) rfl ?_))
   exact zAA fD.rb fQ.o (by exact fC) (fP.o _ fD.bl) fD.bl fR.o ⟨by omega,by omega⟩ rfl rfl rfl rfl
 subst h2;simp only [if_true] at fN;obtain⟨m2,fG,fZ⟩:=gL.o rfl;have gG:=gK.o rfl;have fE:=(fF.o.gr.ok.get fG).1;obtain⟨x2,-,-,fV⟩:=gY.o d m2 fG;have fC:=hu.o;rw [fG] at fC;simp only [ne_eq,not_true_eq_false,if_false,Option.bind_some] at fC
 go_upto_region 4 with (first
  | (refine ldT fO.tb rfl rfl rfl ?_)
  | (go_at_call 109;(with_reducible refine (fN.o w0 fO.bl).mono ?_);rintro e w2 ⟨rfl,gF⟩;have fD:=fO.fresh gF))
 clear fO gF fN hu gL gK
 cases fH:zAe nm m2.names with
 | none =>
  have fW:=hid fun W (hb:Below g w W)=>zF4 (fV W hb).1 fE fZ (zBl gG) fH;have fK:=hid fV;rw [fH] at fC;have gH:Hid (lk=(T,110)):=hid (by simp only at fC;cases dir<;>simp at fC<;>exact fC.symm);clear fV fC fH fE;simp only [hdV] at fW
  go_wp2_with (first
   | (refine ldT fD.tb rfl rfl rfl ?_)
   | (go_at_call 81;(with_reducible refine ((fK.o w2 fD.bl).2).mono ?_);rintro e w3 ⟨rfl,gI⟩;have fX:=fD.fresh gI)
   | (go_at_call 110;(with_reducible refine ((fW.o w3 fX.bl)).mono ?_);rintro e w4 ⟨rfl,gJ⟩;have fI:=fX.fresh gJ)
   | (refine ldT fI.tb rfl rfl rfl ?_)
   | (refine stT t fI.rb rfl rfl rfl (by rfl) rfl ?_))
  exact zAA fI.rb fQ.o (by rw [gH.o]) (fP.o _ fI.bl) fI.bl fR.o ⟨by omega,by omega⟩ rfl rfl rfl rfl
 | some i =>
  obtain⟨m1,fL⟩:=fF.o.gr.ents d m2 nm i fG fH;obtain⟨kp,gM⟩:=fF.o.gr.slotn d m2 nm i fG fH;obtain⟨x1,gZ,-,gN⟩:=gY.o i m1 fL;have fW:=hid fun W (hb:Below g w W)=>zDK (fV W hb).1 fE fZ (zBl gG) fH gM;have fK:=hid fV;have gO:=hid gN;rw [fH] at fC;simp only [not_true_eq_false,if_false] at fC;rw [zAm fL,zAn fL] at fC
  have gA:(T.clr d nm)=T.upd d (m2.clear nm):=by unfold PT.clr;rw [fG]
  rw [gA] at fC;have jA:=ne_name fF.o fG fZ fL fH;have gP:=hid fun W (hb:Below g w W) (hk:g+2≤W.heap.size)=>zCd (zAJ S g 2) t T d m2 nm W (fP.o W hb) (gX.o W hk) fF.o.gr.ok fG fZ (zBl gG) fH gM;have gB:(T.upd d (m2.clear nm)).Ok:=fF.o.gr.ok.upd (fE.clear nm) (fF.o.gr.ok.get fG).2;have gQ:=fF.o.dev i m1 fL;have jB:=hid fun t5 W (hb:RefS (zAJ S g 2) W t5 (T.upd d (m2.clear nm))) (hk:g+2≤W.heap.size)=>zGU (zAJ S g 2) t5 (T.upd d (m2.clear nm)) i m1 W hb (gX.o W hk) gB (by rw [zAl _ fun e=>jA e.symm];exact fL) gQ.1 gQ.2.1;have fS:=hid fun W (hb:Below g w W) (fT:m1.dir=true)=>zFK t T i m1 x1 W ((fP.o W hb).mono fun _ h=>h.elim) ((gN W hb).1.mono fun _ h=>h.elim) fF.o.wf fL fT;have gR:=(fF.o.gr.ok.get fL).1;have jJ:m1.names.length≤1068:=Nat.le_trans gR.nlen gR.slots
  have gC:x1.kind=2∧m1.dir=true∨x1.kind=1∧m1.dir=false:=by rw [gZ];unfold PN.kind;cases m1.dir<;>simp
  simp only [hdV,trV] at fW fS gP;have gH:=hid fC;clear fV gN fC fH fE fL gM gG fG fZ gA gQ gB gR jA gZ
  go_upto_region 7 with (first
   | (refine ldT fD.tb rfl rfl rfl ?_)
   | (go_at_call 81;(with_reducible refine ((fK.o w2 fD.bl).2).mono ?_);rintro e w3 ⟨rfl,gI⟩;have fX:=fD.fresh gI)
   | (go_at_call 110;(with_reducible refine ((fW.o w3 fX.bl)).mono ?_);rintro e w4 ⟨rfl,gJ⟩;have fI:=fX.fresh gJ))
  clear fD fX gI gJ fW fK
  go_upto_region 8 with (first
   | (refine ldT fI.tb rfl rfl rfl ?_)
   | (go_at_call 81;(with_reducible refine ((gO.o w4 fI.bl).2).mono ?_);rintro e w5 ⟨rfl,jC⟩;have jD:=fI.fresh jC)
   | (refine AX rfl 123 _ _ rfl w5.heap.size (zAb x1).toArray rfl (by rfl) 123 _ (AQ w5 123 z8) rfl rfl (zHb x1) ?_))
  obtain⟨hX,fA⟩:=jD.held x1;change AR _ _ _ _ ((w5.alloc (.cells z8.toArray 123)).setRow w5.heap.size (zAb x1).toArray);clear fI jC jD;generalize (w5.alloc (.cells z8.toArray 123)).setRow w5.heap.size (zAb x1).toArray=w6 at *;generalize w5.heap.size=y at *;have jK:=hid hX;have jF:=fA.le;obtain⟨b0,b1,b2,b3,b4,b5,b6,b7⟩:=zAN hX
  have jL:decide ((0:Int) > (kp:Int))=false:=by simp
  rcases gC with ⟨gC,fT⟩ | ⟨gC,fT⟩
  · rw [gC] at b1;have fB:=gH.o;rw [fT] at fB
    cases dir with
    | true =>
     by_cases jE:0<m1.names.length
     · simp [jE] at fB
       have fM:=hid fB.symm;have jG:decide ((m1.names.length:Int) > 0)=true:=decide_eq_true (by omega);clear fB
       go_wp2_with (first
        | (refine zAK (by rfl) (fun _ hK=>AY 28 _ rfl g rfl 28 (zAa t).toArray _ _ fA.tb AK rfl rfl (hK _ _ ?_)))
        | (refine zAK (by rfl) (fun _ hK=>AY 123 _ rfl y rfl 123 (zAb x1).toArray _ _ hX AL rfl rfl (hK _ _ ?_)))
        | (go_at_call 83;(with_reducible refine ((fS.o w6 fA.bl fT)).mono ?_);rintro e w9 ⟨⟨A9,c9,rfl,-,-⟩,gD⟩;have fJ:=fA.fresh gD;have jH:=hX.fresh gD)
        | (refine ldT fJ.tb rfl rfl rfl ?_)
        | (refine stT t fJ.rb rfl rfl rfl (by rfl) rfl ?_))
       exact zAA fJ.rb fQ.o (by exact fM.o) (fP.o _ fJ.bl) fJ.bl fR.o ⟨by omega,by omega⟩ rfl rfl rfl rfl
     · simp [jE] at fB
       have fM:=hid fB.symm;have jG:decide ((m1.names.length:Int) > 0)=false:=decide_eq_false (by omega);clear fB
       go_wp2_with (first
        | (refine zAK (by rfl) (fun _ hK=>AY 28 _ rfl g rfl 28 (zAa t).toArray _ _ fA.tb AK rfl rfl (hK _ _ ?_)))
        | (refine zAK (by rfl) (fun _ hK=>AY 123 _ rfl y rfl 123 (zAb x1).toArray _ _ hX AL rfl rfl (hK _ _ ?_)))
        | (go_at_call 83;(with_reducible refine ((fS.o w6 fA.bl fT)).mono ?_);rintro e w9 ⟨⟨A9,c9,rfl,-,-⟩,gD⟩;have fJ:=fA.fresh gD;have jH:=hX.fresh gD)
        | (refine ldT fJ.tb rfl rfl rfl ?_)
        | (go_at_call 114;(with_reducible refine ((gP.o w9 fJ.bl fJ.le)).mono ?_);rintro e w7 ⟨⟨t7,rfl,gS⟩,gT⟩;have gE:=fJ.fresh gT;have gU:=jB.o t7 w7 gS gE.le)
        | (go_at_call 115;(with_reducible refine (gU).mono ?_);rintro e w8 ⟨⟨t8,rfl,gV⟩,gW⟩;have fU:=gE.fresh gW)
        | (refine stT t8 fU.rb rfl rfl rfl (by rfl) rfl ?_))
       exact zAA fU.rb fQ.o fM.o gV fU.bl fR.o ⟨by omega,by omega⟩ rfl rfl rfl rfl
    | false =>
     simp at fB
     have fM:=hid fB.symm;clear fB
     go_wp2_with (first
      | (refine ldT fA.tb rfl rfl rfl ?_)
      | (refine stT t fA.rb rfl rfl rfl (by rfl) rfl ?_))
     exact zAA fA.rb fQ.o (by exact fM.o) (fP.o _ fA.bl) fA.bl fR.o ⟨by omega,by omega⟩ rfl rfl rfl rfl
  · rw [gC] at b1;have fB:=gH.o;rw [fT] at fB
    cases dir with
    | true =>
     simp at fB
     have fM:=hid fB.symm;clear fB
     go_wp2_with (first
      | (refine ldT fA.tb rfl rfl rfl ?_)
      | (refine stT t fA.rb rfl rfl rfl (by rfl) rfl ?_))
     exact zAA fA.rb fQ.o (by exact fM.o) (fP.o _ fA.bl) fA.bl fR.o ⟨by omega,by omega⟩ rfl rfl rfl rfl
    | false =>
     simp at fB
     have fM:=hid fB.symm;clear fB
     go_wp2_with (first
      | (refine ldT fA.tb rfl rfl rfl ?_)
      | (go_at_call 114;(with_reducible refine ((gP.o w6 fA.bl jF)).mono ?_);rintro e w7 ⟨⟨t7,rfl,gS⟩,gT⟩;have gE:=fA.fresh gT;have gU:=jB.o t7 w7 gS gE.le)
      | (go_at_call 115;(with_reducible refine (gU).mono ?_);rintro e w8 ⟨⟨t8,rfl,gV⟩,gW⟩;have fU:=gE.fresh gW)
      | (refine stT t8 fU.rb rfl rfl rfl (by rfl) rfl ?_))
     exact zAA fU.rb fQ.o fM.o gV fU.bl fR.o ⟨by omega,by omega⟩ rfl rfl rfl rfl
theorem upd_self {T:PT} (hT:T.Ok) {i:Nat} {n:PN} (hg:zAe i T.nodes=some n):T.upd i n=T:=by
 have e:zA2 zAG i n T.nodes=T.nodes:=zBo.ext zAG (hT.ris.put zAG zCo i n) hT.ris fun a=>by
  by_cases e:a=i
  · subst e;rw [zAr,hg]
  · rw [zAi zAG _ e]
 unfold PT.upd;rw [e]
def hdD (x:Hd) (D:Dat) (iA:Option Addr) (ic:Nat) (dA:Option Addr) (dc:Nat):Hd:={x with iA:=iA,ic:=ic,dA:=dA,dc:=dc,idx:=D.map (·.1),dat:=D.map (·.2)}
def setZ (y:Hd) (z:Int):Hd:={y with size:=z}
structure HdO (S:Nat→Prop) (w:World) (y:Hd):Prop where
 at_:HdAt w w.heap.size y
 oi:zGI S y.idx.length y.iA
 od:zGI S y.dat.length y.dA
theorem HdO.fresh {S:Nat→Prop} {w w':World} {y:Hd} (h:HdO S w y) (hb:Below w.heap.size w w'):HdO S w' y:=⟨(h.at_.below hb).more hb.size,h.oi,h.od⟩
theorem HdO.chg {S:Nat→Prop} {w w':World} {y:Hd} (h:HdO S w y) (hc:Chg S w w'):HdO S w' y:=⟨(zGj h.at_ hc h.oi h.od).more hc.size,h.oi,h.od⟩
theorem laid_in {S:Nat→Prop} {w:World} {x:Hd} {D:Dat} {iA:Option Addr} {ic:Nat} {dA:Option Addr} {dc k:Nat} {s:List UInt8} (h:HdO S w (hdD x D iA ic dA dc)) (hS:∀ b,S b→b<w.heap.size) (hD:DOk D) (hs:s.length=128) :
 Calls AF 120 #[.agg (zAb (hdD x D iA ic dA dc)).toArray,.int .i64 (k:Int),.agg (bvs s).toArray] w fun e w'=>(∃ iA ic dA dc,e=.returned (.agg (zAb (hdD x (zA2 zAG k s D) iA ic dA dc)).toArray)∧HdO S w' (hdD x (zA2 zAG k s D) iA ic dA dc))∧Below w.heap.size w w':=by
 have fA:zBe kB (k,s) false ((hdD x D iA ic dA dc).idx.zip (hdD x D iA ic dA dc).dat)=zA2 zAG k s D:=by
  show zBe kB (k,s) false ((D.map (·.1)).zip (D.map (·.2)))=_
  rw [zip_ab,zHE k s hD.ris]
 refine (zJb w.heap.size (hdD x D iA ic dA dc) k s w h.at_ nr hs (by show (D.map (·.1)).length≤1100;rw [Ar];have:=hD.dlen;omega)).mono ?_;rintro e w' ⟨⟨iA',ic',dA',dc',rfl,hy,h1,h2⟩,hb⟩;rw [fA] at hy;refine⟨⟨iA',ic',dA',dc',?_,hy,fun _ a ea hs=>?_,fun _ a ea hs=>?_⟩,hb⟩
 · rw [fA];rfl
 · have:=h1 a ea;have:=hS _ hs;omega
 · have:=h2 a ea;have:=hS _ hs;omega
theorem zHS (S:Nat→Prop) (t:Tr) (T:PT) (i:Nat) (n:PN) (x:Hd) (off:Int) (ds:List UInt8) (A:Option Addr) (c:Nat) (w:World) (h:RefS S w t T) (hx:HdR S w x i n) (hS:∀ b,S b→b<w.heap.size) (hT:T.Inv) (hg:zAe i T.nodes=some n) (hd:n.dir=false)
 (hds:Sees w w.heap.size 1 A ds.length (bvs ds)) (lL:ds.length≤1000000000) :
 Calls AF 84 #[.agg (zAa t).toArray,.agg (zAb x).toArray,.int .i64 off,.slice A ds.length c] w (zIo S (T.write i off ds) w):=by
 obtain⟨lk,gW⟩:=nM (T.write i off ds);rw [gW];obtain⟨Q,hQ⟩:=nM (zIo S lk w);rw [hQ];obtain⟨g,hz⟩:=nM (w.heap.size);have fV:=hid (zBP h hz 3);have jY:=hid (inS (k:=3) hS hz);have kS:Hid (∀ W,Below g w W→HdR (zAJ S g 3) W x i n):=hid fun W hb=>(hx.addR 3 (Nat.le_of_eq hz)).fresh (hz▸hb);have gX:=(hT.gr.ok.get hg).1
 have gY:Hid (∀ W,Below g w W→Sees W g 1 A ds.length (bvs ds)):=hid fun W hb=>by rw [hz] at hds;exact hds.below hb
 unfold PT.write at gW;simp only [zAn hg] at gW;have fA:=sth_0 w t x;rw [hz] at fA;have kT:=hx.rep.fidx gX hd;have kU:=hx.rep.fdat gX hd;have fO:x.size=(n.size:Int):=hx.rep.size;have fW:=hid hQ;have mE:Hid (∀ b,S b→b<g):=hid (by rw [←hz];exact hS);have hu:=hid gW.symm;have gL:=hid hT;have jZ:=hid hg;have kV:=hid hd;have fF:=hid gX;have gM:=hid kT;have gZ:=hid kU;have fX:=hid hz;have mF:=gX.size;have kA:=hid hx.rep;obtain⟨dl,gN⟩:=nM (ds.length);rw [gN] at lL hu gY ⊢;have fB:=hid gN;clear gW hQ h hx hS hT hg hd gX kT kU hds gN;go_enter Tryz.func84,Tryz.ntmps84;go_upto_region 1 with (fail)
 try simp only [hz]
 change AR _ _ _ _ (((w.alloc (.cells (zAa t).toArray 28)).alloc (.cells (zAb x).toArray 123)).alloc (.cells z4.toArray 28));generalize ((w.alloc (.cells (zAa t).toArray 28)).alloc (.cells (zAb x).toArray 123)).alloc (.cells z4.toArray 28)=w0 at *;clear hz;by_cases fG:off<0∨131072<dl∨136704<off+dl
 · have fP:Hid (lk=(T,101)):=hid (by rw [hu.o,if_pos fG]);by_cases q1:off<0
   · have t1:decide (off<0)=true:=decide_eq_true q1;clear fG
     go_wp2_with (first
      | (refine ldT fA.tb rfl rfl rfl ?_)
      | (refine stT t fA.rb rfl rfl rfl (by rfl) rfl ?_))
     exact zAA (k:=3) fA.rb fW.o fP.o (fV.o _ fA.bl) fA.bl fX.o ⟨by omega,by omega⟩ rfl rfl rfl rfl
   have t1:decide (off<0)=false:=decide_eq_false q1;by_cases q2:131072<dl
   · have t2:decide ((dl:Int) > 131072)=true:=decide_eq_true (by omega);clear fG
     go_wp2_with (first
      | (refine ldT fA.tb rfl rfl rfl ?_)
      | (refine stT t fA.rb rfl rfl rfl (by rfl) rfl ?_))
     exact zAA (k:=3) fA.rb fW.o fP.o (fV.o _ fA.bl) fA.bl fX.o ⟨by omega,by omega⟩ rfl rfl rfl rfl
   have t2:decide ((dl:Int) > 131072)=false:=decide_eq_false (by omega);by_cases q3:136704<off
   · have t3:decide (off > 136704)=true:=decide_eq_true (by omega);clear fG
     go_wp2_with (first
      | (refine ldT fA.tb rfl rfl rfl ?_)
      | (refine stT t fA.rb rfl rfl rfl (by rfl) rfl ?_))
     exact zAA (k:=3) fA.rb fW.o fP.o (fV.o _ fA.bl) fA.bl fX.o ⟨by omega,by omega⟩ rfl rfl rfl rfl
   have t3:decide (off > 136704)=false:=decide_eq_false (by omega);have v0:IntKind.i64.wrap (off+(dl:Int))=off+(dl:Int):=zAF _ (by omega);have t4:decide (off+(dl:Int) > 136704)=true:=decide_eq_true (by omega);clear fG
   go_wp2_with (first
    | (refine ldT fA.tb rfl rfl rfl ?_)
    | (refine stT t fA.rb rfl rfl rfl (by rfl) rfl ?_))
   exact zAA (k:=3) fA.rb fW.o fP.o (fV.o _ fA.bl) fA.bl fX.o ⟨by omega,by omega⟩ rfl rfl rfl rfl
 have h0:0≤off:=by omega
 obtain⟨e,rfl⟩:=Int.eq_ofNat_of_zero_le h0
 have kC:e+dl≤136704:=by omega
 have lM:dl≤131072:=by omega
 have fP:=hu.o;rw [if_neg fG] at fP;simp only [Int.toNat_natCast] at fP;have t1:decide ((e:Int)<0)=false:=decide_eq_false (by omega);have t2:decide ((dl:Int) > 131072)=false:=decide_eq_false (by omega);have t3:decide ((e:Int) > 136704)=false:=decide_eq_false (by omega);have v0:IntKind.i64.wrap ((e:Int)+(dl:Int))=(e:Int)+(dl:Int):=zAF _ (by omega);have t4:decide ((e:Int)+(dl:Int) > 136704)=false:=decide_eq_false (by omega);clear fG hu h0;by_cases kD:dl=0
 · have kW:n.wrote e ds=n:=by
    have h9:ds=[]:=List.eq_nil_of_length_eq_zero (fB.o.trans kD);rw [h9];rfl
   have jR:Hid (lk=(T,0)):=hid (by
    rw [fP,kW,if_pos (by have:=gL.o.room;omega),upd_self gL.o.gr.ok jZ.o])
   have t5:((dl:Int)==0)=true:=by rw [kD];rfl
   clear fP kW kD
   go_wp2_with (first
    | (refine ldT fA.tb rfl rfl rfl ?_)
    | (refine stT t fA.rb rfl rfl rfl (by rfl) rfl ?_))
   exact zAA (k:=3) fA.rb fW.o jR.o (fV.o _ fA.bl) fA.bl fX.o ⟨by omega,by omega⟩ rfl rfl rfl rfl
 have t5:((dl:Int)==0)=false:=by simp;omega
 have jR:=hid fP
 have vq:IntKind.i64.wrap ((e:Int) / 128)=((e / 128:Nat):Int):=by rw [zAF _ (by omega)];omega
 have vq2:(e:Int).tdiv 128=((e / 128:Nat):Int):=by rw [Int.tdiv_eq_ediv_of_nonneg (by omega)];omega
 clear fP
 go_upto_region 6 with (first
  | (refine AW rfl 123 _ rfl (g+1) rfl 123 (zAb x).toArray _ _ fA.xb AL rfl rfl ?_)
  | (refine AX rfl 123 _ _ rfl w0.heap.size (zAb x).toArray rfl (by rfl) 123 _ (AQ w0 123 z8) rfl rfl (zHb x) ?_))
 obtain⟨hY,kE⟩:=zBt w0 x;have kX:=fA.fresh kE;have mG:g+3≤w0.heap.size:=fA.le;change AR _ _ _ _ ((w0.alloc (.cells z8.toArray 123)).setRow w0.heap.size (zAb x).toArray);have lN:Hid (∀ W:World,w0.heap.size+1≤W.heap.size→∀ b,zAJ (zAJ S g 3) w0.heap.size 1 b→b<W.heap.size):=hid fun W hW=>zA8 (fun b hb=>jY.o W (by omega) b hb) hW
 have lO:Hid (∀ W,Below w0.heap.size w0 W→HdO (zAJ (zAJ S g 3) w0.heap.size 1) W x):=hid fun W hb=>by
  have h9:=((kS.o w0 fA.bl).addR 1 nr).fresh hb;exact⟨h9.at_,h9.oi,h9.od⟩
 have kF:=hid kE;clear kE fA;generalize (w0.alloc (.cells z8.toArray 123)).setRow w0.heap.size (zAb x).toArray=w1 at *;generalize lP:w0.heap.size=y at *
 have kY:x=hdD x n.data x.iA x.ic x.dA x.dc:=by
  unfold hdD;rw [←gM.o,←gZ.o]
 have kG:=hid hY;have jA:=hid kX;have gO:=hid (lO.o w1 kF.o);rw [kY] at kG gO
 have fH:Hid (wrB n.data e (ds.take (e / 128 * 128-e))=n.data):=hid (by
  rw [show e / 128 * 128-e=0 by omega];rfl)
 have lQ:Hid (∀ j,DOk (wrB n.data e (ds.take j))):=hid fun j=>fF.o.dOk.wrB (by rw [Ap,fB.o];omega);clear hY kX lP kY t1 t2 t3 t4 t5;go_wp2_with fail
 go_loopw [11] (fun k' wr=>∃ (k:Nat) (iA:Option Addr) (ic:Nat) (dA:Option Addr) (dc:Nat),e / 128≤k∧k≤1069∧k'=.int .i64 (k:Int)∧Hid (Blk wr y 123 (zAb (hdD x (wrB n.data e (ds.take (k * 128-e))) iA ic dA dc)))∧Hid (HdO (zAJ (zAJ S g 3) y 1) wr (hdD x (wrB n.data e (ds.take (k * 128-e))) iA ic dA dc))∧Hid (StH w wr g t x)) (fun k' _=>1069-(intOf k').toNat)
 case atStart=>exact⟨e / 128,x.iA,x.ic,x.dA,x.dc,Ax _,by omega,by first | rfl | go_num,by rw [fH.o];exact kG,by rw [fH.o];exact gO,jA⟩
 case round =>
  obtain⟨k,iA,ic,dA,dc,lR,mH,rfl,jS,jT,gP⟩:=hrel;clear kG gO jA fH;have v1:IntKind.i64.wrap ((k:Int) * 128)=(k:Int) * 128:=zAF _ (by omega);by_cases lS:k * 128<e+dl
  · have t1:decide ((k:Int) * 128<(e:Int)+(dl:Int))=true:=decide_eq_true (by omega);have kZ:=zHi wr.heap.size x k wr (kS.o wr gP.o.bl).at_ nr (by rw [gM.o,Ar];have:=fF.o.dlen;omega);have fY:=hid (kZ.mono fun e w' h9=>zJL gM.o gZ.o fF.o.dris h9);unfold hdV zB6 at fY;obtain⟨s,jU⟩:=nM (zA4 n.data k);rw [jU] at fY
    have fU:s.length=128:=by rw [←jU];exact fF.o.dOk.blk k
    have kI:=hid jU;have jB:=gP.o;clear kZ jU
    go_upto_region 10 with (first
     | (refine AW rfl 123 _ rfl (g+1) rfl 123 (zAb x).toArray _ _ jB.xb AL rfl rfl ?_)
     | (go_at_call 119;(with_reducible refine (fY.o).mono ?_);rintro eb w3 ⟨⟨bb,rfl⟩,jC⟩)
     | (refine AX rfl 187 _ _ rfl w3.heap.size (bvs s).toArray rfl (by rfl) 187 _ (AQ w3 187 (bvs zBD)) (zAD fU) (by rw [At,At,zAc,zAc,fU,zAs]) (zBa s) ?_))
    have lA:Blk ((w3.alloc (.cells AM 187)).setRow w3.heap.size (bvs s).toArray) w3.heap.size 187 (bvs s):=AS _ _ _ _ _ _ (zBf rfl);have lB:Below wr.heap.size wr ((w3.alloc (.cells AM 187)).setRow w3.heap.size (bvs s).toArray):=jC.trans ((((AO (fun b=>w3.heap.size≤b) w3).alloc _).setRow (fun _=>Ax _) _).below jC.size fun b hb h=>by have:=jC.size;omega);change AR _ _ _ _ ((w3.alloc (.cells AM 187)).setRow w3.heap.size (bvs s).toArray);have jD:=hid lB;have jE:=hid lA;have kJ:wr.heap.size≤w3.heap.size:=jC.size;clear lB lA jC fY jB;generalize (w3.alloc (.cells AM 187)).setRow w3.heap.size (bvs s).toArray=w4 at *;generalize w3.heap.size=sb at *;generalize lT:wr=wo at *;clear lT;go_wp2_with fail
    go_loopw [14] (fun j' wr=>∃ q:Nat,q≤128∧j'=.int .i64 (q:Int)∧Hid (Blk wr sb 187 (bvs (wl e k ds s q)))∧Hid (Below wo.heap.size wo wr)) (fun j' _=>128-(intOf j').toNat)
    case atStart=>exact⟨0,Ay _,rfl,jE,jD⟩
    case round =>
     obtain⟨q,hq,rfl,fZ,gA⟩:=hrel;clear jD jE;by_cases lU:q<128
     · have gI:=zH8 e k ds s q;have v2:IntKind.i64.wrap ((k:Int) * 128+(q:Int))=(k:Int) * 128+(q:Int):=zAF _ (by omega);have v3:IntKind.i64.wrap ((k:Int) * 128+(q:Int)-(e:Int))=(k:Int) * 128+(q:Int)-(e:Int):=zAF _ (by omega);by_cases jF:e≤k * 128+q∧k * 128+q-e<ds.length
       · obtain⟨a,ha⟩:=nM (k * 128+q-e);rw [dif_pos jF] at gI
         have lV:a<dl:=by have:=fB.o;omega
         have lW:(k:Int) * 128+(q:Int)-(e:Int)=(a:Int):=by omega
         rw [lW] at v3;have v4:IntKind.i64.wrap (a:Int)=(a:Int):=zAF _ (by omega)
         have lX:a<ds.length:=by rw [fB.o];exact lV
         simp only [ha] at gI;obtain⟨b5,off5,lY,-,lC⟩:=(gY.o wr ((gP.o.fresh gA.o).bl)).at_ (by omega);have c0:=lC a _ (zBK ds a lX);subst lY
         have lZ:q<(wl e k ds s q).length:=by rw [zEM,fU];exact lU
         have z0:=(fZ.o.cell q).trans (by rw [zBK _ _ lZ]);have zf:=fZ.o.frozen q;obtain⟨bv,lD⟩:=nM (ds[a]);rw [lD] at c0
         have lE:Blk (wr.setCell ⟨sb,q,none⟩ (.int .u8 (bv.toNat:Int))) sb 187 (bvs (wl e k ds s (q+1))):=by
          have h9:=fZ.o.set_ q (.int .u8 (bv.toNat:Int));rw [gI];rw [lD];rw [show bvs ((wl e k ds s q).set q bv)=(bvs (wl e k ds s q)).set q (.int .u8 (bv.toNat:Int)) from by unfold bvs;rw [List.map_set]];exact h9
         have lF:Below wo.heap.size wo (wr.setCell ⟨sb,q,none⟩ (.int .u8 (bv.toNat:Int))):=gA.o.setCell (p:=⟨sb,q,none⟩) kJ _;have kK:=hid lE;have kL:=hid lF;clear gI jF fZ gA lE lF lC ha;go_wp2_with fail;go_roundw
         case rel=>exact⟨q+1,by omega,by go_num,kK,kL⟩
         case measure=>simp [intOf];omega
       · rw [dif_neg jF] at gI;rw [←gI] at fZ;by_cases mA:e≤k * 128+q
         · have t6:decide ((k:Int) * 128+(q:Int)-(e:Int)≥0)=true:=decide_eq_true (by omega);have t7:decide ((k:Int) * 128+(q:Int)-(e:Int)<(dl:Int))=false:=decide_eq_false (by have:=fB.o;omega);clear gI jF;go_wp2_with fail;go_roundw
           case rel=>exact⟨q+1,by omega,by go_num,fZ,gA⟩
           case measure=>simp [intOf];omega
         · have t6:decide ((k:Int) * 128+(q:Int)-(e:Int)≥0)=false:=decide_eq_false (by omega);clear gI jF;go_wp2_with fail;go_roundw
           case rel=>exact⟨q+1,by omega,by go_num,fZ,gA⟩
           case measure=>simp [intOf];omega
     · obtain rfl:q=128:=by omega
       have jV:=jS.o.fresh gA.o;have lG:=jT.o.fresh gA.o;have mB:=gP.o.fresh gA.o;obtain⟨D,lH⟩:=nM (wrB n.data e (ds.take (k * 128-e)));have jG:=wr_step fF.o.dOk e k ds (by rw [fB.o];omega) (by rw [fB.o];exact kC) lR (by rw [fB.o];exact lS);rw [kI.o] at jG;have gQ:=lQ.o (k * 128-e);rw [lH] at jG gQ jV lG
       have gB:(wl e k ds s 128).length=128:=by rw [zEM];exact fU
       obtain⟨s7,jH⟩:=nM (wl e k ds s 128);rw [jH] at fZ gB jG;have jI:=hid (laid_in (k:=k) lG (lN.o wr jV.lt) gQ gB);have kM:=hid jG;have kN:=fZ.o
       have kO:∀ b,b=y→g+3≤b:=fun b e=>by omega
       clear jS jT gP jG gQ jH lH gA
       go_wp2_with (first
        | (refine AW rfl 123 _ rfl y rfl 123 (zAb (hdD x D iA ic dA dc)).toArray _ _ jV AL rfl rfl ?_)
        | (refine AW rfl 187 _ rfl sb rfl 187 (bvs s7).toArray _ _ kN AH rfl (by rw [zA9,At,zAc,gB]) ?_)
        | (go_at_call 120;(with_reducible refine (jI.o).mono ?_);rintro eb w5 ⟨⟨iA5,ic5,dA5,dc5,rfl,lI⟩,lJ⟩;have kP:=jV.fresh lJ;have lK:=mB.fresh lJ)
        | (refine AX rfl 123 _ _ rfl y (zAb (hdD x (zA2 zAG k s7 D) iA5 ic5 dA5 dc5)).toArray rfl (by rfl) 123 _ kP rfl rfl (zHb _) ?_))
       have gC:Chg (fun b=>b=y) w5 (w5.setRow y (zAb (hdD x (zA2 zAG k s7 D) iA5 ic5 dA5 dc5)).toArray):=(AO (fun b=>b=y) w5).setRow (fun _=>rfl) _;have q1:Blk (w5.setRow y (zAb (hdD x (zA2 zAG k s7 D) iA5 ic5 dA5 dc5)).toArray) y 123 (zAb (hdD x (zA2 zAG k s7 D) iA5 ic5 dA5 dc5)):=AS _ y _ _ _ _ kP;have q2:=lI.chg (gC.mono fun b _ (e:b=y)=>.inr (by omega));have q3:=lK.far gC kO;generalize w5.setRow y (zAb (hdD x (zA2 zAG k s7 D) iA5 ic5 dA5 dc5)).toArray=w6 at *;rw [kM.o] at q1 q2;have q1H:=hid q1;have q2H:=hid q2;have q3H:=hid q3;clear q1 q2 q3 gC lI kP lK;go_roundw
       case rel=>exact⟨k+1,iA5,ic5,dA5,dc5,by omega,by omega,by go_num,q1H,q2H,q3H⟩
       case measure=>simp [intOf];omega
  · have t1:decide ((k:Int) * 128<(e:Int)+(dl:Int))=false:=decide_eq_false (by omega)
    have jJ:wrB n.data e (ds.take (k * 128-e))=wrB n.data e ds:=by rw [List.take_of_length_le (by rw [fB.o];omega)]
    have fI:=jS.o;have gR:=jT.o;rw [jJ] at fI gR;have jW:=hid gR;have gD:=gP.o;have fQ:=wrote_rep (off:=e) (ds:=ds) kA.o fF.o kV.o (by rw [fB.o];omega) (by rw [fB.o];exact kC) iA ic dA dc;rw [fB.o,fO] at fQ;have fR:=hid fQ;have jK:(n.wrote e ds).Ok:=zJH fF.o kV.o (by rw [fB.o];exact kC);have gS:(T.upd i (n.wrote e ds)).Ok:=gL.o.gr.ok.upd jK (gL.o.gr.ok.get jZ.o).2
    have gJ:((((n.wrote e ds).count:Int)-n.count≤(T.sectors:Int)-1-T.inodes-T.used)↔(T.upd i (n.wrote e ds)).used+(T.upd i (n.wrote e ds)).inodes+1≤(T.upd i (n.wrote e ds)).sectors):=by
     have h1:=PT.used_upd gL.o.gr.ok.ris (n':=n.wrote e ds) jZ.o;have e1:(T.upd i (n.wrote e ds)).inodes=T.inodes:=rfl;have e2:(T.upd i (n.wrote e ds)).sectors=T.sectors:=rfl;rw [e1,e2];omega
    have fM:=jR.o;simp only [gJ] at fM;obtain⟨T9,jX⟩:=nM (T.upd i (n.wrote e ds));obtain⟨n9,mC⟩:=nM (n.wrote e ds);rw [jX] at fM gS;rw [mC] at jX fR;have jL:=hid jX;have gK:=hid gS;have y3:=fI.cell 3;have f3:=fI.frozen 3;rw [show (zAb (hdD x (wrB n.data e ds) iA ic dA dc))[3]? = some (.int .i64 x.size) from rfl,fO] at y3;clear jJ fQ gJ jK jX gS jS jT gP jR gR;by_cases gE:(n.size:Int)<(e:Int)+dl
    · have t8:decide ((n.size:Int)<(e:Int)+(dl:Int))=true:=decide_eq_true gE
      have q1:Blk (wr.setCell ⟨y,3,none⟩ (.int .i64 ((e:Int)+dl))) y 123 (zAb (setZ (hdD x (wrB n.data e ds) iA ic dA dc) (if (n.size:Int)<(e:Int)+dl then (e:Int)+dl else n.size))):=by rw [if_pos gE];exact fI.set_ 3 _
      have q2:Chg (fun b=>b=y) wr (wr.setCell ⟨y,3,none⟩ (.int .i64 ((e:Int)+dl))):=(AO (fun b=>b=y) wr).setCell (p:=⟨y,3,none⟩) (fun _=>rfl) _;go_upto_region 19 with (fail);have jM:=hid q1;have gC:=hid q2;clear q1 q2;generalize wr.setCell ⟨y,3,none⟩ (.int .i64 ((e:Int)+dl))=wc at *;have gF:=gD.far gC.o (fun b e=>by omega);have fJ:=jW.o.chg (gC.o.mono fun b _ (e:b=y)=>.inr (by omega));have fS:RepN (setZ (hdD x (wrB n.data e ds) iA ic dA dc) (if (n.size:Int)<(e:Int)+dl then (e:Int)+dl else n.size)) i n9:=fR.o;have jN:HdR (zAJ (zAJ S g 3) y 1) wc (setZ (hdD x (wrB n.data e ds) iA ic dA dc) (if (n.size:Int)<(e:Int)+dl then (e:Int)+dl else n.size)) i n9:=⟨⟨fJ.at_.len,fJ.at_.sec,fJ.at_.idx,fJ.at_.dat⟩,fS,fJ.oi,fJ.od⟩;have fK:=jM.o;obtain⟨x6,fL⟩:=nM ((setZ (hdD x (wrB n.data e ds) iA ic dA dc) (if (n.size:Int)<(e:Int)+dl then (e:Int)+dl else n.size)))
      have fT:HdR (zAJ S g 3) wc x6 i n9:=by rw [←fL];exact jN.mono fun b hb=>.inl hb
      rw [fL] at fK;have fC:=zBr (fV.o _ gF.bl) (jY.o _ gF.le) gL.o.gr.ok fT;rw [jL.o,show ∀ t,trV t=.agg (zAa t).toArray from fun _=>rfl,show ∀ x,hdV x=.agg (zAb x).toArray from fun _=>rfl] at fC;have jO:=hid fC;have mD:y+1≤wc.heap.size:=fK.lt;clear fC fT fL jN fJ jM jW gD fI y3 f3
      go_upto_region 20 with (first
       | (refine ldT gF.tb rfl rfl rfl ?_)
       | (refine AW rfl 123 _ rfl y rfl 123 (zAb x6).toArray _ _ fK AL rfl rfl ?_)
       | (go_at_call 113;(with_reducible refine (jO.o).mono ?_);rintro eb w7 ⟨⟨t7,rfl,gT⟩,jP⟩;have gB:=gF.fresh jP)
       | (refine stT t7 (AQ w7 28 z4) rfl rfl rfl (by rfl) rfl ?_))
      obtain⟨hU,gG⟩:=zAL w7 t7;have fU:=gB.fresh gG;have kQ:=hid (gT.fresh gG);change AR _ _ _ _ ((w7.alloc (.cells z4.toArray 28)).setRow w7.heap.size (zAa t7).toArray);have gU:=zEN (gT.fresh gG).ref gK.o;rw [show trV t7=.agg (zAa t7).toArray from rfl] at gU;have gH:=hid gU;clear gU gG gT gB jP jO;generalize (w7.alloc (.cells z4.toArray 28)).setRow w7.heap.size (zAa t7).toArray=w8 at *;generalize w7.heap.size=ub at *;by_cases fD:T9.used+T9.inodes+1≤T9.sectors
      · rw [decide_eq_true fD] at gH;rw [if_pos fD] at fM;have gV:=hid fM;clear fM
        go_wp2_with (first
         | (refine ldT hU rfl rfl rfl ?_)
         | (go_at_call 121;(with_reducible refine (gH.o).mono ?_);rintro eb w9 ⟨rfl,fN⟩;have fE:=fU.fresh fN;have jQ:=hU.fresh fN)
         | (refine ldT jQ rfl rfl rfl ?_)
         | (refine stT t7 fE.rb rfl rfl rfl (by rfl) rfl ?_))
        exact zAA (k:=3) fE.rb fW.o gV.o (kQ.o.fresh fN) fE.bl fX.o ⟨by omega,by omega⟩ rfl rfl rfl rfl
      · rw [decide_eq_false fD] at gH;rw [if_neg fD] at fM;have gV:=hid fM;clear fM
        go_wp2_with (first
         | (refine ldT hU rfl rfl rfl ?_)
         | (go_at_call 121;(with_reducible refine (gH.o).mono ?_);rintro eb w9 ⟨rfl,fN⟩;have fE:=fU.fresh fN;have jQ:=hU.fresh fN)
         | (refine ldT fE.tb rfl rfl rfl ?_)
         | (refine stT t fE.rb rfl rfl rfl (by rfl) rfl ?_))
        exact zAA (k:=3) fE.rb fW.o gV.o (fV.o _ fE.bl) fE.bl fX.o ⟨by omega,by omega⟩ rfl rfl rfl rfl
    · have t8:decide ((n.size:Int)<(e:Int)+(dl:Int))=false:=decide_eq_false gE
      have q1:Blk wr y 123 (zAb (setZ (hdD x (wrB n.data e ds) iA ic dA dc) (if (n.size:Int)<(e:Int)+dl then (e:Int)+dl else n.size))):=by
       rw [if_neg gE,←fO];exact fI
      have q2:Chg (fun b=>b=y) wr wr:=AO _ _;go_upto_region 19 with (fail);have jM:=hid q1;have gC:=hid q2;clear q1 q2;generalize kR:wr=wc at *;clear kR;have gF:=gD.far gC.o (fun b e=>by omega);have fJ:=jW.o.chg (gC.o.mono fun b _ (e:b=y)=>.inr (by omega));have fS:RepN (setZ (hdD x (wrB n.data e ds) iA ic dA dc) (if (n.size:Int)<(e:Int)+dl then (e:Int)+dl else n.size)) i n9:=fR.o;have jN:HdR (zAJ (zAJ S g 3) y 1) wc (setZ (hdD x (wrB n.data e ds) iA ic dA dc) (if (n.size:Int)<(e:Int)+dl then (e:Int)+dl else n.size)) i n9:=⟨⟨fJ.at_.len,fJ.at_.sec,fJ.at_.idx,fJ.at_.dat⟩,fS,fJ.oi,fJ.od⟩;have fK:=jM.o;obtain⟨x6,fL⟩:=nM ((setZ (hdD x (wrB n.data e ds) iA ic dA dc) (if (n.size:Int)<(e:Int)+dl then (e:Int)+dl else n.size)))
      have fT:HdR (zAJ S g 3) wc x6 i n9:=by rw [←fL];exact jN.mono fun b hb=>.inl hb
      rw [fL] at fK;have fC:=zBr (fV.o _ gF.bl) (jY.o _ gF.le) gL.o.gr.ok fT;rw [jL.o,show ∀ t,trV t=.agg (zAa t).toArray from fun _=>rfl,show ∀ x,hdV x=.agg (zAb x).toArray from fun _=>rfl] at fC;have jO:=hid fC;have mD:y+1≤wc.heap.size:=fK.lt;clear fC fT fL jN fJ jM jW gD fI y3 f3
      go_upto_region 20 with (first
       | (refine ldT gF.tb rfl rfl rfl ?_)
       | (refine AW rfl 123 _ rfl y rfl 123 (zAb x6).toArray _ _ fK AL rfl rfl ?_)
       | (go_at_call 113;(with_reducible refine (jO.o).mono ?_);rintro eb w7 ⟨⟨t7,rfl,gT⟩,jP⟩;have gB:=gF.fresh jP)
       | (refine stT t7 (AQ w7 28 z4) rfl rfl rfl (by rfl) rfl ?_))
      obtain⟨hU,gG⟩:=zAL w7 t7;have fU:=gB.fresh gG;have kQ:=hid (gT.fresh gG);change AR _ _ _ _ ((w7.alloc (.cells z4.toArray 28)).setRow w7.heap.size (zAa t7).toArray);have gU:=zEN (gT.fresh gG).ref gK.o;rw [show trV t7=.agg (zAa t7).toArray from rfl] at gU;have gH:=hid gU;clear gU gG gT gB jP jO;generalize (w7.alloc (.cells z4.toArray 28)).setRow w7.heap.size (zAa t7).toArray=w8 at *;generalize w7.heap.size=ub at *;by_cases fD:T9.used+T9.inodes+1≤T9.sectors
      · rw [decide_eq_true fD] at gH;rw [if_pos fD] at fM;have gV:=hid fM;clear fM
        go_wp2_with (first
         | (refine ldT hU rfl rfl rfl ?_)
         | (go_at_call 121;(with_reducible refine (gH.o).mono ?_);rintro eb w9 ⟨rfl,fN⟩;have fE:=fU.fresh fN;have jQ:=hU.fresh fN)
         | (refine ldT jQ rfl rfl rfl ?_)
         | (refine stT t7 fE.rb rfl rfl rfl (by rfl) rfl ?_))
        exact zAA (k:=3) fE.rb fW.o gV.o (kQ.o.fresh fN) fE.bl fX.o ⟨by omega,by omega⟩ rfl rfl rfl rfl
      · rw [decide_eq_false fD] at gH;rw [if_neg fD] at fM;have gV:=hid fM;clear fM
        go_wp2_with (first
         | (refine ldT hU rfl rfl rfl ?_)
         | (go_at_call 121;(with_reducible refine (gH.o).mono ?_);rintro eb w9 ⟨rfl,fN⟩;have fE:=fU.fresh fN;have jQ:=hU.fresh fN)
         | (refine ldT fE.tb rfl rfl rfl ?_)
         | (refine stT t fE.rb rfl rfl rfl (by rfl) rfl ?_))
        exact zAA (k:=3) fE.rb fW.o gV.o (fV.o _ fE.bl) fE.bl fX.o ⟨by omega,by omega⟩ rfl rfl rfl rfl
def BytP (n:PN) (w:World) (e:Ending) (w':World):Prop :=
 ∃ ob,e=.returned (.slice (some ⟨ob,0,none⟩) n.size n.size)∧w.heap.size≤ob∧Blk w' ob 5 (bvs (rdL n.data 0 n.size))∧Below w.heap.size w w'
theorem bvs_setc (l:List UInt8) (q:Nat) (b:UInt8):(bvs l).set q (.int .u8 (b.toNat:Int))=bvs (l.set q b):=by unfold bvs;rw [List.map_set]
theorem rbyt_any (S:Nat→Prop) (i:Nat) (n:PN) (x:Hd) (w:World) (hx:HdR S w x i n) (fE:n.Ok) (hd:n.dir=false) :
 Calls AF 122 #[.agg (zAb x).toArray] w (BytP n w):=by
 obtain⟨Q,hQ⟩:=nM (BytP n w);rw [hQ];have jH:=hid hQ;obtain⟨g,hz⟩:=nM (w.heap.size);have gA:=AQ w 123 (zAb x);have gE:Below w.heap.size w (w.alloc (.cells (zAb x).toArray 123)):=br.alloc nr _
 have fR:(w.alloc (.cells (zAb x).toArray 123)).heap.size=w.heap.size+1:=by simp
 rw [hz] at gA gE fR;have jI:Hid (∀ W,Below g w W→HdR S W x i n):=hid fun W hb=>hx.fresh (hz▸hb);have fK:=hid (hx.rep.fidx fE hd);have fL:=hid (hx.rep.fdat fE hd);have fA:x.size=(n.size:Int):=hx.rep.size;have jJ:=fE.size;have jK:=hid fE;have jL:=hid hz;obtain⟨z,gF⟩:=nM (n.size);rw [gF] at fA jJ;have gG:=hid gF;obtain⟨d,fP⟩:=nM (n.data);rw [fP] at fK fL;have gH:=hid fP;have gI:Hid (zBo zAG d):=hid (by rw [←fP];exact fE.dris)
 have fS:Hid (∀ p∈d,p.1≤1067∧p.2.length=128):=hid fun p hp=>by rw [←fP] at hp;exact⟨fE.keys p hp,fE.secs p hp⟩
 obtain⟨len,fB⟩:=nM (d.length);have fG:=hid fB
 have jW:len≤1068:=by rw [←fB,←fP];exact fE.dlen
 have fF:Hid (x.idx.length=len):=hid (by rw [fK.o,Ar,fB]);have fM:Hid (x.dat.length=len):=hid (by rw [fL.o,Ar,fB]);obtain⟨i0,hi,jM,jN,jO⟩:=AU zCP;clear hQ hx fE hd gF fP fB;go_enter Tryz.func122,Tryz.ntmps122;go_upto_region 1 with (fail)
 try simp only [hz]
 change AR _ _ _ _ (w.alloc (.cells (zAb x).toArray 123));generalize w.alloc (.cells (zAb x).toArray 123)=w0 at *;clear hz;obtain⟨-,-,-,c3,-,-,-,-⟩:=zAN gA;rw [fA] at c3
 go_upto_region 2 with (first
  | (at_make;refine wpList_make_full _ rfl (.tmp 7) (.tmp 7) _ rfl (g+1) 5 i0 _ 1 AN hi jM jN .i64 .i64 (z:Int) (z:Int) z rfl rfl rfl rfl (by rw [jO];omega) (by unfold maxLen;omega) (by omega) ?_;intro w1 gV gW;have gJ:Blk w1 w0.heap.size 5 (List.replicate z (.int .u8 0)):=(by (have h9:=zEI gV;rw [zBg _ rfl] at h9;exact h9))))
 have gX:Below (g+1) w0 w1:=((AO (fun _=>False) w0).grown gW (by intro g' e;simp at e)).below (by omega) fun _ _ e=>e;rw [fR] at gJ
 have fT:Hid (Blk w1 (g+1) 5 (bvs (bw d z 0 0))):=hid (by
  rw [bw_0];unfold bvs;rw [List.map_replicate];exact gJ)
 have fU:=hid gX;have fV:=hid gE;have fN:=hid gA;clear gV gW gJ gX c3 gE gA;go_wp2_with fail
 go_loopw [4] (fun i' wr=>∃ k:Nat,k≤len∧i'=.int .i64 (k:Int)∧Hid (Blk wr (g+1) 5 (bvs (bw d z k 0)))∧Hid (Below (g+1) w0 wr)) (fun i' _=>len-(intOf i').toNat)
 case atStart=>exact⟨0,Ay _,rfl,fT,fU⟩
 case round =>
  obtain⟨k,hk,rfl,hO,hB⟩:=hrel;clear fT fU;have gK:=fN.o.below hB.o (by omega);obtain⟨-,-,-,x3,-,-,x6,x7⟩:=zAN gK;rw [fA] at x3;rw [fF.o] at x6;rw [fM.o] at x7;by_cases gL:k<len
  · have gB:k<d.length:=by rw [fG.o];exact gL
    have jP:k<x.idx.length:=by rw [fF.o];exact gL
    have jQ:k<x.dat.length:=by rw [fM.o];exact gL
    obtain⟨p,hp⟩:=nM (d[k]);obtain⟨jR,gY⟩:=fS.o p (by rw [←hp];exact Ak gB);obtain⟨fr,s⟩:=p;simp only at jR gY
    have e1:x.idx[k]=fr:=by simp only [fK.o,Au,hp]
    have e2:x.dat[k]=s:=by simp only [fL.o,Au,hp]
    have fC:∀ W,Below (g+1) w0 W→∃ bi oi bd od,x.iA=some ⟨bi,oi,none⟩∧x.dA=some ⟨bd,od,none⟩∧W.cell? ⟨bi,oi+k,none⟩=some (.int .i64 (fr:Int))∧W.rangeAt bd (od+k * 128) (bvs s):=fun W hW=>by
     have h9:=(jI.o W (fV.o.trans (hW.mono (Nat.le_succ g)))).at_;obtain⟨bi,oi,gC,-,jS⟩:=h9.idx.at_ (by omega);obtain⟨bd,od,gD,-,fW⟩:=h9.sec_cell k jQ;have c0:=jS k _ (zBO x.idx k jP);rw [e1] at c0;rw [e2] at fW;exact⟨bi,oi,bd,od,gC,gD,c0,fW⟩
    have fO:=hid fC;have gM:=hid hp;obtain⟨bi,oi,bd,od,gC,gD,-,-⟩:=fC w0 br;have fX:=hid gC;have fY:=hid gD;clear hp e1 e2 fC gC gD x3 x6 x7 gK;have t0:decide ((k:Int)<(len:Int))=true:=decide_eq_true (by omega);have x6:=(zAN (fN.o.below hB.o (by omega))).2.2.2.2.2.2.1;rw [fF.o] at x6;go_wp2_with fail
    go_loopw [5] (fun j' wr=>∃ q:Nat,q≤128∧j'=.int .i64 (q:Int)∧Hid (Blk wr (g+1) 5 (bvs (bw d z k q)))∧Hid (Below (g+1) w0 wr)) (fun j' _=>128-(intOf j').toNat)
    case atStart=>exact⟨0,Ay _,rfl,hO,hB⟩
    case round =>
     obtain⟨q,hq,rfl,fH,fI⟩:=hrel;clear hO hB x6;have gZ:=fN.o.below fI.o (by omega);obtain⟨-,-,-,x3,-,-,x6,x7⟩:=zAN gZ;rw [fA] at x3;rw [fF.o,fX.o] at x6;rw [fM.o,fY.o] at x7;obtain⟨bi2,oi2,bd2,od2,h1,h2,c0,fW⟩:=fO.o wr fI.o;rw [fX.o] at h1;rw [fY.o] at h2;injection h1 with h1;injection h1 with h1 h3;injection h2 with h2;injection h2 with h2 h4;subst h1 h3 h2 h4;have v1:IntKind.i64.wrap ((fr:Int) * 128)=(fr:Int) * 128:=zAF _ (by omega);have v2:IntKind.i64.wrap ((fr:Int) * 128+(q:Int))=(fr:Int) * 128+(q:Int):=zAF _ (by omega);have gN:=hid fW;clear gZ fW;by_cases jA:q<128
     · have t1:decide ((q:Int)<128)=true:=decide_eq_true (by omega);by_cases jT:fr * 128+q<z
       · have t2:decide ((fr:Int) * 128+(q:Int)<(z:Int))=true:=decide_eq_true (by omega);go_upto_region 6 with (fail)
         go_quiet (fail)
         have fQ:=zAd fI.o nq;have fJ:=hid (fH.o.fresh (zAd (AZ _ wr) nq));have y6:(wr.drewN nq).cell? ⟨g,6,none⟩=some (.slice (some ⟨bi,oi,none⟩) len x.ic):=x6;have y7:(wr.drewN nq).cell? ⟨g,7,none⟩=some (.slice (some ⟨bd,od,none⟩) len x.dc):=x7;have y0:(wr.drewN nq).cell? ⟨bi,oi+k,none⟩=some (.int .i64 (fr:Int)):=c0
         have jB:q<s.length:=by rw [gY];exact jA
         have y1:(wr.drewN nq).cell? ⟨bd,od+k * 128+q,none⟩=some (.int .u8 (s[q].toNat:Int)):=gN.o q _ (zBK s q jB);obtain⟨bv,jC⟩:=nM (s[q]);rw [jC] at y1;have gO:=hid fQ;obtain⟨a,ha⟩:=nM (fr * 128+q)
         have jU:a<z:=by omega
         have jV:(fr:Int) * 128+(q:Int)=(a:Int):=by omega
         have gP:=hid (bw_step gI.o (z:=z) gB jA (b:=bv) (by rw [gM.o];rw [Ah jB,jC]));rw [gM.o] at gP;simp only [ha] at gP
         have jD:a<(bw d z k q).length:=by rw [zEP];exact jU
         have z0:=(fJ.o.cell a).trans (by rw [zBK _ _ jD]);obtain⟨ov,jE⟩:=nM ((bw d z k q)[a]);rw [jE] at z0;have zf:=fJ.o.frozen a;clear jE;rw [jV] at v2;have v3:IntKind.i64.wrap (a:Int)=(a:Int):=zAF _ (by omega);clear fQ fH fI x3 x6 x7 c0 t2 ha jD;generalize wr.drewN nq=w5 at *;go_upto_region 8 with (fail)
         go_region
         go_upto_region 7 with (fail)
         have jF:Blk (w5.setCell ⟨g+1,a,none⟩ (.int .u8 (bv.toNat:Int))).drew (g+1) 5 (bvs (bw d z k (q+1))):=by
          have h9:Blk (w5.setCell ⟨g+1,a,none⟩ (.int .u8 (bv.toNat:Int))) (g+1) 5 (bvs (bw d z k (q+1))):=by
           rw [gP.o,←bvs_setc];exact fJ.o.set_ a _
          exact h9
         have jG:Below (g+1) w0 (w5.setCell ⟨g+1,a,none⟩ (.int .u8 (bv.toNat:Int))).drew:=(gO.o.setCell (p:=⟨g+1,a,none⟩) nr _).drew;have gQ:=hid jF;have gR:=hid jG;clear jF jG z0 zf fJ;go_wp2_with fail;go_roundw
         case rel=>exact⟨q+1,by omega,by go_num,gQ,gR⟩
         case measure=>simp [intOf];omega
       · have t2:decide ((fr:Int) * 128+(q:Int)<(z:Int))=false:=decide_eq_false (by omega);have fZ:=bw_next (z:=z) (j:=q) gB (by rw [gM.o];exact .inr (by omega));rw [fZ] at fH;have fD:=fH;clear fZ jT;go_upto_region 6 with (fail)
         go_quiet (fail)
         have fQ:=hid (zAd fI.o nq);have fJ:=hid (fD.o.fresh (zAd (AZ _ wr) nq));clear fH fD fI;go_wp2_with fail;go_roundw
         case rel=>exact⟨k+1,by omega,by go_num,fJ,fQ⟩
         case measure=>simp [intOf];omega
     · obtain rfl:q=128:=by omega
       have t1:decide ((128:Int)<128)=false:=rfl;have fZ:=bw_next (z:=z) (j:=128) gB (.inl rfl);rw [fZ] at fH;have fD:=fH;clear fZ;go_upto_region 6 with (fail)
       go_quiet (fail)
       have fQ:=hid (zAd fI.o nq);have fJ:=hid (fD.o.fresh (zAd (AZ _ wr) nq));clear fH fD fI;go_wp2_with fail;go_roundw
       case rel=>exact⟨k+1,by omega,by go_num,fJ,fQ⟩
       case measure=>simp [intOf];omega
  · obtain rfl:k=len:=by omega
    have gS:Hid (bw d z k 0=rdL d 0 z):=hid (by rw [←fG.o];exact bw_all d z);have gT:=hO.o;rw [gS.o] at gT;have gU:=hid gT;clear hO gT gK;go_wp2_with fail;rw [←jH.o];unfold BytP;rw [gG.o,gH.o,jL.o];exact⟨g+1,rfl,by omega,gU.o,fV.o.trans (hB.o.mono (Nat.le_succ g))⟩
theorem slice_hb (W:World) (b off n c m:Nat) (h1:m≤c) (h2:0<c):(Instr.sliceAt 64 (.slice (some ⟨b,off,none⟩) n c) none (some (.int .i64 (m:Int))) none).run AF W=.ok (.slice (some ⟨b,off,none⟩) m c) W:=by
 have hu:Tryz.prog.underlying 64=some (.slice (Tryz.prog.elem 64)):=by kernel_rfl
 have hs:(sizeOf (Tryz.prog.elem 64)).run AF W=.ok 1 W:=by kernel_rfl
 rw [run_sliceAt_slice W 64 _ _ _ _ hu,run_slice_h W 64 (some ⟨b,off,none⟩) n c hu .i64 m (by omega) (by omega),hs]
 have fA:¬c=0:=by omega
 simp [Result.andThen,sliced,fA,Addr.add_lit]
theorem zFY {S:Nat→Prop} {fn:Func} {p:Tmp} {a:Act} {w wz:World} {g:Nat} {an an':Ans} {Q:Ending→World→Prop} {z cs:List Value} (hR:Blk wz (g+1) 67 z) (hQ:(fun e w'=>(∃ v,e=Ending.returned v∧zD2 S w' v an)∧Below w.heap.size w w')=Q) (fB:an=an')
 (hv:zD2 (zAJ S g 2) wz (.agg cs.toArray) an') (fC:cs.length=10) (hb:Below g w wz) (hz:w.heap.size=g)
 (h:fn.results=#[.cell p 67]) (hp:a.tmps.getD p undef=.pointer (some ⟨g+1,0,none⟩)) (hd:a.defers=[]) :
 bodyPost AF fn Q .ret a (wz.setRow (g+1) cs.toArray):=by
 have fA:=AS wz (g+1) _ cs.toArray _ _ hR;refine AT (results_cell_row h _ _ (g+1) 67 cs.toArray (0,0) _ hp fA AG rfl (by rw [At,fC];kernel_rfl)) hd ?_;have hc:Chg (fun b=>b=g+1) wz (wz.setRow (g+1) cs.toArray):=(AO (fun b=>b=g+1) wz).setRow (fun _=>rfl) _;rw [←hQ,fB];exact⟨⟨_,rfl,(hv.chg (hc.mono fun b _ (e:b=g+1)=>.inr (by omega))).mono fun _ h=>.inl h⟩,hz.symm▸hb.trans (hc.below (by have:=hb.size;omega) fun b hb e=>by omega)⟩
theorem zKw (S:Nat→Prop) (i:Nat) (n:PN) (x:Hd) (off most:Int) (w:World) (hx:HdR S w x i n) (hS:∀ b,S b→b<w.heap.size) (fW:n.Ok) (hd:n.dir=false) :
 Calls AF 86 #[.agg (zAb x).toArray,.int .i64 off,.int .i64 most] w fun e w'=>(∃ v,e=.returned v∧zD2 S w' v (n.read off most))∧Below w.heap.size w w':=by
 obtain⟨an,fR⟩:=nM (n.read off most);rw [fR];obtain⟨Q,hQ⟩:∃ Q:Ending→World→Prop,(fun e w'=>(∃ v,e=Ending.returned v∧zD2 S w' v an)∧Below w.heap.size w w')=Q:=⟨_,rfl⟩;rw [hQ];have fG:=hid hQ;obtain⟨g,hz⟩:=nM (w.heap.size);have fH:=(AQ w 123 (zAb x)).alloc (.cells zAk.toArray 67);have fB:=AQ (w.alloc (.cells (zAb x).toArray 123)) 67 zAk;have fF:Below w.heap.size w ((w.alloc (.cells (zAb x).toArray 123)).alloc (.cells zAk.toArray 67)):=(br.alloc nr _).alloc (by simp) _;rw [show (w.alloc (.cells (zAb x).toArray 123)).heap.size=w.heap.size+1 by simp] at fB;rw [hz] at fH fB fF;have gO:Hid (∀ W,Below g w W→HdR S W x i n):=hid fun W hb=>hx.fresh (hz▸hb);have gF:Hid (∀ b,S b→b<g):=hid (by rw [←hz];exact hS);have gP:=fW.size;have fX:=hid fW;have gQ:=hid hd;have fD:=hid hz;unfold PN.read at fR;have hu:=hid fR.symm;clear hQ hx hS fW hd fR;go_enter Tryz.func86,Tryz.ntmps86;go_upto_region 1 with (fail)
 try simp only [hz]
 change AR _ _ _ _ ((w.alloc (.cells (zAb x).toArray 123)).alloc (.cells zAk.toArray 67));generalize (w.alloc (.cells (zAb x).toArray 123)).alloc (.cells zAk.toArray 67)=w0 at *;clear hz;by_cases fA:off<0∨most<0∨131072<most
 · have fC:Hid (an=.err 101):=hid (by rw [hu.o,if_pos fA]);by_cases q1:off<0
   · have t1:decide (off<0)=true:=decide_eq_true q1;clear fA
     go_wp2_with (first
      | (refine stA 101 st0 zAj zAj (fB) rfl rfl rfl (by rfl) rfl rfl rfl ?_))
     exact zFY fB fG.o fC.o (zAw _ _ 101 st0) rfl fF fD.o rfl rfl rfl
   have t1:decide (off<0)=false:=decide_eq_false q1;by_cases q2:most<0
   · have t2:decide (most<0)=true:=decide_eq_true q2;clear fA
     go_wp2_with (first
      | (refine stA 101 st0 zAj zAj (fB) rfl rfl rfl (by rfl) rfl rfl rfl ?_))
     exact zFY fB fG.o fC.o (zAw _ _ 101 st0) rfl fF fD.o rfl rfl rfl
   have t2:decide (most<0)=false:=decide_eq_false q2;have t3:decide (most > 131072)=true:=decide_eq_true (by omega);clear fA
   go_wp2_with (first
    | (refine stA 101 st0 zAj zAj (fB) rfl rfl rfl (by rfl) rfl rfl rfl ?_))
   exact zFY fB fG.o fC.o (zAw _ _ 101 st0) rfl fF fD.o rfl rfl rfl
 have h0:0≤off:=by omega
 have h1:0≤most:=by omega
 obtain⟨e,rfl⟩:=Int.eq_ofNat_of_zero_le h0;obtain⟨mo,rfl⟩:=Int.eq_ofNat_of_zero_le h1
 have gT:mo≤131072:=by omega
 have fC:=hu.o;rw [if_neg fA] at fC;simp only [Int.toNat_natCast] at fC;have t1:decide ((e:Int)<0)=false:=decide_eq_false (by omega);have t2:decide ((mo:Int)<0)=false:=decide_eq_false (by omega);have t3:decide ((mo:Int) > 131072)=false:=decide_eq_false (by omega);have fS:=hid (rbyt_any S i n x w0 (gO.o w0 fF) fX.o gQ.o);unfold BytP at fS;obtain⟨z,fY⟩:=nM (n.size);obtain⟨d,gG⟩:=nM (n.data);rw [fY,gG] at fS fC;rw [fY] at gP;have gH:=hid fC;have gR:=hid fH;have fZ:=hid fB;have gA:=hid fF;clear fA hu fC h0 h1 fY gG
 go_upto_region 4 with (first
  | (refine AW rfl 123 _ rfl g rfl 123 (zAb x).toArray _ _ fH AL rfl rfl ?_)
  | (go_at_call 122;(with_reducible refine (fS.o).mono ?_);rintro eb w1 ⟨ob,rfl,gU,hO,gB⟩))
 have fT:=fZ.o.fresh gB;have fI:=hid (gA.o.trans (gB.mono (by have:=fH.lt;omega)));have gI:=hid hO;have gV:g+2≤w0.heap.size:=fB.lt;clear fH fB fF gB fS hO;by_cases gW:z≤e
 · have fU:Hid (an=⟨0,st0,[],[]⟩):=hid (by rw [gH.o,if_pos (by omega)]);have t4:decide ((e:Int)≥(z:Int))=true:=decide_eq_true (by omega)
   go_wp2_with (first
    | (refine stA 0 st0 zAj zAj (fT) rfl rfl rfl (by rfl) rfl rfl rfl ?_))
   exact zFY fT fG.o fU.o (zAw _ _ 0 st0) rfl fI.o fD.o rfl rfl rfl
 have t4:decide ((e:Int)≥(z:Int))=false:=decide_eq_false (by omega);obtain⟨m,hm⟩:=nM (min mo (z-e));have fU:Hid (an=⟨0,st0,rdL d e m,[]⟩):=hid (by rw [gH.o,if_neg (by omega),hm])
 have gX:e+m≤z:=by omega
 have gS:∀ W:World,(Instr.sliceAt 64 (.slice (some ⟨ob,0,none⟩) z z) (some (.int .i64 (e:Int))) none none).run AF W=.ok (.slice (some ⟨ob,e,none⟩) (z-e) (z-e)) W:=fun W=>zGY W ob z e e rfl (by omega);have fJ:ob<w1.heap.size:=gI.o.lt
 have fK:∀ W,Below w1.heap.size w1 W→Sees W W.heap.size 1 (some ⟨ob,e,none⟩) m (bvs (rdL d e m)):=fun W hW=>by
  refine⟨by rw [zAc,zAE,Nat.mul_one],fun _=>⟨ob,e,rfl,Az fJ hW.size,fun j u hu=>?_⟩⟩;rw [hW.cell (p:=⟨ob,e+j,none⟩) fJ];refine (gI.o.cell (e+j)).trans ?_
  have hj:j<(rdL d e m).length:=by
   have:=(Aq.1 hu).1
   rwa [zAc] at this
  rw [zBK _ j hj] at hu;rw [zAE] at hj;rw [zBK _ (e+j) (by rw [zAE];omega),←hu];simp [rdL]
 have fE:=hid fK;have gJ:∀ u∈bvs (rdL d e m),u.oneCell'=true:=zB4 _;obtain⟨i0,hi,gK,gL,gM⟩:=AU zCP;have gN:(w1.alloc (.cells #[] 5)).ownsRow w1.heap.size 5 1 (.slice (some ⟨w1.heap.size,0,none⟩) 0 0) 0 []:=⟨rfl,.inr ⟨w1.heap.size,0,#[],rfl,Ax _,heap_alloc_new w1 _,Ax _,by unfold maxLen;omega,rfl,rfl⟩⟩;have fV:Below w1.heap.size w1 (w1.alloc (.cells #[] 5)):=br.alloc nr _
 have gY:m≤136704:=by omega
 clear fK;by_cases gZ:mo<z-e
 · have t5:decide (((z-e:Nat):Int) > (mo:Int))=true:=decide_eq_true (by omega)
   have gC:mo=m:=by omega
   subst gC;have jA:∀ W:World,(Instr.sliceAt 64 (.slice (some ⟨ob,e,none⟩) (z-e) (z-e)) none (some (.int .i64 (mo:Int))) none).run AF W=.ok (.slice (some ⟨ob,e,none⟩) mo (z-e)) W:=fun W=>slice_hb W ob e (z-e) (z-e) mo (by omega) (by omega)
   go_wp2_with (first
    | (at_builtin;refine zAg _ rfl (.tmp 36) (.tmp 37) _ _ rfl w1.heap.size 5 i0 (.int .u8 0) 1 1 AN hi gK gL gM rfl _ 0 [] rfl gN mo (bvs (rdL d e mo)) (zCn _ AN (z-e) (fE.o _ fV) gJ) (by unfold maxLen;omega) (by omega) (by simp) ?_;intro v3 w3 fL gD gE;have fM:Below w1.heap.size w1 w3:=fV.grown gD (by simp) (fun g' e'=>by simp [Act.eval,Value.ownBlock] at e';omega);have fN:=B0 fL;obtain⟨A3,c3,fO,fP⟩:=AD (B:=w3.heap.size) fL fun g hg=>(fN g hg).2;have fQ:=fT.fresh fM;rw [AA,Av] at fP;rw [AA] at fO;subst fO)
    | (refine stA 0 st0 (.slice A3 mo c3) zAj fQ rfl rfl rfl (by rfl) rfl rfl rfl ?_))
   refine zFY fQ fG.o fU.o ⟨A3,c3,none,0,?_,?_,AE,?_,fun h=>absurd h (by simp)⟩ rfl (fI.o.trans (fM.mono (by have:=fI.o.size;have:=fD.o;omega))) fD.o rfl rfl rfl
   · simp only [zAE,Ad]
   · simp only [zAE];exact fP
   · intro _ a ea hs;have h8:=(fN a.block (by rw [ea];rfl)).1;rcases hs with hs | hs
     · have:=gF.o _ hs;omega
     · omega
 · have t5:decide (((z-e:Nat):Int) > (mo:Int))=false:=decide_eq_false (by omega)
   have gC:z-e=m:=by omega
   rw [gC] at gS t5
   go_wp2_with (first
    | (at_builtin;refine zAg _ rfl (.tmp 36) (.tmp 37) _ _ rfl w1.heap.size 5 i0 (.int .u8 0) 1 1 AN hi gK gL gM rfl _ 0 [] rfl gN m (bvs (rdL d e m)) (zCn _ AN m (fE.o _ fV) gJ) (by unfold maxLen;omega) (by omega) (by simp) ?_;intro v3 w3 fL gD gE;have fM:Below w1.heap.size w1 w3:=fV.grown gD (by simp) (fun g' e'=>by simp [Act.eval,Value.ownBlock] at e';omega);have fN:=B0 fL;obtain⟨A3,c3,fO,fP⟩:=AD (B:=w3.heap.size) fL fun g hg=>(fN g hg).2;have fQ:=fT.fresh fM;rw [AA,Av] at fP;rw [AA] at fO;subst fO)
    | (refine stA 0 st0 (.slice A3 m c3) zAj fQ rfl rfl rfl (by rfl) rfl rfl rfl ?_))
   refine zFY fQ fG.o fU.o ⟨A3,c3,none,0,?_,?_,AE,?_,fun h=>absurd h (by simp)⟩ rfl (fI.o.trans (fM.mono (by have:=fI.o.size;have:=fD.o;omega))) fD.o rfl rfl rfl
   · simp only [zAE,Ad]
   · simp only [zAE];exact fP
   · intro _ a ea hs;have h8:=(fN a.block (by rw [ea];rfl)).1;rcases hs with hs | hs
     · have:=gF.o _ hs;omega
     · omega
end Go.Proofs.YtolpcfhfcdkokaaGreatDoor
