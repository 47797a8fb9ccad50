/- Joined out of Ownm..Ownm. -/
import Derived.Test.YtolpcfhfcdkokaaGreatDoorQ05
set_option maxHeartbeats 16000000
set_option maxRecDepth 100000
namespace Go.Proofs.YtolpcfhfcdkokaaGreatDoor
open Lib (hid)
open Go.RowKit
theorem infoNodes:(Tryz.prog.info? 31).map (fun i=>(i.zero,i.size,i.bytes))=some (some (.slice none 0 0),1,24):=by kernel_rfl
def flat (L:Nat→List Nd) (m:Nat):List Nd:=(List.range m).flatMap L
theorem zEA (L:Nat→List Nd) (i:Nat):flat L (i+1)=flat L i++L i:=by unfold flat;rw [List.range_succ,List.flatMap_append];simp
theorem flat_le (L:Nat→List Nd) (b:Nat):∀ m,(∀ i,i<m→(L i).length≤b)→(flat L m).length≤m * b:=by
 intro m
 induction m with
 | zero=>intro _;simp [flat]
 | succ m ih =>
  intro h;have h1:=ih fun i hi=>h i (by omega);have h2:=h m (by omega);rw [zEA,List.length_append,Nat.succ_mul];omega
theorem flat_snoc (L:Nat→List Nd) (i k:Nat) (h:k<(L i).length):(flat L i++(L i).take (k+1)).map ndV=(flat L i++(L i).take k).map ndV++[ndV (L i)[k]]:=by
 rw [List.take_succ_eq_append_getElem h,←List.append_assoc,List.map_append];rfl
theorem zDL {L:Nat→List Nd} {m:Nat} {x:Nd}:x∈flat L m↔∃ i,i<m∧x∈L i:=by
 unfold flat;simp [List.mem_flatMap]
theorem zBG (lv:Nat→Value) (m i:Nat) (h:i<m):((List.range m).map lv)[i]? = some (lv i):=by simp [h]
structure Sep (B H p m N:Nat) (lv dv:Nat→Value):Prop where
 dd:∀ a b g,a<N→b<N→a≠b→(dv a).ownBlock=some g→(dv b).ownBlock≠some g
 dl:∀ a b g,a<N→b<m→(dv a).ownBlock=some g→(lv b).ownBlock≠some g
 ll:∀ a b g,a<m→b<m→a≠b→(lv a).ownBlock=some g→(lv b).ownBlock≠some g
 dlt:∀ a g,a<N→(dv a).ownBlock=some g→B≤g∧g<H∧g≠p
 llt:∀ a g,a<m→(lv a).ownBlock=some g→B≤g∧g<H∧g≠p
 pH:p<H
def dvF (L:Nat→List Nd) (m:Nat) (a:Nat):Value:=ndV ((flat L m).getD a nd0)
def dlF (L:Nat→List Nd) (m:Nat) (a:Nat):Nat:=((flat L m).getD a nd0).data.length
theorem zDh (L:Nat→List Nd) (m a:Nat) (h:a<(flat L m).length):dvF L m a=ndV (flat L m)[a]:=by simp [dvF,h]
theorem dlF_get (L:Nat→List Nd) (m a:Nat) (h:a<(flat L m).length):dlF L m a=(flat L m)[a].data.length:=by simp [dlF,h]
theorem dvF_all (L:Nat→List Nd) (m:Nat):(flat L m).map ndV=(List.range (flat L m).length).map (dvF L m):=by
 apply List.ext_getElem
 · simp
 · intro i h1 h2
   have hi:i<(flat L m).length:=by simpa using h1
   simp [zDh L m i hi]
section
variable {w:World} {B p m:Nat} {lv:Nat→Value} {L:Nat→List Nd}
theorem Lists.pair (h:Lists w B p m lv L):∀ i,i≤m→(flat L i).Pairwise fun x y=>∀ g,(ndV x).ownBlock=some g→(ndV y).ownBlock≠some g:=by
 intro i
 induction i with
 | zero=>intro _;simp [flat]
 | succ i ih =>
  intro hi;rw [zEA,List.pairwise_append];refine⟨ih (by omega),?_,fun x hx y hy g hg fA=>?_⟩
  · rw [List.pairwise_iff_getElem];exact fun a b ha hb fC g hg=>(h.own i (by omega)).apart a b ha hb g (by omega) hg
  · obtain⟨a,ha,fB⟩:=zDL.1 hx;exact h.apart a i g (by omega) (by omega) (by omega) (.inr ⟨x,fB,hg⟩) (.inr ⟨y,hy,fA⟩)
theorem Lists.sep (h:Lists w B p m lv L):Sep B w.heap.size p m (flat L m).length lv (dvF L m):=by
 have fB:∀ a (ha:a<(flat L m).length),∃ i,i<m∧(flat L m)[a]∈L i:=fun a ha=>zDL.1 (List.getElem_mem ha);have fD:=List.pairwise_iff_getElem.1 (h.pair m (Nat.le_refl _));refine⟨fun a b g ha hb fC hg fA=>?_,fun a b g ha hb hg fA=>?_,fun a b g ha hb fC hg fA=>?_,fun a g ha hg=>?_,fun a g ha hg=>?_,h.par.lt⟩
 · rw [zDh L m a ha] at hg;rw [zDh L m b hb] at fA;rcases Nat.lt_or_gt_of_ne fC with h1 | h1
   · exact fD a b ha hb h1 g hg fA
   · exact fD b a hb ha h1 g fA hg
 · rw [zDh L m a ha] at hg;obtain⟨i,hi,hx⟩:=fB a ha;by_cases e:i=b
   · subst e;obtain⟨j,hj,e2⟩:=List.getElem_of_mem hx;rw [←e2] at hg;exact (h.own i hi).aside j hj g fA hg
   · exact h.apart i b g hi hb e (.inr ⟨_,hx,hg⟩) (.inl fA)
 · exact h.apart a b g ha hb fC (.inl hg) (.inl fA)
 · rw [zDh L m a ha] at hg;obtain⟨i,hi,hx⟩:=fB a ha;have h1:=(h.own i hi).blk (.inr ⟨_,hx,hg⟩);exact⟨h1.1,h1.2,fun e=>h.aside i hi (e▸.inr ⟨_,hx,hg⟩)⟩
 · have h1:=(h.own a ha).blk (.inl hg);exact⟨h1.1,h1.2,fun e=>h.aside a ha (e▸.inl hg)⟩
theorem Lists.data (h:Lists w B p m lv L) (a:Nat) (ha:a<(flat L m).length):∃ xs,w.ownsRow B 5 1 (dvF L m a) (dlF L m a) xs:=by
 obtain⟨i,hi,hx⟩:=zDL.1 (List.getElem_mem ha);obtain⟨j,hj,e⟩:=List.getElem_of_mem hx;rw [zDh L m a ha,dlF_get L m a ha,←e];exact⟨_,(h.own i hi).data j hj⟩
end
def bv (a:Nat):Value:=.int .u8 ((a:Int) % 251)
def kv (a:Nat):Value:=.int .i64 (-1-(a:Int))
theorem head_set {xs:List Value} {k:Nat} {u:Value} (h:∀ k',k'<k→xs[k']? = some u) (hk:k<xs.length):∀ k',k'<k+1→(xs.set k u)[k']? = some u:=by
 intro k' fA;by_cases e:k'=k
 · subst e;rw [List.getElem?_set_self hk]
 · rw [List.getElem?_set_ne (by omega)];exact h k' (by omega)
theorem head5 {xs:List Value} {k:Nat} {a u c d e:Value} (h:∀ k',k'<k→xs[k' * 5+1]? = some u) (hk:k * 5+5≤xs.length) :
 ∀ k',k'<k+1→(((((xs.set (k * 5) a).set (k * 5+1) u).set (k * 5+2) c).set (k * 5+3) d).set (k * 5+4) e)[k' * 5+1]? = some u:=by
 intro k' fA;by_cases h1:k'=k
 · subst h1;rw [List.getElem?_set_ne (by omega),List.getElem?_set_ne (by omega),List.getElem?_set_ne (by omega),List.getElem?_set_self (by rw [List.length_set];omega)]
 · rw [List.getElem?_set_ne (by omega),List.getElem?_set_ne (by omega),List.getElem?_set_ne (by omega),List.getElem?_set_ne (by omega),List.getElem?_set_ne (by omega)];exact h k' (by omega)
theorem snoc_all {xs:List Value} {n:Nat} {u:Value} (h:∀ k,k<n→xs[k]? = some u) (hn:xs.length=n):∀ k,k<n+1→(xs++[u])[k]? = some u:=by
 intro k hk;by_cases e:k=n
 · subst e;subst hn;simp
 · rw [List.getElem?_append_left (by omega)];exact h k (by omega)
theorem snoc_all5 {xs:List Value} {n:Nat} {u a b c d:Value} (h:∀ k,k<n→xs[k * 5+1]? = some u) (hn:xs.length=n * 5):∀ k,k<n+1→(xs++[a,u,b,c,d])[k * 5+1]? = some u:=by
 intro k hk;by_cases e:k=n
 · subst e;rw [List.getElem?_append_right (by omega),hn,show k * 5+1-k * 5=1 by omega];rfl
 · rw [List.getElem?_append_left (by omega)];exact h k (by omega)
theorem ownA_of {w:World} {B:Nat} {e:TypeId} {size n off:Nat} {v u:Value} {xs:List Value} (h:w.ownsRow B e size v n xs) (ha:All w v n size off u) (ho:off<size):zJx w B e size v n off u:=by
 refine⟨xs,h,fun k hk=>?_⟩
 have hl:k * size+off<xs.length:=by
  rw [h.1];have:(k+1) * size≤n * size:=Nat.mul_le_mul_right _ hk;rw [Nat.succ_mul] at this;omega
 obtain⟨g,cap,hv,_⟩:=h.form (show 0<n by omega)
 have hg:v.ownBlock=some g:=by rw [hv];rfl
 have h1:=zBi h hg (List.getElem?_eq_getElem hl);rw [ha g hg k hk] at h1;injection h1 with h1;rw [List.getElem?_eq_getElem hl,h1]
structure Mem (w:World) (B H p m N:Nat) (lv dv:Nat→Value) (nl dl:Nat→Nat) (u3:Value) (i j:Nat):Prop where
 par:Blk w p 31 ((List.range m).map lv)
 dat:w.ownsRow H 64 1 u3 N ((List.range N).map dv)
 down:∀ a,a<N→∃ xs,w.ownsRow B 5 1 (dv a) (dl a) xs
 lown:∀ a,a<m→∃ xs,w.ownsRow B 75 5 (lv a) (nl a) xs
 dall:∀ a,a<i→All w (dv a) (dl a) 1 0 (bv a)
 lall:∀ a,a<j→All w (lv a) (nl a) 5 1 (kv a)
section
variable {w w1:World} {B H p m N:Nat} {lv dv:Nat→Value} {nl dl:Nat→Nat} {u3:Value} {i j:Nat}
theorem Mem.fillD (h:Mem w B H p m N lv dv nl dl u3 i j) (hS:Sep B H p m N lv dv) (hi:i<N) (hj:j≤m) (hc:Chg (fun b=>(dv i).ownBlock=some b) w w1) {xs:List Value} (ho:w1.ownsRow B 5 1 (dv i) (dl i) xs)
 (hx:∀ k,k<dl i→xs[k]? = some (bv i)):Mem w1 B H p m N lv dv nl dl u3 (i+1) j:=by
 refine⟨h.par.chg hc fun e=>(hS.dlt i p hi e).2.2 rfl,zAo h.dat hc fun g hg e=>by have:=(h.dat.lt g hg).1;have:=(hS.dlt i g hi e).2.1;omega,fun a ha=>?_,fun a ha=>?_,fun a ha=>?_,fun a ha=>?_⟩
 · by_cases e:a=i
   · subst e;exact⟨xs,ho⟩
   · obtain⟨ys,hy⟩:=h.down a ha;exact⟨ys,zAo hy hc fun g hg e'=>hS.dd a i g ha hi e hg e'⟩
 · obtain⟨ys,hy⟩:=h.lown a ha;exact⟨ys,zAo hy hc fun g hg e'=>hS.dl i a g hi ha e' hg⟩
 · by_cases e:a=i
   · subst e;exact zJx.all ⟨xs,ho,fun k hk=>by simpa using hx k hk⟩
   · exact (h.dall a (by omega)).chg hc fun g hg e'=>hS.dd a i g (by omega) hi e hg e'
 · exact (h.lall a ha).chg hc fun g hg e'=>hS.dl i a g hi (by omega) e' hg
theorem Mem.fillL (h:Mem w B H p m N lv dv nl dl u3 i j) (hS:Sep B H p m N lv dv) (hj:j<m) (hi:i≤N) (hc:Chg (fun b=>(lv j).ownBlock=some b) w w1) {xs:List Value} (ho:w1.ownsRow B 75 5 (lv j) (nl j) xs)
 (hx:∀ k,k<nl j→xs[k * 5+1]? = some (kv j)):Mem w1 B H p m N lv dv nl dl u3 i (j+1):=by
 refine⟨h.par.chg hc fun e=>(hS.llt j p hj e).2.2 rfl,zAo h.dat hc fun g hg e=>by have:=(h.dat.lt g hg).1;have:=(hS.llt j g hj e).2.1;omega,fun a ha=>?_,fun a ha=>?_,fun a ha=>?_,fun a ha=>?_⟩
 · obtain⟨ys,hy⟩:=h.down a ha;exact⟨ys,zAo hy hc fun g hg e'=>hS.dl a j g ha hj hg e'⟩
 · by_cases e:a=j
   · subst e;exact⟨xs,ho⟩
   · obtain⟨ys,hy⟩:=h.lown a ha;exact⟨ys,zAo hy hc fun g hg e'=>hS.ll a j g ha hj e hg e'⟩
 · exact (h.dall a ha).chg hc fun g hg e'=>hS.dl a j g (by omega) hj hg e'
 · by_cases e:a=j
   · subst e;exact zJx.all ⟨xs,ho,hx⟩
   · exact (h.lall a (by omega)).chg hc fun g hg e'=>hS.ll a j g (by omega) hj e hg e'
end
structure Ph4 (w:World) (B H p m N:Nat) (lv dv:Nat→Value) (nl dl:Nat→Nat) (u3:Value) (H4 i:Nat) (gv:Nat→Value) (u10:Value):Prop where
 par:Blk w p 31 ((List.range m).map lv)
 dat:w.ownsRow H 64 1 u3 N ((List.range N).map dv)
 dall:∀ a,a<N→All w (dv a) (dl a) 1 0 (bv a)
 down:∀ a,i≤a→a<N→zJx w B 5 1 (dv a) (dl a) 0 (bv a)
 lown:∀ a,a<m→zJx w B 75 5 (lv a) (nl a) 1 (kv a)
 gall:∀ a,a<i→Form (gv a) (dl a+24)∧All w (gv a) (dl a+24) 1 0 (bv a)
 gblk:∀ a,a<i→∀ g,(gv a).ownBlock=some g→((dv a).ownBlock=some g∨H4≤g)∧u10.ownBlock≠some g
 grow:w.ownsRow H4 64 1 u10 i ((List.range i).map gv)
section
variable {w w1 w2 W:World} {B H p m N:Nat} {lv dv:Nat→Value} {nl dl:Nat→Nat} {u3:Value} {H4 i:Nat} {gv:Nat→Value} {u10 u10' v:Value}
theorem Mem.ph4 (h:Mem w B H p m N lv dv nl dl u3 N m) (gv:Nat→Value) (H4:Nat):Ph4 w B H p m N lv dv nl dl u3 H4 0 gv (.slice none 0 0) :=
 ⟨h.par,h.dat,h.dall,fun a _ ha=>by obtain⟨xs,hx⟩:=h.down a ha;exact ownA_of hx (h.dall a ha) (by omega),fun a ha=>by obtain⟨xs,hx⟩:=h.lown a ha;exact ownA_of hx (h.lall a ha) (by omega),
  fun a ha=>absurd ha (by omega),fun a ha=>absurd ha (by omega),World.ownsRow_nil _ _ _ _⟩
theorem Ph4.grow1 (h:Ph4 w B H p m N lv dv nl dl u3 H4 i gv u10) (hS:Sep B H p m N lv dv) (hH:H≤H4) (hi:i<N) (hG:Grows w (dv i) w1 v):w1.ownsRow H4 64 1 u10 i ((List.range i).map gv) :=
 zAo h.grow hG.chg fun g hg e=>by have:=(h.grow.lt g hg).1;have:=(hS.dlt i g hi e).2.1;omega
theorem Ph4.step (h:Ph4 w B H p m N lv dv nl dl u3 H4 i gv u10) (hS:Sep B H p m N lv dv) (hH:H≤H4) (h3:∀ g,u3.ownBlock=some g→g<H4) (fN:H4≤w.heap.size) (hi:i<N) {xs:List Value}
 (ho:w1.ownsRow B 5 1 v (dl i+24) xs) (hx:∀ k,k<dl i+24→xs[k]? = some (bv i)) (hA:All w1 (dv i) (dl i) 1 0 (bv i)) (hG:Grows w (dv i) w1 v)
 (hW:Below w1.heap.size w1 W) (fF:w2.ownsRow H4 64 1 u10' (i+1) ((List.range i).map gv++[v])) (hg:W.grownBy w2 u10.ownBlock) (fH:u10'.ownBlock=u10.ownBlock∨u10'.ownBlock=some W.heap.size) :
 Ph4 w2 B H p m N lv dv nl dl u3 H4 (i+1) (fun a=>if a=i then v else gv a) u10':=by
 have fE:∀ g,(dv i).ownBlock=some g→g<H∧g≠p:=fun g e=>(hS.dlt i g hi e).2;have fB:∀ g,u10.ownBlock=some g→H4≤g∧g<w.heap.size:=fun g e=>h.grow.lt g e;have fO:=hG.chg.size;have fK:=hW.size;have fA:Chg (fun b=>u10.ownBlock=some b) w1 w2:=(Chg.of_fresh hW).grown hg fun _ e _=>e
 have fG:(List.range (i+1)).map (fun a=>if a=i then v else gv a)=(List.range i).map gv++[v]:=by
  rw [List.range_succ,List.map_append]
  congr 1
  · apply List.map_congr_left
    intro a ha;rw [List.mem_range] at ha;rw [if_neg (by omega)]
  · simp
 have fL:∀ a,a<i→∀ g,(gv a).ownBlock=some g→(dv i).ownBlock≠some g:=fun a ha g hg e=>by
  rcases (h.gblk a ha g hg).1 with h1 | h1
  · exact hS.dd a i g (by omega) hi (by omega) h1 e
  · have:=(fE g e).1;omega
 have fI:∀ g,v.ownBlock=some g→((dv i).ownBlock=some g∨H4≤g)∧u10.ownBlock≠some g:=fun g e=>by
  rcases hG.at_ with h1 | ⟨g',h1,h2⟩
  · rw [h1] at e;exact⟨.inl e,fun e'=>by have:=(fB g e').1;have:=(fE g e).1;omega⟩
  · rw [h1] at e;injection e with e;subst e;exact⟨.inr (by omega),fun e'=>by have:=(fB _ e').2;omega⟩
 refine⟨(h.par.chg hG.chg fun e=>(fE p e).2 rfl).chg fA fun e=>by have:=(fB p e).1;have:=hS.pH;omega,zAo (zAo h.dat hG.chg fun g hg e=>by have:=(h.dat.lt g hg).1;have:=(fE g e).1;omega) fA fun g hg e=>by have:=h3 g hg;have:=(fB g e).1;omega,fun a ha=>?_,fun a h1 h2=>?_,fun a ha=>?_,fun a ha=>?_,fun a ha g fC=>?_,by rw [fG];exact fF⟩
 · have fD:∀ g,(dv a).ownBlock=some g→¬u10.ownBlock=some g:=fun g hg e=>by have:=(fB g e).1;have:=(hS.dlt a g ha hg).2.1;omega
   by_cases e:a=i
   · subst e;exact hA.chg fA fD
   · exact ((h.dall a ha).chg hG.chg fun g hg e'=>hS.dd a i g ha hi e hg e').chg fA fD
 · have fD:∀ g,(dv a).ownBlock=some g→¬u10.ownBlock=some g:=fun g hg e=>by have:=(fB g e).1;have:=(hS.dlt a g h2 hg).2.1;omega
   exact ((h.down a (by omega) h2).chg hG.chg fun g hg e'=>hS.dd a i g h2 hi (by omega) hg e').chg fA fD
 · have fD:∀ g,(lv a).ownBlock=some g→¬u10.ownBlock=some g:=fun g hg e=>by have:=(fB g e).1;have:=(hS.llt a g ha hg).2.1;omega
   exact ((h.lown a ha).chg hG.chg fun g hg e'=>hS.dl i a g hi ha e' hg).chg fA fD
 · by_cases e:a=i
   · subst e;simp only [if_true];exact⟨zBo ho,(zJx.all ⟨xs,ho,fun k hk=>by simpa using hx k hk⟩).chg fA fun g hg=>(fI g hg).2⟩
   · simp only [if_neg e];obtain⟨h1,h2⟩:=h.gall a (by omega);exact⟨h1,(h2.chg hG.chg fun g hg e'=>fL a (by omega) g hg e').chg fA fun g hg=>(h.gblk a (by omega) g hg).2⟩
 · have fM:∀ a' (fJ:a'<i) g,(gv a').ownBlock=some g→g<w.heap.size:=fun a' fJ g hg=>World.block_lt_of_cell? w _ ((h.gall a' fJ).2 g hg 0 (by omega));by_cases e:a=i
   · subst e;simp only [if_true] at fC;have h1:=fI g fC;refine⟨h1.1,fun e'=>?_⟩;rcases fH with h2 | h2
     · exact h1.2 (h2▸e')
     · rw [h2] at e';injection e' with e';have:=(ho.lt g fC).2;omega
   · simp only [if_neg e] at fC;have h1:=h.gblk a (by omega) g fC;refine⟨h1.1,fun e'=>?_⟩;rcases fH with h2 | h2
     · exact h1.2 (h2▸e')
     · rw [h2] at e';injection e' with e';have:=fM a (by omega) g fC;omega
end
structure Ph5 (w:World) (B H p m N:Nat) (lv dv:Nat→Value) (nl dl:Nat→Nat) (u3:Value) (gv:Nat→Value) (u10:Value) (H5 i:Nat) (mv:Nat→Value) (u14:Value):Prop where
 par:Blk w p 31 ((List.range m).map lv)
 dat:w.ownsRow H 64 1 u3 N ((List.range N).map dv)
 dall:∀ a,a<N→All w (dv a) (dl a) 1 0 (bv a)
 gall:∀ a,a<N→Form (gv a) (dl a+24)∧All w (gv a) (dl a+24) 1 0 (bv a)
 grow:w.ownsRow H 64 1 u10 N ((List.range N).map gv)
 lall:∀ a,a<m→All w (lv a) (nl a) 5 1 (kv a)
 lown:∀ a,i≤a→a<m→zJx w B 75 5 (lv a) (nl a) 1 (kv a)
 mall:∀ a,a<i→Form (mv a) (nl a+12)∧All w (mv a) (nl a+12) 5 1 (kv a)
 mblk:∀ a,a<i→∀ g,(mv a).ownBlock=some g→((lv a).ownBlock=some g∨H5≤g)∧u14.ownBlock≠some g
 more:w.ownsRow H5 31 1 u14 i ((List.range i).map mv)
structure Fix5 (H H5 N:Nat) (dv gv:Nat→Value) (u3 u10:Value):Prop where
 u3:∀ g,u3.ownBlock=some g→H≤g∧g<H5
 u10:∀ g,u10.ownBlock=some g→H≤g∧g<H5
 gv:∀ a,a<N→∀ g,(gv a).ownBlock=some g→((dv a).ownBlock=some g∨H≤g)∧g<H5
section
variable {w w1 w2 W:World} {B H p m N:Nat} {lv dv:Nat→Value} {nl dl:Nat→Nat} {u3:Value} {H4 H5 i:Nat} {gv mv:Nat→Value} {u10 u14 u14' v:Value}
theorem Ph4.ph5 (h:Ph4 w B H p m N lv dv nl dl u3 H4 N gv u10) (hH:H≤H4) (h3:∀ g,u3.ownBlock=some g→g<H4) (fA:H4≤w.heap.size) (mv:Nat→Value) :
 Ph5 w B H p m N lv dv nl dl u3 gv u10 w.heap.size 0 mv (.slice none 0 0)∧Fix5 H w.heap.size N dv gv u3 u10 :=
 ⟨⟨h.par,h.dat,h.dall,h.gall,zBT h.grow fun g hg=>by have:=(h.grow.lt g hg).1;omega,fun a ha=>(h.lown a ha).all,fun a _ ha=>h.lown a ha,fun a ha=>absurd ha (by omega),fun a ha=>absurd ha (by omega),World.ownsRow_nil _ _ _ _⟩,
  ⟨fun g hg=>⟨(h.dat.lt g hg).1,by have:=h3 g hg;omega⟩,fun g hg=>⟨by have:=(h.grow.lt g hg).1;omega,(h.grow.lt g hg).2⟩,fun a ha g hg=>⟨(h.gblk a ha g hg).1.imp id fun e=>by omega,World.block_lt_of_cell? w _ ((h.gall a ha).2 g hg 0 (by omega))⟩⟩⟩
theorem Ph5.more1 (h:Ph5 w B H p m N lv dv nl dl u3 gv u10 H5 i mv u14) (hS:Sep B H p m N lv dv) (hH:H≤H5) (hi:i<m) (hG:Grows w (lv i) w1 v):w1.ownsRow H5 31 1 u14 i ((List.range i).map mv) :=
 zAo h.more hG.chg fun g hg e=>by have:=(h.more.lt g hg).1;have:=(hS.llt i g hi e).2.1;omega
theorem Ph5.step (h:Ph5 w B H p m N lv dv nl dl u3 gv u10 H5 i mv u14) (hS:Sep B H p m N lv dv) (hF:Fix5 H H5 N dv gv u3 u10) (hH:H≤H5) (fO:H5≤w.heap.size) (hi:i<m) {xs:List Value}
 (ho:w1.ownsRow B 75 5 v (nl i+12) xs) (hx:∀ k,k<nl i+12→xs[k * 5+1]? = some (kv i)) (hA:All w1 (lv i) (nl i) 5 1 (kv i)) (hG:Grows w (lv i) w1 v)
 (hW:Below w1.heap.size w1 W) (fF:w2.ownsRow H5 31 1 u14' (i+1) ((List.range i).map mv++[v])) (hg:W.grownBy w2 u14.ownBlock) (fH:u14'.ownBlock=u14.ownBlock∨u14'.ownBlock=some W.heap.size) :
 Ph5 w2 B H p m N lv dv nl dl u3 gv u10 H5 (i+1) (fun a=>if a=i then v else mv a) u14':=by
 have fC:∀ g,(lv i).ownBlock=some g→g<H∧g≠p:=fun g e=>(hS.llt i g hi e).2;have fB:∀ g,u14.ownBlock=some g→H5≤g∧g<w.heap.size:=fun g e=>h.more.lt g e;have fP:=hG.chg.size;have fL:=hW.size;have fA:Chg (fun b=>u14.ownBlock=some b) w1 w2:=(Chg.of_fresh hW).grown hg fun _ e _=>e
 have fG:(List.range (i+1)).map (fun a=>if a=i then v else mv a)=(List.range i).map mv++[v]:=by
  rw [List.range_succ,List.map_append]
  congr 1
  · apply List.map_congr_left
    intro a ha;rw [List.mem_range] at ha;rw [if_neg (by omega)]
  · simp
 have fM:∀ a,a<i→∀ g,(mv a).ownBlock=some g→(lv i).ownBlock≠some g:=fun a ha g hg e=>by
  rcases (h.mblk a ha g hg).1 with h1 | h1
  · exact hS.ll a i g (by omega) hi (by omega) h1 e
  · have:=(fC g e).1;omega
 have fI:∀ g,v.ownBlock=some g→((lv i).ownBlock=some g∨H5≤g)∧u14.ownBlock≠some g:=fun g e=>by
  rcases hG.at_ with h1 | ⟨g',h1,h2⟩
  · rw [h1] at e;exact⟨.inl e,fun e'=>by have:=(fB g e').1;have:=(fC g e).1;omega⟩
  · rw [h1] at e;injection e with e;subst e;exact⟨.inr (by omega),fun e'=>by have:=(fB _ e').2;omega⟩
 have fJ:∀ a,a<N→∀ g,(gv a).ownBlock=some g→¬(lv i).ownBlock=some g∧¬u14.ownBlock=some g:=fun a ha g hg=>by
  obtain⟨h1,h2⟩:=hF.gv a ha g hg;refine⟨fun e=>?_,fun e=>by have:=(fB g e).1;omega⟩;rcases h1 with h1 | h1
  · exact hS.dl a i g ha hi h1 e
  · have:=(fC g e).1;omega
 refine⟨(h.par.chg hG.chg fun e=>(fC p e).2 rfl).chg fA fun e=>by have:=(fB p e).1;have:=hS.pH;omega,zAo (zAo h.dat hG.chg fun g hg e=>by have:=(h.dat.lt g hg).1;have:=(fC g e).1;omega) fA fun g hg e=>by have:=(hF.u3 g hg).2;have:=(fB g e).1;omega,fun a ha=>?_,fun a ha=>?_,zAo (zAo h.grow hG.chg fun g hg e=>by have:=(h.grow.lt g hg).1;have:=(fC g e).1;omega) fA fun g hg e=>by have:=(hF.u10 g hg).2;have:=(fB g e).1;omega,fun a ha=>?_,fun a h1 h2=>?_,fun a ha=>?_,fun a ha g fD=>?_,by rw [fG];exact fF⟩
 · exact ((h.dall a ha).chg hG.chg fun g hg e'=>hS.dl a i g ha hi hg e').chg fA fun g hg e=>by have:=(fB g e).1;have:=(hS.dlt a g ha hg).2.1;omega
 · obtain⟨h1,h2⟩:=h.gall a ha;exact⟨h1,(h2.chg hG.chg fun g hg=>(fJ a ha g hg).1).chg fA fun g hg=>(fJ a ha g hg).2⟩
 · have fE:∀ g,(lv a).ownBlock=some g→¬u14.ownBlock=some g:=fun g hg e=>by have:=(fB g e).1;have:=(hS.llt a g ha hg).2.1;omega
   by_cases e:a=i
   · subst e;exact hA.chg fA fE
   · exact ((h.lall a ha).chg hG.chg fun g hg e'=>hS.ll a i g ha hi e hg e').chg fA fE
 · have fE:∀ g,(lv a).ownBlock=some g→¬u14.ownBlock=some g:=fun g hg e=>by have:=(fB g e).1;have:=(hS.llt a g h2 hg).2.1;omega
   exact ((h.lown a (by omega) h2).chg hG.chg fun g hg e'=>hS.ll a i g h2 hi (by omega) hg e').chg fA fE
 · by_cases e:a=i
   · subst e;simp only [if_true];exact⟨zBo ho,(zJx.all ⟨xs,ho,hx⟩).chg fA fun g hg=>(fI g hg).2⟩
   · simp only [if_neg e];obtain⟨h1,h2⟩:=h.mall a (by omega);exact⟨h1,(h2.chg hG.chg fun g hg e'=>fM a (by omega) g hg e').chg fA fun g hg=>(h.mblk a (by omega) g hg).2⟩
 · have fN:∀ a' (fK:a'<i) g,(mv a').ownBlock=some g→g<w.heap.size:=fun a' fK g hg=>World.block_lt_of_cell? w _ ((h.mall a' fK).2 g hg 0 (by omega));by_cases e:a=i
   · subst e;simp only [if_true] at fD;have h1:=fI g fD;refine⟨h1.1,fun e'=>?_⟩;rcases fH with h2 | h2
     · exact h1.2 (h2▸e')
     · rw [h2] at e';injection e' with e';have:=(ho.lt g fD).2;omega
   · simp only [if_neg e] at fD;have h1:=h.mblk a (by omega) g fD;refine⟨h1.1,fun e'=>?_⟩;rcases fH with h2 | h2
     · exact h1.2 (h2▸e')
     · rw [h2] at e';injection e' with e';have:=fN a (by omega) g fD;omega
end
end Go.Proofs.YtolpcfhfcdkokaaGreatDoor
