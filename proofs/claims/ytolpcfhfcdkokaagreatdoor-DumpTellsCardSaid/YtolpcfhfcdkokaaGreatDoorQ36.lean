/- Joined out of STwo..DRead. -/
import Derived.Test.YtolpcfhfcdkokaaGreatDoorQ27
import Derived.Test.YtolpcfhfcdkokaaGreatDoorQ33
import Derived.Test.YtolpcfhfcdkokaaGreatDoorQ35
set_option maxHeartbeats 16000000
set_option maxRecDepth 100000
namespace Go.Proofs.YtolpcfhfcdkokaaGreatDoor
open Lib (hid)
open Go.RowKit
theorem zFC {x:ByteArray} (h:chk x=true):nameOk x:=by
 unfold chk at h;obtain⟨h1,h2,h3,h4,h5⟩:=of_decide_eq_true h;refine⟨⟨h1,h2⟩,fun k hk=>?_,by rw [Lib.toList_data];exact h3,by rw [Lib.toList_data];exact h4⟩;have h6:=h5 x[k] (by rw [ByteArray.getElem_eq_getElem_data];exact Array.getElem_mem_toList _);exact⟨fun e=>h6.1 (UInt8.toNat_inj.1 e),fun e=>h6.2 (UInt8.toNat_inj.1 e)⟩
theorem zIn {T:PT} (hT:T.Ok) {i j:Nat} (n m:PN) (h:i≠j):(T.upd i n).upd j m=(T.upd j m).upd i n:=by
 unfold PT.upd;simp only [PT.mk.injEq,true_and];refine zBs.ext zAG ((hT.ris.put zAG zCj i n).put zAG zCj j m) ((hT.ris.put zAG zCj j m).put zAG zCj i n) fun a=>?_;by_cases e:a=j
 · subst e;rw [zAu,zAl zAG _ (fun e=>h e.symm),zAu]
 · rw [zAl zAG _ e];by_cases e2:a=i
   · subst e2;rw [zAu,zAu]
   · rw [zAl zAG _ e2,zAl zAG _ e2,zAl zAG _ e]
def zHx (S:Nat→Prop) (r:PT×Nat) (w:World) (e:Ending) (w':World):Prop :=
 (∃ t',e=.returned (.tuple #[trV t',.int .i64 (r.2:Int)])∧RefS S w' t' r.1)∧Below w.heap.size w w'
structure StT (w wk:World) (g:Nat) (t:Tr):Prop where
 tb:Blk wk g 28 (zAa t)
 rb:Blk wk (g+1) 28 z4
 bl:Below g w wk
theorem st_0 (w:World) (t:Tr):StT w ((w.alloc (.cells (zAa t).toArray 28)).alloc (.cells z4.toArray 28)) w.heap.size t:=by
 refine⟨(Blk.new w 28 (zAa t)).alloc _,?_,((Below.refl _ _).alloc (Nat.le_refl _) _).alloc (by simp) _⟩;have:=Blk.new (w.alloc (.cells (zAa t).toArray 28)) 28 z4;simpa using this
section
variable {w wk w':World} {g k:Nat} {t:Tr} {T:PT} {S:Nat→Prop}
theorem StT.le (h:StT w wk g t):g+2≤wk.heap.size:=h.rb.lt
theorem StT.fresh (h:StT w wk g t) (hb:Below wk.heap.size wk w'):StT w w' g t:=⟨h.tb.fresh hb,h.rb.fresh hb,h.bl.trans (hb.mono (by have:=h.le;omega))⟩
theorem StT.chg {y:Nat} (h:StT w wk g t) (hc:Chg (fun b=>b=y) wk w') (hy:g+2≤y):StT w w' g t :=
 ⟨h.tb.chg hc (by omega),h.rb.chg hc (by omega),h.bl.trans (hc.below (by have:=h.le;omega) fun b hb e=>by omega)⟩
theorem StT.held (h:StT w wk g t) (x:Hd):Blk ((wk.alloc (.cells z8.toArray 123)).setRow wk.heap.size (zAb x).toArray) wk.heap.size 123 (zAb x)∧StT w ((wk.alloc (.cells z8.toArray 123)).setRow wk.heap.size (zAb x).toArray) g t :=
 ⟨(zBx wk x).1,h.fresh (zBx wk x).2⟩
theorem zAP (w:World) (x:Tr):Blk ((w.alloc (.cells z4.toArray 28)).setRow w.heap.size (zAa x).toArray) w.heap.size 28 (zAa x) ∧
 Below w.heap.size w ((w.alloc (.cells z4.toArray 28)).setRow w.heap.size (zAa x).toArray):=by
 refine⟨setRow_heap _ w.heap.size _ _ _ _ (Blk.new w 28 z4),?_⟩;exact (((Chg.refl (fun b=>w.heap.size≤b) w).alloc _).setRow (fun _=>Nat.le_refl _) _).below (Nat.le_refl _) fun b hb h=>by omega
theorem zBV (h:RefS S w t T) (hz:w.heap.size=g) (k:Nat) (W:World) (hb:Below g w W):RefS (zAM S g k) W t T:=(h.addR k (Nat.le_of_eq hz)).fresh (hz▸hb)
theorem inS (hS:∀ b,S b→b<w.heap.size) (hz:w.heap.size=g) (W:World) (hW:g+k≤W.heap.size):∀ b,zAM S g k b→b<W.heap.size:=zBe (fun b hb=>by have:=hS b hb;omega) hW
theorem zDP {i:Nat} {n:PN} (h:RefS S w t T) (hz:w.heap.size=g) (k:Nat) (ho:T.Ok) (hg:zAd i T.nodes=some n) :
 ∃ x,x.kind=n.kind∧x.links=(n.links:Int)∧∀ W,Below g w W→HdR (zAM S g k) W x i n∧Calls Tryz.prog 81 #[.agg (zAa t).toArray,.int .i64 (i:Int)] W fun e w'=>e=.returned (.agg (zAb x).toArray)∧Below W.heap.size W w':=by
 obtain⟨x,-,h2,h3⟩:=zBC (zBV h hz k w (Below.refl g w)) ho hg;exact⟨x,h2.rep.kind,h2.rep.links,fun W hb=>⟨h2.fresh (hz.symm▸hb),h3 W (hz.symm▸hb)⟩⟩
theorem zI2 {d i:Nat} {n:PN} {nm:ByteArray} (W:World) (h:RefS S W t T) (hS:∀ b,S b→b<W.heap.size) (hT:T.Inv) (hg:zAd d T.nodes=some n) (hd:n.dir=true) (hj:1≤i∧i≤T.inodes) (hc:chk nm=true) (fA:zAd nm n.names=none) :
 Calls Tryz.prog 112 #[.agg (zAa t).toArray,.int .i64 (d:Int),.agg #[.int .i64 (i:Int),.string nm]] W (PutP S T d n nm i W) :=
 rput_any S t T d n nm i W h hS hT hg hd ⟨hj.1,by have:=hT.gr.ok.ino;omega,zFC hc⟩ fA
theorem zAB {fn:Func} {p u:Tmp} {a:Act} {wz:World} {t':Tr} {T':PT} {c r:Nat} {Q:Ending→World→Prop} {r':PT×Nat} {z:List Value} (hR:Blk wz r 28 z)
 (hQ:zHx S r' w=Q) (fB:r'=(T',c)) (ht:RefS (zAM S g k) wz t' T') (hb:Below g w wz) (hz:w.heap.size=g) (hr:g≤r∧r<g+k)
 (h:fn.results=#[.cell p 28,.tmp u]) (hp:a.tmps.getD p undef=.pointer (some ⟨r,0,none⟩)) (hu:a.tmps.getD u undef=.int .i64 (c:Int)) (hd:a.defers=[]) :
 bodyPost Tryz.prog fn Q .ret a (wz.setRow r (zAa t').toArray):=by
 have fA:=setRow_heap wz r _ (zAa t').toArray _ _ hR;refine bodyPost_ret (zAA h _ _ r 28 (zAa t').toArray (0,0) _ hp fA Tryz.underlying28 rfl (by kernel_rfl)) hd ?_;obtain⟨h1,h2⟩:=zC7 (S:=S) (w:=w) (B:=w.heap.size) (r:=r) (zAa t').toArray ht (.inr hr) (fun b hb=>.inl hb) (hz.symm▸hb) (by omega) rfl;rw [←hQ,fB,hu];exact⟨⟨t',rfl,h1⟩,h2⟩
end
def zDV (S:Nat→Prop) (w:World) (v:Value) (a:Ans):Prop:=∃ dA dc eA ec,v=.agg (zAh a.code a.stat (.slice dA a.data.length dc) (.slice eA a.ents.length ec)).toArray ∧
 Sees w w.heap.size 1 dA a.data.length (bvs a.data)∧Sees w w.heap.size 3 eA a.ents.length (a.ents.flatMap zBq)∧zGm S a.data.length dA∧zGm S a.ents.length eA
def DoT (S:Nat→Prop) (r:PT×Ans) (w:World) (e:Ending) (w':World):Prop :=
 (∃ t' v,e=.returned (.tuple #[trV t',v])∧RefS S w' t' r.1∧zDV S w' v r.2)∧Below w.heap.size w w'
section
variable {S S':Nat→Prop} {w w':World} {v:Value} {a:Ans}
theorem zDV.fresh (h:zDV S w v a) (hb:Below w.heap.size w w'):zDV S w' v a:=by
 obtain⟨dA,dc,eA,ec,h1,h2,h3,h4,h5⟩:=h;exact⟨dA,dc,eA,ec,h1,(h2.below hb).more hb.size,(h3.below hb).more hb.size,h4,h5⟩
theorem zDV.chg (h:zDV S w v a) (hc:Chg S w w'):zDV S w' v a:=by
 obtain⟨dA,dc,eA,ec,h1,h2,h3,h4,h5⟩:=h;exact⟨dA,dc,eA,ec,h1,(h2.chgR (by decide) hc fun b off e hn=>h4 hn _ e).more hc.size,(h3.chgR (by decide) hc fun b off e hn=>h5 hn _ e).more hc.size,h4,h5⟩
theorem zDV.mono (h:zDV S w v a) (hS:∀ b,S' b→S b):zDV S' w v a:=by
 obtain⟨dA,dc,eA,ec,h1,h2,h3,h4,h5⟩:=h;exact⟨dA,dc,eA,ec,h1,h2,h3,h4.mono hS,h5.mono hS⟩
theorem zAx (S:Nat→Prop) (w:World) (c:Nat) (s:St):zDV S w (.agg (zAh c s (.slice none 0 0) (.slice none 0 0)).toArray) ⟨c,s,[],[]⟩ :=
 ⟨none,0,none,0,rfl,Sees.nil,Sees.nil,fun h=>absurd h (by simp),fun h=>absurd h (by simp)⟩
end
theorem zDX {fn:Func} {p u:Tmp} {ty ty2:TypeId} {P:Program} (h:fn.results=#[.cell p ty,.cell u ty2]) (tmps:Array Value) (w:World) (g:Nat) (t:TypeId) (cs:Array Value) (fr:Nat×Nat) (d:TypeDesc)
 (hp:tmps.getD p undef=.pointer (some ⟨g,0,none⟩)) (hg:w.heap[g]? = some (.cells cs t fr)) (hu:P.underlying ty=some d) (hd:d.isRow=true) (hi:(P.info? ty).map (·.size)=some cs.size)
 (g2:Nat) (t2:TypeId) (cs2:Array Value) (fr2:Nat×Nat) (d2:TypeDesc)
 (fB:tmps.getD u undef=.pointer (some ⟨g2,0,none⟩)) (fC:w.heap[g2]? = some (.cells cs2 t2 fr2)) (fD:P.underlying ty2=some d2) (fH:d2.isRow=true) (fE:(P.info? ty2).map (·.size)=some cs2.size) :
 (results fn tmps).run P w=.ok (.tuple #[.agg cs,.agg cs2]) w:=by
 have fF:tmps[p]?.getD undef=.pointer (some ⟨g,0,none⟩):=by simpa using hp
 have fA:tmps[u]?.getD undef=.pointer (some ⟨g2,0,none⟩):=by simpa using fB
 have hl:=run_loadVar_row (P:=P) w g t ty cs fr d hg hu (by cases d<;>simp_all [TypeDesc.isRow]) hi;have fG:=run_loadVar_row (P:=P) w g2 t2 ty2 cs2 fr2 d2 fC fD (by cases d2<;>simp_all [TypeDesc.isRow]) fE;simp [results,h,fF,fA,asAddr,hl,fG]
section
variable {w:World} {g k:Nat} {T:PT} {S:Nat→Prop}
theorem zEW {fn:Func} {p u:Tmp} {a:Act} {wz:World} {t':Tr} {T':PT} {an:Ans} {r r2:Nat} {Q:Ending→World→Prop} {r':PT×Ans} {cs:List Value} (hR:Blk wz r 28 (zAa t')) (fA:Blk wz r2 67 cs)
 (hQ:DoT S r' w=Q) (fB:r'=(T',an)) (ht:RefS (zAM S g k) wz t' T') (hv:zDV (zAM S g k) wz (.agg cs.toArray) an) (fC:cs.length=10) (hb:Below g w wz) (hz:w.heap.size=g)
 (h:fn.results=#[.cell p 28,.cell u 67]) (hp:a.tmps.getD p undef=.pointer (some ⟨r,0,none⟩)) (hu:a.tmps.getD u undef=.pointer (some ⟨r2,0,none⟩)) (hd:a.defers=[]) :
 bodyPost Tryz.prog fn Q .ret a wz:=by
 refine bodyPost_ret (zDX h _ _ r 28 (zAa t').toArray (0,0) _ hp hR Tryz.underlying28 rfl (by kernel_rfl) r2 67 cs.toArray (0,0) _ hu fA Tryz.underlying67 rfl (by rw [List.size_toArray,fC];kernel_rfl)) hd ?_;rw [←hQ,fB];exact⟨⟨t',_,rfl,ht.mono fun _ hb=>.inl hb,hv.mono fun _ hb=>.inl hb⟩,hz.symm▸hb⟩
theorem zAZ {fn:Func} {p u:Tmp} {a:Act} {wz:World} {t':Tr} {T':PT} {an:Ans} {r r2:Nat} {Q:Ending→World→Prop} {r':PT×Ans} {z z2 cs:List Value} (hR:Blk wz r 28 z) (fF:Blk wz r2 67 z2)
 (hQ:DoT S r' w=Q) (fG:r'=(T',an)) (ht:RefS (zAM S g k) wz t' T') (hv:zDV (zAM S g k) wz (.agg cs.toArray) an) (fH:cs.length=10) (hb:Below g w wz) (hz:w.heap.size=g) (hr:g≤r∧r<g+k) (fI:g≤r2∧r2<g+k) (fC:r≠r2)
 (h:fn.results=#[.cell p 28,.cell u 67]) (hp:a.tmps.getD p undef=.pointer (some ⟨r,0,none⟩)) (hu:a.tmps.getD u undef=.pointer (some ⟨r2,0,none⟩)) (hd:a.defers=[]) :
 bodyPost Tryz.prog fn Q .ret a ((wz.setRow r (zAa t').toArray).setRow r2 cs.toArray):=by
 have fD:Chg (fun b=>b=r∨b=r2) wz ((wz.setRow r (zAa t').toArray).setRow r2 cs.toArray):=((Chg.refl _ wz).setRow (fun _=>.inl rfl) _).setRow (fun _=>.inr rfl) _
 have fA:Blk ((wz.setRow r (zAa t').toArray).setRow r2 cs.toArray) r 28 (zAa t'):=by
  have h1:Blk (wz.setRow r (zAa t').toArray) r 28 (zAa t'):=setRow_heap wz r _ (zAa t').toArray _ _ hR;exact h1.chg ((Chg.refl (fun b=>b=r2) _).setRow (fun _=>rfl) _) fC
 have fB:Blk ((wz.setRow r (zAa t').toArray).setRow r2 cs.toArray) r2 67 cs:=by
  have h1:Blk (wz.setRow r (zAa t').toArray) r2 67 z2:=fF.chg ((Chg.refl (fun b=>b=r) _).setRow (fun _=>rfl) _) fun e=>fC e.symm;exact setRow_heap _ r2 _ cs.toArray _ _ h1
 have fE:Chg (zAM S g k) wz ((wz.setRow r (zAa t').toArray).setRow r2 cs.toArray):=fD.mono fun b _ e=>.inr (by omega);exact zEW fA fB hQ fG (ht.chg fE) (hv.chg fE) fH (hb.trans (fD.below (by have:=hb.size;omega) fun b hb e=>by omega)) hz h hp hu hd
end
open Go.Proofs
def ifV (p:Nat):Value:=.iface 25 (.pointer (some ⟨p,0,none⟩))
theorem method_do (a:Addr) (w:World):(method 354 25 (.pointer (some a)) "Do").run Tryz.prog w=.ok (24,.pointer (some a)) w:=by kernel_rfl
theorem blk_set10 {w:World} {g:Nat} {t:TypeId} {a0 a1 a2 a3 a4 a5 a6 a7 a8 a9:Value} (h:Blk w g t [a0,a1,a2,a3,a4,a5,a6,a7,a8,a9]) (v0 v1 v2 v3 v4 v5 v6 v7 v8 v9:Value) :
 Blk ((((((((((w.setCell ⟨g,0,none⟩ (v0)).setCell ⟨g,1,none⟩ (v1)).setCell ⟨g,2,none⟩ (v2)).setCell ⟨g,3,none⟩ (v3)).setCell ⟨g,4,none⟩ (v4)).setCell ⟨g,5,none⟩ (v5)).setCell ⟨g,6,none⟩ (v6)).setCell ⟨g,7,none⟩ (v7)).setCell ⟨g,8,none⟩ (v8)).setCell ⟨g,9,none⟩ (v9)) g t [v0,v1,v2,v3,v4,v5,v6,v7,v8,v9]:=(((((((((h.set_ 0 v0).set_ 1 v1).set_ 2 v2).set_ 3 v3).set_ 4 v4).set_ 5 v5).set_ 6 v6).set_ 7 v7).set_ 8 v8).set_ 9 v9
theorem chg10 (w:World) (g:Nat) (v0 v1 v2 v3 v4 v5 v6 v7 v8 v9:Value):Chg (fun b=>b=g) w ((((((((((w.setCell ⟨g,0,none⟩ (v0)).setCell ⟨g,1,none⟩ (v1)).setCell ⟨g,2,none⟩ (v2)).setCell ⟨g,3,none⟩ (v3)).setCell ⟨g,4,none⟩ (v4)).setCell ⟨g,5,none⟩ (v5)).setCell ⟨g,6,none⟩ (v6)).setCell ⟨g,7,none⟩ (v7)).setCell ⟨g,8,none⟩ (v8)).setCell ⟨g,9,none⟩ (v9)) :=
 ((((((((((Chg.refl (fun b=>b=g) w).setCell (p:=⟨g,0,none⟩) (fun _=>rfl) v0).setCell (p:=⟨g,1,none⟩) (fun _=>rfl) v1).setCell (p:=⟨g,2,none⟩) (fun _=>rfl) v2).setCell (p:=⟨g,3,none⟩) (fun _=>rfl) v3).setCell (p:=⟨g,4,none⟩) (fun _=>rfl) v4).setCell (p:=⟨g,5,none⟩) (fun _=>rfl) v5).setCell (p:=⟨g,6,none⟩) (fun _=>rfl) v6).setCell (p:=⟨g,7,none⟩) (fun _=>rfl) v7).setCell (p:=⟨g,8,none⟩) (fun _=>rfl) v8).setCell (p:=⟨g,9,none⟩) (fun _=>rfl) v9
theorem Sees.chg1 {w w1:World} {B size n z:Nat} {A:Option Addr} {xs:List Value} (h:Sees w B size A n xs) (hs:0<size) {t:TypeId} {cs:List Value} (hz:Blk w z t cs) (hd:∀ u,xs[0]? = some u→∀ off:Nat,cs[off]?≠some u) (hc:Chg (fun b=>b=z) w w1):Sees w1 B size A n xs:=by
 refine⟨h.len,fun hn=>?_⟩;obtain⟨b,off,e,hb,fA⟩:=h.at_ hn
 have fB:b≠z:=fun e=>by
  subst e
  have hl:0<xs.length:=by rw [h.len];exact Nat.mul_pos hn hs
  have h0:xs[0]? = some xs[0]:=List.getElem?_eq_getElem hl;have h1:=fA 0 _ h0;rw [Nat.add_zero,hz.cell off] at h1;exact hd _ h0 off h1
 refine⟨b,off,e,hb,fun j u hu=>?_⟩;rw [←fA j u hu];exact hc.cell (p:=⟨b,off+j,none⟩) (World.block_lt_of_cell? _ _ (fA j u hu)) fB
theorem zBO.chg1 {w w1:World} {v:Value} {a:Ans} (h:zBO w v a) {z:Nat} (hz:Blk w z 67 zAs) (hC:Chg (fun b=>b=z) w w1):zBO w1 v a:=by
 obtain⟨dA,dc,eA,ec,h1,h2,h3⟩:=h;refine⟨dA,dc,eA,ec,h1,(h2.chg1 (by decide) hz (fun u hu off e=>?_) hC).more hC.size,(h3.chg1 (by decide) hz (fun u hu off e=>?_) hC).more hC.size⟩
 · obtain⟨x,rfl⟩:=bvs_0 hu;rcases zEn e with ⟨_,_,e,e2⟩ | ⟨_,_,_,e⟩ | ⟨_,e⟩
   · cases e;cases e2
   · cases e
   · cases e
 · obtain⟨x,rfl⟩:=ent_0 hu;rcases zEn e with ⟨_,_,e,_⟩ | ⟨_,_,_,e⟩ | ⟨_,e⟩<;>cases e
theorem Blk.drew {w:World} {g:Nat} {t:TypeId} {cs:List Value} (h:Blk w g t cs):Blk w.drew g t cs:=h
def AskQ (a:Ans) (Pv:Value→Prop) (R:World→World→Prop) (w:World) (e:Ending) (w':World):Prop :=
 ∃ v w0 w1,e=.returned (.tuple #[v,.int .i64 (a.code:Int)])∧zBO w' v a∧Pv v∧Below w.heap.size w w0∧R w0 w1∧Chg (fun b=>w.heap.size≤b∧b<w0.heap.size) w1 w'
theorem ask_gen (p:Nat) (o:Opn) (A:Option Addr) (c:Nat) (a:Ans) (Pv:Value→Prop) (R:World→World→Prop) (w:World) (hR:∀ W W',R W W'→W.heap.size≤W'.heap.size∧∀ b,w.heap.size≤b→b<W.heap.size→W'.heap[b]? = W.heap[b]?)
 (fB:∀ W,Below w.heap.size w W→Calls Tryz.prog 24 #[.pointer (some ⟨p,0,none⟩),opV o A c] W fun e w'=>(∃ v,e=.returned v∧zBO w' v a∧Pv v)∧R W w') :
 Calls Tryz.prog 51 #[ifV p,opV o A c] w (AskQ a Pv R w):=by
 unfold opV opC ifV;have gD:=method_do;go_enter Tryz.func51,Tryz.ntmps51;go_upto_region 1 with (fail);have fJ:Blk ((w.alloc (.cells (opC o A c).toArray 70)).alloc (.cells zAs.toArray 67)) w.heap.size 70 (opC o A c):=(Blk.new w _ _).alloc _
 have fK:Blk ((w.alloc (.cells (opC o A c).toArray 70)).alloc (.cells zAs.toArray 67)) (w.heap.size+1) 67 zAs:=by
  have:=Blk.new (w.alloc (.cells (opC o A c).toArray 70)) 67 zAs;simpa using this
 have fF:Below w.heap.size w ((w.alloc (.cells (opC o A c).toArray 70)).alloc (.cells zAs.toArray 67)):=((Below.refl _ _).alloc (Nat.le_refl _) _).alloc (by simp) _
 have fY:((w.alloc (.cells (opC o A c).toArray 70)).alloc (.cells zAs.toArray 67)).heap.size=w.heap.size+2:=by simp
 change Code.wp _ _ _ _ ((w.alloc (.cells (opC o A c).toArray 70)).alloc (.cells zAs.toArray 67));generalize (w.alloc (.cells (opC o A c).toArray 70)).alloc (.cells zAs.toArray 67)=w0 at *;have fL:=fB w0 fF;have fM:=hR w0;obtain⟨g,fG⟩:∃ g,w.heap.size=g:=⟨_,rfl⟩;rw [fG] at fJ fK fF fY fM;simp only [fG];have fR:=hid fG;have fZ:=hid fF;have gA:=hid fM;have yc:=fun j=>fJ.cell j;have y0:=yc 0;have y1:=yc 1;have y2:=yc 2;have y3:=yc 3;have y4:=yc 4;have y5:=yc 5;have y6:=yc 6;have y7:=yc 7;simp only [opC,List.getElem?_cons_succ,List.getElem?_cons_zero] at y0 y1 y2 y3 y4 y5 y6 y7;unfold opV opC at fL;clear fG fF fM yc fJ fB hR
 go_upto_region 2 with (first
  | (go_at_call 24;refine fL.mono ?_;rintro e w4 ⟨⟨v,rfl,hA,fS⟩,fT⟩;have fN:=hid fS;clear fS;have fU:=hid hA;obtain⟨dA,dc,eA,ec,rfl,-,-⟩:=hA;have fD:=hid fT;have fO:=Blk.new w4 67 zAs;clear fT)
  | (refine wpList_store_row rfl 67 (.tmp 6) (.tmp 9) rfl w4.heap.size (zAh a.code a.stat (.slice dA a.data.length dc) (.slice eA a.ents.length ec)).toArray rfl (by rfl) 67 _ fO rfl rfl (zAv _ _ _ _ _ _ _ _) ?_))
 have fV:Blk ((w4.alloc (.cells zAs.toArray 67)).setRow w4.heap.size (zAh a.code a.stat (.slice dA a.data.length dc) (.slice eA a.ents.length ec)).toArray) w4.heap.size 67 (zAh a.code a.stat (.slice dA a.data.length dc) (.slice eA a.ents.length ec)):=setRow_heap (w4.alloc (.cells zAs.toArray 67)) w4.heap.size _ (zAh a.code a.stat (.slice dA a.data.length dc) (.slice eA a.ents.length ec)).toArray _ _ fO
 have fH:Below w4.heap.size w4 ((w4.alloc (.cells zAs.toArray 67)).setRow w4.heap.size (zAh a.code a.stat (.slice dA a.data.length dc) (.slice eA a.ents.length ec)).toArray):=((Chg.refl (fun b=>w4.heap.size≤b) w4).alloc _ |>.setRow (fun _=>Nat.le_refl _) _).below (Nat.le_refl _) fun b hb e=>by omega
 have fC:=gA.out w4 fD.out;have gB:w0.heap.size≤w4.heap.size:=fC.1;have fW:Blk w4 (g+1) 67 zAs:=(fC.2 (g+1) (by omega) (by omega)).trans fK;have fA:=fW.fresh fH;have gC:=hid (fU.out.fresh fH);have fP:=hid fH;clear fO fH fU fL fW fK fC;change Code.wp _ _ _ _ ((w4.alloc (.cells zAs.toArray 67)).setRow w4.heap.size (zAh a.code a.stat (.slice dA a.data.length dc) (.slice eA a.ents.length ec)).toArray);generalize (w4.alloc (.cells zAs.toArray 67)).setRow w4.heap.size (zAh a.code a.stat (.slice dA a.data.length dc) (.slice eA a.ents.length ec)).toArray=w5 at *;have xc:=fun j=>fV.cell j;have x0:=xc 0;have x1:=xc 1;have x2:=xc 2;have x3:=xc 3;have x4:=xc 4;have x5:=xc 5;have x6:=xc 6;have x7:=xc 7;have x8:=xc 8;have x9:=xc 9;simp only [zAh,List.getElem?_cons_succ,List.getElem?_cons_zero] at x0 x1 x2 x3 x4 x5 x6 x7 x8 x9;obtain⟨z,fI⟩:∃ z,w4.heap.size=z:=⟨_,rfl⟩;rw [fI] at x0 x1 x2 x3 x4 x5 x6 x7 x8 x9 gB;simp only [fI];have gE:=hid fI
 have gF:g+1<z:=by omega
 have f0:=fA.frozen 0;have f1:=fA.frozen 1;have f2:=fA.frozen 2;have f3:=fA.frozen 3;have f4:=fA.frozen 4;have f5:=fA.frozen 5;have f6:=fA.frozen 6;have f7:=fA.frozen 7;have f8:=fA.frozen 8;have f9:=fA.frozen 9;have q0:=fA.cell 0;have q1:=fA.cell 1;have q2:=fA.cell 2;have q3:=fA.cell 3;have q4:=fA.cell 4;have q5:=fA.cell 5;have q6:=fA.cell 6;have q7:=fA.cell 7;have q8:=fA.cell 8;have q9:=fA.cell 9;simp only [zAs,List.getElem?_cons_succ,List.getElem?_cons_zero] at q0 q1 q2 q3 q4 q5 q6 q7 q8 q9;have fE:=hid fA;clear xc fV y0 y1 y2 y3 y4 y5 y6 y7 fI fA
 go_frame
 go_region
 have fQ:=blk_set10 fE.out (.int .i64 (a.code:Int)) (.int .i64 a.stat.ino) (.int .i64 a.stat.kind) (.int .i64 a.stat.links) (.int .i64 a.stat.size) (.int .i64 a.stat.made) (.int .i64 a.stat.blocks) (.slice dA a.data.length dc) (.slice eA a.ents.length ec) (.bool false);have fX:=chg10 w5 (g+1) (.int .i64 (a.code:Int)) (.int .i64 a.stat.ino) (.int .i64 a.stat.kind) (.int .i64 a.stat.links) (.int .i64 a.stat.size) (.int .i64 a.stat.made) (.int .i64 a.stat.blocks) (.slice dA a.data.length dc) (.slice eA a.ents.length ec) (.bool false);go_wp2;refine bodyPost_ret (zAA rfl _ _ (g+1) 67 (zAh a.code a.stat (.slice dA a.data.length dc) (.slice eA a.ents.length ec)).toArray (0,0) _ rfl fQ.drew Tryz.underlying67 rfl rfl) rfl ?_;refine⟨_,w0,w4,rfl,gC.out.chg1 fE.out fX.drew,fN.out,by rw [fR.out];exact fZ.out,fD.out,?_⟩;refine (Chg.of_fresh fP.out).trans fX.drew (fun _ _ h=>h) fun b hb e=>?_;rw [fR.out];omega
def AskA (a:Ans) (w:World) (e:Ending) (w':World):Prop:=∃ v,e=.returned (.tuple #[v,.int .i64 (a.code:Int)])∧zBO w' v a∧EntF w.heap.size v∧Below w.heap.size w w'
theorem ask_q (own:Nat→Option Role) (lay:Nat→NA) (p mb:Nat) (T:PT) (o:Opn) (A:Option Addr) (c:Nat) (m0:Int) (w:World) (h:PlainAt w own lay p mb T) (hT:T.Wf) (fA:o.kind=9∨o.kind=10∨o.kind=11) (hf:o.fine=true) (fB:o.off≤9223372036854775807∧-9223372036854775808≤o.off) (fC:o.len≤9223372036854775807∧-9223372036854775808≤o.len) (fD:o.path.size≤100000) (hm:w.cell? ⟨0,0,none⟩=some (.int .i64 m0)) :
 Calls Tryz.prog 51 #[ifV p,opV o A c] w (AskA (T.run o).2 w):=by
 refine (ask_gen p o A c (T.run o).2 (EntF w.heap.size) (fun W W'=>Below W.heap.size W W') w (fun W W' h=>⟨h.size,fun b _ hb=>h.block b hb⟩) fun W hW=>?_).mono ?_
 · exact (qdo_any own lay p mb T o A c m0 W (h.fresh hW) hT fA hf fB fC fD ((hW.cell (p:=⟨0,0,none⟩) (World.block_lt_of_cell? _ _ hm)).trans hm)).mono fun e w' ⟨⟨v,h1,h2,h3⟩,h4⟩=>⟨⟨v,h1,h2,h3.mono hW.size⟩,h4⟩
 · rintro e w' ⟨v,w0,w1,h1,h2,hF,h3,h4,h5⟩;refine⟨v,h1,h2,hF,(h3.trans (h4.mono h3.size)).trans (h5.below (by have:=h3.size;have:=h4.size;omega) fun b hb e=>by omega)⟩
def opR (x:ByteArray) (off len:Int):Opn:=⟨9,x,emp,off,len,[],0,0⟩
def opS (x:ByteArray):Opn:=⟨10,x,emp,0,0,[],0,0⟩
def opL (x:ByteArray):Opn:=⟨11,x,emp,0,0,[],0,0⟩
theorem fine_R (x:ByteArray) (off len:Int):(opR x off len).fine=true:=by
 unfold Opn.fine opR zHp zHr zHq zHk zHo zHn zHm;simp
theorem fine_S (x:ByteArray):(opS x).fine=true:=by
 unfold Opn.fine opS zHp zHr zHq zHk zHo zHn zHm;simp
theorem fine_L (x:ByteArray):(opL x).fine=true:=by
 unfold Opn.fine opL zHp zHr zHq zHk zHo zHn zHm;simp
theorem zIM {T:PT} {x:ByteArray} {l:List ByteArray} {i:Nat} {n:PN} (hs:spl x=(l,0)) (hw:T.walk l 1=(i,0)) (hg:zAd i T.nodes=some n) (hd:n.dir=false) (off len:Int):(T.run (opR x off len)).2=(n.read off len).told:=by
 have hi:=zAn hg;rw [hd] at hi;have hn:=zAp hg;unfold PT.run;rw [if_neg (by rw [fine_R];simp),if_neg (by simp [Opn.code1,opR,hs]),if_neg (by simp [Opn.code2,opR])];simp [PT.does,PT.asks,opR,Opn.from_,hs,hw,hi,hn]
theorem zIQ {T:PT} {x:ByteArray} {l:List ByteArray} {i:Nat} (hs:spl x=(l,0)) (hw:T.walk l 1=(i,0)):(T.run (opS x)).2=⟨0,T.stat i,[],[]⟩:=by
 unfold PT.run;rw [if_neg (by rw [fine_S];simp),if_neg (by simp [Opn.code1,opS,hs]),if_neg (by simp [Opn.code2,opS])];simp [PT.does,PT.asks,opS,Opn.from_,hs,hw,Ans.told]
theorem zI3 {T:PT} {x:ByteArray} {l:List ByteArray} {i:Nat} (hs:spl x=(l,0)) (hw:T.walk l 1=(i,0)) (hd:T.isDir i=true):(T.run (opL x)).2=T.list i:=by
 have h:(T.list i).told=T.list i:=by unfold PT.list;rw [if_pos hd];rfl
 unfold PT.run;rw [if_neg (by rw [fine_L];simp),if_neg (by simp [Opn.code1,opL,hs]),if_neg (by simp [Opn.code2,opL])];simp [PT.does,PT.asks,opL,Opn.from_,hs,hw,h]
theorem run_bad {T:PT} {o:Opn} (hf:o.fine=true) (hk:¬(o.kind=12∨o.kind=14)) {l:List ByteArray} {c:Nat} (hs:spl o.path=(l,c)) (hc:c≠0):(T.run o).2=.err c:=by
 unfold PT.run;rw [if_neg (by rw [hf];simp)]
 have h:o.code1=c:=by unfold Opn.code1;rw [if_neg hk,hs]
 rw [h,if_pos hc]
def slLen:Value→Nat
 | .slice _ k _=>k
 | _=>0
def RdP (d:Dat) (size:Nat) (w:World) (e:Ending) (w':World):Prop :=
 ∃ v,e=.returned (.tuple #[v,.int .i64 0])∧w'.ownsRow w.heap.size 5 1 v size (bvs (rdL d 0 size))∧Below w.heap.size w w'
theorem rdL_add (d:Dat) (a b:Nat):rdL d 0 (a+b)=rdL d 0 a++rdL d a b:=by
 unfold rdL;rw [List.range_add,List.map_append,List.map_map]
 congr 1
 refine List.map_congr_left fun j _=>?_;simp
theorem dread_any (own:Nat→Option Role) (lay:Nat→NA) (p mb:Nat) (T:PT) (x:ByteArray) (l:List ByteArray) (i:Nat) (n:PN) (m0:Int) (wb:Nat) (nv fv:Value) (w:World) (h:PlainAt w own lay p mb T) (hT:T.Wf)
 (hs:spl x=(l,0)) (hw:T.walk l 1=(i,0)) (hg:zAd i T.nodes=some n) (hd:n.dir=false) (hx:x.size≤100000) (hm:w.cell? ⟨0,0,none⟩=some (.int .i64 m0)) (fP:Blk w wb 89 [ifV p,nv,fv]) :
 Calls Tryz.prog 87 #[.pointer (some ⟨wb,0,none⟩),.string x,.int .i64 (n.size:Int)] w (RdP n.data n.size w):=by
 obtain⟨i0,hi,fU,fV,fW⟩:=info_parts zCV;have fX:=(hT.ok.get hg).1.size;obtain⟨size,fY⟩:∃ size,n.size=size:=⟨_,rfl⟩;obtain⟨Q,hQ⟩:∃ Q,RdP n.data n.size w=Q:=⟨_,rfl⟩;rw [hQ];rw [fY] at fX hQ ⊢;have fZ:=hid hQ
 have fB:∀ (W:World) (k m:Nat),Below w.heap.size w W→k<size→0<m→m≤131072→m≤size-k→Calls Tryz.prog 51 #[ifV p,.agg #[.int .i64 9,.string x,.string ⟨#[]⟩,.int .i64 (k:Int),.int .i64 (m:Int),.slice none 0 0,.int .i64 0,.int .i64 0]] W (AskA ⟨0,st0,rdL n.data k m,[]⟩ W):=fun W k m hb hk h0 gL gM=>by
  have h9:=ask_q own lay p mb T (opR x k m) none 0 m0 W (h.fresh hb) hT (.inl rfl) (fine_R _ _ _) (by show (k:Int)≤_∧_≤(k:Int);omega) (by show (m:Int)≤_∧_≤(m:Int);omega) hx ((hb.cell (p:=⟨0,0,none⟩) (World.block_lt_of_cell? _ _ hm)).trans hm);rw [zIM hs hw hg hd] at h9
  have hr:n.read (k:Int) (m:Int)=⟨0,st0,rdL n.data k m,[]⟩:=by
   unfold PN.read;rw [if_neg (by omega),if_neg (by omega)];simp only [Int.toNat_natCast];rw [show min m (n.size-k)=m by omega]
  rw [hr] at h9;exact h9
 have fC:=hid fB;have fD:=hid fP;clear fB hQ h hT hs hw hg hm fP;go_enter Tryz.func87,Tryz.ntmps87;go_wp2
 go_loopw [8] (fun v wr=>∃ k:Nat,k≤size∧wr.ownsRow w.heap.size 5 1 v k (bvs (rdL n.data 0 k))∧Hid (Below w.heap.size w wr)) (fun v _=>size-slLen v)
 case atStart=>exact⟨0,Nat.zero_le _,World.ownsRow_nil _ _ _ _,hid (Below.refl _ _)⟩
 case round =>
  obtain⟨k,hk,ho,fE⟩:=hrel;obtain⟨A8,c8,rfl,-⟩:=Sees.of_own (B:=wr.heap.size) ho fun g hg=>(ho.lt g hg).2;have gA:wb<w.heap.size:=fD.out.lt;have fH:=fD.out.below fE.out gA;have y0:=fH.cell 0;simp only [List.getElem?_cons_zero,ifV] at y0;by_cases fQ:k<size
  · have t1:decide ((k:Int)<(size:Int))=true:=by simpa using fQ
    obtain⟨m,fR⟩:∃ m,min 131072 (size-k)=m:=⟨_,rfl⟩
    have gN:min 131072 ((size:Int)-(k:Int))=(m:Int):=by omega
    have fI:=fC.out wr k m fE.out fQ (by omega) (by omega) (by omega);unfold ifV at fI;have fJ:=hid fR;clear fR fH
    go_upto_region 4 with (first
     | (go_at_call 51;refine fI.mono ?_;rintro e w1 ⟨v,rfl,hA,-,fK⟩;obtain⟨dA,dc,eA,ec,rfl,fL,-⟩:=hA;simp only [List.length_nil,zAD] at fL ⊢;have fM:=Blk.new w1 67 zAs)
     | (refine wpList_store_row rfl 67 (.tmp 9) (.tmp 30) rfl w1.heap.size (zAh 0 st0 (.slice dA m dc) (.slice eA 0 ec)).toArray rfl (by rfl) 67 _ fM rfl rfl (zAv _ _ _ _ _ _ _ _) ?_))
    have gB:Blk ((w1.alloc (.cells zAs.toArray 67)).setRow w1.heap.size (zAh 0 st0 (.slice dA m dc) (.slice eA 0 ec)).toArray) w1.heap.size 67 (zAh 0 st0 (.slice dA m dc) (.slice eA 0 ec)):=setRow_heap (w1.alloc (.cells zAs.toArray 67)) w1.heap.size _ (zAh 0 st0 (.slice dA m dc) (.slice eA 0 ec)).toArray _ _ fM
    have fG:Below w1.heap.size w1 ((w1.alloc (.cells zAs.toArray 67)).setRow w1.heap.size (zAh 0 st0 (.slice dA m dc) (.slice eA 0 ec)).toArray):=((Chg.refl (fun b=>w1.heap.size≤b) w1).alloc _ |>.setRow (fun _=>Nat.le_refl _) _).below (Nat.le_refl _) fun b hb e=>by omega
    have gC:=(fL.below fG).more fG.size;have fN:Below wr.heap.size wr ((w1.alloc (.cells zAs.toArray 67)).setRow w1.heap.size (zAh 0 st0 (.slice dA m dc) (.slice eA 0 ec)).toArray):=fK.trans (fG.mono fK.size);have fS:=zAN ho fN;change Code.wp _ _ _ _ ((w1.alloc (.cells zAs.toArray 67)).setRow w1.heap.size (zAh 0 st0 (.slice dA m dc) (.slice eA 0 ec)).toArray);generalize (w1.alloc (.cells zAs.toArray 67)).setRow w1.heap.size (zAh 0 st0 (.slice dA m dc) (.slice eA 0 ec)).toArray=w2 at *;have x7:w2.cell? ⟨w1.heap.size,7,none⟩=some (.slice dA m dc):=gB.cell 7
    have gO:((m:Int)==0)=false:=by have:=fJ.out;simp;omega
    have fA:=hid fN
    have gD:k+m≤size:=by have:=fJ.out;omega
    have gE:w.heap.size≤wr.heap.size:=fE.out.size;have gF:=hid (rdL_add n.data k m);clear fM fG fK fL fN fI;generalize fT:rdL n.data k m=dd at *;generalize gG:rdL n.data 0 k=dk at *
    have fF:dd.length=m:=by rw [←fT,zAD]
    have gH:=hid fF;clear fT gG fF
    go_wp2_with (first
     | (at_builtin;refine zAk _ rfl _ _ _ _ rfl w.heap.size 5 i0 (.int .u8 0) 1 1 Tryz.underlying64 hi fU fV fW rfl (.slice A8 k c8) k (bvs dk) rfl fS m (bvs dd) (zCK w2 Tryz.underlying64 dc gC (zCG dd)) (by unfold maxLen;omega) (by omega) (by have:=fA.out.size;omega) ?_;intro v3 w3 fO gI gJ))
    obtain⟨A9,c9,e9,-⟩:=Sees.of_own (B:=w3.heap.size) fO fun g hg=>(fO.lt g hg).2
    have gK:Below w.heap.size w w3:=by
     refine (fE.out.trans (fA.out.mono gE)).trans ((Chg.grown (S:=fun b=>w.heap.size≤b) (Chg.refl _ w2) gI fun g e hl=>(fS.lt g e).1).below (by have:=fA.out.size;omega) fun b hb e=>by omega)
    refine⟨⟨k+m,gD,?_,hid gK⟩,?_⟩
    · rw [gF.out,zB6];exact fO
    · rw [e9]
      show size-(k+m)<size-k
      have:=fJ.out;omega
  · obtain rfl:k=size:=by omega
    have t1:decide ((k:Int)<(k:Int))=false:=by simp
    clear fH;go_wp2;rw [←fZ.out];exact⟨_,rfl,ho,fE.out⟩
end Go.Proofs.YtolpcfhfcdkokaaGreatDoor
