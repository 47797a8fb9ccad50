/- Joined out of UPair..QNode. -/
import Derived.OrdersHeld
import Derived.Test.YtolpcfhfcdkokaaGreatDoorQ45
set_option maxHeartbeats 16000000
set_option maxRecDepth 100000
namespace Go.Proofs.YtolpcfhfcdkokaaGreatDoor
open Lib (hid)
open Go.RowKit
def SW (S:Nat→Prop) (w0 W:World) (b:Nat):Prop:=S b∨(w0.heap.size≤b∧b<W.heap.size)
def PairQ (w0:World) (S:Nat→Prop) (T':PT) (an:Ans) (c6 c7:Value) (wx:World):Prop :=
 ∃ ub ua t6 dA dc eA ec,c6=.pointer (some ⟨ub,0,none⟩)∧c7=.pointer (some ⟨ua,0,none⟩)∧Blk wx ub 28 (zAa t6)∧Blk wx ua 67 (zAh an.code an.stat (.slice dA an.data.length dc) (.slice eA an.ents.length ec))∧RefS S wx t6 T' ∧
  zDV S wx (.agg (zAh an.code an.stat (.slice dA an.data.length dc) (.slice eA an.ents.length ec)).toArray) an∧Below w0.heap.size w0 wx∧w0.heap.size≤ub∧w0.heap.size≤ua
theorem sw_lt {S:Nat→Prop} {w0 W:World} (hS:∀ b,S b→b<w0.heap.size) (hb:Below w0.heap.size w0 W):∀ b,SW S w0 W b→b<W.heap.size:=fun b h=>by
 have:=hb.size;rcases h with h | h
 · have:=hS b h;omega
 · exact h.2
theorem sw_ref {S:Nat→Prop} {w0 W:World} {t:Tr} {T:PT} (h:RefS S w0 t T) (hb:Below w0.heap.size w0 W):RefS (SW S w0 W) W t T:=(h.own.fresh hb).mono fun b hb=>by
 rcases hb with e | e
 · exact .inl e
 · exact .inr e.1
theorem zIg {S:Nat→Prop} {w0 W w1 wx:World} {ub ua:Nat} {t4:Tr} {T':PT} {an:Ans} {dA eA:Option Addr} {dc ec:Nat} (h:RefS (SW S w0 W) w1 t4 T')
 (hv:zDV (SW S w0 W) w1 (.agg (zAh an.code an.stat (.slice dA an.data.length dc) (.slice eA an.ents.length ec)).toArray) an) (fB:Below w0.heap.size w0 W) (fC:Below W.heap.size W w1) (fA:Below w1.heap.size w1 wx)
 (kub:Blk wx ub 28 z4) (kua:Blk wx ua 67 zAs) (fD:ub≠ua) (fF:w0.heap.size≤ub∧(ub<W.heap.size∨w1.heap.size≤ub)) (fG:w0.heap.size≤ua∧(ua<W.heap.size∨w1.heap.size≤ua)) :
 PairQ w0 S T' an (.pointer (some ⟨ub,0,none⟩)) (.pointer (some ⟨ua,0,none⟩)) ((wx.setRow ub (zAa t4).toArray).setRow ua (zAh an.code an.stat (.slice dA an.data.length dc) (.slice eA an.ents.length ec)).toArray):=by
 have fE:Chg (fun b=>b=ub∨b=ua) wx ((wx.setRow ub (zAa t4).toArray).setRow ua (zAh an.code an.stat (.slice dA an.data.length dc) (.slice eA an.ents.length ec)).toArray) :=
  ((Chg.refl (fun b=>b=ub∨b=ua) wx).setRow (fun _=>.inl rfl) _).setRow (fun _=>.inr rfl) _
 have hc:Chg (SW S w0 W) w1 ((wx.setRow ub (zAa t4).toArray).setRow ua (zAh an.code an.stat (.slice dA an.data.length dc) (.slice eA an.ents.length ec)).toArray) :=
  (Chg.of_fresh (S:=SW S w0 W) fA).trans fE (fun _ _ h=>h) fun b hb e=>by
   rcases e with e | e<;>(subst e;exact .inr (by omega))
 have k1:Blk (wx.setRow ub (zAa t4).toArray) ub 28 (zAa t4):=setRow_heap _ _ _ _ _ _ kub;have fH:=fB.size;have fI:=fC.size;have fJ:=fA.size;refine⟨ub,ua,t4,dA,dc,eA,ec,rfl,rfl,k1.row_far fD _,setRow_heap _ _ _ _ _ _ (kua.row_far (fun e=>fD e.symm) _),(h.chg hc).mono fun _ h=>.inl h,(hv.chg hc).mono fun _ h=>.inl h,?_,fF.1,fG.1⟩;exact ((fB.trans (fC.mono fH)).trans (fA.mono (by omega))).trans (fE.below (by omega) fun b hb e=>by omega)
section
variable {T:PT} {l m:List ByteArray}
theorem make_err {dir:Bool} {made:Nat}:(T.make l dir made).2.code≠0→(T.make l dir made).1=T:=by
 unfold PT.make
 repeat' split
 all_goals first | (intro _;rfl) | (intro h;exact absurd rfl h)
theorem link_err:(T.link l m).2≠0→(T.link l m).1=T:=by
 unfold PT.link
 repeat' split
 all_goals first | (intro _;rfl) | (intro h;exact absurd rfl h)
theorem zJp:(T.unlink l).2≠0→(T.unlink l).1=T:=by
 unfold PT.unlink
 repeat' split
 all_goals first | (intro _;rfl) | (intro h;exact absurd rfl h)
theorem rmdir_err:(T.rmdir l).2≠0→(T.rmdir l).1=T:=by
 unfold PT.rmdir
 repeat' split
 all_goals first | (intro _;rfl) | (intro h;exact absurd rfl h)
theorem zJs:(T.rename l m).2≠0→(T.rename l m).1=T:=by
 unfold PT.rename
 repeat' split
 all_goals first | (intro _;rfl) | (intro h;exact absurd rfl h)
theorem write_err {i:Nat} {off:Int} {ds:List UInt8}:(T.write i off ds).2≠0→(T.write i off ds).1=T:=by
 unfold PT.write;simp only
 repeat' split
 all_goals first | (intro _;rfl) | (intro h;exact absurd rfl h)
theorem trunc_err {i:Nat} {off:Int}:(T.trunc i off).2≠0→(T.trunc i off).1=T:=by
 unfold PT.trunc
 repeat' split
 all_goals first | (intro _;rfl) | (intro h;exact absurd rfl h)
theorem asks_err {o:Opn} {i:Nat}:(T.asks o i).2.code≠0→(T.asks o i).1=T:=by
 unfold PT.asks
 repeat' split
 all_goals first | (intro _;rfl) | exact write_err | exact trunc_err
theorem zIA {o:Opn}:(T.does o l m).2.code≠0→(T.does o l m).1=T:=by
 unfold PT.does
 repeat' split
 all_goals first | (intro _;rfl) | exact make_err | exact link_err | exact zJp | exact rmdir_err | exact zJs | exact asks_err
end
open Go.Proofs
def zFa (T:PT) (w:World) (e:Ending) (w':World):Prop :=
 (∃ v l,e=.returned (.tuple #[v,.int .i64 (T.dump.2:Int)])∧OwnN w' w.heap.size v l∧l.map Nd.tn=T.dump.1)∧Below w.heap.size w w'
theorem OwnN.base {w:World} {B B1:Nat} {v:Value} {l:List Nd} (h:OwnN w B v l) (hb:B1≤B):OwnN w B1 v l :=
 ⟨zBT h.row fun g hg=>by have:=(h.row.lt g hg).1;omega,fun i hi=>zBT (h.data i hi) fun g hg=>by have:=((h.data i hi).lt g hg).1;omega,h.apart,h.aside⟩
theorem ddump_any (own:Nat→Option Role) (lay:Nat→NA) (p mb:Nat) (T:PT) (m0:Int) (w:World) (h:PlainAt w own lay p mb T) (hI:T.Inv) (hm:w.cell? ⟨0,0,none⟩=some (.int .i64 m0)) (fL:T.spots.length≤1000000) :
 Calls Tryz.prog 10 #[ifV p] w (zFa T w):=by
 have fQ:=@run_makeMap Tryz.prog;obtain⟨n1,fM,fN⟩:=hI.gr.root;have fO:Below w.heap.size w ((w.alloc (.map #[] 0)).alloc (.cells [ifV p,.slice none 0 0,.map (some w.heap.size)].toArray 89)):=((Below.refl _ _).alloc (Nat.le_refl _) _).alloc (by simp) _
 have fF:Blk ((w.alloc (.map #[] 0)).alloc (.cells [ifV p,.slice none 0 0,.map (some w.heap.size)].toArray 89)) (w.heap.size+1) 89 [ifV p,.slice none 0 0,.map (some w.heap.size)]:=by
  have:=Blk.new (w.alloc (.map #[] 0)) 89 [ifV p,.slice none 0 0,.map (some w.heap.size)];simpa using this
 have fG:DmpAt p w ((w.alloc (.map #[] 0)).alloc (.cells [ifV p,.slice none 0 0,.map (some w.heap.size)].toArray 89)) (.slice none 0 0) [] ⟨[],[]⟩ :=
  ⟨fO,fF,(zAy.made w zAG Value.string 3).chg ((Chg.refl (fun _=>False) _).alloc _) id,OwnN.nil _ _,rfl,fun i q e=>(by cases e),Nat.le_refl _⟩
 have fD:=dlist_any own lay p mb T m0 w h hI hm 202 [] 1 n1 ⟨[],[]⟩ (.slice none 0 0) [] _ fG rfl fM fN (by simp) (by decide) (by simp) (by
  have:(tl T 202 [] 1).length≤1000000:=fL;simpa using this)
 rw [show pth []=⟨#[47]⟩ from rfl] at fD;have fE:T.dump=if (zAU T 202 [] 1 ⟨[],[]⟩).2=0 then ((zAU T 202 [] 1 ⟨[],[]⟩).1.nodes,0) else ([],(zAU T 202 [] 1 ⟨[],[]⟩).2):=rfl;obtain⟨r,hr⟩:∃ r,zAU T 202 [] 1 ⟨[],[]⟩=r:=⟨_,rfl⟩;rw [hr] at fD fE;obtain⟨s1,c1⟩:=r;have fH:=hid fE;obtain⟨Q,hQ⟩:∃ Q,zFa T w=Q:=⟨_,rfl⟩;rw [hQ];have fI:=hid hQ;clear hr fE fG fF hQ;unfold ifV at fD;unfold ifV;go_enter Tryz.func10,Tryz.ntmps10
 go_upto_region 5 with (first
  | (go_at_call 33;refine fD.mono ?_;rintro e w1 ⟨rfl,v1,l1,fB,-⟩))
 by_cases fJ:c1=0
 · have fP:((c1:Int) != 0)=false:=by simp;omega
   have fK:=fB.wk;have y1:=fK.cell 1;simp only [List.getElem?_cons_succ,List.getElem?_cons_zero] at y1;have fA:=fH.out;rw [if_pos fJ] at fA;have fA:=hid fA;have fC:=hid fB;clear fB fK;go_wp2;rw [←fI.out];refine⟨⟨v1,l1,?_,fC.out.own.base (by omega),?_⟩,fC.out.below⟩
   · rw [fA.out];rfl
   · rw [fA.out];exact fC.out.tn
 · have fP:((c1:Int) != 0)=true:=by simp;omega
   have fA:=fH.out;rw [if_neg fJ] at fA;have fA:=hid fA;have fC:=hid fB;clear fB;go_wp2;rw [←fI.out];refine⟨⟨.slice none 0 0,[],?_,OwnN.nil _ _,?_⟩,fC.out.below⟩
   · rw [fA.out];rfl
   · rw [fA.out];rfl
theorem Sees.chgS {w w1:World} {B size n:Nat} {A:Option Addr} {xs:List Value} {S:Nat→Prop} (h:Sees w B size A n xs) (hs:0<size) (hc:Chg S w w1) (hn:∀ b off,A=some ⟨b,off,none⟩→0<n→¬S b):Sees w1 B size A n xs:=by
 refine⟨h.len,fun h0=>?_⟩;obtain⟨b,off,e,hb,fA⟩:=h.at_ h0
 have hl:0<xs.length:=by rw [h.len];exact Nat.mul_pos h0 hs
 have fB:b<w.heap.size:=World.block_lt_of_cell? _ _ (fA 0 _ (List.getElem?_eq_getElem hl));exact⟨b,off,e,hb,fun j u hu=>(hc.cell (p:=⟨b,off+j,none⟩) fB (hn b off e h0)).trans (fA j u hu)⟩
theorem zFb {α:Type} (f g:α→Nat):∀ l:List α,(∀ x∈l,f x≤g x)→(l.map f).sum≤(l.map g).sum
 | [],_=>Nat.le_refl _
 | x::r,h=>by
  have h1:=h x List.mem_cons_self;have h2:=zFb f g r fun y hy=>h y (List.mem_cons_of_mem _ hy);simp only [List.map_cons,List.sum_cons];omega
theorem spots_few {P:PT} (h:P.Inv):P.spots.length≤4096:=by
 have h1:=zE2 h
 have h2:(edges P).length≤P.used:=by
  unfold edges PT.used;rw [List.length_flatMap];refine zFb _ _ _ fun p hp=>?_;have fA:=(h.gr.ok.node p hp).1;have h3:=fA.nlen
  have h4:p.2.keys.length≤p.2.count:=by unfold PN.count zDt;omega
  have h5:p.2.keys.length=p.2.data.length+p.2.slots.length:=by simp [PN.keys]
  simp only [List.length_map];omega
 have h6:=h.room;have h7:=h.gr.ok.sec;omega
theorem node_made {P:PT} (h:P.Inv) (i:Nat):(P.node i).made≤1099511627776∧(P.node i).size≤136704:=by
 unfold PT.node
 cases e:zAd i P.nodes with
 | none=>simp
 | some n=>exact⟨(h.gr.ok.get e).1.made,(h.gr.ok.get e).1.size⟩
theorem mks_mem {P:PT}:∀ (L pre:List zFg) (x:Tn),x∈P.mks pre L→∃ p y,y∈L∧(∀ z∈p,z∈pre∨z∈L)∧x=P.tn1 p y
 | [],_,x,h=>by cases h
 | y::r,pre,x,h=>by
  rw [PT.mks] at h;rcases List.mem_cons.1 h with rfl | h
  · exact⟨pre,y,List.mem_cons_self,fun z hz=>.inl hz,rfl⟩
  · obtain⟨p,y',h1,h2,h3⟩:=mks_mem r (pre++[y]) x h;refine⟨p,y',List.mem_cons_of_mem _ h1,fun z hz=>?_,h3⟩;rcases h2 z hz with h4 | h4
    · rcases List.mem_append.1 h4 with h4 | h4
      · exact .inl h4
      · exact .inr (by rw [List.mem_singleton.1 h4];exact List.mem_cons_self)
    · exact .inr (List.mem_cons_of_mem _ h4)
theorem dump_node {P:PT} (h:P.Inv) (h0:P.dump.2=0) (x:Tn) (hx:x∈P.dump.1):x.path.size≤400∧x.same.size≤400∧x.data.length≤136704∧0≤x.made∧x.made≤1099511627776∧(x.kind=1∨x.kind=2):=by
 obtain⟨h1,fA⟩:=dump_ok h0;rw [h1] at hx;obtain⟨p,y,hy,hp,rfl⟩:=mks_mem _ _ _ hx;have hs:=fA y hy;obtain⟨hm,hz⟩:=node_made h y.2;have e0:emp.size=0:=rfl;unfold PT.tn1
 split
 · exact⟨hs,by simp [e0],by simp,by simp,by simp only;omega,.inr rfl⟩
 · split
   · rename_i z hf
     have fB:z∈P.spots:=by
      rcases hp z (List.mem_of_find?_eq_some hf) with h9 | h9
      · cases h9
      · exact h9
     exact⟨hs,fA z fB,by simp,by simp,by simp only;omega,.inl rfl⟩
   · exact⟨hs,by simp [e0],by simp only [zAD];exact hz,by simp,by simp only;omega,.inl rfl⟩
end Go.Proofs.YtolpcfhfcdkokaaGreatDoor
