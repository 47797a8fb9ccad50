/- Joined out of DEntry..QFew. -/
import Derived.Deep.RegionLaw
import Derived.Test.YtolpcfhfcdkokaaGreatDoorR15
set_option maxHeartbeats 16000000
set_option maxRecDepth 100000
set_option linter.unusedSimpArgs false
set_option linter.unusedVariables false
namespace Go.Proofs.YtolpcfhfcdkokaaGreatDoor
open Lib (hid)
open Proofs.Tryz renaming prog → Aa,underlying31 → Ab,underlying70 → Ac,underlying3 → Ad,underlying9 → Ae,underlying22 → Af
open Go renaming run_string_add_sum → Ag,setRow_heap → Ah
open Value renaming string → Aj,slice → Ak,ownBlock → Al
open Chg renaming of_fresh → Am,refl → An
open List renaming map_append → Ao,length_append → Ap,length_singleton → Aq,getElem?_cons_zero → Ar,length_nil → As,length → At,getElem?_cons_succ → Au,mem_cons → Av,not_mem_nil → Aw,length_map → Ax,length_cons → Ay,drop_eq_getElem_cons → Az,getElem_mem → AA,mem_append → AB,getElem_map → AC,all_eq_true → AD,getElem_of_mem → AE,take_succ_eq_append_getElem → AF,map_cons → AG,length_range → AH,getElem_range → AI,mem_map → AJ,mem_range → AK
open World renaming block_lt_of_cell? → AL,ownsRow_nil → AM
open Blk renaming new → AN
open Nat renaming le_refl → AO,zero_le → AP
open Sees renaming of_own → AQ
open DataW renaming trod → AR,trod_int → AS,weights → AT
open Go.RowKit Go.Proofs
theorem under_any (p nm:ByteArray) (w:World) (hp:p.size≤1000000) (hn:nm.size≤1000000):Calls Aa 53 #[.string p,.string nm] w fun e w'=>e=.returned (.string (zKC p nm))∧w=w':=by
 have h1:=fun (W:World)=>Ag (P:=Aa) (w:=W) p ⟨#[47]⟩ (by have:(⟨#[47]⟩:ByteArray).size=1:=rfl;omega);have h2:=fun (W:World)=>Ag (P:=Aa) (w:=W) (p++⟨#[47]⟩) nm (by rw [ByteArray.size_append];have:(⟨#[47]⟩:ByteArray).size=1:=rfl;omega);have h3:=fun (W:World)=>Ag (P:=Aa) (w:=W) ⟨#[]⟩ ⟨#[47]⟩ (by decide);have h4:=fun (W:World)=>Ag (P:=Aa) (w:=W) (⟨#[]⟩++⟨#[47]⟩) nm (by rw [ByteArray.size_append];have:(⟨#[47]⟩:ByteArray).size=1:=rfl;have:(⟨#[]⟩:ByteArray).size=0:=rfl;omega);obtain⟨r,hr⟩:=nM (zKC p nm);rw [hr];have fA:=hid hr;clear hr;go_enter Tryz.func53,Tryz.ntmps53;by_cases h:p=slash
 · have t:(p.toList==[47])=true:=by rw [h,toList_data];rfl
   have hv:r=⟨#[]⟩++⟨#[47]⟩++nm:=by rw [←fA.o];unfold zKC;rw [if_pos h];rfl
   clear h h1 h2;go_wp2;go_ret;exact⟨(by rw [hv];rfl),rfl⟩
 · have t:(p.toList==[47])=false:=by
    have:¬p.toList=[47]:=fun e=>h (by rw [toList_data] at e;cases p with | mk d=>exact congrArg ByteArray.mk (Array.toList_inj.1 e));simpa using this
   have hv:r=p++⟨#[47]⟩++nm:=by rw [←fA.o];unfold zKC;rw [if_neg h];rfl
   clear h h3 h4;go_wp2;go_ret;exact⟨(by rw [hv];rfl),rfl⟩
structure DmpAt (p:Nat) (w0 wr:World) (v:Value) (l:List Nd) (s:DS):Prop where
 below:Below w0.heap.size w0 wr
 wk:Blk wr (w0.heap.size+1) 89 [ifV p,v,.map (some w0.heap.size)]
 fst:zAt wr zAG Aj 3 w0.heap.size s.first
 own:OwnN wr (w0.heap.size+2) v l
 tn:l.map Nd.tn=s.nodes
 fne:∀ i q,zAe i s.first=some q→q≠emp
 flen:s.first.length≤s.nodes.length
theorem DmpAt.fresh {p:Nat} {w0 wr w1:World} {v:Value} {l:List Nd} {s:DS} (h:DmpAt p w0 wr v l s) (hb:Below wr.heap.size wr w1):DmpAt p w0 w1 v l s :=
 ⟨h.below.trans (hb.mono h.below.size),h.wk.fresh hb,h.fst.chg (Am (S:=fun _=>False) hb) id,h.own.fresh hb,h.tn,h.fne,h.flen⟩
structure GrD (B:Nat) (w:World) (v:Value) (w':World) (v':Value):Prop where
 chg:Chg (fun b=>b=B∨b=B+1∨v.ownBlock=some b) w w'
 at_:v'.ownBlock=v.ownBlock∨∃ g,v'.ownBlock=some g∧w.heap.size≤g
theorem GrD.fresh {B:Nat} {w w':World} (v:Value) (hb:Below w.heap.size w w'):GrD B w v w' v:=⟨Am hb,.inl rfl⟩
theorem GrD.trans {B:Nat} {w w1 w2:World} {v v1 v2:Value} (h:GrD B w v w1 v1) (k:GrD B w1 v1 w2 v2):GrD B w v w2 v2:=by
 have hs:=h.chg.size;refine⟨h.chg.trans k.chg (fun _ _ h=>h) fun b hb e=>?_,?_⟩
 · rcases e with e | e | e
   · exact .inl e
   · exact .inr (.inl e)
   · rcases h.at_ with h1 | ⟨g,h1,h2⟩
     · rw [h1] at e;exact .inr (.inr e)
     · rw [h1] at e;injection e with e;omega
 · rcases k.at_ with k1 | ⟨g,k1,k2⟩
   · rw [k1];exact h.at_
   · exact .inr ⟨g,k1,by omega⟩
def DmpP (p:Nat) (w0:World) (v:Value) (wr:World) (r:DS×Nat) (e:Ending) (w':World):Prop:=e=.returned (.int .i64 (r.2:Int))∧∃ v' l,DmpAt p w0 w' v' l r.1∧GrD w0.heap.size wr v w' v'
theorem DmpAt.node {p:Nat} {w0 wr w2:World} {v v':Value} {l:List Nd} {s s':DS} {x:Nd} (h:DmpAt p w0 wr v l s) (hx:s'.nodes=s.nodes++[x.tn]) (hb:Below w0.heap.size w0 w2) (hk:Blk w2 (w0.heap.size+1) 89 [ifV p,v',.map (some w0.heap.size)])
 (hf:zAt w2 zAG Aj 3 w0.heap.size s'.first) (ho:OwnN w2 (w0.heap.size+2) v' (l++[x])) (hn:∀ i q,zAe i s'.first=some q→q≠emp) (hl:s'.first.length≤s.first.length+1):DmpAt p w0 w2 v' (l++[x]) s' :=
 ⟨hb,hk,hf,ho,by rw [Ao,h.tn,hx];rfl,hn,by rw [hx,Ap,Aq];have:=h.flen;omega⟩
theorem DmpAt.push {p B:Nat} {w0 w W1 w4:World} {v v':Value} {l:List Nd} {s s':DS} {x:Nd} (h:DmpAt p w0 w v l s) (hB:w0.heap.size=B) (hc:Chg (fun b=>b=B) w W1) (hd:W1.ownsRow w.heap.size 5 1 (ndV x) x.data.length (bvs x.data))
 (ho:w4.ownsRow (B+2) 75 5 v' (l.length+1) (ncs l++zCN x)) (hg:W1.grownBy w4 v.ownBlock) (fC:v'.ownBlock=v.ownBlock∨v'.ownBlock=some W1.heap.size) (hf:zAt W1 zAG Aj 3 B s'.first) (hx:s'.nodes=s.nodes++[x.tn])
 (hn:∀ i q,zAe i s'.first=some q→q≠emp) (hl:s'.first.length≤s.first.length+1):DmpAt p w0 (w4.setCell ⟨B+1,1,none⟩ v') v' (l++[x]) s'∧GrD B w v (w4.setCell ⟨B+1,1,none⟩ v') v':=by
 subst hB;have fB:∀ g,v.ownBlock=some g→w0.heap.size+2≤g∧g<w.heap.size:=fun g e=>h.own.row.lt g e;have fD:w0.heap.size+2≤w.heap.size:=h.wk.lt;have fI:=hc.size;have hG:Grows W1 v w4 v':=Grows.of_law (Below.refl _ W1) hg fC nr;have fE:OwnN w4 (w0.heap.size+2) v' (l++[x]):=h.own.step hc (fun b hb e=>by omega) fD hd ho hG;have fA:Chg (fun b=>b=w0.heap.size+1) w4 (w4.setCell ⟨w0.heap.size+1,1,none⟩ v'):=(An (fun b=>b=w0.heap.size+1) w4).setCell (p:=⟨w0.heap.size+1,1,none⟩) (fun _=>rfl) v';have fF:Blk W1 (w0.heap.size+1) 89 [ifV p,v,.map (some w0.heap.size)]:=h.wk.chg hc (by omega)
 have fG:Blk w4 (w0.heap.size+1) 89 [ifV p,v,.map (some w0.heap.size)]:=fF.law hg fun e=>by have:=(fB _ e).1;omega
 have fH:zAt w4 zAG Aj 3 w0.heap.size s'.first:=hf.chg hG.chg fun e=>by have:=(fB _ e).1;omega
 refine⟨h.node hx ?_ (fG.set_ 1 v') (fH.chg fA (by omega)) (fE.chg fA fun b hb e=>by omega) hn hl,⟨((hc.mono fun b _ e=>.inl e).trans hG.chg (fun _ _ h=>h) (fun _ _ e=>.inr (.inr e))).trans fA (fun _ _ h=>h) (fun b _ e=>.inr (.inl e)),hG.at_.imp id fun⟨g,e,hg⟩=>⟨g,e,by omega⟩⟩⟩;refine ((h.below.trans (hc.below (B:=w0.heap.size) (by omega) fun b hb e=>by omega)).trans (hG.chg.below (B:=w0.heap.size) (by omega) fun b hb e=>?_)).trans (fA.below (by have:=hG.chg.size;omega) fun b hb e=>by omega);have:=(fB _ e).1;omega
theorem ask_S (own:Nat→Option Role) (lay:Nat→NA) (p mb:Nat) (T:PT) (x:ByteArray) (a:Ans) (m0:Int) (w:World) (h:PlainAt w own lay p mb T) (hT:T.Wf) (hx:x.size≤100000) (hm:w.cell? ⟨0,0,none⟩=some (.int .i64 m0)) (ha:(T.run (opS x)).2=a) :
 Calls Aa 51 #[ifV p,.agg #[.int .i64 10,.string x,.string ⟨#[]⟩,.int .i64 0,.int .i64 0,.slice none 0 0,.int .i64 0,.int .i64 0]] w (AskA a w):=by
 have h9:=ask_q own lay p mb T (opS x) none 0 m0 w h hT (.inr (.inl rfl)) (fine_S x) ⟨(by decide:(0:Int)≤9223372036854775807),(by decide:(-9223372036854775808:Int)≤0)⟩ ⟨(by decide:(0:Int)≤9223372036854775807),(by decide:(-9223372036854775808:Int)≤0)⟩ hx hm;rw [ha] at h9;exact h9
theorem ask_L (own:Nat→Option Role) (lay:Nat→NA) (p mb:Nat) (T:PT) (x:ByteArray) (a:Ans) (m0:Int) (w:World) (h:PlainAt w own lay p mb T) (hT:T.Wf) (hx:x.size≤100000) (hm:w.cell? ⟨0,0,none⟩=some (.int .i64 m0)) (ha:(T.run (opL x)).2=a) :
 Calls Aa 51 #[ifV p,.agg #[.int .i64 11,.string x,.string ⟨#[]⟩,.int .i64 0,.int .i64 0,.slice none 0 0,.int .i64 0,.int .i64 0]] w (AskA a w):=by
 have h9:=ask_q own lay p mb T (opL x) none 0 m0 w h hT (.inr (.inr rfl)) (fine_L x) ⟨(by decide:(0:Int)≤9223372036854775807),(by decide:(-9223372036854775808:Int)≤0)⟩ ⟨(by decide:(0:Int)≤9223372036854775807),(by decide:(-9223372036854775808:Int)≤0)⟩ hx hm;rw [ha] at h9;exact h9
theorem zHM {T:PT} {x:ByteArray} (h:400<x.size):(T.run (opS x)).2=.err 70 :=
 run_bad (fine_S x) (show ¬((10:Int)=12∨(10:Int)=14) by decide) (show spl x=([],70) by unfold spl;rw [if_pos (.inl h)]) (by decide)
theorem zHL {T:PT} {x:ByteArray} (h:400<x.size):(T.run (opL x)).2=.err 70 :=
 run_bad (fine_L x) (show ¬((11:Int)=12∨(11:Int)=14) by decide) (show spl x=([],70) by unfold spl;rw [if_pos (.inl h)]) (by decide)
theorem zKq (own:Nat→Option Role) (lay:Nat→NA) (p mb:Nat) (T:PT) (m0:Int) (w0:World) (h0:PlainAt w0 own lay p mb T) (hT:T.Wf) (hm:w0.cell? ⟨0,0,none⟩=some (.int .i64 m0)) (f:Nat)
 (ns:List ByteArray) (j:Nat) (n:PN) (s:DS) (v:Value) (l:List Nd) (wr:World) (hD:DmpAt p w0 wr v l s) (hw:T.walk ns 1=(j,0)) (hg:zAe j T.nodes=some n) (hc:∀ x∈ns,chk x=true) (lJ:(pth ns).size≤1000)
 (fK:n.dir=true→∀ s v l wr,DmpAt p w0 wr v l s→s.nodes.length+(tl T f ns j).length≤1000000→Calls Aa 33 #[.pointer (some ⟨w0.heap.size+1,0,none⟩),.string (pth ns)] wr (DmpP p w0 v wr (zAQ T f ns j s)))
 (jQ:s.nodes.length+(1+if n.dir=true then (tl T f ns j).length else 0)≤1000000) :
 Calls Aa 52 #[.pointer (some ⟨w0.heap.size+1,0,none⟩),.string (pth ns),.int .i64 n.kind] wr (DmpP p w0 v wr (zFl T (zAQ T f) ns j s)):=by
 have hu:zFl T (zAQ T f) ns j s=if 400<(pth ns).size then (s,70) else if T.isDir j=true then zAQ T f ns j (T.step s (ns,j)) else (T.step s (ns,j),0):=rfl;obtain⟨R,hR⟩:=nM (zFl T (zAQ T f) ns j s);rw [hR] at hu ⊢;have jE:wr.cell? ⟨0,0,none⟩=some (.int .i64 m0):=(hD.below.cell (p:=⟨0,0,none⟩) (AL _ _ hm)).trans hm;have jF:=h0.fresh hD.below;obtain⟨B,jG⟩:=nM (w0.heap.size);rw [jG] at fK ⊢;have fB:=hid jG;have fW:=hD.wk;rw [jG] at fW;have y0:=fW.cell 0;simp only [Ar,ifV] at y0;have fH:=hid hD;have kY:=hid fK;clear hR jG hD fK fW;by_cases fI:400<(pth ns).size
 · rw [if_pos fI] at hu;have fX:=ask_S own lay p mb T (pth ns) _ m0 wr jF hT (by omega) jE (zHM fI);unfold ifV at fX;have jH:=hid hu;obtain⟨x,hx⟩:=nM (pth ns);rw [hx] at fX ⊢;clear hu hx jF jE fI;go_enter Tryz.func52,Tryz.ntmps52
   go_upto_region 3 with (first
    | (go_at_call 51;refine fX.mono ?_;rintro e w1 ⟨va,rfl,hA,-,fL⟩;obtain⟨dA,dc,eA,ec,rfl,-,-⟩:=hA;simp only [Ans.err,As];have gS:=AN w1 67 zAk)
    | (refine stA 70 st0 (.slice dA 0 dc) (.slice eA 0 ec) gS rfl rfl rfl (by rfl) rfl rfl rfl ?_))
   have gQ:Below w1.heap.size w1 ((w1.alloc (.cells zAk.toArray 67)).setRow w1.heap.size (zAq 70 st0 (.slice dA 0 dc) (.slice eA 0 ec)).toArray):=((An (fun b=>w1.heap.size≤b) w1).alloc _ |>.setRow (fun _=>AO _) _).below nr fun b hb e=>by omega
   go_wp2;go_ret;rw [jH.o];exact⟨rfl,v,l,fH.o.fresh (fL.trans (gQ.mono fL.size)),GrD.fresh v (fL.trans (gQ.mono fL.size))⟩
 · rw [if_neg fI] at hu
   have kZ:(pth ns).size≤400:=by omega
   have kI:=zFj hc kZ
   have jR:T.stat j=⟨j,n.kind,n.links,n.size,n.made,n.count⟩:=by unfold PT.stat;rw [hg]
   have kJ:=zJx (T:=T) kI hw;rw [jR] at kJ;have fX:=ask_S own lay p mb T (pth ns) _ m0 wr jF hT (by omega) jE kJ;unfold ifV at fX;have fV:=zAm hg;rw [fV] at hu
   have lK:∀ q d,(⟨pth ns,n.kind,(n.made:Int),q,d⟩:Tn)=⟨pth ns,n.kind,((T.node j).made:Int),q,d⟩:=fun q d=>by rw [zAn hg]
   go_enter Tryz.func52,Tryz.ntmps52;obtain⟨x,hx⟩:=nM (pth ns);simp only [hx] at fX ⊢
   go_upto_region 4 with (first
    | (go_at_call 51;refine fX.mono ?_;rintro e w1 ⟨va,rfl,hA,-,fL⟩;obtain⟨dA,dc,eA,ec,rfl,-,-⟩:=hA;simp only [As];have gS:=AN w1 67 zAk)
    | (refine stA 0 ⟨j,n.kind,n.links,n.size,n.made,n.count⟩ (.slice dA 0 dc) (.slice eA 0 ec) gS rfl rfl rfl (by rfl) rfl rfl rfl ?_))
   have gT:Blk ((w1.alloc (.cells zAk.toArray 67)).setRow w1.heap.size (zAq 0 ⟨j,n.kind,n.links,n.size,n.made,n.count⟩ (.slice dA 0 dc) (.slice eA 0 ec)).toArray) w1.heap.size 67 (zAq 0 ⟨j,n.kind,n.links,n.size,n.made,n.count⟩ (.slice dA 0 dc) (.slice eA 0 ec)):=Ah (w1.alloc (.cells zAk.toArray 67)) w1.heap.size _ (zAq 0 ⟨j,n.kind,n.links,n.size,n.made,n.count⟩ (.slice dA 0 dc) (.slice eA 0 ec)).toArray _ _ gS
   have gQ:Below w1.heap.size w1 ((w1.alloc (.cells zAk.toArray 67)).setRow w1.heap.size (zAq 0 ⟨j,n.kind,n.links,n.size,n.made,n.count⟩ (.slice dA 0 dc) (.slice eA 0 ec)).toArray):=((An (fun b=>w1.heap.size≤b) w1).alloc _ |>.setRow (fun _=>AO _) _).below nr fun b hb e=>by omega
   have fM:=hid (fH.o.fresh (fL.trans (gQ.mono fL.size)));have jS:=hid (GrD.fresh (B:=w0.heap.size) v (fL.trans (gQ.mono fL.size)));change Code.wp _ _ _ _ ((w1.alloc (.cells zAk.toArray 67)).setRow w1.heap.size (zAq 0 ⟨j,n.kind,n.links,n.size,n.made,n.count⟩ (.slice dA 0 dc) (.slice eA 0 ec)).toArray);generalize (w1.alloc (.cells zAk.toArray 67)).setRow w1.heap.size (zAq 0 ⟨j,n.kind,n.links,n.size,n.made,n.count⟩ (.slice dA 0 dc) (.slice eA 0 ec)).toArray=w2 at *;have lA:Hid (w1.heap.size≠B):=hid (by have h1:=fH.o.wk.lt;have h2:=fL.size;have h3:=fB.o;omega);generalize w1.heap.size=z at *;have x1:w2.cell? ⟨z,1,none⟩=some (.int .i64 (j:Int)):=gT.cell 1;have x4:w2.cell? ⟨z,4,none⟩=some (.int .i64 (n.size:Int)):=gT.cell 4;have x5:w2.cell? ⟨z,5,none⟩=some (.int .i64 (n.made:Int)):=gT.cell 5;have jT:=hid gT;have jU:=fH;clear gS gQ fL fX gT y0 fH jF jE;go_upto_region 5 with (fail);have gD:Blk (w2.alloc (.cells [.string x,.int .i64 n.kind,.int .i64 (n.made:Int),.string ⟨#[]⟩,.slice none 0 0].toArray 75)) w2.heap.size 75 [.string x,.int .i64 n.kind,.int .i64 (n.made:Int),.string ⟨#[]⟩,.slice none 0 0]:=AN w2 _ _;have jI:Below w2.heap.size w2 (w2.alloc (.cells [.string x,.int .i64 n.kind,.int .i64 (n.made:Int),.string ⟨#[]⟩,.slice none 0 0].toArray 75)):=br.alloc nr _
   have lB:(w2.alloc (.cells [.string x,.int .i64 n.kind,.int .i64 (n.made:Int),.string ⟨#[]⟩,.slice none 0 0].toArray 75)).heap.size=w2.heap.size+1:=by simp
   have gR:=fM.o.fresh jI;have kK:=jT.o.fresh jI;have lL:z<w2.heap.size:=jT.o.lt;change Code.wp _ _ _ _ (w2.alloc (.cells [.string x,.int .i64 n.kind,.int .i64 (n.made:Int),.string ⟨#[]⟩,.slice none 0 0].toArray 75));generalize w2.alloc (.cells [.string x,.int .i64 n.kind,.int .i64 (n.made:Int),.string ⟨#[]⟩,.slice none 0 0].toArray 75)=w3 at *;generalize fY:w2.heap.size=q at *;have fW:=gR.wk;rw [fB.o] at fW;obtain⟨A8,c8,lC,-⟩:=AQ (B:=w3.heap.size) gR.own.row fun g hg=>(gR.own.row.lt g hg).2;subst lC
   have lM:B+2≤q:=by have h1:=fM.o.wk.lt;rw [fB.o,fY] at h1;omega
   have fH:=hid gR;have gE:=hid gD;have fN:=hid fW;have gF:=hid kK;have kL:=hid (show l.length=s.nodes.length by have:=congrArg At gR.tn;simpa using this)
   have lN:l.length≤1000000:=by have:=kL.o;omega
   have gG:=hid jI;clear x1 x4 x5 jT jI jU;have e0:=gD.cell 0;have e1:=gD.cell 1;have e2:=gD.cell 2;have e3:=gD.cell 3;have e4:=gD.cell 4;simp only [Au,Ar] at e0 e1 e2 e3 e4;have y1:=fW.cell 1;simp only [Au,Ar] at y1;obtain⟨iN,jV,gH,gI,gJ⟩:=info_parts zED;clear gD fW kK gR;by_cases hd:n.dir=true
   · have lD:(n.kind==2)=true:=by unfold PN.kind;rw [hd];rfl
     go_upto_region 6 with (fail);have gK:=hid fH.o.own.row;rw [fB.o] at gK
     have fZ:Blk (w3.alloc (.cells [.string x,.int .i64 n.kind,.int .i64 (n.made:Int),.string ⟨#[]⟩,.slice none 0 0].toArray 75)).drew (q+1) 75 [.string x,.int .i64 n.kind,.int .i64 (n.made:Int),.string ⟨#[]⟩,.slice none 0 0]:=by
      have h9:=AN w3 75 [.string x,.int .i64 n.kind,.int .i64 (n.made:Int),.string ⟨#[]⟩,.slice none 0 0];rw [lB] at h9;exact h9.drew
     have fO:=hid (zA3 (P:=Aa) (tx:=31) Ab fZ (by intro u hu;simp only [Av,Aw,or_false] at hu;rcases hu with rfl | rfl | rfl | rfl | rfl<;>rfl));have fP:Hid (∀ g,(Ak A8 l.length c8).ownBlock=some g→B+2≤g):=hid fun g hg=>(gK.o.lt g hg).1;have y1':=(fN.o.alloc (.cells [.string x,.int .i64 n.kind,.int .i64 (n.made:Int),.string ⟨#[]⟩,.slice none 0 0].toArray 75)).cell 1;simp only [Au,Ar] at y1';clear fZ
     go_region_law (refine zBc _ (by rfl) (.tmp 35) (.tmp 37) _ _ (by rfl) (B+2) 75 iN _ 5 72 Ab jV gH gI gJ rfl (.slice A8 l.length c8) l.length (ncs l) (by rfl) ((gK.o.alloc _).drew) 1 [.string x,.int .i64 n.kind,.int .i64 (n.made:Int),.string ⟨#[]⟩,.slice none 0 0] fO.o (by unfold maxLen;omega) (by omega) (by simp;omega) ?_;intro v4 w4 fJ fQ fC;have fR:=(((fN.o.alloc _).drew).law fQ (fun e=>by have:=fP.o _ e;omega));obtain⟨A9,c9,gU,-⟩:=AQ (B:=w4.heap.size) fJ fun g hg=>(fJ.lt g hg).2;subst gU;have y4:=fR.cell 1;have f4:=fR.frozen 1;simp only [Au,Ar] at y4)
     all_goals
      have fE:DmpAt p w0 (w4.setCell ⟨B+1,1,none⟩ (.slice A9 (l.length+1) c9)) (.slice A9 (l.length+1) c9) (l++[⟨x,n.kind,n.made,⟨#[]⟩,none,0,[]⟩]) (T.step s (ns,j))∧GrD B w2 (.slice A8 l.length c8) (w4.setCell ⟨B+1,1,none⟩ (.slice A9 (l.length+1) c9)) (.slice A9 (l.length+1) c9):=by
       have jR:T.step s (ns,j)=⟨s.nodes++[⟨x,n.kind,n.made,⟨#[]⟩,[]⟩],s.first⟩:=by
        unfold PT.step;rw [if_pos (by rw [fV];exact hd),zAn hg,hx];unfold PN.kind;rw [if_pos hd];rfl
       rw [jR];refine fM.o.push fB.o (W1:=(w3.alloc (.cells [.string x,.int .i64 n.kind,.int .i64 (n.made:Int),.string ⟨#[]⟩,.slice none 0 0].toArray 75)).drew) (((Am (by rw [fY];exact gG.o)).alloc _).drew) (AM _ _ _ _) fJ fQ fC ?_ rfl (fH.o.fne) (Nat.le_succ _);have h9:=fH.o.fst;rw [fB.o] at h9;exact (h9.chg ((An (fun _=>False) w3).alloc _) id).chg ((An (fun _=>False) _).drew) id
      obtain⟨fE,gA⟩:=fE
      have jW:=kY.o hd _ _ _ _ fE (by
       have:(T.step s (ns,j)).nodes.length=s.nodes.length+1:=by
        have h9:=congrArg At fE.tn;simp only [Ax,Ap,Aq] at h9;have:=kL.o;omega
       rw [if_pos hd] at jQ;omega)
      rw [hx] at jW;rw [if_pos hd] at hu;rw [←hu] at jW;clear hu;have h2:=jS.o;rw [fB.o] at h2;have fS:=hid (h2.trans gA);clear fR y4 f4 fJ fQ fC fE gA h2;generalize w4.setCell ⟨B+1,1,none⟩ (.slice A9 (l.length+1) c9)=w5 at *;go_wp2_with (go_at_call 33;refine jW.mono ?_;rintro e w6 ⟨rfl,jX⟩);go_ret;obtain⟨v6,l6,lE,kM⟩:=jX;rw [fB.o] at kM;exact⟨rfl,v6,l6,lE,by rw [fB.o];exact fS.o.trans kM⟩
   · have lD:(n.kind==2)=false:=by unfold PN.kind;simp [hd]
     have kN:Hid (n.kind=1):=hid (by unfold PN.kind;simp [hd]);have lO:=(hT.ok.get hg).2;have lP:=hT.ok.ino;rw [if_neg hd] at hu;have jH:=hid hu;clear hu;have z1:=gF.o.cell 1;have z4:=gF.o.cell 4;simp only [zAq,Au,Ar] at z1 z4;have y2:=fN.o.cell 2;simp only [Au,Ar] at y2;have f3:=gE.o.frozen 3;have fF:=fH.o.fst;rw [fB.o] at fF
     have jY:zAt w3.drew zAG Aj 3 B s.first:=fF.chg (An (fun _=>False) w3).drew id
     have kO:∀ W:World,(zeroValue 9).run Aa W=.ok (.string ⟨#[]⟩) W:=fun W=>by kernel_rfl
     have lk:=jY.look (t:=87) zD3 Tryz.underlying87 (kO _) (zHW j (by omega));have lk2:=fF.look (t:=87) zD3 Tryz.underlying87 (kO _) (zHW j (by omega));simp only [zAG] at lk lk2;clear y1
     cases gV:zAe j s.first with
     | some qn =>
      rw [gV] at lk lk2;simp only [orV] at lk lk2;go_upto_region 8 with (fail)
      go_region
      go_upto_region 9 with (fail);have fU:Chg (fun b=>b=q) w3 (w3.setCell ⟨q,3,none⟩ (.string qn)).drew:=((An (fun b=>b=q) w3).setCell (p:=⟨q,3,none⟩) (fun _=>rfl) (.string qn)).drew;have gL:Blk (w3.setCell ⟨q,3,none⟩ (.string qn)).drew q 75 [.string x,.int .i64 n.kind,.int .i64 (n.made:Int),.string qn,.slice none 0 0]:=(gE.o.set_ 3 (.string qn)).drew;have gB:=hid (fN.o.chg fU (by omega));have jJ:=hid (fF.chg fU (by omega));have gW:Hid (Chg (fun b=>b=B) w2 (w3.setCell ⟨q,3,none⟩ (.string qn)).drew):=hid ((Am (by rw [fY];exact gG.o)).trans fU (fun _ _ h=>h) (fun b hb e=>by rw [fY] at hb;omega));have fD:=hid gL;have kP:qn.toList.isEmpty=false:=zEk (fH.o.fne _ _ gV);have e3a:(w3.setCell ⟨q,3,none⟩ (.string qn)).drew.cell? ⟨q,3,none⟩=some (.string qn):=gL.cell 3;clear lk lk2 fF jY fU e0 e1 e2 e3 e4 z1 z4 y2 f3 gL;generalize (w3.setCell ⟨q,3,none⟩ (.string qn)).drew=wa at *
      have gM:Hid (T.step s (ns,j)=⟨s.nodes++[⟨x,n.kind,n.made,qn,[]⟩],s.first⟩):=hid (by
       unfold PT.step;rw [if_neg (by rw [fV];exact hd),gV,zAn hg,hx,kN.o])
      have fA:=fH.o.fne;have fA:=hid fA;have fG:Hid (s.first.length≤s.first.length+1):=hid (Nat.le_succ _)
      have gX:Hid (wa.ownsRow (B+2) 75 5 (.slice A8 l.length c8) l.length (ncs l)):=hid (by
       have h9:=zAy fM.o.own.row gW.o fun g hg e=>by have h8:=(fM.o.own.row.lt g hg).1;rw [fB.o] at h8;omega
       rw [fB.o] at h9;exact h9)
      have jZ:Hid (B+1<wa.heap.size):=hid gB.o.lt;have fZ:Blk (wa.alloc (.cells [.string x,.int .i64 n.kind,.int .i64 (n.made:Int),.string qn,.slice none 0 0].toArray 75)).drew wa.heap.size 75 [.string x,.int .i64 n.kind,.int .i64 (n.made:Int),.string qn,.slice none 0 0]:=(AN wa _ _).drew;have fO:=hid (zA3 (P:=Aa) (tx:=31) Ab fZ (by intro u hu;simp only [Av,Aw,or_false] at hu;rcases hu with rfl | rfl | rfl | rfl | rfl<;>rfl));have fP:Hid (∀ g,(Ak A8 l.length c8).ownBlock=some g→B+2≤g):=hid fun g hg=>(gX.o.lt g hg).1;have y1:=gB.o.cell 1;simp only [Au,Ar] at y1;have y1':=(gB.o.alloc (.cells [.string x,.int .i64 n.kind,.int .i64 (n.made:Int),.string qn,.slice none 0 0].toArray 75)).cell 1;simp only [Au,Ar] at y1';have e0:=fD.o.cell 0;have e1:=fD.o.cell 1;have e2:=fD.o.cell 2;have e3:=fD.o.cell 3;have e4:=fD.o.cell 4;simp only [Au,Ar] at e0 e1 e2 e3 e4;clear fZ;go_upto_region 14 with (fail)
      go_region_law (refine zBc _ (by rfl) (.tmp 81) (.tmp 83) _ _ (by rfl) (B+2) 75 iN _ 5 72 Ab jV gH gI gJ rfl (.slice A8 l.length c8) l.length (ncs l) (by rfl) ((gX.o.alloc _).drew) 1 [.string x,.int .i64 n.kind,.int .i64 (n.made:Int),.string qn,.slice none 0 0] fO.o (by unfold maxLen;omega) (by omega) (by have:=jZ.o;simp;omega) ?_;intro v4 w4 fJ fQ fC;have fR:=(((gB.o.alloc _).drew).law fQ (fun e=>by have:=fP.o _ e;omega));obtain⟨A9,c9,gU,-⟩:=AQ (B:=w4.heap.size) fJ fun g hg=>(fJ.lt g hg).2;subst gU;have y4:=fR.cell 1;have f4:=fR.frozen 1;simp only [Au,Ar] at y4)
      all_goals
       have fE:DmpAt p w0 (w4.setCell ⟨B+1,1,none⟩ (.slice A9 (l.length+1) c9)) (.slice A9 (l.length+1) c9) (l++[⟨x,n.kind,n.made,qn,none,0,[]⟩]) (T.step s (ns,j))∧GrD B w2 (.slice A8 l.length c8) (w4.setCell ⟨B+1,1,none⟩ (.slice A9 (l.length+1) c9)) (.slice A9 (l.length+1) c9):=by
        rw [gM.o];refine fM.o.push fB.o (W1:=(wa.alloc (.cells [.string x,.int .i64 n.kind,.int .i64 (n.made:Int),.string qn,.slice none 0 0].toArray 75)).drew) ((gW.o.alloc _).drew) (AM _ _ _ _) fJ fQ fC ?_ rfl fA.o fG.o;exact (jJ.o.chg ((An (fun _=>False) wa).alloc _) id).chg ((An (fun _=>False) _).drew) id
       obtain⟨fE,gA⟩:=fE;have h2:=jS.o;rw [fB.o] at h2;have gN:=hid fE;have fS:=hid (h2.trans gA);clear fR y4 f4 fJ fQ fC fE gA h2;generalize w4.setCell ⟨B+1,1,none⟩ (.slice A9 (l.length+1) c9)=w5 at *;go_wp2;go_ret;rw [jH.o];exact⟨rfl,_,_,gN.o,by rw [fB.o];exact fS.o⟩
     | none =>
      rw [gV] at lk lk2;simp only [orV] at lk lk2;go_upto_region 8 with (fail)
      go_region
      go_upto_region 9 with (fail);have fU:Chg (fun b=>b=q) w3 (w3.setCell ⟨q,3,none⟩ (.string ⟨#[]⟩)).drew:=((An (fun b=>b=q) w3).setCell (p:=⟨q,3,none⟩) (fun _=>rfl) (.string ⟨#[]⟩)).drew;have gL:Blk (w3.setCell ⟨q,3,none⟩ (.string ⟨#[]⟩)).drew q 75 [.string x,.int .i64 n.kind,.int .i64 (n.made:Int),.string ⟨#[]⟩,.slice none 0 0]:=(gE.o.set_ 3 (.string ⟨#[]⟩)).drew;have gB:=hid (fN.o.chg fU (by omega));have jK:=hid (gF.o.chg fU (by omega));have jJ:=fF.chg fU (by omega);have gW:Hid (Chg (fun b=>b=B) w2 (w3.setCell ⟨q,3,none⟩ (.string ⟨#[]⟩)).drew):=hid ((Am (by rw [fY];exact gG.o)).trans fU (fun _ _ h=>h) (fun b hb e=>by rw [fY] at hb;omega));have fD:=hid gL;have e3a:(w3.setCell ⟨q,3,none⟩ (.string ⟨#[]⟩)).drew.cell? ⟨q,3,none⟩=some (.string ⟨#[]⟩):=gL.cell 3;clear lk lk2 fF jY fU e0 e1 e2 e3 e4 z1 z4 y2 f3 gL;generalize (w3.setCell ⟨q,3,none⟩ (.string ⟨#[]⟩)).drew=wa at *;have z1:=jK.o.cell 1;have z4:=jK.o.cell 4;simp only [zAq,Au,Ar] at z1 z4;have y2:=gB.o.cell 2;simp only [Au,Ar] at y2;have kP:(⟨#[]⟩:ByteArray).toList.isEmpty=true:=zC0 rfl
      have lF:s.first.length<maxLen:=by have:=fH.o.flen;unfold maxLen;omega
      obtain⟨wm,gY,kQ,kR⟩:=(jJ.chg ((An (fun _=>False) wa).drew) id:zAt wa.drew zAG Aj 3 B s.first).store (t:=87) zD3 Tryz.underlying87 lF (a:=j) (v:=x) (zHW j (by omega));simp only [zAG] at gY;have jL:=hid (zAP kR);have kA:=hid kQ;clear kR kQ jJ;go_upto_region 10 with (fail)
      go_region
      go_upto_region 11 with (fail);have kS:=hid (gW.o.trans ((An (fun _=>False) wa).drew) (fun _ _ h=>h) (fun _ _ h=>h.elim) |>.trans jL.o (fun _ _ h=>h) (fun _ _ h=>h));have kT:=hid (gB.o.drew.chg jL.o (by omega));have kU:=hid (fD.o.drew.chg jL.o (by omega));have lG:=hid (jK.o.drew.chg jL.o lA.o);have kV:Below w0.heap.size w0 wm:=fM.o.below.trans (kS.o.below (by have:=fM.o.wk.lt;omega) fun b hb e=>by rw [fB.o] at hb;omega);have gZ:=dread_any own lay p mb T x ns j n m0 (B+1) (.slice A8 l.length c8) (.map (some B)) wm (h0.fresh kV) hT (by rw [←hx];exact kI) hw hg (by simpa using hd) (by rw [←hx];omega) ((kV.cell (p:=⟨0,0,none⟩) (AL _ _ hm)).trans hm) kT.o;clear z1 z4 y2 e3a kP gY gB fD jK gW;have z4:=lG.o.cell 4;simp only [zAq,Au,Ar] at z4;obtain⟨dd,kC⟩:=nM (rdL n.data 0 n.size);have jM:=zAE n.data 0 n.size;unfold RdP at gZ;rw [kC] at jM gZ;obtain⟨dl,gO⟩:=nM (n.size);rw [gO] at jM gZ z4;have kD:=hid kC;have jA:=hid jM;have gC:=hid gO;clear kC jM gO
      go_upto_region 12 with (first
       | (go_at_call 87;refine gZ.mono ?_;rintro e w5 ⟨v5,rfl,jN,kE⟩;obtain⟨A5,c5,lH,-⟩:=AQ (B:=w5.heap.size) jN fun g hg=>(jN.lt g hg).2;subst lH;have jO:=kU.o.fresh kE;have y5:=jO.cell 4;have f5:=jO.frozen 4;simp only [Au,Ar] at y5;have jB:=hid jN;have gP:=hid kE;have kF:=hid jO;clear jN kE jO))
      have jC:Chg (fun b=>b=q) w5 (w5.setCell ⟨q,4,none⟩ (.slice A5 dl c5)):=(An (fun b=>b=q) w5).setCell (p:=⟨q,4,none⟩) (fun _=>rfl) (.slice A5 dl c5);have lI:q<wm.heap.size:=kU.o.lt;have fT:Hid (Blk (w5.setCell ⟨q,4,none⟩ (.slice A5 dl c5)) q 75 [.string x,.int .i64 n.kind,.int .i64 (n.made:Int),.string ⟨#[]⟩,.slice A5 dl c5]):=hid (kF.o.set_ 4 (.slice A5 dl c5));have jP:=hid ((kT.o.fresh gP.o).chg jC (by omega));have kW:Hid (Chg (fun b=>b=B) w2 (w5.setCell ⟨q,4,none⟩ (.slice A5 dl c5))):=hid ((kS.o.trans (Am gP.o) (fun _ _ h=>h) (fun _ _ h=>h)).trans jC (fun _ _ h=>h) (fun b hb e=>by rw [fY] at hb;omega));have kG:=hid ((kA.o.chg (Am (S:=fun _=>False) gP.o) id).chg jC (by omega))
      have jD:Hid ((w5.setCell ⟨q,4,none⟩ (.slice A5 dl c5)).ownsRow w2.heap.size 5 1 (ndV ⟨x,n.kind,n.made,⟨#[]⟩,A5,c5,dd⟩) dd.length (bvs dd)):=hid (by
       have h9:=zAy jB.o jC fun g hg e=>by have:=(jB.o.lt g hg).1;omega
       have h8:=zBY (base':=w2.heap.size) h9 (fun g hg=>by have:=(h9.lt g hg).1;rw [fY];omega);unfold ndV;simp only;rw [jA.o];exact h8)
      clear y5 f5 z4 jC gZ;generalize w5.setCell ⟨q,4,none⟩ (.slice A5 dl c5)=wd at *
      have kX:x≠emp:=by rw [←hx];exact zFV ns
      have gM:Hid (T.step s (ns,j)=⟨s.nodes++[⟨x,n.kind,n.made,⟨#[]⟩,dd⟩],zA2 zAG j x s.first⟩):=hid (by
       unfold PT.step;rw [if_neg (by rw [fV];exact hd),gV,zAn hg,hx,kN.o,gC.o,←gC.o,kD.o];rfl)
      have fA:Hid (∀ i q,zAe i (zA2 zAG j x s.first)=some q→q≠emp):=hid fun i q' e=>by
       by_cases h:i=j
       · subst h;rw [zAr] at e;injection e with e;rw [←e];exact kX
       · rw [zAi zAG x h] at e;exact fH.o.fne i q' e
      have fG:Hid ((zA2 zAG j x s.first).length≤s.first.length+1):=hid (zBi zAG j x s.first);clear kX
      have gX:Hid (wd.ownsRow (B+2) 75 5 (.slice A8 l.length c8) l.length (ncs l)):=hid (by
       have h9:=zAy fM.o.own.row kW.o fun g hg e=>by have h8:=(fM.o.own.row.lt g hg).1;rw [fB.o] at h8;omega
       rw [fB.o] at h9;exact h9)
      have jZ:Hid (B+1<wd.heap.size):=hid jP.o.lt;have fZ:Blk (wd.alloc (.cells [.string x,.int .i64 n.kind,.int .i64 (n.made:Int),.string ⟨#[]⟩,.slice A5 dl c5].toArray 75)).drew wd.heap.size 75 [.string x,.int .i64 n.kind,.int .i64 (n.made:Int),.string ⟨#[]⟩,.slice A5 dl c5]:=(AN wd _ _).drew;have fO:=hid (zA3 (P:=Aa) (tx:=31) Ab fZ (by intro u hu;simp only [Av,Aw,or_false] at hu;rcases hu with rfl | rfl | rfl | rfl | rfl<;>rfl));have fP:Hid (∀ g,(Ak A8 l.length c8).ownBlock=some g→B+2≤g):=hid fun g hg=>(gX.o.lt g hg).1;have y1:=jP.o.cell 1;simp only [Au,Ar] at y1;have y1':=(jP.o.alloc (.cells [.string x,.int .i64 n.kind,.int .i64 (n.made:Int),.string ⟨#[]⟩,.slice A5 dl c5].toArray 75)).cell 1;simp only [Au,Ar] at y1';have e0:=fT.o.cell 0;have e1:=fT.o.cell 1;have e2:=fT.o.cell 2;have e3:=fT.o.cell 3;have e4:=fT.o.cell 4;simp only [Au,Ar] at e0 e1 e2 e3 e4;clear fZ;go_upto_region 14 with (fail)
      go_region_law (refine zBc _ (by rfl) (.tmp 81) (.tmp 83) _ _ (by rfl) (B+2) 75 iN _ 5 72 Ab jV gH gI gJ rfl (.slice A8 l.length c8) l.length (ncs l) (by rfl) ((gX.o.alloc _).drew) 1 [.string x,.int .i64 n.kind,.int .i64 (n.made:Int),.string ⟨#[]⟩,.slice A5 dl c5] fO.o (by unfold maxLen;omega) (by omega) (by have:=jZ.o;simp;omega) ?_;intro v4 w4 fJ fQ fC;have fR:=(((jP.o.alloc _).drew).law fQ (fun e=>by have:=fP.o _ e;omega));obtain⟨A9,c9,gU,-⟩:=AQ (B:=w4.heap.size) fJ fun g hg=>(fJ.lt g hg).2;subst gU;have y4:=fR.cell 1;have f4:=fR.frozen 1;simp only [Au,Ar] at y4)
      all_goals
       have fE:DmpAt p w0 (w4.setCell ⟨B+1,1,none⟩ (.slice A9 (l.length+1) c9)) (.slice A9 (l.length+1) c9) (l++[⟨x,n.kind,n.made,⟨#[]⟩,A5,c5,dd⟩]) (T.step s (ns,j))∧GrD B w2 (.slice A8 l.length c8) (w4.setCell ⟨B+1,1,none⟩ (.slice A9 (l.length+1) c9)) (.slice A9 (l.length+1) c9):=by
        rw [gM.o];refine fM.o.push fB.o (W1:=(wd.alloc (.cells [.string x,.int .i64 n.kind,.int .i64 (n.made:Int),.string ⟨#[]⟩,.slice A5 dl c5].toArray 75)).drew) ((kW.o.alloc _).drew) ((jD.o.alloc _).drew) (by have h9:=fJ;rw [←jA.o] at h9;exact h9) fQ fC ?_ rfl fA.o fG.o;exact (kG.o.chg ((An (fun _=>False) wd).alloc _) id).chg ((An (fun _=>False) _).drew) id
       obtain⟨fE,gA⟩:=fE;have h2:=jS.o;rw [fB.o] at h2;have gN:=hid fE;have fS:=hid (h2.trans gA);clear fR y4 f4 fJ fQ fC fE gA h2;generalize w4.setCell ⟨B+1,1,none⟩ (.slice A9 (l.length+1) c9)=w5 at *;go_wp2;go_ret;rw [jH.o];exact⟨rfl,_,_,gN.o,by rw [fB.o];exact fS.o⟩
theorem zFd (ns:List ByteArray) (nm:ByteArray):(pth (ns++[nm])).size≤(pth ns).size+1+nm.size:=by
 rw [zDB (by simp),zB9]
 have h1:(zCc [nm]).length=1+nm.size:=by
  show (47::(nm.data.toList++[])).length=1+nm.size
  rw [Ay,List.append_nil,Array.length_toList]
  show nm.size+1=_
  omega
 rw [Ap,h1];by_cases h:ns=[]
 · subst h;have:(pth []).size=1:=rfl
   simp [zCc]
   try omega
 · rw [zDB h];omega
theorem DmpAt.drew {p:Nat} {w0 wr:World} {v:Value} {l:List Nd} {s:DS} (h:DmpAt p w0 wr v l s):DmpAt p w0 wr.drew v l s:=h.fresh (br.drew)
theorem GrD.drew {B:Nat} {w w':World} {v v':Value} (h:GrD B w.drew v w' v'):GrD B w v w' v':=(GrD.fresh v (br.drew)).trans h
theorem zEE (T:PT) (s:DS) (x:zF7):(T.step s x).nodes.length=s.nodes.length+1:=by
 unfold PT.step
 split
 · simp
 split<;>simp
theorem zG8 (T:PT):∀ (L:List zF7) (s:DS),(L.foldl T.step s).nodes.length=s.nodes.length+L.length
 | [],_=>rfl
 | x::r,s=>by rw [List.foldl_cons,zG8 T r,zEE,Ay];omega
theorem zJB {T:PT} {f:Nat} {ns:List ByteArray} {j:Nat} {s:DS} (h:(zFl T (zAQ T f) ns j s).2=0):(zFl T (zAQ T f) ns j s).1.nodes.length=s.nodes.length+(1+if T.isDir j=true then (tl T f ns j).length else 0):=by
 unfold zFl at h ⊢
 split at h
 · cases h
 rename_i h1;rw [if_neg h1]
 split at h
 · rename_i hd;rw [if_pos hd,if_pos hd,(zGm f ns j _ h).1,zG8,zEE];omega
 · rename_i hd;rw [if_neg hd,if_neg hd,zEE]
def ListI (p B:Nat) (w0 w2:World) (v:Value) (T:PT) (f:Nat) (ns:List ByteArray) (names:List (ByteArray×Nat)) (s:DS) (N:Nat) (e i:Value) (wr:World):Prop :=
 ∃ (k ek:Nat) (s':DS) (v':Value) (l':List Nd),k≤N∧e=.int .i64 (ek:Int)∧i=.int .i64 (k:Int)∧DmpAt p w0 wr v' l' s'∧GrD B w2 v wr v' ∧
  ((ek=0∧zCz T (zAQ T f) ns names s=zCz T (zAQ T f) ns (names.drop k) s'∧s'.nodes.length+(tlE T (tl T f) ns (names.drop k)).length≤1000000)∨(ek≠0∧zCz T (zAQ T f) ns names s=(s',ek)))
section
variable (own:Nat→Option Role) (lay:Nat→NA) (p mb:Nat) (T:PT) (m0:Int) (w0:World) (h0:PlainAt w0 own lay p mb T) (hI:T.Inv) (hm:w0.cell? ⟨0,0,none⟩=some (.int .i64 m0))
include h0 hI hm
theorem zFC (ns:List ByteArray) (s:DS) (v:Value) (l:List Nd) (wr:World) (hD:DmpAt p w0 wr v l s) (fA:400<(pth ns).size) (fL:(pth ns).size≤1000) :
 Calls Aa 33 #[.pointer (some ⟨w0.heap.size+1,0,none⟩),.string (pth ns)] wr (DmpP p w0 v wr (s,70)):=by
 have fE:wr.cell? ⟨0,0,none⟩=some (.int .i64 m0):=(hD.below.cell (p:=⟨0,0,none⟩) (AL _ _ hm)).trans hm;have fF:=h0.fresh hD.below;obtain⟨B,fB⟩:=nM (w0.heap.size);have fC:=hD.wk;rw [fB] at fC ⊢;have fM:=hid fB;have y0:=fC.cell 0;simp only [Ar,ifV] at y0;have fI:=hid hD;have fD:=ask_L own lay p mb T (pth ns) _ m0 wr fF hI.wf (by omega) fE (zHL fA);unfold ifV at fD;obtain⟨x,hx⟩:=nM (pth ns);rw [hx] at fD ⊢;clear fB hD fC hx fF fE fA;go_enter Tryz.func33,Tryz.ntmps33
 go_upto_region 2 with (first
  | (go_at_call 51;refine fD.mono ?_;rintro e w1 ⟨va,rfl,hA,-,fG⟩;obtain⟨dA,dc,eA,ec,rfl,-,-⟩:=hA;simp only [Ans.err,As];have fJ:=AN w1 67 zAk)
  | (refine stA 70 st0 (.slice dA 0 dc) (.slice eA 0 ec) fJ rfl rfl rfl (by rfl) rfl rfl rfl ?_))
 have fK:Below w1.heap.size w1 ((w1.alloc (.cells zAk.toArray 67)).setRow w1.heap.size (zAq 70 st0 (.slice dA 0 dc) (.slice eA 0 ec)).toArray):=((An (fun b=>w1.heap.size≤b) w1).alloc _ |>.setRow (fun _=>AO _) _).below nr fun b hb e=>by omega
 go_wp2
 go_loopw [6,7] (fun e i wr'=>e=.int .i64 70∧i=.int .i64 0∧Hid (Below wr.heap.size wr wr')) (fun _ _ _=>0)
 case atStart=>exact⟨rfl,rfl,hid (fG.trans (fK.mono fG.size))⟩
 case round =>
  obtain⟨rfl,rfl,fH⟩:=hrel;go_wp2;go_ret;exact⟨rfl,v,l,fI.o.fresh fH.o,GrD.fresh v fH.o⟩
theorem dlist_any (f:Nat):∀ (ns:List ByteArray) (i:Nat) (n:PN) (s:DS) (v:Value) (l:List Nd) (wr:World),DmpAt p w0 wr v l s→T.walk ns 1=(i,0)→zAe i T.nodes=some n→n.dir=true→(∀ x∈ns,chk x=true)→(pth ns).size≤1000→202≤ns.length+f→s.nodes.length+(tl T f ns i).length≤1000000 →
 Calls Aa 33 #[.pointer (some ⟨w0.heap.size+1,0,none⟩),.string (pth ns)] wr (DmpP p w0 v wr (zAQ T f ns i s)):=by
 induction f with
 | zero =>
  intro ns i n s v l wr hD hw hg hd hc gQ hf _;have h1:=zIN hc;have h2:=zDB (ns:=ns) (fun e=>by subst e;simp at hf);exact zFC own lay p mb T m0 w0 h0 hI hm ns s v l wr hD (by omega) gQ
 | succ f ih =>
  intro ns i n s v l wr hD hw hg hd hc gQ hf fQ;have hu:zAQ T (f+1) ns i s=if 400<(pth ns).size then (s,70) else zCz T (zAQ T f) ns (T.node i).names s:=rfl;by_cases fC:400<(pth ns).size
  · rw [hu,if_pos fC];exact zFC own lay p mb T m0 w0 h0 hI hm ns s v l wr hD fC gQ
  rw [hu,if_neg fC,zAn hg]
  have jE:tl T (f+1) ns i=tlE T (tl T f) ns n.names:=by
   show tlE T (tl T f) ns (T.node i).names=_
   rw [zAn hg]
  rw [jE] at fQ;clear hu jE;have jF:wr.cell? ⟨0,0,none⟩=some (.int .i64 m0):=(hD.below.cell (p:=⟨0,0,none⟩) (AL _ _ hm)).trans hm;have jG:=h0.fresh hD.below
  have jS:(pth ns).size≤400:=by omega
  have fR:T.isDir i=true:=by rw [zAm hg];exact hd
  have gR:=zJn (T:=T) (zFj hc jS) hw fR;obtain⟨es,gD⟩:=nM ((n.names.map fun p=>(p.1,p.2,(T.node p.2).kind)))
  have jH:T.list i=⟨0,st0,[],es⟩:=by unfold PT.list;rw [if_pos fR,zAn hg,gD]
  rw [jH] at gR;have gE:=ask_L own lay p mb T (pth ns) _ m0 wr jG hI.wf (by omega) jF gR;unfold ifV at gE;obtain⟨B,fS⟩:=nM (w0.heap.size);have gF:=hD.wk;rw [fS] at gF;have y0:=gF.cell 0;simp only [Ar,ifV] at y0
  have hN:es.length=n.names.length:=by rw [←gD,Ax]
  have kD:n.names.length≤1068:=by have h1:=(hI.gr.ok.get hg).1.nlen;have h2:=(hI.gr.ok.get hg).1.slots;omega
  obtain⟨N,gS⟩:=nM (es.length);rw [gS] at hN;have jT:=hid hD;have gG:=hid fS;have jI:=hid hN;have fM:=hid gS;have gT:=hid gD;have kE:B+1<wr.heap.size:=gF.lt
  have jJ:Hid (∀ g,v.ownBlock=some g→B+2≤g∧g<wr.heap.size):=hid fun g e=>by have:=hD.own.row.lt g e;rw [fS] at this;exact this
  rw [fS];clear jH gR hD jG jF gF hN gD gS fS;obtain⟨x,hx⟩:=nM (pth ns);rw [hx] at gE ⊢;have jK:=hid hx;clear hx;go_enter Tryz.func33,Tryz.ntmps33
  go_upto_region 2 with (first
   | (go_at_call 51;refine gE.mono ?_;rintro e w1 ⟨va,rfl,hA,hF,gH⟩;obtain⟨dA,dc,eA,ec,rfl,-,gU⟩:=hA;simp only [As,fM.o] at gU hF ⊢;have gV:=AN w1 67 zAk)
   | (refine stA 0 st0 (.slice dA 0 dc) (.slice eA N ec) gV rfl rfl rfl (by rfl) rfl rfl rfl ?_))
  have jL:Blk ((w1.alloc (.cells zAk.toArray 67)).setRow w1.heap.size (zAq 0 st0 (.slice dA 0 dc) (.slice eA N ec)).toArray) w1.heap.size 67 (zAq 0 st0 (.slice dA 0 dc) (.slice eA N ec)):=Ah (w1.alloc (.cells zAk.toArray 67)) w1.heap.size _ (zAq 0 st0 (.slice dA 0 dc) (.slice eA N ec)).toArray _ _ gV
  have gI:Below w1.heap.size w1 ((w1.alloc (.cells zAk.toArray 67)).setRow w1.heap.size (zAq 0 st0 (.slice dA 0 dc) (.slice eA N ec)).toArray):=((An (fun b=>w1.heap.size≤b) w1).alloc _ |>.setRow (fun _=>AO _) _).below nr fun b hb e=>by omega
  have fT:=gH.trans (gI.mono gH.size);have gW:=hid ((gU.below gI).more gI.size);have jU:Hid (∀ b off,eA=some ⟨b,off,none⟩→0<N→wr.heap.size≤b):=hid fun b off e hn=>hF _ _ _ _ _ b off _ _ (by rw [e]) hn;have kF:wr.heap.size≤w1.heap.size:=gH.size;have fD:=hid fT;change Code.wp _ _ _ _ ((w1.alloc (.cells zAk.toArray 67)).setRow w1.heap.size (zAq 0 st0 (.slice dA 0 dc) (.slice eA N ec)).toArray);generalize (w1.alloc (.cells zAk.toArray 67)).setRow w1.heap.size (zAq 0 st0 (.slice dA 0 dc) (.slice eA N ec)).toArray=w2 at *;generalize w1.heap.size=z at *;have gX:=hid jL;clear gE y0 gV gI gH gU hF jL fT;go_wp2
  go_loopw [6,7] (fun e i wr'=>ListI p B w0 w2 v T f ns n.names s N e i wr') (fun _ i _=>N-(intOf i).toNat)
  case atStart=>exact⟨0,0,s,v,l,AP _,rfl,rfl,jT.o.fresh fD.o,GrD.fresh v br,.inl ⟨rfl,rfl,fQ⟩⟩
  case round =>
   obtain⟨k,ek,s',v',l',hk,rfl,rfl,fO,fE,fB⟩:=hrel;have kG:z<w2.heap.size:=gX.o.lt
   have jM:¬(z=B∨z=B+1∨v.ownBlock=some z):=by
    rintro (e | e | e)
    · omega
    · omega
    · have:=jJ.o z e;omega
   have jV:=gX.o.chg fE.chg jM;have q8:=jV.cell 8;simp only [zAq,Au,Ar] at q8;rcases fB with ⟨rfl,fB,fF⟩ | ⟨hne,fB⟩
   · by_cases gJ:k<N
     · have t1:decide ((k:Int)<(N:Int))=true:=by simpa using gJ
       have gY:k<n.names.length:=by rw [←jI.o];exact gJ
       obtain⟨nm,j,gK⟩:∃ nm j,n.names[k]=(nm,j):=⟨_,_,rfl⟩
       have jN:n.names.drop k=(nm,j)::n.names.drop (k+1):=by rw [Az gY,gK]
       rw [jN] at fB fF
       have fU:(nm,j)∈n.names:=by rw [←gK];exact AA _
       have gL:=zAU (hI.gr.ok.get hg).1.nris.nd fU;obtain⟨m,fP⟩:=hI.gr.ents _ _ _ _ hg gL;have fG:=hI.gr.names _ _ _ _ hg gL;have gZ:T.walk (ns++[nm]) 1=(j,0):=zCB.2 ⟨i,hw,n,hg,hd,gL⟩
       have jA:∀ y∈ns++[nm],chk y=true:=fun y hy=>by
        rcases AB.1 hy with hy | hy
        · exact hc y hy
        · rw [List.mem_singleton.1 hy];exact fG
       have fN:(pth (ns++[nm])).size≤1000:=by have h1:=zFd ns nm;have h2:nm.size≤40:=zCX fG;omega
       have fA:=fun W jW=>zKq own lay p mb T m0 w0 h0 hI.wf hm f (ns++[nm]) j m s' v' l' W jW gZ fP jA fN
        (fun fV s v l wr hD hc=>ih (ns++[nm]) j m s v l wr hD gZ fP fV jA fN (by rw [Ap,Aq];omega) hc)
        (by
         have h1:(tlE T (tl T f) ns ((nm,j)::n.names.drop (k+1))).length=1+((if T.isDir j=true then tl T f (ns++[nm]) j else []).length+(tlE T (tl T f) ns (n.names.drop (k+1))).length):=by rw [tlE];simp only [Ay,Ap];omega
         rw [h1,zAm fP] at fF
         split
         · rename_i fV;rw [if_pos fV] at fF;omega
         · rename_i fV;rw [if_neg fV] at fF;simp at fF;omega)
       have jO:zCz T (zAQ T f) ns ((nm,j)::n.names.drop (k+1)) s'=if (zFl T (zAQ T f) (ns++[nm]) j s').2≠0 then zFl T (zAQ T f) (ns++[nm]) j s' else zCz T (zAQ T f) ns (n.names.drop (k+1)) (zFl T (zAQ T f) (ns++[nm]) j s').1:=rfl;rw [jO] at fB;have fH:=zJB (T:=T) (f:=f) (ns:=ns++[nm]) (j:=j) (s:=s')
       have fW:(tlE T (tl T f) ns ((nm,j)::n.names.drop (k+1))).length=1+((if T.isDir j=true then (tl T f (ns++[nm]) j).length else 0)+(tlE T (tl T f) ns (n.names.drop (k+1))).length):=by
        rw [tlE];simp only [Ay,Ap]
        split
        · omega
        · simp;omega
       rw [fW] at fF;obtain⟨r,hr⟩:=nM (zFl T (zAQ T f) (ns++[nm]) j s');rw [hr] at fB fH;simp only [hr] at fA;obtain⟨s2,c2⟩:=r;simp only at fB fH
       have jB:es[k]'(by rw [fM.o];exact gJ)=(nm,j,m.kind):=by
        simp only [←gT.o,AC,gK,zAn fP]
       obtain⟨b,off,jX,gM,jC⟩:=gW.o.at_ (by omega);subst jX;have kI:=jU.o b off rfl (by omega)
       have gN:¬(b=B∨b=B+1∨v.ownBlock=some b):=by
        rintro (e | e | e)
        · omega
        · omega
        · have:=jJ.o b e;omega
       have jD:=fun jj (hj:jj<3)=>zDb zBn 3 es (fun _ _=>rfl) k (by rw [fM.o];exact gJ) jj hj;have e0:=jC (k * 3+0) (.string nm) (by rw [jD 0 (by omega),jB];rfl);have e2:=jC (k * 3+2) (.int .i64 m.kind) (by rw [jD 2 (by omega),jB];rfl);have g0:=(fE.chg.cell (p:=⟨b,off+(k * 3+0),none⟩) gM gN).trans e0;have g2:=(fE.chg.cell (p:=⟨b,off+(k * 3+2),none⟩) gM gN).trans e2;rw [show off+(k * 3+0)=off+k * 3 by omega] at g0;rw [show off+(k * 3+2)=off+k * 3+2 by omega] at g2;have fI:=fA wr.drew fO.drew;rw [gG.o] at fI;have fJ:=under_any x nm wr.drew (by rw [←jK.o];omega) (by have h2:nm.size≤40:=zCX fG;omega);rw [show zKC x nm=pth (ns++[nm]) by rw [←jK.o];exact zI4 hc nm] at fJ;obtain⟨y,hy⟩:=nM (pth (ns++[nm]));rw [hy] at fJ fI
       have jY:Hid (∀ w6 v6,GrD B wr v' w6 v6→w6.cell? ⟨z,8,none⟩=some (.slice (some ⟨b,off,none⟩) N ec)∧w6.cell? ⟨b,off+k * 3,none⟩=some (.string nm)∧w6.cell? ⟨b,off+k * 3+2,none⟩=some (.int .i64 m.kind)):=hid fun w6 v6 jZ=>by
        have h1:=fE.trans jZ;have h8:=(gX.o.chg h1.chg jM).cell 8;have jP:=(h1.chg.cell (p:=⟨b,off+(k * 3+0),none⟩) gM gN).trans e0;have jQ:=(h1.chg.cell (p:=⟨b,off+(k * 3+2),none⟩) gM gN).trans e2;rw [show off+(k * 3+0)=off+k * 3 by omega] at jP;rw [show off+(k * 3+2)=off+k * 3+2 by omega] at jQ;exact⟨h8,jP,jQ⟩
       have s0:(((0:Nat):Int)==0)=true:=rfl
       have b0:(0:Int)≤(k:Int):=by omega
       have kJ:k+1≤1000000:=by omega
       have kA:=hid fE;have fK:=hid fB;have fL:=hid fH;have fX:=hid fF;have fY:=zAm fP;rw [fY] at fL fX;clear jO fH fF fW jB jD e0 e2 fA jC fB fO fE fY jN gK fU gZ jA fN fP gL fG hy;go_upto_region 5 with (fail)
       go_region_held3 (fun w'=>w'.cell? ⟨z,8,none⟩=some (.slice (some ⟨b,off,none⟩) N ec)∧w'.cell? ⟨b,off+k * 3,none⟩=some (.string nm)∧w'.cell? ⟨b,off+k * 3+2,none⟩=some (.int .i64 m.kind))
        (first | go_keep)
        (first
         | (go_at_call 53;refine fJ.mono ?_;rintro e w' ⟨rfl,rfl⟩)
         | (go_at_call 52;refine fI.mono ?_;rintro e w6 ⟨rfl,v6,l6,jR,gO⟩;rw [gG.o] at gO;obtain⟨k1,k2,k3⟩:=jY.o w6 v6 gO.drew))
       have kK:IntKind.i64.wrap ((k:Int)+1)=((k+1:Nat):Int):=by rw [IntWalk.i64_in _ (by omega)];omega
       have fZ:=hid (kA.o.trans gO.drew);have gA:=hid jR;clear gO jR k1 k2 k3 fI fJ;go_wp2;go_roundw
       case rel =>
        refine⟨k+1,c2,s2,v6,l6,by omega,rfl,by go_num,gA.o,fZ.o,?_⟩;by_cases gP:c2=0
        · refine .inl ⟨gP,?_,?_⟩
          · rw [fK.o,if_neg (by omega)]
          · have h1:=fL.o gP;have h2:=fX.o;omega
        · refine .inr ⟨gP,?_⟩;rw [fK.o,if_pos gP]
       case measure =>
        simp [intOf]
        omega
     · obtain rfl:k=N:=by omega
       have t1:decide ((k:Int)<(k:Int))=false:=by simp
       have s0:(((0:Nat):Int)==0)=true:=rfl
       have gB:zCz T (zAQ T f) ns n.names s=(s',0):=by rw [fB,List.drop_of_length_le (by rw [←jI.o];exact AO _)];rfl
       have gC:=hid gB;have gA:=hid fO;have fZ:=hid fE;clear gB fB fF fO fE;go_wp2;go_ret;rw [gC.o];refine⟨rfl,v',l',gA.o,?_⟩;rw [gG.o];exact (GrD.fresh v fD.o).trans fZ.o
   · have kC:((ek:Int)==0)=false:=by simp;omega
     have fK:=hid fB;have gA:=hid fO;have fZ:=hid fE;clear fB fO fE hne;go_wp2;go_ret;rw [fK.o];refine⟨rfl,v',l',gA.o,?_⟩;rw [gG.o];exact (GrD.fresh v fD.o).trans fZ.o
end
def zHt (T:PT) (w:World) (e:Ending) (w':World):Prop :=
 (∃ v l,e=.returned (.tuple #[v,.int .i64 (T.dump.2:Int)])∧OwnN w' w.heap.size v l∧l.map Nd.tn=T.dump.1)∧Below w.heap.size w w'
theorem OwnN.base {w:World} {B B1:Nat} {v:Value} {l:List Nd} (h:OwnN w B v l) (hb:B1≤B):OwnN w B1 v l :=
 ⟨zBY h.row fun g hg=>by have:=(h.row.lt g hg).1;omega,fun i hi=>zBY (h.data i hi) fun g hg=>by have:=((h.data i hi).lt g hg).1;omega,h.apart,h.aside⟩
theorem ddump_any (own:Nat→Option Role) (lay:Nat→NA) (p mb:Nat) (T:PT) (m0:Int) (w:World) (h:PlainAt w own lay p mb T) (hI:T.Inv) (hm:w.cell? ⟨0,0,none⟩=some (.int .i64 m0)) (fL:T.spots.length≤1000000) :
 Calls Aa 10 #[ifV p] w (zHt T w):=by
 have fQ:=@run_makeMap Aa;obtain⟨n1,fM,fN⟩:=hI.gr.root;have fO:Below w.heap.size w ((w.alloc (.map #[] 0)).alloc (.cells [ifV p,.slice none 0 0,.map (some w.heap.size)].toArray 89)):=(br.alloc nr _).alloc (by simp) _
 have fF:Blk ((w.alloc (.map #[] 0)).alloc (.cells [ifV p,.slice none 0 0,.map (some w.heap.size)].toArray 89)) (w.heap.size+1) 89 [ifV p,.slice none 0 0,.map (some w.heap.size)]:=by
  have:=AN (w.alloc (.map #[] 0)) 89 [ifV p,.slice none 0 0,.map (some w.heap.size)];simpa using this
 have fG:DmpAt p w ((w.alloc (.map #[] 0)).alloc (.cells [ifV p,.slice none 0 0,.map (some w.heap.size)].toArray 89)) (.slice none 0 0) [] ⟨[],[]⟩ :=
  ⟨fO,fF,(zAt.made w zAG Aj 3).chg ((An (fun _=>False) _).alloc _) id,OwnN.nil _ _,rfl,fun i q e=>(by cases e),AO _⟩
 have fD:=dlist_any own lay p mb T m0 w h hI hm 202 [] 1 n1 ⟨[],[]⟩ (.slice none 0 0) [] _ fG rfl fM fN (by simp) (by decide) (by simp) (by
  have:(tl T 202 [] 1).length≤1000000:=fL;simpa using this)
 rw [show pth []=⟨#[47]⟩ from rfl] at fD;have fE:T.dump=if (zAQ T 202 [] 1 ⟨[],[]⟩).2=0 then ((zAQ T 202 [] 1 ⟨[],[]⟩).1.nodes,0) else ([],(zAQ T 202 [] 1 ⟨[],[]⟩).2):=rfl;obtain⟨r,hr⟩:=nM (zAQ T 202 [] 1 ⟨[],[]⟩);rw [hr] at fD fE;obtain⟨s1,c1⟩:=r;have fH:=hid fE;obtain⟨Q,hQ⟩:=nM (zHt T w);rw [hQ];have fI:=hid hQ;clear hr fE fG fF hQ;unfold ifV at fD;unfold ifV;go_enter Tryz.func10,Tryz.ntmps10
 go_upto_region 5 with (first
  | (go_at_call 33;refine fD.mono ?_;rintro e w1 ⟨rfl,v1,l1,fB,-⟩))
 by_cases fJ:c1=0
 · have fP:((c1:Int) != 0)=false:=by simp;omega
   have fK:=fB.wk;have y1:=fK.cell 1;simp only [Au,Ar] at y1;have fA:=fH.o;rw [if_pos fJ] at fA;have fA:=hid fA;have fC:=hid fB;clear fB fK;go_wp2;rw [←fI.o];refine⟨⟨v1,l1,?_,fC.o.own.base (by omega),?_⟩,fC.o.below⟩
   · rw [fA.o];rfl
   · rw [fA.o];exact fC.o.tn
 · have fP:((c1:Int) != 0)=true:=by simp;omega
   have fA:=fH.o;rw [if_neg fJ] at fA;have fA:=hid fA;have fC:=hid fB;clear fB;go_wp2;rw [←fI.o];refine⟨⟨.slice none 0 0,[],?_,OwnN.nil _ _,?_⟩,fC.o.below⟩
   · rw [fA.o];rfl
   · rw [fA.o];rfl
theorem isnz_any (b:UInt8) (w:World):Calls Aa 124 #[.int .u8 (b.toNat:Int)] w fun e w'=>e=.returned (.bool (b != 0))∧w=w':=by
 have hb:(b != 0)=((b.toNat:Int) != 0):=by
  rw [Bool.eq_iff_iff];simp only [bne_iff_ne,ne_eq]
  constructor
  · intro h e;exact h (UInt8.toNat_inj.1 (by simpa using e))
  · intro h e;exact h (by rw [e];rfl)
 rw [hb];go_enter Tryz.func124,Tryz.ntmps124;go_wp2;go_ret;exact⟨rfl,rfl⟩
theorem zJ7 (A:Option Addr) (c:Nat) (bs:List UInt8) (w:World) (hs:Sees w w.heap.size 1 A bs.length (bvs bs)) (hl:bs.length≤1000000) :
 Calls Aa 138 #[.slice A bs.length c,.func (Fn.func 124) #[] #[]] w fun e w'=>(∃ r:Int,e=.returned (.int .i64 r)∧(0≤r↔bs.all (·==0)=false))∧w=w':=by
 obtain⟨len,fB⟩:=nM (bs.length);have fA:=hid fB;rw [fB] at hs hl ⊢;have fJ:=hid hs;clear fB hs;go_enter Tryz.func138,Tryz.ntmps138;go_wp2
 go_loopw [8] (fun i wr=>∃ k:Nat,k≤len∧i=.int .i64 (k:Int)∧wr=w∧Hid (∀ j (h:j<bs.length),j<k→bs[j]=0)) (fun i _=>len-(intOf i).toNat)
 case atStart=>exact⟨0,by omega,rfl,rfl,hid fun j _ h=>absurd h (by omega)⟩
 case round =>
  obtain⟨k,hk,rfl,rfl,hz⟩:=hrel;by_cases fG:k<len
  · have t1:decide ((k:Int)<(len:Int))=true:=by simpa using fG
    have fK:k<bs.length:=by rw [fA.o];exact fG
    obtain⟨b,off,rfl,hb,fH⟩:=fJ.o.at_ (by omega);obtain⟨x,hx⟩:=nM (bs[k]);have e0:=fH k (.int .u8 (x.toNat:Int)) (by simp [bvs,List.getElem?_eq_getElem fK,hx])
    have b0:(0:Int)≤(k:Int):=by omega
    have fE:=isnz_any x wr;have fI:=hid hx;clear fH hx
    cases fD:(x != 0) with
    | true =>
     rw [fD] at fE;have fC:=hid fD;clear fD;go_wp2_with (go_at_call 124;refine fE.mono ?_;rintro e w' ⟨rfl,rfl⟩);go_ret;refine⟨⟨_,rfl,?_⟩,rfl⟩
     constructor
     · intro _;rw [Bool.eq_false_iff];intro fF;have:=AD.1 fF x (by rw [←fI.o];exact AA _);have h2:=fC.o;simp only [beq_iff_eq] at this;rw [this] at h2;cases h2
     · intro _;omega
    | false =>
     rw [fD] at fE;have fC:=hid fD;clear fD
     have hw:IntKind.i64.wrap ((k:Int)+1)=((k+1:Nat):Int):=by rw [IntWalk.i64_in _ (by omega)];omega
     go_wp2_with (go_at_call 124;refine fE.mono ?_;rintro e w' ⟨rfl,rfl⟩);go_roundw
     case rel=>exact⟨k+1,by omega,by go_num,trivial,hid fun j hj h=>by
      by_cases e:j=k
      · subst e;rw [fI.o];have h2:=fC.o;simpa using h2
      · exact hz.o j hj (by omega)⟩
     case measure =>
      simp [intOf]
      omega
  · obtain rfl:k=len:=by omega
    have t1:decide ((k:Int)<(k:Int))=false:=by simp
    go_wp2;go_ret;refine⟨⟨_,rfl,?_⟩,rfl⟩
    constructor
    · intro h;exact absurd h (by decide)
    · intro h
      exfalso
      rw [Bool.eq_false_iff] at h;refine h (AD.2 fun y hy=>?_);obtain⟨j,hj,rfl⟩:=AE hy;rw [hz.o j hj (by rw [←fA.o];exact hj)];rfl
theorem empty_any (A:Option Addr) (c:Nat) (bs:List UInt8) (w:World) (hs:Sees w w.heap.size 1 A bs.length (bvs bs)) (hl:bs.length≤1000000) :
 Calls Aa 90 #[.slice A bs.length c] w fun e w'=>e=.returned (.bool (bs.all (·==0)))∧w=w':=by
 have fB:=zJ7 A c bs w hs hl;obtain⟨r0,fC⟩:=nM (bs.all (·==0));rw [fC] at fB ⊢;obtain⟨len,fA⟩:=nM (bs.length);rw [fA] at fB ⊢;clear fC hs hl fA
 have fD:Calls Aa 123 #[.slice A len c,.func (Fn.func 124) #[] #[]] w fun e w'=>e=.returned (.bool (!r0))∧w=w':=by
  go_enter Tryz.func123,Tryz.ntmps123
  cases r0 with
  | false =>
   go_wp2_with (go_at_call 138;refine fB.mono ?_;rintro e w' ⟨⟨r,rfl,hr⟩,rfl⟩;have h1:decide (0≤r)=true:=decide_eq_true (hr.2 rfl);clear hr);go_ret;exact⟨rfl,rfl⟩
  | true =>
   go_wp2_with (go_at_call 138;refine fB.mono ?_;rintro e w' ⟨⟨r,rfl,hr⟩,rfl⟩;have h1:decide (0≤r)=false:=decide_eq_false (fun h=>by cases hr.1 h);clear hr);go_ret;exact⟨rfl,rfl⟩
 go_enter Tryz.func90,Tryz.ntmps90;go_wp2_with (go_at_call 123;refine fD.mono ?_;rintro e w' ⟨rfl,rfl⟩);go_ret;exact⟨by simp,rfl⟩
theorem zGT (p:ByteArray):(p.toList==([47]:List UInt8))=decide (p=slash):=by
 rw [Bool.eq_iff_iff,beq_iff_eq,decide_eq_true_iff,ByteArray.toList_eq];exact⟨fun h=>zDH h,fun h=>by rw [h];rfl⟩
theorem zKe (p nm:ByteArray) (w:World) (hp:p.size≤1000000) (hn:nm.size≤1000000):Calls Aa 55 #[.string p,.string nm] w fun e w'=>e=.returned (.string (zKC p nm))∧w=w':=by
 obtain⟨u,hu⟩:=nM (zKC p nm);rw [hu];have fA:=hid hu;clear hu;by_cases h:p=slash
 · have t1:(p.toList==([47]:List UInt8))=true:=by rw [zGT,h];rfl
   have t1':p.toList=[47]:=by simpa using t1
   have fE:∀ W:World,(Op.stringOp .add ⟨#[47]⟩ nm).run Aa W=.ok (.string u) W:=fun W=>by
    refine (Ag _ _ _ (by show 1+nm.size≤_;omega)).trans ?_;rw [←fA.o];unfold zKC;rw [if_pos h]
    first
     | rfl
     | (congr 2;apply zDH;simp [emp,slash])
   clear fA h;go_enter Tryz.func55,Tryz.ntmps55;go_wp2;go_ret;exact⟨rfl,rfl⟩
 · have t1:(p.toList==([47]:List UInt8))=false:=by rw [zGT];exact decide_eq_false h
   have t1':¬p.toList=[47]:=by simpa using t1
   obtain⟨p2,fB⟩:=nM (p++slash)
   have hz:p2.size=p.size+1:=by rw [←fB,ByteArray.size_append];rfl
   have fC:∀ W:World,(Op.stringOp .add p ⟨#[47]⟩).run Aa W=.ok (.string p2) W:=fun W=>by
    refine (Ag _ _ _ (by show p.size+1≤_;omega)).trans ?_;rw [←fB];rfl
   have fD:∀ W:World,(Op.stringOp .add p2 nm).run Aa W=.ok (.string u) W:=fun W=>by
    refine (Ag _ _ _ (by omega)).trans ?_;rw [←fA.o,←fB];unfold zKC;rw [if_neg h]
   clear fA h fB hz;go_enter Tryz.func55,Tryz.ntmps55;go_wp2;go_ret;exact⟨rfl,rfl⟩
def fstP (l:List Nd) (js:List Nat) (j:Nat) (k:Nat):ByteArray:=(((js.zip l).drop k).find? fun p=>decide (p.1=j)).elim emp fun p=>p.2.path
theorem first_any (l:List Nd) (js:List Nat) (j:Nat) (A:Option Addr) (c:Nat) (Ai:Option Addr) (ci:Nat) (w:World) (B:Nat) (hN:NodesAt w B A l) (hI:Sees w B 1 Ai js.length (nats js)) (hl:l.length=js.length) (hz:js.length≤1000000000) :
 Calls Aa 88 #[.slice A l.length c,.slice Ai js.length ci,.int .i64 (j:Int)] w fun e w'=>e=.returned (.string (fstP l js j 0))∧w=w':=by
 obtain⟨r,hr⟩:=nM (fstP l js j 0);rw [hr];have fI:=hid hr;obtain⟨len,fB⟩:=nM (js.length);have hS:=hN.sees;rw [hl] at hS ⊢;rw [fB] at hI hz hS ⊢;have fA:=hid fB;have fD:=hid hl;have fJ:=hid hI;have fK:=hid hS;clear hr fB hl hI hS hN;go_enter Tryz.func88,Tryz.ntmps88;go_wp2
 go_loop [7] (fun i'=>∃ k:Nat,k≤len∧i'=.int .i64 (k:Int)∧Hid (fstP l js j k=r)) (fun i'=>len-(intOf i').toNat)
 case atStart=>exact⟨0,AP _,rfl,fI⟩
 case round =>
  obtain⟨k,hk,rfl,hf⟩:=hrel;by_cases fL:k<len
  · have fE:k<js.length:=by rw [fA.o];exact fL
    have fM:k<l.length:=by rw [fD.o];exact fE
    obtain⟨bi,oi,hA,-,fF⟩:=fJ.o.at_ (by omega);obtain⟨bn,on,fN,-,fG⟩:=fK.o.at_ (by omega);have c0:=fF k _ (zBO js k fE);have c1:=fG (k * 5+0) (.string l[k].path) (by rw [zIc l k fM 0 (by omega)];rfl);rw [Nat.add_zero] at c1;subst hA fN
    have fC:fstP l js j k=if js[k]=j then l[k].path else fstP l js j (k+1):=by
     unfold fstP;rw [Az (by rw [List.length_zip];omega),List.find?_cons];simp only [List.getElem_zip];by_cases e:js[k]=j
     · simp [e]
     · simp [e]
    obtain⟨a,ha⟩:=nM (js[k]);obtain⟨pa,fH⟩:=nM (l[k].path);rw [ha] at c0 fC;rw [fH] at c1 fC;clear fF fG ha fH;by_cases e:a=j
    · rw [if_pos e,hf.o] at fC
      have t1:((a:Int)==(j:Int))=true:=by rw [e];simp
      clear hf;subst fC;go_wp2;go_ret;exact⟨rfl,rfl⟩
    · rw [if_neg e] at fC;rw [fC] at hf
      have t1:((a:Int)==(j:Int))=false:=by simp;omega
      clear fC;go_wp2;go_round
      case rel=>exact⟨k+1,by omega,by go_num,hf⟩
      case measure=>simp [intOf];omega
  · obtain rfl:k=len:=by omega
    have he:r=emp:=by
     rw [←hf.o];unfold fstP;rw [List.drop_eq_nil_of_le (by rw [List.length_zip,fD.o,fA.o];omega)];rfl
    subst he;clear hf;go_wp2;go_ret;exact⟨rfl,rfl⟩
def blkN (v:Value) (l:List Nd) (g:Nat):Prop:=v.ownBlock=some g∨∃ x∈l,(ndV x).ownBlock=some g
theorem OwnN.keep {S:Nat→Prop} {w w1:World} {B:Nat} {v:Value} {l:List Nd} (h:OwnN w B v l) (hc:Chg S w w1) (hS:∀ g,blkN v l g→¬S g):OwnN w1 B v l :=
 ⟨zAy h.row hc fun g hg=>hS g (.inl hg),fun i hi=>zAy (h.data i hi) hc fun g hg=>hS g (.inr ⟨_,AA hi,hg⟩),h.apart,h.aside⟩
def FstR (T:PT) (s:DS) (l:List Nd) (js:List Nat):Prop :=
 ∀ i,T.isDir i=false→(((js.zip l).find? fun p=>decide (p.1=i)).map fun p=>p.2.path)=zAe i s.first
theorem FstR.get {T:PT} {s:DS} {l:List Nd} {js:List Nat} (h:FstR T s l js) {i:Nat} (hi:T.isDir i=false):fstP l js i 0=(zAe i s.first).getD emp:=by
 rw [←h i hi];unfold fstP;rw [List.drop_zero]
 cases (js.zip l).find? fun p=>decide (p.1=i)<;>rfl
theorem FstR.step {T:PT} {s:DS} {l:List Nd} {js:List Nat} (h:FstR T s l js) (hl:js.length=l.length) {ns:List ByteArray} {j:Nat} {x:Nd} (hx:x.path=pth ns):FstR T (T.step s (ns,j)) (l++[x]) (js++[j]):=by
 intro i hi;rw [List.zip_append hl,List.find?_append];have h0:=h i hi;unfold PT.step;by_cases hd:T.isDir j=true
 · rw [if_pos hd]
   have fA:j≠i:=fun e=>by rw [e,hi] at hd;cases hd
   simp only;rw [←h0]
   cases (js.zip l).find? fun p=>decide (p.1=i) with
   | some p=>rfl
   | none=>simp [fA]
 · rw [if_neg hd];by_cases e:j=i
   · subst e
     cases hg:zAe j s.first with
     | some q =>
      rw [hg] at h0;simp only;rw [hg,←h0]
      cases hf:(js.zip l).find? fun p=>decide (p.1=j) with
      | some p=>rfl
      | none=>rw [hf] at h0;cases h0
     | none =>
      rw [hg] at h0;simp only;rw [zAr]
      cases hf:(js.zip l).find? fun p=>decide (p.1=j) with
      | some p=>rw [hf] at h0;cases h0
      | none=>simp [hx]
   · have h1:zAe i (T.step s (ns,j)).first=zAe i s.first:=by
      unfold PT.step;rw [if_neg hd]
      cases hg:zAe j s.first with
      | some q=>rfl
      | none=>exact zAi zAG _ (fun e'=>e e'.symm) _
     unfold PT.step at h1;rw [if_neg hd] at h1;rw [h1,←h0]
     cases (js.zip l).find? fun p=>decide (p.1=i) with
     | some p=>rfl
     | none=>simp [e]
theorem zE2 {w:World} {B1 B2:Nat} {e1 e2:TypeId} {s1 s2:Nat} {v1 v2:Value} {n1 n2:Nat} {x1 x2:List Value} (h1:w.ownsRow B1 e1 s1 v1 n1 x1) (h2:w.ownsRow B2 e2 s2 v2 n2 x2) (he:e1≠e2) {g:Nat} (hg:v1.ownBlock=some g):v2.ownBlock≠some g:=by
 intro fA;rcases h1.2 with ⟨rfl,_⟩ | ⟨g1,c1,k1,rfl,_,hh1,_⟩
 · cases hg
 rcases h2.2 with ⟨rfl,_⟩ | ⟨g2,c2,k2,rfl,_,hh2,_⟩
 · cases fA
 have a1:g1=g:=by simpa [Al] using hg
 have a2:g2=g:=by simpa [Al] using fA
 subst a1 a2;rw [hh1] at hh2;injection hh2 with h3;injection h3 with _ h4;exact he h4
def zDd (t:Tr) (v vi:Value) (c:Int):List Value:=[.int .i64 t.sectors,.int .i64 t.inodes,.int .i64 t.births,.slice t.A t.l.length t.c,v,vi,.int .i64 c]
def TS (B:Nat) (v vi:Value) (b:Nat):Prop:=b=B∨v.ownBlock=some b∨vi.ownBlock=some b
theorem RefS.grow {S S':Nat→Prop} {w w':World} {t:Tr} {T:PT} (h:RefS S w t T) (hc:Chg S w w') (hS:∀ b,S' b→S b∨w.heap.size≤b):RefS S' w' t T :=
 (h.own.chg (hc.mono fun _ _ hb=>.inl hb)).mono hS
theorem RefS.wide {S S':Nat→Prop} {w W:World} {t:Tr} {T:PT} (h:RefS S w t T) (hb:Below w.heap.size w W) (hS:∀ b,S' b→S b∨w.heap.size≤b):RefS S' W t T:=(h.own.fresh hb).mono hS
structure TldW (w0 wr:World) (B:Nat) (T:PT) (v vi:Value) (l:List Nd) (js:List Nat):Prop where
 below:Below w0.heap.size w0 wr
 hB:w0.heap.size≤B
 blk:∃ t,Blk wr B 94 (zDd t v vi 0)∧RefS (TS B v vi) wr t T
 own:OwnN wr (B+1) v l
 ino:wr.ownsRow (B+1) 3 1 vi js.length (nats js)
structure TldAt (w0 wr:World) (B:Nat) (T:PT) (v vi:Value) (l:List Nd) (js:List Nat) (s:DS):Prop where
 mem:TldW w0 wr B T v vi l js
 tn:l.map Nd.tn=s.nodes
 fst:FstR T s l js
 fne:∀ i q,zAe i s.first=some q→q≠emp
 len:js.length=l.length
structure GrU (B:Nat) (w:World) (v vi:Value) (w':World) (v' vi':Value):Prop where
 chg:Chg (TS B v vi) w w'
 at_:v'.ownBlock=v.ownBlock∨∃ g,v'.ownBlock=some g∧w.heap.size≤g
 ati:vi'.ownBlock=vi.ownBlock∨∃ g,vi'.ownBlock=some g∧w.heap.size≤g
section
variable {B:Nat} {w w0 w1 w2 wr:World} {v vi v' vi' v2 vi2:Value} {T:PT} {l:List Nd} {js:List Nat} {s:DS}
theorem GrU.fresh (v vi:Value) (hb:Below w.heap.size w w1):GrU B w v vi w1 v vi:=⟨Am hb,.inl rfl,.inl rfl⟩
theorem GrU.one (hc:Chg (fun b=>b=B) w w1):GrU B w v vi w1 v vi:=⟨hc.mono fun _ _ h=>.inl h,.inl rfl,.inl rfl⟩
theorem GrU.ts (h:GrU B w v vi w1 v' vi'):∀ b,TS B v' vi' b→TS B v vi b∨w.heap.size≤b:=fun b hb=>by
 rcases hb with e | e | e
 · exact .inl (.inl e)
 · rcases h.at_ with h1 | ⟨g,h1,h2⟩
   · exact .inl (.inr (.inl (h1▸e)))
   · rw [h1] at e;injection e with e;exact .inr (e▸h2)
 · rcases h.ati with h1 | ⟨g,h1,h2⟩
   · exact .inl (.inr (.inr (h1▸e)))
   · rw [h1] at e;injection e with e;exact .inr (e▸h2)
theorem GrU.trans (h:GrU B w v vi w1 v' vi') (k:GrU B w1 v' vi' w2 v2 vi2):GrU B w v vi w2 v2 vi2:=by
 have hs:=h.chg.size;refine⟨h.chg.trans k.chg (fun _ _ h=>h) fun b hb e=>?_,?_,?_⟩
 · rcases h.ts b e with e | e
   · exact e
   · omega
 · rcases k.at_ with k1 | ⟨g,k1,k2⟩
   · rw [k1];exact h.at_
   · exact .inr ⟨g,k1,by omega⟩
 · rcases k.ati with k1 | ⟨g,k1,k2⟩
   · rw [k1];exact h.ati
   · exact .inr ⟨g,k1,by omega⟩
theorem TldW.ts (h:TldW w0 w B T v vi l js):∀ b,TS B v vi b→w0.heap.size≤b∧b<w.heap.size:=fun b hb=>by
 have hB:=h.hB;obtain⟨t,ht,-⟩:=h.blk;have hl:=ht.lt;rcases hb with e | e | e
 · omega
 · have:=h.own.row.lt b e;omega
 · have:=h.ino.lt b e;omega
theorem TldW.fresh (h:TldW w0 w B T v vi l js) (hb:Below w.heap.size w w1):TldW w0 w1 B T v vi l js:=by
 obtain⟨t,h1,h2⟩:=h.blk;exact⟨h.below.trans (hb.mono h.below.size),h.hB,⟨t,h1.fresh hb,h2.fresh hb⟩,h.own.fresh hb,zAC h.ino hb⟩
theorem TldAt.fresh (h:TldAt w0 w B T v vi l js s) (hb:Below w.heap.size w w1):TldAt w0 w1 B T v vi l js s:=⟨h.mem.fresh hb,h.tn,h.fst,h.fne,h.len⟩
theorem TldW.turn {t:Tr} (h:TldW w0 w B T v vi l js) (hc:Chg (fun b=>b=B) w w1) (hk:Blk w1 B 94 (zDd t v vi 0)) (ht:RefS (TS B v vi) w1 t T):TldW w0 w1 B T v vi l js:=by
 have h1:=h.ts B (.inl rfl);exact⟨h.below.trans (hc.below h.below.size fun b hb e=>by omega),h.hB,⟨t,hk,ht⟩,h.own.chg hc fun b hb e=>by omega,zAy h.ino hc fun g hg e=>by have:=(h.ino.lt g hg).1;omega⟩
theorem TldW.push1 {x:Nd} {W1 w4:World} (h:TldW w0 w B T v vi l js) (hc:Chg (fun b=>b=B) w W1) (h1:TldW w0 W1 B T v vi l js) (hd:W1.ownsRow w.heap.size 5 1 (ndV x) x.data.length (bvs x.data))
 (ho:w4.ownsRow (B+1) 75 5 v' (l.length+1) (ncs l++zCN x)) (hg:W1.grownBy w4 v.ownBlock) (fD:v'.ownBlock=v.ownBlock∨v'.ownBlock=some W1.heap.size) :
 TldW w0 (w4.setCell ⟨B,4,none⟩ v') B T v' vi (l++[x]) js∧GrU B W1 v vi (w4.setCell ⟨B,4,none⟩ v') v' vi:=by
 have fC:=h1.ts;have fG:=fC B (.inl rfl);have hG:Grows W1 v w4 v':=Grows.of_law (Below.refl _ W1) hg fD nr;have fE:=h.own.step hc (fun b hb e=>by omega) (by have:=(h.ts B (.inl rfl)).2;omega) hd ho hG;have fB:Chg (fun b=>b=B) w4 (w4.setCell ⟨B,4,none⟩ v'):=(An (fun b=>b=B) w4).setCell (p:=⟨B,4,none⟩) (fun _=>rfl) v';have fF:∀ g,v.ownBlock=some g→B+1≤g:=fun g e=>(h1.own.row.lt g e).1;have fA:GrU B W1 v vi (w4.setCell ⟨B,4,none⟩ v') v' vi:=⟨(hG.chg.mono (U:=TS B v vi) fun _ _ e=>.inr (.inl e)).trans fB (fun _ _ h=>h) (fun b _ e=>.inl e),hG.at_,.inl rfl⟩;obtain⟨t,hk,ht⟩:=h1.blk;refine⟨⟨h1.below.trans (fA.chg.below h1.below.size fun b hb e=>by have:=(fC b e).1;omega),h1.hB,⟨t,?_,ht.grow fA.chg fA.ts⟩,?_,?_⟩,fA⟩
 · exact (hk.law hg fun e=>by have:=fF _ e;omega).set_ 4 v'
 · exact fE.chg fB fun b hb e=>by omega
 · exact zAy (zAy h1.ino hG.chg fun g e1 e2=>zE2 h1.own.row h1.ino (by decide) e2 e1) fB fun g hg e=>by have:=(h1.ino.lt g hg).1;omega
theorem TldW.push2 {j:Nat} {w4:World} (h1:TldW w0 w B T v vi l js) (ho:w4.ownsRow (B+1) 3 1 vi' (js.length+1) (nats js++[.int .i64 (j:Int)])) (hg:w.grownBy w4 vi.ownBlock) (fD:vi'.ownBlock=vi.ownBlock∨vi'.ownBlock=some w.heap.size) :
 TldW w0 (w4.setCell ⟨B,5,none⟩ vi') B T v vi' l (js++[j])∧GrU B w v vi (w4.setCell ⟨B,5,none⟩ vi') v vi':=by
 have fC:=h1.ts;have fG:=fC B (.inl rfl);have hG:Grows w vi w4 vi':=Grows.of_law (Below.refl _ w) hg fD nr;have fB:Chg (fun b=>b=B) w4 (w4.setCell ⟨B,5,none⟩ vi'):=(An (fun b=>b=B) w4).setCell (p:=⟨B,5,none⟩) (fun _=>rfl) vi';have fE:∀ g,vi.ownBlock=some g→B+1≤g:=fun g e=>(h1.ino.lt g e).1;have fA:GrU B w v vi (w4.setCell ⟨B,5,none⟩ vi') v vi':=⟨(hG.chg.mono (U:=TS B v vi) fun _ _ e=>.inr (.inr e)).trans fB (fun _ _ h=>h) (fun b _ e=>.inl e),.inl rfl,hG.at_⟩;obtain⟨t,hk,ht⟩:=h1.blk;refine⟨⟨h1.below.trans (fA.chg.below h1.below.size fun b hb e=>by have:=(fC b e).1;omega),h1.hB,⟨t,?_,ht.grow fA.chg fA.ts⟩,?_,?_⟩,fA⟩
 · exact (hk.law hg fun e=>by have:=fE _ e;omega).set_ 5 vi'
 · refine (h1.own.keep hG.chg fun g fF e=>?_).chg fB fun b hb e=>by omega
   rcases fF with e2 | ⟨x,hx,e2⟩
   · exact zE2 h1.own.row h1.ino (by decide) e2 e
   · obtain⟨i,hi,rfl⟩:=AE hx;exact zE2 (h1.own.data i hi) h1.ino (by decide) e2 e
 · have h9:=zAy ho fB fun g hg e=>by have:=(ho.lt g hg).1;omega
   have h8:nats (js++[j])=nats js++[.int .i64 (j:Int)]:=by simp [nats]
   rw [h8,Ap,Aq];exact h9
end
def TldP (w0:World) (B:Nat) (T:PT) (v vi:Value) (w:World) (r:DS×Nat) (e:Ending) (w':World):Prop :=
 e=.returned (.bool (decide (r.2=0)))∧Below w0.heap.size w0 w'∧(r.2=0→∃ v' vi' l' js',TldAt w0 w' B T v' vi' l' js' r.1∧GrU B w v vi w' v' vi')∧(r.2≠0→w'.cell? ⟨B,6,none⟩=some (.int .i64 (r.2:Int)))
structure Os where
 o:Opn
 dA:Option Addr
 dc:Nat
def OsAt (w:World) (b off:Nat) (x:Os):Prop :=
 w.cell? ⟨b,off,none⟩=some (.int .i64 x.o.kind)∧w.cell? ⟨b,off+1,none⟩=some (.string x.o.path)∧w.cell? ⟨b,off+2,none⟩=some (.string x.o.dst)∧w.cell? ⟨b,off+3,none⟩=some (.int .i64 x.o.off) ∧
 w.cell? ⟨b,off+4,none⟩=some (.int .i64 x.o.len)∧w.cell? ⟨b,off+5,none⟩=some (.slice x.dA x.o.data.length x.dc)∧w.cell? ⟨b,off+6,none⟩=some (.int .i64 x.o.made)∧w.cell? ⟨b,off+7,none⟩=some (.int .i64 x.o.pick)
structure ScrAt (w:World) (B:Nat) (A:Option Addr) (l:List Os):Prop where
 at_:0<l.length→∃ b off,A=some ⟨b,off,none⟩∧b<B∧∀ i (h:i<l.length),OsAt w b (off+i * 8) l[i]
 data:∀ x∈l,Sees w B 1 x.dA x.o.data.length (bvs x.o.data)
theorem zFa {w w1:World} {b off:Nat} {x:Os} (h:OsAt w b off x) (hk:∀ p:Addr,p.block=b→w1.cell? p=w.cell? p):OsAt w1 b off x :=
 ⟨(hk _ rfl).trans h.1,(hk _ rfl).trans h.2.1,(hk _ rfl).trans h.2.2.1,(hk _ rfl).trans h.2.2.2.1,(hk _ rfl).trans h.2.2.2.2.1,(hk _ rfl).trans h.2.2.2.2.2.1,(hk _ rfl).trans h.2.2.2.2.2.2.1,(hk _ rfl).trans h.2.2.2.2.2.2.2⟩
theorem ScrAt.below {w w1:World} {B:Nat} {A:Option Addr} {l:List Os} (h:ScrAt w B A l) (hb:Below B w w1):ScrAt w1 B A l :=
 ⟨fun hn=>let ⟨b,off,e,fA,hc⟩:=h.at_ hn;⟨b,off,e,fA,fun i hi=>zFa (hc i hi) fun p hp=>hb.cell (by omega)⟩,fun x hx=>(h.data x hx).below hb⟩
theorem ScrAt.more {w:World} {B B':Nat} {A:Option Addr} {l:List Os} (h:ScrAt w B A l) (hB:B≤B'):ScrAt w B' A l :=
 ⟨fun hn=>let ⟨b,off,e,fA,hc⟩:=h.at_ hn;⟨b,off,e,by omega,hc⟩,fun x hx=>(h.data x hx).more hB⟩
def wtO (x:Os):Nat:=x.o.data.length+x.o.path.size+x.o.dst.size
def zKi (l:List Os):Nat:=(l.map wtO).sum
theorem totO_take (l:List Os) (j:Nat) (h:j<l.length):zKi (l.take (j+1))=zKi (l.take j)+wtO l[j]:=by
 unfold zKi;rw [AF h,Ao,List.sum_append];simp
theorem totO_le (l:List Os) (j:Nat):zKi (l.take j)≤zKi l:=by
 unfold zKi
 conv=>rhs;rw [←List.take_append_drop j l,Ao,List.sum_append]
 omega
def zFw (l:List Os):Bool:=decide (zKi l≤2097152∧l.length≤400)
theorem light_any (A:Option Addr) (cap:Nat) (l:List Os) (w:World) (hN:ScrAt w w.heap.size A l) (fG:l.length≤281474976710656)
 (fB:∀ x∈l,x.o.path.size≤140737488351232∧x.o.dst.size≤140737488351232∧x.o.data.length≤140737488351232) :
 Calls Aa 8 #[.slice A l.length cap] w fun e w'=>e=.returned (.bool (zFw l))∧∃ n,w'=w.drewN n:=by
 obtain⟨len,fC⟩:∃ len,len=l.length:=⟨_,rfl⟩;have fA:=hid fC;rw [←fC] at fG ⊢;clear fC;go_enter Tryz.func8,Tryz.ntmps8;go_wp2
 go_loopw [3,4] (fun n i wr=>∃ j m:Nat,j≤len∧i=.int .i64 j∧n=.int .i64 m∧Hid (m=zKi (l.take j))∧m≤500000000000000∧∃ k,wr=w.drewN k)
  (fun _ i _=>len-(intOf i).toNat)
 case atStart=>exact⟨0,0,AP _,rfl,rfl,by simp [Hid,zKi],by omega,0,rfl⟩
 case round =>
  obtain⟨j,m,hj,rfl,rfl,hm,fM,k,rfl⟩:=hrel;by_cases fN:j<len
  · have fE:j<l.length:=by have:=fA.o;omega
    by_cases fH:m≤2097152
    · obtain⟨b,off,rfl,fO,hc⟩:=hN.at_ (by omega);have fI:=hc j fE;have fJ:=fB _ (AA fE);have fK:=hid (totO_take l j fE);clear hN hc fB;generalize l[j]=x at *;obtain⟨⟨ok,pa,ds,oo,ol,da,om,op⟩,dA,dc⟩:=x;obtain⟨c0,c1,c2,c3,c4,c5,c6,c7⟩:=fI;obtain⟨z1,z2,z3⟩:=fJ;simp only at c0 c1 c2 c3 c4 c5 c6 c7 z1 z2 z3;go_wp2
      go_quiet (fail)
      go_wp2;go_roundw
      case rel=>exact⟨j+1,m+(da.length+pa.size+ds.size),by omega,by go_num,by go_num,by have h1:=fK.o;have h2:=hm.o;show _=_;rw [h1,←h2];rfl,by omega,k+nq,by simp [World.drewN]⟩
      case measure=>simp [intOf];omega
    · have fL:=totO_le l j
      have fD:Hid (zFw l=false):=by
       have:=hm.o
       show decide _=false
       simp only [decide_eq_false_iff_not];omega
      clear hN fB fL;go_wp2;go_ret;exact⟨by rw [fD.o];rfl,k,rfl⟩
  · obtain rfl:j=len:=by omega
    have fF:Hid (m=zKi l):=by have h1:=hm.o;rw [fA.o,List.take_length] at h1;exact h1
    have fD:Hid (zFw l=decide ((m:Int)≤2097152∧(j:Int)≤400)):=by
     have h1:=fF.o;have h2:=fA.o
     show decide _=decide _
     rw [decide_eq_decide,←h1,←h2];omega
    clear hN fB;by_cases fH:m≤2097152
    all_goals
     go_wp2;go_ret;exact⟨by rw [fD.o];exact congrArg (fun b=>Ending.returned (Value.bool b)) (by rw [Bool.eq_iff_iff];simp;omega),k,rfl⟩
noncomputable def PT.runs (T:PT) (l:List Opn):PT:=l.foldl (fun T o=>(T.run o).1) T
theorem zGf:∀ (l:List Opn) {T:PT},T.Inv→(T.runs l).Inv
 | [],_,h=>h
 | o::r,_,h=>zGf r (zCa h o)
noncomputable def PT.after (T:PT) (l:List Os) (j:Nat):PT:=T.runs ((l.take j).map (·.o))
theorem zJ0 (T:PT) (l:List Os):T.after l 0=T:=rfl
theorem zKj (T:PT) (l:List Os) (j:Nat) (h:j<l.length):T.after l (j+1)=((T.after l j).run l[j].o).1:=by
 unfold PT.after PT.runs;rw [AF h,Ao,List.foldl_append];rfl
theorem inv_after {T:PT} (h:T.Inv) (l:List Os) (j:Nat):(T.after l j).Inv:=zGf _ h
theorem after_all (T:PT) (l:List Os) (j:Nat) (h:j=l.length):T.after l j=T.runs (l.map (·.o)):=by
 unfold PT.after;rw [h,List.take_length]
theorem zFu {α:Type} (f:α→Nat):∀ {l:List α} {x:α},x∈l→f x≤(l.map f).sum
 | y::r,x,h=>by
  rw [AG,List.sum_cons];rcases Av.1 h with rfl | h
  · omega
  · have:=zFu f h;omega
theorem zIt {l:List Os} (h:zFw l=true):zKi l≤2097152∧l.length≤400:=by simpa [zFw] using h
theorem light_one {l:List Os} (h:zKi l≤2097152) {x:Os} (hx:x∈l):x.o.data.length≤2097152∧x.o.path.size≤2097152∧x.o.dst.size≤2097152:=by
 have h1:wtO x≤zKi l:=zFu wtO hx;unfold wtO at h1;omega
def osWf (x:Os):Prop:=(x.o.off≤9223372036854775807∧-9223372036854775808≤x.o.off)∧(x.o.len≤9223372036854775807∧-9223372036854775808≤x.o.len)
open Go.ChangeShapes Go.WideShapes Go.ChangeAt
theorem cellsOp:Tryz.prog.cellsOf 70=8:=by kernel_rfl
theorem bytesOp:Tryz.prog.bytesOf 70=96:=by kernel_rfl
def zI7 {H:Type} (x:Os) (d:DataW H):Prop :=
 ∃ dd:DataW H,d=.agg [.lit (.int .i64 x.o.kind),.lit (.string x.o.path.data.toList),.lit (.string x.o.dst.data.toList),.lit (.int .i64 x.o.off),.lit (.int .i64 x.o.len),dd,.lit (.int .i64 x.o.made),.lit (.int .i64 x.o.pick)] ∧
  ((dd=.nil∧x.o.data=[])∨∃ es sp,dd=.slice es sp∧es.length=x.o.data.length)
theorem wf_64 {n:Int} (h:(Lit.int .i64 n).wf=true):n≤9223372036854775807∧-9223372036854775808≤n:=by
 have hx : -9223372036854775808≤n∧n≤9223372036854775807:=by simpa [Lit.wf,IntKind.min,IntKind.max,IntKind.signed,IntKind.bits] using h
 omega
def osC (x:Os):List Value:=[.int .i64 x.o.kind,.string x.o.path,.string x.o.dst,.int .i64 x.o.off,.int .i64 x.o.len,.slice x.dA x.o.data.length x.dc,.int .i64 x.o.made,.int .i64 x.o.pick]
theorem open_op {H:Type} {enc:TypeId×Value→H} {W:World} {fuel:Nat} {cs:List Value} {x:DataW H×List MemPlace} (h:AR enc Aa W 0 (fun _=>true) true fuel 70 cs=some x) :
 ∃ nd:Os,cs=osC nd∧Sees W W.heap.size 1 nd.dA nd.o.data.length (bvs nd.o.data)∧zI7 nd x.1∧osWf nd:=by
 obtain⟨xs,n,rfl,rfl,fB,fC,hf⟩:=DataW.trod_struct Ac h;rw [cellsOp] at fB;have fA:xs.length=8:=fC
 obtain⟨k0,k1,k2,k3,k4,k5,k6,k7,rfl⟩:∃ a b c d e f g i,cs=[a,b,c,d,e,f,g,i]:=by
  match cs,fB with
  | [a,b,c,d,e,f,g,i],_=>exact⟨a,b,c,d,e,f,g,i,rfl⟩
 obtain⟨y0,y1,y2,y3,y4,y5,y6,y7,rfl⟩:∃ a b c d e f g i,xs=[a,b,c,d,e,f,g,i]:=by
  match xs,fA with
  | [a,b,c,d,e,f,g,i],_=>exact⟨a,b,c,d,e,f,g,i,rfl⟩
 have f0:AR enc Aa W 0 (fun _=>true) true n 3 (([k0,k1,k2,k3,k4,k5,k6,k7].drop 0).take (Tryz.prog.cellsOf 3))=some y0:=hf 0 _ rfl;have f1:AR enc Aa W 0 (fun _=>true) true n 9 (([k0,k1,k2,k3,k4,k5,k6,k7].drop 1).take (Tryz.prog.cellsOf 9))=some y1:=hf 1 _ rfl;have f2:AR enc Aa W 0 (fun _=>true) true n 9 (([k0,k1,k2,k3,k4,k5,k6,k7].drop 2).take (Tryz.prog.cellsOf 9))=some y2:=hf 2 _ rfl;have f3:AR enc Aa W 0 (fun _=>true) true n 3 (([k0,k1,k2,k3,k4,k5,k6,k7].drop 3).take (Tryz.prog.cellsOf 3))=some y3:=hf 3 _ rfl;have f4:AR enc Aa W 0 (fun _=>true) true n 3 (([k0,k1,k2,k3,k4,k5,k6,k7].drop 4).take (Tryz.prog.cellsOf 3))=some y4:=hf 4 _ rfl;have f5:AR enc Aa W 0 (fun _=>true) true n 64 (([k0,k1,k2,k3,k4,k5,k6,k7].drop 5).take (Tryz.prog.cellsOf 64))=some y5:=hf 5 _ rfl;have f6:AR enc Aa W 0 (fun _=>true) true n 3 (([k0,k1,k2,k3,k4,k5,k6,k7].drop 6).take (Tryz.prog.cellsOf 3))=some y6:=hf 6 _ rfl;have f7:AR enc Aa W 0 (fun _=>true) true n 3 (([k0,k1,k2,k3,k4,k5,k6,k7].drop 7).take (Tryz.prog.cellsOf 3))=some y7:=hf 7 _ rfl;rw [zJG] at f1 f2;rw [zIO] at f0 f3 f4 f6 f7;rw [cellsSl] at f5;obtain⟨i0,e0,z0,v0⟩:=AS Ad f0;obtain⟨s1,e1,z1,_⟩:=DataW.trod_string Ae f1;obtain⟨s2,e2,z2,_⟩:=DataW.trod_string Ae f2;obtain⟨i3,e3,z3,v3⟩:=AS Ad f3;obtain⟨i4,e4,z4,v4⟩:=AS Ad f4;obtain⟨A,c,l,e5,_,_,hS,z5⟩:=zFX f5;obtain⟨i6,e6,z6,v6⟩:=AS Ad f6;obtain⟨i7,e7,z7,v7⟩:=AS Ad f7
 simp at e0 e1 e2 e3 e4 e5 e6 e7
 subst e0 e1 e2 e3 e4 e5 e6 e7;refine⟨⟨⟨i0,s1,s2,i3,i4,l,i6,i7⟩,A,c⟩,rfl,hS,⟨y5.1,?_,z5⟩,wf_64 v3,wf_64 v4⟩;simp [z0,z1,z2,z3,z4,z6,z7]
theorem open_ops {H:Type} {enc:TypeId×Value→H} {W:World} {fuel:Nat} {cs:List Value} {x:DataW H×List MemPlace} (hf:AR enc Aa W 0 (fun _=>true) true fuel 22 cs=some x) :
 ∃ (A:Option Addr) (c:Nat) (l:List Os),cs=[.slice A l.length c]∧ScrAt W W.heap.size A l∧(∀ y∈l,osWf y)∧((x.1=.nil∧l=[])∨∃ es sp,x.1=.slice es sp∧es.length=l.length∧∀ i (hi:i<l.length) (fF:i<es.length),zI7 l[i] es[i]):=by
 rcases Deep.open_slice Af hf with ⟨hcs,hx⟩ | ⟨a,len,cap,m,k,D,Pl,hcs,_,hl,hm,hmm,hx,fD⟩
 · subst hx;exact⟨none,0,[],hcs,⟨fun h=>absurd h (by simp),fun x hx=>absurd hx (by simp)⟩,fun y hy=>absurd hy (by simp),.inl ⟨rfl,rfl⟩⟩
 · subst hx;simp only [if_true] at hmm;subst hmm;rw [cellsOp] at fD
   have fC:∀ i,i<len→∃ nd:Os,W.cells? 0 (a.add (i * 8)) 8=some (osC nd)∧Sees W W.heap.size 1 nd.dA nd.o.data.length (bvs nd.o.data)∧zI7 nd (D i)∧osWf nd:=fun i hi=>by
    obtain⟨cs',h1,h2⟩:=fD i (by omega);obtain⟨nd,rfl,h3,h4,h5⟩:=open_op h2;exact⟨nd,h1,h3,h4,h5⟩
   have:Inhabited Os:=⟨⟨⟨0,ByteArray.empty,ByteArray.empty,0,0,[],0,0⟩,none,0⟩⟩;obtain⟨f,fA⟩:=Deep.choose_lt fC;refine⟨some a,_,(List.range len).map f,by simpa using hcs,⟨fun hn=>?_,fun x hx=>?_⟩,fun y hy=>?_,.inr ⟨_,_,rfl,by simp,fun i hi fF=>?_⟩⟩
   · rw [Ax,AH] at hn;obtain⟨h1,_,_,_⟩:=fA 0 hn;obtain⟨_,_,h2⟩:=World.cells?_some h1;have h3:=h2 0 (by show 0<8;omega);simp only [Nat.zero_mul] at h3;obtain⟨b,off,spot⟩:=a
     have fE:W.cell? ⟨b,off,spot⟩=some (.int .i64 (f 0).o.kind):=by simpa [Addr.add,osC] using h3
     have fB:spot=none:=by simpa using World.cell?_spot fE
     subst fB;refine⟨b,off,rfl,AL W _ fE,fun i hi=>?_⟩;rw [Ax,AH] at hi;obtain⟨g1,_,_,_⟩:=fA i hi;obtain⟨_,_,g2⟩:=World.cells?_some g1
     have go:∀ k,W.cell? (((⟨b,off,none⟩:Addr).add (i * 8)).add k)=W.cell? ⟨b,off+i * 8+k,none⟩:=fun k=>by rw [Addr.add_lit,Addr.add_lit]
     have c0:=g2 0 (by show 0<8;omega);have c1:=g2 1 (by show 1<8;omega);have c2:=g2 2 (by show 2<8;omega);have c3:=g2 3 (by show 3<8;omega);have c4:=g2 4 (by show 4<8;omega);have c5:=g2 5 (by show 5<8;omega);have c6:=g2 6 (by show 6<8;omega);have c7:=g2 7 (by show 7<8;omega);rw [go] at c0 c1 c2 c3 c4 c5 c6 c7;simp only [AC,AI];exact⟨c0,c1,c2,c3,c4,c5,c6,c7⟩
   · obtain⟨i,hi,rfl⟩:=AJ.1 hx;exact (fA i (AK.1 hi)).2.1
   · obtain⟨i,hi,rfl⟩:=AJ.1 hy;exact (fA i (AK.1 hi)).2.2.2
   · simp only [AC,AI];rw [Ax,AH] at hi;exact (fA i hi).2.2.1
theorem ops_big {H:Type} {l:List Os} {d:DataW H} (h:(d=.nil∧l=[])∨∃ es sp,d=.slice es sp∧es.length=l.length∧∀ i (hi:i<l.length) (fF:i<es.length),zI7 l[i] es[i])
 (hw:∀ x∈d.weights Aa 22,x≤140737488351232) :
 l.length≤281474976710656∧∀ x∈l,x.o.path.size≤140737488351232∧x.o.dst.size≤140737488351232∧x.o.data.length≤140737488351232:=by
 rcases h with ⟨_,rfl⟩ | ⟨es,sp,rfl,hl,hn⟩
 · exact⟨by simp,fun x hx=>absurd hx (by simp)⟩
 · have fB:∀ x∈DataW.weightsAll Aa 70 es,x≤140737488351232:=fun x hx=>hw x (by simp only [AT,Af,Av,AB];exact .inr (.inl hx));have fC:=hw ((es.length+sp.length) * Tryz.prog.bytesOf 70) (by simp only [AT,Af,Av];exact .inl trivial);rw [bytesOp] at fC;refine⟨by omega,fun x hx=>?_⟩;obtain⟨i,hi,rfl⟩:=AE hx;obtain⟨dd,e,fD⟩:=hn i hi (by omega);have fE:es[i]'(by omega)∈es:=AA _;have fA:∀ x∈(es[i]'(by omega)).weights Aa 70,x≤140737488351232:=fun x hx=>fB x (zDl Aa _ es _ fE x hx);rw [e] at fA
   have hW:∀ z,(z=l[i].o.path.data.toList.length∨z=l[i].o.dst.data.toList.length∨z∈dd.weights Aa 64)→z≤140737488351232:=fun z hz=>fA z (by
    simp only [AT,Ac,DataW.weightsEach,AG,List.map_nil,AB,Av,Aw,or_false,false_or];rcases hz with h | h | h
    · exact .inl h
    · exact .inr (.inl h)
    · exact .inr (.inr h))
   have p1:=hW _ (.inl rfl);have p2:=hW _ (.inr (.inl rfl));rw [Array.length_toList] at p1 p2;refine⟨p1,p2,?_⟩;rcases fD with ⟨_,h0⟩ | ⟨es',sp',rfl,h0⟩
   · rw [h0];simp
   · have:=hW ((es'.length+sp'.length) * Tryz.prog.bytesOf 5) (.inr (.inr (by simp only [AT,Tryz.underlying64,Av];exact .inl trivial)));rw [bytesU8] at this;omega
def bv (a:Nat):Value:=.int .u8 ((a:Int) % 251)
def edges (P:PT):List (Nat×ByteArray):=P.nodes.flatMap fun p=>p.2.names.map fun q=>(p.1,q.1)
theorem mem_edges {P:PT} {i d:Nat} {nm:ByteArray} (h:P.E d nm i):(d,nm)∈edges P:=by
 obtain⟨n,h1,_,h3⟩:=h;unfold edges;exact List.mem_flatMap.2 ⟨(d,n),zAf h1,AJ.2 ⟨(nm,i),zAf h3,rfl⟩⟩
theorem edges_len {P:PT} (h:P.Ok):(edges P).length≤512 * 1068:=by
 unfold edges;rw [List.length_flatMap]
 have h1:((P.nodes.map fun p=>(p.2.names.map fun q=>(p.1,q.1)).length)).sum≤(P.nodes.map fun p=>(p.2.names.map fun q=>(p.1,q.1)).length).length * 1068:=sum_le fun x hx=>by
  obtain⟨p,hp,rfl⟩:=AJ.1 hx;have h2:=(h.node p hp).1;have h3:=h2.nlen;have h4:=h2.slots;rw [Ax];omega
 rw [Ax] at h1;have h2:=h.len;refine Nat.le_trans h1 (Nat.mul_le_mul_right _ h2)
theorem zET {P:PT} (h:P.Inv):P.spots.length≤(edges P).length:=by
 have key:∀ y∈P.spots,∃ a nm d,y.1=a++[nm]∧P.walk a 1=(d,0)∧P.E d nm y.2:=fun y hy=>by
  obtain⟨h1,h2⟩:=zJR h.gr.ok hy;rcases List.eq_nil_or_concat y.1 with e | ⟨a,nm,e⟩
  · exact absurd e h1
  rw [List.concat_eq_append] at e;rw [e] at h2;obtain⟨d,h3,h4⟩:=zCB.1 h2;exact⟨a,nm,d,e,h3,h4⟩
 have hl:(P.spots.map fun y=>((P.walk y.1.dropLast 1).1,zAM y.1)).length=P.spots.length:=Ax _;rw [←hl];refine zAB ?_ fun z hz=>?_
 · rw [List.Nodup,List.pairwise_map];refine (zGV h.gr.ok).imp_of_mem fun {y z} hy hz hp e=>?_;obtain⟨a,nm,d,e1,h3,h4⟩:=key y hy;obtain⟨b,nm',d',e2,fA,fB⟩:=key z hz;rw [e1,e2] at e hp
   have e3:d=d':=by
    have:=congrArg Prod.fst e;simp only [List.dropLast_concat,h3,fA] at this;exact this
   have e4:nm=nm':=by
    have:=congrArg Prod.snd e;simpa [zAM] using this
   subst e3;subst e4;rw [dir_path h a b h3 fA (E_dir h4)] at hp;exact zFq _ hp
 · obtain⟨y,hy,rfl⟩:=AJ.1 hz;obtain⟨a,nm,d,e1,h3,h4⟩:=key y hy;rw [e1];simp only [List.dropLast_concat,h3,zAM,List.getLastD_concat];exact mem_edges h4
theorem zII {P:PT} (h:P.Inv):P.spots.length≤1000000:=by
 have h1:=zET h;have h2:=edges_len h.gr.ok;omega
theorem zFZ {α:Type} (f g:α→Nat):∀ l:List α,(∀ x∈l,f x≤g x)→(l.map f).sum≤(l.map g).sum
 | [],_=>AO _
 | x::r,h=>by
  have h1:=h x List.mem_cons_self;have h2:=zFZ f g r fun y hy=>h y (List.mem_cons_of_mem _ hy);simp only [AG,List.sum_cons];omega
theorem spots_few {P:PT} (h:P.Inv):P.spots.length≤4096:=by
 have h1:=zET h
 have h2:(edges P).length≤P.used:=by
  unfold edges PT.used;rw [List.length_flatMap];refine zFZ _ _ _ fun p hp=>?_;have fA:=(h.gr.ok.node p hp).1;have h3:=fA.nlen
  have h4:p.2.keys.length≤p.2.count:=by unfold PN.count zDw;omega
  have h5:p.2.keys.length=p.2.data.length+p.2.slots.length:=by simp [PN.keys]
  simp only [Ax];omega
 have h6:=h.room;have h7:=h.gr.ok.sec;omega
end Go.Proofs.YtolpcfhfcdkokaaGreatDoor
