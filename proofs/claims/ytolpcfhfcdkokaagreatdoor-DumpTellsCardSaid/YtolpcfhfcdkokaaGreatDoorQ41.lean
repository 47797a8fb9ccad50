/- Joined out of DEntry..DEntry. -/
import Derived.Deep.RegionLaw
import Derived.Test.YtolpcfhfcdkokaaGreatDoorQ36
set_option maxHeartbeats 16000000
set_option maxRecDepth 100000
namespace Go.Proofs.YtolpcfhfcdkokaaGreatDoor
open Lib (hid)
open Go.RowKit Go.Proofs
theorem under_any (p nm:ByteArray) (w:World) (hp:p.size≤1000000) (hn:nm.size≤1000000):Calls Tryz.prog 53 #[.string p,.string nm] w fun e w'=>e=.returned (.string (zJ8 p nm))∧w=w':=by
 have h1:=fun (W:World)=>run_string_add_sum (P:=Tryz.prog) (w:=W) p ⟨#[47]⟩ (by have:(⟨#[47]⟩:ByteArray).size=1:=rfl;omega);have h2:=fun (W:World)=>run_string_add_sum (P:=Tryz.prog) (w:=W) (p++⟨#[47]⟩) nm (by rw [ByteArray.size_append];have:(⟨#[47]⟩:ByteArray).size=1:=rfl;omega);have h3:=fun (W:World)=>run_string_add_sum (P:=Tryz.prog) (w:=W) ⟨#[]⟩ ⟨#[47]⟩ (by decide);have h4:=fun (W:World)=>run_string_add_sum (P:=Tryz.prog) (w:=W) (⟨#[]⟩++⟨#[47]⟩) nm (by rw [ByteArray.size_append];have:(⟨#[47]⟩:ByteArray).size=1:=rfl;have:(⟨#[]⟩:ByteArray).size=0:=rfl;omega);obtain⟨r,hr⟩:∃ r,zJ8 p nm=r:=⟨_,rfl⟩;rw [hr];have fA:=hid hr;clear hr;go_enter Tryz.func53,Tryz.ntmps53;by_cases h:p=slash
 · have t:(p.toList==[47])=true:=by rw [h,toList_data];rfl
   have hv:r=⟨#[]⟩++⟨#[47]⟩++nm:=by rw [←fA.out];unfold zJ8;rw [if_pos h];rfl
   clear h h1 h2;go_wp2;go_ret;exact⟨(by rw [hv];rfl),rfl⟩
 · have t:(p.toList==[47])=false:=by
    have:¬p.toList=[47]:=fun e=>h (by rw [toList_data] at e;cases p with | mk d=>exact congrArg ByteArray.mk (Array.toList_inj.1 e));simpa using this
   have hv:r=p++⟨#[47]⟩++nm:=by rw [←fA.out];unfold zJ8;rw [if_neg h];rfl
   clear h h3 h4;go_wp2;go_ret;exact⟨(by rw [hv];rfl),rfl⟩
structure DmpAt (p:Nat) (w0 wr:World) (v:Value) (l:List Nd) (s:DS):Prop where
 below:Below w0.heap.size w0 wr
 wk:Blk wr (w0.heap.size+1) 89 [ifV p,v,.map (some w0.heap.size)]
 fst:zAy wr zAG Value.string 3 w0.heap.size s.first
 own:OwnN wr (w0.heap.size+2) v l
 tn:l.map Nd.tn=s.nodes
 fne:∀ i q,zAd i s.first=some q→q≠emp
 flen:s.first.length≤s.nodes.length
theorem DmpAt.fresh {p:Nat} {w0 wr w1:World} {v:Value} {l:List Nd} {s:DS} (h:DmpAt p w0 wr v l s) (hb:Below wr.heap.size wr w1):DmpAt p w0 w1 v l s :=
 ⟨h.below.trans (hb.mono h.below.size),h.wk.fresh hb,h.fst.chg (Chg.of_fresh (S:=fun _=>False) hb) id,h.own.fresh hb,h.tn,h.fne,h.flen⟩
structure GrD (B:Nat) (w:World) (v:Value) (w':World) (v':Value):Prop where
 chg:Chg (fun b=>b=B∨b=B+1∨v.ownBlock=some b) w w'
 at_:v'.ownBlock=v.ownBlock∨∃ g,v'.ownBlock=some g∧w.heap.size≤g
theorem GrD.fresh {B:Nat} {w w':World} (v:Value) (hb:Below w.heap.size w w'):GrD B w v w' v:=⟨Chg.of_fresh hb,.inl rfl⟩
theorem GrD.trans {B:Nat} {w w1 w2:World} {v v1 v2:Value} (h:GrD B w v w1 v1) (k:GrD B w1 v1 w2 v2):GrD B w v w2 v2:=by
 have hs:=h.chg.size;refine⟨h.chg.trans k.chg (fun _ _ h=>h) fun b hb e=>?_,?_⟩
 · rcases e with e | e | e
   · exact .inl e
   · exact .inr (.inl e)
   · rcases h.at_ with h1 | ⟨g,h1,h2⟩
     · rw [h1] at e;exact .inr (.inr e)
     · rw [h1] at e;injection e with e;omega
 · rcases k.at_ with k1 | ⟨g,k1,k2⟩
   · rw [k1];exact h.at_
   · exact .inr ⟨g,k1,by omega⟩
def DmpP (p:Nat) (w0:World) (v:Value) (wr:World) (r:DS×Nat) (e:Ending) (w':World):Prop:=e=.returned (.int .i64 (r.2:Int))∧∃ v' l,DmpAt p w0 w' v' l r.1∧GrD w0.heap.size wr v w' v'
theorem DmpAt.node {p:Nat} {w0 wr w2:World} {v v':Value} {l:List Nd} {s s':DS} {x:Nd} (h:DmpAt p w0 wr v l s) (hx:s'.nodes=s.nodes++[x.tn]) (hb:Below w0.heap.size w0 w2) (hk:Blk w2 (w0.heap.size+1) 89 [ifV p,v',.map (some w0.heap.size)])
 (hf:zAy w2 zAG Value.string 3 w0.heap.size s'.first) (ho:OwnN w2 (w0.heap.size+2) v' (l++[x])) (hn:∀ i q,zAd i s'.first=some q→q≠emp) (hl:s'.first.length≤s.first.length+1):DmpAt p w0 w2 v' (l++[x]) s' :=
 ⟨hb,hk,hf,ho,by rw [List.map_append,h.tn,hx];rfl,hn,by rw [hx,List.length_append,List.length_singleton];have:=h.flen;omega⟩
theorem DmpAt.push {p B:Nat} {w0 w W1 w4:World} {v v':Value} {l:List Nd} {s s':DS} {x:Nd} (h:DmpAt p w0 w v l s) (hB:w0.heap.size=B) (hc:Chg (fun b=>b=B) w W1) (hd:W1.ownsRow w.heap.size 5 1 (ndV x) x.data.length (bvs x.data))
 (ho:w4.ownsRow (B+2) 75 5 v' (l.length+1) (ncs l++zCx x)) (hg:W1.grownBy w4 v.ownBlock) (fC:v'.ownBlock=v.ownBlock∨v'.ownBlock=some W1.heap.size) (hf:zAy W1 zAG Value.string 3 B s'.first) (hx:s'.nodes=s.nodes++[x.tn])
 (hn:∀ i q,zAd i s'.first=some q→q≠emp) (hl:s'.first.length≤s.first.length+1):DmpAt p w0 (w4.setCell ⟨B+1,1,none⟩ v') v' (l++[x]) s'∧GrD B w v (w4.setCell ⟨B+1,1,none⟩ v') v':=by
 subst hB;have fB:∀ g,v.ownBlock=some g→w0.heap.size+2≤g∧g<w.heap.size:=fun g e=>h.own.row.lt g e;have fD:w0.heap.size+2≤w.heap.size:=h.wk.lt;have fI:=hc.size;have hG:Grows W1 v w4 v':=Grows.of_law (Below.refl _ W1) hg fC (Nat.le_refl _);have fE:OwnN w4 (w0.heap.size+2) v' (l++[x]):=h.own.step hc (fun b hb e=>by omega) fD hd ho hG;have fA:Chg (fun b=>b=w0.heap.size+1) w4 (w4.setCell ⟨w0.heap.size+1,1,none⟩ v'):=(Chg.refl (fun b=>b=w0.heap.size+1) w4).setCell (p:=⟨w0.heap.size+1,1,none⟩) (fun _=>rfl) v';have fF:Blk W1 (w0.heap.size+1) 89 [ifV p,v,.map (some w0.heap.size)]:=h.wk.chg hc (by omega)
 have fG:Blk w4 (w0.heap.size+1) 89 [ifV p,v,.map (some w0.heap.size)]:=fF.law hg fun e=>by have:=(fB _ e).1;omega
 have fH:zAy w4 zAG Value.string 3 w0.heap.size s'.first:=hf.chg hG.chg fun e=>by have:=(fB _ e).1;omega
 refine⟨h.node hx ?_ (fG.set_ 1 v') (fH.chg fA (by omega)) (fE.chg fA fun b hb e=>by omega) hn hl,⟨((hc.mono fun b _ e=>.inl e).trans hG.chg (fun _ _ h=>h) (fun _ _ e=>.inr (.inr e))).trans fA (fun _ _ h=>h) (fun b _ e=>.inr (.inl e)),hG.at_.imp id fun⟨g,e,hg⟩=>⟨g,e,by omega⟩⟩⟩;refine ((h.below.trans (hc.below (B:=w0.heap.size) (by omega) fun b hb e=>by omega)).trans (hG.chg.below (B:=w0.heap.size) (by omega) fun b hb e=>?_)).trans (fA.below (by have:=hG.chg.size;omega) fun b hb e=>by omega);have:=(fB _ e).1;omega
theorem ask_S (own:Nat→Option Role) (lay:Nat→NA) (p mb:Nat) (T:PT) (x:ByteArray) (a:Ans) (m0:Int) (w:World) (h:PlainAt w own lay p mb T) (hT:T.Wf) (hx:x.size≤100000) (hm:w.cell? ⟨0,0,none⟩=some (.int .i64 m0)) (ha:(T.run (opS x)).2=a) :
 Calls Tryz.prog 51 #[ifV p,.agg #[.int .i64 10,.string x,.string ⟨#[]⟩,.int .i64 0,.int .i64 0,.slice none 0 0,.int .i64 0,.int .i64 0]] w (AskA a w):=by
 have h9:=ask_q own lay p mb T (opS x) none 0 m0 w h hT (.inr (.inl rfl)) (fine_S x) ⟨(by decide:(0:Int)≤9223372036854775807),(by decide:(-9223372036854775808:Int)≤0)⟩ ⟨(by decide:(0:Int)≤9223372036854775807),(by decide:(-9223372036854775808:Int)≤0)⟩ hx hm;rw [ha] at h9;exact h9
theorem ask_L (own:Nat→Option Role) (lay:Nat→NA) (p mb:Nat) (T:PT) (x:ByteArray) (a:Ans) (m0:Int) (w:World) (h:PlainAt w own lay p mb T) (hT:T.Wf) (hx:x.size≤100000) (hm:w.cell? ⟨0,0,none⟩=some (.int .i64 m0)) (ha:(T.run (opL x)).2=a) :
 Calls Tryz.prog 51 #[ifV p,.agg #[.int .i64 11,.string x,.string ⟨#[]⟩,.int .i64 0,.int .i64 0,.slice none 0 0,.int .i64 0,.int .i64 0]] w (AskA a w):=by
 have h9:=ask_q own lay p mb T (opL x) none 0 m0 w h hT (.inr (.inr rfl)) (fine_L x) ⟨(by decide:(0:Int)≤9223372036854775807),(by decide:(-9223372036854775808:Int)≤0)⟩ ⟨(by decide:(0:Int)≤9223372036854775807),(by decide:(-9223372036854775808:Int)≤0)⟩ hx hm;rw [ha] at h9;exact h9
theorem zGq {T:PT} {x:ByteArray} (h:400<x.size):(T.run (opS x)).2=.err 70 :=
 run_bad (fine_S x) (show ¬((10:Int)=12∨(10:Int)=14) by decide) (show spl x=([],70) by unfold spl;rw [if_pos (.inl h)]) (by decide)
theorem zGP {T:PT} {x:ByteArray} (h:400<x.size):(T.run (opL x)).2=.err 70 :=
 run_bad (fine_L x) (show ¬((11:Int)=12∨(11:Int)=14) by decide) (show spl x=([],70) by unfold spl;rw [if_pos (.inl h)]) (by decide)
theorem zJn (own:Nat→Option Role) (lay:Nat→NA) (p mb:Nat) (T:PT) (m0:Int) (w0:World) (h0:PlainAt w0 own lay p mb T) (hT:T.Wf) (hm:w0.cell? ⟨0,0,none⟩=some (.int .i64 m0)) (f:Nat)
 (ns:List ByteArray) (j:Nat) (n:PN) (s:DS) (v:Value) (l:List Nd) (wr:World) (hD:DmpAt p w0 wr v l s) (hw:T.walk ns 1=(j,0)) (hg:zAd j T.nodes=some n) (hc:∀ x∈ns,chk x=true) (lJ:(pth ns).size≤1000)
 (fK:n.dir=true→∀ s v l wr,DmpAt p w0 wr v l s→s.nodes.length+(tl T f ns j).length≤1000000→Calls Tryz.prog 33 #[.pointer (some ⟨w0.heap.size+1,0,none⟩),.string (pth ns)] wr (DmpP p w0 v wr (zAU T f ns j s)))
 (jQ:s.nodes.length+(1+if n.dir=true then (tl T f ns j).length else 0)≤1000000) :
 Calls Tryz.prog 52 #[.pointer (some ⟨w0.heap.size+1,0,none⟩),.string (pth ns),.int .i64 n.kind] wr (DmpP p w0 v wr (zE8 T (zAU T f) ns j s)):=by
 have hu:zE8 T (zAU T f) ns j s=if 400<(pth ns).size then (s,70) else if T.isDir j=true then zAU T f ns j (T.step s (ns,j)) else (T.step s (ns,j),0):=rfl;obtain⟨R,hR⟩:∃ R,zE8 T (zAU T f) ns j s=R:=⟨_,rfl⟩;rw [hR] at hu ⊢;have jE:wr.cell? ⟨0,0,none⟩=some (.int .i64 m0):=(hD.below.cell (p:=⟨0,0,none⟩) (World.block_lt_of_cell? _ _ hm)).trans hm;have jF:=h0.fresh hD.below;obtain⟨B,jG⟩:∃ B,w0.heap.size=B:=⟨_,rfl⟩;rw [jG] at fK ⊢;have fB:=hid jG;have fW:=hD.wk;rw [jG] at fW;have y0:=fW.cell 0;simp only [List.getElem?_cons_zero,ifV] at y0;have fH:=hid hD;have kY:=hid fK;clear hR jG hD fK fW;by_cases fI:400<(pth ns).size
 · rw [if_pos fI] at hu;have fX:=ask_S own lay p mb T (pth ns) _ m0 wr jF hT (by omega) jE (zGq fI);unfold ifV at fX;have jH:=hid hu;obtain⟨x,hx⟩:∃ x,pth ns=x:=⟨_,rfl⟩;rw [hx] at fX ⊢;clear hu hx jF jE fI;go_enter Tryz.func52,Tryz.ntmps52
   go_upto_region 3 with (first
    | (go_at_call 51;refine fX.mono ?_;rintro e w1 ⟨va,rfl,hA,-,fL⟩;obtain⟨dA,dc,eA,ec,rfl,-,-⟩:=hA;simp only [Ans.err,List.length_nil];have gS:=Blk.new w1 67 zAs)
    | (refine wpList_store_row rfl 67 (.tmp 7) (.tmp 18) rfl w1.heap.size (zAh 70 st0 (.slice dA 0 dc) (.slice eA 0 ec)).toArray rfl (by rfl) 67 _ gS rfl rfl (zAv _ _ _ _ _ _ _ _) ?_))
   have gQ:Below w1.heap.size w1 ((w1.alloc (.cells zAs.toArray 67)).setRow w1.heap.size (zAh 70 st0 (.slice dA 0 dc) (.slice eA 0 ec)).toArray):=((Chg.refl (fun b=>w1.heap.size≤b) w1).alloc _ |>.setRow (fun _=>Nat.le_refl _) _).below (Nat.le_refl _) fun b hb e=>by omega
   go_wp2;go_ret;rw [jH.out];exact⟨rfl,v,l,fH.out.fresh (fL.trans (gQ.mono fL.size)),GrD.fresh v (fL.trans (gQ.mono fL.size))⟩
 · rw [if_neg fI] at hu
   have kZ:(pth ns).size≤400:=by omega
   have kI:=zER hc kZ
   have jR:T.stat j=⟨j,n.kind,n.links,n.size,n.made,n.count⟩:=by unfold PT.stat;rw [hg]
   have kJ:=zIQ (T:=T) kI hw;rw [jR] at kJ;have fX:=ask_S own lay p mb T (pth ns) _ m0 wr jF hT (by omega) jE kJ;unfold ifV at fX;have fV:=zAn hg;rw [fV] at hu
   have lK:∀ q d,(⟨pth ns,n.kind,(n.made:Int),q,d⟩:Tn)=⟨pth ns,n.kind,((T.node j).made:Int),q,d⟩:=fun q d=>by rw [zAp hg]
   go_enter Tryz.func52,Tryz.ntmps52;obtain⟨x,hx⟩:∃ x,pth ns=x:=⟨_,rfl⟩;simp only [hx] at fX ⊢
   go_upto_region 4 with (first
    | (go_at_call 51;refine fX.mono ?_;rintro e w1 ⟨va,rfl,hA,-,fL⟩;obtain⟨dA,dc,eA,ec,rfl,-,-⟩:=hA;simp only [List.length_nil];have gS:=Blk.new w1 67 zAs)
    | (refine wpList_store_row rfl 67 (.tmp 7) (.tmp 18) rfl w1.heap.size (zAh 0 ⟨j,n.kind,n.links,n.size,n.made,n.count⟩ (.slice dA 0 dc) (.slice eA 0 ec)).toArray rfl (by rfl) 67 _ gS rfl rfl (zAv _ _ _ _ _ _ _ _) ?_))
   have gT:Blk ((w1.alloc (.cells zAs.toArray 67)).setRow w1.heap.size (zAh 0 ⟨j,n.kind,n.links,n.size,n.made,n.count⟩ (.slice dA 0 dc) (.slice eA 0 ec)).toArray) w1.heap.size 67 (zAh 0 ⟨j,n.kind,n.links,n.size,n.made,n.count⟩ (.slice dA 0 dc) (.slice eA 0 ec)):=setRow_heap (w1.alloc (.cells zAs.toArray 67)) w1.heap.size _ (zAh 0 ⟨j,n.kind,n.links,n.size,n.made,n.count⟩ (.slice dA 0 dc) (.slice eA 0 ec)).toArray _ _ gS
   have gQ:Below w1.heap.size w1 ((w1.alloc (.cells zAs.toArray 67)).setRow w1.heap.size (zAh 0 ⟨j,n.kind,n.links,n.size,n.made,n.count⟩ (.slice dA 0 dc) (.slice eA 0 ec)).toArray):=((Chg.refl (fun b=>w1.heap.size≤b) w1).alloc _ |>.setRow (fun _=>Nat.le_refl _) _).below (Nat.le_refl _) fun b hb e=>by omega
   have fM:=hid (fH.out.fresh (fL.trans (gQ.mono fL.size)));have jS:=hid (GrD.fresh (B:=w0.heap.size) v (fL.trans (gQ.mono fL.size)));change Code.wp _ _ _ _ ((w1.alloc (.cells zAs.toArray 67)).setRow w1.heap.size (zAh 0 ⟨j,n.kind,n.links,n.size,n.made,n.count⟩ (.slice dA 0 dc) (.slice eA 0 ec)).toArray);generalize (w1.alloc (.cells zAs.toArray 67)).setRow w1.heap.size (zAh 0 ⟨j,n.kind,n.links,n.size,n.made,n.count⟩ (.slice dA 0 dc) (.slice eA 0 ec)).toArray=w2 at *;have lA:Hid (w1.heap.size≠B):=hid (by have h1:=fH.out.wk.lt;have h2:=fL.size;have h3:=fB.out;omega);generalize w1.heap.size=z at *;have x1:w2.cell? ⟨z,1,none⟩=some (.int .i64 (j:Int)):=gT.cell 1;have x4:w2.cell? ⟨z,4,none⟩=some (.int .i64 (n.size:Int)):=gT.cell 4;have x5:w2.cell? ⟨z,5,none⟩=some (.int .i64 (n.made:Int)):=gT.cell 5;have jT:=hid gT;have jU:=fH;clear gS gQ fL fX gT y0 fH jF jE;go_upto_region 5 with (fail);have gD:Blk (w2.alloc (.cells [.string x,.int .i64 n.kind,.int .i64 (n.made:Int),.string ⟨#[]⟩,.slice none 0 0].toArray 75)) w2.heap.size 75 [.string x,.int .i64 n.kind,.int .i64 (n.made:Int),.string ⟨#[]⟩,.slice none 0 0]:=Blk.new w2 _ _;have jI:Below w2.heap.size w2 (w2.alloc (.cells [.string x,.int .i64 n.kind,.int .i64 (n.made:Int),.string ⟨#[]⟩,.slice none 0 0].toArray 75)):=(Below.refl _ _).alloc (Nat.le_refl _) _
   have lB:(w2.alloc (.cells [.string x,.int .i64 n.kind,.int .i64 (n.made:Int),.string ⟨#[]⟩,.slice none 0 0].toArray 75)).heap.size=w2.heap.size+1:=by simp
   have gR:=fM.out.fresh jI;have kK:=jT.out.fresh jI;have lL:z<w2.heap.size:=jT.out.lt;change Code.wp _ _ _ _ (w2.alloc (.cells [.string x,.int .i64 n.kind,.int .i64 (n.made:Int),.string ⟨#[]⟩,.slice none 0 0].toArray 75));generalize w2.alloc (.cells [.string x,.int .i64 n.kind,.int .i64 (n.made:Int),.string ⟨#[]⟩,.slice none 0 0].toArray 75)=w3 at *;generalize fY:w2.heap.size=q at *;have fW:=gR.wk;rw [fB.out] at fW;obtain⟨A8,c8,lC,-⟩:=Sees.of_own (B:=w3.heap.size) gR.own.row fun g hg=>(gR.own.row.lt g hg).2;subst lC
   have lM:B+2≤q:=by have h1:=fM.out.wk.lt;rw [fB.out,fY] at h1;omega
   have fH:=hid gR;have gE:=hid gD;have fN:=hid fW;have gF:=hid kK;have kL:=hid (show l.length=s.nodes.length by have:=congrArg List.length gR.tn;simpa using this)
   have lN:l.length≤1000000:=by have:=kL.out;omega
   have gG:=hid jI;clear x1 x4 x5 jT jI jU;have e0:=gD.cell 0;have e1:=gD.cell 1;have e2:=gD.cell 2;have e3:=gD.cell 3;have e4:=gD.cell 4;simp only [List.getElem?_cons_succ,List.getElem?_cons_zero] at e0 e1 e2 e3 e4;have y1:=fW.cell 1;simp only [List.getElem?_cons_succ,List.getElem?_cons_zero] at y1;obtain⟨iN,jV,gH,gI,gJ⟩:=info_parts zEo;clear gD fW kK gR;by_cases hd:n.dir=true
   · have lD:(n.kind==2)=true:=by unfold PN.kind;rw [hd];rfl
     go_upto_region 6 with (fail);have gK:=hid fH.out.own.row;rw [fB.out] at gK
     have fZ:Blk (w3.alloc (.cells [.string x,.int .i64 n.kind,.int .i64 (n.made:Int),.string ⟨#[]⟩,.slice none 0 0].toArray 75)).drew (q+1) 75 [.string x,.int .i64 n.kind,.int .i64 (n.made:Int),.string ⟨#[]⟩,.slice none 0 0]:=by
      have h9:=Blk.new w3 75 [.string x,.int .i64 n.kind,.int .i64 (n.made:Int),.string ⟨#[]⟩,.slice none 0 0];rw [lB] at h9;exact h9.drew
     have fO:=hid (zBP (P:=Tryz.prog) (tx:=31) Tryz.underlying31 fZ (by intro u hu;simp only [List.mem_cons,List.not_mem_nil,or_false] at hu;rcases hu with rfl | rfl | rfl | rfl | rfl<;>rfl));have fP:Hid (∀ g,(Value.slice A8 l.length c8).ownBlock=some g→B+2≤g):=hid fun g hg=>(gK.out.lt g hg).1;have y1':=(fN.out.alloc (.cells [.string x,.int .i64 n.kind,.int .i64 (n.made:Int),.string ⟨#[]⟩,.slice none 0 0].toArray 75)).cell 1;simp only [List.getElem?_cons_succ,List.getElem?_cons_zero] at y1';clear fZ
     go_region_law (refine zBw _ (by rfl) (.tmp 35) (.tmp 37) _ _ (by rfl) (B+2) 75 iN _ 5 72 Tryz.underlying31 jV gH gI gJ rfl (.slice A8 l.length c8) l.length (ncs l) (by rfl) ((gK.out.alloc _).drew) 1 [.string x,.int .i64 n.kind,.int .i64 (n.made:Int),.string ⟨#[]⟩,.slice none 0 0] fO.out (by unfold maxLen;omega) (by omega) (by simp;omega) ?_;intro v4 w4 fJ fQ fC;have fR:=(((fN.out.alloc _).drew).law fQ (fun e=>by have:=fP.out _ e;omega));obtain⟨A9,c9,gU,-⟩:=Sees.of_own (B:=w4.heap.size) fJ fun g hg=>(fJ.lt g hg).2;subst gU;have y4:=fR.cell 1;have f4:=fR.frozen 1;simp only [List.getElem?_cons_succ,List.getElem?_cons_zero] at y4)
     all_goals
      have fE:DmpAt p w0 (w4.setCell ⟨B+1,1,none⟩ (.slice A9 (l.length+1) c9)) (.slice A9 (l.length+1) c9) (l++[⟨x,n.kind,n.made,⟨#[]⟩,none,0,[]⟩]) (T.step s (ns,j))∧GrD B w2 (.slice A8 l.length c8) (w4.setCell ⟨B+1,1,none⟩ (.slice A9 (l.length+1) c9)) (.slice A9 (l.length+1) c9):=by
       have jR:T.step s (ns,j)=⟨s.nodes++[⟨x,n.kind,n.made,⟨#[]⟩,[]⟩],s.first⟩:=by
        unfold PT.step;rw [if_pos (by rw [fV];exact hd),zAp hg,hx];unfold PN.kind;rw [if_pos hd];rfl
       rw [jR];refine fM.out.push fB.out (W1:=(w3.alloc (.cells [.string x,.int .i64 n.kind,.int .i64 (n.made:Int),.string ⟨#[]⟩,.slice none 0 0].toArray 75)).drew) (((Chg.of_fresh (by rw [fY];exact gG.out)).alloc _).drew) (World.ownsRow_nil _ _ _ _) fJ fQ fC ?_ rfl (fH.out.fne) (Nat.le_succ _);have h9:=fH.out.fst;rw [fB.out] at h9;exact (h9.chg ((Chg.refl (fun _=>False) w3).alloc _) id).chg ((Chg.refl (fun _=>False) _).drew) id
      obtain⟨fE,gA⟩:=fE
      have jW:=kY.out hd _ _ _ _ fE (by
       have:(T.step s (ns,j)).nodes.length=s.nodes.length+1:=by
        have h9:=congrArg List.length fE.tn;simp only [List.length_map,List.length_append,List.length_singleton] at h9;have:=kL.out;omega
       rw [if_pos hd] at jQ;omega)
      rw [hx] at jW;rw [if_pos hd] at hu;rw [←hu] at jW;clear hu;have h2:=jS.out;rw [fB.out] at h2;have fS:=hid (h2.trans gA);clear fR y4 f4 fJ fQ fC fE gA h2;generalize w4.setCell ⟨B+1,1,none⟩ (.slice A9 (l.length+1) c9)=w5 at *;go_wp2_with (go_at_call 33;refine jW.mono ?_;rintro e w6 ⟨rfl,jX⟩);go_ret;obtain⟨v6,l6,lE,kM⟩:=jX;rw [fB.out] at kM;exact⟨rfl,v6,l6,lE,by rw [fB.out];exact fS.out.trans kM⟩
   · have lD:(n.kind==2)=false:=by unfold PN.kind;simp [hd]
     have kN:Hid (n.kind=1):=hid (by unfold PN.kind;simp [hd]);have lO:=(hT.ok.get hg).2;have lP:=hT.ok.ino;rw [if_neg hd] at hu;have jH:=hid hu;clear hu;have z1:=gF.out.cell 1;have z4:=gF.out.cell 4;simp only [zAh,List.getElem?_cons_succ,List.getElem?_cons_zero] at z1 z4;have y2:=fN.out.cell 2;simp only [List.getElem?_cons_succ,List.getElem?_cons_zero] at y2;have f3:=gE.out.frozen 3;have fF:=fH.out.fst;rw [fB.out] at fF
     have jY:zAy w3.drew zAG Value.string 3 B s.first:=fF.chg (Chg.refl (fun _=>False) w3).drew id
     have kO:∀ W:World,(zeroValue 9).run Tryz.prog W=.ok (.string ⟨#[]⟩) W:=fun W=>by kernel_rfl
     have lk:=jY.look (t:=87) zDW Tryz.underlying87 (kO _) (zHv j (by omega));have lk2:=fF.look (t:=87) zDW Tryz.underlying87 (kO _) (zHv j (by omega));simp only [zAG] at lk lk2;clear y1
     cases gV:zAd j s.first with
     | some qn =>
      rw [gV] at lk lk2;simp only [orV] at lk lk2;go_upto_region 8 with (fail)
      go_region
      go_upto_region 9 with (fail);have fU:Chg (fun b=>b=q) w3 (w3.setCell ⟨q,3,none⟩ (.string qn)).drew:=((Chg.refl (fun b=>b=q) w3).setCell (p:=⟨q,3,none⟩) (fun _=>rfl) (.string qn)).drew;have gL:Blk (w3.setCell ⟨q,3,none⟩ (.string qn)).drew q 75 [.string x,.int .i64 n.kind,.int .i64 (n.made:Int),.string qn,.slice none 0 0]:=(gE.out.set_ 3 (.string qn)).drew;have gB:=hid (fN.out.chg fU (by omega));have jJ:=hid (fF.chg fU (by omega));have gW:Hid (Chg (fun b=>b=B) w2 (w3.setCell ⟨q,3,none⟩ (.string qn)).drew):=hid ((Chg.of_fresh (by rw [fY];exact gG.out)).trans fU (fun _ _ h=>h) (fun b hb e=>by rw [fY] at hb;omega));have fD:=hid gL;have kP:qn.toList.isEmpty=false:=zCZ (fH.out.fne _ _ gV);have e3a:(w3.setCell ⟨q,3,none⟩ (.string qn)).drew.cell? ⟨q,3,none⟩=some (.string qn):=gL.cell 3;clear lk lk2 fF jY fU e0 e1 e2 e3 e4 z1 z4 y2 f3 gL;generalize (w3.setCell ⟨q,3,none⟩ (.string qn)).drew=wa at *
      have gM:Hid (T.step s (ns,j)=⟨s.nodes++[⟨x,n.kind,n.made,qn,[]⟩],s.first⟩):=hid (by
       unfold PT.step;rw [if_neg (by rw [fV];exact hd),gV,zAp hg,hx,kN.out])
      have fA:=fH.out.fne;have fA:=hid fA;have fG:Hid (s.first.length≤s.first.length+1):=hid (Nat.le_succ _)
      have gX:Hid (wa.ownsRow (B+2) 75 5 (.slice A8 l.length c8) l.length (ncs l)):=hid (by
       have h9:=zAo fM.out.own.row gW.out fun g hg e=>by have h8:=(fM.out.own.row.lt g hg).1;rw [fB.out] at h8;omega
       rw [fB.out] at h9;exact h9)
      have jZ:Hid (B+1<wa.heap.size):=hid gB.out.lt;have fZ:Blk (wa.alloc (.cells [.string x,.int .i64 n.kind,.int .i64 (n.made:Int),.string qn,.slice none 0 0].toArray 75)).drew wa.heap.size 75 [.string x,.int .i64 n.kind,.int .i64 (n.made:Int),.string qn,.slice none 0 0]:=(Blk.new wa _ _).drew;have fO:=hid (zBP (P:=Tryz.prog) (tx:=31) Tryz.underlying31 fZ (by intro u hu;simp only [List.mem_cons,List.not_mem_nil,or_false] at hu;rcases hu with rfl | rfl | rfl | rfl | rfl<;>rfl));have fP:Hid (∀ g,(Value.slice A8 l.length c8).ownBlock=some g→B+2≤g):=hid fun g hg=>(gX.out.lt g hg).1;have y1:=gB.out.cell 1;simp only [List.getElem?_cons_succ,List.getElem?_cons_zero] at y1;have y1':=(gB.out.alloc (.cells [.string x,.int .i64 n.kind,.int .i64 (n.made:Int),.string qn,.slice none 0 0].toArray 75)).cell 1;simp only [List.getElem?_cons_succ,List.getElem?_cons_zero] at y1';have e0:=fD.out.cell 0;have e1:=fD.out.cell 1;have e2:=fD.out.cell 2;have e3:=fD.out.cell 3;have e4:=fD.out.cell 4;simp only [List.getElem?_cons_succ,List.getElem?_cons_zero] at e0 e1 e2 e3 e4;clear fZ;go_upto_region 14 with (fail)
      go_region_law (refine zBw _ (by rfl) (.tmp 81) (.tmp 83) _ _ (by rfl) (B+2) 75 iN _ 5 72 Tryz.underlying31 jV gH gI gJ rfl (.slice A8 l.length c8) l.length (ncs l) (by rfl) ((gX.out.alloc _).drew) 1 [.string x,.int .i64 n.kind,.int .i64 (n.made:Int),.string qn,.slice none 0 0] fO.out (by unfold maxLen;omega) (by omega) (by have:=jZ.out;simp;omega) ?_;intro v4 w4 fJ fQ fC;have fR:=(((gB.out.alloc _).drew).law fQ (fun e=>by have:=fP.out _ e;omega));obtain⟨A9,c9,gU,-⟩:=Sees.of_own (B:=w4.heap.size) fJ fun g hg=>(fJ.lt g hg).2;subst gU;have y4:=fR.cell 1;have f4:=fR.frozen 1;simp only [List.getElem?_cons_succ,List.getElem?_cons_zero] at y4)
      all_goals
       have fE:DmpAt p w0 (w4.setCell ⟨B+1,1,none⟩ (.slice A9 (l.length+1) c9)) (.slice A9 (l.length+1) c9) (l++[⟨x,n.kind,n.made,qn,none,0,[]⟩]) (T.step s (ns,j))∧GrD B w2 (.slice A8 l.length c8) (w4.setCell ⟨B+1,1,none⟩ (.slice A9 (l.length+1) c9)) (.slice A9 (l.length+1) c9):=by
        rw [gM.out];refine fM.out.push fB.out (W1:=(wa.alloc (.cells [.string x,.int .i64 n.kind,.int .i64 (n.made:Int),.string qn,.slice none 0 0].toArray 75)).drew) ((gW.out.alloc _).drew) (World.ownsRow_nil _ _ _ _) fJ fQ fC ?_ rfl fA.out fG.out;exact (jJ.out.chg ((Chg.refl (fun _=>False) wa).alloc _) id).chg ((Chg.refl (fun _=>False) _).drew) id
       obtain⟨fE,gA⟩:=fE;have h2:=jS.out;rw [fB.out] at h2;have gN:=hid fE;have fS:=hid (h2.trans gA);clear fR y4 f4 fJ fQ fC fE gA h2;generalize w4.setCell ⟨B+1,1,none⟩ (.slice A9 (l.length+1) c9)=w5 at *;go_wp2;go_ret;rw [jH.out];exact⟨rfl,_,_,gN.out,by rw [fB.out];exact fS.out⟩
     | none =>
      rw [gV] at lk lk2;simp only [orV] at lk lk2;go_upto_region 8 with (fail)
      go_region
      go_upto_region 9 with (fail);have fU:Chg (fun b=>b=q) w3 (w3.setCell ⟨q,3,none⟩ (.string ⟨#[]⟩)).drew:=((Chg.refl (fun b=>b=q) w3).setCell (p:=⟨q,3,none⟩) (fun _=>rfl) (.string ⟨#[]⟩)).drew;have gL:Blk (w3.setCell ⟨q,3,none⟩ (.string ⟨#[]⟩)).drew q 75 [.string x,.int .i64 n.kind,.int .i64 (n.made:Int),.string ⟨#[]⟩,.slice none 0 0]:=(gE.out.set_ 3 (.string ⟨#[]⟩)).drew;have gB:=hid (fN.out.chg fU (by omega));have jK:=hid (gF.out.chg fU (by omega));have jJ:=fF.chg fU (by omega);have gW:Hid (Chg (fun b=>b=B) w2 (w3.setCell ⟨q,3,none⟩ (.string ⟨#[]⟩)).drew):=hid ((Chg.of_fresh (by rw [fY];exact gG.out)).trans fU (fun _ _ h=>h) (fun b hb e=>by rw [fY] at hb;omega));have fD:=hid gL;have e3a:(w3.setCell ⟨q,3,none⟩ (.string ⟨#[]⟩)).drew.cell? ⟨q,3,none⟩=some (.string ⟨#[]⟩):=gL.cell 3;clear lk lk2 fF jY fU e0 e1 e2 e3 e4 z1 z4 y2 f3 gL;generalize (w3.setCell ⟨q,3,none⟩ (.string ⟨#[]⟩)).drew=wa at *;have z1:=jK.out.cell 1;have z4:=jK.out.cell 4;simp only [zAh,List.getElem?_cons_succ,List.getElem?_cons_zero] at z1 z4;have y2:=gB.out.cell 2;simp only [List.getElem?_cons_succ,List.getElem?_cons_zero] at y2;have kP:(⟨#[]⟩:ByteArray).toList.isEmpty=true:=zCd rfl
      have lF:s.first.length<maxLen:=by have:=fH.out.flen;unfold maxLen;omega
      obtain⟨wm,gY,kQ,kR⟩:=(jJ.chg ((Chg.refl (fun _=>False) wa).drew) id:zAy wa.drew zAG Value.string 3 B s.first).store (t:=87) zDW Tryz.underlying87 lF (a:=j) (v:=x) (zHv j (by omega));simp only [zAG] at gY;have jL:=hid (zAT kR);have kA:=hid kQ;clear kR kQ jJ;go_upto_region 10 with (fail)
      go_region
      go_upto_region 11 with (fail);have kS:=hid (gW.out.trans ((Chg.refl (fun _=>False) wa).drew) (fun _ _ h=>h) (fun _ _ h=>h.elim) |>.trans jL.out (fun _ _ h=>h) (fun _ _ h=>h));have kT:=hid (gB.out.drew.chg jL.out (by omega));have kU:=hid (fD.out.drew.chg jL.out (by omega));have lG:=hid (jK.out.drew.chg jL.out lA.out);have kV:Below w0.heap.size w0 wm:=fM.out.below.trans (kS.out.below (by have:=fM.out.wk.lt;omega) fun b hb e=>by rw [fB.out] at hb;omega);have gZ:=dread_any own lay p mb T x ns j n m0 (B+1) (.slice A8 l.length c8) (.map (some B)) wm (h0.fresh kV) hT (by rw [←hx];exact kI) hw hg (by simpa using hd) (by rw [←hx];omega) ((kV.cell (p:=⟨0,0,none⟩) (World.block_lt_of_cell? _ _ hm)).trans hm) kT.out;clear z1 z4 y2 e3a kP gY gB fD jK gW;have z4:=lG.out.cell 4;simp only [zAh,List.getElem?_cons_succ,List.getElem?_cons_zero] at z4;obtain⟨dd,kC⟩:∃ dd,rdL n.data 0 n.size=dd:=⟨_,rfl⟩;have jM:=zAD n.data 0 n.size;unfold RdP at gZ;rw [kC] at jM gZ;obtain⟨dl,gO⟩:∃ dl,n.size=dl:=⟨_,rfl⟩;rw [gO] at jM gZ z4;have kD:=hid kC;have jA:=hid jM;have gC:=hid gO;clear kC jM gO
      go_upto_region 12 with (first
       | (go_at_call 87;refine gZ.mono ?_;rintro e w5 ⟨v5,rfl,jN,kE⟩;obtain⟨A5,c5,lH,-⟩:=Sees.of_own (B:=w5.heap.size) jN fun g hg=>(jN.lt g hg).2;subst lH;have jO:=kU.out.fresh kE;have y5:=jO.cell 4;have f5:=jO.frozen 4;simp only [List.getElem?_cons_succ,List.getElem?_cons_zero] at y5;have jB:=hid jN;have gP:=hid kE;have kF:=hid jO;clear jN kE jO))
      have jC:Chg (fun b=>b=q) w5 (w5.setCell ⟨q,4,none⟩ (.slice A5 dl c5)):=(Chg.refl (fun b=>b=q) w5).setCell (p:=⟨q,4,none⟩) (fun _=>rfl) (.slice A5 dl c5);have lI:q<wm.heap.size:=kU.out.lt;have fT:Hid (Blk (w5.setCell ⟨q,4,none⟩ (.slice A5 dl c5)) q 75 [.string x,.int .i64 n.kind,.int .i64 (n.made:Int),.string ⟨#[]⟩,.slice A5 dl c5]):=hid (kF.out.set_ 4 (.slice A5 dl c5));have jP:=hid ((kT.out.fresh gP.out).chg jC (by omega));have kW:Hid (Chg (fun b=>b=B) w2 (w5.setCell ⟨q,4,none⟩ (.slice A5 dl c5))):=hid ((kS.out.trans (Chg.of_fresh gP.out) (fun _ _ h=>h) (fun _ _ h=>h)).trans jC (fun _ _ h=>h) (fun b hb e=>by rw [fY] at hb;omega));have kG:=hid ((kA.out.chg (Chg.of_fresh (S:=fun _=>False) gP.out) id).chg jC (by omega))
      have jD:Hid ((w5.setCell ⟨q,4,none⟩ (.slice A5 dl c5)).ownsRow w2.heap.size 5 1 (ndV ⟨x,n.kind,n.made,⟨#[]⟩,A5,c5,dd⟩) dd.length (bvs dd)):=hid (by
       have h9:=zAo jB.out jC fun g hg e=>by have:=(jB.out.lt g hg).1;omega
       have h8:=zBT (base':=w2.heap.size) h9 (fun g hg=>by have:=(h9.lt g hg).1;rw [fY];omega);unfold ndV;simp only;rw [jA.out];exact h8)
      clear y5 f5 z4 jC gZ;generalize w5.setCell ⟨q,4,none⟩ (.slice A5 dl c5)=wd at *
      have kX:x≠emp:=by rw [←hx];exact zFq ns
      have gM:Hid (T.step s (ns,j)=⟨s.nodes++[⟨x,n.kind,n.made,⟨#[]⟩,dd⟩],zBa zAG j x s.first⟩):=hid (by
       unfold PT.step;rw [if_neg (by rw [fV];exact hd),gV,zAp hg,hx,kN.out,gC.out,←gC.out,kD.out];rfl)
      have fA:Hid (∀ i q,zAd i (zBa zAG j x s.first)=some q→q≠emp):=hid fun i q' e=>by
       by_cases h:i=j
       · subst h;rw [zAu] at e;injection e with e;rw [←e];exact kX
       · rw [zAl zAG x h] at e;exact fH.out.fne i q' e
      have fG:Hid ((zBa zAG j x s.first).length≤s.first.length+1):=hid (zBM zAG j x s.first);clear kX
      have gX:Hid (wd.ownsRow (B+2) 75 5 (.slice A8 l.length c8) l.length (ncs l)):=hid (by
       have h9:=zAo fM.out.own.row kW.out fun g hg e=>by have h8:=(fM.out.own.row.lt g hg).1;rw [fB.out] at h8;omega
       rw [fB.out] at h9;exact h9)
      have jZ:Hid (B+1<wd.heap.size):=hid jP.out.lt;have fZ:Blk (wd.alloc (.cells [.string x,.int .i64 n.kind,.int .i64 (n.made:Int),.string ⟨#[]⟩,.slice A5 dl c5].toArray 75)).drew wd.heap.size 75 [.string x,.int .i64 n.kind,.int .i64 (n.made:Int),.string ⟨#[]⟩,.slice A5 dl c5]:=(Blk.new wd _ _).drew;have fO:=hid (zBP (P:=Tryz.prog) (tx:=31) Tryz.underlying31 fZ (by intro u hu;simp only [List.mem_cons,List.not_mem_nil,or_false] at hu;rcases hu with rfl | rfl | rfl | rfl | rfl<;>rfl));have fP:Hid (∀ g,(Value.slice A8 l.length c8).ownBlock=some g→B+2≤g):=hid fun g hg=>(gX.out.lt g hg).1;have y1:=jP.out.cell 1;simp only [List.getElem?_cons_succ,List.getElem?_cons_zero] at y1;have y1':=(jP.out.alloc (.cells [.string x,.int .i64 n.kind,.int .i64 (n.made:Int),.string ⟨#[]⟩,.slice A5 dl c5].toArray 75)).cell 1;simp only [List.getElem?_cons_succ,List.getElem?_cons_zero] at y1';have e0:=fT.out.cell 0;have e1:=fT.out.cell 1;have e2:=fT.out.cell 2;have e3:=fT.out.cell 3;have e4:=fT.out.cell 4;simp only [List.getElem?_cons_succ,List.getElem?_cons_zero] at e0 e1 e2 e3 e4;clear fZ;go_upto_region 14 with (fail)
      go_region_law (refine zBw _ (by rfl) (.tmp 81) (.tmp 83) _ _ (by rfl) (B+2) 75 iN _ 5 72 Tryz.underlying31 jV gH gI gJ rfl (.slice A8 l.length c8) l.length (ncs l) (by rfl) ((gX.out.alloc _).drew) 1 [.string x,.int .i64 n.kind,.int .i64 (n.made:Int),.string ⟨#[]⟩,.slice A5 dl c5] fO.out (by unfold maxLen;omega) (by omega) (by have:=jZ.out;simp;omega) ?_;intro v4 w4 fJ fQ fC;have fR:=(((jP.out.alloc _).drew).law fQ (fun e=>by have:=fP.out _ e;omega));obtain⟨A9,c9,gU,-⟩:=Sees.of_own (B:=w4.heap.size) fJ fun g hg=>(fJ.lt g hg).2;subst gU;have y4:=fR.cell 1;have f4:=fR.frozen 1;simp only [List.getElem?_cons_succ,List.getElem?_cons_zero] at y4)
      all_goals
       have fE:DmpAt p w0 (w4.setCell ⟨B+1,1,none⟩ (.slice A9 (l.length+1) c9)) (.slice A9 (l.length+1) c9) (l++[⟨x,n.kind,n.made,⟨#[]⟩,A5,c5,dd⟩]) (T.step s (ns,j))∧GrD B w2 (.slice A8 l.length c8) (w4.setCell ⟨B+1,1,none⟩ (.slice A9 (l.length+1) c9)) (.slice A9 (l.length+1) c9):=by
        rw [gM.out];refine fM.out.push fB.out (W1:=(wd.alloc (.cells [.string x,.int .i64 n.kind,.int .i64 (n.made:Int),.string ⟨#[]⟩,.slice A5 dl c5].toArray 75)).drew) ((kW.out.alloc _).drew) ((jD.out.alloc _).drew) (by have h9:=fJ;rw [←jA.out] at h9;exact h9) fQ fC ?_ rfl fA.out fG.out;exact (kG.out.chg ((Chg.refl (fun _=>False) wd).alloc _) id).chg ((Chg.refl (fun _=>False) _).drew) id
       obtain⟨fE,gA⟩:=fE;have h2:=jS.out;rw [fB.out] at h2;have gN:=hid fE;have fS:=hid (h2.trans gA);clear fR y4 f4 fJ fQ fC fE gA h2;generalize w4.setCell ⟨B+1,1,none⟩ (.slice A9 (l.length+1) c9)=w5 at *;go_wp2;go_ret;rw [jH.out];exact⟨rfl,_,_,gN.out,by rw [fB.out];exact fS.out⟩
end Go.Proofs.YtolpcfhfcdkokaaGreatDoor
