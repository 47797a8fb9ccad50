/- Joined out of PList..PTrunc. -/
import Derived.Test.YtolpcfhfcdkokaaGreatDoorQ16
set_option maxHeartbeats 16000000
set_option maxRecDepth 100000
namespace Go.Proofs.YtolpcfhfcdkokaaGreatDoor
open Lib (hid)
open Go.RowKit Go.Proofs
open Go.Maps (Keyed)
def PT.list (T:PT) (i:Nat):Ans:=if T.isDir i=true then ⟨0,st0,[],(T.node i).names.map fun p=>(p.1,p.2,(T.node p.2).kind)⟩ else .err 113
def zBO (w:World) (v:Value) (a:Ans):Prop:=∃ dA dc eA ec,v=.agg (zAh a.code a.stat (.slice dA a.data.length dc) (.slice eA a.ents.length ec)).toArray∧Sees w w.heap.size 1 dA a.data.length (bvs a.data)∧Sees w w.heap.size 3 eA a.ents.length (a.ents.flatMap zBq)
def EntF (B0:Nat) (v:Value):Prop:=∀ c s A1 n1 c1 b off n2 c2,v=.agg (zAh c s (.slice A1 n1 c1) (.slice (some ⟨b,off,none⟩) n2 c2)).toArray→0<n2→B0≤b
theorem EntF.mono {B0 B1:Nat} {v:Value} (h:EntF B0 v) (hb:B1≤B0):EntF B1 v:=fun c s A1 n1 c1 b off n2 c2 e hn=>Nat.le_trans hb (h c s A1 n1 c1 b off n2 c2 e hn)
theorem zGf {B0:Nat} {c:Nat} {s:St} {A1:Option Addr} {n1 c1:Nat} {eA:Option Addr} {n2 c2:Nat} (h:∀ b off,eA=some ⟨b,off,none⟩→0<n2→B0≤b):EntF B0 (.agg (zAh c s (.slice A1 n1 c1) (.slice eA n2 c2)).toArray):=fun c' s' A1' n1' c1' b off n2' c2' e hn=>by
 simp only [zAh,Value.agg.injEq,Array.mk.injEq,List.cons.injEq,Value.slice.injEq] at e;obtain⟨-,-,-,-,-,-,-,-,⟨h1,h2,h3⟩,-⟩:=e;subst h2;exact h b off h1 hn
theorem zFi {B0:Nat} {w:World} {v:Value} {a:Ans} (h:zBO w v a) (h0:a.ents=[]):EntF B0 v:=by
 obtain⟨dA,dc,eA,ec,rfl,_,_⟩:=h;exact zGf fun b off _ hn=>by rw [h0] at hn;exact absurd hn (by simp)
theorem zBy (w:World) (a:Ans) (h1:a.data=[]) (h2:a.ents=[]):zBO w (ansV a) a:=by
 refine⟨none,0,none,0,?_,?_,?_⟩
 · unfold ansV;rw [h1,h2];rfl
 · rw [h1];exact Sees.nil
 · rw [h2];exact Sees.nil
theorem zAv (c:Nat) (s:St) (A1:Option Addr) (n1 c1:Nat) (A2:Option Addr) (n2 c2:Nat):(zAh c s (.slice A1 n1 c1) (.slice A2 n2 c2)).toArray.all (·.oneCell')=true:=by
 rw [Array.all_eq_true_iff_forall_mem];intro v hv
 have hv:v∈zAh c s (.slice A1 n1 c1) (.slice A2 n2 c2):=by simpa using hv
 simp only [zAh,List.mem_cons,List.not_mem_nil,or_false] at hv;rcases hv with rfl | rfl | rfl | rfl | rfl | rfl | rfl | rfl | rfl | rfl<;>rfl
theorem zDY:(Tryz.prog.info? 130).map (·.size)=some 3:=by kernel_rfl
theorem zEnt:((Tryz.prog.info? 130).bind (·.zero)).map (·.cells.size)=some 3:=by kernel_rfl
theorem zIJ:(Tryz.prog.info? 130).map (fun i=>(i.zero,i.size,i.bytes))=some (some (.agg #[.string ⟨#[]⟩,.int .i64 0,.int .i64 0]),3,32):=by kernel_rfl
structure Coll (T:PT) (n:PN) (l:List Ent) (todo:ByteArray→Bool):Prop where
 mem:∀ x,x∈l.map (·.1)↔(zAd x n.names).isSome=true∧todo x=false
 nd:(l.map (·.1)).Nodup
 ent:∀ e∈l,zAd e.1 n.names=some e.2.1∧e.2.2=(T.node e.2.1).kind
theorem Coll.len {T:PT} {n:PN} {l:List Ent} {todo:ByteArray→Bool} (h:Coll T n l todo):l.length≤n.names.length:=by
 have e1:(l.map (·.1)).length=l.length:=List.length_map _;have e2:(n.names.map (·.1)).length=n.names.length:=List.length_map _;rw [←e1,←e2];exact zAC h.nd fun x hx=>zDJ.2 ((h.mem x).1 hx).1
theorem Coll.snoc {T:PT} {n:PN} {l:List Ent} {todo:ByteArray→Bool} (h:Coll T n l todo) {x:ByteArray} {j:Nat} (hx:todo x=true) (hj:zAd x n.names=some j) :
 Coll T n (l++[(x,j,(T.node j).kind)]) (fun y=>todo y && decide (y≠x)):=by
 refine⟨fun y=>?_,?_,fun e he=>?_⟩
 · rw [List.map_append,List.mem_append,h.mem];simp only [List.map_cons,List.map_nil,List.mem_singleton];by_cases e:y=x
   · subst e;rw [hj];simp
   · simp [e]
 · rw [List.map_append,List.nodup_append];refine⟨h.nd,by simp,fun a ha b hb=>?_⟩;simp only [List.map_cons,List.map_nil,List.mem_singleton] at hb;subst hb;rintro rfl;have:=((h.mem a).1 ha).2;rw [hx] at this;cases this
 · rcases List.mem_append.1 he with he | he
   · exact h.ent e he
   · rw [List.mem_singleton] at he;subst he;exact⟨hj,rfl⟩
theorem Coll.sorted {T:PT} {n:PN} (hr:zBs zA6 n.names) {l l':List Ent} {todo:ByteArray→Bool} (h:Coll T n l todo) (h0:∀ x,todo x=false) (hp:l'.Perm l) (hs:l'.Pairwise fun x y=>zA6.lt y.1 x.1=false) :
 l'=n.names.map fun p=>(p.1,p.2,(T.node p.2).kind):=by
 have fC:(l'.map (·.1)).Nodup:=(hp.map (·.1)).symm.nodup h.nd
 have fA:zBs zA6 l':=by
  unfold zBs;rw [List.Nodup,List.pairwise_map] at fC;refine (hs.and fC).imp fun {a b} fD=>?_;rcases zEw a.1 b.1 fD.2 with h' | h'
  · exact h'
  · rw [fD.1] at h';cases h'
 have fB:zBs zA6 (n.names.map fun p=>(p.1,p.2,(T.node p.2).kind)):=by
  unfold zBs at hr ⊢;rw [List.pairwise_map];exact hr
 refine zBs.ext zA6 fA fB fun x=>?_;have e2:zAd x (n.names.map fun p=>(p.1,p.2,(T.node p.2).kind))=(zAd x n.names).map fun j=>(j,(T.node j).kind):=zDC (fun _ (j:Nat)=>(j,(T.node j).kind)) x n.names;rw [e2]
 cases hg:zAd x n.names with
 | none =>
  refine zA9.2 fun p fE e=>?_;have:=(h.ent p (hp.mem_iff.1 fE)).1;rw [e,hg] at this;cases this
 | some j =>
  have hx:x∈l.map (·.1):=(h.mem x).2 ⟨by rw [hg];rfl,h0 x⟩;obtain⟨e,he,rfl⟩:=List.mem_map.1 hx;have h1:=h.ent e he;rw [hg] at h1;have h2:=zA0 fA.nd (hp.mem_iff.2 he);rw [h2];have h3:=Option.some.inj h1.1;simp only [Option.map_some];rw [h3,←h1.2]
theorem zGu (own:Nat→Option Role) (lay:Nat→NA) (p mb i:Nat) (T:PT) (n:PN) (w:World) (h:PlainAt w own lay p mb T) (hT:T.Wf) (hg:zAd i T.nodes=some n) :
 Calls Tryz.prog 105 #[.pointer (some ⟨p,0,none⟩),.int .i64 (i:Int)] w fun e w'=>(∃ v,e=.returned v∧zBO w' v (T.list i)∧EntF w.heap.size v)∧Below w.heap.size w w':=by
 have gA:Below w.heap.size w (w.alloc (.cells zAs.toArray 67)):=(Below.refl _ _).alloc (Nat.le_refl _) _;have fC:=h.fresh gA;have fM:=Blk.new w 67 zAs;have fU:=hT.ok.get hg;have kG:=hT.ok.ino
 have hu:T.list i=if n.dir=true then ⟨0,st0,[],n.names.map fun p=>(p.1,p.2,(T.node p.2).kind)⟩ else .err 113:=by unfold PT.list;rw [zAn hg,zAp hg]
 have gY:=hid hT;have fV:=hid hg;have fN:=hid fU.1
 have gZ:i≤512:=by omega
 have kI:=Nat.le_trans fU.1.nlen fU.1.slots;clear hT h fU;go_enter Tryz.func105,Tryz.ntmps105;go_upto_region 1 with (fail)
 replace fM:Blk (w.alloc (.cells zAs.toArray 67)) w.heap.size 67 zAs:=fM
 have fD:(w.alloc (.cells zAs.toArray 67)).heap.size=w.heap.size+1:=by simp
 generalize w.alloc (.cells zAs.toArray 67)=w0 at *;generalize jA:w.heap.size=g at *;have fE:=hid jA;have c2:=fC.c2;have kJ:=fC.lookI hg (by omega);have k0:=(fC.get hg).c0;have gB:=hid gA;have jN:=hid fC;clear jA hg gA
 cases hd:n.dir with
 | false =>
  rw [hd,if_neg (by simp)] at hu;rw [zAz hd] at k0;have fW:=hid hu;clear hu hd fC;go_wp2_with (first | (refine wpList_store_row rfl 67 (.tmp 4) (.tmp 20) rfl g (zAh 113 st0 zAg zAg).toArray rfl (by rfl) 67 _ fM rfl rfl (zBj _ _) ?_));have fA:=setRow_heap w0 g _ (zAh 113 st0 zAg zAg).toArray _ _ fM;refine bodyPost_ret (results_cell_row rfl _ _ g 67 (zAh 113 st0 zAg zAg).toArray (0,0) _ rfl fA Tryz.underlying67 rfl rfl) rfl ⟨⟨_,rfl,?_,zGf fun _ _ e _=>by cases e⟩,?_⟩
  · rw [fW.out];exact zBy _ (.err 113) rfl rfl
  · rw [fE.out];exact gB.out.trans (((Chg.refl (fun b=>b=g) w0).setRow (fun _=>rfl) _).below (by omega) fun b hb e=>by omega)
 | true =>
  rw [hd,if_pos rfl] at hu;rw [zA1 hd] at k0;obtain⟨nb,jB⟩:=(fC.get fV.out).dirs hd;have k6:=(fC.get fV.out).c6;have hm:=(fC.get fV.out).names;rw [jB] at k6 hm;have fI:zAy w0 zA6 zAW 9 nb n.names:=hm;have fW:=hid hu;obtain⟨iE,jO,gC,gD,gE⟩:=info_parts zIJ;clear hu hd fC hm jB
  go_wp2_with (first
   | (at_range;refine zBK _ rfl _ 101 rfl kStr Tryz.underlying101 fI rfl ?_;intro w1 gF gG jC))
  go_frame
  rw [fD] at gG gF jC;simp only [fD];have gH:=fI.lt;rw [fD] at gH;clear fI
  go_loopw [6,7,8] (fun v _ _ wr=>∃ (l:List Ent) (todo:ByteArray→Bool),zAQ wr zA6 zAW 9 nb (g+1) n.names.length n.names todo∧Below (g+1) w0 wr∧wr.ownsRow (g+2) 130 3 v l.length (l.flatMap zBq)∧Hid (Coll T n l todo)∧Hid (l=[]→v=zAg)) (fun _ _ _ wr=>wr.rangeLeft nb (g+1))
  case atStart=>exact⟨[],_,gF,gG,World.ownsRow_nil _ _ _ _,⟨fun x=>by cases zAd x n.names<;>simp,List.nodup_nil,fun e he=>by cases he⟩,fun _=>rfl⟩
  case round =>
   obtain⟨l,todo,hr,hb,ho,hc,fJ⟩:=hrel;clear gF gG jC
   go_wp2_with (first
    | (at_next;refine zBX _ rfl _ rfl kStr invS rfl hr ?_ ?_))
   · intro h0;have jD:=hid h0;have fB:=hid hb;have fX:=hid ho;have gI:=fM.chg (Chg.of_below hb) (by omega);have gJ:=hc.out.len;clear h0 hb hr ho
     cases l with
     | nil =>
      have hv:=fJ.out rfl;subst hv;have fO:n.names.map (fun p=>(p.1,p.2,(T.node p.2).kind))=[]:=(hc.out.sorted (l':=[]) fN.out.nris jD.out (List.Perm.refl _) List.Pairwise.nil).symm;have fY:=sort_none 0 wr;have jP:=hid fO;clear fO gJ
      go_wp2_with (first
       | (go_at_call 130;refine fY.mono ?_;rintro e w' ⟨rfl,hw⟩;subst hw)
       | (refine wpList_store_row rfl 67 (.tmp 4) (.tmp 49) rfl g (zAh 0 st0 zAg zAg).toArray rfl (by rfl) 67 _ gI rfl rfl (zBj _ _) ?_))
      have fA:=setRow_heap w' g _ (zAh 0 st0 zAg zAg).toArray _ _ gI;refine bodyPost_ret (results_cell_row rfl _ _ g 67 (zAh 0 st0 zAg zAg).toArray (0,0) _ rfl fA Tryz.underlying67 rfl rfl) rfl ⟨⟨_,rfl,?_,zGf fun _ _ e _=>by cases e⟩,?_⟩
      · rw [fW.out,jP.out];exact zBy _ ⟨0,st0,[],[]⟩ rfl rfl
      · rw [fE.out];exact (gB.out.trans (fB.out.mono (by omega))).trans (((Chg.refl (fun b=>b=g) w').setRow (fun _=>rfl) _).below (by have:=fB.out.size;omega) fun b hb e=>by omega)
     | cons e0 l0 =>
      obtain⟨g1,c1,rfl,gK,jQ⟩:=zEv fX.out (by simp);have jR:=(World.ownsRow.lt fX.out g1 rfl).1;have fY:=sort_any (g+2) g1 c1 (e0::l0) wr fX.out (by omega)
      have gL:(e0::l0).length≤1068:=by omega
      have jS:=hid hc.out;clear hc fJ fX gJ;generalize jT:e0::l0=l at *;clear jT;obtain⟨nl,fK⟩:∃ nl,l.length=nl:=⟨_,rfl⟩;have jU:=hid fK;rw [fK] at fY gL gK ⊢;clear fK
      go_wp2_with (first
       | (go_at_call 130;refine fY.mono ?_;rintro e w3 ⟨rfl,gM⟩;obtain⟨l',hp,hs,fP,fL⟩:=gM;have jE:=gI.chg fL (by omega);have fQ:=hid (jS.out.sorted fN.out.nris jD.out hp hs);have fR:=hid fL;have fG:=hid fP;clear hp hs fP fL)
       | (refine wpList_store_row rfl 67 (.tmp 4) (.tmp 49) rfl g (zAh 0 st0 zAg (.slice (some ⟨g1,0,none⟩) nl c1)).toArray rfl (by rfl) 67 _ jE rfl rfl (zAv 0 st0 none 0 0 _ _ _) ?_))
      have fA:=setRow_heap w3 g _ (zAh 0 st0 zAg (.slice (some ⟨g1,0,none⟩) nl c1)).toArray _ _ jE;have gN:Chg (fun b=>b=g) w3 (w3.setRow g (zAh 0 st0 zAg (.slice (some ⟨g1,0,none⟩) nl c1)).toArray):=(Chg.refl (fun b=>b=g) w3).setRow (fun _=>rfl) _;refine bodyPost_ret (results_cell_row rfl _ _ g 67 (zAh 0 st0 zAg (.slice (some ⟨g1,0,none⟩) nl c1)).toArray (0,0) _ rfl fA Tryz.underlying67 rfl rfl) rfl ⟨⟨_,rfl,?_,zGf fun b off e _=>by have e1:=Option.some.inj e;injection e1 with e1 _;have:=fE.out;omega⟩,?_⟩
      · rw [fW.out]
        have gO:nl=(n.names.map (fun p=>(p.1,p.2,(T.node p.2).kind))).length:=by
         rw [←fQ.out];have:=fG.out.len;rw [zEl zBq 3 _ (fun _ _=>rfl)] at this;omega
        refine⟨none,0,some ⟨g1,0,none⟩,c1,by rw [gO];rfl,Sees.nil,?_⟩
        show Sees _ _ 3 _ (n.names.map (fun p=>(p.1,p.2,(T.node p.2).kind))).length ((n.names.map (fun p=>(p.1,p.2,(T.node p.2).kind))).flatMap zBq)
        rw [←fQ.out] at gO ⊢;rw [←gO];have jF:=fG.out;refine⟨jF.len,fun hn=>?_⟩;obtain⟨b,off,e,hb,jV⟩:=jF.at_ hn
        obtain⟨rfl,rfl⟩:g1=b∧0=off:=by
         have e:=Option.some.inj e;injection e with e1 e2;exact⟨e1,e2⟩
        exact⟨g1,0,rfl,by have:=gN.size;omega,fun j u hu=>(gN.cell (p:=⟨g1,0+j,none⟩) hb (by show ¬g1=g;omega)).trans (jV j u hu)⟩
      · rw [fE.out];exact ((gB.out.trans (fB.out.mono (by omega))).trans (fR.out.below (by have:=fB.out.size;omega) fun b hb e=>by omega)).trans (gN.below (by have:=fB.out.size;have:=fR.out.size;omega) fun b hb e=>by omega)
   · intro nm k w2 jG gP jH jI jJ kK jK jW;obtain⟨nk,fS⟩:=gY.out.ents i n nm k fV.out gP;have gQ:=gY.out.ok.get fS
     have jL:k≤512:=by omega
     have gR:=hb.trans (jJ.below (show g+1≤wr.heap.size by have:=hr.lt;omega) fun b hb h=>by omega);have fZ:=jN.out.fresh (by rw [fD];exact gR);have d2:=fZ.c2;have jX:=fZ.lookI fS (by omega);have kk0:=(fZ.get fS).c0
     have fH:nk.kind=(T.node k).kind:=by rw [zAp fS]
     have jM:=zAo ho jJ (fun g' e h=>by have:=(World.ownsRow.lt ho g' e).1;omega);have gJ:=hc.out.len;have fF:=hid jH;have gS:=hid (hc.out.snoc jG gP);have gT:=hid jI;have gU:=hid gR;have jY:=hr.lt;rw [fH] at kk0;have jZ:True:=trivial;clear jG gP jH jI hr gR fZ fS gQ fH hc fJ ho hb;have kA:(Instr.entry (.pointer (some ⟨g+1,0,none⟩))).run Tryz.prog w2=.ok (.tuple #[.string nm,.int .i64 (k:Int)]) w2:=jK;clear jK;obtain⟨kd,gV⟩:∃ kd,(T.node k).kind=kd:=⟨_,rfl⟩;rw [gV] at kk0;have gW:=hid gV;clear gV
     go_wp2_with (first
      | (refine zAq rfl 65 130 (.tmp 43) rfl (zBq (nm,k,kd)).toArray (by rfl) 3 Tryz.underlying65 zDY zEnt rfl (by omega) (by omega) ?_)
      | (at_builtin;refine zAk _ rfl (.tmp 31) (.tmp 44) _ _ rfl (g+2) 130 iE (.agg #[.string ⟨#[]⟩,.int .i64 0,.int .i64 0]) 3 32 Tryz.underlying65 jO gC gD gE rfl u6 l.length (l.flatMap zBq) rfl (jM.alloc _) 1 (zBq (nm,k,kd)) (zBP (P:=Tryz.prog) Tryz.underlying65 (Blk.new w2 130 (zBq (nm,k,kd))) (zCL _)) (by unfold maxLen;omega) (by omega) (by simp;omega) ?_;intro v1 w3 kC kD kE))
     have fL:Chg (fun b=>g+2≤b) w2 w3:=((Chg.refl (fun b=>g+2≤b) w2).alloc _).grown kD (fun g' e _=>(World.ownsRow.lt jM g' e).1);have kF:=fF.out.chg fL (by omega) (by omega);have fT:=zBn (b:=nb) (r:=g+1) fL fF.out.owns.lt fF.out.lt (by omega) (by omega);have gX:=hid (show w3.rangeLeft nb (g+1)<wr.rangeLeft nb (g+1) by rw [fT];exact gT.out);clear fT;go_roundw
     case rel =>
      refine⟨l++[(nm,k,kd)],_,kF,gU.out.trans (fL.below (by have:=fF.out.lt;omega) fun b hb h=>by omega),?_,?_,?_⟩
      · rw [List.length_append,List.flatMap_append];simpa using kC
      · rw [←gW.out];have h2:=gS.out;simp only [ne_eq,decide_not] at h2;exact h2
      · intro e;simp at e
     case measure=>exact gX.out
section
variable {P:Program}
theorem zEg {ops:Array Oper} {o:Oper} {a:Act} {w:World} {rest:List Oper} {Q:Act→Prop} (fB:o.guard=none) (ty:TypeId) (x:Operand) (ho:o.op=.load ty x)
 (g:Nat) (hx:a.eval x=.pointer (some ⟨g,0,none⟩)) (cs:Array Value) (fA:(loadVar ty ⟨g,0,none⟩).run P w=.ok (.agg cs) w)
 (h:wpStill P ops w Q rest (a.put o.dst (.agg cs))):wpStill P ops w Q (o::rest) a:=by
 have hw:Region.wanted o (yielded ops a.tmps)=true:=by simp [Region.wanted,fB]
 unfold wpStill;rw [if_pos hw];unfold Oper.still execOp;simp only [ho,hx,Instr.loadAt,Instr.sureAddr,Sem.run_bind,Sem.run_pure,Result.andThen_ok,fA];exact⟨rfl,h⟩
theorem zFW {w:World} {ops:Array Oper} {rest:List Oper} {o:Oper} {a:Act} {Q:Exit→Act→World→Prop} (fD:o.guard=none) (x:Operand) (t elem:TypeId)
 (ho:o.op=.call {callee:=.builtin .clear,args:=#[x],argTypes:=#[t]}) (hu:P.underlying t=some (.slice elem)) (hz:(zeroValue elem).run P w=.ok (Value.int .u8 0) w)
 (g off n c:Nat) (hx:a.eval x=.slice (some ⟨g,off,none⟩) n c) (hn:0<n) (tt:TypeId) (cur:List Value) (hg:Blk w g tt cur) (fB:off+n≤cur.length)
 (h:wpList P ops Q rest (a.put o.dst (.tuple #[])) (w.setRow g (cur.take off++List.replicate n (Value.int .u8 0)++cur.drop (off+n)).toArray)):wpList P ops Q (o::rest) a w:=by
 refine wpList_plain fD fun K' fE=>?_
 have fF:(Builtin.zeroCells (Value.int .u8 0).cells n).toList=List.replicate n (Value.int .u8 0):=by
  apply List.ext_getElem
  · simp [Builtin.zeroCells,Value.cells]
  · intro i h1 h2;have hc:(Value.int .u8 0).cells=#[Value.int .u8 0]:=rfl;simp [Builtin.zeroCells,hc,Nat.mod_one]
 have fC:=run_storeCells_at (P:=P) g off tt (List.replicate n (Value.int .u8 0)) 0 cur.toArray w hg (by simpa using fB) (fun v hv=>by rw [List.eq_of_mem_replicate hv];rfl);simp only [Nat.add_zero,List.length_replicate] at fC
 have fA:(Builtin.clear_ #[t] o.type #[.slice (some ⟨g,off,none⟩) n c]).run P w=.ok (.tuple #[]) (w.setRow g (cur.take off++List.replicate n (Value.int .u8 0)++cur.drop (off+n)).toArray):=by
  obtain⟨m,rfl⟩:∃ m,n=m+1:=⟨n-1,by omega⟩;simp [Builtin.clear_,run_underlying hu,hz,fF,fC,Result.andThen]
 unfold Oper.wp;simp only [List.append_assoc] at fA h
 simp [execOp,ho,resolve,invoke,builtin,hx,fA,Result.andThen]
 exact fE _ _ h
end
theorem arrLen:Tryz.prog.arrayLen 187=128:=by kernel_rfl
theorem arrUnd:Tryz.prog.underlying 187=some (.array (Tryz.prog.arrayLen 187) (Tryz.prog.elem 187)):=by kernel_rfl
theorem arrSize (w:World):(sizeOf (Tryz.prog.elem 187)).run Tryz.prog w=.ok 1 w:=by kernel_rfl
theorem zEG (w:World) (z l:Nat) (L:Int) (h:L=(l:Int)) (hl:l<128):(Instr.sliceAt 187 (.pointer (some ⟨z,0,none⟩)) (some (.int .i64 L)) none none).run Tryz.prog w=.ok (.slice (some ⟨z,l,none⟩) (128-l) (128-l)) w:=by
 subst h;rw [run_sliceAt_array_l w 187 ⟨z,0,none⟩ arrUnd .i64 l (by omega) (by rw [arrLen];omega),arrSize,arrLen]
 have fA:¬(128:Nat)=l:=by omega
 simp [Result.andThen,slicedAt,fA,Addr.add_lit]
def zB1 (size k:Nat) (s:List UInt8):List UInt8:=s.take (size-k * 128)++List.replicate (128-(size-k * 128)) 0
def zHC (size k:Nat) (s:List UInt8):Option (List UInt8):=if size≤k * 128 then none else some (if size<k * 128+128 then zB1 size k s else s)
def zAI (size:Nat) (d:List (Nat×List UInt8)):List (Nat×List UInt8):=d.filterMap fun p=>(zHC size p.1 p.2).map fun s=>(p.1,s)
def PN.cut (n:PN) (size:Nat):PN:={n with data:=zAI size n.data,size:=size}
theorem ris_cut {size:Nat} {d:List (Nat×List UInt8)} (h:zBs zAG d):zBs zAG (zAI size d):=by
 unfold zBs zAI at *;rw [List.pairwise_filterMap];refine h.imp fun {a b} fA x hx y hy=>?_;rw [Option.map_eq_some_iff] at hx hy;obtain⟨_,_,rfl⟩:=hx;obtain⟨_,_,rfl⟩:=hy;exact fA
theorem get_cut {size:Nat} (k:Nat):∀ {d:List (Nat×List UInt8)},zBs zAG d→zAd k (zAI size d)=(zAd k d).bind (zHC size k)
 | [],_=>rfl
 | y::r,h=>by
  obtain⟨h1,h2⟩:=List.pairwise_cons.1 h;have ih:=get_cut (size:=size) k h2;unfold zAI at ih ⊢;simp only [List.filterMap_cons,zAd];by_cases e:y.1=k
  · subst e;rw [if_pos rfl];simp only [Option.bind_some]
    cases hc:zHC size y.1 y.2 with
    | some s=>simp [zAd]
    | none =>
     simp only [Option.map_none];rw [ih]
     have:zAd y.1 r=none:=zA9.2 fun p hp e=>by have:=h1 p hp;rw [e,zBQ] at this;cases this
     rw [this];rfl
  · rw [if_neg e]
    cases hc:zHC size y.1 y.2 with
    | some s =>
     simp only [Option.map_some,zAd];rw [if_neg e];exact ih
    | none=>exact ih
theorem cut_len (size k:Nat) (s:List UInt8) (h:s.length=128) (h1:k * 128<size) (h2:size<k * 128+128):(zB1 size k s).length=128:=by
 unfold zB1;rw [List.length_append,List.length_take,List.length_replicate];omega
theorem bvs_cut (size k:Nat) (s:List UInt8) (h:s.length=128) :
 bvs (zB1 size k s)=(bvs s).take (size-k * 128)++List.replicate (128-(size-k * 128)) (.int .u8 0)++(bvs s).drop (size-k * 128+(128-(size-k * 128))):=by
 rw [List.drop_eq_nil_of_le (by rw [zAe];omega),List.append_nil];simp [zB1,bvs,List.map_take]
theorem zJC (a:NA) (sz:Int) (w:World) (fC:sz<0∨136704<sz) (fA : -9223372036854775808≤sz∧sz≤9223372036854775807) :
 Calls Tryz.prog 107 #[zCq a.nb,.int .i64 sz] w fun e w'=>e=.returned (.int .i64 101)∧w=w':=by
 unfold zCq;go_enter Tryz.func107,Tryz.ntmps107;by_cases h0:sz<0
 · have fB:decide (sz<0)=true:=by simpa using h0
   go_wp2;go_ret;exact⟨rfl,rfl⟩
 · have fB:decide (sz<0)=false:=by simpa using h0
   have fD:decide (136704<sz)=true:=by simp;omega
   go_wp2;go_ret;exact⟨rfl,rfl⟩
theorem ptrunc_ok (own:Nat→Option Role) (i0:Nat) (a:NA) (n:PN) (db size:Nat) (w:World) (h:PnAt w a n) (ho:Owns own i0 a) (hn:n.Ok) (fL:a.d=some db) (jX:size≤136704) :
 Calls Tryz.prog 107 #[zCq a.nb,zAW size] w fun e w'=>e=.returned (.int .i64 0)∧PnAt w' a (n.cut size)∧Chg (Of own i0) w w':=by
 have c4:=h.c4;rw [fL] at c4;unfold zCq zAW;go_enter Tryz.func107,Tryz.ntmps107
 have kP:decide ((size:Int)<0)=false:=by simp
 have kQ:decide (136704<(size:Int))=false:=by simp;omega
 have hm:=h.data;rw [fL] at hm;have fC:zAy w zAG zB8 3 db n.data:=hm;have gI:=ho.apart;have fJ:=gI.1 db fL;have jY:=fC.lt;have fD:=h.blk.lt
 have jZ:n.data.length<maxLen:=by have:=hn.dlen;unfold maxLen;omega
 have fM:=hid h;have jE:=hid ho;have jF:=hid hn;have gB:=hid gI;have gC:=hid fL;clear h ho hn gI hm fL
 go_wp2_with (first
  | (at_range;refine zBK _ rfl _ 107 rfl zDW Tryz.underlying107 fC rfl ?_;intro w1 jG jH kA))
 go_frame
 have fN:=fC.ris zDW;clear fC;generalize hg:w.heap.size=g at *;have fE:=hid hg;clear hg
 go_loopw [5,6,7] (fun _ _ _ wr=>∃ (l:List (Nat×List UInt8)) (todo:Nat→Bool),zAQ wr zAG zB8 3 db g n.data.length l todo∧Hid (Chg (fun b=>b=db) w wr)∧Hid (∀ k,zAd k l=if todo k then zAd k n.data else (zAd k n.data).bind (zHC size k))) (fun _ _ _ wr=>wr.rangeLeft db g)
 case atStart=>exact⟨_,_,jG,Chg.of_fresh (by rw [fE.out];exact jH),fun k=>by cases zAd k n.data<;>simp⟩
 case round =>
  obtain⟨l,todo,hr,hc,hl⟩:=hrel;clear jG jH kA;have x4:wr.cell? ⟨a.nb,4,none⟩=some (.map (some db)):=(hc.out.cell (p:=⟨a.nb,4,none⟩) (by rw [fE.out];exact fD) (fun e=>fJ e.symm)).trans c4
  go_wp2_with (first
   | (at_next;refine zBX _ rfl _ rfl zDW invN rfl hr ?_ ?_))
  · intro hz;have hB:=fM.out.blk.chg hc.out (fun e=>fJ e.symm);have y2:wr.cell? ⟨a.nb,2,none⟩=some (.int .i64 (n.size:Int)):=hB.cell 2;have z2:=hB.frozen 2
    have jI:l=zAI size n.data:=zBs.ext zAG (hr.owns.ris zDW) (ris_cut fN) fun k=>by rw [hl.out,hz,get_cut k fN];simp
    have kC:=hid jI;have jJ:=hr.owns;have kD:=hid jJ;have fK:=hid hB;clear hz jI jJ hr hB hl;go_wp2;go_ret;have gD:Chg (fun b=>b=a.nb) wr (wr.setCell ⟨a.nb,2,none⟩ (.int .i64 (size:Int))):=(Chg.refl (fun b=>b=a.nb) wr).setCell (p:=⟨a.nb,2,none⟩) (fun _=>rfl) _;refine⟨rfl,⟨?_,?_,?_,?_,fM.out.dirs,fM.out.files⟩,(hc.out.mono fun b _ e=>.inr (.inl (by rw [e];exact jE.out.d db gC.out))).trans gD (fun _ _ h=>h) (fun b _ e=>.inl (by rw [e];exact jE.out.nb))⟩
    · exact fK.out.set_ 2 _
    · have jK:=kD.out.chg gD fJ;rw [kC.out] at jK;rw [gC.out];exact jK
    · exact zAo (zAo fM.out.slots hc.out fun g' gJ e=>gB.out.2.2.2.2.1 g' db gJ gC.out e) gD fun g' gJ e=>gB.out.2.1 g' gJ e
    · exact (fM.out.names.chg hc.out fun b e h=>gB.out.2.2.2.2.2 b db e gC.out h).chg gD fun b e h=>gB.out.2.2.1 b e h
  · intro k s w2 gK gL gM jL jM kE jN gN
    have gE:zAd k n.data=some s:=by have:=hl.out k;rw [gK,if_pos rfl,gL] at this;exact this.symm
    have kF:k≤1067:=jF.out.keys _ (zAi gE);have fO:s.length=128:=jF.out.secs _ (zAi gE);have gO:Chg (fun b=>b=db) w w2:=hc.out.trans jM (fun _ _ h=>h) (fun b hb e=>by subst e;rw [fE.out] at hb;omega);have x4':w2.cell? ⟨a.nb,4,none⟩=some (.map (some db)):=(gO.cell (p:=⟨a.nb,4,none⟩) (by rw [fE.out];exact fD) (fun e=>fJ e.symm)).trans c4;have gP:(Instr.entry (.pointer (some ⟨g,0,none⟩))).run Tryz.prog w2=.ok (.tuple #[.int .i64 (k:Int),.agg (bvs s).toArray]) w2:=jN;have gQ:Blk (w2.alloc (.cells Tryz.zeroCells187 187)) w2.heap.size 187 (bvs zBN):=zBh rfl;have jO:=gM.lt;have fF:=hid gM;have gR:=hid jL;have kG:=hid gK;have fP:=hid gL;have fG:=hid gE;have fQ:=hid gO;clear hr gM jL jM kE jN gN gK gL gE hc gO x4
    go_upto_region 6 with (first
     | (refine wpList_store_row rfl 187 (.tmp 6) (.tmp 23) rfl w2.heap.size (bvs s).toArray rfl (by rfl) 187 _ gQ (zAE fO) (by rw [List.size_toArray,List.size_toArray,zAe,zAe,zAt,fO]) (zBc s) ?_))
    have gF:Chg (fun b=>w2.heap.size≤b) w2 ((w2.alloc (.cells Tryz.zeroCells187 187)).setRow w2.heap.size (bvs s).toArray):=((Chg.refl _ w2).alloc _).setRow (fun _=>Nat.le_refl _) _;have gG:Blk ((w2.alloc (.cells Tryz.zeroCells187 187)).setRow w2.heap.size (bvs s).toArray) w2.heap.size 187 (bvs s):=setRow_heap _ _ _ _ _ _ gQ;have kI:w2.heap.size<((w2.alloc (.cells Tryz.zeroCells187 187)).setRow w2.heap.size (bvs s).toArray).heap.size:=gG.lt;have gS:=fQ.out.size
    have kJ:db<w2.heap.size:=by rw [fE.out] at gS;omega
    have jP:=fF.out.chg gF (by omega) (by omega);have fR:=zBn (b:=db) (r:=g) gF fF.out.owns.lt fF.out.lt (by omega) (by omega);have fA:=hid (show ((w2.alloc (.cells Tryz.zeroCells187 187)).setRow w2.heap.size (bvs s).toArray).rangeLeft db g<wr.rangeLeft db g by rw [fR];exact gR.out);have gT:Chg (fun b=>b=db) w ((w2.alloc (.cells Tryz.zeroCells187 187)).setRow w2.heap.size (bvs s).toArray):=fQ.out.trans gF (fun _ _ h=>h) (fun b hb h=>by rw [fE.out] at hb;omega);have x43:((w2.alloc (.cells Tryz.zeroCells187 187)).setRow w2.heap.size (bvs s).toArray).cell? ⟨a.nb,4,none⟩=some (.map (some db)):=(gT.cell (p:=⟨a.nb,4,none⟩) (by rw [fE.out];exact fD) (fun e=>fJ e.symm)).trans c4;have fB:=hid jP;have fH:=hid gT;clear fR jP gT gQ gF gP;generalize (w2.alloc (.cells Tryz.zeroCells187 187)).setRow w2.heap.size (bvs s).toArray=w3 at *;generalize w2.heap.size=z at *;by_cases hA:size≤k * 128
    · have t1:decide ((size:Int)≤(k:Int) * 128)=true:=by simp;omega
      have fS:=hid hA;clear hA
      go_wp2_with (first
       | (at_delete;refine zGI _ rfl _ _ 107 rfl zDW Tryz.underlying107 fB.out rfl k rfl (zHv k (by omega)) ?_;intro w4 fT jQ jR))
      have fI:=hid fT;have gU:=hid jQ;have gV:=hid jR;clear fT jQ jR
      go_frame
      go_roundw
      case rel =>
       refine⟨_,_,fI.out,fH.out.trans (zAT gV.out) (fun _ _ h=>h) (fun _ _ h=>h),fun x=>?_⟩;by_cases e:x=k
       · subst e;rw [zBI,fG.out];simp [zHC,fS.out]
       · rw [zAX e,hl.out];simp [e]
      case measure=>exact Nat.lt_of_le_of_lt gU.out fA.out
    · have t1:decide ((size:Int)≤(k:Int) * 128)=false:=by simp;omega
      by_cases hB:size<k * 128+128
      · have t2:decide ((size:Int)<(k:Int) * 128+128)=true:=by simp;omega
        have fU:k * 128<size:=by omega
        have fS:=hid hA;have fK:=hid hB
        have kK:∀ W:World,(zeroValue 5).run Tryz.prog W=.ok (.int .u8 0) W:=fun W=>by kernel_rfl
        have kL:size-k * 128+(128-(size-k * 128))≤(bvs s).length:=by rw [zAe,fO];omega
        have gW:0<128-(size-k * 128):=by omega
        have kM:size-k * 128≤128:=by omega
        have kR:=zEG w3 z (size-k * 128) ((size:Int)-(k:Int) * 128) (by omega) (by omega);clear hA hB
        go_upto_region 11 with (first
         | (refine zFW rfl (.tmp 43) 64 5 rfl Tryz.underlying64 (kK _) z (size-k * 128) (128-(size-k * 128)) (128-(size-k * 128)) rfl gW 187 (bvs s) gG kL ?_))
        rw [←bvs_cut size k s fO];have jS:Blk (w3.setRow z (bvs (zB1 size k s)).toArray) z 187 (bvs (zB1 size k s)):=setRow_heap w3 z _ _ _ _ gG;have gH:Chg (fun b=>b=z) w3 (w3.setRow z (bvs (zB1 size k s)).toArray):=(Chg.refl (fun b=>b=z) w3).setRow (fun _=>rfl) _;have fT:=fB.out.chg gH (by omega) (by omega);have fV:=zBn (b:=db) (r:=g) gH fB.out.owns.lt fB.out.lt (by omega) (by omega);have fW:=hid (show (w3.setRow z (bvs (zB1 size k s)).toArray).rangeLeft db g<wr.rangeLeft db g by rw [fV];exact fA.out);have gX:Chg (fun b=>b=db) w (w3.setRow z (bvs (zB1 size k s)).toArray):=fH.out.trans gH (fun _ _ h=>h) (fun b hb h=>by rw [fE.out] at hb;omega);have x44:=(gX.cell (p:=⟨a.nb,4,none⟩) (by rw [fE.out];exact fD) (fun e=>fJ e.symm)).trans c4;have kN:(zB1 size k s).length=128:=cut_len size k s fO fU fK.out;have fI:=hid fT;have gY:=hid gX;clear fT gX fV gH x43 gG;generalize fX:zB1 size k s=s4 at *;have kO:=hid fX;clear fX;generalize w3.setRow z (bvs s4).toArray=w4 at *;have gZ:=hid (fI.out.chg ((Chg.refl (fun _=>False) w4).drew) id id);have fY:Blk w4.drew z 187 (bvs s4):=jS;have jT:(loadVar 187 ⟨z,0,none⟩).run Tryz.prog ({heap:=w4.heap,tape:=w4.tape,drawn:=w4.drawn+1,os:=w4.os,output:=w4.output}:World)=.ok (.agg (bvs s4).toArray) ({heap:=w4.heap,tape:=w4.tape,drawn:=w4.drawn+1,os:=w4.os,output:=w4.output}:World):=run_loadVar_row w4.drew z _ _ _ _ _ fY Tryz.underlying187 rfl (zAE kN)
        go_still_tail 6,(by kernel_rfl)
        refine zEg rfl 187 (.tmp 6) rfl z rfl (bvs s4).toArray jT ?_;refine wpStill_nil ?_;change wpList _ _ _ _ _ w4.drew;have fZ:w4.drew.rangeLeft db g=w4.rangeLeft db g:=rfl;have gA:=hid (show w4.drew.rangeLeft db g<wr.rangeLeft db g from fW.out);have jA:=hid (gY.out.drew);clear jT jS fY fZ x44;generalize w4.drew=w5 at *
        go_wp2_with (first
         | (at_mapUpdate;refine zGG _ rfl (.tmp 47) (.tmp 48) (.tmp 49) 107 rfl zDW Tryz.underlying107 gZ.out jZ rfl k rfl (zHv k (by omega)) s fP.out s4 rfl ?_;intro w6 jU jV jW;have jB:=hid jU;have jC:=hid jV;have jD:=hid jW;clear jU jV jW;go_frame))
        go_roundw
        case rel =>
         refine⟨_,_,jB.out,jA.out.trans (zAT jD.out) (fun _ _ h=>h) (fun _ _ h=>h),fun x=>?_⟩;by_cases e:x=k
         · subst e;rw [zAu,fG.out];simp [zHC,fS.out,fK.out,kO.out]
         · rw [zAl zAG _ e,hl.out];simp [e]
        case measure=>exact Nat.lt_of_le_of_lt jC.out gA.out
      · have t2:decide ((size:Int)<(k:Int) * 128+128)=false:=by simp;omega
        have fS:=hid hA;have fK:=hid hB;clear hA hB;go_wp2;go_roundw
        case rel =>
         refine⟨_,_,fB.out,fH.out,fun x=>?_⟩;by_cases e:x=k
         · subst e;rw [fP.out,fG.out];simp [zHC,fS.out,fK.out]
         · rw [hl.out];simp [e]
        case measure=>exact fA.out
end Go.Proofs.YtolpcfhfcdkokaaGreatDoor
