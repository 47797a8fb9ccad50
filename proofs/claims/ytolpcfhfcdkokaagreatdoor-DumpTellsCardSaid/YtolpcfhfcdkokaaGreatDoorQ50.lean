/- Joined out of VGrown..VGrown. -/
import Derived.Test.YtolpcfhfcdkokaaGreatDoorQ47
import Derived.Test.YtolpcfhfcdkokaaGreatDoorQ48
set_option maxHeartbeats 16000000
set_option maxRecDepth 100000
set_option linter.unusedSimpArgs false
set_option linter.unusedVariables false
namespace Go.Proofs.YtolpcfhfcdkokaaGreatDoor
open Lib (hid)
open Go.RowKit Go.Proofs
def zD4 (w0 w:World) (S:Nat→Prop) (p mb:Nat) (T T2:PT) (t:Tr):Prop :=
 ∃ own lay,PlainAt w own lay p mb T∧RefS (fun b=>own b≠none∨S b) w t T2∧(∀ b,S b→b<w.heap.size∧own b=none)∧(∀ b,b<w0.heap.size→own b=none)∧Below w0.heap.size w0 w
section
variable {w0 w w':World} {S S':Nat→Prop} {p mb:Nat} {T T2:PT} {t:Tr}
theorem zD4.below (h:zD4 w0 w S p mb T T2 t):Below w0.heap.size w0 w:=let ⟨_,_,_,_,_,_,e⟩:=h;e
theorem zD4.fresh (h:zD4 w0 w S p mb T T2 t) (hb:Below w.heap.size w w'):zD4 w0 w' S p mb T T2 t:=by
 obtain⟨own,lay,a,b,c,d,e⟩:=h;exact⟨own,lay,a.fresh hb,b.fresh hb,fun x hx=>⟨Nat.lt_of_lt_of_le (c x hx).1 hb.size,(c x hx).2⟩,d,e.trans (hb.mono e.size)⟩
theorem zD4.more (h:zD4 w0 w S p mb T T2 t) (hb:Below w.heap.size w w') (hS:∀ b,S' b→S b∨(w.heap.size≤b∧b<w'.heap.size)):zD4 w0 w' S' p mb T T2 t:=by
 obtain⟨own,lay,a,b,c,d,e⟩:=h;refine⟨own,lay,a.fresh hb,b.wide hb fun x hx=>?_,fun x hx=>?_,d,e.trans (hb.mono e.size)⟩
 · rcases hx with hx | hx
   · exact .inl (.inl hx)
   · rcases hS x hx with hx | hx
     · exact .inl (.inr hx)
     · exact .inr hx.1
 · rcases hS x hx with hx | hx
   · exact⟨Nat.lt_of_lt_of_le (c x hx).1 hb.size,(c x hx).2⟩
   · exact⟨hx.2,a.free hx.1⟩
theorem zD4.less (h:zD4 w0 w S p mb T T2 t) (hS:∀ b,S' b→S b):zD4 w0 w S' p mb T T2 t:=by
 obtain⟨own,lay,a,b,c,d,e⟩:=h;exact⟨own,lay,a,b.mono fun x hx=>hx.imp id (hS x),fun x hx=>c x (hS x hx),d,e⟩
theorem zD4.chg {U:Nat→Prop} (h:zD4 w0 w S p mb T T2 t) (hc:Chg U w w') (hU:∀ b,U b→S b) (h0:∀ b,U b→w0.heap.size≤b):zD4 w0 w' S p mb T T2 t:=by
 obtain⟨own,lay,a,b,c,d,e⟩:=h;exact⟨own,lay,a.chg hc fun x hx=>(c x (hU x hx)).2,b.chg (hc.mono fun x _ hx=>.inr (hU x hx)),fun x hx=>⟨Nat.lt_of_lt_of_le (c x hx).1 hc.size,(c x hx).2⟩,d,e.trans (hc.below e.size fun x hx hu=>by have:=h0 x hu;omega)⟩
def GrDo (w0:World) (S:Nat→Prop) (p mb:Nat) (T T2:PT) (t:Tr) (o:Opn) (w:World) (e:Ending) (w':World):Prop :=
 (∃ v,e=.returned v)∧zD4 w0 w' S p mb (T.run o).1 T2 t∧Chg (fun b=>¬S b∧w0.heap.size≤b) w w'
theorem gr_do {m0:Int} (h:zD4 w0 w S p mb T T2 t) (hI:T.Inv) (hm:w0.cell? ⟨0,0,none⟩=some (.int .i64 m0)) (o:Opn) (A:Option Addr) (c:Nat) (fB:OpAt w w.heap.size o A c) :
 Calls Tryz.prog 24 #[.pointer (some ⟨p,0,none⟩),.agg (opC o A c).toArray] w (GrDo w0 S p mb T T2 t o w):=by
 obtain⟨own,lay,a,b,c',d,e⟩:=h;refine (pdo_any own lay p mb T o A c m0 w a hI.wf fB ((e.cell (p:=⟨0,0,none⟩) (World.block_lt_of_cell? _ _ hm)).trans hm)).mono ?_;rintro e' w' ⟨⟨v,rfl,_⟩,own',lay',h1,h2,h3⟩
 have hn:∀ x,own' x≠none→own x≠none∨w.heap.size≤x:=fun x hx=>by
  cases h9:own' x with
  | none=>exact absurd h9 hx
  | some r =>
   rcases h2.new x r h9 with h | h
   · exact .inl (by rw [h];simp)
   · exact .inr h
 have fA:∀ x,own x=none→x<w.heap.size→own' x=none:=fun x hx hl=>by
  cases h9:own' x with
  | none=>rfl
  | some r =>
   rcases hn x (by rw [h9];simp) with h | h
   · exact absurd hx h
   · omega
 refine⟨⟨v,rfl⟩,⟨own',lay',h1,b.grow (h3.mono fun x _ hx=>.inl hx) fun x hx=>?_,fun x hx=>⟨Nat.lt_of_lt_of_le (c' x hx).1 h3.size,fA x (c' x hx).2 (c' x hx).1⟩,fun x hx=>fA x (d x hx) (by have:=e.size;omega),e.trans (h3.below e.size fun x hx hu=>hu (d x hx))⟩,h3.mono fun x _ hx=>⟨fun hs=>hx (c' x hs).2,?_⟩⟩
 · rcases hx with hx | hx
   · exact (hn x hx).imp .inl id
   · exact .inl (.inr hx)
 · by_cases hl:x<w0.heap.size
   · exact absurd (d x hl) hx
   · omega
theorem gr_new {n m:Nat} {own:Nat→Option Role} {lay:Nat→NA} {w1:World} (hP:PlainAt w own lay p mb (PT.new n m)) (hf:∀ b,b<w1.heap.size→own b=none) (h0:Below w0.heap.size w0 w) (h1:Below w0.heap.size w0 w1) (hS:∀ b,S b→b<w1.heap.size) (fB:Below w1.heap.size w1 w)
 (hR:RefS (fun b=>own b≠none∨S b) w' t (PT.new n m)) (hb:Below w.heap.size w w'):zD4 w0 w' S p mb (PT.new n m) (PT.new n m) t :=
 ⟨own,lay,hP.fresh hb,hR,fun b fA=>⟨by have:=hS b fA;have:=fB.size;have:=hb.size;omega,hf b (hS b fA)⟩,fun b fA=>hf b (by have:=h1.size;omega),h0.trans (hb.mono h0.size)⟩
end
theorem zEf {fn:Func} {u p:Tmp} {ty:TypeId} {P:Program} (h:fn.results=#[.tmp u,.cell p ty]) (tmps:Array Value) (w:World) (g:Nat) (t:TypeId) (cs:Array Value) (fr:Nat×Nat) (d:TypeDesc)
 (hp:tmps.getD p undef=.pointer (some ⟨g,0,none⟩)) (hg:w.heap[g]? = some (.cells cs t fr)) (hu:P.underlying ty=some d) (hd:d.isRow=true) (hi:(P.info? ty).map (·.size)=some cs.size) :
 (results fn tmps).run P w=.ok (.tuple #[tmps.getD u undef,.agg cs]) w:=by
 have fA:tmps[p]?.getD undef=.pointer (some ⟨g,0,none⟩):=by simpa using hp
 have hl:=run_loadVar_row (P:=P) w g t ty cs fr d hg hu (by cases d<;>simp_all [TypeDesc.isRow]) hi;simp [results,h,fA,asAddr,hl]
theorem os_range {w:World} {b off:Nat} {x:Os} (h:OsAt w b off x):w.rangeAt b off (opC x.o x.dA x.dc):=fun j u hu=>by
 obtain⟨c0,c1,c2,c3,c4,c5,c6,c7⟩:=h;have hj:j<8:=(List.getElem?_eq_some_iff.1 hu).1
 have:j=0∨j=1∨j=2∨j=3∨j=4∨j=5∨j=6∨j=7:=by omega
 rcases this with rfl | rfl | rfl | rfl | rfl | rfl | rfl | rfl<;>(injection hu with hu;subst hu;assumption)
def GrownP (n m:Nat) (l:List Os) (w:World) (e:Ending) (w':World):Prop :=
 ∃ p mb t,e=.returned (.tuple #[.pointer (some ⟨p,0,none⟩),.agg (zAa t).toArray])∧zD4 w w' (fun _=>False) p mb ((PT.new n m).runs (l.map (·.o))) ((PT.new n m).runs (l.map (·.o))) t
theorem grown_any (s i:Int) (A:Option Addr) (cap:Nat) (l:List Os) (m0:Int) (w:World) (hN:ScrAt w w.heap.size A l) (gX:∀ x∈l,osWf x) (hm:w.cell? ⟨0,0,none⟩=some (.int .i64 m0)) (hs : -9223372036854775808≤s∧s≤9223372036854775807) (hi : -9223372036854775808≤i∧i≤9223372036854775807)
 (fA:∀ x∈l,x.o.data.length≤2097152∧x.o.path.size≤2097152∧x.o.dst.size≤2097152) (jZ:l.length≤400) :
 Calls Tryz.prog 9 #[.int .i64 s,.int .i64 i,.slice A l.length cap] w (GrownP (szN s) (szM s i) l w):=by
 have fQ:=sizes_any s i;obtain⟨z1,z2,z3⟩:=sz_ok s i;obtain⟨n,hn⟩:∃ n,szN s=n:=⟨_,rfl⟩;obtain⟨m,gE⟩:∃ m,szM s i=m:=⟨_,rfl⟩;rw [hn] at z1 z3 ⊢;rw [gE] at z2 z3 ⊢;rw [hn,gE] at fQ;clear hn gE;have fQ:=fun W=>fQ W hs.1 hs.2 hi.1 hi.2;have gF:=hid (inv_new z1 z2 z3);obtain⟨Q,hQ⟩:∃ Q,GrownP n m l w=Q:=⟨_,rfl⟩;rw [hQ];obtain⟨len,fK⟩:∃ len,l.length=len:=⟨_,rfl⟩;rw [fK] at jZ ⊢;obtain⟨g,hz⟩:∃ g,w.heap.size=g:=⟨_,rfl⟩;have kC:=hid hQ;have gG:=hid hN;have gH:=hid gX;have kD:=hid hm;have fL:=hid fA;have fG:=hid fK;have kE:=hid hz;have fO:=Blk.new w 28 z4;have fV:Below w.heap.size w (w.alloc (.cells z4.toArray 28)):=(Below.refl _ _).alloc (Nat.le_refl _) _;rw [hz] at fO;clear hQ hN gX hm fA fK hs hi;go_enter Tryz.func9,Tryz.ntmps9;go_upto_region 1 with (fail)
 try simp only [hz]
 change Code.wp _ _ _ _ (w.alloc (.cells z4.toArray 28));generalize w.alloc (.cells z4.toArray 28)=w1 at *;clear hz;go_upto_region 2 with (go_at_call 22;refine (fQ _).mono ?_;rintro e w4 ⟨rfl,rfl⟩);clear fQ;have gI:=pnew_any n m w1 z1 z2 z3;unfold NewP zCq at gI;go_upto_region 3 with (go_at_call 23;refine gI.mono ?_;rintro e w2 ⟨own,lay,p,mb,rfl,gJ,gY,fR⟩);clear gI;have gK:=fO.fresh fR;have kF:=fO.lt
 have fW:=rnew_any (fun b=>own b≠none∨b=g) n m w2 (fun b hb=>by
  rcases hb with h | h
  · cases h9:own b with
    | none=>exact absurd h9 h
    | some r=>exact gJ.lt b r h9
  · have:=fR.size;omega) z1 z2 z3
 unfold zHx trV at fW;simp only [Int.natCast_zero] at fW
 go_upto_region 4 with (first
  | (go_at_call 31;(with_reducible refine fW.mono ?_);rintro e w3 ⟨⟨t3,rfl,gZ⟩,fX⟩)
  | (refine wpList_store_row rfl 28 _ _ rfl w3.heap.size (zAa t3).toArray rfl (by rfl) 28 _ (Blk.new w3 28 z4) rfl rfl (zAc t3) ?_))
 obtain⟨k1,k2⟩:=zAP w3 t3;change Code.wp _ _ _ _ ((w3.alloc (.cells z4.toArray 28)).setRow w3.heap.size (zAa t3).toArray);have jA:=gr_new (S:=fun b=>b=g) gJ gY (fV.trans (fR.mono fV.size)) fV (fun b hb=>by omega) fR gZ fX
 have jB:zD4 w ((w3.alloc (.cells z4.toArray 28)).setRow w3.heap.size (zAa t3).toArray) (fun b=>b=g∨b=w3.heap.size) p mb (PT.new n m) (PT.new n m) t3:=jA.more k2 fun b hb=>hb.imp id fun e=>by have:=k1.lt;omega
 have jC:=(gK.fresh fX).fresh k2;have kS:g<w3.heap.size:=(gK.fresh fX).lt;have kU:w.heap.size≤g:=Nat.le_of_eq kE.out;generalize (w3.alloc (.cells z4.toArray 28)).setRow w3.heap.size (zAa t3).toArray=w5 at *;generalize w3.heap.size=h at *;have jD:=hid (show ∃ t,Blk w5 g 28 z4∧Blk w5 h 28 (zAa t)∧zD4 w w5 (fun b=>b=g∨b=h) p mb ((PT.new n m).after l 0) ((PT.new n m).after l 0) t from ⟨t3,jC,k1,by rw [zJK];exact jB⟩);clear gJ gY fR gZ fX k1 k2 jA jB jC gK fO fV fW z1 z2 z3 kF;go_wp2_with (fail)
 go_loopw [14] (fun v wr=>∃ j:Nat,j≤len∧v=.int .i64 j∧∃ t,Blk wr g 28 z4∧Blk wr h 28 (zAa t)∧zD4 w wr (fun b=>b=g∨b=h) p mb ((PT.new n m).after l j) ((PT.new n m).after l j) t) (fun v _=>len-(intOf v).toNat)
 case atStart=>exact⟨0,Nat.zero_le _,rfl,jD.out⟩
 case round =>
  obtain⟨k,hk,rfl,t,fY,fZ,fH⟩:=hrel;by_cases jE:k<len
  · have t1:decide ((k:Int)<(len:Int))=true:=by simpa using jE
    have gA:k<l.length:=by rw [fG.out];exact jE
    have jF:=(gG.out.below fH.below).more fH.below.size;obtain⟨b,off,rfl,kG,hc⟩:=gG.out.at_ (by omega);have kI:=hc k gA;have fS:=List.getElem_mem gA;have hds:=hid (gG.out.data _ fS);have gL:=jF.data _ fS;have fA:=fL.out _ fS;have fC:=gH.out _ fS;have fI:=hid (zJ2 (PT.new n m) l k gA);have fJ:=hid (inv_after gF.out l k);clear hc fS jF;generalize l[k]=x at *;obtain⟨⟨ok,pa,ds,oo,ol,da,om,op⟩,dA,dc⟩:=x;have fT:=hid fun (W:World) (hW:Below w.heap.size w W)=>zGR kI (w1:=W) fun p hp=>hW.cell (by rw [hp];exact kG);obtain⟨c0,c1,c2,c3,c4,c5,c6,c7⟩:=fT.out wr fH.below;simp only at c0 c1 c2 c3 c4 c5 c6 c7 hds fA fC fI gL;have fM:=hid fZ;have fD:=hid fY;have gB:=twin_any ⟨ok,pa,ds,oo,ol,da,om,op⟩ dA dc wr gL (by have:=fA.1;simp only;omega)
    have fE:=hid fun (W:World) (A':Option Addr) (c':Nat) (hW:Below wr.heap.size wr W) (kJ:Sees W W.heap.size 1 A' da.length (bvs da)) (kK:da.length≤c') =>
     gr_do (m0:=m0) (fH.fresh hW) fJ.out kD.out ⟨ok,pa,ds,oo,ol,da,om,op⟩ A' c' ⟨kJ,kK,by have:=fA.1;simp only;omega,fC.1,fC.2,by have:=fA.2.1;simp only;omega,by have:=fA.2.2;simp only;omega⟩
    unfold TwinP opV opC at gB;unfold opC at fE;simp only at gB fE;have fF:=hid fA.1;clear fA fC gA fY fZ fH gL
    go_upto_region 10 with (first
     | (go_at_call 25;refine gB.mono ?_;rintro e w6 ⟨⟨A6,c6',rfl,jG,jH⟩,gC⟩;have jI:=fE.out w6 A6 c6' gC jG jH)
     | (go_at_call 24;refine jI.mono ?_;rintro e w0 ⟨⟨v7,rfl⟩,kL,gM⟩))
    obtain⟨own7,lay7,jJ,jK,jL,jM,jN⟩:=kL;have jO:=hid ((fM.out.fresh gC).chg gM (fun h=>h.1 (.inr rfl)));have fO:=hid ((fD.out.fresh gC).chg gM (fun h=>h.1 (.inl rfl)));have fU:=hid jJ;have fN:=hid jL;have gN:=hid jM;have fB:=hid jN;obtain⟨r7,gO⟩:∃ r7,((PT.new n m).after l k).run ⟨ok,pa,ds,oo,ol,da,om,op⟩=r7:=⟨_,rfl⟩;obtain⟨T7,an⟩:=r7
    have gP:Hid (∀ W,Below w0.heap.size w0 W→Calls Tryz.prog 32 #[.agg (zAa t).toArray,.agg (opC ⟨ok,pa,ds,oo,ol,da,om,op⟩ dA dc).toArray] W (DoT (SW (fun b=>own7 b≠none∨(b=g∨b=h)) w0 W) (T7,an) W)):=hid fun W hb=>by
     have jP:=fB.out.trans (hb.mono fB.out.size)
     have h9:=rdo_any (SW (fun b=>own7 b≠none∨(b=g∨b=h)) w0 W) t _ ⟨ok,pa,ds,oo,ol,da,om,op⟩ dA dc W (sw_ref jK hb) (sw_lt (fun b hb=>by
      rcases hb with h1 | h1
      · cases h9:own7 b with
        | none=>exact absurd h9 h1
        | some r=>exact fU.out.lt b r h9
      · exact (fN.out b h1).1) hb) fJ.out ((hds.out.below jP).more jP.size) (by have:=fF.out;simp only;omega)
     rw [gO] at h9;exact h9
    have gQ:Hid (∀ W,Below w0.heap.size w0 W→W.rangeAt b (off+k * 8) (opC ⟨ok,pa,ds,oo,ol,da,om,op⟩ dA dc)):=hid fun W hb=>os_range (fT.out W (fB.out.trans (hb.mono fB.out.size)));have jQ:=hid gO
    have b0:(0:Int)≤(k:Int):=by omega
    have b1:(k:Int)<(len:Int):=by omega
    clear gB jI fE jG jH gC jJ jK jL jM jN gM c0 c1 c2 c3 c4 c5 c6 c7 gO hds
    go_cut [15,16] from 59 to 67 (fun c15 c16 wx=>PairQ w0 (fun b=>own7 b≠none∨(b=g∨b=h)) T7 an c15 c16 wx)
    case first =>
     refine wp_region_held_drew (S:=fun w'=>Below w0.heap.size w0 w') (by kernel_rfl) (zAf (Below.refl _ _) 1) fun hH=>?_;refine wpAnyH_take (i:=0) (v:=.agg (zAa t).toArray) rfl (by kernel_rfl) (by kernel_rfl) (by kernel_rfl) (fun _ _ _ h=>h) (yieldsIf_load_mid (by rfl) 28 _ rfl h 0 rfl (zAa t) _ (fun _ hw=>zBl (jO.out.fresh hw)) Tryz.underlying28 rfl rfl) hH ?_
     (try simp only [Act.put,List.getElem_toArray,List.getElem_cons_succ,List.getElem_cons_zero,List.setIfInBounds_toArray,List.set_cons_zero,List.set_cons_succ])
     refine wpAnyH_take (i:=1) (v:=.slice (some ⟨b,off,none⟩) len cap) rfl (by kernel_rfl) (by kernel_rfl) (by kernel_rfl) (fun _ _ _ h=>h) (.inl ⟨by rfl,fun _ _=>by go_simp⟩) hH ?_
     (try simp only [Act.put,List.getElem_toArray,List.getElem_cons_succ,List.getElem_cons_zero,List.setIfInBounds_toArray,List.set_cons_zero,List.set_cons_succ])
     refine wpAnyH_take (i:=2) (v:=.int .i64 (k:Int)) rfl (by kernel_rfl) (by kernel_rfl) (by kernel_rfl) (fun _ _ _ h=>h) (.inl ⟨by rfl,fun _ _=>by go_simp⟩) hH ?_
     (try simp only [Act.put,List.getElem_toArray,List.getElem_cons_succ,List.getElem_cons_zero,List.setIfInBounds_toArray,List.set_cons_zero,List.set_cons_succ])
     refine wpAnyH_take (i:=3) (v:=.pointer (some ⟨b,off+k * 8,none⟩)) rfl (by kernel_rfl) (by kernel_rfl) (by kernel_rfl) (fun _ _ _ h=>h) (.inl ⟨by rfl,fun _ _=>by go_simp⟩) hH ?_
     (try simp only [Act.put,List.getElem_toArray,List.getElem_cons_succ,List.getElem_cons_zero,List.setIfInBounds_toArray,List.set_cons_zero,List.set_cons_succ])
     refine wpAnyH_take (i:=4) (v:=.agg (opC ⟨ok,pa,ds,oo,ol,da,om,op⟩ dA dc).toArray) rfl (by kernel_rfl) (by kernel_rfl) (by kernel_rfl) (fun _ _ _ h=>h) (yieldsIf_load_mid (by rfl) 70 _ rfl b (off+k * 8) rfl (opC ⟨ok,pa,ds,oo,ol,da,om,op⟩ dA dc) _ (fun _ hw=>gQ.out _ hw) Tryz.underlying70 rfl rfl) hH ?_
     (try simp only [Act.put,List.getElem_toArray,List.getElem_cons_succ,List.getElem_cons_zero,List.setIfInBounds_toArray,List.set_cons_zero,List.set_cons_succ])
     have bq:Below w0.heap.size w0 w0.drew:=hH;generalize w0.drew=wq at *;clear hH
     iterate 3
      all_goals first
       | refine wpAnyH_ready (rs:=[5,9,10]) (by decide +kernel) (by simp) (AllReadyH.cons rfl (fun K hK=>?_) (AllReadyH.cons rfl (fun K hK=>?_) (AllReadyH.cons rfl (fun K hK=>?_) AllReadyH.nil)))
       | refine wpAnyH_ready (rs:=[9,10]) (by decide +kernel) (by simp) (AllReadyH.cons rfl (fun K hK=>?_) (AllReadyH.cons rfl (fun K hK=>?_) AllReadyH.nil))
       | refine wpAnyH_ready (rs:=[5,10]) (by decide +kernel) (by simp) (AllReadyH.cons rfl (fun K hK=>?_) (AllReadyH.cons rfl (fun K hK=>?_) AllReadyH.nil))
       | refine wpAnyH_ready (rs:=[5,9]) (by decide +kernel) (by simp) (AllReadyH.cons rfl (fun K hK=>?_) (AllReadyH.cons rfl (fun K hK=>?_) AllReadyH.nil))
       | refine wpAnyH_ready (rs:=[5]) (by decide +kernel) (by simp) (AllReadyH.cons rfl (fun K hK=>?_) AllReadyH.nil)
       | refine wpAnyH_ready (rs:=[9]) (by decide +kernel) (by simp) (AllReadyH.cons rfl (fun K hK=>?_) AllReadyH.nil)
       | refine wpAnyH_ready (rs:=[10]) (by decide +kernel) (by simp) (AllReadyH.cons rfl (fun K hK=>?_) AllReadyH.nil)
      all_goals
       rw [if_pos (by rfl)]
       go_simp
       first
        | (go_at_call 32;generalize wq=wW at *;(with_reducible refine (gP.out wW bq).mono ?_);rintro e w1 ⟨⟨t4,v4,rfl,kM,dA,dc,eA,ec,rfl,y1,y2,y3,y4⟩,gD⟩;have kN:zDV _ w1 _ an:=⟨dA,dc,eA,ec,rfl,y1,y2,y3,y4⟩;clear y1 y2 y3 y4;have bW:=hid bq;(first | have cT:=hid (Or.inl (b:=w1.heap.size≤ub) kT.lt) | skip);(first | have cA:=hid (Or.inl (b:=w1.heap.size≤ua) kA.lt) | skip);have bq:=bq.trans (gD.mono bq.size);(try go_simp);refine hK.out _ _ bq fun hH=>?_;clear hK K hH;(try simp only [Act.put,List.getElem_toArray,List.getElem_cons_succ,List.getElem_cons_zero,List.setIfInBounds_toArray,List.set_cons_zero,List.set_cons_succ]);refine wpAnyH_take (i:=6) (v:=.tuple #[trV t4,.agg (zAh an.code an.stat (.slice dA an.data.length dc) (.slice eA an.ents.length ec)).toArray]) rfl (by kernel_rfl) (by kernel_rfl) (by kernel_rfl) (fun _ _ _ h=>h) (.inl ⟨by rfl,fun _ _=>rfl⟩) bq ?_;(try simp only [Act.put,List.getElem_toArray,List.getElem_cons_succ,List.getElem_cons_zero,List.setIfInBounds_toArray,List.set_cons_zero,List.set_cons_succ]);refine wpAnyH_take (i:=7) (v:=trV t4) rfl (by kernel_rfl) (by kernel_rfl) (by kernel_rfl) (fun _ _ _ h=>h) (.inl ⟨by rfl,fun _ _=>rfl⟩) bq ?_;(try simp only [Act.put,List.getElem_toArray,List.getElem_cons_succ,List.getElem_cons_zero,List.setIfInBounds_toArray,List.set_cons_zero,List.set_cons_succ]);refine wpAnyH_take (i:=8) (v:=.agg (zAh an.code an.stat (.slice dA an.data.length dc) (.slice eA an.ents.length ec)).toArray) rfl (by kernel_rfl) (by kernel_rfl) (by kernel_rfl) (fun _ _ _ h=>h) (.inl ⟨by rfl,fun _ _=>rfl⟩) bq ?_;(try simp only [Act.put,List.getElem_toArray,List.getElem_cons_succ,List.getElem_cons_zero,List.setIfInBounds_toArray,List.set_cons_zero,List.set_cons_succ]);obtain⟨wq,hq⟩:∃ wq,wq=w1:=⟨_,rfl⟩;have bx:Below w1.heap.size w1 wq:=(by rw [hq];exact Below.refl _ _);(first | have kT:=kT.fresh gD | skip);(first | have kA:=kA.fresh gD | skip);(first | rw [←hq] at kT | skip);(first | rw [←hq] at kA | skip);rw [←hq] at bq;rw [←hq];clear hq)
        | (have kT:=Blk.new wq 28 z4;have jR:=hid bq.size;(first | have cT:=hid (show wq.heap.size<wW.heap.size∨_ from Or.inr bx.size) | skip);(first | have gR:=hid (Nat.ne_of_gt kA.lt) | skip);(first | have kA:=kA.alloc (.cells z4.toArray 28) | skip);(first | have bx:=bx.alloc bx.size (.cells z4.toArray 28) | skip);have bq:=bq.alloc bq.size (.cells z4.toArray 28);refine hK.out _ _ bq fun hH=>?_;clear hK K hH;(try simp only [Act.put,List.getElem_toArray,List.getElem_cons_succ,List.getElem_cons_zero,List.setIfInBounds_toArray,List.set_cons_zero,List.set_cons_succ]);change wpAnyH _ _ _ _ _ _ _ _ (wq.alloc (.cells z4.toArray 28));generalize wq.heap.size=ub at *;generalize wq.alloc (.cells z4.toArray 28)=wq at *)
        | (have kA:=Blk.new wq 67 zAs;have jS:=hid bq.size;(first | have cA:=hid (show wq.heap.size<wW.heap.size∨_ from Or.inr bx.size) | skip);(first | have gR:=hid (Nat.ne_of_lt kT.lt) | skip);(first | have kT:=kT.alloc (.cells zAs.toArray 67) | skip);(first | have bx:=bx.alloc bx.size (.cells zAs.toArray 67) | skip);have bq:=bq.alloc bq.size (.cells zAs.toArray 67);refine hK.out _ _ bq fun hH=>?_;clear hK K hH;(try simp only [Act.put,List.getElem_toArray,List.getElem_cons_succ,List.getElem_cons_zero,List.setIfInBounds_toArray,List.set_cons_zero,List.set_cons_succ]);change wpAnyH _ _ _ _ _ _ _ _ (wq.alloc (.cells zAs.toArray 67));generalize wq.heap.size=ua at *;generalize wq.alloc (.cells zAs.toArray 67)=wq at *)
     all_goals
      have gS:=hid (zIg kM kN bW.out gD bx kT kA gR.out ⟨jR.out,cT.out⟩ ⟨jS.out,cA.out⟩);have jT:=((Chg.refl (fun b=>w0.heap.size≤b) wq).setRow (g:=ub) (fun _=>jR.out) (zAa t4).toArray);refine wpAnyH_ready (rs:=[11]) (by decide +kernel) (by simp) (AllReadyH.cons rfl (fun K hK=>?_) AllReadyH.nil);rw [if_pos (by rfl)];refine wp_store_row 28 _ _ rfl ub (zAa t4).toArray rfl rfl 28 _ kT rfl rfl (zAc t4) ?_;refine hK.out _ _ (bq.trans (jT.below bq.size fun b hb e=>by omega)) fun hH=>?_;clear hK K hH
      (try simp only [Act.put,List.getElem_toArray,List.getElem_cons_succ,List.getElem_cons_zero,List.setIfInBounds_toArray,List.set_cons_zero,List.set_cons_succ])
      refine wpAnyH_ready (rs:=[12]) (by decide +kernel) (by simp) (AllReadyH.cons rfl (fun K hK=>?_) AllReadyH.nil);rw [if_pos (by rfl)];refine wp_store_row 67 _ _ rfl ua (zAh an.code an.stat (.slice dA an.data.length dc) (.slice eA an.ents.length ec)).toArray rfl rfl 67 _ (kA.row_far (fun e=>gR.out e.symm) _) rfl rfl (zAv _ _ _ _ _ _ _ _) ?_;refine hK.out _ _ (bq.trans ((jT.setRow (g:=ua) (fun _=>jS.out) _).below bq.size fun b hb e=>by omega)) fun hH=>?_;clear hK K hH
      (try simp only [Act.put,List.getElem_toArray,List.getElem_cons_succ,List.getElem_cons_zero,List.setIfInBounds_toArray,List.set_cons_zero,List.set_cons_succ])
      refine wpAnyH_done (by kernel_rfl) ?_ _;go_wp2;go_meet;exact gS.out
    case rest =>
     obtain⟨ub,ua,t6,dA2,dc2,eA2,ec2,rfl,rfl,hU,-,jU,-,fP,kV,-⟩:=hcut;generalize wc=w8 at *;have gT:=jO.out.fresh fP;have jV:=fO.out.fresh fP
     go_upto_region 8 with (first
      | (refine wpList_load_row rfl 28 _ rfl ub rfl 28 (zAa t6).toArray _ _ hU Tryz.underlying28 rfl rfl ?_)
      | (refine wpList_store_row rfl 28 _ _ rfl h (zAa t6).toArray rfl (by rfl) 28 _ gT rfl rfl (zAc t6) ?_))
     have gU:Chg (fun b=>b=h) w8 (w8.setRow h (zAa t6).toArray):=(Chg.refl (fun b=>b=h) w8).setRow (fun _=>rfl) _
     have jW:zD4 w w8 (fun b=>b=g∨b=h) p mb ((PT.new n m).after l (k+1)) ((PT.new n m).after l (k+1)) t6:=by
      rw [fI.out,jQ.out];have jX:=fU.out;rw [jQ.out] at jX;exact⟨own7,lay7,jX.fresh fP,jU,fun b hb=>⟨Nat.lt_of_lt_of_le (fN.out b hb).1 fP.size,(fN.out b hb).2⟩,gN.out,fB.out.trans (fP.mono fB.out.size)⟩
     have kO:=hid (jW.chg gU (fun b e=>.inr e) (fun b e=>by omega));have kP:=hid (setRow_heap w8 h _ (zAa t6).toArray _ _ gT);have kQ:=hid (jV.chg gU (by omega));clear hU jU fP gT jV gU jW;go_wp2;go_roundw
     case rel=>exact⟨k+1,by omega,by go_num,t6,kQ.out,kP.out,kO.out⟩
     case measure=>simp [intOf];omega
  · obtain rfl:k=len:=by omega
    have t1:decide ((k:Int)<(k:Int))=false:=by simp
    have jY:(PT.new n m).after l k=(PT.new n m).runs (l.map (·.o)):=after_all (PT.new n m) l k fG.out.symm;rw [jY] at fH;have fM:=hid fZ;have fD:=hid fY;have gV:=hid fH;clear fZ fY fH jY jD;go_upto_region 12 with (fail);refine wp_region_held_drew (S:=fun w'=>Blk w' h 28 (zAa t)) (by kernel_rfl) fM.out fun hH=>?_;refine wpAnyH_take (i:=0) (v:=.pointer (some ⟨p,0,none⟩)) rfl (by kernel_rfl) (by kernel_rfl) (by kernel_rfl) (fun _ _ _ h=>h) (.inl ⟨by rfl,fun _ _=>by go_simp⟩) hH ?_
    (try simp only [Act.put,List.getElem_toArray,List.getElem_cons_succ,List.getElem_cons_zero,List.setIfInBounds_toArray,List.set_cons_zero,List.set_cons_succ])
    refine wpAnyH_take (i:=1) (v:=.agg (zAa t).toArray) rfl (by kernel_rfl) (by kernel_rfl) (by kernel_rfl) (fun _ _ _ h=>h) (yieldsIf_load_mid (by rfl) 28 _ rfl h 0 rfl (zAa t) _ (fun _ hw=>zBl hw) Tryz.underlying28 rfl rfl) hH ?_
    (try simp only [Act.put,List.getElem_toArray,List.getElem_cons_succ,List.getElem_cons_zero,List.setIfInBounds_toArray,List.set_cons_zero,List.set_cons_succ])
    refine wpAnyH_take (i:=2) (v:=.pointer (some ⟨p,0,none⟩)) rfl (by kernel_rfl) (by kernel_rfl) (by kernel_rfl) (fun _ _ _ h=>h) (.inl ⟨by rfl,fun _ _=>by go_simp⟩) hH ?_
    (try simp only [Act.put,List.getElem_toArray,List.getElem_cons_succ,List.getElem_cons_zero,List.setIfInBounds_toArray,List.set_cons_zero,List.set_cons_succ])
    refine wpAnyH_ready (rs:=[3]) (by kernel_rfl) (by simp) (AllReadyH.cons rfl (fun K hK=>?_) AllReadyH.nil);rw [if_pos (by rfl)];refine wp_store_row 28 _ _ rfl g (zAa t).toArray rfl rfl 28 _ fD.out rfl rfl (zAc t) ?_;refine hK.out _ _ (Blk.row_far hH (by omega) _) fun hH=>?_;clear hK K
    (try simp only [Act.put,List.getElem_toArray,List.getElem_cons_succ,List.getElem_cons_zero,List.setIfInBounds_toArray,List.set_cons_zero,List.set_cons_succ])
    refine wpAnyH_done (by kernel_rfl) ?_ _;clear hH;go_wp2;have gW:=setRow_heap wr.drew g _ (zAa t).toArray _ _ fD.out;have kR:Chg (fun b=>b=g) wr (wr.drew.setRow g (zAa t).toArray):=((Chg.refl (fun b=>b=g) wr).drew).setRow (fun _=>rfl) _;refine bodyPost_ret (zEf rfl _ _ g 28 (zAa t).toArray (0,0) _ rfl gW Tryz.underlying28 rfl (by kernel_rfl)) rfl ?_;rw [←kC.out];exact⟨p,mb,t,rfl,(gV.out.chg kR (fun b e=>.inl e) (fun b e=>by omega)).less fun _ h=>h.elim⟩
end Go.Proofs.YtolpcfhfcdkokaaGreatDoor
