import Derived.Test.YtolpcfhfcdkokaaGreatDoorR17
import Derived.Test.YtolpcfhfcdkokaaGreatDoorR18
set_option maxHeartbeats 16000000
set_option maxRecDepth 100000
set_option linter.unusedSimpArgs false
set_option linter.unusedVariables false
namespace Go.Proofs.YtolpcfhfcdkokaaGreatDoor
open Lib (hid)
open Nat renaming lt_of_lt_of_le->Aa,zero_le->Ab,le_refl->Ac,le_trans->Ad,le_succ_of_le->Ae
open Proofs.Tryz renaming prog->Af,underlying28->Ag,underlying70->Ah,underlying31->Aj,underlying92->Ak,underlying22->Am
open World renaming block_lt_of_cell?->An,new_ne->Ao,ownsRow_nil->Ap,cell?_setCell_other->Aq
open Go renaming run_loadVar_row->Ar,wp_region_held_drew->As,yieldsIf_load_mid->At,wpAnyH_ready->Au,wp_store_row->Aw,wpAnyH_done->Ax,setRow_heap->Ay,bodyPost_ret->Az,info_parts->AA,run_sliceAt_slice->AB
open List renaming getElem?_eq_some_iff->AC,getElem_mem->AD,getElem_toArray->AE,getElem_cons_succ->AF,getElem_cons_zero->AG,setIfInBounds_toArray->AH,set_cons_zero->AI,set_cons_succ->AJ,length_nil->AK,length_map->AL,getElem?_cons_succ->AM,getElem?_cons_zero->AN,drop_of_length_le->AO,drop_eq_getElem_cons->AP,mem_append->AQ,mem_singleton->AR,length_cons->AS,length_append->AT,getElem_map->AU,length->AV,mem_cons->AW,not_mem_nil->AX,map_append->AY,length_singleton->AZ,getElem?_map->B0,getElem?_eq_getElem->B1,length_set->B2,getElem?_append_left->B3,drop_zero->B4,length_take->B5,length_drop->B6,getElem_of_mem->B7
open Blk renaming new->B8
open Code renaming wp->B9
open Act renaming put->Ba
open AllReadyH renaming cons->Bb,nil->Bc
open Chg renaming refl->Bd,of_fresh->Be
open Sees renaming of_own->Bf,nil->Bg
open _root_.ByteArray renaming empty->Bh
open Bool renaming false_or->Bi,noConfusion->Bj
open Option renaming elim_none->Bk,elim_some->Bl
open Go.RowKit Go.Proofs
def zDs (w0 w:World) (S:Nat→Prop) (p mb:Nat) (T T2:PT) (t:Tr):Prop :=
 ∃ own lay,PlainAt w own lay p mb T∧RefS (fun b=>own b≠none∨S b) w t T2∧(∀ b,S b→b<w.heap.size∧own b=none)∧(∀ b,b<w0.heap.size→own b=none)∧Below w0.heap.size w0 w
section
variable {w0 w w':World} {S S':Nat→Prop} {p mb:Nat} {T T2:PT} {t:Tr}
theorem zDs.below (h:zDs w0 w S p mb T T2 t):Below w0.heap.size w0 w:=let ⟨_,_,_,_,_,_,e⟩:=h;e
theorem zDs.fresh (h:zDs w0 w S p mb T T2 t) (hb:Below w.heap.size w w'):zDs w0 w' S p mb T T2 t:=by
 obtain⟨own,lay,a,b,c,d,e⟩:=h;exact⟨own,lay,a.fresh hb,b.fresh hb,fun x hx=>⟨Aa (c x hx).1 hb.size,(c x hx).2⟩,d,e.trans (hb.mono e.size)⟩
theorem zDs.more (h:zDs w0 w S p mb T T2 t) (hb:Below w.heap.size w w') (hS:∀ b,S' b→S b∨(w.heap.size≤b∧b<w'.heap.size)):zDs w0 w' S' p mb T T2 t:=by
 obtain⟨own,lay,a,b,c,d,e⟩:=h;refine⟨own,lay,a.fresh hb,b.wide hb fun x hx=>?_,fun x hx=>?_,d,e.trans (hb.mono e.size)⟩
 · rcases hx with hx | hx
   · exact .inl (.inl hx)
   · rcases hS x hx with hx | hx
     · exact .inl (.inr hx)
     · exact .inr hx.1
 · rcases hS x hx with hx | hx
   · exact⟨Aa (c x hx).1 hb.size,(c x hx).2⟩
   · exact⟨hx.2,a.free hx.1⟩
theorem zDs.less (h:zDs w0 w S p mb T T2 t) (hS:∀ b,S' b→S b):zDs w0 w S' p mb T T2 t:=by
 obtain⟨own,lay,a,b,c,d,e⟩:=h;exact⟨own,lay,a,b.mono fun x hx=>hx.imp id (hS x),fun x hx=>c x (hS x hx),d,e⟩
theorem zDs.chg {U:Nat→Prop} (h:zDs w0 w S p mb T T2 t) (hc:Chg U w w') (hU:∀ b,U b→S b) (h0:∀ b,U b→w0.heap.size≤b):zDs w0 w' S p mb T T2 t:=by
 obtain⟨own,lay,a,b,c,d,e⟩:=h;exact⟨own,lay,a.chg hc fun x hx=>(c x (hU x hx)).2,b.chg (hc.mono fun x _ hx=>.inr (hU x hx)),fun x hx=>⟨Aa (c x hx).1 hc.size,(c x hx).2⟩,d,e.trans (hc.below e.size fun x hx hu=>by have:=h0 x hu;omega)⟩
theorem gr_turn {own:Nat→Option Role} {T':PT} (b:RefS (fun b=>own b≠none∨S b) w t T2) (c':∀ b,S b→b<w.heap.size∧own b=none) (d:∀ b,b<w0.heap.size→own b=none) (e:Below w0.heap.size w0 w) (ht:zAv own p mb T' w w') :
 zDs w0 w' S p mb T' T2 t∧Chg (fun b=>¬S b∧w0.heap.size≤b) w w':=by
 obtain⟨own',lay',h1,h2,h3⟩:=ht
 have hn:∀ x,own' x≠none→own x≠none∨w.heap.size≤x:=fun x hx=>by
  cases h9:own' x with
  | none=>exact absurd h9 hx
  | some r =>
   rcases h2.new x r h9 with h | h
   · exact .inl (by rw [h];simp)
   · exact .inr h
 have fA:∀ x,own x=none→x<w.heap.size→own' x=none:=fun x hx hl=>by
  cases h9:own' x with
  | none=>rfl
  | some r =>
   rcases hn x (by rw [h9];simp) with h | h
   · exact absurd hx h
   · omega
 refine⟨⟨own',lay',h1,b.grow (h3.mono fun x _ hx=>.inl hx) fun x hx=>?_,fun x hx=>⟨Aa (c' x hx).1 h3.size,fA x (c' x hx).2 (c' x hx).1⟩,fun x hx=>fA x (d x hx) (by have:=e.size;omega),e.trans (h3.below e.size fun x hx hu=>hu (d x hx))⟩,h3.mono fun x _ hx=>⟨fun hs=>hx (c' x hs).2,?_⟩⟩
 · rcases hx with hx | hx
   · exact (hn x hx).imp .inl id
   · exact .inl (.inr hx)
 · by_cases hl:x<w0.heap.size
   · exact absurd (d x hl) hx
   · omega
def GrDo (w0:World) (S:Nat→Prop) (p mb:Nat) (T T2:PT) (t:Tr) (o:Opn) (w:World) (e:Ending) (w':World):Prop :=
 (∃ v,e=.returned v)∧zDs w0 w' S p mb (T.run o).1 T2 t∧Chg (fun b=>¬S b∧w0.heap.size≤b) w w'
theorem gr_do {m0:Int} (h:zDs w0 w S p mb T T2 t) (hI:T.Inv) (hm:w0.cell? ⟨0,0,none⟩=some (.int .i64 m0)) (o:Opn) (A:Option Addr) (c:Nat) (fA:OpAt w w.heap.size o A c) :
 Calls Af 24 #[.pointer (some ⟨p,0,none⟩),.agg (opC o A c).toArray] w (GrDo w0 S p mb T T2 t o w):=by
 obtain⟨own,lay,a,b,c',d,e⟩:=h;refine (pdo_any own lay p mb T o A c m0 w a hI.wf fA ((e.cell (p:=⟨0,0,none⟩) (An _ _ hm)).trans hm)).mono ?_;rintro e' w' ⟨⟨v,rfl,_⟩,ht⟩;obtain⟨h1,h2⟩:=gr_turn b c' d e ht;exact⟨⟨v,rfl⟩,h1,h2⟩
theorem gr_new {n m:Nat} {own:Nat→Option Role} {lay:Nat→NA} {w1:World} (hP:PlainAt w own lay p mb (PT.new n m)) (hf:∀ b,b<w1.heap.size→own b=none) (h0:Below w0.heap.size w0 w) (h1:Below w0.heap.size w0 w1) (hS:∀ b,S b→b<w1.heap.size) (fB:Below w1.heap.size w1 w)
 (hR:RefS (fun b=>own b≠none∨S b) w' t (PT.new n m)) (hb:Below w.heap.size w w'):zDs w0 w' S p mb (PT.new n m) (PT.new n m) t :=
 ⟨own,lay,hP.fresh hb,hR,fun b fA=>⟨by have:=hS b fA;have:=fB.size;have:=hb.size;omega,hf b (hS b fA)⟩,fun b fA=>hf b (by have:=h1.size;omega),h0.trans (hb.mono h0.size)⟩
end
theorem zEr {fn:Func} {u p:Tmp} {ty:TypeId} {P:Program} (h:fn.results=#[.tmp u,.cell p ty]) (tmps:Array Value) (w:World) (g:Nat) (t:TypeId) (cs:Array Value) (fr:Nat×Nat) (d:TypeDesc)
 (hp:tmps.getD p undef=.pointer (some ⟨g,0,none⟩)) (hg:w.heap[g]? = some (.cells cs t fr)) (hu:P.underlying ty=some d) (hd:d.isRow=true) (hi:(P.info? ty).map (·.size)=some cs.size) :
 (results fn tmps).run P w=.ok (.tuple #[tmps.getD u undef,.agg cs]) w:=by
 have fA:tmps[p]?.getD undef=.pointer (some ⟨g,0,none⟩):=by simpa using hp
 have hl:=Ar (P:=P) w g t ty cs fr d hg hu (by cases d<;>simp_all [TypeDesc.isRow]) hi;simp [results,h,fA,asAddr,hl]
theorem zIz {w:World} {b off:Nat} {x:Os} (h:OsAt w b off x):w.rangeAt b off (opC x.o x.dA x.dc):=fun j u hu=>by
 obtain⟨c0,c1,c2,c3,c4,c5,c6,c7⟩:=h;have hj:j<8:=(AC.1 hu).1
 have:j=0∨j=1∨j=2∨j=3∨j=4∨j=5∨j=6∨j=7:=by omega
 rcases this with rfl | rfl | rfl | rfl | rfl | rfl | rfl | rfl<;>(injection hu with hu;subst hu;assumption)
def GrownP (n m:Nat) (l:List Os) (w:World) (e:Ending) (w':World):Prop :=
 ∃ p mb t,e=.returned (.tuple #[.pointer (some ⟨p,0,none⟩),.agg (zAa t).toArray])∧zDs w w' (fun _=>False) p mb ((PT.new n m).runs (l.map (·.o))) ((PT.new n m).runs (l.map (·.o))) t
theorem grown_any (s i:Int) (A:Option Addr) (cap:Nat) (l:List Os) (m0:Int) (w:World) (hN:ScrAt w w.heap.size A l) (gX:∀ x∈l,osWf x) (hm:w.cell? ⟨0,0,none⟩=some (.int .i64 m0)) (hs : -9223372036854775808≤s∧s≤9223372036854775807) (hi : -9223372036854775808≤i∧i≤9223372036854775807)
 (fA:∀ x∈l,x.o.data.length≤2097152∧x.o.path.size≤2097152∧x.o.dst.size≤2097152) (jZ:l.length≤400) :
 Calls Af 9 #[.int .i64 s,.int .i64 i,.slice A l.length cap] w (GrownP (szN s) (szM s i) l w):=by
 have fQ:=sizes_any s i;obtain⟨z1,z2,z3⟩:=sz_ok s i;obtain⟨n,hn⟩:=nM (szN s);obtain⟨m,gE⟩:=nM (szM s i);rw [hn] at z1 z3 ⊢;rw [gE] at z2 z3 ⊢;rw [hn,gE] at fQ;clear hn gE;have fQ:=fun W=>fQ W hs.1 hs.2 hi.1 hi.2;have gF:=hid (inv_new z1 z2 z3);obtain⟨Q,hQ⟩:=nM (GrownP n m l w);rw [hQ];obtain⟨len,fK⟩:=nM (l.length);rw [fK] at jZ ⊢;obtain⟨g,hz⟩:=nM (w.heap.size);have kC:=hid hQ;have gG:=hid hN;have gH:=hid gX;have kD:=hid hm;have fL:=hid fA;have fG:=hid fK;have kE:=hid hz;have fO:=B8 w 28 z4;have fV:Below w.heap.size w (w.alloc (.cells z4.toArray 28)):=br.alloc nr _;rw [hz] at fO;clear hQ hN gX hm fA fK hs hi;go_enter Tryz.func9,Tryz.ntmps9;go_upto_region 1 with (fail)
 try simp only [hz]
 change B9 _ _ _ _ (w.alloc (.cells z4.toArray 28));generalize w.alloc (.cells z4.toArray 28)=w1 at *;clear hz;go_upto_region 2 with (go_at_call 22;refine (fQ _).mono ?_;rintro e w4 ⟨rfl,rfl⟩);clear fQ;have gI:=pnew_any n m w1 z1 z2 z3;unfold NewP zCq at gI;go_upto_region 3 with (go_at_call 23;refine gI.mono ?_;rintro e w2 ⟨own,lay,p,mb,rfl,gJ,gY,fR⟩);clear gI;have gK:=fO.fresh fR;have kF:=fO.lt
 have fW:=rnew_any (fun b=>own b≠none∨b=g) n m w2 (fun b hb=>by
  rcases hb with h | h
  · cases h9:own b with
    | none=>exact absurd h9 h
    | some r=>exact gJ.lt b r h9
  · have:=fR.size;omega) z1 z2 z3
 unfold zIo trV at fW;simp only [Int.natCast_zero] at fW
 go_upto_region 4 with (first
  | (go_at_call 31;(with_reducible refine fW.mono ?_);rintro e w3 ⟨⟨t3,rfl,gZ⟩,fX⟩)
  | (refine stT t3 (B8 w3 28 z4) rfl rfl rfl (by rfl) rfl ?_))
 obtain⟨k1,k2⟩:=zAL w3 t3;change B9 _ _ _ _ ((w3.alloc (.cells z4.toArray 28)).setRow w3.heap.size (zAa t3).toArray);have jA:=gr_new (S:=fun b=>b=g) gJ gY (fV.trans (fR.mono fV.size)) fV (fun b hb=>by omega) fR gZ fX
 have jB:zDs w ((w3.alloc (.cells z4.toArray 28)).setRow w3.heap.size (zAa t3).toArray) (fun b=>b=g∨b=w3.heap.size) p mb (PT.new n m) (PT.new n m) t3:=jA.more k2 fun b hb=>hb.imp id fun e=>by have:=k1.lt;omega
 have jC:=(gK.fresh fX).fresh k2;have kS:g<w3.heap.size:=(gK.fresh fX).lt;have kU:w.heap.size≤g:=Nat.le_of_eq kE.o;generalize (w3.alloc (.cells z4.toArray 28)).setRow w3.heap.size (zAa t3).toArray=w5 at *;generalize w3.heap.size=h at *;have jD:=hid (show ∃ t,Blk w5 g 28 z4∧Blk w5 h 28 (zAa t)∧zDs w w5 (fun b=>b=g∨b=h) p mb ((PT.new n m).after l 0) ((PT.new n m).after l 0) t from ⟨t3,jC,k1,by rw [zJ0];exact jB⟩);clear gJ gY fR gZ fX k1 k2 jA jB jC gK fO fV fW z1 z2 z3 kF;go_wp2_with (fail)
 go_loopw [14] (fun v wr=>∃ j:Nat,j≤len∧v=.int .i64 j∧∃ t,Blk wr g 28 z4∧Blk wr h 28 (zAa t)∧zDs w wr (fun b=>b=g∨b=h) p mb ((PT.new n m).after l j) ((PT.new n m).after l j) t) (fun v _=>len-(intOf v).toNat)
 case atStart=>exact⟨0,Ab _,rfl,jD.o⟩
 case round =>
  obtain⟨k,hk,rfl,t,fY,fZ,fH⟩:=hrel;by_cases jE:k<len
  · have t1:decide ((k:Int)<(len:Int))=true:=by simpa using jE
    have gA:k<l.length:=by rw [fG.o];exact jE
    have jF:=(gG.o.below fH.below).more fH.below.size;obtain⟨b,off,rfl,kG,hc⟩:=gG.o.at_ (by omega);have kI:=hc k gA;have fS:=AD gA;have hds:=hid (gG.o.data _ fS);have gL:=jF.data _ fS;have fA:=fL.o _ fS;have fC:=gH.o _ fS;have fI:=hid (zKj (PT.new n m) l k gA);have fJ:=hid (inv_after gF.o l k);clear hc fS jF;generalize l[k]=x at *;obtain⟨⟨ok,pa,ds,oo,ol,da,om,op⟩,dA,dc⟩:=x;have fT:=hid fun (W:World) (hW:Below w.heap.size w W)=>zFa kI (w1:=W) fun p hp=>hW.cell (by rw [hp];exact kG);obtain⟨c0,c1,c2,c3,c4,c5,c6,c7⟩:=fT.o wr fH.below;simp only at c0 c1 c2 c3 c4 c5 c6 c7 hds fA fC fI gL;have fM:=hid fZ;have fD:=hid fY;have gB:=twin_any ⟨ok,pa,ds,oo,ol,da,om,op⟩ dA dc wr gL (by have:=fA.1;simp only;omega)
    have fE:=hid fun (W:World) (A':Option Addr) (c':Nat) (hW:Below wr.heap.size wr W) (kJ:Sees W W.heap.size 1 A' da.length (bvs da)) (kK:da.length≤c') =>
     gr_do (m0:=m0) (fH.fresh hW) fJ.o kD.o ⟨ok,pa,ds,oo,ol,da,om,op⟩ A' c' ⟨kJ,kK,by have:=fA.1;simp only;omega,fC.1,fC.2,by have:=fA.2.1;simp only;omega,by have:=fA.2.2;simp only;omega⟩
    unfold TwinP opV opC at gB;unfold opC at fE;simp only at gB fE;have fF:=hid fA.1;clear fA fC gA fY fZ fH gL
    go_upto_region 10 with (first
     | (go_at_call 25;refine gB.mono ?_;rintro e w6 ⟨⟨A6,c6',rfl,jG,jH⟩,gC⟩;have jI:=fE.o w6 A6 c6' gC jG jH)
     | (go_at_call 24;refine jI.mono ?_;rintro e w0 ⟨⟨v7,rfl⟩,kL,gM⟩))
    obtain⟨own7,lay7,jJ,jK,jL,jM,jN⟩:=kL;have jO:=hid ((fM.o.fresh gC).chg gM (fun h=>h.1 (.inr rfl)));have fO:=hid ((fD.o.fresh gC).chg gM (fun h=>h.1 (.inl rfl)));have fU:=hid jJ;have fN:=hid jL;have gN:=hid jM;have fB:=hid jN;obtain⟨r7,gO⟩:=nM (((PT.new n m).after l k).run ⟨ok,pa,ds,oo,ol,da,om,op⟩);obtain⟨T7,an⟩:=r7
    have gP:Hid (∀ W,Below w0.heap.size w0 W→Calls Af 32 #[.agg (zAa t).toArray,.agg (opC ⟨ok,pa,ds,oo,ol,da,om,op⟩ dA dc).toArray] W (DoT (SW (fun b=>own7 b≠none∨(b=g∨b=h)) w0 W) (T7,an) W)):=hid fun W hb=>by
     have jP:=fB.o.trans (hb.mono fB.o.size)
     have h9:=zId (SW (fun b=>own7 b≠none∨(b=g∨b=h)) w0 W) t _ ⟨ok,pa,ds,oo,ol,da,om,op⟩ dA dc W (sw_ref jK hb) (sw_lt (fun b hb=>by
      rcases hb with h1 | h1
      · cases h9:own7 b with
        | none=>exact absurd h9 h1
        | some r=>exact fU.o.lt b r h9
      · exact (fN.o b h1).1) hb) fJ.o ((hds.o.below jP).more jP.size) (by have:=fF.o;simp only;omega)
     rw [gO] at h9;exact h9
    have gQ:Hid (∀ W,Below w0.heap.size w0 W→W.rangeAt b (off+k * 8) (opC ⟨ok,pa,ds,oo,ol,da,om,op⟩ dA dc)):=hid fun W hb=>zIz (fT.o W (fB.o.trans (hb.mono fB.o.size)));have jQ:=hid gO
    have b0:(0:Int)≤(k:Int):=by omega
    have b1:(k:Int)<(len:Int):=by omega
    clear gB jI fE jG jH gC jJ jK jL jM jN gM c0 c1 c2 c3 c4 c5 c6 c7 gO hds
    go_cut [15,16] from 59 to 67 (fun c15 c16 wx=>PairQ w0 (fun b=>own7 b≠none∨(b=g∨b=h)) T7 an c15 c16 wx)
    case first =>
     refine As (S:=fun w'=>Below w0.heap.size w0 w') (by kernel_rfl) (zAd br 1) fun hH=>?_;refine tk 0 (.agg (zAa t).toArray) rfl (At (by rfl) 28 _ rfl h 0 rfl (zAa t) _ (fun _ hw=>zBq (jO.o.fresh hw)) Ag rfl rfl) hH ?_
     (try simp only [Ba,AE,AF,AG,AH,AI,AJ])
     refine tk 1 (.slice (some ⟨b,off,none⟩) len cap) rfl (.inl ⟨by rfl,fun _ _=>by go_simp⟩) hH ?_
     (try simp only [Ba,AE,AF,AG,AH,AI,AJ])
     refine tk 2 (.int .i64 (k:Int)) rfl (.inl ⟨by rfl,fun _ _=>by go_simp⟩) hH ?_
     (try simp only [Ba,AE,AF,AG,AH,AI,AJ])
     refine tk 3 (.pointer (some ⟨b,off+k * 8,none⟩)) rfl (.inl ⟨by rfl,fun _ _=>by go_simp⟩) hH ?_
     (try simp only [Ba,AE,AF,AG,AH,AI,AJ])
     refine tk 4 (.agg (opC ⟨ok,pa,ds,oo,ol,da,om,op⟩ dA dc).toArray) rfl (At (by rfl) 70 _ rfl b (off+k * 8) rfl (opC ⟨ok,pa,ds,oo,ol,da,om,op⟩ dA dc) _ (fun _ hw=>gQ.o _ hw) Ah rfl rfl) hH ?_
     (try simp only [Ba,AE,AF,AG,AH,AI,AJ])
     have bq:Below w0.heap.size w0 w0.drew:=hH;generalize w0.drew=wq at *;clear hH
     iterate 3
      all_goals first
       | refine Au (rs:=[5,9,10]) (by decide +kernel) (by simp) (Bb rfl (fun K hK=>?_) (Bb rfl (fun K hK=>?_) (Bb rfl (fun K hK=>?_) Bc)))
       | refine Au (rs:=[9,10]) (by decide +kernel) (by simp) (Bb rfl (fun K hK=>?_) (Bb rfl (fun K hK=>?_) Bc))
       | refine Au (rs:=[5,10]) (by decide +kernel) (by simp) (Bb rfl (fun K hK=>?_) (Bb rfl (fun K hK=>?_) Bc))
       | refine Au (rs:=[5,9]) (by decide +kernel) (by simp) (Bb rfl (fun K hK=>?_) (Bb rfl (fun K hK=>?_) Bc))
       | refine Au (rs:=[5]) (by decide +kernel) (by simp) (Bb rfl (fun K hK=>?_) Bc)
       | refine Au (rs:=[9]) (by decide +kernel) (by simp) (Bb rfl (fun K hK=>?_) Bc)
       | refine Au (rs:=[10]) (by decide +kernel) (by simp) (Bb rfl (fun K hK=>?_) Bc)
      all_goals
       rw [if_pos (by rfl)]
       go_simp
       first
        | (go_at_call 32;generalize wq=wW at *;(with_reducible refine (gP.o wW bq).mono ?_);rintro e w1 ⟨⟨t4,v4,rfl,kM,dA,dc,eA,ec,rfl,y1,y2,y3,y4⟩,gD⟩;have kN:zD2 _ w1 _ an:=⟨dA,dc,eA,ec,rfl,y1,y2,y3,y4⟩;clear y1 y2 y3 y4;have bW:=hid bq;(first | have cT:=hid (Or.inl (b:=w1.heap.size≤ub) kT.lt) | skip);(first | have cA:=hid (Or.inl (b:=w1.heap.size≤ua) kA.lt) | skip);have bq:=bq.trans (gD.mono bq.size);(try go_simp);refine hK.out _ _ bq fun hH=>?_;clear hK K hH;(try simp only [Ba,AE,AF,AG,AH,AI,AJ]);refine tk 6 (.tuple #[trV t4,.agg (zAq an.code an.stat (.slice dA an.data.length dc) (.slice eA an.ents.length ec)).toArray]) rfl (.inl ⟨by rfl,fun _ _=>rfl⟩) bq ?_;(try simp only [Ba,AE,AF,AG,AH,AI,AJ]);refine tk 7 (trV t4) rfl (.inl ⟨by rfl,fun _ _=>rfl⟩) bq ?_;(try simp only [Ba,AE,AF,AG,AH,AI,AJ]);refine tk 8 (.agg (zAq an.code an.stat (.slice dA an.data.length dc) (.slice eA an.ents.length ec)).toArray) rfl (.inl ⟨by rfl,fun _ _=>rfl⟩) bq ?_;(try simp only [Ba,AE,AF,AG,AH,AI,AJ]);obtain⟨wq,hq⟩:∃ wq,wq=w1:=⟨_,rfl⟩;have bx:Below w1.heap.size w1 wq:=(by rw [hq];exact Below.refl _ _);(first | have kT:=kT.fresh gD | skip);(first | have kA:=kA.fresh gD | skip);(first | rw [←hq] at kT | skip);(first | rw [←hq] at kA | skip);rw [←hq] at bq;rw [←hq];clear hq)
        | (have kT:=B8 wq 28 z4;have jR:=hid bq.size;(first | have cT:=hid (show wq.heap.size<wW.heap.size∨_ from Or.inr bx.size) | skip);(first | have gR:=hid (Nat.ne_of_gt kA.lt) | skip);(first | have kA:=kA.alloc (.cells z4.toArray 28) | skip);(first | have bx:=bx.alloc bx.size (.cells z4.toArray 28) | skip);have bq:=bq.alloc bq.size (.cells z4.toArray 28);refine hK.out _ _ bq fun hH=>?_;clear hK K hH;(try simp only [Ba,AE,AF,AG,AH,AI,AJ]);change wpAnyH _ _ _ _ _ _ _ _ (wq.alloc (.cells z4.toArray 28));generalize wq.heap.size=ub at *;generalize wq.alloc (.cells z4.toArray 28)=wq at *)
        | (have kA:=B8 wq 67 zAk;have jS:=hid bq.size;(first | have cA:=hid (show wq.heap.size<wW.heap.size∨_ from Or.inr bx.size) | skip);(first | have gR:=hid (Nat.ne_of_lt kT.lt) | skip);(first | have kT:=kT.alloc (.cells zAk.toArray 67) | skip);(first | have bx:=bx.alloc bx.size (.cells zAk.toArray 67) | skip);have bq:=bq.alloc bq.size (.cells zAk.toArray 67);refine hK.out _ _ bq fun hH=>?_;clear hK K hH;(try simp only [Ba,AE,AF,AG,AH,AI,AJ]);change wpAnyH _ _ _ _ _ _ _ _ (wq.alloc (.cells zAk.toArray 67));generalize wq.heap.size=ua at *;generalize wq.alloc (.cells zAk.toArray 67)=wq at *)
     all_goals
      have gS:=hid (zF8 kM kN bW.o gD bx kT kA gR.o ⟨jR.o,cT.o⟩ ⟨jS.o,cA.o⟩);have jT:=((Bd (fun b=>w0.heap.size≤b) wq).setRow (g:=ub) (fun _=>jR.o) (zAa t4).toArray);refine Au (rs:=[11]) (by decide +kernel) (by simp) (Bb rfl (fun K hK=>?_) Bc);rw [if_pos (by rfl)];refine Aw 28 _ _ rfl ub (zAa t4).toArray rfl rfl 28 _ kT rfl rfl (zCm t4) ?_;refine hK.out _ _ (bq.trans (jT.below bq.size fun b hb e=>by omega)) fun hH=>?_;clear hK K hH
      (try simp only [Ba,AE,AF,AG,AH,AI,AJ])
      refine Au (rs:=[12]) (by decide +kernel) (by simp) (Bb rfl (fun K hK=>?_) Bc);rw [if_pos (by rfl)];refine Aw 67 _ _ rfl ua (zAq an.code an.stat (.slice dA an.data.length dc) (.slice eA an.ents.length ec)).toArray rfl rfl 67 _ (kA.row_far (fun e=>gR.o e.symm) _) rfl rfl (zEf _ _ _ _ _ _ _ _) ?_;refine hK.out _ _ (bq.trans ((jT.setRow (g:=ua) (fun _=>jS.o) _).below bq.size fun b hb e=>by omega)) fun hH=>?_;clear hK K hH
      (try simp only [Ba,AE,AF,AG,AH,AI,AJ])
      refine Ax (by kernel_rfl) ?_ _;go_wp2;go_meet;exact gS.o
    case rest =>
     obtain⟨ub,ua,t6,dA2,dc2,eA2,ec2,rfl,rfl,hU,-,jU,-,fP,kV,-⟩:=hcut;generalize wc=w8 at *;have gT:=jO.o.fresh fP;have jV:=fO.o.fresh fP
     go_upto_region 8 with (first
      | (refine ldT hU rfl rfl rfl ?_)
      | (refine stT t6 gT rfl rfl rfl (by rfl) rfl ?_))
     have gU:Chg (fun b=>b=h) w8 (w8.setRow h (zAa t6).toArray):=(Bd (fun b=>b=h) w8).setRow (fun _=>rfl) _
     have jW:zDs w w8 (fun b=>b=g∨b=h) p mb ((PT.new n m).after l (k+1)) ((PT.new n m).after l (k+1)) t6:=by
      rw [fI.o,jQ.o];have jX:=fU.o;rw [jQ.o] at jX;exact⟨own7,lay7,jX.fresh fP,jU,fun b hb=>⟨Aa (fN.o b hb).1 fP.size,(fN.o b hb).2⟩,gN.o,fB.o.trans (fP.mono fB.o.size)⟩
     have kO:=hid (jW.chg gU (fun b e=>.inr e) (fun b e=>by omega));have kP:=hid (Ay w8 h _ (zAa t6).toArray _ _ gT);have kQ:=hid (jV.chg gU (by omega));clear hU jU fP gT jV gU jW;go_wp2;go_roundw
     case rel=>exact⟨k+1,by omega,by go_num,t6,kQ.o,kP.o,kO.o⟩
     case measure=>simp [intOf];omega
  · obtain rfl:k=len:=by omega
    have t1:decide ((k:Int)<(k:Int))=false:=by simp
    have jY:(PT.new n m).after l k=(PT.new n m).runs (l.map (·.o)):=after_all (PT.new n m) l k fG.o.symm;rw [jY] at fH;have fM:=hid fZ;have fD:=hid fY;have gV:=hid fH;clear fZ fY fH jY jD;go_upto_region 12 with (fail);refine As (S:=fun w'=>Blk w' h 28 (zAa t)) (by kernel_rfl) fM.o fun hH=>?_;refine tk 0 (.pointer (some ⟨p,0,none⟩)) rfl (.inl ⟨by rfl,fun _ _=>by go_simp⟩) hH ?_
    (try simp only [Ba,AE,AF,AG,AH,AI,AJ])
    refine tk 1 (.agg (zAa t).toArray) rfl (At (by rfl) 28 _ rfl h 0 rfl (zAa t) _ (fun _ hw=>zBq hw) Ag rfl rfl) hH ?_
    (try simp only [Ba,AE,AF,AG,AH,AI,AJ])
    refine tk 2 (.pointer (some ⟨p,0,none⟩)) rfl (.inl ⟨by rfl,fun _ _=>by go_simp⟩) hH ?_
    (try simp only [Ba,AE,AF,AG,AH,AI,AJ])
    refine Au (rs:=[3]) (by kernel_rfl) (by simp) (Bb rfl (fun K hK=>?_) Bc);rw [if_pos (by rfl)];refine Aw 28 _ _ rfl g (zAa t).toArray rfl rfl 28 _ fD.o rfl rfl (zCm t) ?_;refine hK.out _ _ (Blk.row_far hH (by omega) _) fun hH=>?_;clear hK K
    (try simp only [Ba,AE,AF,AG,AH,AI,AJ])
    refine Ax (by kernel_rfl) ?_ _;clear hH;go_wp2;have gW:=Ay wr.drew g _ (zAa t).toArray _ _ fD.o;have kR:Chg (fun b=>b=g) wr (wr.drew.setRow g (zAa t).toArray):=((Bd (fun b=>b=g) wr).drew).setRow (fun _=>rfl) _;refine Az (zEr rfl _ _ g 28 (zAa t).toArray (0,0) _ rfl gW Ag rfl (by kernel_rfl)) rfl ?_;rw [←kC.o];exact⟨p,mb,t,rfl,(gV.o.chg kR (fun b e=>.inl e) (fun b e=>by omega)).less fun _ h=>h.elim⟩
theorem blk_s7 {w:World} {g:Nat} {c s0 s1 s2 s3 s4 s5:Int} {d e:Value} (h:Blk w g 67 [.int .i64 c,.int .i64 s0,.int .i64 s1,.int .i64 s2,.int .i64 s3,.int .i64 s4,.int .i64 s5,d,e,.bool false]):w.cell? ⟨g,1,none⟩=some (.int .i64 s0)∧w.cell? ⟨g,2,none⟩=some (.int .i64 s1)∧w.cell? ⟨g,3,none⟩=some (.int .i64 s2)∧w.cell? ⟨g,4,none⟩=some (.int .i64 s3)∧w.cell? ⟨g,5,none⟩=some (.int .i64 s4)∧w.cell? ⟨g,6,none⟩=some (.int .i64 s5):=⟨h.cell 1,h.cell 2,h.cell 3,h.cell 4,h.cell 5,h.cell 6⟩
theorem TldW.lts {w0 w:World} {B:Nat} {T:PT} {v vi:Value} {l:List Nd} {js:List Nat} (h:TldW w0 w B T v vi l js):∀ b,TS B v vi b→b<w.heap.size:=fun b hb=>(h.ts b hb).2
def ListU (w0:World) (B:Nat) (w2:World) (v vi:Value) (T:PT) (f:Nat) (ns:List ByteArray) (names:List (ByteArray×Nat)) (s:DS) (N:Nat) (o i:Value) (wr:World):Prop :=
 ∃ k:Nat,k≤N∧i=.int .i64 (k:Int)∧((∃ s' v' vi' l' js',o=.bool true∧TldAt w0 wr B T v' vi' l' js' s'∧GrU B w2 v vi wr v' vi'∧zCz T (zAQ T f) ns names s=zCz T (zAQ T f) ns (names.drop k) s'∧s'.nodes.length+(tlE T (tl T f) ns (names.drop k)).length≤1000000) ∨
  (∃ s' ek,o=.bool false∧ek≠0∧zCz T (zAQ T f) ns names s=(s',ek)∧Below w0.heap.size w0 wr∧wr.cell? ⟨B,6,none⟩=some (.int .i64 (ek:Int))))
theorem zFH (w0:World) (B:Nat) (T:PT) (hI:T.Inv) (ns:List ByteArray) (s:DS) (v vi:Value) (l:List Nd) (js:List Nat) (w:World) (hD:TldAt w0 w B T v vi l js s) (fA:400<(pth ns).size) :
 Calls Af 34 #[.pointer (some ⟨B,0,none⟩),.string (pth ns)] w (TldP w0 B T v vi w (s,70)):=by
 obtain⟨t,hk,hR⟩:=hD.mem.blk;have fB:=uask_L (TS B v vi) B v vi t T (pth ns) (.err 70) w (zHL fA) hk hR hD.mem.lts (.inl rfl) hI;have fC:=hid hD.mem.below;have fP:=hD.mem.hB;obtain⟨x,hx⟩:=nM (pth ns);rw [hx] at fB ⊢;clear hx hD hk hR fA;go_enter Tryz.func34,Tryz.ntmps34
 go_upto_region 2 with (first
  | (go_at_call 54;refine fB.mono ?_;rintro e w1 ⟨t1,va,rfl,hA,fD,fN,fE⟩;obtain⟨dA,dc,eA,ec,rfl,fO,fG,-,fH⟩:=hA;simp only [Ans.err,AK] at fD fG fH ⊢;have fI:=B8 w1 67 zAk)
  | (refine stA 70 st0 (.slice dA 0 dc) (.slice eA 0 ec) fI rfl rfl rfl (by rfl) rfl rfl rfl ?_))
 have fF:Below w1.heap.size w1 ((w1.alloc (.cells zAk.toArray 67)).setRow w1.heap.size (zAq 70 st0 (.slice dA 0 dc) (.slice eA 0 ec)).toArray):=((Bd (fun b=>w1.heap.size≤b) w1).alloc _ |>.setRow (fun _=>Ac _) _).below nr fun b hb e=>by omega
 have fJ:=fD.fresh fF;have fK:=hid (show _=some (Value.int .i64 70) from fJ.cell 6);have fL:=hid (fC.o.trans ((fE.below fC.o.size fun b hb e=>by omega).trans (fF.mono (by have:=fE.size;have:=fC.o.size;omega))));change B9 _ _ _ _ ((w1.alloc (.cells zAk.toArray 67)).setRow w1.heap.size (zAq 70 st0 (.slice dA 0 dc) (.slice eA 0 ec)).toArray);generalize (w1.alloc (.cells zAk.toArray 67)).setRow w1.heap.size (zAq 70 st0 (.slice dA 0 dc) (.slice eA 0 ec)).toArray=w2 at *;clear fB fD fJ fN fE fF fI fO fG fH;go_wp2
 go_loopw [6,7] (fun o i wr'=>o=.bool false∧i=.int .i64 0∧Hid (Below w2.heap.size w2 wr')) (fun _ _ _=>0)
 case atStart=>exact⟨by simp,rfl,hid br⟩
 case round =>
  obtain⟨rfl,rfl,fM⟩:=hrel;go_wp2;go_ret;refine⟨rfl,fL.o.trans (fM.o.mono fL.o.size),fun h=>absurd h (by simp),fun _=>?_⟩;exact (fM.o.cell (p:=⟨B,6,none⟩) (An _ _ fK.o)).trans fK.o
theorem uwalk_any (w0:World) (B:Nat) (T:PT) (hI:T.Inv) (f:Nat):∀ (ns:List ByteArray) (i:Nat) (n:PN) (s:DS) (v vi:Value) (l:List Nd) (js:List Nat) (w:World),TldAt w0 w B T v vi l js s→T.walk ns 1=(i,0)→zAe i T.nodes=some n→n.dir=true→(∀ x∈ns,chk x=true)→(pth ns).size≤1000→202≤ns.length+f→s.nodes.length+(tl T f ns i).length≤1000000 →
 Calls Af 34 #[.pointer (some ⟨B,0,none⟩),.string (pth ns)] w (TldP w0 B T v vi w (zAQ T f ns i s)):=by
 induction f with
 | zero =>
  intro ns i n s v vi l js w hD hw hg hd hc mV hf _;have h1:=zIN hc;have h2:=zDB (ns:=ns) (fun e=>by subst e;simp at hf);exact zFH w0 B T hI ns s v vi l js w hD (by omega)
 | succ f ih =>
  intro ns i n s v vi l js w hD hw hg hd hc mV hf gN;have hu:zAQ T (f+1) ns i s=if 400<(pth ns).size then (s,70) else zCz T (zAQ T f) ns (T.node i).names s:=rfl;by_cases fF:400<(pth ns).size
  · rw [hu,if_pos fF];exact zFH w0 B T hI ns s v vi l js w hD fF
  rw [hu,if_neg fF,zAn hg]
  have lX:tl T (f+1) ns i=tlE T (tl T f) ns n.names:=by
   show tlE T (tl T f) ns (T.node i).names=_
   rw [zAn hg]
  rw [lX] at gN;clear hu lX
  have mW:(pth ns).size≤400:=by omega
  have gO:T.isDir i=true:=by rw [zAm hg];exact hd
  have jY:=zJn (T:=T) (zFj hc mW) hw gO;obtain⟨es,jI⟩:=nM ((n.names.map fun p=>(p.1,p.2,(T.node p.2).kind)))
  have lY:T.list i=⟨0,st0,[],es⟩:=by unfold PT.list;rw [if_pos gO,zAn hg,jI]
  rw [lY] at jY;obtain⟨t,hk,hR⟩:=hD.mem.blk;have fL:=uask_L (TS B v vi) B v vi t T (pth ns) _ w jY hk hR hD.mem.lts (.inl rfl) hI
  have hN:es.length=n.names.length:=by rw [←jI,AL]
  have oT:n.names.length≤1068:=by have h1:=(hI.gr.ok.get hg).1.nlen;have h2:=(hI.gr.ok.get hg).1.slots;omega
  obtain⟨N,jZ⟩:=nM (es.length);rw [jZ] at hN;have gP:=hid hD;have lZ:=hid hN;have fV:=hid jZ;have kA:=hid jI;have oU:=hD.mem.ts B (.inl rfl);clear lY jY hD hN jI jZ hk hR;obtain⟨x,hx⟩:=nM (pth ns);rw [hx] at fL ⊢;have mA:=hid hx;clear hx;obtain⟨Q,hQ⟩:=nM (TldP w0 B T v vi w (zCz T (zAQ T f) ns n.names s));rw [hQ];have kC:=hid hQ;clear hQ;go_enter Tryz.func34,Tryz.ntmps34
  go_upto_region 2 with (first
   | (go_at_call 54;refine fL.mono ?_;rintro e w1 ⟨t1,va,rfl,hA,gJ,mB,kD⟩;obtain⟨dA,dc,eA,ec,rfl,mX,kE,-,kF⟩:=hA;simp only [Ans.err,AK,fV.o] at gJ kE kF ⊢;have kG:=B8 w1 67 zAk)
   | (refine stA 0 st0 (.slice dA 0 dc) (.slice eA N ec) kG rfl rfl rfl (by rfl) rfl rfl rfl ?_))
  have mC:Blk ((w1.alloc (.cells zAk.toArray 67)).setRow w1.heap.size (zAq 0 st0 (.slice dA 0 dc) (.slice eA N ec)).toArray) w1.heap.size 67 (zAq 0 st0 (.slice dA 0 dc) (.slice eA N ec)):=Ay (w1.alloc (.cells zAk.toArray 67)) w1.heap.size _ (zAq 0 st0 (.slice dA 0 dc) (.slice eA N ec)).toArray _ _ kG
  have gQ:Below w1.heap.size w1 ((w1.alloc (.cells zAk.toArray 67)).setRow w1.heap.size (zAq 0 st0 (.slice dA 0 dc) (.slice eA N ec)).toArray):=((Bd (fun b=>w1.heap.size≤b) w1).alloc _ |>.setRow (fun _=>Ac _) _).below nr fun b hb e=>by omega
  have kI:TldAt w0 w1 B T v vi l js s:=⟨gP.o.mem.turn kD gJ mB,gP.o.tn,gP.o.fst,gP.o.fne,gP.o.len⟩;have mY:=hid (kI.fresh gQ);have mZ:Hid (GrU B w v vi ((w1.alloc (.cells zAk.toArray 67)).setRow w1.heap.size (zAq 0 st0 (.slice dA 0 dc) (.slice eA N ec)).toArray) v vi):=hid (GrU.one (kD.trans (Be (S:=fun b=>b=B) gQ) (fun _ _ h=>h) (fun _ _ h=>h)));have kJ:=hid ((kE.below gQ).more gQ.size);have oA:Hid (∀ b off,eA=some ⟨b,off,none⟩→0<N→¬TS B v vi b):=hid fun b off e hn=>kF hn ⟨b,off,none⟩ e;have oB:Hid (∀ b,TS B v vi b→b<w1.heap.size):=hid fun b hb=>kI.mem.lts b hb;change B9 _ _ _ _ ((w1.alloc (.cells zAk.toArray 67)).setRow w1.heap.size (zAq 0 st0 (.slice dA 0 dc) (.slice eA N ec)).toArray);generalize (w1.alloc (.cells zAk.toArray 67)).setRow w1.heap.size (zAq 0 st0 (.slice dA 0 dc) (.slice eA N ec)).toArray=w2 at *;generalize w1.heap.size=z at *;have gR:=hid mC;clear fL kG gQ kD gJ mB kE mX kF mC kI;go_wp2
  go_loopw [6,7] (fun o i wr'=>ListU w0 B w2 v vi T f ns n.names s N o i wr') (fun _ i _=>N-(intOf i).toNat)
  case atStart=>exact⟨0,Ab _,rfl,.inl ⟨s,v,vi,l,js,by simp,mY.o,GrU.fresh v vi br,rfl,gN⟩⟩
  case round =>
   obtain⟨k,hk,rfl,fE⟩:=hrel;rcases fE with ⟨s',v',vi',l',js',rfl,hD',hG',fE,hcn⟩ | ⟨s',ek,rfl,mD,fE,gS,hcd⟩;rotate_left
   · have fC:=hid fE;have kK:=hid gS;have kL:=hid hcd;clear fE gS hcd;go_wp2;rw [←kC.o,fC.o];exact⟨by simp [mD],kK.o,fun h=>absurd h mD,fun _=>kL.o⟩
   have oV:z<w2.heap.size:=gR.o.lt
   have oC:¬TS B v vi z:=fun h=>by have:=oB.o z h;omega
   have kM:=gR.o.chg hG'.chg oC;have q8:=kM.cell 8;simp only [zAq,AM,AN] at q8;by_cases jJ:k<N;rotate_left
   · obtain rfl:k=N:=by omega
     have t1:decide ((k:Int)<(k:Int))=false:=by simp
     have gT:zCz T (zAQ T f) ns n.names s=(s',0):=by rw [fE,AO (by rw [←lZ.o];exact Ac _)];rfl
     have gU:=hid gT;have mE:=hid hD';have oD:=hid hG';clear gT fE hcn hD' hG' kM;go_wp2;rw [←kC.o,gU.o];exact⟨rfl,mE.o.mem.below,fun _=>⟨v',vi',l',js',mE.o,mZ.o.trans oD.o⟩,fun h=>absurd rfl h⟩
   have t1:decide ((k:Int)<(N:Int))=true:=by simpa using jJ
   have kN:k<n.names.length:=by rw [←lZ.o];exact jJ
   obtain⟨nm,j,jK⟩:∃ nm j,n.names[k]=(nm,j):=⟨_,_,rfl⟩
   have mF:n.names.drop k=(nm,j)::n.names.drop (k+1):=by rw [AP kN,jK]
   rw [mF] at fE hcn
   have gV:(nm,j)∈n.names:=by rw [←jK];exact AD _
   have jL:=zAU (hI.gr.ok.get hg).1.nris.nd gV;obtain⟨m,fW⟩:=hI.gr.ents _ _ _ _ hg jL;have fM:=hI.gr.names _ _ _ _ hg jL;have kO:T.walk (ns++[nm]) 1=(j,0):=zCB.2 ⟨i,hw,n,hg,hd,jL⟩
   have kP:∀ y∈ns++[nm],chk y=true:=fun y hy=>by
    rcases AQ.1 hy with hy | hy
    · exact hc y hy
    · rw [AR.1 hy];exact fM
   have gW:(pth (ns++[nm])).size≤1000:=by have h1:=zFd ns nm;have h2:nm.size≤40:=zCX fM;omega
   have mG:zCz T (zAQ T f) ns ((nm,j)::n.names.drop (k+1)) s'=if (zFl T (zAQ T f) (ns++[nm]) j s').2≠0 then zFl T (zAQ T f) (ns++[nm]) j s' else zCz T (zAQ T f) ns (n.names.drop (k+1)) (zFl T (zAQ T f) (ns++[nm]) j s').1:=rfl;rw [mG] at fE;have fN:=zJB (T:=T) (f:=f) (ns:=ns++[nm]) (j:=j) (s:=s')
   have gX:(tlE T (tl T f) ns ((nm,j)::n.names.drop (k+1))).length=1+((if T.isDir j=true then (tl T f (ns++[nm]) j).length else 0)+(tlE T (tl T f) ns (n.names.drop (k+1))).length):=by
    rw [tlE];simp only [AS,AT]
    split
    · omega
    · simp;omega
   rw [gX] at hcn;have hu:zFl T (zAQ T f) (ns++[nm]) j s'=if 400<(pth (ns++[nm])).size then (s',70) else if T.isDir j=true then zAQ T f (ns++[nm]) j (T.step s' (ns++[nm],j)) else (T.step s' (ns++[nm],j),0):=rfl;obtain⟨r,hr⟩:=nM (zFl T (zAQ T f) (ns++[nm]) j s');rw [hr] at fE fN hu;obtain⟨s2,c2⟩:=r;simp only at fE fN
   have kQ:es[k]'(by rw [fV.o];exact jJ)=(nm,j,m.kind):=by
    simp only [←kA.o,AU,jK,zAn fW]
   obtain⟨b,off,oE,gS,fI⟩:=kJ.o.at_ (by omega);subst oE;have mH:=oA.o b off rfl (by omega);have kR:=fun jj (hj:jj<3)=>zDb zBn 3 es (fun _ _=>rfl) k (by rw [fV.o];exact jJ) jj hj;have e0:=fI (k * 3+0) (.string nm) (by rw [kR 0 (by omega),kQ];rfl);have e2:=fI (k * 3+2) (.int .i64 m.kind) (by rw [kR 2 (by omega),kQ];rfl);have g0:=(hG'.chg.cell (p:=⟨b,off+(k * 3+0),none⟩) gS mH).trans e0;have g2:=(hG'.chg.cell (p:=⟨b,off+(k * 3+2),none⟩) gS mH).trans e2;rw [show off+(k * 3+0)=off+k * 3 by omega] at g0;rw [show off+(k * 3+2)=off+k * 3+2 by omega] at g2;have gK:=zKe x nm
   have oF:x.size≤1000000:=by rw [←mA.o];omega
   have oG:nm.size≤1000000:=by have h2:nm.size≤40:=zCX fM;omega
   rw [show zKC x nm=pth (ns++[nm]) by rw [←mA.o];exact zI4 hc nm] at gK;obtain⟨y,hy⟩:=nM (pth (ns++[nm]));rw [hy] at gK hu gW;have gK:=fun W=>gK W oF oG;have fT:=hid hy;obtain⟨A8,c8,oH,-⟩:=Bf (B:=wr.heap.size) hD'.mem.own.row fun g hg=>(hD'.mem.own.row.lt g hg).2;subst oH;obtain⟨Ai,ci,oI,-⟩:=Bf (B:=wr.heap.size) hD'.mem.ino fun g hg=>(hD'.mem.ino.lt g hg).2;subst oI;have fJ:=hid hD'.mem;have fA:=hid hD';have mI:=hid hG';have fC:=hid fE;have fU:=hid fN;have fO:=hid hcn;have mJ:=hid hu;have fX:=zAm fW;have oW:=(hD'.mem.ts B (.inl rfl)).2;have s0:(((0:Nat):Int)==0)=true:=rfl;have kS:Hid (∀ W,Below wr.heap.size wr W→W.cell? ⟨z,8,none⟩=some (.slice (some ⟨b,off,none⟩) N ec)∧W.cell? ⟨b,off+k * 3,none⟩=some (.string nm)∧W.cell? ⟨b,off+k * 3+2,none⟩=some (.int .i64 m.kind)):=hid fun W hW=>⟨(hW.cell (p:=⟨z,8,none⟩) (An _ _ q8)).trans q8,(hW.cell (p:=⟨b,off+k * 3,none⟩) (An _ _ g0)).trans g0,(hW.cell (p:=⟨b,off+k * 3+2,none⟩) (An _ _ g2)).trans g2⟩
   have b0:(0:Int)≤(k:Int):=by omega
   have kT:=Ao wr _ q8;have kU:=Ao wr _ g0;have kV:=Ao wr _ g2;clear mG fN hcn gX kQ kR e0 e2 fI fE hD' hG' mF jK gV jL fM hy hr kM hu;go_upto_region 5 with (fail)
   go_cut [8] from 27 to 41 (fun c8 wx=>∃ ub,c8=.pointer (some ⟨ub,0,none⟩)∧Hid (wr.heap.size≤ub)∧Hid (Blk wx ub 75 [.string y,.int .i64 m.kind,.int .i64 0,.string ⟨#[]⟩,.slice none 0 0])∧Hid (Below wr.heap.size wr wx))
   case first =>
    go_region_held3 (fun w'=>w'.cell? ⟨z,8,none⟩=some (.slice (some ⟨b,off,none⟩) N ec)∧w'.cell? ⟨b,off+k * 3,none⟩=some (.string nm)∧w'.cell? ⟨b,off+k * 3+2,none⟩=some (.int .i64 m.kind))
     (first | go_keep)
     (first
      | (go_at_call 55;refine (gK _).mono ?_;rintro e w' ⟨rfl,rfl⟩))
    all_goals go_wp2
    all_goals go_meet
    all_goals exact⟨_,rfl,hid nr,hid (B8 wr 75 [.string y,.int .i64 m.kind,.int .i64 0,.string ⟨#[]⟩,.slice none 0 0]),hid ((br.alloc nr _).drew)⟩
   case rest =>
    obtain⟨ub,rfl,mK,kW,jM⟩:=hcut;generalize wc=w5 at *;go_upto_region 7 with (fail);have jN:Below wr.heap.size wr (w5.alloc (.cells zAk.toArray 67)):=jM.o.alloc jM.o.size _;have kX:=B8 w5 67 zAk;have kY:=kW.o.alloc (.cells zAk.toArray 67);have oJ:ub<w5.heap.size:=kW.o.lt;change B9 _ _ _ _ (w5.alloc (.cells zAk.toArray 67));generalize w5.alloc (.cells zAk.toArray 67)=w6 at *;clear kW;have oX:=jM.o.size;clear jM;generalize w5.heap.size=ua at *;obtain⟨t2,mL,mM⟩:=fJ.o.blk;have fY:Hid (∀ b,TS B (.slice A8 l'.length c8) (.slice Ai js'.length ci) b→b<wr.heap.size):=hid fJ.o.lts;have jO:=mL.fresh jN
    have jP:RefS (fun b=>TS B (.slice A8 l'.length c8) (.slice Ai js'.length ci) b∨b=ub∨b=ua) w6 t2 T:=mM.wide jN fun b hb=>by
     have:=mK.o;rcases hb with h | h | h
     · exact .inl h
     · exact .inr (by omega)
     · exact .inr (by omega)
    have jQ:∀ b,(TS B (.slice A8 l'.length c8) (.slice Ai js'.length ci) b∨b=ub∨b=ua)→b<w6.heap.size:=fun b hb=>by
     have h9:=kX.lt;rcases hb with h | h | h
     · have:=fY.o b h;omega
     · omega
     · omega
    have oY:=mK.o;have kZ:=hid kY;have gY:=hid kX;have fP:=hid jN;have n0:=kY.cell 0;simp only [AN] at n0;clear mL mM kY kX jN g0 g2 q8 gK kS kT kU kV;by_cases fB:400<y.size
    · have fL:=uask_S (fun b=>TS B (.slice A8 l'.length c8) (.slice Ai js'.length ci) b∨b=ub∨b=ua) B (.slice A8 l'.length c8) (.slice Ai js'.length ci) t2 T y (.err 70) w6 (zHM fB) jO jP jQ (.inl (.inl rfl)) hI;have fZ:=mJ.o;rw [if_pos fB] at fZ;have jR:=hid fZ;clear fZ jO jP jQ fB
      go_upto_region 8 with (first
       | (go_at_call 54;refine fL.mono ?_;rintro e w7 ⟨t7,va,rfl,hA,gA,jS,fQ⟩;obtain⟨dA2,dc2,eA2,ec2,rfl,-,-,-,-⟩:=hA;simp only [Ans.err,AK] at gA ⊢;have gL:=gY.o.chg fQ (by omega))
       | (refine stA 70 st0 (.slice dA2 0 dc2) (.slice eA2 0 ec2) gL rfl rfl rfl (by rfl) rfl rfl rfl ?_))
      have gB:Chg (fun b=>b=ua) w7 (w7.setRow ua (zAq 70 st0 (.slice dA2 0 dc2) (.slice eA2 0 ec2)).toArray):=(Bd (fun b=>b=ua) w7).setRow (fun _=>rfl) _;have mN:Below w0.heap.size w0 (w7.setRow ua (zAq 70 st0 (.slice dA2 0 dc2) (.slice eA2 0 ec2)).toArray):=((fJ.o.below.trans (fP.o.mono fJ.o.below.size)).trans (fQ.below (by have:=fJ.o.below.size;have:=fP.o.size;omega) fun b hb e=>by have:=fJ.o.hB;omega)).trans (gB.below (by have:=fJ.o.below.size;have:=fP.o.size;have:=fQ.size;omega) fun b hb e=>by have:=fJ.o.below.size;omega);have mO:=(gA.chg gB (by omega)).cell 6;have lA:=hid mN;have lB:=hid mO;clear mN mO gB fL gA jS fQ gL n0;go_wp2;rw [←kC.o,fC.o];injection jR.o with h1 h2;subst h1 h2;rw [if_pos (by simp)];exact⟨rfl,lA.o,fun h=>absurd h (by simp),fun _=>lB.o⟩
    have gZ:y.size≤400:=by omega
    have fZ:=mJ.o;rw [if_neg fB,fX] at fZ;have jR:=hid fZ
    have jA:T.stat j=⟨j,m.kind,m.links,m.size,m.made,m.count⟩:=by unfold PT.stat;rw [fW]
    have lC:=zJx (T:=T) (zFj kP (by rw [fT.o];exact gZ)) kO;rw [jA,fT.o] at lC;have fL:=uask_S (fun b=>TS B (.slice A8 l'.length c8) (.slice Ai js'.length ci) b∨b=ub∨b=ua) B (.slice A8 l'.length c8) (.slice Ai js'.length ci) t2 T y _ w6 lC jO jP jQ (.inl (.inl rfl)) hI;clear fZ jO jP jQ fB lC jA
    go_upto_region 10 with (first
     | (go_at_call 54;refine fL.mono ?_;rintro e w7 ⟨t7,va,rfl,hA,gA,jS,fQ⟩;obtain⟨dA2,dc2,eA2,ec2,rfl,-,-,-,-⟩:=hA;simp only [AK] at gA ⊢;have gL:=gY.o.chg fQ (by omega))
     | (refine stA 0 ⟨j,m.kind,m.links,m.size,m.made,m.count⟩ (.slice dA2 0 dc2) (.slice eA2 0 ec2) gL rfl rfl rfl (by rfl) rfl rfl rfl ?_))
    change B9 _ _ _ _ (w7.setRow ua (zAq 0 ⟨j,m.kind,m.links,m.size,m.made,m.count⟩ (.slice dA2 0 dc2) (.slice eA2 0 ec2)).toArray);have gB:Chg (fun b=>b=ua) w7 (w7.setRow ua (zAq 0 ⟨j,m.kind,m.links,m.size,m.made,m.count⟩ (.slice dA2 0 dc2) (.slice eA2 0 ec2)).toArray):=(Bd (fun b=>b=ua) w7).setRow (fun _=>rfl) _;have lD:Blk (w7.setRow ua (zAq 0 ⟨j,m.kind,m.links,m.size,m.made,m.count⟩ (.slice dA2 0 dc2) (.slice eA2 0 ec2)).toArray) ua 67 (zAq 0 ⟨j,m.kind,m.links,m.size,m.made,m.count⟩ (.slice dA2 0 dc2) (.slice eA2 0 ec2)):=Ay _ _ _ _ _ _ gL;generalize w7.setRow ua (zAq 0 ⟨j,m.kind,m.links,m.size,m.made,m.count⟩ (.slice dA2 0 dc2) (.slice eA2 0 ec2)).toArray=w8 at *;have jT:=(kZ.o.chg fQ (by omega)).chg gB (by omega);have x5:w8.cell? ⟨ua,5,none⟩=some (.int .i64 (m.made:Int)):=lD.cell 5;have n2:w8.cell? ⟨ub,2,none⟩=some (.int .i64 0):=jT.cell 2;have nf2:=jT.frozen 2;clear fL gL n0;go_upto_region 11 with (fail);change B9 _ _ _ _ (w8.setCell ⟨ub,2,none⟩ (.int .i64 (m.made:Int)));have lE:Chg (fun b=>b=ub) w8 (w8.setCell ⟨ub,2,none⟩ (.int .i64 (m.made:Int))):=(Bd (fun b=>b=ub) w8).setCell (p:=⟨ub,2,none⟩) (fun _=>rfl) _;have jU:=hid (show Blk _ ub 75 [.string y,.int .i64 m.kind,.int .i64 (m.made:Int),.string ⟨#[]⟩,.slice none 0 0] from jT.set_ 2 (.int .i64 (m.made:Int)));have mP:=hid (lD.chg lE (by omega));have fR:Chg (fun b=>b=ub∨b=ua) w7 (w8.setCell ⟨ub,2,none⟩ (.int .i64 (m.made:Int))):=gB.trans lE (fun _ _ h=>.inr h) (fun _ _ h=>.inl h);have jV:Hid (Chg (fun b=>b=B) wr (w8.setCell ⟨ub,2,none⟩ (.int .i64 (m.made:Int)))):=hid (((Be (S:=fun b=>b=B) fP.o).trans fQ (fun _ _ h=>h) (fun _ _ h=>h)).trans fR (fun _ _ h=>h) fun b hb h=>by omega);have jB:=hid (fJ.o.turn jV.o (gA.chg fR (by omega)) ((jS.chg (fR.mono fun b _ h=>.inr h)).mono fun _ h=>.inl h));clear gB lE fR lD jT x5 n2 nf2 gA jS fQ;generalize w8.setCell ⟨ub,2,none⟩ (.int .i64 (m.made:Int))=wa at *;have e1:wa.cell? ⟨ub,1,none⟩=some (.int .i64 m.kind):=jU.o.cell 1;have oK:Hid (TldAt w0 wa B T (.slice A8 l'.length c8) (.slice Ai js'.length ci) l' js' s'):=hid ⟨jB.o,fA.o.tn,fA.o.fst,fA.o.fne,fA.o.len⟩;have oL:=hid (show l'.length=s'.nodes.length by have:=congrArg AV fA.o.tn;simpa using this)
    have oM:l'.length≤1000000:=by have:=oL.o;have:=fO.o;omega
    have oZ:js'.length≤1000000:=by have:=fA.o.len;omega
    have pA:IntKind.i64.wrap ((k:Int)+1)=((k+1:Nat):Int):=by rw [IntWalk.i64_in _ (by omega)];omega
    have pB:=(hI.gr.ok.get fW).2;have pC:=hI.gr.ok.ino;by_cases fK:m.dir=true
    · have mQ:(m.kind==2)=true:=by unfold PN.kind;rw [fK];rfl
      have gC:=jR.o;rw [if_pos fK] at gC;have oN:=hid gC;have oO:Hid (wa.ownsRow wr.heap.size 5 1 (ndV ⟨y,m.kind,m.made,⟨#[]⟩,none,0,[]⟩) 0 []):=hid (Ap _ _ _ _);clear gC;obtain⟨tA,jC,-⟩:=jB.o.blk;have lF:=hid jC;obtain⟨-,-,-,-,y4,-,-⟩:=zEe jC;have y4':=(jC.alloc (.cells [.string y,.int .i64 m.kind,.int .i64 (m.made:Int),.string ⟨#[]⟩,.slice none 0 0].toArray 75)).cell 4;simp only [zDd,AM,AN] at y4';obtain⟨e0,e1,e2,e3,e4⟩:=zDi jU.o;have oP:B<wa.heap.size:=jC.lt;have gM:Hid (Below wa.heap.size wa (wa.alloc (.cells [.string y,.int .i64 m.kind,.int .i64 (m.made:Int),.string ⟨#[]⟩,.slice none 0 0].toArray 75)).drew):=hid ((br.alloc nr _).drew);have jD:=hid (zAC jB.o.own.row gM.o);have jE:=hid (zA3 (P:=Af) (tx:=31) Aj (Blk.drew (B8 wa 75 [.string y,.int .i64 m.kind,.int .i64 (m.made:Int),.string ⟨#[]⟩,.slice none 0 0])) (by intro u hu;simp only [AW,AX,or_false] at hu;rcases hu with rfl | rfl | rfl | rfl | rfl<;>rfl));have lG:Hid (∀ g,(Value.slice A8 l'.length c8).ownBlock=some g→B+1≤g):=hid fun g hg=>(jB.o.own.row.lt g hg).1;obtain⟨iN,oQ,lH,lI,lJ⟩:=AA zED;clear jC;go_upto_region 12 with (fail)
      go_cut [] from 59 to 68 (fun wx=>Push1 w0 wa B T (.slice A8 l'.length c8) (.slice Ai js'.length ci) l' js' ⟨y,m.kind,m.made,⟨#[]⟩,none,0,[]⟩ wx)
      case first =>
       go_region_law (refine zBc _ (by rfl) (.tmp 63) (.tmp 65) _ _ (by rfl) (B+1) 75 iN _ 5 72 Aj oQ lH lI lJ rfl (.slice A8 l'.length c8) l'.length (ncs l') (by rfl) jD.o 1 [.string y,.int .i64 m.kind,.int .i64 (m.made:Int),.string ⟨#[]⟩,.slice none 0 0] jE.o (by unfold maxLen;omega) (by omega) (by simp;omega) ?_;intro v4 w4 fS gD fG;have gE:=((lF.o.fresh gM.o).law gD (fun e=>by have:=lG.o _ e;omega));obtain⟨A9,c9,lK,-⟩:=Bf (B:=w4.heap.size) fS fun g hg=>(fS.lt g hg).2;subst lK;have z4:=gE.cell 4;have f4:=gE.frozen 4;simp only [zDd,AM,AN] at z4)
       all_goals
        obtain⟨p1,p2⟩:=TldW.push1 (x:=⟨y,m.kind,m.made,⟨#[]⟩,none,0,[]⟩) fJ.o (jV.o.trans (Be (S:=fun b=>b=B) gM.o) (fun _ _ h=>h) (fun _ _ h=>h)) (jB.o.fresh gM.o) (zAC oO.o gM.o) fS gD fG;have hp:=hid (show Push1 w0 wa B T (.slice A8 l'.length c8) (.slice Ai js'.length ci) l' js' ⟨y,m.kind,m.made,⟨#[]⟩,none,0,[]⟩ _ from ⟨A9,c9,p1,(GrU.fresh _ _ gM.o).trans p2⟩);clear p1 p2 fS gD fG gE;go_wp2;go_meet;exact hp.o
      case rest =>
       obtain⟨A9,c9,jF,gF⟩:=hcut;generalize wc=wb at *;have jW:=hid jF;have mR:=hid gF
       have lL:¬TS B (.slice A8 l'.length c8) (.slice Ai js'.length ci) ua:=fun h=>by have:=fY.o _ h;omega
       have lM:¬TS B (.slice A8 l'.length c8) (.slice Ai js'.length ci) ub:=fun h=>by have:=fY.o _ h;omega
       have c0:_=some (Value.int .i64 (j:Int)):=(mP.o.chg gF.chg lL).cell 1;clear jF gF e0 e1 e2 e3 e4;obtain⟨tB,jG,-⟩:=jW.o.blk;have lN:=hid jG;obtain⟨-,-,-,-,-,y5,-⟩:=zEe jG;have y5':=(jG.alloc (.cells [.int .i64 (j:Int)].toArray 3)).cell 5;simp only [zDd,AM,AN] at y5';have oR:B<wb.heap.size:=jG.lt;have jX:Hid (Below wb.heap.size wb (wb.alloc (.cells #[.int .i64 (j:Int)] 3)).drew):=hid ((br.alloc nr _).drew);have jH:=hid (zAC jW.o.ino jX.o);have lO:Hid (∀ g,(Value.slice Ai js'.length ci).ownBlock=some g→B+1≤g):=hid fun g hg=>(jW.o.ino.lt g hg).1;obtain⟨iI,oS,lP,lQ,lR⟩:=AA zGq;clear jG;go_upto_region 13 with (fail)
       go_cut [] from 69 to 80 (fun wx=>Push2 w0 wb B T (.slice A9 (l'.length+1) c9) (.slice Ai js'.length ci) (l'++[⟨y,m.kind,m.made,⟨#[]⟩,none,0,[]⟩]) js' j wx)
       case first =>
        go_region_law (refine zBc _ (by rfl) (.tmp 73) (.tmp 77) _ _ (by rfl) (B+1) 3 iI _ 1 8 Ak oS lP lQ lR rfl (.slice Ai js'.length ci) js'.length (nats js') (by rfl) jH.o 1 [.int .i64 (j:Int)] (zCj wb Ak _ _ rfl) (by unfold maxLen;omega) (by omega) (by simp;omega) ?_;intro v4 w4 fS gD fG;have gE:=((lN.o.fresh jX.o).law gD (fun e=>by have:=lO.o _ e;omega));obtain⟨A0,c0',lK,-⟩:=Bf (B:=w4.heap.size) fS fun g hg=>(fS.lt g hg).2;subst lK;have z5:=gE.cell 5;have f5:=gE.frozen 5;simp only [zDd,AM,AN] at z5)
        all_goals
         obtain⟨p1,p2⟩:=TldW.push2 (j:=j) (jW.o.fresh jX.o) fS gD fG;have hp:=hid (show Push2 w0 wb B T (.slice A9 (l'.length+1) c9) (.slice Ai js'.length ci) (l'++[⟨y,m.kind,m.made,⟨#[]⟩,none,0,[]⟩]) js' j _ from ⟨_,p1,(GrU.fresh _ _ jX.o).trans p2⟩);clear p1 p2 fS gD fG gE;go_wp2;go_meet;exact hp.o
       case rest =>
        obtain⟨v9,mS,lS⟩:=hcut;generalize wc=wz at *
        have gG:T.step s' (ns++[nm],j)=⟨s'.nodes++[⟨y,m.kind,m.made,⟨#[]⟩,[]⟩],s'.first⟩:=by
         unfold PT.step;rw [if_pos (by rw [fX];exact fK),zAn fW,fT.o];unfold PN.kind;rw [if_pos fK];rfl
        have mT:=fA.o.fst.step (x:=⟨y,m.kind,m.made,⟨#[]⟩,none,0,[]⟩) fA.o.len (ns:=ns++[nm]) (j:=j) fT.o.symm
        have mU:TldAt w0 wz B T (.slice A9 (l'.length+1) c9) v9 (l'++[⟨y,m.kind,m.made,⟨#[]⟩,none,0,[]⟩]) (js'++[j]) (T.step s' (ns++[nm],j)):=by
         refine⟨mS,?_,mT,?_,?_⟩
         · rw [gG,AY,fA.o.tn];rfl
         · rw [gG];exact fA.o.fne
         · rw [AT,AT,fA.o.len];rfl
        have fI:=ih (ns++[nm]) j m _ _ v9 _ _ wz mU kO fW fK kP (by rw [fT.o];exact gW) (by rw [AT,AZ];omega) (by
         rw [zEE];have h2:=fO.o;rw [fX,if_pos fK] at h2;omega)
        rw [fT.o,←oN.o] at fI;have lT:=hid ((mI.o.trans (GrU.one jV.o)).trans (mR.o.trans lS));have z0:_=some (Value.string y):=(jU.o.chg (mR.o.trans lS).chg lM).cell 0;clear gG mT mU mS lS c0;go_wp2_with (go_at_call 34;refine fI.mono ?_;rintro e w9 ⟨rfl,gH,gI,fH⟩);go_roundw
        case rel =>
         refine⟨k+1,by omega,by go_num,?_⟩;by_cases fD:c2=0
         · obtain⟨v3,vi3,l3,js3,lU,lV⟩:=gI fD;refine .inl ⟨s2,v3,vi3,l3,js3,by simp [fD],lU,lT.o.trans lV,?_,?_⟩
           · rw [fC.o,if_neg (by omega)]
           · have h1:=fU.o fD;have h2:=fO.o;omega
         · exact .inr ⟨s2,c2,by simp [fD],fD,by rw [fC.o,if_pos fD],gH,fH fD⟩
        case measure=>simp [intOf];omega
    · have mQ:(m.kind==2)=false:=by unfold PN.kind;simp [fK]
      have gJ:m.kind=1:=by unfold PN.kind;simp [fK]
      have gC:=jR.o;rw [if_neg fK] at gC;have fI:=ufile_any w0 B T (.slice A8 l'.length c8) (.slice Ai js'.length ci) l' js' s' wa hI (ns++[nm]) j m kO fW (by simpa using fK) kP (by rw [fT.o];exact gZ) oK.o oM;rw [fT.o,←gC] at fI;have lW:=jU.o;rw [gJ] at e1 lW mQ;obtain⟨e0,-,e2,e3,e4⟩:=zDi lW;obtain⟨s1,s2',s3,s4,s5,s6⟩:=blk_s7 mP.o;rw [gJ] at s2' fI;have lT:=hid (mI.o.trans (GrU.one jV.o));clear gC lW;go_wp2_with (go_at_call 56;refine fI.mono ?_;rintro e w9 ⟨rfl,gH,gI,fH⟩);go_roundw
      case rel =>
       refine⟨k+1,by omega,by go_num,?_⟩;by_cases fD:c2=0
       · obtain⟨v3,vi3,l3,js3,lU,lV⟩:=gI fD;refine .inl ⟨s2,v3,vi3,l3,js3,by simp [fD],lU,lT.o.trans lV,?_,?_⟩
         · rw [fC.o,if_neg (by omega)]
         · have h1:=fU.o fD;have h2:=fO.o;omega
       · exact .inr ⟨s2,c2,by simp [fD],fD,by rw [fC.o,if_pos fD],gH,fH fD⟩
      case measure=>simp [intOf];omega
theorem udump_any (S:Nat→Prop) (t:Tr) (T:PT) (w:World) (h:RefS S w t T) (hI:T.Inv) (fQ:T.spots.length≤1000000) :
 Calls Af 11 #[.agg (zAa t).toArray] w (zHt T w):=by
 obtain⟨n1,fR,fS⟩:=hI.gr.root;have fG:Below w.heap.size w ((w.alloc (.cells (zAa t).toArray 28)).alloc (.cells (zDd t zAj zAj 0).toArray 94)):=(br.alloc nr _).alloc (by simp) _
 have fJ:Blk ((w.alloc (.cells (zAa t).toArray 28)).alloc (.cells (zDd t zAj zAj 0).toArray 94)) (w.heap.size+1) 94 (zDd t zAj zAj 0):=by
  have:=B8 (w.alloc (.cells (zAa t).toArray 28)) 94 (zDd t zAj zAj 0);simpa using this
 have fK:TldAt w ((w.alloc (.cells (zAa t).toArray 28)).alloc (.cells (zDd t zAj zAj 0).toArray 94)) (w.heap.size+1) T zAj zAj [] [] ⟨[],[]⟩ :=
  ⟨⟨fG,Nat.le_succ _,⟨t,fJ,h.wide fG fun b hb=>by
   rcases hb with e | e | e
   · exact .inr (by omega)
   · cases e
   · cases e⟩,OwnN.nil _ _,Ap _ _ _ _⟩,rfl,fun i _=>rfl,fun i q e=>(by cases e),rfl⟩
 have fC:=uwalk_any w (w.heap.size+1) T hI 202 [] 1 n1 ⟨[],[]⟩ zAj zAj [] [] _ fK rfl fR fS (by simp) (by decide) (by simp) (by
  have:(tl T 202 [] 1).length≤1000000:=fQ;simpa using this)
 rw [show pth []=⟨#[47]⟩ from rfl] at fC;have fH:T.dump=if (zAQ T 202 [] 1 ⟨[],[]⟩).2=0 then ((zAQ T 202 [] 1 ⟨[],[]⟩).1.nodes,0) else ([],(zAQ T 202 [] 1 ⟨[],[]⟩).2):=rfl;obtain⟨r,hr⟩:=nM (zAQ T 202 [] 1 ⟨[],[]⟩);rw [hr] at fC fH;obtain⟨s1,c1⟩:=r;have fL:=hid fH;obtain⟨Q,hQ⟩:=nM (zHt T w);rw [hQ];have fM:=hid hQ;clear hr fH fK fJ hQ fG;go_enter Tryz.func11,Tryz.ntmps11;go_upto_region 2 with (fail);change B9 _ _ _ _ ((w.alloc (.cells (zAa t).toArray 28)).alloc (.cells (zDd t zAj zAj 0).toArray 94));generalize (w.alloc (.cells (zAa t).toArray 28)).alloc (.cells (zDd t zAj zAj 0).toArray 94)=w1 at *;by_cases fD:c1=0
 · have fA:=fL.o;rw [if_pos fD] at fA;have fA:=hid fA
   go_upto_region 5 with (first
    | (go_at_call 34;refine fC.mono ?_;rintro e w2 ⟨rfl,fF,fN,-⟩;rw [decide_eq_true fD];obtain⟨v2,vi2,l2,js2,fI,-⟩:=fN fD))
   obtain⟨t2,fO,-⟩:=fI.mem.blk;obtain⟨-,-,-,-,y4,-,-⟩:=zEe fO;have fP:=hid fI;clear fC fO fN fI;go_wp2;rw [←fM.o];refine⟨⟨v2,l2,?_,fP.o.mem.own.base (by omega),?_⟩,fF⟩
   · rw [fA.o];rfl
   · rw [fA.o];exact fP.o.tn
 · have fA:=fL.o;rw [if_neg fD] at fA;have fA:=hid fA
   go_upto_region 4 with (first
    | (go_at_call 34;refine fC.mono ?_;rintro e w2 ⟨rfl,fF,-,fE⟩;rw [decide_eq_false fD];have y6:=fE fD))
   have fB:=hid fF;clear fC fE fF
   go_quiet (fail)
   go_wp2;rw [←fM.o];refine⟨⟨.slice none 0 0,[],?_,OwnN.nil _ _,?_⟩,?_⟩
   · rw [fA.o];rfl
   · rw [fA.o];rfl
   · first | exact fB.o | exact fB.o.drew | exact zAd fB.o _
theorem tn_same2 {l l2:List Nd} (h:l2.map Nd.tn=l.map Nd.tn):l.length=l2.length∧∀ i (h1:i<l2.length) (h2:i<l.length),ndSame l2[i] l[i]:=by
 refine⟨by have:=congrArg AV h;simpa using this.symm,fun i h1 h2=>?_⟩
 have h4:(l2.map Nd.tn)[i]? = (l.map Nd.tn)[i]?:=by rw [h]
 rw [B0,B0,B1 h1,B1 h2] at h4;have h5:=Option.some.inj h4;simp only [Nd.tn,Tn.mk.injEq] at h5;exact h5
section
variable {w0 w:World} {S:Nat→Prop} {p mb:Nat} {T T2:PT} {t:Tr} {m0:Int}
theorem gr_dump (h:zDs w0 w S p mb T T2 t) (hI:T.Inv) (hm:w0.cell? ⟨0,0,none⟩=some (.int .i64 m0)):Calls Af 10 #[ifV p] w (zHt T w):=by
 obtain⟨own,lay,a,b,c',d,e⟩:=h;exact ddump_any own lay p mb T m0 w a hI ((e.cell (p:=⟨0,0,none⟩) (An _ _ hm)).trans hm) (zII hI)
theorem gr_rdump (h:zDs w0 w S p mb T T2 t) (hI:T2.Inv):Calls Af 11 #[.agg (zAa t).toArray] w (zHt T2 w):=by
 obtain⟨own,lay,a,b,c',d,e⟩:=h;exact udump_any _ t T2 w b hI (zII hI)
theorem gr_room (h:zDs w0 w S p mb T T2 t) (hI:T.Inv):Calls Af 14 #[.pointer (some ⟨p,0,none⟩)] w fun e w'=>e=.returned (zEq T)∧Below w.heap.size w w':=by
 obtain⟨own,lay,a,b,c',d,e⟩:=h;exact zHp own lay p mb T w a hI.gr.ok
theorem gr_rroom (h:zDs w0 w S p mb T T2 t) (hI:T2.Inv):Calls Af 15 #[.agg (zAa t).toArray] w fun e w'=>e=.returned (zEq T2)∧Below w.heap.size w w':=by
 obtain⟨own,lay,a,b,c',d,e⟩:=h;exact rroom_any _ t T2 w b hI
end
theorem zKd (a b:Int) (x y:Operand) (W:World):(eqGuard BinOp.eql 40 x y (.agg #[.int .i64 a,.int .i64 0,.int .i64 b]) (.agg #[.int .i64 a,.int .i64 0,.int .i64 b])).run Af W=.ok () W:=by go_simp
theorem room_eq (a b:Int) (W:World):(binOp BinOp.eql 40 (.agg #[.int .i64 a,.int .i64 0,.int .i64 b]) (.agg #[.int .i64 a,.int .i64 0,.int .i64 b])).run Af W=.ok (.bool true) W:=by go_simp
theorem dump_len {P:PT} (hI:P.Inv) {l:List Nd} (h:l.map Nd.tn=P.dump.1):l.length≤4096:=by
 by_cases h0:P.dump.2=0
 · have h1:=congrArg AV h;rw [AL,(dump_ok h0).1,PT.mks_len] at h1;have:=spots_few hI;omega
 · rw [dump_err h0] at h;rw [List.map_eq_nil_iff.1 h];simp
structure TurnI (w0 w:World) (g:Nat) (bs:Nat→Nat) (l:List Nd) (X:Nat→Nd):Prop where
 node:∀ i,i<l.length→zDj w g (i * 5) (X i)
 adr:∀ i,i<l.length→(X i).dA=some ⟨bs i,0,none⟩
 size:∀ i (h:i<l.length),(X i).path=l[i].path∧(X i).same=l[i].same∧(X i).data.length=l[i].data.length
 data:∀ i,i<l.length→Blk w (bs i) 5 (bvs (X i).data++mark5)
 row:∃ cs,Blk w g 75 cs∧cs.length=(l.length+3) * 5
 chg:Chg (fun b=>b=g∨∃ i,i<l.length∧b=bs i) w0 w
theorem TurnI.drew {w0 w:World} {g:Nat} {bs:Nat→Nat} {l:List Nd} {X:Nat→Nd} (h:TurnI w0 w g bs l X) (n:Nat):TurnI w0 (w.drewN n) g bs l X :=
 ⟨h.node,h.adr,h.size,h.data,h.row,h.chg.drewN n⟩
theorem TurnI.made {w0 w:World} {g:Nat} {bs:Nat→Nat} {l:List Nd} {X:Nat→Nd} (h:TurnI w0 w g bs l X) {j:Nat} (hj:j<l.length) (m:Int) (fB:∀ i,i<l.length→bs i≠g) :
 TurnI w0 (w.setCell ⟨g,j * 5+2,none⟩ (.int .i64 m)) g bs l (fun i=>if i=j then {X j with made:=m} else X i):=by
 have fA:∀ o u,o≠j * 5+2→w.cell? ⟨g,o,none⟩=some u→(w.setCell ⟨g,j * 5+2,none⟩ (.int .i64 m)).cell? ⟨g,o,none⟩=some u:=fun o u ho hu=>(Aq w _ _ _ (by intro e;injection e with _ e;exact ho e.symm)).trans hu;refine⟨fun i hi=>?_,fun i hi=>?_,fun i hi=>?_,fun i hi=>?_,?_,h.chg.setCell (fun _=>.inl rfl) _⟩
 · obtain⟨a0,a1,a2,a3,a4⟩:=h.node i hi;by_cases e:i=j
   · subst e;simp only [if_true];exact⟨fA _ _ (by omega) a0,fA _ _ (by omega) a1,World.cell?_setCell_same w _ _ a2,fA _ _ (by omega) a3,fA _ _ (by omega) a4⟩
   · simp only [if_neg e];exact⟨fA _ _ (by omega) a0,fA _ _ (by omega) a1,fA _ _ (by omega) a2,fA _ _ (by omega) a3,fA _ _ (by omega) a4⟩
 · by_cases e:i=j
   · subst e;simp only [if_true];exact h.adr i hi
   · simp only [if_neg e];exact h.adr i hi
 · by_cases e:i=j
   · subst e;simp only [if_true];exact h.size i hi
   · simp only [if_neg e];exact h.size i hi
 · have:=(h.data i hi).far (p:=⟨g,j * 5+2,none⟩) (fB i hi) (.int .i64 m);by_cases e:i=j
   · subst e;simp only [if_true];exact this
   · simp only [if_neg e];exact this
 · obtain⟨cs,hr,hl⟩:=h.row;exact⟨_,hr.set_ (j * 5+2) _,by simpa using hl⟩
theorem TurnI.byte {w0 w:World} {g:Nat} {bs:Nat→Nat} {l:List Nd} {X:Nat→Nd} (h:TurnI w0 w g bs l X) {j k:Nat} (hj:j<l.length) (hk:k<(X j).data.length) (v:UInt8) (fC:∀ i,i<l.length→bs i≠g) (fB:∀ i i',i<l.length→i'<l.length→bs i=bs i'→i=i') :
 TurnI w0 (w.setCell ⟨bs j,k,none⟩ (.int .u8 (v.toNat:Int))) g bs l (fun i=>if i=j then {X j with data:=(X j).data.set k v} else X i):=by
 have fA:∀ o u,w.cell? ⟨g,o,none⟩=some u→(w.setCell ⟨bs j,k,none⟩ (.int .u8 (v.toNat:Int))).cell? ⟨g,o,none⟩=some u:=fun o u hu=>(Aq w _ _ _ (by intro e;injection e with e;exact fC j hj e)).trans hu;refine⟨fun i hi=>?_,fun i hi=>?_,fun i hi=>?_,fun i hi=>?_,?_,h.chg.setCell (fun _=>.inr ⟨j,hj,rfl⟩) _⟩
 · obtain⟨a0,a1,a2,a3,a4⟩:=h.node i hi;by_cases e:i=j
   · subst e;simp only [if_true];refine⟨fA _ _ a0,fA _ _ a1,fA _ _ a2,fA _ _ a3,?_⟩;simp only [B2];exact fA _ _ a4
   · simp only [if_neg e];exact⟨fA _ _ a0,fA _ _ a1,fA _ _ a2,fA _ _ a3,fA _ _ a4⟩
 · by_cases e:i=j
   · subst e;simp only [if_true];exact h.adr i hi
   · simp only [if_neg e];exact h.adr i hi
 · by_cases e:i=j
   · subst e;simp only [if_true,B2];exact h.size i hi
   · simp only [if_neg e];exact h.size i hi
 · by_cases e:i=j
   · subst e;simp only [if_true];have:=(h.data i hi).set_ k (.int .u8 (v.toNat:Int));rw [List.set_append_left _ _ (by rw [zAc];exact hk)] at this
     have e2:(bvs (X i).data).set k (.int .u8 (v.toNat:Int))=bvs ((X i).data.set k v):=by simp [bvs,List.map_set]
     rw [e2] at this;exact this
   · simp only [if_neg e];exact (h.data i hi).far (p:=⟨bs j,k,none⟩) (fun e'=>e (fB i j hi hj e')) _
 · obtain⟨cs,hr,hl⟩:=h.row;exact⟨cs,hr.far (p:=⟨bs j,k,none⟩) (fun e=>fC j hj e.symm) _,hl⟩
theorem u8_turn (b:UInt8):bits .xor .u8 (b.toNat:Int) 165=((b ^^^ 165).toNat:Int):=by
 have h:=u8_xor_nat b.toNat 165 (UInt8.toNat_lt b) (by decide);have e:(b ^^^ 165).toNat=b.toNat ^^^ 165:=UInt8.toNat_xor b 165;rw [e];exact h
theorem turn_walk (B g:Nat) (vb:Value) (bs:Nat→Nat) (cap:Nat) (l:List Nd) (w:World) (hL:LentAt w B g vb bs l) (fS:l.length≤5000) (fI:∀ x∈l,x.data.length≤2097152) :
 Calls Af 20 #[.slice (some ⟨g,0,none⟩) l.length cap] w fun e w'=>e=.returned (.tuple #[])∧∃ X,TurnI w w' g bs l X:=by
 have fO:∀ i,i<l.length→bs i≠g:=fun i hi e=>by have:=hL.mem.low i hi;omega
 have fJ:∀ i i',i<l.length→i'<l.length→bs i=bs i'→i=i':=fun i i' h h' e=>hL.mem.inj i i' h h' e;obtain⟨len,fD⟩:∃ len,len=l.length:=⟨_,rfl⟩;have fG:=hid fD
 have fA:∃ X,TurnI w w g bs l X:=by
  have:Inhabited Nd:=⟨⟨Bh,0,0,Bh,none,0,[]⟩⟩;refine⟨fun i=>zDh (l[i]?.getD default) (bs i),fun i hi=>?_,fun i hi=>rfl,fun i hi=>?_,fun i hi=>?_,hL.row,Bd _ _⟩
  · have:=hL.mem.node i hi hi;simpa [hi] using this
  · simp [hi,zDh]
  · have:=hL.mem.data i hi hi;simpa [hi,zDh] using this
 rw [←fD] at fS ⊢;clear fD hL;go_enter Tryz.func20,Tryz.ntmps20;go_wp2
 go_loopw [2] (fun i wr=>∃ j:Nat,j≤len∧i=.int .i64 j∧∃ X,TurnI w wr g bs l X) (fun i _=>len-(intOf i).toNat)
 case atStart=>exact⟨0,Ab _,rfl,fA⟩
 case round =>
  obtain⟨j,hj,rfl,X,hX⟩:=hrel;clear fA;by_cases fW:j<len
  · have fB:j<l.length:=by have:=fG.o;omega
    obtain⟨a0,a1,a2,a3,a4⟩:=hX.node j fB;obtain⟨cs,hr,fT⟩:=hX.row;have z2:=hr.frozen (j * 5+2);have fC:=hX.adr j fB;rw [fC] at a4;have fF:=(hX.size j fB).2.2;have fP:=fI _ (AD fB);rw [←fF] at fP
    have j0:(0:Int)≤(j:Int):=by omega
    have j1:(j:Int)<(len:Int):=by omega
    clear a0 a1 a3 fC fF fI;go_wp2;have fQ:=hX.made fB (bits .xor .i64 (X j).made 1) fO;generalize wr.setCell ⟨g,j * 5+2,none⟩ (.int .i64 (bits .xor .i64 (X j).made 1))=W2 at *;have fU:(X j).data.length=l[j].data.length:=(hX.size j fB).2.2
    have fK:l[j].data.length≤2097152:=by omega
    clear a2 a4 hr fT z2 hX fP fU;obtain⟨n,hn⟩:∃ n,n=l[j].data.length:=⟨_,rfl⟩;have fV:=hid hn;rw [←hn] at fK;clear hn
    go_loopw [3] (fun i wr=>∃ k:Nat,k≤n∧i=.int .i64 k∧∃ X,TurnI w wr g bs l X) (fun i _=>n-(intOf i).toNat)
    case atStart=>exact⟨0,Ab _,rfl,_,fQ⟩
    case round =>
     obtain⟨k,hk,rfl,X2,fE⟩:=hrel;clear fQ;obtain⟨a0,a1,a2,a3,a4⟩:=fE.node j fB;have fC:=fE.adr j fB;rw [fC] at a4;have fF:(X2 j).data.length=n:=((fE.size j fB).2.2).trans fV.o.symm;rw [fF] at a4;have fH:=fE.data j fB;clear a0 a1 a2 a3 fC;by_cases fX:k<n
     · have fL:k<(X2 j).data.length:=by omega
       have fR:wr.cell? ⟨bs j,k,none⟩=some (.int .u8 (((X2 j).data[k]'fL).toNat:Int)):=by rw [fH.cell,B3 (by rw [zAc];exact fL)];exact zBK _ k fL
       have fY:=fH.frozen k;have fM:=fE.byte (k:=k) fB fL ((X2 j).data[k]'fL ^^^ 165) fO fJ;rw [←u8_turn] at fM;have fN:=hid fM
       have k0:(0:Int)≤(k:Int):=by omega
       have k1:(k:Int)<(n:Int):=by omega
       clear fM fE fH fF;generalize (X2 j).data[k]'fL=by8 at *;go_wp2
       go_region
       go_wp2;go_roundw
       case rel=>exact⟨k+1,by omega,by go_num,_,fN.o.drew 1⟩
       case measure=>simp [intOf];omega
     · obtain rfl:k=n:=by omega
       clear fH fF;go_wp2;go_roundw
       case rel=>exact⟨j+1,by omega,by go_num,_,fE⟩
       case measure=>simp [intOf];omega
  · obtain rfl:j=len:=by omega
    clear fI;go_wp2
    go_end0
    exact⟨rfl,_,hX⟩
theorem zKh (A:Option Addr) (c:Nat) (bs:List UInt8) (w:World) (B:Nat) (hs:Sees w B 1 A bs.length (bvs bs)) (hl:bs.length≤1000000000) :
 Calls Af 60 #[.slice A bs.length c] w fun e w'=>e=.returned (.bool (bs.all (·==0)))∧w=w':=by
 obtain⟨r,hr⟩:=nM (bs.all (·==0));rw [hr];obtain⟨len,fB⟩:=nM (bs.length);rw [fB] at hs hl ⊢;have fF:=hid hr;have fA:=hid fB;have fG:=hid hs;clear hr fB hs;go_enter Tryz.func60,Tryz.ntmps60;go_wp2
 go_loop [3] (fun i'=>∃ k:Nat,k≤len∧i'=.int .i64 (k:Int)∧Hid ((bs.drop k).all (·==0)=r)) (fun i'=>len-(intOf i').toNat)
 case atStart=>exact⟨0,Ab _,rfl,by rw [B4];exact fF⟩
 case round =>
  obtain⟨k,hk,rfl,hf⟩:=hrel;by_cases fH:k<len
  · have fE:k<bs.length:=by rw [fA.o];exact fH
    obtain⟨b,off,hA,-,hc⟩:=fG.o.at_ (by omega);have c0:=hc k _ (zBK bs k fE);subst hA
    have hd:(bs.drop k).all (·==0)=(bs[k]==0 && (bs.drop (k+1)).all (·==0)):=by rw [AP fE,List.all_cons]
    obtain⟨x,hx⟩:=nM (bs[k]);rw [hx] at c0 hd;have fC:=hf.o;rw [hd] at fC;clear hc hx hd hf;by_cases e:x=0
    · have t1:((x.toNat:Int) != 0)=false:=by subst e;rfl
      have fI:Hid ((bs.drop (k+1)).all (·==0)=r):=hid (by subst e;simpa using fC);clear fC e;go_wp2;go_round
      case rel=>exact⟨k+1,by omega,by go_num,fI⟩
      case measure=>simp [intOf];omega
    · have fJ:x.toNat≠0:=fun h=>e (UInt8.toNat_inj.1 h)
      have t1:((x.toNat:Int) != 0)=true:=by simp;omega
      have fD:r=false:=by rw [←fC];simp [e]
      clear fC e;subst fD;go_wp2;go_ret;exact⟨rfl,rfl⟩
  · obtain rfl:k=len:=by omega
    have fD:r=true:=by rw [←hf.o,List.drop_eq_nil_of_le (by rw [fA.o];exact Ac _)];rfl
    subst fD;clear hf;go_wp2;go_ret;exact⟨rfl,rfl⟩
theorem anyF_drop {l:List Nd} {q:ByteArray} {k:Nat} (h:k<l.length):zKF q ((l.map Nd.tn).drop k)=(decide (l[k].path=q∧l[k].kind=1) || zKF q ((l.map Nd.tn).drop (k+1))):=by
 rw [AP (by rw [AL];exact h),AU];rfl
theorem str_eq (a b:ByteArray):(a.toList==b.toList)=decide (a=b):=by
 rw [Bool.eq_iff_iff,beq_iff_eq,decide_eq_true_iff,zC2]
theorem zJZ (l:List Nd) (A:Option Addr) (c:Nat) (pa:ByteArray) (ki ma:Int) (sa:ByteArray) (dA:Option Addr) (dc:Nat) (da:List UInt8) (w:World) (hN:NodesAt w w.heap.size A l) (hl:l.length≤1000000000) (hd:da.length≤1000000000000) :
 Calls Af 39 #[.slice A l.length c,.agg #[.string pa,.int .i64 ki,.int .i64 ma,.string sa,.slice dA da.length dc]] w fun e w'=>e=.returned (.bool (mayR (l.map Nd.tn) ⟨pa,ki,ma,sa,da⟩))∧Below w.heap.size w w':=by
 obtain⟨Q,hQ⟩:∃ Q:Ending→World→Prop,(fun e w'=>e=.returned (.bool (mayR (l.map Nd.tn) ⟨pa,ki,ma,sa,da⟩))∧Below w.heap.size w w')=Q:=⟨_,rfl⟩;rw [hQ];have hu:mayR (l.map Nd.tn) ⟨pa,ki,ma,sa,da⟩=if (ki≠1∧ki≠2)∨ma<0∨1099511627776<ma∨136704<da.length then false else if ki=2 then decide (sa=emp) && decide (da=[]) else if sa=emp then true else zKF sa (l.map Nd.tn) && decide (da=[]):=rfl;obtain⟨r,hr⟩:=nM (mayR (l.map Nd.tn) ⟨pa,ki,ma,sa,da⟩);rw [hr] at hu hQ;have fE:=hid hQ;have fH:=hid hu;have fT:Below w.heap.size w (w.alloc (.cells [.string pa,.int .i64 ki,.int .i64 ma,.string sa,.slice dA da.length dc].toArray 75)):=br.alloc nr _;have fL:=B8 w 75 [.string pa,.int .i64 ki,.int .i64 ma,.string sa,.slice dA da.length dc]
 have fU:decide (da=[])=((da.length:Int)==0):=by
  rw [Bool.eq_iff_iff,decide_eq_true_iff,beq_iff_eq]
  constructor
  · intro h;rw [h];rfl
  · intro h;exact List.eq_nil_of_length_eq_zero (by omega)
 have fY:=hid hN;obtain⟨len,fF⟩:=nM (l.length);rw [fF] at hl ⊢;have fD:=hid fF;have fI:=hid fU;clear hQ hu hN hr fF fU;go_enter Tryz.func39,Tryz.ntmps39;go_upto_region 1 with (fail);change B9 _ _ _ _ (w.alloc (.cells [.string pa,.int .i64 ki,.int .i64 ma,.string sa,.slice dA da.length dc].toArray 75));generalize w.alloc (.cells [.string pa,.int .i64 ki,.int .i64 ma,.string sa,.slice dA da.length dc].toArray 75)=w1 at *;obtain⟨e0,e1,e2,e3,e4⟩:=zDi fL;obtain⟨g,hg⟩:=nM (w.heap.size);rw [hg] at e0 e1 e2 e3 e4
 try simp only [hg]
 have gB:=hid hg;have fZ:=hid fL;have fA:=hid fT;clear hg fL fT;by_cases k0:ki≠1∧ki≠2
 · have fC:r=false:=by rw [fH.o,if_pos (.inl k0)]
   have t1:(ki != 1)=true:=by simpa using k0.1
   have t2:(ki != 2)=true:=by simpa using k0.2
   clear fH k0;subst fC;go_wp2;rw [←fE.o];exact⟨rfl,fA.o⟩
 have fM:ki=1∨ki=2:=by omega
 by_cases k1:ma<0∨1099511627776<ma∨136704<da.length
 · have fC:r=false:=by rw [fH.o,if_pos (.inr k1)]
   clear fH k0;subst fC;rcases fM with rfl | rfl
   all_goals cases m1:decide (ma<0)
   all_goals cases m2:decide (ma > 1099511627776)
   all_goals cases m3:decide ((da.length:Int) > 136704)
   all_goals first
    | (exfalso;have a1:=of_decide_eq_false m1;have a2:=of_decide_eq_false m2;have a3:=of_decide_eq_false m3;omega)
    | (clear k1;go_wp2;rw [←fE.o];exact⟨rfl,fA.o⟩)
 have m1:decide (ma<0)=false:=decide_eq_false (by omega);have m2:decide (ma > 1099511627776)=false:=decide_eq_false (by omega);have m3:decide ((da.length:Int) > 136704)=false:=decide_eq_false (by omega);have fN:=fH.o;rw [if_neg (by omega)] at fN;have fJ:=hid fN;clear fN fH k0 k1;by_cases k2:ki=2
 · subst k2
   have fG:r=(decide (sa=emp) && decide (da=[])):=by rw [fJ.o,if_pos rfl]
   rw [fI.o] at fG;by_cases fB:sa=⟨#[]⟩
   · have se:sa.toList.isEmpty=true:=zC0 fB;have fO:Hid (((da.length:Int)==0)=r):=hid (by rw [fG];simp [emp,fB]);clear fG fB;go_wp2;rw [←fE.o];exact⟨by rw [fO.o],fA.o⟩
   · have se:sa.toList.isEmpty=false:=zEk fB
     have fC:r=false:=by rw [fG];simp [emp,fB]
     clear fG fB;subst fC;go_wp2;rw [←fE.o];exact⟨rfl,fA.o⟩
 have k3:ki=1:=by omega
 subst k3;by_cases fB:sa=⟨#[]⟩
 · have se:sa.toList.isEmpty=true:=zC0 fB
   have fC:r=true:=by rw [fJ.o,if_neg (by omega),if_pos (show sa=emp from fB)]
   clear fB;subst fC;go_wp2;rw [←fE.o];exact⟨rfl,fA.o⟩
 have se:sa.toList.isEmpty=false:=zEk fB;have fP:Hid (r=(zKF sa ((l.map Nd.tn).drop 0) && decide (da=[]))):=hid (by rw [fJ.o,if_neg (by omega),if_neg (show ¬sa=emp from fB),B4]);clear fB fJ;go_wp2
 go_loopw [5] (fun i' wr=>∃ k nq:Nat,k≤len∧i'=.int .i64 (k:Int)∧wr=w1.drewN nq∧Hid (r=(zKF sa ((l.map Nd.tn).drop k) && decide (da=[])))) (fun i' _=>len-(intOf i').toNat)
 case atStart=>exact⟨0,0,Ab _,rfl,rfl,fP⟩
 case round =>
  obtain⟨k,nq,hk,rfl,rfl,hf⟩:=hrel;have fV:Hid (Below w.heap.size w (w1.drewN nq)):=hid (zAd fA.o nq);by_cases fW:k<len
  · have t1:decide ((k:Int)<(len:Int))=true:=by simpa using fW
    have fX:k<l.length:=by rw [fD.o];exact fW
    obtain⟨b,off,hA,gC,hc⟩:=fY.o.at_ (by omega);have gA:=(hc k fX).keep (w1:=w1) fun p hp=>fA.o.cell (by omega);have hm:=anyF_drop (q:=sa) fX;generalize l[k]=y at *;obtain⟨pa2,ki2,ma2,sa2,dA2,dc2,da2⟩:=y;obtain⟨d0,d1,-,-,-⟩:=gA;simp only at d0 d1 hm;subst hA;have fQ:=hid hf.o;have fR:=hid hm
    have b0:(0:Int)≤(k:Int):=by omega
    clear hc hf hm fP;by_cases hp:pa2=sa
    · subst hp;by_cases fK:ki2=1
      · subst fK;have fG:Hid (((da.length:Int)==0)=r):=hid (by rw [fQ.o,fR.o,←fI.o];simp);go_upto_region 10 with (fail)
        go_quiet (fail)
        go_wp2;rw [←fE.o];exact⟨by rw [fG.o],by first | exact fV.o | exact zAd fA.o _ | (rw [World.drewN_drewN];exact zAd fA.o _)⟩
      · have gD:(ki2==1)=false:=by simpa using fK
        have fS:Hid (r=(zKF pa2 ((l.map Nd.tn).drop (k+1)) && decide (da=[]))):=hid (by rw [fQ.o,fR.o];simp [fK]);clear fK;go_upto_region 10 with (fail)
        go_quiet (fail)
        go_wp2;go_roundw
        case rel=>exact⟨k+1,_,by omega,by go_num,rfl,fS⟩
        case measure=>simp [intOf];omega
    · have gE:(pa2.toList==sa.toList)=false:=by rw [str_eq];exact decide_eq_false hp
      have fS:Hid (r=(zKF sa ((l.map Nd.tn).drop (k+1)) && decide (da=[]))):=hid (by rw [fQ.o,fR.o];simp [hp]);clear hp;go_upto_region 10 with (fail)
      go_quiet (fail)
      go_wp2;go_roundw
      case rel=>exact⟨k+1,_,by omega,by go_num,rfl,fS⟩
      case measure=>simp [intOf];omega
  · obtain rfl:k=len:=by omega
    have t1:decide ((k:Int)<(k:Int))=false:=by simp
    have fC:r=false:=by
     rw [hf.o,AO (by rw [AL,fD.o];exact Ac _)];rfl
    subst fC;clear hf fP;go_wp2;rw [←fE.o];exact⟨rfl,fV.o⟩
theorem infoOp:(Tryz.prog.info? 70).map (fun i=>(i.zero,i.size,i.bytes))=some (some (.agg #[.int .i64 0,.string Bh,.string Bh,.int .i64 0,.int .i64 0,.slice none 0 0,.int .i64 0,.int .i64 0]),8,96):=by kernel_rfl
theorem zHo (k:Int) (p q:ByteArray) (a b:Int) (A:Option Addr) (n c:Nat) (m z:Int):∀ u∈[Value.int .i64 k,.string p,.string q,.int .i64 a,.int .i64 b,.slice A n c,.int .i64 m,.int .i64 z],u.oneCell'=true:=by
 intro u hu;simp only [AW,AX,or_false] at hu;rcases hu with rfl | rfl | rfl | rfl | rfl | rfl | rfl | rfl<;>rfl
theorem slice_lo (W:World) (b off len c lo:Nat) (h1:lo<len) (h3:len≤c):(Instr.sliceAt 64 (.slice (some ⟨b,off,none⟩) len c) (some (.int .i64 (lo:Int))) none none).run Af W=.ok (.slice (some ⟨b,off+lo,none⟩) (len-lo) (c-lo)) W:=by
 have hu:Tryz.prog.underlying 64=some (.slice (Tryz.prog.elem 64)):=by kernel_rfl
 have hs:(sizeOf (Tryz.prog.elem 64)).run Af W=.ok 1 W:=by kernel_rfl
 rw [AB W 64 _ _ _ _ hu,run_slice_l W 64 (some ⟨b,off,none⟩) len c hu .i64 lo (by omega) (by omega),hs]
 have fA:¬c=lo:=by omega
 simp [Result.andThen,sliced,fA,Addr.add_lit]
def zGL (B:Nat) (w1 wr:World) (v:Value) (l:List Os):Prop :=
 wr.ownsRow w1.heap.size 70 8 v l.length (l.flatMap osC)∧(∀ y∈l,Sees w1 B 1 y.dA y.o.data.length (bvs y.o.data))∧Below w1.heap.size w1 wr
def AskedP (B:Nat) (x:Tn) (w:World) (e:Ending) (w':World):Prop :=
 ∃ (A:Option Addr) (c:Nat) (l:List Os),e=.returned (.slice A l.length c)∧Sees w' w'.heap.size 8 A l.length (l.flatMap osC)∧l.map (·.o)=zCb x∧(∀ y∈l,Sees w' B 1 y.dA y.o.data.length (bvs y.o.data))∧(∀ b off,A=some ⟨b,off,none⟩→w.heap.size≤b)∧Below w.heap.size w w'
section
variable {B:Nat} {w w1 wr wd w':World} {v v':Value} {l:List Os} {y:Os}
theorem zGL.nil (B:Nat) (w1:World):zGL B w1 w1 (.slice none 0 0) []:=⟨Ap _ _ _ _,fun y h=>absurd h (by simp),Below.refl _ _⟩
theorem zGL.push (h:zGL B w1 wr v l) (hy:Sees w1 B 1 y.dA y.o.data.length (bvs y.o.data)) (hd:Below wr.heap.size wr wd) (hr:w'.ownsRow w1.heap.size 70 8 v' (l.length+1) (l.flatMap osC++osC y)) (hg:wd.grownBy w' v.ownBlock):zGL B w1 w' v' (l++[y]):=by
 refine⟨by rw [List.flatMap_append,AT];simpa using hr,fun z hz=>?_,h.2.2.trans (((Be (S:=fun b=>v.ownBlock=some b) hd).grown hg (fun g e _=>e)).below h.2.2.size fun b hb e=>by have:=(h.1.lt b e).1;omega)⟩;rw [AQ,AR] at hz;rcases hz with hz | rfl
 · exact h.2.1 z hz
 · exact hy
theorem zGL.fin {x:Tn} (h:zGL B w1 w' v' l) (hB:B≤w1.heap.size) (hb:Below w.heap.size w w1) (he:l.map (·.o)=zCb x):AskedP B x w (.returned v') w':=by
 obtain⟨A,c,rfl,hs⟩:=Bf (B:=w'.heap.size) h.1 fun g hg=>(h.1.lt g hg).2;exact⟨A,c,l,rfl,hs,he,fun y hy=>(h.2.1 y hy).below (h.2.2.mono hB),fun b off e=>by subst e;exact Ad hb.size ((h.1.lt b rfl).1),hb.trans (h.2.2.mono hb.size)⟩
end
theorem gone_t {d:List UInt8} {e:Nat} (h:(decide (d.length≤e) || zch d e)=true):(d.length≤e∨zch d e=true)∧(if d.length≤e∨zch d e=true then none else some e:Option Nat)=none:=by
 have h1:d.length≤e∨zch d e=true:=by simpa using h
 exact⟨h1,if_pos h1⟩
theorem gone_f {d:List UInt8} {e len:Nat} (h:(decide (d.length≤e) || zch d e)=false) (hl:d.length=len):(¬(d.length≤e∨zch d e=true))∧(if d.length≤e∨zch d e=true then none else some e:Option Nat)=some e∧e<len:=by
 have h1:¬(d.length≤e∨zch d e=true):=by simpa using h
 exact⟨h1,if_neg h1,by omega⟩
def frV (fr:Option Nat):Value:=.int .i64 (fr.elim (-1) fun a=>(a:Int))
def AskI (B:Nat) (w1:World) (pa:ByteArray) (d:List UInt8) (R:List Opn) (v3 v4 v5:Value) (wr:World):Prop :=
 ∃ l fr e f,zGL B w1 wr v3 l∧v4=frV fr∧v5=.int .i64 ((e:Nat):Int)∧Hid (R=l.map (·.o)++((asg d f e fr).map (zDR pa d)++[opT pa d.length]))∧e≤d.length+128∧d.length+256≤e+128 * f∧l.length≤e+1∧∀ a,fr=some a→a<e∧a<d.length
theorem zKm (pa:ByteArray) (ki ma:Int) (sa:ByteArray) (A:Option Addr) (c:Nat) (d:List UInt8) (B:Nat) (w:World) (hs:Sees w B 1 A d.length (bvs d)) (hB:B≤w.heap.size) (hc:d.length≤c) (hd:d.length≤136704) :
 Calls Af 40 #[.agg #[.string pa,.int .i64 ki,.int .i64 ma,.string sa,.slice A d.length c]] w (AskedP B ⟨pa,ki,ma,sa,d⟩ w):=by
 obtain⟨Q,hQ⟩:=nM (AskedP B ⟨pa,ki,ma,sa,d⟩ w);rw [hQ];have gH:=hid hQ;have gD:=B8 w 75 [.string pa,.int .i64 ki,.int .i64 ma,.string sa,.slice A d.length c];have gE:Below w.heap.size w (w.alloc (.cells [.string pa,.int .i64 ki,.int .i64 ma,.string sa,.slice A d.length c].toArray 75)):=br.alloc nr _;obtain⟨len,fV⟩:=nM (d.length);have gM:=hs.below (gE.mono hB);have gB:B≤_:=Ad hB gE.size;rw [fV] at gD gE gM gB hc hd ⊢;have fQ:=hid gM;have fA:=hid fV;have gI:=hid gE;have gT:=hid gD;obtain⟨iO,fR,fH,fI,fJ⟩:=AA infoOp
 have jB:w.heap.size<(w.alloc (.cells [.string pa,.int .i64 ki,.int .i64 ma,.string sa,.slice A len c].toArray 75)).heap.size:=by simp
 clear hQ hs gM gE fV;go_enter Tryz.func40,Tryz.ntmps40;go_upto_region 1 with (fail);change B9 _ _ _ _ (w.alloc (.cells [.string pa,.int .i64 ki,.int .i64 ma,.string sa,.slice A len c].toArray 75));generalize w.alloc (.cells [.string pa,.int .i64 ki,.int .i64 ma,.string sa,.slice A len c].toArray 75)=w1 at *;obtain⟨g,hg⟩:=nM (w.heap.size);rw [hg] at gD gT jB
 try simp only [hg]
 obtain⟨e0,e1,e2,e3,e4⟩:=zDi gD;have fW:=hid (zGL.nil B w1);clear gD hg;by_cases k2:ki=2
 · subst k2;have fC:=hid (zA3 (P:=Af) (tx:=22) Am (B8 w1 70 [.int .i64 2,.string pa,.string ⟨#[]⟩,.int .i64 0,.int .i64 0,.slice none 0 0,.int .i64 ma,.int .i64 0]) (zHo _ _ _ _ _ _ _ _ _ _));have fB:Hid (Below w1.heap.size w1 ((w1.alloc (.cells [.int .i64 2,.string pa,.string ⟨#[]⟩,.int .i64 0,.int .i64 0,.slice none 0 0,.int .i64 ma,.int .i64 0].toArray 70)))):=hid ((br.alloc nr _));have fD:=hid (zAC (fW.o).1 fB.o);go_wp2_with (first | (at_builtin;refine zAg _ rfl (.tmp 11) (.tmp 17) _ _ rfl w1.heap.size 70 iO _ 8 96 Am fR fH fI fJ rfl (.slice none 0 0) 0 [] rfl fD.o 1 [.int .i64 2,.string pa,.string ⟨#[]⟩,.int .i64 0,.int .i64 0,.slice none 0 0,.int .i64 ma,.int .i64 0] fC.o (by unfold maxLen;omega) (by omega) (by have:=fB.o.size;omega) ?_;intro v9 w9 fF fG fE));have hP:=zGL.push (y:=⟨⟨2,pa,emp,0,0,[],ma,0⟩,none,0⟩) (fW.o) Bg fB.o fF fG;have fK:=hid (hP.fin (x:=⟨pa,2,ma,sa,d⟩) gB gI.o (by unfold zCb;rw [if_pos rfl];rfl));clear hP fF fG fE fC fB fD;go_wp2;rw [←gH.o];exact fK.o
 have t2:(ki==2)=false:=by simpa using k2
 by_cases ks:sa=⟨#[]⟩
 case neg =>
  have se:sa.toList.isEmpty=false:=zEk ks;have fC:=hid (zA3 (P:=Af) (tx:=22) Am (B8 w1 70 [.int .i64 3,.string sa,.string pa,.int .i64 0,.int .i64 0,.slice none 0 0,.int .i64 0,.int .i64 0]) (zHo _ _ _ _ _ _ _ _ _ _));have fB:Hid (Below w1.heap.size w1 ((w1.alloc (.cells [.int .i64 3,.string sa,.string pa,.int .i64 0,.int .i64 0,.slice none 0 0,.int .i64 0,.int .i64 0].toArray 70)))):=hid ((br.alloc nr _));have fD:=hid (zAC (fW.o).1 fB.o);go_wp2_with (first | (at_builtin;refine zAg _ rfl (.tmp 22) (.tmp 28) _ _ rfl w1.heap.size 70 iO _ 8 96 Am fR fH fI fJ rfl (.slice none 0 0) 0 [] rfl fD.o 1 [.int .i64 3,.string sa,.string pa,.int .i64 0,.int .i64 0,.slice none 0 0,.int .i64 0,.int .i64 0] fC.o (by unfold maxLen;omega) (by omega) (by have:=fB.o.size;omega) ?_;intro v9 w9 fF fG fE));have hP:=zGL.push (y:=⟨⟨3,sa,pa,0,0,[],0,0⟩,none,0⟩) (fW.o) Bg fB.o fF fG;have fK:=hid (hP.fin (x:=⟨pa,ki,ma,sa,d⟩) gB gI.o (by unfold zCb;rw [if_neg k2,if_pos (show sa≠emp from ks)];rfl));clear hP fF fG fE fC fB fD;go_wp2;rw [←gH.o];exact fK.o
 have se:sa.toList.isEmpty=true:=zC0 ks
 have hR:Hid (zCb ⟨pa,ki,ma,sa,d⟩=[(⟨1,pa,emp,0,0,[],ma,0⟩:Opn)]++((asg d 1100 0 none).map (zDR pa d)++[opT pa d.length])):=by
  show _=_
  unfold zCb;rw [if_neg k2,if_neg (fun h=>h (show sa=emp from ks))];rfl
 have fC:=hid (zA3 (P:=Af) (tx:=22) Am (B8 w1 70 [.int .i64 1,.string pa,.string ⟨#[]⟩,.int .i64 0,.int .i64 0,.slice none 0 0,.int .i64 ma,.int .i64 0]) (zHo _ _ _ _ _ _ _ _ _ _));have fB:Hid (Below w1.heap.size w1 ((w1.alloc (.cells [.int .i64 1,.string pa,.string ⟨#[]⟩,.int .i64 0,.int .i64 0,.slice none 0 0,.int .i64 ma,.int .i64 0].toArray 70)))):=hid ((br.alloc nr _));have fD:=hid (zAC fW.o.1 fB.o);go_upto_region 7 with (first | (at_builtin;refine zAg _ rfl (.tmp 30) (.tmp 36) _ _ rfl w1.heap.size 70 iO _ 8 96 Am fR fH fI fJ rfl (.slice none 0 0) 0 [] rfl fD.o 1 [.int .i64 1,.string pa,.string ⟨#[]⟩,.int .i64 0,.int .i64 0,.slice none 0 0,.int .i64 ma,.int .i64 0] fC.o (by unfold maxLen;omega) (by omega) (by have:=fB.o.size;omega) ?_;intro v9 w9 fF fG fE));have gU:=hid (zGL.push (y:=⟨⟨1,pa,emp,0,0,[],ma,0⟩,none,0⟩) fW.o Bg fB.o fF fG);have gV:Hid (∀ W,Below w1.heap.size w1 W→Blk W g 75 [.string pa,.int .i64 ki,.int .i64 ma,.string sa,.slice A len c]):=hid fun W hW=>gT.o.chg (Be (S:=fun _=>False) hW) (fun h=>h);clear fF fG fE fC fB fD e0 e1 e2 e3 e4 t2 se;go_wp2
 go_loopw [3,4,5] (fun v3 v4 v5 wr=>AskI B w1 pa d (zCb ⟨pa,ki,ma,sa,d⟩) v3 v4 v5 wr) (fun _ _ v5 _=>len+129-(intOf v5).toNat)
 case atStart=>exact⟨_,none,0,1100,gU.o,rfl,rfl,hR,Ab _,by have:=fA.o;omega,by simp,fun a h=>by cases h⟩
 case round =>
  obtain⟨l,fr,e,f,hO,rfl,rfl,fX,jC,hf,jI,gW⟩:=hrel;obtain⟨Al,cl,rfl,-⟩:=Bf (B:=wr.heap.size) hO.1 fun g hg=>(hO.1.lt g hg).2;have fL:=hid hO;have gF:=hid gW;have jD:=hO.2.2.size;obtain⟨e0,e1,e2,e3,e4⟩:=zDi (gV.o wr hO.2.2);rw [fA.o] at jC hf;obtain⟨f,rfl⟩:∃ f',f=f'+1:=⟨f-1,by omega⟩;clear hO gW fW gU hR;by_cases jE:e≤len
  · have t1:decide ((e:Int)≤(len:Int))=true:=by simpa using jE
    obtain⟨hh,gX⟩:=nM (min (e+128) len)
    have jJ:min ((e:Int)+128) (len:Int)=(hh:Int):=by omega
    have fS:=hid gX;clear gX;obtain⟨gone,gY⟩:=nM ((decide (d.length≤e) || zch d e));have gC:=hid gY;clear gY;go_upto_region 12 with (fail)
    go_cut [7] from 51 to 63 (fun v wx=>v=.bool gone∧wr=wx)
    case first =>
     by_cases jK:e<len
     · have t3:decide ((e:Int)≥(len:Int))=false:=by simp;omega
       have hz:zch d e=gone:=by rw [←gC.o,decide_eq_false (by rw [fA.o];omega),Bi]
       obtain⟨b,off,hA,-,-⟩:=fQ.o.at_ (by omega);subst hA;have gJ:∀ W:World,_:=fun W=>zDE W b off len c e hh (by have:=fS.o;omega) (by have:=fS.o;omega) hc;have gN:=zCw (fQ.o.below (fL.o.2.2.mono gB)) fA.o (lo:=e) (hi:=hh) (by have:=fS.o;omega) (by have:=fS.o;omega);obtain⟨ch,gK⟩:=nM ((d.drop e).take (hh-e))
       have fY:ch.length=hh-e:=by rw [←gK,B5,B6,fA.o];have:=fS.o;omega
       rw [gK,←fY] at gN;have gO:=zKh (some ⟨b,off+e,none⟩) (c-e) ch _ _ gN (by have:=fS.o;omega);rw [fY,←gK,show hh-e=min (e+128) d.length-e by rw [fA.o,fS.o],zch_eq,hz] at gO;rw [show min (e+128) d.length-e=hh-e by rw [fA.o,fS.o]] at gO;clear gN gK fY hz;go_wp2_with (first | (go_at_call 60;refine gO.mono ?_;rintro e' w' ⟨rfl,rfl⟩));go_meet;exact⟨congrArg Value.bool (by rw [decide_eq_false (show ¬len≤e by omega),Bi]),rfl⟩
     · have t3:decide ((e:Int)≥(len:Int))=true:=by simp;omega
       have jF:gone=true:=by rw [←gC.o,decide_eq_true (by rw [fA.o];omega),Bool.true_or]
       subst jF;go_wp2;go_meet;exact⟨rfl,rfl⟩
    case rest =>
     obtain⟨rfl,rfl⟩:=hcut
     cases fr with
     | none =>
      simp only [frV,Bk]
      cases gone with
      | true =>
       obtain⟨fO,fM⟩:=gone_t gC.o;have fZ:=hid fM;clear fO fM;go_wp2;go_roundw
       case rel=>exact⟨_,none,e+128,f,fL.o,rfl,by go_num,hid (by rw [fX.o,asg,if_neg (by rw [fA.o];omega)];(try simp only);rw [fZ.o]),by rw [fA.o];omega,by rw [fA.o];omega,by omega,fun a h=>by cases h⟩
       case measure=>simp [intOf];omega
      | false =>
       obtain⟨fO,fM,gA⟩:=gone_f gC.o fA.o;have fZ:=hid fM;clear fO fM;go_wp2;go_roundw
       case rel=>exact⟨_,(some e),e+128,f,fL.o,rfl,by go_num,hid (by rw [fX.o,asg,if_neg (by rw [fA.o];omega)];(try simp only);rw [fZ.o]),by rw [fA.o];omega,by rw [fA.o];omega,by omega,fun a h=>by injection h with h;subst h;exact⟨by omega,by rw [fA.o];exact gA⟩⟩
       case measure=>simp [intOf];omega
     | some a =>
      obtain⟨jG,gL⟩:=gF.o a rfl;rw [fA.o] at gL
      have a0:decide ((a:Int)≥0)=true:=by simp
      have a1:decide ((a:Int)<0)=false:=by simp
      simp only [frV,Bl]
      cases gone
      case' false =>
       obtain⟨fO,fM,gA⟩:=gone_f gC.o fA.o;have fZ:=hid fM;have gP:=hid fO;clear fO fM;by_cases gQ:e-a=131072
       case' neg =>
        have t4:((e:Int)-(a:Int)==131072)=false:=by simp;omega
        go_wp2;go_roundw
        case rel=>exact⟨_,(some a),e+128,f,fL.o,rfl,by go_num,hid (by rw [fX.o,asg,if_neg (by rw [fA.o];omega)];(try simp only);rw [if_neg (fun h=>h.elim gP.o gQ)]),by rw [fA.o];omega,by rw [fA.o];omega,by omega,fun a2 h=>by injection h with h;subst h;exact⟨by omega,by rw [fA.o];exact gL⟩⟩
        case measure=>simp [intOf];omega
       have t4:((e:Int)-(a:Int)==131072)=true:=by simp;omega
       have jH:=hid gQ;clear gQ;go_upto_region 14 with (fail)
      case' true =>
       obtain⟨fO,fM⟩:=gone_t gC.o;have fZ:=hid fM;have gP:=hid fO;clear fO fM;go_upto_region 14 with (fail)
      all_goals
       obtain⟨b,off,hA,-,-⟩:=fQ.o.at_ (by omega);subst hA;have gJ:∀ W:World,_:=fun W=>zDE W b off len c a e (by omega) (by omega) hc;have fC:=hid (zA3 (P:=Af) (tx:=22) Am (Blk.drew (B8 wr 70 [.int .i64 7,.string pa,.string ⟨#[]⟩,.int .i64 (a:Int),.int .i64 0,.slice (some ⟨b,off+a,none⟩) (e-a) (c-a),.int .i64 0,.int .i64 0])) (zHo _ _ _ _ _ _ _ _ _ _));have fB:Hid (Below wr.heap.size wr ((wr.alloc (.cells [.int .i64 7,.string pa,.string ⟨#[]⟩,.int .i64 (a:Int),.int .i64 0,.slice (some ⟨b,off+a,none⟩) (e-a) (c-a),.int .i64 0,.int .i64 0].toArray 70)).drew)):=hid ((br.alloc nr _).drew);have fD:=hid (zAC fL.o.1 fB.o);have fT:=hid (zCw fQ.o fA.o (lo:=a) (hi:=e) (by omega) (by omega));have fU:Hid (((d.drop a).take (e-a)).length=e-a):=hid (by rw [B5,B6,fA.o];omega)
       go_region_law (refine zBc _ (by rfl) (.tmp 75) (.tmp 85) _ _ (by rfl) w1.heap.size 70 iO _ 8 96 Am fR fH fI fJ rfl (.slice Al l.length cl) l.length (l.flatMap osC) (by rfl) fD.o 1 [.int .i64 7,.string pa,.string ⟨#[]⟩,.int .i64 (a:Int),.int .i64 0,.slice (some ⟨b,off+a,none⟩) (e-a) (c-a),.int .i64 0,.int .i64 0] fC.o (by unfold maxLen;omega) (by omega) (by have:=fB.o.size;omega) ?_;intro v9 w9 fF fG fE)
       all_goals
        have fN:=hid (zGL.push (y:=⟨⟨7,pa,emp,(a:Int),0,((d.drop a).take (e-a)),0,0⟩,(some ⟨b,off+a,none⟩),(c-a)⟩) fL.o (by show Sees _ _ 1 _ ((d.drop a).take (e-a)).length _;rw [fU.o];exact fT.o) fB.o (by unfold osC;simp only;rw [fU.o];exact fF) fG);clear fF fG fE fC fB fD fT;go_wp2;go_roundw
        case rel=>first | exact⟨_,none,e+128,f,fN.o,rfl,by go_num,hid (by rw [fX.o,asg,if_neg (by rw [fA.o];omega)];(try simp only);rw [if_pos (.inl gP.o),fZ.o,AY];simp [zDR,opW]),by rw [fA.o];omega,by rw [fA.o];omega,by rw [AT,AZ];omega,fun a h=>by cases h⟩ | exact⟨_,(some e),e+128,f,fN.o,rfl,by go_num,hid (by rw [fX.o,asg,if_neg (by rw [fA.o];omega)];(try simp only);rw [if_pos (.inr jH.o),fZ.o,AY];simp [zDR,opW]),by rw [fA.o];omega,by rw [fA.o];omega,by rw [AT,AZ];omega,fun a h=>by injection h with h;subst h;exact⟨by omega,by rw [fA.o];exact gA⟩⟩
        case measure=>simp [intOf];omega
  · have t1:decide ((e:Int)≤(len:Int))=false:=by simp;omega
    cases fr with
    | none =>
     simp only [frV,Bk];have fC:=hid (zA3 (P:=Af) (tx:=22) Am (B8 wr 70 [.int .i64 8,.string pa,.string ⟨#[]⟩,.int .i64 (len:Int),.int .i64 0,.slice none 0 0,.int .i64 0,.int .i64 0]) (zHo _ _ _ _ _ _ _ _ _ _));have fB:Hid (Below wr.heap.size wr ((wr.alloc (.cells [.int .i64 8,.string pa,.string ⟨#[]⟩,.int .i64 (len:Int),.int .i64 0,.slice none 0 0,.int .i64 0,.int .i64 0].toArray 70)))):=hid ((br.alloc nr _));have fD:=hid (zAC (fL.o).1 fB.o);go_wp2_with (first | (at_builtin;refine zAg _ rfl (.tmp 107) (.tmp 114) _ _ rfl w1.heap.size 70 iO _ 8 96 Am fR fH fI fJ rfl (.slice Al l.length cl) l.length (l.flatMap osC) rfl fD.o 1 [.int .i64 8,.string pa,.string ⟨#[]⟩,.int .i64 (len:Int),.int .i64 0,.slice none 0 0,.int .i64 0,.int .i64 0] fC.o (by unfold maxLen;omega) (by omega) (by have:=fB.o.size;omega) ?_;intro v9 w9 fF fG fE));have hP:=zGL.push (y:=⟨⟨8,pa,emp,(len:Int),0,[],0,0⟩,none,0⟩) (fL.o) Bg fB.o fF fG;have fK:=hid (hP.fin (x:=⟨pa,ki,ma,sa,d⟩) gB gI.o (by rw [fX.o,asg,if_pos (by rw [fA.o];omega),AY,fA.o];rfl));clear hP fF fG fE fC fB fD;go_wp2;rw [←gH.o];exact fK.o
    | some a =>
     obtain⟨jG,gL⟩:=gF.o a rfl;rw [fA.o] at gL
     have a0:decide ((a:Int)≥0)=true:=by simp
     simp only [frV,Bl];go_upto_region 19 with (fail);obtain⟨b,off,hA,-,-⟩:=fQ.o.at_ (by omega);subst hA;have gJ:∀ W:World,_:=fun W=>slice_lo W b off len c a (by omega) hc;have fC:=hid (zA3 (P:=Af) (tx:=22) Am (Blk.drew (B8 wr 70 [.int .i64 7,.string pa,.string ⟨#[]⟩,.int .i64 (a:Int),.int .i64 0,.slice (some ⟨b,off+a,none⟩) (len-a) (c-a),.int .i64 0,.int .i64 0])) (zHo _ _ _ _ _ _ _ _ _ _));have fB:Hid (Below wr.heap.size wr ((wr.alloc (.cells [.int .i64 7,.string pa,.string ⟨#[]⟩,.int .i64 (a:Int),.int .i64 0,.slice (some ⟨b,off+a,none⟩) (len-a) (c-a),.int .i64 0,.int .i64 0].toArray 70)).drew)):=hid ((br.alloc nr _).drew);have fD:=hid (zAC fL.o.1 fB.o);have fT:=hid (zCw fQ.o fA.o (lo:=a) (hi:=len) (by omega) (by omega));have fU:Hid (((d.drop a).take (len-a)).length=len-a):=hid (by rw [B5,B6,fA.o];omega)
     go_region_law (refine zBc _ (by rfl) (.tmp 96) (.tmp 105) _ _ (by rfl) w1.heap.size 70 iO _ 8 96 Am fR fH fI fJ rfl (.slice Al l.length cl) l.length (l.flatMap osC) (by rfl) fD.o 1 [.int .i64 7,.string pa,.string ⟨#[]⟩,.int .i64 (a:Int),.int .i64 0,.slice (some ⟨b,off+a,none⟩) (len-a) (c-a),.int .i64 0,.int .i64 0] fC.o (by unfold maxLen;omega) (by omega) (by have:=fB.o.size;omega) ?_;intro v9 w9 fF fG fE)
     all_goals
      have fN:=hid (zGL.push (y:=⟨⟨7,pa,emp,(a:Int),0,((d.drop a).take (len-a)),0,0⟩,(some ⟨b,off+a,none⟩),(c-a)⟩) fL.o (by show Sees _ _ 1 _ ((d.drop a).take (len-a)).length _;rw [fU.o];exact fT.o) fB.o (by unfold osC;simp only;rw [fU.o];exact fF) fG);clear fF fG fE fC fB fD fT;obtain⟨l2,fP⟩:∃ l2:List Os,l++[⟨⟨7,pa,emp,(a:Int),0,((d.drop a).take (len-a)),0,0⟩,(some ⟨b,off+a,none⟩),(c-a)⟩]=l2:=⟨_,rfl⟩;rw [fP] at fN;have gG:Hid (l2.length=l.length+1):=hid (by rw [←fP];simp);have gR:Hid (l2.map (·.o)=l.map (·.o)++[zDR pa d (a,len)]):=hid (by rw [←fP];simp [zDR,opW]);clear fP;obtain⟨A9,c9,rfl,-⟩:=Bf (B:=w9.heap.size) fN.o.1 fun g hg=>(fN.o.1.lt g hg).2;obtain⟨e0,e1,e2,e3,e4⟩:=zDi (gV.o w9 fN.o.2.2);have jD:=fN.o.2.2.size;clear gJ;go_upto_region 20 with (fail);have fC:=hid (zA3 (P:=Af) (tx:=22) Am (B8 w9 70 [.int .i64 8,.string pa,.string ⟨#[]⟩,.int .i64 (len:Int),.int .i64 0,.slice none 0 0,.int .i64 0,.int .i64 0]) (zHo _ _ _ _ _ _ _ _ _ _));have fB:Hid (Below w9.heap.size w9 ((w9.alloc (.cells [.int .i64 8,.string pa,.string ⟨#[]⟩,.int .i64 (len:Int),.int .i64 0,.slice none 0 0,.int .i64 0,.int .i64 0].toArray 70)))):=hid ((br.alloc nr _));have fD:=hid (zAC (fN.o).1 fB.o);go_wp2_with (first | (at_builtin;refine zAg _ rfl (.tmp 107) (.tmp 114) _ _ rfl w1.heap.size 70 iO _ 8 96 Am fR fH fI fJ rfl (.slice A9 l2.length c9) l2.length (l2.flatMap osC) rfl fD.o 1 [.int .i64 8,.string pa,.string ⟨#[]⟩,.int .i64 (len:Int),.int .i64 0,.slice none 0 0,.int .i64 0,.int .i64 0] fC.o (by have:=gG.o;unfold maxLen;omega) (by have:=gG.o;omega) (by have:=fB.o.size;omega) ?_;intro vA wA gZ jA gS));have hP:=zGL.push (y:=⟨⟨8,pa,emp,(len:Int),0,[],0,0⟩,none,0⟩) (fN.o) Bg fB.o gZ jA;have fK:=hid (hP.fin (x:=⟨pa,ki,ma,sa,d⟩) gB gI.o (by rw [AY,gR.o,fX.o,asg,if_pos (by rw [fA.o];omega),fA.o];simp [opT,zDR,opW]));clear hP gZ jA gS fC fB fD;go_wp2;rw [←gH.o];exact fK.o
open Go.Proofs
theorem osC_get:∀ (l:List Os) (i:Nat) (h:i<l.length) (k:Nat),k<8→(l.flatMap osC)[i * 8+k]? = (osC l[i])[k]?:=by
 intro l
 induction l with
 | nil=>intro i h;exact absurd h (by simp)
 | cons x l ih =>
  intro i h k hk;have h8:(osC x).length=8:=rfl;rw [List.flatMap_cons]
  cases i with
  | zero=>rw [B3 (by omega)];simp
  | succ i =>
   rw [List.getElem?_append_right (by omega),h8,show (i+1) * 8+k-8=i * 8+k by omega,ih i (by simpa using h) k hk];simp
theorem zHT {w:World} {B:Nat} {A:Option Addr} {l:List Os} (h:Sees w B 8 A l.length (l.flatMap osC)) (hd:∀ x∈l,Sees w B 1 x.dA x.o.data.length (bvs x.o.data)):ScrAt w B A l :=
 ⟨fun hn=>by
  obtain⟨b,off,e,hb,hc⟩:=h.at_ hn;refine⟨b,off,e,hb,fun i hi=>?_⟩;have go:∀ k u,k<8→(osC l[i])[k]? = some u→w.cell? ⟨b,off+(i * 8+k),none⟩=some u:=fun k u hk hu=>hc (i * 8+k) u ((osC_get l i hi k hk).trans hu);exact⟨go 0 _ (by omega) rfl,go 1 _ (by omega) rfl,go 2 _ (by omega) rfl,go 3 _ (by omega) rfl,go 4 _ (by omega) rfl,go 5 _ (by omega) rfl,go 6 _ (by omega) rfl,go 7 _ (by omega) rfl⟩,hd⟩
theorem zKl {w:World} {B:Nat} {A:Option Addr} {l:List Nd} (h:NodesAt w B A l) (k:Nat):NodesAt w B A (l.take k) :=
 ⟨fun hn=>by
  obtain⟨b,off,e,hb,hc⟩:=h.at_ (by rw [B5] at hn;omega);refine⟨b,off,e,hb,fun i hi=>?_⟩;rw [List.getElem_take];exact hc i (by rw [B5] at hi;omega),fun x hx=>h.data x (List.mem_of_mem_take hx)⟩
theorem nd_range {w:World} {b off:Nat} {x:Nd} (h:zDj w b off x):w.rangeAt b off (zCN x):=fun j u hu=>by
 obtain⟨c0,c1,c2,c3,c4⟩:=h;have hj:j<5:=(AC.1 hu).1
 have:j=0∨j=1∨j=2∨j=3∨j=4:=by omega
 rcases this with rfl | rfl | rfl | rfl | rfl<;>(injection hu with hu;subst hu;assumption)
theorem slice_hi (W:World) (b off len c hi:Nat) (h2:hi≤c):(Instr.sliceAt 31 (.slice (some ⟨b,off,none⟩) len c) none (some (.int .i64 (hi:Int))) none).run Af W=.ok (.slice (some ⟨b,off,none⟩) hi c) W:=by
 have hu:Tryz.prog.underlying 31=some (.slice (Tryz.prog.elem 31)):=by kernel_rfl
 have hs:(sizeOf (Tryz.prog.elem 31)).run Af W=.ok 5 W:=by kernel_rfl
 rw [AB W 31 _ _ _ _ hu,run_slice_h W 31 (some ⟨b,off,none⟩) len c hu .i64 hi (by omega) (by omega),hs];simp [Result.andThen,sliced,Addr.add_lit]
theorem zBN {fn:Func} {u v p:Tmp} {ty:TypeId} {P:Program} (h:fn.results=#[.cell p ty,.tmp u,.tmp v]) (tmps:Array Value) (w:World) (g:Nat) (t:TypeId) (cs:Array Value) (fr:Nat×Nat) (d:TypeDesc)
 (hp:tmps.getD p undef=.pointer (some ⟨g,0,none⟩)) (hg:w.heap[g]? = some (.cells cs t fr)) (hu:P.underlying ty=some d) (hd:d.isRow=true) (hi:(P.info? ty).map (·.size)=some cs.size) :
 (results fn tmps).run P w=.ok (.tuple #[.agg cs,tmps.getD u undef,tmps.getD v undef]) w:=by
 have fA:tmps[p]?.getD undef=.pointer (some ⟨g,0,none⟩):=by simpa using hp
 have hl:=Ar (P:=P) w g t ty cs fr d hg hu (by cases d<;>simp_all [TypeDesc.isRow]) hi;simp [results,h,fA,asAddr,hl]
theorem asked_len {x:Tn} {q:Opn} (h:q∈zCb x):q.data.length≤x.data.length:=by
 unfold zCb at h
 split at h
 · rw [AR] at h;subst h;exact Ab _
 · split at h
   · rw [AR] at h;subst h;exact Ab _
   · rw [AW,AQ,AR] at h;rcases h with rfl | h | rfl
     · exact Ab _
     · obtain⟨z,-,rfl⟩:=List.mem_map.1 h
       show ((x.data.drop z.1).take _).length≤_
       rw [B5,B6];omega
     · exact Ab _
theorem asg_short (d:List UInt8):∀ (f e:Nat) (fr:Option Nat),(asg d f e fr).length≤f:=by
 intro f
 induction f with
 | zero=>intro e fr;simp [asg]
 | succ f ih =>
  intro e fr
  cases fr with
  | none =>
   rw [asg]
   split
   · simp
   · exact Ae (ih _ _)
  | some a =>
   rw [asg]
   split
   · simp
   · split
     · simp only [AS];exact Nat.succ_le_succ (ih _ _)
     · exact Ae (ih _ _)
theorem zHY (x:Tn):(zCb x).length≤1200:=by
 unfold zCb
 split
 · simp
 · split
   · simp
   · have:=asg_short x.data 1100 0 none;simp only [AS,AT,AL,AK];omega
def RFillP (S:Nat→Prop) (r:PT×Nat×Nat) (w:World) (e:Ending) (w':World):Prop :=
 ∃ t',e=.returned (.tuple #[trV t',.int .i64 (r.2.1:Int),.int .i64 (r.2.2:Int)])∧RefS S w' t' r.1∧Below w.heap.size w w'
def RFillI (S:Nat→Prop) (w:World) (g:Nat) (R:PT×Nat×Nat) (l:List Nd) (k:Nat) (wr:World):Prop :=
 ∃ t1 T1 fs,Blk wr g 28 (zAa t1)∧Blk wr (g+1) 28 z4∧RefS (zAJ S g 2) wr t1 T1∧T1.Inv∧zBA ((l.map Nd.tn).drop k) k fs T1=R∧FsR fs ((l.map Nd.tn).take k)∧Below w.heap.size w wr
def RFillJ (S:Nat→Prop) (w:World) (g:Nat) (R2:PT×Nat) (l2:List Os) (w3:World) (j:Nat) (wr:World):Prop :=
 ∃ t2 T2,Blk wr g 28 (zAa t2)∧Blk wr (g+1) 28 z4∧RefS (zAJ S g 2) wr t2 T2∧T2.Inv∧goT T2 ((l2.map (·.o)).drop j)=R2∧Below w.heap.size w wr∧Chg (fun b=>b=g) w3 wr
theorem rfill_any (S:Nat→Prop) (t:Tr) (T:PT) (A:Option Addr) (c:Nat) (l:List Nd) (w:World) (h:RefS S w t T) (hS:∀ b,S b→b<w.heap.size) (hT:T.Inv) (hN:NodesAt w w.heap.size A l) (hl:l.length≤1000000000) (hc:l.length≤c) (hd:∀ x∈l,x.data.length≤x.dc∧x.data.length≤1000000000) :
 Calls Af 21 #[.agg (zAa t).toArray,.slice A l.length c] w (RFillP S (T.fill (l.map Nd.tn)) w):=by
 obtain⟨R,hR⟩:=nM (T.fill (l.map Nd.tn));rw [hR];obtain⟨Q,hQ⟩:=nM (RFillP S R w);rw [hQ];obtain⟨len,fN⟩:=nM (l.length);rw [fN] at hl hc ⊢;obtain⟨g,hz⟩:=nM (w.heap.size);have jH:=(B8 w 28 (zAa t)).alloc (.cells z4.toArray 28);have jB:=B8 (w.alloc (.cells (zAa t).toArray 28)) 28 z4;have jI:Below w.heap.size w ((w.alloc (.cells (zAa t).toArray 28)).alloc (.cells z4.toArray 28)):=(br.alloc nr _).alloc (by simp) _;rw [show (w.alloc (.cells (zAa t).toArray 28)).heap.size=w.heap.size+1 by simp] at jB;have jJ:=(h.addR 2 (Ac w.heap.size)).fresh jI;rw [hz] at jH jB jJ;have jK:=hid hQ;have jC:=hid hN;have fM:=hid fN;have gF:=hid hz;have lZ:=hid hS;have mA:=hid hd;have gG:RFillI S w g R l 0 ((w.alloc (.cells (zAa t).toArray 28)).alloc (.cells z4.toArray 28)):=⟨t,T,[],jH,jB,jJ,hT,by rw [B4];exact hR,FsR.nil,jI⟩;clear hR hQ fN h hS hT hN hd jH jB jI jJ;go_enter Tryz.func21,Tryz.ntmps21;go_upto_region 1 with (fail)
 try simp only [hz]
 change B9 _ _ _ _ ((w.alloc (.cells (zAa t).toArray 28)).alloc (.cells z4.toArray 28));generalize (w.alloc (.cells (zAa t).toArray 28)).alloc (.cells z4.toArray 28)=wA at *;clear hz;go_wp2
 go_loopw [7] (fun v wr=>∃ k:Nat,k≤len∧v=.int .i64 (k:Int)∧RFillI S w g R l k wr) (fun v _=>len-(intOf v).toNat)
 case atStart=>exact⟨0,Ab _,rfl,gG⟩
 case round =>
  obtain⟨k,hk,rfl,t1,T1,fs,kU,kV,kW,kX,kY,kZ,lA⟩:=hrel;clear gG;have gH:=hid kU;have fO:=hid kV;have gI:=hid kW;have jL:=hid kX;have fH:=hid kY;have gJ:=hid kZ;have fA:=hid lA;clear kU kV kW kX kY kZ lA;by_cases lB:k<len
  · have t1':decide ((k:Int)<(len:Int))=true:=by simpa using lB
    have gK:k<l.length:=by rw [fM.o];exact lB
    obtain⟨b,off,rfl,mB,gL⟩:=jC.o.at_ (by omega);have mC:=(jC.o.below fA.o).more fA.o.size;have gM:=gL k gK;have fP:=AD gK;have hds:=hid (jC.o.data _ fP);have lC:=hid (mA.o _ fP)
    have jM:Hid ((l.map Nd.tn).drop k=l[k].tn::(l.map Nd.tn).drop (k+1)):=hid (by
     rw [AP (by simpa using gK)];simp)
    have mD:Hid ((l.map Nd.tn).take (k+1)=(l.map Nd.tn).take k++[l[k].tn]):=hid (by
     rw [List.take_add_one,B1 (by simpa using gK)];simp)
    clear gL fP mC;generalize l[k]=x at *;obtain⟨pa,ki,ma,sa,dA,dc,da⟩:=x;have gN:=hid fun (W:World) (hW:Below w.heap.size w W)=>gM.keep (w1:=W) fun p hp=>hW.cell (by rw [hp];exact mB)
    have lD:(l.take k).length=k:=by rw [B5];omega
    have fE:=hid fun (W:World) (hW:Below w.heap.size w W)=>zJZ (l.take k) (some ⟨b,off,none⟩) c pa ki ma sa dA dc da W (zKl ((jC.o.below hW).more hW.size) k) (by omega) (by have:=lC.o.2;simp only at this;omega);rw [lD,List.map_take,mayR_may gJ.o] at fE;obtain⟨may,jN⟩:=nM (zGQ ⟨pa,ki,ma,sa,da⟩ fs);rw [jN] at fE;have jD:=hid jN;obtain⟨dl,jO⟩:=nM (da.length);have fQ:=hid jO;rw [jO] at fE;have mJ:∀ W:World,_:=fun W=>slice_hi W b off len c k (by omega)
    have b0:(0:Int)≤(k:Int):=by omega
    have b1:(k:Int)<(len:Int):=by omega
    have jP:Hid (∀ W,Below wr.heap.size wr W→W.rangeAt b (off+k * 5) [.string pa,.int .i64 ki,.int .i64 ma,.string sa,.slice dA dl dc]):=hid fun W hb=>by
     have:=nd_range (gN.o W (fA.o.trans (hb.mono fA.o.size)));rw [show zCN ⟨pa,ki,ma,sa,dA,dc,da⟩=[.string pa,.int .i64 ki,.int .i64 ma,.string sa,.slice dA da.length dc] from rfl,fQ.o] at this;exact this
    clear jN jO lD gK gM;go_upto_region 4 with (fail)
    go_cut [8] from 19 to 26 (fun v wx=>v=.bool may∧Below wr.heap.size wr wx)
    case first =>
     refine As (S:=fun w'=>Below wr.heap.size wr w') (by kernel_rfl) (zAd br 1) fun hH=>?_;refine tk 0 (.slice (some ⟨b,off,none⟩) len c) rfl (.inl ⟨by rfl,fun _ _=>by go_simp⟩) hH ?_
     (try simp only [Ba,AE,AF,AG,AH,AI,AJ])
     refine tk 1 (.int .i64 (k:Int)) rfl (.inl ⟨by rfl,fun _ _=>by go_simp⟩) hH ?_
     (try simp only [Ba,AE,AF,AG,AH,AI,AJ])
     refine tk 2 (.slice (some ⟨b,off,none⟩) k c) rfl (.inl ⟨by rfl,fun _ _=>by go_simp⟩) hH ?_
     (try simp only [Ba,AE,AF,AG,AH,AI,AJ])
     refine tk 3 (.slice (some ⟨b,off,none⟩) len c) rfl (.inl ⟨by rfl,fun _ _=>by go_simp⟩) hH ?_
     (try simp only [Ba,AE,AF,AG,AH,AI,AJ])
     refine tk 4 (.int .i64 (k:Int)) rfl (.inl ⟨by rfl,fun _ _=>by go_simp⟩) hH ?_
     (try simp only [Ba,AE,AF,AG,AH,AI,AJ])
     refine tk 5 (.pointer (some ⟨b,off+k * 5,none⟩)) rfl (.inl ⟨by rfl,fun _ _=>by go_simp⟩) hH ?_
     (try simp only [Ba,AE,AF,AG,AH,AI,AJ])
     refine tk 6 (.agg #[.string pa,.int .i64 ki,.int .i64 ma,.string sa,.slice dA dl dc]) rfl (At (by rfl) 75 _ rfl b (off+k * 5) rfl [.string pa,.int .i64 ki,.int .i64 ma,.string sa,.slice dA dl dc] _ (fun _ hw=>jP.o _ hw) Tryz.underlying75 rfl rfl) hH ?_
     (try simp only [Ba,AE,AF,AG,AH,AI,AJ])
     have bq:Below wr.heap.size wr wr.drew:=hH;generalize wr.drew=wq at *;clear hH;refine Au (rs:=[7]) (by decide +kernel) (by simp) (Bb rfl (fun K hK=>?_) Bc);rw [if_pos (by rfl)]
     go_simp
     go_at_call 39
     refine (fE.o wq (fA.o.trans (bq.mono fA.o.size))).mono ?_;rintro e w1 ⟨rfl,mE⟩;have bq:=bq.trans (mE.mono bq.size)
     (try go_simp)
     refine hK.out _ _ bq fun hH=>?_;clear hK K hH
     (try simp only [Ba,AE,AF,AG,AH,AI,AJ])
     refine tk 8 (.bool may) rfl (.inl ⟨by rfl,fun _ _=>by go_simp⟩) bq ?_
     (try simp only [Ba,AE,AF,AG,AH,AI,AJ])
     refine Ax (by kernel_rfl) ?_ _;go_wp2;go_meet;exact⟨rfl,bq⟩
    case rest =>
     obtain⟨rfl,jE⟩:=hcut;generalize wc=w2 at *;have jQ:=gH.o.fresh jE;have gO:=fO.o.fresh jE;have jR:=gI.o.fresh jE;have fR:=fA.o.trans (jE.mono fA.o.size);have mK:g+1<w2.heap.size:=gO.lt
     cases may with
     | false =>
      have fB:R=(T1,k,171):=by
       rw [←fH.o,jM.o,zBA];exact if_pos jD.o
      subst fB;go_upto_region 6 with (fail);have hC:Chg (fun b=>b=g+1) w2 (w2.setRow (g+1) (zAa t1).toArray):=(Bd (fun b=>b=g+1) w2).setRow (fun _=>rfl) _;have fF:=Ay w2 (g+1) _ (zAa t1).toArray _ _ gO;have gP:=(jR.chg (hC.mono fun b _ (e:b=g+1)=>.inr (by omega))).mono fun b h=>.inl h;have fD:=fR.trans (hC.below fR.size fun b hb e=>by have:=gF.o;omega)
      go_wp2_with (first
       | (refine ldT jQ rfl rfl rfl ?_)
       | (refine stT t1 gO rfl rfl rfl (by rfl) rfl ?_))
      refine Az (zBN rfl _ _ (g+1) 28 (zAa t1).toArray (0,0) _ rfl fF Ag rfl (by kernel_rfl)) rfl ?_;rw [←jK.o];exact⟨t1,rfl,gP,fD⟩
     | true =>
      have jS:da.length≤136704:=by
       have h9:=jD.o;unfold zGQ at h9;by_cases h1:ma<0∨1099511627776<ma∨136704<da.length
       · rw [if_pos h1] at h9;cases h9
       · omega
      have lE:=hid (fillT_go (T:=T1) (x:=⟨pa,ki,ma,sa,da⟩) jS);have fS:=zKm pa ki ma sa dA dc da w.heap.size w2 (hds.o.below fR) fR.size (by have:=lC.o.1;simpa using this) jS;rw [fQ.o] at fS;obtain⟨c0,c1,c2,c3,c4⟩:=gN.o w2 fR;simp only at c0 c1 c2 c3 c4;rw [fQ.o] at c4;have jT:=hid jQ;have jU:=hid gO;have jV:=hid jR;have fI:=hid fR;clear jQ gO jR fR fE;go_upto_region 8 with (go_at_call 40;refine fS.mono ?_;rintro e w3 ⟨A2,cp,l2,rfl,lF,jF,jW,lG,fD⟩);have jX:=hid (zHT lF fun y hy=>(jW y hy).more (Ad fI.o.size fD.size));have jY:=hid lG;have mF:=hid jF;have fT:RFillJ S w g (goT T1 (zCb ⟨pa,ki,ma,sa,da⟩)) l2 w3 0 w3:=⟨t1,T1,jT.o.fresh fD,jU.o.fresh fD,jV.o.fresh fD,jL.o,by rw [B4,jF],fI.o.trans (fD.mono fI.o.size),Bd _ _⟩;have jZ:=hid jW;obtain⟨R2,fU⟩:=nM (goT T1 (zCb ⟨pa,ki,ma,sa,da⟩));rw [fU] at fT;have gQ:=hid fU;obtain⟨n2,fJ⟩:=nM (l2.length);have gR:=hid fJ
      have mL:n2≤1200:=by
       rw [←fJ,←AL (f:=fun z:Os=>z.o),jF];exact zHY _
      rw [fJ];clear lF jF jW lG c0 c1 c2 c3 c4 fS fU fJ;go_wp2
      go_loopw [10] (fun v wr=>∃ j:Nat,j≤n2∧v=.int .i64 (j:Int)∧RFillJ S w g R2 l2 w3 j wr) (fun v _=>n2-(intOf v).toNat)
      case atStart=>exact⟨0,Ab _,rfl,fT⟩
      case round =>
       obtain⟨j,hj,rfl,t2,T2,kC,kD,kE,lH,lI,kF,kG⟩:=hrel;obtain⟨w0,lJ⟩:∃ w0,w0=wr:=⟨_,rfl⟩;rw [←lJ] at kC kD kE kF kG ⊢;have fV:=hid kC;have fK:=hid kD;have gS:=hid kE;have fW:=hid lH;have fX:=hid lI;have fC:=hid kF;have fL:=hid kG;clear fT kC kD kE lH lI kF kG lJ;by_cases lK:j<n2
       · have u1:decide ((j:Int)<(n2:Int))=true:=by simpa using lK
         have fY:j<l2.length:=by rw [gR.o];exact lK
         obtain⟨b2,off2,rfl,gT,gL⟩:=jX.o.at_ (by omega);have mG:w2.heap.size≤b2:=jY.o b2 off2 rfl;have gM:=gL j fY;have fP:=AD fY;have lL:=hid (jZ.o _ fP);have lM:=hid (Ad (asked_len (mF.o▸List.mem_map_of_mem (f:=fun z:Os=>z.o) fP)) jS)
         have fG:Hid ((l2.map (·.o)).drop j=l2[j].o::(l2.map (·.o)).drop (j+1)):=hid (by
          rw [AP (by simpa using fY)];simp)
         clear gL fP;generalize l2[j]=y at *;obtain⟨⟨ok,pb,ds,oo,ol,db,om,op⟩,eA,ec⟩:=y;simp only at lL fG;have gU:=hid fun (W:World) (hW:Below w0.heap.size w0 W)=>zIz (zFa gM (w1:=W) fun p hp=>(hW.cell (by rw [hp];exact Aa gT fL.o.size)).trans (fL.o.cell (by rw [hp];exact gT) (fun e:p.block=g=>by omega)));simp only at gU lM;obtain⟨r7,kI⟩:=nM (T2.run ⟨ok,pb,ds,oo,ol,db,om,op⟩);obtain⟨T7,an⟩:=r7
         have lN:Hid (∀ W,Below w0.heap.size w0 W→Calls Af 32 #[.agg (zAa t2).toArray,.agg (opC ⟨ok,pb,ds,oo,ol,db,om,op⟩ eA ec).toArray] W (DoT (SW (zAJ S g 2) w0 W) (T7,an) W)):=hid fun W hb=>by
          have h9:=zId (SW (zAJ S g 2) w0 W) t2 T2 ⟨ok,pb,ds,oo,ol,db,om,op⟩ eA ec W (sw_ref gS.o hb) (sw_lt (fun b hb=>by
           rcases hb with e | e
           · have:=lZ.o b e;have:=fC.o.size;omega
           · have:=fK.o.lt;omega) hb) fW.o ((((lL.o.below (fL.o.below (Ad fI.o.size fD.size) fun b hb e=>by have:=gF.o;omega)).below (hb.mono fC.o.size)).more (Ad fC.o.size hb.size))) (by have:=lM.o;simp only;omega)
          rw [kI] at h9;exact h9
         have fZ:=hid kI
         have b2':(0:Int)≤(j:Int):=by omega
         have b3':(j:Int)<(n2:Int):=by omega
         clear kI gM;go_upto_region 11 with (fail)
         go_cut [11,12] from 42 to 50 (fun c11 c12 wx=>PairQ w0 (zAJ S g 2) T7 an c11 c12 wx)
         case first =>
          refine As (S:=fun w'=>Below w0.heap.size w0 w') (by kernel_rfl) (zAd br 1) fun hH=>?_;refine tk 0 (.agg (zAa t2).toArray) rfl (At (by rfl) 28 _ rfl g 0 rfl (zAa t2) _ (fun _ hw=>zBq (fV.o.fresh hw)) Ag rfl rfl) hH ?_
          (try simp only [Ba,AE,AF,AG,AH,AI,AJ])
          refine tk 1 (.slice (some ⟨b2,off2,none⟩) n2 cp) rfl (.inl ⟨by rfl,fun _ _=>by go_simp⟩) hH ?_
          (try simp only [Ba,AE,AF,AG,AH,AI,AJ])
          refine tk 2 (.int .i64 (j:Int)) rfl (.inl ⟨by rfl,fun _ _=>by go_simp⟩) hH ?_
          (try simp only [Ba,AE,AF,AG,AH,AI,AJ])
          refine tk 3 (.pointer (some ⟨b2,off2+j * 8,none⟩)) rfl (.inl ⟨by rfl,fun _ _=>by go_simp⟩) hH ?_
          (try simp only [Ba,AE,AF,AG,AH,AI,AJ])
          refine tk 4 (.agg (opC ⟨ok,pb,ds,oo,ol,db,om,op⟩ eA ec).toArray) rfl (At (by rfl) 70 _ rfl b2 (off2+j * 8) rfl (opC ⟨ok,pb,ds,oo,ol,db,om,op⟩ eA ec) _ (fun _ hw=>gU.o _ hw) Ah rfl rfl) hH ?_
          (try simp only [Ba,AE,AF,AG,AH,AI,AJ])
          have bq:Below w0.heap.size w0 w0.drew:=hH;generalize w0.drew=wq at *;clear hH
          iterate 3
           all_goals first
            | refine Au (rs:=[5,9,10]) (by decide +kernel) (by simp) (Bb rfl (fun K hK=>?_) (Bb rfl (fun K hK=>?_) (Bb rfl (fun K hK=>?_) Bc)))
            | refine Au (rs:=[9,10]) (by decide +kernel) (by simp) (Bb rfl (fun K hK=>?_) (Bb rfl (fun K hK=>?_) Bc))
            | refine Au (rs:=[5,10]) (by decide +kernel) (by simp) (Bb rfl (fun K hK=>?_) (Bb rfl (fun K hK=>?_) Bc))
            | refine Au (rs:=[5,9]) (by decide +kernel) (by simp) (Bb rfl (fun K hK=>?_) (Bb rfl (fun K hK=>?_) Bc))
            | refine Au (rs:=[5]) (by decide +kernel) (by simp) (Bb rfl (fun K hK=>?_) Bc)
            | refine Au (rs:=[9]) (by decide +kernel) (by simp) (Bb rfl (fun K hK=>?_) Bc)
            | refine Au (rs:=[10]) (by decide +kernel) (by simp) (Bb rfl (fun K hK=>?_) Bc)
           all_goals
            rw [if_pos (by rfl)]
            go_simp
            first
             | (go_at_call 32;generalize wq=wW at *;(with_reducible refine (lN.o wW bq).mono ?_);rintro e w1 ⟨⟨t4,v4,rfl,mH,dA,dc,eA,ec,rfl,y1,y2,y3,y4⟩,jG⟩;have mI:zD2 _ w1 _ an:=⟨dA,dc,eA,ec,rfl,y1,y2,y3,y4⟩;clear y1 y2 y3 y4;have bW:=hid bq;(first | have cT:=hid (Or.inl (b:=w1.heap.size≤ub) kT.lt) | skip);(first | have cA:=hid (Or.inl (b:=w1.heap.size≤ua) kA.lt) | skip);have bq:=bq.trans (jG.mono bq.size);(try go_simp);refine hK.out _ _ bq fun hH=>?_;clear hK K hH;(try simp only [Ba,AE,AF,AG,AH,AI,AJ]);refine tk 6 (.tuple #[trV t4,.agg (zAq an.code an.stat (.slice dA an.data.length dc) (.slice eA an.ents.length ec)).toArray]) rfl (.inl ⟨by rfl,fun _ _=>rfl⟩) bq ?_;(try simp only [Ba,AE,AF,AG,AH,AI,AJ]);refine tk 7 (trV t4) rfl (.inl ⟨by rfl,fun _ _=>rfl⟩) bq ?_;(try simp only [Ba,AE,AF,AG,AH,AI,AJ]);refine tk 8 (.agg (zAq an.code an.stat (.slice dA an.data.length dc) (.slice eA an.ents.length ec)).toArray) rfl (.inl ⟨by rfl,fun _ _=>rfl⟩) bq ?_;(try simp only [Ba,AE,AF,AG,AH,AI,AJ]);obtain⟨wq,hq⟩:∃ wq,wq=w1:=⟨_,rfl⟩;have bx:Below w1.heap.size w1 wq:=(by rw [hq];exact Below.refl _ _);(first | have kT:=kT.fresh jG | skip);(first | have kA:=kA.fresh jG | skip);(first | rw [←hq] at kT | skip);(first | rw [←hq] at kA | skip);rw [←hq] at bq;rw [←hq];clear hq)
             | (have kT:=B8 wq 28 z4;have lO:=hid bq.size;(first | have cT:=hid (show wq.heap.size<wW.heap.size∨_ from Or.inr bx.size) | skip);(first | have kJ:=hid (Nat.ne_of_gt kA.lt) | skip);(first | have kA:=kA.alloc (.cells z4.toArray 28) | skip);(first | have bx:=bx.alloc bx.size (.cells z4.toArray 28) | skip);have bq:=bq.alloc bq.size (.cells z4.toArray 28);refine hK.out _ _ bq fun hH=>?_;clear hK K hH;(try simp only [Ba,AE,AF,AG,AH,AI,AJ]);change wpAnyH _ _ _ _ _ _ _ _ (wq.alloc (.cells z4.toArray 28));generalize wq.heap.size=ub at *;generalize wq.alloc (.cells z4.toArray 28)=wq at *)
             | (have kA:=B8 wq 67 zAk;have lP:=hid bq.size;(first | have cA:=hid (show wq.heap.size<wW.heap.size∨_ from Or.inr bx.size) | skip);(first | have kJ:=hid (Nat.ne_of_lt kT.lt) | skip);(first | have kT:=kT.alloc (.cells zAk.toArray 67) | skip);(first | have bx:=bx.alloc bx.size (.cells zAk.toArray 67) | skip);have bq:=bq.alloc bq.size (.cells zAk.toArray 67);refine hK.out _ _ bq fun hH=>?_;clear hK K hH;(try simp only [Ba,AE,AF,AG,AH,AI,AJ]);change wpAnyH _ _ _ _ _ _ _ _ (wq.alloc (.cells zAk.toArray 67));generalize wq.heap.size=ua at *;generalize wq.alloc (.cells zAk.toArray 67)=wq at *)
          all_goals
           have fB:=hid (zF8 mH mI bW.o jG bx kT kA kJ.o ⟨lO.o,cT.o⟩ ⟨lP.o,cA.o⟩);have gG:=((Bd (fun b=>w0.heap.size≤b) wq).setRow (g:=ub) (fun _=>lO.o) (zAa t4).toArray);refine Au (rs:=[11]) (by decide +kernel) (by simp) (Bb rfl (fun K hK=>?_) Bc);rw [if_pos (by rfl)];refine Aw 28 _ _ rfl ub (zAa t4).toArray rfl rfl 28 _ kT rfl rfl (zCm t4) ?_;refine hK.out _ _ (bq.trans (gG.below bq.size fun b hb e=>by omega)) fun hH=>?_;clear hK K hH
           (try simp only [Ba,AE,AF,AG,AH,AI,AJ])
           refine Au (rs:=[12]) (by decide +kernel) (by simp) (Bb rfl (fun K hK=>?_) Bc);rw [if_pos (by rfl)];refine Aw 67 _ _ rfl ua (zAq an.code an.stat (.slice dA an.data.length dc) (.slice eA an.ents.length ec)).toArray rfl rfl 67 _ (kA.row_far (fun e=>kJ.o e.symm) _) rfl rfl (zEf _ _ _ _ _ _ _ _) ?_;refine hK.out _ _ (bq.trans ((gG.setRow (g:=ua) (fun _=>lP.o) _).below bq.size fun b hb e=>by omega)) fun hH=>?_;clear hK K hH
           (try simp only [Ba,AE,AF,AG,AH,AI,AJ])
           refine Ax (by kernel_rfl) ?_ _;go_wp2;go_meet;exact fB.o
         case rest =>
          obtain⟨ub,ua,t6,dA2,dc2,eA2,ec2,rfl,rfl,hU,hV,lQ,-,gD,mM,mN⟩:=hcut;generalize wc=w8 at *;have kK:=fV.o.fresh gD;have lR:=fK.o.fresh gD;have mO:=fK.o.lt
          have lS:T7.Inv:=by
           have:=zCa fW.o ⟨ok,pb,ds,oo,ol,db,om,op⟩;rw [fZ.o] at this;exact this
          go_upto_region 13 with (first
           | (refine ldT hU rfl rfl rfl ?_)
           | (refine stT t6 kK rfl rfl rfl (by rfl) rfl ?_))
          have gE:Chg (fun b=>b=g) w8 (w8.setRow g (zAa t6).toArray):=(Bd (fun b=>b=g) w8).setRow (fun _=>rfl) _;have lT:Blk (w8.setRow g (zAa t6).toArray) g 28 (zAa t6):=Ay w8 g _ (zAa t6).toArray _ _ kK;have lU:=lR.chg gE (by omega);have kL:=hV.chg gE (by omega);have lV:=lQ.chg (gE.mono fun b _ (e:b=g)=>.inr (by omega));have lW:=fC.o.trans ((gD.mono fC.o.size).trans (gE.below (Ad fC.o.size gD.size) fun b hb e=>by have:=gF.o;omega));have lX:=fL.o.trans ((Be (S:=fun b=>b=g) gD).trans gE (fun _ _ h=>h) (fun _ _ h=>h)) (fun _ _ h=>h) (fun _ _ h=>h);change B9 _ _ _ _ (w8.setRow g (zAa t6).toArray);generalize w8.setRow g (zAa t6).toArray=w9 at *;have v0:w9.cell? ⟨ua,0,none⟩=some (.int .i64 (an.code:Int)):=kL.cell 0;have kM:=kL.lt;have gV:=hid lT;have gW:=hid lU;have gX:=hid lV;have gA:=hid lW;have kN:=hid lX;have kO:=hid lS;clear hU hV lQ gD kK lR gE lT lU kL lV lW lX lS lN;by_cases gB:an.code=0
          · have u2:((an.code:Int) != 0)=false:=by rw [gB];rfl
            have gC:=hid (show goT T7 ((l2.map (·.o)).drop (j+1))=R2 by
             rw [←fX.o,fG.o,goT,fZ.o];exact (if_neg (fun h=>h gB)).symm)
            clear gB;go_wp2;go_roundw
            case rel=>exact⟨j+1,by omega,by go_num,t6,T7,gV.o,gW.o,gX.o,kO.o,gC.o,gA.o,kN.o⟩
            case measure=>simp [intOf];omega
          · have u2:((an.code:Int) != 0)=true:=by simpa using gB
            have gC:R2=(T7,an.code):=by
             rw [←fX.o,fG.o,goT,fZ.o];exact if_pos gB
            have fB:R=(T7,k,an.code):=by
             have h1:=lE.o;rw [gQ.o,gC] at h1;rw [←fH.o,jM.o,zBA];refine (if_neg (fun h9=>Bj (jD.o.symm.trans h9))).trans ?_
             show (if (zBX T1 ⟨pa,ki,ma,sa,da⟩).2≠0 then ((zBX T1 ⟨pa,ki,ma,sa,da⟩).1,k,(zBX T1 ⟨pa,ki,ma,sa,da⟩).2) else _)=_
             rw [h1];exact if_pos gB
            subst fB;clear gB gC;go_upto_region 14 with (fail);have gY:Below w9.heap.size w9 w9.drew:=br.drew;have kP:=gV.o.fresh gY;have gZ:=gW.o.fresh gY;have kQ:=gX.o.fresh gY;have jA:=gA.o.trans (gY.mono gA.o.size);have kR:w9.drew.cell? ⟨ua,0,none⟩=some (.int .i64 (an.code:Int)):=(gY.cell (p:=⟨ua,0,none⟩) kM).trans v0;have hC:Chg (fun b=>b=g+1) w9.drew (w9.drew.setRow (g+1) (zAa t6).toArray):=(Bd (fun b=>b=g+1) w9.drew).setRow (fun _=>rfl) _;have fF:=Ay w9.drew (g+1) _ (zAa t6).toArray _ _ gZ;have gP:=(kQ.chg (hC.mono fun b _ (e:b=g+1)=>.inr (by omega))).mono fun b h=>.inl h;have fD:=jA.trans (hC.below jA.size fun b hb e=>by have:=gF.o;omega);refine As (S:=fun w'=>Blk w' g 28 (zAa t6)∧w'.cell? ⟨ua,0,none⟩=some (.int .i64 (an.code:Int))) (by kernel_rfl) ⟨kP,kR⟩ fun hH=>?_;refine tk 0 (.agg (zAa t6).toArray) rfl (At (by rfl) 28 _ rfl g 0 rfl (zAa t6) _ (fun _ h=>zBq h.1) Ag rfl rfl) hH ?_
            (try simp only [Ba,AE,AF,AG,AH,AI,AJ])
            refine tk 1 (.int .i64 (k:Int)) rfl (.inl ⟨by rfl,fun _ _=>by go_simp⟩) hH ?_
            (try simp only [Ba,AE,AF,AG,AH,AI,AJ])
            refine tk 2 (.pointer (some ⟨ua,0,none⟩)) rfl (.inl ⟨by rfl,fun _ _=>by go_simp⟩) hH ?_
            (try simp only [Ba,AE,AF,AG,AH,AI,AJ])
            refine tk 3 (.int .i64 (an.code:Int)) rfl (.inl ⟨by rfl,fun w9 h=>by have h9:=h.2;go_simp⟩) hH ?_
            (try simp only [Ba,AE,AF,AG,AH,AI,AJ])
            refine Au (rs:=[4]) (by kernel_rfl) (by simp) (Bb rfl (fun K hK=>?_) Bc);rw [if_pos (by rfl)];refine Aw 28 _ _ rfl (g+1) (zAa t6).toArray rfl rfl 28 _ gZ rfl rfl (zCm t6) ?_;refine hK.out _ _ ⟨Blk.row_far hH.1 (by omega) _,(cell_setRow_other _ _ _ _ (show ua≠g+1 by omega)).trans hH.2⟩ fun hH=>?_;clear hK K
            (try simp only [Ba,AE,AF,AG,AH,AI,AJ])
            refine tk 5 (.int .i64 (k:Int)) rfl (.inl ⟨by rfl,fun _ _=>by go_simp⟩) hH ?_
            (try simp only [Ba,AE,AF,AG,AH,AI,AJ])
            refine tk 6 (.int .i64 (an.code:Int)) rfl (.inl ⟨by rfl,fun _ _=>by go_simp⟩) hH ?_
            (try simp only [Ba,AE,AF,AG,AH,AI,AJ])
            refine Ax (by kernel_rfl) ?_ _;clear hH;go_wp2;refine Az (zBN rfl _ _ (g+1) 28 (zAa t6).toArray (0,0) _ rfl fF Ag rfl (by kernel_rfl)) rfl ?_;rw [←jK.o];exact⟨t6,rfl,gP,fD⟩
       · obtain rfl:j=n2:=by omega
         have u1:decide ((j:Int)<(j:Int))=false:=by simp
         have gC:R2=(T2,0):=by
          rw [←fX.o,AO (by rw [AL,gR.o];exact Ac _)];rfl
         have lY:zBA ((l.map Nd.tn).drop (k+1)) (k+1) (if ki=1 then zA2 zAV pa () fs else fs) T2=R:=by
          have h1:=lE.o;rw [gQ.o,gC] at h1;rw [←fH.o,jM.o,zBA];refine Eq.symm ((if_neg (fun h9=>Bj (jD.o.symm.trans h9))).trans ?_)
          show (if (zBX T1 ⟨pa,ki,ma,sa,da⟩).2≠0 then ((zBX T1 ⟨pa,ki,ma,sa,da⟩).1,k,(zBX T1 ⟨pa,ki,ma,sa,da⟩).2) else zBA ((l.map Nd.tn).drop (k+1)) (k+1) (if ki=1 then zA2 zAV pa () fs else fs) (zBX T1 ⟨pa,ki,ma,sa,da⟩).1)=_
          rw [h1];exact if_neg (fun h=>h rfl)
         have kS:Hid (RFillI S w g R l (k+1) w0):=hid ⟨t2,T2,if ki=1 then zA2 zAV pa () fs else fs,fV.o,fK.o,gS.o,fW.o,lY,by rw [mD.o];exact gJ.o.step ⟨pa,ki,ma,sa,da⟩,fC.o⟩;clear gC lY;go_wp2;go_roundw
         case rel=>exact⟨k+1,by omega,by go_num,kS.o⟩
         case measure=>simp [intOf];omega
  · obtain rfl:k=len:=by omega
    have t1':decide ((k:Int)<(k:Int))=false:=by simp
    have fB:R=(T1,k,0):=by
     rw [←fH.o,AO (by rw [AL,fM.o];exact Ac _)];rfl
    subst fB;have hC:Chg (fun b=>b=g+1) wr (wr.setRow (g+1) (zAa t1).toArray):=(Bd (fun b=>b=g+1) wr).setRow (fun _=>rfl) _;have fF:=Ay wr (g+1) _ (zAa t1).toArray _ _ fO.o;have gP:=(gI.o.chg (hC.mono fun b _ (e:b=g+1)=>.inr (by omega))).mono fun b h=>.inl h;have fD:=fA.o.trans (hC.below fA.o.size fun b hb e=>by have:=gF.o;omega)
    go_wp2_with (first
     | (refine ldT gH.o rfl rfl rfl ?_)
     | (refine stT t1 fO.o rfl rfl rfl (by rfl) rfl ?_))
    refine Az (zBN rfl _ _ (g+1) 28 (zAa t1).toArray (0,0) _ rfl fF Ag rfl (by kernel_rfl)) rfl ?_;rw [←jK.o];exact⟨t1,rfl,gP,fD⟩
theorem zJ3:∀ (l:List Tn) (k:Nat) (fs:List (ByteArray×Unit)) (T:PT),T.Inv→(zBA l k fs T).1.Inv:=by
 intro l
 induction l with
 | nil=>intro k fs T h;exact h
 | cons x r ih =>
  intro k fs T h;rw [zBA]
  split
  · exact h
  · split
    · exact zE5 h x
    · exact ih _ _ _ (zE5 h x)
theorem inv_fill {T:PT} (h:T.Inv) (l:List Tn):(T.fill l).1.Inv:=zJ3 l 0 [] T h
theorem lentL_tn2 (l:List Nd) (bs:Nat→Nat):(zD5 l bs).map Nd.tn=l.map Nd.tn:=by
 apply List.ext_getElem
 · simp [zD5]
 · intro i h1 h2;simp [zD5,zDh,Nd.tn]
theorem zHj {w w1:World} {B g:Nat} {vb:Value} {bs:Nat→Nat} {l:List Nd} {S:Nat→Prop} (h:LentAt w B g vb bs l) (hc:Chg S w w1) (hS:∀ b,B≤b→b<w.heap.size→¬S b):LentAt w1 B g vb bs l:=by
 obtain⟨cs,hr,hl⟩:=h.row;have hg:=hS g h.gB hr.lt;refine⟨h.gB,h.mem.keep hc hg (fun i hi e=>hS _ (by have:=h.mem.low i hi;have:=h.gB;omega) (h.mem.data i hi hi).lt e) hr.lt,⟨cs,hr.chg hc hg,hl⟩,fun i h1 h2=>?_,zAy h.own hc fun b e=>hS b (by have:=(h.own.lt b e).1;have:=h.gB;omega) (h.own.lt b e).2⟩;obtain⟨m1,m2⟩:=h.marked i h1 h2;exact⟨(hc.cell (p:=⟨g,i * 5,none⟩) hr.lt hg).trans m1,(hc.cell (p:=⟨g,i * 5+4,none⟩) hr.lt hg).trans m2⟩
theorem zF0 {w w1:World} {B g:Nat} {vb:Value} {bs:Nat→Nat} {l:List Nd} (h:LentAt w B g vb bs l) (hb:Below w.heap.size w w1):LentAt w1 B g vb bs l :=
 zHj h (S:=fun b=>w.heap.size≤b) (Chg.of_below hb) fun b _ h1 h2=>by omega
theorem zIY {w:World} {B g:Nat} {vb:Value} {bs:Nat→Nat} {l:List Nd} (h:LentAt w B g vb bs l):(B≤g∧g<w.heap.size)∧∀ i,i<l.length→B≤bs i∧bs i<w.heap.size:=by
 obtain⟨cs,hr,hl⟩:=h.row;refine⟨⟨h.gB,hr.lt⟩,fun i hi=>⟨by have:=h.mem.low i hi;have:=h.gB;omega,(h.mem.data i hi hi).lt⟩⟩
section
variable {w0 w w':World} {S:Nat→Prop} {p mb:Nat} {T T2:PT} {t:Tr} {m0:Int}
def GrFill (w0:World) (S:Nat→Prop) (p mb:Nat) (r:PT×Nat×Nat) (T2:PT) (t:Tr) (w:World) (e:Ending) (w':World):Prop :=
 e=.returned (.tuple #[.int .i64 (r.2.1:Int),.int .i64 (r.2.2:Int)])∧zDs w0 w' S p mb r.1 T2 t∧Chg (fun b=>¬S b∧w0.heap.size≤b) w w'
theorem gr_fill (h:zDs w0 w S p mb T T2 t) (hI:T.Inv) (hm:w0.cell? ⟨0,0,none⟩=some (.int .i64 m0)) {B g:Nat} {vb:Value} {bs:Nat→Nat} {l:List Nd} (hL:LentAt w B g vb bs l) (hS:∀ b,B≤b→b<w.heap.size→S b)
 (cap:Nat) (fC:l.length≤1000000000) (fB:l.length≤cap) (fD:∀ x∈l,x.path.size≤3000000∧x.same.size≤3000000∧x.data.length≤1000000000000) :
 Calls Af 18 #[ifV p,.slice (some ⟨g,0,none⟩) l.length cap] w (GrFill w0 S p mb (T.fill (l.map Nd.tn)) T2 t w):=by
 obtain⟨own,lay,a,b,c',d,e⟩:=h;have h0:(0:Nat)<w0.heap.size:=An w0 ⟨0,0,none⟩ hm;obtain⟨⟨g1,g2⟩,fE⟩:=zIY hL
 have hf:=fill_any own lay p mb T m0 w a hI ((e.cell (p:=⟨0,0,none⟩) (An _ _ hm)).trans hm) (d 0 h0) (some ⟨g,0,none⟩) cap (zD5 l bs) (zFr hL)
  ⟨fun b off e1 h1=>by injection e1 with e1;injection e1 with e1 _ _;exact e1▸(c' g (hS g g1 g2)).2,fun x hx b off e1 h1=>by
   obtain⟨i,hi,rfl⟩:=B7 hx
   have fA:i<l.length:=by rw [zAX] at hi;exact hi
   rw [zC7 l bs i hi fA] at e1;unfold zDh at e1;simp only at e1;injection e1 with e1;injection e1 with e1 _ _;have:=fE i fA
   exact e1▸(c' _ (hS _ this.1 this.2)).2⟩ (by rw [zAX];exact fC) (by rw [zAX];exact fB) (fun x hx=>by
   obtain⟨i,hi,rfl⟩:=B7 hx
   have fA:i<l.length:=by rw [zAX] at hi;exact hi
   rw [zC7 l bs i hi fA];obtain⟨h1,h2,h3⟩:=fD _ (AD fA);refine⟨h1,h2,?_,h3⟩
   show l[i].data.length≤l[i].data.length+5
   omega)
 rw [zAX,lentL_tn2] at hf;refine hf.mono ?_;rintro e' w' ⟨rfl,ht⟩;obtain⟨h1,h2⟩:=gr_turn b c' d e ht;exact⟨rfl,h1,h2⟩
def GrRFill (w0:World) (S:Nat→Prop) (p mb:Nat) (T:PT) (r:PT×Nat×Nat) (w:World) (e:Ending) (w':World):Prop :=
 ∃ t',e=.returned (.tuple #[trV t',.int .i64 (r.2.1:Int),.int .i64 (r.2.2:Int)])∧zDs w0 w' S p mb T r.1 t'∧Below w.heap.size w w'
theorem gr_rfill (h:zDs w0 w S p mb T T2 t) (hI:T2.Inv) (A:Option Addr) (c:Nat) (l:List Nd) (hN:NodesAt w w.heap.size A l) (hl:l.length≤1000000000) (hc:l.length≤c) (hd:∀ x∈l,x.data.length≤x.dc∧x.data.length≤1000000000) :
 Calls Af 21 #[.agg (zAa t).toArray,.slice A l.length c] w (GrRFill w0 S p mb T (T2.fill (l.map Nd.tn)) w):=by
 obtain⟨own,lay,a,b,c',d,e⟩:=h;refine (rfill_any _ t T2 A c l w b (fun x hx=>hx.elim (fun h=>?_) fun h=>(c' x h).1) hI hN hl hc hd).mono ?_
 · cases e9:own x with
   | none=>exact absurd e9 h
   | some r=>exact a.lt x r e9
 · rintro e' w' ⟨t',rfl,hR,hb⟩;exact⟨t',rfl,⟨own,lay,a.fresh hb,hR,fun x hx=>⟨Aa (c' x hx).1 hb.size,(c' x hx).2⟩,d,e.trans (hb.mono e.size)⟩,hb⟩
end
theorem fills_law (s i m0:Int) (A A2:Option Addr) (cap cap2:Nat) (l:List Os) (ns:List Nd) (w:World) (hN:ScrAt w w.heap.size A l) (lO:l.length≤281474976710656)
 (gK:∀ x∈l,x.o.path.size≤140737488351232∧x.o.dst.size≤140737488351232∧x.o.data.length≤140737488351232) (lP:∀ x∈l,osWf x)
 (hM:NodesAt w w.heap.size A2 ns) (gL:ns.length≤281474976710656) (fU:∀ x∈ns,x.path.size≤140737488351232∧x.same.size≤140737488351232∧x.data.length≤140737488351232)
 (fV:ns.length≤cap2) (lQ:∀ x∈ns,x.data.length≤x.dc) (hm:w.cell? ⟨0,0,none⟩=some (.int .i64 m0))
 (hs : -9223372036854775808≤s∧s≤9223372036854775807) (hi : -9223372036854775808≤i∧i≤9223372036854775807) :
 Calls Af 4 #[.agg #[.int .i64 s,.int .i64 i,.slice A l.length cap,.slice A2 ns.length cap2]] w fun e w'=>e=.returned (.bool true)∧Below w.heap.size w w':=by
 obtain⟨Q,hQ⟩:∃ Q:Ending→World→Prop,(fun e w'=>e=.returned (.bool true)∧Below w.heap.size w w')=Q:=⟨_,rfl⟩;rw [hQ];have kD:=hid hQ;have kE:=hid fun (W:World) hW=>light_any A cap l W hW lO gK;have kF:=hid fun (W:World) hW=>few_any A2 cap2 ns W hW gL fU;have kG:=hid fun (W:World) hW hm gM mK=>grown_any s i A cap l m0 W hW lP hm hs hi gM mK;obtain⟨len,gA⟩:=nM (l.length);obtain⟨len2,fH⟩:=nM (ns.length);rw [gA,fH];have fW:=hid gA;have fA:=hid fH;have lR:=hid hm;have lS:=hid hN;have lT:=hid hM;have gN:=hid fV;have kI:=hid lQ;obtain⟨z1,z2,z3⟩:=sz_ok s i;have fM:=hid (zGf (l.map (·.o)) (inv_new z1 z2 z3));have lU:Below w.heap.size w (w.alloc (.cells #[.int .i64 s,.int .i64 i,.slice A len cap,.slice A2 len2 cap2] 45)):=br.alloc nr _;have kJ:Blk (w.alloc (.cells #[.int .i64 s,.int .i64 i,.slice A len cap,.slice A2 len2 cap2] 45)) w.heap.size 45 [.int .i64 s,.int .i64 i,.slice A len cap,.slice A2 len2 cap2]:=B8 w _ _;clear gA fH lP hm hN hM gK fU hQ z1 z2 z3 hs hi fV lQ lO gL;go_enter Tryz.func4,Tryz.ntmps4;go_upto_region 1 with (fail);change B9 _ _ _ _ (w.alloc (.cells #[.int .i64 s,.int .i64 i,.slice A len cap,.slice A2 len2 cap2] 45));generalize w.alloc (.cells #[.int .i64 s,.int .i64 i,.slice A len cap,.slice A2 len2 cap2] 45)=w1 at *;obtain⟨g0,jT⟩:=nM (w.heap.size);rw [jT] at kJ;simp only [jT];have mL:=hid jT;have gO:=hid lU;have kK:=hid kJ;clear jT lU kJ;go_upto_region 2 with (go_at_call 7;refine (awake_any _).mono ?_;rintro e w2 ⟨rfl,kL⟩);have gH:=kK.o.fresh kL;have fN:Hid (Below w.heap.size w w2):=hid (gO.o.trans (kL.mono gO.o.size));have y0:=gH.cell 0;have y1:=gH.cell 1;have y2:=gH.cell 2;have y3:=gH.cell 3;simp only [AM,AN] at y0 y1 y2 y3;have gP:=hid gH;have kM:=kE.o w2 ((lS.o.below fN.o).more fN.o.size);rw [fW.o] at kM;clear gH kL;go_upto_region 3 with (go_at_call 8;refine kM.mono ?_;rintro e w3 ⟨rfl,nq,rfl⟩);have lV:Below w.heap.size w (w2.drewN nq):=zAd fN.o nq;have lW:Blk (w2.drewN nq) g0 45 [.int .i64 s,.int .i64 i,.slice A len cap,.slice A2 len2 cap2]:=gP.o;generalize w2.drewN nq=w3 at *;have fO:=hid lV;have gB:=hid lW;clear kM y0 y1 y2 y3 lV lW fN gP;have y3:=gB.o.cell 3;simp only [AM,AN] at y3;have kN:=kF.o w3 ((lT.o.below fO.o).more fO.o.size);rw [fA.o] at kN;go_upto_region 4 with (go_at_call 16;refine kN.mono ?_;rintro e w4 ⟨rfl,nq2,rfl⟩);have lX:Below w.heap.size w (w3.drewN nq2):=zAd fO.o nq2;have lY:Blk (w3.drewN nq2) g0 45 [.int .i64 s,.int .i64 i,.slice A len cap,.slice A2 len2 cap2]:=gB.o;generalize w3.drewN nq2=w4 at *;have fD:=hid lX;have fB:=hid lY;clear kN y3 lX lY fO gB
 cases jU:zFw l with
 | false =>
  clear jU;go_wp2;rw [←kD.o];exact⟨rfl,fD.o⟩
 | true =>
 cases kO:fewB ns with
 | false =>
  clear jU kO;go_wp2;rw [←kD.o];exact⟨rfl,fD.o⟩
 | true =>
 obtain⟨gQ,fX⟩:=zIt jU
 have ⟨ht2,hl5⟩:zHN ns≤2097152∧ns.length≤5000:=by simpa [fewB] using kO
 have jV:Hid (∀ x∈ns,x.path.size≤2097152∧x.same.size≤2097152∧x.data.length≤2097152):=hid fun x hx=>by
  obtain⟨i,hi,rfl⟩:=B7 hx;have h1:=zFg ns i hi;have h2:=zH7 ns (i+1);omega
 have kP:=hid ht2;have fI:=hid hl5;have kQ:=hid ((fD.o.cell (p:=⟨0,0,none⟩) (An _ _ lR.o)).trans lR.o);have gR:=kG.o w4 ((lS.o.below fD.o).more fD.o.size) kQ.o (fun x hx=>light_one gQ hx) fX;rw [fW.o] at gR;unfold GrownP at gR;have kR:=hid ((lT.o.below fD.o).more fD.o.size);clear jU gQ fX kO ht2 hl5;obtain⟨P,hP⟩:=nM ((PT.new (szN s) (szM s i)).runs (l.map (·.o)));rw [hP] at gR fM;clear hP;have y0:=fB.o.cell 0;have y1:=fB.o.cell 1;have y2:=fB.o.cell 2;simp only [AM,AN] at y0 y1 y2
 go_upto_region 7 with (first
  | (go_at_call 9;refine gR.mono ?_;rintro e w5 ⟨p,mb,t,rfl,kS⟩)
  | (refine stT t (B8 w5 28 z4) rfl rfl rfl (by rfl) rfl ?_))
 obtain⟨k1,k2⟩:=zAL w5 t;change B9 _ _ _ _ ((w5.alloc (.cells z4.toArray 28)).setRow w5.heap.size (zAa t).toArray);have gS:=kS.more (S':=fun b=>w5.heap.size≤b∧b<((w5.alloc (.cells z4.toArray 28)).setRow w5.heap.size (zAa t).toArray).heap.size) k2 fun b hb=>.inr hb;have lZ:=kS.below.size;generalize (w5.alloc (.cells z4.toArray 28)).setRow w5.heap.size (zAa t).toArray=w6 at *;generalize w5.heap.size=h at *;have mA:=fB.o.below gS.below fB.o.lt;have y3:=mA.cell 3;simp only [AM,AN] at y3;have jW:=lend_any A2 cap2 ns w6 ((kR.o.below gS.below).more gS.below.size) fI.o kP.o;unfold zGv at jW;rw [fA.o] at jW;have gT:=hid gS;have gC:=hid k1;have kT:=hid lZ;clear gR y0 y1 y2 mA gS k1 k2 lZ kS;go_upto_region 10 with (go_at_call 17;refine jW.mono ?_;rintro e w7 ⟨g,vb,bs,rfl,gU,jX⟩;obtain⟨Av,cv,rfl,_⟩:=Bf (B:=w7.heap.size) gU.own fun g' mM=>(gU.own.lt g' mM).2);rw [fA.o] at gU ⊢;have kU:Below w7.heap.size w7 (w7.alloc (.cells #[.slice (some ⟨g,0,none⟩) (len2+3) (len2+3),.slice Av len2 cv] 49)):=br.alloc nr _;have jY:=B8 w7 49 [.slice (some ⟨g,0,none⟩) (len2+3) (len2+3),.slice Av len2 cv];have kV:=zF0 gU kU;have kW:=jX.trans (kU.mono jX.size);have gV:=jX.size;change B9 _ _ _ _ (w7.alloc (.cells #[.slice (some ⟨g,0,none⟩) (len2+3) (len2+3),.slice Av len2 cv] 49));generalize w7.alloc (.cells #[.slice (some ⟨g,0,none⟩) (len2+3) (len2+3),.slice Av len2 cv] 49)=w8 at *;generalize w7.heap.size=lb at *;have gW:=gC.o.lt;have gX:=jY.lt
 have kX:=gT.o.more (S':=fun b=>h≤b∧b<w8.heap.size) kW fun b hb=>by
  by_cases hx:b<w6.heap.size
  · exact .inl ⟨hb.1,hx⟩
  · exact .inr ⟨by omega,hb.2⟩
 have mB:=gC.o.fresh kW;have mC:=fB.o.below kX.below fB.o.lt;have y3:=mC.cell 3;have q0:=jY.cell 0;simp only [AM,AN] at y3 q0;have fC:=hid (inv_fill fM.o (ns.map Nd.tn));have gI:=gr_fill (m0:=m0) kX fM.o kQ.o kV (fun b h1 h2=>⟨by omega,h2⟩) (len2+3) (by have:=fI.o;omega) (by have:=fA.o;omega) (fun x hx=>by have:=jV.o x hx;omega);have gY:=hid fun (W:World) (T1:PT) hG mN=>gr_rfill (w0:=w4) (w:=W) (S:=fun b=>h≤b∧b<w8.heap.size) (p:=p) (mb:=mb) (T:=T1) (T2:=P) (t:=t) hG fM.o A2 cap2 ns mN (by have:=fI.o;omega) gN.o (fun x hx=>⟨kI.o x hx,by have:=jV.o x hx;omega⟩);obtain⟨R,hR⟩:=nM (P.fill (ns.map Nd.tn));rw [hR] at gI fC gY;obtain⟨T9,n9,e9⟩:=R;unfold GrFill ifV at gI;unfold GrRFill at gY;rw [fA.o] at gI gY;simp only at gI gY fC;have gZ:=hid kV;have kY:=hid jY;have kZ:=hid mB;have gJ:=hid (show w4.heap.size≤h∧h<w6.heap.size∧w6.heap.size≤lb∧lb<w8.heap.size from ⟨kT.o,gW,gV,gX⟩)
 have n0:(0:Int)≤(len2:Int):=by omega
 clear hR jW gU jX kU jY kV kW kX mB mC gW gX gT gC gV;go_upto_region 11 with (go_at_call 18;refine gI.mono ?_;rintro e w9 ⟨rfl,jA,jZ⟩);have lA:=zHj gZ.o jZ fun b h1 h2 hn=>hn.1 ⟨by have:=gJ.o;omega,h2⟩;have kA:=kY.o.chg jZ fun hn=>hn.1 (by have:=gJ.o;omega);have mD:=kZ.o.chg jZ fun hn=>hn.1 (by have:=gJ.o;omega);have mE:=fB.o.below jA.below fB.o.lt;have mF:=(kR.o.below jA.below).more jA.below.size;have lB:=kept_true w6.heap.size g (.slice Av len2 cv) bs A2 cap2 ns w9 lA mF fI.o (fun x hx=>(jV.o x hx).2.2);rw [fA.o] at lB;have q0':=kA.cell 0;have q1':=kA.cell 1;have y3':=mE.cell 3;simp only [AM,AN] at y3' q0' q1';have lC:=hid lA;have lD:=hid kA;have lE:=hid mD;have lF:=hid jA;clear gI y3 q0 jZ lA kA mD mE mF jA;go_upto_region 12 with (go_at_call 19;refine lB.mono ?_;rintro e w10 ⟨rfl,fJ⟩);have gD:=lF.o.fresh fJ;have jB:=fB.o.below gD.below fB.o.lt;have jC:=lD.o.fresh fJ;have lG:=turn_walk w6.heap.size g (.slice Av len2 cv) bs (len2+3) ns w10 (zF0 lC.o fJ) fI.o (fun x hx=>(jV.o x hx).2.2);rw [fA.o] at lG;have q0:=jC.cell 0;have y3:=jB.cell 3;simp only [AM,AN] at y3 q0;have jD:=hid gD;have lH:=hid (lE.o.fresh fJ);clear lB q0' q1' y3' fJ gD jB jC;go_upto_region 13 with (go_at_call 20;refine lG.mono ?_;rintro e w11 ⟨rfl,X,hX⟩);obtain⟨⟨g1,g2⟩,mG⟩:=zIY gZ.o
 have kC:∀ b,(b=g∨∃ i,i<ns.length∧b=bs i)→w6.heap.size≤b∧b<w8.heap.size:=fun b hb=>by
  rcases hb with rfl | ⟨i,hi,rfl⟩
  · exact⟨g1,g2⟩
  · exact mG i hi
 have fK:=jD.o.chg hX.chg (fun b hb=>by have:=kC b hb;have:=gJ.o;omega) (fun b hb=>by have:=kC b hb;have:=gJ.o;omega)
 have jE:=lH.o.chg hX.chg fun hb=>by have:=kC h hb;have:=gJ.o;omega
 have jF:=fB.o.below fK.below fB.o.lt;have y3:=jF.cell 3;simp only [AM,AN] at y3;have jG:=gY.o w11 T9 fK ((kR.o.below fK.below).more fK.below.size);clear lG q0 hX kC fK jF g1 g2 mG
 go_upto_region 14 with (first
  | (refine ldT jE rfl rfl rfl ?_)
  | (go_at_call 21;refine jG.mono ?_;rintro e w12 ⟨t',rfl,jH,lI⟩)
  | (refine stT t' (B8 w12 28 z4) rfl rfl rfl (by rfl) rfl ?_))
 obtain⟨k1,k2⟩:=zAL w12 t';change B9 _ _ _ _ ((w12.alloc (.cells z4.toArray 28)).setRow w12.heap.size (zAa t').toArray);have gE:=jH.fresh k2;generalize (w12.alloc (.cells z4.toArray 28)).setRow w12.heap.size (zAa t').toArray=w13 at *;generalize w12.heap.size=ub at *;have fE:=hid gE;have fP:=hid k1;have fQ:=gr_dump gE fC.o kQ.o;obtain⟨cd,lJ⟩:=nM (T9.dump.2);unfold zHt ifV at fQ;rw [lJ] at fQ;have lK:=hid lJ;clear jG y3 jE jH lI k1 k2 gE lJ;go_upto_region 15 with (go_at_call 10;refine fQ.mono ?_;rintro e w14 ⟨⟨v14,l14,rfl,gF,jI⟩,fR⟩);obtain⟨A14,c14,rfl,-⟩:=gF.nodes;have fS:=gr_rdump (fE.o.fresh fR) fC.o;unfold zHt at fS;rw [lK.o] at fS;have jJ:=fP.o.fresh fR;have jK:=hid gF;have fY:=hid fR;have fZ:=hid jI;clear fQ gF fR jI
 go_upto_region 16 with (first
  | (refine ldT jJ rfl rfl rfl ?_)
  | (go_at_call 11;refine fS.mono ?_;rintro e w15 ⟨⟨v15,l15,rfl,jL,jM⟩,gG⟩))
 obtain⟨A15,c15,rfl,jN⟩:=jL.nodes;have fL:=hid (fY.o.trans (gG.mono fY.o.size));obtain⟨A14',c14',e14,jO⟩:=(jK.o.fresh gG).nodes;injection e14 with e14 _ e14';subst e14 e14';obtain⟨x9,y9⟩:=tn_same2 (l2:=l14) (l:=l15) (by rw [fZ.o,jM]);have lL:=zHw A14 A15 c14 c15 l14 l15 w15 jO jN x9 (by have:=dump_len fC.o fZ.o;omega) y9;rw [←x9] at lL;rw [←x9];clear fS jL jM gG jN jO x9 y9 jJ;go_upto_region 17 with (go_at_call 12;refine lL.mono ?_;rintro e w16 ⟨rfl,jP⟩);have fG:=fL.o.trans (jP.mono fL.o.size);have mH:Below w16.heap.size w16 w16.drew:=br.drew;have fF:=hid (fG.trans (mH.mono fG.size));have mI:=gr_room (fE.o.fresh fF.o) fC.o;obtain⟨a0,a1,a2,a3⟩:=zAp (fP.o.fresh fF.o);have mO:∀ W x y,(eqGuard BinOp.eql 40 x y (zEq T9) (zEq T9)).run Af W=.ok () W:=fun W x y=>zKd _ _ _ _ W;have mP:∀ W,(binOp BinOp.eql 40 (zEq T9) (zEq T9)).run Af W=.ok (.bool true) W:=fun W=>room_eq _ _ W;obtain⟨rm,lM⟩:=nM (zEq T9);rw [lM] at mI mO mP;have lN:=hid lM
 have u1:((n9:Int)==(n9:Int))=true:=by simp
 have u2:((e9:Int)==(e9:Int))=true:=by simp
 have u3:((cd:Int)==(cd:Int))=true:=by simp
 clear lL jP fG mH lM
 go_region_held3 (fun w'=>w'.cell? ⟨ub,0,none⟩=some (.int .i64 t'.sectors)∧w'.cell? ⟨ub,1,none⟩=some (.int .i64 t'.inodes)∧w'.cell? ⟨ub,2,none⟩=some (.int .i64 t'.births)∧w'.cell? ⟨ub,3,none⟩=some (.slice t'.A t'.l.length t'.c))
  (first | go_keep)
  (first
   | (go_at_call 14;(with_reducible refine mI.mono ?_);rintro e w17 ⟨rfl,fG⟩;have fT:=hid (fF.o.trans (fG.mono fF.o.size));obtain⟨b0,b1,b2,b3⟩:=zAp (fP.o.fresh fT.o);have mJ:=gr_rroom (fE.o.fresh fT.o) fC.o;rw [lN.o] at mJ;clear fG)
   | (go_at_call 15;(with_reducible refine mJ.mono ?_);rintro e w18 ⟨rfl,jQ⟩;have jR:=hid (fT.o.trans (jQ.mono fT.o.size));obtain⟨d0,d1,d2,d3⟩:=zAp (fP.o.fresh jR.o);clear jQ))
 go_wp2;rw [←kD.o];have jS:=fE.o.below;exact⟨rfl,(fD.o.trans (jS.mono fD.o.size)).trans (jR.o.mono (Ad fD.o.size jS.size))⟩
end Go.Proofs.YtolpcfhfcdkokaaGreatDoor
