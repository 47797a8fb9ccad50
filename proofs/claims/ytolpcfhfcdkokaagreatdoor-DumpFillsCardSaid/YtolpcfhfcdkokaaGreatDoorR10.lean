/- Joined out of SPut..STwo. -/
import Derived.Deep.CutBlock
import Derived.Test.YtolpcfhfcdkokaaGreatDoorR09
set_option maxHeartbeats 16000000
set_option maxRecDepth 100000
set_option linter.unusedSimpArgs false
set_option linter.unusedVariables false
namespace Go.Proofs.YtolpcfhfcdkokaaGreatDoor
open Lib (hid)
open List renaming range → Aa,getElem?_eq_some_iff → Ab,getElem_of_mem → Ac,getElem?_cons_succ → Ad,getElem?_cons_zero → Ae,getElem?_map → Af,getElem?_eq_getElem → Ag,getElem_mem → Ah,length_range → Ai
open Proofs.Tryz renaming prog → Aj,underlying123 → Ak,underlying28 → Al
open Blk renaming new → Am
open Code renaming wp → An
open Go renaming wpList_store_row → Ao,wp_load_row → Ap,setRow_heap → Aq,bodyPost_ret → Ar,wpList_load_row → As,results_cell_row → At
open Nat renaming zero_le → Au,le_trans → Av,le_of_eq → Aw,lt_of_lt_of_le → Ax
open RowKit.Below renaming refl → Ay
open Chg renaming refl → Az
open Go.RowKit
theorem place_at {T:PT} {n:PN} {k:Nat} (hk:k≤n.slots.length) (hb:∀ j (hj:j<n.slots.length),j<k→n.slots[j]≠emp) (he:k<n.slots.length→n.slots[k]? = some emp) :
 T.place n=if k<n.slots.length then (k,0) else if n.slots.length=1068 then (0,112) else if T.room n.count (zDw (Aa (n.slots.length+1))) then (n.slots.length,0) else (0,80):=by
 unfold PT.place;by_cases h:k<n.slots.length
 · rw [if_pos h];obtain⟨h1,h2⟩:=Ab.1 (he h);rw [zDt h1 h2 fun j hj=>hb j (by omega) hj]
 · rw [if_neg h]
   have:zAh emp n.slots=none:=zBW.2 fun y hy=>by
    obtain⟨j,hj,rfl⟩:=Ac hy;exact hb j hj (by omega)
   rw [this]
theorem zAp {w:World} {g:Nat} {t:Tr} (h:Blk w g 28 (zAa t)):w.cell? ⟨g,0,none⟩=some (.int .i64 t.sectors)∧w.cell? ⟨g,1,none⟩=some (.int .i64 t.inodes)∧w.cell? ⟨g,2,none⟩=some (.int .i64 t.births)∧w.cell? ⟨g,3,none⟩=some (.slice t.A t.l.length t.c):=⟨h.cell 0,h.cell 1,h.cell 2,h.cell 3⟩
theorem zAN {w:World} {z:Nat} {x:Hd} (h:Blk w z 123 (zAb x)):w.cell? ⟨z,0,none⟩=some (.int .i64 x.ino)∧w.cell? ⟨z,1,none⟩=some (.int .i64 x.kind)∧w.cell? ⟨z,2,none⟩=some (.int .i64 x.links)∧w.cell? ⟨z,3,none⟩=some (.int .i64 x.size)∧w.cell? ⟨z,4,none⟩=some (.int .i64 x.made)∧w.cell? ⟨z,5,none⟩=some (.int .i64 x.birth)∧w.cell? ⟨z,6,none⟩=some (.slice x.iA x.idx.length x.ic)∧w.cell? ⟨z,7,none⟩=some (.slice x.dA x.dat.length x.dc) :=
 ⟨h.cell 0,h.cell 1,h.cell 2,h.cell 3,h.cell 4,h.cell 5,h.cell 6,h.cell 7⟩
theorem zCV {w:World} {z i:Nat} {nm:ByteArray} (h:Blk w z 179 [.int .i64 (i:Int),.string nm]):w.cell? ⟨z,0,none⟩=some (.int .i64 (i:Int))∧w.cell? ⟨z,1,none⟩=some (.string nm):=⟨h.cell 0,h.cell 1⟩
theorem zH3 {w:World} {g:Nat} (h:Blk w g 28 z4):w.cell? ⟨g,0,none⟩=some (.int .i64 0)∧w.cell? ⟨g,1,none⟩=some (.int .i64 0)∧w.cell? ⟨g,2,none⟩=some (.int .i64 0)∧w.cell? ⟨g,3,none⟩=some (.slice none 0 0):=⟨h.cell 0,h.cell 1,h.cell 2,h.cell 3⟩
theorem count_put {n:PN} (hd:n.data=[]) (nm:ByteArray) (j:Nat):(n.set n.slots.length nm j).count=zDw (Aa (n.slots.length+1)):=by
 unfold PN.count PN.keys PN.set;simp [hd]
theorem place_one {T:PT} (hT:T.Inv) {d:Nat} {n:PN} (hg:zAe d T.nodes=some n) (hd:n.dir=true) {k i:Nat} {nm:ByteArray} (hk:k≤n.slots.length) (hf:k≠1068)
 (fC:T.place n=if k<n.slots.length then (k,0) else if n.slots.length=1068 then (0,112) else if T.room n.count (zDw (Aa (n.slots.length+1))) then (n.slots.length,0) else (0,80)) :
 T.place n=if (T.upd d (n.set k nm i)).used+(T.upd d (n.set k nm i)).inodes+1≤(T.upd d (n.set k nm i)).sectors then (k,0) else (0,80):=by
 have h1:=PT.used_upd hT.gr.ok.ris (n':=n.set k nm i) hg;have h2:=hT.room;have fA:=(hT.gr.ok.get hg).1.dd hd;have e1:(T.upd d (n.set k nm i)).inodes=T.inodes:=rfl;have e2:(T.upd d (n.set k nm i)).sectors=T.sectors:=rfl;rw [e1,e2,fC];by_cases fB:k<n.slots.length
 · have hc:(n.set k nm i).count=n.count:=by
    unfold PN.count PN.keys PN.set;simp only [if_neg (Nat.ne_of_lt fB),List.length_set]
   rw [if_pos fB,if_pos (by omega)]
 · have e:k=n.slots.length:=by omega
   subst e;rw [if_neg fB,if_neg hf];have hc:=count_put fA nm i;rw [hc] at h1
   have h3:(T.room n.count (zDw (Aa (n.slots.length+1)))=true)↔(T.upd d (n.set n.slots.length nm i)).used+T.inodes+1≤T.sectors:=by
    unfold PT.room;rw [decide_eq_true_iff];omega
   simp only [h3]
theorem may_fit {n:PN} {k:Nat} {nm:ByteArray} (h:MayAt n k nm) (hf:k≠1068) (ho:n.Ok) (hn:nm≠emp) (hs:SlOk n):n.Fit k nm:=by
 have:=ho.slots;rcases h with ⟨h1,-⟩ | ⟨h1,-⟩ | h1
 · exact .inl ⟨h1,by omega⟩
 · exact .inr (.inl ⟨(Ab.1 h1).1,h1⟩)
 · exact .inr (.inr ⟨hs.has nm (List.mem_of_getElem? h1) hn,h1⟩)
def PutP (S:Nat→Prop) (T:PT) (d:Nat) (n:PN) (nm:ByteArray) (i:Nat) (w:World) (e:Ending) (w':World):Prop :=
 (∃ t',e=.returned (.tuple #[trV t',.int .i64 ((T.place n).2:Int)])∧RefS S w' t' (if (T.place n).2=0 then T.upd d (n.set (T.place n).1 nm i) else T))∧Below w.heap.size w w'
theorem zCm (t:Tr):(zAa t).toArray.all (·.oneCell')=true:=by
 rw [Array.all_eq_true_iff_forall_mem];intro v hv;simp only [zAa,List.mem_toArray,List.mem_cons,List.not_mem_nil,or_false] at hv;rcases hv with rfl | rfl | rfl | rfl<;>rfl
theorem rput_any (S:Nat→Prop) (t:Tr) (T:PT) (d:Nat) (n:PN) (nm:ByteArray) (i:Nat) (w:World) (h:RefS S w t T) (hS:∀ b,S b→b<w.heap.size) (hT:T.Inv) (hg:zAe d T.nodes=some n) (hd:n.dir=true) (hj:zEo i nm) (kR:zAe nm n.names=none) :
 Calls Aj 112 #[trV t,.int .i64 (d:Int),zGH (some (i,nm))] w (PutP S T d n nm i w):=by
 obtain⟨Q,hQ⟩:=nM (PutP S T d n nm i w);rw [hQ];have jI:=hid hQ;have kS:=(hT.gr.ok.get hg).1;obtain⟨x,lK,kT,kU⟩:=zBy h hT.gr.ok hg;have jR:Below w.heap.size w (((w.alloc (.cells (zAa t).toArray 28)).alloc (.cells #[.int .i64 (i:Int),.string nm] 179)).alloc (.cells z4.toArray 28)):=((br.alloc nr _).alloc (by simp) _).alloc (by simp;omega) _;have jJ:=((Am w 28 (zAa t)).alloc (.cells #[.int .i64 (i:Int),.string nm] 179)).alloc (.cells z4.toArray 28)
 have jS:Blk (((w.alloc (.cells (zAa t).toArray 28)).alloc (.cells #[.int .i64 (i:Int),.string nm] 179)).alloc (.cells z4.toArray 28)) (w.heap.size+1) 179 [.int .i64 (i:Int),.string nm]:=by
  have:=(Am (w.alloc (.cells (zAa t).toArray 28)) 179 [.int .i64 (i:Int),.string nm]).alloc (.cells z4.toArray 28);simpa using this
 have jT:Blk (((w.alloc (.cells (zAa t).toArray 28)).alloc (.cells #[.int .i64 (i:Int),.string nm] 179)).alloc (.cells z4.toArray 28)) (w.heap.size+2) 28 z4:=by
  have:=Am ((w.alloc (.cells (zAa t).toArray 28)).alloc (.cells #[.int .i64 (i:Int),.string nm] 179)) 28 z4;simpa using this
 have gA:=hid kU;have fJ:=hid kT;have kV:=hid h;have lL:=hid hS;have gU:=hid hT;have gC:=hid hg;have fY:=hid kS;have gV:=hid hd;have jK:=hid hj;have gW:=hid kR;clear hQ lK kT kU h hT hg kS hd hj kR hS;unfold trV zGH zB3 zCk;go_enter Tryz.func112,Tryz.ntmps112;go_upto_region 1 with (fail);change An _ _ _ _ (((w.alloc (.cells (zAa t).toArray 28)).alloc (.cells #[.int .i64 (i:Int),.string nm] 179)).alloc (.cells z4.toArray 28));generalize ((w.alloc (.cells (zAa t).toArray 28)).alloc (.cells #[.int .i64 (i:Int),.string nm] 179)).alloc (.cells z4.toArray 28)=w0 at *;have gD:=gA.o w0 jR;obtain⟨g,jL⟩:=nM (w.heap.size);rw [jL] at jJ jS jT;simp only [jL];have gE:=hid jL;have gF:=hid jR;have gX:=hid jS;have gG:=hid jT;clear jL jR jS jT gA;unfold trV hdV at gD
 go_upto_region 2 with (first
  | (refine ldT jJ rfl rfl rfl ?_)
  | (go_at_call 81;refine gD.mono ?_;rintro e w1 ⟨rfl,jM⟩;have kW:=Am w1 123 z8)
  | (refine Ao rfl 123 (.tmp 8) (.tmp 13) rfl w1.heap.size (zAb x).toArray rfl (by rfl) 123 _ kW rfl rfl (zHb x) ?_))
 obtain⟨kX,kY⟩:=zBt w1 x;have fQ:=jM.trans (kY.mono jM.size);have gY:=hid (gF.o.trans (fQ.mono gF.o.size));have kZ:=hid (jJ.fresh fQ);have lA:=hid (gX.o.fresh fQ);have lB:=hid (gG.o.fresh fQ);change An _ _ _ _ ((w1.alloc (.cells z8.toArray 123)).setRow w1.heap.size (zAb x).toArray);have lC:Hid (g+3≤w1.heap.size):=hid (by have:=gG.o.lt;have:=jM.size;omega);clear jJ gX gG jM kY fQ gD kW gF;generalize (w1.alloc (.cells z8.toArray 123)).setRow w1.heap.size (zAb x).toArray=w2 at *;generalize w1.heap.size=z at *;have gH:=hid kX;clear kX;obtain⟨len,gI⟩:=nM (n.slots.length);have fC:=hid gI
 have lD:len≤1068:=by rw [←gI];exact fY.o.slots
 clear gI
 have fldS:∀ (a:Int) (s:ByteArray) (W:World),(Instr.field 179 (.agg #[.int .i64 a,.string s]) 0).run Aj W=.ok (.int .i64 a) W:=fun _ _ _=>by kernel_rfl
 have jU:x.size=128 * (len:Int):=by
  have h1:=fJ.o.rep.size;have h2:=fJ.o.rep.sl.size gV.o;have h3:=fC.o;omega
 have lM:(128 * (len:Int)).tdiv 128=(len:Int):=by rw [Int.tdiv_eq_ediv_of_nonneg (by omega)];omega
 have gZ:=hid fun (k:Nat) (W:World) (hW:Below w2.heap.size w2 W)=>slot_any x d n k W (fJ.o.fresh (gY.o.trans (hW.mono gY.o.size))).at_ fJ.o.rep fY.o gV.o
 go_upto_block 0 with (fail)
 go_cut [9] from 14 to 27 (fun ck wx=>∃ k:Nat,k≤len∧ck=.int .i64 (k:Int)∧Hid (∀ j (hj:j<n.slots.length),j<k→n.slots[j]≠emp)∧Hid (k<n.slots.length→n.slots[k]? = some emp)∧Hid (Below w2.heap.size w2 wx))
 case first =>
  clear jI;go_wp2_with (fail)
  go_loopw [9] (fun ck wr=>∃ k:Nat,k≤len∧ck=.int .i64 (k:Int)∧Hid (∀ j (hj:j<n.slots.length),j<k→n.slots[j]≠emp)∧Hid (Below w2.heap.size w2 wr)) (fun ck _=>len-(intOf ck).toNat)
  case atStart=>exact⟨0,Au _,rfl,hid (fun j _ hj=>absurd hj (by omega)),hid br⟩
  case round =>
   obtain⟨k,hk,rfl,gP,fN⟩:=hrel;have jV:=gH.o.fresh fN.o;have x3:=jV.cell 3;simp only [zAb,Ad,Ae] at x3;rw [jU] at x3;by_cases jA:k<len
   · have t1:decide ((k:Int)<(len:Int))=true:=by simpa using jA
     have jW:k<n.slots.length:=by rw [fC.o];exact jA
     have fD:=gZ.o k wr fN.o
     have jX:zDW n k=slN n n.slots[k]:=by unfold zDW zAu;rw [Af,Ag jW];rfl
     rw [jX] at fD;unfold hdV zGH at fD;by_cases gJ:n.slots[k]=emp
     · have gQ:=hid (show k<n.slots.length→n.slots[k]? = some emp from fun _=>by rw [Ag jW,gJ]);rw [gJ,slN_emp] at fD;simp only [zB3,zCk] at fD;clear jX gJ gZ
       go_wp2_with (first
        | (refine zAK (by rfl) (fun _ hK=>Ap 123 (.tmp 8) rfl z rfl 123 (zAb x).toArray _ _ jV Ak rfl rfl (hK _ _ ?_)))
        | (go_at_call 134;refine fD.mono ?_;rintro e w3 ⟨rfl,jY⟩))
       go_meet;exact⟨k,hk,rfl,gP,gQ,hid (fN.o.trans (jY.mono fN.o.size))⟩
     · obtain⟨i2,jZ⟩:∃ i2,zAe n.slots[k] n.names=some i2:=by
        have:=fJ.o.rep.sl.has _ (Ah jW) gJ
        cases e:zAe n.slots[k] n.names with
        | none=>rw [e] at this;cases this
        | some j=>exact⟨j,rfl⟩
       have lE:=(fJ.o.rep.sl.ok _ (zAf jZ)).1
       have kA:Hid (∀ j (hj:j<n.slots.length),j<k+1→n.slots[j]≠emp):=hid fun j hj lT=>by
        by_cases e:j=k
        · subst e;exact gJ
        · exact gP.o j hj (by omega)
       rw [zDQ gJ jZ] at fD;simp only [zB3,zCk] at fD lE
       have lU:((i2:Int) != 0)=true:=by simp;omega
       generalize n.slots[k]=y at *;clear jX gJ jZ lE gP gZ
       go_wp2_with (first
        | (refine zAK (by rfl) (fun _ hK=>Ap 123 (.tmp 8) rfl z rfl 123 (zAb x).toArray _ _ jV Ak rfl rfl (hK _ _ ?_)))
        | (go_at_call 134;refine fD.mono ?_;rintro e w3 ⟨rfl,jY⟩))
       go_roundw
       case rel=>exact⟨k+1,by omega,by go_num,kA,hid (fN.o.trans (jY.mono fN.o.size))⟩
       case measure=>simp [intOf];omega
   · have t1:decide ((k:Int)<(len:Int))=false:=by simp;omega
     have gQ:=hid (show k<n.slots.length→n.slots[k]? = some emp from fun h=>absurd h (by rw [fC.o];omega));clear gZ;go_wp2;go_meet;exact⟨k,hk,rfl,gP,gQ,fN⟩
 case rest =>
  obtain⟨k,hk,rfl,gP,gQ,fN⟩:=hcut;have fK:=hid (gY.o.trans (fN.o.mono gY.o.size));have jN:=kZ.o.fresh fN.o;have jO:=lA.o.fresh fN.o;have jP:=lB.o.fresh fN.o;have gR:=gH.o.fresh fN.o;have kC:Hid (T.place n=if k<n.slots.length then (k,0) else if n.slots.length=1068 then (0,112) else if T.room n.count (zDw (Aa (n.slots.length+1))) then (n.slots.length,0) else (0,80)):=hid (place_at (by rw [fC.o];exact hk) gP.o gQ.o);generalize wc=wy at *;have lN:=hid jU;clear kZ lA lB gH fN gZ gY jU;by_cases fR:k=1068
  · have fL:Hid (T.place n=(0,112)):=hid (by
     have h1:=fC.o;rw [kC.o,if_neg (by omega),if_pos (by omega)])
    have kD:g+3≤wy.heap.size:=Av lC.o (by have:=gR.lt;omega);have gK:=hid ((kV.o.addR 3 (Aw gE.o)).fresh fK.o);subst fR;clear kC gR jO;obtain⟨a0,a1,a2,a3⟩:=zAp jN
    go_wp2_with (first
     | (refine stT t jP rfl rfl rfl (by rfl) rfl ?_))
    have fS:=Aq wy (g+2) _ (zAa t).toArray _ _ jP;refine Ar (zAz rfl _ _ (g+2) 28 (zAa t).toArray (0,0) _ rfl fS Al rfl (by kernel_rfl)) rfl ?_;obtain⟨h1,h2⟩:=zDe (S:=S) (w:=w) (B:=w.heap.size) (r:=g+2) (zAa t).toArray gK.o (.inr (by omega)) (fun b hb=>.inl hb) fK.o (by have:=gE.o;omega) rfl;rw [←jI.o];refine⟨⟨t,by rw [fL.o];rfl,?_⟩,h2⟩;rw [fL.o,if_neg (by decide)];exact h1
  · have lV:((k:Int)==1068)=false:=by simp;omega
    have jB:MayAt n k nm:=by
     rcases Nat.lt_or_ge k n.slots.length with h1 | h1
     · exact .inr (.inl ⟨gQ.o h1,gW.o⟩)
     · exact .inl ⟨by have:=fC.o;omega,gW.o⟩
    have jA:k≤n.slots.length:=by rw [fC.o];exact hk
    have fP:=hid fun (S2:Nat→Prop) (W:World) (hW:Below wy.heap.size wy W) (h2:HdR S2 wy x d n) (kE:∀ b,S2 b→b<W.heap.size)=>zJI (h2.fresh hW) kE fY.o gV.o jK.o jA jB;obtain⟨n',kF⟩:∃ n',n.set k nm i=n':=⟨_,rfl⟩;rw [kF] at fP;have fF:=hid fun (S2:Nat→Prop) (W:World) (y:Hd) (h2:RefS S2 W t T) (kE:∀ b,S2 b→b<W.heap.size) (hy:HdR S2 W y d n')=>zBr h2 kE gU.o.gr.ok hy;obtain⟨T',kG⟩:∃ T',T.upd d n'=T':=⟨_,rfl⟩;rw [kG] at fF;have gL:=hid kF;have gM:=hid kG;have kD:g+3≤wy.heap.size:=Av lC.o (by have:=gR.lt;omega);have kI:=hid ((fJ.o.addR 3 (Aw gE.o)).fresh fK.o);have gK:=hid ((kV.o.addR 3 (Aw gE.o)).fresh fK.o);have jC:Hid (∀ b,zAJ S g 3 b→b<wy.heap.size):=hid (zA8 (fun b hb=>by have:=lL.o b hb;have:=gE.o;omega) kD);obtain⟨S1,gN⟩:=nM (zAJ S g 3);rw [gN] at kI gK jC;have fO:=hid gN;have lF:Hid (∀ b,zAJ S1 wy.heap.size 1 b→b<(wy.alloc (.cells z4.toArray 28)).drew.heap.size):=hid (zA8 (fun b hb=>by have:=jC.o b hb;simp;omega) (by simp));clear kF kG jA gN kD;unfold hdV zGH zAb at fP;simp only [zB3,zCk] at fP;unfold trV at fF;have fE:=hid jN;have fG:=hid jO;have fH:=hid gR;have kJ:=hid jP;obtain⟨a0,a1,a2,a3⟩:=zAp jN;obtain⟨b0,b1,b2,b3,b4,b5,b6,b7⟩:=zAN gR;obtain⟨c0,c1⟩:=zCV jO;have jQ:Hid (Below wy.heap.size wy wy.drew):=hid (zAd (Ay _ wy) 1);have kK:Hid (Below wy.heap.size wy (wy.alloc (.cells z4.toArray 28)).drew):=hid (zAd (br.alloc nr _) 1);have lO:=hid (Am wy 28 z4);clear jN jO gR jP;go_upto_region 7 with (fail)
    go_cut [10] from 31 to 36 (fun cu wx=>∃ ub t6,cu=.pointer (some ⟨ub,0,none⟩)∧Hid (Blk wx ub 28 (zAa t6))∧Hid (RefS S1 wx t6 T')∧Hid (Below wy.heap.size wy wx))
    case first =>
     go_region_held3 (fun w'=>w'.cell? ⟨g,0,none⟩=some (.int .i64 t.sectors)∧w'.cell? ⟨g,1,none⟩=some (.int .i64 t.inodes)∧w'.cell? ⟨g,2,none⟩=some (.int .i64 t.births)∧w'.cell? ⟨g,3,none⟩=some (.slice t.A t.l.length t.c)∧w'.cell? ⟨z,0,none⟩=some (.int .i64 x.ino)∧w'.cell? ⟨z,1,none⟩=some (.int .i64 x.kind)∧w'.cell? ⟨z,2,none⟩=some (.int .i64 x.links)∧w'.cell? ⟨z,3,none⟩=some (.int .i64 x.size)∧w'.cell? ⟨z,4,none⟩=some (.int .i64 x.made)∧w'.cell? ⟨z,5,none⟩=some (.int .i64 x.birth)∧w'.cell? ⟨z,6,none⟩=some (.slice x.iA x.idx.length x.ic)∧w'.cell? ⟨z,7,none⟩=some (.slice x.dA x.dat.length x.dc)∧w'.cell? ⟨g+1,0,none⟩=some (.int .i64 (i:Int))∧w'.cell? ⟨g+1,1,none⟩=some (.string nm))
      (first | go_keep)
      (first
       | (go_at_call 117;first
        | ((with_reducible refine (fP.o S1 wy.drew jQ.o kI.o (fun b hb=>Ax (jC.o b hb) jQ.o.size)).mono ?_);rintro e w5 ⟨⟨y5,rfl,gS⟩,gO⟩;have fA:=hid (jQ.o.trans (gO.mono jQ.o.size));obtain⟨a0,a1,a2,a3⟩:=zAp (fE.o.fresh fA.o);obtain⟨b0,b1,b2,b3,b4,b5,b6,b7⟩:=zAN (fH.o.fresh fA.o);obtain⟨c0,c1⟩:=zCV (fG.o.fresh fA.o);have k1:=hid (fF.o S1 w5 y5 (gK.o.fresh fA.o) (fun b hb=>Ax (jC.o b hb) fA.o.size) gS);have k2:=hid (fF.o (zAJ S1 w5.heap.size 1) (w5.alloc (.cells z4.toArray 28)) y5 (((gK.o.fresh fA.o).addR 1 nr).fresh (br.alloc nr _)) (zA8 (fun b hb=>by have:=jC.o b hb;have:=fA.o.size;simp;omega) (by simp)) ((gS.addR 1 nr).fresh (br.alloc nr _)));clear gO gS)
        | ((with_reducible refine (fP.o (zAJ S1 wy.heap.size 1) (wy.alloc (.cells z4.toArray 28)).drew kK.o (kI.o.addR 1 nr) lF.o).mono ?_);rintro e w5 ⟨⟨y5,rfl,gS⟩,gO⟩;have fA:=hid (kK.o.trans (gO.mono kK.o.size));obtain⟨a0,a1,a2,a3⟩:=zAp (fE.o.fresh fA.o);obtain⟨b0,b1,b2,b3,b4,b5,b6,b7⟩:=zAN (fH.o.fresh fA.o);obtain⟨c0,c1⟩:=zCV (fG.o.fresh fA.o);have k3:=hid (fF.o (zAJ S1 wy.heap.size 1) w5 y5 ((gK.o.addR 1 nr).fresh fA.o) (fun b hb=>Ax (lF.o b hb) gO.size) gS);have lP:=hid (Blk.fresh (w:=(wy.alloc (.cells z4.toArray 28)).drew) lO.o gO);clear gO gS))
       | (go_at_call 113;first
        | ((with_reducible refine k1.o.mono ?_);rintro e w6 ⟨⟨t6,rfl,gB⟩,fI⟩;unfold trV;have fB:=hid (fA.o.trans (fI.mono fA.o.size));obtain⟨a0,a1,a2,a3⟩:=zAp (fE.o.fresh fB.o);obtain⟨b0,b1,b2,b3,b4,b5,b6,b7⟩:=zAN (fH.o.fresh fB.o);obtain⟨c0,c1⟩:=zCV (fG.o.fresh fB.o);have lQ:=hid gB;clear fI gB)
        | ((with_reducible refine k2.o.mono ?_);rintro e w6 ⟨⟨t6,rfl,gB⟩,fI⟩;unfold trV;have fB:=hid (fA.o.trans (((Ay w5.heap.size w5).alloc nr _).trans (fI.mono (by simp)) |>.mono fA.o.size));obtain⟨a0,a1,a2,a3⟩:=zAp (fE.o.fresh fB.o);obtain⟨b0,b1,b2,b3,b4,b5,b6,b7⟩:=zAN (fH.o.fresh fB.o);obtain⟨c0,c1⟩:=zCV (fG.o.fresh fB.o);have fM:=(Am w5 28 z4).fresh fI;have fT:=zCg fM t6;have kL:=fE.o.lt;have kM:=fH.o.lt;have kN:=fG.o.lt;obtain⟨d0,d1,d2,d3⟩:=zAp ((fE.o.fresh fB.o).chg fT.2 (by have:=fA.o.size;omega));obtain⟨e0,e1,e2,e3,e4,e5,e6,e7⟩:=zAN ((fH.o.fresh fB.o).chg fT.2 (by have:=fA.o.size;omega));obtain⟨k8,k9⟩:=zCV ((fG.o.fresh fB.o).chg fT.2 (by have:=fA.o.size;omega));have fU:=hid fT;clear fT kL kM kN;have kO:=hid fM;obtain⟨z0,z1,z2,z3⟩:=zH3 fM;have f0:=fM.frozen 0;have f1:=fM.frozen 1;have f2:=fM.frozen 2;have f3:=fM.frozen 3;clear fM;have lR:=hid gB;clear fI gB)
        | ((with_reducible refine k3.o.mono ?_);rintro e w6 ⟨⟨t6,rfl,gB⟩,fI⟩;unfold trV;have fB:=hid (fA.o.trans (fI.mono fA.o.size));obtain⟨a0,a1,a2,a3⟩:=zAp (fE.o.fresh fB.o);obtain⟨b0,b1,b2,b3,b4,b5,b6,b7⟩:=zAN (fH.o.fresh fB.o);obtain⟨c0,c1⟩:=zCV (fG.o.fresh fB.o);have fM:=lP.o.fresh fI;have fT:=zCg fM t6;have kL:=fE.o.lt;have kM:=fH.o.lt;have kN:=fG.o.lt;obtain⟨d0,d1,d2,d3⟩:=zAp ((fE.o.fresh fB.o).chg fT.2 (by omega));obtain⟨e0,e1,e2,e3,e4,e5,e6,e7⟩:=zAN ((fH.o.fresh fB.o).chg fT.2 (by omega));obtain⟨k8,k9⟩:=zCV ((fG.o.fresh fB.o).chg fT.2 (by omega));have fU:=hid fT;clear fT kL kM kN;have kO:=hid fM;obtain⟨z0,z1,z2,z3⟩:=zH3 fM;have f0:=fM.frozen 0;have f1:=fM.frozen 1;have f2:=fM.frozen 2;have f3:=fM.frozen 3;clear fM;have lS:=hid gB;clear fI gB)))
     all_goals (go_wp2;go_meet)
     · exact⟨_,t6,rfl,hid (Am w6 28 (zAa t6)),hid (lQ.o.fresh (br.alloc nr _)),hid (fB.o.alloc fB.o.size _)⟩
     · obtain⟨h1,h2⟩:=zGh fU.o lR.o fB.o fA.o.size rfl;exact⟨_,t6,rfl,hid fU.o.1,hid h1,hid h2⟩
     · obtain⟨h1,h2⟩:=zGh fU.o lS.o fB.o nr rfl;exact⟨_,t6,rfl,hid fU.o.1,hid h1,hid h2⟩
    case rest =>
     obtain⟨ub,t6,rfl,hU,lG,fI⟩:=hcut;have fZ:Hid (T.place n=if T'.used+T'.inodes+1≤T'.sectors then (k,0) else (0,80)):=hid (by rw [←gM.o,←gL.o];exact place_one gU.o gC.o gV.o (by rw [fC.o];exact hk) fR kC.o)
     have kP:T'.Ok:=by rw [←gM.o,←gL.o];exact gU.o.gr.ok.upd (zCs gU.o.wf gC.o gV.o (may_fit jB fR fY.o (zGA jK.o) fJ.o.rep.sl) jK.o.2.2.1.2 jK.o.2.1) (gU.o.gr.ok.get gC.o).2
     have kQ:=hU.o;have lH:=kJ.o.fresh fI.o;have lI:=fE.o.fresh fI.o;have fV:=hid (zEN lG.o.ref kP);unfold trV at fV;have lJ:=hid kQ;have jD:=hid lH;have jE:=hid lI;obtain⟨u0,u1,u2,u3⟩:=zAp kQ;clear kQ lH lI fP fF;by_cases gT:T'.used+T'.inodes+1≤T'.sectors
     · have fL:Hid (T.place n=(k,0)):=hid (by rw [fZ.o,if_pos gT]);rw [decide_eq_true gT] at fV;clear fZ gT
       go_wp2_with (first
        | (go_at_call 121;refine fV.o.mono ?_;rintro e w7 ⟨rfl,fW⟩;have jF:=lJ.o.fresh fW;obtain⟨u0,u1,u2,u3⟩:=zAp jF;have jG:=jE.o.fresh fW;obtain⟨a0,a1,a2,a3⟩:=zAp jG;have jH:=jD.o.fresh fW;have fX:=hid fW;clear fW jF jG)
        | (refine stT t6 jH rfl rfl rfl (by rfl) rfl ?_))
       have fS:=Aq w7 (g+2) _ (zAa t6).toArray _ _ jH;refine Ar (zAz rfl _ _ (g+2) 28 (zAa t6).toArray (0,0) _ rfl fS Al rfl (by kernel_rfl)) rfl ?_;obtain⟨h1,h2⟩:=zDe (S:=S) (w:=w) (B:=w.heap.size) (r:=g+2) (zAa t6).toArray (lG.o.fresh fX.o) (by rw [←fO.o];exact .inr (by omega)) (fun b hb=>by rw [←fO.o];exact .inl hb) (fK.o.trans ((fI.o.trans (fX.o.mono fI.o.size)).mono fK.o.size)) (by have:=gE.o;omega) rfl;rw [←jI.o];refine⟨⟨t6,by rw [fL.o];rfl,?_⟩,h2⟩;rw [fL.o,if_pos rfl,gL.o,gM.o];exact h1
     · have fL:Hid (T.place n=(0,80)):=hid (by rw [fZ.o,if_neg gT]);rw [decide_eq_false gT] at fV;clear fZ gT
       go_wp2_with (first
        | (go_at_call 121;refine fV.o.mono ?_;rintro e w7 ⟨rfl,fW⟩;have jF:=lJ.o.fresh fW;obtain⟨u0,u1,u2,u3⟩:=zAp jF;have jG:=jE.o.fresh fW;obtain⟨a0,a1,a2,a3⟩:=zAp jG;have jH:=jD.o.fresh fW;have fX:=hid fW;clear fW jF jG)
        | (refine stT t jH rfl rfl rfl (by rfl) rfl ?_))
       have fS:=Aq w7 (g+2) _ (zAa t).toArray _ _ jH;refine Ar (zAz rfl _ _ (g+2) 28 (zAa t).toArray (0,0) _ rfl fS Al rfl (by kernel_rfl)) rfl ?_;obtain⟨h1,h2⟩:=zDe (S:=S) (w:=w) (B:=w.heap.size) (r:=g+2) (zAa t).toArray ((gK.o.fresh fI.o).fresh fX.o) (by rw [←fO.o];exact .inr (by omega)) (fun b hb=>by rw [←fO.o];exact .inl hb) (fK.o.trans ((fI.o.trans (fX.o.mono fI.o.size)).mono fK.o.size)) (by have:=gE.o;omega) rfl;rw [←jI.o];refine⟨⟨t,by rw [fL.o];rfl,?_⟩,h2⟩;rw [fL.o,if_neg (by decide)];exact h1
section
variable {S:Nat→Prop} {w:World} {x:Hd} {i:Nat} {n:PN}
theorem zDS (h:HdR S w x i n) (ho:n.Ok) (hd:n.dir=true) {nm:ByteArray} (hn:nm≠emp) :
 Calls Aj 110 #[hdV x,.string nm] w (FindP n nm w) :=
 (zIR w.heap.size x (zAu n) nm w h.at_ (h.rep.dir ho hd) nr (by rw [h.rep.rng ho hd,Ai];have:=ho.slots;omega)).mono fun _ _ h2=>zJJ h.rep ho hd hn h2
theorem zDK (h:HdR S w x i n) (ho:n.Ok) (hd:n.dir=true) {nm:ByteArray} (hn:nm≠emp) {j k:Nat} (hg:zAe nm n.names=some j) (hk:zAh nm n.slots=some k) :
 Calls Aj 110 #[hdV x,.string nm] w fun e w'=>e=.returned (.tuple #[.int .i64 (k:Int),.int .i64 (j:Int)])∧Below w.heap.size w w' :=
 (zDS h ho hd hn).mono fun e w' hf=>by
  rcases hf.1 with ⟨j',k',h1,h2,rfl⟩ | ⟨h1,_⟩
  · rw [hg] at h1;rw [hk] at h2;cases h1;cases h2;exact⟨rfl,hf.2⟩
  · rw [hg] at h1;cases h1
theorem zF4 (h:HdR S w x i n) (ho:n.Ok) (hd:n.dir=true) {nm:ByteArray} (hn:nm≠emp) (hg:zAe nm n.names=none) :
 Calls Aj 110 #[hdV x,.string nm] w fun e w'=>e=.returned (.tuple #[.int .i64 (-1),.int .i64 0])∧Below w.heap.size w w' :=
 (zDS h ho hd hn).mono fun e w' hf=>by
  rcases hf.1 with ⟨j',k',h1,_⟩ | ⟨_,rfl⟩
  · rw [hg] at h1;cases h1
  · exact⟨rfl,hf.2⟩
end
theorem zCd (S:Nat→Prop) (t:Tr) (T:PT) (d:Nat) (n:PN) (nm:ByteArray) (w:World) (h:RefS S w t T) (hS:∀ b,S b→b<w.heap.size) (hT:T.Ok) (hg:zAe d T.nodes=some n) (hd:n.dir=true) (gS:nm≠emp) {j k:Nat} (gT:zAe nm n.names=some j) (hk:zAh nm n.slots=some k) :
 Calls Aj 114 #[trV t,.int .i64 (d:Int),.string nm] w (zFA S (T.upd d (n.clear nm)) w):=by
 obtain⟨Q,hQ⟩:=nM (zFA S (T.upd d (n.clear nm)) w);rw [hQ];have jK:=hid hQ;have gU:=(hT.get hg).1;obtain⟨x,-,gV,gW⟩:=zBy h hT hg;have fY:Below w.heap.size w ((w.alloc (.cells (zAa t).toArray 28)).alloc (.cells z4.toArray 28)):=(br.alloc nr _).alloc (by simp) _;have fZ:=(Am w 28 (zAa t)).alloc (.cells z4.toArray 28);have gA:=Am (w.alloc (.cells (zAa t).toArray 28)) 28 z4;rw [show (w.alloc (.cells (zAa t).toArray 28)).heap.size=w.heap.size+1 by simp] at gA;have fJ:=gW _ fY;have gB:=hid (gV.addR 2 nr);have gC:=hid (h.addR 2 nr);have gD:Hid (∀ b,zAJ S w.heap.size 2 b→b<((w.alloc (.cells (zAa t).toArray 28)).alloc (.cells z4.toArray 28)).heap.size):=hid (zA8 (fun b hb=>by have:=hS b hb;simp;omega) (by simp));have fR:=hid gU;have gX:=hid hd;have gY:=hid gS;have jL:=hid hT;have gH:=hid gT;have gZ:=hid hk;clear hQ gV gW h hT hg gU hd gS gT hk hS;unfold trV;go_enter Tryz.func114,Tryz.ntmps114;go_upto_region 1 with (fail);change An _ _ _ _ ((w.alloc (.cells (zAa t).toArray 28)).alloc (.cells z4.toArray 28));generalize (w.alloc (.cells (zAa t).toArray 28)).alloc (.cells z4.toArray 28)=w0 at *;obtain⟨g,gE⟩:=nM (w.heap.size);rw [gE] at fZ gA fY gD gB gC;simp only [gE];have fQ:=hid gE;have fK:=hid fY;have fL:=hid gA;obtain⟨S1,fM⟩:=nM (zAJ S g 2);rw [fM] at gB gC gD;have fH:=hid fM;clear gE fY gA fM;unfold trV hdV at fJ
 go_upto_region 2 with (first
  | (refine ldT fZ rfl rfl rfl ?_)
  | (go_at_call 81;refine fJ.mono ?_;rintro e w1 ⟨rfl,fS⟩;have jA:=Am w1 123 z8)
  | (refine Ao rfl 123 (.tmp 7) (.tmp 12) rfl w1.heap.size (zAb x).toArray rfl (by rfl) 123 _ jA rfl rfl (zHb x) ?_))
 obtain⟨jB,gI⟩:=zBt w1 x;have fF:=fS.trans (gI.mono fS.size);have gF:=hid (fK.o.trans (fF.mono (by have:=fK.o.size;have:=fQ.o;omega)));have jC:=fZ.fresh fF;have jD:=hid (fL.o.fresh fF);change An _ _ _ _ ((w1.alloc (.cells z8.toArray 123)).setRow w1.heap.size (zAb x).toArray);have jM:Hid (g+2≤w1.heap.size):=hid (by have:=fL.o.lt;have:=fS.size;omega);have fT:Hid (∀ b,S1 b→b<w1.heap.size):=hid fun b hb=>Ax (gD.o b hb) fS.size;clear fZ fL fS fF fJ jA fK gD;have fU:=gI.size;generalize (w1.alloc (.cells z8.toArray 123)).setRow w1.heap.size (zAb x).toArray=w2 at *;generalize w1.heap.size=z at *;have fN:=hid jB;have fV:=hid jC;have gJ:Hid (HdR S1 w2 x d n):=hid (gB.o.fresh (by rw [fQ.o];exact gF.o));have hrw_:Hid (RefS S1 w2 t T):=hid (gC.o.fresh (by rw [fQ.o];exact gF.o));have hSw:Hid (∀ b,S1 b→b<w2.heap.size):=hid fun b hb=>Ax (fT.o b hb) fU;clear jB jC gI gB gC fT fU;have gK:=hid (zDK gJ.o fR.o gX.o gY.o gH.o gZ.o);unfold hdV at gK
 go_upto_region 3 with (first
  | (refine As rfl 123 (.tmp 7) rfl z rfl 123 (zAb x).toArray _ _ fN.o Ak rfl rfl ?_)
  | (go_at_call 110;refine gK.o.mono ?_;rintro e w3 ⟨rfl,fI⟩))
 have fB:=hid (fV.o.fresh fI);have fC:=hid (fN.o.fresh fI);have fO:=jD.o.fresh fI;have jE:=gJ.o.fresh fI;have jF:=hrw_.o.fresh fI;have gL:∀ b,S1 b→b<w3.heap.size:=fun b hb=>Ax (hSw.o b hb) fI.size;have fW:=hid fI;have fG:=hid (zJT (jE.fresh (zAd (Ay _ w3) 1)) gL fR.o gX.o gY.o gZ.o);obtain⟨n',gM⟩:∃ n',n.clear nm=n':=⟨_,rfl⟩;rw [gM] at fG;have fD:=hid fun (W:World) (y:Hd) (h2:Below w3.heap.size w3 W) (hy:HdR S1 W y d n')=>zBr (jF.fresh h2) (fun b hb=>Ax (gL b hb) h2.size) jL.o hy;obtain⟨T',gN⟩:∃ T',T.upd d n'=T':=⟨_,rfl⟩;rw [gN] at fD;have gO:=hid gM;have gP:=hid gN;have gQ:=hid fO;have f0:=fO.frozen 0;have f1:=fO.frozen 1;have f2:=fO.frozen 2;have f3:=fO.frozen 3;obtain⟨z0,z1,z2,z3⟩:=zH3 fO;obtain⟨a0,a1,a2,a3⟩:=zAp fB.o;obtain⟨b0,b1,b2,b3,b4,b5,b6,b7⟩:=zAN fC.o;clear gM gN jD fV fN gJ hrw_ hSw gK fI jE jF gL fO;unfold hdV zGH zAb at fG;simp only [zB3,zCk] at fG;unfold trV at fD
 go_region_held3 (fun w'=>w'.cell? ⟨g,0,none⟩=some (.int .i64 t.sectors)∧w'.cell? ⟨g,1,none⟩=some (.int .i64 t.inodes)∧w'.cell? ⟨g,2,none⟩=some (.int .i64 t.births)∧w'.cell? ⟨g,3,none⟩=some (.slice t.A t.l.length t.c)∧w'.cell? ⟨z,0,none⟩=some (.int .i64 x.ino)∧w'.cell? ⟨z,1,none⟩=some (.int .i64 x.kind)∧w'.cell? ⟨z,2,none⟩=some (.int .i64 x.links)∧w'.cell? ⟨z,3,none⟩=some (.int .i64 x.size)∧w'.cell? ⟨z,4,none⟩=some (.int .i64 x.made)∧w'.cell? ⟨z,5,none⟩=some (.int .i64 x.birth)∧w'.cell? ⟨z,6,none⟩=some (.slice x.iA x.idx.length x.ic)∧w'.cell? ⟨z,7,none⟩=some (.slice x.dA x.dat.length x.dc))
  (first | go_keep)
  (first
   | (go_at_call 117;refine fG.o.mono ?_;rintro e w5 ⟨⟨y5,rfl,jG⟩,jH⟩;have fE:=hid ((zAd (Ay _ w3) 1).trans jH);obtain⟨a0,a1,a2,a3⟩:=zAp (fB.o.fresh fE.o);obtain⟨b0,b1,b2,b3,b4,b5,b6,b7⟩:=zAN (fC.o.fresh fE.o);have k1:=hid (fD.o w5 y5 fE.o jG);clear jH jG)
   | (go_at_call 113;refine k1.o.mono ?_;rintro e w6 ⟨⟨t6,rfl,jI⟩,jJ⟩;unfold trV;have fA:=hid (fE.o.trans (jJ.mono fE.o.size));have fP:=gQ.o.fresh fA.o;have gG:=zCg fP t6;have jN:=fB.o.lt;have jO:=fC.o.lt;obtain⟨a0,a1,a2,a3⟩:=zAp (fB.o.fresh fA.o);obtain⟨b0,b1,b2,b3,b4,b5,b6,b7⟩:=zAN (fC.o.fresh fA.o);obtain⟨d0,d1,d2,d3⟩:=zAp ((fB.o.fresh fA.o).chg gG.2 (by omega));obtain⟨e0,e1,e2,e3,e4,e5,e6,e7⟩:=zAN ((fC.o.fresh fA.o).chg gG.2 (by have:=jM.o;omega));have fX:=hid gG;have gR:=hid jI;have f0:=fP.frozen 0;have f1:=fP.frozen 1;have f2:=fP.frozen 2;have f3:=fP.frozen 3;obtain⟨z0,z1,z2,z3⟩:=zH3 fP;clear gG jN jO jJ jI fP))
 go_wp2;refine Ar (At rfl _ _ (g+1) 28 (zAa t6).toArray (0,0) _ rfl fX.o.1 Al rfl rfl) rfl ?_;rw [←jK.o];obtain⟨h1,h2⟩:=ret_chg (S:=S) gR.o fX.o.2 (by rw [←fH.o];exact .inr (by omega)) (fun b hb=>by rw [←fH.o];exact .inl hb) (gF.o.trans ((fW.o.trans (fA.o.mono fW.o.size)).mono (by have:=gF.o.size;have:=fQ.o;omega))) (by omega) fQ.o;rw [gO.o,gP.o];exact⟨⟨t6,rfl,h1⟩,by rw [fQ.o];exact h2⟩
theorem RepN.linked {x:Hd} {i:Nat} {n:PN} (h:RepN x i n) (m:Nat) (l:Int) (hl:l=(m:Int)):RepN {x with links:=l} i {n with links:=m} :=
 ⟨h.ino,h.kind,hl,h.size,h.made,h.idx,h.dat,⟨h.sl.has,h.sl.one,h.sl.size,h.sl.ok,h.sl.at_⟩,h.tl⟩
theorem HdR.linked {S:Nat→Prop} {w:World} {x:Hd} {i:Nat} {n:PN} (h:HdR S w x i n) (m:Nat) (l:Int) (hl:l=(m:Int)):HdR S w {x with links:=l} i {n with links:=m} :=
 ⟨⟨h.at_.len,h.at_.sec,h.at_.idx,h.at_.dat⟩,h.rep.linked m l hl,h.oi,h.od⟩
theorem zGU (S:Nat→Prop) (t:Tr) (T:PT) (i:Nat) (n:PN) (w:World) (h:RefS S w t T) (hS:∀ b,S b→b<w.heap.size) (hT:T.Ok) (hg:zAe i T.nodes=some n) (hl:1≤n.links) (gL:n.dir=true→n.links=1) :
 Calls Aj 115 #[trV t,.int .i64 (i:Int)] w (zFA S (T.less i) w):=by
 obtain⟨Q,hQ⟩:=nM (zFA S (T.less i) w);rw [hQ];have gM:=hid hQ;have gC:=(hT.get hg).1;obtain⟨x,-,gD,gN⟩:=zBy h hT hg;have fT:Below w.heap.size w ((w.alloc (.cells (zAa t).toArray 28)).alloc (.cells z4.toArray 28)):=(br.alloc nr _).alloc (by simp) _;have fU:=(Am w 28 (zAa t)).alloc (.cells z4.toArray 28);have fV:=Am (w.alloc (.cells (zAa t).toArray 28)) 28 z4;rw [show (w.alloc (.cells (zAa t).toArray 28)).heap.size=w.heap.size+1 by simp] at fV;have fD:=gN _ fT;have fW:=hid (gD.addR 2 nr);have fX:=hid (h.addR 2 nr);have fY:Hid (∀ b,zAJ S w.heap.size 2 b→b<((w.alloc (.cells (zAa t).toArray 28)).alloc (.cells z4.toArray 28)).heap.size):=hid (zA8 (fun b hb=>by have:=hS b hb;simp;omega) (by simp));have jB:=hid gC;have gO:=hid hT;have gP:=hid hg;have gE:=hid hl;have gF:=hid gL;have jC:=gD.rep.links;have gQ:=gC.links;clear hQ gD gN h hT hg gC hl gL hS;unfold trV;go_enter Tryz.func115,Tryz.ntmps115;go_upto_region 1 with (fail);change An _ _ _ _ ((w.alloc (.cells (zAa t).toArray 28)).alloc (.cells z4.toArray 28));generalize (w.alloc (.cells (zAa t).toArray 28)).alloc (.cells z4.toArray 28)=w0 at *;obtain⟨g,fZ⟩:=nM (w.heap.size);rw [fZ] at fU fV fT fY fW fX;simp only [fZ];have fB:=hid fZ;have fE:=hid fT;have fF:=hid fV;obtain⟨S1,fG⟩:=nM (zAJ S g 2);rw [fG] at fW fX fY;have fA:=hid fG;clear fZ fT fV fG;unfold trV hdV at fD
 go_upto_region 2 with (first
  | (refine ldT fU rfl rfl rfl ?_)
  | (go_at_call 81;refine fD.mono ?_;rintro e w1 ⟨rfl,fL⟩;have gR:=Am w1 123 z8)
  | (refine Ao rfl 123 (.tmp 5) (.tmp 8) rfl w1.heap.size (zAb x).toArray rfl (by rfl) 123 _ gR rfl rfl (zHb x) ?_))
 obtain⟨fJ,gG⟩:=zBt w1 x;have fC:=fL.trans (gG.mono fL.size);have fM:=hid (fE.o.trans (fC.mono (by have:=fE.o.size;have:=fB.o;omega)));have gS:=fU.fresh fC;have gT:=hid (fF.o.fresh fC);change An _ _ _ _ ((w1.alloc (.cells z8.toArray 123)).setRow w1.heap.size (zAb x).toArray);have gA:Hid (g+2≤w1.heap.size):=hid (by have:=fF.o.lt;have:=fL.size;omega);have fN:Hid (∀ b,S1 b→b<w1.heap.size):=hid fun b hb=>Ax (fY.o b hb) fL.size;clear fU fF fL fC fD gR fE fY;have gH:=gG.size;generalize (w1.alloc (.cells z8.toArray 123)).setRow w1.heap.size (zAb x).toArray=w2 at *;generalize w1.heap.size=z at *;have fO:=hid fJ;have fP:=hid gS
 have gI:w.heap.size≤z:=by have:=gA.o;have:=fB.o;omega
 have gU:Hid (HdR (zAJ S1 z 1) w2 x i n):=hid ((fW.o.addR 1 gI).fresh (by rw [fB.o];exact fM.o));have hrw_:Hid (RefS (zAJ S1 z 1) w2 t T):=hid ((fX.o.addR 1 gI).fresh (by rw [fB.o];exact fM.o));have hSw:Hid (∀ b,zAJ S1 z 1 b→b<w2.heap.size):=hid (zA8 (fun b hb=>Ax (fN.o b hb) (Nat.le_of_lt fJ.lt)) fJ.lt);have x2:=fJ.cell 2;have q2:=fJ.frozen 2;simp only [zAb,Ad,Ae] at x2;rw [jC] at x2
 have jE:IntKind.i64.wrap ((n.links:Int)-1)=(n.links:Int)-1:=by rw [IntWalk.i64_in _ (by omega)]
 clear fJ gS gG fW fX fN gH gI;have gV:Blk (w2.setCell ⟨z,2,none⟩ (.int .i64 ((n.links:Int)-1))) z 123 (zAb {x with links:=(n.links:Int)-1}):=fO.o.set_ 2 _;have fK:Chg (fun b=>b=z) w2 (w2.setCell ⟨z,2,none⟩ (.int .i64 ((n.links:Int)-1))):=(Az (fun b=>b=z) w2).setCell (p:=⟨z,2,none⟩) (fun _=>rfl) _;have gJ:Chg (zAJ S1 z 1) w2 (w2.setCell ⟨z,2,none⟩ (.int .i64 ((n.links:Int)-1))):=fK.mono fun b _ e=>.inr (by omega);have gW:=fP.o.chg fK (by have:=gA.o;omega);have gX:=gT.o.chg fK (by have:=gA.o;omega);have jD:=hid (((gU.o.chg gJ).linked (n.links-1) ((n.links:Int)-1) (by have:=gE.o;omega)));have gY:=hid (hrw_.o.chg gJ);have gZ:Hid (∀ b,zAJ S1 z 1 b→b<(w2.setCell ⟨z,2,none⟩ (.int .i64 ((n.links:Int)-1))).heap.size):=hid fun b hb=>Ax (hSw.o b hb) fK.size;have gB:=hid (fM.o.trans (fK.below (B:=g) (by have:=fM.o.size;have:=fB.o;omega) fun b hb h=>by have:=gA.o;omega));clear fK gJ gU hrw_ hSw fO fP gT fM;go_upto_region 3 with (fail);generalize w2.setCell ⟨z,2,none⟩ (.int .i64 ((n.links:Int)-1))=w3 at *;generalize jA:({x with links:=(n.links:Int)-1}:Hd)=y at *
 have y2:w3.cell? ⟨z,2,none⟩=some (.int .i64 ((n.links:Int)-1)):=by have:=gV.cell 2;rw [←jA] at this;exact this
 clear jA x2 q2;by_cases h1:n.links=1
 · have t1:decide ((n.links:Int)-1<1)=true:=by simp;omega
   have fH:T.less i=T.del i:=by unfold PT.less;rw [gP.o];simp only;rw [if_pos (.inl (by omega))]
   have fQ:=zHn (i:=i) gY.o gZ.o gO.o;unfold trV at fQ
   go_wp2_with (first
    | (refine ldT gW rfl rfl rfl ?_)
    | (go_at_call 135;refine fQ.mono ?_;rintro e w6 ⟨⟨t6,rfl,gK⟩,fR⟩;have fS:=gX.fresh fR;unfold trV)
    | (refine stT t6 fS rfl rfl rfl (by rfl) rfl ?_))
   have fI:=Aq w6 (g+1) _ (zAa t6).toArray _ _ fS;refine Ar (At rfl _ _ (g+1) 28 (zAa t6).toArray (0,0) _ rfl fI Al rfl rfl) rfl ?_;obtain⟨k1,k2⟩:=zDe (S:=S) (r:=g+1) (zAa t6).toArray (gK.mono fun b hb=>.inl hb) (by rw [←fA.o];exact .inr (by omega)) (fun b hb=>by rw [←fA.o];exact .inl hb) (gB.o.trans (fR.mono (by have:=gB.o.size;have:=fB.o;omega))) (by omega) fB.o;rw [←gM.o,fH];exact⟨⟨t6,rfl,k1⟩,by rw [fB.o];exact k2⟩
 · have t1:decide ((n.links:Int)-1<1)=false:=by have:=gE.o;simp;omega
   have fH:T.less i=T.upd i {n with links:=n.links-1}:=by
    unfold PT.less;rw [gP.o];simp only
    rw [if_neg fun h=>by
     rcases h with h | h
     · have:=gE.o;omega
     · exact h1 (gF.o h)]
   have fQ:=zBr gY.o gZ.o gO.o jD.o;unfold trV hdV at fQ
   go_wp2_with (first
    | (refine ldT gW rfl rfl rfl ?_)
    | (refine As rfl 123 (.tmp 5) rfl z rfl 123 (zAb y).toArray _ _ gV Ak rfl rfl ?_)
    | (go_at_call 113;refine fQ.mono ?_;rintro e w6 ⟨⟨t6,rfl,gK⟩,fR⟩;have fS:=gX.fresh fR;unfold trV)
    | (refine stT t6 fS rfl rfl rfl (by rfl) rfl ?_))
   have fI:=Aq w6 (g+1) _ (zAa t6).toArray _ _ fS;refine Ar (At rfl _ _ (g+1) 28 (zAa t6).toArray (0,0) _ rfl fI Al rfl rfl) rfl ?_;obtain⟨k1,k2⟩:=zDe (S:=S) (r:=g+1) (zAa t6).toArray (gK.mono fun b hb=>.inl hb) (by rw [←fA.o];exact .inr (by omega)) (fun b hb=>by rw [←fA.o];exact .inl hb) (gB.o.trans (fR.mono (by have:=gB.o.size;have:=fB.o;omega))) (by omega) fB.o;rw [←gM.o,fH];exact⟨⟨t6,rfl,k1⟩,by rw [fB.o];exact k2⟩
theorem zGN (S:Nat→Prop) (t:Tr) (T:PT) (i:Nat) (n:PN) (w:World) (h:RefS S w t T) (hT:T.Ok) (hg:zAe i T.nodes=some n) :
 Calls Aj 82 #[trV t,.int .i64 (i:Int)] w fun e w'=>e=.returned (stV (T.stat i))∧Below w.heap.size w w':=by
 obtain⟨Q,hQ⟩:∃ Q:Ending→World→Prop,(fun e w'=>e=.returned (stV (T.stat i))∧Below w.heap.size w w')=Q:=⟨_,rfl⟩;rw [hQ];have fZ:=hid hQ;have fL:=(hT.get hg).1;obtain⟨x,-,fB,fT⟩:=zBy h hT hg;have fG:Below w.heap.size w ((w.alloc (.cells (zAa t).toArray 28)).alloc (.cells #[.int .i64 0,.int .i64 0,.int .i64 0,.int .i64 0,.int .i64 0,.int .i64 0] 63)):=(br.alloc nr _).alloc (by simp) _;have fM:=(Am w 28 (zAa t)).alloc (.cells #[.int .i64 0,.int .i64 0,.int .i64 0,.int .i64 0,.int .i64 0,.int .i64 0] 63);have fH:=Am (w.alloc (.cells (zAa t).toArray 28)) 63 [.int .i64 0,.int .i64 0,.int .i64 0,.int .i64 0,.int .i64 0,.int .i64 0];rw [show (w.alloc (.cells (zAa t).toArray 28)).heap.size=w.heap.size+1 by simp] at fH;have fC:=fT _ fG
 have gA:Hid (stV (T.stat i)=.agg #[.int .i64 (i:Int),.int .i64 x.kind,.int .i64 x.links,.int .i64 x.size,.int .i64 x.made,.int .i64 (zBp x.idx)]):=hid (by
  unfold PT.stat stV stC;rw [hg];simp only;rw [fB.rep.kind,fB.rep.links,fB.rep.size,fB.rep.made,zG4 fB.rep fL])
 have fU:=(zHJ (l:=[x]) (m:=[(i,n)]) (.cons fB.rep .nil) (by intro p hp;rw [List.mem_singleton.1 hp];exact fL) (by simp)).2 x (by simp);have gB:=hid fB;clear hQ fB fT h hT hg fL;unfold trV;go_enter Tryz.func82,Tryz.ntmps82;go_upto_region 1 with (fail);change An _ _ _ _ ((w.alloc (.cells (zAa t).toArray 28)).alloc (.cells #[.int .i64 0,.int .i64 0,.int .i64 0,.int .i64 0,.int .i64 0,.int .i64 0] 63));generalize (w.alloc (.cells (zAa t).toArray 28)).alloc (.cells #[.int .i64 0,.int .i64 0,.int .i64 0,.int .i64 0,.int .i64 0,.int .i64 0] 63)=w0 at *;obtain⟨g,fI⟩:=nM (w.heap.size);rw [fI] at fM fH fG;simp only [fI];have fJ:=hid fI;have fD:=hid fG;have fE:=hid fH;clear fI fG fH;unfold trV hdV at fC
 go_upto_region 2 with (first
  | (refine ldT fM rfl rfl rfl ?_)
  | (go_at_call 81;refine fC.mono ?_;rintro e w1 ⟨rfl,fK⟩;have fV:=Am w1 123 z8)
  | (refine Ao rfl 123 (.tmp 5) (.tmp 8) rfl w1.heap.size (zAb x).toArray rfl (by rfl) 123 _ fV rfl rfl (zHb x) ?_))
 obtain⟨fN,fW⟩:=zBt w1 x;have fF:=fK.trans (fW.mono fK.size);have fO:=hid (fD.o.trans (fF.mono (by have:=fD.o.size;have:=fJ.o;omega)));have fA:=fE.o.fresh fF;change An _ _ _ _ ((w1.alloc (.cells z8.toArray 123)).setRow w1.heap.size (zAb x).toArray)
 have gD:g+2≤w1.heap.size:=by have:=fE.o.lt;have:=fK.size;omega
 clear fM fE fK fF fC fV fD;generalize (w1.alloc (.cells z8.toArray 123)).setRow w1.heap.size (zAb x).toArray=w2 at *;generalize w1.heap.size=z at *;have fX:=gB.o.fresh (by rw [fJ.o];exact fO.o);have gC:=hid (zGO w2.heap.size x.iA x.ic x.idx w2.drew (fX.at_.idx.keep fun _ _=>rfl) (by have:=fU.1;omega) fun k hk=>by have:=fU.2 k hk;omega);have fY:=zI5 fA (.int .i64 (i:Int)) (.int .i64 x.kind) (.int .i64 x.links) (.int .i64 x.size) (.int .i64 x.made) (.int .i64 (zBp x.idx));have fP:=chg6 w2 (g+1) (.int .i64 (i:Int)) (.int .i64 x.kind) (.int .i64 x.links) (.int .i64 x.size) (.int .i64 x.made) (.int .i64 (zBp x.idx));obtain⟨b0,b1,b2,b3,b4,b5,b6,b7⟩:=zAN fN;obtain⟨e0,e1,e2,e3,e4,e5,e6,e7⟩:=zAN (fN.chg fP (by omega));have r0:=fA.cell 0;have r1:=fA.cell 1;have r2:=fA.cell 2;have r3:=fA.cell 3;have r4:=fA.cell 4;have r5:=fA.cell 5;have f0:=fA.frozen 0;have f1:=fA.frozen 1;have f2:=fA.frozen 2;have f3:=fA.frozen 3;have f4:=fA.frozen 4;have f5:=fA.frozen 5;simp only [Ad,Ae] at r0 r1 r2 r3 r4 r5;have fQ:=hid fY;have fR:=hid fP;clear fN fA fW fX fY fP
 go_region_held3 (fun w'=>w'.cell? ⟨z,1,none⟩=some (.int .i64 x.kind)∧w'.cell? ⟨z,2,none⟩=some (.int .i64 x.links)∧w'.cell? ⟨z,3,none⟩=some (.int .i64 x.size)∧w'.cell? ⟨z,4,none⟩=some (.int .i64 x.made)∧w'.cell? ⟨z,6,none⟩=some (.slice x.iA x.idx.length x.ic))
  (first | go_keep)
  (first
   | (go_at_call 58;refine gC.o.mono ?_;rintro e w' ⟨rfl,rfl⟩))
 generalize (((((w2.setCell ⟨g+1,0,none⟩ (.int .i64 (i:Int))).setCell ⟨g+1,1,none⟩ (.int .i64 x.kind)).setCell ⟨g+1,2,none⟩ (.int .i64 x.links)).setCell ⟨g+1,3,none⟩ (.int .i64 x.size)).setCell ⟨g+1,4,none⟩ (.int .i64 x.made)).setCell ⟨g+1,5,none⟩ (.int .i64 (zBp x.idx))=w3 at *;go_wp2;have fS:Blk w3.drew (g+1) 63 [.int .i64 (i:Int),.int .i64 x.kind,.int .i64 x.links,.int .i64 x.size,.int .i64 x.made,.int .i64 (zBp x.idx)]:=fQ.o;refine Ar (At rfl _ _ (g+1) 63 #[.int .i64 (i:Int),.int .i64 x.kind,.int .i64 x.links,.int .i64 x.size,.int .i64 x.made,.int .i64 (zBp x.idx)] (0,0) _ rfl fS Tryz.underlying63 rfl rfl) rfl ?_;rw [←fZ.o,gA.o];exact⟨rfl,by rw [fJ.o];exact zAd (fO.o.trans (fR.o.below (by have:=fO.o.size;have:=fJ.o;omega) fun b hb h=>by omega)) 1⟩
theorem zGb (x:Hd) (W:World):(Instr.field 123 (.agg (zAb x).toArray) 1).run Aj W=.ok (.int .i64 x.kind) W:=by kernel_rfl
theorem zKa (t:Tr) (T:PT) (hT:T.Wf) (rk:Nat→Nat) (hr:T.Ranked rk) (N:Nat) (hN:∀ j,T.isDir j=true→rk j≤N) (d:Nat) (m:Nat):∀ (i:Nat) (w:World),
 T.isDir i=true→N+1-rk i≤m→RefS (fun _=>False) w t T→Calls Aj 116 #[trV t,.int .i64 (d:Int),.int .i64 (i:Int)] w (UndP T d i w):=by
 induction m with
 | zero=>intro i w hi hm;have:=hN i hi;omega
 | succ m ih =>
  intro i w hi hm h
  obtain⟨n,hn⟩:∃ n,zAe i T.nodes=some n:=by
   cases hg:zAe i T.nodes with
   | none=>unfold PT.isDir at hi;rw [hg] at hi;cases hi
   | some n=>exact⟨n,rfl⟩
  have fP:n.dir=true:=by rw [←zAm hn];exact hi
  by_cases he:d=i
  · subst he
    have kF:((d:Int)==(d:Int))=true:=by simp
    clear ih hr hN h hT fP hi hm hn;unfold trV;go_enter Tryz.func116,Tryz.ntmps116;go_wp2_with fail;go_ret;exact⟨⟨true,rfl,fun _=>.here,fun _=>rfl⟩,br.alloc nr _⟩
  · have kG:((d:Int)==(i:Int))=false:=by simp;omega
    obtain⟨Q,hQ⟩:=nM (UndP T d i w);rw [hQ];have jC:=hid hQ;have fQ:=(hT.ok.get hn).1;obtain⟨x,-,fV,jD⟩:=zBy h hT.ok hn;have fW:Below w.heap.size w (w.alloc (.cells (zAa t).toArray 28)):=br.alloc nr _;have fX:=Am w 28 (zAa t);have fH:=jD _ fW;have hD:=fV.rep.dir fQ fP;have jE:=fV.rep.rng fQ fP;have hH:=hid h;have fY:=hid fV;have jF:=hid hT;have fZ:=hid hn;have jR:=hid fP;have jS:=hid hr;have gN:=hid ih;have jT:=hid he;have jU:=hid hm;have jV:=hid fQ;have jG:=hid hD;obtain⟨len,fD⟩:∃ len,len=n.slots.length:=⟨_,rfl⟩;have fE:=hid fD
    have kI:len≤1068:=by rw [fD];exact fQ.slots
    have gA:Hid (x.idx.length=len):=hid (by rw [jE,Ai,fD]);clear ih hr hN h hT fP hi hm hn he fQ fV jD hQ hD jE fD;unfold trV;go_enter Tryz.func116,Tryz.ntmps116;go_upto_region 3 with (fail);change An _ _ _ _ (w.alloc (.cells (zAa t).toArray 28));generalize w.alloc (.cells (zAa t).toArray 28)=w0 at *;obtain⟨g,gB⟩:=nM (w.heap.size);rw [gB] at fX fW;simp only [gB];have fI:=hid gB;have fJ:=hid fW;clear gB fW;unfold trV hdV at fH
    go_upto_region 4 with (first
     | (refine ldT fX rfl rfl rfl ?_)
     | (go_at_call 81;refine fH.mono ?_;rintro e w1 ⟨rfl,gO⟩;have jH:=Am w1 123 z8)
     | (refine Ao rfl 123 (.tmp 7) (.tmp 16) rfl w1.heap.size (zAb x).toArray rfl (by rfl) 123 _ jH rfl rfl (zHb x) ?_))
    obtain⟨jI,jJ⟩:=zBt w1 x;have fK:=gO.trans (jJ.mono gO.size);have gC:=hid (fJ.o.trans (fK.mono (by have:=fJ.o.size;have:=fI.o;omega)));have jW:=hid (fX.fresh fK);change An _ _ _ _ ((w1.alloc (.cells z8.toArray 123)).setRow w1.heap.size (zAb x).toArray);clear fX gO fK fH jH fJ jJ;generalize (w1.alloc (.cells z8.toArray 123)).setRow w1.heap.size (zAb x).toArray=w2 at *;generalize w1.heap.size=z at *;have fR:=hid jI;clear jI;go_wp2_with fail
    go_loopw [8] (fun i' wr=>∃ k:Nat,k≤len∧i'=.int .i64 k∧Hid (∀ q,q<k→∀ j nm,(zAu n)[q]? = some (some (j,nm))→T.isDir j=true→¬T.Und d j)∧Hid (Below w2.heap.size w2 wr)) (fun i' _=>len-(intOf i').toNat)
    case atStart=>exact⟨0,Au _,rfl,hid fun q hq=>absurd hq (by omega),hid br⟩
    case round =>
     obtain⟨k,hk,rfl,fF,hb⟩:=hrel;have hX:=fR.o.fresh hb.o;obtain⟨-,-,-,-,-,-,x6,x7⟩:=zAN hX;rw [gA.o] at x6;have gP:=hid (gC.o.trans (hb.o.mono (by have:=gC.o.size;have:=fI.o;omega)));by_cases jK:k<len
     · have gQ:k<x.dat.length:=by rw [(fY.o).at_.len,gA.o];exact jK
       have gD:k<(zAu n).length:=by unfold zAu;rw [List.length_map,←fE.o];exact jK
       have gE:=fY.o.fresh (by rw [fI.o];exact gP.o);obtain⟨b2,off2,jL,jX,gF⟩:=gE.at_.sec_cell k gQ;have gG:=gE.at_.sec _ (Ah gQ);have gR:=jG.o.ok _ (Ah gD);rw [jG.o.get k gQ gD] at gF gG;rw [jL,gE.at_.len,gA.o] at x7;obtain⟨o,ho⟩:=nM ((zAu n)[k]);rw [ho] at gF gG gR;have fL:Hid ((zAu n)[k]? = some o):=hid (by rw [Ag gD,ho]);have gS:=zCf o wr gR;unfold zGH at gS;have hrw_:=hid (hH.o.fresh (w':=wr) (by rw [fI.o];exact gP.o));have jM:=hid (jW.o.fresh hb.o);have gT:=hid hb.o;clear jL gD gE ho hX hb
       go_upto_region 8 with (first
        | (refine wpList_load_mid rfl 187 (.tmp 28) rfl b2 (off2+k * 128) rfl (bvs (zFt o)) _ gF Tryz.underlying187 rfl (by rw [zA9,zAc,gG]) ?_)
        | (go_at_call 118;refine gS.mono ?_;rintro e w3 ⟨rfl,gU⟩))
       have hO:=Am w3 179 [.int .i64 (zB3 o),.string (zCk o)];have gH:=gU.trans (((Ay w3.heap.size w3).alloc nr (.cells #[.int .i64 (zB3 o),.string (zCk o)] 179)).mono gU.size);change An _ _ _ _ (w3.alloc (.cells [.int .i64 (zB3 o),.string (zCk o)].toArray 179));clear gU;generalize w3.alloc (.cells [.int .i64 (zB3 o),.string (zCk o)].toArray 179)=w4 at *;generalize w3.heap.size=y at *;have gI:=jM.o.fresh gH;have gJ:=hrw_.o.fresh gH;have fA:=hid (gT.o.trans (gH.mono gT.o.size));have jN:=fR.o.fresh fA.o;obtain⟨-,-,-,-,-,-,x6,x7⟩:=zAN jN;rw [gA.o] at x6;have o0:=hO.cell 0;simp only [Ae] at o0;have jY:=hid hO;clear gH gS gF gG jN jM hrw_ gT hO
       cases o with
       | none =>
        have fB:Hid (∀ q,q<k+1→∀ j nm,(zAu n)[q]? = some (some (j,nm))→T.isDir j=true→¬T.Und d j):=hid fun q hq j nm h1 h2=>by
         by_cases e:q=k
         · subst e;rw [fL.o] at h1;cases h1
         · exact fF.o q (by omega) j nm h1 h2
        simp only [zB3] at o0;clear fF fL;go_wp2_with fail;go_roundw
        case rel=>exact⟨k+1,by omega,by go_num,fB,fA⟩
        case measure=>simp [intOf];omega
       | some on =>
        obtain⟨j,nm⟩:=on;simp only [zB3] at o0
        have kJ:((j:Int) != 0)=true:=by have:=gR.1;simp;omega
        have fS:zAe nm n.names=some j:=by
         have h1:=fL.o;unfold zAu at h1;rw [Af] at h1
         cases e:n.slots[k]? with
         | none=>rw [e] at h1;cases h1
         | some y=>rw [e] at h1;exact (zEt (Option.some.inj h1)).2.2
        obtain⟨mj,gK⟩:=jF.o.ents i n nm j fZ.o fS;obtain⟨xj,-,gV,fT⟩:=zBy gJ jF.o.ok gK;have fT:=fT w4 br;have gL:=gV.rep.kind;have gM:=zAm gK;unfold trV hdV at fT;have gW:=hid fS
        cases fN:mj.dir with
        | false =>
         have jO:xj.kind=1:=by rw [gL];unfold PN.kind;rw [fN];rfl
         have fB:Hid (∀ q,q<k+1→∀ j nm,(zAu n)[q]? = some (some (j,nm))→T.isDir j=true→¬T.Und d j):=hid fun q hq j' nm' h1 h2=>by
          by_cases e:q=k
          · subst e;rw [fL.o] at h1;cases h1;rw [gM,fN] at h2;cases h2
          · exact fF.o q (by omega) j' nm' h1 h2
         have fld:=zGb xj;rw [jO] at fld;clear fF fL gL gM fN gJ gV gK fS jO
         go_wp2_with (first
          | (refine zAK (by rfl) (fun _ hK=>Ap 28 (.tmp 3) rfl g rfl 28 (zAa t).toArray _ _ gI Al rfl rfl (hK _ _ ?_)))
          | (go_at_call 81;refine fT.mono ?_;rintro e w5 ⟨rfl,fO⟩))
         go_roundw
         case rel=>exact⟨k+1,by omega,by go_num,fB,hid (fA.o.trans (fO.mono fA.o.size))⟩
         case measure=>simp [intOf];omega
        | true =>
         have jP:xj.kind=2:=by rw [gL];unfold PN.kind;rw [fN];rfl
         have gX:Hid (T.isDir j=true):=hid (by rw [gM,fN]);have fld:=zGb xj;rw [jP] at fld;have kK:=jS.o i n nm j fZ.o fS gX.o;have fG:=hid fun (W:World) (hW:Below w4.heap.size w4 W)=>gN.o j W gX.o (by have:=jU.o;omega) (gJ.fresh hW);unfold trV at fG;clear gL gM fN gJ gV gK fS jP;have gY:=hid gI
         go_wp2_with (first
          | (refine zAK (by rfl) (fun _ hK=>Ap 28 (.tmp 3) rfl g rfl 28 (zAa t).toArray _ _ gI Al rfl rfl (hK _ _ ?_)))
          | (go_at_call 81;refine fT.mono ?_;rintro e w5 ⟨rfl,fO⟩;replace gI:=gY.o.fresh fO;replace o0:=(jY.o.fresh fO).cell 0;simp only [zB3,Ae] at o0;have fC:=hid fO;clear fO)
          | (go_at_call 116;refine (fG.o w5 fC.o).mono ?_;rintro e w6 ⟨⟨bb,rfl,jQ⟩,gZ⟩;have fU:=hid jQ;clear jQ))
         · have jZ:bb=true:=by assumption
           have fM:=hid (fA.o.trans ((fC.o.trans (gZ.mono fC.o.size)).mono fA.o.size));have jA:Hid (T.Und d i):=hid (.step fZ.o gW.o gX.o (fU.o.1 jZ));rw [←jC.o];exact⟨⟨true,rfl,⟨fun _=>jA.o,fun _=>rfl⟩⟩,by rw [fI.o];exact gC.o.trans (fM.o.mono (by have:=gC.o.size;have:=fI.o;omega))⟩
         · have kA:¬bb=true:=by first | assumption | (rw [show bb=false by assumption];decide)
           have fM:=hid (fA.o.trans ((fC.o.trans (gZ.mono fC.o.size)).mono fA.o.size))
           have fB:Hid (∀ q,q<k+1→∀ j nm,(zAu n)[q]? = some (some (j,nm))→T.isDir j=true→¬T.Und d j):=hid fun q hq j' nm' h1 h2 h3=>by
            by_cases e:q=k
            · subst e;rw [fL.o] at h1;cases h1;exact kA (fU.o.2 h3)
            · exact fF.o q (by omega) j' nm' h1 h2 h3
           clear fF fL gZ;go_roundw
           case rel=>exact⟨k+1,by omega,by go_num,fB,fM⟩
           case measure=>simp [intOf];omega
     · obtain rfl:k=len:=by omega
       have jB:Hid (¬T.Und d i):=hid fun hu=>by
        cases hu with
        | here=>exact jT.o rfl
        | step h1 h2 h3 h4 =>
         rename_i kk n' nm;rw [fZ.o] at h1;obtain rfl:=Option.some.inj h1;have kC:=fY.o.rep.sl.at_ _ (zAf h2);have kD:=zGA (fY.o.rep.sl.ok _ (zAf h2));obtain⟨q,hq,kE⟩:=Ac kC;refine fF.o q (by rw [fE.o];exact hq) kk nm ?_ h3 h4;unfold zAu;rw [Af,Ag hq,kE];simp only [Option.map_some,Option.some.injEq];exact zDQ kD h2
       clear fF hX hb;go_wp2_with fail;rw [←jC.o];exact⟨⟨false,rfl,⟨fun h=>(by cases h),fun h=>absurd h jB.o⟩⟩,by rw [fI.o];exact gP.o⟩
theorem zFN {x:ByteArray} (h:chk x=true):nameOk x:=by
 unfold chk at h;obtain⟨h1,h2,h3,h4,h5⟩:=of_decide_eq_true h;refine⟨⟨h1,h2⟩,fun k hk=>?_,by rw [Lib.toList_data];exact h3,by rw [Lib.toList_data];exact h4⟩;have h6:=h5 x[k] (by rw [ByteArray.getElem_eq_getElem_data];exact Array.getElem_mem_toList _);exact⟨fun e=>h6.1 (UInt8.toNat_inj.1 e),fun e=>h6.2 (UInt8.toNat_inj.1 e)⟩
theorem zJw {T:PT} (hT:T.Ok) {i j:Nat} (n m:PN) (h:i≠j):(T.upd i n).upd j m=(T.upd j m).upd i n:=by
 unfold PT.upd;simp only [PT.mk.injEq,true_and];refine zBo.ext zAG ((hT.ris.put zAG zCo i n).put zAG zCo j m) ((hT.ris.put zAG zCo j m).put zAG zCo i n) fun a=>?_;by_cases e:a=j
 · subst e;rw [zAr,zAi zAG _ (fun e=>h e.symm),zAr]
 · rw [zAi zAG _ e];by_cases e2:a=i
   · subst e2;rw [zAr,zAr]
   · rw [zAi zAG _ e2,zAi zAG _ e2,zAi zAG _ e]
def zIo (S:Nat→Prop) (r:PT×Nat) (w:World) (e:Ending) (w':World):Prop :=
 (∃ t',e=.returned (.tuple #[trV t',.int .i64 (r.2:Int)])∧RefS S w' t' r.1)∧Below w.heap.size w w'
structure StT (w wk:World) (g:Nat) (t:Tr):Prop where
 tb:Blk wk g 28 (zAa t)
 rb:Blk wk (g+1) 28 z4
 bl:Below g w wk
theorem st_0 (w:World) (t:Tr):StT w ((w.alloc (.cells (zAa t).toArray 28)).alloc (.cells z4.toArray 28)) w.heap.size t:=by
 refine⟨(Am w 28 (zAa t)).alloc _,?_,(br.alloc nr _).alloc (by simp) _⟩;have:=Am (w.alloc (.cells (zAa t).toArray 28)) 28 z4;simpa using this
section
variable {w wk w':World} {g k:Nat} {t:Tr} {T:PT} {S:Nat→Prop}
theorem StT.le (h:StT w wk g t):g+2≤wk.heap.size:=h.rb.lt
theorem StT.fresh (h:StT w wk g t) (hb:Below wk.heap.size wk w'):StT w w' g t:=⟨h.tb.fresh hb,h.rb.fresh hb,h.bl.trans (hb.mono (by have:=h.le;omega))⟩
theorem StT.chg {y:Nat} (h:StT w wk g t) (hc:Chg (fun b=>b=y) wk w') (hy:g+2≤y):StT w w' g t :=
 ⟨h.tb.chg hc (by omega),h.rb.chg hc (by omega),h.bl.trans (hc.below (by have:=h.le;omega) fun b hb e=>by omega)⟩
theorem StT.held (h:StT w wk g t) (x:Hd):Blk ((wk.alloc (.cells z8.toArray 123)).setRow wk.heap.size (zAb x).toArray) wk.heap.size 123 (zAb x)∧StT w ((wk.alloc (.cells z8.toArray 123)).setRow wk.heap.size (zAb x).toArray) g t :=
 ⟨(zBt wk x).1,h.fresh (zBt wk x).2⟩
theorem zAL (w:World) (x:Tr):Blk ((w.alloc (.cells z4.toArray 28)).setRow w.heap.size (zAa x).toArray) w.heap.size 28 (zAa x) ∧
 Below w.heap.size w ((w.alloc (.cells z4.toArray 28)).setRow w.heap.size (zAa x).toArray):=by
 refine⟨Aq _ w.heap.size _ _ _ _ (Am w 28 z4),?_⟩;exact (((Az (fun b=>w.heap.size≤b) w).alloc _).setRow (fun _=>Nat.le_refl _) _).below nr fun b hb h=>by omega
theorem zBP (h:RefS S w t T) (hz:w.heap.size=g) (k:Nat) (W:World) (hb:Below g w W):RefS (zAJ S g k) W t T:=(h.addR k (Aw hz)).fresh (hz▸hb)
theorem inS (hS:∀ b,S b→b<w.heap.size) (hz:w.heap.size=g) (W:World) (hW:g+k≤W.heap.size):∀ b,zAJ S g k b→b<W.heap.size:=zA8 (fun b hb=>by have:=hS b hb;omega) hW
theorem zDO {i:Nat} {n:PN} (h:RefS S w t T) (hz:w.heap.size=g) (k:Nat) (ho:T.Ok) (hg:zAe i T.nodes=some n) :
 ∃ x,x.kind=n.kind∧x.links=(n.links:Int)∧∀ W,Below g w W→HdR (zAJ S g k) W x i n∧Calls Aj 81 #[.agg (zAa t).toArray,.int .i64 (i:Int)] W fun e w'=>e=.returned (.agg (zAb x).toArray)∧Below W.heap.size W w':=by
 obtain⟨x,-,h2,h3⟩:=zBy (zBP h hz k w (Ay g w)) ho hg;exact⟨x,h2.rep.kind,h2.rep.links,fun W hb=>⟨h2.fresh (hz.symm▸hb),h3 W (hz.symm▸hb)⟩⟩
theorem zJA {d i:Nat} {n:PN} {nm:ByteArray} (W:World) (h:RefS S W t T) (hS:∀ b,S b→b<W.heap.size) (hT:T.Inv) (hg:zAe d T.nodes=some n) (hd:n.dir=true) (hj:1≤i∧i≤T.inodes) (hc:chk nm=true) (fA:zAe nm n.names=none) :
 Calls Aj 112 #[.agg (zAa t).toArray,.int .i64 (d:Int),.agg #[.int .i64 (i:Int),.string nm]] W (PutP S T d n nm i W) :=
 rput_any S t T d n nm i W h hS hT hg hd ⟨hj.1,by have:=hT.gr.ok.ino;omega,zFN hc⟩ fA
theorem zAA {fn:Func} {p u:Tmp} {a:Act} {wz:World} {t':Tr} {T':PT} {c r:Nat} {Q:Ending→World→Prop} {r':PT×Nat} {z:List Value} (hR:Blk wz r 28 z)
 (hQ:zIo S r' w=Q) (fB:r'=(T',c)) (ht:RefS (zAJ S g k) wz t' T') (hb:Below g w wz) (hz:w.heap.size=g) (hr:g≤r∧r<g+k)
 (h:fn.results=#[.cell p 28,.tmp u]) (hp:a.tmps.getD p undef=.pointer (some ⟨r,0,none⟩)) (hu:a.tmps.getD u undef=.int .i64 (c:Int)) (hd:a.defers=[]) :
 bodyPost Aj fn Q .ret a (wz.setRow r (zAa t').toArray):=by
 have fA:=Aq wz r _ (zAa t').toArray _ _ hR;refine Ar (zAz h _ _ r 28 (zAa t').toArray (0,0) _ hp fA Al rfl (by kernel_rfl)) hd ?_;obtain⟨h1,h2⟩:=zDe (S:=S) (w:=w) (B:=w.heap.size) (r:=r) (zAa t').toArray ht (.inr hr) (fun b hb=>.inl hb) (hz.symm▸hb) (by omega) rfl;rw [←hQ,fB,hu];exact⟨⟨t',rfl,h1⟩,h2⟩
end
def zD2 (S:Nat→Prop) (w:World) (v:Value) (a:Ans):Prop:=∃ dA dc eA ec,v=.agg (zAq a.code a.stat (.slice dA a.data.length dc) (.slice eA a.ents.length ec)).toArray ∧
 Sees w w.heap.size 1 dA a.data.length (bvs a.data)∧Sees w w.heap.size 3 eA a.ents.length (a.ents.flatMap zBn)∧zGI S a.data.length dA∧zGI S a.ents.length eA
def DoT (S:Nat→Prop) (r:PT×Ans) (w:World) (e:Ending) (w':World):Prop :=
 (∃ t' v,e=.returned (.tuple #[trV t',v])∧RefS S w' t' r.1∧zD2 S w' v r.2)∧Below w.heap.size w w'
section
variable {S S':Nat→Prop} {w w':World} {v:Value} {a:Ans}
theorem zD2.fresh (h:zD2 S w v a) (hb:Below w.heap.size w w'):zD2 S w' v a:=by
 obtain⟨dA,dc,eA,ec,h1,h2,h3,h4,h5⟩:=h;exact⟨dA,dc,eA,ec,h1,(h2.below hb).more hb.size,(h3.below hb).more hb.size,h4,h5⟩
theorem zD2.chg (h:zD2 S w v a) (hc:Chg S w w'):zD2 S w' v a:=by
 obtain⟨dA,dc,eA,ec,h1,h2,h3,h4,h5⟩:=h;exact⟨dA,dc,eA,ec,h1,(h2.chgR (by decide) hc fun b off e hn=>h4 hn _ e).more hc.size,(h3.chgR (by decide) hc fun b off e hn=>h5 hn _ e).more hc.size,h4,h5⟩
theorem zD2.mono (h:zD2 S w v a) (hS:∀ b,S' b→S b):zD2 S' w v a:=by
 obtain⟨dA,dc,eA,ec,h1,h2,h3,h4,h5⟩:=h;exact⟨dA,dc,eA,ec,h1,h2,h3,h4.mono hS,h5.mono hS⟩
theorem zAw (S:Nat→Prop) (w:World) (c:Nat) (s:St):zD2 S w (.agg (zAq c s (.slice none 0 0) (.slice none 0 0)).toArray) ⟨c,s,[],[]⟩ :=
 ⟨none,0,none,0,rfl,Sees.nil,Sees.nil,fun h=>absurd h (by simp),fun h=>absurd h (by simp)⟩
end
theorem zD9 {fn:Func} {p u:Tmp} {ty ty2:TypeId} {P:Program} (h:fn.results=#[.cell p ty,.cell u ty2]) (tmps:Array Value) (w:World) (g:Nat) (t:TypeId) (cs:Array Value) (fr:Nat×Nat) (d:TypeDesc)
 (hp:tmps.getD p undef=.pointer (some ⟨g,0,none⟩)) (hg:w.heap[g]? = some (.cells cs t fr)) (hu:P.underlying ty=some d) (hd:d.isRow=true) (hi:(P.info? ty).map (·.size)=some cs.size)
 (g2:Nat) (t2:TypeId) (cs2:Array Value) (fr2:Nat×Nat) (d2:TypeDesc)
 (fB:tmps.getD u undef=.pointer (some ⟨g2,0,none⟩)) (fC:w.heap[g2]? = some (.cells cs2 t2 fr2)) (fD:P.underlying ty2=some d2) (fH:d2.isRow=true) (fE:(P.info? ty2).map (·.size)=some cs2.size) :
 (results fn tmps).run P w=.ok (.tuple #[.agg cs,.agg cs2]) w:=by
 have fF:tmps[p]?.getD undef=.pointer (some ⟨g,0,none⟩):=by simpa using hp
 have fA:tmps[u]?.getD undef=.pointer (some ⟨g2,0,none⟩):=by simpa using fB
 have hl:=run_loadVar_row (P:=P) w g t ty cs fr d hg hu (by cases d<;>simp_all [TypeDesc.isRow]) hi;have fG:=run_loadVar_row (P:=P) w g2 t2 ty2 cs2 fr2 d2 fC fD (by cases d2<;>simp_all [TypeDesc.isRow]) fE;simp [results,h,fF,fA,asAddr,hl,fG]
section
variable {w:World} {g k:Nat} {T:PT} {S:Nat→Prop}
theorem zE9 {fn:Func} {p u:Tmp} {a:Act} {wz:World} {t':Tr} {T':PT} {an:Ans} {r r2:Nat} {Q:Ending→World→Prop} {r':PT×Ans} {cs:List Value} (hR:Blk wz r 28 (zAa t')) (fA:Blk wz r2 67 cs)
 (hQ:DoT S r' w=Q) (fB:r'=(T',an)) (ht:RefS (zAJ S g k) wz t' T') (hv:zD2 (zAJ S g k) wz (.agg cs.toArray) an) (fC:cs.length=10) (hb:Below g w wz) (hz:w.heap.size=g)
 (h:fn.results=#[.cell p 28,.cell u 67]) (hp:a.tmps.getD p undef=.pointer (some ⟨r,0,none⟩)) (hu:a.tmps.getD u undef=.pointer (some ⟨r2,0,none⟩)) (hd:a.defers=[]) :
 bodyPost Aj fn Q .ret a wz:=by
 refine Ar (zD9 h _ _ r 28 (zAa t').toArray (0,0) _ hp hR Al rfl (by kernel_rfl) r2 67 cs.toArray (0,0) _ hu fA Tryz.underlying67 rfl (by rw [List.size_toArray,fC];kernel_rfl)) hd ?_;rw [←hQ,fB];exact⟨⟨t',_,rfl,ht.mono fun _ hb=>.inl hb,hv.mono fun _ hb=>.inl hb⟩,hz.symm▸hb⟩
theorem zA0 {fn:Func} {p u:Tmp} {a:Act} {wz:World} {t':Tr} {T':PT} {an:Ans} {r r2:Nat} {Q:Ending→World→Prop} {r':PT×Ans} {z z2 cs:List Value} (hR:Blk wz r 28 z) (fF:Blk wz r2 67 z2)
 (hQ:DoT S r' w=Q) (fG:r'=(T',an)) (ht:RefS (zAJ S g k) wz t' T') (hv:zD2 (zAJ S g k) wz (.agg cs.toArray) an) (fH:cs.length=10) (hb:Below g w wz) (hz:w.heap.size=g) (hr:g≤r∧r<g+k) (fI:g≤r2∧r2<g+k) (fC:r≠r2)
 (h:fn.results=#[.cell p 28,.cell u 67]) (hp:a.tmps.getD p undef=.pointer (some ⟨r,0,none⟩)) (hu:a.tmps.getD u undef=.pointer (some ⟨r2,0,none⟩)) (hd:a.defers=[]) :
 bodyPost Aj fn Q .ret a ((wz.setRow r (zAa t').toArray).setRow r2 cs.toArray):=by
 have fD:Chg (fun b=>b=r∨b=r2) wz ((wz.setRow r (zAa t').toArray).setRow r2 cs.toArray):=((Az _ wz).setRow (fun _=>.inl rfl) _).setRow (fun _=>.inr rfl) _
 have fA:Blk ((wz.setRow r (zAa t').toArray).setRow r2 cs.toArray) r 28 (zAa t'):=by
  have h1:Blk (wz.setRow r (zAa t').toArray) r 28 (zAa t'):=Aq wz r _ (zAa t').toArray _ _ hR;exact h1.chg ((Az (fun b=>b=r2) _).setRow (fun _=>rfl) _) fC
 have fB:Blk ((wz.setRow r (zAa t').toArray).setRow r2 cs.toArray) r2 67 cs:=by
  have h1:Blk (wz.setRow r (zAa t').toArray) r2 67 z2:=fF.chg ((Az (fun b=>b=r) _).setRow (fun _=>rfl) _) fun e=>fC e.symm;exact Aq _ r2 _ cs.toArray _ _ h1
 have fE:Chg (zAJ S g k) wz ((wz.setRow r (zAa t').toArray).setRow r2 cs.toArray):=fD.mono fun b _ e=>.inr (by omega);exact zE9 fA fB hQ fG (ht.chg fE) (hv.chg fE) fH (hb.trans (fD.below (by have:=hb.size;omega) fun b hb e=>by omega)) hz h hp hu hd
end
end Go.Proofs.YtolpcfhfcdkokaaGreatDoor
