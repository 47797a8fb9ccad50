/- Joined out of SPut..SPut. -/
import Derived.Deep.CutBlock
import Derived.Test.YtolpcfhfcdkokaaGreatDoorQ29
set_option maxHeartbeats 16000000
set_option maxRecDepth 100000
namespace Go.Proofs.YtolpcfhfcdkokaaGreatDoor
open Lib (hid)
open Go.RowKit
theorem place_at {T:PT} {n:PN} {k:Nat} (hk:k≤n.slots.length) (hb:∀ j (hj:j<n.slots.length),j<k→n.slots[j]≠emp) (he:k<n.slots.length→n.slots[k]? = some emp) :
 T.place n=if k<n.slots.length then (k,0) else if n.slots.length=1068 then (0,112) else if T.room n.count (zDt (List.range (n.slots.length+1))) then (n.slots.length,0) else (0,80):=by
 unfold PT.place;by_cases h:k<n.slots.length
 · rw [if_pos h];obtain⟨h1,h2⟩:=List.getElem?_eq_some_iff.1 (he h);rw [zDl h1 h2 fun j hj=>hb j (by omega) hj]
 · rw [if_neg h]
   have:zAj emp n.slots=none:=zB2.2 fun y hy=>by
    obtain⟨j,hj,rfl⟩:=List.getElem_of_mem hy;exact hb j hj (by omega)
   rw [this]
theorem zAr {w:World} {g:Nat} {t:Tr} (h:Blk w g 28 (zAa t)):w.cell? ⟨g,0,none⟩=some (.int .i64 t.sectors)∧w.cell? ⟨g,1,none⟩=some (.int .i64 t.inodes)∧w.cell? ⟨g,2,none⟩=some (.int .i64 t.births)∧w.cell? ⟨g,3,none⟩=some (.slice t.A t.l.length t.c):=⟨h.cell 0,h.cell 1,h.cell 2,h.cell 3⟩
theorem zAO {w:World} {z:Nat} {x:Hd} (h:Blk w z 123 (zAb x)):w.cell? ⟨z,0,none⟩=some (.int .i64 x.ino)∧w.cell? ⟨z,1,none⟩=some (.int .i64 x.kind)∧w.cell? ⟨z,2,none⟩=some (.int .i64 x.links)∧w.cell? ⟨z,3,none⟩=some (.int .i64 x.size)∧w.cell? ⟨z,4,none⟩=some (.int .i64 x.made)∧w.cell? ⟨z,5,none⟩=some (.int .i64 x.birth)∧w.cell? ⟨z,6,none⟩=some (.slice x.iA x.idx.length x.ic)∧w.cell? ⟨z,7,none⟩=some (.slice x.dA x.dat.length x.dc) :=
 ⟨h.cell 0,h.cell 1,h.cell 2,h.cell 3,h.cell 4,h.cell 5,h.cell 6,h.cell 7⟩
theorem zC0 {w:World} {z i:Nat} {nm:ByteArray} (h:Blk w z 179 [.int .i64 (i:Int),.string nm]):w.cell? ⟨z,0,none⟩=some (.int .i64 (i:Int))∧w.cell? ⟨z,1,none⟩=some (.string nm):=⟨h.cell 0,h.cell 1⟩
theorem zHI {w:World} {g:Nat} (h:Blk w g 28 z4):w.cell? ⟨g,0,none⟩=some (.int .i64 0)∧w.cell? ⟨g,1,none⟩=some (.int .i64 0)∧w.cell? ⟨g,2,none⟩=some (.int .i64 0)∧w.cell? ⟨g,3,none⟩=some (.slice none 0 0):=⟨h.cell 0,h.cell 1,h.cell 2,h.cell 3⟩
theorem count_put {n:PN} (hd:n.data=[]) (nm:ByteArray) (j:Nat):(n.set n.slots.length nm j).count=zDt (List.range (n.slots.length+1)):=by
 unfold PN.count PN.keys PN.set;simp [hd]
theorem place_one {T:PT} (hT:T.Inv) {d:Nat} {n:PN} (hg:zAd d T.nodes=some n) (hd:n.dir=true) {k i:Nat} {nm:ByteArray} (hk:k≤n.slots.length) (hf:k≠1068)
 (fC:T.place n=if k<n.slots.length then (k,0) else if n.slots.length=1068 then (0,112) else if T.room n.count (zDt (List.range (n.slots.length+1))) then (n.slots.length,0) else (0,80)) :
 T.place n=if (T.upd d (n.set k nm i)).used+(T.upd d (n.set k nm i)).inodes+1≤(T.upd d (n.set k nm i)).sectors then (k,0) else (0,80):=by
 have h1:=PT.used_upd hT.gr.ok.ris (n':=n.set k nm i) hg;have h2:=hT.room;have fA:=(hT.gr.ok.get hg).1.dd hd;have e1:(T.upd d (n.set k nm i)).inodes=T.inodes:=rfl;have e2:(T.upd d (n.set k nm i)).sectors=T.sectors:=rfl;rw [e1,e2,fC];by_cases fB:k<n.slots.length
 · have hc:(n.set k nm i).count=n.count:=by
    unfold PN.count PN.keys PN.set;simp only [if_neg (Nat.ne_of_lt fB),List.length_set]
   rw [if_pos fB,if_pos (by omega)]
 · have e:k=n.slots.length:=by omega
   subst e;rw [if_neg fB,if_neg hf];have hc:=count_put fA nm i;rw [hc] at h1
   have h3:(T.room n.count (zDt (List.range (n.slots.length+1)))=true)↔(T.upd d (n.set n.slots.length nm i)).used+T.inodes+1≤T.sectors:=by
    unfold PT.room;rw [decide_eq_true_iff];omega
   simp only [h3]
theorem may_fit {n:PN} {k:Nat} {nm:ByteArray} (h:MayAt n k nm) (hf:k≠1068) (ho:n.Ok) (hn:nm≠emp) (hs:SlOk n):n.Fit k nm:=by
 have:=ho.slots;rcases h with ⟨h1,-⟩ | ⟨h1,-⟩ | h1
 · exact .inl ⟨h1,by omega⟩
 · exact .inr (.inl ⟨(List.getElem?_eq_some_iff.1 h1).1,h1⟩)
 · exact .inr (.inr ⟨hs.has nm (List.mem_of_getElem? h1) hn,h1⟩)
def PutP (S:Nat→Prop) (T:PT) (d:Nat) (n:PN) (nm:ByteArray) (i:Nat) (w:World) (e:Ending) (w':World):Prop :=
 (∃ t',e=.returned (.tuple #[trV t',.int .i64 ((T.place n).2:Int)])∧RefS S w' t' (if (T.place n).2=0 then T.upd d (n.set (T.place n).1 nm i) else T))∧Below w.heap.size w w'
theorem zAc (t:Tr):(zAa t).toArray.all (·.oneCell')=true:=by
 rw [Array.all_eq_true_iff_forall_mem];intro v hv;simp only [zAa,List.mem_toArray,List.mem_cons,List.not_mem_nil,or_false] at hv;rcases hv with rfl | rfl | rfl | rfl<;>rfl
theorem rput_any (S:Nat→Prop) (t:Tr) (T:PT) (d:Nat) (n:PN) (nm:ByteArray) (i:Nat) (w:World) (h:RefS S w t T) (hS:∀ b,S b→b<w.heap.size) (hT:T.Inv) (hg:zAd d T.nodes=some n) (hd:n.dir=true) (hj:zEd i nm) (kR:zAd nm n.names=none) :
 Calls Tryz.prog 112 #[trV t,.int .i64 (d:Int),zGn (some (i,nm))] w (PutP S T d n nm i w):=by
 obtain⟨Q,hQ⟩:∃ Q,PutP S T d n nm i w=Q:=⟨_,rfl⟩;rw [hQ];have jI:=hid hQ;have kS:=(hT.gr.ok.get hg).1;obtain⟨x,lK,kT,kU⟩:=zBC h hT.gr.ok hg;have jR:Below w.heap.size w (((w.alloc (.cells (zAa t).toArray 28)).alloc (.cells #[.int .i64 (i:Int),.string nm] 179)).alloc (.cells z4.toArray 28)):=(((Below.refl _ _).alloc (Nat.le_refl _) _).alloc (by simp) _).alloc (by simp;omega) _;have jJ:=((Blk.new w 28 (zAa t)).alloc (.cells #[.int .i64 (i:Int),.string nm] 179)).alloc (.cells z4.toArray 28)
 have jS:Blk (((w.alloc (.cells (zAa t).toArray 28)).alloc (.cells #[.int .i64 (i:Int),.string nm] 179)).alloc (.cells z4.toArray 28)) (w.heap.size+1) 179 [.int .i64 (i:Int),.string nm]:=by
  have:=(Blk.new (w.alloc (.cells (zAa t).toArray 28)) 179 [.int .i64 (i:Int),.string nm]).alloc (.cells z4.toArray 28);simpa using this
 have jT:Blk (((w.alloc (.cells (zAa t).toArray 28)).alloc (.cells #[.int .i64 (i:Int),.string nm] 179)).alloc (.cells z4.toArray 28)) (w.heap.size+2) 28 z4:=by
  have:=Blk.new ((w.alloc (.cells (zAa t).toArray 28)).alloc (.cells #[.int .i64 (i:Int),.string nm] 179)) 28 z4;simpa using this
 have gA:=hid kU;have fJ:=hid kT;have kV:=hid h;have lL:=hid hS;have gU:=hid hT;have gC:=hid hg;have fY:=hid kS;have gV:=hid hd;have jK:=hid hj;have gW:=hid kR;clear hQ lK kT kU h hT hg kS hd hj kR hS;unfold trV zGn zB3 zCh;go_enter Tryz.func112,Tryz.ntmps112;go_upto_region 1 with (fail);change Code.wp _ _ _ _ (((w.alloc (.cells (zAa t).toArray 28)).alloc (.cells #[.int .i64 (i:Int),.string nm] 179)).alloc (.cells z4.toArray 28));generalize ((w.alloc (.cells (zAa t).toArray 28)).alloc (.cells #[.int .i64 (i:Int),.string nm] 179)).alloc (.cells z4.toArray 28)=w0 at *;have gD:=gA.out w0 jR;obtain⟨g,jL⟩:∃ g,w.heap.size=g:=⟨_,rfl⟩;rw [jL] at jJ jS jT;simp only [jL];have gE:=hid jL;have gF:=hid jR;have gX:=hid jS;have gG:=hid jT;clear jL jR jS jT gA;unfold trV hdV at gD
 go_upto_region 2 with (first
  | (refine wpList_load_row rfl 28 (.tmp 3) rfl g rfl 28 (zAa t).toArray _ _ jJ Tryz.underlying28 rfl rfl ?_)
  | (go_at_call 81;refine gD.mono ?_;rintro e w1 ⟨rfl,jM⟩;have kW:=Blk.new w1 123 z8)
  | (refine wpList_store_row rfl 123 (.tmp 8) (.tmp 13) rfl w1.heap.size (zAb x).toArray rfl (by rfl) 123 _ kW rfl rfl (zHl x) ?_))
 obtain⟨kX,kY⟩:=zBx w1 x;have fQ:=jM.trans (kY.mono jM.size);have gY:=hid (gF.out.trans (fQ.mono gF.out.size));have kZ:=hid (jJ.fresh fQ);have lA:=hid (gX.out.fresh fQ);have lB:=hid (gG.out.fresh fQ);change Code.wp _ _ _ _ ((w1.alloc (.cells z8.toArray 123)).setRow w1.heap.size (zAb x).toArray);have lC:Hid (g+3≤w1.heap.size):=hid (by have:=gG.out.lt;have:=jM.size;omega);clear jJ gX gG jM kY fQ gD kW gF;generalize (w1.alloc (.cells z8.toArray 123)).setRow w1.heap.size (zAb x).toArray=w2 at *;generalize w1.heap.size=z at *;have gH:=hid kX;clear kX;obtain⟨len,gI⟩:∃ len,n.slots.length=len:=⟨_,rfl⟩;have fC:=hid gI
 have lD:len≤1068:=by rw [←gI];exact fY.out.slots
 clear gI
 have fldS:∀ (a:Int) (s:ByteArray) (W:World),(Instr.field 179 (.agg #[.int .i64 a,.string s]) 0).run Tryz.prog W=.ok (.int .i64 a) W:=fun _ _ _=>by kernel_rfl
 have jU:x.size=128 * (len:Int):=by
  have h1:=fJ.out.rep.size;have h2:=fJ.out.rep.sl.size gV.out;have h3:=fC.out;omega
 have lM:(128 * (len:Int)).tdiv 128=(len:Int):=by rw [Int.tdiv_eq_ediv_of_nonneg (by omega)];omega
 have gZ:=hid fun (k:Nat) (W:World) (hW:Below w2.heap.size w2 W)=>slot_any x d n k W (fJ.out.fresh (gY.out.trans (hW.mono gY.out.size))).at_ fJ.out.rep fY.out gV.out
 go_upto_block 0 with (fail)
 go_cut [9] from 14 to 27 (fun ck wx=>∃ k:Nat,k≤len∧ck=.int .i64 (k:Int)∧Hid (∀ j (hj:j<n.slots.length),j<k→n.slots[j]≠emp)∧Hid (k<n.slots.length→n.slots[k]? = some emp)∧Hid (Below w2.heap.size w2 wx))
 case first =>
  clear jI;go_wp2_with (fail)
  go_loopw [9] (fun ck wr=>∃ k:Nat,k≤len∧ck=.int .i64 (k:Int)∧Hid (∀ j (hj:j<n.slots.length),j<k→n.slots[j]≠emp)∧Hid (Below w2.heap.size w2 wr)) (fun ck _=>len-(intOf ck).toNat)
  case atStart=>exact⟨0,Nat.zero_le _,rfl,hid (fun j _ hj=>absurd hj (by omega)),hid (Below.refl _ _)⟩
  case round =>
   obtain⟨k,hk,rfl,gP,fN⟩:=hrel;have jV:=gH.out.fresh fN.out;have x3:=jV.cell 3;simp only [zAb,List.getElem?_cons_succ,List.getElem?_cons_zero] at x3;rw [jU] at x3;by_cases jA:k<len
   · have t1:decide ((k:Int)<(len:Int))=true:=by simpa using jA
     have jW:k<n.slots.length:=by rw [fC.out];exact jA
     have fD:=gZ.out k wr fN.out
     have jX:zDO n k=slN n n.slots[k]:=by unfold zDO zAw;rw [List.getElem?_map,List.getElem?_eq_getElem jW];rfl
     rw [jX] at fD;unfold hdV zGn at fD;by_cases gJ:n.slots[k]=emp
     · have gQ:=hid (show k<n.slots.length→n.slots[k]? = some emp from fun _=>by rw [List.getElem?_eq_getElem jW,gJ]);rw [gJ,slN_emp] at fD;simp only [zB3,zCh] at fD;clear jX gJ gZ
       go_wp2_with (first
        | (refine zAJ (by rfl) (fun _ hK=>wp_load_row 123 (.tmp 8) rfl z rfl 123 (zAb x).toArray _ _ jV Tryz.underlying123 rfl rfl (hK _ _ ?_)))
        | (go_at_call 134;refine fD.mono ?_;rintro e w3 ⟨rfl,jY⟩))
       go_meet;exact⟨k,hk,rfl,gP,gQ,hid (fN.out.trans (jY.mono fN.out.size))⟩
     · obtain⟨i2,jZ⟩:∃ i2,zAd n.slots[k] n.names=some i2:=by
        have:=fJ.out.rep.sl.has _ (List.getElem_mem jW) gJ
        cases e:zAd n.slots[k] n.names with
        | none=>rw [e] at this;cases this
        | some j=>exact⟨j,rfl⟩
       have lE:=(fJ.out.rep.sl.ok _ (zAi jZ)).1
       have kA:Hid (∀ j (hj:j<n.slots.length),j<k+1→n.slots[j]≠emp):=hid fun j hj lT=>by
        by_cases e:j=k
        · subst e;exact gJ
        · exact gP.out j hj (by omega)
       rw [zDS gJ jZ] at fD;simp only [zB3,zCh] at fD lE
       have lU:((i2:Int) != 0)=true:=by simp;omega
       generalize n.slots[k]=y at *;clear jX gJ jZ lE gP gZ
       go_wp2_with (first
        | (refine zAJ (by rfl) (fun _ hK=>wp_load_row 123 (.tmp 8) rfl z rfl 123 (zAb x).toArray _ _ jV Tryz.underlying123 rfl rfl (hK _ _ ?_)))
        | (go_at_call 134;refine fD.mono ?_;rintro e w3 ⟨rfl,jY⟩))
       go_roundw
       case rel=>exact⟨k+1,by omega,by go_num,kA,hid (fN.out.trans (jY.mono fN.out.size))⟩
       case measure=>simp [intOf];omega
   · have t1:decide ((k:Int)<(len:Int))=false:=by simp;omega
     have gQ:=hid (show k<n.slots.length→n.slots[k]? = some emp from fun h=>absurd h (by rw [fC.out];omega));clear gZ;go_wp2;go_meet;exact⟨k,hk,rfl,gP,gQ,fN⟩
 case rest =>
  obtain⟨k,hk,rfl,gP,gQ,fN⟩:=hcut;have fK:=hid (gY.out.trans (fN.out.mono gY.out.size));have jN:=kZ.out.fresh fN.out;have jO:=lA.out.fresh fN.out;have jP:=lB.out.fresh fN.out;have gR:=gH.out.fresh fN.out;have kC:Hid (T.place n=if k<n.slots.length then (k,0) else if n.slots.length=1068 then (0,112) else if T.room n.count (zDt (List.range (n.slots.length+1))) then (n.slots.length,0) else (0,80)):=hid (place_at (by rw [fC.out];exact hk) gP.out gQ.out);generalize wc=wy at *;have lN:=hid jU;clear kZ lA lB gH fN gZ gY jU;by_cases fR:k=1068
  · have fL:Hid (T.place n=(0,112)):=hid (by
     have h1:=fC.out;rw [kC.out,if_neg (by omega),if_pos (by omega)])
    have kD:g+3≤wy.heap.size:=Nat.le_trans lC.out (by have:=gR.lt;omega);have gK:=hid ((kV.out.addR 3 (Nat.le_of_eq gE.out)).fresh fK.out);subst fR;clear kC gR jO;obtain⟨a0,a1,a2,a3⟩:=zAr jN
    go_wp2_with (first
     | (refine wpList_store_row rfl 28 (.tmp 6) (.tmp 30) rfl (g+2) (zAa t).toArray rfl (by rfl) 28 _ jP rfl rfl (zAc t) ?_))
    have fS:=setRow_heap wy (g+2) _ (zAa t).toArray _ _ jP;refine bodyPost_ret (zAA rfl _ _ (g+2) 28 (zAa t).toArray (0,0) _ rfl fS Tryz.underlying28 rfl (by kernel_rfl)) rfl ?_;obtain⟨h1,h2⟩:=zC7 (S:=S) (w:=w) (B:=w.heap.size) (r:=g+2) (zAa t).toArray gK.out (.inr (by omega)) (fun b hb=>.inl hb) fK.out (by have:=gE.out;omega) rfl;rw [←jI.out];refine⟨⟨t,by rw [fL.out];rfl,?_⟩,h2⟩;rw [fL.out,if_neg (by decide)];exact h1
  · have lV:((k:Int)==1068)=false:=by simp;omega
    have jB:MayAt n k nm:=by
     rcases Nat.lt_or_ge k n.slots.length with h1 | h1
     · exact .inr (.inl ⟨gQ.out h1,gW.out⟩)
     · exact .inl ⟨by have:=fC.out;omega,gW.out⟩
    have jA:k≤n.slots.length:=by rw [fC.out];exact hk
    have fP:=hid fun (S2:Nat→Prop) (W:World) (hW:Below wy.heap.size wy W) (h2:HdR S2 wy x d n) (kE:∀ b,S2 b→b<W.heap.size)=>zIY (h2.fresh hW) kE fY.out gV.out jK.out jA jB;obtain⟨n',kF⟩:∃ n',n.set k nm i=n':=⟨_,rfl⟩;rw [kF] at fP;have fF:=hid fun (S2:Nat→Prop) (W:World) (y:Hd) (h2:RefS S2 W t T) (kE:∀ b,S2 b→b<W.heap.size) (hy:HdR S2 W y d n')=>zBv h2 kE gU.out.gr.ok hy;obtain⟨T',kG⟩:∃ T',T.upd d n'=T':=⟨_,rfl⟩;rw [kG] at fF;have gL:=hid kF;have gM:=hid kG;have kD:g+3≤wy.heap.size:=Nat.le_trans lC.out (by have:=gR.lt;omega);have kI:=hid ((fJ.out.addR 3 (Nat.le_of_eq gE.out)).fresh fK.out);have gK:=hid ((kV.out.addR 3 (Nat.le_of_eq gE.out)).fresh fK.out);have jC:Hid (∀ b,zAM S g 3 b→b<wy.heap.size):=hid (zBe (fun b hb=>by have:=lL.out b hb;have:=gE.out;omega) kD);obtain⟨S1,gN⟩:∃ S1,zAM S g 3=S1:=⟨_,rfl⟩;rw [gN] at kI gK jC;have fO:=hid gN;have lF:Hid (∀ b,zAM S1 wy.heap.size 1 b→b<(wy.alloc (.cells z4.toArray 28)).drew.heap.size):=hid (zBe (fun b hb=>by have:=jC.out b hb;simp;omega) (by simp));clear kF kG jA gN kD;unfold hdV zGn zAb at fP;simp only [zB3,zCh] at fP;unfold trV at fF;have fE:=hid jN;have fG:=hid jO;have fH:=hid gR;have kJ:=hid jP;obtain⟨a0,a1,a2,a3⟩:=zAr jN;obtain⟨b0,b1,b2,b3,b4,b5,b6,b7⟩:=zAO gR;obtain⟨c0,c1⟩:=zC0 jO;have jQ:Hid (Below wy.heap.size wy wy.drew):=hid (zAf (Below.refl _ wy) 1);have kK:Hid (Below wy.heap.size wy (wy.alloc (.cells z4.toArray 28)).drew):=hid (zAf ((Below.refl _ _).alloc (Nat.le_refl _) _) 1);have lO:=hid (Blk.new wy 28 z4);clear jN jO gR jP;go_upto_region 7 with (fail)
    go_cut [10] from 31 to 36 (fun cu wx=>∃ ub t6,cu=.pointer (some ⟨ub,0,none⟩)∧Hid (Blk wx ub 28 (zAa t6))∧Hid (RefS S1 wx t6 T')∧Hid (Below wy.heap.size wy wx))
    case first =>
     go_region_held3 (fun w'=>w'.cell? ⟨g,0,none⟩=some (.int .i64 t.sectors)∧w'.cell? ⟨g,1,none⟩=some (.int .i64 t.inodes)∧w'.cell? ⟨g,2,none⟩=some (.int .i64 t.births)∧w'.cell? ⟨g,3,none⟩=some (.slice t.A t.l.length t.c)∧w'.cell? ⟨z,0,none⟩=some (.int .i64 x.ino)∧w'.cell? ⟨z,1,none⟩=some (.int .i64 x.kind)∧w'.cell? ⟨z,2,none⟩=some (.int .i64 x.links)∧w'.cell? ⟨z,3,none⟩=some (.int .i64 x.size)∧w'.cell? ⟨z,4,none⟩=some (.int .i64 x.made)∧w'.cell? ⟨z,5,none⟩=some (.int .i64 x.birth)∧w'.cell? ⟨z,6,none⟩=some (.slice x.iA x.idx.length x.ic)∧w'.cell? ⟨z,7,none⟩=some (.slice x.dA x.dat.length x.dc)∧w'.cell? ⟨g+1,0,none⟩=some (.int .i64 (i:Int))∧w'.cell? ⟨g+1,1,none⟩=some (.string nm))
      (first | go_keep)
      (first
       | (go_at_call 117;first
        | ((with_reducible refine (fP.out S1 wy.drew jQ.out kI.out (fun b hb=>Nat.lt_of_lt_of_le (jC.out b hb) jQ.out.size)).mono ?_);rintro e w5 ⟨⟨y5,rfl,gS⟩,gO⟩;have fA:=hid (jQ.out.trans (gO.mono jQ.out.size));obtain⟨a0,a1,a2,a3⟩:=zAr (fE.out.fresh fA.out);obtain⟨b0,b1,b2,b3,b4,b5,b6,b7⟩:=zAO (fH.out.fresh fA.out);obtain⟨c0,c1⟩:=zC0 (fG.out.fresh fA.out);have k1:=hid (fF.out S1 w5 y5 (gK.out.fresh fA.out) (fun b hb=>Nat.lt_of_lt_of_le (jC.out b hb) fA.out.size) gS);have k2:=hid (fF.out (zAM S1 w5.heap.size 1) (w5.alloc (.cells z4.toArray 28)) y5 (((gK.out.fresh fA.out).addR 1 (Nat.le_refl _)).fresh ((Below.refl _ _).alloc (Nat.le_refl _) _)) (zBe (fun b hb=>by have:=jC.out b hb;have:=fA.out.size;simp;omega) (by simp)) ((gS.addR 1 (Nat.le_refl _)).fresh ((Below.refl _ _).alloc (Nat.le_refl _) _)));clear gO gS)
        | ((with_reducible refine (fP.out (zAM S1 wy.heap.size 1) (wy.alloc (.cells z4.toArray 28)).drew kK.out (kI.out.addR 1 (Nat.le_refl _)) lF.out).mono ?_);rintro e w5 ⟨⟨y5,rfl,gS⟩,gO⟩;have fA:=hid (kK.out.trans (gO.mono kK.out.size));obtain⟨a0,a1,a2,a3⟩:=zAr (fE.out.fresh fA.out);obtain⟨b0,b1,b2,b3,b4,b5,b6,b7⟩:=zAO (fH.out.fresh fA.out);obtain⟨c0,c1⟩:=zC0 (fG.out.fresh fA.out);have k3:=hid (fF.out (zAM S1 wy.heap.size 1) w5 y5 ((gK.out.addR 1 (Nat.le_refl _)).fresh fA.out) (fun b hb=>Nat.lt_of_lt_of_le (lF.out b hb) gO.size) gS);have lP:=hid (Blk.fresh (w:=(wy.alloc (.cells z4.toArray 28)).drew) lO.out gO);clear gO gS))
       | (go_at_call 113;first
        | ((with_reducible refine k1.out.mono ?_);rintro e w6 ⟨⟨t6,rfl,gB⟩,fI⟩;unfold trV;have fB:=hid (fA.out.trans (fI.mono fA.out.size));obtain⟨a0,a1,a2,a3⟩:=zAr (fE.out.fresh fB.out);obtain⟨b0,b1,b2,b3,b4,b5,b6,b7⟩:=zAO (fH.out.fresh fB.out);obtain⟨c0,c1⟩:=zC0 (fG.out.fresh fB.out);have lQ:=hid gB;clear fI gB)
        | ((with_reducible refine k2.out.mono ?_);rintro e w6 ⟨⟨t6,rfl,gB⟩,fI⟩;unfold trV;have fB:=hid (fA.out.trans (((Below.refl w5.heap.size w5).alloc (Nat.le_refl _) _).trans (fI.mono (by simp)) |>.mono fA.out.size));obtain⟨a0,a1,a2,a3⟩:=zAr (fE.out.fresh fB.out);obtain⟨b0,b1,b2,b3,b4,b5,b6,b7⟩:=zAO (fH.out.fresh fB.out);obtain⟨c0,c1⟩:=zC0 (fG.out.fresh fB.out);have fM:=(Blk.new w5 28 z4).fresh fI;have fT:=zCi fM t6;have kL:=fE.out.lt;have kM:=fH.out.lt;have kN:=fG.out.lt;obtain⟨d0,d1,d2,d3⟩:=zAr ((fE.out.fresh fB.out).chg fT.2 (by have:=fA.out.size;omega));obtain⟨e0,e1,e2,e3,e4,e5,e6,e7⟩:=zAO ((fH.out.fresh fB.out).chg fT.2 (by have:=fA.out.size;omega));obtain⟨k8,k9⟩:=zC0 ((fG.out.fresh fB.out).chg fT.2 (by have:=fA.out.size;omega));have fU:=hid fT;clear fT kL kM kN;have kO:=hid fM;obtain⟨z0,z1,z2,z3⟩:=zHI fM;have f0:=fM.frozen 0;have f1:=fM.frozen 1;have f2:=fM.frozen 2;have f3:=fM.frozen 3;clear fM;have lR:=hid gB;clear fI gB)
        | ((with_reducible refine k3.out.mono ?_);rintro e w6 ⟨⟨t6,rfl,gB⟩,fI⟩;unfold trV;have fB:=hid (fA.out.trans (fI.mono fA.out.size));obtain⟨a0,a1,a2,a3⟩:=zAr (fE.out.fresh fB.out);obtain⟨b0,b1,b2,b3,b4,b5,b6,b7⟩:=zAO (fH.out.fresh fB.out);obtain⟨c0,c1⟩:=zC0 (fG.out.fresh fB.out);have fM:=lP.out.fresh fI;have fT:=zCi fM t6;have kL:=fE.out.lt;have kM:=fH.out.lt;have kN:=fG.out.lt;obtain⟨d0,d1,d2,d3⟩:=zAr ((fE.out.fresh fB.out).chg fT.2 (by omega));obtain⟨e0,e1,e2,e3,e4,e5,e6,e7⟩:=zAO ((fH.out.fresh fB.out).chg fT.2 (by omega));obtain⟨k8,k9⟩:=zC0 ((fG.out.fresh fB.out).chg fT.2 (by omega));have fU:=hid fT;clear fT kL kM kN;have kO:=hid fM;obtain⟨z0,z1,z2,z3⟩:=zHI fM;have f0:=fM.frozen 0;have f1:=fM.frozen 1;have f2:=fM.frozen 2;have f3:=fM.frozen 3;clear fM;have lS:=hid gB;clear fI gB)))
     all_goals (go_wp2;go_meet)
     · exact⟨_,t6,rfl,hid (Blk.new w6 28 (zAa t6)),hid (lQ.out.fresh ((Below.refl _ _).alloc (Nat.le_refl _) _)),hid (fB.out.alloc fB.out.size _)⟩
     · obtain⟨h1,h2⟩:=zGc fU.out lR.out fB.out fA.out.size rfl;exact⟨_,t6,rfl,hid fU.out.1,hid h1,hid h2⟩
     · obtain⟨h1,h2⟩:=zGc fU.out lS.out fB.out (Nat.le_refl _) rfl;exact⟨_,t6,rfl,hid fU.out.1,hid h1,hid h2⟩
    case rest =>
     obtain⟨ub,t6,rfl,hU,lG,fI⟩:=hcut;have fZ:Hid (T.place n=if T'.used+T'.inodes+1≤T'.sectors then (k,0) else (0,80)):=hid (by rw [←gM.out,←gL.out];exact place_one gU.out gC.out gV.out (by rw [fC.out];exact hk) fR kC.out)
     have kP:T'.Ok:=by rw [←gM.out,←gL.out];exact gU.out.gr.ok.upd (zCy gU.out.wf gC.out gV.out (may_fit jB fR fY.out (zF9 jK.out) fJ.out.rep.sl) jK.out.2.2.1.2 jK.out.2.1) (gU.out.gr.ok.get gC.out).2
     have kQ:=hU.out;have lH:=kJ.out.fresh fI.out;have lI:=fE.out.fresh fI.out;have fV:=hid (zE1 lG.out.ref kP);unfold trV at fV;have lJ:=hid kQ;have jD:=hid lH;have jE:=hid lI;obtain⟨u0,u1,u2,u3⟩:=zAr kQ;clear kQ lH lI fP fF;by_cases gT:T'.used+T'.inodes+1≤T'.sectors
     · have fL:Hid (T.place n=(k,0)):=hid (by rw [fZ.out,if_pos gT]);rw [decide_eq_true gT] at fV;clear fZ gT
       go_wp2_with (first
        | (go_at_call 121;refine fV.out.mono ?_;rintro e w7 ⟨rfl,fW⟩;have jF:=lJ.out.fresh fW;obtain⟨u0,u1,u2,u3⟩:=zAr jF;have jG:=jE.out.fresh fW;obtain⟨a0,a1,a2,a3⟩:=zAr jG;have jH:=jD.out.fresh fW;have fX:=hid fW;clear fW jF jG)
        | (refine wpList_store_row rfl 28 (.tmp 6) (.tmp 41) rfl (g+2) (zAa t6).toArray rfl (by rfl) 28 _ jH rfl rfl (zAc t6) ?_))
       have fS:=setRow_heap w7 (g+2) _ (zAa t6).toArray _ _ jH;refine bodyPost_ret (zAA rfl _ _ (g+2) 28 (zAa t6).toArray (0,0) _ rfl fS Tryz.underlying28 rfl (by kernel_rfl)) rfl ?_;obtain⟨h1,h2⟩:=zC7 (S:=S) (w:=w) (B:=w.heap.size) (r:=g+2) (zAa t6).toArray (lG.out.fresh fX.out) (by rw [←fO.out];exact .inr (by omega)) (fun b hb=>by rw [←fO.out];exact .inl hb) (fK.out.trans ((fI.out.trans (fX.out.mono fI.out.size)).mono fK.out.size)) (by have:=gE.out;omega) rfl;rw [←jI.out];refine⟨⟨t6,by rw [fL.out];rfl,?_⟩,h2⟩;rw [fL.out,if_pos rfl,gL.out,gM.out];exact h1
     · have fL:Hid (T.place n=(0,80)):=hid (by rw [fZ.out,if_neg gT]);rw [decide_eq_false gT] at fV;clear fZ gT
       go_wp2_with (first
        | (go_at_call 121;refine fV.out.mono ?_;rintro e w7 ⟨rfl,fW⟩;have jF:=lJ.out.fresh fW;obtain⟨u0,u1,u2,u3⟩:=zAr jF;have jG:=jE.out.fresh fW;obtain⟨a0,a1,a2,a3⟩:=zAr jG;have jH:=jD.out.fresh fW;have fX:=hid fW;clear fW jF jG)
        | (refine wpList_store_row rfl 28 (.tmp 6) (.tmp 40) rfl (g+2) (zAa t).toArray rfl (by rfl) 28 _ jH rfl rfl (zAc t) ?_))
       have fS:=setRow_heap w7 (g+2) _ (zAa t).toArray _ _ jH;refine bodyPost_ret (zAA rfl _ _ (g+2) 28 (zAa t).toArray (0,0) _ rfl fS Tryz.underlying28 rfl (by kernel_rfl)) rfl ?_;obtain⟨h1,h2⟩:=zC7 (S:=S) (w:=w) (B:=w.heap.size) (r:=g+2) (zAa t).toArray ((gK.out.fresh fI.out).fresh fX.out) (by rw [←fO.out];exact .inr (by omega)) (fun b hb=>by rw [←fO.out];exact .inl hb) (fK.out.trans ((fI.out.trans (fX.out.mono fI.out.size)).mono fK.out.size)) (by have:=gE.out;omega) rfl;rw [←jI.out];refine⟨⟨t,by rw [fL.out];rfl,?_⟩,h2⟩;rw [fL.out,if_neg (by decide)];exact h1
end Go.Proofs.YtolpcfhfcdkokaaGreatDoor
