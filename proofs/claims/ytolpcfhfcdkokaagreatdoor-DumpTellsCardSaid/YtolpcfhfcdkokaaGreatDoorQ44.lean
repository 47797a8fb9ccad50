/- Joined out of SDoes..SDoes. -/
import Derived.Test.YtolpcfhfcdkokaaGreatDoorQ37
import Derived.Test.YtolpcfhfcdkokaaGreatDoorQ40
import Derived.Test.YtolpcfhfcdkokaaGreatDoorQ43
set_option maxHeartbeats 16000000
set_option maxRecDepth 100000
namespace Go.Proofs.YtolpcfhfcdkokaaGreatDoor
open Lib (hid)
open Go.RowKit
structure StD (w wk:World) (g:Nat) (t:Tr) (oc:List Value):Prop where
 tb:Blk wk g 28 (zAa t)
 ob:Blk wk (g+1) 70 oc
 rb:Blk wk (g+2) 28 z4
 ab:Blk wk (g+3) 67 zAs
 bl:Below g w wk
theorem std_0 (w:World) (t:Tr) (oc:List Value):StD w ((((w.alloc (.cells (zAa t).toArray 28)).alloc (.cells oc.toArray 70)).alloc (.cells z4.toArray 28)).alloc (.cells zAs.toArray 67)) w.heap.size t oc:=by
 refine⟨(((Blk.new w 28 (zAa t)).alloc _).alloc _).alloc _,?_,?_,?_,((((Below.refl _ _).alloc (Nat.le_refl _) _).alloc (by simp) _).alloc (by simp;omega) _).alloc (by simp;omega) _⟩
 · have:=((Blk.new (w.alloc (.cells (zAa t).toArray 28)) 70 oc).alloc (.cells z4.toArray 28)).alloc (.cells zAs.toArray 67);simpa using this
 · have:=(Blk.new ((w.alloc (.cells (zAa t).toArray 28)).alloc (.cells oc.toArray 70)) 28 z4).alloc (.cells zAs.toArray 67);simpa using this
 · have:=Blk.new (((w.alloc (.cells (zAa t).toArray 28)).alloc (.cells oc.toArray 70)).alloc (.cells z4.toArray 28)) 67 zAs;simpa using this
section
variable {w wk w':World} {g:Nat} {t:Tr} {oc:List Value}
theorem StD.le (h:StD w wk g t oc):g+4≤wk.heap.size:=h.ab.lt
theorem StD.fresh (h:StD w wk g t oc) (hb:Below wk.heap.size wk w'):StD w w' g t oc:=⟨h.tb.fresh hb,h.ob.fresh hb,h.rb.fresh hb,h.ab.fresh hb,h.bl.trans (hb.mono (by have:=h.le;omega))⟩
theorem StD.far {S:Nat→Prop} (h:StD w wk g t oc) (hc:Chg S wk w') (hS:∀ b,S b→g+4≤b):StD w w' g t oc :=
 ⟨h.tb.chg hc fun e=>by have:=hS _ e;omega,h.ob.chg hc fun e=>by have:=hS _ e;omega,h.rb.chg hc fun e=>by have:=hS _ e;omega,h.ab.chg hc fun e=>by have:=hS _ e;omega,h.bl.trans (hc.below (by have:=h.le;omega) fun b hb e=>by have:=hS _ e;omega)⟩
end
structure FinD (w wk:World) (g:Nat) (S:Nat→Prop) (t':Tr) (T':PT) (ct ca:List Value):Prop where
 tb:Blk wk (g+2) 28 ct
 ab:Blk wk (g+3) 67 ca
 bl:Below g w wk
 rf:RefS (zAM S g 5) wk t' T'
section
variable {w wk w':World} {g:Nat} {S:Nat→Prop} {t':Tr} {T':PT} {ct ca:List Value}
theorem FinD.fresh (h:FinD w wk g S t' T' ct ca) (hb:Below wk.heap.size wk w'):FinD w w' g S t' T' ct ca:=⟨h.tb.fresh hb,h.ab.fresh hb,h.bl.trans (hb.mono (by have:=h.ab.lt;omega)),h.rf.fresh hb⟩
theorem FinD.tree (h:FinD w wk g S t' T' z4 ca):FinD w ((((wk.setCell ⟨g+2,0,none⟩ (.int .i64 t'.sectors)).setCell ⟨g+2,1,none⟩ (.int .i64 t'.inodes)).setCell ⟨g+2,2,none⟩ (.int .i64 t'.births)).setCell ⟨g+2,3,none⟩ (.slice t'.A t'.l.length t'.c)) g S t' T' (zAa t') ca∧Chg (fun b=>b=g+2) wk ((((wk.setCell ⟨g+2,0,none⟩ (.int .i64 t'.sectors)).setCell ⟨g+2,1,none⟩ (.int .i64 t'.inodes)).setCell ⟨g+2,2,none⟩ (.int .i64 t'.births)).setCell ⟨g+2,3,none⟩ (.slice t'.A t'.l.length t'.c)):=by
 have h1:=zCi h.tb t';exact⟨⟨h1.1,h.ab.chg h1.2 (by omega),h.bl.trans (h1.2.below (by have:=h.ab.lt;omega) fun b hb e=>by omega),h.rf.chg (h1.2.mono fun b _ (e:b=g+2)=>.inr (by omega))⟩,h1.2⟩
theorem FinD.ans (h:FinD w wk g S t' T' ct zAs) (c s0 s1 s2 s3 s4 s5:Int) (d e:Value):FinD w ((((((((((wk.setCell ⟨g+3,0,none⟩ (.int .i64 c)).setCell ⟨g+3,1,none⟩ (.int .i64 s0)).setCell ⟨g+3,2,none⟩ (.int .i64 s1)).setCell ⟨g+3,3,none⟩ (.int .i64 s2)).setCell ⟨g+3,4,none⟩ (.int .i64 s3)).setCell ⟨g+3,5,none⟩ (.int .i64 s4)).setCell ⟨g+3,6,none⟩ (.int .i64 s5)).setCell ⟨g+3,7,none⟩ d).setCell ⟨g+3,8,none⟩ e).setCell ⟨g+3,9,none⟩ (.bool false)) g S t' T' ct [.int .i64 c,.int .i64 s0,.int .i64 s1,.int .i64 s2,.int .i64 s3,.int .i64 s4,.int .i64 s5,d,e,.bool false]∧Chg (fun b=>b=g+3) wk ((((((((((wk.setCell ⟨g+3,0,none⟩ (.int .i64 c)).setCell ⟨g+3,1,none⟩ (.int .i64 s0)).setCell ⟨g+3,2,none⟩ (.int .i64 s1)).setCell ⟨g+3,3,none⟩ (.int .i64 s2)).setCell ⟨g+3,4,none⟩ (.int .i64 s3)).setCell ⟨g+3,5,none⟩ (.int .i64 s4)).setCell ⟨g+3,6,none⟩ (.int .i64 s5)).setCell ⟨g+3,7,none⟩ d).setCell ⟨g+3,8,none⟩ e).setCell ⟨g+3,9,none⟩ (.bool false)):=by
 have h1:=ans_set h.ab c s0 s1 s2 s3 s4 s5 d e;exact⟨⟨h.tb.chg h1.2 (by omega),h1.1,h.bl.trans (h1.2.below (by have:=h.ab.lt;omega) fun b hb e=>by omega),h.rf.chg (h1.2.mono fun b _ (e:b=g+3)=>.inr (by omega))⟩,h1.2⟩
end
theorem zDf {w:World} {g:Nat} {o:Opn} {A:Option Addr} {c:Nat} (h:Blk w g 70 (opC o A c)):w.cell? ⟨g,0,none⟩=some (.int .i64 o.kind)∧w.cell? ⟨g,1,none⟩=some (.string o.path)∧w.cell? ⟨g,2,none⟩=some (.string o.dst)∧w.cell? ⟨g,3,none⟩=some (.int .i64 o.off)∧w.cell? ⟨g,4,none⟩=some (.int .i64 o.len)∧w.cell? ⟨g,5,none⟩=some (.slice A o.data.length c)∧w.cell? ⟨g,6,none⟩=some (.int .i64 o.made)∧w.cell? ⟨g,7,none⟩=some (.int .i64 o.pick):=⟨h.cell 0,h.cell 1,h.cell 2,h.cell 3,h.cell 4,h.cell 5,h.cell 6,h.cell 7⟩
theorem zGE (S:Nat→Prop) (t:Tr) (T:PT) (op:Opn) (A:Option Addr) (c:Nat) (Af:Option Addr) (cf:Nat) (l:List ByteArray) (At:Option Addr) (ct:Nat) (l2:List ByteArray) (w:World) (h:RefS S w t T) (hS:∀ b,S b→b<w.heap.size) (hT:T.Inv)
 (gC:op.fine=true) (lK:op.kind≠12) (lL:op.kind≠14) (hds:Sees w w.heap.size 1 A op.data.length (bvs op.data)) (lM:op.data.length≤1000000000)
 (hl:NmAt w w.heap.size Af cf l) (hc:∀ x∈l,chk x=true) (kY:NmAt w w.heap.size At ct l2) (kZ:∀ x∈l2,chk x=true) :
 Calls Tryz.prog 50 #[.agg (zAa t).toArray,.agg (opC op A c).toArray,.slice Af l.length cf,.slice At l2.length ct] w (DoT S (T.does op l l2) w):=by
 obtain⟨lk,kK⟩:∃ lk,T.does op l l2=lk:=⟨_,rfl⟩;rw [kK];obtain⟨Q,hQ⟩:∃ Q,DoT S lk w=Q:=⟨_,rfl⟩;rw [hQ];obtain⟨g,hz⟩:∃ g,w.heap.size=g:=⟨_,rfl⟩;have gP:=hid (zBV h hz 5);have lR:=hid (inS (k:=5) hS hz);have lA:=hid fun (j:Nat) (n:PN) (hg:zAd j T.nodes=some n)=>zDP h hz 5 hT.gr.ok hg;have jI:=hid fun W (hb:Below g w W)=>hl.fresh (hz.symm▸hb);have lB:=hid fun W (hb:Below g w W)=>kY.fresh (hz.symm▸hb);have kL:=hid fun W (hb:Below g w W)=>(hds.below (hz.symm▸hb:Below w.heap.size w W)).more (hz.symm▸hb:Below w.heap.size w W).size;have jJ:Hid (∀ b,S b→b<g):=hid (by rw [←hz];exact hS);have jA:=std_0 w t (opC op A c);rw [hz] at jA;have gD:=hid hT;have fO:=hid hQ;have hu:=hid kK.symm;have fP:=hid hz;have jK:=hid hc;have jN:=hid kZ
 have lN:0≤op.made∧op.made≤1099511627776∧1≤op.kind∧op.kind≤14:=by
  unfold Opn.fine at gC;have:=of_decide_eq_true gC;omega
 obtain⟨lO,lS,lT,lP⟩:=lN;have lC:Hid (op.made=(op.made.toNat:Int)):=hid (Int.toNat_of_nonneg lO).symm
 have lD:op.made.toNat≤1099511627776:=by omega
 have jL:=hid fun W (hb:Below g w W)=>zED t T Af cf l W (zBV h hz 5 W hb).ref hT.wf (hl.fresh (hz.symm▸hb)) fun x hx=>zBp (hc x hx);rw [show trV t=.agg (zAa t).toArray from rfl] at jL;have kM:=hid (zB0 hT.wf l 1 (let ⟨n,h,_⟩:=hT.wf.root;⟨n,h⟩));clear kK hQ h hS hT hl hc kY kZ hds gC;obtain⟨n1,kF⟩:∃ n1,l.length=n1:=⟨_,rfl⟩;obtain⟨n2,kN⟩:∃ n2,l2.length=n2:=⟨_,rfl⟩;have fV:=hid kF;have jO:=hid kN;rw [kF] at jL;rw [kF,kN];clear kF kN;go_enter Tryz.func50,Tryz.ntmps50;go_upto_region 1 with (fail)
 try simp only [hz]
 change Code.wp _ _ _ _ ((((w.alloc (.cells (zAa t).toArray 28)).alloc (.cells (opC op A c).toArray 70)).alloc (.cells z4.toArray 28)).alloc (.cells zAs.toArray 67));generalize (((w.alloc (.cells (zAa t).toArray 28)).alloc (.cells (opC op A c).toArray 70)).alloc (.cells z4.toArray 28)).alloc (.cells zAs.toArray 67)=w0 at *;clear hz
 go_upto_region 2 with (first
  | (refine wpList_load_row rfl 28 _ rfl g rfl 28 (zAa t).toArray _ _ jA.tb Tryz.underlying28 rfl rfl ?_)
  | (refine wpList_store_row rfl 28 _ _ rfl w0.heap.size (zAa t).toArray rfl (by rfl) 28 _ (Blk.new w0 28 z4) rfl rfl (zAc t) ?_))
 obtain⟨hU,kG⟩:=zAP w0 t;have fF:=jA.fresh kG;have lU:g+4≤w0.heap.size:=jA.le;change Code.wp _ _ _ _ ((w0.alloc (.cells z4.toArray 28)).setRow w0.heap.size (zAa t).toArray);have jP:=(gP.out w0 jA.bl).addR 1 (Nat.le_refl _)
 have jQ:Hid (∀ (j:Nat) (n:PN),zAd j T.nodes=some n→∃ x,x.kind=n.kind∧HdR (zAM (zAM S g 5) w0.heap.size 1) ((w0.alloc (.cells z4.toArray 28)).setRow w0.heap.size (zAa t).toArray) x j n∧∀ W,Below g w W→HdR (zAM S g 5) W x j n∧Calls Tryz.prog 81 #[.agg (zAa t).toArray,.int .i64 (j:Int)] W fun e w'=>e=.returned (.agg (zAb x).toArray)∧Below W.heap.size W w'):=hid fun j n hg=>by
  obtain⟨x,h1,h2,h3⟩:=lA.out j n hg;exact⟨x,h1,((h3 w0 jA.bl).1.addR 1 (Nat.le_refl _)).fresh kG,h3⟩
 have jR:=hid (jP.fresh kG);clear kG jA jP lA;generalize (w0.alloc (.cells z4.toArray 28)).setRow w0.heap.size (zAa t).toArray=w1 at *;generalize w0.heap.size=ub at *;have jM:=hid fun W (hb:Below w1.heap.size w1 W)=>jR.out.fresh hb
 have gQ:=hid fun (W:World) (hb:ub+1≤W.heap.size)=>zBe (S:=zAM S g 5) (g:=ub) (k:=1) (B:=W.heap.size) (fun b fG=>by
  rcases fG with fG | fG
  · have:=jJ.out b fG;omega
  · omega) hb
 have gX:ub+1≤w1.heap.size:=hU.lt;have o0:=fF.ob.cell 0;simp only [opC,List.getElem?_cons_zero] at o0;clear jR;by_cases k1:op.kind=1
 · have fK:Hid (lk=T.make l false op.made.toNat):=hid (by rw [hu.out];unfold PT.does;simp [k1])
   have fQ:=hid (zFD (zAM S g 5) t T Af cf l false op.made.toNat w1 (gP.out w1 fF.bl) (fun b hb=>by
    rcases hb with hb | hb
    · have:=jJ.out b hb;omega
    · omega) gD.out (jI.out w1 fF.bl) jK.out lD)
   rw [k1] at o0;rw [fV.out,←lC.out] at fQ;rw [show (if false=true then (2:Int) else 1)=1 from rfl] at fQ;have o6:=fF.ob.cell 6;simp only [opC,List.getElem?_cons_zero,List.getElem?_cons_succ] at o6
   go_wp2_with (first
    | (refine wpList_load_row rfl 28 _ rfl g rfl 28 (zAa t).toArray _ _ fF.tb Tryz.underlying28 rfl rfl ?_)
    | (go_at_call 76;(with_reducible refine (fQ.out).mono ?_);rintro eb w2 ⟨⟨t2,v2,rfl,fR,gT⟩,fG⟩;have fD:=fF.fresh fG;obtain⟨dA,dc,eA,ec,rfl,gU,gV,kO,kP⟩:=gT)
    | (refine wpList_store_row rfl 28 _ _ rfl (g+2) (zAa t2).toArray rfl (by rfl) 28 _ fD.rb rfl rfl (zAc t2) ?_)
    | (refine wpList_store_row rfl 67 _ _ rfl (g+3) (zAh _ _ (.slice dA _ dc) (.slice eA _ ec)).toArray rfl (by rfl) 67 _ (fD.ab.row_far (by omega) _) rfl rfl (zAv _ _ _ _ _ _ _ _) ?_))
   exact zAZ (k:=5) fD.rb fD.ab fO.out fK.out fR ⟨dA,dc,eA,ec,rfl,gU,gV,kO,kP⟩ rfl fD.bl fP.out ⟨by omega,by omega⟩ ⟨by omega,by omega⟩ (by omega) rfl rfl rfl rfl
 by_cases k2:op.kind=2
 · have fK:Hid (lk=T.make l true op.made.toNat):=hid (by rw [hu.out];unfold PT.does;simp [k2])
   have fQ:=hid (zFD (zAM S g 5) t T Af cf l true op.made.toNat w1 (gP.out w1 fF.bl) (fun b hb=>by
    rcases hb with hb | hb
    · have:=jJ.out b hb;omega
    · omega) gD.out (jI.out w1 fF.bl) jK.out lD)
   rw [k2] at o0;rw [fV.out,←lC.out] at fQ;rw [show (if true=true then (2:Int) else 1)=2 from rfl] at fQ;have o6:=fF.ob.cell 6;simp only [opC,List.getElem?_cons_zero,List.getElem?_cons_succ] at o6
   go_wp2_with (first
    | (refine wpList_load_row rfl 28 _ rfl g rfl 28 (zAa t).toArray _ _ fF.tb Tryz.underlying28 rfl rfl ?_)
    | (go_at_call 76;(with_reducible refine (fQ.out).mono ?_);rintro eb w2 ⟨⟨t2,v2,rfl,fR,gT⟩,fG⟩;have fD:=fF.fresh fG;obtain⟨dA,dc,eA,ec,rfl,gU,gV,kO,kP⟩:=gT)
    | (refine wpList_store_row rfl 28 _ _ rfl (g+2) (zAa t2).toArray rfl (by rfl) 28 _ fD.rb rfl rfl (zAc t2) ?_)
    | (refine wpList_store_row rfl 67 _ _ rfl (g+3) (zAh _ _ (.slice dA _ dc) (.slice eA _ ec)).toArray rfl (by rfl) 67 _ (fD.ab.row_far (by omega) _) rfl rfl (zAv _ _ _ _ _ _ _ _) ?_))
   exact zAZ (k:=5) fD.rb fD.ab fO.out fK.out fR ⟨dA,dc,eA,ec,rfl,gU,gV,kO,kP⟩ rfl fD.bl fP.out ⟨by omega,by omega⟩ ⟨by omega,by omega⟩ (by omega) rfl rfl rfl rfl
 by_cases k3:op.kind=3
 · have fK:Hid (lk=((T.link l l2).1,.err (T.link l l2).2)):=hid (by rw [hu.out];unfold PT.does;simp [k3]);have fI:=hid (zJP (zAM (zAM S g 5) ub 1) t T Af cf l At ct l2 w1 (jM.out w1 (Below.refl _ _)) (gQ.out w1 gX) gD.out (jI.out w1 fF.bl) jK.out (lB.out w1 fF.bl) jN.out);rw [k3] at o0;obtain⟨r2,fW⟩:∃ r2,T.link l l2=r2:=⟨_,rfl⟩;rw [fW] at fI fK;obtain⟨T2,c2⟩:=r2;rw [fV.out,jO.out] at fI;have kQ:∀ b,zAM (zAM S g 5) ub 1 b→b<w1.heap.size:=gQ.out w1 gX
   go_wp2_with (first
    | (refine wpList_load_row rfl 28 _ rfl g rfl 28 (zAa t).toArray _ _ fF.tb Tryz.underlying28 rfl rfl ?_)
    | (go_at_call 77;(with_reducible refine (fI.out).mono ?_);rintro eb w2 ⟨⟨t2,rfl,fR⟩,fG⟩;have fD:=fF.fresh fG;have fT:=hU.fresh fG;have gE:Chg (fun b=>b=ub) w2 (w2.setRow ub (zAa t2).toArray):=(Chg.refl (fun b=>b=ub) w2).setRow (fun _=>rfl) _;have jB:Blk (w2.setRow ub (zAa t2).toArray) ub 28 (zAa t2):=setRow_heap _ _ _ _ _ _ fT;have fJ:=fD.far gE (fun b e=>by omega);have jC:=(fR.chg (gE.mono fun b _ (e:b=ub)=>.inr (by omega))).mono fun b hb=>Or.inl hb)
    | (refine wpList_store_row rfl 28 _ _ rfl ub (zAa t2).toArray rfl (by rfl) 28 _ fT rfl rfl (zAc t2) ?_)
    | (refine wpList_load_row rfl 28 _ rfl ub rfl 28 (zAa t2).toArray _ _ jB Tryz.underlying28 rfl rfl ?_)
    | (refine wpList_store_row rfl 28 _ _ rfl (g+2) (zAa t2).toArray rfl (by rfl) 28 _ fJ.rb rfl rfl (zAc t2) ?_)
    | (refine wpList_store_row rfl 67 _ _ rfl (g+3) (zAh c2 st0 zAg zAg).toArray rfl (by rfl) 67 _ (fJ.ab.row_far (by omega) _) rfl rfl (zBj _ _) ?_))
   exact zAZ (k:=5) fJ.rb fJ.ab fO.out fK.out jC (zAx _ _ c2 st0) rfl fJ.bl fP.out ⟨by omega,by omega⟩ ⟨by omega,by omega⟩ (by omega) rfl rfl rfl rfl
 by_cases k4:op.kind=4
 · have fK:Hid (lk=((T.unlink l).1,.err (T.unlink l).2)):=hid (by rw [hu.out];unfold PT.does;simp [k4]);have fI:=hid (zFw (zAM (zAM S g 5) ub 1) t T Af cf l false w1 (jM.out w1 (Below.refl _ _)) (gQ.out w1 gX) gD.out (jI.out w1 fF.bl) jK.out);rw [k4] at o0;obtain⟨r2,fW⟩:∃ r2,T.unlink l=r2:=⟨_,rfl⟩;simp only [Bool.false_eq_true,if_false] at fI;rw [fW] at fI fK;obtain⟨T2,c2⟩:=r2;rw [fV.out] at fI;have kQ:∀ b,zAM (zAM S g 5) ub 1 b→b<w1.heap.size:=gQ.out w1 gX
   go_wp2_with (first
    | (refine wpList_load_row rfl 28 _ rfl g rfl 28 (zAa t).toArray _ _ fF.tb Tryz.underlying28 rfl rfl ?_)
    | (go_at_call 78;(with_reducible refine (fI.out).mono ?_);rintro eb w2 ⟨⟨t2,rfl,fR⟩,fG⟩;have fD:=fF.fresh fG;have fT:=hU.fresh fG;have gE:Chg (fun b=>b=ub) w2 (w2.setRow ub (zAa t2).toArray):=(Chg.refl (fun b=>b=ub) w2).setRow (fun _=>rfl) _;have jB:Blk (w2.setRow ub (zAa t2).toArray) ub 28 (zAa t2):=setRow_heap _ _ _ _ _ _ fT;have fJ:=fD.far gE (fun b e=>by omega);have jC:=(fR.chg (gE.mono fun b _ (e:b=ub)=>.inr (by omega))).mono fun b hb=>Or.inl hb)
    | (refine wpList_store_row rfl 28 _ _ rfl ub (zAa t2).toArray rfl (by rfl) 28 _ fT rfl rfl (zAc t2) ?_)
    | (refine wpList_load_row rfl 28 _ rfl ub rfl 28 (zAa t2).toArray _ _ jB Tryz.underlying28 rfl rfl ?_)
    | (refine wpList_store_row rfl 28 _ _ rfl (g+2) (zAa t2).toArray rfl (by rfl) 28 _ fJ.rb rfl rfl (zAc t2) ?_)
    | (refine wpList_store_row rfl 67 _ _ rfl (g+3) (zAh c2 st0 zAg zAg).toArray rfl (by rfl) 67 _ (fJ.ab.row_far (by omega) _) rfl rfl (zBj _ _) ?_))
   exact zAZ (k:=5) fJ.rb fJ.ab fO.out fK.out jC (zAx _ _ c2 st0) rfl fJ.bl fP.out ⟨by omega,by omega⟩ ⟨by omega,by omega⟩ (by omega) rfl rfl rfl rfl
 by_cases k5:op.kind=5
 · have fK:Hid (lk=((T.rmdir l).1,.err (T.rmdir l).2)):=hid (by rw [hu.out];unfold PT.does;simp [k5]);have fI:=hid (zFw (zAM (zAM S g 5) ub 1) t T Af cf l true w1 (jM.out w1 (Below.refl _ _)) (gQ.out w1 gX) gD.out (jI.out w1 fF.bl) jK.out);rw [k5] at o0;obtain⟨r2,fW⟩:∃ r2,T.rmdir l=r2:=⟨_,rfl⟩;simp only [if_true] at fI;rw [fW] at fI fK;obtain⟨T2,c2⟩:=r2;rw [fV.out] at fI;have kQ:∀ b,zAM (zAM S g 5) ub 1 b→b<w1.heap.size:=gQ.out w1 gX
   go_wp2_with (first
    | (refine wpList_load_row rfl 28 _ rfl g rfl 28 (zAa t).toArray _ _ fF.tb Tryz.underlying28 rfl rfl ?_)
    | (go_at_call 78;(with_reducible refine (fI.out).mono ?_);rintro eb w2 ⟨⟨t2,rfl,fR⟩,fG⟩;have fD:=fF.fresh fG;have fT:=hU.fresh fG;have gE:Chg (fun b=>b=ub) w2 (w2.setRow ub (zAa t2).toArray):=(Chg.refl (fun b=>b=ub) w2).setRow (fun _=>rfl) _;have jB:Blk (w2.setRow ub (zAa t2).toArray) ub 28 (zAa t2):=setRow_heap _ _ _ _ _ _ fT;have fJ:=fD.far gE (fun b e=>by omega);have jC:=(fR.chg (gE.mono fun b _ (e:b=ub)=>.inr (by omega))).mono fun b hb=>Or.inl hb)
    | (refine wpList_store_row rfl 28 _ _ rfl ub (zAa t2).toArray rfl (by rfl) 28 _ fT rfl rfl (zAc t2) ?_)
    | (refine wpList_load_row rfl 28 _ rfl ub rfl 28 (zAa t2).toArray _ _ jB Tryz.underlying28 rfl rfl ?_)
    | (refine wpList_store_row rfl 28 _ _ rfl (g+2) (zAa t2).toArray rfl (by rfl) 28 _ fJ.rb rfl rfl (zAc t2) ?_)
    | (refine wpList_store_row rfl 67 _ _ rfl (g+3) (zAh c2 st0 zAg zAg).toArray rfl (by rfl) 67 _ (fJ.ab.row_far (by omega) _) rfl rfl (zBj _ _) ?_))
   exact zAZ (k:=5) fJ.rb fJ.ab fO.out fK.out jC (zAx _ _ c2 st0) rfl fJ.bl fP.out ⟨by omega,by omega⟩ ⟨by omega,by omega⟩ (by omega) rfl rfl rfl rfl
 by_cases k6:op.kind=6
 · have fK:Hid (lk=((T.rename l l2).1,.err (T.rename l l2).2)):=hid (by rw [hu.out];unfold PT.does;simp [k6]);have fI:=hid (zGs (zAM (zAM S g 5) ub 1) t T Af cf l At ct l2 w1 (jM.out w1 (Below.refl _ _)) (gQ.out w1 gX) gD.out (jI.out w1 fF.bl) jK.out (lB.out w1 fF.bl) jN.out);rw [k6] at o0;obtain⟨r2,fW⟩:∃ r2,T.rename l l2=r2:=⟨_,rfl⟩;rw [fW] at fI fK;obtain⟨T2,c2⟩:=r2;rw [fV.out,jO.out] at fI;have kQ:∀ b,zAM (zAM S g 5) ub 1 b→b<w1.heap.size:=gQ.out w1 gX
   go_wp2_with (first
    | (refine wpList_load_row rfl 28 _ rfl g rfl 28 (zAa t).toArray _ _ fF.tb Tryz.underlying28 rfl rfl ?_)
    | (go_at_call 79;(with_reducible refine (fI.out).mono ?_);rintro eb w2 ⟨⟨t2,rfl,fR⟩,fG⟩;have fD:=fF.fresh fG;have fT:=hU.fresh fG;have gE:Chg (fun b=>b=ub) w2 (w2.setRow ub (zAa t2).toArray):=(Chg.refl (fun b=>b=ub) w2).setRow (fun _=>rfl) _;have jB:Blk (w2.setRow ub (zAa t2).toArray) ub 28 (zAa t2):=setRow_heap _ _ _ _ _ _ fT;have fJ:=fD.far gE (fun b e=>by omega);have jC:=(fR.chg (gE.mono fun b _ (e:b=ub)=>.inr (by omega))).mono fun b hb=>Or.inl hb)
    | (refine wpList_store_row rfl 28 _ _ rfl ub (zAa t2).toArray rfl (by rfl) 28 _ fT rfl rfl (zAc t2) ?_)
    | (refine wpList_load_row rfl 28 _ rfl ub rfl 28 (zAa t2).toArray _ _ jB Tryz.underlying28 rfl rfl ?_)
    | (refine wpList_store_row rfl 28 _ _ rfl (g+2) (zAa t2).toArray rfl (by rfl) 28 _ fJ.rb rfl rfl (zAc t2) ?_)
    | (refine wpList_store_row rfl 67 _ _ rfl (g+3) (zAh c2 st0 zAg zAg).toArray rfl (by rfl) 67 _ (fJ.ab.row_far (by omega) _) rfl rfl (zBj _ _) ?_))
   exact zAZ (k:=5) fJ.rb fJ.ab fO.out fK.out jC (zAx _ _ c2 st0) rfl fJ.bl fP.out ⟨by omega,by omega⟩ ⟨by omega,by omega⟩ (by omega) rfl rfl rfl rfl
 have fK:Hid (lk=if (T.walk l 1).2≠0 then (T,.err (T.walk l 1).2) else T.asks op (T.walk l 1).1):=hid (by rw [hu.out];unfold PT.does;simp [k1,k2,k3,k4,k5,k6,lK,lL]);obtain⟨r1,lE⟩:∃ r1,T.walk l 1=r1:=⟨_,rfl⟩;rw [lE] at fK kM jL;obtain⟨i,e1⟩:=r1;simp only at fK kM jL
 have lV:7≤op.kind:=by omega
 have c1:(op.kind==1)=false:=by simp;omega
 have c2:(op.kind==2)=false:=by simp;omega
 have c3:(op.kind==3)=false:=by simp;omega
 have c4:(op.kind==4)=false:=by simp;omega
 have c5:(op.kind==5)=false:=by simp;omega
 have c6:(op.kind==6)=false:=by simp;omega
 clear lE hu
 go_upto_region 19 with (first
  | (refine wpList_load_row rfl 28 _ rfl g rfl 28 (zAa t).toArray _ _ fF.tb Tryz.underlying28 rfl rfl ?_)
  | (go_at_call 80;(with_reducible refine (jL.out w1 fF.bl).mono ?_);rintro eb w2 ⟨rfl,fG⟩;have fD:=fF.fresh fG;have fT:=hU.fresh fG;have o2:=fD.ob.cell 0;simp only [opC,List.getElem?_cons_zero] at o2))
 have jD:=hid fT;have lF:Below w1.heap.size w1 w2:=fG;have jS:=hid fun W (hb:Below w2.heap.size w2 W)=>jM.out W (fG.trans (hb.mono fG.size));clear fF hU fG o0 jL jM;by_cases he:e1=0;rotate_left
 · have lW:((e1:Int) != 0)=true:=by simp;omega
   have gY:Hid (lk=(T,.err e1)):=hid (by rw [fK.out,if_pos he])
   go_wp2_with (first
    | (refine wpList_load_row rfl 28 _ rfl g rfl 28 (zAa t).toArray _ _ fD.tb Tryz.underlying28 rfl rfl ?_)
    | (refine wpList_store_row rfl 28 _ _ rfl (g+2) (zAa t).toArray rfl (by rfl) 28 _ fD.rb rfl rfl (zAc t) ?_)
    | (refine wpList_store_row rfl 67 _ _ rfl (g+3) (zAh e1 st0 zAg zAg).toArray rfl (by rfl) 67 _ (fD.ab.row_far (by omega) _) rfl rfl (zBj _ _) ?_))
   exact zAZ (k:=5) fD.rb fD.ab fO.out gY.out (gP.out _ fD.bl) (zAx _ _ e1 st0) rfl fD.bl fP.out ⟨by omega,by omega⟩ ⟨by omega,by omega⟩ (by omega) rfl rfl rfl rfl
 subst he;obtain⟨n,hn⟩:=kM.out (by trivial);obtain⟨x,lG,jT,hx⟩:=jQ.out i n hn;have lH:=hid (jT.fresh lF);have gY:Hid (lk=T.asks op i):=hid (by rw [fK.out,if_neg (by simp)]);have kR:=hid hx;have gR:=hid hn;have lQ:=hid (gD.out.gr.ok.get hn).1
 have gF:x.kind=2∧n.dir=true∨x.kind=1∧n.dir=false:=by rw [lG];unfold PN.kind;cases n.dir<;>simp
 clear fK hx hn jQ lG jT
 go_upto_region 22 with (first
  | (refine wpList_load_row rfl 28 _ rfl g rfl 28 (zAa t).toArray _ _ fD.tb Tryz.underlying28 rfl rfl ?_)
  | (go_at_call 81;(with_reducible refine ((kR.out w2 fD.bl).2).mono ?_);rintro eb w3 ⟨rfl,kI⟩)
  | (refine wpList_store_row rfl 123 _ _ rfl w3.heap.size (zAb x).toArray rfl (by rfl) 123 _ (Blk.new w3 123 z8) rfl rfl (zHl x) ?_))
 obtain⟨hX,lI⟩:=zBx w3 x;have gG:=kI.trans (lI.mono kI.size);have fE:=fD.fresh gG;have lJ:=jD.out.fresh gG;have lX:ub<w3.heap.size:=Nat.lt_of_lt_of_le jD.out.lt kI.size;change Code.wp _ _ _ _ ((w3.alloc (.cells z8.toArray 123)).setRow w3.heap.size (zAb x).toArray);have jU:=jS.out _ gG;have jV:=hid (lH.out.fresh gG);clear fD jD fT kI lI gG jS o2 lF lH;generalize (w3.alloc (.cells z8.toArray 123)).setRow w3.heap.size (zAb x).toArray=w4 at *;generalize w3.heap.size=y at *;have jW:=hid fun W (hb:Below w4.heap.size w4 W)=>jU.fresh hb;have jX:=hid hX;clear jU;have fB:=hid fE;have gH:=hid lJ;obtain⟨oo0,oo1,oo2,oo3,oo4,oo5,oo6,oo7⟩:=zDf fE.ob;obtain⟨b0,b1,b2,b3,b4,b5,b6,b7⟩:=zAO hX;obtain⟨a0,a1,a2,a3⟩:=zAr fE.tb;clear hX lJ;by_cases k10:op.kind=10
 · have fX:Hid (lk=(T,⟨0,T.stat i,[],[]⟩)):=hid (by rw [gY.out];unfold PT.asks;rw [if_pos k10])
   have t10:(op.kind==10)=true:=by rw [k10];rfl
   obtain⟨st,jE⟩:∃ st,T.stat i=st:=⟨_,rfl⟩;rw [jE] at fX;have kJ:=hid fun W (h9:RefS (zAM S g 5) W t T)=>zGJ (zAM S g 5) t T i n W h9 gD.out.gr.ok gR.out;rw [jE] at kJ;unfold trV stV stC at kJ;clear jE;go_upto_region 23 with (fail);have fN:Below w4.heap.size w4 w4.drew:=zAf (Below.refl _ w4) 1;have hF:FinD w w4.drew g S t T z4 zAs:=FinD.fresh (wk:=w4) ⟨fB.out.rb,fB.out.ab,fB.out.bl,gP.out _ fB.out.bl⟩ fN;have gA:=hid hF;have gI:=hid (fB.out.tb.fresh fN);have fY:=hid (jX.out.fresh fN);have gJ:=hid (fB.out.ob.fresh fN);obtain⟨gZ,fU⟩:=hF.tree;have fH:=hid gZ;have gK:=hid (gI.out.chg fU (by omega));have gB:=hid (fY.out.chg fU (by omega));have gW:=hid (gJ.out.chg fU (by omega));obtain⟨z0,z1,z2,z3⟩:=zHI hF.tb;obtain⟨f0,f1,f2,f3⟩:=z_f4 hF.tb;obtain⟨v0,v1,v2,v3⟩:=zAr (gK.out);clear fE hF gZ fU fN
   go_region_held3 (fun w'=>w'.cell? ⟨g,0,none⟩=some (.int .i64 t.sectors)∧w'.cell? ⟨g,1,none⟩=some (.int .i64 t.inodes)∧w'.cell? ⟨g,2,none⟩=some (.int .i64 t.births)∧w'.cell? ⟨g,3,none⟩=some (.slice t.A t.l.length t.c))
    (first | go_keep)
    (first
     | (go_at_call 82;first
      | ((with_reducible refine (kJ.out w4.drew gA.out.rf).mono ?_);rintro eb w12 ⟨rfl,fA⟩;have fL:=hid (gA.out.fresh fA);have fM:=hid (gI.out.fresh fA);have fS:=hid (fY.out.fresh fA);have gS:=hid (gJ.out.fresh fA);skip;obtain⟨u0,u1,u2,u3⟩:=zAr (fM.out);obtain⟨z0,z1,z2,z3⟩:=zHI fL.out.tb;obtain⟨f0,f1,f2,f3⟩:=z_f4 fL.out.tb;obtain⟨x1,x2⟩:=fL.out.tree;obtain⟨v0,v1,v2,v3⟩:=zAr (fM.out.chg x2 (by omega));obtain⟨⟨p0,p1,p2,p3,p4,p5,p6,p7,p8,p9⟩,q0,q1,q2,q3,q4,q5,q6,q7,q8,q9⟩:=zHi x1.ab;obtain⟨y1,y2⟩:=x1.ans 0 st.ino st.kind st.links st.size st.made st.blocks zAg zAg;obtain⟨r0,r1,r2,r3⟩:=zAr ((fM.out.chg x2 (by omega)).chg y2 (by omega));have fC:=hid y1;have jF:=hid ((x2.mono (U:=zAM S g 5) fun b _ (e:b=g+2)=>.inr (by omega)).trans (y2.mono (U:=zAM S g 5) fun b _ (e:b=g+3)=>.inr (by omega)) (fun _ _ h=>h) (fun _ _ h=>h));clear fA x1 x2 y1 y2)
      | ((with_reducible refine (kJ.out _ fH.out.rf).mono ?_);rintro eb w12 ⟨rfl,fA⟩;have fL:=hid (fH.out.fresh fA);have fM:=hid (gK.out.fresh fA);have fS:=hid (gB.out.fresh fA);have gS:=hid (gW.out.fresh fA);skip;obtain⟨u0,u1,u2,u3⟩:=zAr (fM.out);obtain⟨⟨p0,p1,p2,p3,p4,p5,p6,p7,p8,p9⟩,q0,q1,q2,q3,q4,q5,q6,q7,q8,q9⟩:=zHi fL.out.ab;obtain⟨y1,y2⟩:=fL.out.ans 0 st.ino st.kind st.links st.size st.made st.blocks zAg zAg;obtain⟨r0,r1,r2,r3⟩:=zAr (fM.out.chg y2 (by omega));have fC:=hid y1;have jF:=hid (y2.mono (U:=zAM S g 5) fun b _ (e:b=g+3)=>.inr (by omega));clear fA y1 y2)))
   all_goals (clear gA fH gI fY gJ gK gB gW)
   all_goals go_wp2
   all_goals exact zEW (k:=5) fC.out.tb fC.out.ab fO.out fX.out fC.out.rf (zAx _ _ 0 st) rfl fC.out.bl fP.out rfl rfl rfl rfl
 have t10:(op.kind==10)=false:=by simp;omega
 by_cases k11:op.kind=11
 · have t11:(op.kind==11)=true:=by rw [k11];rfl
   rcases gF with ⟨gF,gL⟩ | ⟨gF,gL⟩
   · obtain⟨L,hL⟩:∃ L,n.names.map (zD0 T)=L:=⟨_,rfl⟩
     have fX:Hid (lk=(T,⟨0,st0,[],L⟩)):=hid (by
      rw [gY.out];unfold PT.asks PT.list;rw [if_neg k10,if_pos k11,if_pos (by rw [zAn gR.out];exact gL),zAp gR.out,←hL];rfl)
     have gM:=hid fun W (hb:Below g w W) (h9:RefS (zAM S g 5) W t T)=>zFn t T i n x W (h9.mono fun _ h=>h.elim) ((kR.out W hb).1.mono fun _ h=>h.elim) gD.out.wf gR.out gL;unfold trV hdV zAb ListP at gM;rw [hL] at gM;rw [gF] at b1 gM;have jG:=jX.out;clear hL;go_upto_region 27 with (fail);have fN:Below w4.heap.size w4 w4.drew:=zAf (Below.refl _ w4) 1;have hF:FinD w w4.drew g S t T z4 zAs:=FinD.fresh (wk:=w4) ⟨fB.out.rb,fB.out.ab,fB.out.bl,gP.out _ fB.out.bl⟩ fN;have gA:=hid hF;have gI:=hid (fB.out.tb.fresh fN);have fY:=hid (jX.out.fresh fN);have gJ:=hid (fB.out.ob.fresh fN);obtain⟨gZ,fU⟩:=hF.tree;have fH:=hid gZ;have gK:=hid (gI.out.chg fU (by omega));have gB:=hid (fY.out.chg fU (by omega));have gW:=hid (gJ.out.chg fU (by omega));obtain⟨z0,z1,z2,z3⟩:=zHI hF.tb;obtain⟨f0,f1,f2,f3⟩:=z_f4 hF.tb;obtain⟨v0,v1,v2,v3⟩:=zAr (gK.out);obtain⟨vx0,vx1,vx2,vx3,vx4,vx5,vx6,vx7⟩:=zAO (gB.out);clear fE hF gZ fU fN
     go_region_held3 (fun w'=>w'.cell? ⟨g,0,none⟩=some (.int .i64 t.sectors)∧w'.cell? ⟨g,1,none⟩=some (.int .i64 t.inodes)∧w'.cell? ⟨g,2,none⟩=some (.int .i64 t.births)∧w'.cell? ⟨g,3,none⟩=some (.slice t.A t.l.length t.c)∧w'.cell? ⟨y,0,none⟩=some (.int .i64 x.ino)∧w'.cell? ⟨y,1,none⟩=some (.int .i64 x.kind)∧w'.cell? ⟨y,2,none⟩=some (.int .i64 x.links)∧w'.cell? ⟨y,3,none⟩=some (.int .i64 x.size)∧w'.cell? ⟨y,4,none⟩=some (.int .i64 x.made)∧w'.cell? ⟨y,5,none⟩=some (.int .i64 x.birth)∧w'.cell? ⟨y,6,none⟩=some (.slice x.iA x.idx.length x.ic)∧w'.cell? ⟨y,7,none⟩=some (.slice x.dA x.dat.length x.dc))
      (first | go_keep)
      (first
       | (go_at_call 83;first
        | ((with_reducible refine (gM.out w4.drew gA.out.bl gA.out.rf).mono ?_);rintro eb w12 ⟨⟨A9,c9,rfl,kS,jH⟩,fA⟩;have fL:=hid (gA.out.fresh fA);have fM:=hid (gI.out.fresh fA);have fS:=hid (fY.out.fresh fA);have gS:=hid (gJ.out.fresh fA);have jY:=hid (show zDV (zAM S g 5) w12 (.agg (zAh 0 st0 zAg (.slice A9 L.length c9)).toArray) ⟨0,st0,[],L⟩ from ⟨none,0,A9,c9,rfl,Sees.nil,kS,fun h=>absurd h (by simp),fun _ a ea hs=>(by have h8:=jH a ea;have h9:=fY.out.lt;rcases hs with hs | hs;(have:=jJ.out _ hs;omega);omega)⟩);obtain⟨u0,u1,u2,u3⟩:=zAr (fM.out);obtain⟨ux0,ux1,ux2,ux3,ux4,ux5,ux6,ux7⟩:=zAO (fS.out);obtain⟨z0,z1,z2,z3⟩:=zHI fL.out.tb;obtain⟨f0,f1,f2,f3⟩:=z_f4 fL.out.tb;obtain⟨x1,x2⟩:=fL.out.tree;obtain⟨v0,v1,v2,v3⟩:=zAr (fM.out.chg x2 (by omega));obtain⟨vx0,vx1,vx2,vx3,vx4,vx5,vx6,vx7⟩:=zAO (fS.out.chg x2 (by omega));obtain⟨⟨p0,p1,p2,p3,p4,p5,p6,p7,p8,p9⟩,q0,q1,q2,q3,q4,q5,q6,q7,q8,q9⟩:=zHi x1.ab;obtain⟨y1,y2⟩:=x1.ans 0 0 0 0 0 0 0 zAg (.slice A9 L.length c9);obtain⟨r0,r1,r2,r3⟩:=zAr ((fM.out.chg x2 (by omega)).chg y2 (by omega));obtain⟨rx0,rx1,rx2,rx3,rx4,rx5,rx6,rx7⟩:=zAO ((fS.out.chg x2 (by omega)).chg y2 (by omega));have fC:=hid y1;have jF:=hid ((x2.mono (U:=zAM S g 5) fun b _ (e:b=g+2)=>.inr (by omega)).trans (y2.mono (U:=zAM S g 5) fun b _ (e:b=g+3)=>.inr (by omega)) (fun _ _ h=>h) (fun _ _ h=>h));clear fA x1 x2 y1 y2)
        | ((with_reducible refine (gM.out _ fH.out.bl fH.out.rf).mono ?_);rintro eb w12 ⟨⟨A9,c9,rfl,kS,jH⟩,fA⟩;have fL:=hid (fH.out.fresh fA);have fM:=hid (gK.out.fresh fA);have fS:=hid (gB.out.fresh fA);have gS:=hid (gW.out.fresh fA);have jY:=hid (show zDV (zAM S g 5) w12 (.agg (zAh 0 st0 zAg (.slice A9 L.length c9)).toArray) ⟨0,st0,[],L⟩ from ⟨none,0,A9,c9,rfl,Sees.nil,kS,fun h=>absurd h (by simp),fun _ a ea hs=>(by have h8:=jH a ea;have h9:=gB.out.lt;rcases hs with hs | hs;(have:=jJ.out _ hs;omega);omega)⟩);obtain⟨u0,u1,u2,u3⟩:=zAr (fM.out);obtain⟨ux0,ux1,ux2,ux3,ux4,ux5,ux6,ux7⟩:=zAO (fS.out);obtain⟨⟨p0,p1,p2,p3,p4,p5,p6,p7,p8,p9⟩,q0,q1,q2,q3,q4,q5,q6,q7,q8,q9⟩:=zHi fL.out.ab;obtain⟨y1,y2⟩:=fL.out.ans 0 0 0 0 0 0 0 zAg (.slice A9 L.length c9);obtain⟨r0,r1,r2,r3⟩:=zAr (fM.out.chg y2 (by omega));obtain⟨rx0,rx1,rx2,rx3,rx4,rx5,rx6,rx7⟩:=zAO (fS.out.chg y2 (by omega));have fC:=hid y1;have jF:=hid (y2.mono (U:=zAM S g 5) fun b _ (e:b=g+3)=>.inr (by omega));clear fA y1 y2)))
     all_goals (clear gA fH gI fY gJ gK gB gW)
     all_goals go_wp2
     all_goals exact zEW (k:=5) fC.out.tb fC.out.ab fO.out fX.out fC.out.rf (jY.out.chg jF.out) rfl fC.out.bl fP.out rfl rfl rfl rfl
   · have fX:Hid (lk=(T,.err 113)):=hid (by
      rw [gY.out];unfold PT.asks PT.list;rw [if_neg k10,if_pos k11,if_neg (by rw [zAn gR.out,gL];simp)])
     rw [gF] at b1
     go_wp2_with (first
      | (refine wpList_load_row rfl 28 _ rfl g rfl 28 (zAa t).toArray _ _ fE.tb Tryz.underlying28 rfl rfl ?_)
      | (refine wpList_store_row rfl 28 _ _ rfl (g+2) (zAa t).toArray rfl (by rfl) 28 _ fE.rb rfl rfl (zAc t) ?_)
      | (refine wpList_store_row rfl 67 _ _ rfl (g+3) (zAh 113 st0 zAg zAg).toArray rfl (by rfl) 67 _ (fE.ab.row_far (by omega) _) rfl rfl (zBj _ _) ?_))
     exact zAZ (k:=5) fE.rb fE.ab fO.out fX.out (gP.out _ fE.bl) (zAx _ _ 113 st0) rfl fE.bl fP.out ⟨by omega,by omega⟩ ⟨by omega,by omega⟩ (by omega) rfl rfl rfl rfl
 have t11:(op.kind==11)=false:=by simp;omega
 rcases gF with ⟨gF,gL⟩ | ⟨gF,gL⟩
 · have fX:Hid (lk=(T,.err 102)):=hid (by
    rw [gY.out];unfold PT.asks;rw [if_neg k10,if_neg k11,if_pos (by rw [zAn gR.out];exact gL)])
   rw [gF] at b1
   go_wp2_with (first
    | (refine wpList_load_row rfl 28 _ rfl g rfl 28 (zAa t).toArray _ _ fE.tb Tryz.underlying28 rfl rfl ?_)
    | (refine wpList_store_row rfl 28 _ _ rfl (g+2) (zAa t).toArray rfl (by rfl) 28 _ fE.rb rfl rfl (zAc t) ?_)
    | (refine wpList_store_row rfl 67 _ _ rfl (g+3) (zAh 102 st0 zAg zAg).toArray rfl (by rfl) 67 _ (fE.ab.row_far (by omega) _) rfl rfl (zBj _ _) ?_))
   exact zAZ (k:=5) fE.rb fE.ab fO.out fX.out (gP.out _ fE.bl) (zAx _ _ 102 st0) rfl fE.bl fP.out ⟨by omega,by omega⟩ ⟨by omega,by omega⟩ (by omega) rfl rfl rfl rfl
 have fX:Hid (lk=if op.kind=7 then ((T.write i op.off op.data).1,.err (T.write i op.off op.data).2) else if op.kind=8 then ((T.trunc i op.off).1,.err (T.trunc i op.off).2) else if op.kind=9 then (T,n.read op.off op.len) else (T,.err 0)):=hid (by
  rw [gY.out];unfold PT.asks;rw [if_neg k10,if_neg k11,if_neg (by rw [zAn gR.out,gL];simp),zAp gR.out])
 rw [gF] at b1;have jG:=jX.out;clear gY;by_cases k7:op.kind=7
 · have fI:=hid (zHY (zAM (zAM S g 5) ub 1) t T i n x op.off op.data A c w4 (jW.out w4 (Below.refl _ _)) jV.out (gQ.out w4 (by have:=gH.out.lt;omega)) gD.out gR.out gL (kL.out w4 fB.out.bl) lM)
   have t7:(op.kind==7)=true:=by rw [k7];rfl
   have fZ:=fX.out;rw [if_pos k7] at fZ;obtain⟨r2,fW⟩:∃ r2,T.write i op.off op.data=r2:=⟨_,rfl⟩;rw [fW] at fI fZ;obtain⟨T2,c2⟩:=r2;have kT:=hid fZ;have gN:=gH.out;clear fW fZ
   go_wp2_with (first
    | (refine wpList_load_row rfl 28 _ rfl g rfl 28 (zAa t).toArray _ _ fE.tb Tryz.underlying28 rfl rfl ?_)
    | (refine wpList_load_row rfl 123 _ rfl y rfl 123 (zAb x).toArray _ _ jG Tryz.underlying123 rfl rfl ?_)
    | (go_at_call 84;(with_reducible refine (fI.out).mono ?_);rintro eb w6 ⟨⟨t2,rfl,fR⟩,jZ⟩;have kU:=fE.fresh jZ;have kA:=gN.fresh jZ;have kC:Chg (fun b=>b=ub) w6 (w6.setRow ub (zAa t2).toArray):=(Chg.refl (fun b=>b=ub) w6).setRow (fun _=>rfl) _;have kV:Blk (w6.setRow ub (zAa t2).toArray) ub 28 (zAa t2):=setRow_heap _ _ _ _ _ _ kA;have gO:=kU.far kC (fun b e=>by omega);have kW:=(fR.chg (kC.mono fun b _ (e:b=ub)=>.inr (by omega))).mono fun b hb=>Or.inl hb)
    | (refine wpList_store_row rfl 28 _ _ rfl ub (zAa t2).toArray rfl (by rfl) 28 _ kA rfl rfl (zAc t2) ?_)
    | (refine wpList_load_row rfl 28 _ rfl ub rfl 28 (zAa t2).toArray _ _ kV Tryz.underlying28 rfl rfl ?_)
    | (refine wpList_store_row rfl 28 _ _ rfl (g+2) (zAa t2).toArray rfl (by rfl) 28 _ gO.rb rfl rfl (zAc t2) ?_)
    | (refine wpList_store_row rfl 67 _ _ rfl (g+3) (zAh c2 st0 zAg zAg).toArray rfl (by rfl) 67 _ (gO.ab.row_far (by omega) _) rfl rfl (zBj _ _) ?_))
   exact zAZ (k:=5) gO.rb gO.ab fO.out kT.out kW (zAx _ _ c2 st0) rfl gO.bl fP.out ⟨by omega,by omega⟩ ⟨by omega,by omega⟩ (by omega) rfl rfl rfl rfl
 have t7:(op.kind==7)=false:=by simp;omega
 by_cases k8:op.kind=8
 · have fI:=hid (rcuts_any (zAM (zAM S g 5) ub 1) t T i n x op.off w4 (jW.out w4 (Below.refl _ _)) jV.out (gQ.out w4 (by have:=gH.out.lt;omega)) gD.out gR.out gL)
   have t8:(op.kind==8)=true:=by rw [k8];rfl
   have fZ:=fX.out;rw [if_neg k7,if_pos k8] at fZ;obtain⟨r2,fW⟩:∃ r2,T.trunc i op.off=r2:=⟨_,rfl⟩;rw [fW] at fI fZ;obtain⟨T2,c2⟩:=r2;have kT:=hid fZ;have gN:=gH.out;clear fW fZ
   go_wp2_with (first
    | (refine wpList_load_row rfl 28 _ rfl g rfl 28 (zAa t).toArray _ _ fE.tb Tryz.underlying28 rfl rfl ?_)
    | (refine wpList_load_row rfl 123 _ rfl y rfl 123 (zAb x).toArray _ _ jG Tryz.underlying123 rfl rfl ?_)
    | (go_at_call 85;(with_reducible refine (fI.out).mono ?_);rintro eb w6 ⟨⟨t2,rfl,fR⟩,jZ⟩;have kU:=fE.fresh jZ;have kA:=gN.fresh jZ;have kC:Chg (fun b=>b=ub) w6 (w6.setRow ub (zAa t2).toArray):=(Chg.refl (fun b=>b=ub) w6).setRow (fun _=>rfl) _;have kV:Blk (w6.setRow ub (zAa t2).toArray) ub 28 (zAa t2):=setRow_heap _ _ _ _ _ _ kA;have gO:=kU.far kC (fun b e=>by omega);have kW:=(fR.chg (kC.mono fun b _ (e:b=ub)=>.inr (by omega))).mono fun b hb=>Or.inl hb)
    | (refine wpList_store_row rfl 28 _ _ rfl ub (zAa t2).toArray rfl (by rfl) 28 _ kA rfl rfl (zAc t2) ?_)
    | (refine wpList_load_row rfl 28 _ rfl ub rfl 28 (zAa t2).toArray _ _ kV Tryz.underlying28 rfl rfl ?_)
    | (refine wpList_store_row rfl 28 _ _ rfl (g+2) (zAa t2).toArray rfl (by rfl) 28 _ gO.rb rfl rfl (zAc t2) ?_)
    | (refine wpList_store_row rfl 67 _ _ rfl (g+3) (zAh c2 st0 zAg zAg).toArray rfl (by rfl) 67 _ (gO.ab.row_far (by omega) _) rfl rfl (zBj _ _) ?_))
   exact zAZ (k:=5) gO.rb gO.ab fO.out kT.out kW (zAx _ _ c2 st0) rfl gO.bl fP.out ⟨by omega,by omega⟩ ⟨by omega,by omega⟩ (by omega) rfl rfl rfl rfl
 have t8:(op.kind==8)=false:=by simp;omega
 by_cases k9:op.kind=9
 · have t9:(op.kind==9)=true:=by rw [k9];rfl
   obtain⟨an,kX⟩:∃ an,n.read op.off op.len=an:=⟨_,rfl⟩;have fZ:Hid (lk=(T,an)):=hid (by rw [fX.out,if_neg k7,if_neg k8,if_pos k9,kX]);have kD:=hid fun W (hb:Below g w W) (hW:g+5≤W.heap.size)=>zJU (zAM S g 5) i n x op.off op.len W (kR.out W hb).1 (zBe (fun b fG=>by have:=jJ.out b fG;omega) hW) lQ.out gL;rw [kX] at kD;unfold zAb at kD;rw [gF] at kD;clear kX;go_upto_region 35 with (fail);have fN:Below w4.heap.size w4 w4.drew:=zAf (Below.refl _ w4) 1;have hF:FinD w w4.drew g S t T z4 zAs:=FinD.fresh (wk:=w4) ⟨fB.out.rb,fB.out.ab,fB.out.bl,gP.out _ fB.out.bl⟩ fN;have gA:=hid hF;have gI:=hid (fB.out.tb.fresh fN);have fY:=hid (jX.out.fresh fN);have gJ:=hid (fB.out.ob.fresh fN);obtain⟨gZ,fU⟩:=hF.tree;have fH:=hid gZ;have gK:=hid (gI.out.chg fU (by omega));have gB:=hid (fY.out.chg fU (by omega));have gW:=hid (gJ.out.chg fU (by omega));obtain⟨z0,z1,z2,z3⟩:=zHI hF.tb;obtain⟨f0,f1,f2,f3⟩:=z_f4 hF.tb;obtain⟨v0,v1,v2,v3⟩:=zAr (gK.out);obtain⟨vx0,vx1,vx2,vx3,vx4,vx5,vx6,vx7⟩:=zAO (gB.out);obtain⟨-,-,-,vo3,vo4,-,-,-⟩:=zDf (gW.out);clear fE hF gZ fU fN
   go_region_held3 (fun w'=>w'.cell? ⟨g,0,none⟩=some (.int .i64 t.sectors)∧w'.cell? ⟨g,1,none⟩=some (.int .i64 t.inodes)∧w'.cell? ⟨g,2,none⟩=some (.int .i64 t.births)∧w'.cell? ⟨g,3,none⟩=some (.slice t.A t.l.length t.c)∧w'.cell? ⟨y,0,none⟩=some (.int .i64 x.ino)∧w'.cell? ⟨y,1,none⟩=some (.int .i64 x.kind)∧w'.cell? ⟨y,2,none⟩=some (.int .i64 x.links)∧w'.cell? ⟨y,3,none⟩=some (.int .i64 x.size)∧w'.cell? ⟨y,4,none⟩=some (.int .i64 x.made)∧w'.cell? ⟨y,5,none⟩=some (.int .i64 x.birth)∧w'.cell? ⟨y,6,none⟩=some (.slice x.iA x.idx.length x.ic)∧w'.cell? ⟨y,7,none⟩=some (.slice x.dA x.dat.length x.dc)∧w'.cell? ⟨g+1,3,none⟩=some (.int .i64 op.off)∧w'.cell? ⟨g+1,4,none⟩=some (.int .i64 op.len))
    (first | go_keep)
    (first
     | (go_at_call 86;first
      | ((with_reducible refine (kD.out w4.drew gA.out.bl (by have:=fY.out.lt;omega)).mono ?_);rintro eb w12 ⟨⟨v12,rfl,hv⟩,fA⟩;have fL:=hid (gA.out.fresh fA);have fM:=hid (gI.out.fresh fA);have fS:=hid (fY.out.fresh fA);have gS:=hid (gJ.out.fresh fA);obtain⟨dA,dc,eA,ec,rfl,kE,gT,gU,gV⟩:=hv;have jY:=hid (show zDV (zAM S g 5) w12 (.agg (zAh an.code an.stat (.slice dA an.data.length dc) (.slice eA an.ents.length ec)).toArray) an from ⟨dA,dc,eA,ec,rfl,kE,gT,gU,gV⟩);unfold zAh;clear kE gT gU gV;obtain⟨u0,u1,u2,u3⟩:=zAr (fM.out);obtain⟨ux0,ux1,ux2,ux3,ux4,ux5,ux6,ux7⟩:=zAO (fS.out);obtain⟨-,-,-,uo3,uo4,-,-,-⟩:=zDf (gS.out);obtain⟨z0,z1,z2,z3⟩:=zHI fL.out.tb;obtain⟨f0,f1,f2,f3⟩:=z_f4 fL.out.tb;obtain⟨x1,x2⟩:=fL.out.tree;obtain⟨v0,v1,v2,v3⟩:=zAr (fM.out.chg x2 (by omega));obtain⟨vx0,vx1,vx2,vx3,vx4,vx5,vx6,vx7⟩:=zAO (fS.out.chg x2 (by omega));obtain⟨-,-,-,vo3,vo4,-,-,-⟩:=zDf (gS.out.chg x2 (by omega));obtain⟨⟨p0,p1,p2,p3,p4,p5,p6,p7,p8,p9⟩,q0,q1,q2,q3,q4,q5,q6,q7,q8,q9⟩:=zHi x1.ab;obtain⟨y1,y2⟩:=x1.ans an.code an.stat.ino an.stat.kind an.stat.links an.stat.size an.stat.made an.stat.blocks (.slice dA an.data.length dc) (.slice eA an.ents.length ec);obtain⟨r0,r1,r2,r3⟩:=zAr ((fM.out.chg x2 (by omega)).chg y2 (by omega));obtain⟨rx0,rx1,rx2,rx3,rx4,rx5,rx6,rx7⟩:=zAO ((fS.out.chg x2 (by omega)).chg y2 (by omega));obtain⟨-,-,-,ro3,ro4,-,-,-⟩:=zDf ((gS.out.chg x2 (by omega)).chg y2 (by omega));have fC:=hid y1;have jF:=hid ((x2.mono (U:=zAM S g 5) fun b _ (e:b=g+2)=>.inr (by omega)).trans (y2.mono (U:=zAM S g 5) fun b _ (e:b=g+3)=>.inr (by omega)) (fun _ _ h=>h) (fun _ _ h=>h));clear fA x1 x2 y1 y2)
      | ((with_reducible refine (kD.out _ fH.out.bl (by have:=gB.out.lt;omega)).mono ?_);rintro eb w12 ⟨⟨v12,rfl,hv⟩,fA⟩;have fL:=hid (fH.out.fresh fA);have fM:=hid (gK.out.fresh fA);have fS:=hid (gB.out.fresh fA);have gS:=hid (gW.out.fresh fA);obtain⟨dA,dc,eA,ec,rfl,kE,gT,gU,gV⟩:=hv;have jY:=hid (show zDV (zAM S g 5) w12 (.agg (zAh an.code an.stat (.slice dA an.data.length dc) (.slice eA an.ents.length ec)).toArray) an from ⟨dA,dc,eA,ec,rfl,kE,gT,gU,gV⟩);unfold zAh;clear kE gT gU gV;obtain⟨u0,u1,u2,u3⟩:=zAr (fM.out);obtain⟨ux0,ux1,ux2,ux3,ux4,ux5,ux6,ux7⟩:=zAO (fS.out);obtain⟨-,-,-,uo3,uo4,-,-,-⟩:=zDf (gS.out);obtain⟨⟨p0,p1,p2,p3,p4,p5,p6,p7,p8,p9⟩,q0,q1,q2,q3,q4,q5,q6,q7,q8,q9⟩:=zHi fL.out.ab;obtain⟨y1,y2⟩:=fL.out.ans an.code an.stat.ino an.stat.kind an.stat.links an.stat.size an.stat.made an.stat.blocks (.slice dA an.data.length dc) (.slice eA an.ents.length ec);obtain⟨r0,r1,r2,r3⟩:=zAr (fM.out.chg y2 (by omega));obtain⟨rx0,rx1,rx2,rx3,rx4,rx5,rx6,rx7⟩:=zAO (fS.out.chg y2 (by omega));obtain⟨-,-,-,ro3,ro4,-,-,-⟩:=zDf (gS.out.chg y2 (by omega));have fC:=hid y1;have jF:=hid (y2.mono (U:=zAM S g 5) fun b _ (e:b=g+3)=>.inr (by omega));clear fA y1 y2)))
   all_goals (clear gA fH gI fY gJ gK gB gW)
   all_goals go_wp2
   all_goals exact zEW (k:=5) fC.out.tb fC.out.ab fO.out fZ.out fC.out.rf (jY.out.chg jF.out) rfl fC.out.bl fP.out rfl rfl rfl rfl
 have t9:(op.kind==9)=false:=by simp;omega
 have fZ:Hid (lk=(T,.err 0)):=hid (by rw [fX.out,if_neg k7,if_neg k8,if_neg k9]);have gN:=gH.out
 go_wp2_with (first
  | (refine wpList_load_row rfl 28 _ rfl ub rfl 28 (zAa t).toArray _ _ gN Tryz.underlying28 rfl rfl ?_)
  | (refine wpList_store_row rfl 28 _ _ rfl (g+2) (zAa t).toArray rfl (by rfl) 28 _ fE.rb rfl rfl (zAc t) ?_)
  | (refine wpList_store_row rfl 67 _ _ rfl (g+3) (zAh 0 st0 zAg zAg).toArray rfl (by rfl) 67 _ (fE.ab.row_far (by omega) _) rfl rfl (zBj _ _) ?_))
 exact zAZ (k:=5) fE.rb fE.ab fO.out fZ.out (gP.out _ fE.bl) (zAx _ _ 0 st0) rfl fE.bl fP.out ⟨by omega,by omega⟩ ⟨by omega,by omega⟩ (by omega) rfl rfl rfl rfl
end Go.Proofs.YtolpcfhfcdkokaaGreatDoor
