/- Joined out of UWalk..UDump. -/
import Derived.Test.YtolpcfhfcdkokaaGreatDoorQ51
set_option maxHeartbeats 16000000
set_option maxRecDepth 100000
set_option linter.unusedSimpArgs false
set_option linter.unusedVariables false
namespace Go.Proofs.YtolpcfhfcdkokaaGreatDoor
open Lib (hid)
open Go.RowKit
theorem blk_s7 {w:World} {g:Nat} {c s0 s1 s2 s3 s4 s5:Int} {d e:Value} (h:Blk w g 67 [.int .i64 c,.int .i64 s0,.int .i64 s1,.int .i64 s2,.int .i64 s3,.int .i64 s4,.int .i64 s5,d,e,.bool false]):w.cell? ⟨g,1,none⟩=some (.int .i64 s0)∧w.cell? ⟨g,2,none⟩=some (.int .i64 s1)∧w.cell? ⟨g,3,none⟩=some (.int .i64 s2)∧w.cell? ⟨g,4,none⟩=some (.int .i64 s3)∧w.cell? ⟨g,5,none⟩=some (.int .i64 s4)∧w.cell? ⟨g,6,none⟩=some (.int .i64 s5):=⟨h.cell 1,h.cell 2,h.cell 3,h.cell 4,h.cell 5,h.cell 6⟩
theorem TldW.lts {w0 w:World} {B:Nat} {T:PT} {v vi:Value} {l:List Nd} {js:List Nat} (h:TldW w0 w B T v vi l js):∀ b,TS B v vi b→b<w.heap.size:=fun b hb=>(h.ts b hb).2
def ListU (w0:World) (B:Nat) (w2:World) (v vi:Value) (T:PT) (f:Nat) (ns:List ByteArray) (names:List (ByteArray×Nat)) (s:DS) (N:Nat) (o i:Value) (wr:World):Prop :=
 ∃ k:Nat,k≤N∧i=.int .i64 (k:Int)∧((∃ s' v' vi' l' js',o=.bool true∧TldAt w0 wr B T v' vi' l' js' s'∧GrU B w2 v vi wr v' vi'∧zCv T (zAU T f) ns names s=zCv T (zAU T f) ns (names.drop k) s'∧s'.nodes.length+(tlE T (tl T f) ns (names.drop k)).length≤1000000) ∨
  (∃ s' ek,o=.bool false∧ek≠0∧zCv T (zAU T f) ns names s=(s',ek)∧Below w0.heap.size w0 wr∧wr.cell? ⟨B,6,none⟩=some (.int .i64 (ek:Int))))
theorem zFH (w0:World) (B:Nat) (T:PT) (hI:T.Inv) (ns:List ByteArray) (s:DS) (v vi:Value) (l:List Nd) (js:List Nat) (w:World) (hD:TldAt w0 w B T v vi l js s) (fA:400<(pth ns).size) :
 Calls Tryz.prog 34 #[.pointer (some ⟨B,0,none⟩),.string (pth ns)] w (TldP w0 B T v vi w (s,70)):=by
 obtain⟨t,hk,hR⟩:=hD.mem.blk;have fB:=uask_L (TS B v vi) B v vi t T (pth ns) (.err 70) w (zGP fA) hk hR hD.mem.lts (.inl rfl) hI;have fC:=hid hD.mem.below;have fP:=hD.mem.hB;obtain⟨x,hx⟩:∃ x,pth ns=x:=⟨_,rfl⟩;rw [hx] at fB ⊢;clear hx hD hk hR fA;go_enter Tryz.func34,Tryz.ntmps34
 go_upto_region 2 with (first
  | (go_at_call 54;refine fB.mono ?_;rintro e w1 ⟨t1,va,rfl,hA,fD,fN,fE⟩;obtain⟨dA,dc,eA,ec,rfl,fO,fG,-,fH⟩:=hA;simp only [Ans.err,List.length_nil] at fD fG fH ⊢;have fI:=Blk.new w1 67 zAs)
  | (refine wpList_store_row rfl 67 (.tmp 5) (.tmp 15) rfl w1.heap.size (zAh 70 st0 (.slice dA 0 dc) (.slice eA 0 ec)).toArray rfl (by rfl) 67 _ fI rfl rfl (zAv _ _ _ _ _ _ _ _) ?_))
 have fF:Below w1.heap.size w1 ((w1.alloc (.cells zAs.toArray 67)).setRow w1.heap.size (zAh 70 st0 (.slice dA 0 dc) (.slice eA 0 ec)).toArray):=((Chg.refl (fun b=>w1.heap.size≤b) w1).alloc _ |>.setRow (fun _=>Nat.le_refl _) _).below (Nat.le_refl _) fun b hb e=>by omega
 have fJ:=fD.fresh fF;have fK:=hid (show _=some (Value.int .i64 70) from fJ.cell 6);have fL:=hid (fC.out.trans ((fE.below fC.out.size fun b hb e=>by omega).trans (fF.mono (by have:=fE.size;have:=fC.out.size;omega))));change Code.wp _ _ _ _ ((w1.alloc (.cells zAs.toArray 67)).setRow w1.heap.size (zAh 70 st0 (.slice dA 0 dc) (.slice eA 0 ec)).toArray);generalize (w1.alloc (.cells zAs.toArray 67)).setRow w1.heap.size (zAh 70 st0 (.slice dA 0 dc) (.slice eA 0 ec)).toArray=w2 at *;clear fB fD fJ fN fE fF fI fO fG fH;go_wp2
 go_loopw [6,7] (fun o i wr'=>o=.bool false∧i=.int .i64 0∧Hid (Below w2.heap.size w2 wr')) (fun _ _ _=>0)
 case atStart=>exact⟨by simp,rfl,hid (Below.refl _ _)⟩
 case round =>
  obtain⟨rfl,rfl,fM⟩:=hrel;go_wp2;go_ret;refine⟨rfl,fL.out.trans (fM.out.mono fL.out.size),fun h=>absurd h (by simp),fun _=>?_⟩;exact (fM.out.cell (p:=⟨B,6,none⟩) (World.block_lt_of_cell? _ _ fK.out)).trans fK.out
theorem uwalk_any (w0:World) (B:Nat) (T:PT) (hI:T.Inv) (f:Nat):∀ (ns:List ByteArray) (i:Nat) (n:PN) (s:DS) (v vi:Value) (l:List Nd) (js:List Nat) (w:World),TldAt w0 w B T v vi l js s→T.walk ns 1=(i,0)→zAd i T.nodes=some n→n.dir=true→(∀ x∈ns,chk x=true)→(pth ns).size≤1000→202≤ns.length+f→s.nodes.length+(tl T f ns i).length≤1000000 →
 Calls Tryz.prog 34 #[.pointer (some ⟨B,0,none⟩),.string (pth ns)] w (TldP w0 B T v vi w (zAU T f ns i s)):=by
 induction f with
 | zero =>
  intro ns i n s v vi l js w hD hw hg hd hc mV hf _;have h1:=zIo hc;have h2:=zDG (ns:=ns) (fun e=>by subst e;simp at hf);exact zFH w0 B T hI ns s v vi l js w hD (by omega)
 | succ f ih =>
  intro ns i n s v vi l js w hD hw hg hd hc mV hf gN;have hu:zAU T (f+1) ns i s=if 400<(pth ns).size then (s,70) else zCv T (zAU T f) ns (T.node i).names s:=rfl;by_cases fF:400<(pth ns).size
  · rw [hu,if_pos fF];exact zFH w0 B T hI ns s v vi l js w hD fF
  rw [hu,if_neg fF,zAp hg]
  have lX:tl T (f+1) ns i=tlE T (tl T f) ns n.names:=by
   show tlE T (tl T f) ns (T.node i).names=_
   rw [zAp hg]
  rw [lX] at gN;clear hu lX
  have mW:(pth ns).size≤400:=by omega
  have gO:T.isDir i=true:=by rw [zAn hg];exact hd
  have jY:=zI3 (T:=T) (zER hc mW) hw gO;obtain⟨es,jI⟩:∃ es,(n.names.map fun p=>(p.1,p.2,(T.node p.2).kind))=es:=⟨_,rfl⟩
  have lY:T.list i=⟨0,st0,[],es⟩:=by unfold PT.list;rw [if_pos gO,zAp hg,jI]
  rw [lY] at jY;obtain⟨t,hk,hR⟩:=hD.mem.blk;have fL:=uask_L (TS B v vi) B v vi t T (pth ns) _ w jY hk hR hD.mem.lts (.inl rfl) hI
  have hN:es.length=n.names.length:=by rw [←jI,List.length_map]
  have oT:n.names.length≤1068:=by have h1:=(hI.gr.ok.get hg).1.nlen;have h2:=(hI.gr.ok.get hg).1.slots;omega
  obtain⟨N,jZ⟩:∃ N,es.length=N:=⟨_,rfl⟩;rw [jZ] at hN;have gP:=hid hD;have lZ:=hid hN;have fV:=hid jZ;have kA:=hid jI;have oU:=hD.mem.ts B (.inl rfl);clear lY jY hD hN jI jZ hk hR;obtain⟨x,hx⟩:∃ x,pth ns=x:=⟨_,rfl⟩;rw [hx] at fL ⊢;have mA:=hid hx;clear hx;obtain⟨Q,hQ⟩:∃ Q,TldP w0 B T v vi w (zCv T (zAU T f) ns n.names s)=Q:=⟨_,rfl⟩;rw [hQ];have kC:=hid hQ;clear hQ;go_enter Tryz.func34,Tryz.ntmps34
  go_upto_region 2 with (first
   | (go_at_call 54;refine fL.mono ?_;rintro e w1 ⟨t1,va,rfl,hA,gJ,mB,kD⟩;obtain⟨dA,dc,eA,ec,rfl,mX,kE,-,kF⟩:=hA;simp only [Ans.err,List.length_nil,fV.out] at gJ kE kF ⊢;have kG:=Blk.new w1 67 zAs)
   | (refine wpList_store_row rfl 67 (.tmp 5) (.tmp 15) rfl w1.heap.size (zAh 0 st0 (.slice dA 0 dc) (.slice eA N ec)).toArray rfl (by rfl) 67 _ kG rfl rfl (zAv _ _ _ _ _ _ _ _) ?_))
  have mC:Blk ((w1.alloc (.cells zAs.toArray 67)).setRow w1.heap.size (zAh 0 st0 (.slice dA 0 dc) (.slice eA N ec)).toArray) w1.heap.size 67 (zAh 0 st0 (.slice dA 0 dc) (.slice eA N ec)):=setRow_heap (w1.alloc (.cells zAs.toArray 67)) w1.heap.size _ (zAh 0 st0 (.slice dA 0 dc) (.slice eA N ec)).toArray _ _ kG
  have gQ:Below w1.heap.size w1 ((w1.alloc (.cells zAs.toArray 67)).setRow w1.heap.size (zAh 0 st0 (.slice dA 0 dc) (.slice eA N ec)).toArray):=((Chg.refl (fun b=>w1.heap.size≤b) w1).alloc _ |>.setRow (fun _=>Nat.le_refl _) _).below (Nat.le_refl _) fun b hb e=>by omega
  have kI:TldAt w0 w1 B T v vi l js s:=⟨gP.out.mem.turn kD gJ mB,gP.out.tn,gP.out.fst,gP.out.fne,gP.out.len⟩;have mY:=hid (kI.fresh gQ);have mZ:Hid (GrU B w v vi ((w1.alloc (.cells zAs.toArray 67)).setRow w1.heap.size (zAh 0 st0 (.slice dA 0 dc) (.slice eA N ec)).toArray) v vi):=hid (GrU.one (kD.trans (Chg.of_fresh (S:=fun b=>b=B) gQ) (fun _ _ h=>h) (fun _ _ h=>h)));have kJ:=hid ((kE.below gQ).more gQ.size);have oA:Hid (∀ b off,eA=some ⟨b,off,none⟩→0<N→¬TS B v vi b):=hid fun b off e hn=>kF hn ⟨b,off,none⟩ e;have oB:Hid (∀ b,TS B v vi b→b<w1.heap.size):=hid fun b hb=>kI.mem.lts b hb;change Code.wp _ _ _ _ ((w1.alloc (.cells zAs.toArray 67)).setRow w1.heap.size (zAh 0 st0 (.slice dA 0 dc) (.slice eA N ec)).toArray);generalize (w1.alloc (.cells zAs.toArray 67)).setRow w1.heap.size (zAh 0 st0 (.slice dA 0 dc) (.slice eA N ec)).toArray=w2 at *;generalize w1.heap.size=z at *;have gR:=hid mC;clear fL kG gQ kD gJ mB kE mX kF mC kI;go_wp2
  go_loopw [6,7] (fun o i wr'=>ListU w0 B w2 v vi T f ns n.names s N o i wr') (fun _ i _=>N-(intOf i).toNat)
  case atStart=>exact⟨0,Nat.zero_le _,rfl,.inl ⟨s,v,vi,l,js,by simp,mY.out,GrU.fresh v vi (Below.refl _ _),rfl,gN⟩⟩
  case round =>
   obtain⟨k,hk,rfl,fE⟩:=hrel;rcases fE with ⟨s',v',vi',l',js',rfl,hD',hG',fE,hcn⟩ | ⟨s',ek,rfl,mD,fE,gS,hcd⟩;rotate_left
   · have fC:=hid fE;have kK:=hid gS;have kL:=hid hcd;clear fE gS hcd;go_wp2;rw [←kC.out,fC.out];exact⟨by simp [mD],kK.out,fun h=>absurd h mD,fun _=>kL.out⟩
   have oV:z<w2.heap.size:=gR.out.lt
   have oC:¬TS B v vi z:=fun h=>by have:=oB.out z h;omega
   have kM:=gR.out.chg hG'.chg oC;have q8:=kM.cell 8;simp only [zAh,List.getElem?_cons_succ,List.getElem?_cons_zero] at q8;by_cases jJ:k<N;rotate_left
   · obtain rfl:k=N:=by omega
     have t1:decide ((k:Int)<(k:Int))=false:=by simp
     have gT:zCv T (zAU T f) ns n.names s=(s',0):=by rw [fE,List.drop_of_length_le (by rw [←lZ.out];exact Nat.le_refl _)];rfl
     have gU:=hid gT;have mE:=hid hD';have oD:=hid hG';clear gT fE hcn hD' hG' kM;go_wp2;rw [←kC.out,gU.out];exact⟨rfl,mE.out.mem.below,fun _=>⟨v',vi',l',js',mE.out,mZ.out.trans oD.out⟩,fun h=>absurd rfl h⟩
   have t1:decide ((k:Int)<(N:Int))=true:=by simpa using jJ
   have kN:k<n.names.length:=by rw [←lZ.out];exact jJ
   obtain⟨nm,j,jK⟩:∃ nm j,n.names[k]=(nm,j):=⟨_,_,rfl⟩
   have mF:n.names.drop k=(nm,j)::n.names.drop (k+1):=by rw [List.drop_eq_getElem_cons kN,jK]
   rw [mF] at fE hcn
   have gV:(nm,j)∈n.names:=by rw [←jK];exact List.getElem_mem _
   have jL:=zA0 (hI.gr.ok.get hg).1.nris.nd gV;obtain⟨m,fW⟩:=hI.gr.ents _ _ _ _ hg jL;have fM:=hI.gr.names _ _ _ _ hg jL;have kO:T.walk (ns++[nm]) 1=(j,0):=zCu.2 ⟨i,hw,n,hg,hd,jL⟩
   have kP:∀ y∈ns++[nm],chk y=true:=fun y hy=>by
    rcases List.mem_append.1 hy with hy | hy
    · exact hc y hy
    · rw [List.mem_singleton.1 hy];exact fM
   have gW:(pth (ns++[nm])).size≤1000:=by have h1:=zEP ns nm;have h2:nm.size≤40:=zC5 fM;omega
   have mG:zCv T (zAU T f) ns ((nm,j)::n.names.drop (k+1)) s'=if (zE8 T (zAU T f) (ns++[nm]) j s').2≠0 then zE8 T (zAU T f) (ns++[nm]) j s' else zCv T (zAU T f) ns (n.names.drop (k+1)) (zE8 T (zAU T f) (ns++[nm]) j s').1:=rfl;rw [mG] at fE;have fN:=zIr (T:=T) (f:=f) (ns:=ns++[nm]) (j:=j) (s:=s')
   have gX:(tlE T (tl T f) ns ((nm,j)::n.names.drop (k+1))).length=1+((if T.isDir j=true then (tl T f (ns++[nm]) j).length else 0)+(tlE T (tl T f) ns (n.names.drop (k+1))).length):=by
    rw [tlE];simp only [List.length_cons,List.length_append]
    split
    · omega
    · simp;omega
   rw [gX] at hcn;have hu:zE8 T (zAU T f) (ns++[nm]) j s'=if 400<(pth (ns++[nm])).size then (s',70) else if T.isDir j=true then zAU T f (ns++[nm]) j (T.step s' (ns++[nm],j)) else (T.step s' (ns++[nm],j),0):=rfl;obtain⟨r,hr⟩:∃ r,zE8 T (zAU T f) (ns++[nm]) j s'=r:=⟨_,rfl⟩;rw [hr] at fE fN hu;obtain⟨s2,c2⟩:=r;simp only at fE fN
   have kQ:es[k]'(by rw [fV.out];exact jJ)=(nm,j,m.kind):=by
    simp only [←kA.out,List.getElem_map,jK,zAp fW]
   obtain⟨b,off,oE,gS,fI⟩:=kJ.out.at_ (by omega);subst oE;have mH:=oA.out b off rfl (by omega);have kR:=fun jj (hj:jj<3)=>zDd zBq 3 es (fun _ _=>rfl) k (by rw [fV.out];exact jJ) jj hj;have e0:=fI (k * 3+0) (.string nm) (by rw [kR 0 (by omega),kQ];rfl);have e2:=fI (k * 3+2) (.int .i64 m.kind) (by rw [kR 2 (by omega),kQ];rfl);have g0:=(hG'.chg.cell (p:=⟨b,off+(k * 3+0),none⟩) gS mH).trans e0;have g2:=(hG'.chg.cell (p:=⟨b,off+(k * 3+2),none⟩) gS mH).trans e2;rw [show off+(k * 3+0)=off+k * 3 by omega] at g0;rw [show off+(k * 3+2)=off+k * 3+2 by omega] at g2;have gK:=zJk x nm
   have oF:x.size≤1000000:=by rw [←mA.out];omega
   have oG:nm.size≤1000000:=by have h2:nm.size≤40:=zC5 fM;omega
   rw [show zJ8 x nm=pth (ns++[nm]) by rw [←mA.out];exact zIx hc nm] at gK;obtain⟨y,hy⟩:∃ y,pth (ns++[nm])=y:=⟨_,rfl⟩;rw [hy] at gK hu gW;have gK:=fun W=>gK W oF oG;have fT:=hid hy;obtain⟨A8,c8,oH,-⟩:=Sees.of_own (B:=wr.heap.size) hD'.mem.own.row fun g hg=>(hD'.mem.own.row.lt g hg).2;subst oH;obtain⟨Ai,ci,oI,-⟩:=Sees.of_own (B:=wr.heap.size) hD'.mem.ino fun g hg=>(hD'.mem.ino.lt g hg).2;subst oI;have fJ:=hid hD'.mem;have fA:=hid hD';have mI:=hid hG';have fC:=hid fE;have fU:=hid fN;have fO:=hid hcn;have mJ:=hid hu;have fX:=zAn fW;have oW:=(hD'.mem.ts B (.inl rfl)).2;have s0:(((0:Nat):Int)==0)=true:=rfl;have kS:Hid (∀ W,Below wr.heap.size wr W→W.cell? ⟨z,8,none⟩=some (.slice (some ⟨b,off,none⟩) N ec)∧W.cell? ⟨b,off+k * 3,none⟩=some (.string nm)∧W.cell? ⟨b,off+k * 3+2,none⟩=some (.int .i64 m.kind)):=hid fun W hW=>⟨(hW.cell (p:=⟨z,8,none⟩) (World.block_lt_of_cell? _ _ q8)).trans q8,(hW.cell (p:=⟨b,off+k * 3,none⟩) (World.block_lt_of_cell? _ _ g0)).trans g0,(hW.cell (p:=⟨b,off+k * 3+2,none⟩) (World.block_lt_of_cell? _ _ g2)).trans g2⟩
   have b0:(0:Int)≤(k:Int):=by omega
   have kT:=World.new_ne wr _ q8;have kU:=World.new_ne wr _ g0;have kV:=World.new_ne wr _ g2;clear mG fN hcn gX kQ kR e0 e2 fI fE hD' hG' mF jK gV jL fM hy hr kM hu;go_upto_region 5 with (fail)
   go_cut [8] from 27 to 41 (fun c8 wx=>∃ ub,c8=.pointer (some ⟨ub,0,none⟩)∧Hid (wr.heap.size≤ub)∧Hid (Blk wx ub 75 [.string y,.int .i64 m.kind,.int .i64 0,.string ⟨#[]⟩,.slice none 0 0])∧Hid (Below wr.heap.size wr wx))
   case first =>
    go_region_held3 (fun w'=>w'.cell? ⟨z,8,none⟩=some (.slice (some ⟨b,off,none⟩) N ec)∧w'.cell? ⟨b,off+k * 3,none⟩=some (.string nm)∧w'.cell? ⟨b,off+k * 3+2,none⟩=some (.int .i64 m.kind))
     (first | go_keep)
     (first
      | (go_at_call 55;refine (gK _).mono ?_;rintro e w' ⟨rfl,rfl⟩))
    all_goals go_wp2
    all_goals go_meet
    all_goals exact⟨_,rfl,hid (Nat.le_refl _),hid (Blk.new wr 75 [.string y,.int .i64 m.kind,.int .i64 0,.string ⟨#[]⟩,.slice none 0 0]),hid (((Below.refl _ _).alloc (Nat.le_refl _) _).drew)⟩
   case rest =>
    obtain⟨ub,rfl,mK,kW,jM⟩:=hcut;generalize wc=w5 at *;go_upto_region 7 with (fail);have jN:Below wr.heap.size wr (w5.alloc (.cells zAs.toArray 67)):=jM.out.alloc jM.out.size _;have kX:=Blk.new w5 67 zAs;have kY:=kW.out.alloc (.cells zAs.toArray 67);have oJ:ub<w5.heap.size:=kW.out.lt;change Code.wp _ _ _ _ (w5.alloc (.cells zAs.toArray 67));generalize w5.alloc (.cells zAs.toArray 67)=w6 at *;clear kW;have oX:=jM.out.size;clear jM;generalize w5.heap.size=ua at *;obtain⟨t2,mL,mM⟩:=fJ.out.blk;have fY:Hid (∀ b,TS B (.slice A8 l'.length c8) (.slice Ai js'.length ci) b→b<wr.heap.size):=hid fJ.out.lts;have jO:=mL.fresh jN
    have jP:RefS (fun b=>TS B (.slice A8 l'.length c8) (.slice Ai js'.length ci) b∨b=ub∨b=ua) w6 t2 T:=mM.wide jN fun b hb=>by
     have:=mK.out;rcases hb with h | h | h
     · exact .inl h
     · exact .inr (by omega)
     · exact .inr (by omega)
    have jQ:∀ b,(TS B (.slice A8 l'.length c8) (.slice Ai js'.length ci) b∨b=ub∨b=ua)→b<w6.heap.size:=fun b hb=>by
     have h9:=kX.lt;rcases hb with h | h | h
     · have:=fY.out b h;omega
     · omega
     · omega
    have oY:=mK.out;have kZ:=hid kY;have gY:=hid kX;have fP:=hid jN;have n0:=kY.cell 0;simp only [List.getElem?_cons_zero] at n0;clear mL mM kY kX jN g0 g2 q8 gK kS kT kU kV;by_cases fB:400<y.size
    · have fL:=uask_S (fun b=>TS B (.slice A8 l'.length c8) (.slice Ai js'.length ci) b∨b=ub∨b=ua) B (.slice A8 l'.length c8) (.slice Ai js'.length ci) t2 T y (.err 70) w6 (zGq fB) jO jP jQ (.inl (.inl rfl)) hI;have fZ:=mJ.out;rw [if_pos fB] at fZ;have jR:=hid fZ;clear fZ jO jP jQ fB
      go_upto_region 8 with (first
       | (go_at_call 54;refine fL.mono ?_;rintro e w7 ⟨t7,va,rfl,hA,gA,jS,fQ⟩;obtain⟨dA2,dc2,eA2,ec2,rfl,-,-,-,-⟩:=hA;simp only [Ans.err,List.length_nil] at gA ⊢;have gL:=gY.out.chg fQ (by omega))
       | (refine wpList_store_row rfl 67 (.tmp 9) (.tmp 48) rfl ua (zAh 70 st0 (.slice dA2 0 dc2) (.slice eA2 0 ec2)).toArray rfl (by rfl) 67 _ gL rfl rfl (zAv _ _ _ _ _ _ _ _) ?_))
      have gB:Chg (fun b=>b=ua) w7 (w7.setRow ua (zAh 70 st0 (.slice dA2 0 dc2) (.slice eA2 0 ec2)).toArray):=(Chg.refl (fun b=>b=ua) w7).setRow (fun _=>rfl) _;have mN:Below w0.heap.size w0 (w7.setRow ua (zAh 70 st0 (.slice dA2 0 dc2) (.slice eA2 0 ec2)).toArray):=((fJ.out.below.trans (fP.out.mono fJ.out.below.size)).trans (fQ.below (by have:=fJ.out.below.size;have:=fP.out.size;omega) fun b hb e=>by have:=fJ.out.hB;omega)).trans (gB.below (by have:=fJ.out.below.size;have:=fP.out.size;have:=fQ.size;omega) fun b hb e=>by have:=fJ.out.below.size;omega);have mO:=(gA.chg gB (by omega)).cell 6;have lA:=hid mN;have lB:=hid mO;clear mN mO gB fL gA jS fQ gL n0;go_wp2;rw [←kC.out,fC.out];injection jR.out with h1 h2;subst h1 h2;rw [if_pos (by simp)];exact⟨rfl,lA.out,fun h=>absurd h (by simp),fun _=>lB.out⟩
    have gZ:y.size≤400:=by omega
    have fZ:=mJ.out;rw [if_neg fB,fX] at fZ;have jR:=hid fZ
    have jA:T.stat j=⟨j,m.kind,m.links,m.size,m.made,m.count⟩:=by unfold PT.stat;rw [fW]
    have lC:=zIQ (T:=T) (zER kP (by rw [fT.out];exact gZ)) kO;rw [jA,fT.out] at lC;have fL:=uask_S (fun b=>TS B (.slice A8 l'.length c8) (.slice Ai js'.length ci) b∨b=ub∨b=ua) B (.slice A8 l'.length c8) (.slice Ai js'.length ci) t2 T y _ w6 lC jO jP jQ (.inl (.inl rfl)) hI;clear fZ jO jP jQ fB lC jA
    go_upto_region 10 with (first
     | (go_at_call 54;refine fL.mono ?_;rintro e w7 ⟨t7,va,rfl,hA,gA,jS,fQ⟩;obtain⟨dA2,dc2,eA2,ec2,rfl,-,-,-,-⟩:=hA;simp only [List.length_nil] at gA ⊢;have gL:=gY.out.chg fQ (by omega))
     | (refine wpList_store_row rfl 67 (.tmp 9) (.tmp 48) rfl ua (zAh 0 ⟨j,m.kind,m.links,m.size,m.made,m.count⟩ (.slice dA2 0 dc2) (.slice eA2 0 ec2)).toArray rfl (by rfl) 67 _ gL rfl rfl (zAv _ _ _ _ _ _ _ _) ?_))
    change Code.wp _ _ _ _ (w7.setRow ua (zAh 0 ⟨j,m.kind,m.links,m.size,m.made,m.count⟩ (.slice dA2 0 dc2) (.slice eA2 0 ec2)).toArray);have gB:Chg (fun b=>b=ua) w7 (w7.setRow ua (zAh 0 ⟨j,m.kind,m.links,m.size,m.made,m.count⟩ (.slice dA2 0 dc2) (.slice eA2 0 ec2)).toArray):=(Chg.refl (fun b=>b=ua) w7).setRow (fun _=>rfl) _;have lD:Blk (w7.setRow ua (zAh 0 ⟨j,m.kind,m.links,m.size,m.made,m.count⟩ (.slice dA2 0 dc2) (.slice eA2 0 ec2)).toArray) ua 67 (zAh 0 ⟨j,m.kind,m.links,m.size,m.made,m.count⟩ (.slice dA2 0 dc2) (.slice eA2 0 ec2)):=setRow_heap _ _ _ _ _ _ gL;generalize w7.setRow ua (zAh 0 ⟨j,m.kind,m.links,m.size,m.made,m.count⟩ (.slice dA2 0 dc2) (.slice eA2 0 ec2)).toArray=w8 at *;have jT:=(kZ.out.chg fQ (by omega)).chg gB (by omega);have x5:w8.cell? ⟨ua,5,none⟩=some (.int .i64 (m.made:Int)):=lD.cell 5;have n2:w8.cell? ⟨ub,2,none⟩=some (.int .i64 0):=jT.cell 2;have nf2:=jT.frozen 2;clear fL gL n0;go_upto_region 11 with (fail);change Code.wp _ _ _ _ (w8.setCell ⟨ub,2,none⟩ (.int .i64 (m.made:Int)));have lE:Chg (fun b=>b=ub) w8 (w8.setCell ⟨ub,2,none⟩ (.int .i64 (m.made:Int))):=(Chg.refl (fun b=>b=ub) w8).setCell (p:=⟨ub,2,none⟩) (fun _=>rfl) _;have jU:=hid (show Blk _ ub 75 [.string y,.int .i64 m.kind,.int .i64 (m.made:Int),.string ⟨#[]⟩,.slice none 0 0] from jT.set_ 2 (.int .i64 (m.made:Int)));have mP:=hid (lD.chg lE (by omega));have fR:Chg (fun b=>b=ub∨b=ua) w7 (w8.setCell ⟨ub,2,none⟩ (.int .i64 (m.made:Int))):=gB.trans lE (fun _ _ h=>.inr h) (fun _ _ h=>.inl h);have jV:Hid (Chg (fun b=>b=B) wr (w8.setCell ⟨ub,2,none⟩ (.int .i64 (m.made:Int)))):=hid (((Chg.of_fresh (S:=fun b=>b=B) fP.out).trans fQ (fun _ _ h=>h) (fun _ _ h=>h)).trans fR (fun _ _ h=>h) fun b hb h=>by omega);have jB:=hid (fJ.out.turn jV.out (gA.chg fR (by omega)) ((jS.chg (fR.mono fun b _ h=>.inr h)).mono fun _ h=>.inl h));clear gB lE fR lD jT x5 n2 nf2 gA jS fQ;generalize w8.setCell ⟨ub,2,none⟩ (.int .i64 (m.made:Int))=wa at *;have e1:wa.cell? ⟨ub,1,none⟩=some (.int .i64 m.kind):=jU.out.cell 1;have oK:Hid (TldAt w0 wa B T (.slice A8 l'.length c8) (.slice Ai js'.length ci) l' js' s'):=hid ⟨jB.out,fA.out.tn,fA.out.fst,fA.out.fne,fA.out.len⟩;have oL:=hid (show l'.length=s'.nodes.length by have:=congrArg List.length fA.out.tn;simpa using this)
    have oM:l'.length≤1000000:=by have:=oL.out;have:=fO.out;omega
    have oZ:js'.length≤1000000:=by have:=fA.out.len;omega
    have pA:IntKind.i64.wrap ((k:Int)+1)=((k+1:Nat):Int):=by rw [IntWalk.i64_in _ (by omega)];omega
    have pB:=(hI.gr.ok.get fW).2;have pC:=hI.gr.ok.ino;by_cases fK:m.dir=true
    · have mQ:(m.kind==2)=true:=by unfold PN.kind;rw [fK];rfl
      have gC:=jR.out;rw [if_pos fK] at gC;have oN:=hid gC;have oO:Hid (wa.ownsRow wr.heap.size 5 1 (ndV ⟨y,m.kind,m.made,⟨#[]⟩,none,0,[]⟩) 0 []):=hid (World.ownsRow_nil _ _ _ _);clear gC;obtain⟨tA,jC,-⟩:=jB.out.blk;have lF:=hid jC;obtain⟨-,-,-,-,y4,-,-⟩:=zD1 jC;have y4':=(jC.alloc (.cells [.string y,.int .i64 m.kind,.int .i64 (m.made:Int),.string ⟨#[]⟩,.slice none 0 0].toArray 75)).cell 4;simp only [zC8,List.getElem?_cons_succ,List.getElem?_cons_zero] at y4';obtain⟨e0,e1,e2,e3,e4⟩:=zFk jU.out;have oP:B<wa.heap.size:=jC.lt;have gM:Hid (Below wa.heap.size wa (wa.alloc (.cells [.string y,.int .i64 m.kind,.int .i64 (m.made:Int),.string ⟨#[]⟩,.slice none 0 0].toArray 75)).drew):=hid (((Below.refl _ _).alloc (Nat.le_refl _) _).drew);have jD:=hid (zAN jB.out.own.row gM.out);have jE:=hid (zBP (P:=Tryz.prog) (tx:=31) Tryz.underlying31 (Blk.drew (Blk.new wa 75 [.string y,.int .i64 m.kind,.int .i64 (m.made:Int),.string ⟨#[]⟩,.slice none 0 0])) (by intro u hu;simp only [List.mem_cons,List.not_mem_nil,or_false] at hu;rcases hu with rfl | rfl | rfl | rfl | rfl<;>rfl));have lG:Hid (∀ g,(Value.slice A8 l'.length c8).ownBlock=some g→B+1≤g):=hid fun g hg=>(jB.out.own.row.lt g hg).1;obtain⟨iN,oQ,lH,lI,lJ⟩:=info_parts zEo;clear jC;go_upto_region 12 with (fail)
      go_cut [] from 59 to 68 (fun wx=>Push1 w0 wa B T (.slice A8 l'.length c8) (.slice Ai js'.length ci) l' js' ⟨y,m.kind,m.made,⟨#[]⟩,none,0,[]⟩ wx)
      case first =>
       go_region_law (refine zBw _ (by rfl) (.tmp 63) (.tmp 65) _ _ (by rfl) (B+1) 75 iN _ 5 72 Tryz.underlying31 oQ lH lI lJ rfl (.slice A8 l'.length c8) l'.length (ncs l') (by rfl) jD.out 1 [.string y,.int .i64 m.kind,.int .i64 (m.made:Int),.string ⟨#[]⟩,.slice none 0 0] jE.out (by unfold maxLen;omega) (by omega) (by simp;omega) ?_;intro v4 w4 fS gD fG;have gE:=((lF.out.fresh gM.out).law gD (fun e=>by have:=lG.out _ e;omega));obtain⟨A9,c9,lK,-⟩:=Sees.of_own (B:=w4.heap.size) fS fun g hg=>(fS.lt g hg).2;subst lK;have z4:=gE.cell 4;have f4:=gE.frozen 4;simp only [zC8,List.getElem?_cons_succ,List.getElem?_cons_zero] at z4)
       all_goals
        obtain⟨p1,p2⟩:=TldW.push1 (x:=⟨y,m.kind,m.made,⟨#[]⟩,none,0,[]⟩) fJ.out (jV.out.trans (Chg.of_fresh (S:=fun b=>b=B) gM.out) (fun _ _ h=>h) (fun _ _ h=>h)) (jB.out.fresh gM.out) (zAN oO.out gM.out) fS gD fG;have hp:=hid (show Push1 w0 wa B T (.slice A8 l'.length c8) (.slice Ai js'.length ci) l' js' ⟨y,m.kind,m.made,⟨#[]⟩,none,0,[]⟩ _ from ⟨A9,c9,p1,(GrU.fresh _ _ gM.out).trans p2⟩);clear p1 p2 fS gD fG gE;go_wp2;go_meet;exact hp.out
      case rest =>
       obtain⟨A9,c9,jF,gF⟩:=hcut;generalize wc=wb at *;have jW:=hid jF;have mR:=hid gF
       have lL:¬TS B (.slice A8 l'.length c8) (.slice Ai js'.length ci) ua:=fun h=>by have:=fY.out _ h;omega
       have lM:¬TS B (.slice A8 l'.length c8) (.slice Ai js'.length ci) ub:=fun h=>by have:=fY.out _ h;omega
       have c0:_=some (Value.int .i64 (j:Int)):=(mP.out.chg gF.chg lL).cell 1;clear jF gF e0 e1 e2 e3 e4;obtain⟨tB,jG,-⟩:=jW.out.blk;have lN:=hid jG;obtain⟨-,-,-,-,-,y5,-⟩:=zD1 jG;have y5':=(jG.alloc (.cells [.int .i64 (j:Int)].toArray 3)).cell 5;simp only [zC8,List.getElem?_cons_succ,List.getElem?_cons_zero] at y5';have oR:B<wb.heap.size:=jG.lt;have jX:Hid (Below wb.heap.size wb (wb.alloc (.cells #[.int .i64 (j:Int)] 3)).drew):=hid (((Below.refl _ _).alloc (Nat.le_refl _) _).drew);have jH:=hid (zAN jW.out.ino jX.out);have lO:Hid (∀ g,(Value.slice Ai js'.length ci).ownBlock=some g→B+1≤g):=hid fun g hg=>(jW.out.ino.lt g hg).1;obtain⟨iI,oS,lP,lQ,lR⟩:=info_parts zFR;clear jG;go_upto_region 13 with (fail)
       go_cut [] from 69 to 80 (fun wx=>Push2 w0 wb B T (.slice A9 (l'.length+1) c9) (.slice Ai js'.length ci) (l'++[⟨y,m.kind,m.made,⟨#[]⟩,none,0,[]⟩]) js' j wx)
       case first =>
        go_region_law (refine zBw _ (by rfl) (.tmp 73) (.tmp 77) _ _ (by rfl) (B+1) 3 iI _ 1 8 Tryz.underlying92 oS lP lQ lR rfl (.slice Ai js'.length ci) js'.length (nats js') (by rfl) jH.out 1 [.int .i64 (j:Int)] (zCo wb Tryz.underlying92 _ _ rfl) (by unfold maxLen;omega) (by omega) (by simp;omega) ?_;intro v4 w4 fS gD fG;have gE:=((lN.out.fresh jX.out).law gD (fun e=>by have:=lO.out _ e;omega));obtain⟨A0,c0',lK,-⟩:=Sees.of_own (B:=w4.heap.size) fS fun g hg=>(fS.lt g hg).2;subst lK;have z5:=gE.cell 5;have f5:=gE.frozen 5;simp only [zC8,List.getElem?_cons_succ,List.getElem?_cons_zero] at z5)
        all_goals
         obtain⟨p1,p2⟩:=TldW.push2 (j:=j) (jW.out.fresh jX.out) fS gD fG;have hp:=hid (show Push2 w0 wb B T (.slice A9 (l'.length+1) c9) (.slice Ai js'.length ci) (l'++[⟨y,m.kind,m.made,⟨#[]⟩,none,0,[]⟩]) js' j _ from ⟨_,p1,(GrU.fresh _ _ jX.out).trans p2⟩);clear p1 p2 fS gD fG gE;go_wp2;go_meet;exact hp.out
       case rest =>
        obtain⟨v9,mS,lS⟩:=hcut;generalize wc=wz at *
        have gG:T.step s' (ns++[nm],j)=⟨s'.nodes++[⟨y,m.kind,m.made,⟨#[]⟩,[]⟩],s'.first⟩:=by
         unfold PT.step;rw [if_pos (by rw [fX];exact fK),zAp fW,fT.out];unfold PN.kind;rw [if_pos fK];rfl
        have mT:=fA.out.fst.step (x:=⟨y,m.kind,m.made,⟨#[]⟩,none,0,[]⟩) fA.out.len (ns:=ns++[nm]) (j:=j) fT.out.symm
        have mU:TldAt w0 wz B T (.slice A9 (l'.length+1) c9) v9 (l'++[⟨y,m.kind,m.made,⟨#[]⟩,none,0,[]⟩]) (js'++[j]) (T.step s' (ns++[nm],j)):=by
         refine⟨mS,?_,mT,?_,?_⟩
         · rw [gG,List.map_append,fA.out.tn];rfl
         · rw [gG];exact fA.out.fne
         · rw [List.length_append,List.length_append,fA.out.len];rfl
        have fI:=ih (ns++[nm]) j m _ _ v9 _ _ wz mU kO fW fK kP (by rw [fT.out];exact gW) (by rw [List.length_append,List.length_singleton];omega) (by
         rw [zEi];have h2:=fO.out;rw [fX,if_pos fK] at h2;omega)
        rw [fT.out,←oN.out] at fI;have lT:=hid ((mI.out.trans (GrU.one jV.out)).trans (mR.out.trans lS));have z0:_=some (Value.string y):=(jU.out.chg (mR.out.trans lS).chg lM).cell 0;clear gG mT mU mS lS c0;go_wp2_with (go_at_call 34;refine fI.mono ?_;rintro e w9 ⟨rfl,gH,gI,fH⟩);go_roundw
        case rel =>
         refine⟨k+1,by omega,by go_num,?_⟩;by_cases fD:c2=0
         · obtain⟨v3,vi3,l3,js3,lU,lV⟩:=gI fD;refine .inl ⟨s2,v3,vi3,l3,js3,by simp [fD],lU,lT.out.trans lV,?_,?_⟩
           · rw [fC.out,if_neg (by omega)]
           · have h1:=fU.out fD;have h2:=fO.out;omega
         · exact .inr ⟨s2,c2,by simp [fD],fD,by rw [fC.out,if_pos fD],gH,fH fD⟩
        case measure=>simp [intOf];omega
    · have mQ:(m.kind==2)=false:=by unfold PN.kind;simp [fK]
      have gJ:m.kind=1:=by unfold PN.kind;simp [fK]
      have gC:=jR.out;rw [if_neg fK] at gC;have fI:=ufile_any w0 B T (.slice A8 l'.length c8) (.slice Ai js'.length ci) l' js' s' wa hI (ns++[nm]) j m kO fW (by simpa using fK) kP (by rw [fT.out];exact gZ) oK.out oM;rw [fT.out,←gC] at fI;have lW:=jU.out;rw [gJ] at e1 lW mQ;obtain⟨e0,-,e2,e3,e4⟩:=zFk lW;obtain⟨s1,s2',s3,s4,s5,s6⟩:=blk_s7 mP.out;rw [gJ] at s2' fI;have lT:=hid (mI.out.trans (GrU.one jV.out));clear gC lW;go_wp2_with (go_at_call 56;refine fI.mono ?_;rintro e w9 ⟨rfl,gH,gI,fH⟩);go_roundw
      case rel =>
       refine⟨k+1,by omega,by go_num,?_⟩;by_cases fD:c2=0
       · obtain⟨v3,vi3,l3,js3,lU,lV⟩:=gI fD;refine .inl ⟨s2,v3,vi3,l3,js3,by simp [fD],lU,lT.out.trans lV,?_,?_⟩
         · rw [fC.out,if_neg (by omega)]
         · have h1:=fU.out fD;have h2:=fO.out;omega
       · exact .inr ⟨s2,c2,by simp [fD],fD,by rw [fC.out,if_pos fD],gH,fH fD⟩
      case measure=>simp [intOf];omega
theorem udump_any (S:Nat→Prop) (t:Tr) (T:PT) (w:World) (h:RefS S w t T) (hI:T.Inv) (fQ:T.spots.length≤1000000) :
 Calls Tryz.prog 11 #[.agg (zAa t).toArray] w (zFa T w):=by
 obtain⟨n1,fR,fS⟩:=hI.gr.root;have fG:Below w.heap.size w ((w.alloc (.cells (zAa t).toArray 28)).alloc (.cells (zC8 t zAg zAg 0).toArray 94)):=((Below.refl _ _).alloc (Nat.le_refl _) _).alloc (by simp) _
 have fJ:Blk ((w.alloc (.cells (zAa t).toArray 28)).alloc (.cells (zC8 t zAg zAg 0).toArray 94)) (w.heap.size+1) 94 (zC8 t zAg zAg 0):=by
  have:=Blk.new (w.alloc (.cells (zAa t).toArray 28)) 94 (zC8 t zAg zAg 0);simpa using this
 have fK:TldAt w ((w.alloc (.cells (zAa t).toArray 28)).alloc (.cells (zC8 t zAg zAg 0).toArray 94)) (w.heap.size+1) T zAg zAg [] [] ⟨[],[]⟩ :=
  ⟨⟨fG,Nat.le_succ _,⟨t,fJ,h.wide fG fun b hb=>by
   rcases hb with e | e | e
   · exact .inr (by omega)
   · cases e
   · cases e⟩,OwnN.nil _ _,World.ownsRow_nil _ _ _ _⟩,rfl,fun i _=>rfl,fun i q e=>(by cases e),rfl⟩
 have fC:=uwalk_any w (w.heap.size+1) T hI 202 [] 1 n1 ⟨[],[]⟩ zAg zAg [] [] _ fK rfl fR fS (by simp) (by decide) (by simp) (by
  have:(tl T 202 [] 1).length≤1000000:=fQ;simpa using this)
 rw [show pth []=⟨#[47]⟩ from rfl] at fC;have fH:T.dump=if (zAU T 202 [] 1 ⟨[],[]⟩).2=0 then ((zAU T 202 [] 1 ⟨[],[]⟩).1.nodes,0) else ([],(zAU T 202 [] 1 ⟨[],[]⟩).2):=rfl;obtain⟨r,hr⟩:∃ r,zAU T 202 [] 1 ⟨[],[]⟩=r:=⟨_,rfl⟩;rw [hr] at fC fH;obtain⟨s1,c1⟩:=r;have fL:=hid fH;obtain⟨Q,hQ⟩:∃ Q,zFa T w=Q:=⟨_,rfl⟩;rw [hQ];have fM:=hid hQ;clear hr fH fK fJ hQ fG;go_enter Tryz.func11,Tryz.ntmps11;go_upto_region 2 with (fail);change Code.wp _ _ _ _ ((w.alloc (.cells (zAa t).toArray 28)).alloc (.cells (zC8 t zAg zAg 0).toArray 94));generalize (w.alloc (.cells (zAa t).toArray 28)).alloc (.cells (zC8 t zAg zAg 0).toArray 94)=w1 at *;by_cases fD:c1=0
 · have fA:=fL.out;rw [if_pos fD] at fA;have fA:=hid fA
   go_upto_region 5 with (first
    | (go_at_call 34;refine fC.mono ?_;rintro e w2 ⟨rfl,fF,fN,-⟩;rw [decide_eq_true fD];obtain⟨v2,vi2,l2,js2,fI,-⟩:=fN fD))
   obtain⟨t2,fO,-⟩:=fI.mem.blk;obtain⟨-,-,-,-,y4,-,-⟩:=zD1 fO;have fP:=hid fI;clear fC fO fN fI;go_wp2;rw [←fM.out];refine⟨⟨v2,l2,?_,fP.out.mem.own.base (by omega),?_⟩,fF⟩
   · rw [fA.out];rfl
   · rw [fA.out];exact fP.out.tn
 · have fA:=fL.out;rw [if_neg fD] at fA;have fA:=hid fA
   go_upto_region 4 with (first
    | (go_at_call 34;refine fC.mono ?_;rintro e w2 ⟨rfl,fF,-,fE⟩;rw [decide_eq_false fD];have y6:=fE fD))
   have fB:=hid fF;clear fC fE fF
   go_quiet (fail)
   go_wp2;rw [←fM.out];refine⟨⟨.slice none 0 0,[],?_,OwnN.nil _ _,?_⟩,?_⟩
   · rw [fA.out];rfl
   · rw [fA.out];rfl
   · first | exact fB.out | exact fB.out.drew | exact zAf fB.out _
end Go.Proofs.YtolpcfhfcdkokaaGreatDoor
