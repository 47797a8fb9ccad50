/- Joined out of PAsks..PDoes. -/
import Derived.Test.YtolpcfhfcdkokaaGreatDoorQ21
import Derived.Test.YtolpcfhfcdkokaaGreatDoorQ25
set_option maxHeartbeats 16000000
set_option maxRecDepth 100000
namespace Go.Proofs.YtolpcfhfcdkokaaGreatDoor
open Lib (hid)
open Go.RowKit Go.Proofs
def AnsP (own:Nat→Option Role) (p mb:Nat) (r:PT×Ans) (w:World) (e:Ending) (w':World):Prop:=(∃ v,e=.returned v∧zBO w' v r.2)∧zAS own p mb r.1 w w'
theorem node_done {own:Nat→Option Role} {lay:Nat→NA} {p mb i:Nat} {T:PT} {n n':PN} {w w1:World} (h:PlainAt w own lay p mb T) (hT:T.Ok) (hg:zAd i T.nodes=some n) (hN:PnAt w1 (lay i) n') (hC:Chg (Of own i) w w1):zAS own p mb (T.upd i n') w w1 :=
 zAS.of (h.upd hT.ris hg hC (fun _ _ h=>h) hN rfl (Ext.refl _ _) (fun b r e=>Nat.lt_of_lt_of_le (h.lt b r e) hC.size) (h.owns _ (zAi hg))) (Ext.refl _ _) hC.of_of
theorem Chg.of_of_ne {own:Nat→Option Role} {i z:Nat} {w w1:World} (_:Chg (Of own i) w w1) (hz:own z=none) (h:Of own i z):False:=by
 rcases h with h | h | h | h<;>rw [hz] at h<;>cases h
theorem zEn {off:Nat} {u:Value} (h:zAs[off]? = some u):(∃ k v,u=.int k v∧k=.i64)∨(∃ A n c,u=.slice A n c)∨∃ b,u=.bool b:=by
 have hm:=List.mem_of_getElem? h;simp only [zAs,List.mem_cons,List.not_mem_nil,or_false] at hm;rcases hm with rfl | rfl | rfl | rfl | rfl | rfl | rfl | rfl | rfl | rfl
 · exact .inl ⟨_,_,rfl,rfl⟩
 · exact .inl ⟨_,_,rfl,rfl⟩
 · exact .inl ⟨_,_,rfl,rfl⟩
 · exact .inl ⟨_,_,rfl,rfl⟩
 · exact .inl ⟨_,_,rfl,rfl⟩
 · exact .inl ⟨_,_,rfl,rfl⟩
 · exact .inl ⟨_,_,rfl,rfl⟩
 · exact .inr (.inl ⟨_,_,_,rfl⟩)
 · exact .inr (.inl ⟨_,_,_,rfl⟩)
 · exact .inr (.inr ⟨_,rfl⟩)
theorem Sees.row {w:World} {B size n z:Nat} {A:Option Addr} {xs:List Value} (h:Sees w B size A n xs) (hs:0<size) {t:TypeId} {cs:List Value} (hz:Blk w z t cs) (hd:∀ u,xs[0]? = some u→∀ off:Nat,cs[off]?≠some u) (ds:Array Value):Sees (w.setRow z ds) B size A n xs:=by
 refine⟨h.len,fun hn=>?_⟩;obtain⟨b,off,e,hb,hc⟩:=h.at_ hn
 have fA:b≠z:=fun e=>by
  subst e
  have hl:0<xs.length:=by rw [h.len];exact Nat.mul_pos hn hs
  have h0:xs[0]? = some xs[0]:=List.getElem?_eq_getElem hl;have h1:=hc 0 _ h0;rw [Nat.add_zero,hz.cell off] at h1;exact hd _ h0 off h1
 refine⟨b,off,e,hb,fun j u hu=>?_⟩;rw [←hc j u hu];exact ((Chg.refl (fun b=>b=z) w).setRow (fun _=>rfl) ds).cell (p:=⟨b,off+j,none⟩) (World.block_lt_of_cell? _ _ (hc j u hu)) fA
theorem bvs_0 {d:List UInt8} {u:Value} (h:(bvs d)[0]? = some u):∃ x,u=.int .u8 x:=by
 cases d with
 | nil=>simp [bvs] at h
 | cons x r=>simp [bvs] at h;exact⟨_,h.symm⟩
theorem ent_0 {l:List (ByteArray×Nat×Int)} {u:Value} (h:(l.flatMap zBq)[0]? = some u):∃ x,u=.string x:=by
 cases l with
 | nil=>simp at h
 | cons x r=>simp [zBq] at h;exact⟨_,h.symm⟩
theorem zBO.row {w:World} {v:Value} {a:Ans} (h:zBO w v a) {z:Nat} (hz:Blk w z 67 zAs) (ds:Array Value):zBO (w.setRow z ds) v a:=by
 obtain⟨dA,dc,eA,ec,h1,h2,h3⟩:=h;have hC:=(Chg.refl (fun b=>b=z) w).setRow (fun _=>rfl) ds;refine⟨dA,dc,eA,ec,h1,(h2.row (by decide) hz (fun u hu off e=>?_) ds).more hC.size,(h3.row (by decide) hz (fun u hu off e=>?_) ds).more hC.size⟩
 · obtain⟨x,rfl⟩:=bvs_0 hu;rcases zEn e with ⟨_,_,e,e2⟩ | ⟨_,_,_,e⟩ | ⟨_,e⟩
   · cases e;cases e2
   · cases e
   · cases e
 · obtain⟨x,rfl⟩:=ent_0 hu;rcases zEn e with ⟨_,_,e,_⟩ | ⟨_,_,_,e⟩ | ⟨_,e⟩<;>cases e
theorem zAH (w:World) (c:Nat) (s:St):zBO w (.agg (zAh c s zAg zAg).toArray) ⟨c,s,[],[]⟩:=zBy w ⟨c,s,[],[]⟩ rfl rfl
theorem pasks_any (own:Nat→Option Role) (lay:Nat→NA) (p mb i:Nat) (T:PT) (n:PN) (o:Opn) (A:Option Addr) (c:Nat) (w:World) (h:PlainAt w own lay p mb T) (hT:T.Wf) (hg:zAd i T.nodes=some n)
 (hs:Sees w w.heap.size 1 A o.data.length (bvs o.data)) (hc:o.data.length≤c) (gM:o.data.length<1000000000000) (fN:o.off≤9223372036854775807∧-9223372036854775808≤o.off) (gB:o.len≤9223372036854775807∧-9223372036854775808≤o.len) :
 Calls Tryz.prog 73 #[.pointer (some ⟨p,0,none⟩),opV o A c,.int .i64 (i:Int)] w (AnsP own p mb (T.asks o i) w):=by
 have hu:=PT.asks.eq_1 T o i;have gR:=(hT.ok.get hg).2;have gS:=hT.ok.ino;have gC:own (w.heap.size+1)=none:=h.free (by omega);unfold opV opC;go_enter Tryz.func73,Tryz.ntmps73;go_upto_region 1 with (fail);have fT:Blk ((w.alloc (.cells (opC o A c).toArray 70)).alloc (.cells zAs.toArray 67)) w.heap.size 70 (opC o A c):=(Blk.new w _ _).alloc _
 have fJ:Blk ((w.alloc (.cells (opC o A c).toArray 70)).alloc (.cells zAs.toArray 67)) (w.heap.size+1) 67 zAs:=by
  have:=Blk.new (w.alloc (.cells (opC o A c).toArray 70)) 67 zAs;simpa using this
 have fU:Below w.heap.size w ((w.alloc (.cells (opC o A c).toArray 70)).alloc (.cells zAs.toArray 67)):=((Below.refl _ _).alloc (Nat.le_refl _) _).alloc (by simp) _
 have gN:((w.alloc (.cells (opC o A c).toArray 70)).alloc (.cells zAs.toArray 67)).heap.size=w.heap.size+2:=by simp
 change Code.wp _ _ _ _ ((w.alloc (.cells (opC o A c).toArray 70)).alloc (.cells zAs.toArray 67));generalize (w.alloc (.cells (opC o A c).toArray 70)).alloc (.cells zAs.toArray 67)=w0 at *;have fW:=h.fresh fU;have gH:=(hs.below fU).more fU.size;obtain⟨g,gA⟩:∃ g,w.heap.size=g:=⟨_,rfl⟩;rw [gA] at fT fJ fU gN gC;simp only [gA];have fG:=hid gA;have fO:=hid fU;have fE:=hid gC;have fD:=hid fW;have gD:=hid gH;have fA:=hid hg;have fV:=hid hT;have gO:=hid hc;have gT:=hid fJ;clear gA fU gC gH hs hc h;have lkI:=fW.lookI hg (by omega);have x2:=fW.c2;have b0:=(fW.get hg).blk.cell 0;simp only [zCc,List.getElem?_cons_zero] at b0;have y0:=fT.cell 0;have y3:=fT.cell 3;have y4:=fT.cell 4;have y5:=fT.cell 5;simp only [opC,List.getElem?_cons_succ,List.getElem?_cons_zero] at y0 y3 y4 y5;clear fT fW hT hg;by_cases k10:o.kind=10
 · rw [if_pos k10] at hu;have fI:=hid hu
   have t10:decide (o.kind=10)=true:=by simpa using k10
   have s10:(o.kind==10)=true:=by simpa using k10
   have fF:=zDU own lay p mb i T n w0 fD.out fV.out.ok fA.out;obtain⟨st,gE⟩:∃ st,T.stat i=st:=⟨_,rfl⟩;rw [gE] at fF;unfold stV stC at fF;have gF:=hid gE;clear hu gE k10
   go_wp2_with (first
    | (go_at_call 99;refine fF.mono ?_;rintro e w1 ⟨rfl,fK⟩;have fH:=fJ.fresh fK;have fL:=hid fK;clear fK)
    | (refine wpList_store_row rfl 67 (.tmp 6) (.tmp 21) rfl (g+1) (zAh 0 st zAg zAg).toArray rfl (by rfl) 67 _ fH rfl rfl (zAv _ _ _ _ _ _ _ _) ?_))
   have fB:=setRow_heap w1 (g+1) _ (zAh 0 st zAg zAg).toArray _ _ fH;refine bodyPost_ret (results_cell_row rfl _ _ (g+1) 67 (zAh 0 st zAg zAg).toArray (0,0) _ rfl fB Tryz.underlying67 rfl rfl) rfl ?_;have fC:Chg (fun b=>b=g+1) w1 (w1.setRow (g+1) (zAh 0 st zAg zAg).toArray):=(Chg.refl (fun b=>b=g+1) w1).setRow (fun _=>rfl) _;rw [fI.out];rw [gF.out];refine⟨⟨_,rfl,zAH _ 0 st⟩,?_⟩;exact (zAS.same fD.out fL.out).after (by rw [fG.out];exact fO.out) (by rw [fG.out];omega) (by omega) fE.out fC
 have s10:(o.kind==10)=false:=by simpa using k10
 rw [if_neg k10] at hu;by_cases k11:o.kind=11
 · rw [if_pos k11] at hu;have fI:=hid hu
   have s11:(o.kind==11)=true:=by simpa using k11
   have fF:=zGu own lay p mb i T n w0 fD.out fV.out fA.out;obtain⟨an,fP⟩:∃ an,T.list i=an:=⟨_,rfl⟩;rw [fP] at fF;have fQ:=hid fP;clear hu fP k10 k11
   go_wp2_with (first
    | (go_at_call 105;refine fF.mono ?_;rintro e w1 ⟨⟨v,rfl,hA,hF⟩,fK⟩;have gU:=hid hF;clear hF;have gG:=hid hA;obtain⟨dA,dc,eA,ec,rfl,-,-⟩:=hA;have fH:=fJ.fresh fK;have fL:=hid fK;clear fK)
    | (refine wpList_store_row rfl 67 (.tmp 6) (.tmp 26) rfl (g+1) (zAh an.code an.stat (.slice dA an.data.length dc) (.slice eA an.ents.length ec)).toArray rfl (by rfl) 67 _ fH rfl rfl (zAv _ _ _ _ _ _ _ _) ?_))
   have fB:=setRow_heap w1 (g+1) _ (zAh an.code an.stat (.slice dA an.data.length dc) (.slice eA an.ents.length ec)).toArray _ _ fH;refine bodyPost_ret (results_cell_row rfl _ _ (g+1) 67 (zAh an.code an.stat (.slice dA an.data.length dc) (.slice eA an.ents.length ec)).toArray (0,0) _ rfl fB Tryz.underlying67 rfl rfl) rfl ?_;have fC:Chg (fun b=>b=g+1) w1 (w1.setRow (g+1) (zAh an.code an.stat (.slice dA an.data.length dc) (.slice eA an.ents.length ec)).toArray):=(Chg.refl (fun b=>b=g+1) w1).setRow (fun _=>rfl) _;rw [fI.out];rw [fQ.out];refine⟨⟨_,rfl,gG.out.row fH _⟩,?_⟩;exact (zAS.same fD.out fL.out).after (by rw [fG.out];exact fO.out) (by rw [fG.out];omega) (by omega) fE.out fC
 have s11:(o.kind==11)=false:=by simpa using k11
 rw [if_neg k11,zAn fA.out] at hu
 cases hd:n.dir with
 | true =>
  rw [hd,if_pos rfl] at hu;have fI:=hid hu
  have sd:(n.kind==2)=true:=by unfold PN.kind;rw [hd];rfl
  clear hu k10 k11
  go_wp2_with (first
   | (refine wpList_store_row rfl 67 (.tmp 6) (.tmp 32) rfl (g+1) (zAh 102 st0 zAg zAg).toArray rfl (by rfl) 67 _ fJ rfl rfl (zAv _ _ _ _ _ _ _ _) ?_))
  have fB:=setRow_heap w0 (g+1) _ (zAh 102 st0 zAg zAg).toArray _ _ fJ;refine bodyPost_ret (results_cell_row rfl _ _ (g+1) 67 (zAh 102 st0 zAg zAg).toArray (0,0) _ rfl fB Tryz.underlying67 rfl rfl) rfl ?_;have fC:Chg (fun b=>b=g+1) w0 (w0.setRow (g+1) (zAh 102 st0 zAg zAg).toArray):=(Chg.refl (fun b=>b=g+1) w0).setRow (fun _=>rfl) _;rw [fI.out];refine⟨⟨_,rfl,zAH _ 102 st0⟩,?_⟩;exact (zAS.same fD.out (Below.refl _ _)).after (by rw [fG.out];exact fO.out) (by rw [fG.out];omega) (by omega) fE.out fC
 | false =>
  rw [hd,if_neg (by simp)] at hu
  have sd:(n.kind==2)=false:=by unfold PN.kind;rw [hd];rfl
  have fX:=hid hd;obtain⟨db,gI⟩:=(fD.out.get fA.out).files hd;have fY:=hid gI;clear hd gI;by_cases k7:o.kind=7
  · rw [if_pos k7] at hu;have fI:=hid hu
    have s7:(o.kind==7)=true:=by simpa using k7
    have fF:=zJJ own lay p mb i T n o.off A o.data.length c o.data w0 fD.out fV.out.ok fA.out fX.out gD.out rfl gO.out gM fN;obtain⟨r,hr⟩:∃ r,T.write i o.off o.data=r:=⟨_,rfl⟩;rw [hr] at fF;have fZ:=hid hr;obtain⟨T1,cd⟩:=r;simp only at fF;unfold zCq zAW at fF;clear hu hr k7 k10 k11
    go_wp2_with (first
     | (go_at_call 106;refine fF.mono ?_;rintro e w1 ⟨rfl,gJ⟩;have fR:=hid gJ;obtain⟨own1,zDs,gP,gQ,fS⟩:=gJ;have fH:=fJ.chg fS (fun h=>h fE.out);clear gP gQ fS)
     | (refine wpList_store_row rfl 67 (.tmp 6) (.tmp 44) rfl (g+1) (zAh cd st0 zAg zAg).toArray rfl (by rfl) 67 _ fH rfl rfl (zAv _ _ _ _ _ _ _ _) ?_))
    have fB:=setRow_heap w1 (g+1) _ (zAh cd st0 zAg zAg).toArray _ _ fH;refine bodyPost_ret (results_cell_row rfl _ _ (g+1) 67 (zAh cd st0 zAg zAg).toArray (0,0) _ rfl fB Tryz.underlying67 rfl rfl) rfl ?_;have fC:Chg (fun b=>b=g+1) w1 (w1.setRow (g+1) (zAh cd st0 zAg zAg).toArray):=(Chg.refl (fun b=>b=g+1) w1).setRow (fun _=>rfl) _;rw [fI.out];rw [fZ.out];refine⟨⟨_,rfl,zAH _ cd st0⟩,?_⟩;exact fR.out.after (by rw [fG.out];exact fO.out) (by rw [fG.out];omega) (by omega) fE.out fC
  have s7:(o.kind==7)=false:=by simpa using k7
  rw [if_neg k7] at hu;by_cases k8:o.kind=8
  · rw [if_pos k8] at hu;have fI:=hid hu
    have s8:(o.kind==8)=true:=by simpa using k8
    by_cases fM:o.off<0∨136704<o.off
    · have hr:T.trunc i o.off=(T,101):=by unfold PT.trunc;rw [if_pos fM]
      have fZ:=hid hr;have fF:=zJC (lay i) o.off w0 fM ⟨fN.2,fN.1⟩;unfold zCq at fF;clear hu hr k7 k8 k10 k11 fM
      go_wp2_with (first
       | (go_at_call 107;refine fF.mono ?_;rintro e w1 ⟨rfl,rfl⟩)
       | (refine wpList_store_row rfl 67 (.tmp 6) (.tmp 51) rfl (g+1) (zAh 101 st0 zAg zAg).toArray rfl (by rfl) 67 _ fJ rfl rfl (zAv _ _ _ _ _ _ _ _) ?_))
      have fB:=setRow_heap w0 (g+1) _ (zAh 101 st0 zAg zAg).toArray _ _ fJ;refine bodyPost_ret (results_cell_row rfl _ _ (g+1) 67 (zAh 101 st0 zAg zAg).toArray (0,0) _ rfl fB Tryz.underlying67 rfl rfl) rfl ?_;have fC:Chg (fun b=>b=g+1) w0 (w0.setRow (g+1) (zAh 101 st0 zAg zAg).toArray):=(Chg.refl (fun b=>b=g+1) w0).setRow (fun _=>rfl) _;rw [fI.out];rw [fZ.out];refine⟨⟨_,rfl,zAH _ 101 st0⟩,?_⟩;exact (zAS.same fD.out (Below.refl _ _)).after (by rw [fG.out];exact fO.out) (by rw [fG.out];omega) (by omega) fE.out fC
    · obtain⟨of,gK⟩:∃ of:Nat,o.off=(of:Int):=⟨o.off.toNat,by omega⟩
      have hr:T.trunc i o.off=(T.upd i (n.cut of),0):=by
       unfold PT.trunc;rw [if_neg fM,zAp fA.out,gK,Int.toNat_natCast]
      have fZ:=hid hr;have fF:=ptrunc_ok own i (lay i) n db of w0 (fD.out.get fA.out) (fD.out.owns _ (zAi fA.out)) (fV.out.ok.get fA.out).1 fY.out (by omega);unfold zCq zAW at fF;rw [gK] at y3;clear hu hr k7 k8 k10 k11 fM
      go_wp2_with (first
       | (go_at_call 107;refine fF.mono ?_;rintro e w1 ⟨rfl,gL,fS⟩;have fR:=hid (node_done fD.out fV.out.ok fA.out gL fS);have fH:=fJ.chg fS (fun h=>fS.of_of_ne fE.out h);clear gL fS)
       | (refine wpList_store_row rfl 67 (.tmp 6) (.tmp 51) rfl (g+1) (zAh 0 st0 zAg zAg).toArray rfl (by rfl) 67 _ fH rfl rfl (zAv _ _ _ _ _ _ _ _) ?_))
      have fB:=setRow_heap w1 (g+1) _ (zAh 0 st0 zAg zAg).toArray _ _ fH;refine bodyPost_ret (results_cell_row rfl _ _ (g+1) 67 (zAh 0 st0 zAg zAg).toArray (0,0) _ rfl fB Tryz.underlying67 rfl rfl) rfl ?_;have fC:Chg (fun b=>b=g+1) w1 (w1.setRow (g+1) (zAh 0 st0 zAg zAg).toArray):=(Chg.refl (fun b=>b=g+1) w1).setRow (fun _=>rfl) _;rw [fI.out];rw [fZ.out];refine⟨⟨_,rfl,zAH _ 0 st0⟩,?_⟩;exact fR.out.after (by rw [fG.out];exact fO.out) (by rw [fG.out];omega) (by omega) fE.out fC
  have s8:(o.kind==8)=false:=by simpa using k8
  rw [if_neg k8] at hu;by_cases k9:o.kind=9
  · rw [if_pos k9,zAp fA.out] at hu;have fI:=hid hu
    have s9:(o.kind==9)=true:=by simpa using k9
    have fF:=zHb (lay i) n db o.off o.len w0 (fD.out.get fA.out) (fV.out.ok.get fA.out).1 fY.out fN gB;obtain⟨an,fP⟩:∃ an,n.read o.off o.len=an:=⟨_,rfl⟩;rw [fP] at fF;unfold zCq at fF;have fQ:=hid fP;clear hu fP k7 k8 k9 k10 k11
    go_wp2_with (first
     | (go_at_call 108;refine fF.mono ?_;rintro e w1 ⟨⟨v,rfl,hA⟩,fK⟩;have gG:=hid hA;obtain⟨dA,dc,eA,ec,rfl,-,-⟩:=hA;have fH:=fJ.fresh fK;have fL:=hid fK;clear fK)
     | (refine wpList_store_row rfl 67 (.tmp 6) (.tmp 59) rfl (g+1) (zAh an.code an.stat (.slice dA an.data.length dc) (.slice eA an.ents.length ec)).toArray rfl (by rfl) 67 _ fH rfl rfl (zAv _ _ _ _ _ _ _ _) ?_))
    have fB:=setRow_heap w1 (g+1) _ (zAh an.code an.stat (.slice dA an.data.length dc) (.slice eA an.ents.length ec)).toArray _ _ fH;refine bodyPost_ret (results_cell_row rfl _ _ (g+1) 67 (zAh an.code an.stat (.slice dA an.data.length dc) (.slice eA an.ents.length ec)).toArray (0,0) _ rfl fB Tryz.underlying67 rfl rfl) rfl ?_;have fC:Chg (fun b=>b=g+1) w1 (w1.setRow (g+1) (zAh an.code an.stat (.slice dA an.data.length dc) (.slice eA an.ents.length ec)).toArray):=(Chg.refl (fun b=>b=g+1) w1).setRow (fun _=>rfl) _;rw [fI.out];rw [fQ.out];refine⟨⟨_,rfl,gG.out.row fH _⟩,?_⟩;exact (zAS.same fD.out fL.out).after (by rw [fG.out];exact fO.out) (by rw [fG.out];omega) (by omega) fE.out fC
  have s9:(o.kind==9)=false:=by simpa using k9
  rw [if_neg k9] at hu;have fI:=hid hu;clear hu k7 k8 k9 k10 k11
  go_wp2_with (first
   | (refine wpList_store_row rfl 67 (.tmp 6) (.tmp 60) rfl (g+1) (zAh 0 st0 zAg zAg).toArray rfl (by rfl) 67 _ fJ rfl rfl (zAv _ _ _ _ _ _ _ _) ?_))
  have fB:=setRow_heap w0 (g+1) _ (zAh 0 st0 zAg zAg).toArray _ _ fJ;refine bodyPost_ret (results_cell_row rfl _ _ (g+1) 67 (zAh 0 st0 zAg zAg).toArray (0,0) _ rfl fB Tryz.underlying67 rfl rfl) rfl ?_;have fC:Chg (fun b=>b=g+1) w0 (w0.setRow (g+1) (zAh 0 st0 zAg zAg).toArray):=(Chg.refl (fun b=>b=g+1) w0).setRow (fun _=>rfl) _;rw [fI.out];refine⟨⟨_,rfl,zAH _ 0 st0⟩,?_⟩;exact (zAS.same fD.out (Below.refl _ _)).after (by rw [fG.out];exact fO.out) (by rw [fG.out];omega) (by omega) fE.out fC
theorem zFf (T:PT) (l:List ByteArray) (dir:Bool) (made:Nat):(T.make l dir made).2.data=[]∧(T.make l dir made).2.ents=[]:=by
 unfold PT.make
 split
 · exact⟨rfl,rfl⟩
 split
 · exact⟨rfl,rfl⟩
 split
 · exact⟨rfl,rfl⟩
 split<;>exact⟨rfl,rfl⟩
structure NmAt (w:World) (B:Nat) (A:Option Addr) (c:Nat) (l:List ByteArray):Prop where
 sees:Sees w B 1 A l.length (strs l)
 len:l.length≤1000000
 cap:l.length≤c
 small:∀ x∈l,x.size≤40
theorem NmAt.big {w:World} {B:Nat} {A:Option Addr} {c:Nat} {l:List ByteArray} (h:NmAt w B A c l):∀ x∈l,x.size≤1000000:=fun x hx=>by have:=h.small x hx;omega
theorem NmAt.fresh {w w1:World} {A:Option Addr} {c:Nat} {l:List ByteArray} (h:NmAt w w.heap.size A c l) (hb:Below w.heap.size w w1):NmAt w1 w1.heap.size A c l:=⟨(h.sees.below hb).more hb.size,h.len,h.cap,h.small⟩
theorem zEB (own:Nat→Option Role) (lay:Nat→NA) (p mb:Nat) (T:PT) (o:Opn) (A:Option Addr) (c:Nat) (A1:Option Addr) (c1:Nat) (l:List ByteArray) (A2:Option Addr) (c2:Nat) (m:List ByteArray) (w:World) (h:PlainAt w own lay p mb T) (hT:T.Wf)
 (hs:Sees w w.heap.size 1 A o.data.length (bvs o.data)) (hc:o.data.length≤c) (gO:o.data.length<1000000000000) (gE:o.off≤9223372036854775807∧-9223372036854775808≤o.off) (gF:o.len≤9223372036854775807∧-9223372036854775808≤o.len)
 (gJ:0≤o.made∧o.made≤1099511627776) (gK:NmAt w w.heap.size A1 c1 l) (gL:NmAt w w.heap.size A2 c2 m) :
 Calls Tryz.prog 43 #[.pointer (some ⟨p,0,none⟩),opV o A c,.slice A1 l.length c1,.slice A2 m.length c2] w (AnsP own p mb (T.does o l m) w):=by
 have hu:=PT.does.eq_1 T o l m;have gG:own (w.heap.size+1)=none:=h.free (by omega);unfold opV opC;go_enter Tryz.func43,Tryz.ntmps43;go_upto_region 1 with (fail);have fW:Blk ((w.alloc (.cells (opC o A c).toArray 70)).alloc (.cells zAs.toArray 67)) w.heap.size 70 (opC o A c):=(Blk.new w _ _).alloc _
 have fN:Blk ((w.alloc (.cells (opC o A c).toArray 70)).alloc (.cells zAs.toArray 67)) (w.heap.size+1) 67 zAs:=by
  have:=Blk.new (w.alloc (.cells (opC o A c).toArray 70)) 67 zAs;simpa using this
 have fU:Below w.heap.size w ((w.alloc (.cells (opC o A c).toArray 70)).alloc (.cells zAs.toArray 67)):=((Below.refl _ _).alloc (Nat.le_refl _) _).alloc (by simp) _
 have gP:((w.alloc (.cells (opC o A c).toArray 70)).alloc (.cells zAs.toArray 67)).heap.size=w.heap.size+2:=by simp
 change Code.wp _ _ _ _ ((w.alloc (.cells (opC o A c).toArray 70)).alloc (.cells zAs.toArray 67));generalize (w.alloc (.cells (opC o A c).toArray 70)).alloc (.cells zAs.toArray 67)=w0 at *;have gM:=h.fresh fU;have gN:=(hs.below fU).more fU.size;have fX:=gK.fresh fU;have fY:=gL.fresh fU;obtain⟨g,gA⟩:∃ g,w.heap.size=g:=⟨_,rfl⟩;rw [gA] at fW fN fU gP gG;simp only [gA];have fI:=hid gA;have fS:=hid fU;have fD:=hid gG;have fG:=hid gM;have gH:=hid gN;have fT:=hid hT;have gQ:=hid hc;have gU:=hid fN;have gR:=hid fW;have fA:=hid fX;have fM:=hid fY;clear gA fU gG gN hs hc h gM hT gK gL fX fY;have y0:=fW.cell 0;have y6:=fW.cell 6;simp only [opC,List.getElem?_cons_succ,List.getElem?_cons_zero] at y0 y6;clear fW;obtain⟨made,gB⟩:∃ made:Nat,o.made=(made:Int):=⟨o.made.toNat,by omega⟩;rw [gB] at y6;by_cases k1:o.kind=1
 · rw [if_pos k1,gB,Int.toNat_natCast] at hu;have fL:=hid hu
   have s1:(o.kind==1)=true:=by simpa using k1
   have fE:=zGX own lay p mb T _ A1 c1 l false made w0 fG.out fT.out (Nat.le_refl _) fA.out.sees fA.out.len fA.out.cap fA.out.small (by omega);have fV:=zFf T l false made;obtain⟨r,hr⟩:∃ r,T.make l false made=r:=⟨_,rfl⟩;rw [hr] at fE fV;have fO:=hid hr;have fR:=hid fV;obtain⟨T1,an⟩:=r;simp only [zCR,PN.kind,ansV] at fE;clear hu hr fV k1
   go_wp2_with (first
    | (go_at_call 67;refine fE.mono ?_;rintro e w1 ⟨rfl,fJ⟩;have fF:=hid fJ;obtain⟨own1,zDs,fP,fQ,fK⟩:=fJ;have fH:=fN.chg fK (fun h=>h fD.out);clear fP fQ fK)
    | (refine wpList_store_row rfl 67 (.tmp 8) (.tmp 19) rfl (g+1) (zAh an.code an.stat zAg zAg).toArray rfl (by rfl) 67 _ fH rfl rfl (zAv _ _ _ _ _ _ _ _) ?_))
   have fB:=setRow_heap w1 (g+1) _ (zAh an.code an.stat zAg zAg).toArray _ _ fH;refine bodyPost_ret (results_cell_row rfl _ _ (g+1) 67 (zAh an.code an.stat zAg zAg).toArray (0,0) _ rfl fB Tryz.underlying67 rfl rfl) rfl ?_;have fC:Chg (fun b=>b=g+1) w1 (w1.setRow (g+1) (zAh an.code an.stat zAg zAg).toArray):=(Chg.refl (fun b=>b=g+1) w1).setRow (fun _=>rfl) _;rw [fL.out];rw [fO.out];refine⟨⟨_,rfl,zBy _ an fR.out.1 fR.out.2⟩,?_⟩;exact fF.out.after (by rw [fI.out];exact fS.out) (by rw [fI.out];omega) (by omega) fD.out fC
 have s1:(o.kind==1)=false:=by simpa using k1
 rw [if_neg k1] at hu;by_cases k2:o.kind=2
 · rw [if_pos k2,gB,Int.toNat_natCast] at hu;have fL:=hid hu
   have s2:(o.kind==2)=true:=by simpa using k2
   have fE:=zGX own lay p mb T _ A1 c1 l true made w0 fG.out fT.out (Nat.le_refl _) fA.out.sees fA.out.len fA.out.cap fA.out.small (by omega);have fV:=zFf T l true made;obtain⟨r,hr⟩:∃ r,T.make l true made=r:=⟨_,rfl⟩;rw [hr] at fE fV;have fO:=hid hr;have fR:=hid fV;obtain⟨T1,an⟩:=r;simp only [zCR,PN.kind,ansV] at fE;clear hu hr fV k2
   go_wp2_with (first
    | (go_at_call 67;refine fE.mono ?_;rintro e w1 ⟨rfl,fJ⟩;have fF:=hid fJ;obtain⟨own1,zDs,fP,fQ,fK⟩:=fJ;have fH:=fN.chg fK (fun h=>h fD.out);clear fP fQ fK)
    | (refine wpList_store_row rfl 67 (.tmp 8) (.tmp 26) rfl (g+1) (zAh an.code an.stat zAg zAg).toArray rfl (by rfl) 67 _ fH rfl rfl (zAv _ _ _ _ _ _ _ _) ?_))
   have fB:=setRow_heap w1 (g+1) _ (zAh an.code an.stat zAg zAg).toArray _ _ fH;refine bodyPost_ret (results_cell_row rfl _ _ (g+1) 67 (zAh an.code an.stat zAg zAg).toArray (0,0) _ rfl fB Tryz.underlying67 rfl rfl) rfl ?_;have fC:Chg (fun b=>b=g+1) w1 (w1.setRow (g+1) (zAh an.code an.stat zAg zAg).toArray):=(Chg.refl (fun b=>b=g+1) w1).setRow (fun _=>rfl) _;rw [fL.out];rw [fO.out];refine⟨⟨_,rfl,zBy _ an fR.out.1 fR.out.2⟩,?_⟩;exact fF.out.after (by rw [fI.out];exact fS.out) (by rw [fI.out];omega) (by omega) fD.out fC
 have s2:(o.kind==2)=false:=by simpa using k2
 rw [if_neg k2] at hu;by_cases k3:o.kind=3
 · rw [if_pos k3] at hu;have fL:=hid hu
   have s3:(o.kind==3)=true:=by simpa using k3
   have fE:=plink_any own lay p mb T _ A1 c1 l A2 c2 m w0 fG.out fT.out fA.out.sees fA.out.len fA.out.big fM.out.sees fM.out.len fM.out.cap fM.out.big;obtain⟨r,hr⟩:∃ r,T.link l m=r:=⟨_,rfl⟩;rw [hr] at fE;have fO:=hid hr;obtain⟨T1,cd⟩:=r;simp only at fE;unfold zAW at fE;clear hu hr k3
   go_wp2_with (first
    | (go_at_call 68;refine fE.mono ?_;rintro e w1 ⟨rfl,fJ⟩;have fF:=hid fJ;obtain⟨own1,zDs,fP,fQ,fK⟩:=fJ;have fH:=fN.chg fK (fun h=>h fD.out);clear fP fQ fK)
    | (refine wpList_store_row rfl 67 (.tmp 8) (.tmp 33) rfl (g+1) (zAh cd st0 zAg zAg).toArray rfl (by rfl) 67 _ fH rfl rfl (zAv _ _ _ _ _ _ _ _) ?_))
   have fB:=setRow_heap w1 (g+1) _ (zAh cd st0 zAg zAg).toArray _ _ fH;refine bodyPost_ret (results_cell_row rfl _ _ (g+1) 67 (zAh cd st0 zAg zAg).toArray (0,0) _ rfl fB Tryz.underlying67 rfl rfl) rfl ?_;have fC:Chg (fun b=>b=g+1) w1 (w1.setRow (g+1) (zAh cd st0 zAg zAg).toArray):=(Chg.refl (fun b=>b=g+1) w1).setRow (fun _=>rfl) _;rw [fL.out];rw [fO.out];refine⟨⟨_,rfl,zAH _ cd st0⟩,?_⟩;exact fF.out.after (by rw [fI.out];exact fS.out) (by rw [fI.out];omega) (by omega) fD.out fC
 have s3:(o.kind==3)=false:=by simpa using k3
 rw [if_neg k3] at hu;by_cases k4:o.kind=4
 · rw [if_pos k4] at hu;have fL:=hid hu
   have s4:(o.kind==4)=true:=by simpa using k4
   have fE:=zHG own lay p mb T _ A1 c1 l w0 fG.out fT.out fA.out.sees fA.out.len fA.out.cap fA.out.big;obtain⟨r,hr⟩:∃ r,T.unlink l=r:=⟨_,rfl⟩;rw [hr] at fE;have fO:=hid hr;obtain⟨T1,cd⟩:=r;simp only at fE;unfold zAW at fE;clear hu hr k4
   go_wp2_with (first
    | (go_at_call 69;refine fE.mono ?_;rintro e w1 ⟨rfl,fJ⟩;have fF:=hid fJ;obtain⟨own1,zDs,fP,fQ,fK⟩:=fJ;have fH:=fN.chg fK (fun h=>h fD.out);clear fP fQ fK)
    | (refine wpList_store_row rfl 67 (.tmp 8) (.tmp 39) rfl (g+1) (zAh cd st0 zAg zAg).toArray rfl (by rfl) 67 _ fH rfl rfl (zAv _ _ _ _ _ _ _ _) ?_))
   have fB:=setRow_heap w1 (g+1) _ (zAh cd st0 zAg zAg).toArray _ _ fH;refine bodyPost_ret (results_cell_row rfl _ _ (g+1) 67 (zAh cd st0 zAg zAg).toArray (0,0) _ rfl fB Tryz.underlying67 rfl rfl) rfl ?_;have fC:Chg (fun b=>b=g+1) w1 (w1.setRow (g+1) (zAh cd st0 zAg zAg).toArray):=(Chg.refl (fun b=>b=g+1) w1).setRow (fun _=>rfl) _;rw [fL.out];rw [fO.out];refine⟨⟨_,rfl,zAH _ cd st0⟩,?_⟩;exact fF.out.after (by rw [fI.out];exact fS.out) (by rw [fI.out];omega) (by omega) fD.out fC
 have s4:(o.kind==4)=false:=by simpa using k4
 rw [if_neg k4] at hu;by_cases k5:o.kind=5
 · rw [if_pos k5] at hu;have fL:=hid hu
   have s5:(o.kind==5)=true:=by simpa using k5
   have fE:=zJM own lay p mb T _ A1 c1 l w0 fG.out fT.out fA.out.sees fA.out.len fA.out.cap fA.out.big;obtain⟨r,hr⟩:∃ r,T.rmdir l=r:=⟨_,rfl⟩;rw [hr] at fE;have fO:=hid hr;obtain⟨T1,cd⟩:=r;simp only at fE;unfold zAW at fE;clear hu hr k5
   go_wp2_with (first
    | (go_at_call 70;refine fE.mono ?_;rintro e w1 ⟨rfl,fJ⟩;have fF:=hid fJ;obtain⟨own1,zDs,fP,fQ,fK⟩:=fJ;have fH:=fN.chg fK (fun h=>h fD.out);clear fP fQ fK)
    | (refine wpList_store_row rfl 67 (.tmp 8) (.tmp 45) rfl (g+1) (zAh cd st0 zAg zAg).toArray rfl (by rfl) 67 _ fH rfl rfl (zAv _ _ _ _ _ _ _ _) ?_))
   have fB:=setRow_heap w1 (g+1) _ (zAh cd st0 zAg zAg).toArray _ _ fH;refine bodyPost_ret (results_cell_row rfl _ _ (g+1) 67 (zAh cd st0 zAg zAg).toArray (0,0) _ rfl fB Tryz.underlying67 rfl rfl) rfl ?_;have fC:Chg (fun b=>b=g+1) w1 (w1.setRow (g+1) (zAh cd st0 zAg zAg).toArray):=(Chg.refl (fun b=>b=g+1) w1).setRow (fun _=>rfl) _;rw [fL.out];rw [fO.out];refine⟨⟨_,rfl,zAH _ cd st0⟩,?_⟩;exact fF.out.after (by rw [fI.out];exact fS.out) (by rw [fI.out];omega) (by omega) fD.out fC
 have s5:(o.kind==5)=false:=by simpa using k5
 rw [if_neg k5] at hu;by_cases k6:o.kind=6
 · rw [if_pos k6] at hu;have fL:=hid hu
   have s6:(o.kind==6)=true:=by simpa using k6
   have fE:=zHE own lay p mb T _ A1 c1 l A2 c2 m w0 fG.out fT.out (Nat.le_refl _) fA.out.sees fA.out.len fA.out.cap fA.out.small fM.out.sees fM.out.len fM.out.cap fM.out.small;obtain⟨r,hr⟩:∃ r,T.rename l m=r:=⟨_,rfl⟩;rw [hr] at fE;have fO:=hid hr;obtain⟨T1,cd⟩:=r;simp only at fE;unfold zAW at fE;clear hu hr k6
   go_wp2_with (first
    | (go_at_call 71;refine fE.mono ?_;rintro e w1 ⟨rfl,fJ⟩;have fF:=hid fJ;obtain⟨own1,zDs,fP,fQ,fK⟩:=fJ;have fH:=fN.chg fK (fun h=>h fD.out);clear fP fQ fK)
    | (refine wpList_store_row rfl 67 (.tmp 8) (.tmp 52) rfl (g+1) (zAh cd st0 zAg zAg).toArray rfl (by rfl) 67 _ fH rfl rfl (zAv _ _ _ _ _ _ _ _) ?_))
   have fB:=setRow_heap w1 (g+1) _ (zAh cd st0 zAg zAg).toArray _ _ fH;refine bodyPost_ret (results_cell_row rfl _ _ (g+1) 67 (zAh cd st0 zAg zAg).toArray (0,0) _ rfl fB Tryz.underlying67 rfl rfl) rfl ?_;have fC:Chg (fun b=>b=g+1) w1 (w1.setRow (g+1) (zAh cd st0 zAg zAg).toArray):=(Chg.refl (fun b=>b=g+1) w1).setRow (fun _=>rfl) _;rw [fL.out];rw [fO.out];refine⟨⟨_,rfl,zAH _ cd st0⟩,?_⟩;exact fF.out.after (by rw [fI.out];exact fS.out) (by rw [fI.out];omega) (by omega) fD.out fC
 have s6:(o.kind==6)=false:=by simpa using k6
 rw [if_neg k6] at hu;by_cases k12:o.kind=12
 · rw [if_pos (.inl k12)] at hu;have fL:=hid hu
   have s12:(o.kind==12)=true:=by simpa using k12
   clear hu k12
   go_wp2_with (first
    | (refine wpList_store_row rfl 67 (.tmp 8) (.tmp 56) rfl (g+1) (zAh 0 st0 zAg zAg).toArray rfl (by rfl) 67 _ fN rfl rfl (zAv _ _ _ _ _ _ _ _) ?_))
   have fB:=setRow_heap w0 (g+1) _ (zAh 0 st0 zAg zAg).toArray _ _ fN;refine bodyPost_ret (results_cell_row rfl _ _ (g+1) 67 (zAh 0 st0 zAg zAg).toArray (0,0) _ rfl fB Tryz.underlying67 rfl rfl) rfl ?_;have fC:Chg (fun b=>b=g+1) w0 (w0.setRow (g+1) (zAh 0 st0 zAg zAg).toArray):=(Chg.refl (fun b=>b=g+1) w0).setRow (fun _=>rfl) _;rw [fL.out];refine⟨⟨_,rfl,zAH _ 0 st0⟩,?_⟩;exact (zAS.same fG.out (Below.refl _ _)).after (by rw [fI.out];exact fS.out) (by rw [fI.out];omega) (by omega) fD.out fC
 have s12:(o.kind==12)=false:=by simpa using k12
 by_cases k14:o.kind=14
 · rw [if_pos (.inr k14)] at hu;have fL:=hid hu
   have s14:(o.kind==14)=true:=by simpa using k14
   clear hu k14
   go_wp2_with (first
    | (refine wpList_store_row rfl 67 (.tmp 8) (.tmp 56) rfl (g+1) (zAh 0 st0 zAg zAg).toArray rfl (by rfl) 67 _ fN rfl rfl (zAv _ _ _ _ _ _ _ _) ?_))
   have fB:=setRow_heap w0 (g+1) _ (zAh 0 st0 zAg zAg).toArray _ _ fN;refine bodyPost_ret (results_cell_row rfl _ _ (g+1) 67 (zAh 0 st0 zAg zAg).toArray (0,0) _ rfl fB Tryz.underlying67 rfl rfl) rfl ?_;have fC:Chg (fun b=>b=g+1) w0 (w0.setRow (g+1) (zAh 0 st0 zAg zAg).toArray):=(Chg.refl (fun b=>b=g+1) w0).setRow (fun _=>rfl) _;rw [fL.out];refine⟨⟨_,rfl,zAH _ 0 st0⟩,?_⟩;exact (zAS.same fG.out (Below.refl _ _)).after (by rw [fI.out];exact fS.out) (by rw [fI.out];omega) (by omega) fD.out fC
 have s14:(o.kind==14)=false:=by simpa using k14
 rw [if_neg (by rintro (h | h);exact k12 h;exact k14 h)] at hu;have fZ:=zDu own lay p mb T _ A1 c1 l w0 fG.out fT.out fA.out.sees fA.out.len fA.out.big;have gC:=zB0 fT.out l 1 (let ⟨n,h,_⟩:=fT.out.root;⟨n,h⟩);obtain⟨r,hr⟩:∃ r,T.walk l 1=r:=⟨_,rfl⟩;rw [hr] at fZ gC hu;obtain⟨i,e1⟩:=r;simp only at fZ gC hu;unfold zAW at fZ;have gI:=hid gC;clear hr gC k1 k2 k3 k4 k5 k6 k12 k14;by_cases gD:e1≠0
 · rw [if_pos gD] at hu;have fL:=hid hu
   have gS:((e1:Int) != 0)=true:=by simp;omega
   clear hu gD
   go_wp2_with (first
    | (go_at_call 72;refine fZ.mono ?_;rintro e w1 ⟨rfl,rfl⟩)
    | (refine wpList_store_row rfl 67 (.tmp 8) (.tmp 66) rfl (g+1) (zAh e1 st0 zAg zAg).toArray rfl (by rfl) 67 _ fN rfl rfl (zAv _ _ _ _ _ _ _ _) ?_))
   have fB:=setRow_heap w0 (g+1) _ (zAh e1 st0 zAg zAg).toArray _ _ fN;refine bodyPost_ret (results_cell_row rfl _ _ (g+1) 67 (zAh e1 st0 zAg zAg).toArray (0,0) _ rfl fB Tryz.underlying67 rfl rfl) rfl ?_;have fC:Chg (fun b=>b=g+1) w0 (w0.setRow (g+1) (zAh e1 st0 zAg zAg).toArray):=(Chg.refl (fun b=>b=g+1) w0).setRow (fun _=>rfl) _;rw [fL.out];refine⟨⟨_,rfl,zAH _ e1 st0⟩,?_⟩;exact (zAS.same fG.out (Below.refl _ _)).after (by rw [fI.out];exact fS.out) (by rw [fI.out];omega) (by omega) fD.out fC
 · have gD:e1=0:=by omega
   subst gD;rw [if_neg (by simp)] at hu;have fL:=hid hu;obtain⟨n,hn⟩:=gI.out rfl;have fE:=pasks_any own lay p mb i T n o A c w0 fG.out fT.out hn gH.out gQ.out gO gE gF;have yc:=fun j=>gR.out.cell j;have z1:=yc 1;have z2:=yc 2;have z3:=yc 3;have z4:=yc 4;have z5:=yc 5;have z7:=yc 7;simp only [opC,List.getElem?_cons_succ,List.getElem?_cons_zero] at z1 z2 z3 z4 z5 z7;unfold opV opC at fE;rw [gB] at fE;obtain⟨r,hr⟩:∃ r,T.asks o i=r:=⟨_,rfl⟩;rw [hr] at fE;have fO:=hid hr;obtain⟨T1,an⟩:=r;clear hu hr hn yc
   go_wp2_with (first
    | (go_at_call 72;refine fZ.mono ?_;rintro e w1 ⟨rfl,rfl⟩)
    | (go_at_call 73;refine fE.mono ?_;rintro e w1 ⟨⟨v,rfl,hA⟩,fJ⟩;have gT:=hid hA;obtain⟨dA,dc,eA,ec,rfl,-,-⟩:=hA;have fF:=hid fJ;obtain⟨own1,zDs,fP,fQ,fK⟩:=fJ;have fH:=fN.chg fK (fun h=>h fD.out);clear fP fQ fK)
    | (refine wpList_store_row rfl 67 (.tmp 8) (.tmp 70) rfl (g+1) (zAh an.code an.stat (.slice dA an.data.length dc) (.slice eA an.ents.length ec)).toArray rfl (by rfl) 67 _ fH rfl rfl (zAv _ _ _ _ _ _ _ _) ?_))
   have fB:=setRow_heap w1 (g+1) _ (zAh an.code an.stat (.slice dA an.data.length dc) (.slice eA an.ents.length ec)).toArray _ _ fH;refine bodyPost_ret (results_cell_row rfl _ _ (g+1) 67 (zAh an.code an.stat (.slice dA an.data.length dc) (.slice eA an.ents.length ec)).toArray (0,0) _ rfl fB Tryz.underlying67 rfl rfl) rfl ?_;have fC:Chg (fun b=>b=g+1) w1 (w1.setRow (g+1) (zAh an.code an.stat (.slice dA an.data.length dc) (.slice eA an.ents.length ec)).toArray):=(Chg.refl (fun b=>b=g+1) w1).setRow (fun _=>rfl) _;rw [fL.out];rw [fO.out];refine⟨⟨_,rfl,gT.out.row fH _⟩,?_⟩;exact fF.out.after (by rw [fI.out];exact fS.out) (by rw [fI.out];omega) (by omega) fD.out fC
end Go.Proofs.YtolpcfhfcdkokaaGreatDoor
