/- Joined out of UFile..UFile. -/
import Derived.Test.YtolpcfhfcdkokaaGreatDoorQ49
set_option maxHeartbeats 16000000
set_option maxRecDepth 100000
namespace Go.Proofs.YtolpcfhfcdkokaaGreatDoor
open Lib (hid)
open Go.RowKit
theorem run_quest {T:PT} {o:Opn} (h:o.kind=9∨o.kind=10∨o.kind=11):(T.run o).1=T:=by
 have key:∀ (c:Prop) [Decidable c] (a b:PT×Ans),a.1=T→b.1=T→(if c then a else b).1=T:=fun c _ a b h1 h2=>by split<;>assumption
 unfold PT.run;refine key _ _ _ rfl (key _ _ _ rfl (key _ _ _ rfl ?_))
 show (T.does o _ _).1=T
 unfold PT.does;rw [if_neg (by omega),if_neg (by omega),if_neg (by omega),if_neg (by omega),if_neg (by omega),if_neg (by omega),if_neg (by omega)];refine key _ _ _ rfl ?_;unfold PT.asks;rcases h with h | h | h
 · rw [if_neg (by omega),if_neg (by omega)];refine key _ _ _ rfl ?_;rw [if_neg (by omega),if_neg (by omega),if_pos h]
 · rw [if_pos h]
 · rw [if_neg (by omega),if_pos h]
theorem run_q {T:PT} {o:Opn} (h:o.kind=9∨o.kind=10∨o.kind=11) {an:Ans} (ha:(T.run o).2=an):T.run o=(T,an):=Prod.ext (run_quest h) ha
theorem uask_L (S:Nat→Prop) (B:Nat) (v vi:Value) (t:Tr) (T:PT) (x:ByteArray) (an:Ans) (w:World) (ha:(T.run (opL x)).2=an) (hk:Blk w B 94 (zC8 t v vi 0)) (h:RefS S w t T) (hS:∀ b,S b→b<w.heap.size) (fA:S B) (hT:T.Inv) :
 Calls Tryz.prog 54 #[.pointer (some ⟨B,0,none⟩),.agg #[.int .i64 11,.string x,.string ⟨#[]⟩,.int .i64 0,.int .i64 0,.slice none 0 0,.int .i64 0,.int .i64 0]] w (AskU S B v vi T an w) :=
 zGj S B v vi t T T (opL x) an none 0 w (run_q (.inr (.inr rfl)) ha) hk h hS fA hT Sees.nil (Nat.zero_le _)
theorem uask_S (S:Nat→Prop) (B:Nat) (v vi:Value) (t:Tr) (T:PT) (x:ByteArray) (an:Ans) (w:World) (ha:(T.run (opS x)).2=an) (hk:Blk w B 94 (zC8 t v vi 0)) (h:RefS S w t T) (hS:∀ b,S b→b<w.heap.size) (fA:S B) (hT:T.Inv) :
 Calls Tryz.prog 54 #[.pointer (some ⟨B,0,none⟩),.agg #[.int .i64 10,.string x,.string ⟨#[]⟩,.int .i64 0,.int .i64 0,.slice none 0 0,.int .i64 0,.int .i64 0]] w (AskU S B v vi T an w) :=
 zGj S B v vi t T T (opS x) an none 0 w (run_q (.inr (.inl rfl)) ha) hk h hS fA hT Sees.nil (Nat.zero_le _)
theorem uask_R (S:Nat→Prop) (B:Nat) (v vi:Value) (t:Tr) (T:PT) (x:ByteArray) (k m:Int) (an:Ans) (w:World) (ha:(T.run (opR x k m)).2=an) (hk:Blk w B 94 (zC8 t v vi 0)) (h:RefS S w t T) (hS:∀ b,S b→b<w.heap.size) (fA:S B) (hT:T.Inv) :
 Calls Tryz.prog 54 #[.pointer (some ⟨B,0,none⟩),.agg #[.int .i64 9,.string x,.string ⟨#[]⟩,.int .i64 k,.int .i64 m,.slice none 0 0,.int .i64 0,.int .i64 0]] w (AskU S B v vi T an w) :=
 zGj S B v vi t T T (opR x k m) an none 0 w (run_q (.inl rfl) ha) hk h hS fA hT Sees.nil (Nat.zero_le _)
theorem zFk {w:World} {g:Nat} {a b c d e:Value} (h:Blk w g 75 [a,b,c,d,e]):w.cell? ⟨g,0,none⟩=some a∧w.cell? ⟨g,1,none⟩=some b∧w.cell? ⟨g,2,none⟩=some c∧w.cell? ⟨g,3,none⟩=some d∧w.cell? ⟨g,4,none⟩=some e:=⟨h.cell 0,h.cell 1,h.cell 2,h.cell 3,h.cell 4⟩
def Push1 (w0 wa:World) (B:Nat) (T:PT) (v vi:Value) (l:List Nd) (js:List Nat) (x:Nd) (wx:World):Prop :=
 ∃ A9 c9,TldW w0 wx B T (.slice A9 (l.length+1) c9) vi (l++[x]) js∧GrU B wa v vi wx (.slice A9 (l.length+1) c9) vi
def Push2 (w0 wa:World) (B:Nat) (T:PT) (v vi:Value) (l:List Nd) (js:List Nat) (j:Nat) (wx:World):Prop :=
 ∃ v2,TldW w0 wx B T v v2 l (js++[j])∧GrU B wa v vi wx v v2
def FilQ (w0 w:World) (B q:Nat) (T:PT) (v vi:Value) (l:List Nd) (js:List Nat) (x fs:ByteArray) (made:Int) (d:List UInt8) (sc:List Value) (wx:World):Prop :=
 ∃ A5 c5,Blk wx q 75 [.string x,.int .i64 1,.int .i64 made,.string fs,.slice A5 d.length c5]∧wx.ownsRow q 5 1 (.slice A5 d.length c5) d.length (bvs d)∧TldW w0 wx B T v vi l js∧Chg (fun b=>b=B) w wx∧Blk wx (q+1) 63 sc
def FilI (w2:World) (B q:Nat) (T:PT) (v vi:Value) (x:ByteArray) (made:Int) (d:Dat) (size:Nat) (wr:World):Prop :=
 ∃ k A5 c5 t,k≤size∧wr.ownsRow w2.heap.size 5 1 (.slice A5 k c5) k (bvs (rdL d 0 k))∧Blk wr q 75 [.string x,.int .i64 1,.int .i64 made,.string ⟨#[]⟩,.slice A5 k c5]∧Blk wr B 94 (zC8 t v vi 0) ∧
  RefS (fun b=>TS B v vi b∨b=q∨(Value.slice A5 k c5).ownBlock=some b) wr t T∧Chg (fun b=>b=B∨b=q) w2 wr
def dLen (w:World) (q:Nat):Nat:=slLen ((w.cell? ⟨q,4,none⟩).getD undef)
theorem ufile_any (w0:World) (B:Nat) (T:PT) (v vi:Value) (l:List Nd) (js:List Nat) (s:DS) (w:World) (hI:T.Inv) (ns:List ByteArray) (j:Nat) (n:PN) (hw:T.walk ns 1=(j,0)) (hg:zAd j T.nodes=some n) (hd:n.dir=false) (hc:∀ x∈ns,chk x=true) (kZ:(pth ns).size≤400)
 (hD:TldAt w0 w B T v vi l js s) (jR:l.length≤1000000) :
 Calls Tryz.prog 56 #[.pointer (some ⟨B,0,none⟩),.agg #[.string (pth ns),.int .i64 1,.int .i64 (n.made:Int),.string ⟨#[]⟩,.slice none 0 0],.agg #[.int .i64 (j:Int),.int .i64 n.kind,.int .i64 n.links,.int .i64 (n.size:Int),.int .i64 n.made,.int .i64 n.count]] w (TldP w0 B T v vi w (T.step s (ns,j),0)):=by
 obtain⟨Q,hQ⟩:∃ Q,TldP w0 B T v vi w (T.step s (ns,j),0)=Q:=⟨_,rfl⟩;rw [hQ];have mG:=hid hQ;obtain⟨A8,c8,mH,-⟩:=Sees.of_own (B:=w.heap.size) hD.mem.own.row fun g hg=>(hD.mem.own.row.lt g hg).2;subst mH;obtain⟨Ai,ci,mI,lA⟩:=Sees.of_own (B:=w.heap.size) hD.mem.ino fun g hg=>(hD.mem.ino.lt g hg).2;subst mI;obtain⟨A8',c8',jS,lB⟩:=hD.mem.own.nodes;injection jS with e1 _ e2;subst e1 e2;have lC:=zER hc kZ
 have fO:T.isDir j=false:=by rw [zAn hg];exact hd
 have mJ:=(hI.gr.ok.get hg).1.size;obtain⟨x,hx⟩:∃ x,pth ns=x:=⟨_,rfl⟩;rw [hx] at lC kZ ⊢;have jT:=hD.fst.get fO;obtain⟨fs,fA⟩:∃ fs,(zAd j s.first).getD emp=fs:=⟨_,rfl⟩;rw [fA] at jT;obtain⟨dd,fB⟩:∃ dd,(if (zAd j s.first).isSome=true then [] else rdL n.data 0 n.size)=dd:=⟨_,rfl⟩
 have fM:T.step s (ns,j)=⟨s.nodes++[⟨x,1,(n.made:Int),fs,dd⟩],(T.step s (ns,j)).first⟩:=by
  unfold PT.step;rw [if_neg (by rw [fO];simp),zAp hg,hx]
  cases fE:zAd j s.first with
  | some q=>rw [fE] at fA fB;simp only [Option.getD_some] at fA;simp only [Option.isSome_some,if_true] at fB;rw [←fA,←fB]
  | none=>rw [fE] at fA fB;simp only [Option.getD_none] at fA;simp at fB;rw [←fA,←fB]
 have gB:=hD.fst
 have gC:∀ i q,zAd i (T.step s (ns,j)).first=some q→q≠emp:=fun i q e=>by
  unfold PT.step at e;rw [if_neg (by rw [fO];simp)] at e
  cases fE:zAd j s.first with
  | some q'=>rw [fE] at e;exact hD.fne i q e
  | none =>
   rw [fE] at e;simp only at e;by_cases h:i=j
   · subst h;rw [zAu] at e;injection e with e;rw [←e];exact zFq ns
   · rw [zAl zAG _ h] at e;exact hD.fne i q e
 obtain⟨q,hz⟩:∃ q,w.heap.size=q:=⟨_,rfl⟩;have gD:Blk ((w.alloc (.cells #[.string x,.int .i64 1,.int .i64 (n.made:Int),.string ⟨#[]⟩,.slice none 0 0] 75)).alloc (.cells #[.int .i64 (j:Int),.int .i64 n.kind,.int .i64 n.links,.int .i64 (n.size:Int),.int .i64 n.made,.int .i64 n.count] 63)) w.heap.size 75 [.string x,.int .i64 1,.int .i64 (n.made:Int),.string ⟨#[]⟩,.slice none 0 0]:=(Blk.new w 75 [.string x,.int .i64 1,.int .i64 (n.made:Int),.string ⟨#[]⟩,.slice none 0 0]).alloc _
 have jH:Blk ((w.alloc (.cells #[.string x,.int .i64 1,.int .i64 (n.made:Int),.string ⟨#[]⟩,.slice none 0 0] 75)).alloc (.cells #[.int .i64 (j:Int),.int .i64 n.kind,.int .i64 n.links,.int .i64 (n.size:Int),.int .i64 n.made,.int .i64 n.count] 63)) (w.heap.size+1) 63 [.int .i64 (j:Int),.int .i64 n.kind,.int .i64 n.links,.int .i64 (n.size:Int),.int .i64 n.made,.int .i64 n.count]:=by
  have:=Blk.new (w.alloc (.cells #[.string x,.int .i64 1,.int .i64 (n.made:Int),.string ⟨#[]⟩,.slice none 0 0] 75)) 63 [.int .i64 (j:Int),.int .i64 n.kind,.int .i64 n.links,.int .i64 (n.size:Int),.int .i64 n.made,.int .i64 n.count];simpa using this
 have fY:Below w.heap.size w ((w.alloc (.cells #[.string x,.int .i64 1,.int .i64 (n.made:Int),.string ⟨#[]⟩,.slice none 0 0] 75)).alloc (.cells #[.int .i64 (j:Int),.int .i64 n.kind,.int .i64 n.links,.int .i64 (n.size:Int),.int .i64 n.made,.int .i64 n.count] 63)):=((Below.refl _ _).alloc (Nat.le_refl _) _).alloc (by simp) _;have fP:=hid hD.mem;have mK:=hid hD.tn;have jI:=hid hD.len;have jU:=hD.mem.fresh fY;have fQ:=lB.below fY;have jV:=lA.below fY
 have lD:js.length≤1000000:=by rw [jI.out];exact jR
 have fR:=fun (W:World) (B':Nat) (hN:NodesAt W B' A8 l) (hI:Sees W B' 1 Ai js.length (nats js))=>first_any l js j A8 c8 Ai ci W B' hN hI jI.out.symm (by omega);rw [jT] at fR;rw [hz] at gD jH fY fQ jV;have gE:=hid fA;have gF:=hid fB;have fS:=hid fM;have gG:=hid gB;have gH:=hid gC;have fN:=hid hz;have mL:=hid hI;have gI:=hid hD.fne;have oG:=hI.gr.ok.get hg;have oH:=hI.gr.ok.ino;clear hQ hD lB lA jT fA fB fM gB gC;go_enter Tryz.func56,Tryz.ntmps56;go_upto_region 1 with (fail)
 try simp only [hz]
 change Code.wp _ _ _ _ ((w.alloc (.cells #[.string x,.int .i64 1,.int .i64 (n.made:Int),.string ⟨#[]⟩,.slice none 0 0] 75)).alloc (.cells #[.int .i64 (j:Int),.int .i64 n.kind,.int .i64 n.links,.int .i64 (n.size:Int),.int .i64 n.made,.int .i64 n.count] 63));generalize (w.alloc (.cells #[.string x,.int .i64 1,.int .i64 (n.made:Int),.string ⟨#[]⟩,.slice none 0 0] 75)).alloc (.cells #[.int .i64 (j:Int),.int .i64 n.kind,.int .i64 n.links,.int .i64 (n.size:Int),.int .i64 n.made,.int .i64 n.count] 63)=w1 at *;clear hz;have lE:=fR w1.drew q (fQ.keep fun _ _=>rfl) (jV.keep fun _ _=>rfl);obtain⟨t1,lF,-⟩:=jU.blk;obtain⟨-,-,-,-,y4,y5,-⟩:=zD1 lF;have s0:w1.cell? ⟨q+1,0,none⟩=some (.int .i64 (j:Int)):=jH.cell 0;obtain⟨e0,e1,e2,e3,e4⟩:=zFk gD;have f3:=gD.frozen 3;have jW:=hid jU
 have oI:q≠B:=by have:=(fP.out.ts B (.inl rfl)).2;have:=fN.out;omega
 have gJ:=hid gD;have gK:=hid jH;have fT:=hid fY;clear lF jU fQ jV fR gD jH fY
 go_region_held3 (fun w'=>w'.cell? ⟨B,4,none⟩=some (.slice A8 l.length c8)∧w'.cell? ⟨B,5,none⟩=some (.slice Ai js.length ci)∧w'.cell? ⟨q+1,0,none⟩=some (.int .i64 (j:Int)))
  (first | go_keep)
  (first
   | (go_at_call 88;refine lE.mono ?_;rintro e w' ⟨rfl,rfl⟩))
 go_upto_region 2 with (fail);change Code.wp _ _ _ _ (w1.setCell ⟨q,3,none⟩ (.string fs)).drew;have jX:Chg (fun b=>b=q) w1 (w1.setCell ⟨q,3,none⟩ (.string fs)).drew:=((Chg.refl (fun b=>b=q) w1).setCell (p:=⟨q,3,none⟩) (fun _=>rfl) _).drew;have jY:=(gJ.out.set_ 3 (.string fs)).drew;have lG:=gK.out.chg jX (by omega)
 have jZ:Below w.heap.size w (w1.setCell ⟨q,3,none⟩ (.string fs)).drew:=by rw [fN.out];exact fT.out.trans (jX.below (by have:=fT.out.size;have:=fN.out;omega) fun b hb e=>by omega)
 have lH:=fP.out.fresh jZ;clear e0 e1 e2 e3 e4 f3 y4 y5 s0 lE jX gJ gK fT jW;generalize (w1.setCell ⟨q,3,none⟩ (.string fs)).drew=w2 at *;have e3:w2.cell? ⟨q,3,none⟩=some (.string fs):=jY.cell 3;have fU:=hid jY;have gL:=hid lG;have fI:=hid jZ;have kA:=hid lH;clear jY lG jZ lH;obtain⟨be,lI⟩:∃ be,fs.toList.isEmpty=be:=⟨_,rfl⟩
 go_upto_if 23 with (fail)
 clear e3
 go_cut [] from 7 to 61 (fun wx=>FilQ w0 w B q T (.slice A8 l.length c8) (.slice Ai js.length ci) l js x fs n.made dd [.int .i64 (j:Int),.int .i64 n.kind,.int .i64 n.links,.int .i64 (n.size:Int),.int .i64 n.made,.int .i64 n.count] wx)
 case first =>
  cases fE:zAd j s.first with
  | some qn =>
   have fJ:=gE.out;rw [fE] at fJ;simp only [Option.getD_some] at fJ;have fH:=gF.out;rw [fE] at fH;simp only [Option.isSome_some,if_true] at fH
   have kC:be=false:=by rw [←lI,←fJ];exact zCZ (gI.out _ _ fE)
   have fC:FilQ w0 w B q T (.slice A8 l.length c8) (.slice Ai js.length ci) l js x fs n.made dd [.int .i64 (j:Int),.int .i64 n.kind,.int .i64 n.links,.int .i64 (n.size:Int),.int .i64 n.made,.int .i64 n.count] w2:=by
    refine⟨none,0,?_,?_,kA.out,Chg.of_fresh fI.out,gL.out⟩
    · rw [←fH];exact fU.out
    · rw [←fH];exact World.ownsRow_nil _ _ _ _
   have fD:=hid fC;clear fC fH fJ fE;subst kC;go_wp2;go_meet;exact fD.out
  | none =>
   have fJ:=gE.out;rw [fE] at fJ;simp only [Option.getD_none] at fJ;have fH:=gF.out;rw [fE] at fH
   simp at fH
   have lJ:fs=⟨#[]⟩:=fJ.symm
   have kC:be=true:=by rw [←lI,lJ];exact zCd rfl
   subst lJ;obtain⟨size,kD⟩:∃ size,n.size=size:=⟨_,rfl⟩;obtain⟨tw,lK,lL⟩:=fP.out.blk
   have gM:Hid (∀ k m:Nat,k<size→m≤131072→m≤size-k→(T.run (opR x k m)).2=⟨0,st0,rdL n.data k m,[]⟩):=hid fun k m hk oJ oK=>by
    have hr:n.read (k:Int) (m:Int)=⟨0,st0,rdL n.data k m,[]⟩:=by
     unfold PN.read;rw [if_neg (by omega),if_neg (by omega)];simp only [Int.toNat_natCast];rw [show min m (n.size-k)=m by omega]
    rw [zIM lC hw hg hd,hr];rfl
   have lM:=hid fH;rw [kD] at mJ;obtain⟨i0,hi,mM,mN,mO⟩:=info_parts zCV;have oL:q<w2.heap.size:=fU.out.lt
   have gN:FilI w2 B q T (.slice A8 l.length c8) (.slice Ai js.length ci) x n.made n.data size w2:=⟨0,none,0,tw,Nat.zero_le _,World.ownsRow_nil _ _ _ _,fU.out,lK.fresh fI.out,lL.wide fI.out (fun b hb=>by
    rcases hb with h | h | h
    · exact .inl h
    · exact .inr (by have:=fN.out;omega)
    · cases h),Chg.refl _ _⟩
   have gO:=hid gN;have gP:=hid kD
   have fK:Hid (∀ b,TS B (.slice A8 l.length c8) (.slice Ai js.length ci) b→b<q):=hid fun b hb=>by rw [←fN.out];exact (fP.out.ts b hb).2
   have oM:=hid hd;clear gN fJ fH fE lK lL kD hd;subst kC;go_wp2
   go_loopw [7,8] (fun _ _ wr=>FilI w2 B q T (.slice A8 l.length c8) (.slice Ai js.length ci) x n.made n.data size wr) (fun _ _ wr=>size-dLen wr q)
   case atStart=>exact gO.out
   case round =>
    obtain⟨k,A5,c5,t3,hk,ho,jJ,kE,kF,jK⟩:=hrel;obtain⟨e0,-,-,-,e4⟩:=zFk jJ;have kG:=gL.out.chg jK (by have:=fK.out B (.inl rfl);omega);have s3:_=some (Value.int .i64 (n.size:Int)):=kG.cell 3;rw [gP.out] at s3;have gQ:=hid jK;have oN:=jK.size;by_cases lN:k<size
    · have t1:decide ((k:Int)<(size:Int))=true:=by simpa using lN
      obtain⟨m,lO⟩:∃ m,min 131072 (size-k)=m:=⟨_,rfl⟩
      have oO:min 131072 ((size:Int)-(k:Int))=(m:Int):=by omega
      have lP:∀ b,(TS B (.slice A8 l.length c8) (.slice Ai js.length ci) b∨b=q∨(Value.slice A5 k c5).ownBlock=some b)→b<wr.heap.size:=fun b hb=>by
       rcases hb with h | h | h
       · have:=fK.out b h;omega
       · omega
       · exact (ho.lt b h).2
      have lQ:=uask_R (fun b=>TS B (.slice A8 l.length c8) (.slice Ai js.length ci) b∨b=q∨(Value.slice A5 k c5).ownBlock=some b) B (.slice A8 l.length c8) (.slice Ai js.length ci) t3 T x k m _ wr (gM.out k m lN (by omega) (by omega)) kE kF lP (.inl (.inl rfl)) mL.out;have lR:=hid lO;have lS:=hid ho;have gR:=hid jJ
      have oP:((m:Int)==0)=false:=by simp;omega
      clear lO kE kF lP kG jK ho jJ
      go_upto_region 5 with (first
       | (go_at_call 54;refine lQ.mono ?_;rintro e w3 ⟨t4,va,rfl,hA,kI,lT,lU⟩;obtain⟨dA,dc,eA,ec,rfl,kJ,-,lV,-⟩:=hA;simp only [List.length_nil,zAD] at kJ lV kI ⊢;have fQ:=Blk.new w3 67 zAs)
       | (refine wpList_store_row rfl 67 (.tmp 7) (.tmp 46) rfl w3.heap.size (zAh 0 st0 (.slice dA m dc) (.slice eA 0 ec)).toArray rfl (by rfl) 67 _ fQ rfl rfl (zAv _ _ _ _ _ _ _ _) ?_))
      have lW:Blk ((w3.alloc (.cells zAs.toArray 67)).setRow w3.heap.size (zAh 0 st0 (.slice dA m dc) (.slice eA 0 ec)).toArray) w3.heap.size 67 (zAh 0 st0 (.slice dA m dc) (.slice eA 0 ec)):=setRow_heap (w3.alloc (.cells zAs.toArray 67)) w3.heap.size _ (zAh 0 st0 (.slice dA m dc) (.slice eA 0 ec)).toArray _ _ fQ
      have fZ:Below w3.heap.size w3 ((w3.alloc (.cells zAs.toArray 67)).setRow w3.heap.size (zAh 0 st0 (.slice dA m dc) (.slice eA 0 ec)).toArray):=((Chg.refl (fun b=>w3.heap.size≤b) w3).alloc _ |>.setRow (fun _=>Nat.le_refl _) _).below (Nat.le_refl _) fun b hb e=>by omega
      have mP:=(kJ.below fZ).more fZ.size;have gS:Chg (fun b=>b=B) wr ((w3.alloc (.cells zAs.toArray 67)).setRow w3.heap.size (zAh 0 st0 (.slice dA m dc) (.slice eA 0 ec)).toArray):=lU.trans (Chg.of_fresh (S:=fun b=>b=B) fZ) (fun _ _ h=>h) (fun _ _ h=>h);have jL:Hid (∀ g,(Value.slice A5 k c5).ownBlock=some g→w2.heap.size≤g):=hid fun g e=>(lS.out.lt g e).1;have mQ:=fK.out B (.inl rfl)
      have fF:=zAo lS.out gS fun g e h9=>by have:=jL.out g e;omega
      have kK:=gR.out.chg gS (by omega);have fL:=hid (kI.fresh fZ);have mR:=hid (lT.fresh fZ);have gT:=hid gS;change Code.wp _ _ _ _ ((w3.alloc (.cells zAs.toArray 67)).setRow w3.heap.size (zAh 0 st0 (.slice dA m dc) (.slice eA 0 ec)).toArray);generalize (w3.alloc (.cells zAs.toArray 67)).setRow w3.heap.size (zAh 0 st0 (.slice dA m dc) (.slice eA 0 ec)).toArray=w4 at *;have x7:w4.cell? ⟨w3.heap.size,7,none⟩=some (.slice dA m dc):=lW.cell 7;obtain⟨-,-,-,-,e4'⟩:=zFk kK;have kL:=hid kK;have mS:=hid (rdL_add n.data k m)
      have mT:k+m≤size:=by have:=lR.out;omega
      have mU:w2.heap.size≤w4.heap.size:=by have:=gS.size;omega
      clear fQ fZ kJ lV lU kI lT lQ gS lW kK e0 e4 s3;generalize lX:rdL n.data k m=d2 at *;generalize mV:rdL n.data 0 k=dk at *
      have gU:d2.length=m:=by rw [←lX,zAD]
      have lY:=hid gU;clear lX mV gU
      go_wp2_with (first
       | (at_builtin;refine zAk _ rfl (.tmp 57) (.tmp 59) _ _ rfl w2.heap.size 5 i0 (.int .u8 0) 1 1 Tryz.underlying64 hi mM mN mO rfl (.slice A5 k c5) k (bvs dk) rfl fF m (bvs d2) (zCK w4 Tryz.underlying64 dc mP (zCG d2)) (by unfold maxLen;omega) (by omega) mU ?_;intro v5 w5 jM lZ kM;have jN:=kL.out.law lZ (fun e=>by have:=jL.out _ e;omega);obtain⟨A9,c9,gV,-⟩:=Sees.of_own (B:=w5.heap.size) jM fun g hg=>(jM.lt g hg).2;subst gV;have z4:=jN.cell 4;have f4:=jN.frozen 4;simp only [List.getElem?_cons_succ,List.getElem?_cons_zero] at z4))
      go_roundw
      case rel =>
       have mW:Chg (fun b=>(Value.slice A5 k c5).ownBlock=some b) w4 w5:=(Chg.refl _ w4).grown lZ fun g e _=>e;have mA:Chg (fun b=>b=q) w5 (w5.setCell ⟨q,4,none⟩ (.slice A9 (k+m) c9)):=(Chg.refl (fun b=>b=q) w5).setCell (p:=⟨q,4,none⟩) (fun _=>rfl) _;have fV:Chg (fun b=>(Value.slice A5 k c5).ownBlock=some b∨b=q) w4 (w5.setCell ⟨q,4,none⟩ (.slice A9 (k+m) c9)):=mW.trans mA (fun _ _ h=>.inl h) (fun _ _ h=>.inr h);have mX:=gT.out.size;refine⟨k+m,A9,c9,t4,mT,?_,jN.set_ 4 _,fL.out.chg fV (fun h=>?_),mR.out.grow (fV.mono fun b _ h=>?_) fun b hb=>?_,?_⟩
       · rw [mS.out,zB6];exact zAo jM mA fun g hg e=>by have:=(jM.lt g hg).1;omega
       · rcases h with h | h
         · have:=jL.out _ h;omega
         · omega
       · rcases h with h | h
         · exact .inr (.inr h)
         · exact .inr (.inl h)
       · rcases hb with h | h | h
         · exact .inl (.inl h)
         · exact .inl (.inr (.inl h))
         · rcases kM with e | e
           · rw [e] at h;exact .inl (.inr (.inr h))
           · rw [e] at h;injection h with h;exact .inr (by omega)
       · refine (gQ.out.trans gT.out (fun _ _ h=>h) (fun b _ e=>.inl e)).trans fV (fun _ _ h=>h) fun b hb h=>?_;rcases h with h | h
         · have:=jL.out _ h;omega
         · exact .inr h
      case measure =>
       have h1:=(jN.set_ 4 (.slice A9 (k+m) c9)).cell 4;have h2:=gR.out.cell 4;simp only [List.set_cons_succ,List.set_cons_zero,List.getElem?_cons_succ,List.getElem?_cons_zero] at h1 h2;unfold dLen;rw [h1,h2]
       show size-(k+m)<size-k
       have:=lR.out;omega
    · obtain rfl:k=size:=by omega
      have t1:decide ((k:Int)<(k:Int))=false:=by simp
      have fC:FilQ w0 w B q T (.slice A8 l.length c8) (.slice Ai js.length ci) l js x ⟨#[]⟩ n.made dd [.int .i64 (j:Int),.int .i64 n.kind,.int .i64 n.links,.int .i64 (n.size:Int),.int .i64 n.made,.int .i64 n.count] wr:=by
       have mB:=gP.out
       have mC:dd.length=k:=by rw [←lM.out,zAD];exact mB
       have mQ:=fK.out B (.inl rfl)
       have mD:Chg (fun b=>b=B) w wr:=(Chg.of_fresh (S:=fun b=>b=B) fI.out).trans gQ.out (fun _ _ h=>h) fun b hb h=>h.elim id fun h=>by have:=fN.out;omega
       refine⟨A5,c5,by rw [mC];exact jJ,?_,fP.out.turn mD kE (kF.mono fun _ h=>.inl h),mD,kG⟩;rw [mC,←lM.out,mB];exact zBT ho fun g hg=>by have:=(ho.lt g hg).1;omega
      have fD:=hid fC;clear fC;go_wp2;go_meet;exact fD.out
 case rest =>
  obtain⟨A5,c5,gW,gX,gY,gZ,jA⟩:=hcut;generalize wc=wa at *;have mY:=hid gW;have mZ:=hid (show wa.ownsRow w.heap.size 5 1 (ndV ⟨x,1,n.made,fs,A5,c5,dd⟩) dd.length (bvs dd) from by rw [fN.out];exact gX);have jO:=hid gY;have mE:=hid gZ;have oA:=hid jA;clear gW gX gY gZ jA;obtain⟨tA,jB,-⟩:=jO.out.blk;have kN:=hid jB;obtain⟨-,-,-,-,y4,-,-⟩:=zD1 jB;have y4':=(jB.alloc (.cells [.string x,.int .i64 1,.int .i64 (n.made:Int),.string fs,.slice A5 dd.length c5].toArray 75)).cell 4;simp only [zC8,List.getElem?_cons_succ,List.getElem?_cons_zero] at y4';obtain⟨e0,e1,e2,e3,e4⟩:=zFk mY.out;have oB:B<wa.heap.size:=jB.lt;have gA:Hid (Below wa.heap.size wa (wa.alloc (.cells [.string x,.int .i64 1,.int .i64 (n.made:Int),.string fs,.slice A5 dd.length c5].toArray 75)).drew):=hid (((Below.refl _ _).alloc (Nat.le_refl _) _).drew);have jC:=hid (zAN jO.out.own.row gA.out);have jD:=hid (zBP (P:=Tryz.prog) (tx:=31) Tryz.underlying31 (Blk.drew (Blk.new wa 75 [.string x,.int .i64 1,.int .i64 (n.made:Int),.string fs,.slice A5 dd.length c5])) (by intro u hu;simp only [List.mem_cons,List.not_mem_nil,or_false] at hu;rcases hu with rfl | rfl | rfl | rfl | rfl<;>rfl));have kO:Hid (∀ g,(Value.slice A8 l.length c8).ownBlock=some g→B+1≤g):=hid fun g hg=>(jO.out.own.row.lt g hg).1;obtain⟨iN,oC,kP,kQ,kR⟩:=info_parts zEo;clear jB;go_upto_region 8 with (fail)
  go_cut [] from 62 to 71 (fun wx=>Push1 w0 wa B T (.slice A8 l.length c8) (.slice Ai js.length ci) l js ⟨x,1,n.made,fs,A5,c5,dd⟩ wx)
  case first =>
   go_region_law (refine zBw _ (by rfl) (.tmp 66) (.tmp 68) _ _ (by rfl) (B+1) 75 iN _ 5 72 Tryz.underlying31 oC kP kQ kR rfl (.slice A8 l.length c8) l.length (ncs l) (by rfl) jC.out 1 [.string x,.int .i64 1,.int .i64 (n.made:Int),.string fs,.slice A5 dd.length c5] jD.out (by unfold maxLen;omega) (by omega) (by simp;omega) ?_;intro v4 w4 fF fW fG;have fL:=((kN.out.fresh gA.out).law fW (fun e=>by have:=kO.out _ e;omega));obtain⟨A9,c9,gV,-⟩:=Sees.of_own (B:=w4.heap.size) fF fun g hg=>(fF.lt g hg).2;subst gV;have z4:=fL.cell 4;have f4:=fL.frozen 4;simp only [zC8,List.getElem?_cons_succ,List.getElem?_cons_zero] at z4)
   all_goals
    obtain⟨p1,p2⟩:=TldW.push1 (x:=⟨x,1,n.made,fs,A5,c5,dd⟩) fP.out (mE.out.trans (Chg.of_fresh (S:=fun b=>b=B) gA.out) (fun _ _ h=>h) (fun _ _ h=>h)) (jO.out.fresh gA.out) (zAN mZ.out gA.out) fF fW fG;have hp:=hid (show Push1 w0 wa B T (.slice A8 l.length c8) (.slice Ai js.length ci) l js ⟨x,1,n.made,fs,A5,c5,dd⟩ _ from ⟨A9,c9,p1,(GrU.fresh _ _ gA.out).trans p2⟩);clear p1 p2 fF fW fG fL;go_wp2;go_meet;exact hp.out
  case rest =>
   obtain⟨A9,c9,jE,fX⟩:=hcut;generalize wc=wb at *;have jP:=hid jE;have oD:=hid fX
   have kS:¬TS B (.slice A8 l.length c8) (.slice Ai js.length ci) (q+1):=fun h=>by have:=(fP.out.ts _ h).2;have:=fN.out;omega
   have c0:_=some (Value.int .i64 (j:Int)):=(oA.out.chg fX.chg kS).cell 0;clear jE fX e0 e1 e2 e3 e4;obtain⟨tB,jF,-⟩:=jP.out.blk;have kT:=hid jF;obtain⟨-,-,-,-,-,y5,-⟩:=zD1 jF;have y5':=(jF.alloc (.cells [.int .i64 (j:Int)].toArray 3)).cell 5;simp only [zC8,List.getElem?_cons_succ,List.getElem?_cons_zero] at y5';have oE:B<wb.heap.size:=jF.lt;have jQ:Hid (Below wb.heap.size wb (wb.alloc (.cells #[.int .i64 (j:Int)] 3)).drew):=hid (((Below.refl _ _).alloc (Nat.le_refl _) _).drew);have jG:=hid (zAN jP.out.ino jQ.out);have kU:Hid (∀ g,(Value.slice Ai js.length ci).ownBlock=some g→B+1≤g):=hid fun g hg=>(jP.out.ino.lt g hg).1;obtain⟨iI,oF,kV,kW,kX⟩:=info_parts zFR;clear jF;go_upto_region 9 with (fail)
   go_cut [] from 72 to 82 (fun wx=>Push2 w0 wb B T (.slice A9 (l.length+1) c9) (.slice Ai js.length ci) (l++[⟨x,1,n.made,fs,A5,c5,dd⟩]) js j wx)
   case first =>
    go_region_law (refine zBw _ (by rfl) (.tmp 76) (.tmp 79) _ _ (by rfl) (B+1) 3 iI _ 1 8 Tryz.underlying92 oF kV kW kX rfl (.slice Ai js.length ci) js.length (nats js) (by rfl) jG.out 1 [.int .i64 (j:Int)] (zCo wb Tryz.underlying92 _ _ rfl) (by unfold maxLen;omega) (by omega) (by simp;omega) ?_;intro v4 w4 fF fW fG;have fL:=((kT.out.fresh jQ.out).law fW (fun e=>by have:=kU.out _ e;omega));obtain⟨A0,c0',gV,-⟩:=Sees.of_own (B:=w4.heap.size) fF fun g hg=>(fF.lt g hg).2;subst gV;have z5:=fL.cell 5;have f5:=fL.frozen 5;simp only [zC8,List.getElem?_cons_succ,List.getElem?_cons_zero] at z5)
    all_goals
     obtain⟨p1,p2⟩:=TldW.push2 (j:=j) (jP.out.fresh jQ.out) fF fW fG;have hp:=hid (show Push2 w0 wb B T (.slice A9 (l.length+1) c9) (.slice Ai js.length ci) (l++[⟨x,1,n.made,fs,A5,c5,dd⟩]) js j _ from ⟨_,p1,(GrU.fresh _ _ jQ.out).trans p2⟩);clear p1 p2 fF fW fG fL;go_wp2;go_meet;exact hp.out
   case rest =>
    obtain⟨v2,kY,mF⟩:=hcut
    have fC:TldP w0 B T (.slice A8 l.length c8) (.slice Ai js.length ci) w (T.step s (ns,j),0) (.returned (.bool true)) wc:=by
     refine⟨rfl,kY.below,fun _=>⟨_,v2,_,_,⟨kY,?_,gG.out.step jI.out (by exact hx.symm),gH.out,?_⟩,((GrU.one mE.out).trans oD.out).trans mF⟩,fun h=>absurd rfl h⟩
     · rw [List.map_append,mK.out,fS.out];rfl
     · rw [List.length_append,List.length_append,jI.out];rfl
    have fD:=hid fC;clear fC kY mF;go_wp2;rw [←mG.out];exact fD.out
end Go.Proofs.YtolpcfhfcdkokaaGreatDoor
