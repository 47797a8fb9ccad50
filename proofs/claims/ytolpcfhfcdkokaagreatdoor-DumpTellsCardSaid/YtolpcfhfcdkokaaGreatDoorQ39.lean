/- Joined out of SAns..SMay. -/
import Derived.Test.YtolpcfhfcdkokaaGreatDoorQ36
set_option maxHeartbeats 16000000
set_option maxRecDepth 100000
set_option linter.unusedSimpArgs false
set_option linter.unusedVariables false
namespace Go.Proofs.YtolpcfhfcdkokaaGreatDoor
open Lib (hid)
open Go.RowKit
structure StM (w wk:World) (g:Nat) (t:Tr):Prop where
 st:StT w wk g t
 ab:Blk wk (g+2) 67 zAs
theorem stm_0 (w:World) (t:Tr):StM w (((w.alloc (.cells (zAa t).toArray 28)).alloc (.cells z4.toArray 28)).alloc (.cells zAs.toArray 67)) w.heap.size t:=by
 refine⟨(st_0 w t).fresh ((Below.refl _ _).alloc (Nat.le_refl _) _),?_⟩;have:=Blk.new ((w.alloc (.cells (zAa t).toArray 28)).alloc (.cells z4.toArray 28)) 67 zAs;simpa using this
section
variable {w wk w':World} {g k:Nat} {t:Tr} {T:PT} {S:Nat→Prop}
theorem StM.le (h:StM w wk g t):g+3≤wk.heap.size:=h.ab.lt
theorem StM.fresh (h:StM w wk g t) (hb:Below wk.heap.size wk w'):StM w w' g t:=⟨h.st.fresh hb,h.ab.fresh hb⟩
theorem StM.chg {y:Nat} (h:StM w wk g t) (hc:Chg (fun b=>b=y) wk w') (hy:g+3≤y):StM w w' g t:=⟨h.st.chg hc (by omega),h.ab.chg hc (by omega)⟩
theorem Blk.row_far {w:World} {b r:Nat} {ty:TypeId} {cs:List Value} (h:Blk w b ty cs) (fA:b≠r) (x:Array Value):Blk (w.setRow r x) b ty cs:=h.chg ((Chg.refl (fun b=>b=r) w).setRow (fun _=>rfl) _) fA
theorem rat_any {W:World} (h:RefS S W t T) (ho:T.Ok) (i:Nat) :
 Calls Tryz.prog 111 #[.agg (zAa t).toArray,.int .i64 (i:Int)] W fun e w'=>(∃ z:Int,e=.returned (.int .i64 z)∧decide (z≥0)=(zAd i T.nodes).isSome)∧Below W.heap.size W w':=by
 refine (at_any W.heap.size t (i:Int) W h.ref.tr (Nat.le_refl _) (by have:=h.ref.len ho;omega)).mono ?_;rintro e w' ⟨h1,hb⟩;refine⟨?_,hb⟩;rcases h1 with ⟨k,hk,h2,-,rfl⟩ | ⟨hno,rfl⟩
 · refine⟨_,rfl,?_⟩;obtain⟨p,hp,hr⟩:=h.ref.rep.all.mem (List.getElem_mem hk)
   have e2:p.1=i:=by have:=hr.ino;rw [h2] at this;omega
   rw [←e2,zA0 ho.ris.nd hp];simp
 · refine⟨_,rfl,?_⟩
   cases hg:zAd i T.nodes with
   | none=>rfl
   | some n =>
    obtain⟨x,hx,hr⟩:=h.ref.rep.all.get hg;exact absurd hr.ino (hno x hx)
theorem RefS.births {W:World} (h:RefS S W t T) (b:Int):RefS S W {t with births:=b} T:=⟨⟨⟨h.ref.tr.row,h.ref.tr.hds⟩,⟨h.ref.rep.sec,h.ref.rep.ino,h.ref.rep.all,h.ref.rep.cap⟩⟩,h.oA,h.os⟩
def newH (i:Nat) (kd made b:Int):Hd:=⟨i,kd,1,0,made,b,none,0,[],none,0,[]⟩
theorem newH_v (i:Nat) (kd made b:Int):hdV (newH i kd made b)=.agg #[.int .i64 (i:Int),.int .i64 kd,.int .i64 1,.int .i64 0,.int .i64 made,.int .i64 b,.slice none 0 0,.slice none 0 0]:=rfl
theorem new_rep (S:Nat→Prop) (W:World) (i:Nat) (dir:Bool) (made:Nat) (b:Int):HdR S W (newH i (if dir=true then 2 else 1) made b) i (zCR dir made):=by
 refine⟨⟨rfl,fun s h=>(by cases h),Sees.nil,Sees.nil⟩,⟨rfl,?_,rfl,rfl,rfl,rfl,rfl,⟨fun nm h=>(by cases h),List.Pairwise.nil,fun _=>rfl,fun p h=>(by cases h),fun p h=>(by cases h)⟩,fun p h=>(by cases h)⟩,fun h=>absurd h (by simp [newH]),fun h=>absurd h (by simp [newH])⟩;unfold zCR PN.kind newH;cases dir<;>rfl
theorem ans_set {r:Nat} (h:Blk wk r 67 zAs) (c s0 s1 s2 s3 s4 s5:Int) (d e:Value) :
 Blk ((((((((((wk.setCell ⟨r,0,none⟩ (.int .i64 c)).setCell ⟨r,1,none⟩ (.int .i64 s0)).setCell ⟨r,2,none⟩ (.int .i64 s1)).setCell ⟨r,3,none⟩ (.int .i64 s2)).setCell ⟨r,4,none⟩ (.int .i64 s3)).setCell ⟨r,5,none⟩ (.int .i64 s4)).setCell ⟨r,6,none⟩ (.int .i64 s5)).setCell ⟨r,7,none⟩ d).setCell ⟨r,8,none⟩ e).setCell ⟨r,9,none⟩ (.bool false)) r 67 [.int .i64 c,.int .i64 s0,.int .i64 s1,.int .i64 s2,.int .i64 s3,.int .i64 s4,.int .i64 s5,d,e,.bool false] ∧
 Chg (fun b=>b=r) wk ((((((((((wk.setCell ⟨r,0,none⟩ (.int .i64 c)).setCell ⟨r,1,none⟩ (.int .i64 s0)).setCell ⟨r,2,none⟩ (.int .i64 s1)).setCell ⟨r,3,none⟩ (.int .i64 s2)).setCell ⟨r,4,none⟩ (.int .i64 s3)).setCell ⟨r,5,none⟩ (.int .i64 s4)).setCell ⟨r,6,none⟩ (.int .i64 s5)).setCell ⟨r,7,none⟩ d).setCell ⟨r,8,none⟩ e).setCell ⟨r,9,none⟩ (.bool false)) :=
 ⟨(((((((((h.set_ 0 _).set_ 1 _).set_ 2 _).set_ 3 _).set_ 4 _).set_ 5 _).set_ 6 _).set_ 7 _).set_ 8 _).set_ 9 _,
  (((((((((((Chg.refl (fun b=>b=r) wk).setCell (p:=⟨r,0,none⟩) (fun _=>rfl) _).setCell (p:=⟨r,1,none⟩) (fun _=>rfl) _).setCell (p:=⟨r,2,none⟩) (fun _=>rfl) _).setCell (p:=⟨r,3,none⟩) (fun _=>rfl) _).setCell (p:=⟨r,4,none⟩) (fun _=>rfl) _).setCell (p:=⟨r,5,none⟩) (fun _=>rfl) _).setCell (p:=⟨r,6,none⟩) (fun _=>rfl) _).setCell (p:=⟨r,7,none⟩) (fun _=>rfl) _).setCell (p:=⟨r,8,none⟩) (fun _=>rfl) _).setCell (p:=⟨r,9,none⟩) (fun _=>rfl) _)⟩
theorem zHi {r:Nat} (h:Blk wk r 67 zAs):(wk.cell? ⟨r,0,none⟩=some (.int .i64 0)∧wk.cell? ⟨r,1,none⟩=some (.int .i64 0)∧wk.cell? ⟨r,2,none⟩=some (.int .i64 0)∧wk.cell? ⟨r,3,none⟩=some (.int .i64 0)∧wk.cell? ⟨r,4,none⟩=some (.int .i64 0)∧wk.cell? ⟨r,5,none⟩=some (.int .i64 0)∧wk.cell? ⟨r,6,none⟩=some (.int .i64 0)∧wk.cell? ⟨r,7,none⟩=some zAg∧wk.cell? ⟨r,8,none⟩=some zAg∧wk.cell? ⟨r,9,none⟩=some (.bool false)) ∧
 wk.frozen? ⟨r,0,none⟩=false∧wk.frozen? ⟨r,1,none⟩=false∧wk.frozen? ⟨r,2,none⟩=false∧wk.frozen? ⟨r,3,none⟩=false∧wk.frozen? ⟨r,4,none⟩=false∧wk.frozen? ⟨r,5,none⟩=false∧wk.frozen? ⟨r,6,none⟩=false∧wk.frozen? ⟨r,7,none⟩=false∧wk.frozen? ⟨r,8,none⟩=false∧wk.frozen? ⟨r,9,none⟩=false :=
 ⟨⟨h.cell 0,h.cell 1,h.cell 2,h.cell 3,h.cell 4,h.cell 5,h.cell 6,h.cell 7,h.cell 8,h.cell 9⟩,h.frozen 0,h.frozen 1,h.frozen 2,h.frozen 3,h.frozen 4,h.frozen 5,h.frozen 6,h.frozen 7,h.frozen 8,h.frozen 9⟩
theorem z_f4 {r:Nat} (h:Blk wk r 28 z4):wk.frozen? ⟨r,0,none⟩=false∧wk.frozen? ⟨r,1,none⟩=false∧wk.frozen? ⟨r,2,none⟩=false∧wk.frozen? ⟨r,3,none⟩=false:=⟨h.frozen 0,h.frozen 1,h.frozen 2,h.frozen 3⟩
end
structure Fin (w wk:World) (g k:Nat) (S:Nat→Prop) (t':Tr) (T':PT) (ct ca:List Value):Prop where
 tb:Blk wk (g+1) 28 ct
 ab:Blk wk (g+2) 67 ca
 bl:Below g w wk
 rf:RefS (zAM S g k) wk t' T'
 k3:3≤k
section
variable {w wk w':World} {g k:Nat} {S:Nat→Prop} {t':Tr} {T':PT} {ct ca:List Value}
theorem Fin.fresh (h:Fin w wk g k S t' T' ct ca) (hb:Below wk.heap.size wk w'):Fin w w' g k S t' T' ct ca:=⟨h.tb.fresh hb,h.ab.fresh hb,h.bl.trans (hb.mono (by have:=h.ab.lt;omega)),h.rf.fresh hb,h.k3⟩
theorem Fin.tree (h:Fin w wk g k S t' T' z4 ca):Fin w ((((wk.setCell ⟨g+1,0,none⟩ (.int .i64 t'.sectors)).setCell ⟨g+1,1,none⟩ (.int .i64 t'.inodes)).setCell ⟨g+1,2,none⟩ (.int .i64 t'.births)).setCell ⟨g+1,3,none⟩ (.slice t'.A t'.l.length t'.c)) g k S t' T' (zAa t') ca∧Chg (fun b=>b=g+1) wk ((((wk.setCell ⟨g+1,0,none⟩ (.int .i64 t'.sectors)).setCell ⟨g+1,1,none⟩ (.int .i64 t'.inodes)).setCell ⟨g+1,2,none⟩ (.int .i64 t'.births)).setCell ⟨g+1,3,none⟩ (.slice t'.A t'.l.length t'.c)):=by
 have h1:=zCi h.tb t';have h3:=h.k3;exact⟨⟨h1.1,h.ab.chg h1.2 (by omega),h.bl.trans (h1.2.below (by have:=h.ab.lt;omega) fun b hb e=>by omega),h.rf.chg (h1.2.mono fun b _ (e:b=g+1)=>.inr (by omega)),h3⟩,h1.2⟩
theorem Fin.ans (h:Fin w wk g k S t' T' ct zAs) (c s0 s1 s2 s3 s4 s5:Int) (d e:Value):Fin w ((((((((((wk.setCell ⟨g+2,0,none⟩ (.int .i64 c)).setCell ⟨g+2,1,none⟩ (.int .i64 s0)).setCell ⟨g+2,2,none⟩ (.int .i64 s1)).setCell ⟨g+2,3,none⟩ (.int .i64 s2)).setCell ⟨g+2,4,none⟩ (.int .i64 s3)).setCell ⟨g+2,5,none⟩ (.int .i64 s4)).setCell ⟨g+2,6,none⟩ (.int .i64 s5)).setCell ⟨g+2,7,none⟩ d).setCell ⟨g+2,8,none⟩ e).setCell ⟨g+2,9,none⟩ (.bool false)) g k S t' T' ct [.int .i64 c,.int .i64 s0,.int .i64 s1,.int .i64 s2,.int .i64 s3,.int .i64 s4,.int .i64 s5,d,e,.bool false]∧Chg (fun b=>b=g+2) wk ((((((((((wk.setCell ⟨g+2,0,none⟩ (.int .i64 c)).setCell ⟨g+2,1,none⟩ (.int .i64 s0)).setCell ⟨g+2,2,none⟩ (.int .i64 s1)).setCell ⟨g+2,3,none⟩ (.int .i64 s2)).setCell ⟨g+2,4,none⟩ (.int .i64 s3)).setCell ⟨g+2,5,none⟩ (.int .i64 s4)).setCell ⟨g+2,6,none⟩ (.int .i64 s5)).setCell ⟨g+2,7,none⟩ d).setCell ⟨g+2,8,none⟩ e).setCell ⟨g+2,9,none⟩ (.bool false)):=by
 have h1:=ans_set h.ab c s0 s1 s2 s3 s4 s5 d e;have h3:=h.k3;exact⟨⟨h.tb.chg h1.2 (by omega),h1.1,h.bl.trans (h1.2.below (by have:=h.ab.lt;omega) fun b hb e=>by omega),h.rf.chg (h1.2.mono fun b _ (e:b=g+2)=>.inr (by omega)),h3⟩,h1.2⟩
end
theorem zFD (S:Nat→Prop) (t:Tr) (T:PT) (A:Option Addr) (c:Nat) (l:List ByteArray) (dir:Bool) (made:Nat) (w:World) (h:RefS S w t T) (hS:∀ b,S b→b<w.heap.size) (hT:T.Inv)
 (hl:NmAt w w.heap.size A c l) (hc:∀ x∈l,chk x=true) (kU:made≤1099511627776) :
 Calls Tryz.prog 76 #[.agg (zAa t).toArray,.slice A l.length c,.int .i64 (if dir=true then 2 else 1),.int .i64 (made:Int)] w (DoT S (T.make l dir made) w):=by
 obtain⟨lk,jE⟩:∃ lk,T.make l dir made=lk:=⟨_,rfl⟩;rw [jE];obtain⟨Q,hQ⟩:∃ Q,DoT S lk w=Q:=⟨_,rfl⟩;rw [hQ];obtain⟨kd,kG⟩:∃ kd:Int,(if dir=true then 2 else 1)=kd:=⟨_,rfl⟩;rw [kG];obtain⟨g,hz⟩:∃ g,w.heap.size=g:=⟨_,rfl⟩;have gM:=hid (zBV h hz 3);have kI:=hid (inS (k:=3) hS hz);have kV:=hid fun (j:Nat) (n:PN) (hg:zAd j T.nodes=some n)=>zDP h hz 3 hT.gr.ok hg;have fO:=hid fun W (hb:Below g w W)=>zC4 t T A c l W (zBV h hz 3 W hb).ref hT.wf (hl.fresh (hz.symm▸hb)) fun x hx=>zBp (hc x hx);have jO:=hid fun h=>zCw (T:=T) (m:=l) h hc;have jP:=hid (zBz hT.wf l);have hat_:=hid fun (i:Nat) W (hb:Below g w W)=>rat_any (zBV h hz 3 W hb) hT.gr.ok i;have fU:Hid (t.inodes=(T.inodes:Int)):=hid h.ref.rep.ino;rw [PT.make.eq_1 T l dir made] at jE;have fP:=stm_0 w t;rw [hz] at fP;unfold zJy at fO;rw [show trV t=.agg (zAa t).toArray from rfl] at fO;have fQ:=hid hT;have gN:=hid hQ;have hu:=hid jE.symm;have kW:=hT.gr.ok.ino;clear jE hQ h hS hT hl hc;generalize T.last l=r2 at *;obtain⟨d,e2⟩:=r2;generalize zAL l=nm at *;generalize l.length=n1 at *;simp only at fO jO jP hu;have gO:=hid hz;go_enter Tryz.func76,Tryz.ntmps76;go_upto_region 1 with (fail)
 try simp only [hz]
 change Code.wp _ _ _ _ (((w.alloc (.cells (zAa t).toArray 28)).alloc (.cells z4.toArray 28)).alloc (.cells zAs.toArray 67));generalize ((w.alloc (.cells (zAa t).toArray 28)).alloc (.cells z4.toArray 28)).alloc (.cells zAs.toArray 67)=w0 at *;clear hz;by_cases h2:e2=0;rotate_left
 · have jF:((e2:Int) != 0)=true:=by simp;omega
   simp only [if_neg h2] at fO
   go_wp2_with (first
    | (refine wpList_load_row rfl 28 _ rfl g rfl 28 (zAa t).toArray _ _ fP.st.tb Tryz.underlying28 rfl rfl ?_)
    | (go_at_call 109;(with_reducible refine (fO.out w0 fP.st.bl).mono ?_);rintro e w2 ⟨rfl,fV⟩;have fA:=fP.fresh fV)
    | (refine wpList_load_row rfl 28 _ rfl g rfl 28 (zAa t).toArray _ _ fA.st.tb Tryz.underlying28 rfl rfl ?_)
    | (refine wpList_store_row rfl 28 _ _ rfl (g+1) (zAa t).toArray rfl (by rfl) 28 _ fA.st.rb rfl rfl (zAc t) ?_)
    | (refine wpList_store_row rfl 67 _ _ rfl (g+2) (zAh e2 st0 zAg zAg).toArray rfl (by rfl) 67 _ (fA.ab.row_far (by omega) _) rfl rfl (zBj _ _) ?_))
   exact zAZ fA.st.rb (z:=z4) fA.ab gN.out (by rw [hu.out,if_pos h2];rfl) (gM.out _ fA.st.bl) (zAx _ _ e2 st0) rfl fA.st.bl gO.out ⟨by omega,by omega⟩ ⟨by omega,by omega⟩ (by omega) rfl rfl rfl rfl
 subst h2;simp only [if_true] at fO;obtain⟨m2,fR,gF⟩:=jP.out (by trivial);have gG:=jO.out (by trivial);have fG:=(fQ.out.gr.ok.get fR).1;obtain⟨x2,-,-,gP⟩:=kV.out d m2 fR;have fS:=hu.out;rw [if_neg (by simp),zAp fR] at fS
 go_upto_region 4 with (first
  | (refine wpList_load_row rfl 28 _ rfl g rfl 28 (zAa t).toArray _ _ fP.st.tb Tryz.underlying28 rfl rfl ?_)
  | (go_at_call 109;(with_reducible refine (fO.out w0 fP.st.bl).mono ?_);rintro e w2 ⟨rfl,fV⟩;have fA:=fP.fresh fV))
 clear fP fV fO hu jP jO;have fW:=hid gP
 cases fT:zAd nm m2.names with
 | some j =>
  obtain⟨kp,kJ⟩:=fQ.out.gr.slotn d m2 nm j fR fT;have gH:=hid fun W (hb:Below g w W)=>zDK (gP W hb).1 fG gF (zBp gG) fT kJ;rw [fT] at fS;have gQ:Hid (lk=(T,.err 111)):=hid (by rw [fS];rfl)
  have lD:decide ((kp:Int)≥0)=true:=by simp
  simp only [hdV] at gH;clear gP fS fT fG fR kJ gG gF
  go_wp2_with (first
   | (refine wpList_load_row rfl 28 _ rfl g rfl 28 (zAa t).toArray _ _ fA.st.tb Tryz.underlying28 rfl rfl ?_)
   | (go_at_call 81;(with_reducible refine ((fW.out w2 fA.st.bl).2).mono ?_);rintro e w3 ⟨rfl,jG⟩;have gI:=fA.fresh jG)
   | (go_at_call 110;(with_reducible refine ((gH.out w3 gI.st.bl)).mono ?_);rintro e w4 ⟨rfl,jH⟩;have fK:=gI.fresh jH)
   | (refine wpList_load_row rfl 28 _ rfl g rfl 28 (zAa t).toArray _ _ fK.st.tb Tryz.underlying28 rfl rfl ?_)
   | (refine wpList_store_row rfl 28 _ _ rfl (g+1) (zAa t).toArray rfl (by rfl) 28 _ fK.st.rb rfl rfl (zAc t) ?_)
   | (refine wpList_store_row rfl 67 _ _ rfl (g+2) (zAh 111 st0 zAg zAg).toArray rfl (by rfl) 67 _ (fK.ab.row_far (by omega) _) rfl rfl (zBj _ _) ?_))
  exact zAZ fK.st.rb (z:=z4) fK.ab gN.out (by exact gQ.out) (gM.out _ fK.st.bl) (zAx _ _ 111 st0) rfl fK.st.bl gO.out ⟨by omega,by omega⟩ ⟨by omega,by omega⟩ (by omega) rfl rfl rfl rfl
 | none =>
  have gH:=hid fun W (hb:Below g w W)=>zGd (gP W hb).1 fG gF (zBp gG) fT;rw [fT] at fS;simp only [Option.isSome_none,Bool.false_eq_true,if_false] at fS;have gR:=hid fun (i:Nat) W (hb:Below g w W) (hk:g+3≤W.heap.size) (hi:1≤i∧i≤T.inodes)=>zI2 W (gM.out W hb) (kI.out W hk) fQ.out fR gF hi gG fT;have fL:=hid fR;have jQ:=hid gF;have jR:=hid gG;have gS:=hid fG;have gQ:=hid fS;simp only [hdV] at gH;clear gP fS fT fG fR gG gF
  go_upto_region 7 with (first
   | (refine wpList_load_row rfl 28 _ rfl g rfl 28 (zAa t).toArray _ _ fA.st.tb Tryz.underlying28 rfl rfl ?_)
   | (go_at_call 81;(with_reducible refine ((fW.out w2 fA.st.bl).2).mono ?_);rintro e w3 ⟨rfl,jG⟩;have gI:=fA.fresh jG)
   | (go_at_call 110;(with_reducible refine ((gH.out w3 gI.st.bl)).mono ?_);rintro e w4 ⟨rfl,jH⟩;have fK:=gI.fresh jH))
  clear fA gI jG jH gH fW;obtain⟨io,jS⟩:∃ io,T.inodes=io:=⟨_,rfl⟩;have fD:=hid jS;rw [jS] at kW fU;clear jS;go_wp2_with fail
  go_loopw [15] (fun i' wr=>∃ k:Nat,2≤k∧i'=.int .i64 (k:Int)∧k≤io+3∧Hid (zA7 T (T.inodes+3-k) k=T.free)∧Hid (Below w4.heap.size w4 wr)) (fun i' _=>io+3-(intOf i').toNat)
  case atStart=>exact⟨2,Nat.le_refl _,rfl,by omega,hid rfl,hid (Below.refl _ _)⟩
  case round =>
   obtain⟨k,lE,rfl,lF,gJ,jI⟩:=hrel;have fE:=fK.fresh jI.out;obtain⟨a0,a1,a2,a3⟩:=zAr fE.st.tb;rw [fU.out] at a1;by_cases kX:k≤io;rotate_left
   · have gT:T.free=0:=by
      rw [←gJ.out]
      cases T.inodes+3-k with
      | zero=>rfl
      | succ m=>rw [zA7,if_pos (by have:=fD.out;omega)]
     have fF:Hid (lk=(T,.err 81)):=hid (by rw [gQ.out,if_pos gT]);have kY:decide ((k:Int)≤(io:Int))=false:=decide_eq_false (by omega);have kZ:decide ((k:Int) > (io:Int))=true:=decide_eq_true (by omega);clear gJ gT
     go_wp2_with (first
      | (refine wpList_load_row rfl 28 _ rfl g rfl 28 (zAa t).toArray _ _ fE.st.tb Tryz.underlying28 rfl rfl ?_)
      | (refine wpList_store_row rfl 28 _ _ rfl (g+1) (zAa t).toArray rfl (by rfl) 28 _ fE.st.rb rfl rfl (zAc t) ?_)
      | (refine wpList_store_row rfl 67 _ _ rfl (g+2) (zAh 81 st0 zAg zAg).toArray rfl (by rfl) 67 _ (fE.ab.row_far (by omega) _) rfl rfl (zBj _ _) ?_))
     exact zAZ fE.st.rb (z:=z4) fE.ab gN.out (by exact fF.out) (gM.out _ fE.st.bl) (zAx _ _ 81 st0) rfl fE.st.bl gO.out ⟨by omega,by omega⟩ ⟨by omega,by omega⟩ (by omega) rfl rfl rfl rfl
   have kY:decide ((k:Int)≤(io:Int))=true:=decide_eq_true (by omega);have fB:=hat_.out k wr fE.st.bl
   cases fX:zAd k T.nodes with
   | some nk =>
    rw [fX] at fB
    have jT:Hid (zA7 T (T.inodes+3-(k+1)) (k+1)=T.free):=hid (by
     have h9:=gJ.out;rw [show T.inodes+3-k=(T.inodes+3-(k+1))+1 by have:=fD.out;omega,zA7,if_neg (by have:=fD.out;omega),fX] at h9;exact h9)
    simp only [Option.isSome_some] at fB;clear gJ fX
    go_wp2_with (first
     | (refine zAJ (by rfl) (fun _ hK=>wp_load_row 28 _ rfl g rfl 28 (zAa t).toArray _ _ fE.st.tb Tryz.underlying28 rfl rfl (hK _ _ ?_)))
     | (go_at_call 111;(with_reducible refine (fB).mono ?_);rintro e w5 ⟨⟨z,rfl,lA⟩,jJ⟩))
    go_roundw
    case rel=>exact⟨k+1,by omega,by go_num,by omega,jT,hid (jI.out.trans (jJ.mono jI.out.size))⟩
    case measure=>simp [intOf];omega
   | none =>
    rw [fX] at fB
    have gT:T.free=k:=by
     rw [←gJ.out];rw [show T.inodes+3-k=(T.inodes+3-(k+1))+1 by have:=fD.out;omega,zA7,if_neg (by have:=fD.out;omega),fX];rfl
    have gU:1≤k∧k≤T.inodes:=⟨by omega,by rw [fD.out];exact kX⟩;have jU:=hid fX;have fF:=gQ.out;rw [gT,if_neg (by omega)] at fF;have kZ:decide ((k:Int) > (io:Int))=false:=decide_eq_false (by omega);simp only [Option.isSome_none] at fB;clear gJ fX gT gQ
    go_upto_region 12 with (first
     | (refine zAJ (by rfl) (fun _ hK=>wp_load_row 28 _ rfl g rfl 28 (zAa t).toArray _ _ fE.st.tb Tryz.underlying28 rfl rfl (hK _ _ ?_)))
     | (go_at_call 111;(with_reducible refine (fB).mono ?_);rintro e w5 ⟨⟨z,rfl,lA⟩,jJ⟩;have gV:=fE.fresh jJ;obtain⟨a0,a1,a2,a3⟩:=zAr gV.st.tb;rw [fU.out] at a1))
    clear a0 a1 a2 a3 fE jI jJ fB fK;have gW:=hid (gR.out k w5 gV.st.bl gV.le gU);obtain⟨pl,jV⟩:∃ pl,T.place m2=pl:=⟨_,rfl⟩;obtain⟨kp,c7⟩:=pl;unfold PutP at gW;rw [jV] at gW fF;simp only at gW fF;have gX:=hid jV;clear jV gR
    go_upto_region 13 with (first
     | (refine wpList_load_row rfl 28 _ rfl g rfl 28 (zAa t).toArray _ _ gV.st.tb Tryz.underlying28 rfl rfl ?_)
     | (go_at_call 112;(with_reducible refine (gW.out).mono ?_);rintro e w7 ⟨⟨t7,rfl,kK⟩,kL⟩;have jW:=gV.fresh kL)
     | (refine wpList_store_row rfl 28 _ _ rfl w7.heap.size (zAa t7).toArray rfl (by rfl) 28 _ (Blk.new w7 28 z4) rfl rfl (zAc t7) ?_))
    obtain⟨hU,jK⟩:=zAP w7 t7;have fM:=jW.fresh jK;have jX:g+3≤w7.heap.size:=jW.le;have jY:=hid ((kK.addR 1 (Nat.le_refl _)).fresh jK);have kM:Hid (∀ b,zAM (zAM S g 3) w7.heap.size 1 b→b<((w7.alloc (.cells z4.toArray 28)).setRow w7.heap.size (zAa t7).toArray).heap.size):=hid (zBe (fun b hb=>Nat.lt_of_lt_of_le (kI.out w7 jX b hb) jK.size) hU.lt);change Code.wp _ _ _ _ ((w7.alloc (.cells z4.toArray 28)).setRow w7.heap.size (zAa t7).toArray);clear kL jW jK kK gW;generalize (w7.alloc (.cells z4.toArray 28)).setRow w7.heap.size (zAa t7).toArray=w8 at *;generalize w7.heap.size=ub at *;by_cases h7:c7=0;rotate_left
    · have jF:((c7:Int) != 0)=true:=by simp;omega
      rw [if_pos h7] at fF;have jL:=hid fF;clear fF
      go_wp2_with (first
       | (refine wpList_load_row rfl 28 _ rfl g rfl 28 (zAa t).toArray _ _ fM.st.tb Tryz.underlying28 rfl rfl ?_)
       | (refine wpList_store_row rfl 28 _ _ rfl (g+1) (zAa t).toArray rfl (by rfl) 28 _ fM.st.rb rfl rfl (zAc t) ?_)
       | (refine wpList_store_row rfl 67 _ _ rfl (g+2) (zAh c7 st0 zAg zAg).toArray rfl (by rfl) 67 _ (fM.ab.row_far (by omega) _) rfl rfl (zBj _ _) ?_))
      exact zAZ fM.st.rb (z:=z4) fM.ab gN.out (by exact jL.out) (gM.out _ fM.st.bl) (zAx _ _ c7 st0) rfl fM.st.bl gO.out ⟨by omega,by omega⟩ ⟨by omega,by omega⟩ (by omega) rfl rfl rfl rfl
    subst h7;simp only [ne_eq,not_true_eq_false,if_false,if_true] at fF jY
    have gY:m2.Fit kp nm:=by
     have:=zBu (T:=T) (nm:=nm) gS.out (by rw [gX.out]);rw [gX.out] at this;exact this
    have fY:(T.upd d (m2.set kp nm k)).Ok:=fQ.out.gr.ok.upd (zCy fQ.out.wf fL.out jQ.out gY (zC5 jR.out) (by have:=fQ.out.gr.ok.ino;omega)) (fQ.out.gr.ok.get fL.out).2
    have jF:d≠k:=fun e=>by have h1:=fL.out;rw [e,jU.out] at h1;cases h1
    obtain⟨T9,gZ⟩:∃ T9,(T.upd d (m2.set kp nm k)).upd k (zCR dir made)=T9:=⟨_,rfl⟩
    have kN:(T.upd k (zCR dir made)).ins d kp nm k=T9:=by rw [←gZ,zCg ((zAm _ jF).trans fL.out),zIn fQ.out.gr.ok _ _ (fun e=>jF e.symm)]
    rw [kN] at fF
    have jA:T9.Ok:=by rw [←gZ];exact fY.upd (zHs dir kU) gU
    have kO:zAd k T9.nodes=some (zCR dir made):=by rw [←gZ];exact zA8 _ _
    have jL:=hid fF;obtain⟨b',lB⟩:∃ b',IntKind.i64.wrap (t7.births+1)=b':=⟨_,rfl⟩;have jM:Blk (w8.setCell ⟨ub,2,none⟩ (.int .i64 b')) ub 28 (zAa {t7 with births:=b'}):=hU.set_ 2 _;have jN:Chg (fun b=>b=ub) w8 (w8.setCell ⟨ub,2,none⟩ (.int .i64 b')):=(Chg.refl (fun b=>b=ub) w8).setCell (p:=⟨ub,2,none⟩) (fun _=>rfl) _;have kP:=fM.chg jN jX;have kQ:=(jY.out.chg (jN.mono fun b _ (e:b=ub)=>.inr (by omega))).births b';have fH:=zBv kQ (fun b hb=>Nat.lt_of_lt_of_le (kM.out b hb) jN.size) fY (new_rep _ _ k dir made b');rw [gZ,newH_v,kG,show trV {t7 with births:=b'}=.agg (zAa {t7 with births:=b'}).toArray from rfl] at fH;have kR:=hid fH;have jZ:=hid fun (S2:Nat→Prop) t9 W (h9:RefS S2 W t9 T9)=>zGJ S2 t9 T9 k (zCR dir made) W h9 jA kO;have fV:=hU.cell 2;have f2:=hU.frozen 2;simp only [zAa,List.getElem?_cons_succ,List.getElem?_cons_zero] at fV;clear fF gY fY gZ kN jA kO fH kQ jY kM fM;go_upto_region 16 with (fail)
    try simp only [lB]
    generalize w8.setCell ⟨ub,2,none⟩ (.int .i64 b')=w9 at *;clear hU fV f2 jN;obtain⟨u0,u1,u2,u3⟩:=zAr jM
    go_upto_region 17 with (first
     | (refine wpList_load_row rfl 28 _ rfl ub rfl 28 (zAa {t7 with births:=b'}).toArray _ _ jM Tryz.underlying28 rfl rfl ?_)
     | (go_at_call 113;(with_reducible refine (kR.out).mono ?_);rintro e w10 ⟨⟨t10,rfl,fZ⟩,gA⟩;have jB:=kP.fresh gA;have gB:=jM.fresh gA)
     | (refine wpList_store_row rfl 28 _ _ rfl ub (zAa t10).toArray rfl (by rfl) 28 _ gB rfl rfl (zAc t10) ?_))
    have kA:=hid fZ;obtain⟨fN,gC⟩:Blk (w10.setRow ub (zAa t10).toArray) ub 28 (zAa t10)∧Chg (fun b=>b=ub) w10 (w10.setRow ub (zAa t10).toArray):=⟨setRow_heap w10 ub _ _ _ _ gB,(Chg.refl (fun b=>b=ub) w10).setRow (fun _=>rfl) _⟩;have fI:=jB.chg gC jX;have jC:=hid ((fZ.chg (gC.mono fun b _ (e:b=ub)=>.inr (by omega))).mono fun b hb=>Or.inl hb);clear fZ kA jB gB gC kP jM gA kR u0 u1 u2 u3;generalize w10.setRow ub (zAa t10).toArray=w11 at *;have lC:=hid fI;have kC:=hid fN;obtain⟨u0,u1,u2,u3⟩:=zAr fN;obtain⟨st,jD⟩:∃ st,T9.stat k=st:=⟨_,rfl⟩;rw [jD] at jL jZ;have gD:=hid fun W (h9:RefS (zAM S g 3) W t10 T9)=>jZ.out (zAM S g 3) t10 W h9;unfold trV stV stC at gD;have hF:Fin w w11.drew g 3 S t10 T9 z4 zAs:=Fin.fresh (wk:=w11) ⟨fI.st.rb,fI.ab,fI.st.bl,jC.out,Nat.le_refl _⟩ (zAf (Below.refl _ w11) 1);have kD:=fN.fresh (zAf (Below.refl _ w11) 1);have kE:=hid hF;have kC:=hid kD;obtain⟨kS,kT⟩:=hF.tree;have gE:=hid kS;have kF:=hid (kD.chg kT (by omega));obtain⟨z0,z1,z2,z3⟩:=zHI hF.tb;obtain⟨f0,f1,f2,f3⟩:=z_f4 hF.tb;obtain⟨v0,v1,v2,v3⟩:=zAr kF.out;clear fI fN jZ jD jC lC hF kD kS kT
    go_region_held3 (fun w'=>w'.cell? ⟨ub,0,none⟩=some (.int .i64 t10.sectors)∧w'.cell? ⟨ub,1,none⟩=some (.int .i64 t10.inodes)∧w'.cell? ⟨ub,2,none⟩=some (.int .i64 t10.births)∧w'.cell? ⟨ub,3,none⟩=some (.slice t10.A t10.l.length t10.c))
     (first | go_keep)
     (first
      | (go_at_call 82;first
       | ((with_reducible refine (gD.out w11.drew kE.out.rf).mono ?_);rintro e w12 ⟨rfl,fC⟩;have gK:=hid (kE.out.fresh fC);have gL:=hid (kC.out.fresh fC);obtain⟨u0,u1,u2,u3⟩:=zAr gL.out;obtain⟨z0,z1,z2,z3⟩:=zHI gK.out.tb;obtain⟨f0,f1,f2,f3⟩:=z_f4 gK.out.tb;obtain⟨x1,x2⟩:=gK.out.tree;obtain⟨v0,v1,v2,v3⟩:=zAr (gL.out.chg x2 (by omega));obtain⟨⟨p0,p1,p2,p3,p4,p5,p6,p7,p8,p9⟩,q0,q1,q2,q3,q4,q5,q6,q7,q8,q9⟩:=zHi x1.ab;obtain⟨y1,y2⟩:=x1.ans 0 st.ino st.kind st.links st.size st.made st.blocks zAg zAg;obtain⟨r0,r1,r2,r3⟩:=zAr ((gL.out.chg x2 (by omega)).chg y2 (by omega));have fJ:=hid y1;clear fC x1 x2 y1 y2)
       | ((with_reducible refine (gD.out _ gE.out.rf).mono ?_);rintro e w12 ⟨rfl,fC⟩;have gK:=hid (gE.out.fresh fC);have gL:=hid (kF.out.fresh fC);obtain⟨u0,u1,u2,u3⟩:=zAr gL.out;obtain⟨⟨p0,p1,p2,p3,p4,p5,p6,p7,p8,p9⟩,q0,q1,q2,q3,q4,q5,q6,q7,q8,q9⟩:=zHi gK.out.ab;obtain⟨y1,y2⟩:=gK.out.ans 0 st.ino st.kind st.links st.size st.made st.blocks zAg zAg;obtain⟨r0,r1,r2,r3⟩:=zAr (gL.out.chg y2 (by omega));have fJ:=hid y1;clear fC y1 y2)))
    all_goals (clear kC kE gE kF)
    all_goals go_wp2
    all_goals exact zEW fJ.out.tb fJ.out.ab gN.out jL.out fJ.out.rf (zAx _ _ 0 st) rfl fJ.out.bl gO.out rfl rfl rfl rfl
theorem zAR (x:ByteArray):x=emp↔x.toList=[]:=by
 rw [Lib.toList_data];exact⟨fun h=>by rw [h];rfl,fun h=>zDe h⟩
theorem rmay_any (o:Opn) (A:Option Addr) (c:Nat) (w:World):Calls Tryz.prog 48 #[.agg (opC o A c).toArray] w fun e w'=>e=.returned (.bool o.fine)∧Below w.heap.size w w':=by
 obtain⟨Q,hQ⟩:∃ Q:Ending→World→Prop,(fun e w'=>e=.returned (.bool o.fine)∧Below w.heap.size w w')=Q:=⟨_,rfl⟩;rw [hQ];have fB:=hid hQ;have fC:=Blk.new w 70 (opC o A c);have fE:Below w.heap.size w (w.alloc (.cells (opC o A c).toArray 70)):=(Below.refl _ _).alloc (Nat.le_refl _) _;have fA:=hid fE;clear hQ fE;go_enter Tryz.func48,Tryz.ntmps48;go_upto_region 1 with (fail);change Code.wp _ _ _ _ (w.alloc (.cells (opC o A c).toArray 70));generalize w.alloc (.cells (opC o A c).toArray 70)=w0 at *;have o0:=fC.cell 0;have o1:=fC.cell 1;have o2:=fC.cell 2;have o3:=fC.cell 3;have o4:=fC.cell 4;have o5:=fC.cell 5;have o6:=fC.cell 6;have o7:=fC.cell 7;simp only [opC,List.getElem?_cons_succ,List.getElem?_cons_zero] at o0 o1 o2 o3 o4 o5 o6 o7;clear fC;by_cases h1:o.kind=1
 · have o0:w0.cell? ⟨w.heap.size,0,none⟩=some (.int .i64 1):=by rw [o0,h1]
   have hP:zHp 1=true:=rfl;have hT:zHr 1=false:=rfl;have hO:zHq 1=false:=rfl;have hL:zHk 1=false:=rfl;have hD:zHo 1=false:=rfl;have hM:zHn 1=true:=rfl;have hF:zHm 1=false:=rfl;go_wp2
   all_goals rw [←fB.out]
   all_goals refine⟨?_,fA.out⟩
   all_goals refine congrArg (fun b=>Ending.returned (Value.bool b)) ?_
   all_goals rw [Bool.eq_iff_iff]
   all_goals first
    | (simp [Opn.fine,hP,hT,hO,hL,hD,hM,hF,zAR, *];done)
    | (simp [Opn.fine,hP,hT,hO,hL,hD,hM,hF,zAR, *];omega)
    | (simp [Opn.fine,hP,hT,hO,hL,hD,hM,hF,zAR, *];intros;omega)
 by_cases h2:o.kind=2
 · have o0:w0.cell? ⟨w.heap.size,0,none⟩=some (.int .i64 2):=by rw [o0,h2]
   have hP:zHp 2=true:=rfl;have hT:zHr 2=false:=rfl;have hO:zHq 2=false:=rfl;have hL:zHk 2=false:=rfl;have hD:zHo 2=false:=rfl;have hM:zHn 2=true:=rfl;have hF:zHm 2=false:=rfl;go_wp2
   all_goals rw [←fB.out]
   all_goals refine⟨?_,fA.out⟩
   all_goals refine congrArg (fun b=>Ending.returned (Value.bool b)) ?_
   all_goals rw [Bool.eq_iff_iff]
   all_goals first
    | (simp [Opn.fine,hP,hT,hO,hL,hD,hM,hF,zAR, *];done)
    | (simp [Opn.fine,hP,hT,hO,hL,hD,hM,hF,zAR, *];omega)
    | (simp [Opn.fine,hP,hT,hO,hL,hD,hM,hF,zAR, *];intros;omega)
 by_cases h3:o.kind=3
 · have o0:w0.cell? ⟨w.heap.size,0,none⟩=some (.int .i64 3):=by rw [o0,h3]
   have hP:zHp 3=true:=rfl;have hT:zHr 3=true:=rfl;have hO:zHq 3=false:=rfl;have hL:zHk 3=false:=rfl;have hD:zHo 3=false:=rfl;have hM:zHn 3=false:=rfl;have hF:zHm 3=false:=rfl;go_wp2
   all_goals rw [←fB.out]
   all_goals refine⟨?_,fA.out⟩
   all_goals refine congrArg (fun b=>Ending.returned (Value.bool b)) ?_
   all_goals rw [Bool.eq_iff_iff]
   all_goals first
    | (simp [Opn.fine,hP,hT,hO,hL,hD,hM,hF,zAR, *];done)
    | (simp [Opn.fine,hP,hT,hO,hL,hD,hM,hF,zAR, *];omega)
    | (simp [Opn.fine,hP,hT,hO,hL,hD,hM,hF,zAR, *];intros;omega)
 by_cases h6:o.kind=6
 · have o0:w0.cell? ⟨w.heap.size,0,none⟩=some (.int .i64 6):=by rw [o0,h6]
   have hP:zHp 6=true:=rfl;have hT:zHr 6=true:=rfl;have hO:zHq 6=false:=rfl;have hL:zHk 6=false:=rfl;have hD:zHo 6=false:=rfl;have hM:zHn 6=false:=rfl;have hF:zHm 6=false:=rfl;go_wp2
   all_goals rw [←fB.out]
   all_goals refine⟨?_,fA.out⟩
   all_goals refine congrArg (fun b=>Ending.returned (Value.bool b)) ?_
   all_goals rw [Bool.eq_iff_iff]
   all_goals first
    | (simp [Opn.fine,hP,hT,hO,hL,hD,hM,hF,zAR, *];done)
    | (simp [Opn.fine,hP,hT,hO,hL,hD,hM,hF,zAR, *];omega)
    | (simp [Opn.fine,hP,hT,hO,hL,hD,hM,hF,zAR, *];intros;omega)
 by_cases h7:o.kind=7
 · have o0:w0.cell? ⟨w.heap.size,0,none⟩=some (.int .i64 7):=by rw [o0,h7]
   have hP:zHp 7=true:=rfl;have hT:zHr 7=false:=rfl;have hO:zHq 7=true:=rfl;have hL:zHk 7=false:=rfl;have hD:zHo 7=true:=rfl;have hM:zHn 7=false:=rfl;have hF:zHm 7=false:=rfl;go_wp2
   all_goals rw [←fB.out]
   all_goals refine⟨?_,fA.out⟩
   all_goals refine congrArg (fun b=>Ending.returned (Value.bool b)) ?_
   all_goals rw [Bool.eq_iff_iff]
   all_goals first
    | (simp [Opn.fine,hP,hT,hO,hL,hD,hM,hF,zAR, *];done)
    | (simp [Opn.fine,hP,hT,hO,hL,hD,hM,hF,zAR, *];omega)
    | (simp [Opn.fine,hP,hT,hO,hL,hD,hM,hF,zAR, *];intros;omega)
 by_cases h8:o.kind=8
 · have o0:w0.cell? ⟨w.heap.size,0,none⟩=some (.int .i64 8):=by rw [o0,h8]
   have hP:zHp 8=true:=rfl;have hT:zHr 8=false:=rfl;have hO:zHq 8=true:=rfl;have hL:zHk 8=false:=rfl;have hD:zHo 8=false:=rfl;have hM:zHn 8=false:=rfl;have hF:zHm 8=false:=rfl;go_wp2
   all_goals rw [←fB.out]
   all_goals refine⟨?_,fA.out⟩
   all_goals refine congrArg (fun b=>Ending.returned (Value.bool b)) ?_
   all_goals rw [Bool.eq_iff_iff]
   all_goals first
    | (simp [Opn.fine,hP,hT,hO,hL,hD,hM,hF,zAR, *];done)
    | (simp [Opn.fine,hP,hT,hO,hL,hD,hM,hF,zAR, *];omega)
    | (simp [Opn.fine,hP,hT,hO,hL,hD,hM,hF,zAR, *];intros;omega)
 by_cases h9:o.kind=9
 · have o0:w0.cell? ⟨w.heap.size,0,none⟩=some (.int .i64 9):=by rw [o0,h9]
   have hP:zHp 9=true:=rfl;have hT:zHr 9=false:=rfl;have hO:zHq 9=true:=rfl;have hL:zHk 9=true:=rfl;have hD:zHo 9=false:=rfl;have hM:zHn 9=false:=rfl;have hF:zHm 9=false:=rfl;go_wp2
   all_goals rw [←fB.out]
   all_goals refine⟨?_,fA.out⟩
   all_goals refine congrArg (fun b=>Ending.returned (Value.bool b)) ?_
   all_goals rw [Bool.eq_iff_iff]
   all_goals first
    | (simp [Opn.fine,hP,hT,hO,hL,hD,hM,hF,zAR, *];done)
    | (simp [Opn.fine,hP,hT,hO,hL,hD,hM,hF,zAR, *];omega)
    | (simp [Opn.fine,hP,hT,hO,hL,hD,hM,hF,zAR, *];intros;omega)
 by_cases fF:o.kind=12
 · have o0:w0.cell? ⟨w.heap.size,0,none⟩=some (.int .i64 12):=by rw [o0,fF]
   have hP:zHp 12=false:=rfl;have hT:zHr 12=false:=rfl;have hO:zHq 12=false:=rfl;have hL:zHk 12=false:=rfl;have hD:zHo 12=false:=rfl;have hM:zHn 12=false:=rfl;have hF:zHm 12=false:=rfl;go_wp2
   all_goals rw [←fB.out]
   all_goals refine⟨?_,fA.out⟩
   all_goals refine congrArg (fun b=>Ending.returned (Value.bool b)) ?_
   all_goals rw [Bool.eq_iff_iff]
   all_goals first
    | (simp [Opn.fine,hP,hT,hO,hL,hD,hM,hF,zAR, *];done)
    | (simp [Opn.fine,hP,hT,hO,hL,hD,hM,hF,zAR, *];omega)
    | (simp [Opn.fine,hP,hT,hO,hL,hD,hM,hF,zAR, *];intros;omega)
 by_cases fG:o.kind=14
 · have o0:w0.cell? ⟨w.heap.size,0,none⟩=some (.int .i64 14):=by rw [o0,fG]
   have hP:zHp 14=false:=rfl;have hT:zHr 14=false:=rfl;have hO:zHq 14=false:=rfl;have hL:zHk 14=false:=rfl;have hD:zHo 14=false:=rfl;have hM:zHn 14=false:=rfl;have hF:zHm 14=true:=rfl;go_wp2
   all_goals rw [←fB.out]
   all_goals refine⟨?_,fA.out⟩
   all_goals refine congrArg (fun b=>Ending.returned (Value.bool b)) ?_
   all_goals rw [Bool.eq_iff_iff]
   all_goals first
    | (simp [Opn.fine,hP,hT,hO,hL,hD,hM,hF,zAR, *];done)
    | (simp [Opn.fine,hP,hT,hO,hL,hD,hM,hF,zAR, *];omega)
    | (simp [Opn.fine,hP,hT,hO,hL,hD,hM,hF,zAR, *];intros;omega)
 by_cases hr:1≤o.kind∧o.kind≤14
 · have hP:zHp o.kind=true:=decide_eq_true (by omega);have hT:zHr o.kind=false:=decide_eq_false (by omega);have hO:zHq o.kind=false:=decide_eq_false (by omega);have hL:zHk o.kind=false:=decide_eq_false (by omega);have hD:zHo o.kind=false:=decide_eq_false (by omega);have hM:zHn o.kind=false:=decide_eq_false (by omega);have hF:zHm o.kind=false:=decide_eq_false (by omega);obtain⟨r1,r2⟩:=hr;go_wp2
   all_goals rw [←fB.out]
   all_goals refine⟨?_,fA.out⟩
   all_goals refine congrArg (fun b=>Ending.returned (Value.bool b)) ?_
   all_goals rw [Bool.eq_iff_iff]
   all_goals first
    | (simp [Opn.fine,hP,hT,hO,hL,hD,hM,hF,zAR, *];done)
    | (simp [Opn.fine,hP,hT,hO,hL,hD,hM,hF,zAR, *];omega)
    | (simp [Opn.fine,hP,hT,hO,hL,hD,hM,hF,zAR, *];intros;omega)
 · have fD:o.fine=false:=decide_eq_false fun h=>hr ⟨h.1,h.2.1⟩;go_wp2
   all_goals rw [←fB.out]
   all_goals refine⟨?_,fA.out⟩
   all_goals refine congrArg (fun b=>Ending.returned (Value.bool b)) ?_
   all_goals rw [fD]
   all_goals first
    | rfl
    | (exfalso;omega)
    | (simp;omega)
end Go.Proofs.YtolpcfhfcdkokaaGreatDoor
