/- Joined out of SListLaw..PNew. -/
import Derived.Test.YtolpcfhfcdkokaaGreatDoorQ30
import Derived.Test.YtolpcfhfcdkokaaGreatDoorQ34
set_option maxHeartbeats 16000000
set_option maxRecDepth 100000
namespace Go.Proofs.YtolpcfhfcdkokaaGreatDoor
open Lib (hid)
open Go.RowKit
def zJ5 (x:Ent):Bool→List Ent→List Ent
 | done,[]=>if done then [] else [x]
 | done,y::r=>if done=false∧zA6.lt x.1 y.1=true then x::y::zJ5 x true r else y::zJ5 x done r
theorem zG6 (x:Ent):∀ l:List Ent,zJ5 x true l=l
 | []=>rfl
 | y::r=>by rw [zJ5,if_neg (by simp),zG6 x r]
def zD0 (T:PT) (p:ByteArray×Nat):Ent:=(p.1,p.2,(T.node p.2).kind)
theorem zI9 (T:PT) (nm:ByteArray) (i:Nat):∀ {l:List (ByteArray×Nat)},zJ5 (zD0 T (nm,i)) false (l.map (zD0 T))=(zCn zA6 (nm,i) l).map (zD0 T)
 | []=>rfl
 | y::r=>by
  rw [List.map_cons,zJ5,zCn];by_cases h:zA6.lt nm y.1=true
  · rw [if_pos ⟨rfl,h⟩,if_pos h,zG6];rfl
  · rw [if_neg fun hh=>h hh.2,if_neg h,List.map_cons,zI9 T nm i]
theorem zIH {α β:Type} [DecidableEq α] {a:α}:∀ {l:List (α×β)},zAd a l=none→zBE a l=l
 | [],_=>rfl
 | y::r,h=>by
  unfold zAd at h
  split at h
  · cases h
  · rename_i e;have ih:=zIH h;unfold zBE at ih ⊢;rw [List.filter_cons,if_pos (by simpa using e),ih]
structure Fst (n:PN) (k:Nat) (F:List (ByteArray×Nat)):Prop where
 ris:zBs zA6 F
 get:∀ nm∈n.slots.take k,zAd nm F=zAd nm n.names
 no:∀ nm,nm ∉ n.slots.take k→zAd nm F=none
theorem fst_0 (n:PN):Fst n 0 []:=⟨List.Pairwise.nil,fun nm h=>absurd h (by rw [List.take_zero];simp),fun _ _=>rfl⟩
section
variable {n:PN} {k:Nat} {F:List (ByteArray×Nat)}
theorem Fst.free (h:Fst n k F) (hk:k<n.slots.length) (he:n.slots[k]=emp) (h0:zAd emp n.names=none):Fst n (k+1) F:=by
 refine⟨h.ris,fun nm hm=>?_,fun nm hm=>?_⟩
 · rw [List.take_succ_eq_append_getElem hk,he] at hm;rcases List.mem_append.1 hm with h1 | h1
   · exact h.get nm h1
   · obtain rfl:=List.mem_singleton.1 h1;by_cases h2:(emp:ByteArray)∈n.slots.take k
     · exact h.get _ h2
     · rw [h.no _ h2,h0]
 · exact h.no nm fun h1=>hm (by rw [List.take_succ_eq_append_getElem hk];exact List.mem_append_left _ h1)
theorem Fst.put (h:Fst n k F) (hs:SlOk n) (hk:k<n.slots.length) {nm:ByteArray} {i:Nat} (he:n.slots[k]=nm) (hn:nm≠emp) (hg:zAd nm n.names=some i):Fst n (k+1) (zCn zA6 (nm,i) F):=by
 have fB:nm ∉ n.slots.take k:=fun hm=>by
  obtain⟨q,hq,e⟩:=List.getElem_of_mem hm;rw [List.length_take] at hq;rw [List.getElem_take] at e;have:=zFU hs hn (k:=k) (q:=q) (by rw [List.getElem?_eq_getElem hk,he]) (by rw [List.getElem?_eq_getElem (by omega),e]);omega
 have fA:zCn zA6 (nm,i) F=zBa zA6 nm i F:=by unfold zBa;rw [zIH (h.no _ fB)]
 rw [fA];refine⟨h.ris.put zA6 zEw nm i,fun x hm=>?_,fun x hm=>?_⟩
 · rw [List.take_succ_eq_append_getElem hk,he] at hm;by_cases e:x=nm
   · subst e;rw [zAu,hg]
   · rw [zAl zA6 i e];rcases List.mem_append.1 hm with h1 | h1
     · exact h.get x h1
     · exact absurd (List.mem_singleton.1 h1) e
 · rw [List.take_succ_eq_append_getElem hk,he] at hm;rw [zAl zA6 i fun e=>hm (by rw [e];simp)];exact h.no x fun h1=>hm (List.mem_append_left _ h1)
theorem Fst.all (h:Fst n n.slots.length F) (hs:SlOk n) (ho:n.Ok):F=n.names:=by
 refine zBs.ext zA6 h.ris ho.nris fun nm=>?_;by_cases h1:nm∈n.slots
 · exact h.get nm (by rw [List.take_length];exact h1)
 · rw [h.no nm (by rw [List.take_length];exact h1)]
   cases e:zAd nm n.names with
   | none=>rfl
   | some i=>exact absurd (hs.at_ _ (zAi e)) h1
end
def ListP (l:List Ent) (w:World) (e:Ending) (w':World):Prop:=(∃ A c,e=.returned (.slice A l.length c)∧Sees w' w'.heap.size 3 A l.length (l.flatMap zBq)∧∀ a,A=some a→w.heap.size≤a.block)∧Below w.heap.size w w'
theorem ent_set {w:World} {g i:Nat} {nm:ByteArray} {kd:Int} (h:Blk w g 130 [.string ⟨#[]⟩,.int .i64 0,.int .i64 0]):Blk (((w.setCell ⟨g,0,none⟩ (.string nm)).setCell ⟨g,1,none⟩ (.int .i64 (i:Int))).setCell ⟨g,2,none⟩ (.int .i64 kd)) g 130 (zBq (nm,i,kd)) ∧
 Chg (fun b=>b=g) w (((w.setCell ⟨g,0,none⟩ (.string nm)).setCell ⟨g,1,none⟩ (.int .i64 (i:Int))).setCell ⟨g,2,none⟩ (.int .i64 kd)) :=
 ⟨((h.set_ 0 (.string nm)).set_ 1 (.int .i64 (i:Int))).set_ 2 (.int .i64 kd),
  (((Chg.refl (fun b=>b=g) w).setCell (p:=⟨g,0,none⟩) (fun _=>rfl) _).setCell (p:=⟨g,1,none⟩) (fun _=>rfl) _).setCell (p:=⟨g,2,none⟩) (fun _=>rfl) _⟩
theorem zDr:∀ a b:List UInt8,(!Op.bytesLess a b && !(a==b))=bytesBefore b a
 | [],[]=>by simp [Op.bytesLess,bytesBefore]
 | [],b::s=>by simp [Op.bytesLess,bytesBefore]
 | a::r,[]=>by simp [Op.bytesLess,bytesBefore]
 | a::r,b::s=>by
  have ih:=zDr r s;rw [bytesBefore,←ih];simp only [Op.bytesLess];by_cases h1:a<b
  · have h2:¬b<a:=fun h=>absurd (UInt8.lt_trans h1 h) (UInt8.lt_irrefl _)
    have h3:¬b=a:=fun e=>by subst e;exact h2 h1
    simp [h1,h2,h3]
  · by_cases h2:a=b
    · subst h2;simp [h1]
    · have h3:b<a:=by
       rw [UInt8.lt_iff_toNat_lt] at h1 ⊢;have:a.toNat≠b.toNat:=fun e=>h2 (UInt8.toNat_inj.1 e);omega
      simp [h1,h2,h3]
theorem ents_at {w:World} {B m:Nat} {A:Option Addr} {l:List Ent} (h:Sees w B 3 A m (l.flatMap zBq)) (hm:l.length=m) (q:Nat) (hq:q<l.length):∃ b off,A=some ⟨b,off,none⟩∧∀ w',Below B w w'→w'.rangeAt b (off+q * 3) (zBq l[q]):=by
 obtain⟨b,off,e,hb,hc⟩:=h.at_ (by omega);refine⟨b,off,e,fun w' hw j v hj=>?_⟩;have fA:j<3:=(List.getElem?_eq_some_iff.1 hj).1;rw [Nat.add_assoc,hw.cell (p:=⟨b,off+(q * 3+j),none⟩) hb];exact hc _ _ ((zDd zBq 3 l (fun _ _=>rfl) q hq j fA).trans hj)
theorem zIj {α β:Type} (K:KE α) (x:α×β):∀ l:List (α×β),(zCn K x l).length=l.length+1
 | []=>rfl
 | y::r=>by unfold zCn;split<;>simp [zIj K x r]
theorem zFn (t:Tr) (T:PT) (d:Nat) (n:PN) (x:Hd) (w:World) (h:RefS (fun _=>False) w t T) (hx:HdR (fun _=>False) w x d n) (hT:T.Wf) (hg:zAd d T.nodes=some n) (hd:n.dir=true) :
 Calls Tryz.prog 83 #[trV t,hdV x] w (ListP (n.names.map (zD0 T)) w):=by
 obtain⟨Q,hQ⟩:∃ Q,ListP (n.names.map (zD0 T)) w=Q:=⟨_,rfl⟩;rw [hQ];have kX:=hid hQ;obtain⟨iE,gL,fJ,fK,fL⟩:=info_parts zIJ;have gM:=(hT.ok.get hg).1;have hD:=hx.rep.dir gM hd;have kK:=hx.rep.rng gM hd;obtain⟨len,fU⟩:∃ len,len=n.slots.length:=⟨_,rfl⟩;have fM:=hid fU
 have kY:len≤1068:=by rw [fU];exact gM.slots
 have gV:Hid (x.idx.length=len):=hid (by rw [kK,List.length_range,fU]);have jI:Below w.heap.size w ((w.alloc (.cells (zAa t).toArray 28)).alloc (.cells (zAb x).toArray 123)):=((Below.refl _ _).alloc (Nat.le_refl _) _).alloc (by simp) _;have jJ:=(Blk.new w 28 (zAa t)).alloc (.cells (zAb x).toArray 123);have gW:=Blk.new (w.alloc (.cells (zAa t).toArray 28)) 123 (zAb x);rw [show (w.alloc (.cells (zAa t).toArray 28)).heap.size=w.heap.size+1 by simp] at gW;have hH:=hid h;have gN:=hid hx;have jK:=hid hT;have kL:=hid hg;have jL:=hid gM;have kM:=hid hD;clear hQ h hx hT hg hd gM hD kK fU;unfold trV hdV;go_enter Tryz.func83,Tryz.ntmps83;go_upto_region 1 with (fail);change Code.wp _ _ _ _ ((w.alloc (.cells (zAa t).toArray 28)).alloc (.cells (zAb x).toArray 123));generalize (w.alloc (.cells (zAa t).toArray 28)).alloc (.cells (zAb x).toArray 123)=w0 at *;obtain⟨g,gX⟩:∃ g,w.heap.size=g:=⟨_,rfl⟩;rw [gX] at gW jJ jI;simp only [gX];have gY:=hid gX;have gO:=hid jI;have jM:=hid jJ;have fN:=hid gW;clear gX jI jJ gW;go_wp2_with fail
 go_loopw [5,6] (fun v i' wr=>∃ (k:Nat) (F:List (ByteArray×Nat)),k≤len∧i'=.int .i64 k∧F.length≤k∧Hid (Fst n k F)∧Hid (wr.ownsRow (g+2) 130 3 v (F.map (zD0 T)).length ((F.map (zD0 T)).flatMap zBq))∧Hid (Below (g+2) w0 wr)) (fun _ i' _=>len-(intOf i').toNat)
 case atStart=>exact⟨0,[],Nat.zero_le _,rfl,Nat.le_refl _,hid (fst_0 n),hid (World.ownsRow_nil _ _ _ _),hid (Below.refl _ _)⟩
 case round =>
  obtain⟨k,F,hk,rfl,kZ,hF,hO,hb⟩:=hrel;have kN:Hid (Below g w wr):=hid (gO.out.trans (hb.out.mono (by omega)));have hX:=fN.out.below hb.out (by omega);obtain⟨-,-,-,-,-,-,x6,x7⟩:=zAO hX;rw [gV.out] at x6;by_cases jN:k<len
  · have jO:k<x.dat.length:=by rw [(gN.out).at_.len,gV.out];exact jN
    have jP:k<(zAw n).length:=by unfold zAw;rw [List.length_map,←fM.out];exact jN
    have jQ:k<n.slots.length:=by rw [←fM.out];exact jN
    have gZ:=gN.out.fresh (by rw [gY.out];exact kN.out);obtain⟨b2,off2,kO,lA,jA⟩:=gZ.at_.sec_cell k jO;have jB:=gZ.at_.sec _ (List.getElem_mem jO);have jR:=kM.out.ok _ (List.getElem_mem jP);rw [kM.out.get k jO jP] at jA jB;rw [kO,gZ.at_.len,gV.out] at x7;obtain⟨o,ho⟩:∃ o,(zAw n)[k]=o:=⟨_,rfl⟩;rw [ho] at jA jB jR;have jC:Hid (slN n n.slots[k]=o):=hid (by rw [←ho];simp [zAw]);have jS:=zCk o wr jR;unfold zGn at jS;clear kO jP gZ ho hX
    go_upto_region 6 with (first
     | (refine wpList_load_mid rfl 187 (.tmp 24) rfl b2 (off2+k * 128) rfl (bvs (zFo o)) _ jA Tryz.underlying187 rfl (by rw [zBd,zAe,jB]) ?_)
     | (go_at_call 118;refine jS.mono ?_;rintro e w3 ⟨rfl,jD⟩))
    have jE:=Blk.new w3 179 [.int .i64 (zB3 o),.string (zCh o)];have jT:=jD.trans (((Below.refl w3.heap.size w3).alloc (Nat.le_refl _) (.cells #[.int .i64 (zB3 o),.string (zCh o)] 179)).mono jD.size);change Code.wp _ _ _ _ (w3.alloc (.cells [.int .i64 (zB3 o),.string (zCh o)].toArray 179));have lO:wr.heap.size≤w3.heap.size:=jD.size;clear jD;generalize w3.alloc (.cells [.int .i64 (zB3 o),.string (zCh o)].toArray 179)=w4 at *;generalize w3.heap.size=y at *;have kP:=hid (zAN hO.out jT);have fH:=hid (hb.out.trans (jT.mono (by have:=hb.out.size;have:=fN.out.lt;omega)));obtain⟨-,-,-,-,-,-,x6,x7⟩:=zAO (fN.out.below fH.out (by omega));rw [gV.out] at x6;have o0:=jE.cell 0;have o1:=jE.cell 1;simp only [List.getElem?_cons_zero,List.getElem?_cons_succ] at o0 o1;have gP:=hid jE;clear jT jS jA jB hO hb jE
    cases o with
    | none =>
     have jF:Hid (Fst n (k+1) F):=hid (hF.out.free jQ (by
      have h1:=jC.out;unfold slN at h1;by_cases e:n.slots[k]=emp
      · exact e
      · rw [if_neg e] at h1;have h2:=gN.out.rep.sl.has _ (List.getElem_mem jQ) e
        cases e3:zAd n.slots[k] n.names with
        | none=>rw [e3] at h2;cases h2
        | some i=>rw [e3] at h1;cases h1) (jK.out.nemp d n kL.out))
     simp only [zB3] at o0;clear hF jC;go_wp2_with fail;go_roundw
     case rel=>exact⟨k+1,F,by omega,by go_num,by omega,jF,kP,fH⟩
     case measure=>simp [intOf];omega
    | some on =>
     obtain⟨i,nm⟩:=on;simp only [zB3,zCh] at o0 o1
     have lP:((i:Int)==0)=false:=by have:=jR.1;simp;omega
     have gI:=zEx jC.out;obtain⟨mi,jU⟩:=jK.out.ents d n nm i kL.out gI.2.2;have jF:Hid (Fst n (k+1) (zCn zA6 (nm,i) F)):=hid (hF.out.put gN.out.rep.sl jQ gI.1 (by rw [←gI.1];exact gI.2.1) gI.2.2);have jV:=jM.out.below fH.out (by omega);have lB:=hid (hH.out.fresh (w':=w4) (by rw [gY.out];exact gO.out.trans (fH.out.mono (by omega))));obtain⟨xi,-,gQ,jW⟩:=zBC lB.out jK.out.ok jU
     have jX:xi.kind=(T.node i).kind:=by rw [gQ.rep.kind,zAp jU]
     have fld:=zFN xi;unfold trV hdV at jW;have gR:=hid jW;have fV:Hid (Blk w4 y 179 [.int .i64 (i:Int),.string nm]):=hid gP.out;have fW:=hid jV;have jY:Hid (Below w4.heap.size w4 w4.drew):=hid (zAf (Below.refl _ w4) 1);have jZ:Hid (Below w4.heap.size w4 (w4.alloc (.cells #[.string ⟨#[]⟩,.int .i64 0,.int .i64 0] 130)).drew):=hid (zAf ((Below.refl _ _).alloc (Nat.le_refl _) _) 1);have lC:=hid (Blk.new w4 130 [.string ⟨#[]⟩,.int .i64 0,.int .i64 0]);obtain⟨a0,a1,a2,a3⟩:=zAr jV;obtain⟨kd,gS⟩:∃ kd,xi.kind=kd:=⟨_,rfl⟩;rw [gS] at jX fld;have kA:=hid jX;clear hF jC gI jU jW gQ gS jX jV;go_upto_region 7 with (fail)
     go_cut [9] from 32 to 41 (fun v wx=>∃ ub,v=.pointer (some ⟨ub,0,none⟩)∧Hid (w4.heap.size≤ub)∧Hid (Blk wx ub 130 (zBq (nm,i,kd)))∧Hid (Below w4.heap.size w4 wx))
     case first =>
      go_region_held3 (fun w'=>w'.cell? ⟨g,0,none⟩=some (.int .i64 t.sectors)∧w'.cell? ⟨g,1,none⟩=some (.int .i64 t.inodes)∧w'.cell? ⟨g,2,none⟩=some (.int .i64 t.births)∧w'.cell? ⟨g,3,none⟩=some (.slice t.A t.l.length t.c)∧w'.cell? ⟨y,0,none⟩=some (.int .i64 (i:Int))∧w'.cell? ⟨y,1,none⟩=some (.string nm))
       (first | go_keep)
       (first
        | (go_at_call 81;first
         | ((with_reducible refine (gR.out w4.drew jY.out).mono ?_);rintro e w5 ⟨rfl,gJ⟩;have fD:=hid (jY.out.trans (gJ.mono jY.out.size));obtain⟨a0,a1,a2,a3⟩:=zAr (fW.out.fresh fD.out);obtain⟨c0,c1⟩:=zC0 (fV.out.fresh fD.out);clear gJ)
         | ((with_reducible refine (gR.out (w4.alloc (.cells #[.string ⟨#[]⟩,.int .i64 0,.int .i64 0] 130)).drew jZ.out).mono ?_);rintro e w5 ⟨rfl,gJ⟩;have fD:=hid (jZ.out.trans (gJ.mono jZ.out.size));obtain⟨a0,a1,a2,a3⟩:=zAr (fW.out.fresh fD.out);obtain⟨c0,c1⟩:=zC0 (fV.out.fresh fD.out);have gD:=hid (Blk.fresh (w:=(w4.alloc (.cells #[.string ⟨#[]⟩,.int .i64 0,.int .i64 0] 130)).drew) lC.out gJ);have jG:=ent_set (i:=i) (nm:=nm) (kd:=kd) gD.out;have lD:=fW.out.lt;have lE:=fV.out.lt;obtain⟨d0,d1,d2,d3⟩:=zAr ((fW.out.fresh fD.out).chg jG.2 (by omega));obtain⟨d4,d5⟩:=zC0 ((fV.out.fresh fD.out).chg jG.2 (by omega));have gT:=hid jG;have z0:=gD.out.cell 0;have z1:=gD.out.cell 1;have z2:=gD.out.cell 2;have f0:=gD.out.frozen 0;have f1:=gD.out.frozen 1;have f2:=gD.out.frozen 2;simp only [List.getElem?_cons_succ,List.getElem?_cons_zero] at z0 z1 z2;clear gJ jG lD lE)))
      all_goals (go_wp2;go_meet)
      · exact⟨_,rfl,hid fD.out.size,hid (Blk.new w5 130 (zBq (nm,i,kd))),hid (fD.out.alloc fD.out.size _)⟩
      · exact⟨_,rfl,hid (Nat.le_refl _),hid gT.out.1,hid (fD.out.trans (gT.out.2.below fD.out.size fun b hb h=>by omega))⟩
     case rest =>
      obtain⟨ub,rfl,lF,lG,kQ⟩:=hcut;have kC:=hid (zAN kP.out kQ.out);have gE:=hid (fH.out.trans (kQ.out.mono (by have:=fH.out.size;have:=fN.out.lt;omega)));have lQ:y<ub:=Nat.lt_of_lt_of_le gP.out.lt lF.out;generalize wc=w6 at *;obtain⟨L,hL⟩:∃ L,F.map (zD0 T)=L:=⟨_,rfl⟩;obtain⟨m,hm⟩:∃ m,L.length=m:=⟨_,rfl⟩
      have lR:m≤k:=by rw [←hm,←hL,List.length_map];exact kZ
      rw [hL] at kC;have lH:=hid hL;have kR:=hid hm;obtain⟨A5,c5,kS,gA⟩:=Sees.of_own (B:=w6.heap.size) kC.out fun g hg=>(World.ownsRow.lt kC.out g hg).2;rw [hm] at kS;subst kS;have gF:=hid gA;clear hL hm gA;go_wp2_with fail
      go_loopw [10,11,12] (fun v dn i' wr=>∃ (q:Nat) (acc:List Ent) (done:Bool),q≤m∧i'=.int .i64 q∧dn=.bool done∧acc.length≤2 * q∧Hid (acc++zJ5 (nm,i,kd) done (L.drop q)=zJ5 (nm,i,kd) false L)∧Hid (wr.ownsRow w6.heap.size 130 3 v acc.length (acc.flatMap zBq))∧Hid (Below w6.heap.size w6 wr)) (fun _ _ i' _=>m-(intOf i').toNat)
      case atStart=>exact⟨0,[],false,Nat.zero_le _,rfl,rfl,by simp,hid (by simp),hid (World.ownsRow_nil _ _ _ _),hid (Below.refl _ _)⟩
      case round =>
       obtain⟨q,acc,done,hq,rfl,rfl,kT,fX,hN,fI⟩:=hrel;have gB:=lG.out.fresh fI.out;have e0:=gB.cell 0;simp only [zBq,List.getElem?_cons_zero] at e0;by_cases lI:q<m
       · have kU:q<L.length:=by rw [kR.out];exact lI
         obtain⟨b5,off5,lJ,kD⟩:=ents_at gF.out rfl q kU;have fO:L.drop q=L[q]::L.drop (q+1):=List.drop_eq_getElem_cons kU;have hy:=kD wr fI.out;have fP:=hid kD;obtain⟨y,kE⟩:∃ y,L[q]=y:=⟨_,rfl⟩;rw [kE] at fO hy;rw [kE] at fP;have y0:=hy 0 _ rfl;rw [Nat.add_zero] at y0;subst lJ;have lK:=kY;have fQ:=hN.out;obtain⟨al,fE⟩:∃ al,acc.length=al:=⟨_,rfl⟩;obtain⟨fl,gG⟩:∃ fl,acc.flatMap zBq=fl:=⟨_,rfl⟩;rw [fE] at kT;rw [fE,gG] at fQ;have fF:=hid fE;have fR:=hid gG;have fA:=fX.out;rw [fO,zJ5] at fA;clear kD fO fE gG fX kE
         cases done with
         | true =>
          rw [if_neg (by simp)] at fA;have fB:=hid fA;clear fA;go_upto_region 13 with (fail)
          go_quiet (fail)
          have fC:=hid (zAf fI.out nq);have gC:=zAN fQ (zAf (Below.refl _ wr) nq);have jH:=fP.out _ fC.out;have kF:=gB.fresh (zAf (Below.refl _ wr) nq);clear fQ hy gB hN fI;generalize wr.drewN nq=wq at *
          go_wp2_with (first
           | (refine wpList_load_mid rfl 130 (.tmp 67) rfl b5 (off5+q * 3) rfl (zBq y) _ jH Tryz.underlying130 rfl rfl ?_)
           | (refine zAq rfl 65 130 (.tmp 68) rfl (zBq y).toArray (by rfl) 3 Tryz.underlying65 zDY zEnt rfl (by omega) (by omega) ?_)
           | (at_builtin;refine zAk _ rfl (.tmp 64) (.tmp 69) _ _ rfl w6.heap.size 130 iE (.agg #[.string ⟨#[]⟩,.int .i64 0,.int .i64 0]) 3 32 Tryz.underlying65 gL fJ fK fL rfl u10 al fl rfl (gC.alloc _) 1 (zBq y) (zBP (P:=Tryz.prog) Tryz.underlying65 (Blk.new wq 130 (zBq y)) (zCL _)) (by unfold maxLen;omega) (by omega) (by have:=fC.out.size;simp;omega) ?_;intro v1 w9 ho hg fY;have fG:Chg (fun b=>w6.heap.size≤b) wq w9:=((Chg.refl (fun b=>w6.heap.size≤b) wq).alloc _).grown hg (fun g' e _=>(World.ownsRow.lt gC g' e).1);have fT:=hid (fC.out.trans (fG.below fC.out.size fun b hb h=>by omega));have fZ:=hid ho;clear ho;clear fG hg fY))
          go_roundw
          case rel=>exact⟨q+1,acc++[y],true,by omega,by go_num,rfl,by simp only [List.length_append,List.length_cons,List.length_nil,fF.out];omega,hid (by have h9:=fB.out;simpa using h9),hid (by simp only [List.length_append,List.flatMap_append,List.length_cons,List.length_nil,List.flatMap_cons,List.flatMap_nil,List.append_nil,fF.out,fR.out];have h9:=fZ.out;simpa using h9),fT⟩
          case measure=>simp [intOf];omega
         | false =>
          by_cases gK:zA6.lt nm y.1=true
          · rw [if_pos ⟨rfl,gK⟩] at fA;have fB:=hid fA
            have fS:(!Op.bytesLess y.1.toList nm.toList && !(y.1.toList==nm.toList))=true:=by rw [zDr,Lib.toList_data,Lib.toList_data];exact gK
            clear fA gK;go_upto_region 13 with (fail);have gH:=hid fS;clear fS
            go_quiet (fail)
            rw [gH.out];have fC:=hid (zAf fI.out nq);have gC:=zAN fQ (zAf (Below.refl _ wr) nq);have jH:=fP.out _ fC.out;have kF:=gB.fresh (zAf (Below.refl _ wr) nq);clear fQ hy gB hN fI;generalize wr.drewN nq=wq at *
            go_wp2_with (first
             | (refine wpList_load_row rfl 130 (.tmp 9) rfl ub rfl 130 (zBq (nm,i,kd)).toArray _ _ kF Tryz.underlying130 rfl rfl ?_)
             | (refine zAq rfl 65 130 (.tmp 61) rfl (zBq (nm,i,kd)).toArray (by rfl) 3 Tryz.underlying65 zDY zEnt rfl (by omega) (by omega) ?_)
             | (at_builtin;refine zAk _ rfl (.tmp 60) (.tmp 62) _ _ rfl w6.heap.size 130 iE (.agg #[.string ⟨#[]⟩,.int .i64 0,.int .i64 0]) 3 32 Tryz.underlying65 gL fJ fK fL rfl u10 al fl rfl (gC.alloc _) 1 (zBq (nm,i,kd)) (zBP (P:=Tryz.prog) Tryz.underlying65 (Blk.new wq 130 (zBq (nm,i,kd))) (zCL _)) (by unfold maxLen;omega) (by omega) (by have:=fC.out.size;simp;omega) ?_;intro v1 w9 ho hg fY;have fG:Chg (fun b=>w6.heap.size≤b) wq w9:=((Chg.refl (fun b=>w6.heap.size≤b) wq).alloc _).grown hg (fun g' e _=>(World.ownsRow.lt gC g' e).1);have fT:=hid (fC.out.trans (fG.below fC.out.size fun b hb h=>by omega));have fZ:=ho;have lL:=fP.out w9 fT.out;clear ho;clear fG hg fY)
             | (refine wpList_load_mid rfl 130 (.tmp 67) rfl b5 (off5+q * 3) rfl (zBq y) _ lL Tryz.underlying130 rfl rfl ?_)
             | (refine zAq rfl 65 130 (.tmp 68) rfl (zBq y).toArray (by rfl) 3 Tryz.underlying65 zDY zEnt rfl (by omega) (by omega) ?_)
             | (at_builtin;refine zAk _ rfl (.tmp 64) (.tmp 69) _ _ rfl w6.heap.size 130 iE (.agg #[.string ⟨#[]⟩,.int .i64 0,.int .i64 0]) 3 32 Tryz.underlying65 gL fJ fK fL rfl v1 (al+1) (fl++zBq (nm,i,kd)) rfl (fZ.alloc _) 1 (zBq y) (zBP (P:=Tryz.prog) Tryz.underlying65 (Blk.new w9 130 (zBq y)) (zCL _)) (by unfold maxLen;omega) (by omega) (by have:=fT.out.size;simp;omega) ?_;intro v2 w10 ho hg fY;have fG:Chg (fun b=>w6.heap.size≤b) w9 w10:=((Chg.refl (fun b=>w6.heap.size≤b) w9).alloc _).grown hg (fun g' e _=>(World.ownsRow.lt fZ g' e).1);have kG:=hid (fT.out.trans (fG.below fT.out.size fun b hb h=>by omega));have kI:=hid ho;clear ho;clear fG hg fY))
            go_roundw
            case rel=>exact⟨q+1,acc++[(nm,i,kd),y],true,by omega,by go_num,rfl,by simp only [List.length_append,List.length_cons,List.length_nil,fF.out];omega,hid (by have h9:=fB.out;simpa using h9),hid (by simp only [List.length_append,List.flatMap_append,List.length_cons,List.length_nil,List.flatMap_cons,List.flatMap_nil,List.append_nil,fF.out,fR.out];have h9:=kI.out;simpa using h9),kG⟩
            case measure=>simp [intOf];omega
          · rw [if_neg (fun h=>gK h.2)] at fA;have fB:=hid fA
            have fS:(!Op.bytesLess y.1.toList nm.toList && !(y.1.toList==nm.toList))=false:=by rw [zDr,Lib.toList_data,Lib.toList_data];show zA6.lt nm y.1=false;simpa using gK
            clear fA gK;go_upto_region 13 with (fail);have gH:=hid fS;clear fS
            go_quiet (fail)
            rw [gH.out];have fC:=hid (zAf fI.out nq);have gC:=zAN fQ (zAf (Below.refl _ wr) nq);have jH:=fP.out _ fC.out;have kF:=gB.fresh (zAf (Below.refl _ wr) nq);clear fQ hy gB hN fI;generalize wr.drewN nq=wq at *
            go_wp2_with (first
             | (refine wpList_load_mid rfl 130 (.tmp 67) rfl b5 (off5+q * 3) rfl (zBq y) _ jH Tryz.underlying130 rfl rfl ?_)
             | (refine zAq rfl 65 130 (.tmp 68) rfl (zBq y).toArray (by rfl) 3 Tryz.underlying65 zDY zEnt rfl (by omega) (by omega) ?_)
             | (at_builtin;refine zAk _ rfl (.tmp 64) (.tmp 69) _ _ rfl w6.heap.size 130 iE (.agg #[.string ⟨#[]⟩,.int .i64 0,.int .i64 0]) 3 32 Tryz.underlying65 gL fJ fK fL rfl u10 al fl rfl (gC.alloc _) 1 (zBq y) (zBP (P:=Tryz.prog) Tryz.underlying65 (Blk.new wq 130 (zBq y)) (zCL _)) (by unfold maxLen;omega) (by omega) (by have:=fC.out.size;simp;omega) ?_;intro v1 w9 ho hg fY;have fG:Chg (fun b=>w6.heap.size≤b) wq w9:=((Chg.refl (fun b=>w6.heap.size≤b) wq).alloc _).grown hg (fun g' e _=>(World.ownsRow.lt gC g' e).1);have fT:=hid (fC.out.trans (fG.below fC.out.size fun b hb h=>by omega));have fZ:=hid ho;clear ho;clear fG hg fY))
            go_roundw
            case rel=>exact⟨q+1,acc++[y],false,by omega,by go_num,rfl,by simp only [List.length_append,List.length_cons,List.length_nil,fF.out];omega,hid (by have h9:=fB.out;simpa using h9),hid (by simp only [List.length_append,List.flatMap_append,List.length_cons,List.length_nil,List.flatMap_cons,List.flatMap_nil,List.append_nil,fF.out,fR.out];have h9:=fZ.out;simpa using h9),fT⟩
            case measure=>simp [intOf];omega
       · obtain rfl:q=m:=by omega
         have kV:L.drop q=[]:=List.drop_eq_nil_of_le (by rw [kR.out];exact Nat.le_refl _)
         have gU:zJ5 (nm,i,kd) false L=(zCn zA6 (nm,i) F).map (zD0 T):=by
          have h9:=zI9 T nm i (l:=F);unfold zD0 at h9;rw [←kA.out] at h9;rw [←lH.out];exact h9
         have fA:=fX.out;rw [kV,gU] at fA;have fQ:=hN.out;obtain⟨al,fE⟩:∃ al,acc.length=al:=⟨_,rfl⟩;obtain⟨fl,gG⟩:∃ fl,acc.flatMap zBq=fl:=⟨_,rfl⟩;rw [fE] at kT;rw [fE,gG] at fQ;have fF:=hid fE;have fR:=hid gG
         have kW:g+2≤w6.heap.size:=by have:=gE.out.size;have:=fN.out.lt;omega
         have lS:(zCn zA6 (nm,i) F).length=F.length+1:=zIj zA6 (nm,i) F;clear fX kV gU fE gG
         cases done with
         | true =>
          have fB:Hid (acc=(zCn zA6 (nm,i) F).map (zD0 T)):=hid (by simpa [zJ5] using fA);clear fA;go_wp2_with fail;go_roundw
          case rel=>exact⟨k+1,zCn zA6 (nm,i) F,by omega,by go_num,by omega,jF,hid (by rw [←fB.out];exact zBT hN.out fun g' e=>by have:=(World.ownsRow.lt hN.out g' e).1;omega),hid (gE.out.trans (fI.out.mono kW))⟩
          case measure=>simp [intOf];omega
         | false =>
          have fB:Hid (acc++[(nm,i,kd)]=(zCn zA6 (nm,i) F).map (zD0 T)):=hid (by simpa [zJ5] using fA);clear fA
          go_wp2_with (first
           | (refine wpList_load_row rfl 130 (.tmp 9) rfl ub rfl 130 (zBq (nm,i,kd)).toArray _ _ gB Tryz.underlying130 rfl rfl ?_)
           | (refine zAq rfl 65 130 (.tmp 74) rfl (zBq (nm,i,kd)).toArray (by rfl) 3 Tryz.underlying65 zDY zEnt rfl (by omega) (by omega) ?_)
           | (at_builtin;refine zAk _ rfl (.tmp 73) (.tmp 75) _ _ rfl w6.heap.size 130 iE (.agg #[.string ⟨#[]⟩,.int .i64 0,.int .i64 0]) 3 32 Tryz.underlying65 gL fJ fK fL rfl u10 al fl rfl (fQ.alloc _) 1 (zBq (nm,i,kd)) (zBP (P:=Tryz.prog) Tryz.underlying65 (Blk.new wr 130 (zBq (nm,i,kd))) (zCL _)) (by unfold maxLen;omega) (by omega) (by have:=fI.out.size;simp;omega) ?_;intro v1 w9 ho hg fY;have fG:Chg (fun b=>w6.heap.size≤b) wr w9:=((Chg.refl (fun b=>w6.heap.size≤b) wr).alloc _).grown hg (fun g' e _=>(World.ownsRow.lt fQ g' e).1);have fT:=hid (fI.out.trans (fG.below fI.out.size fun b hb h=>by omega));have fZ:=hid ho;clear ho;clear fG hg fY))
          go_roundw
          case rel=>exact⟨k+1,zCn zA6 (nm,i) F,by omega,by go_num,by omega,jF,hid (by rw [←fB.out];simp only [List.length_append,List.flatMap_append,List.length_cons,List.length_nil,List.flatMap_cons,List.flatMap_nil,List.append_nil,fF.out,fR.out];exact zBT fZ.out fun g' e=>by have:=(World.ownsRow.lt fZ.out g' e).1;omega),hid (gE.out.trans (fT.out.mono kW))⟩
          case measure=>simp [intOf];omega
  · obtain rfl:k=len:=by omega
    have lM:Hid (F=n.names):=hid (by have h1:=hF.out;rw [fM.out] at h1;exact h1.all gN.out.rep.sl jL.out);obtain⟨A,c,hv,kJ⟩:=Sees.of_own (B:=wr.heap.size) hO.out fun g hg=>(World.ownsRow.lt hO.out g hg).2;have lN:=(World.ownsRow.lt hO.out);subst hv;clear hF;go_wp2_with fail;rw [←kX.out,←lM.out];refine⟨⟨A,c,rfl,kJ,fun a e=>?_⟩,by rw [gY.out];exact kN.out⟩;have:=(lN a.block (by rw [e];rfl)).1;have:=gY.out;omega
open Go.Proofs
def zFj (z p:Nat):Nat→Option Role:=fun b=>if b=p then some .top else if b=z then some .nodes else if b=z+1 then some (.names 1) else if b=z+2 then some (.node 1) else none
def newLay (z:Nat):Nat→NA:=fun _=>⟨z+2,none,zAg,some (z+1)⟩
def NewP (n m:Nat) (w:World) (e:Ending) (w':World):Prop :=
 ∃ own lay p mb,e=.returned (.tuple #[zCq p,.int .i64 0])∧PlainAt w' own lay p mb (PT.new n m)∧(∀ b,b<w.heap.size→own b=none)∧Below w.heap.size w w'
theorem new_done {n m z:Nat} {w w4:World} (hz:z=w.heap.size) (hb:Below z w w4) (hN:Blk w4 (z+2) 110 [.int .i64 2,.int .i64 1,.int .i64 0,.int .i64 0,.map none,zAg,.map (some (z+1))])
 (fB:zAy w4 zA6 zAW 9 (z+1) ([]:List (ByteArray×Nat))) (hm:zAy w4 zAG zCq 3 z [(1,z+2)]) :
 NewP n m w (.returned (.tuple #[.pointer (some ⟨w4.heap.size,0,none⟩),.int .i64 0])) (w4.alloc (.cells #[.int .i64 (n:Int),.int .i64 (m:Int),.map (some z)] 98)):=by
 have fC:z+3≤w4.heap.size:=hN.lt;have hC:Chg (fun _=>False) w4 (w4.alloc (.cells #[.int .i64 (n:Int),.int .i64 (m:Int),.map (some z)] 98)):=(Chg.refl _ w4).alloc _
 have fA:∀ b,b<w4.heap.size→zFj z w4.heap.size b=if b=z then some .nodes else if b=z+1 then some (.names 1) else if b=z+2 then some (.node 1) else none:=fun b hb=>by
  unfold zFj;rw [if_neg (by omega)]
 refine⟨zFj z w4.heap.size,newLay z,w4.heap.size,z,rfl,⟨Blk.new w4 _ _,?_,?_,?_,fun x hx=>?_,fun x hx=>?_,fun b r e=>?_⟩,fun b hb=>?_,hb.trans ((Below.refl w4.heap.size w4).alloc (Nat.le_refl _) _ |>.mono (by omega)) |> fun h=>by rw [hz] at h;exact h⟩
 · unfold zFj;rw [if_pos rfl]
 · rw [fA z (by omega),if_pos rfl]
 · exact hm.chg hC id
 · have:x=(1,⟨true,1,0,0,[],[],[]⟩):=by simpa [PT.new] using hx
   subst this;refine⟨hN.chg hC id,rfl,World.ownsRow_nil _ _ _ _,fB.chg hC id,fun _=>⟨_,rfl⟩,fun e=>(by cases e)⟩
 · have:x=(1,⟨true,1,0,0,[],[],[]⟩):=by simpa [PT.new] using hx
   subst this;refine⟨?_,fun b e=>(by cases e),fun b e=>(by cases e),fun b e=>?_⟩
   · show zFj z w4.heap.size (z+2)=_
     rw [fA _ (by omega),if_neg (by omega),if_neg (by omega),if_pos rfl]
   · have e:some (z+1)=some b:=e;injection e with e;subst e;rw [fA _ (by omega),if_neg (by omega),if_pos rfl]
 · have hs:(w4.alloc (.cells #[.int .i64 (n:Int),.int .i64 (m:Int),.map (some z)] 98)).heap.size=w4.heap.size+1:=by simp
   rw [hs];unfold zFj at e
   split at e
   · omega
   split at e
   · omega
   split at e
   · omega
   split at e
   · omega
   · cases e
 · rw [fA b (by omega),if_neg (by omega),if_neg (by omega),if_neg (by omega)]
theorem pnew_any (n m:Nat) (w:World) (hn:8≤n∧n≤4096) (hm:1≤m∧m≤512) (fI:m+2≤n):Calls Tryz.prog 23 #[.int .i64 (n:Int),.int .i64 (m:Int)] w (NewP n m w):=by
 have fJ:=@run_makeMap Tryz.prog;obtain⟨Q,hQ⟩:∃ Q,NewP n m w=Q:=⟨_,rfl⟩;rw [hQ];have fC:=hid hQ;clear hQ;go_enter Tryz.func23,Tryz.ntmps23
 have t1:decide ((n:Int)<8)=false:=by simp;omega
 have t2:decide (4096<(n:Int))=false:=by simp;omega
 have t3:decide ((m:Int)<1)=false:=by simp;omega
 have t4:decide (512<(m:Int))=false:=by simp;omega
 have t5:decide ((n:Int)<(m:Int)+2)=false:=by simp;omega
 go_upto_region 3 with (fail);clear t1 t2 t3 t4 t5;have h1:zAy ((w.alloc (.map #[] 0)).alloc (.map #[] 0)) zAG zCq 3 w.heap.size []:=(zAy.made w zAG zCq 3).chg ((Chg.refl (fun _=>False) _).alloc _) id
 have h2:zAy ((w.alloc (.map #[] 0)).alloc (.map #[] 0)) zA6 zAW 9 (w.heap.size+1) ([]:List (ByteArray×Nat)):=by
  have:=zAy.made (w.alloc (.map #[] 0)) zA6 zAW 9;simpa using this
 have h3:Blk (((w.alloc (.map #[] 0)).alloc (.map #[] 0)).alloc (.cells [.int .i64 2,.int .i64 1,.int .i64 0,.int .i64 0,.map none,zAg,.map (some (w.heap.size+1))].toArray 110)) (w.heap.size+2) 110 [.int .i64 2,.int .i64 1,.int .i64 0,.int .i64 0,.map none,zAg,.map (some (w.heap.size+1))]:=by
  have:=Blk.new ((w.alloc (.map #[] 0)).alloc (.map #[] 0)) 110 [.int .i64 2,.int .i64 1,.int .i64 0,.int .i64 0,.map none,zAg,.map (some (w.heap.size+1))];simpa using this
 have fA:=(Chg.refl (fun _=>False) ((w.alloc (.map #[] 0)).alloc (.map #[] 0))).alloc (.cells [.int .i64 2,.int .i64 1,.int .i64 0,.int .i64 0,.map none,zAg,.map (some (w.heap.size+1))].toArray 110);have fD:=h1.chg fA id;have fE:=h2.chg fA id;have fF:Below w.heap.size w (((w.alloc (.map #[] 0)).alloc (.map #[] 0)).alloc (.cells [.int .i64 2,.int .i64 1,.int .i64 0,.int .i64 0,.map none,zAg,.map (some (w.heap.size+1))].toArray 110)):=(((Below.refl _ _).alloc (Nat.le_refl _) _).alloc (by simp) _).alloc (by simp;omega) _;clear fA h1 h2
 go_wp2_with (first
  | (refine zA4 _ rfl _ _ _ 96 (.inr rfl) zDW Tryz.underlying96 fD (by simp [maxLen]) rfl 1 rfl (zHv 1 (by omega)) (w.heap.size+2) rfl ?_;intro w4 fG fH;have fB:=zAT fH))
 rw [←fC.out];exact new_done rfl (fF.trans (fB.below (Nat.le_of_lt (Nat.lt_of_le_of_lt (Nat.le_add_right _ 2) h3.lt)) fun b hb e=>by omega)) (h3.chg fB (by omega)) (fE.chg fB (by omega)) fG
end Go.Proofs.YtolpcfhfcdkokaaGreatDoor
