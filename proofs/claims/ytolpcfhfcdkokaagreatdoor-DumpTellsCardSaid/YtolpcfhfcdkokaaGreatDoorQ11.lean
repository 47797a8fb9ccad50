/- Joined out of PNode..PLess. -/
import Derived.StillTailTactics
import Derived.Test.YtolpcfhfcdkokaaGreatDoorQ10
set_option maxHeartbeats 16000000
set_option maxRecDepth 100000
namespace Go.Proofs.YtolpcfhfcdkokaaGreatDoor
open Lib (hid)
open Go.RowKit
open Go.Maps (Keyed)
theorem zGl:(Tryz.prog.info? 9).map (fun i=>(i.zero,i.size,i.bytes))=some (some (.string ⟨#[]⟩),1,16):=by kernel_rfl
theorem zIK (l:List ByteArray) (k:Nat) (x:ByteArray):(strs l).set k (.string x)=strs (l.set k x):=by simp [strs,List.map_set]
theorem strs_snoc (l:List ByteArray) (x:ByteArray):strs l++[.string x]=strs (l++[x]):=by simp [strs]
theorem zEv {w:World} {base:Nat} {e:TypeId} {size:Nat} {v:Value} {n:Nat} {xs:List Value} (h:w.ownsRow base e size v n xs) (hn:0<n):∃ g c,v=.slice (some ⟨g,0,none⟩) n c∧n≤c∧g<w.heap.size:=by
 rcases h.2 with ⟨_,h0⟩ | ⟨g,cap,cur,rfl,hb,hg,hnc,_⟩
 · omega
 · exact⟨g,cap,rfl,hnc,(Array.getElem?_eq_some_iff.1 hg).1⟩
theorem PnAt.turn {w w':World} {a:NA} {n n':PN} {s':Value} {S:Nat→Prop} (h:PnAt w a n) (hc:Chg S w w') (hd:∀ b,a.d=some b→¬S b) (hb:Blk w' a.nb 110 (zCc {a with s:=s'} n')) (hs:w'.ownsRow 0 9 1 s' n'.slots.length (strs n'.slots)) (hn:zDx w' zA6 zAW 9 a.nm n'.names) (fB:n'.data=n.data) (fA:n'.dir=n.dir) :
 PnAt w' {a with s:=s'} n':=⟨hb,by rw [fB];exact h.data.chg hc hd,hs,hn,fun e=>h.dirs (by rw [←fA];exact e),fun e=>h.files (by rw [←fA];exact e)⟩
section
variable {w w':World} {own:Nat→Option Role} {i:Nat} {a:NA} {b:Nat}
theorem Owns.apart (h:Owns own i a):(∀ x,a.d=some x→x≠a.nb)∧(∀ x,a.s.ownBlock=some x→x≠a.nb)∧(∀ x,a.nm=some x→x≠a.nb)∧(∀ x y,a.s.ownBlock=some x→a.nm=some y→x≠y)∧(∀ x y,a.s.ownBlock=some x→a.d=some y→x≠y)∧(∀ x y,a.nm=some x→a.d=some y→x≠y):=by
 refine⟨fun x hx e=>?_,fun x hx e=>?_,fun x hx e=>?_,fun x y hx hy e=>?_,fun x y hx hy e=>?_,fun x y hx hy e=>?_⟩
 · have h1:=h.d x hx;rw [e,h.nb] at h1;cases h1
 · have h1:=h.s x hx;rw [e,h.nb] at h1;cases h1
 · have h1:=h.nm x hx;rw [e,h.nb] at h1;cases h1
 · have h1:=h.s x hx;rw [e,h.nm y hy] at h1;cases h1
 · have h1:=h.s x hx;rw [e,h.d y hy] at h1;cases h1
 · have h1:=h.nm x hx;rw [e,h.d y hy] at h1;cases h1
end
theorem nset_in (own:Nat→Option Role) (i0:Nat) (a:NA) (n:PN) (nb k j:Nat) (nm:ByteArray) (w:World) (h:PnAt w a n) (ho:Owns own i0 a) (hn:n.Ok) (fC:a.nm=some nb) (hk:k<n.slots.length) (hs:nm.size≤1000000) :
 Calls Tryz.prog 98 #[zCq a.nb,zAW k,.string nm,zAW j] w fun e w'=>e=.returned (.tuple #[])∧PnAt w' a (n.set k nm j)∧Chg (Of own i0) w w':=by
 obtain⟨g,c,fF,fM,hg⟩:=zEv h.slots (by omega);have fG:=ho.apart;have fN:=hn.slots;have fW:=Nat.le_trans hn.nlen hn.slots;have c5:=h.c5;have c6:=h.c6;have fA:=h.slots;rw [fF] at c5 fA;rw [fC] at c6;have hm:=h.names;rw [fC] at hm;have e1:=fA.cellAt k (by omega);rw [zCC _ _ hk] at e1
 replace e1:∃ x0,w.cell? ⟨g,k,none⟩=some (.string x0):=⟨_,e1⟩
 obtain⟨x0,e1⟩:=e1;have f1:=fA.frozenAt k;obtain⟨fB,fX⟩:=fA.stored k (.string nm);have fO:g≠a.nb:=fG.2.1 g (by rw [fF];rfl);have fI:g≠nb:=fG.2.2.2.1 g nb (by rw [fF];rfl) fC;have fP:nb≠a.nb:=fG.2.2.1 nb fC;have fQ:Chg (Of own i0) w (w.setCell ⟨g,k,none⟩ (.string nm)):=(Chg.refl _ w).setCell (p:=⟨g,k,none⟩) (fun _=>.inr (.inr (.inl (ho.s g (by rw [fF];rfl))))) _;have fJ:Blk (w.setCell ⟨g,k,none⟩ (.string nm)) a.nb 110 (zCc a n):=h.blk.far (by simpa using fO.symm) _;have fR:=zAy.chg hm ((Chg.refl (fun b=>b=g) w).setCell (p:=⟨g,k,none⟩) (fun _=>rfl) (.string nm)) (fun e=>fI e.symm)
 have d6:(w.setCell ⟨g,k,none⟩ (.string nm)).cell? ⟨a.nb,6,none⟩=some (.map (some nb)):=by rw [←fC];exact fJ.cell 6
 unfold zCq zAW;go_enter Tryz.func98,Tryz.ntmps98;have fS:=hid h;have fK:=hid fG;obtain⟨len,fE⟩:∃ len,len=n.slots.length:=⟨_,rfl⟩;have fD:=hid fE;rw [←fE] at hk fN c5 fA fB fM
 have fY:((k:Int)==(len:Int))=false:=by simp;omega
 have fT:=hid fB;clear fE h fG hm fA fB
 go_wp2_with (first
  | (at_mapUpdate;refine zA4 _ rfl _ _ _ 101 (.inl rfl) kStr Tryz.underlying101 fR (by unfold maxLen;omega) rfl nm rfl (keyS nm (by unfold maxLen;omega)) j rfl ?_;intro w2 fU fV))
 go_end0
 have fH:=zAT fV;have hC:Chg (Of own i0) w w2:=fQ.trans fH (fun _ _ h=>h) (fun b _ h=>by subst h;exact .inr (.inr (.inr (ho.nm _ fC))));have hX:Chg (fun b=>b=g∨b=nb) w w2:=((Chg.refl (fun b=>b=g∨b=nb) w).setCell (p:=⟨g,k,none⟩) (fun _=>.inl rfl) (.string nm)).trans fH (fun _ _ h=>h) (fun b _ h=>.inr h);refine⟨rfl,?_,hC⟩
 have fL:k≠n.slots.length:=by have:=fD.out;omega
 have:=fS.out.turn (n':=n.set k nm j) (s':=a.s) hX (fun b e hb=>?_) ?_ ?_ ?_ rfl rfl
 · exact this
 · rcases hb with hb | hb
   · exact (fK.out.2.2.2.2.1 g b (by rw [fF];rfl) e) hb.symm
   · exact (fK.out.2.2.2.2.2 nb b fC e) hb.symm
 · have:=fJ.chg fH (fun e=>fP e.symm);simp only [PN.set,if_neg fL];exact this
 · rw [fF]
   have es:(n.set k nm j).slots=n.slots.set k nm:=by simp [PN.set,fL]
   rw [es,List.length_set,←fD.out,←zIK];exact zAo fT.out fH fun x hx e=>by have:g=x:=Option.some.inj hx;subst this;exact fI e
 · rw [fC];exact fU
theorem own_set2 {w1:World} {g1 m c1:Nat} {xs:List Value} (h:w1.ownsRow 0 9 1 (.slice (some ⟨g1,0,none⟩) m c1) m xs) (nb:Nat) (fA:g1≠nb) (u v:Value) (k:Nat) (nm:ByteArray) :
 (((w1.setCell ⟨nb,5,none⟩ u).setCell ⟨nb,2,none⟩ v).setCell ⟨g1,k,none⟩ (.string nm)).ownsRow 0 9 1 (.slice (some ⟨g1,0,none⟩) m c1) m (xs.set k (.string nm))∧((w1.setCell ⟨nb,5,none⟩ u).setCell ⟨nb,2,none⟩ v).grownBy (((w1.setCell ⟨nb,5,none⟩ u).setCell ⟨nb,2,none⟩ v).setCell ⟨g1,k,none⟩ (.string nm)) (some g1) :=
 (zAo h (((Chg.refl (fun b=>b=nb) w1).setCell (p:=⟨nb,5,none⟩) (fun _=>rfl) u).setCell (p:=⟨nb,2,none⟩) (fun _=>rfl) v) (fun _ e hg=>fA ((Option.some.inj e).trans hg))).stored k (.string nm)
def NTurn (own:Nat→Option Role) (i:Nat) (a:NA) (n':PN) (w w':World):Prop :=
 ∃ s' own',PnAt w' {a with s:=s'} n'∧Chg (Of own i) w w'∧Ext w own own'∧Owns own' i {a with s:=s'}∧∀ b r,own' b=some r→b<w'.heap.size
theorem new_facts {own:Nat→Option Role} {i0:Nat} {a:NA} {n:PN} {nb len c0 g1 c1 m:Nat} {A0:Option Addr} {w w1:World} {o:Obj} (h:PnAt w a n) (ho:Owns own i0 a) (fB:∀ b r,own b=some r→b<w.heap.size) (hs:a.s=.slice A0 len c0) (fA:a.nm=some nb)
 (hg:(w.alloc o).grownBy w1 (Value.ownBlock (.slice A0 len c0))) (fC:Value.ownBlock (.slice (some ⟨g1,0,none⟩) m c1)=Value.ownBlock (.slice A0 len c0)∨Value.ownBlock (.slice (some ⟨g1,0,none⟩) m c1)=some (w.alloc o).heap.size) :
 w1.cell? ⟨a.nb,5,none⟩=some (.slice A0 len c0)∧w1.cell? ⟨a.nb,2,none⟩=some (.int .i64 (n.size:Int))∧w1.cell? ⟨a.nb,6,none⟩=some (.map (some nb))∧w1.frozen? ⟨a.nb,5,none⟩=false∧w1.frozen? ⟨a.nb,2,none⟩=false ∧
  Chg (fun b=>own b=some (.slots i0)) w w1∧zAy w1 zA6 zAW 9 nb n.names∧Blk w1 a.nb 110 (zCc a n)∧g1≠a.nb∧g1≠nb:=by
 have fF:=ho.apart;have hC:Chg (fun b=>own b=some (.slots i0)) w w1:=((Chg.refl _ w).alloc o).grown hg fun g e _=>ho.s g (by rw [hs];exact e)
 have fD:¬own a.nb=some (.slots i0):=by rw [ho.nb];intro e;cases e
 have fE:¬own nb=some (.slots i0):=by rw [ho.nm nb fA];intro e;cases e
 have hB:=h.blk.chg hC fD;have hm:=h.names;rw [fA] at hm;refine⟨by rw [←hs];exact hB.cell 5,hB.cell 2,by rw [←fA];exact hB.cell 6,hB.frozen 5,hB.frozen 2,hC,zAy.chg hm hC fE,hB,?_,?_⟩
 · rintro rfl;rcases fC with e | e
   · have:=ho.s a.nb (by rw [hs];exact e.symm);rw [ho.nb] at this;cases this
   · have:=fB _ _ ho.nb;have e:=Option.some.inj e
     simp at e
     omega
 · rintro rfl;rcases fC with e | e
   · have:=ho.s g1 (by rw [hs];exact e.symm);rw [ho.nm g1 fA] at this;cases this
   · have:=fB _ _ (ho.nm g1 fA);have e:=Option.some.inj e
     simp at e
     omega
theorem nset_new (own:Nat→Option Role) (i0:Nat) (a:NA) (n:PN) (nb j:Nat) (nm:ByteArray) (w:World) (h:PnAt w a n) (ho:Owns own i0 a) (fR:∀ b r,own b=some r→b<w.heap.size) (hn:n.Ok) (fE:a.nm=some nb) (hk:n.slots.length<1068) (hs:nm.size≤1000000) :
 Calls Tryz.prog 98 #[zCq a.nb,zAW n.slots.length,.string nm,zAW j] w fun e w'=>e=.returned (.tuple #[])∧NTurn own i0 a (n.set n.slots.length nm j) w w':=by
 have fS:=ho.apart;have gF:=hn.slots;have gN:=Nat.le_trans hn.nlen hn.slots;have c5:=h.c5;have c6:=h.c6;have c2:=h.c2;have f5:=h.blk.frozen 5;have f2:=h.blk.frozen 2;have fF:=h.slots;obtain⟨A0,c0,fO⟩:=h.form;rw [fO] at c5 fF;rw [fE] at c6;have hm:=h.names;rw [fE] at hm;have fX:nb≠a.nb:=fS.2.2.1 nb fE;obtain⟨i0',hi,gG,fY,fZ⟩:=info_parts zGl;unfold zCq zAW;go_enter Tryz.func98,Tryz.ntmps98;have fP:=hid h;have gA:=hid fS;have fC:=hid ho;have fJ:=hid fR;obtain⟨len,fG⟩:∃ len,len=n.slots.length:=⟨_,rfl⟩;have fA:=hid fG;rw [←fG] at hk gF c5 fF fO;have gB:=hid fO;clear fG h fS ho fR fO;rw [←fA.out]
 have gO:((len:Int)==(len:Int))=true:=by simp
 go_upto_region 2 with (first
  | (at_builtin;refine zAk _ rfl (.tmp 19) (.tmp 20) _ _ rfl 0 9 i0' (.string ⟨#[]⟩) 1 16 Tryz.underlying108 hi gG fY fZ rfl (.slice A0 len c0) len (strs n.slots) rfl (fF.alloc _) 1 [.string ⟨#[]⟩] (zBH w Tryz.underlying108 _ _ rfl) (by unfold maxLen;omega) (by omega) (by simp) ?_;intro v1 w1 fK gC fD;obtain⟨g1,c1,rfl,gH,gI⟩:=zEv fK (by omega);obtain⟨e5,e2,e6,k5,k2,fI,gD,gE,fT,fU⟩:=new_facts fP.out fC.out fJ.out gB.out fE gC fD))
 have x1:w1.cell? ⟨g1,len,none⟩=some (.string ⟨#[]⟩):=by
  rw [fK.cellAt len (by omega),List.getElem?_append_right (by rw [zDp];have:=fA.out;omega),zDp,←fA.out];simp
 have y1:=fK.frozenAt len;obtain⟨fL,gJ⟩:=own_set2 fK a.nb fT (.slice (some ⟨g1,0,none⟩) (len+1) c1) (.int .i64 (((len:Int)+1) * 128)) len nm
 have fH:Chg (fun b=>b=a.nb∨b=g1) w1 (((w1.setCell ⟨a.nb,5,none⟩ (.slice (some ⟨g1,0,none⟩) (len+1) c1)).setCell ⟨a.nb,2,none⟩ (.int .i64 (((len:Int)+1) * 128))).setCell ⟨g1,len,none⟩ (.string nm)) :=
  (((Chg.refl (fun b=>b=a.nb∨b=g1) w1).setCell (p:=⟨a.nb,5,none⟩) (fun _=>.inl rfl) _).setCell (p:=⟨a.nb,2,none⟩) (fun _=>.inl rfl) _).setCell (p:=⟨g1,len,none⟩) (fun _=>.inr rfl) _
 have gK:=gD.chg fH (fun e=>e.elim fX (fun e=>fU e.symm))
 have fQ:Blk (((w1.setCell ⟨a.nb,5,none⟩ (.slice (some ⟨g1,0,none⟩) (len+1) c1)).setCell ⟨a.nb,2,none⟩ (.int .i64 (((len:Int)+1) * 128))).setCell ⟨g1,len,none⟩ (.string nm)) a.nb 110 (zCc {a with s:=.slice (some ⟨g1,0,none⟩) (len+1) c1} (n.set n.slots.length nm j)):=by
  have:=((gE.set_ 5 (.slice (some ⟨g1,0,none⟩) (len+1) c1)).set_ 2 (.int .i64 (((len:Int)+1) * 128))).far (p:=⟨g1,len,none⟩) (by simpa using fT.symm) (.string nm)
  have e:zCc {a with s:=.slice (some ⟨g1,0,none⟩) (len+1) c1} (n.set n.slots.length nm j)=((zCc a n).set 5 (.slice (some ⟨g1,0,none⟩) (len+1) c1)).set 2 (.int .i64 (((len:Int)+1) * 128)):=by
   simp [zCc,PN.set,PN.kind,←fA.out]
  rw [e];exact this
 have hF:=hid (And.intro fI (And.intro fH (And.intro fL (And.intro fQ fD))));clear fI fH fL fQ fD gD gE gJ fF fK gC
 go_wp2_with (first
  | (at_mapUpdate;refine zA4 _ rfl _ _ _ 101 (.inl rfl) kStr Tryz.underlying101 gK (by unfold maxLen;omega) rfl nm rfl (keyS nm (by unfold maxLen;omega)) j rfl ?_;intro w2 gL gM))
 go_end0
 have fV:=fA.out;subst fV;obtain⟨fI,fH,fL,fQ,fD⟩:=hF.out;have fM:=zAT gM;have fY:=fI.size;have fZ:=fH.size;have gP:=fM.size
 have fB:g1<w.heap.size→own g1=some (.slots i0):=fun fR=>by
  rcases fD with e | e
  · exact fC.out.s g1 (by rw [gB.out];exact e.symm)
  · have e:=Option.some.inj e;simp at e;omega
 have hC:Chg (Of own i0) w w2:=(fI.trans fH (fun _ _ h=>.inr (.inr (.inl h))) (fun b hb h=>by
  rcases h with rfl | rfl
  · exact .inl fC.out.nb
  · exact .inr (.inr (.inl (fB hb))))).trans fM (fun _ _ h=>h) (fun b _ h=>by subst h;exact .inr (.inr (.inr (fC.out.nm _ fE))))
 have es:(n.set n.slots.length nm j).slots=n.slots++[nm]:=by simp [PN.set]
 refine⟨rfl,.slice (some ⟨g1,0,none⟩) (n.slots.length+1) c1,fun b=>if b=g1 then some (Role.slots i0) else own b,⟨fQ.chg fM (fun e=>fX e.symm),?_,?_,?_,fP.out.dirs,fP.out.files⟩,hC,⟨fun b r e=>?_,fun b r e=>?_⟩,⟨?_,fun b e=>?_,fun b e=>?_,fun b e=>?_⟩,fun b r e=>?_⟩
 · have hd:zDx w2 zAG zB8 3 a.d n.data:=by
    refine ((fP.out.data.chg fI fun b e h=>?_).chg fH fun b e h=>?_).chg fM fun b e h=>?_
    · rw [fC.out.d b e] at h;cases h
    · rcases h with rfl | rfl
      · exact gA.out.1 _ e rfl
      · have fN:=fJ.out _ _ (fC.out.d _ e);have:=fB fN;rw [fC.out.d _ e] at this;cases this
    · subst h;exact gA.out.2.2.2.2.2 _ b fE e rfl
   exact hd
 · rw [es,List.length_append,←strs_snoc]
   have fW:((strs n.slots++[Value.string ⟨#[]⟩]).set n.slots.length (.string nm))=strs n.slots++[.string nm]:=by
    rw [←zDp,List.set_append_right _ _ (Nat.le_refl _)];simp
   rw [fW] at fL;exact zAo fL fM fun x hx e=>by have hx:=Option.some.inj hx;exact fU (hx.trans e)
 · show zDx w2 zA6 zAW 9 a.nm _
   rw [fE];exact gL
 · have:=fJ.out b r e;by_cases hb:b=g1
   · subst hb;have:=fB this;rw [this] at e;simp [e]
   · simp [hb,e]
 · by_cases hb:b=g1
   · subst hb;simp only [if_true] at e;by_cases fN:b<w.heap.size
     · rw [←e];exact .inl (fB fN)
     · exact .inr (by omega)
   · simp only [hb,if_false] at e;exact .inl e
 · simp only;rw [if_neg (fun e=>fT e.symm)];exact fC.out.nb
 · skip
   have fN:=fJ.out _ _ (fC.out.d _ e);rw [if_neg (fun h=>by subst h;have:=fB fN;rw [fC.out.d _ e] at this;cases this)];exact fC.out.d b e
 · have e:g1=b:=Option.some.inj e;simp [e]
 · skip
   have e':a.nm=some b:=e;rw [fE] at e';have e':=Option.some.inj e';subst e';rw [if_neg (fun h=>fU h.symm)];exact fC.out.nm _ fE
 · by_cases hb:b=g1
   · subst hb;omega
   · simp only [hb,if_false] at e;have:=fJ.out b r e;omega
theorem nset_any (own:Nat→Option Role) (i0:Nat) (a:NA) (n:PN) (nb k j:Nat) (nm:ByteArray) (w:World) (h:PnAt w a n) (ho:Owns own i0 a) (fA:∀ b r,own b=some r→b<w.heap.size) (hn:n.Ok) (fB:a.nm=some nb) (hk:k≤n.slots.length) (fC:k<1068) (hs:nm.size≤1000000) :
 Calls Tryz.prog 98 #[zCq a.nb,zAW k,.string nm,zAW j] w fun e w'=>e=.returned (.tuple #[])∧NTurn own i0 a (n.set k nm j) w w':=by
 by_cases fD:k=n.slots.length
 · subst fD;exact nset_new own i0 a n nb j nm w h ho fA hn fB fC hs
 · refine (nset_in own i0 a n nb k j nm w h ho hn fB (by omega) hs).mono ?_;rintro e w' ⟨he,h1,h2⟩;exact⟨he,a.s,own,h1,h2,Ext.refl _ _,ho,fun b r e=>Nat.lt_of_lt_of_le (fA b r e) h2.size⟩
theorem zJA (own:Nat→Option Role) (i0:Nat) (a:NA) (n:PN) (nb k:Nat) (nm:ByteArray) (w:World) (h:PnAt w a n) (ho:Owns own i0 a) (hn:n.Ok) (fF:a.nm=some nb) (hk:zAj nm n.slots=some k) (hs:nm.size≤1000000) :
 Calls Tryz.prog 101 #[zCq a.nb,.string nm] w fun e w'=>e=.returned (.tuple #[])∧PnAt w' a (n.clear nm)∧Chg (Of own i0) w w':=by
 have fN:=(zAV hk).1;obtain⟨g,c,fG,fS,hg⟩:=zEv h.slots (by omega);have fI:=ho.apart;have fT:=hn.slots;have gE:=Nat.le_trans hn.nlen hn.slots;have c5:=h.c5;have c6:=h.c6;have fA:=h.slots
 have fB:Sees w w.heap.size 1 (some ⟨g,0,none⟩) n.slots.length (strs n.slots):=by
  obtain⟨A,c',hv,h1⟩:=Sees.of_own (B:=w.heap.size) fA fun g hg=>(World.ownsRow.lt fA g hg).2;rw [fG] at hv;injection hv with e1 e2 e3;rw [e1];exact h1
 rw [fG] at c5 fA;rw [fF] at c6;have hm:=h.names;rw [fF] at hm;have e1:=fA.cellAt k (by omega);rw [zCC _ _ fN] at e1
 replace e1:∃ x0,w.cell? ⟨g,k,none⟩=some (.string x0):=⟨_,e1⟩
 obtain⟨x0,e1⟩:=e1;have f1:=fA.frozenAt k;obtain⟨fC,gF⟩:=fA.stored k (.string ⟨#[]⟩);have fU:g≠a.nb:=fI.2.1 g (by rw [fG];rfl);have fO:g≠nb:=fI.2.2.2.1 g nb (by rw [fG];rfl) fF;have fV:nb≠a.nb:=fI.2.2.1 nb fF
 have fP:zIs nm n.slots=k:=by unfold zIs;rw [hk]
 have fD:∀ W:World,W.heap=w.heap→Calls Tryz.prog 104 #[.slice (some ⟨g,0,none⟩) n.slots.length c,.string nm] W fun e w'=>e=.returned (.int .i64 (zIs nm n.slots))∧W=w' :=
  fun W hW=>zBD w.heap.size (some ⟨g,0,none⟩) c nm n.slots W (fB.keep fun p _=>by unfold World.cell?;rw [hW]) (by omega)
 unfold zCq;go_enter Tryz.func101,Tryz.ntmps101;have fW:=hid h;have fQ:=hid fI;have fX:=hid ho;obtain⟨len,fE⟩:∃ len,len=n.slots.length:=⟨_,rfl⟩;have fJ:=hid fE;have fY:=hid hk;have fK:=hid fG;rw [fP,←fE] at fD;rw [←fE] at fN fT c5 fA fC fS fB;have fZ:=hid fC;have gA:Chg (Of own i0) w (w.setCell ⟨g,k,none⟩ (.string ⟨#[]⟩)).drew:=((Chg.refl _ w).setCell (p:=⟨g,k,none⟩) (fun _=>.inr (.inr (.inl (ho.s g (by rw [fG];rfl))))) _).drew;have fM:Chg (fun b=>b=g) w (w.setCell ⟨g,k,none⟩ (.string ⟨#[]⟩)).drew:=((Chg.refl (fun b=>b=g) w).setCell (p:=⟨g,k,none⟩) (fun _=>rfl) _).drew;have fR:Blk (w.setCell ⟨g,k,none⟩ (.string ⟨#[]⟩)).drew a.nb 110 (zCc a n):=h.blk.chg fM (fun e=>fU e.symm);have gB:=zAy.chg hm fM (fun e=>fO e.symm)
 have d6:(w.setCell ⟨g,k,none⟩ (.string ⟨#[]⟩)).cell? ⟨a.nb,6,none⟩=some (.map (some nb)):=by rw [←fF];exact fR.cell 6
 have gG:=hid fB;clear fE h fI hm fA fC hk fG fP fB ho;have fH:=hid fD;clear fD;go_wp2_with fail
 go_region_with (go_at_call 104;refine (fH.out _ (by rfl)).mono ?_;rintro e w' ⟨rfl,rfl⟩)
 all_goals
  go_wp2_with (first
   | (at_delete;refine zDn _ rfl _ _ 101 rfl kStr Tryz.underlying101 gB rfl nm rfl (keyS nm (by unfold maxLen;omega)) ?_;intro w2 gC gD))
  go_end0
  have fL:=zAT gD;have hC:Chg (Of own i0) w w2:=gA.trans fL (fun _ _ h=>h) (fun b _ h=>by subst h;exact .inr (.inr (.inr (fX.out.nm _ fF))));have hX:Chg (fun b=>b=g∨b=nb) w w2:=fM.trans fL (fun _ _ h=>.inl h) (fun b _ h=>.inr h);refine⟨rfl,?_,hC⟩
  have es:(n.clear nm).slots=n.slots.set k emp:=by simp only [PN.clear,fY.out]
  have:=fW.out.turn (n':=n.clear nm) (s':=a.s) hX (fun b e hb=>?_) ?_ ?_ ?_ rfl rfl
  · exact this
  · rcases hb with hb | hb
    · exact (fQ.out.2.2.2.2.1 g b (by rw [fK.out];rfl) e) hb.symm
    · exact (fQ.out.2.2.2.2.2 nb b fF e) hb.symm
  · exact fR.chg fL (fun e=>fV e.symm)
  · rw [es,List.length_set,←zIK,fK.out,←fJ.out];exact zAo fZ.out.drew fL fun x hx e=>fO ((Option.some.inj hx).trans e)
  · rw [fF];exact gC
section
variable {w:World} {own:Nat→Option Role} {lay:Nat→NA} {p mb d:Nat} {T:PT} {n:PN}
theorem zBk (h:PlainAt w own lay p mb T) (hT:T.Ok) (hg:zAd d T.nodes=some n) (hd:n.dir=true) {nm:ByteArray} {k:Nat} (hk:zAj nm n.slots=some k) (hs:nm.size≤1000000) :
 Calls Tryz.prog 101 #[.pointer (some ⟨(lay d).nb,0,none⟩),.string nm] w fun e w'=>e=.returned (.tuple #[])∧PlainAt w' own lay p mb (T.upd d (n.clear nm))∧Chg (fun b=>own b≠none) w w':=by
 have fA:=h.get hg;obtain⟨nb,fB⟩:=fA.dirs hd;have ho:=h.owns _ (zAi hg);refine (zJA own d (lay d) n nb k nm w fA ho (hT.get hg).1 fB hk hs).mono ?_;rintro e w' ⟨he,h1,h2⟩;have:=h.upd hT.ris hg h2 (fun b _ hb=>hb) h1 rfl (Ext.refl _ _) (fun b r e=>Nat.lt_of_lt_of_le (h.lt b r e) h2.size) ho;rw [zE5] at this;exact⟨he,this,Chg.of_of h2⟩
theorem zBJ (h:PlainAt w own lay p mb T) (hT:T.Ok) (hg:zAd d T.nodes=some n) (hd:n.dir=true) {nm:ByteArray} {k j:Nat} (hk:k≤n.slots.length) (fB:k<1068) (hs:nm.size≤1000000) :
 Calls Tryz.prog 98 #[.pointer (some ⟨(lay d).nb,0,none⟩),.int .i64 (k:Int),.string nm,.int .i64 (j:Int)] w fun e w'=>e=.returned (.tuple #[])∧zAS own p mb (T.upd d (n.set k nm j)) w w':=by
 have fA:=h.get hg;obtain⟨nb,fC⟩:=fA.dirs hd;have ho:=h.owns _ (zAi hg);refine (nset_any own d (lay d) n nb k j nm w fA ho h.lt (hT.get hg).1 fC hk fB hs).mono ?_;rintro e w' ⟨he,s',own',h1,h2,h3,h4,h5⟩;exact⟨he,own',_,h.upd hT.ris hg h2 (fun b _ hb=>hb) h1 rfl h3 h5 h4,h3,Chg.of_of h2⟩
end
section
variable {w:World} {own:Nat→Option Role} {lay:Nat→NA} {p mb i:Nat} {T:PT}
theorem PlainAt.lookNo (h:PlainAt w own lay p mb T) (hg:zAd i T.nodes=none) (hi:i≤1000000000):(Instr.lookup 96 (.map (some mb)) (.int .i64 (i:Int)) false).run Tryz.prog w=.ok (.pointer none) w:=by
 have:=h.nodes.look zDW Tryz.underlying96 (zPtr w) (zHv i hi);rw [PlainAt.look,hg] at this;exact this
end
theorem zDz (own:Nat→Option Role) (lay:Nat→NA) (p mb:Nat) (T:PT) (w:World) (h:PlainAt w own lay p mb T) (hT:T.Wf) :
 Calls Tryz.prog 96 #[.pointer (some ⟨p,0,none⟩)] w fun e w'=>e=.returned (zAW T.free)∧w=w':=by
 have c1:=h.c1;have c2:=h.c2;have fF:=hT.ok.ino;have fI:=hid hT;have hH:=hid h;go_enter Tryz.func96,Tryz.ntmps96;obtain⟨io,fC⟩:∃ io,io=T.inodes:=⟨_,rfl⟩;have fB:=hid fC;rw [←fC] at c1 fF;clear fC hT h;go_wp2
 go_loop [3] (fun i=>∃ k:Nat,2≤k∧i=.int .i64 (k:Int)∧k≤io+3∧Hid (zA7 T (T.inodes+3-k) k=T.free)) (fun i=>io+3-(intOf i).toNat)
 case atStart=>exact⟨2,Nat.le_refl _,rfl,by omega,rfl⟩
 case round =>
  obtain⟨k,hk,rfl,fJ,hf⟩:=hrel;by_cases fE:k≤io
  · have fA:=hf.out;rw [←fB.out,show io+3-k=(io+2-k)+1 by omega,zA7,←fB.out,if_neg (by omega)] at fA
    have fG:decide ((k:Int)≤(io:Int))=true:=by simpa using fE
    cases hg:zAd k T.nodes with
    | none =>
     rw [hg] at fA;have fD:=hid fA;have fH:=hH.out.lookNo hg (by omega);clear fA hf hg;go_wp2;go_ret;exact⟨by rw [←fD.out];rfl,rfl⟩
    | some n =>
     rw [hg] at fA;have fD:=hid fA;have fH:=hH.out.lookI hg (by omega);clear fA hf hg;go_wp2;go_round
     case rel=>exact⟨k+1,by omega,by go_num,by omega,by rw [←fB.out,show io+3-(k+1)=io+2-k by omega];exact fD.out⟩
     case measure=>simp [intOf];omega
  · have fG:decide ((k:Int)≤(io:Int))=false:=by simpa using fE
    have fA:=hf.out
    have hz:zA7 T (T.inodes+3-k) k=0:=by
     cases hm:T.inodes+3-k with
     | zero=>rfl
     | succ m=>rw [zA7,if_pos (by have:=fB.out;omega)]
    rw [hz] at fA;have fD:=hid fA;clear fA hf hz;go_wp2;go_ret;exact⟨by rw [←fD.out];rfl,rfl⟩
theorem zJu (B:Nat) (A:Option Addr) (c:Nat) (xs:List ByteArray) (w:World) (hs:Sees w B 1 A xs.length (strs xs)) (hB:B≤w.heap.size) (hl:xs.length≤1000000) :
 Calls Tryz.prog 128 #[.slice A xs.length c] w fun e w'=>∃ v',e=.returned v'∧w'.ownsRow w.heap.size 9 1 v' xs.length (strs xs)∧Below w.heap.size w w':=by
 go_enter Tryz.func128,Tryz.ntmps128
 have hq:∀ n c',(binOp .eql 108 (.slice A n c') (.slice none 0 0)).run Tryz.prog w=.ok (.bool A.isNone) w:=fun n c'=>by
  have h:∀ d:Nat,(Op.equalIn (d+1) 108 (.slice A n c') (.slice none 0 0)).run Tryz.prog w=.ok A.isNone w:=fun d=>by
   cases A<;>simp [Op.equalIn,run_underlying (P:=Tryz.prog) Tryz.underlying108]
  simp only [binOp];simp [Op.equal,Op.maxDepth,h 9999]
 have fA:=hq xs.length c;clear hq;rcases A with _ | ad
 · have hx:xs=[]:=by
    cases xs with
    | nil=>rfl
    | cons x xs=>obtain⟨b,off,e,_⟩:=hs.at_ (by simp);cases e
   subst hx;simp only [List.length_nil,Option.isNone_none] at fA;simp only [List.length_nil];go_wp2;go_ret;exact⟨_,rfl,⟨rfl,.inl ⟨rfl,rfl⟩⟩,Below.refl _ _⟩
 · simp only [Option.isNone_some] at fA;obtain⟨i0,hi,fC,fD,fE⟩:=info_parts zGl;have fB:Below w.heap.size w (w.alloc (.cells #[] 9)):=(Below.refl _ _).alloc (Nat.le_refl _) _;have fF:(w.alloc (.cells #[] 9)).ownsRow w.heap.size 9 1 (.slice (some ⟨w.heap.size,0,none⟩) 0 0) 0 []:=⟨rfl,.inr ⟨w.heap.size,0,#[],rfl,Nat.le_refl _,heap_alloc_new w _,Nat.le_refl _,by unfold maxLen;omega,rfl,rfl⟩⟩
   have h1:∀ u∈strs xs,u.oneCell'=true:=by
    intro u hu;obtain⟨b,_,rfl⟩:=List.mem_map.1 hu;rfl
   go_wp2_with (first
    | (at_builtin;refine zAk _ rfl _ _ _ _ rfl w.heap.size 9 i0 (.string ⟨#[]⟩) 1 16 Tryz.underlying108 hi fC fD fE rfl _ 0 [] rfl fF xs.length (strs xs) (zCK _ Tryz.underlying108 c ((hs.more hB).below fB) h1) (by unfold maxLen;omega) (by omega) (by simp) ?_;intro v' w' fG fH fI)
    | go_in)
   go_wp2;go_ret;exact⟨_,rfl,by simpa using fG,fB.grown fH (by simp) (fun g e=>by simp [Act.eval,Value.ownBlock] at e;omega)⟩
theorem idxV_none {x:ByteArray} {l:List ByteArray} (h:zAj x l=none):zIs x l=-1:=by unfold zIs;rw [h]
theorem zEM {x:ByteArray} {l:List ByteArray} {k:Nat} (h:zAj x l=some k):zIs x l=k:=by unfold zIs;rw [h]
theorem PnAt.sees {w:World} {a:NA} {n:PN} (h:PnAt w a n):∃ A c,a.s=.slice A n.slots.length c∧n.slots.length≤c∧Sees w w.heap.size 1 A n.slots.length (strs n.slots):=by
 have fA:=h.slots;obtain⟨A,c,hv,h1⟩:=Sees.of_own (B:=w.heap.size) fA fun g hg=>(World.ownsRow.lt fA g hg).2;refine⟨A,c,hv,?_,h1⟩;rcases fA.2 with ⟨e,e2⟩ | ⟨g,cap,cur,e,_,_,hnc,_⟩
 · omega
 · rw [hv] at e;injection e with e1 e2 e3;omega
theorem zB5 (own:Nat→Option Role) (lay:Nat→NA) (p mb i:Nat) (T:PT) (n:PN) (w:World) (h:PlainAt w own lay p mb T) (hT:T.Wf) (hg:zAd i T.nodes=some n) :
 Calls Tryz.prog 97 #[.pointer (some ⟨p,0,none⟩),.pointer (some ⟨(lay i).nb,0,none⟩)] w fun e w'=>e=.returned (.tuple #[zAW (T.place n).1,zAW (T.place n).2])∧Below w.heap.size w w':=by
 have hn:=(hT.ok.get hg).1;have fI:=h.get hg;obtain⟨A,c,fO,gG,hs⟩:=fI.sees;have c5:=fI.c5;rw [fO] at c5;have fT:=hn.slots;have fA:=zBD w.heap.size A c emp n.slots w hs (by omega);have fB:=zJu w.heap.size A c n.slots w hs (Nat.le_refl _) (by omega);have hH:=hid h;have gH:=hid hT;have gR:=hid fI;have gA:=hid hn;have gI:=hid hg;go_enter Tryz.func97,Tryz.ntmps97;generalize fP:(lay i).nb=nb at *;have fU:=hid fP
 cases hf:zAj emp n.slots with
 | some k =>
  have gB:T.place n=(k,0):=by unfold PT.place;rw [hf]
  rw [zEM hf] at fA;rw [gB];clear hf gB fP h fI hs fO hT hn hg fB;unfold emp at fA;go_wp2_with (first | (go_at_call 104;refine fA.mono ?_;rintro e w' ⟨rfl,rfl⟩))
  go_ret2
  exact⟨rfl,Below.refl _ _⟩
 | none =>
  rw [idxV_none hf] at fA;unfold emp at fA
  have fD:T.place n=if n.slots.length=1068 then (0,112) else if T.room n.count (zDt (List.range (n.slots.length+1))) then (n.slots.length,0) else (0,80):=by unfold PT.place;rw [hf]
  obtain⟨len,fF⟩:∃ len,len=n.slots.length:=⟨_,rfl⟩;have fJ:=hid fF;rw [←fF] at fD fA fB fT c5 gG;by_cases fE:len=1068
  · subst fE;rw [if_pos rfl] at fD;rw [fD];clear hf fD fP h fI hs fO hT hn hg fB fF;go_wp2_with (first | (go_at_call 104;refine fA.mono ?_;rintro e w' ⟨rfl,rfl⟩))
    go_ret2
    exact⟨rfl,Below.refl _ _⟩
  · rw [if_neg fE] at fD
    have gS:((len:Int)==1068)=false:=by simp;omega
    have gJ:len<1068:=by omega
    have fK:=hid fD;obtain⟨i0,hi,gK,gL,gM⟩:=info_parts zGl;clear hf fD fP h fI hs fO hT hn hg fF fE
    go_upto_region 7 with (first
     | (go_at_call 104;refine fA.mono ?_;rintro e w' ⟨rfl,rfl⟩)
     | (go_at_call 128;refine fB.mono ?_;rintro e w1 ⟨v1,rfl,fL,fV⟩;obtain⟨A1,k1,gN,gO⟩:=Sees.of_own (B:=w1.heap.size) fL (fun g hg=>(World.ownsRow.lt fL g hg).2);subst gN;have gC:=fV.size)
     | (at_builtin;refine zAk _ rfl _ _ _ _ rfl w.heap.size 9 i0 (.string ⟨#[]⟩) 1 16 Tryz.underlying108 hi gK gL gM rfl (.slice A1 len k1) len (strs n.slots) rfl (fL.alloc _) 1 [.string ⟨#[]⟩] (zBH w1 Tryz.underlying108 _ _ rfl) (by unfold maxLen;omega) (by omega) (by simp;omega) ?_;intro v2 w2 fW gD fX;obtain⟨A2,k2,gP,gQ⟩:=Sees.of_own (B:=w2.heap.size) fW (fun g hg=>(World.ownsRow.lt fW g hg).2);subst gP))
    have fY:Below w.heap.size w w2:=(fV.trans ((Below.refl _ w1).alloc gC _)).grown gD (Nat.le_trans gC (by simp)) (fun g e=>(World.ownsRow.lt fL g e).1);have fQ:=fY.alloc fY.size (.cells #[.int .i64 0,.int .i64 0,.int .i64 0,.int .i64 0,.map none,.slice A2 (len+1) k2,.map none] 110);have fM:=Blk.new w2 110 [.int .i64 0,.int .i64 0,.int .i64 0,.int .i64 0,.map none,.slice A2 (len+1) k2,.map none];have fZ:=hH.out.fresh fQ;have gE:=gI.out;have fN:=fJ.out
    have fR:=zII own lay p mb T nb w2.heap.size n.count (zDt (List.range (len+1))) _ fZ gH.out.ok (fun W hb=>by rw [←fU.out];exact zDQ ((fZ.fresh hb).get gE) gA.out) gA.out.count
     (fun W hb=>zFs w2.heap.size A2 (len+1) k2 W ((hb.cell (p:=⟨w2.heap.size,4,none⟩) fM.lt).trans (fM.cell 4)) ((hb.cell (p:=⟨w2.heap.size,5,none⟩) fM.lt).trans (fM.cell 5)) (by omega)) (by have:=cntK_le (List.range (len+1));rw [List.length_range] at this;omega)
    unfold zCq at fR;have gF:decide (((zDt (List.range (len+1)):Nat):Int)-(n.count:Int)≤(T.sectors:Int)-1-T.inodes-T.used)=T.room n.count (zDt (List.range (len+1))):=rfl;rw [gF] at fR;clear gF;have fC:=fK.out;have c5':=(fQ.cell (p:=⟨nb,5,none⟩) (World.block_lt_of_cell? _ _ c5)).trans c5;generalize T.room n.count (zDt (List.range (len+1)))=r at *;have fG:=hid fQ;clear fY fQ fM fZ gE fN c5 fK fL fW gO gQ fX gD fV fB fA;generalize w2.alloc (.cells #[.int .i64 0,.int .i64 0,.int .i64 0,.int .i64 0,.map none,.slice A2 (len+1) k2,.map none] 110)=w3 at *;generalize w2.heap.size=z at *
    cases r with
    | true =>
     simp only [if_true] at fC;have fH:=hid fC;clear fC;go_wp2_with (first | (go_at_call 129;refine fR.mono ?_;rintro e w4 ⟨rfl,fS⟩;have c5'':=(fS.cell (p:=⟨nb,5,none⟩) (World.block_lt_of_cell? _ _ c5')).trans c5'))
     go_ret2
     exact⟨by rw [fH.out];rfl,fG.out.trans (fS.mono fG.out.size)⟩
    | false =>
     simp only [Bool.false_eq_true,if_false] at fC;have fH:=hid fC;clear fC;go_wp2_with (first | (go_at_call 129;refine fR.mono ?_;rintro e w4 ⟨rfl,fS⟩))
     go_ret2
     exact⟨by rw [fH.out];rfl,fG.out.trans (fS.mono fG.out.size)⟩
theorem zDF (own:Nat→Option Role) (lay:Nat→NA) (p mb i:Nat) (T:PT) (n:PN) (w:World) (h:PlainAt w own lay p mb T) (hT:T.Ok) (hg:zAd i T.nodes=some n) (hl:1≤n.links) :
 Calls Tryz.prog 102 #[zCq p,zAW i] w fun e w'=>e=.returned (.tuple #[])∧zAS own p mb (T.less i) w w':=by
 have fX:=hT.get hg;have gD:=hT.ino;have fK:=fX.1.links;have c2:=h.c2;have gE:=h.lookI hg (by omega);have fB:=h.get hg;have k1:=fB.c1;have k0:=fB.c0;have f1:=fB.blk.frozen 1;have ho:=h.owns _ (zAi hg);obtain⟨m,hm⟩:∃ m,n.links=m+1:=⟨n.links-1,by omega⟩;have fE:Chg (fun b=>b=(lay i).nb) w (w.setCell ⟨(lay i).nb,1,none⟩ (.int .i64 (m:Int))):=(Chg.refl (fun b=>b=(lay i).nb) w).setCell (p:=⟨(lay i).nb,1,none⟩) (fun _=>rfl) _
 have fU:PnAt (w.setCell ⟨(lay i).nb,1,none⟩ (.int .i64 (m:Int))) (lay i) {n with links:=m}:=by
  have fL:=ho.apart;refine⟨?_,fB.data.chg fE fun b e=>fL.1 b e,zAo fB.slots fE fun b e=>fL.2.1 b e,fB.names.chg fE fun b e=>fL.2.2.1 b e,fB.dirs,fB.files⟩;exact fB.blk.set_ 1 _
 have fC:=h.upd hT.ris hg fE (fun b _ e=>by subst e;exact .inl ho.nb) fU rfl (Ext.refl _ _) (fun b r e=>Nat.lt_of_lt_of_le (h.lt b r e) fE.size) ho;rw [zE5] at fC;have fI:zAd i (T.upd i {n with links:=m}).nodes=some {n with links:=m}:=zAu zAG i _ _;have d2:=fC.c2;have fY:=fC.lookI fI (by omega);have k1':=(fC.get fI).c1;have k0':=(fC.get fI).c0;have fV:=fC.nodes;have fW:zAS own p mb (T.upd i {n with links:=m}) w (w.setCell ⟨(lay i).nb,1,none⟩ (.int .i64 (m:Int))):=.of fC (Ext.refl _ _) (fE.mono fun b _ e=>by subst e;rw [ho.nb];simp);have fM:=hid fW;have fJ:=hid fC;have gF:=hid ho
 have fZ:(List.map (fun x=>(x.1,(lay x.1).nb)) (T.upd i {n with links:=m}).nodes).length≤1000:=by
  rw [List.length_map];have:=zBM zAG i {n with links:=m} T.nodes;have:=hT.len
  show (zBa zAG i _ T.nodes).length≤1000
  omega
 have fD:T.less i=if m=0∨n.dir=true then T.del i else T.upd i {n with links:=m}:=by
  unfold PT.less;rw [hg];simp only [hm,Nat.add_sub_cancel]
 have fN:=hid fD;rw [hm] at k1 fK;simp only at k1' k0';unfold zCq zAW;clear fD fW fC ho fU fB h hg fI hT fE hm;go_enter Tryz.func102,Tryz.ntmps102;generalize (lay i).nb=nb at *;generalize fO:({n with links:=m}:PN).kind=kd at k0' k0;have fA:n.kind=kd:=fO;rw [fA] at k0;by_cases hz:m=0
 · have gA:((m:Int)==0)=true:=by simp;omega
   have fP:=hid hz;clear hz
   go_wp2_with (first
    | (at_delete;refine zDn _ rfl _ _ 96 rfl zDW Tryz.underlying96 fV rfl i rfl (zHv i (by omega)) ?_;intro w2 fQ fR))
   go_end0
   refine⟨rfl,?_⟩;have fG:=zAT fR;obtain⟨-,-,gB,gC,fS⟩:=fM.out;have fH:=fJ.out.del (i:=i) fG (fun b _ e=>.inr e) fQ
   have e:(T.upd i {n with links:=m}).del i=T.del i:=by unfold PT.del PT.upd;simp only [zF2]
   rw [e] at fH;rw [fN.out,if_pos (.inl fP.out)];exact .of fH (Ext.refl _ _) (fS.trans fG (fun _ _ h=>h) fun b _ e=>by subst e;rw [fJ.out.ownm];simp)
 · have gA:((m:Int)==0)=false:=by simp;omega
   have fP:=hid hz;clear hz
   cases hd:n.dir with
   | true =>
    have fF:kd=2:=by rw [←fA];exact zA1 hd
    subst fF;have fT:=hid hd;clear hd fO fA
    go_wp2_with (first
    | (at_delete;refine zDn _ rfl _ _ 96 rfl zDW Tryz.underlying96 fV rfl i rfl (zHv i (by omega)) ?_;intro w2 fQ fR))
    go_end0
    refine⟨rfl,?_⟩;have fG:=zAT fR;obtain⟨-,-,gB,gC,fS⟩:=fM.out;have fH:=fJ.out.del (i:=i) fG (fun b _ e=>.inr e) fQ
    have e:(T.upd i {n with links:=m}).del i=T.del i:=by unfold PT.del PT.upd;simp only [zF2]
    rw [e] at fH;rw [fN.out,if_pos (.inr fT.out)];exact .of fH (Ext.refl _ _) (fS.trans fG (fun _ _ h=>h) fun b _ e=>by subst e;rw [fJ.out.ownm];simp)
   | false =>
    have fF:kd=1:=by rw [←fA];exact zAz hd
    subst fF;have fT:=hid hd;clear hd fO fA;go_wp2
    go_end0
    refine⟨rfl,?_⟩;rw [fN.out,if_neg (fun h=>h.elim fP.out (fun h=>by rw [fT.out] at h;cases h))];exact fM.out
end Go.Proofs.YtolpcfhfcdkokaaGreatDoor
