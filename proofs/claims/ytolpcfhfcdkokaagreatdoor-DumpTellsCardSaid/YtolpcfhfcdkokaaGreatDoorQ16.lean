/- Joined out of PMake..PSort. -/
import Derived.Test.YtolpcfhfcdkokaaGreatDoorQ14
set_option maxHeartbeats 16000000
set_option maxRecDepth 100000
namespace Go.Proofs.YtolpcfhfcdkokaaGreatDoor
open Lib (hid)
open Go.RowKit
open Go.Maps (Keyed)
abbrev zAg:Value:=.slice none 0 0
def zAh (c:Nat) (s:St) (d e:Value):List Value:=[.int .i64 (c:Int),.int .i64 s.ino,.int .i64 s.kind,.int .i64 s.links,.int .i64 s.size,.int .i64 s.made,.int .i64 s.blocks,d,e,.bool false]
def ansV (a:Ans):Value:=.agg (zAh a.code a.stat zAg zAg).toArray
abbrev zAs:List Value:=[.int .i64 0,.int .i64 0,.int .i64 0,.int .i64 0,.int .i64 0,.int .i64 0,.int .i64 0,zAg,zAg,.bool false]
theorem zDM (T:PT):∀ (f i:Nat),zA7 T f i≠0→i≤zA7 T f i∧zA7 T f i≤T.inodes∧zAd (zA7 T f i) T.nodes=none
 | 0,_,h=>absurd rfl h
 | f+1,i,h=>by
  unfold zA7 at h ⊢
  split at h
  · exact absurd rfl h
  · rename_i h1;rw [if_neg h1]
    split at h
    · rename_i h2;rw [if_pos h2];have:=zDM T f (i+1) h;exact⟨by omega,this.2⟩
    · rename_i h2;rw [if_neg h2];refine⟨Nat.le_refl _,by omega,?_⟩
      cases hg:zAd i T.nodes with
      | none=>rfl
      | some n=>rw [hg] at h2;exact absurd rfl h2
theorem zG9 {T:PT} (h:T.free≠0):2≤T.free∧T.free≤T.inodes∧zAd T.free T.nodes=none:=zDM T _ 2 h
section
variable {w w0 w1 w2:World} {own:Nat→Option Role} {lay:Nat→NA} {p mb i z:Nat} {T T':PT}
theorem zAS.after (h:zAS own p mb T' w0 w1) (hb:Below w.heap.size w w0) (hz:w.heap.size≤z) (fB:z<w0.heap.size) (fA:own z=none) (hc:Chg (fun b=>b=z) w1 w2):zAS own p mb T' w w2:=by
 obtain⟨o,l,h1,h2,h3⟩:=h
 have ho:o z=none:=by
  cases e:o z with
  | none=>rfl
  | some r =>
   rcases h2.new z r e with e2 | e2
   · rw [fA] at e2;cases e2
   · omega
 exact⟨o,l,h1.chg hc fun b e=>by rw [e];exact ho,h2.back hb.size,((Chg.of_fresh hb).trans h3 (fun _ _ h=>h) (fun _ _ h=>h)).trans hc (fun _ _ h=>h) (fun b hb e=>by omega)⟩
end
theorem zBj (c:Nat) (s:St):(zAh c s zAg zAg).toArray.all (·.oneCell')=true:=by
 rw [Array.all_eq_true_iff_forall_mem];intro v hv
 have hv:v∈zAh c s zAg zAg:=by simpa using hv
 simp only [zAh,List.mem_cons,List.not_mem_nil,or_false] at hv;rcases hv with rfl | rfl | rfl | rfl | rfl | rfl | rfl | rfl | rfl | rfl<;>rfl
theorem zHs (dir:Bool) {made:Nat} (h:made≤1099511627776):(zCR dir made).Ok:=by
 refine⟨fun p hp=>(by cases hp),by simp [zCR],fun p hp=>(by cases hp),by simp [zCR],by simp [zCR],by simp [zCR],h,fun p hp=>(by cases hp),by simp [zCR],fun _=>rfl,fun _=>⟨rfl,rfl⟩,List.Pairwise.nil,List.Pairwise.nil⟩
section
variable {own:Nat→Option Role} {i:Nat}
def zBA (own:Nat→Option Role) (i z:Nat) (nm:Bool):Nat→Option Role:=fun b=>if b=z then some (.data i) else if b=z+1 then some (.node i) else if b=z+2∧nm=true then some (.names i) else own b
theorem zEc (w:World) (nm:Bool) (fA:∀ b r,own b=some r→b<w.heap.size) {w3:World} (hz:w3.heap.size=w.heap.size+(if nm then 3 else 2)) :
 Ext w own (zBA own i w.heap.size nm)∧(∀ b r,zBA own i w.heap.size nm b=some r→b<w3.heap.size)∧∀ g,g<w.heap.size→own g=none→zBA own i w.heap.size nm g=none:=by
 refine⟨⟨fun b r e=>?_,fun b r e=>?_⟩,fun b r e=>?_,fun g hg e=>?_⟩
 · have:=fA b r e;unfold zBA;rw [if_neg (by omega),if_neg (by omega),if_neg (by omega)];exact e
 · unfold zBA at e
   split at e
   · exact .inr (by omega)
   · split at e
     · exact .inr (by omega)
     · split at e
       · exact .inr (by omega)
       · exact .inl e
 · unfold zBA at e
   split at e
   · split at hz<;>omega
   · split at e
     · split at hz<;>omega
     · split at e
       · rename_i h;rw [h.2] at hz;simp only [if_true] at hz;omega
       · have:=fA b r e
         split at hz<;>omega
 · unfold zBA;rw [if_neg (by omega),if_neg (by omega),if_neg (by omega)];exact e
theorem new_file (w:World) (made:Nat) (fA:∀ b r,own b=some r→b<w.heap.size) :
 PnAt ((w.alloc (.map #[] 0)).alloc (.cells #[.int .i64 1,.int .i64 1,.int .i64 0,.int .i64 (made:Int),.map (some w.heap.size),zAg,.map none] 110)) ⟨w.heap.size+1,some w.heap.size,zAg,none⟩ (zCR false made) ∧
 Ext w own (zBA own i w.heap.size false)∧(∀ b r,zBA own i w.heap.size false b=some r→b<((w.alloc (.map #[] 0)).alloc (.cells #[.int .i64 1,.int .i64 1,.int .i64 0,.int .i64 (made:Int),.map (some w.heap.size),zAg,.map none] 110)).heap.size) ∧
 Owns (zBA own i w.heap.size false) i ⟨w.heap.size+1,some w.heap.size,zAg,none⟩∧(∀ g,g<w.heap.size→own g=none→zBA own i w.heap.size false g=none) ∧
 Below w.heap.size w ((w.alloc (.map #[] 0)).alloc (.cells #[.int .i64 1,.int .i64 1,.int .i64 0,.int .i64 (made:Int),.map (some w.heap.size),zAg,.map none] 110)):=by
 obtain⟨h1,h2,h3⟩:=zEc (own:=own) (i:=i) w false fA (w3:=(w.alloc (.map #[] 0)).alloc (.cells #[.int .i64 1,.int .i64 1,.int .i64 0,.int .i64 (made:Int),.map (some w.heap.size),zAg,.map none] 110)) (by simp);refine⟨⟨?_,(zAy.made w zAG zB8 3).alloc _,World.ownsRow_nil _ _ _ _,rfl,fun e=>(by cases e),fun _=>⟨_,rfl⟩⟩,h1,h2,⟨?_,fun b e=>?_,fun b e=>(by cases e),fun b e=>(by cases e)⟩,h3,((Below.refl _ _).alloc (Nat.le_refl _) _).alloc (by simp) _⟩
 · have:=Blk.new (w.alloc (.map #[] 0)) 110 [.int .i64 1,.int .i64 1,.int .i64 0,.int .i64 (made:Int),.map (some w.heap.size),zAg,.map none];rw [show (w.alloc (.map #[] 0)).heap.size=w.heap.size+1 by simp] at this;exact this
 · simp [zBA]
 · have e:=Option.some.inj e;simp [zBA,←e]
theorem new_dir (w:World) (made:Nat) (fB:∀ b r,own b=some r→b<w.heap.size) :
 PnAt (((w.alloc (.map #[] 0)).alloc (.cells #[.int .i64 2,.int .i64 1,.int .i64 0,.int .i64 (made:Int),.map (some w.heap.size),zAg,.map (some (w.heap.size+1+1))] 110)).alloc (.map #[] 0)) ⟨w.heap.size+1,some w.heap.size,zAg,some (w.heap.size+1+1)⟩ (zCR true made) ∧
 Ext w own (zBA own i w.heap.size true)∧(∀ b r,zBA own i w.heap.size true b=some r→b<(((w.alloc (.map #[] 0)).alloc (.cells #[.int .i64 2,.int .i64 1,.int .i64 0,.int .i64 (made:Int),.map (some w.heap.size),zAg,.map (some (w.heap.size+1+1))] 110)).alloc (.map #[] 0)).heap.size) ∧
 Owns (zBA own i w.heap.size true) i ⟨w.heap.size+1,some w.heap.size,zAg,some (w.heap.size+1+1)⟩∧(∀ g,g<w.heap.size→own g=none→zBA own i w.heap.size true g=none) ∧
 Below w.heap.size w (((w.alloc (.map #[] 0)).alloc (.cells #[.int .i64 2,.int .i64 1,.int .i64 0,.int .i64 (made:Int),.map (some w.heap.size),zAg,.map (some (w.heap.size+1+1))] 110)).alloc (.map #[] 0)):=by
 obtain⟨h1,h2,h3⟩:=zEc (own:=own) (i:=i) w true fB (w3:=((w.alloc (.map #[] 0)).alloc (.cells #[.int .i64 2,.int .i64 1,.int .i64 0,.int .i64 (made:Int),.map (some w.heap.size),zAg,.map (some (w.heap.size+1+1))] 110)).alloc (.map #[] 0)) (by simp);have fC:=zAy.made ((w.alloc (.map #[] 0)).alloc (.cells #[.int .i64 2,.int .i64 1,.int .i64 0,.int .i64 (made:Int),.map (some w.heap.size),zAg,.map (some (w.heap.size+1+1))] 110)) zA6 zAW 9;refine⟨⟨?_,((zAy.made w zAG zB8 3).alloc _).alloc _,World.ownsRow_nil _ _ _ _,?_,fun _=>⟨_,rfl⟩,fun e=>(by cases e)⟩,h1,h2,⟨?_,fun b e=>?_,fun b e=>(by cases e),fun b e=>?_⟩,h3,(((Below.refl _ _).alloc (Nat.le_refl _) _).alloc (by simp) _).alloc (by simp;omega) _⟩
 · have:=(Blk.new (w.alloc (.map #[] 0)) 110 [.int .i64 2,.int .i64 1,.int .i64 0,.int .i64 (made:Int),.map (some w.heap.size),zAg,.map (some (w.heap.size+1+1))]).alloc (.map #[] 0);rw [show (w.alloc (.map #[] 0)).heap.size=w.heap.size+1 by simp] at this;exact this
 · have fA:zAy (((w.alloc (.map #[] 0)).alloc (.cells #[.int .i64 2,.int .i64 1,.int .i64 0,.int .i64 (made:Int),.map (some w.heap.size),zAg,.map (some (w.heap.size+1+1))] 110)).alloc (.map #[] 0)) zA6 zAW 9 (w.heap.size+1+1) []:=by simpa using fC
   exact fA
 · simp [zBA]
 · have e:=Option.some.inj e;simp [zBA,←e]
 · have e:=Option.some.inj e
   simp [zBA,←e]
   omega
end
theorem zIZ {w3 w4:World} {z mb:Nat} {o:Option Nat} {n:PN} (h:PnAt w3 ⟨z+1,some z,zAg,o⟩ n) (ho:∀ x,o=some x→x=z+1+1) (hc:Chg (fun b=>b=mb) w3 w4) (hm:mb<z):PnAt w4 ⟨z+1,some z,zAg,o⟩ n :=
 h.chg hc (fun e=>by simp only at e;omega) (fun b e h=>by have e:=Option.some.inj e;omega) (fun b e h=>by cases e) (fun b e h=>by have e:=ho b e;omega)
theorem zGX (own:Nat→Option Role) (lay:Nat→NA) (p mb:Nat) (T:PT) (B:Nat) (A:Option Addr) (c:Nat) (l:List ByteArray) (dir:Bool) (made:Nat) (w:World) (h:PlainAt w own lay p mb T) (hT:T.Wf) (hB:B≤w.heap.size)
 (hs:Sees w B 1 A l.length (strs l)) (hl:l.length≤1000000) (hc:l.length≤c) (hx:∀ x∈l,x.size≤40) (hm:made≤1099511627776) :
 Calls Tryz.prog 67 #[.pointer (some ⟨p,0,none⟩),.slice A l.length c,.int .i64 (zCR dir made).kind,.int .i64 (made:Int)] w fun e w'=>e=.returned (ansV (T.make l dir made).2)∧zAS own p mb (T.make l dir made).1 w w':=by
 have big:∀ x∈l,x.size≤1000000:=fun x kG=>by have:=hx x kG;omega
 have jH:Below w.heap.size w (w.alloc (.cells zAs.toArray 67)):=(Below.refl _ _).alloc (Nat.le_refl _) _;have jJ:=h.fresh jH;have gZ:=Blk.new w 67 zAs;have jX:own w.heap.size=none:=h.free (Nat.le_refl _);have kN:=@run_makeMap Tryz.prog;have fC:=zCT own lay p mb T B A c l _ jJ hT (hs.below (jH.mono hB)) hl hc big;have fX:=zBz hT l;have jK:=zEI hT l;have jY:=zB4 big;have jA:=zD7 hx;have hu:=PT.make.eq_1 T l dir made;have jB:=zG9 (T:=T);generalize T.last l=r1 at *;obtain⟨d,e1⟩:=r1;generalize zAL l=nm at *;simp only at fC fX jK hu;have gV:=hid hT;have fT:=hid hT.ok;have kO:=hT.ok.ino;clear h hT hs hx big;generalize l.length=len at *;unfold zAW at fC;go_enter Tryz.func67,Tryz.ntmps67;go_upto_region 1 with (fail)
 replace gZ:Blk (w.alloc (.cells zAs.toArray 67)) w.heap.size 67 zAs:=gZ
 generalize w.alloc (.cells zAs.toArray 67)=w0 at *;generalize hg:w.heap.size=g at *;have fS:=hid hg;have fN:=gZ.lt;have gW:=hid jH;have hH:=hid jJ;have gX:=hid gZ;have fI:=hid jX;clear hg jJ jH gZ jX;by_cases jL:e1=0
 · subst jL;rw [if_neg (by simp)] at hu;obtain⟨n,hn,jZ⟩:=fX rfl;have fF:=hid hn;have gD:=hid jZ;rw [zAp hn] at hu;clear fX hn jZ
   cases hg:zAd nm n.names with
   | some j =>
    rw [hg,if_pos (show (some j).isSome=true from rfl)] at hu;have fK:=hid hu;have fO:=hid hg;clear hu hg jB
    go_wp2_with (first
     | (go_at_call 95;refine fC.mono ?_;rintro e w1 ⟨rfl,fG⟩;have fB:=hH.out.fresh fG;have fL:=gX.out.fresh fG;have x2:=fB.c2;have fY:=fB.lookI fF.out (by omega);have k6:=(fB.get fF.out).c6;have fM:=(fB.get fF.out).lookN nm (by omega);rw [fO.out] at fM;simp only [orV,Option.isSome_some,zAW] at fM;clear fB)
     | (refine wpList_store_row rfl 67 (.tmp 8) (.tmp 43) rfl g (zAh 111 st0 zAg zAg).toArray rfl (by rfl) 67 _ fL rfl rfl (zBj _ _) ?_))
    have fH:=setRow_heap w1 g _ (zAh 111 st0 zAg zAg).toArray _ _ fL;refine bodyPost_ret (results_cell_row rfl _ _ g 67 (zAh 111 st0 zAg zAg).toArray (0,0) _ rfl fH Tryz.underlying67 rfl rfl) rfl ⟨by rw [fK.out];rfl,?_⟩;rw [fK.out];exact (zAS.same hH.out fG).after (by rw [fS.out];exact gW.out) (by rw [fS.out];exact Nat.le_refl _) fN fI.out ((Chg.refl (fun b=>b=g) w1).setRow (fun _=>rfl) _)
   | none =>
    rw [hg,if_neg (by simp)] at hu;have fO:=hid hg;clear hg;generalize kA:T.free=i at *;have fZ:=hid kA;clear kA;by_cases h0:i=0
    · rw [if_pos h0] at hu;have fK:=hid hu
      have kI:((i:Int)==0)=true:=by simp;omega
      clear hu jB h0
      go_wp2_with (first
       | (go_at_call 95;refine fC.mono ?_;rintro e w1 ⟨rfl,fG⟩;have fB:=hH.out.fresh fG;have fL:=gX.out.fresh fG;have x2:=fB.c2;have fY:=fB.lookI fF.out (by omega);have k6:=(fB.get fF.out).c6;have fM:=(fB.get fF.out).lookN nm (by omega);rw [fO.out] at fM;simp only [orV,Option.isSome_none] at fM;have fA:=zDz own lay p mb T w1 fB gV.out;unfold zAW at fA;have fP:=hid fB;clear fB)
       | (go_at_call 96;rw [fZ.out] at fA;refine fA.mono ?_;rintro e w' ⟨rfl,rfl⟩)
       | (refine wpList_store_row rfl 67 (.tmp 8) (.tmp 48) rfl g (zAh 81 st0 zAg zAg).toArray rfl (by rfl) 67 _ fL rfl rfl (zBj _ _) ?_))
      have fH:=setRow_heap w1 g _ (zAh 81 st0 zAg zAg).toArray _ _ fL;refine bodyPost_ret (results_cell_row rfl _ _ g 67 (zAh 81 st0 zAg zAg).toArray (0,0) _ rfl fH Tryz.underlying67 rfl rfl) rfl ⟨by rw [fK.out];rfl,?_⟩;rw [fK.out];exact (zAS.same hH.out fG).after (by rw [fS.out];exact gW.out) (by rw [fS.out];exact Nat.le_refl _) fN fI.out ((Chg.refl (fun b=>b=g) w1).setRow (fun _=>rfl) _)
    · rw [if_neg h0] at hu;obtain⟨kP,kJ,kC⟩:=jB h0;have jM:=hid kC
      have kI:((i:Int)==0)=false:=by simp;omega
      clear jB h0 kC;have jI:=zBu (T:=T) (n:=n) (nm:=nm) (fT.out.get fF.out).1;have fJ:=fun W hP=>zB5 own lay p mb d T n W hP gV.out fF.out;generalize T.place n=r3 at *;obtain⟨k,e3⟩:=r3;simp only at jI hu fJ;unfold zAW at fJ;have gE:=hid fJ;clear fJ;by_cases jN:e3=0
      · subst jN;rw [if_neg (by simp)] at hu
        have hiD:i≠d:=fun e=>by have h1:=jM.out;rw [e,fF.out] at h1;cases h1
        rw [zCg ((zAm _ (Ne.symm hiD)).trans fF.out)] at hu;have fK:=hid hu;have fQ:=hid hiD;have gF:=hid (jI rfl);have kD:=gF.out.le;have kE:=gF.out.lt (fT.out.get fF.out).1;have jO:=hid (fT.out.upd (i:=i) (zHs dir hm) ⟨by omega,kJ⟩);have jP:=hid (zCy gV.out fF.out gD.out (j:=i) gF.out jA (by omega));have kF:=hid (jO.out.upd jP.out (fT.out.get fF.out).2)
        have kK:(List.map (fun x=>(x.1,(lay x.1).nb)) T.nodes).length≤1000:=by rw [List.length_map];have:=fT.out.len;omega
        clear hu jI hiD
        cases dir with
        | false =>
         have jC:(zCR false made).kind=1:=rfl;rw [jC];clear jC;have gG:∃ s:St,(((T.upd i (zCR false made)).upd d (n.set k nm i)).stat i)=s:=⟨_,rfl⟩;obtain⟨s,jD⟩:=gG;have fU:=hid jD;clear jD
         go_wp2_with (first
          | (go_at_call 95;refine fC.mono ?_;rintro e w1 ⟨rfl,fG⟩;have fB:=hH.out.fresh fG;have fL:=gX.out.fresh fG;have x2:=fB.c2;have fY:=fB.lookI fF.out (by omega);have k6:=(fB.get fF.out).c6;have fM:=(fB.get fF.out).lookN nm (by omega);rw [fO.out] at fM;simp only [orV,Option.isSome_none] at fM;have fA:=zDz own lay p mb T w1 fB gV.out;unfold zAW at fA;have fP:=hid fB;clear fB)
          | (go_at_call 96;rw [fZ.out] at fA;refine fA.mono ?_;rintro e w' ⟨rfl,rfl⟩)
          | (go_at_call 97;refine (gE.out w1 fP.out).mono ?_;rintro e w2 ⟨rfl,gC⟩;have fD:=fG.trans (gC.mono fG.size);have gY:=fL.fresh gC;have fR:=hH.out.fresh fD;have gH:=fR.nodes.lt;have y2:=fR.c2;have jQ:=hid fR;have gI:=new_file (own:=own) (i:=i) w2 made fR.lt;have gJ:Below w2.heap.size w2 ((w2.alloc (.map #[] 0)).alloc (.cells #[.int .i64 1,.int .i64 1,.int .i64 0,.int .i64 (made:Int),.map (some w2.heap.size),zAg,.map none] 110)):=gI.2.2.2.2.2;have gA:=fR.fresh gJ;have y3:=gA.c2;have gK:=gA.nodes;have fV:=hid gA;have fE:=hid gI;clear fR gA gI)
          | (at_mapUpdate;refine zA4 _ rfl _ _ _ 96 (.inl rfl) zDW Tryz.underlying96 gK (by unfold maxLen;omega) rfl i rfl (zHv i (by omega)) (w2.heap.size+1) rfl ?_;intro w4 jR jS;have fW:=zAT jS;have gB:=fV.out.add jM.out fW (fun b _ e=>e) jR (zIZ fE.out.1 (fun x e=>by cases e) fW gH) fE.out.2.1 (fun b r e=>Nat.lt_of_lt_of_le (fE.out.2.2.1 b r e) fW.size) fE.out.2.2.2.1;have z2:=gB.c2;have jT:=gB.lookI ((zAm _ (Ne.symm fQ.out)).trans fF.out) (by omega);have gL:=hid gB;have jU:=(gY.fresh gJ).chg fW (fun e=>by have h1:=fI.out;have h2:=fV.out.ownm;rw [←e,h1] at h2;cases h2);clear gB)
          | (go_at_call 98;refine (zBJ gL.out jO.out ((zAm _ (Ne.symm fQ.out)).trans fF.out) gD.out kD kE jY).mono ?_;rintro e w5 ⟨rfl,own5,lay5,gM,jE,jF⟩;have gN:=hid gM;have gO:=hid jE;have gP:=hid (fE.out.2.2.2.2.1 g (by have:=fD.size;omega) fI.out);have jV:=jU.chg jF (fun h=>h gP.out);have gQ:=zDU own5 lay5 p mb i _ _ w5 gM kF.out ((zAm _ fQ.out).trans (zA8 _ _));rw [fU.out] at gQ;unfold stV stC at gQ;clear gM jE)
          | (go_at_call 99;refine gQ.mono ?_;rintro e w6 ⟨rfl,gR⟩;have jG:=jV.fresh gR)
          | (refine wpList_store_row rfl 67 (.tmp 8) (.tmp 94) rfl g (zAh 0 s zAg zAg).toArray rfl (by rfl) 67 _ jG rfl rfl (zBj _ _) ?_))
         have fH:=setRow_heap w6 g _ (zAh 0 s zAg zAg).toArray _ _ jG;refine bodyPost_ret (results_cell_row rfl _ _ g 67 (zAh 0 s zAg zAg).toArray (0,0) _ rfl fH Tryz.underlying67 rfl rfl) rfl ⟨by rw [fK.out,fU.out];rfl,?_⟩;rw [fK.out]
         have gS:zAS own p mb ((T.upd i (zCR false made)).upd d (n.set k nm i)) w0 w6:=by
          have gT:=fD.trans (gJ.mono fD.size);have jW:=(fE.out.2.1.back (w:=w0) (fD.size));have gU:=(Chg.of_fresh (S:=fun b=>own b≠none) gT).trans fW (fun _ _ h=>h) (fun b _ e=>by rw [e,hH.out.ownm];simp);exact zAS.fst jW gU (.of (gN.out.fresh gR) gO.out (jF.trans (Chg.of_fresh gR) (fun _ _ h=>h) (fun _ _ h=>h)))
         exact gS.after (by rw [fS.out];exact gW.out) (by rw [fS.out];exact Nat.le_refl _) fN fI.out ((Chg.refl (fun b=>b=g) w6).setRow (fun _=>rfl) _)
        | true =>
         have jC:(zCR true made).kind=2:=rfl;rw [jC];clear jC;have gG:∃ s:St,(((T.upd i (zCR true made)).upd d (n.set k nm i)).stat i)=s:=⟨_,rfl⟩;obtain⟨s,jD⟩:=gG;have fU:=hid jD;clear jD
         go_wp2_with (first
          | (go_at_call 95;refine fC.mono ?_;rintro e w1 ⟨rfl,fG⟩;have fB:=hH.out.fresh fG;have fL:=gX.out.fresh fG;have x2:=fB.c2;have fY:=fB.lookI fF.out (by omega);have k6:=(fB.get fF.out).c6;have fM:=(fB.get fF.out).lookN nm (by omega);rw [fO.out] at fM;simp only [orV,Option.isSome_none] at fM;have fA:=zDz own lay p mb T w1 fB gV.out;unfold zAW at fA;have fP:=hid fB;clear fB)
          | (go_at_call 96;rw [fZ.out] at fA;refine fA.mono ?_;rintro e w' ⟨rfl,rfl⟩)
          | (go_at_call 97;refine (gE.out w1 fP.out).mono ?_;rintro e w2 ⟨rfl,gC⟩;have fD:=fG.trans (gC.mono fG.size);have gY:=fL.fresh gC;have fR:=hH.out.fresh fD;have gH:=fR.nodes.lt;have y2:=fR.c2;have jQ:=hid fR;have gI:=new_dir (own:=own) (i:=i) w2 made fR.lt;have gJ:Below w2.heap.size w2 (((w2.alloc (.map #[] 0)).alloc (.cells #[.int .i64 2,.int .i64 1,.int .i64 0,.int .i64 (made:Int),.map (some w2.heap.size),zAg,.map (some (w2.heap.size+1+1))] 110)).alloc (.map #[] 0)):=gI.2.2.2.2.2;have gA:=fR.fresh gJ;have y3:=gA.c2;have gK:=gA.nodes;have fV:=hid gA;have fE:=hid gI;clear fR gA gI)
          | (at_mapUpdate;refine zA4 _ rfl _ _ _ 96 (.inl rfl) zDW Tryz.underlying96 gK (by unfold maxLen;omega) rfl i rfl (zHv i (by omega)) (w2.heap.size+1) rfl ?_;intro w4 jR jS;have fW:=zAT jS;have gB:=fV.out.add jM.out fW (fun b _ e=>e) jR (zIZ fE.out.1 (fun x e=>(Option.some.inj e).symm) fW gH) fE.out.2.1 (fun b r e=>Nat.lt_of_lt_of_le (fE.out.2.2.1 b r e) fW.size) fE.out.2.2.2.1;have z2:=gB.c2;have jT:=gB.lookI ((zAm _ (Ne.symm fQ.out)).trans fF.out) (by omega);have gL:=hid gB;have jU:=(gY.fresh gJ).chg fW (fun e=>by have h1:=fI.out;have h2:=fV.out.ownm;rw [←e,h1] at h2;cases h2);clear gB)
          | (go_at_call 98;refine (zBJ gL.out jO.out ((zAm _ (Ne.symm fQ.out)).trans fF.out) gD.out kD kE jY).mono ?_;rintro e w5 ⟨rfl,own5,lay5,gM,jE,jF⟩;have gN:=hid gM;have gO:=hid jE;have gP:=hid (fE.out.2.2.2.2.1 g (by have:=fD.size;omega) fI.out);have jV:=jU.chg jF (fun h=>h gP.out);have gQ:=zDU own5 lay5 p mb i _ _ w5 gM kF.out ((zAm _ fQ.out).trans (zA8 _ _));rw [fU.out] at gQ;unfold stV stC at gQ;clear gM jE)
          | (go_at_call 99;refine gQ.mono ?_;rintro e w6 ⟨rfl,gR⟩;have jG:=jV.fresh gR)
          | (refine wpList_store_row rfl 67 (.tmp 8) (.tmp 94) rfl g (zAh 0 s zAg zAg).toArray rfl (by rfl) 67 _ jG rfl rfl (zBj _ _) ?_))
         have fH:=setRow_heap w6 g _ (zAh 0 s zAg zAg).toArray _ _ jG;refine bodyPost_ret (results_cell_row rfl _ _ g 67 (zAh 0 s zAg zAg).toArray (0,0) _ rfl fH Tryz.underlying67 rfl rfl) rfl ⟨by rw [fK.out,fU.out];rfl,?_⟩;rw [fK.out]
         have gS:zAS own p mb ((T.upd i (zCR true made)).upd d (n.set k nm i)) w0 w6:=by
          have gT:=fD.trans (gJ.mono fD.size);have jW:=(fE.out.2.1.back (w:=w0) (fD.size));have gU:=(Chg.of_fresh (S:=fun b=>own b≠none) gT).trans fW (fun _ _ h=>h) (fun b _ e=>by rw [e,hH.out.ownm];simp);exact zAS.fst jW gU (.of (gN.out.fresh gR) gO.out (jF.trans (Chg.of_fresh gR) (fun _ _ h=>h) (fun _ _ h=>h)))
         exact gS.after (by rw [fS.out];exact gW.out) (by rw [fS.out];exact Nat.le_refl _) fN fI.out ((Chg.refl (fun b=>b=g) w6).setRow (fun _=>rfl) _)
      · rw [if_pos jN] at hu;have fK:=hid hu
        have kL:((e3:Int) != 0)=true:=by simp;omega
        clear hu jI jN
        go_wp2_with (first
         | (go_at_call 95;refine fC.mono ?_;rintro e w1 ⟨rfl,fG⟩;have fB:=hH.out.fresh fG;have fL:=gX.out.fresh fG;have x2:=fB.c2;have fY:=fB.lookI fF.out (by omega);have k6:=(fB.get fF.out).c6;have fM:=(fB.get fF.out).lookN nm (by omega);rw [fO.out] at fM;simp only [orV,Option.isSome_none] at fM;have fA:=zDz own lay p mb T w1 fB gV.out;unfold zAW at fA;have fP:=hid fB;clear fB)
         | (go_at_call 96;rw [fZ.out] at fA;refine fA.mono ?_;rintro e w' ⟨rfl,rfl⟩)
         | (go_at_call 97;refine (gE.out w1 fP.out).mono ?_;rintro e w2 ⟨rfl,gC⟩;have fD:=fG.trans (gC.mono fG.size);have gY:=fL.fresh gC;skip)
         | (refine wpList_store_row rfl 67 (.tmp 8) (.tmp 63) rfl g (zAh e3 st0 zAg zAg).toArray rfl (by rfl) 67 _ gY rfl rfl (zBj _ _) ?_))
        have fH:=setRow_heap w2 g _ (zAh e3 st0 zAg zAg).toArray _ _ gY;refine bodyPost_ret (results_cell_row rfl _ _ g 67 (zAh e3 st0 zAg zAg).toArray (0,0) _ rfl fH Tryz.underlying67 rfl rfl) rfl ⟨by rw [fK.out];rfl,?_⟩;rw [fK.out];exact (zAS.same hH.out fD).after (by rw [fS.out];exact gW.out) (by rw [fS.out];exact Nat.le_refl _) fN fI.out ((Chg.refl (fun b=>b=g) w2).setRow (fun _=>rfl) _)
 · rw [if_pos jL] at hu;have fK:=hid hu
   have kM:((e1:Int) != 0)=true:=by simp;omega
   clear hu fX jL jB
   go_wp2_with (first
    | (go_at_call 95;refine fC.mono ?_;rintro e w1 ⟨rfl,fG⟩;have fB:=hH.out.fresh fG;have fL:=gX.out.fresh fG;have x2:=fB.c2;clear fB)
    | (refine wpList_store_row rfl 67 (.tmp 8) (.tmp 27) rfl g (zAh e1 st0 zAg zAg).toArray rfl (by rfl) 67 _ fL rfl rfl (zBj _ _) ?_))
   have fH:=setRow_heap w1 g _ (zAh e1 st0 zAg zAg).toArray _ _ fL;refine bodyPost_ret (results_cell_row rfl _ _ g 67 (zAh e1 st0 zAg zAg).toArray (0,0) _ rfl fH Tryz.underlying67 rfl rfl) rfl ⟨by rw [fK.out];rfl,?_⟩;rw [fK.out];exact (zAS.same hH.out fG).after (by rw [fS.out];exact gW.out) (by rw [fS.out];exact Nat.le_refl _) fN fI.out ((Chg.refl (fun b=>b=g) w1).setRow (fun _=>rfl) _)
open Go.Proofs
abbrev Ent:=ByteArray×Nat×Int
instance:Inhabited ByteArray:=⟨⟨#[]⟩⟩
def zBq (x:Ent):List Value:=[.string x.1,.int .i64 (x.2.1:Int),.int .i64 x.2.2]
theorem zCL (x:Ent):∀ v∈zBq x,v.oneCell'=true:=by
 intro v hv;simp only [zBq,List.mem_cons,List.not_mem_nil,or_false] at hv;rcases hv with rfl | rfl | rfl<;>rfl
def entCf (x y:Ent):Int:=Lib.compareBytes x.1.data.toList y.1.data.toList
theorem zFp:∀ a b:List UInt8,decide (Lib.compareBytes a b<0)=bytesBefore a b
 | [],[]=>rfl
 | [],_::_=>rfl
 | _::_,[]=>rfl
 | a::r,b::s=>by
  by_cases h1:a<b
  · simp [Lib.compareBytes,bytesBefore,h1]
  · by_cases h2:b<a
    · have fA:¬a=b:=fun e=>by subst e;exact h1 h2
      simp [Lib.compareBytes,bytesBefore,h1,h2,fA]
    · have he:a=b:=by
       have fB:¬a.toNat<b.toNat:=fun h=>h1 (UInt8.lt_iff_toNat_lt.2 h);have fC:¬b.toNat<a.toNat:=fun h=>h2 (UInt8.lt_iff_toNat_lt.2 h);exact UInt8.toNat_inj.1 (by omega)
      have ih:=zFp r s;subst he;simpa [Lib.compareBytes,bytesBefore,h1] using ih
theorem entLt (x y:Ent):ltOf entCf x y=zA6.lt x.1 y.1:=zFp _ _
theorem zHR {a b c:ByteArray} (h1:zA6.lt a b=false) (h2:zA6.lt b c=false):zA6.lt a c=false:=by
 cases h:zA6.lt a c with
 | false=>rfl
 | true =>
  exfalso
  by_cases e:a=b
  · subst e;rw [h] at h2;cases h2
  · rcases zEw a b e with h' | h'
    · rw [h'] at h1;cases h1
    · rw [zDR zA6 h' h] at h2;cases h2
theorem entSwo:Go.Sort.SWO (ltOf entCf) where
 irrefl x:=by rw [entLt];exact zBQ zA6 _
 trans x y z h1 h2:=by rw [entLt] at *;exact zDR zA6 h1 h2
 ntrans x y z h1 h2:=by rw [entLt] at *;exact zHR h1 h2
theorem entCmp (x y:Ent) (w:World):Calls Tryz.prog 131 #[.agg (zBq x).toArray,.agg (zBq y).toArray] w fun e w'=>e=.returned (.int .i64 (entCf x y))∧∃ q os',w'=Go.Sort.grow (w.drewN q) os':=by
 have fA:=fun W=>Go.Proofs.Tryz.strings_Compare x.1 y.1 W;have hr:∃ r,Lib.compareBytes x.1.data.toList y.1.data.toList=r:=⟨_,rfl⟩;obtain⟨r,hr⟩:=hr;have fB:=hid hr;rw [hr] at fA;clear hr;unfold zBq;go_enter Tryz.func131,Tryz.ntmps131;go_wp2_with (go_at_call 132;refine (fA _).mono ?_;rintro e w' ⟨rfl,rfl⟩);go_ret;exact⟨by unfold entCf;rw [fB.out];rfl,0,_,by rw [Go.Sort.alloc_eq_grow,Go.Sort.alloc_eq_grow,Go.Sort.grow_grow];rfl⟩
theorem isAggE:∀ w,(isAgg 130).run Tryz.prog w=.ok true w:=fun _=>by kernel_rfl
theorem sizeOfE:∀ w,(Go.sizeOf 130).run Tryz.prog w=.ok 3 w:=fun _=>by kernel_rfl
theorem zJa (w:World) (g n:Nat) (d:Array Ent) (os:Array Obj):Chg (fun b=>b=g) w (sortWorldK zBq 3 w g 0 n d os):=by
 refine⟨rfl,rfl,rfl,?_,fun k hk hn=>?_⟩
 · simp [sortWorldK,Go.Sort.grow,Go.Sort.putRowK]
 · unfold sortWorldK Go.Sort.putRowK;have h1:(Go.Sort.putRow id (Go.Sort.ahead w n) g 0 (Go.Sort.flatK zBq 3 d)).heap.size=w.heap.size:=Go.Sort.size_putRow _ _ _ _ _;rw [Go.Sort.heap_grow_old _ _ (by rw [h1];exact hk)];unfold Go.Sort.putRow Go.Sort.mapBlock;simp only [Array.getElem?_modify];rw [if_neg (fun e=>hn e.symm)];rfl
theorem zHh (l:List Ent) (t:Nat) (h:t<l.length * 3):(Go.Sort.flatK zBq 3 l.toArray)[t]! = (l.flatMap zBq)[t]!:=by
 have hq:t / 3<l.length:=by omega
 have hr:t % 3<3:=Nat.mod_lt _ (by omega);rw [Go.Sort.get_flatK _ _ _ _ (by simpa using h)]
 have e:t / 3 * 3+t % 3=t:=by omega
 have h2:=zDd zBq 3 l (fun _ _=>rfl) (t / 3) hq (t % 3) hr;rw [e] at h2;rw [List.getElem!_eq_getElem?_getD (l:=l.flatMap zBq),h2,List.getElem!_eq_getElem?_getD];simp [hq]
def Sorted3 (g n:Nat) (l:List Ent) (w w':World):Prop :=
 ∃ l':List Ent,l'.Perm l∧l'.Pairwise (fun x y=>zA6.lt y.1 x.1=false)∧Sees w' w'.heap.size 3 (some ⟨g,0,none⟩) n (l'.flatMap zBq)∧Chg (fun b=>b=g) w w'
theorem sort_any (base g c:Nat) (l:List Ent) (w:World) (h:w.ownsRow base 130 3 (.slice (some ⟨g,0,none⟩) l.length c) l.length (l.flatMap zBq)) (hl:l.length≤1000000) :
 Calls Tryz.prog 130 #[.slice (some ⟨g,0,none⟩) l.length c,.func (.func 131) #[] #[]] w fun e w'=>e=.returned (.tuple #[])∧Sorted3 g l.length l w w':=by
 have eg:∀ args w,(callFunc 131 args).run Tryz.prog w=.ok (.enter 131 args) w:=enters_of Tryz.func131 (by kernel_rfl) rfl;have hg:g<w.heap.size:=(World.ownsRow.lt h g rfl).2
 have hH:Go.Sort.HoldsK zBq 3 w g 0 l.toArray:=by
  intro j hj;rw [Go.Sort.size_flatK] at hj
  have fD:j<l.length * 3:=by simpa using hj
  have hc:=h.cellAt j (by simpa using fD);refine⟨?_,by rw [Nat.zero_add];exact h.frozenAt j⟩;rw [Nat.zero_add,hc,zHh l j fD];have fE:=zEl zBq 3 l (fun _ _=>rfl);rw [List.getElem!_eq_getElem?_getD,List.getElem?_eq_getElem (by omega)];rfl
 have fB:=AnyQ.slices_SortFunc Go.Proofs.Tryz.sortE 3 isAggE sizeOfE zBq (fun _=>rfl) zCL entCf entSwo 131 #[] g 0 c l.toArray w eg (fun _ _ _ _ x y=>entCmp x y _) hH hg (by simp;omega)
 have fC:l.toArray.size=l.length:=by simp
 rw [fC] at fB;refine fB.mono ?_;rintro e w' ⟨he,d',n,os,hp,hs,rfl⟩;refine⟨he,d'.toList,?_,?_,?_,zJa w g n d' os⟩
 · have:=hp.2.2
   have fA:d'.toList.length=l.length:=by have:=hp.1;simpa using this
   have e:(d'.extract 0 l.length).toList=d'.toList:=by simp [←fA]
   have e2:(l.toArray.extract 0 l.length).toList=l:=by simp
   rw [e,e2] at this;exact this
 · rw [List.pairwise_iff_getElem];intro i j hi hj fF
   have fA:d'.size=l.length:=by rw [hp.1,fC]
   have:=hs i j (Nat.zero_le _) fF (by rw [←fA];simpa using hj);rw [entLt] at this;rw [getElem!_pos d' j (by simpa using hj),getElem!_pos d' i (by simpa using hi)] at this;simpa using this
 · have fA:d'.size=l.length:=by rw [hp.1,fC]
   have fG:d'.toList.length=l.length:=by simpa using fA
   refine⟨by rw [zEl zBq 3 _ (fun _ _=>rfl),fG],fun hn=>⟨g,0,rfl,?_,fun j u hu=>?_⟩⟩
   · exact Nat.lt_of_lt_of_le hg (zJa w g n d' os).size
   · have hj:j<d'.toList.length * 3:=by
      have:=(List.getElem?_eq_some_iff.1 hu).1
      rwa [zEl zBq 3 _ (fun _ _=>rfl)] at this
     unfold sortWorldK Go.Sort.putRowK;rw [Go.Sort.cell?_grow _ _ _ (by rw [Go.Sort.size_putRow];exact hg)];rw [Go.Sort.cell?_putRow id (Go.Sort.ahead w n) g 0 (Go.Sort.flatK zBq 3 l.toArray) (Go.Sort.flatK zBq 3 d') hH (by simp [fA]) j (by simpa using hj)];have e:=zHh d'.toList j hj
     have e2:d'.toList.toArray=d':=by simp
     rw [e2] at e
     show some ((Go.Sort.flatK zBq 3 d')[j]!)=some u
     rw [e,List.getElem!_eq_getElem?_getD,hu];rfl
theorem sort_none (c:Nat) (w:World):Calls Tryz.prog 130 #[.slice none 0 c,.func (.func 131) #[] #[]] w fun e w'=>e=.returned (.tuple #[])∧w'=w :=
 AnyF.slices_SortFunc_none Go.Proofs.Tryz.sortE none c _ w
end Go.Proofs.YtolpcfhfcdkokaaGreatDoor
