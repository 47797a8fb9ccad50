/- Joined out of PStat..POps1. -/
import Derived.Test.YtolpcfhfcdkokaaGreatDoorQ11
set_option maxHeartbeats 16000000
set_option maxRecDepth 100000
namespace Go.Proofs.YtolpcfhfcdkokaaGreatDoor
open Lib (hid)
open Go.RowKit
open Go.Maps (Keyed)
def stC (s:St):List Value:=[.int .i64 s.ino,.int .i64 s.kind,.int .i64 s.links,.int .i64 s.size,.int .i64 s.made,.int .i64 s.blocks]
def stV (s:St):Value:=.agg (stC s).toArray
theorem chg6 (w:World) (g:Nat) (v0 v1 v2 v3 v4 v5:Value):Chg (fun b=>b=g) w ((((((w.setCell ⟨g,0,none⟩ v0).setCell ⟨g,1,none⟩ v1).setCell ⟨g,2,none⟩ v2).setCell ⟨g,3,none⟩ v3).setCell ⟨g,4,none⟩ v4).setCell ⟨g,5,none⟩ v5) :=
 ((((((Chg.refl (fun b=>b=g) w).setCell (p:=⟨g,0,none⟩) (fun _=>rfl) v0).setCell (p:=⟨g,1,none⟩) (fun _=>rfl) v1).setCell (p:=⟨g,2,none⟩) (fun _=>rfl) v2).setCell (p:=⟨g,3,none⟩) (fun _=>rfl) v3).setCell (p:=⟨g,4,none⟩) (fun _=>rfl) v4).setCell (p:=⟨g,5,none⟩) (fun _=>rfl) v5
theorem zIc {w:World} {g:Nat} {t:TypeId} {a0 a1 a2 a3 a4 a5:Value} (h:Blk w g t [a0,a1,a2,a3,a4,a5]) (v0 v1 v2 v3 v4 v5:Value) :
 Blk ((((((w.setCell ⟨g,0,none⟩ v0).setCell ⟨g,1,none⟩ v1).setCell ⟨g,2,none⟩ v2).setCell ⟨g,3,none⟩ v3).setCell ⟨g,4,none⟩ v4).setCell ⟨g,5,none⟩ v5) g t [v0,v1,v2,v3,v4,v5]:=((((((h.set_ 0 v0).set_ 1 v1).set_ 2 v2).set_ 3 v3).set_ 4 v4).set_ 5 v5)
theorem zDU (own:Nat→Option Role) (lay:Nat→NA) (p mb i:Nat) (T:PT) (n:PN) (w:World) (h:PlainAt w own lay p mb T) (hT:T.Ok) (hg:zAd i T.nodes=some n) :
 Calls Tryz.prog 99 #[.pointer (some ⟨p,0,none⟩),.int .i64 (i:Int)] w fun e w'=>e=.returned (stV (T.stat i))∧Below w.heap.size w w':=by
 have fQ:=hT.get hg;have gG:=hT.ino;have fK:Below w.heap.size w (w.alloc (.cells #[.int .i64 0,.int .i64 0,.int .i64 0,.int .i64 0,.int .i64 0,.int .i64 0] 63)):=(Below.refl _ _).alloc (Nat.le_refl _) _;have fB:=h.fresh fK;have fD:=Blk.new w 63 [.int .i64 0,.int .i64 0,.int .i64 0,.int .i64 0,.int .i64 0,.int .i64 0]
 have fR:T.stat i=⟨i,n.kind,n.links,n.size,n.made,n.count⟩:=by unfold PT.stat;rw [hg]
 have fE:=h.get hg;have fY:=fE.blk.lt;go_enter Tryz.func99,Tryz.ntmps99;go_upto_region 1 with (fail)
 replace fD:Blk (w.alloc (.cells #[.int .i64 0,.int .i64 0,.int .i64 0,.int .i64 0,.int .i64 0,.int .i64 0] 63)) w.heap.size 63 [.int .i64 0,.int .i64 0,.int .i64 0,.int .i64 0,.int .i64 0,.int .i64 0]:=fD
 generalize w.alloc (.cells #[.int .i64 0,.int .i64 0,.int .i64 0,.int .i64 0,.int .i64 0,.int .i64 0] 63)=w0 at *;generalize fS:w.heap.size=g at *;have fT:=hid fS;clear fS;have c2:=fB.c2;have gH:=fB.lookI hg (by omega);have fF:=fB.get hg;have k0:=fF.c0;have k1:=fF.c1;have k2:=fF.c2;have k3:=fF.c3;have fZ:=fD.lt;have fU:PnAt w0.drew (lay i) n:=(fB.drew).get hg
 have gA:(lay i).nb≠g:=by omega
 have fV:∀ w1,Below w0.heap.size w0 w1→PnAt w1 (lay i) n:=fun w1 hb=>(fB.fresh hb).get hg
 have fG:∀ w1 v0 v1 v2 v3 v4 v5,PnAt w1 (lay i) n→PnAt ((((((w1.setCell ⟨g,0,none⟩ v0).setCell ⟨g,1,none⟩ v1).setCell ⟨g,2,none⟩ v2).setCell ⟨g,3,none⟩ v3).setCell ⟨g,4,none⟩ v4).setCell ⟨g,5,none⟩ v5) (lay i) n:=fun w1 v0 v1 v2 v3 v4 v5 h1=>by
  have ho:=fB.owns _ (zAi hg)
  have fL:∀ b r,own b=some r→b<g:=fun b r e=>by rw [←fT.out];exact h.lt b r e
  refine h1.chg (chg6 w1 g v0 v1 v2 v3 v4 v5) gA (fun b e hb=>?_) (fun b e hb=>?_) (fun b e hb=>?_)
  · have:=fL _ _ (ho.d b e);omega
  · have:=fL _ _ (ho.s b e);omega
  · have:=fL _ _ (ho.nm b e);omega
 have fH:=fun W (hn:PnAt W (lay i) n)=>zDQ hn fQ.1;have gB:=hid fV;have gC:=hid fG;have gD:=hid fD;have gE:=hid fK;have fM:=hid fU;have fN:=hid fR;have fW:=hid fH;clear fV fG fD fK fU fR fF fB fE h fH hT fQ;unfold zCq at fW;generalize fX:(lay i).nb=nb at *;have fO:=hid fX;clear fX;go_upto_region 2 with (fail)
 go_region_held3 (fun w'=>w'.cell? ⟨nb,0,none⟩=some (.int .i64 n.kind)∧w'.cell? ⟨nb,1,none⟩=some (.int .i64 (n.links:Int))∧w'.cell? ⟨nb,2,none⟩=some (.int .i64 (n.size:Int))∧w'.cell? ⟨nb,3,none⟩=some (.int .i64 (n.made:Int)))
  (first | go_keep)
  (first
   | (go_at_call 57;refine (fW.out w0.drew fM.out).mono ?_;rintro e w1 ⟨rfl,fJ⟩;have fC:=gB.out w1 (zBR fJ);have d0:=fC.c0;have d1:=fC.c1;have d2:=fC.c2;have d3:=fC.c3;have fA:=gD.out.fresh (zBR fJ);have f0:=fA.frozen 0;have q0:=fA.cell 0;have f1:=fA.frozen 1;have q1:=fA.cell 1;have f2:=fA.frozen 2;have q2:=fA.cell 2;have f3:=fA.frozen 3;have q3:=fA.cell 3;have f4:=fA.frozen 4;have q4:=fA.cell 4;have f5:=fA.frozen 5;have q5:=fA.cell 5;have fI:=gC.out w1 (.int .i64 (i:Int)) (.int .i64 n.kind) (.int .i64 (n.links:Int)) (.int .i64 (n.size:Int)) (.int .i64 (n.made:Int)) (.int .i64 (n.count:Int)) fC;have e0:=fI.c0;have e1:=fI.c1;have e2:=fI.c2;have e3:=fI.c3;rw [fO.out] at d0 d1 d2 d3 e0 e1 e2 e3;clear fI fC))
 have fP:=zIc fA (.int .i64 (i:Int)) (.int .i64 n.kind) (.int .i64 (n.links:Int)) (.int .i64 (n.size:Int)) (.int .i64 (n.made:Int)) (.int .i64 (n.count:Int));have gF:=(gE.out.trans ((zBR fJ).mono (Nat.le_of_lt fZ))).trans ((chg6 w1 g (.int .i64 (i:Int)) (.int .i64 n.kind) (.int .i64 (n.links:Int)) (.int .i64 (n.size:Int)) (.int .i64 (n.made:Int)) (.int .i64 (n.count:Int))).below (show g≤w1.heap.size by have:=(zBR fJ).size;omega) fun b hb e=>by omega);go_wp2;refine bodyPost_ret (results_cell_row rfl _ _ g 63 (#[.int .i64 (i:Int),.int .i64 n.kind,.int .i64 (n.links:Int),.int .i64 (n.size:Int),.int .i64 (n.made:Int),.int .i64 (n.count:Int)]:Array Value) (0,0) _ rfl fP Tryz.underlying63 rfl rfl) rfl ⟨?_,?_⟩
 · rw [fN.out];rfl
 · rw [fT.out];exact gF
theorem zC3 {fn:Func} {t u v x:Tmp} (h:fn.results=#[.tmp t,.tmp u,.tmp v,.tmp x]) (tmps:Array Value) (P:Program) (w:World) :
 (results fn tmps).run P w=.ok (.tuple #[tmps.getD t undef,tmps.getD u undef,tmps.getD v undef,tmps.getD x undef]) w:=by
 simp [results,h]
theorem zBz {T:PT} (hT:T.Wf) (l:List ByteArray) (h0:(T.last l).2=0):∃ n,zAd (T.last l).1 T.nodes=some n∧n.dir=true:=by
 unfold PT.last at h0 ⊢
 split
 · rename_i h;rw [if_pos h] at h0;cases h0
 · rename_i h;rw [if_neg h] at h0;simp only at h0 ⊢;by_cases hc:(T.walk l.dropLast 1).2=0∧T.isDir (T.walk l.dropLast 1).1=false
   · rw [if_pos hc] at h0;cases h0
   · rw [if_neg hc] at h0 ⊢;obtain⟨n,hn⟩:=zB0 hT l.dropLast 1 (let ⟨n,h,_⟩:=hT.root;⟨n,h⟩) h0;refine⟨n,hn,?_⟩
     have hd:T.isDir (T.walk l.dropLast 1).1=n.dir:=by unfold PT.isDir;rw [hn]
     cases fA:n.dir with
     | true=>rfl
     | false=>exact absurd ⟨h0,by rw [hd,fA]⟩ hc
theorem zEI {T:PT} (hT:T.Wf) (l:List ByteArray):(T.last l).1≤512:=by
 have:=zHP hT l.dropLast;unfold PT.last
 split
 · simp
 · simp only
   split
   · exact this
   · exact this
theorem zB4 {l:List ByteArray} (h:∀ x∈l,x.size≤1000000):(zAL l).size≤1000000:=by
 unfold zAL;rw [List.getLastD_eq_getLast?]
 cases hl:l.getLast? with
 | none=>simp [emp,ByteArray.size]
 | some x=>exact h x (List.mem_of_getLast? hl)
theorem zFm (own:Nat→Option Role) (lay:Nat→NA) (p mb:Nat) (T:PT) (B:Nat) (A:Option Addr) (c:Nat) (l:List ByteArray) (w:World) (h:PlainAt w own lay p mb T) (hT:T.Wf)
 (hs:Sees w B 1 A l.length (strs l)) (hl:l.length≤1000000) (hc:l.length≤c) (hx:∀ x∈l,x.size≤1000000) :
 Calls Tryz.prog 100 #[.pointer (some ⟨p,0,none⟩),.slice A l.length c] w fun e w'=>e=.returned (.tuple #[zAW (T.entry l).1,.string (T.entry l).2.1,zAW (T.entry l).2.2.1,zAW (T.entry l).2.2.2])∧Below w.heap.size w w':=by
 have fA:=zCT own lay p mb T B A c l w h hT hs hl hc hx;have hH:=hid h;have fL:=hid hT;have fM:=zB4 hx;have fC:=zBz hT l;have fH:=zEI hT l
 have fB:T.entry l=if (T.last l).2≠0 then (0,emp,0,(T.last l).2) else match (zAd (T.last l).1 T.nodes).bind fun d=>zAd (zAL l) d.names with | none=>(0,emp,0,110) | some j=>((T.last l).1,zAL l,j,0):=rfl
 go_enter Tryz.func100,Tryz.ntmps100;generalize T.last l=r at *;obtain⟨i,e⟩:=r;generalize zAL l=nm at *;simp only at fC fH fB fA;unfold zAW at fA;clear h hT hs hx;generalize l.length=len at *;by_cases he:e=0
 · subst he;obtain⟨n,hn,hd⟩:=fC rfl;rw [if_neg (by simp),hn] at fB;simp only [Option.bind_some] at fB
   cases hg:zAd nm n.names with
   | none =>
    rw [hg] at fB;have fF:=hid fB;clear fB fC hd;go_wp2_with (first | (go_at_call 95;refine fA.mono ?_;rintro e w1 ⟨rfl,fE⟩;have fD:=hH.out.fresh fE;have c2:=fD.c2;have fI:=fD.lookI hn (by omega);have k6:=(fD.get hn).c6;have fG:=(fD.get hn).lookN nm (by omega);rw [hg] at fG;simp only [orV,Option.isSome_none] at fG;have fJ:=hid hg;have fK:=hid hn;clear hg hn fD));refine bodyPost_ret (zC3 rfl _ _ _) rfl ⟨?_,fE⟩;rw [fF.out];rfl
   | some j =>
    rw [hg] at fB;have fF:=hid fB;clear fB fC hd;go_wp2_with (first | (go_at_call 95;refine fA.mono ?_;rintro e w1 ⟨rfl,fE⟩;have fD:=hH.out.fresh fE;have c2:=fD.c2;have fI:=fD.lookI hn (by omega);have k6:=(fD.get hn).c6;have fG:=(fD.get hn).lookN nm (by omega);rw [hg] at fG;simp only [orV,Option.isSome_some,zAW] at fG;have fJ:=hid hg;have fK:=hid hn;clear hg hn fD));refine bodyPost_ret (zC3 rfl _ _ _) rfl ⟨?_,fE⟩;rw [fF.out];rfl
 · rw [if_pos he] at fB
   have fN:((e:Int) != 0)=true:=by simp;omega
   have fF:=hid fB;clear fB fC he;go_wp2_with (first | (go_at_call 95;refine fA.mono ?_;rintro e w1 ⟨rfl,fE⟩));refine bodyPost_ret (zC3 rfl _ _ _) rfl ⟨?_,fE⟩;rw [fF.out];rfl
theorem PT.rk_le (T:PT) (rk:Nat→Nat) {j:Nat} (h:T.isDir j=true):rk j≤(T.nodes.map fun p=>rk p.1).sum:=by
 unfold PT.isDir at h
 cases hg:zAd j T.nodes with
 | none=>rw [hg] at h;cases h
 | some n =>
  have hm:=zAi hg
  have:∀ (l:List (Nat×PN)),(j,n)∈l→rk j≤(l.map fun p=>rk p.1).sum:=by
   intro l
   induction l with
   | nil=>intro h;cases h
   | cons y r ih =>
    intro h;rw [List.map_cons,List.sum_cons];rcases List.mem_cons.1 h with rfl | h
    · simp
    · have:=ih h;omega
  exact this _ hm
theorem zAn {T:PT} {i:Nat} {n:PN} (h:zAd i T.nodes=some n):T.isDir i=n.dir:=by unfold PT.isDir;rw [h]
def UndP (T:PT) (d i:Nat) (w:World) (e:Ending) (w':World):Prop:=(∃ b:Bool,e=.returned (.bool b)∧(b=true↔T.Und d i))∧Below w.heap.size w w'
theorem zFt (own:Nat→Option Role) (lay:Nat→NA) (p mb:Nat) (T:PT) (hT:T.Wf) (rk:Nat→Nat) (hr:T.Ranked rk) (N:Nat) (hN:∀ j,T.isDir j=true→rk j≤N) (d:Nat) (_hd:d≤512) (m:Nat):∀ (i:Nat) (w:World),T.isDir i=true→N<rk i+m→PlainAt w own lay p mb T →
 Calls Tryz.prog 103 #[.pointer (some ⟨p,0,none⟩),.int .i64 (d:Int),.int .i64 (i:Int)] w (UndP T d i w):=by
 induction m with
 | zero=>intro i w hi hm;have:=hN i hi;omega
 | succ m ih =>
  intro i w hi hm h
  obtain⟨n,hn⟩:∃ n,zAd i T.nodes=some n:=by
   cases hg:zAd i T.nodes with
   | none=>unfold PT.isDir at hi;rw [hg] at hi;cases hi
   | some n=>exact⟨n,rfl⟩
  have fT:n.dir=true:=by rw [←zAn hn];exact hi
  have fU:=hT.ok.get hn;have jA:=hT.ok.ino;have fH:=h.get hn;obtain⟨nb,fP⟩:=fH.dirs fT;by_cases he:d=i
  · subst he
    have jB:((d:Int)==(d:Int))=true:=by simp
    clear ih hr hN fH h hT fU fT hi hm hn fP;go_enter Tryz.func103,Tryz.ntmps103;go_wp2_with fail;go_ret;exact⟨⟨true,rfl,fun _=>.here,fun _=>rfl⟩,Below.refl _ _⟩
  · have jC:((d:Int)==(i:Int))=false:=by simp;omega
    have c2:=h.c2;have jD:=h.lookI hn (by omega);have k6:=fH.c6;rw [fP] at k6;have fV:=fH.names;rw [fP] at fV;have fI:zAy w zA6 zAW 9 nb n.names:=fV;have hH:=hid h;have gE:=hid hT;have fQ:=hid hn;have gN:=hid hr;have fW:=hid ih;have jE:=hid hN;have gO:=hid he;have gP:=hid fU.1.nm
    have gF:i≤512:=by omega
    clear ih hr hN fH h hT fU fT hi hn fP he fV;generalize hg:w.heap.size=g at *;have fF:=hid hg;clear hg;go_enter Tryz.func103,Tryz.ntmps103
    go_wp2_with (first
     | (at_range;refine zBK _ rfl _ 101 rfl kStr Tryz.underlying101 fI rfl ?_;intro w1 gG gH gQ))
    go_frame
    rw [fF.out] at gH gG;simp only [fF.out];clear fI gQ
    go_loopw [8] (fun _ wr=>∃ todo:ByteArray→Bool,zAQ wr zA6 zAW 9 nb g n.names.length n.names todo∧Below g w wr∧Hid (∀ nm k,zAd nm n.names=some k→todo nm=false→T.isDir k=true→¬T.Und d k)) (fun _ wr=>wr.rangeLeft nb g)
    case atStart=>exact⟨_,gG,gH,fun nm k h1 h2=>by rw [h1] at h2;cases h2⟩
    case round =>
     obtain⟨todo,hr,hb,fX⟩:=hrel
     go_wp2_with (first
      | (at_next;refine zBX _ rfl _ rfl kStr invS rfl hr ?_ ?_))
     · intro h0;have gR:=hid h0;have gS:=hid hb;clear h0 hb hr;go_wp2_with fail;go_ret;refine⟨⟨false,rfl,⟨fun h=>(by cases h),fun hu=>?_⟩⟩,by rw [fF.out];exact gS.out⟩
       exfalso
       cases hu with
       | here=>exact gO.out rfl
       | step h1 h2 h3 h4 =>
        rw [fQ.out] at h1;obtain rfl:=Option.some.inj h1;exact fX.out _ _ h2 (gR.out _) h3 h4
     · intro nm k w2 gI fY gJ gK gT gU gV gW;obtain⟨nk,fJ⟩:=gE.out.ents i n nm k fQ.out fY;have fZ:=gE.out.ok.get fJ
       have gA:g≤wr.heap.size:=by have:=hb.size;rw [fF.out] at this;exact this
       have gB:=hb.trans (gT.below gA fun b hb h=>by omega);have fK:=hH.out.fresh (by rw [fF.out];exact gB);have d2:=fK.c2;have gX:=fK.lookI fJ (by omega);have kk0:=(fK.get fJ).c0
       have gL:k≤512:=by omega
       have fR:=zAn fJ;have fB:=hid fY;have gY:=hid gI;have fA:=hid gJ;have fL:=hid gK;have gC:=hid fK;have fD:=hid gB;clear gI fY gJ gK hr gU fK gB fJ fZ;unfold zAW at gV
       cases fG:nk.dir with
       | false =>
        rw [zAz fG] at kk0;have fE:=hid (show T.isDir k=false by rw [fR,fG]);clear fR fG;go_wp2_with fail;go_roundw
        case rel =>
         refine⟨_,fA.out,fD.out,fun nm' k' h1 h2 h3=>?_⟩;by_cases e:nm'=nm
         · subst e;rw [fB.out] at h1;obtain rfl:=Option.some.inj h1;rw [fE.out] at h3;cases h3
         · exact fX.out nm' k' h1 (by simpa [e] using h2) h3
        case measure=>exact fL.out
       | true =>
        rw [zA1 fG] at kk0
        have fC:T.isDir k=true:=by rw [fR,fG]
        have fE:=hid fC;have fM:=fW.out k w2 fC (by have:=gN.out i n nm k fQ.out fB.out fC;omega) gC.out;clear fR fG fC;go_wp2_with (first | (go_at_call 103;refine fM.mono ?_;rintro e w3 ⟨⟨b,rfl,gM⟩,fS⟩;have fN:=hid gM;clear gM;cases b))
        · have gZ:=fA.out.chg (Chg.of_fresh (S:=fun _=>False) fS) id id;have fO:=zBn (b:=nb) (r:=g) (Chg.of_fresh (S:=fun _=>False) fS) fA.out.owns.lt fA.out.lt id id;have gD:=hid (show w3.rangeLeft nb g<wr.rangeLeft nb g by rw [fO];exact fL.out);clear fO;go_wp2_with fail;go_roundw
          case rel =>
           refine⟨_,gZ,fD.out.trans (fS.mono (Nat.le_of_lt fA.out.lt)),fun nm' k' h1 h2 h3=>?_⟩;by_cases e:nm'=nm
           · subst e;rw [fB.out] at h1;obtain rfl:=Option.some.inj h1;intro hu;have:=fN.out.2 hu;cases this
           · exact fX.out nm' k' h1 (by simpa [e] using h2) h3
          case measure=>exact gD.out
        · go_wp2_with fail;go_ret;refine⟨⟨true,rfl,fun _=>.step fQ.out fB.out fE.out (fN.out.1 (by simp)),fun _=>rfl⟩,?_⟩;rw [fF.out];exact fD.out.trans (fS.mono (Nat.le_of_lt fA.out.lt))
theorem zDE {T:PT} (hT:T.Wf) (l:List ByteArray) (h:(T.entry l).2.2.2=0):∃ n m,zAd (T.entry l).1 T.nodes=some n∧n.dir=true∧zAd (T.entry l).2.1 n.names=some (T.entry l).2.2.1∧zAd (T.entry l).2.2.1 T.nodes=some m∧(T.entry l).2.1=zAL l:=by
 unfold PT.entry at h ⊢;simp only at h ⊢;by_cases h0:(T.last l).2=0
 · rw [if_neg (by simpa using h0)] at h ⊢;obtain⟨n,hn,hd⟩:=zBz hT l h0;rw [hn] at h ⊢;simp only [Option.bind_some] at h ⊢
   cases hg:zAd (zAL l) n.names with
   | none=>rw [hg] at h;cases h
   | some j =>
    obtain⟨m,hm⟩:=hT.ents _ n _ j hn hg;exact⟨n,m,hn,hd,hg,hm,rfl⟩
 · rw [if_pos (by simpa using h0)] at h;exact absurd h h0
theorem zIy {T:PT} (hT:T.Wf) (l:List ByteArray):(T.entry l).1≤512∧(T.entry l).2.2.1≤512:=by
 have fA:=hT.ok.ino;by_cases h:(T.entry l).2.2.2=0
 · obtain⟨n,m,h1,-,-,h2,-⟩:=zDE hT l h;have:=hT.ok.get h1;have:=hT.ok.get h2;omega
 · unfold PT.entry at h ⊢;simp only at h ⊢
   split
   · simp
   · rename_i h0;rw [if_neg h0] at h
     split
     · simp
     · rename_i j hj;rw [hj] at h;exact absurd rfl h
theorem zA8 {T:PT} (i:Nat) (n:PN):zAd i (T.upd i n).nodes=some n:=zAu zAG i n _
theorem zAm {T:PT} {i j:Nat} (n:PN) (h:j≠i):zAd j (T.upd i n).nodes=zAd j T.nodes:=zAl zAG n h _
theorem zCt {T:PT} {d:Nat} {n:PN} {nm:ByteArray} (h:zAd d T.nodes=some n):T.clr d nm=T.upd d (n.clear nm):=by unfold PT.clr;rw [h]
theorem zCg {T:PT} {d k j:Nat} {n:PN} {nm:ByteArray} (h:zAd d T.nodes=some n):T.ins d k nm j=T.upd d (n.set k nm j):=by unfold PT.ins;rw [h]
theorem zAS.fst {own own1:Nat→Option Role} {p mb:Nat} {T2:PT} {w w1 w2:World} (h:Ext w own own1) (hc:Chg (fun b=>own b≠none) w w1) (k:zAS own1 p mb T2 w1 w2):zAS own p mb T2 w w2:=by
 obtain⟨o2,l2,k1,k2,k3⟩:=k;exact⟨o2,l2,k1,h.trans k2 hc.size,hc.ext h k3⟩
theorem zHG (own:Nat→Option Role) (lay:Nat→NA) (p mb:Nat) (T:PT) (B:Nat) (A:Option Addr) (c:Nat) (l:List ByteArray) (w:World) (h:PlainAt w own lay p mb T) (hT:T.Wf)
 (hs:Sees w B 1 A l.length (strs l)) (hl:l.length≤1000000) (hc:l.length≤c) (hx:∀ x∈l,x.size≤1000000) :
 Calls Tryz.prog 69 #[.pointer (some ⟨p,0,none⟩),.slice A l.length c] w fun e w'=>e=.returned (zAW (T.unlink l).2)∧zAS own p mb (T.unlink l).1 w w':=by
 have fA:=zFm own lay p mb T B A c l w h hT hs hl hc hx;have fJ:=zDE hT l;have fT:=zIy hT l;have hu:T.unlink l=if (T.entry l).2.2.2≠0 then (T,(T.entry l).2.2.2) else if T.isDir (T.entry l).2.2.1=true then (T,102) else ((T.clr (T.entry l).1 (T.entry l).2.1).less (T.entry l).2.2.1,0):=rfl;have fU:=zB4 hx;generalize T.entry l=r at *;obtain⟨d,nm,i,e⟩:=r;simp only at fA fJ fT hu;have hH:=hid h;have fP:=hid hT;have fC:=hid hT.ok;clear h hs hx;generalize l.length=len at *;unfold zAW at fA;go_enter Tryz.func69,Tryz.ntmps69;by_cases he:e=0
 · subst he;obtain⟨n,m,hn,hd,fQ,hm,rfl⟩:=fJ rfl;rw [if_neg (by simp)] at hu;have fK:=zAn hm;have fF:=hid hm;have fG:=hid hn;have fL:=hid fQ;have fR:=hid hd;clear fJ hT hd fQ hm hn
   cases fD:m.dir with
   | true =>
    rw [fK,fD,if_pos rfl] at hu;have fE:=hid hu;have fH:=hid fD;clear hu fK fD;go_wp2_with (first | (go_at_call 100;refine fA.mono ?_;rintro e w1 ⟨rfl,fI⟩;have fB:=hH.out.fresh fI;have c2:=fB.c2;have fV:=fB.lookI fF.out (by omega);have k0:=(fB.get fF.out).c0;rw [zA1 fH.out] at k0;clear fB));go_ret;refine⟨by rw [fE.out];rfl,?_⟩;rw [fE.out];exact .same hH.out fI
   | false =>
    rw [fK,fD,if_neg (by simp)] at hu;have fE:=hid hu;have fH:=hid fD
    have hiD:i≠d:=fun e=>by
     subst e;have:=fF.out.symm.trans fG.out;have:=Option.some.inj this;rw [this,fR.out] at fD;cases fD
    clear hu fK fD;obtain⟨k,hk⟩:=fP.out.slotn d n (zAL l) i fG.out fL.out;have fW:=hid hk;clear hk;have fM:=hid hiD;clear hiD
    go_wp2_with (first
     | (go_at_call 100;refine fA.mono ?_;rintro e w1 ⟨rfl,fI⟩;have fB:=hH.out.fresh fI;have c2:=fB.c2;have fV:=fB.lookI fF.out (by omega);have fX:=fB.lookI fG.out (by omega);have k0:=(fB.get fF.out).c0;rw [zAz fH.out] at k0;have fN:=hid fB;clear fB)
     | (go_at_call 101;refine (zBk fN.out fC.out fG.out fR.out fW.out fU).mono ?_;rintro e w2 ⟨rfl,fS,fY⟩;have fO:=hid fS;clear fS)
     | (go_at_call 102;refine (zDF own lay p mb i (T.upd d (n.clear (zAL l))) m w2 fO.out (fC.out.upd ((fC.out.get fG.out).1.clear _) (fC.out.get fG.out).2) ((zAm _ fM.out).trans fF.out) (fP.out.lnk _ _ fF.out)).mono ?_;rintro e w3 ⟨rfl,fZ⟩))
    go_ret;refine⟨by rw [fE.out];rfl,?_⟩;rw [fE.out,zCt fG.out];exact zAS.fst (own1:=own) (Ext.refl _ _) ((Chg.of_fresh fI).trans fY (fun _ _ h=>h) (fun _ _ h=>h)) fZ
 · rw [if_pos he] at hu
   have gA:((e:Int) != 0)=true:=by simp;omega
   have fE:=hid hu;clear hu fJ he;go_wp2_with (first | (go_at_call 100;refine fA.mono ?_;rintro e w1 ⟨rfl,fI⟩));go_ret;refine⟨by rw [fE.out];rfl,?_⟩;rw [fE.out];exact .same hH.out fI
theorem zJM (own:Nat→Option Role) (lay:Nat→NA) (p mb:Nat) (T:PT) (B:Nat) (A:Option Addr) (c:Nat) (l:List ByteArray) (w:World) (h:PlainAt w own lay p mb T) (hT:T.Wf)
 (hs:Sees w B 1 A l.length (strs l)) (hl:l.length≤1000000) (hc:l.length≤c) (hx:∀ x∈l,x.size≤1000000) :
 Calls Tryz.prog 70 #[.pointer (some ⟨p,0,none⟩),.slice A l.length c] w fun e w'=>e=.returned (zAW (T.rmdir l).2)∧zAS own p mb (T.rmdir l).1 w w':=by
 have fB:=zFm own lay p mb T B A c l w h hT hs hl hc hx;have fP:=zDE hT l;have fZ:=zIy hT l;have hu:T.rmdir l=if (T.entry l).2.2.2≠0 then (T,(T.entry l).2.2.2) else if T.isDir (T.entry l).2.2.1=false then (T,113) else if 0<(T.node (T.entry l).2.2.1).names.length then (T,140) else ((T.clr (T.entry l).1 (T.entry l).2.1).less (T.entry l).2.2.1,0):=rfl;have gA:=zB4 hx;generalize T.entry l=r at *;obtain⟨d,nm,i,e⟩:=r;simp only at fB fP fZ hu;have hH:=hid h;have fQ:=hid hT;have fH:=hid hT.ok;clear h hs hx;generalize l.length=len at *;unfold zAW at fB;go_enter Tryz.func70,Tryz.ntmps70;by_cases he:e=0
 · subst he;obtain⟨n,m,hn,hd,fV,hm,rfl⟩:=fP rfl;rw [if_neg (by simp)] at hu;have fM:=zAn hm;have fC:=hid hm;have fI:=hid hn;have fN:=hid fV;have gB:=hid hd;clear fP hT hd fV hm hn
   cases fJ:m.dir with
   | false =>
    rw [fM,fJ,if_pos rfl] at hu;have fF:=hid hu;have fE:=hid fJ;clear hu fM fJ;go_wp2_with (first | (go_at_call 100;refine fB.mono ?_;rintro e w1 ⟨rfl,fG⟩;have fA:=hH.out.fresh fG;have c2:=fA.c2;have fW:=fA.lookI fC.out (by omega);have k0:=(fA.get fC.out).c0;rw [zAz fE.out] at k0;clear fA));go_ret;refine⟨by rw [fF.out];rfl,?_⟩;rw [fF.out];exact .same hH.out fG
   | true =>
    rw [fM,fJ,if_neg (by simp),zAp fC.out] at hu;have fE:=hid fJ;obtain⟨rk,fX⟩:=fQ.out.rank
    have hiD:i≠d:=fun e=>by
     subst e;have:=fX i n (zAL l) i fI.out fN.out (by rw [fM,fJ]);omega
    clear fM fJ fX;obtain⟨k,hk⟩:=fQ.out.slotn d n (zAL l) i fI.out fN.out;have gC:=hid hk;clear hk;have fR:=hid hiD;clear hiD;obtain⟨nl,fS⟩:∃ nl,m.names.length=nl:=⟨_,rfl⟩;have fO:=hid fS;rw [fS] at hu;clear fS;by_cases h0:0<nl
    · rw [if_pos h0] at hu;have fF:=hid hu
      have gD:decide (0<nl)=true:=by simpa using h0
      clear hu
      go_wp2_with (first
       | (go_at_call 100;refine fB.mono ?_;rintro e w1 ⟨rfl,fG⟩;have fA:=hH.out.fresh fG;have c2:=fA.c2;have fW:=fA.lookI fC.out (by omega);have k0:=(fA.get fC.out).c0;rw [zA1 fE.out] at k0;obtain⟨nbm,fD⟩:=(fA.get fC.out).dirs fE.out;have k6:=(fA.get fC.out).c6;rw [fD] at k6;have fK:=(fA.get fC.out).names;rw [fD] at fK;have fL:=hid fK;clear fA fK fD)
       | (at_len;refine zCE _ rfl _ 101 rfl Tryz.underlying101 (fL.out:zAy _ zA6 zAW 9 nbm m.names) rfl nl fO.out ?_))
      go_ret;refine⟨by rw [fF.out];rfl,?_⟩;rw [fF.out];exact .same hH.out fG
    · rw [if_neg h0] at hu;have fF:=hid hu
      have gD:decide (0<nl)=false:=by simpa using h0
      clear hu
      go_wp2_with (first
       | (go_at_call 100;refine fB.mono ?_;rintro e w1 ⟨rfl,fG⟩;have fA:=hH.out.fresh fG;have c2:=fA.c2;have fW:=fA.lookI fC.out (by omega);have gE:=fA.lookI fI.out (by omega);have k0:=(fA.get fC.out).c0;rw [zA1 fE.out] at k0;obtain⟨nbm,fD⟩:=(fA.get fC.out).dirs fE.out;have k6:=(fA.get fC.out).c6;rw [fD] at k6;have fK:=(fA.get fC.out).names;rw [fD] at fK;have fL:=hid fK;have fT:=hid fA;clear fA fK fD)
       | (at_len;refine zCE _ rfl _ 101 rfl Tryz.underlying101 (fL.out:zAy _ zA6 zAW 9 nbm m.names) rfl nl fO.out ?_)
       | (go_at_call 101;refine (zBk fT.out fH.out fI.out gB.out gC.out gA).mono ?_;rintro e w2 ⟨rfl,fY,gF⟩;have fU:=hid fY;clear fY)
       | (go_at_call 102;refine (zDF own lay p mb i (T.upd d (n.clear (zAL l))) m w2 fU.out (fH.out.upd ((fH.out.get fI.out).1.clear _) (fH.out.get fI.out).2) ((zAm _ fR.out).trans fC.out) (fQ.out.lnk _ _ fC.out)).mono ?_;rintro e w3 ⟨rfl,gG⟩))
      go_ret;refine⟨by rw [fF.out];rfl,?_⟩;rw [fF.out,zCt fI.out];exact zAS.fst (own1:=own) (Ext.refl _ _) ((Chg.of_fresh fG).trans gF (fun _ _ h=>h) (fun _ _ h=>h)) gG
 · rw [if_pos he] at hu
   have gH:((e:Int) != 0)=true:=by simp;omega
   have fF:=hid hu;clear hu fP he;go_wp2_with (first | (go_at_call 100;refine fB.mono ?_;rintro e w1 ⟨rfl,fG⟩));go_ret;refine⟨by rw [fF.out];rfl,?_⟩;rw [fF.out];exact .same hH.out fG
end Go.Proofs.YtolpcfhfcdkokaaGreatDoor
