/- Joined out of PNew..TPath. -/
import Derived.Test.YtolpcfhfcdkokaaGreatDoorR10
import Derived.Test.YtolpcfhfcdkokaaGreatDoorR11
set_option maxHeartbeats 16000000
set_option maxRecDepth 100000
set_option linter.unusedSimpArgs false
set_option linter.unusedVariables false
namespace Go.Proofs.YtolpcfhfcdkokaaGreatDoor
open Lib (hid)
open Chg renaming refl → Aa
open Blk renaming new → Ab
open Proofs.Tryz renaming prog → Ac,underlying28 → Ad,underlying123 → Ae,underlying187 → Af,zeroCells187 → Ag,underlying92 → Ah,underlying121 → Ai
open Nat renaming le_of_lt → Aj,lt_of_lt_of_le → Ak,le_refl → Al,zero_le → Am
open Option.some renaming inj → An
open Code renaming wp → Ao
open Go renaming wpList_store_row → Ap,wp_load_row → Aq,wpList_load_row → Ar
open World renaming block_lt_of_cell? → As
open List renaming ext_getElem → At,getElem_map → Au,getElem_range → Av,getElem?_eq_getElem → Aw,getD_eq_getElem?_getD → Ax,length_append → Ay,getElem?_cons_succ → Az,getElem?_cons_zero → AA,length_map → AB,size_toArray → AC,getElem?_eq_none → AD
open Bool renaming and_eq_true → AE,or_false → AF
open Sees renaming of_own → AG
open Value renaming ownBlock → AH,slice → AI
open UInt8 renaming toNat_inj → AJ
open _root_.Array renaming length_toList → AK
open Go.RowKit Go.Proofs
def zFn (z p:Nat):Nat→Option Role:=fun b=>if b=p then some .top else if b=z then some .nodes else if b=z+1 then some (.names 1) else if b=z+2 then some (.node 1) else none
def newLay (z:Nat):Nat→NA:=fun _=>⟨z+2,none,zAj,some (z+1)⟩
def NewP (n m:Nat) (w:World) (e:Ending) (w':World):Prop :=
 ∃ own lay p mb,e=.returned (.tuple #[zCq p,.int .i64 0])∧PlainAt w' own lay p mb (PT.new n m)∧(∀ b,b<w.heap.size→own b=none)∧Below w.heap.size w w'
theorem new_done {n m z:Nat} {w w4:World} (hz:z=w.heap.size) (hb:Below z w w4) (hN:Blk w4 (z+2) 110 [.int .i64 2,.int .i64 1,.int .i64 0,.int .i64 0,.map none,zAj,.map (some (z+1))])
 (fB:zAt w4 zAV zAS 9 (z+1) ([]:List (ByteArray×Nat))) (hm:zAt w4 zAG zCq 3 z [(1,z+2)]) :
 NewP n m w (.returned (.tuple #[.pointer (some ⟨w4.heap.size,0,none⟩),.int .i64 0])) (w4.alloc (.cells #[.int .i64 (n:Int),.int .i64 (m:Int),.map (some z)] 98)):=by
 have fC:z+3≤w4.heap.size:=hN.lt;have hC:Chg (fun _=>False) w4 (w4.alloc (.cells #[.int .i64 (n:Int),.int .i64 (m:Int),.map (some z)] 98)):=(Aa _ w4).alloc _
 have fA:∀ b,b<w4.heap.size→zFn z w4.heap.size b=if b=z then some .nodes else if b=z+1 then some (.names 1) else if b=z+2 then some (.node 1) else none:=fun b hb=>by
  unfold zFn;rw [if_neg (by omega)]
 refine⟨zFn z w4.heap.size,newLay z,w4.heap.size,z,rfl,⟨Ab w4 _ _,?_,?_,?_,fun x hx=>?_,fun x hx=>?_,fun b r e=>?_⟩,fun b hb=>?_,hb.trans ((Below.refl w4.heap.size w4).alloc nr _ |>.mono (by omega)) |> fun h=>by rw [hz] at h;exact h⟩
 · unfold zFn;rw [if_pos rfl]
 · rw [fA z (by omega),if_pos rfl]
 · exact hm.chg hC id
 · have:x=(1,⟨true,1,0,0,[],[],[]⟩):=by simpa [PT.new] using hx
   subst this;refine⟨hN.chg hC id,rfl,World.ownsRow_nil _ _ _ _,fB.chg hC id,fun _=>⟨_,rfl⟩,fun e=>(by cases e)⟩
 · have:x=(1,⟨true,1,0,0,[],[],[]⟩):=by simpa [PT.new] using hx
   subst this;refine⟨?_,fun b e=>(by cases e),fun b e=>(by cases e),fun b e=>?_⟩
   · show zFn z w4.heap.size (z+2)=_
     rw [fA _ (by omega),if_neg (by omega),if_neg (by omega),if_pos rfl]
   · have e:some (z+1)=some b:=e;injection e with e;subst e;rw [fA _ (by omega),if_neg (by omega),if_pos rfl]
 · have hs:(w4.alloc (.cells #[.int .i64 (n:Int),.int .i64 (m:Int),.map (some z)] 98)).heap.size=w4.heap.size+1:=by simp
   rw [hs];unfold zFn at e
   split at e
   · omega
   split at e
   · omega
   split at e
   · omega
   split at e
   · omega
   · cases e
 · rw [fA b (by omega),if_neg (by omega),if_neg (by omega),if_neg (by omega)]
theorem pnew_any (n m:Nat) (w:World) (hn:8≤n∧n≤4096) (hm:1≤m∧m≤512) (fI:m+2≤n):Calls Ac 23 #[.int .i64 (n:Int),.int .i64 (m:Int)] w (NewP n m w):=by
 have fJ:=@run_makeMap Ac;obtain⟨Q,hQ⟩:=nM (NewP n m w);rw [hQ];have fC:=hid hQ;clear hQ;go_enter Tryz.func23,Tryz.ntmps23
 have t1:decide ((n:Int)<8)=false:=by simp;omega
 have t2:decide (4096<(n:Int))=false:=by simp;omega
 have t3:decide ((m:Int)<1)=false:=by simp;omega
 have t4:decide (512<(m:Int))=false:=by simp;omega
 have t5:decide ((n:Int)<(m:Int)+2)=false:=by simp;omega
 go_upto_region 3 with (fail);clear t1 t2 t3 t4 t5;have h1:zAt ((w.alloc (.map #[] 0)).alloc (.map #[] 0)) zAG zCq 3 w.heap.size []:=(zAt.made w zAG zCq 3).chg ((Aa (fun _=>False) _).alloc _) id
 have h2:zAt ((w.alloc (.map #[] 0)).alloc (.map #[] 0)) zAV zAS 9 (w.heap.size+1) ([]:List (ByteArray×Nat)):=by
  have:=zAt.made (w.alloc (.map #[] 0)) zAV zAS 9;simpa using this
 have h3:Blk (((w.alloc (.map #[] 0)).alloc (.map #[] 0)).alloc (.cells [.int .i64 2,.int .i64 1,.int .i64 0,.int .i64 0,.map none,zAj,.map (some (w.heap.size+1))].toArray 110)) (w.heap.size+2) 110 [.int .i64 2,.int .i64 1,.int .i64 0,.int .i64 0,.map none,zAj,.map (some (w.heap.size+1))]:=by
  have:=Ab ((w.alloc (.map #[] 0)).alloc (.map #[] 0)) 110 [.int .i64 2,.int .i64 1,.int .i64 0,.int .i64 0,.map none,zAj,.map (some (w.heap.size+1))];simpa using this
 have fA:=(Aa (fun _=>False) ((w.alloc (.map #[] 0)).alloc (.map #[] 0))).alloc (.cells [.int .i64 2,.int .i64 1,.int .i64 0,.int .i64 0,.map none,zAj,.map (some (w.heap.size+1))].toArray 110);have fD:=h1.chg fA id;have fE:=h2.chg fA id;have fF:Below w.heap.size w (((w.alloc (.map #[] 0)).alloc (.map #[] 0)).alloc (.cells [.int .i64 2,.int .i64 1,.int .i64 0,.int .i64 0,.map none,zAj,.map (some (w.heap.size+1))].toArray 110)):=((br.alloc nr _).alloc (by simp) _).alloc (by simp;omega) _;clear fA h1 h2
 go_wp2_with (first
  | (refine zAZ _ rfl _ _ _ 96 (.inr rfl) zD3 Tryz.underlying96 fD (by simp [maxLen]) rfl 1 rfl (zHW 1 (by omega)) (w.heap.size+2) rfl ?_;intro w4 fG fH;have fB:=zAP fH))
 rw [←fC.o];exact new_done rfl (fF.trans (fB.below (Aj (Nat.lt_of_le_of_lt (Nat.le_add_right _ 2) h3.lt)) fun b hb e=>by omega)) (h3.chg fB (by omega)) (fE.chg fB (by omega)) fG
theorem ren_src {T:PT} (hT:T.Inv) {d o i k:Nat} {n1 n2:PN} {old nm:ByteArray} (h1:zAe d T.nodes=some n1) (fC:n1.dir=true) (h2:zAe o T.nodes=some n2) (fE:n2.dir=true) (hg:zAe old n1.names=some i) (fF:¬(d=o∧old=nm)) (hf:n2.Fit k nm) (hc:chk nm=true) :
 (T.upd o (n2.set k nm i)).Ok∧∃ n' q,zAe d (T.upd o (n2.set k nm i)).nodes=some n'∧n'.dir=true∧zAe old n'.names=some i∧zAh old n'.slots=some q∧(T.ins o k nm i).clr d old=(T.upd o (n2.set k nm i)).upd d (n'.clear old)∧((T.upd o (n2.set k nm i)).upd d (n'.clear old)).Ok:=by
 obtain⟨m,hm⟩:=hT.gr.ents d n1 old i h1 hg;have hi:=hT.gr.ok.get hm;have fB:(T.upd o (n2.set k nm i)).Ok:=hT.gr.ok.upd (zCs hT.wf h2 fE hf (zCX hc) (by have:=hT.gr.ok.ino;omega)) (hT.gr.ok.get h2).2;obtain⟨q,hq⟩:=hT.gr.slotn d n1 old i h1 hg;have fG:old≠emp:=zIy hT.wf h1 hg;refine⟨fB,?_⟩;rw [zCl h2];by_cases e:d=o
 · subst e;rw [h1] at h2;obtain rfl:=An h2;have fD:old≠nm:=fun e=>fF ⟨rfl,e⟩;have fA:=zA6 (T:=T) d (n1.set k nm i);refine⟨n1.set k nm i,q,fA,fC,?_,zC4 hf (Ne.symm fD) fG hq,zCt fA,fB.upd ((fB.get fA).1.clear old) (fB.get fA).2⟩
   show zAe old (zA2 zAV nm i n1.names)=some i
   rw [zAi zAV _ fD];exact hg
 · have fA:=(zAl (T:=T) (n2.set k nm i) e).trans h1;exact⟨n1,q,fA,fC,hg,hq,zCt fA,fB.upd ((fB.get fA).1.clear old) (fB.get fA).2⟩
theorem zG6 (S:Nat→Prop) (t:Tr) (T:PT) (A:Option Addr) (c:Nat) (l:List ByteArray) (A2:Option Addr) (c2:Nat) (l2:List ByteArray) (w:World) (h:RefS S w t T) (hS:∀ b,S b→b<w.heap.size) (hT:T.Inv)
 (hl:NmAt w w.heap.size A c l) (hc:∀ x∈l,chk x=true) (mH:NmAt w w.heap.size A2 c2 l2) (lI:∀ x∈l2,chk x=true) :
 Calls Ac 79 #[.agg (zAa t).toArray,.slice A l.length c,.slice A2 l2.length c2] w (zIo S (T.rename l l2) w):=by
 obtain⟨lk,kS⟩:=nM (T.rename l l2);rw [kS];obtain⟨Q,hQ⟩:=nM (zIo S lk w);rw [hQ];obtain⟨g,hz⟩:=nM (w.heap.size);have fP:=hid (zBP h hz 2);have jF:=hid (inS (k:=2) hS hz);have kT:=hid fun (j:Nat) (n:PN) (hg:zAe j T.nodes=some n)=>zDO h hz 2 hT.gr.ok hg;have jB:=hid fun W (hb:Below g w W)=>zCT t T A c l W (zBP h hz 2 W hb).ref hT.wf (hl.fresh (hz.symm▸hb)) fun x hx=>zBl (hc x hx);have jC:=hid fun W (hb:Below g w W)=>zCT t T A2 c2 l2 W (zBP h hz 2 W hb).ref hT.wf (mH.fresh (hz.symm▸hb)) fun x hx=>zBl (lI x hx);have jG:=hid fun h=>zCv (T:=T) (m:=l) h hc;have lJ:=hid fun h=>zCv (T:=T) (m:=l2) h lI;have jH:=hid (zBu hT.wf l);have jI:=hid (zBu hT.wf l2);rw [PT.rename.eq_1 T l l2] at kS;have hu:=hid kS.symm;have jD:=st_0 w t;rw [hz] at jD;unfold zJ9 at jB jC;rw [show trV t=.agg (zAa t).toArray from rfl] at jB jC;have fS:=hid hT;have fT:=hid hQ;clear kS hQ h hS hT hl hc mH lI;generalize T.last l=r1 at *;generalize T.last l2=r2 at *;obtain⟨d,e1⟩:=r1;obtain⟨o,e2⟩:=r2;generalize zAM l=old at *;generalize zAM l2=nm at *;generalize l.length=n1 at *;generalize l2.length=n2 at *;simp only at jB jC jG lJ jH jI hu;have fU:=hid hz;go_enter Tryz.func79,Tryz.ntmps79;go_upto_region 1 with (fail)
 try simp only [hz]
 change Ao _ _ _ _ ((w.alloc (.cells (zAa t).toArray 28)).alloc (.cells z4.toArray 28));generalize (w.alloc (.cells (zAa t).toArray 28)).alloc (.cells z4.toArray 28)=w0 at *;clear hz;by_cases h1:e1=0;rotate_left
 · have kA:((e1:Int) != 0)=true:=by simp;omega
   simp only [if_neg h1] at jB
   go_wp2_with (first
    | (refine ldT jD.tb rfl rfl rfl ?_)
    | (go_at_call 109;(with_reducible refine (jB.o w0 jD.bl).mono ?_);rintro e w1 ⟨rfl,kU⟩;have gC:=jD.fresh kU)
    | (refine ldT gC.tb rfl rfl rfl ?_)
    | (refine stT t gC.rb rfl rfl rfl (by rfl) rfl ?_))
   exact zAA gC.rb fT.o (by rw [hu.o,if_pos h1]) (fP.o _ gC.bl) gC.bl fU.o ⟨by omega,by omega⟩ rfl rfl rfl rfl
 subst h1;simp only [if_true] at jB
 go_upto_region 4 with (first
  | (refine ldT jD.tb rfl rfl rfl ?_)
  | (go_at_call 109;(with_reducible refine (jB.o w0 jD.bl).mono ?_);rintro e w1 ⟨rfl,kU⟩;have gC:=jD.fresh kU))
 clear jD kU jB;by_cases h2:e2=0;rotate_left
 · have kA:((e2:Int) != 0)=true:=by simp;omega
   simp only [if_neg h2] at jC
   go_wp2_with (first
    | (refine ldT gC.tb rfl rfl rfl ?_)
    | (go_at_call 109;(with_reducible refine (jC.o w1 gC.bl).mono ?_);rintro e w2 ⟨rfl,kV⟩;have gD:=gC.fresh kV)
    | (refine ldT gD.tb rfl rfl rfl ?_)
    | (refine stT t gD.rb rfl rfl rfl (by rfl) rfl ?_))
   exact zAA gD.rb fT.o (by rw [hu.o,if_neg (by simp),if_pos h2]) (fP.o _ gD.bl) gD.bl fU.o ⟨by omega,by omega⟩ rfl rfl rfl rfl
 subst h2;simp only [if_true] at jC
 go_upto_region 7 with (first
  | (refine ldT gC.tb rfl rfl rfl ?_)
  | (go_at_call 109;(with_reducible refine (jC.o w1 gC.bl).mono ?_);rintro e w2 ⟨rfl,kV⟩;have gD:=gC.fresh kV))
 clear gC kV jC;obtain⟨m1,gT,jV⟩:=jH.o (by trivial);obtain⟨m2,jE,jW⟩:=jI.o (by trivial);have gH:=jG.o (by trivial);have jX:=lJ.o (by trivial);have fA:=hu.o;rw [if_neg (by simp),if_neg (by simp),zAn gT,zAn jE] at fA;have gU:=(fS.o.gr.ok.get gT).1;have gI:=(fS.o.gr.ok.get jE).1;obtain⟨x1,-,-,kC⟩:=kT.o d m1 gT;obtain⟨x2,-,-,kD⟩:=kT.o o m2 jE;have jJ:=hid kC;have jK:=hid kD;clear hu jH jI jG lJ
 cases gR:zAe old m1.names with
 | none =>
  have jY:=hid fun W (hb:Below g w W)=>zF4 (kC W hb).1 gU jV (zBl gH) gR;rw [gR] at fA;have fK:=hid fA;clear kC kD fA gR gU gI gT jE jV jW jX gH;simp only [hdV] at jY
  go_wp2_with (first
   | (refine ldT gD.tb rfl rfl rfl ?_)
   | (go_at_call 81;(with_reducible refine ((jJ.o w2 gD.bl).2).mono ?_);rintro e w3 ⟨rfl,kW⟩;have jZ:=gD.fresh kW)
   | (go_at_call 110;(with_reducible refine ((jY.o w3 jZ.bl)).mono ?_);rintro e w4 ⟨rfl,kX⟩;have fV:=jZ.fresh kX)
   | (refine ldT fV.tb rfl rfl rfl ?_)
   | (refine stT t fV.rb rfl rfl rfl (by rfl) rfl ?_))
  exact zAA fV.rb fT.o (by rw [fK.o]) (fP.o _ fV.bl) fV.bl fU.o ⟨by omega,by omega⟩ rfl rfl rfl rfl
 | some i =>
  obtain⟨mi,jL⟩:=fS.o.gr.ents d m1 old i gT gR;obtain⟨kp,mI⟩:=fS.o.gr.slotn d m1 old i gT gR;obtain⟨xi,mJ,lK,mK⟩:=kT.o i mi jL;have jY:=hid fun W (hb:Below g w W)=>zDK (kC W hb).1 gU jV (zBl gH) gR mI;rw [gR] at fA;simp only at fA;rw [zAm jL,zAn jL] at fA;have lL:=hid mK;have lM:=(fS.o.gr.ok.get jL).2;have mL:=(fS.o.gr.ok.get jL).1.links;have kE:=hid fun (k:Nat) (kA:¬(d=o∧old=nm)) (hf:m2.Fit k nm)=>ren_src fS.o gT jV jE jW gR kA hf jX
  have kF:xi.kind=2∧mi.dir=true∨xi.kind=1∧mi.dir=false:=by rw [mJ];unfold PN.kind;cases mi.dir<;>simp
  have lN:=hid gT;have gV:=hid jE;have lO:=hid jL;have lP:=hid jV;have gW:=hid jW;have mY:=hid gR;have jM:=hid jX;have gJ:=hid gH;have gK:=hid gI;simp only [hdV] at jY;clear kC mK gR gU gT mI gH jV jL mJ
  go_upto_region 10 with (first
   | (refine ldT gD.tb rfl rfl rfl ?_)
   | (go_at_call 81;(with_reducible refine ((jJ.o w2 gD.bl).2).mono ?_);rintro e w3 ⟨rfl,kW⟩;have jZ:=gD.fresh kW)
   | (go_at_call 110;(with_reducible refine ((jY.o w3 jZ.bl)).mono ?_);rintro e w4 ⟨rfl,kX⟩;have fV:=jZ.fresh kX))
  clear gD jZ kW kX jY jJ
  have oH:decide ((0:Int) > (kp:Int))=false:=by simp
  by_cases fM:d=o∧old=nm
  · obtain⟨rfl,rfl⟩:=fM;rw [if_pos ⟨rfl,rfl⟩] at fA;have fK:=hid fA
    have kY:((d:Int)==(d:Int))=true:=by simp
    have kG:(old.toList==old.toList)=true:=by simp
    clear fA kD jE jW jX gI
    go_wp2_with (first
     | (refine ldT fV.tb rfl rfl rfl ?_)
     | (refine stT t fV.rb rfl rfl rfl (by rfl) rfl ?_))
    exact zAA fV.rb fT.o (by rw [fK.o]) (fP.o _ fV.bl) fV.bl fU.o ⟨by omega,by omega⟩ rfl rfl rfl rfl
  rw [if_neg fM] at fA;have mZ:=hid fM
  have kI:d≠o∨(d=o∧(old.toList==nm.toList)=false):=by
   by_cases e:d=o
   · exact .inr ⟨e,by simpa using fun h=>fM ⟨e,zC2.1 h⟩⟩
   · exact .inl e
  clear fM
  go_cut [63] from 56 to 63 (fun v wx=>v=.bool false∧wx=w4)
  case first =>
   rcases kI with hdo | ⟨hdo,kG⟩
   · have kY:((d:Int)==(o:Int))=false:=by simp;omega
     go_wp2;go_meet;exact⟨rfl,rfl⟩
   · have kY:((d:Int)==(o:Int))=true:=by simp;omega
     have oA:¬old.toList=nm.toList:=by simpa using kG
     go_wp2;go_meet;exact⟨rfl,rfl⟩
  case rest =>
   obtain⟨rfl,mM⟩:=hcut;have lQ:=mM.symm;subst lQ;clear mM;have jN:=hid fun W (hb:Below g w W)=>zDS (kD W hb).1 gI jW (zBl jX);simp only [hdV] at jN;clear kD jE jW jX gI kI
   go_upto_region 13 with (first
    | (refine ldT fV.tb rfl rfl rfl ?_)
    | (go_at_call 81;(with_reducible refine ((jK.o w4 fV.bl).2).mono ?_);rintro e w5 ⟨rfl,mN⟩;have lR:=fV.fresh mN)
    | (go_at_call 110;(with_reducible refine ((jN.o w5 lR.bl)).mono ?_);rintro e w6 hf;obtain⟨kk,jj,rfl,lS,kZ⟩:=hf.uni;have lA:=lR.fresh kZ;clear hf))
   clear fV lR mN kZ jN
   go_upto_region 14 with (first
    | (refine ldT lA.tb rfl rfl rfl ?_)
    | (go_at_call 81;(with_reducible refine ((lL.o w6 lA.bl).2).mono ?_);rintro e w7 ⟨rfl,mO⟩;have mP:=lA.fresh mO)
    | (refine Ap rfl 123 _ _ rfl w7.heap.size (zAb xi).toArray rfl (by rfl) 123 _ (Ab w7 123 z8) rfl rfl (zHb xi) ?_))
   obtain⟨hX,fD⟩:=mP.held xi;change Ao _ _ _ _ ((w7.alloc (.cells z8.toArray 123)).setRow w7.heap.size (zAb xi).toArray);clear lA mO mP;generalize (w7.alloc (.cells z8.toArray 123)).setRow w7.heap.size (zAb xi).toArray=w8 at *;generalize w7.heap.size=y at *;have oI:=fD.le;obtain⟨b0,b1,b2,b3,b4,b5,b6,b7⟩:=zAN hX;rw [lK] at b2;have gL:=hid fun (k:Nat)=>kE.o k mZ.o;clear hX kE;rcases kF with ⟨kF,lB⟩ | ⟨kF,lB⟩
   · rw [kF] at b1;rw [if_pos lB] at fA;rcases lS.o with ⟨j,kj,gG,hkj,rfl,rfl⟩ | ⟨gG,rfl,rfl⟩
     · have fK:Hid (lk=(T,111)):=hid (by rw [fA,gG];rfl)
       have oB:decide ((kj:Int)≥0)=true:=by simp
       clear fA
       go_wp2_with (first
        | (refine ldT fD.tb rfl rfl rfl ?_)
        | (refine stT t fD.rb rfl rfl rfl (by rfl) rfl ?_))
       exact zAA fD.rb fT.o (by exact fK.o) (fP.o _ fD.bl) fD.bl fU.o ⟨by omega,by omega⟩ rfl rfl rfl rfl
     have jO:=hid gG;rw [gG,if_neg (by simp)] at fA;obtain⟨rk,oC⟩:=fS.o.gr.rank;have gX:=hid (zKa t T fS.o.wf rk oC _ (fun j hj=>T.rk_le rk hj) o ((T.nodes.map fun p=>rk p.1).sum+1) i w8 (by rw [zAm lO.o];exact lB) (by omega) ((fP.o w8 fD.bl).mono fun _ h=>h.elim));unfold UndP at gX;simp only [trV] at gX;by_cases hU:T.Und o i
     · rw [if_pos hU] at fA;have fK:=hid fA;have lT:∀ b:Bool,(b=true↔T.Und o i)→b=true:=fun b hb=>hb.2 hU;clear fA hU
       go_wp2_with (first
        | (refine ldT fD.tb rfl rfl rfl ?_)
        | (go_at_call 116;(with_reducible refine (gX.o).mono ?_);rintro e w9 ⟨⟨b,rfl,kJ⟩,fQ⟩;obtain rfl:b=true:=lT b kJ;clear kJ;have fC:=fD.fresh fQ)
        | (refine ldT fC.tb rfl rfl rfl ?_)
        | (refine stT t fC.rb rfl rfl rfl (by rfl) rfl ?_))
       exact zAA fC.rb fT.o (by exact fK.o) (fP.o _ fC.bl) fC.bl fU.o ⟨by omega,by omega⟩ rfl rfl rfl rfl
     rw [if_neg hU] at fA
     have lT:∀ b:Bool,(b=true↔T.Und o i)→b=false:=fun b hb=>by
      cases b
      · rfl
      · exact absurd (hb.1 rfl) hU
     have fN:=fA;clear hU fA
     go_upto_region 19 with (first
      | (refine ldT fD.tb rfl rfl rfl ?_)
      | (go_at_call 116;(with_reducible refine (gX.o).mono ?_);rintro e w9 ⟨⟨b,rfl,kJ⟩,fQ⟩;obtain rfl:b=false:=lT b kJ;clear kJ;have fC:=fD.fresh fQ))
     have fE:=hid (zJA w9 (fP.o w9 fC.bl) (jF.o w9 fC.le) fS.o gV.o gW.o lM jM.o jO.o);obtain⟨pl,jP⟩:=nM (T.place m2);obtain⟨k,c7⟩:=pl;unfold PutP at fE;rw [jP] at fE fN;simp only at fE fN;have gM:=hid jP;clear jP;by_cases h7:c7=0;rotate_left
     · have kA:((c7:Int) != 0)=true:=by simp;omega
       rw [if_pos h7] at fN;have jQ:=hid fN;clear fN
       go_wp2_with (first
        | (refine ldT fC.tb rfl rfl rfl ?_)
        | (go_at_call 112;(with_reducible refine (fE.o).mono ?_);rintro e w10 ⟨⟨t7,rfl,kK⟩,fW⟩;have fB:=fC.fresh fW)
        | (refine stT t7 (Ab w10 28 z4) rfl rfl rfl (by rfl) rfl ?_)
        | (refine ldT ((fB.fresh (zAL w10 t7).2).tb) rfl rfl rfl ?_)
        | (refine stT t ((fB.fresh (zAL w10 t7).2).rb) rfl rfl rfl (by rfl) rfl ?_))
       exact zAA (fB.fresh (zAL w10 t7).2).rb fT.o jQ.o (fP.o _ (fB.fresh (zAL w10 t7).2).bl) (fB.fresh (zAL w10 t7).2).bl fU.o ⟨by omega,by omega⟩ rfl rfl rfl rfl
     subst h7
     have fO:m2.Fit k nm:=by
      have:=zBs (T:=T) (nm:=nm) gK.o (by rw [gM.o]);rw [gM.o] at this;exact this
     obtain⟨fJ,n',q,s1,s2,s3,s4,s5,fF⟩:=gL.o k fO;rw [if_neg (by simp),s5] at fN;have gS:=hid fun t7 W (hb:RefS (zAJ S g 2) W t7 (T.upd o (m2.set k nm i))) (hk:g+2≤W.heap.size)=>zCd (zAJ S g 2) t7 (T.upd o (m2.set k nm i)) d n' old W hb (jF.o W hk) fJ s1 s2 (zBl gJ.o) s3 s4;have jQ:=hid fN;simp only [if_true] at fE;clear fN s1 s2 s3 s4 s5 fJ fF fO;simp only [trV] at gS
     go_wp2_with (first
      | (refine ldT fC.tb rfl rfl rfl ?_)
      | (go_at_call 112;(with_reducible refine (fE.o).mono ?_);rintro e w10 ⟨⟨t7,rfl,kK⟩,fW⟩;have fB:=fC.fresh fW)
      | (refine stT t7 (Ab w10 28 z4) rfl rfl rfl (by rfl) rfl ?_)
      | (refine ldT ((zAL w10 t7).1) rfl rfl rfl ?_)
      | (go_at_call 114;(with_reducible refine ((gS.o t7 _ (kK.fresh (zAL w10 t7).2) (fB.fresh (zAL w10 t7).2).le)).mono ?_);rintro e w11 ⟨⟨t8,rfl,lU⟩,gN⟩;have fH:=(fB.fresh (zAL w10 t7).2).fresh gN)
      | (refine stT t8 fH.rb rfl rfl rfl (by rfl) rfl ?_))
     exact zAA fH.rb fT.o jQ.o lU fH.bl fU.o ⟨by omega,by omega⟩ rfl rfl rfl rfl
   rw [kF] at b1;rw [if_neg (by rw [lB];simp)] at fA;rcases lS.o with ⟨j,kj,gG,hkj,rfl,rfl⟩ | ⟨gG,rfl,rfl⟩;rotate_left
   · have jO:=hid gG;rw [gG] at fA;simp only at fA;by_cases fX:mi.links=100
     · rw [if_pos fX] at fA;have fK:=hid fA;rw [fX] at b2;clear fA
       go_wp2_with (first
        | (refine ldT fD.tb rfl rfl rfl ?_)
        | (refine stT t fD.rb rfl rfl rfl (by rfl) rfl ?_))
       exact zAA fD.rb fT.o (by exact fK.o) (fP.o _ fD.bl) fD.bl fU.o ⟨by omega,by omega⟩ rfl rfl rfl rfl
     rw [if_neg fX] at fA
     have oD:decide ((mi.links:Int)≥100)=false:=by simp;omega
     have fN:=fA;clear fA;go_upto_region 30 with (fail);have fE:=hid (zJA w8 (fP.o w8 fD.bl) (jF.o w8 fD.le) fS.o gV.o gW.o lM jM.o jO.o);obtain⟨pl,jP⟩:=nM (T.place m2);obtain⟨k,c7⟩:=pl;unfold PutP at fE;rw [jP] at fE fN;simp only at fE fN;have gM:=hid jP;clear jP;by_cases h7:c7=0;rotate_left
     · have kA:((c7:Int) != 0)=true:=by simp;omega
       rw [if_pos h7] at fN;have jQ:=hid fN;clear fN
       go_wp2_with (first
        | (refine ldT fD.tb rfl rfl rfl ?_)
        | (go_at_call 112;(with_reducible refine (fE.o).mono ?_);rintro e w10 ⟨⟨t7,rfl,kK⟩,fW⟩;have fB:=fD.fresh fW)
        | (refine stT t7 (Ab w10 28 z4) rfl rfl rfl (by rfl) rfl ?_)
        | (refine ldT ((fB.fresh (zAL w10 t7).2).tb) rfl rfl rfl ?_)
        | (refine stT t ((fB.fresh (zAL w10 t7).2).rb) rfl rfl rfl (by rfl) rfl ?_))
       exact zAA (fB.fresh (zAL w10 t7).2).rb fT.o jQ.o (fP.o _ (fB.fresh (zAL w10 t7).2).bl) (fB.fresh (zAL w10 t7).2).bl fU.o ⟨by omega,by omega⟩ rfl rfl rfl rfl
     subst h7
     have fO:m2.Fit k nm:=by
      have:=zBs (T:=T) (nm:=nm) gK.o (by rw [gM.o]);rw [gM.o] at this;exact this
     obtain⟨fJ,n',q,s1,s2,s3,s4,s5,fF⟩:=gL.o k fO;rw [if_neg (by simp),s5] at fN;have gS:=hid fun t7 W (hb:RefS (zAJ S g 2) W t7 (T.upd o (m2.set k nm i))) (hk:g+2≤W.heap.size)=>zCd (zAJ S g 2) t7 (T.upd o (m2.set k nm i)) d n' old W hb (jF.o W hk) fJ s1 s2 (zBl gJ.o) s3 s4;have jQ:=hid fN;simp only [if_true] at fE;clear fN s1 s2 s3 s4 s5 fJ fF fO;simp only [trV] at gS
     go_wp2_with (first
      | (refine ldT fD.tb rfl rfl rfl ?_)
      | (go_at_call 112;(with_reducible refine (fE.o).mono ?_);rintro e w10 ⟨⟨t7,rfl,kK⟩,fW⟩;have fB:=fD.fresh fW)
      | (refine stT t7 (Ab w10 28 z4) rfl rfl rfl (by rfl) rfl ?_)
      | (refine ldT ((zAL w10 t7).1) rfl rfl rfl ?_)
      | (go_at_call 114;(with_reducible refine ((gS.o t7 _ (kK.fresh (zAL w10 t7).2) (fB.fresh (zAL w10 t7).2).le)).mono ?_);rintro e w11 ⟨⟨t8,rfl,lU⟩,gN⟩;have fH:=(fB.fresh (zAL w10 t7).2).fresh gN)
      | (refine stT t8 fH.rb rfl rfl rfl (by rfl) rfl ?_))
     exact zAA fH.rb fT.o jQ.o lU fH.bl fU.o ⟨by omega,by omega⟩ rfl rfl rfl rfl
   obtain⟨mj,lC⟩:=fS.o.gr.ents o m2 nm j gV.o gG;obtain⟨xj,kL,-,mQ⟩:=kT.o j mj lC;have lD:=hid lC;have lV:=hid gG;have kM:=hid hkj;have gY:=hid mQ;rw [gG] at fA;simp only at fA;rw [zAm lC] at fA
   have oB:decide ((kj:Int)≥0)=true:=by simp
   have oJ:decide ((kj:Int)<0)=false:=by simp
   have fld:=zGb xj
   have gO:xj.kind=2∧mj.dir=true∨xj.kind=1∧mj.dir=false:=by rw [kL];unfold PN.kind;cases mj.dir<;>simp
   clear lC gG hkj mQ kL lS;rcases gO with ⟨gO,fY⟩ | ⟨gO,fY⟩
   · rw [gO] at fld;rw [if_pos fY] at fA;have fK:=hid fA;clear fA
     go_wp2_with (first
      | (refine zAK (by rfl) (fun _ hK=>Aq 28 _ rfl g rfl 28 (zAa t).toArray _ _ fD.tb Ad rfl rfl (hK _ _ ?_)))
      | (go_at_call 81;(with_reducible refine ((gY.o w8 fD.bl).2).mono ?_);rintro e w9 ⟨rfl,fQ⟩;have fC:=fD.fresh fQ;replace b2:=(fQ.cell (p:=⟨y,2,none⟩) (As _ _ b2)).trans b2)
      | (refine ldT fC.tb rfl rfl rfl ?_)
      | (refine stT t fC.rb rfl rfl rfl (by rfl) rfl ?_))
     exact zAA fC.rb fT.o (by exact fK.o) (fP.o _ fC.bl) fC.bl fU.o ⟨by omega,by omega⟩ rfl rfl rfl rfl
   rw [gO] at fld;rw [if_neg (by rw [fY];simp)] at fA;by_cases mR:i=j
   · subst mR;rw [if_pos rfl] at fA;have fK:=hid fA
     have kY:((i:Int)==(i:Int))=true:=by simp
     clear fA
     go_wp2_with (first
      | (refine zAK (by rfl) (fun _ hK=>Aq 28 _ rfl g rfl 28 (zAa t).toArray _ _ fD.tb Ad rfl rfl (hK _ _ ?_)))
      | (go_at_call 81;(with_reducible refine ((gY.o w8 fD.bl).2).mono ?_);rintro e w9 ⟨rfl,fQ⟩;have fC:=fD.fresh fQ;replace b2:=(fQ.cell (p:=⟨y,2,none⟩) (As _ _ b2)).trans b2)
      | (refine ldT fC.tb rfl rfl rfl ?_)
      | (refine stT t fC.rb rfl rfl rfl (by rfl) rfl ?_))
     exact zAA fC.rb fT.o (by exact fK.o) (fP.o _ fC.bl) fC.bl fU.o ⟨by omega,by omega⟩ rfl rfl rfl rfl
   rw [if_neg mR] at fA
   have kY:((i:Int)==(j:Int))=false:=by simp;omega
   by_cases fX:mi.links=100
   · rw [if_pos fX] at fA;have fK:=hid fA;rw [fX] at b2;clear fA
     go_wp2_with (first
      | (refine zAK (by rfl) (fun _ hK=>Aq 28 _ rfl g rfl 28 (zAa t).toArray _ _ fD.tb Ad rfl rfl (hK _ _ ?_)))
      | (go_at_call 81;(with_reducible refine ((gY.o w8 fD.bl).2).mono ?_);rintro e w9 ⟨rfl,fQ⟩;have fC:=fD.fresh fQ;replace b2:=(fQ.cell (p:=⟨y,2,none⟩) (As _ _ b2)).trans b2)
      | (refine ldT fC.tb rfl rfl rfl ?_)
      | (refine stT t fC.rb rfl rfl rfl (by rfl) rfl ?_))
     exact zAA fC.rb fT.o (by exact fK.o) (fP.o _ fC.bl) fC.bl fU.o ⟨by omega,by omega⟩ rfl rfl rfl rfl
   rw [if_neg fX] at fA
   have oD:decide ((mi.links:Int)≥100)=false:=by simp;omega
   rw [kM.o] at fA;simp only [Option.getD_some] at fA;have lE:=zAR kM.o;have fO:m2.Fit kj nm:=.inr (.inr ⟨by rw [lV.o];rfl,lE.2⟩);obtain⟨fJ,n',q,s1,s2,s3,s4,s5,fF⟩:=gL.o kj fO;rw [s5] at fA;have mS:zEo i nm:=⟨lM.1,by have:=fS.o.gr.ok.ino;omega,zFN jM.o⟩;have fZ:=hid fun (S2:Nat→Prop) (W:World) (h2:HdR S2 W x2 o m2) (lW:∀ b,S2 b→b<W.heap.size)=>zJI h2 lW gK.o gW.o mS (Aj lE.1) (.inr (.inr lE.2));obtain⟨n2',kN⟩:∃ n2',m2.set kj nm i=n2':=⟨_,rfl⟩;rw [kN] at fZ fJ s1 fF fA;have fG:=hid fun (S2:Nat→Prop) (W:World) (y:Hd) (h2:RefS S2 W t T) (lW:∀ b,S2 b→b<W.heap.size) (hy:HdR S2 W y o n2')=>zBr h2 lW fS.o.gr.ok hy;have lX:j≠d∧j≠o:=⟨fun e=>(by have h1:=lD.o;rw [e,lN.o] at h1;rw [←An h1,lP.o] at fY;cases fY),fun e=>(by have h1:=lD.o;rw [e,gV.o] at h1;rw [←An h1,gW.o] at fY;cases fY)⟩
   have mT:zAe j ((T.upd o n2').upd d (n'.clear old)).nodes=some mj:=by rw [zAl _ lX.1,zAl _ lX.2];exact lD.o
   have lY:=fS.o.dev j mj lD.o;have gS:=hid fun t7 W (hb:RefS (zAJ S g 2) W t7 (T.upd o n2')) (hk:g+2≤W.heap.size)=>zCd (zAJ S g 2) t7 (T.upd o n2') d n' old W hb (jF.o W hk) fJ s1 s2 (zBl gJ.o) s3 s4;have mU:=hid fun t7 W (hb:RefS (zAJ S g 2) W t7 ((T.upd o n2').upd d (n'.clear old))) (hk:g+2≤W.heap.size)=>zGU (zAJ S g 2) t7 ((T.upd o n2').upd d (n'.clear old)) j mj W hb (jF.o W hk) fF mT lY.1 lY.2.1;have fK:=hid fA;clear fA s1 s2 s3 s4 s5 fJ fF fO mS lE lX mT lY kN;simp only [trV] at gS;unfold hdV zGH at fZ;simp only [zB3,zCk] at fZ
   go_upto_region 34 with (first
    | (refine zAK (by rfl) (fun _ hK=>Aq 28 _ rfl g rfl 28 (zAa t).toArray _ _ fD.tb Ad rfl rfl (hK _ _ ?_)))
    | (go_at_call 81;(with_reducible refine ((gY.o w8 fD.bl).2).mono ?_);rintro e w9 ⟨rfl,fQ⟩;have fC:=fD.fresh fQ;replace b2:=(fQ.cell (p:=⟨y,2,none⟩) (As _ _ b2)).trans b2))
   clear fD fQ;have gP:=hid fun W (hb:Below w9.heap.size w9 W)=>(jK.o W (fC.fresh hb).bl).2;rw [show Value.agg (zAa t).toArray=trV t from rfl] at gP;have lF:=hid (jK.o w9 fC.bl).1;have kO:=hid (fP.o w9 fC.bl);have jR:=hid (jF.o w9 fC.le);have fR:=hid fC.tb;have oK:=fC.le;obtain⟨S1,jS⟩:=nM (zAJ S g 2);rw [jS] at lF kO jR;have kP:=hid jS;have lZ:=hid fC;clear jS fC;unfold trV at fG gP;obtain⟨a0,a1,a2,a3⟩:=zAp fR.o;have lG:Hid (Below w9.heap.size w9 w9.drew):=hid (zAd (Below.refl _ w9) 1);have lH:Hid (Below w9.heap.size w9 (w9.alloc (.cells z4.toArray 28)).drew):=hid (zAd (br.alloc nr _) 1);have mV:=hid (Ab w9 28 z4);obtain⟨T',mW⟩:∃ T',T.upd o n2'=T':=⟨_,rfl⟩;rw [mW] at fG gS mU fK;clear mW
   go_cut [22] from 145 to 154 (fun cu wx=>∃ ub t6,cu=.pointer (some ⟨ub,0,none⟩)∧Hid (Blk wx ub 28 (zAa t6))∧Hid (RefS S1 wx t6 T')∧Hid (Below w9.heap.size w9 wx))
   case first =>
    go_region_held3 (fun w'=>w'.cell? ⟨g,0,none⟩=some (.int .i64 t.sectors)∧w'.cell? ⟨g,1,none⟩=some (.int .i64 t.inodes)∧w'.cell? ⟨g,2,none⟩=some (.int .i64 t.births)∧w'.cell? ⟨g,3,none⟩=some (.slice t.A t.l.length t.c))
     (first | go_keep)
     (first
      | (go_at_call 81;first
       | ((with_reducible refine (gP.o w9.drew lG.o).mono ?_);rintro e wa ⟨rfl,jT⟩;have fL:=hid (lG.o.trans (jT.mono lG.o.size));obtain⟨a0,a1,a2,a3⟩:=zAp (fR.o.fresh fL.o);have k1:=hid (fZ.o S1 wa (lF.o.fresh fL.o) (fun b hb=>Ak (jR.o b hb) fL.o.size));have k2:=hid (fZ.o (zAJ S1 wa.heap.size 1) (wa.alloc (.cells z4.toArray 28)) (((lF.o.fresh fL.o).addR 1 nr).fresh (br.alloc nr _)) (zA8 (fun b hb=>by have:=jR.o b hb;have:=fL.o.size;simp;omega) (by simp)));clear jT)
       | ((with_reducible refine (gP.o (w9.alloc (.cells z4.toArray 28)).drew lH.o).mono ?_);rintro e wa ⟨rfl,jT⟩;have fL:=hid (lH.o.trans (jT.mono lH.o.size));obtain⟨a0,a1,a2,a3⟩:=zAp (fR.o.fresh fL.o);have mX:Hid (∀ b,(zAJ S1 w9.heap.size 1) b→b<wa.heap.size):=hid (zA8 (fun b hb=>Ak (jR.o b hb) fL.o.size) (by have:=jT.size;simp at this;omega));have k3:=hid (fZ.o (zAJ S1 w9.heap.size 1) wa ((lF.o.addR 1 nr).fresh fL.o) mX.o);have oE:=hid (Blk.fresh (w:=(w9.alloc (.cells z4.toArray 28)).drew) mV.o jT);clear jT))
      | (go_at_call 117;first
       | ((with_reducible refine (k1.o).mono ?_);rintro e wb ⟨⟨y5,rfl,gZ⟩,gE⟩;have fI:=hid (fL.o.trans (gE.mono fL.o.size));obtain⟨a0,a1,a2,a3⟩:=zAp (fR.o.fresh fI.o);have k4:=hid (fG.o S1 wb y5 (kO.o.fresh fI.o) (fun b hb=>Ak (jR.o b hb) fI.o.size) gZ);have k5:=hid (fG.o (zAJ S1 wb.heap.size 1) (wb.alloc (.cells z4.toArray 28)) y5 (((kO.o.fresh fI.o).addR 1 nr).fresh (br.alloc nr _)) (zA8 (fun b hb=>by have:=jR.o b hb;have:=fI.o.size;simp;omega) (by simp)) ((gZ.addR 1 nr).fresh (br.alloc nr _)));clear gE gZ)
       | ((with_reducible refine (k2.o).mono ?_);rintro e wb ⟨⟨y5,rfl,gZ⟩,gE⟩;have fI:=hid (fL.o.trans (((br.alloc nr _).trans (gE.mono (by simp))).mono fL.o.size));obtain⟨a0,a1,a2,a3⟩:=zAp (fR.o.fresh fI.o);have oF:Hid (∀ b,(zAJ S1 wa.heap.size 1) b→b<wb.heap.size):=hid (zA8 (fun b hb=>Ak (jR.o b hb) fI.o.size) (by have:=gE.size;simp at this;omega));have k6:=hid (fG.o (zAJ S1 wa.heap.size 1) wb y5 ((((kO.o.fresh fL.o).addR 1 nr).fresh (br.alloc nr _)).fresh gE) oF.o gZ);have mA:=hid ((Ab wa 28 z4).fresh gE);clear gE gZ)
       | ((with_reducible refine (k3.o).mono ?_);rintro e wb ⟨⟨y5,rfl,gZ⟩,gE⟩;have fI:=hid (fL.o.trans (gE.mono fL.o.size));obtain⟨a0,a1,a2,a3⟩:=zAp (fR.o.fresh fI.o);have k7:=hid (fG.o (zAJ S1 w9.heap.size 1) wb y5 ((kO.o.addR 1 nr).fresh fI.o) (fun b hb=>Ak (mX.o b hb) gE.size) gZ);have mA:=hid (oE.o.fresh gE);clear gE gZ))
      | (go_at_call 113;first
       | ((with_reducible refine (k4.o).mono ?_);rintro e wd ⟨⟨t6,rfl,gA⟩,gB⟩;unfold trV;have gF:=hid (fI.o.trans (gB.mono fI.o.size));obtain⟨a0,a1,a2,a3⟩:=zAp (fR.o.fresh gF.o);have oG:=hid gA;clear gB gA)
       | ((with_reducible refine (k5.o).mono ?_);rintro e wd ⟨⟨t6,rfl,gA⟩,gB⟩;unfold trV;have gF:=hid (fI.o.trans (((br.alloc nr _).trans (gB.mono (by simp))).mono fI.o.size));obtain⟨a0,a1,a2,a3⟩:=zAp (fR.o.fresh gF.o);have hZ:=(Ab wb 28 z4).fresh gB;have gQ:=zCg hZ t6;have kQ:=fR.o.lt;obtain⟨d0,d1,d2,d3⟩:=zAp ((fR.o.fresh gF.o).chg gQ.2 (by have:=fI.o.size;omega));have jA:=hid gQ;clear gQ kQ;obtain⟨z0,z1,z2,z3⟩:=zH3 hZ;have f0:=hZ.frozen 0;have f1:=hZ.frozen 1;have f2:=hZ.frozen 2;have f3:=hZ.frozen 3;clear hZ;have mB:=hid gA;clear gB gA)
       | ((with_reducible refine (k6.o).mono ?_);rintro e wd ⟨⟨t6,rfl,gA⟩,gB⟩;unfold trV;have gF:=hid (fI.o.trans (gB.mono fI.o.size));obtain⟨a0,a1,a2,a3⟩:=zAp (fR.o.fresh gF.o);have hZ:=mA.o.fresh gB;have gQ:=zCg hZ t6;have kQ:=fR.o.lt;obtain⟨d0,d1,d2,d3⟩:=zAp ((fR.o.fresh gF.o).chg gQ.2 (by have:=fL.o.size;omega));have jA:=hid gQ;clear gQ kQ;obtain⟨z0,z1,z2,z3⟩:=zH3 hZ;have f0:=hZ.frozen 0;have f1:=hZ.frozen 1;have f2:=hZ.frozen 2;have f3:=hZ.frozen 3;clear hZ;have mB:=hid gA;clear gB gA)
       | ((with_reducible refine (k7.o).mono ?_);rintro e wd ⟨⟨t6,rfl,gA⟩,gB⟩;unfold trV;have gF:=hid (fI.o.trans (gB.mono fI.o.size));obtain⟨a0,a1,a2,a3⟩:=zAp (fR.o.fresh gF.o);have hZ:=mA.o.fresh gB;have gQ:=zCg hZ t6;have kQ:=fR.o.lt;obtain⟨d0,d1,d2,d3⟩:=zAp ((fR.o.fresh gF.o).chg gQ.2 (by omega));have jA:=hid gQ;clear gQ kQ;obtain⟨z0,z1,z2,z3⟩:=zH3 hZ;have f0:=hZ.frozen 0;have f1:=hZ.frozen 1;have f2:=hZ.frozen 2;have f3:=hZ.frozen 3;clear hZ;have mB:=hid gA;clear gB gA)))
    all_goals (go_wp2;go_meet)
    all_goals first
     | exact⟨_,t6,rfl,hid (Ab wd 28 (zAa t6)),hid (oG.o.fresh (br.alloc nr _)),hid (gF.o.alloc gF.o.size _)⟩
     | (obtain⟨h1,h2⟩:=zGh jA.o mB.o gF.o (by first | exact Al _ | exact fL.o.size | exact fI.o.size) rfl;exact⟨_,t6,rfl,hid jA.o.1,hid h1,hid h2⟩)
   case rest =>
    obtain⟨ub,t6,rfl,hU,gA,kZ⟩:=hcut;have fB:=lZ.o.fresh kZ.o;have mC:=hU.o;rw [←kP.o] at gA;have mD:=gS.o t6 wc gA.o fB.le;clear fZ fG gP lG lH mV a0 a1 a2 a3 gS
    go_wp2_with (first
     | (refine ldT mC rfl rfl rfl ?_)
     | (go_at_call 114;(with_reducible refine (mD).mono ?_);rintro e w11 ⟨⟨t11,rfl,mE⟩,gN⟩;have fH:=fB.fresh gN;have kR:=mU.o t11 w11 mE fH.le)
     | (go_at_call 115;(with_reducible refine (kR).mono ?_);rintro e w12 ⟨⟨t12,rfl,mF⟩,mG⟩;have jU:=fH.fresh mG)
     | (refine stT t12 jU.rb rfl rfl rfl (by rfl) rfl ?_))
    exact zAA jU.rb fT.o fK.o mF jU.bl fU.o ⟨by omega,by omega⟩ rfl rfl rfl rfl
def got (d:Dat) (i j q:Nat):Bool:=(d.take i).any (fun p=>p.1==q / 128) || (match d[i]? with | some p=>p.1==q / 128 && decide (q % 128<j) | none=>false)
def bw (d:Dat) (z i j:Nat):List UInt8:=(List.range z).map fun q=>if got d i j q=true then zCO d q else 0
theorem zEP (d:Dat) (z i j:Nat):(bw d z i j).length=z:=by simp [bw]
theorem bw_0 (d:Dat) (z:Nat):bw d z 0 0=List.replicate z 0:=by
 unfold bw
 apply At
 · simp
 · intro q h1 h2;simp only [Au,Av,List.getElem_replicate];rw [if_neg];unfold got;cases d[0]?<;>simp
theorem bw_step {d:Dat} (hr:zBo zAG d) {z i j:Nat} (hi:i<d.length) (hj:j<128) {b:UInt8} (hb:d[i].2[j]? = some b):bw d z i (j+1)=(bw d z i j).set (d[i].1 * 128+j) b:=by
 have hg:=zIZ hr hi
 apply At
 · rw [List.length_set,zEP,zEP]
 · intro q h1 h2;rw [zEP] at h1;rw [List.getElem_set]
   have e1:got d i (j+1) q=(got d i j q || decide (q=d[i].1 * 128+j)):=by
    unfold got;rw [Aw hi,Bool.or_assoc]
    congr 1
    simp only;rw [Bool.eq_iff_iff];simp only [Bool.or_eq_true,AE,beq_iff_eq,decide_eq_true_iff];omega
   simp only [bw,Au,Av,e1];by_cases e:d[i].1 * 128+j=q
   · subst e;rw [if_pos rfl,if_pos (by simp)];unfold zCO zA4;rw [show (d[i].1 * 128+j) / 128=d[i].1 by omega,show (d[i].1 * 128+j) % 128=j by omega,hg];simp only [Option.getD_some];rw [Ax,hb];rfl
   · rw [if_neg e]
     have:decide (q=d[i].1 * 128+j)=false:=by simp;omega
     rw [this,AF]
theorem bw_next {d:Dat} {z i j:Nat} (hi:i<d.length) (h:j=128∨z≤d[i].1 * 128+j):bw d z i j=bw d z (i+1) 0:=by
 apply At
 · rw [zEP,zEP]
 · intro q h1 h2;rw [zEP] at h1;simp only [bw,Au,Av]
   have e1:got d i j q=got d (i+1) 0 q:=by
    unfold got;rw [Aw hi,List.take_succ_eq_append_getElem hi,List.any_append];simp only [List.any_cons,List.any_nil,AF]
    have e3:(match d[i+1]? with | some p=>p.1==q / 128 && decide (q % 128<0) | none=>false)=false:=by cases d[i+1]?<;>simp
    rw [e3,AF]
    congr 1
    rw [Bool.eq_iff_iff];simp only [AE,beq_iff_eq,decide_eq_true_iff];omega
   rw [e1]
theorem bw_all (d:Dat) (z:Nat):bw d z d.length 0=rdL d 0 z:=by
 unfold bw rdL;refine List.map_congr_left fun q _=>?_;rw [Nat.zero_add]
 split
 · rfl
 · rename_i h;unfold got at h;rw [List.take_length] at h;unfold zCO zA4
   have:zAe (q / 128) d=none:=zA7.2 fun p hp e=>h (by
    rw [Bool.or_eq_true];exact .inl (List.any_eq_true.2 ⟨p,hp,by simpa using e⟩))
   rw [this];simp only [Option.getD_none,zBD];rw [Ax,List.getElem?_replicate]
   split<;>rfl
structure StH (w wk:World) (g:Nat) (t:Tr) (x:Hd):Prop where
 tb:Blk wk g 28 (zAa t)
 xb:Blk wk (g+1) 123 (zAb x)
 rb:Blk wk (g+2) 28 z4
 bl:Below g w wk
theorem sth_0 (w:World) (t:Tr) (x:Hd):StH w (((w.alloc (.cells (zAa t).toArray 28)).alloc (.cells (zAb x).toArray 123)).alloc (.cells z4.toArray 28)) w.heap.size t x:=by
 refine⟨((Ab w 28 (zAa t)).alloc _).alloc _,?_,?_,((br.alloc nr _).alloc (by simp) _).alloc (by simp;omega) _⟩
 · have:=(Ab (w.alloc (.cells (zAa t).toArray 28)) 123 (zAb x)).alloc (.cells z4.toArray 28);simpa using this
 · have:=Ab ((w.alloc (.cells (zAa t).toArray 28)).alloc (.cells (zAb x).toArray 123)) 28 z4;simpa using this
section
variable {w wk w':World} {g:Nat} {t:Tr} {x:Hd}
theorem StH.le (h:StH w wk g t x):g+3≤wk.heap.size:=h.rb.lt
theorem StH.fresh (h:StH w wk g t x) (hb:Below wk.heap.size wk w'):StH w w' g t x:=⟨h.tb.fresh hb,h.xb.fresh hb,h.rb.fresh hb,h.bl.trans (hb.mono (by have:=h.le;omega))⟩
theorem StH.far {S:Nat→Prop} (h:StH w wk g t x) (hc:Chg S wk w') (hS:∀ b,S b→g+3≤b):StH w w' g t x :=
 ⟨h.tb.chg hc fun e=>by have:=hS _ e;omega,h.xb.chg hc fun e=>by have:=hS _ e;omega,h.rb.chg hc fun e=>by have:=hS _ e;omega,h.bl.trans (hc.below (by have:=h.le;omega) fun b hb e=>by have:=hS _ e;omega)⟩
end
theorem Two.fresh {w w1:World} {base:Nat} {vi vd:Value} {l:List (Nat×List UInt8)} (h:Two w base vi vd l) (hb:Below w.heap.size w w1):Two w1 base vi vd l:=⟨zAC h.ri hb,zAC h.rd hb,h.ap⟩
theorem Two.step2 {w w6 w8:World} {base y:Nat} {vi vd vi' vd':Value} {l:List (Nat×List UInt8)} {k:Nat} {s:List UInt8} (h:Two w base vi vd l) (hy:y<base)
 (r1:w6.ownsRow base 3 1 vi' (l.length+1) (nats (l.map (·.1))++[.int .i64 (k:Int)])) (a1:vi'.ownBlock=vi.ownBlock∨∃ H,vi'.ownBlock=some H∧w.heap.size≤H)
 (c2:Chg (fun b=>vd.ownBlock=some b∨b=y) w6 w8) (r2:w8.ownsRow base 187 128 vd' (l.length+1) (secs (l.map (·.2))++bvs s)) (a2:vd'.ownBlock=vd.ownBlock∨∃ H,vd'.ownBlock=some H∧w6.heap.size≤H) :
 Two w8 base vi' vd' (l++[(k,s)]):=by
 have ap':∀ b,vi'.ownBlock=some b→vd.ownBlock≠some b:=fun b fA e=>by
  rcases a1 with a1 | ⟨H,a1,hH⟩
  · exact h.ap b (a1▸fA) e
  · have:=(h.rd.lt b e).2;rw [a1] at fA;injection fA with fA;omega
 refine⟨?_,?_,?_⟩
 · have e:nats ((l++[(k,s)]).map (·.1))=nats (l.map (·.1))++[.int .i64 (k:Int)]:=by simp [nats]
   rw [e,Ay]
   exact zAy r1 c2 fun g hg h2=>by
    rcases h2 with h2 | h2
    · exact ap' g hg h2
    · have:=(r1.lt g hg).1;omega
 · have e:secs ((l++[(k,s)]).map (·.2))=secs (l.map (·.2))++bvs s:=by simp [secs]
   rw [e,Ay];exact r2
 · intro b fA e;rcases a2 with a2 | ⟨H,a2,hH⟩
   · exact ap' b fA (a2▸e)
   · have:=(r1.lt b fA).2;rw [a2] at e;injection e with e;omega
abbrev yc (x:Hd) (e:Nat) (vi vd:Value):List Value:=[.int .i64 x.ino,.int .i64 x.kind,.int .i64 x.links,.int .i64 (e:Int),.int .i64 x.made,.int .i64 x.birth,vi,vd]
theorem two_hd {wr:World} {S:Nat→Prop} {g k base e i:Nat} {x:Hd} {n:PN} {vi vd:Value} (h:Two wr base vi vd (zAI e n.data)) (hS:∀ b,zAJ S g k b→b<base) (hr:RepN x i n) (ho:n.Ok) (hd:n.dir=false) :
 ∃ y,yc x e vi vd=zAb y∧HdR (zAJ S g k) wr y i (n.cut e):=by
 obtain⟨iA,ic,e1,s1⟩:=AG (B:=wr.heap.size) h.ri fun g hg=>(h.ri.lt g hg).2;obtain⟨dA,dc,e2,s2⟩:=AG (B:=wr.heap.size) h.rd fun g hg=>(h.rd.lt g hg).2;have fA:=cut_rep hr ho hd e iA ic dA dc;refine⟨_,?_,⟨⟨?_,?_,?_,?_⟩,fA,?_,?_⟩⟩
 · rw [e1,e2];simp [zAb]
 · simp
 · intro s hs;obtain⟨p,hp,rfl⟩:=List.mem_map.1 hs;exact cutD_len ho.secs p hp
 · simpa using s1
 · simpa using s2
 · intro _ a ea hs;have:=(h.ri.lt a.block (by rw [e1];simp only [AH];rw [show iA=some a from ea])).1;have:=hS _ hs;omega
 · intro _ a ea hs;have:=(h.rd.lt a.block (by rw [e2];simp only [AH];rw [show dA=some a from ea])).1;have:=hS _ hs;omega
theorem rcuts_any (S:Nat→Prop) (t:Tr) (T:PT) (i:Nat) (n:PN) (x:Hd) (off:Int) (w:World) (h:RefS S w t T) (hx:HdR S w x i n) (hS:∀ b,S b→b<w.heap.size) (hT:T.Inv) (hg:zAe i T.nodes=some n) (hd:n.dir=false) :
 Calls Ac 85 #[.agg (zAa t).toArray,.agg (zAb x).toArray,.int .i64 off] w (zIo S (T.trunc i off) w):=by
 obtain⟨lk,gB⟩:=nM (T.trunc i off);rw [gB];obtain⟨Q,hQ⟩:=nM (zIo S lk w);rw [hQ];obtain⟨g,hz⟩:=nM (w.heap.size);have gQ:=hid (zBP h hz 3);have jE:=hid (inS (k:=3) hS hz);have fN:Hid (∀ W,Below g w W→HdR (zAJ S g 3) W x i n):=hid fun W hb=>(hx.addR 3 (Nat.le_of_eq hz)).fresh (hz▸hb);have gC:=(hT.gr.ok.get hg).1;unfold PT.trunc at gB;rw [zAn hg] at gB;have fC:=sth_0 w t x;rw [hz] at fC;have kK:=hx.rep.fidx gC hd;have kL:=hx.rep.fdat gC hd;have fH:x.size=(n.size:Int):=hx.rep.size;have gR:=hid hQ;have lN:Hid (∀ b,S b→b<g):=hid (by rw [←hz];exact hS);have hu:=hid gB.symm;have kM:=hid hT;have mJ:=hid hg;have kN:=hid hd;have fE:=hid gC;have fR:=hid kK;have gD:=hid kL;have gS:=hid hz;have mK:=gC.size;have gE:=hid hx.rep;clear gB hQ h hx hS hT hg hd gC kK kL;go_enter Tryz.func85,Tryz.ntmps85;go_upto_region 1 with (fail)
 try simp only [hz]
 change Ao _ _ _ _ (((w.alloc (.cells (zAa t).toArray 28)).alloc (.cells (zAb x).toArray 123)).alloc (.cells z4.toArray 28));generalize ((w.alloc (.cells (zAa t).toArray 28)).alloc (.cells (zAb x).toArray 123)).alloc (.cells z4.toArray 28)=w0 at *;clear hz;obtain⟨b0,b1,b2,b3,b4,b5,b6,b7⟩:=zAN fC.xb;by_cases fI:off<0∨136704<off
 · have fS:Hid (lk=(T,101)):=hid (by rw [hu.o,if_pos fI]);by_cases hn:off<0
   · have t1:decide (off<0)=true:=decide_eq_true hn;clear fI
     go_wp2_with (first
      | (refine ldT fC.tb rfl rfl rfl ?_)
      | (refine stT t fC.rb rfl rfl rfl (by rfl) rfl ?_))
     exact zAA (k:=3) fC.rb gR.o fS.o (gQ.o _ fC.bl) fC.bl gS.o ⟨by omega,by omega⟩ rfl rfl rfl rfl
   · have t1:decide (off<0)=false:=decide_eq_false hn;have t2:decide (off > 136704)=true:=decide_eq_true (by omega);clear fI
     go_wp2_with (first
      | (refine ldT fC.tb rfl rfl rfl ?_)
      | (refine stT t fC.rb rfl rfl rfl (by rfl) rfl ?_))
     exact zAA (k:=3) fC.rb gR.o fS.o (gQ.o _ fC.bl) fC.bl gS.o ⟨by omega,by omega⟩ rfl rfl rfl rfl
 have h0:0≤off:=by omega
 have h1:off≤136704:=by omega
 have fS:=hu.o;rw [if_neg fI] at fS;obtain⟨e,rfl⟩:=Int.eq_ofNat_of_zero_le h0;simp only [Int.toNat_natCast] at fS;have t1:decide ((e:Int)<0)=false:=decide_eq_false (by omega);have t2:decide ((e:Int) > 136704)=false:=decide_eq_false (by omega);have kO:=hid fS;clear fI hu fS
 go_upto_region 4 with (first
  | (refine Ar rfl 123 _ rfl (g+1) rfl 123 (zAb x).toArray _ _ fC.xb Ae rfl rfl ?_)
  | (refine Ap rfl 123 _ _ rfl w0.heap.size (zAb x).toArray rfl (by rfl) 123 _ (Ab w0 123 z8) rfl rfl (zHb x) ?_))
 obtain⟨hY,kP⟩:=zBt w0 x;have kQ:=fC.fresh kP;have mL:g+3≤w0.heap.size:=fC.le;change Ao _ _ _ _ ((w0.alloc (.cells z8.toArray 123)).setRow w0.heap.size (zAb x).toArray);clear kP fC b0 b1 b2 b3 b4 b5 b6 b7;generalize (w0.alloc (.cells z8.toArray 123)).setRow w0.heap.size (zAb x).toArray=w1 at *;generalize w0.heap.size=y at *;have fX:Blk (w1.setCell ⟨y,3,none⟩ (.int .i64 (e:Int))) y 123 (zAb {x with size:=(e:Int)}):=hY.set_ 3 _;have kR:Chg (fun b=>b=y) w1 (w1.setCell ⟨y,3,none⟩ (.int .i64 (e:Int))):=(Aa (fun b=>b=y) w1).setCell (p:=⟨y,3,none⟩) (fun _=>rfl) _
 have fF:=kQ.far kR fun b e=>by omega
 have y3:=hY.cell 3;have f3:=hY.frozen 3;simp only [zAb,Az,AA] at y3;go_upto_region 5 with (fail);generalize w1.setCell ⟨y,3,none⟩ (.int .i64 (e:Int))=w2 at *;clear kQ hY kR y3 f3;obtain⟨b0,b1,b2,b3,b4,b5,b6,b7⟩:=zAN fF.xb;rw [fH] at b3;by_cases kS:n.size≤e
 · have t3:decide ((e:Int)<(n.size:Int))=false:=decide_eq_false (by omega);have gF:HdR (zAJ S g 3) w2 {x with size:=(e:Int)} i (n.cut e):=⟨⟨(fN.o _ fF.bl).at_.len,(fN.o _ fF.bl).at_.sec,(fN.o _ fF.bl).at_.idx,(fN.o _ fF.bl).at_.dat⟩,grow_rep gE.o fE.o kN.o kS,(fN.o _ fF.bl).oi,(fN.o _ fF.bl).od⟩;have fA:=zBr (gQ.o _ fF.bl) (jE.o _ fF.le) kM.o.gr.ok gF;rw [show ∀ t,trV t=.agg (zAa t).toArray from fun _=>rfl,show ∀ x,hdV x=.agg (zAb x).toArray from fun _=>rfl] at fA;have jF:=hid fA;clear fA gF fH
   go_wp2_with (first
    | (refine ldT fF.tb rfl rfl rfl ?_)
    | (refine Ar rfl 123 _ rfl y rfl 123 (zAb {x with size:=(e:Int)}).toArray _ _ fX Ae rfl rfl ?_)
    | (go_at_call 113;(with_reducible refine (jF.o).mono ?_);rintro e w3 ⟨⟨t3,rfl,jG⟩,jH⟩;have fK:=fF.fresh jH)
    | (refine stT t3 fK.rb rfl rfl rfl (by rfl) rfl ?_))
   exact zAA (k:=3) fK.rb gR.o kO.o jG fK.bl gS.o ⟨by omega,by omega⟩ rfl rfl rfl rfl
 have lO:e<n.size:=by omega
 have t3:decide ((e:Int)<(n.size:Int))=true:=decide_eq_true (by omega);have kT:Blk ((w2.setCell ⟨y,6,none⟩ zAj).setCell ⟨y,7,none⟩ zAj) y 123 (yc x e zAj zAj):=(fX.set_ 6 zAj).set_ 7 zAj;have kU:Chg (fun b=>b=y) w2 ((w2.setCell ⟨y,6,none⟩ zAj).setCell ⟨y,7,none⟩ zAj):=((Aa (fun b=>b=y) w2).setCell (p:=⟨y,6,none⟩) (fun _=>rfl) _).setCell (p:=⟨y,7,none⟩) (fun _=>rfl) _
 have fK:=fF.far kU fun b e=>by omega
 obtain⟨-,-,-,-,-,-,y6,y7⟩:=zAN fX;have f6:=fX.frozen 6;have f7:=fX.frozen 7;go_upto_region 8 with (fail);change Ao _ _ _ _ ((w2.setCell ⟨y,6,none⟩ zAj).setCell ⟨y,7,none⟩ zAj);generalize (w2.setCell ⟨y,6,none⟩ zAj).setCell ⟨y,7,none⟩ zAj=w3 at *;obtain⟨len,fJ⟩:=nM (n.data.length);have fO:=hid fJ
 have mM:len≤1068:=by rw [←fJ];exact fE.o.dlen
 have kV:x.idx.length=len:=by rw [fR.o,AB,fJ]
 have kW:x.dat.length=len:=by rw [gD.o,AB,fJ]
 have fL:=hid kV;have gG:=hid kW;have gH:=hid fK;obtain⟨iI,lP,jI,jJ,jK⟩:=info_parts zGq;obtain⟨iS,lQ,jL,jM,jN⟩:=info_parts zJy;clear fF kU fX y6 y7 f6 f7 b0 b1 b2 b3 b4 b5 b6 b7 fJ kV kW fK fH t3 kS;go_wp2_with fail
 go_loopw [9] (fun i' wr=>∃ (k:Nat) (vi vd:Value),k≤len∧i'=.int .i64 (k:Int)∧Hid (Two wr (y+1) vi vd (zAI e (n.data.take k)))∧Hid (Blk wr y 123 (yc x e vi vd))∧Hid (StH w wr g t x)) (fun i' _=>len-(intOf i').toNat)
 case atStart=>exact⟨0,zAj,zAj,Am _,rfl,hid (Two.nil _ _),hid kT,gH⟩
 case round =>
  obtain⟨k,vi,vd,hk,rfl,hT,gT,fY⟩:=hrel;clear kT gH;obtain⟨b0,b1,b2,b3,b4,b5,b6,b7⟩:=zAN fY.o.xb;rw [fL.o] at b6;rw [gG.o] at b7;have gU:=fN.o wr fY.o.bl;by_cases jO:k<len
  · have kX:k<n.data.length:=by rw [fO.o];exact jO
    have kY:k<x.idx.length:=by rw [fL.o];exact jO
    have lR:k<x.dat.length:=by rw [gG.o];exact jO
    obtain⟨p,hp⟩:=nM (n.data[k])
    have jP:p∈n.data:=by rw [←hp];exact List.getElem_mem kX
    have lS:=fE.o.keys p jP;have fZ:=fE.o.secs p jP;obtain⟨fr,s⟩:=p;simp only at lS fZ;obtain⟨bi,oi,gI,-,gJ⟩:=gU.at_.idx.at_ (by omega);have c0:=gJ k _ (zBO x.idx k kY);obtain⟨bd,od,kZ,mN,fG⟩:=gU.at_.sec_cell k lR
    have e1:x.idx[k]=fr:=by simp only [fR.o,Au,hp]
    have e2:x.dat[k]=s:=by simp only [gD.o,Au,hp]
    rw [e1] at c0;rw [e2] at fG;rw [gI] at b6;rw [kZ] at b7;have fB:=hid (cut_step fE.o.secs e kX);rw [hp] at fB;obtain⟨f2,jQ⟩:∃ f2:Nat,fr * 128=f2:=⟨_,rfl⟩
    have v1:IntKind.i64.wrap ((fr:Int) * 128)=(f2:Int):=by rw [zAF _ (by omega)];omega
    rw [jQ] at fB
    have lT:f2≤136576:=by omega
    have lU:=hid jQ;clear jQ;have hZ:=Ab wr 187 (bvs zBD);have lV:=hid hp;clear gU gJ gI kZ hp jP e1 e2
    go_upto_region 13 with (first
     | (refine wpList_load_mid rfl 187 (.tmp 45) rfl bd (od+k * 128) rfl (bvs s) _ fG Af rfl (by rw [zA9,zAc,fZ]) ?_)
     | (refine Ap rfl 187 _ _ rfl wr.heap.size (bvs s).toArray rfl (by rfl) 187 _ (Ab wr 187 (bvs zBD)) (zAD fZ) (by rw [AC,AC,zAc,zAc,fZ,zAs]) (zBa s) ?_))
    have lA:Blk ((wr.alloc (.cells Ag 187)).setRow wr.heap.size (bvs s).toArray) wr.heap.size 187 (bvs s):=setRow_heap _ _ _ _ _ _ (zBf rfl);have lB:Chg (fun b=>wr.heap.size≤b) wr ((wr.alloc (.cells Ag 187)).setRow wr.heap.size (bvs s).toArray):=((Aa (fun b=>wr.heap.size≤b) wr).alloc _).setRow (fun _=>Al _) _;have lW:=gT.o.lt;change Ao _ _ _ _ ((wr.alloc (.cells Ag 187)).setRow wr.heap.size (bvs s).toArray);have fT:=hid lB;have fU:=hid lA;clear b0 b1 b2 b3 b4 b5 b6 b7 c0 fG hZ lB lA;generalize (wr.alloc (.cells Ag 187)).setRow wr.heap.size (bvs s).toArray=w4 at *;obtain⟨sb,gV⟩:=nM (wr.heap.size);rw [gV] at fT fU lW;have fM:=hid gV
    try simp only [gV]
    clear gV;generalize lX:wr=wo at *;clear lX v1;go_wp2_with fail
    go_loopw [12] (fun j' wr=>∃ q:Nat,q≤128∧j'=.int .i64 (q:Int)∧Hid (Blk wr sb 187 (bvs (zl e f2 s q)))∧Hid (Chg (fun b=>sb≤b) wo wr)) (fun j' _=>128-(intOf j').toNat)
    case atStart=>exact⟨0,Am _,rfl,fU,fT⟩
    case round =>
     obtain⟨q,hq,rfl,fP,gK⟩:=hrel;clear fT fU;by_cases lY:q<128
     · have gA:=zHR e f2 s q;have v2:IntKind.i64.wrap ((f2:Int)+(q:Int))=(f2:Int)+(q:Int):=zAF _ (by omega);by_cases gW:e≤f2+q
       · have t4:decide ((f2:Int)+(q:Int)≥(e:Int))=true:=decide_eq_true (by omega);rw [if_pos gW] at gA
         have lZ:q<(zl e f2 s q).length:=by rw [zDA,fZ];exact lY
         have z0:=(fP.o.cell q).trans (by rw [zBK _ _ lZ]);have zf:=fP.o.frozen q
         have lC:Blk (wr.setCell ⟨sb,q,none⟩ (.int .u8 0)) sb 187 (bvs (zl e f2 s (q+1))):=by
          have h9:=fP.o.set_ q (.int .u8 0);rw [gA];rw [show bvs ((zl e f2 s q).set q 0)=(bvs (zl e f2 s q)).set q (.int .u8 0) from by unfold bvs;rw [List.map_set];rfl];exact h9
         have gL:Chg (fun b=>sb≤b) wo (wr.setCell ⟨sb,q,none⟩ (.int .u8 0)):=gK.o.setCell (p:=⟨sb,q,none⟩) (fun _=>Al _) _;have jR:=hid lC;have jS:=hid gL;clear gA gW fP gK lC gL;go_wp2_with fail;go_roundw
         case rel=>exact⟨q+1,by omega,by go_num,jR,jS⟩
         case measure=>simp [intOf];omega
       · have t4:decide ((f2:Int)+(q:Int)≥(e:Int))=false:=decide_eq_false (by omega);rw [if_neg gW] at gA;rw [←gA] at fP;clear gA gW;go_wp2_with fail;go_roundw
         case rel=>exact⟨q+1,by omega,by go_num,fP,gK⟩
         case measure=>simp [intOf];omega
     · obtain rfl:q=128:=by omega
       have jT:Hid (Below wo.heap.size wo wr):=hid (by rw [fM.o];exact gK.o.below (by rw [fM.o];exact Al _) fun b hb h=>by omega);have gM:=hid (hT.o.fresh jT.o);have jU:=hid (gT.o.fresh jT.o);have gX:=hid (fY.o.fresh jT.o)
       have gY:(zl e f2 s 128).length=128:=by rw [zDA];exact fZ
       obtain⟨s7,gN⟩:=nM (zl e f2 s 128);rw [gN] at fP gY fB
       have jV:Hid (∀ g,vi.ownBlock=some g→g<sb):=hid fun g hg=>by rw [←fM.o];exact (hT.o.ri.lt g hg).2
       have mA:Hid (∀ g,vd.ownBlock=some g→g<sb):=hid fun g hg=>by rw [←fM.o];exact (hT.o.rd.lt g hg).2
       clear hT gT fY gK gN;by_cases lD:f2<e
       · have t4:decide ((f2:Int)<(e:Int))=true:=decide_eq_true (by omega);have fV:Hid (zAI e (n.data.take (k+1))=zAI e (n.data.take k)++[(fr,s7)]):=hid (by have h9:=fB.o;rw [if_pos lD] at h9;exact h9);clear fB;obtain⟨m,hm⟩:=nM ((zAI e (n.data.take k)).length)
         have mO:m≤1068:=by
          rw [←hm];unfold zAI;exact Nat.le_trans (List.length_filterMap_le _ _) (by rw [List.length_take];omega)
         have fQ:=gM.o.ri;have fG:=gM.o.rd;rw [hm] at fQ fG;obtain⟨iA,ic,lE,-⟩:=AG (B:=wr.heap.size) fQ fun g hg=>(fQ.lt g hg).2;obtain⟨dA,dc,lF,-⟩:=AG (B:=wr.heap.size) fG fun g hg=>(fG.lt g hg).2;have gO:=gM;have fD:=jU.o;rw [lE] at fQ fD;rw [lF] at fG fD;subst lE;subst lF;obtain⟨xi,jW⟩:=nM (nats ((zAI e (n.data.take k)).map (·.1)));obtain⟨xd,jX⟩:=nM (secs ((zAI e (n.data.take k)).map (·.2)));rw [jW] at fQ;rw [jX] at fG;have jY:=hid jW;have jZ:=hid jX;have lG:=hid hm;have kA:=hid fQ;have kC:=hid fG
         have mB:y+1≤wr.heap.size:=by have:=fD.lt;omega
         have gP:=hid fun g hg=>(fQ.lt g hg).1;have fW:=hid fun g hg=>(fG.lt g hg).1;have y6:=fD.cell 6;have y6':=(fD.alloc (.cells [.int .i64 (fr:Int)].toArray 3)).cell 6;simp only [Az,AA] at y6 y6';obtain⟨b0,b1,b2,b3,b4,b5,b6,b7⟩:=zAN gX.o.xb;rw [fL.o] at b6;obtain⟨bi2,oi2,gI,mC,gJ⟩:=(fN.o wr gX.o.bl).at_.idx.at_ (by rw [fL.o];omega);have c0:=gJ k _ (zBO x.idx k kY);rw [show x.idx[k]=fr by simp only [fR.o,Au,lV.o]] at c0;rw [gI] at b6;have kD:=hid fD;clear jW jX hm fQ fG fD jU gM gI gJ b0 b1 b2 b3 b4 b5 b7;go_upto_region 19 with (fail)
         go_cut [] from 61 to 70 (fun wx=>∃ iA' ic',Hid (Blk wx y 123 (yc x e (.slice iA' (m+1) ic') (.slice dA m dc)))∧Hid (wx.ownsRow (y+1) 3 1 (.slice iA' (m+1) ic') (m+1) (xi++[.int .i64 (fr:Int)]))∧Hid (Chg (fun b=>(AI iA m ic).ownBlock=some b∨b=y) wr wx)∧Hid ((AI iA' (m+1) ic').ownBlock=(AI iA m ic).ownBlock∨∃ H,(AI iA' (m+1) ic').ownBlock=some H∧wr.heap.size≤H))
         case first =>
          go_region_law (refine zBc _ (by rfl) (.tmp 62) (.tmp 68) _ _ (by rfl) (y+1) 3 iI (.int .i64 0) 1 8 Ah lP jI jJ jK rfl (.slice iA m ic) m xi (by rfl) ((kA.o.alloc _).drew) 1 [.int .i64 (fr:Int)] (zCj wr Ah _ _ rfl) (by unfold maxLen;omega) (by omega) (by simp;omega) ?_;intro v5 w5 gZ mD kE;have gL:Chg (fun b=>(AI iA m ic).ownBlock=some b) wr w5:=(((Aa (fun b=>(AI iA m ic).ownBlock=some b) wr).alloc _).drew).grown mD (fun g' e _=>e);have kF:=kD.o.chg gL (fun h=>absurd (gP.o _ h) (by omega));obtain⟨A9,c9,kG,-⟩:=AG (B:=w5.heap.size) gZ fun g hg=>(gZ.lt g hg).2;subst kG;have z6:=kF.cell 6;have zf6:=kF.frozen 6;simp only [Az,AA] at z6)
          all_goals
           have q1:Blk (w5.setCell ⟨y,6,none⟩ (.slice A9 (m+1) c9)) y 123 (yc x e (.slice A9 (m+1) c9) (.slice dA m dc)):=kF.set_ 6 _
           have q2:(w5.setCell ⟨y,6,none⟩ (.slice A9 (m+1) c9)).ownsRow (y+1) 3 1 (.slice A9 (m+1) c9) (m+1) (xi++[.int .i64 (fr:Int)]):=zAy gZ ((Aa (fun b=>b=y) w5).setCell (p:=⟨y,6,none⟩) (fun _=>rfl) _) fun g hg h2=>by have:=(gZ.lt g hg).1;omega
           have q3:Chg (fun b=>(AI iA m ic).ownBlock=some b∨b=y) wr (w5.setCell ⟨y,6,none⟩ (.slice A9 (m+1) c9)):=(gL.mono (U:=fun b=>(AI iA m ic).ownBlock=some b∨b=y) fun b _ h=>Or.inl h).setCell (p:=⟨y,6,none⟩) (fun _=>Or.inr rfl) _;have q4:(AI A9 (m+1) c9).ownBlock=(AI iA m ic).ownBlock∨∃ H,(AI A9 (m+1) c9).ownBlock=some H∧wr.heap.size≤H:=kE.imp id fun h=>⟨_,h,by simp⟩;go_wp2;go_meet;exact⟨A9,c9,hid q1,hid q2,hid q3,hid q4⟩
         case rest =>
          obtain⟨iA',ic',lH,mE,jA,mF⟩:=hcut
          have mG:=fP.o.chg jA.o (fun h=>by
           rcases h with h | h
           · exact absurd (jV.o _ h) (Nat.lt_irrefl _)
           · omega)
          have rd6:=zAy kC.o jA.o (fun g hg h2=>by
           rcases h2 with h2 | h2
           · exact gO.o.ap g h2 hg
           · have:=fW.o g hg;omega)
          have mP:=jA.o.size;have y7:=lH.o.cell 7;simp only [Az,AA] at y7;clear y6 y6' b6 c0
          go_wp2_with (first
           | (refine Ar rfl 187 _ rfl sb rfl 187 (bvs s7).toArray _ _ mG Af rfl (by rw [zA9,AC,zAc,gY]) ?_)
           | (refine zAo rfl 121 187 (.tmp 73) rfl (bvs s7).toArray (by rfl) 128 Ai zA9 zH2 (by rw [AC,zAc,gY]) (by omega) (by omega) ?_)
           | (at_builtin;refine zAg _ rfl (.tmp 72) (.tmp 74) _ _ rfl (y+1) 187 iS (.agg Ag) 128 128 Ai lQ jL jM jN zCH (.slice dA m dc) m xd rfl (rd6.alloc _) 1 (bvs s7) (zDu wc s7 gY) (by unfold maxLen;omega) (by omega) (by simp;omega) ?_;intro v7 w7 jB mH kI;have lI:Chg (fun b=>(AI dA m dc).ownBlock=some b) wc w7:=((Aa (fun b=>(AI dA m dc).ownBlock=some b) wc).alloc _).grown mH (fun g' e _=>e);have jC:=lH.o.chg lI (fun h=>absurd (fW.o _ h) (by omega));obtain⟨A9,c9,kG,-⟩:=AG (B:=w7.heap.size) jB fun g hg=>(jB.lt g hg).2;subst kG;have z7:=jC.cell 7;have zf7:=jC.frozen 7;simp only [Az,AA] at z7;have kJ:=hid jC;clear jC))
          have q1:Blk (w7.setCell ⟨y,7,none⟩ (.slice A9 (m+1) c9)) y 123 (yc x e (.slice iA' (m+1) ic') (.slice A9 (m+1) c9)):=kJ.o.set_ 7 _
          have q2:(w7.setCell ⟨y,7,none⟩ (.slice A9 (m+1) c9)).ownsRow (y+1) 187 128 (.slice A9 (m+1) c9) (m+1) (xd++bvs s7):=zAy jB ((Aa (fun b=>b=y) w7).setCell (p:=⟨y,7,none⟩) (fun _=>rfl) _) fun g hg h2=>by have:=(jB.lt g hg).1;omega
          have q3:Chg (fun b=>(AI dA m dc).ownBlock=some b∨b=y) wc (w7.setCell ⟨y,7,none⟩ (.slice A9 (m+1) c9)):=(lI.mono (U:=fun b=>(AI dA m dc).ownBlock=some b∨b=y) fun b _ h=>Or.inl h).setCell (p:=⟨y,7,none⟩) (fun _=>Or.inr rfl) _;have q4:(AI A9 (m+1) c9).ownBlock=(AI dA m dc).ownBlock∨∃ H,(AI A9 (m+1) c9).ownBlock=some H∧wc.heap.size≤H:=kI.imp id fun h=>⟨_,h,by simp⟩
          have q5:Two (w7.setCell ⟨y,7,none⟩ (.slice A9 (m+1) c9)) (y+1) (.slice iA' (m+1) ic') (.slice A9 (m+1) c9) (zAI e (n.data.take (k+1))):=by
           rw [fV.o];refine gO.o.step2 (w6:=wc) (y:=y) (by omega) ?_ mF.o q3 ?_ q4
           · rw [lG.o,jY.o];exact mE.o
           · rw [lG.o,jZ.o];exact q2
          have lJ:Chg (fun b=>y≤b) wr (w7.setCell ⟨y,7,none⟩ (.slice A9 (m+1) c9)):=(jA.o.mono (U:=fun b=>y≤b) fun b _ h=>by
           rcases h with h | h
           · have:=gP.o b h;omega
           · omega).trans (q3.mono (U:=fun b=>y≤b) fun b _ h=>by
           rcases h with h | h
           · have:=fW.o b h;omega
           · omega) (fun _ _ h=>h) (fun _ _ h=>h)
          have q6:=gX.o.far lJ fun b h=>by omega
          have q5H:=hid q5;have q6H:=hid q6;have q1H:=hid q1;clear q1 q2 q3 q4 q5 q6 lJ;go_roundw
          case rel=>exact⟨k+1,_,_,by omega,by go_num,q5H,q1H,q6H⟩
          case measure=>simp [intOf];omega
       · have t4:decide ((f2:Int)<(e:Int))=false:=decide_eq_false (by omega);have fV:Hid (zAI e (n.data.take (k+1))=zAI e (n.data.take k)):=hid (by have h9:=fB.o;rw [if_neg lD,List.append_nil] at h9;exact h9);clear fB;go_wp2_with fail;go_roundw
         case rel=>exact⟨k+1,vi,vd,by omega,by go_num,hid (by rw [fV.o];exact gM.o),jU,gX⟩
         case measure=>simp [intOf];omega
  · obtain rfl:k=len:=by omega
    have lK:Two wr (y+1) vi vd (zAI e n.data):=by
     have h9:=hT.o;rw [←fO.o,List.take_length] at h9;exact h9
    have mI:∀ b,zAJ S g 3 b→b<y+1:=fun b hb=>by
     rcases hb with hb | hb
     · have:=jE.o wr fY.o.le b (.inl hb);have h9:=lN.o b hb;omega
     · omega
    obtain⟨x9,lL,gF⟩:=two_hd lK mI gE.o fE.o kN.o;have lM:=gT.o;rw [lL] at lM;have jD:=fY.o;have fA:=zBr (gQ.o _ jD.bl) (jE.o _ jD.le) kM.o.gr.ok gF;rw [show ∀ t,trV t=.agg (zAa t).toArray from fun _=>rfl,show ∀ x,hdV x=.agg (zAb x).toArray from fun _=>rfl] at fA;have jF:=hid fA;clear fA gF lL lK gU
    go_wp2_with (first
     | (refine ldT jD.tb rfl rfl rfl ?_)
     | (refine Ar rfl 123 _ rfl y rfl 123 (zAb x9).toArray _ _ lM Ae rfl rfl ?_)
     | (go_at_call 113;(with_reducible refine (jF.o).mono ?_);rintro e w3 ⟨⟨t3,rfl,jG⟩,jH⟩;have fK:=jD.fresh jH)
     | (refine stT t3 fK.rb rfl rfl rfl (by rfl) rfl ?_))
    exact zAA (k:=3) fK.rb gR.o kO.o jG fK.bl gS.o ⟨by omega,by omega⟩ rfl rfl rfl rfl
theorem chk_byte {x:ByteArray} {k:Nat} (h:k<x.size) (hb:x[k].toNat=0∨x[k].toNat=47):chk x=false:=by
 unfold chk;refine decide_eq_false fun hc=>?_
 have hm:x[k]'h∈x.data.toList:=by
  rw [Array.mem_toList_iff];exact Array.getElem_mem _
 have h2:=hc.2.2.2.2 _ hm;rcases hb with hb | hb
 · exact h2.1 (AJ.1 hb)
 · exact h2.2 (AJ.1 hb)
theorem zEp {x:ByteArray} {k:Nat} (h:k<x.size):x.data.toList[k]? = some x[k]:=by
 rw [Array.getElem?_toList,Array.getElem?_eq_getElem h];rfl
theorem dots_two {x:ByteArray} (h:∀ k (h:k<x.size),x[k].toNat=46) (h1:1≤x.size) (h2:x.size≤2):chk x=false:=by
 have hl:x.data.toList.length=x.size:=AK;rcases Nat.lt_or_ge x.size 2 with h3 | h3
 · have:x=⟨#[46]⟩:=zDH (List.ext_getElem? fun k=>by
    by_cases hk:k<x.size
    · rw [zEp hk]
      have:k=0:=by omega
      subst this
      show some x[0]=some 46
      rw [AJ.1 (show x[0].toNat=(46:UInt8).toNat from h 0 hk)]
    · rw [AD (by omega),AD (by show [46].length≤k;simp;omega)])
   rw [this];exact zI2
 · have:x=⟨#[46,46]⟩:=zDH (List.ext_getElem? fun k=>by
    by_cases hk:k<x.size
    · rw [zEp hk];have e:=AJ.1 (show x[k].toNat=(46:UInt8).toNat from h k hk)
      have:k=0∨k=1:=by omega
      rw [e];rcases this with rfl | rfl<;>rfl
    · rw [AD (by omega),AD (by show [46,46].length≤k;simp;omega)])
   rw [this];exact zJc
theorem zKt (x:ByteArray) (w:World):Calls Ac 75 #[.string x] w fun e w'=>e=.returned (chkV x)∧w=w':=by
 obtain⟨cv,fD⟩:∃ cv:Int,(if chk x=true then (0:Int) else 71)=cv:=⟨_,rfl⟩
 have e1:chkV x=.int .i64 cv:=by unfold chkV;rw [fD]
 rw [e1]
 have bad:Hid (chk x=false→cv=71):=hid fun h=>by rw [←fD,h];rfl
 have good:Hid (chk x=true→cv=0):=hid fun h=>by rw [←fD,h];rfl
 clear e1 fD;go_enter Tryz.func75,Tryz.ntmps75;by_cases h1:1≤x.size
 · by_cases h2:x.size≤40
   · have t1:decide ((x.size:Int)<1)=false:=decide_eq_false (by omega);have t2:decide ((x.size:Int) > 40)=false:=decide_eq_false (by omega);go_wp2
     go_loop [3,4] (fun dt i=>∃ (k:Nat) (b:Bool),k≤x.size∧i=.int .i64 k∧dt=.bool b∧Hid (∀ j (h:j<x.size),j<k→x[j].toNat≠0∧x[j].toNat≠47)∧Hid (b=true↔∀ j (h:j<x.size),j<k→x[j].toNat=46)) (fun _ i=>x.size-(intOf i).toNat)
     case atStart=>exact⟨0,true,Am _,rfl,rfl,hid fun j _ h=>absurd h (by omega),hid ⟨fun _ j _ h=>absurd h (by omega),fun _=>rfl⟩⟩
     case round =>
      obtain⟨k,b,hk,rfl,rfl,ho,hd⟩:=hrel;by_cases fG:k<x.size
      · obtain⟨y,hy⟩:=nM (x[k].toNat);have fI:=hid hy;by_cases b0:y=0∨y=47
        · have hb:=bad.o (chk_byte fG (by rw [hy];exact b0));subst hb;clear bad good ho hd;by_cases b1:y=0
          · have t4:((x[k].toNat:Int)==0)=true:=by rw [hy,b1];rfl
            clear hy;go_wp2;go_ret;exact⟨rfl,rfl⟩
          · have t4:((x[k].toNat:Int)==0)=false:=by rw [hy];simp;omega
            have t5:((x[k].toNat:Int)==47)=true:=by rw [hy];simp;omega
            clear hy;go_wp2;go_ret;exact⟨rfl,rfl⟩
        · have t4:((x[k].toNat:Int)==0)=false:=by rw [hy];simp;omega
          have t5:((x[k].toNat:Int)==47)=false:=by rw [hy];simp;omega
          have fF:Hid (∀ j (h:j<x.size),j<k+1→x[j].toNat≠0∧x[j].toNat≠47):=hid fun j h hj=>by
           by_cases e:j=k
           · subst e;rw [hy];omega
           · exact ho.o j h (by omega)
          cases b with
          | false =>
           have fA:Hid (false=true↔∀ j (h:j<x.size),j<k+1→x[j].toNat=46):=hid ⟨fun h=>(by cases h),fun h=>hd.o.2 fun j hj hk=>h j hj (by omega)⟩;clear hy ho hd bad good;go_wp2;go_round
           case rel=>exact⟨k+1,false,by omega,by go_num,rfl,fF,fA⟩
           case measure=>simp [intOf];omega
          | true =>
           by_cases b6:y=46
           · have t6:((x[k].toNat:Int)==46)=true:=by rw [hy];simp;omega
             have fA:Hid (true=true↔∀ j (h:j<x.size),j<k+1→x[j].toNat=46):=hid ⟨fun _ j h hj=>by
              by_cases e:j=k
              · subst e;rw [hy,b6]
              · exact hd.o.1 rfl j h (by omega),fun _=>rfl⟩
             clear hy ho hd bad good;go_wp2;go_round
             case rel=>exact⟨k+1,true,by omega,by go_num,rfl,fF,fA⟩
             case measure=>simp [intOf];omega
           · have t6:((x[k].toNat:Int)==46)=false:=by rw [hy];simp;omega
             have fA:Hid (false=true↔∀ j (h:j<x.size),j<k+1→x[j].toNat=46):=hid ⟨fun h=>(by cases h),fun h=>absurd ((hy.symm.trans (h k fG (by omega)))) b6⟩;clear hy ho hd bad good;go_wp2;go_round
             case rel=>exact⟨k+1,false,by omega,by go_num,rfl,fF,fA⟩
             case measure=>simp [intOf];omega
      · obtain rfl:k=x.size:=by omega
        have fB:∀ j (h:j<x.size),x[j].toNat≠0∧x[j].toNat≠47:=fun j h=>ho.o j h h;have fE:okTo x x.size:=fun j h _=>⟨fun e=>(fB j h).1 (by rw [e];rfl),fun e=>(fB j h).2 (by rw [e];rfl)⟩
        have fH:x≠⟨#[]⟩:=fun e=>by rw [e] at h1;exact absurd h1 (by decide)
        have fC:(b=true→2<x.size)→chk x=true:=fun hb=>chk_all fE fH h2
         (fun e=>by
          have h9:b=true:=hd.o.2 fun j hj _=>by
           subst e
           have:j=0:=by have:j<1:=hj;omega
           subst this;rfl
          have:=hb h9;rw [e] at this;exact absurd this (by decide))
         (fun e=>by
          have h9:b=true:=hd.o.2 fun j hj _=>by
           subst e
           have:j=0∨j=1:=by have:j<2:=hj;omega
           rcases this with rfl | rfl<;>rfl
          have:=hb h9;rw [e] at this;exact absurd this (by decide))
        cases b with
        | false =>
         have hg:=good.o (fC fun h=>by cases h);subst hg;clear bad good fC ho hd fB fE;go_wp2;go_ret;exact⟨rfl,rfl⟩
        | true =>
         by_cases h3:x.size≤2
         · have hb:=bad.o (dots_two (fun j h=>hd.o.1 rfl j h h) h1 h3);subst hb;have t7:decide ((x.size:Int)≤2)=true:=decide_eq_true (by omega);clear bad good fC ho hd fB fE;go_wp2;go_ret;exact⟨rfl,rfl⟩
         · have hg:=good.o (fC fun _=>by omega);subst hg;have t7:decide ((x.size:Int)≤2)=false:=decide_eq_false (by omega);clear bad good fC ho hd fB fE;go_wp2;go_ret;exact⟨rfl,rfl⟩
   · have hb:=bad.o (zI3 (by omega));subst hb;have t1:decide ((x.size:Int)<1)=false:=decide_eq_false (by omega);have t2:decide ((x.size:Int) > 40)=true:=decide_eq_true (by omega);clear bad good;go_wp2;go_ret;exact⟨rfl,rfl⟩
 · have hb:=bad.o (by unfold chk;exact decide_eq_false fun h=>h1 (by omega));subst hb;have t1:decide ((x.size:Int)<1)=true:=decide_eq_true (by omega);clear bad good;go_wp2;go_ret;exact⟨rfl,rfl⟩
def Fo (p:ByteArray):Prop:=1≤p.size∧p.size≤400∧p.data.toList[0]? = some 47∧∀ j,p.data.toList[j+1]? = some 47→p.data.toList[j]?≠some 47∧j+2≠p.size
theorem zIn (p:ByteArray) (w:World):Calls Ac 74 #[.string p] w fun e w'=>(∃ b,e=.returned (.bool b)∧(b=true→Fo p)∧(b=false→spl p=([],70)))∧w=w':=by
 obtain⟨Q,hQ⟩:∃ Q:Ending→World→Prop,(fun e w'=>(∃ b,e=.returned (.bool b)∧(b=true→Fo p)∧(b=false→spl p=([],70)))∧w=w')=Q:=⟨_,rfl⟩;rw [hQ];have fB:=hid hQ;clear hQ;go_enter Tryz.func74,Tryz.ntmps74;by_cases h1:1≤p.size
 · have t1:decide ((p.size:Int)<1)=false:=decide_eq_false (by omega);by_cases h2:p.size≤400
   · have t2:decide ((p.size:Int) > 400)=false:=decide_eq_false (by omega);have h0:0<p.size:=h1;obtain⟨y,hy⟩:=nM (p[0].toNat);by_cases h3:y=47
     · have t3:((p[0].toNat:Int) != 47)=false:=by rw [hy,h3];rfl
       have fD:Hid (p.data.toList[0]? = some 47):=hid (by rw [zEp h0,AJ.1 (show p[0].toNat=(47:UInt8).toNat by rw [hy,h3];rfl)]);clear hy;go_wp2
       go_loop [3] (fun i=>∃ m:Nat,m+1≤p.size∧i=.int .i64 ((m+1:Nat):Int)∧Hid (∀ j,j<m→p.data.toList[j+1]? = some 47→p.data.toList[j]?≠some 47∧j+2≠p.size)) (fun i=>p.size-(intOf i).toNat)
       case atStart=>exact⟨0,by omega,rfl,hid fun j h=>absurd h (by omega)⟩
       case round =>
        obtain⟨m,hm,rfl,ho⟩:=hrel
        have v1:IntKind.i64.wrap (((m+1:Nat):Int)-1)=(m:Int):=by rw [zAF _ (by omega)];omega
        have v2:IntKind.i64.wrap ((m:Int)+1-1)=(m:Int):=by rw [zAF _ (by omega)];omega
        have v3:IntKind.i64.wrap (m:Int)=(m:Int):=zAF _ (by omega);have v4:IntKind.i64.wrap ((p.size:Int)-1)=(p.size:Int)-1:=zAF _ (by omega);by_cases fE:m+1<p.size
        · have fF:m<p.size:=by omega
          have fH:((m:Int)+1)<(p.size:Int):=by omega
          have ga:=zEp fF;have gb:=zEp fE;obtain⟨a,ha⟩:=nM (p[m]);obtain⟨b,hb⟩:=nM (p[m+1]);rw [ha] at ga;rw [hb] at gb;have gaH:=hid ga;have gbH:=hid gb;clear ga gb;by_cases eb:b.toNat=47
          · have tb:((p[m+1].toNat:Int)==47)=true:=by rw [hb,eb];rfl
            have gb2:p.data.toList[m+1]? = some 47:=by rw [gbH.o,AJ.1 (show b.toNat=(47:UInt8).toNat from eb)]
            by_cases ea:a.toNat=47
            · have ta:((p[m].toNat:Int)==47)=true:=by rw [ha,ea];rfl
              have fA:=hid (spl_bad gb2 (.inl (by rw [gaH.o,AJ.1 (show a.toNat=(47:UInt8).toNat from ea)])));clear gb2 ho ha hb;go_wp2;rw [←fB.o];exact⟨⟨false,rfl,fun h=>(by cases h),fun _=>fA.o⟩,rfl⟩
            · have ta:((p[m].toNat:Int)==47)=false:=by rw [ha];simp;omega
              by_cases el:m+2=p.size
              · have tl:((((m+1:Nat):Int))==(p.size:Int)-1)=true:=by simp;omega
                have tl2:(((m:Int)+1)==(p.size:Int)-1)=true:=by simp;omega
                have fA:=hid (spl_bad gb2 (.inr el));clear gb2 ho ha hb;go_wp2;rw [←fB.o];exact⟨⟨false,rfl,fun h=>(by cases h),fun _=>fA.o⟩,rfl⟩
              · have tl:((((m+1:Nat):Int))==(p.size:Int)-1)=false:=by simp;omega
                have tl2:(((m:Int)+1)==(p.size:Int)-1)=false:=by simp;omega
                have fC:Hid (∀ j,j<m+1→p.data.toList[j+1]? = some 47→p.data.toList[j]?≠some 47∧j+2≠p.size):=hid fun j hj h=>by
                 by_cases e:j=m
                 · subst e;refine⟨fun h9=>ea ?_,el⟩;rw [gaH.o] at h9;rw [An h9];rfl
                 · exact ho.o j (by omega) h
                clear gb2 ho ha hb;go_wp2;go_round
                case rel=>exact⟨m+1,by omega,by go_num,fC⟩
                case measure=>simp [intOf];omega
          · have tb:((p[m+1].toNat:Int)==47)=false:=by rw [hb];simp;omega
            have fC:Hid (∀ j,j<m+1→p.data.toList[j+1]? = some 47→p.data.toList[j]?≠some 47∧j+2≠p.size):=hid fun j hj h=>by
             by_cases e:j=m
             · subst e;rw [gbH.o] at h;exact absurd (by rw [An h];rfl) eb
             · exact ho.o j (by omega) h
            clear ho ha hb;go_wp2;go_round
            case rel=>exact⟨m+1,by omega,by go_num,fC⟩
            case measure=>simp [intOf];omega
        · have fI:m+1=p.size:=by omega
          have fG:Hid (Fo p):=hid ⟨h1,h2,fD.o,fun j h=>by
           have:=(List.getElem?_eq_some_iff.1 h).1;rw [AK] at this;have this:j+1<p.size:=this;exact ho.o j (by omega) h⟩
          clear ho;go_wp2;rw [←fB.o];exact⟨⟨true,rfl,fun _=>fG.o,fun h=>(by cases h)⟩,rfl⟩
     · have t3:((p[0].toNat:Int) != 47)=true:=by rw [hy];simp;omega
       have fA:=hid (zF9 (p:=p) (.inr (by
        rw [zEp h0];intro h
        apply h3
        rw [←hy,An h];rfl)))
       clear hy;go_wp2;rw [←fB.o];exact⟨⟨false,rfl,fun h=>(by cases h),fun _=>fA.o⟩,rfl⟩
   · have t2:decide ((p.size:Int) > 400)=true:=decide_eq_true (by omega);have fA:=hid (zF9 (p:=p) (.inl (by omega)));go_wp2;rw [←fB.o];exact⟨⟨false,rfl,fun h=>(by cases h),fun _=>fA.o⟩,rfl⟩
 · have t1:decide ((p.size:Int)<1)=true:=decide_eq_true (by omega)
   have fA:=hid (zF9 (p:=p) (.inr (by
    rw [AD (by rw [AK];show p.size≤0;omega)];simp)))
   go_wp2;rw [←fB.o];exact⟨⟨false,rfl,fun h=>(by cases h),fun _=>fA.o⟩,rfl⟩
end Go.Proofs.YtolpcfhfcdkokaaGreatDoor
