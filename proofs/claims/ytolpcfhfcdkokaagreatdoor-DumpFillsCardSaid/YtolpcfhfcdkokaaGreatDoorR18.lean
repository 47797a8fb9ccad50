/- Joined out of DLay..LHelp. -/
import Derived.Test.YtolpcfhfcdkokaaGreatDoorR16
set_option maxHeartbeats 16000000
set_option maxRecDepth 100000
set_option linter.unusedSimpArgs false
set_option linter.unusedVariables false
namespace Go.Proofs.YtolpcfhfcdkokaaGreatDoor
open Lib (hid)
open World renaming block_lt_of_cell? → Aa
open Proofs.Tryz renaming prog → Ab,underlying101 → Ac,underlying64 → Ad
open Option.some renaming inj → Ae
open List renaming length_take → Af,length_drop → Ag,getElem?_cons_succ → Ah,getElem?_cons_zero → Ai
open Blk renaming new → Aj
open Code renaming wp → Ak
open Nat renaming le_refl → Al,le_trans → Am,lt_of_lt_of_le → An
open Sees renaming of_own → Ao,nil → Ap
open Chg renaming refl → Aq,of_fresh → Ar
open Ext renaming refl → As
open Go.RowKit Go.Proofs
theorem Sees.chgS {w w1:World} {B size n:Nat} {A:Option Addr} {xs:List Value} {S:Nat→Prop} (h:Sees w B size A n xs) (hs:0<size) (hc:Chg S w w1) (hn:∀ b off,A=some ⟨b,off,none⟩→0<n→¬S b):Sees w1 B size A n xs:=by
 refine⟨h.len,fun h0=>?_⟩;obtain⟨b,off,e,hb,fA⟩:=h.at_ h0
 have hl:0<xs.length:=by rw [h.len];exact Nat.mul_pos h0 hs
 have fB:b<w.heap.size:=Aa _ _ (fA 0 _ (List.getElem?_eq_getElem hl));exact⟨b,off,e,hb,fun j u hu=>(hc.cell (p:=⟨b,off+j,none⟩) fB (hn b off e h0)).trans (fA j u hu)⟩
def Off (own:Nat→Option Role) (A:Option Addr) (n:Nat):Prop:=∀ b off,A=some ⟨b,off,none⟩→0<n→own b=none
theorem zDE (W:World) (b off len c lo hi:Nat) (h1:lo<hi) (h2:hi≤len) (h3:len≤c):(Instr.sliceAt 64 (.slice (some ⟨b,off,none⟩) len c) (some (.int .i64 (lo:Int))) (some (.int .i64 (hi:Int))) none).run Ab W=.ok (.slice (some ⟨b,off+lo,none⟩) (hi-lo) (c-lo)) W:=by
 have hu:Tryz.prog.underlying 64=some (.slice (Tryz.prog.elem 64)):=by kernel_rfl
 have hs:(sizeOf (Tryz.prog.elem 64)).run Ab W=.ok 1 W:=by kernel_rfl
 rw [run_sliceAt_slice W 64 _ _ _ _ hu,run_slice_lh W 64 (some ⟨b,off,none⟩) len c hu .i64 .i64 lo hi (by omega) (by omega) (by omega),hs]
 have fA:¬c=lo:=by omega
 simp [Result.andThen,sliced,fA,Addr.add_lit]
theorem zCw {w:World} {B:Nat} {b off len:Nat} {d:List UInt8} (h:Sees w B 1 (some ⟨b,off,none⟩) len (bvs d)) (hl:d.length=len) {lo hi:Nat} (h1:lo<hi) (h2:hi≤len):Sees w B 1 (some ⟨b,off+lo,none⟩) (hi-lo) (bvs ((d.drop lo).take (hi-lo))):=by
 obtain⟨b',off',e,hb,fA⟩:=h.at_ (by omega);have e:=Ae e;injection e with e1 e2;subst e1;subst e2;refine⟨by rw [zAc,Af,Ag];omega,fun _=>⟨b,off+lo,rfl,hb,fun j u hu=>?_⟩⟩;rw [Nat.add_assoc];refine fA (lo+j) u ?_;simp only [bvs,List.getElem?_map,List.getElem?_take,List.getElem?_drop] at hu ⊢
 split at hu
 · exact hu
 · simp at hu
theorem zch_eq (d:List UInt8) (e:Nat):((d.drop e).take (min (e+128) d.length-e)).all (·==0)=zch d e:=by
 unfold zch
 congr 1
 by_cases h:e+128≤d.length
 · rw [show min (e+128) d.length-e=128 by omega]
 · rw [List.take_of_length_le (by rw [Ag];omega),List.take_of_length_le (by rw [Ag];omega)]
theorem zFb (d:List UInt8) (a:Nat) (f e:Nat) (h:¬(e<d.length∧e-a<131072∧zch d e=false)):zBF d a f e=e:=by
 cases f with
 | zero=>rfl
 | succ f=>rw [zBF,if_neg h]
theorem runE_go (d:List UInt8) (a:Nat) (f e:Nat) (h:e<d.length∧e-a<131072∧zch d e=false):zBF d a (f+1) e=zBF d a f (min (e+128) d.length):=by rw [zBF,if_pos h]
theorem fin_in {own:Nat→Option Role} {p mb z:Nat} {T:PT} {wr W w6:World} (h:zAv own p mb T W w6) (hb:Below wr.heap.size wr W) (fA:∀ b r,own b=some r→b<wr.heap.size) (hz:wr.heap.size≤z) (fB:z<W.heap.size):∀ wf,Chg (fun b=>b=z) w6 wf→zAv own p mb T wr wf:=fun wf hc =>
 h.after2 hb fA (hc.mono fun b _ e=>by rw [e];exact⟨hz,fB⟩)
def EndI (d:List UInt8) (a:Nat) (v:Value):Prop:=∃ e f:Nat,v=.int .i64 (e:Int)∧a≤e∧e≤d.length∧e≤a+131072∧zBF d a 1100 a=zBF d a f e∧(e=d.length∨140800≤(e-a)+128 * f)∧(e=a∨e=d.length∨a+128≤e)∧((e-a) % 128=0∨e=d.length)
def LoopL (own:Nat→Option Role) (p mb:Nat) (w0:World) (x:ByteArray) (d:List UInt8) (R:PT×Nat) (v:Value) (wr:World):Prop :=
 ∃ a f T1,v=.int .i64 (a:Nat)∧a≤d.length+127∧R=zGF x d f T1 a∧T1.Inv∧zAv own p mb T1 w0 wr∧d.length+128≤a+128 * f
def LayP (own:Nat→Option Role) (p mb:Nat) (r:PT×Nat) (w:World) (e:Ending) (w':World):Prop:=e=.returned (.int .i64 (r.2:Int))∧zAv own p mb r.1 w w'
def ndC (x:ByteArray) (kd md:Int) (sm:ByteArray) (A:Option Addr) (n c:Nat):List Value:=[.string x,.int .i64 kd,.int .i64 md,.string sm,.slice A n c]
theorem dlay_any (own:Nat→Option Role) (lay:Nat→NA) (p mb:Nat) (T:PT) (m0:Int) (w:World) (h:PlainAt w own lay p mb T) (hI:T.Inv) (hm:w.cell? ⟨0,0,none⟩=some (.int .i64 m0)) (kT:own 0=none)
 (x:ByteArray) (kd md:Int) (sm:ByteArray) (A:Option Addr) (c:Nat) (d:List UInt8) (hs:Sees w w.heap.size 1 A d.length (bvs d)) (gD:Off own A d.length) (hc:d.length≤c) (hd:d.length≤136704) (hx:x.size≤3000000) :
 Calls Ab 59 #[ifV p,.agg (ndC x kd md sm A d.length c).toArray] w (LayP own p mb (zGF x d 1100 T 0) w):=by
 obtain⟨R,hR⟩:=nM (zGF x d 1100 T 0);rw [hR];obtain⟨len,gE⟩:=nM (d.length);have jH:Blk (w.alloc (.cells (ndC x kd md sm A len c).toArray 75)) w.heap.size 75 (ndC x kd md sm A len c):=Aj w _ _;have fY:Below w.heap.size w (w.alloc (.cells (ndC x kd md sm A len c).toArray 75)):=br.alloc nr _
 have kU:(w.alloc (.cells (ndC x kd md sm A len c).toArray 75)).heap.size=w.heap.size+1:=by simp
 have kV:=zAv.same h fY;have kA:zAv own p mb T (w.alloc (.cells (ndC x kd md sm A len c).toArray 75)) (w.alloc (.cells (ndC x kd md sm A len c).toArray 75)):=zAv.same (h.fresh fY) br;have jI:=(hs.below fY).more fY.size;have jJ:own w.heap.size=none:=h.free nr;have gR:(w.alloc (.cells (ndC x kd md sm A len c).toArray 75)).cell? ⟨0,0,none⟩=some (.int .i64 m0):=(fY.cell (p:=⟨0,0,none⟩) (Aa _ _ hm)).trans hm;have kW:=hid h.lt;unfold ifV;rw [gE] at jI gD hc hd ⊢;have fA:=hid gE;unfold ndC;go_enter Tryz.func59,Tryz.ntmps59;go_upto_region 1 with (fail);change Ak _ _ _ _ (w.alloc (.cells (ndC x kd md sm A len c).toArray 75));generalize w.alloc (.cells (ndC x kd md sm A len c).toArray 75)=w0 at *;obtain⟨g,jC⟩:=nM (w.heap.size);rw [jC] at jH fY kU jJ;simp only [jC];have kC:=hid jC;have kD:=hid fY;have kX:=hid jH;have kY:=hid jI;have kZ:=hid gD;have gS:=hid jJ;have kE:=hid gR;clear jC fY jH jI hs gD jJ gR hm h kV gE;go_wp2
 go_loopw [5] (fun v wr=>LoopL own p mb w0 x d R v wr) (fun v _=>len+128-(intOf v).toNat)
 case atStart=>exact⟨0,1100,T,rfl,by omega,hR.symm,hI,kA,by have:=fA.o;omega⟩
 case round =>
  obtain⟨a,f,T1,rfl,ha,kF,kG,kI,hf⟩:=hrel;have jK:=hid kI;obtain⟨own1,zCu,kJ,kK,gP⟩:=kI;have fO:=hid (kX.o.chg gP (fun hh=>hh gS.o));have jL:=hid (kY.o.chgS (by decide) gP (fun b off e hn hh=>hh (kZ.o b off e hn)) |>.more gP.size);have jM:=hid ((gP.cell (p:=⟨0,0,none⟩) (Aa _ _ kE.o) (fun hh=>hh kT)).trans kE.o);have jD:=hid kG;have gF:=hid kJ;have gG:=hid kK;have gT:=hid gP;have gH:=hid kF;rw [fA.o] at ha hf;have y0:=fO.o.cell 0;have y4:=fO.o.cell 4;simp only [ndC,Ah,Ai] at y0 y4;clear kG kJ kK gP kF kA;by_cases jE:a<len
  · have t1:decide ((a:Int)<(len:Int))=true:=by simpa using jE
    obtain⟨b,off,hA,lH,-⟩:=jL.o.at_ (by omega);subst hA;go_upto_region 4 with (fail)
    go_loopw [6] (fun v wr'=>EndI d a v∧wr'=wr) (fun v _=>len-(intOf v).toNat)
    case atStart=>exact⟨⟨a,1100,rfl,Al _,by rw [fA.o];omega,by omega,rfl,.inr (by omega),.inl rfl,.inl (by simp)⟩,rfl⟩
    case round =>
     obtain⟨⟨e,f1,rfl,lI,lA,lJ,kL,jN,jO,jP⟩,rfl⟩:=hrel;rw [fA.o] at lA jN jO jP;have gU:=hid jP;have fS:=hid kL;have gV:=hid jN;have gW:=hid jO;clear kL jN jO jP;have y4:=fO.o.cell 4;simp only [ndC,Ah,Ai] at y4;by_cases jQ:e<len
     case' neg =>
      have t2:decide ((e:Int)<(len:Int))=false:=by simp;omega
      have fK:Hid (zBF d a 1100 a=e):=hid (by rw [fS.o,zFb];intro hh;exact jQ (by rw [←fA.o];exact hh.1));go_upto_region 6 with (fail)
     case' pos =>
      have t2:decide ((e:Int)<(len:Int))=true:=by simpa using jQ
      by_cases kM:e-a<131072
      case' neg =>
       have t3:decide ((e:Int)-(a:Int)<131072)=false:=by simp;omega
       have fK:Hid (zBF d a 1100 a=e):=hid (by rw [fS.o,zFb];intro hh;exact kM hh.2.1);go_upto_region 6 with (fail)
      case' pos =>
       have t3:decide ((e:Int)-(a:Int)<131072)=true:=by simp;omega
       obtain⟨hh,jF⟩:=nM (min (e+128) len)
       have lK:min ((e:Int)+128) (len:Int)=(hh:Int):=by omega
       have lL:∀ W:World,_:=fun W=>zDE W b off len c e hh (by omega) (by omega) hc;have jR:=zCw jL.o fA.o (lo:=e) (hi:=hh) (by omega) (by omega);obtain⟨ch,fZ⟩:=nM ((d.drop e).take (hh-e))
       have fH:ch.length=hh-e:=by rw [←fZ,Af,Ag,fA.o];omega
       rw [fZ,←fH] at jR;have gQ:=empty_any (some ⟨b,off+e,none⟩) (c-e) ch _ jR (by omega);rw [fH,←fZ,show hh-e=min (e+128) d.length-e by rw [fA.o,jF],zch_eq] at gQ;rw [show min (e+128) d.length-e=hh-e by rw [fA.o,jF]] at gQ;have gA:=hid jF;clear jF jR fZ fH;cases fB:zch d e
       case false =>
        rw [fB] at gQ;have jS:=hid fB;clear fB;go_wp2_with (go_at_call 90;refine gQ.mono ?_;rintro e' w' ⟨rfl,rfl⟩);go_roundw
        case rel =>
         obtain⟨f2,rfl⟩:∃ f2,f1=f2+1:=⟨f1-1,by have:=gV.o;omega⟩;refine⟨⟨hh,f2,rfl,by have:=gA.o;omega,by rw [fA.o];have:=gA.o;omega,by have:=gA.o;have:=gU.o;omega,?_,?_,?_,?_⟩,trivial⟩
         · rw [fS.o,runE_go _ _ _ _ ⟨by rw [fA.o];exact jQ,kM,jS.o⟩,fA.o,gA.o]
         · rw [fA.o];have h1:=gV.o;have h2:=gA.o;omega
         · rw [fA.o];have h1:=gW.o;have h2:=gA.o;omega
         · rw [fA.o];have h1:=gU.o;have h2:=gA.o;omega
        case measure =>
         have:=gA.o
         simp [intOf]
         omega
       case' true =>
        rw [fB] at gQ;have fK:Hid (zBF d a 1100 a=e):=hid (by rw [fS.o,zFb];rw [fB];simp);clear fB;go_upto_region 6 with (go_at_call 90;refine gQ.mono ?_;rintro e' w' ⟨rfl,rfl⟩)
     all_goals
      by_cases jT:e=a
      · have t9:((e:Int)==(a:Int))=true:=by simp;omega
        have fF:Hid (R=zGF x d (f-1) T1 (a+128)):=hid (by
         have h1:=gH.o;obtain⟨f2,gI⟩:∃ f2,f=f2+1:=⟨f-1,by omega⟩;rw [gI,zGF,if_pos (by rw [fA.o];exact jE),if_pos (by rw [fK.o,jT])] at h1;rw [gI];exact h1)
        have lM:IntKind.i64.wrap ((a:Int)+128)=((a+128:Nat):Int):=by rw [IntWalk.i64_in _ (by omega)];omega
        clear fK;subst jT;go_wp2;go_roundw
        case rel=>exact⟨e+128,f-1,T1,by go_num,by rw [fA.o];omega,fF.o,jD.o,jK.o,by rw [fA.o];omega⟩
        case measure =>
         simp [intOf]
         omega
      · have t9:((e:Int)==(a:Int))=false:=by simp;omega
        have lN:a<e:=by omega
        have fF:Hid (R=if (T1.run (opW x a ((d.drop a).take (e-a)))).2.code≠0 then ((T1.run (opW x a ((d.drop a).take (e-a)))).1,(T1.run (opW x a ((d.drop a).take (e-a)))).2.code) else zGF x d (f-1) (T1.run (opW x a ((d.drop a).take (e-a)))).1 e):=hid (by
         have h1:=gH.o;obtain⟨f2,gI⟩:∃ f2,f=f2+1:=⟨f-1,by omega⟩;rw [gI,zGF,if_pos (by rw [fA.o];exact jE),fK.o,if_neg jT] at h1;rw [gI];exact h1)
        have lB:Hid (d.length+128≤e+128 * (f-1)):=hid (by rw [fA.o];have:=gW.o;omega);obtain⟨ch,fZ⟩:=nM ((d.drop a).take (e-a))
        have fH:ch.length=e-a:=by rw [←fZ,Af,Ag,fA.o];omega
        have lC:∀ W:World,_:=fun W=>zDE W b off len c a e (by omega) (by omega) hc;have fT:=zCw jL.o fA.o (lo:=a) (hi:=e) (by omega) (by omega);rw [fZ] at fF fT;rw [←fH] at fT;have gX:=hid fT;have fL:=hid fH;have fP:=hid gF.o.lt;have y0:=fO.o.cell 0;have y4:=fO.o.cell 4;simp only [ndC,Ah,Ai] at y0 y4;have lO:g<wr.heap.size:=fO.o.lt
        have b0:(0:Int)≤(a:Int):=by omega
        have b1:(a:Int)≤(e:Int):=by omega
        have b2:(e:Int)≤(c:Int):=by omega
        clear fK fT fZ fH
        have kN:Hid (∀ W:World,Below wr.heap.size wr W→Calls Ab 47 #[.slice (some ⟨b,off+a,none⟩) (e-a) (c-a)] W fun e w'=>∃ v',e=.returned v'∧w'.ownsRow wr.heap.size 5 1 v' ch.length (bvs ch)∧Below wr.heap.size wr w'∧Below W.heap.size W w'):=hid fun W hW=>by
         have h9:=clone_any wr.heap.size (some ⟨b,off+a,none⟩) (c-a) ch W (gX.o.below hW) hW.size (by rw [fL.o];omega);rw [fL.o] at h9;rw [fL.o];exact h9.mono fun _ _ ⟨v,h1,h2,h3⟩=>⟨v,h1,zBY h2 (fun g hg=>by have:=(h2.lt g hg).1;have:=hW.size;omega),hW.trans (h3.mono hW.size),h3⟩
        have gY:Hid (own1 g=none):=hid (by
         cases ee:own1 g with
         | none=>rfl
         | some r=>
          rcases gG.o.new g r ee with e2 | e2
          · rw [gS.o] at e2;cases e2
          · omega)
        have fM:Hid (∀ (w5:World) (A5:Option Addr) (c5:Nat),Below wr.heap.size wr w5→Sees w5 w5.heap.size 1 A5 ch.length (bvs ch)→ch.length≤c5→Calls Ab 51 #[.iface 25 (.pointer (some ⟨p,0,none⟩)),.agg #[.int .i64 7,.string x,.string ⟨#[]⟩,.int .i64 (a:Int),.int .i64 0,.slice A5 ch.length c5,.int .i64 0,.int .i64 0]] w5 (AskT own1 p mb (T1.run (opW x a ch)) w5)):=hid fun w5 A5 c5 hb hs hc=>ask_t own1 zCu p mb T1 (opW x a ch) A5 c5 m0 w5 (gF.o.fresh hb) jD.o.wf ⟨hs,hc,by show ch.length<_;rw [fL.o];omega,by show (a:Int)≤_∧_≤(a:Int);omega,⟨(by decide:(0:Int)≤9223372036854775807),(by decide:(-9223372036854775808:Int)≤0)⟩,Am hx (by decide),(by decide:(0:Nat)≤100000000)⟩ ((hb.cell (p:=⟨0,0,none⟩) (Aa _ _ jM.o)).trans jM.o);obtain⟨r,hr⟩:=nM (T1.run (opW x a ch));rw [hr] at fF fM;obtain⟨T2,an⟩:=r;have lD:=hid hr;clear hr;go_upto_region 8 with (fail);have kO:Below wr.heap.size wr wr.drew:=br.drew;have gZ:=(Aj wr 67 zAk).drew;have kP:Below wr.heap.size wr (wr.alloc (.cells zAk.toArray 67)).drew:=((Below.refl wr.heap.size wr).alloc nr _).drew;have jU:=hid kO;have jV:=hid kP;have jW:=hid gZ;clear kO kP gZ
        go_region_held3 (fun w'=>w'.cell? ⟨g,0,none⟩=some (.string x)∧w'.cell? ⟨g,4,none⟩=some (.slice (some ⟨b,off,none⟩) len c))
         (first | go_keep)
         (first
          | (go_at_call 47;first
           | ((with_reducible refine (kN.o wr.drew jU.o).mono ?_);rintro e' w5 ⟨v5,rfl,fU,gJ,-⟩;obtain⟨g5,c5,rfl,gK,-⟩:=zC8 fU (by rw [fL.o];omega);have gL:Hid (Sees w5 w5.heap.size 1 (some ⟨g5,0,none⟩) ch.length (bvs ch)):=hid (by obtain⟨A',c',e',jX⟩:=Ao (B:=w5.heap.size) fU (fun g hg=>(fU.lt g hg).2);injection e' with e1 e2 e3;rw [e1];exact jX);have jA:Hid (w5.heap.size<(w5.alloc (.cells zAk.toArray 67)).heap.size):=hid (by simp);have fV:=fO.o.fresh gJ;have u0:=fV.cell 0;have u4:=fV.cell 4;simp only [ndC,Ah,Ai] at u0 u4;have fD:=hid gJ;have lE:=hid (Aj w5 67 zAk);have gM:=hid fV;clear fU gJ fV)
           | ((with_reducible refine (kN.o (wr.alloc (.cells zAk.toArray 67)).drew jV.o).mono ?_);rintro e' w5 ⟨v5,rfl,fU,gJ,kQ⟩;obtain⟨g5,c5,rfl,gK,-⟩:=zC8 fU (by rw [fL.o];omega);have gL:Hid (Sees w5 w5.heap.size 1 (some ⟨g5,0,none⟩) ch.length (bvs ch)):=hid (by obtain⟨A',c',e',jX⟩:=Ao (B:=w5.heap.size) fU (fun g hg=>(fU.lt g hg).2);injection e' with e1 e2 e3;rw [e1];exact jX);have jA:Hid (w5.heap.size<(w5.alloc (.cells zAk.toArray 67)).heap.size):=hid (by simp);have fV:=fO.o.fresh gJ;have u0:=fV.cell 0;have u4:=fV.cell 4;simp only [ndC,Ah,Ai] at u0 u4;have fD:=hid gJ;have kR:=hid (jW.o.fresh kQ);have gM:=hid fV;clear fU gJ kQ fV))
          | (go_at_call 51;first
           | ((with_reducible refine (fM.o w5 (some ⟨g5,0,none⟩) c5 fD.o gL.o gK).mono ?_);rintro e' w6 ⟨v6,rfl,jB,fW⟩;obtain⟨dA,dc,eA,ec,rfl,-,-⟩:=jB;have fG:=hid fW;obtain⟨own6,lay6,-,-,fQ⟩:=fG.o;have fN:=gM.o.chg fQ (fun hh=>hh gY.o);have k0:=fN.cell 0;have k4:=fN.cell 4;simp only [ndC,zAq,Ah,Ai] at k0 k4 ⊢;first
            | (have fJ:=kR.o.chg fQ (fun hh=>by (have h9:=fP.o _ _ (Option.ne_none_iff_exists'.1 hh).choose_spec;exact absurd h9 (Nat.lt_irrefl _)));have fB:=fun j=>fJ.cell j;have fC:=fun j=>fJ.frozen j;have z0:=fB 0;have z1:=fB 1;have z2:=fB 2;have z3:=fB 3;have z4:=fB 4;have z5:=fB 5;have z6:=fB 6;have z7:=fB 7;have z8:=fB 8;have z9:=fB 9;have f0:=fC 0;have f1:=fC 1;have f2:=fC 2;have f3:=fC 3;have f4:=fC 4;have f5:=fC 5;have f6:=fC 6;have f7:=fC 7;have f8:=fC 8;have f9:=fC 9;simp only [zAk,Ah,Ai] at z0 z1 z2 z3 z4 z5 z6 z7 z8 z9;clear fB fC;have fE:w5.heap.size≤w6.heap.size:=fQ.size;obtain⟨wf,gB⟩:∃ wf:World,((((((((((w6.setCell ⟨wr.heap.size,0,none⟩ (.int .i64 (an.code:Int))).setCell ⟨wr.heap.size,1,none⟩ (.int .i64 an.stat.ino)).setCell ⟨wr.heap.size,2,none⟩ (.int .i64 an.stat.kind)).setCell ⟨wr.heap.size,3,none⟩ (.int .i64 an.stat.links)).setCell ⟨wr.heap.size,4,none⟩ (.int .i64 an.stat.size)).setCell ⟨wr.heap.size,5,none⟩ (.int .i64 an.stat.made)).setCell ⟨wr.heap.size,6,none⟩ (.int .i64 an.stat.blocks)).setCell ⟨wr.heap.size,7,none⟩ (.slice dA an.data.length dc)).setCell ⟨wr.heap.size,8,none⟩ (.slice eA an.ents.length ec)).setCell ⟨wr.heap.size,9,none⟩ (.bool false))=wf:=⟨_,rfl⟩;have fI:=hid gB;clear gB;have fR:=(fN).chg (zKx w6 wr.heap.size (.int .i64 (an.code:Int)) (.int .i64 an.stat.ino) (.int .i64 an.stat.kind) (.int .i64 an.stat.links) (.int .i64 an.stat.size) (.int .i64 an.stat.made) (.int .i64 an.stat.blocks) (.slice dA an.data.length dc) (.slice eA an.ents.length ec) (.bool false)) (by have h7:=fO.o.lt;have h6:=fD.o.size;have h5:w5.heap.size≤w6.heap.size:=fE;omega);have q0:=fR.cell 0;have q4:=fR.cell 4;simp only [ndC,Ah,Ai] at q0 q4;clear fR;have fX:Hid (zAv own1 p mb T2 wr wf):=hid (by rw [←fI.o];exact fin_in fG.o fD.o fP.o (z:=wr.heap.size) nr kR.o.lt _ (zKx _ _ (.int .i64 (an.code:Int)) (.int .i64 an.stat.ino) (.int .i64 an.stat.kind) (.int .i64 an.stat.links) (.int .i64 an.stat.size) (.int .i64 an.stat.made) (.int .i64 an.stat.blocks) (.slice dA an.data.length dc) (.slice eA an.ents.length ec) (.bool false)));have gN:=hid fJ;have gC:=hid fE;clear fJ fN fW fQ fE u0 u4)
            | (have fJ:=Aj w6 67 zAk;have fB:=fun j=>fJ.cell j;have fC:=fun j=>fJ.frozen j;have z0:=fB 0;have z1:=fB 1;have z2:=fB 2;have z3:=fB 3;have z4:=fB 4;have z5:=fB 5;have z6:=fB 6;have z7:=fB 7;have z8:=fB 8;have z9:=fB 9;have f0:=fC 0;have f1:=fC 1;have f2:=fC 2;have f3:=fC 3;have f4:=fC 4;have f5:=fC 5;have f6:=fC 6;have f7:=fC 7;have f8:=fC 8;have f9:=fC 9;simp only [zAk,Ah,Ai] at z0 z1 z2 z3 z4 z5 z6 z7 z8 z9;clear fB fC;have fE:w5.heap.size≤w6.heap.size:=fQ.size;obtain⟨wf,gB⟩:∃ wf:World,w6.alloc (.cells #[.int .i64 (an.code:Int),.int .i64 an.stat.ino,.int .i64 an.stat.kind,.int .i64 an.stat.links,.int .i64 an.stat.size,.int .i64 an.stat.made,.int .i64 an.stat.blocks,.slice dA an.data.length dc,.slice eA an.ents.length ec,.bool false] 67)=wf:=⟨_,rfl⟩;have fI:=hid gB;clear gB;have fR:=(fN.alloc _).chg (zKx (w6.alloc (.cells zAk.toArray 67)) w6.heap.size (.int .i64 (an.code:Int)) (.int .i64 an.stat.ino) (.int .i64 an.stat.kind) (.int .i64 an.stat.links) (.int .i64 an.stat.size) (.int .i64 an.stat.made) (.int .i64 an.stat.blocks) (.slice dA an.data.length dc) (.slice eA an.ents.length ec) (.bool false)) (by have h7:=fO.o.lt;have h6:=fD.o.size;have h5:w5.heap.size≤w6.heap.size:=fE;omega);have q0:=fR.cell 0;have q4:=fR.cell 4;simp only [ndC,Ah,Ai] at q0 q4;clear fR;have fX:Hid (zAv own1 p mb T2 wr wf):=hid (by rw [←fI.o];exact (fG.o.after2 fD.o fP.o (Aq _ _)).then_ (br.alloc nr _));have gN:=hid fJ;have gC:=hid fE;clear fJ fN fW fQ fE u0 u4))
           | ((with_reducible refine (fM.o (w5.alloc (.cells zAk.toArray 67)) (some ⟨g5,0,none⟩) c5 (fD.o.trans (((Below.refl w5.heap.size w5).alloc nr _).mono fD.o.size)) ((gL.o.below ((Below.refl w5.heap.size w5).alloc nr _)).more (Nat.le_of_lt jA.o)) gK).mono ?_);rintro e' w6 ⟨v6,rfl,jB,fW⟩;obtain⟨dA,dc,eA,ec,rfl,-,-⟩:=jB;have fG:=hid fW;obtain⟨own6,lay6,-,-,fQ⟩:=fG.o;have fN:=(gM.o.alloc _).chg fQ (fun hh=>hh gY.o);have k0:=fN.cell 0;have k4:=fN.cell 4;simp only [ndC,zAq,Ah,Ai] at k0 k4 ⊢;have fJ:=lE.o.chg fQ (fun hh=>by (have h9:=fP.o _ _ (Option.ne_none_iff_exists'.1 hh).choose_spec;have h8:=fD.o.size;omega));have fB:=fun j=>fJ.cell j;have fC:=fun j=>fJ.frozen j;have z0:=fB 0;have z1:=fB 1;have z2:=fB 2;have z3:=fB 3;have z4:=fB 4;have z5:=fB 5;have z6:=fB 6;have z7:=fB 7;have z8:=fB 8;have z9:=fB 9;have f0:=fC 0;have f1:=fC 1;have f2:=fC 2;have f3:=fC 3;have f4:=fC 4;have f5:=fC 5;have f6:=fC 6;have f7:=fC 7;have f8:=fC 8;have f9:=fC 9;simp only [zAk,Ah,Ai] at z0 z1 z2 z3 z4 z5 z6 z7 z8 z9;clear fB fC;have fE:w5.heap.size≤w6.heap.size:=Am (by simp) fQ.size;obtain⟨wf,gB⟩:∃ wf:World,((((((((((w6.setCell ⟨w5.heap.size,0,none⟩ (.int .i64 (an.code:Int))).setCell ⟨w5.heap.size,1,none⟩ (.int .i64 an.stat.ino)).setCell ⟨w5.heap.size,2,none⟩ (.int .i64 an.stat.kind)).setCell ⟨w5.heap.size,3,none⟩ (.int .i64 an.stat.links)).setCell ⟨w5.heap.size,4,none⟩ (.int .i64 an.stat.size)).setCell ⟨w5.heap.size,5,none⟩ (.int .i64 an.stat.made)).setCell ⟨w5.heap.size,6,none⟩ (.int .i64 an.stat.blocks)).setCell ⟨w5.heap.size,7,none⟩ (.slice dA an.data.length dc)).setCell ⟨w5.heap.size,8,none⟩ (.slice eA an.ents.length ec)).setCell ⟨w5.heap.size,9,none⟩ (.bool false))=wf:=⟨_,rfl⟩;have fI:=hid gB;clear gB;have fR:=(fN).chg (zKx w6 w5.heap.size (.int .i64 (an.code:Int)) (.int .i64 an.stat.ino) (.int .i64 an.stat.kind) (.int .i64 an.stat.links) (.int .i64 an.stat.size) (.int .i64 an.stat.made) (.int .i64 an.stat.blocks) (.slice dA an.data.length dc) (.slice eA an.ents.length ec) (.bool false)) (by have h7:=fO.o.lt;have h6:=fD.o.size;have h5:w5.heap.size≤w6.heap.size:=fE;omega);have q0:=fR.cell 0;have q4:=fR.cell 4;simp only [ndC,Ah,Ai] at q0 q4;clear fR;have fX:Hid (zAv own1 p mb T2 wr wf):=hid (by rw [←fI.o];exact fin_in fG.o (fD.o.trans (((Below.refl w5.heap.size w5).alloc nr _).mono fD.o.size)) fP.o (z:=w5.heap.size) fD.o.size (by simp) _ (zKx _ _ (.int .i64 (an.code:Int)) (.int .i64 an.stat.ino) (.int .i64 an.stat.kind) (.int .i64 an.stat.links) (.int .i64 an.stat.size) (.int .i64 an.stat.made) (.int .i64 an.stat.blocks) (.slice dA an.data.length dc) (.slice eA an.ents.length ec) (.bool false)));have gN:=hid fJ;have gC:=hid fE;clear fJ fN fW fQ fE u0 u4)))
        all_goals
         have kS:Hid (zAv own p mb T2 w0 wf):=hid (zAv.fst gG.o gT.o fX.o);have lF:Hid T2.Inv:=hid (by have h9:=zCa jD.o (opW x a ch);rw [lD.o] at h9;exact h9);clear z0 z1 z2 z3 z4 z5 z6 z7 z8 z9 f0 f1 f2 f3 f4 f5 f6 f7 f8 f9 q0 q4 k0 k4 fX gN;rw [fI.o];clear fI;by_cases jG:an.code=0
         · have lG:((an.code:Int) != 0)=false:=by simp;omega
           have gO:Hid (R=zGF x d (f-1) T2 e):=hid (by have h9:=fF.o;rw [if_neg (by simpa using jG)] at h9;exact h9);clear jG;go_wp2;go_roundw
           case rel=>exact⟨e,f-1,T2,rfl,by rw [fA.o];omega,gO.o,lF.o,kS.o,lB.o⟩
           case measure =>
            simp [intOf]
            omega
         · have lG:((an.code:Int) != 0)=true:=by simp;omega
           have gO:Hid (R=(T2,an.code)):=hid (by have h9:=fF.o;rw [if_pos (by simpa using jG)] at h9;exact h9);clear jG;go_wp2;go_ret;rw [gO.o];exact⟨rfl,zAv.fst (As _ _) (Ar (by rw [kC.o];exact kD.o)) kS.o⟩
  · have t1:decide ((a:Int)<(len:Int))=false:=by simp;omega
    have jY:R=((T1.run (opT x d.length)).1,(T1.run (opT x d.length)).2.code):=by
     have h1:=gH.o;obtain⟨f2,gI⟩:∃ f2,f=f2+1:=⟨f-1,by omega⟩;rw [gI,zGF,if_neg (by rw [fA.o];exact jE)] at h1;exact h1
    have fM:Calls Ab 51 #[.iface 25 (.pointer (some ⟨p,0,none⟩)),.agg #[.int .i64 8,.string x,.string ⟨#[]⟩,.int .i64 (len:Int),.int .i64 0,.slice none 0 0,.int .i64 0,.int .i64 0]] wr (AskT own1 p mb (T1.run (opT x d.length)) wr):=by
     have h9:=ask_t own1 zCu p mb T1 (opT x d.length) none 0 m0 wr gF.o jD.o.wf ⟨Ap,Al _,(by decide:(0:Nat)<1000000000000),by show (d.length:Int)≤_∧_≤(d.length:Int);rw [fA.o];omega,⟨(by decide:(0:Int)≤9223372036854775807),(by decide:(-9223372036854775808:Int)≤0)⟩,Am hx (by decide),(by decide:(0:Nat)≤100000000)⟩ jM.o
     have e:opV (opT x d.length) none 0=.agg #[.int .i64 8,.string x,.string ⟨#[]⟩,.int .i64 (len:Int),.int .i64 0,.slice none 0 0,.int .i64 0,.int .i64 0]:=by rw [←fA.o];rfl
     rw [e] at h9;exact h9
    obtain⟨r,hr⟩:=nM (T1.run (opT x d.length));rw [hr] at jY fM;obtain⟨T2,an⟩:=r;have jZ:=hid jY;clear jY hr
    go_wp2_with (first
     | (go_at_call 51;refine fM.mono ?_;rintro e w6 ⟨v6,rfl,jB,fW⟩;obtain⟨dA,dc,eA,ec,rfl,-,-⟩:=jB;have fG:=hid fW;have fN:=Aj w6 67 zAk;clear fW)
     | (refine stA an.code an.stat (.slice dA an.data.length dc) (.slice eA an.ents.length ec) fN rfl rfl rfl (by rfl) rfl rfl rfl ?_))
    go_ret;rw [jZ.o];refine⟨rfl,zAv.fst (As _ _) (Ar (by rw [kC.o];exact kD.o)) (zAv.fst gG.o gT.o (fG.o.then_ ?_))⟩;exact ((Aq (fun b=>w6.heap.size≤b) w6).alloc _ |>.setRow (fun _=>Al _) _).below nr fun b hb e=>by omega
def zGQ (x:Tn) (fs:List (ByteArray×Unit)):Bool :=
 if x.made<0∨1099511627776<x.made∨136704<x.data.length then false else if x.kind=2 then decide (x.same=emp) && decide (x.data=[]) else if x.kind≠1 then false else decide (x.same=emp) || (decide (x.data=[]) && (zAe x.same fs).isSome)
def opM (x:Tn):Opn:=⟨2,x.path,emp,0,0,[],x.made,0⟩
def opK (x:Tn):Opn:=⟨3,x.same,x.path,0,0,[],0,0⟩
def opC1 (x:Tn):Opn:=⟨1,x.path,emp,0,0,[],x.made,0⟩
noncomputable def zBX (T:PT) (x:Tn):PT×Nat :=
 if x.kind=2 then ((T.run (opM x)).1,(T.run (opM x)).2.code) else if x.same≠emp then ((T.run (opK x)).1,(T.run (opK x)).2.code) else
 if (T.run (opC1 x)).2.code≠0 then ((T.run (opC1 x)).1,(T.run (opC1 x)).2.code) else zGF x.path x.data 1100 (T.run (opC1 x)).1 0
noncomputable def zBA:List Tn→Nat→List (ByteArray×Unit)→PT→PT×Nat×Nat
 | [],k,_,T=>(T,k,0)
 | x::r,k,fs,T=>if zGQ x fs=false then (T,k,171) else if (zBX T x).2≠0 then ((zBX T x).1,k,(zBX T x).2) else zBA r (k+1) (if x.kind=1 then zA2 zAV x.path () fs else fs) (zBX T x).1
noncomputable def PT.fill (T:PT) (l:List Tn):PT×Nat×Nat:=zBA l 0 [] T
def oneV (_:Unit):Value:=.int .i64 1
theorem may_any (x:Tn) (A:Option Addr) (c fb:Nat) (fs:List (ByteArray×Unit)) (w:World) (hm:zAt w zAV oneV 9 fb fs) (hs:x.same.size≤1000000000) (hd:x.data.length≤1000000000000) :
 Calls Ab 37 #[.agg (ndC x.path x.kind x.made x.same A x.data.length c).toArray,.map (some fb)] w fun e w'=>e=.returned (.bool (zGQ x fs))∧Below w.heap.size w w':=by
 obtain⟨rb,fH⟩:=nM (zGQ x fs);rw [fH];have fB:=hid fH;have fI:zAt (w.alloc (.cells (ndC x.path x.kind x.made x.same A x.data.length c).toArray 75)) zAV oneV 9 fb fs:=hm.chg ((Aq (fun _=>False) w).alloc _) id
 have fJ:(zeroValue 3).run Ab (w.alloc (.cells (ndC x.path x.kind x.made x.same A x.data.length c).toArray 75))=.ok (.int .i64 0) (w.alloc (.cells (ndC x.path x.kind x.made x.same A x.data.length c).toArray 75)):=by kernel_rfl
 have lk:=fI.look (t:=101) kStr Ac fJ (keyS x.same (by unfold maxLen;omega));have fK:Below w.heap.size w (w.alloc (.cells (ndC x.path x.kind x.made x.same A x.data.length c).toArray 75)):=br.alloc nr _;have fA:=hid fK
 have fL:orV oneV (.int .i64 0) (zAe x.same fs)=.int .i64 (if (zAe x.same fs).isSome=true then 1 else 0):=by cases zAe x.same fs<;>rfl
 rw [fL] at lk;simp only [zAV] at lk;obtain⟨pa,ki,ma,sa,da⟩:=x;simp only at *;obtain⟨len,fE⟩:=nM (da.length);have fF:=hid fE
 have fG:da=[]↔len=0:=by rw [←fE];exact List.length_eq_zero_iff.symm
 have fD:=hid fG;simp only [fE] at lk fA ⊢;clear fH hm fI fJ fK fL fE fG;unfold ndC at *;go_enter Tryz.func37,Tryz.ntmps37;by_cases h1:ma<0
 · have t1:decide (ma<0)=true:=by simpa using h1
   have hv:rb=false:=by rw [←fB.o];unfold zGQ;rw [if_pos (.inl h1)]
   subst hv;clear fB lk;go_wp2;go_ret;exact⟨rfl,fA.o⟩
 have t1:decide (ma<0)=false:=by simpa using h1
 by_cases h2:1099511627776<ma
 · have t2:decide (1099511627776<ma)=true:=by simpa using h2
   have hv:rb=false:=by rw [←fB.o];unfold zGQ;rw [if_pos (.inr (.inl h2))]
   subst hv;clear fB lk;go_wp2;go_ret;exact⟨rfl,fA.o⟩
 have t2:decide (1099511627776<ma)=false:=by simpa using h2
 by_cases h3:136704<len
 · have t3:decide (136704<(len:Int))=true:=by simp;omega
   have hv:rb=false:=by rw [←fB.o];unfold zGQ;rw [if_pos (.inr (.inr (by show 136704<da.length;rw [fF.o];exact h3)))]
   subst hv;clear fB lk;go_wp2;go_ret;exact⟨rfl,fA.o⟩
 have t3:decide (136704<(len:Int))=false:=by simp;omega
 have fC:Hid (rb=if ki=2 then decide (sa=emp) && decide (da=[]) else if ki≠1 then false else decide (sa=emp) || (decide (da=[]) && (zAe sa fs).isSome)):=hid (by
  rw [←fB.o];unfold zGQ;rw [if_neg (by simp only;rw [fF.o];omega)])
 clear fB h1 h2 h3;by_cases k2:ki=2
 · have s2:(ki==2)=true:=by simpa using k2
   by_cases hs:sa=emp
   · have t4:sa.toList.isEmpty=true:=zC0 hs;by_cases hl:len=0
     · have t5:((len:Int)==0)=true:=by simp;omega
       have hv:rb=true:=by rw [fC.o,if_pos k2];simp [hs,fD.o.2 hl]
       subst hv;clear fC lk k2 hs hl;go_wp2;go_ret;exact⟨rfl,fA.o⟩
     · have t5:((len:Int)==0)=false:=by simp;omega
       have hv:rb=false:=by rw [fC.o,if_pos k2];simp [hs];exact fun h=>hl (fD.o.1 h)
       subst hv;clear fC lk k2 hs hl;go_wp2;go_ret;exact⟨rfl,fA.o⟩
   · have t4:sa.toList.isEmpty=false:=zEk hs
     have hv:rb=false:=by rw [fC.o,if_pos k2];simp [hs]
     subst hv;clear fC lk k2 hs;go_wp2;go_ret;exact⟨rfl,fA.o⟩
 have s2:(ki==2)=false:=by simpa using k2
 by_cases k1:ki=1
 case neg =>
  have s1:(ki != 1)=true:=by simpa using k1
  have hv:rb=false:=by rw [fC.o,if_neg k2,if_pos k1]
  subst hv;clear fC lk k2 k1;go_wp2;go_ret;exact⟨rfl,fA.o⟩
 have s1:(ki != 1)=false:=by simpa using k1
 by_cases hs:sa=emp
 · have t4:sa.toList.isEmpty=true:=zC0 hs
   have hv:rb=true:=by rw [fC.o,if_neg k2,if_neg (by simpa using k1)];simp [hs]
   subst hv;clear fC lk k2 k1 hs;go_wp2;go_ret;exact⟨rfl,fA.o⟩
 have t4:sa.toList.isEmpty=false:=zEk hs;by_cases hl:len=0
 case neg =>
  have t5:((len:Int)==0)=false:=by simp;omega
  have hv:rb=false:=by rw [fC.o,if_neg k2,if_neg (by simpa using k1)];simp [hs];exact fun h=>absurd (fD.o.1 h) hl
  subst hv;clear fC lk k2 k1 hs hl;go_wp2;go_ret;exact⟨rfl,fA.o⟩
 have t5:((len:Int)==0)=true:=by simp;omega
 cases hg:(zAe sa fs).isSome with
 | true =>
  rw [hg] at lk;simp only [if_true] at lk
  have hv:rb=true:=by rw [fC.o,if_neg k2,if_neg (by simpa using k1)];simp [hg,fD.o.2 hl]
  subst hv;clear fC k2 k1 hs hl;go_wp2;go_ret;exact⟨rfl,fA.o⟩
 | false =>
  rw [hg] at lk;simp only [Bool.false_eq_true,if_false] at lk
  have hv:rb=false:=by rw [fC.o,if_neg k2,if_neg (by simpa using k1)];simp [hg,hs]
  subst hv;clear fC k2 k1 hs hl;go_wp2;go_ret;exact⟨rfl,fA.o⟩
theorem ask_0 (own:Nat→Option Role) (lay:Nat→NA) (p mb:Nat) (T:PT) (m0:Int) (w:World) (h:PlainAt w own lay p mb T) (hI:T.Inv) (hm:w.cell? ⟨0,0,none⟩=some (.int .i64 m0)) (k:Int) (a b:ByteArray) (md:Int) (ha:a.size≤3000000) (hb:b.size≤3000000) :
 Calls Ab 51 #[.iface 25 (.pointer (some ⟨p,0,none⟩)),.agg #[.int .i64 k,.string a,.string b,.int .i64 0,.int .i64 0,.slice none 0 0,.int .i64 md,.int .i64 0]] w (AskT own p mb (T.run ⟨k,a,b,0,0,[],md,0⟩) w) :=
 ask_t own lay p mb T ⟨k,a,b,0,0,[],md,0⟩ none 0 m0 w h hI.wf ⟨Ap,Al _,(by decide:(0:Nat)<1000000000000),⟨(by decide:(0:Int)≤9223372036854775807),(by decide:(-9223372036854775808:Int)≤0)⟩,⟨(by decide:(0:Int)≤9223372036854775807),(by decide:(-9223372036854775808:Int)≤0)⟩,Am ha (by decide),Am hb (by decide)⟩ hm
theorem zJV (own:Nat→Option Role) (lay:Nat→NA) (p mb:Nat) (T:PT) (m0:Int) (w:World) (h:PlainAt w own lay p mb T) (hI:T.Inv) (hm:w.cell? ⟨0,0,none⟩=some (.int .i64 m0)) (gT:own 0=none)
 (x:Tn) (A:Option Addr) (c:Nat) (hs:Sees w w.heap.size 1 A x.data.length (bvs x.data)) (gC:Off own A x.data.length) (hc:x.data.length≤c) (hd:x.data.length≤136704) (hp:x.path.size≤3000000) (jA:x.same.size≤3000000) (hk:x.kind=1∨x.kind=2) :
 Calls Ab 38 #[ifV p,.agg (ndC x.path x.kind x.made x.same A x.data.length c).toArray] w (LayP own p mb (zBX T x) w):=by
 obtain⟨R,hR⟩:=nM (zBX T x);rw [hR];have gL:=hid hR.symm;have fA:=fun W hW (k:Int) (a b:ByteArray) (md:Int) ha hb=>ask_0 own lay p mb T m0 W (h.fresh hW) hI ((hW.cell (p:=⟨0,0,none⟩) (Aa _ _ hm)).trans hm) k a b md ha hb;have fL:=hid fA;have fJ:=hid h.lt;have jB:=hid hI;have gM:=hid hm;have gN:=hid hs;have gO:=hid gC;have gD:=fun own1 zCu T1 W h1 jC jD jE jF gE=>dlay_any own1 zCu p mb T1 m0 W h1 jC jD jE x.path x.kind x.made x.same A c x.data jF gE hc hd hp;have fT:=hid gD;clear hR fA h hI hm hs gC gD;unfold zBX opM opK opC1 at gL;obtain⟨pa,ki,ma,sa,da⟩:=x;simp only at *;obtain⟨len,fZ⟩:=nM (da.length);simp only [fZ] at hd hc gN gO fT ⊢;have gU:=hid fZ;clear fZ;unfold ifV ndC;go_enter Tryz.func38,Tryz.ntmps38;by_cases k2:ki=2
 · subst k2;have s2:((2:Int)==2)=true:=rfl;go_upto_region 6 with (fail);have fM:Blk ((w.alloc (.cells [.string pa,.int .i64 2,.int .i64 ma,.string sa,.slice A len c].toArray 75)).alloc (.cells [.int .i64 2,.string pa,.string ⟨#[]⟩,.int .i64 0,.int .i64 0,.slice none 0 0,.int .i64 ma,.int .i64 0].toArray 70)) w.heap.size 75 [.string pa,.int .i64 2,.int .i64 ma,.string sa,.slice A len c]:=(Aj w _ _).alloc _
   have fH:Blk ((w.alloc (.cells [.string pa,.int .i64 2,.int .i64 ma,.string sa,.slice A len c].toArray 75)).alloc (.cells [.int .i64 2,.string pa,.string ⟨#[]⟩,.int .i64 0,.int .i64 0,.slice none 0 0,.int .i64 ma,.int .i64 0].toArray 70)) (w.heap.size+1) 70 [.int .i64 2,.string pa,.string ⟨#[]⟩,.int .i64 0,.int .i64 0,.slice none 0 0,.int .i64 ma,.int .i64 0]:=by
    have h9:=Aj (w.alloc (.cells [.string pa,.int .i64 2,.int .i64 ma,.string sa,.slice A len c].toArray 75)) 70 [.int .i64 2,.string pa,.string ⟨#[]⟩,.int .i64 0,.int .i64 0,.slice none 0 0,.int .i64 ma,.int .i64 0];simpa using h9
   have fN:Below w.heap.size w ((w.alloc (.cells [.string pa,.int .i64 2,.int .i64 ma,.string sa,.slice A len c].toArray 75)).alloc (.cells [.int .i64 2,.string pa,.string ⟨#[]⟩,.int .i64 0,.int .i64 0,.slice none 0 0,.int .i64 ma,.int .i64 0].toArray 70)):=(br.alloc nr _).alloc (by simp) _;change Ak _ _ _ _ ((w.alloc (.cells [.string pa,.int .i64 2,.int .i64 ma,.string sa,.slice A len c].toArray 75)).alloc (.cells [.int .i64 2,.string pa,.string ⟨#[]⟩,.int .i64 0,.int .i64 0,.slice none 0 0,.int .i64 ma,.int .i64 0].toArray 70));generalize (w.alloc (.cells [.string pa,.int .i64 2,.int .i64 ma,.string sa,.slice A len c].toArray 75)).alloc (.cells [.int .i64 2,.string pa,.string ⟨#[]⟩,.int .i64 0,.int .i64 0,.slice none 0 0,.int .i64 ma,.int .i64 0].toArray 70)=w0 at *;obtain⟨g,fC⟩:=nM (w.heap.size)
   have fU:own g=none∧own (g+1)=none:=by
    rw [←fC]
    constructor
    · cases e:own w.heap.size with
      | none=>rfl
      | some r=>exact absurd (fJ.o _ _ e) (by omega)
    · cases e:own (w.heap.size+1) with
      | none=>rfl
      | some r=>exact absurd (fJ.o _ _ e) (by omega)
   have fA:=fL.o w0 fN 2 pa ⟨#[]⟩ ma hp (by decide);obtain⟨r,hr⟩:=nM (T.run ⟨2,pa,⟨#[]⟩,0,0,[],ma,0⟩);rw [hr] at fA;have gP:=hid hr;obtain⟨T2,an⟩:=r;have fO:=gL.o;rw [if_pos rfl,show (⟨2,pa,emp,0,0,[],ma,0⟩:Opn)=⟨2,pa,⟨#[]⟩,0,0,[],ma,0⟩ from rfl,hr] at fO;have fD:=hid fO;rw [fC] at fM fH;simp only [fC];have fB:=hid fN;have gV:=hid fC;have fK:=hid fU;have gF:=hid fH;have gQ:=hid fM;have yc:=fun j=>fH.cell j;have y0:=yc 0;have y1:=yc 1;have y2:=yc 2;have y3:=yc 3;have y4:=yc 4;have y5:=yc 5;have y6:=yc 6;have y7:=yc 7;simp only [Ah,Ai] at y0 y1 y2 y3 y4 y5 y6 y7;clear hr fO fC fU fM fH fN yc
   go_upto_region 7 with (first
    | (go_at_call 51;refine fA.mono ?_;rintro e w6 ⟨v6,rfl,gG,fV⟩;obtain⟨dA,dc,eA,ec,rfl,-,-⟩:=gG;have fE:=hid fV;have fW:=Aj w6 67 zAk;clear fV)
    | (refine stA an.code an.stat (.slice dA an.data.length dc) (.slice eA an.ents.length ec) fW rfl rfl rfl (by rfl) rfl rfl rfl ?_))
   have fX:Below w6.heap.size w6 ((w6.alloc (.cells zAk.toArray 67)).setRow w6.heap.size (zAq an.code an.stat (.slice dA an.data.length dc) (.slice eA an.ents.length ec)).toArray):=((Aq (fun b=>w6.heap.size≤b) w6).alloc _ |>.setRow (fun _=>Al _) _).below nr fun b hb e=>by omega
   have gH:=fE.o.then_ fX;change Ak _ _ _ _ ((w6.alloc (.cells zAk.toArray 67)).setRow w6.heap.size (zAq an.code an.stat (.slice dA an.data.length dc) (.slice eA an.ents.length ec)).toArray);generalize (w6.alloc (.cells zAk.toArray 67)).setRow w6.heap.size (zAq an.code an.stat (.slice dA an.data.length dc) (.slice eA an.ents.length ec)).toArray=w7 at *;obtain⟨own7,lay7,fP,fQ,fI⟩:=gH;have fY:=gF.o.chg fI (fun hh=>hh fK.o.2);have x0:=fY.cell 0;simp only [Ai] at x0;have fF:Hid (zAv own p mb T2 w w7):=hid (zAv.fst (As _ _) (Ar fB.o) ⟨own7,lay7,fP,fQ,fI⟩);have gA:=hid fP;have fS:=hid fQ;have fG:=hid fI;clear fW fX fA y0 y1 y2 y3 y4 y5 y6 y7 fY fP fQ fI fE;by_cases fR:an.code=0
   · have gI:((an.code:Int) != 0)=false:=by simp;omega
     clear fR;go_wp2;go_ret;rw [fD.o];exact⟨rfl,fF.o⟩
   · have gI:((an.code:Int) != 0)=true:=by simp;omega
     clear fR;go_wp2;go_ret;rw [fD.o];exact⟨rfl,fF.o⟩
 · have k1:ki=1:=by rcases hk with h | h;exact h;exact absurd h k2
   subst k1;have s2:((1:Int)==2)=false:=rfl;clear k2 hk;by_cases gJ:sa=emp
   case neg =>
    have t4:sa.toList.isEmpty=false:=zEk gJ;go_upto_region 6 with (fail);have fM:Blk ((w.alloc (.cells [.string pa,.int .i64 1,.int .i64 ma,.string sa,.slice A len c].toArray 75)).alloc (.cells [.int .i64 3,.string sa,.string pa,.int .i64 0,.int .i64 0,.slice none 0 0,.int .i64 0,.int .i64 0].toArray 70)) w.heap.size 75 [.string pa,.int .i64 1,.int .i64 ma,.string sa,.slice A len c]:=(Aj w _ _).alloc _
    have fH:Blk ((w.alloc (.cells [.string pa,.int .i64 1,.int .i64 ma,.string sa,.slice A len c].toArray 75)).alloc (.cells [.int .i64 3,.string sa,.string pa,.int .i64 0,.int .i64 0,.slice none 0 0,.int .i64 0,.int .i64 0].toArray 70)) (w.heap.size+1) 70 [.int .i64 3,.string sa,.string pa,.int .i64 0,.int .i64 0,.slice none 0 0,.int .i64 0,.int .i64 0]:=by
     have h9:=Aj (w.alloc (.cells [.string pa,.int .i64 1,.int .i64 ma,.string sa,.slice A len c].toArray 75)) 70 [.int .i64 3,.string sa,.string pa,.int .i64 0,.int .i64 0,.slice none 0 0,.int .i64 0,.int .i64 0];simpa using h9
    have fN:Below w.heap.size w ((w.alloc (.cells [.string pa,.int .i64 1,.int .i64 ma,.string sa,.slice A len c].toArray 75)).alloc (.cells [.int .i64 3,.string sa,.string pa,.int .i64 0,.int .i64 0,.slice none 0 0,.int .i64 0,.int .i64 0].toArray 70)):=(br.alloc nr _).alloc (by simp) _;change Ak _ _ _ _ ((w.alloc (.cells [.string pa,.int .i64 1,.int .i64 ma,.string sa,.slice A len c].toArray 75)).alloc (.cells [.int .i64 3,.string sa,.string pa,.int .i64 0,.int .i64 0,.slice none 0 0,.int .i64 0,.int .i64 0].toArray 70));generalize (w.alloc (.cells [.string pa,.int .i64 1,.int .i64 ma,.string sa,.slice A len c].toArray 75)).alloc (.cells [.int .i64 3,.string sa,.string pa,.int .i64 0,.int .i64 0,.slice none 0 0,.int .i64 0,.int .i64 0].toArray 70)=w0 at *;obtain⟨g,fC⟩:=nM (w.heap.size)
    have fU:own g=none∧own (g+1)=none:=by
     rw [←fC]
     constructor
     · cases e:own w.heap.size with
       | none=>rfl
       | some r=>exact absurd (fJ.o _ _ e) (by omega)
     · cases e:own (w.heap.size+1) with
       | none=>rfl
       | some r=>exact absurd (fJ.o _ _ e) (by omega)
    have fA:=fL.o w0 fN 3 sa pa 0 jA hp;obtain⟨r,hr⟩:=nM (T.run ⟨3,sa,pa,0,0,[],0,0⟩);rw [hr] at fA;have gP:=hid hr;obtain⟨T2,an⟩:=r;have fO:=gL.o;rw [if_neg (by decide),if_pos gJ,hr] at fO;have fD:=hid fO;rw [fC] at fM fH;simp only [fC];have fB:=hid fN;have gV:=hid fC;have fK:=hid fU;have gF:=hid fH;have gQ:=hid fM;have yc:=fun j=>fH.cell j;have y0:=yc 0;have y1:=yc 1;have y2:=yc 2;have y3:=yc 3;have y4:=yc 4;have y5:=yc 5;have y6:=yc 6;have y7:=yc 7;simp only [Ah,Ai] at y0 y1 y2 y3 y4 y5 y6 y7;clear hr fO fC fU fM fH fN yc
    go_upto_region 7 with (first
     | (go_at_call 51;refine fA.mono ?_;rintro e w6 ⟨v6,rfl,gG,fV⟩;obtain⟨dA,dc,eA,ec,rfl,-,-⟩:=gG;have fE:=hid fV;have fW:=Aj w6 67 zAk;clear fV)
     | (refine stA an.code an.stat (.slice dA an.data.length dc) (.slice eA an.ents.length ec) fW rfl rfl rfl (by rfl) rfl rfl rfl ?_))
    have fX:Below w6.heap.size w6 ((w6.alloc (.cells zAk.toArray 67)).setRow w6.heap.size (zAq an.code an.stat (.slice dA an.data.length dc) (.slice eA an.ents.length ec)).toArray):=((Aq (fun b=>w6.heap.size≤b) w6).alloc _ |>.setRow (fun _=>Al _) _).below nr fun b hb e=>by omega
    have gH:=fE.o.then_ fX;change Ak _ _ _ _ ((w6.alloc (.cells zAk.toArray 67)).setRow w6.heap.size (zAq an.code an.stat (.slice dA an.data.length dc) (.slice eA an.ents.length ec)).toArray);generalize (w6.alloc (.cells zAk.toArray 67)).setRow w6.heap.size (zAq an.code an.stat (.slice dA an.data.length dc) (.slice eA an.ents.length ec)).toArray=w7 at *;obtain⟨own7,lay7,fP,fQ,fI⟩:=gH;have fY:=gF.o.chg fI (fun hh=>hh fK.o.2);have x0:=fY.cell 0;simp only [Ai] at x0;have fF:Hid (zAv own p mb T2 w w7):=hid (zAv.fst (As _ _) (Ar fB.o) ⟨own7,lay7,fP,fQ,fI⟩);have gA:=hid fP;have fS:=hid fQ;have fG:=hid fI;clear fW fX fA y0 y1 y2 y3 y4 y5 y6 y7 fY fP fQ fI fE;by_cases fR:an.code=0
    · have gI:((an.code:Int) != 0)=false:=by simp;omega
      clear fR;go_wp2;go_ret;rw [fD.o];exact⟨rfl,fF.o⟩
    · have gI:((an.code:Int) != 0)=true:=by simp;omega
      clear fR;go_wp2;go_ret;rw [fD.o];exact⟨rfl,fF.o⟩
   case pos =>
    have t4:sa.toList.isEmpty=true:=zC0 gJ;have gR:=hid gJ;clear gJ;go_upto_region 6 with (fail);have fM:Blk ((w.alloc (.cells [.string pa,.int .i64 1,.int .i64 ma,.string sa,.slice A len c].toArray 75)).alloc (.cells [.int .i64 1,.string pa,.string ⟨#[]⟩,.int .i64 0,.int .i64 0,.slice none 0 0,.int .i64 ma,.int .i64 0].toArray 70)) w.heap.size 75 [.string pa,.int .i64 1,.int .i64 ma,.string sa,.slice A len c]:=(Aj w _ _).alloc _
    have fH:Blk ((w.alloc (.cells [.string pa,.int .i64 1,.int .i64 ma,.string sa,.slice A len c].toArray 75)).alloc (.cells [.int .i64 1,.string pa,.string ⟨#[]⟩,.int .i64 0,.int .i64 0,.slice none 0 0,.int .i64 ma,.int .i64 0].toArray 70)) (w.heap.size+1) 70 [.int .i64 1,.string pa,.string ⟨#[]⟩,.int .i64 0,.int .i64 0,.slice none 0 0,.int .i64 ma,.int .i64 0]:=by
     have h9:=Aj (w.alloc (.cells [.string pa,.int .i64 1,.int .i64 ma,.string sa,.slice A len c].toArray 75)) 70 [.int .i64 1,.string pa,.string ⟨#[]⟩,.int .i64 0,.int .i64 0,.slice none 0 0,.int .i64 ma,.int .i64 0];simpa using h9
    have fN:Below w.heap.size w ((w.alloc (.cells [.string pa,.int .i64 1,.int .i64 ma,.string sa,.slice A len c].toArray 75)).alloc (.cells [.int .i64 1,.string pa,.string ⟨#[]⟩,.int .i64 0,.int .i64 0,.slice none 0 0,.int .i64 ma,.int .i64 0].toArray 70)):=(br.alloc nr _).alloc (by simp) _;change Ak _ _ _ _ ((w.alloc (.cells [.string pa,.int .i64 1,.int .i64 ma,.string sa,.slice A len c].toArray 75)).alloc (.cells [.int .i64 1,.string pa,.string ⟨#[]⟩,.int .i64 0,.int .i64 0,.slice none 0 0,.int .i64 ma,.int .i64 0].toArray 70));generalize (w.alloc (.cells [.string pa,.int .i64 1,.int .i64 ma,.string sa,.slice A len c].toArray 75)).alloc (.cells [.int .i64 1,.string pa,.string ⟨#[]⟩,.int .i64 0,.int .i64 0,.slice none 0 0,.int .i64 ma,.int .i64 0].toArray 70)=w0 at *;obtain⟨g,fC⟩:=nM (w.heap.size)
    have fU:own g=none∧own (g+1)=none:=by
     rw [←fC]
     constructor
     · cases e:own w.heap.size with
       | none=>rfl
       | some r=>exact absurd (fJ.o _ _ e) (by omega)
     · cases e:own (w.heap.size+1) with
       | none=>rfl
       | some r=>exact absurd (fJ.o _ _ e) (by omega)
    have fA:=fL.o w0 fN 1 pa ⟨#[]⟩ ma hp (by decide);obtain⟨r,hr⟩:=nM (T.run ⟨1,pa,⟨#[]⟩,0,0,[],ma,0⟩);rw [hr] at fA;have gP:=hid hr;obtain⟨T2,an⟩:=r;have fO:=gL.o;rw [if_neg (by decide),if_neg (by simpa using gR.o),show (⟨1,pa,emp,0,0,[],ma,0⟩:Opn)=⟨1,pa,⟨#[]⟩,0,0,[],ma,0⟩ from rfl,hr] at fO;have fD:=hid fO;rw [fC] at fM fH;simp only [fC];have fB:=hid fN;have gV:=hid fC;have fK:=hid fU;have gF:=hid fH;have gQ:=hid fM;have yc:=fun j=>fH.cell j;have y0:=yc 0;have y1:=yc 1;have y2:=yc 2;have y3:=yc 3;have y4:=yc 4;have y5:=yc 5;have y6:=yc 6;have y7:=yc 7;simp only [Ah,Ai] at y0 y1 y2 y3 y4 y5 y6 y7;clear hr fO fC fU fM fH fN yc
    go_upto_region 7 with (first
     | (go_at_call 51;refine fA.mono ?_;rintro e w6 ⟨v6,rfl,gG,fV⟩;obtain⟨dA,dc,eA,ec,rfl,-,-⟩:=gG;have fE:=hid fV;have fW:=Aj w6 67 zAk;clear fV)
     | (refine stA an.code an.stat (.slice dA an.data.length dc) (.slice eA an.ents.length ec) fW rfl rfl rfl (by rfl) rfl rfl rfl ?_))
    have fX:Below w6.heap.size w6 ((w6.alloc (.cells zAk.toArray 67)).setRow w6.heap.size (zAq an.code an.stat (.slice dA an.data.length dc) (.slice eA an.ents.length ec)).toArray):=((Aq (fun b=>w6.heap.size≤b) w6).alloc _ |>.setRow (fun _=>Al _) _).below nr fun b hb e=>by omega
    have gH:=fE.o.then_ fX;change Ak _ _ _ _ ((w6.alloc (.cells zAk.toArray 67)).setRow w6.heap.size (zAq an.code an.stat (.slice dA an.data.length dc) (.slice eA an.ents.length ec)).toArray);generalize (w6.alloc (.cells zAk.toArray 67)).setRow w6.heap.size (zAq an.code an.stat (.slice dA an.data.length dc) (.slice eA an.ents.length ec)).toArray=w7 at *;obtain⟨own7,lay7,fP,fQ,fI⟩:=gH;have fY:=gF.o.chg fI (fun hh=>hh fK.o.2);have x0:=fY.cell 0;simp only [Ai] at x0;have fF:Hid (zAv own p mb T2 w w7):=hid (zAv.fst (As _ _) (Ar fB.o) ⟨own7,lay7,fP,fQ,fI⟩);have gA:=hid fP;have fS:=hid fQ;have fG:=hid fI;clear fW fX fA y0 y1 y2 y3 y4 y5 y6 y7 fY fP fQ fI fE;by_cases fR:an.code=0
    · have gI:((an.code:Int) != 0)=false:=by simp;omega
      have gS:Hid (R=zGF pa da 1100 T2 0):=hid (by rw [fD.o,if_neg (by simpa using fR)]);have jG:Hid T2.Inv:=hid (by have h9:=zCa jB.o ⟨1,pa,⟨#[]⟩,0,0,[],ma,0⟩;rw [gP.o] at h9;exact h9)
      have gK:Hid (∀ b,b<w0.heap.size→own b=none→own7 b=none):=hid fun b hb e=>by
       cases e7:own7 b with
       | none=>rfl
       | some r=>
        rcases fS.o.new b r e7 with e2 | e2
        · rw [e] at e2;cases e2
        · omega
      have gW:=gN.o.below fB.o;have gX:=(gW.chgS (by decide) fG.o (fun b off e hn hh=>hh (gO.o b off e hn))).more (Am fB.o.size fG.o.size);have gY:0<w0.heap.size:=An (Aa _ _ gM.o) fB.o.size
      have gZ:=fT.o own7 lay7 T2 w7 gA.o jG.o ((fG.o.cell (p:=⟨0,0,none⟩) gY (fun hh=>hh gT)).trans ((fB.o.cell (p:=⟨0,0,none⟩) (Aa _ _ gM.o)).trans gM.o)) (gK.o 0 gY gT) gX (fun b off e hn=>by
       obtain⟨b',off',e',jH,jI⟩:=gN.o.at_ hn;rw [e] at e';have e':=Ae e';injection e' with e1 e2;exact gK.o b (by rw [e1];exact An jH fB.o.size) (gO.o b off e hn))
      unfold ifV ndC at gZ;have gB:=gQ.o.chg fG.o (fun hh=>hh fK.o.1);have u0:=gB.cell 0;have u1:=gB.cell 1;have u2:=gB.cell 2;have u3:=gB.cell 3;have u4:=gB.cell 4;simp only [Ah,Ai] at u0 u1 u2 u3 u4;clear fR gB gW gX;go_wp2_with (go_at_call 59;refine gZ.mono ?_;rintro e w8 ⟨rfl,jJ⟩);go_ret;rw [gS.o];exact⟨rfl,zAv.fst (As _ _) (Ar fB.o) (zAv.fst fS.o fG.o jJ)⟩
    · have gI:((an.code:Int) != 0)=true:=by simp;omega
      have gS:Hid (R=(T2,an.code)):=hid (by rw [fD.o,if_pos (by simpa using fR)]);clear fR;go_wp2;go_ret;rw [gS.o];exact⟨rfl,fF.o⟩
theorem mayT_fit {x:Tn} {fs:List (ByteArray×Unit)} (h:zGQ x fs=true):(x.kind=1∨x.kind=2)∧x.data.length≤136704:=by
 unfold zGQ at h
 split at h
 · cases h
 · rename_i hn
   have hd:x.data.length≤136704:=by omega
   split at h
   · rename_i hk;exact⟨.inr hk,hd⟩
   · split at h
     · cases h
     · rename_i hk;exact⟨.inl (by omega),hd⟩
theorem zGd (p:ByteArray) (d:List UInt8):∀ (f:Nat) (T:PT) (a:Nat),T.Inv→(zGF p d f T a).1.Inv
 | 0,T,a,h=>by unfold zGF;exact h
 | f+1,T,a,h=>by
  unfold zGF
  split
  · split
    · exact zGd p d f T (a+128) h
    · split
      · exact zCa h _
      · exact zGd p d f _ _ (zCa h _)
  · exact zCa h _
theorem zE5 {T:PT} (h:T.Inv) (x:Tn):(zBX T x).1.Inv:=by
 unfold zBX
 split
 · exact zCa h _
 · split
   · exact zCa h _
   · split
     · exact zCa h _
     · exact zGd _ _ _ _ _ (zCa h _)
theorem fillsT_no {l:List Tn} {k:Nat} {fs:List (ByteArray×Unit)} {T:PT} {x:Tn} {r:List Tn} (hl:l=x::r) (h:zGQ x fs=false):zBA l k fs T=(T,k,171):=by
 rw [hl,zBA,if_pos h]
theorem zKp {l:List Tn} {k:Nat} {fs:List (ByteArray×Unit)} {T:PT} {x:Tn} {r:List Tn} (hl:l=x::r) (h:zGQ x fs=true) (hc:(zBX T x).2≠0):zBA l k fs T=((zBX T x).1,k,(zBX T x).2):=by
 rw [hl,zBA,if_neg (by simp [h]),if_pos hc]
theorem fillsT_go {l:List Tn} {k:Nat} {fs:List (ByteArray×Unit)} {T:PT} {x:Tn} {r:List Tn} (hl:l=x::r) (h:zGQ x fs=true) (hc:(zBX T x).2=0):zBA l k fs T=zBA r (k+1) (if x.kind=1 then zA2 zAV x.path () fs else fs) (zBX T x).1:=by
 rw [hl,zBA,if_neg (by simp [h]),if_neg (by simp [hc])]
def FillP (own:Nat→Option Role) (p mb:Nat) (r:PT×Nat×Nat) (w:World) (e:Ending) (w':World):Prop :=
 e=.returned (.tuple #[.int .i64 (r.2.1:Int),.int .i64 (r.2.2:Int)])∧zAv own p mb r.1 w w'
structure NOff (own:Nat→Option Role) (A:Option Addr) (l:List Nd):Prop where
 row:∀ b off,A=some ⟨b,off,none⟩→0<l.length→own b=none
 data:∀ x∈l,Off own x.dA x.data.length
def FillI (own:Nat→Option Role) (p mb fb:Nat) (w:World) (l:List Nd) (R:PT×Nat×Nat) (wr:World) (j:Nat) (fs:List (ByteArray×Unit)) (T1:PT):Prop :=
 R=zBA ((l.map Nd.tn).drop j) j fs T1∧T1.Inv∧fs.length≤j∧zAt wr zAV oneV 9 fb fs∧∃ own1 zCu,PlainAt wr own1 zCu p mb T1∧Ext w own own1∧own1 fb=none∧Chg (fun b=>own b≠none) w wr∧fb<wr.heap.size
theorem putS_le {fs:List (ByteArray×Unit)} {j:Nat} (h:fs.length≤j) (x:Tn):(if x.kind=1 then zA2 zAV x.path () fs else fs).length≤j+1:=by
 split
 · have:=zBi zAV x.path () fs;omega
 · omega
theorem fill_any (own:Nat→Option Role) (lay:Nat→NA) (p mb:Nat) (T:PT) (m0:Int) (w:World) (h:PlainAt w own lay p mb T) (hI:T.Inv) (hm:w.cell? ⟨0,0,none⟩=some (.int .i64 m0)) (jM:own 0=none)
 (A:Option Addr) (cap:Nat) (l:List Nd) (hN:NodesAt w w.heap.size A l) (hO:NOff own A l) (kJ:l.length≤1000000000) (gO:l.length≤cap) (jN:∀ x∈l,x.path.size≤3000000∧x.same.size≤3000000∧x.data.length≤x.dc∧x.data.length≤1000000000000) :
 Calls Ab 18 #[ifV p,.slice A l.length cap] w (FillP own p mb (T.fill (l.map Nd.tn)) w):=by
 obtain⟨R,hR⟩:=nM (T.fill (l.map Nd.tn));rw [hR];obtain⟨fb,gP⟩:=nM (w.heap.size);have gQ:Below w.heap.size w (w.alloc (.map #[] 0)):=br.alloc nr _
 have jO:FillI own p mb fb w l R (w.alloc (.map #[] 0)) 0 [] T:=by
  refine⟨hR.symm,hI,Al _,?_,own,lay,h.fresh gQ,As _ _,?_,Ar gQ,by simp [gP]⟩
  · rw [←gP];exact zAt.made w zAV oneV _
  · exact h.free (by omega)
 obtain⟨len,fM⟩:=nM (l.length);rw [fM] at kJ gO ⊢;have fK:=hid fM;have jP:=hid hN;have jQ:=hid hO;have gR:=hid jN;have gS:=hid hm;have kK:=hid h.lt;have gT:=hid gP;have kW:=@run_makeMap Ab;clear hR fM hN hO jN hm h hI gQ;unfold ifV;go_enter Tryz.func18,Tryz.ntmps18;go_wp2
 go_loopw [15] (fun v wr=>∃ (j:Nat) (fs:List (ByteArray×Unit)) (T1:PT),v=.int .i64 (j:Int)∧j≤len∧FillI own p mb fb w l R wr j fs T1) (fun v _=>len-(intOf v).toNat)
 case atStart=>exact⟨0,[],T,rfl,Nat.zero_le _,jO⟩
 case round =>
  obtain⟨j,fs,T1,rfl,hj,jR,jS,jT,jU,own1,zCu,jV,gH,jW,gU,jX⟩:=hrel;clear jO;have fF:=hid jR;have fS:=hid jS;have fC:=hid gH;have fT:=hid jW;have fA:=hid gU;have fG:=hid jV;have fU:=hid jU;have gV:=hid jT;have fV:=hid jX
  have kL:Hid (own1 0=none):=hid (by
   cases e:own1 0 with
   | none=>rfl
   | some r=>
    rcases gH.new 0 r e with h9 | h9
    · rw [jM] at h9;cases h9
    · have:=Aa _ _ gS.o;omega)
  have kM:Hid (∀ b,b<w.heap.size→own b=none→own1 b=none):=hid fun b hb e=>by
   cases e7:own1 b with
   | none=>rfl
   | some r=>
    rcases gH.new b r e7 with e2 | e2
    · rw [e] at e2;cases e2
    · omega
  have jY:=hid ((gU.cell (p:=⟨0,0,none⟩) (Aa _ _ gS.o) (fun hh=>hh jM)).trans gS.o);clear jR jS jT jU jV gH jW gU jX;by_cases jZ:j<len
  · have fW:j<l.length:=by rw [fK.o];exact jZ
    have t1:decide ((j:Int)<(len:Int))=true:=by simpa using jZ
    obtain⟨b,off,rfl,kN,hc⟩:=jP.o.at_ (by omega);have kA:own b=none:=jQ.o.row b off rfl (by omega);have kO:=(hc j fW).keep (w1:=wr) fun q hq=>fA.o.cell (by omega) (by rw [hq];exact fun hh=>hh kA);have gI:=List.getElem_mem fW;have hds:=(jP.o.data _ gI);have gW:=jQ.o.data _ gI;have gX:=gR.o _ gI;have fN:=hds.chgS (by decide) fA.o (fun b off e hn hh=>hh (gW b off e hn)) |>.more fA.o.size
    have fO:Off own1 l[j].dA l[j].data.length:=fun b off e hn=>by
     obtain⟨b',off',e',kP,kQ⟩:=hds.at_ hn;rw [e] at e';have e':=Ae e';injection e' with e1 e2;exact kM.o b (by rw [e1];exact kP) (gW b off e hn)
    have gJ:Hid ((l.map Nd.tn).drop j=l[j].tn::(l.map Nd.tn).drop (j+1)):=hid (by
     rw [List.drop_eq_getElem_cons (by simpa using fW)];simp)
    clear hc gI hds gW kN kA;generalize l[j]=x at *;obtain⟨pa,ki,ma,sa,dA,dc,da⟩:=x;obtain⟨c0,c1,c2,c3,c4⟩:=kO;simp only [Nd.tn] at c0 c1 c2 c3 c4 fN fO gX gJ;obtain⟨dl,gY⟩:=nM (da.length);rw [gY] at c4;have fX:=hid gY;have fY:=hid fN;have fZ:=hid fO;have fD:=hid gX;clear gY fN fO gX;go_upto_region 7 with (fail);have gK:Below wr.heap.size wr (wr.alloc (.cells [.string pa,.int .i64 ki,.int .i64 ma,.string sa,.slice dA dl dc].toArray 75)):=br.alloc nr _;have fL:Blk (wr.alloc (.cells [.string pa,.int .i64 ki,.int .i64 ma,.string sa,.slice dA dl dc].toArray 75)) wr.heap.size 75 [.string pa,.int .i64 ki,.int .i64 ma,.string sa,.slice dA dl dc]:=Aj wr _ _;change Ak _ _ _ _ (wr.alloc (.cells [.string pa,.int .i64 ki,.int .i64 ma,.string sa,.slice dA dl dc].toArray 75));generalize wr.alloc (.cells [.string pa,.int .i64 ki,.int .i64 ma,.string sa,.slice dA dl dc].toArray 75)=W1 at *;obtain⟨g,gL⟩:=nM (wr.heap.size);have fP:own1 g=none:=fG.o.free (by omega)
    have kC:own g=none:=by
     cases e:own g with
     | none=>rfl
     | some r=>have:=fC.o.keep g r e;rw [fP] at this;cases this
    rw [gL] at fL;simp only [gL];have y0:=fL.cell 0;have y1:=fL.cell 1;have y2:=fL.cell 2;have y3:=fL.cell 3;have y4:=fL.cell 4;simp only [Ah,Ai] at y0 y1 y2 y3 y4;have gA:=may_any ⟨pa,ki,ma,sa,da⟩ dA dc fb fs W1 (fU.o.fresh gK) (by have:=fD.o.2.1;simp only;omega) fD.o.2.2.2;simp only [fX.o] at gA;obtain⟨bm,gZ⟩:=nM (zGQ ⟨pa,ki,ma,sa,da⟩ fs);rw [gZ] at gA;have fH:=hid gZ;unfold ndC at gA;have fI:=hid gK;have jA:=hid fL;have gB:=hid fP;have kR:=hid kC;have kX:=hid gL;have kS:Hid (zAv own p mb T1 w W1):=hid (zAv.then_ ⟨own1,zCu,fG.o,fC.o,fA.o⟩ gK);clear gZ gK fL fP kC gL c0 c1 c2 c3 c4
    cases bm with
    | false =>
     go_wp2_with (go_at_call 37;refine gA.mono ?_;rintro e w2 ⟨rfl,fE⟩)
     go_ret2
     rw [fF.o,fillsT_no gJ.o fH.o];exact⟨rfl,kS.o.then_ fE⟩
    | true =>
     have fQ:=mayT_fit fH.o;obtain⟨r,hr⟩:=nM (zBX T1 ⟨pa,ki,ma,sa,da⟩);have gC:=fun (W:World) (hW:Below wr.heap.size wr W)=>zJV own1 zCu p mb T1 m0 W (fG.o.fresh hW) fS.o ((hW.cell (p:=⟨0,0,none⟩) (Aa _ _ jY.o)).trans jY.o) kL.o ⟨pa,ki,ma,sa,da⟩ dA dc ((fY.o.below hW).more hW.size) fZ.o fD.o.2.2.1 fQ.2 fD.o.1 fD.o.2.1 fQ.1;rw [hr] at gC;simp only [fX.o] at gC;unfold ndC ifV at gC;have jB:=hid gC;have jC:Hid (r.1.Inv):=hid (by rw [←hr];exact zE5 fS.o _);obtain⟨T2,cd⟩:=r;have gM:=hid hr;simp only at jC;clear fQ gC hr
     go_upto_region 10 with (first
      | (go_at_call 37;refine gA.mono ?_;rintro e w2 ⟨rfl,fE⟩;have kD:=jB.o w2 (fI.o.trans (fE.mono fI.o.size));have z0:=(fE.cell (p:=⟨g,0,none⟩) (Aa _ _ y0)).trans y0;have z1:=(fE.cell (p:=⟨g,1,none⟩) (Aa _ _ y1)).trans y1;have z2:=(fE.cell (p:=⟨g,2,none⟩) (Aa _ _ y2)).trans y2;have z3:=(fE.cell (p:=⟨g,3,none⟩) (Aa _ _ y3)).trans y3;have z4:=(fE.cell (p:=⟨g,4,none⟩) (Aa _ _ y4)).trans y4)
      | (go_at_call 38;refine kD.mono ?_;rintro e w3 ⟨rfl,jD⟩))
     have fB:Below wr.heap.size wr w2:=fI.o.trans (fE.mono fI.o.size);have fJ:Chg (fun b=>own1 b≠none) wr w2:=Ar fB;by_cases gN:cd=0
     case neg =>
      have kT:((cd:Int) != 0)=true:=by simp;omega
      have jE:Hid (zAv own p mb T2 w w3):=hid (zAv.fst fC.o fA.o (zAv.fst (As _ _) fJ jD));have jF:=hid gN;clear jD fB fJ gN;go_wp2
      go_ret2
      rw [fF.o,zKp gJ.o fH.o (by rw [gM.o];exact jF.o),gM.o];exact⟨rfl,jE.o⟩
     case pos =>
     have kT:((cd:Int) != 0)=false:=by simp;omega
     have kE:Hid (R=zBA ((l.map Nd.tn).drop (j+1)) (j+1) (if ki=1 then zA2 zAV pa () fs else fs) T2):=hid (by
      have h9:=fillsT_go gJ.o (k:=j) (T:=T1) fH.o (by rw [gM.o];exact gN);rw [gM.o] at h9;rw [fF.o,h9])
     obtain⟨own2,lay2,kF,jG,gD⟩:=jD;have jH:=(jA.o.chg (Ar (S:=fun _=>False) fE) id).chg gD (fun hh=>hh gB.o);have x0:=jH.cell 0;have x1:=jH.cell 1;simp only [Ah,Ai] at x0 x1;have jI:=(fU.o.fresh fB).chg gD (fun hh=>hh fT.o);have kG:Hid (Chg (fun b=>own b≠none) w w3):=hid (fA.o.ext fC.o (fJ.trans gD (fun _ _ h=>h) (fun _ _ h=>h)));have kI:Hid (Ext w own own2):=hid (fC.o.trans jG (Am fA.o.size fB.size))
     have fR:Hid (own2 fb=none):=hid (by
      cases e:own2 fb with
      | none=>rfl
      | some r=>
       rcases jG.new fb r e with h9 | h9
       · rw [fT.o] at h9;cases h9
       · have:=fV.o;have:=fB.size;omega)
     have gE:Hid (fb<w3.heap.size):=hid (by have:=fV.o;have:=fB.size;have:=gD.size;omega);have gF:=hid kF;have gG:=hid jI;have kY:=fD.o.1;have jJ:=gV.o;clear kF jG gD jH fB fJ gN y0 y1 y2 y3 y4 z0 z1 z2 z3 z4 fE kD;by_cases hk:ki=1
     · have s1:(ki==1)=true:=by simpa using hk
       have jK:=hid hk;clear hk jI
       go_wp2_with (first
        | (at_mapUpdate;refine zAZ _ rfl _ _ _ 101 (.inl rfl) kStr Ac gG.o (by unfold maxLen;omega) rfl pa rfl (keyS pa (by unfold maxLen;omega)) () rfl ?_;intro w4 kU kV))
       go_roundw
       case rel =>
        have jL:=zAP kV;have h9:=kE.o;have h8:=putS_le jJ (⟨pa,ki,ma,sa,da⟩:Tn);simp only [jK.o,if_true] at h9 h8;exact⟨j+1,zA2 zAV pa () fs,T2,by simp,by omega,h9,jC.o,h8,kU,own2,lay2,gF.o.chg jL (fun b e=>by subst e;exact fR.o),kI.o,fR.o,kG.o.trans jL (fun _ _ h=>h) (fun b hb e=>by have:=gT.o;omega),An gE.o jL.size⟩
       case measure =>
        simp [intOf]
        omega
     · have s1:(ki==1)=false:=by simpa using hk
       have jK:=hid hk;clear hk jI;go_wp2;go_roundw
       case rel =>
        have h9:=kE.o;rw [if_neg jK.o] at h9;exact⟨j+1,fs,T2,by simp,by omega,h9,jC.o,by omega,gG.o,own2,lay2,gF.o,kI.o,fR.o,kG.o,gE.o⟩
       case measure =>
        simp [intOf]
        omega
  · have t1:decide ((j:Int)<(len:Int))=false:=by simp;omega
    have fW:j=len:=by omega
    subst fW;go_wp2
    go_ret2
    rw [fF.o,List.drop_eq_nil_of_le (by rw [List.length_map,fK.o];exact Al _),zBA];exact⟨rfl,own1,zCu,fG.o,fC.o,fA.o⟩
def asg (d:List UInt8):Nat→Nat→Option Nat→List (Nat×Nat)
 | 0,_,_=>[]
 | f+1,e,fr =>
  if d.length<e then fr.elim [] fun a=>[(a,d.length)] else
  match fr with
  | none=>asg d f (e+128) (if d.length≤e∨zch d e=true then none else some e)
  | some a =>
   if (d.length≤e∨zch d e=true)∨e-a=131072 then (a,e)::asg d f (e+128) (if d.length≤e∨zch d e=true then none else some e)
   else asg d f (e+128) (some a)
def zEa (d:List UInt8):Nat→Nat→List (Nat×Nat)
 | 0,_=>[]
 | f+1,a=>if a<d.length then (if zBF d a 1100 a=a then zEa d f (a+128) else (a,zBF d a 1100 a)::zEa d f (zBF d a 1100 a)) else []
theorem zDF {d:List UInt8} {a f e:Nat} (h:d.length≤e∨zch d e=true∨131072≤e-a):zBF d a f e=e:=by
 cases f with
 | zero=>rfl
 | succ f =>
  rw [zBF,if_neg];rintro ⟨h1,h2,h3⟩;rcases h with h | h | h
  · omega
  · rw [h3] at h;cases h
  · omega
theorem zGa {d:List UInt8} {a f e:Nat} (h1:e<d.length) (h2:e-a<131072) (h3:zch d e=false):zBF d a (f+1) e=zBF d a f (min (e+128) d.length):=by
 rw [zBF,if_pos ⟨h1,h2,h3⟩]
theorem zHB {d:List UInt8} {a:Nat}:∀ (n f g e:Nat),d.length-e≤n * 128→n≤f→n≤g→zBF d a f e=zBF d a g e
 | 0,f,g,e,h,_,_=>by rw [zDF (.inl (by omega)),zDF (.inl (by omega))]
 | n+1,f+1,g+1,e,h,hf,hg=>by
  by_cases hc:e<d.length∧e-a<131072∧zch d e=false
  · rw [zGa hc.1 hc.2.1 hc.2.2,zGa hc.1 hc.2.1 hc.2.2];exact zHB n f g _ (by omega) (by omega) (by omega)
  · rw [zBF,zBF,if_neg hc,if_neg hc]
theorem zDT {d:List UInt8}:∀ (n f g a:Nat),d.length-a≤n * 128→a % 128=0∨d.length≤a→n<f→n<g→zEa d f a=zEa d g a
 | 0,f+1,g+1,a,h,_,_,_=>by rw [zEa,zEa,if_neg (by omega),if_neg (by omega)]
 | n+1,f+1,g+1,a,h,hm,hf,hg=>by
  rw [zEa,zEa];by_cases ha:a<d.length
  · rw [if_pos ha,if_pos ha]
    have fA:a % 128=0:=by omega
    obtain⟨s1,s2,s3,s4,_,_⟩:=zDN d a fA 1100 a nr (by omega) (.inl fA) (by omega);by_cases hr:zBF d a 1100 a=a
    · rw [if_pos hr,if_pos hr];exact zDT n f g _ (by omega) (by omega) (by omega) (by omega)
    · rw [if_neg hr,if_neg hr]
      have fB:a+128≤zBF d a 1100 a∨zBF d a 1100 a=d.length:=by omega
      rw [zDT n f g _ (by omega) (by omega) (by omega) (by omega)]
  · rw [if_neg ha,if_neg ha]
section
variable {d:List UInt8} {a e:Nat}
theorem L1 (h:d.length≤a):zEa d 1100 a=[]:=by
 rw [show (1100:Nat)=1099+1 from rfl,zEa,if_neg (by omega)]
theorem L2 (hd:d.length≤136704) (ha:a % 128=0) (h:a<d.length) (hz:zch d a=true):zEa d 1100 a=zEa d 1100 (a+128):=by
 have h1:zEa d (1099+1) a=zEa d 1099 (a+128):=by rw [zEa,if_pos h,if_pos (zDF (.inr (.inl hz)))]
 exact h1.trans (zDT 1068 _ _ _ (by omega) (by omega) (by omega) (by omega))
theorem R2 (hd:d.length≤136704) (h1:e<d.length) (h2:e-a<131072) (h3:zch d e=false):zBF d a 1100 e=zBF d a 1100 (min (e+128) d.length):=by
 rw [show (1100:Nat)=1099+1 from rfl,zGa h1 h2 h3];exact zHB 1069 _ _ _ (by omega) (by omega) (by omega)
theorem L3 (hd:d.length≤136704) (ha:a % 128=0) (h:a<d.length) (hz:zch d a=false):zEa d 1100 a=(a,zBF d a 1100 a)::zEa d 1100 (zBF d a 1100 a):=by
 obtain⟨s1,s2,s3,s4,_,s6⟩:=zDN d a ha 1100 a nr (by omega) (.inl ha) (by omega)
 have fA:¬zBF d a 1100 a=a:=fun h9=>by
  have:=s6 (by omega) h (by omega) h9;rw [this] at hz;cases hz
 have h1:zEa d (1099+1) a=(a,zBF d a 1100 a)::zEa d 1099 (zBF d a 1100 a):=by rw [zEa,if_pos h,if_neg fA]
 exact h1.trans (congrArg _ (zDT 1068 _ _ _ (by omega) (by omega) (by omega) (by omega)))
end
theorem asg_lay {d:List UInt8} (hd:d.length≤136704):∀ (n f e:Nat),d.length+128-e≤n * 128→n<f→e % 128=0 →
 (asg d f e none=zEa d 1100 e)∧(∀ a,a % 128=0→a<e→e-a≤131072→a<d.length→zBF d a 1100 a=zBF d a 1100 (min e d.length)→asg d f e (some a)=(a,zBF d a 1100 a)::zEa d 1100 (zBF d a 1100 a)):=by
 have far:∀ (f e:Nat),d.length<e→(asg d (f+1) e none=zEa d 1100 e)∧(∀ a,a<d.length→zBF d a 1100 a=zBF d a 1100 (min e d.length)→asg d (f+1) e (some a)=(a,zBF d a 1100 a)::zEa d 1100 (zBF d a 1100 a)):=fun f e h=>by
  refine⟨?_,fun a fA hr=>?_⟩
  · rw [asg,if_pos h,L1 (by omega)];rfl
  · have h1:zBF d a 1100 a=d.length:=by rw [hr,show min e d.length=d.length by omega,zDF (.inl nr)]
    rw [asg,if_pos h,h1,L1 nr];rfl
 intro n
 induction n with
 | zero =>
  intro f e h hf he;obtain⟨f,rfl⟩:∃ g,f=g+1:=⟨f-1,by omega⟩;exact⟨(far f e (by omega)).1,fun a _ _ _ fA hr=>(far f e (by omega)).2 a fA hr⟩
 | succ n ih =>
  intro f e h hf he;obtain⟨f,rfl⟩:∃ g,f=g+1:=⟨f-1,by omega⟩;by_cases hl:d.length<e
  · exact⟨(far f e hl).1,fun a _ _ _ fA hr=>(far f e hl).2 a fA hr⟩
  obtain⟨i1,i2⟩:=ih f (e+128) (by omega) (by omega) (by omega)
  have hN:asg d f (e+128) (if d.length≤e∨zch d e=true then none else some e)=zEa d 1100 e:=by
   by_cases hg:d.length≤e∨zch d e=true
   · rw [if_pos hg,i1];rcases hg with hg | hg
     · rw [L1 (by omega),L1 hg]
     · by_cases fB:d.length≤e
       · rw [L1 (by omega),L1 fB]
       · exact (L2 hd he (by omega) hg).symm
   · have hz:zch d e=false:=by
      cases h9:zch d e with
      | false=>rfl
      | true=>exact absurd (.inr h9) hg
     have fB:e<d.length:=by omega
     rw [if_neg hg,i2 e he (by omega) (by omega) fB (R2 hd fB (by omega) hz),L3 hd he fB hz]
  refine⟨?_,fun a ha fC fD fA hr=>?_⟩
  · rw [asg,if_neg hl];exact hN
  · rw [show min e d.length=e by omega] at hr;rw [asg,if_neg hl];by_cases hc:(d.length≤e∨zch d e=true)∨e-a=131072
    · have hs:d.length≤e∨zch d e=true∨131072≤e-a:=by
       rcases hc with (hc | hc) | hc
       · exact .inl hc
       · exact .inr (.inl hc)
       · exact .inr (.inr (by omega))
      rw [if_pos hc,hN,hr,zDF hs]
    · rw [if_neg hc]
      have hz:zch d e=false:=by
       cases h9:zch d e with
       | false=>rfl
       | true=>exact absurd (.inl (.inr h9)) hc
      exact i2 a ha (by omega) (by omega) fA (hr.trans (R2 hd (by omega) (by omega) hz))
noncomputable def goT:PT→List Opn→PT×Nat
 | T,[]=>(T,0)
 | T,o::r=>if (T.run o).2.code≠0 then ((T.run o).1,(T.run o).2.code) else goT (T.run o).1 r
def zDR (p:ByteArray) (d:List UInt8) (x:Nat×Nat):Opn:=opW p x.1 ((d.drop x.1).take (x.2-x.1))
def zCb (x:Tn):List Opn :=
 if x.kind=2 then [opM x] else if x.same≠emp then [opK x] else opC1 x::((asg x.data 1100 0 none).map (zDR x.path x.data)++[opT x.path x.data.length])
theorem zHX {p:ByteArray} {d:List UInt8}:∀ (f:Nat) (T:PT) (a:Nat),d.length+128-a≤f * 128→a % 128=0∨d.length≤a→zGF p d (f+1) T a=goT T ((zEa d (f+1) a).map (zDR p d)++[opT p d.length])
 | f,T,a,h,hm=>by
  rw [zGF,zEa];by_cases ha:a<d.length
  · rw [if_pos ha,if_pos ha]
    have fA:a % 128=0:=by omega
    obtain⟨g,rfl⟩:∃ g,f=g+1:=⟨f-1,by omega⟩;obtain⟨s1,s2,s3,s4,_,_⟩:=zDN d a fA 1100 a nr (by omega) (.inl fA) (by omega);by_cases hr:zBF d a 1100 a=a
    · rw [if_pos hr,if_pos hr];exact zHX g T (a+128) (by omega) (by omega)
    · rw [if_neg hr,if_neg hr,List.map_cons,List.cons_append,goT]
      show (if _ then _ else _)=if (T.run (opW p a ((d.drop a).take (zBF d a 1100 a-a)))).2.code≠0 then _ else _
      split
      · rfl
      · exact zHX g _ _ (by omega) (by omega)
  · rw [if_neg ha,if_neg ha]
    show _=goT T [opT p d.length]
    rw [goT];by_cases h0:(T.run (opT p d.length)).2.code=0
    · rw [if_neg (by omega),h0];rfl
    · rw [if_pos h0]
theorem fillT_go {T:PT} {x:Tn} (hd:x.data.length≤136704):zBX T x=goT T (zCb x):=by
 have one:∀ o,((T.run o).1,(T.run o).2.code)=goT T [o]:=fun o=>by
  rw [goT];by_cases h0:(T.run o).2.code=0
  · rw [if_neg (by omega),h0];rfl
  · rw [if_pos h0]
 unfold zBX zCb;by_cases hk:x.kind=2
 · rw [if_pos hk,if_pos hk,one]
 · rw [if_neg hk,if_neg hk];by_cases hs:x.same≠emp
   · rw [if_pos hs,if_pos hs,one]
   · rw [if_neg hs,if_neg hs,goT]
     split
     · rfl
     · rw [(asg_lay hd 1070 1100 0 (by omega) (by omega) rfl).1];exact zHX 1099 _ 0 (by omega) (.inl rfl)
def zKF (q:ByteArray) (l:List Tn):Bool:=l.any fun y=>decide (y.path=q∧y.kind=1)
def mayR (ahead:List Tn) (x:Tn):Bool :=
 if (x.kind≠1∧x.kind≠2)∨x.made<0∨1099511627776<x.made∨136704<x.data.length then false else if x.kind=2 then decide (x.same=emp) && decide (x.data=[]) else if x.same=emp then true else
 zKF x.same ahead && decide (x.data=[])
def FsR (fs:List (ByteArray×Unit)) (ahead:List Tn):Prop:=∀ q,(zAe q fs).isSome=zKF q ahead
theorem FsR.nil:FsR [] []:=fun q=>rfl
theorem FsR.step {fs:List (ByteArray×Unit)} {ahead:List Tn} (h:FsR fs ahead) (x:Tn):FsR (if x.kind=1 then zA2 zAV x.path () fs else fs) (ahead++[x]):=fun q=>by
 have hs:zKF q (ahead++[x])=(zKF q ahead || decide (x.path=q∧x.kind=1)):=by unfold zKF;rw [List.any_append];simp
 rw [hs,←h q];by_cases hk:x.kind=1
 · rw [if_pos hk];by_cases e:q=x.path
   · subst e;rw [zAr,decide_eq_true ⟨rfl,hk⟩,Bool.or_true];rfl
   · rw [zAi zAV _ e,decide_eq_false (fun h=>e h.1.symm),Bool.or_false]
 · rw [if_neg hk,decide_eq_false (fun h=>hk h.2),Bool.or_false]
theorem mayR_may {fs:List (ByteArray×Unit)} {ahead:List Tn} (h:FsR fs ahead) (x:Tn):mayR ahead x=zGQ x fs:=by
 unfold mayR zGQ;rw [h x.same];by_cases h1:x.made<0∨1099511627776<x.made∨136704<x.data.length
 · rw [if_pos (.inr h1),if_pos h1]
 rw [if_neg h1];by_cases h2:x.kind=2
 · rw [if_neg (by omega),if_pos h2,if_pos h2]
 rw [if_neg h2,if_neg h2];by_cases h3:x.kind=1
 · have c1:¬((x.kind≠1∧x.kind≠2)∨x.made<0∨1099511627776<x.made∨136704<x.data.length):=by omega
   rw [if_neg c1,if_neg (show ¬x.kind≠1 by omega)];by_cases h4:x.same=emp
   · rw [if_pos h4,decide_eq_true h4];rfl
   · rw [if_neg h4,decide_eq_false h4,Bool.false_or,Bool.and_comm]
 · rw [if_pos (.inl ⟨h3,h2⟩),if_pos h3]
def zFi:Hd:=⟨1,2,1,0,0,0,none,0,[],none,0,[]⟩
def newT (n m g:Nat):Tr:=⟨n,m,0,some ⟨g,0,none⟩,1,[zFi]⟩
theorem new_ref {S:Nat→Prop} {w:World} {g k n m:Nat} (hS:∀ b,zAJ S g k b→b<w.heap.size) :
 RefS (zAJ S g k) (w.alloc (.cells (zAb zFi).toArray 123)) (newT n m w.heap.size) (PT.new n m):=by
 have hB:=Aj w 123 (zAb zFi);refine⟨⟨⟨⟨rfl,fun _=>⟨w.heap.size,0,rfl,by simp,fun j u hu=>?_⟩⟩,fun y hy=>?_⟩,⟨rfl,rfl,?_,Al _⟩⟩,fun _ a e hs=>?_,fun y hy=>?_⟩
 · rw [Nat.zero_add]
   have e:(newT n m w.heap.size).l.flatMap zAb=zAb zFi:=by simp [newT]
   rw [e] at hu;exact (hB.cell j).trans hu
 · obtain rfl:y=zFi:=by simpa [newT] using hy
   exact⟨rfl,fun s h=>(by cases h),Ap,Ap⟩
 · refine .cons (p:=(1,(⟨true,1,0,0,[],[],[]⟩:PN))) ?_ .nil;exact⟨rfl,rfl,rfl,rfl,rfl,rfl,rfl,⟨fun nm h=>(by cases h),List.Pairwise.nil,fun _=>rfl,fun p h=>(by cases h),fun p h=>(by cases h)⟩,fun p h=>(by cases h)⟩
 · have e:a=⟨w.heap.size,0,none⟩:=(Ae e).symm;subst e;exact absurd (hS _ hs) (Nat.lt_irrefl _)
 · obtain rfl:y=zFi:=by simpa [newT] using hy
   exact⟨fun h=>absurd h (by simp [zFi]),fun h=>absurd h (by simp [zFi])⟩
theorem rnew_any (S:Nat→Prop) (n m:Nat) (w:World) (hS:∀ b,S b→b<w.heap.size) (hn:8≤n∧n≤4096) (hm:1≤m∧m≤512) (fJ:m+2≤n) :
 Calls Ab 31 #[.int .i64 (n:Int),.int .i64 (m:Int)] w (zIo S (PT.new n m,0) w):=by
 obtain⟨Q,hQ⟩:=nM (zIo S (PT.new n m,0) w);rw [hQ];have fF:=hid hQ;have fA:=Aj w 28 z4;have fB:Below w.heap.size w (w.alloc (.cells z4.toArray 28)):=br.alloc nr _
 have fC:(w.alloc (.cells z4.toArray 28)).heap.size=w.heap.size+1:=by simp
 have fG:=hid hS;obtain⟨g,hz⟩:=nM (w.heap.size);rw [hz] at fA fB fC;have t1:decide ((n:Int)<8)=false:=decide_eq_false (by omega);have t2:decide ((n:Int) > 4096)=false:=decide_eq_false (by omega);have t3:decide ((m:Int)<1)=false:=decide_eq_false (by omega);have t4:decide ((m:Int) > 512)=false:=decide_eq_false (by omega);have t5:decide ((m:Int)+2 > (n:Int))=false:=decide_eq_false (by omega);have v1:IntKind.i64.wrap ((m:Int)+2)=(m:Int)+2:=zAF _ (by omega);clear hQ hS;go_enter Tryz.func31,Tryz.ntmps31;go_upto_region 1 with (fail)
 try simp only [hz]
 change Ak _ _ _ _ (w.alloc (.cells z4.toArray 28));generalize w.alloc (.cells z4.toArray 28)=w0 at *;have fH:=hid hz;have fD:Blk (w0.alloc (.cells (zAb zFi).toArray 123)) g 28 z4:=fA.alloc _;have fI:Below g w (w0.alloc (.cells (zAb zFi).toArray 123)):=fB.alloc (by omega) _;have fE:=hid (new_ref (S:=S) (w:=w0) (g:=g) (k:=1) (n:=n) (m:=m) (zA8 (fun b hb=>by have:=fG.o b hb;omega) (by omega)));rw [fC] at fE;clear hz
 go_wp2_with (first
  | (refine zAo rfl 26 123 (.tmp 29) rfl (zAb zFi).toArray (by rfl) 8 Tryz.underlying26 zCe zEi rfl (by omega) (by omega) ?_)
  | (refine wpList_store_row rfl 28 _ _ rfl g (zAa (newT n m (g+1))).toArray rfl (by rfl) 28 _ fD rfl rfl (zCm _) ?_))
 exact zAA (k:=1) fD fF.o rfl fE.o fI fH.o ⟨Al _,by omega⟩ rfl rfl rfl rfl
theorem one8o (a d e f g:Int) (b c:ByteArray) (A:Option Addr) (n k:Nat):(([.int .i64 a,.string b,.string c,.int .i64 d,.int .i64 e,.slice A n k,.int .i64 f,.int .i64 g]:List Value).toArray).all (·.oneCell')=true:=by
 rw [Array.all_eq_true_iff_forall_mem];intro v hv;simp only [List.mem_toArray,List.mem_cons,List.not_mem_nil,or_false] at hv;rcases hv with rfl | rfl | rfl | rfl | rfl | rfl | rfl | rfl<;>rfl
def TwinP (o:Opn) (w:World) (e:Ending) (w':World):Prop:=(∃ A c,e=.returned (opV o A c)∧Sees w' w'.heap.size 1 A o.data.length (bvs o.data)∧o.data.length≤c)∧Below w.heap.size w w'
theorem twin_any (o:Opn) (A:Option Addr) (c:Nat) (w:World) (hs:Sees w w.heap.size 1 A o.data.length (bvs o.data)) (hl:o.data.length≤1000000000) :
 Calls Ab 25 #[opV o A c] w (TwinP o w):=by
 obtain⟨i0,hi,fW,fH,fX⟩:=info_parts zCP;obtain⟨ok,pa,ds,oo,ol,da,om,op⟩:=o;obtain⟨Q,hQ⟩:=nM (TwinP ⟨ok,pa,ds,oo,ol,da,om,op⟩ w);rw [hQ];have fY:=hid hQ;simp only at hs hl;obtain⟨len,fB⟩:=nM (da.length);have fA:=hid fB;unfold opV opC;simp only [fB];rw [fB] at hs hl;clear hQ fB;go_enter Tryz.func25,Tryz.ntmps25;go_upto_region 2 with (fail);have fE:Below w.heap.size w ((w.alloc (.cells [.int .i64 ok,.string pa,.string ds,.int .i64 oo,.int .i64 ol,.slice A len c,.int .i64 om,.int .i64 op].toArray 70)).alloc (.cells [.int .i64 0,.string ⟨#[]⟩,.string ⟨#[]⟩,.int .i64 0,.int .i64 0,.slice none 0 0,.int .i64 0,.int .i64 0].toArray 70)):=(br.alloc nr _).alloc (by simp) _;have fG:Blk ((w.alloc (.cells [.int .i64 ok,.string pa,.string ds,.int .i64 oo,.int .i64 ol,.slice A len c,.int .i64 om,.int .i64 op].toArray 70)).alloc (.cells [.int .i64 0,.string ⟨#[]⟩,.string ⟨#[]⟩,.int .i64 0,.int .i64 0,.slice none 0 0,.int .i64 0,.int .i64 0].toArray 70)) w.heap.size 70 [.int .i64 ok,.string pa,.string ds,.int .i64 oo,.int .i64 ol,.slice A len c,.int .i64 om,.int .i64 op]:=(Aj w _ _).alloc _
 have fI:Blk ((w.alloc (.cells [.int .i64 ok,.string pa,.string ds,.int .i64 oo,.int .i64 ol,.slice A len c,.int .i64 om,.int .i64 op].toArray 70)).alloc (.cells [.int .i64 0,.string ⟨#[]⟩,.string ⟨#[]⟩,.int .i64 0,.int .i64 0,.slice none 0 0,.int .i64 0,.int .i64 0].toArray 70)) (w.heap.size+1) 70 [.int .i64 0,.string ⟨#[]⟩,.string ⟨#[]⟩,.int .i64 0,.int .i64 0,.slice none 0 0,.int .i64 0,.int .i64 0]:=by
  have h9:=Aj (w.alloc (.cells [.int .i64 ok,.string pa,.string ds,.int .i64 oo,.int .i64 ol,.slice A len c,.int .i64 om,.int .i64 op].toArray 70)) 70 [.int .i64 0,.string ⟨#[]⟩,.string ⟨#[]⟩,.int .i64 0,.int .i64 0,.slice none 0 0,.int .i64 0,.int .i64 0];simpa using h9
 have fZ:((w.alloc (.cells [.int .i64 ok,.string pa,.string ds,.int .i64 oo,.int .i64 ol,.slice A len c,.int .i64 om,.int .i64 op].toArray 70)).alloc (.cells [.int .i64 0,.string ⟨#[]⟩,.string ⟨#[]⟩,.int .i64 0,.int .i64 0,.slice none 0 0,.int .i64 0,.int .i64 0].toArray 70)).heap.size=w.heap.size+2:=by simp
 change Ak _ _ _ _ ((w.alloc (.cells [.int .i64 ok,.string pa,.string ds,.int .i64 oo,.int .i64 ol,.slice A len c,.int .i64 om,.int .i64 op].toArray 70)).alloc (.cells [.int .i64 0,.string ⟨#[]⟩,.string ⟨#[]⟩,.int .i64 0,.int .i64 0,.slice none 0 0,.int .i64 0,.int .i64 0].toArray 70));generalize ((w.alloc (.cells [.int .i64 ok,.string pa,.string ds,.int .i64 oo,.int .i64 ol,.slice A len c,.int .i64 om,.int .i64 op].toArray 70)).alloc (.cells [.int .i64 0,.string ⟨#[]⟩,.string ⟨#[]⟩,.int .i64 0,.int .i64 0,.slice none 0 0,.int .i64 0,.int .i64 0].toArray 70))=w1 at *;have fT:=(hs.below fE).more fE.size;obtain⟨g,fJ⟩:=nM (w.heap.size);rw [fJ] at fG fZ fI;have fK:=hid fI;simp only [fJ];have gA:=hid fJ;have yc:=fun j=>fG.cell j;have y5:=yc 5;simp only [Ah,Ai] at y5;have fL:=zCn (tx:=64) w1 Ad c fT (zB4 _);have fM:=hid fG;clear yc fG hs fT fI
 go_upto_region 3 with (first
  | (at_builtin;refine zAg _ (by rfl) _ _ _ _ (by rfl) (g+2) 5 i0 (.int .u8 0) 1 1 Ad hi fW fH fX rfl (.slice none 0 0) 0 [] (by rfl) (World.ownsRow_nil _ _ _ _) len (bvs da) fL (by unfold maxLen;omega) (by omega) (by omega) ?_;intro v2 w2 fD fU fN;obtain⟨A2,c2,rfl,gB⟩:=Ao (B:=w2.heap.size) fD (fun g hg=>(fD.lt g hg).2);have fO:Chg (fun _=>False) w1 w2:=(Aq _ w1).grown fU (fun g e=>by cases e);have fP:=fM.o.chg fO id;have yc:=fun j=>fP.cell j;have f5:=fP.frozen 5;have x0:=yc 0;have x1:=yc 1;have x2:=yc 2;have x3:=yc 3;have x4:=yc 4;have x5:=yc 5;have x6:=yc 6;have x7:=yc 7;simp only [Ah,Ai] at x0 x1 x2 x3 x4 x5 x6 x7;have fQ:=hid fD;have fC:=hid fO;clear fD fO fP yc fN fU))
 have fF:Chg (fun b=>b=g) w2 (w2.setCell ⟨g,5,none⟩ (.slice A2 len c2)):=(Aq (fun b=>b=g) w2).setCell (p:=⟨g,5,none⟩) (fun _=>rfl) _;have fV:Blk (w2.setCell ⟨g,5,none⟩ (.slice A2 len c2)) (g+1) 70 [.int .i64 0,.string ⟨#[]⟩,.string ⟨#[]⟩,.int .i64 0,.int .i64 0,.slice none 0 0,.int .i64 0,.int .i64 0]:=(fK.o.chg fC.o id).chg fF (by omega);have fR:=setRow_heap (w2.setCell ⟨g,5,none⟩ (.slice A2 len c2)) (g+1) _ ([.int .i64 ok,.string pa,.string ds,.int .i64 oo,.int .i64 ol,.slice A2 len c2,.int .i64 om,.int .i64 op]:List Value).toArray _ _ fV;go_wp2_with (refine wpList_store_row rfl 70 (.tmp 2) (.tmp 9) rfl (g+1) ([.int .i64 ok,.string pa,.string ds,.int .i64 oo,.int .i64 ol,.slice A2 len c2,.int .i64 om,.int .i64 op]:List Value).toArray rfl (by rfl) 70 _ fV rfl rfl (one8o _ _ _ _ _ _ _ _ _ _) ?_);refine bodyPost_ret (results_cell_row rfl _ _ (g+1) 70 ([.int .i64 ok,.string pa,.string ds,.int .i64 oo,.int .i64 ol,.slice A2 len c2,.int .i64 om,.int .i64 op]:List Value).toArray (0,0) _ rfl fR Tryz.underlying70 rfl rfl) rfl ?_;rw [←fY.o];have fS:Chg (fun b=>b=g+1) (w2.setCell ⟨g,5,none⟩ (.slice A2 len c2)) ((w2.setCell ⟨g,5,none⟩ (.slice A2 len c2)).setRow (g+1) ([.int .i64 ok,.string pa,.string ds,.int .i64 oo,.int .i64 ol,.slice A2 len c2,.int .i64 om,.int .i64 op]:List Value).toArray):=(Aq (fun b=>b=g+1) _).setRow (fun _=>rfl) _;have fD:=fQ.o;refine⟨⟨A2,c2,?_,?_,?_⟩,?_⟩
 · unfold opV opC;simp only [fA.o]
 · simp only [fA.o]
   have h9:=(gB.chgS (by decide) fF (fun b off e hn hb=>by
    subst e;have:=(fD.lt b rfl).1
    omega)).chgS (by decide) fS (fun b off e hn hb=>by
    subst e;have:=(fD.lt b rfl).1;omega) |>.more (Am fF.size fS.size)
   simpa using h9
 · simp only [fA.o];rcases fD.2 with ⟨h8,h9⟩ | ⟨g',cap,cur,h9,_,_,hnc,_⟩
   · omega
   · injection h9 with _ _ e3;omega
 · have gC:=gA.o;exact ((fE.trans (fC.o.below fE.size fun _ _ h=>h)).trans (fF.below (Am fE.size fC.o.size) fun b hb e=>by omega)).trans (fS.below (Am (Am fE.size fC.o.size) fF.size) fun b hb e=>by omega)
def pkN (c:Int) (n:Nat):Nat:=(if c<0 then (-(c+1)).toNat else c.toNat) % n
theorem zIM (c:Int) {n:Nat} (h:0<n):pkN c n<n:=Nat.mod_lt _ h
theorem zJf (c:Int) (n:Nat) (w:World) (h1 : -9223372036854775808≤c) (h2:c≤9223372036854775807) (hn:0<n) (fA:n≤1000000000) :
 Calls Ab 27 #[.int .i64 c,.int .i64 n] w fun e w'=>e=.returned (.int .i64 (pkN c n:Nat))∧w=w':=by
 go_enter Tryz.func27,Tryz.ntmps27;by_cases hc:c<0
 · have t1:decide (c<0)=true:=by simpa using hc
   have hv : -((c+1).tmod (n:Int))=((pkN c n:Nat):Int):=by
    unfold pkN;rw [if_pos hc];obtain⟨x,hx⟩:∃ x:Nat,-(c+1)=(x:Int):=⟨(-(c+1)).toNat,by omega⟩;rw [hx,Int.toNat_natCast,show c+1=-(x:Int) by omega,Int.neg_tmod,Int.neg_neg,Int.tmod_eq_emod_of_nonneg (by omega)];rfl
   go_wp2;go_ret;exact⟨rfl,rfl⟩
 · have t1:decide (c<0)=false:=by simpa using hc
   have hv:c % (n:Int)=((pkN c n:Nat):Int):=by
    unfold pkN;rw [if_neg hc];obtain⟨x,rfl⟩:=Int.eq_ofNat_of_zero_le (by omega:0≤c);rw [Int.toNat_natCast];rfl
   go_wp2;go_ret;exact⟨rfl,rfl⟩
def szN (s:Int):Nat:=8+pkN s 4089
def szM (s i:Int):Nat:=1+pkN i (min 512 (szN s-2))
theorem sz_ok (s i:Int):(8≤szN s∧szN s≤4096)∧(1≤szM s i∧szM s i≤512)∧szM s i+2≤szN s:=by
 have h1:=zIM s (n:=4089) (by decide);have h2:=zIM i (n:=min 512 (szN s-2)) (by unfold szN;omega);unfold szM;have h3:szN s=8+pkN s 4089:=rfl;omega
theorem sizes_any (s i:Int) (w:World) (h1 : -9223372036854775808≤s) (h2:s≤9223372036854775807) (h3 : -9223372036854775808≤i) (h4:i≤9223372036854775807) :
 Calls Ab 22 #[.int .i64 s,.int .i64 i] w fun e w'=>e=.returned (.tuple #[.int .i64 (szN s:Nat),.int .i64 (szM s i:Nat)])∧w=w':=by
 have c1:=zJf s 4089 w h1 h2 (by decide) (by decide);have c2:=zJf i (min 512 (szN s-2)) w h3 h4 (by unfold szN;omega) (by omega);have l1:=zIM s (n:=4089) (by decide);obtain⟨a,ha⟩:=nM (pkN s 4089);have l2:=zIM i (n:=min 512 (szN s-2)) (by unfold szN;omega)
 have e1:szN s=8+a:=by unfold szN;rw [ha]
 have e2:szM s i=1+pkN i (min 512 (szN s-2)):=rfl;rw [e2];rw [e1] at c2 l2 ⊢;rw [ha] at c1 l1;rw [show ((4089:Nat):Int)=4089 from rfl] at c1;obtain⟨b,hb⟩:=nM (pkN i (min 512 (8+a-2)));rw [hb] at c2 l2 ⊢;obtain⟨q,hq⟩:=nM (min 512 (8+a-2));rw [hq] at c2 l2
 have fA:min (512:Int) (8+(a:Int)-2)=(q:Int):=by omega
 clear ha e1 e2 hb;go_enter Tryz.func22,Tryz.ntmps22
 go_wp2_with (first
  | (go_at_call 27;(with_reducible refine c1.mono ?_);rintro e w1 ⟨rfl,rfl⟩)
  | (go_at_call 27;(with_reducible refine c2.mono ?_);rintro e w1 ⟨rfl,rfl⟩))
 go_ret2
 exact⟨rfl,rfl⟩
end Go.Proofs.YtolpcfhfcdkokaaGreatDoor
