/- Joined out of SWr..SWr. -/
import Derived.Test.YtolpcfhfcdkokaaGreatDoorQ38
set_option maxHeartbeats 16000000
set_option maxRecDepth 100000
namespace Go.Proofs.YtolpcfhfcdkokaaGreatDoor
open Lib (hid)
open Go.RowKit
theorem upd_self {T:PT} (hT:T.Ok) {i:Nat} {n:PN} (hg:zAd i T.nodes=some n):T.upd i n=T:=by
 have e:zBa zAG i n T.nodes=T.nodes:=zBs.ext zAG (hT.ris.put zAG zCj i n) hT.ris fun a=>by
  by_cases e:a=i
  · subst e;rw [zAu,hg]
  · rw [zAl zAG _ e]
 unfold PT.upd;rw [e]
def hdD (x:Hd) (D:Dat) (iA:Option Addr) (ic:Nat) (dA:Option Addr) (dc:Nat):Hd:={x with iA:=iA,ic:=ic,dA:=dA,dc:=dc,idx:=D.map (·.1),dat:=D.map (·.2)}
def setZ (y:Hd) (z:Int):Hd:={y with size:=z}
structure HdO (S:Nat→Prop) (w:World) (y:Hd):Prop where
 at_:HdAt w w.heap.size y
 oi:zGm S y.idx.length y.iA
 od:zGm S y.dat.length y.dA
theorem HdO.fresh {S:Nat→Prop} {w w':World} {y:Hd} (h:HdO S w y) (hb:Below w.heap.size w w'):HdO S w' y:=⟨(h.at_.below hb).more hb.size,h.oi,h.od⟩
theorem HdO.chg {S:Nat→Prop} {w w':World} {y:Hd} (h:HdO S w y) (hc:Chg S w w'):HdO S w' y:=⟨(zGh h.at_ hc h.oi h.od).more hc.size,h.oi,h.od⟩
theorem laid_in {S:Nat→Prop} {w:World} {x:Hd} {D:Dat} {iA:Option Addr} {ic:Nat} {dA:Option Addr} {dc k:Nat} {s:List UInt8} (h:HdO S w (hdD x D iA ic dA dc)) (hS:∀ b,S b→b<w.heap.size) (hD:DOk D) (hs:s.length=128) :
 Calls Tryz.prog 120 #[.agg (zAb (hdD x D iA ic dA dc)).toArray,.int .i64 (k:Int),.agg (bvs s).toArray] w fun e w'=>(∃ iA ic dA dc,e=.returned (.agg (zAb (hdD x (zBa zAG k s D) iA ic dA dc)).toArray)∧HdO S w' (hdD x (zBa zAG k s D) iA ic dA dc))∧Below w.heap.size w w':=by
 have fA:zBg kB (k,s) false ((hdD x D iA ic dA dc).idx.zip (hdD x D iA ic dA dc).dat)=zBa zAG k s D:=by
  show zBg kB (k,s) false ((D.map (·.1)).zip (D.map (·.2)))=_
  rw [zip_ab,zGS k s hD.ris]
 refine (zId w.heap.size (hdD x D iA ic dA dc) k s w h.at_ (Nat.le_refl _) hs (by show (D.map (·.1)).length≤1100;rw [List.length_map];have:=hD.dlen;omega)).mono ?_;rintro e w' ⟨⟨iA',ic',dA',dc',rfl,hy,h1,h2⟩,hb⟩;rw [fA] at hy;refine⟨⟨iA',ic',dA',dc',?_,hy,fun _ a ea hs=>?_,fun _ a ea hs=>?_⟩,hb⟩
 · rw [fA];rfl
 · have:=h1 a ea;have:=hS _ hs;omega
 · have:=h2 a ea;have:=hS _ hs;omega
theorem zHY (S:Nat→Prop) (t:Tr) (T:PT) (i:Nat) (n:PN) (x:Hd) (off:Int) (ds:List UInt8) (A:Option Addr) (c:Nat) (w:World) (h:RefS S w t T) (hx:HdR S w x i n) (hS:∀ b,S b→b<w.heap.size) (hT:T.Inv) (hg:zAd i T.nodes=some n) (hd:n.dir=false)
 (hds:Sees w w.heap.size 1 A ds.length (bvs ds)) (lL:ds.length≤1000000000) :
 Calls Tryz.prog 84 #[.agg (zAa t).toArray,.agg (zAb x).toArray,.int .i64 off,.slice A ds.length c] w (zHx S (T.write i off ds) w):=by
 obtain⟨lk,gW⟩:∃ lk,T.write i off ds=lk:=⟨_,rfl⟩;rw [gW];obtain⟨Q,hQ⟩:∃ Q,zHx S lk w=Q:=⟨_,rfl⟩;rw [hQ];obtain⟨g,hz⟩:∃ g,w.heap.size=g:=⟨_,rfl⟩;have fV:=hid (zBV h hz 3);have jY:=hid (inS (k:=3) hS hz);have kS:Hid (∀ W,Below g w W→HdR (zAM S g 3) W x i n):=hid fun W hb=>(hx.addR 3 (Nat.le_of_eq hz)).fresh (hz▸hb);have gX:=(hT.gr.ok.get hg).1
 have gY:Hid (∀ W,Below g w W→Sees W g 1 A ds.length (bvs ds)):=hid fun W hb=>by rw [hz] at hds;exact hds.below hb
 unfold PT.write at gW;simp only [zAp hg] at gW;have fA:=sth_0 w t x;rw [hz] at fA;have kT:=hx.rep.fidx gX hd;have kU:=hx.rep.fdat gX hd;have fO:x.size=(n.size:Int):=hx.rep.size;have fW:=hid hQ;have mE:Hid (∀ b,S b→b<g):=hid (by rw [←hz];exact hS);have hu:=hid gW.symm;have gL:=hid hT;have jZ:=hid hg;have kV:=hid hd;have fF:=hid gX;have gM:=hid kT;have gZ:=hid kU;have fX:=hid hz;have mF:=gX.size;have kA:=hid hx.rep;obtain⟨dl,gN⟩:∃ dl,ds.length=dl:=⟨_,rfl⟩;rw [gN] at lL hu gY ⊢;have fB:=hid gN;clear gW hQ h hx hS hT hg hd gX kT kU hds gN;go_enter Tryz.func84,Tryz.ntmps84;go_upto_region 1 with (fail)
 try simp only [hz]
 change Code.wp _ _ _ _ (((w.alloc (.cells (zAa t).toArray 28)).alloc (.cells (zAb x).toArray 123)).alloc (.cells z4.toArray 28));generalize ((w.alloc (.cells (zAa t).toArray 28)).alloc (.cells (zAb x).toArray 123)).alloc (.cells z4.toArray 28)=w0 at *;clear hz;by_cases fG:off<0∨131072<dl∨136704<off+dl
 · have fP:Hid (lk=(T,101)):=hid (by rw [hu.out,if_pos fG]);by_cases q1:off<0
   · have t1:decide (off<0)=true:=decide_eq_true q1;clear fG
     go_wp2_with (first
      | (refine wpList_load_row rfl 28 _ rfl g rfl 28 (zAa t).toArray _ _ fA.tb Tryz.underlying28 rfl rfl ?_)
      | (refine wpList_store_row rfl 28 _ _ rfl (g+2) (zAa t).toArray rfl (by rfl) 28 _ fA.rb rfl rfl (zAc t) ?_))
     exact zAB (k:=3) fA.rb fW.out fP.out (fV.out _ fA.bl) fA.bl fX.out ⟨by omega,by omega⟩ rfl rfl rfl rfl
   have t1:decide (off<0)=false:=decide_eq_false q1;by_cases q2:131072<dl
   · have t2:decide ((dl:Int) > 131072)=true:=decide_eq_true (by omega);clear fG
     go_wp2_with (first
      | (refine wpList_load_row rfl 28 _ rfl g rfl 28 (zAa t).toArray _ _ fA.tb Tryz.underlying28 rfl rfl ?_)
      | (refine wpList_store_row rfl 28 _ _ rfl (g+2) (zAa t).toArray rfl (by rfl) 28 _ fA.rb rfl rfl (zAc t) ?_))
     exact zAB (k:=3) fA.rb fW.out fP.out (fV.out _ fA.bl) fA.bl fX.out ⟨by omega,by omega⟩ rfl rfl rfl rfl
   have t2:decide ((dl:Int) > 131072)=false:=decide_eq_false (by omega);by_cases q3:136704<off
   · have t3:decide (off > 136704)=true:=decide_eq_true (by omega);clear fG
     go_wp2_with (first
      | (refine wpList_load_row rfl 28 _ rfl g rfl 28 (zAa t).toArray _ _ fA.tb Tryz.underlying28 rfl rfl ?_)
      | (refine wpList_store_row rfl 28 _ _ rfl (g+2) (zAa t).toArray rfl (by rfl) 28 _ fA.rb rfl rfl (zAc t) ?_))
     exact zAB (k:=3) fA.rb fW.out fP.out (fV.out _ fA.bl) fA.bl fX.out ⟨by omega,by omega⟩ rfl rfl rfl rfl
   have t3:decide (off > 136704)=false:=decide_eq_false (by omega);have v0:IntKind.i64.wrap (off+(dl:Int))=off+(dl:Int):=zAF _ (by omega);have t4:decide (off+(dl:Int) > 136704)=true:=decide_eq_true (by omega);clear fG
   go_wp2_with (first
    | (refine wpList_load_row rfl 28 _ rfl g rfl 28 (zAa t).toArray _ _ fA.tb Tryz.underlying28 rfl rfl ?_)
    | (refine wpList_store_row rfl 28 _ _ rfl (g+2) (zAa t).toArray rfl (by rfl) 28 _ fA.rb rfl rfl (zAc t) ?_))
   exact zAB (k:=3) fA.rb fW.out fP.out (fV.out _ fA.bl) fA.bl fX.out ⟨by omega,by omega⟩ rfl rfl rfl rfl
 have h0:0≤off:=by omega
 obtain⟨e,rfl⟩:=Int.eq_ofNat_of_zero_le h0
 have kC:e+dl≤136704:=by omega
 have lM:dl≤131072:=by omega
 have fP:=hu.out;rw [if_neg fG] at fP;simp only [Int.toNat_natCast] at fP;have t1:decide ((e:Int)<0)=false:=decide_eq_false (by omega);have t2:decide ((dl:Int) > 131072)=false:=decide_eq_false (by omega);have t3:decide ((e:Int) > 136704)=false:=decide_eq_false (by omega);have v0:IntKind.i64.wrap ((e:Int)+(dl:Int))=(e:Int)+(dl:Int):=zAF _ (by omega);have t4:decide ((e:Int)+(dl:Int) > 136704)=false:=decide_eq_false (by omega);clear fG hu h0;by_cases kD:dl=0
 · have kW:n.wrote e ds=n:=by
    have h9:ds=[]:=List.eq_nil_of_length_eq_zero (fB.out.trans kD);rw [h9];rfl
   have jR:Hid (lk=(T,0)):=hid (by
    rw [fP,kW,if_pos (by have:=gL.out.room;omega),upd_self gL.out.gr.ok jZ.out])
   have t5:((dl:Int)==0)=true:=by rw [kD];rfl
   clear fP kW kD
   go_wp2_with (first
    | (refine wpList_load_row rfl 28 _ rfl g rfl 28 (zAa t).toArray _ _ fA.tb Tryz.underlying28 rfl rfl ?_)
    | (refine wpList_store_row rfl 28 _ _ rfl (g+2) (zAa t).toArray rfl (by rfl) 28 _ fA.rb rfl rfl (zAc t) ?_))
   exact zAB (k:=3) fA.rb fW.out jR.out (fV.out _ fA.bl) fA.bl fX.out ⟨by omega,by omega⟩ rfl rfl rfl rfl
 have t5:((dl:Int)==0)=false:=by simp;omega
 have jR:=hid fP
 have vq:IntKind.i64.wrap ((e:Int) / 128)=((e / 128:Nat):Int):=by rw [zAF _ (by omega)];omega
 have vq2:(e:Int).tdiv 128=((e / 128:Nat):Int):=by rw [Int.tdiv_eq_ediv_of_nonneg (by omega)];omega
 clear fP
 go_upto_region 6 with (first
  | (refine wpList_load_row rfl 123 _ rfl (g+1) rfl 123 (zAb x).toArray _ _ fA.xb Tryz.underlying123 rfl rfl ?_)
  | (refine wpList_store_row rfl 123 _ _ rfl w0.heap.size (zAb x).toArray rfl (by rfl) 123 _ (Blk.new w0 123 z8) rfl rfl (zHl x) ?_))
 obtain⟨hY,kE⟩:=zBx w0 x;have kX:=fA.fresh kE;have mG:g+3≤w0.heap.size:=fA.le;change Code.wp _ _ _ _ ((w0.alloc (.cells z8.toArray 123)).setRow w0.heap.size (zAb x).toArray);have lN:Hid (∀ W:World,w0.heap.size+1≤W.heap.size→∀ b,zAM (zAM S g 3) w0.heap.size 1 b→b<W.heap.size):=hid fun W hW=>zBe (fun b hb=>jY.out W (by omega) b hb) hW
 have lO:Hid (∀ W,Below w0.heap.size w0 W→HdO (zAM (zAM S g 3) w0.heap.size 1) W x):=hid fun W hb=>by
  have h9:=((kS.out w0 fA.bl).addR 1 (Nat.le_refl _)).fresh hb;exact⟨h9.at_,h9.oi,h9.od⟩
 have kF:=hid kE;clear kE fA;generalize (w0.alloc (.cells z8.toArray 123)).setRow w0.heap.size (zAb x).toArray=w1 at *;generalize lP:w0.heap.size=y at *
 have kY:x=hdD x n.data x.iA x.ic x.dA x.dc:=by
  unfold hdD;rw [←gM.out,←gZ.out]
 have kG:=hid hY;have jA:=hid kX;have gO:=hid (lO.out w1 kF.out);rw [kY] at kG gO
 have fH:Hid (wrB n.data e (ds.take (e / 128 * 128-e))=n.data):=hid (by
  rw [show e / 128 * 128-e=0 by omega];rfl)
 have lQ:Hid (∀ j,DOk (wrB n.data e (ds.take j))):=hid fun j=>fF.out.dOk.wrB (by rw [List.length_take,fB.out];omega);clear hY kX lP kY t1 t2 t3 t4 t5;go_wp2_with fail
 go_loopw [11] (fun k' wr=>∃ (k:Nat) (iA:Option Addr) (ic:Nat) (dA:Option Addr) (dc:Nat),e / 128≤k∧k≤1069∧k'=.int .i64 (k:Int)∧Hid (Blk wr y 123 (zAb (hdD x (wrB n.data e (ds.take (k * 128-e))) iA ic dA dc)))∧Hid (HdO (zAM (zAM S g 3) y 1) wr (hdD x (wrB n.data e (ds.take (k * 128-e))) iA ic dA dc))∧Hid (StH w wr g t x)) (fun k' _=>1069-(intOf k').toNat)
 case atStart=>exact⟨e / 128,x.iA,x.ic,x.dA,x.dc,Nat.le_refl _,by omega,by first | rfl | go_num,by rw [fH.out];exact kG,by rw [fH.out];exact gO,jA⟩
 case round =>
  obtain⟨k,iA,ic,dA,dc,lR,mH,rfl,jS,jT,gP⟩:=hrel;clear kG gO jA fH;have v1:IntKind.i64.wrap ((k:Int) * 128)=(k:Int) * 128:=zAF _ (by omega);by_cases lS:k * 128<e+dl
  · have t1:decide ((k:Int) * 128<(e:Int)+(dl:Int))=true:=decide_eq_true (by omega);have kZ:=zG1 wr.heap.size x k wr (kS.out wr gP.out.bl).at_ (Nat.le_refl _) (by rw [gM.out,List.length_map];have:=fF.out.dlen;omega);have fY:=hid (kZ.mono fun e w' h9=>zJ3 gM.out gZ.out fF.out.dris h9);unfold hdV zB8 at fY;obtain⟨s,jU⟩:∃ s,zA5 n.data k=s:=⟨_,rfl⟩;rw [jU] at fY
    have fU:s.length=128:=by rw [←jU];exact fF.out.dOk.blk k
    have kI:=hid jU;have jB:=gP.out;clear kZ jU
    go_upto_region 10 with (first
     | (refine wpList_load_row rfl 123 _ rfl (g+1) rfl 123 (zAb x).toArray _ _ jB.xb Tryz.underlying123 rfl rfl ?_)
     | (go_at_call 119;(with_reducible refine (fY.out).mono ?_);rintro eb w3 ⟨⟨bb,rfl⟩,jC⟩)
     | (refine wpList_store_row rfl 187 _ _ rfl w3.heap.size (bvs s).toArray rfl (by rfl) 187 _ (Blk.new w3 187 (bvs zBN)) (zAE fU) (by rw [List.size_toArray,List.size_toArray,zAe,zAe,fU,zAt]) (zBc s) ?_))
    have lA:Blk ((w3.alloc (.cells Tryz.zeroCells187 187)).setRow w3.heap.size (bvs s).toArray) w3.heap.size 187 (bvs s):=setRow_heap _ _ _ _ _ _ (zBh rfl);have lB:Below wr.heap.size wr ((w3.alloc (.cells Tryz.zeroCells187 187)).setRow w3.heap.size (bvs s).toArray):=jC.trans ((((Chg.refl (fun b=>w3.heap.size≤b) w3).alloc _).setRow (fun _=>Nat.le_refl _) _).below jC.size fun b hb h=>by have:=jC.size;omega);change Code.wp _ _ _ _ ((w3.alloc (.cells Tryz.zeroCells187 187)).setRow w3.heap.size (bvs s).toArray);have jD:=hid lB;have jE:=hid lA;have kJ:wr.heap.size≤w3.heap.size:=jC.size;clear lB lA jC fY jB;generalize (w3.alloc (.cells Tryz.zeroCells187 187)).setRow w3.heap.size (bvs s).toArray=w4 at *;generalize w3.heap.size=sb at *;generalize lT:wr=wo at *;clear lT;go_wp2_with fail
    go_loopw [14] (fun j' wr=>∃ q:Nat,q≤128∧j'=.int .i64 (q:Int)∧Hid (Blk wr sb 187 (bvs (wl e k ds s q)))∧Hid (Below wo.heap.size wo wr)) (fun j' _=>128-(intOf j').toNat)
    case atStart=>exact⟨0,Nat.zero_le _,rfl,jE,jD⟩
    case round =>
     obtain⟨q,hq,rfl,fZ,gA⟩:=hrel;clear jD jE;by_cases lU:q<128
     · have gI:=zHT e k ds s q;have v2:IntKind.i64.wrap ((k:Int) * 128+(q:Int))=(k:Int) * 128+(q:Int):=zAF _ (by omega);have v3:IntKind.i64.wrap ((k:Int) * 128+(q:Int)-(e:Int))=(k:Int) * 128+(q:Int)-(e:Int):=zAF _ (by omega);by_cases jF:e≤k * 128+q∧k * 128+q-e<ds.length
       · obtain⟨a,ha⟩:∃ a,k * 128+q-e=a:=⟨_,rfl⟩;rw [dif_pos jF] at gI
         have lV:a<dl:=by have:=fB.out;omega
         have lW:(k:Int) * 128+(q:Int)-(e:Int)=(a:Int):=by omega
         rw [lW] at v3;have v4:IntKind.i64.wrap (a:Int)=(a:Int):=zAF _ (by omega)
         have lX:a<ds.length:=by rw [fB.out];exact lV
         simp only [ha] at gI;obtain⟨b5,off5,lY,-,lC⟩:=(gY.out wr ((gP.out.fresh gA.out).bl)).at_ (by omega);have c0:=lC a _ (zCO ds a lX);subst lY
         have lZ:q<(wl e k ds s q).length:=by rw [zEZ,fU];exact lU
         have z0:=(fZ.out.cell q).trans (by rw [zCO _ _ lZ]);have zf:=fZ.out.frozen q;obtain⟨bv,lD⟩:∃ bv,ds[a]=bv:=⟨_,rfl⟩;rw [lD] at c0
         have lE:Blk (wr.setCell ⟨sb,q,none⟩ (.int .u8 (bv.toNat:Int))) sb 187 (bvs (wl e k ds s (q+1))):=by
          have h9:=fZ.out.set_ q (.int .u8 (bv.toNat:Int));rw [gI];rw [lD];rw [show bvs ((wl e k ds s q).set q bv)=(bvs (wl e k ds s q)).set q (.int .u8 (bv.toNat:Int)) from by unfold bvs;rw [List.map_set]];exact h9
         have lF:Below wo.heap.size wo (wr.setCell ⟨sb,q,none⟩ (.int .u8 (bv.toNat:Int))):=gA.out.setCell (p:=⟨sb,q,none⟩) kJ _;have kK:=hid lE;have kL:=hid lF;clear gI jF fZ gA lE lF lC ha;go_wp2_with fail;go_roundw
         case rel=>exact⟨q+1,by omega,by go_num,kK,kL⟩
         case measure=>simp [intOf];omega
       · rw [dif_neg jF] at gI;rw [←gI] at fZ;by_cases mA:e≤k * 128+q
         · have t6:decide ((k:Int) * 128+(q:Int)-(e:Int)≥0)=true:=decide_eq_true (by omega);have t7:decide ((k:Int) * 128+(q:Int)-(e:Int)<(dl:Int))=false:=decide_eq_false (by have:=fB.out;omega);clear gI jF;go_wp2_with fail;go_roundw
           case rel=>exact⟨q+1,by omega,by go_num,fZ,gA⟩
           case measure=>simp [intOf];omega
         · have t6:decide ((k:Int) * 128+(q:Int)-(e:Int)≥0)=false:=decide_eq_false (by omega);clear gI jF;go_wp2_with fail;go_roundw
           case rel=>exact⟨q+1,by omega,by go_num,fZ,gA⟩
           case measure=>simp [intOf];omega
     · obtain rfl:q=128:=by omega
       have jV:=jS.out.fresh gA.out;have lG:=jT.out.fresh gA.out;have mB:=gP.out.fresh gA.out;obtain⟨D,lH⟩:∃ D,wrB n.data e (ds.take (k * 128-e))=D:=⟨_,rfl⟩;have jG:=wr_step fF.out.dOk e k ds (by rw [fB.out];omega) (by rw [fB.out];exact kC) lR (by rw [fB.out];exact lS);rw [kI.out] at jG;have gQ:=lQ.out (k * 128-e);rw [lH] at jG gQ jV lG
       have gB:(wl e k ds s 128).length=128:=by rw [zEZ];exact fU
       obtain⟨s7,jH⟩:∃ s7,wl e k ds s 128=s7:=⟨_,rfl⟩;rw [jH] at fZ gB jG;have jI:=hid (laid_in (k:=k) lG (lN.out wr jV.lt) gQ gB);have kM:=hid jG;have kN:=fZ.out
       have kO:∀ b,b=y→g+3≤b:=fun b e=>by omega
       clear jS jT gP jG gQ jH lH gA
       go_wp2_with (first
        | (refine wpList_load_row rfl 123 _ rfl y rfl 123 (zAb (hdD x D iA ic dA dc)).toArray _ _ jV Tryz.underlying123 rfl rfl ?_)
        | (refine wpList_load_row rfl 187 _ rfl sb rfl 187 (bvs s7).toArray _ _ kN Tryz.underlying187 rfl (by rw [zBd,List.size_toArray,zAe,gB]) ?_)
        | (go_at_call 120;(with_reducible refine (jI.out).mono ?_);rintro eb w5 ⟨⟨iA5,ic5,dA5,dc5,rfl,lI⟩,lJ⟩;have kP:=jV.fresh lJ;have lK:=mB.fresh lJ)
        | (refine wpList_store_row rfl 123 _ _ rfl y (zAb (hdD x (zBa zAG k s7 D) iA5 ic5 dA5 dc5)).toArray rfl (by rfl) 123 _ kP rfl rfl (zHl _) ?_))
       have gC:Chg (fun b=>b=y) w5 (w5.setRow y (zAb (hdD x (zBa zAG k s7 D) iA5 ic5 dA5 dc5)).toArray):=(Chg.refl (fun b=>b=y) w5).setRow (fun _=>rfl) _;have q1:Blk (w5.setRow y (zAb (hdD x (zBa zAG k s7 D) iA5 ic5 dA5 dc5)).toArray) y 123 (zAb (hdD x (zBa zAG k s7 D) iA5 ic5 dA5 dc5)):=setRow_heap _ y _ _ _ _ kP;have q2:=lI.chg (gC.mono fun b _ (e:b=y)=>.inr (by omega));have q3:=lK.far gC kO;generalize w5.setRow y (zAb (hdD x (zBa zAG k s7 D) iA5 ic5 dA5 dc5)).toArray=w6 at *;rw [kM.out] at q1 q2;have q1H:=hid q1;have q2H:=hid q2;have q3H:=hid q3;clear q1 q2 q3 gC lI kP lK;go_roundw
       case rel=>exact⟨k+1,iA5,ic5,dA5,dc5,by omega,by omega,by go_num,q1H,q2H,q3H⟩
       case measure=>simp [intOf];omega
  · have t1:decide ((k:Int) * 128<(e:Int)+(dl:Int))=false:=decide_eq_false (by omega)
    have jJ:wrB n.data e (ds.take (k * 128-e))=wrB n.data e ds:=by rw [List.take_of_length_le (by rw [fB.out];omega)]
    have fI:=jS.out;have gR:=jT.out;rw [jJ] at fI gR;have jW:=hid gR;have gD:=gP.out;have fQ:=wrote_rep (off:=e) (ds:=ds) kA.out fF.out kV.out (by rw [fB.out];omega) (by rw [fB.out];exact kC) iA ic dA dc;rw [fB.out,fO] at fQ;have fR:=hid fQ;have jK:(n.wrote e ds).Ok:=zJj fF.out kV.out (by rw [fB.out];exact kC);have gS:(T.upd i (n.wrote e ds)).Ok:=gL.out.gr.ok.upd jK (gL.out.gr.ok.get jZ.out).2
    have gJ:((((n.wrote e ds).count:Int)-n.count≤(T.sectors:Int)-1-T.inodes-T.used)↔(T.upd i (n.wrote e ds)).used+(T.upd i (n.wrote e ds)).inodes+1≤(T.upd i (n.wrote e ds)).sectors):=by
     have h1:=PT.used_upd gL.out.gr.ok.ris (n':=n.wrote e ds) jZ.out;have e1:(T.upd i (n.wrote e ds)).inodes=T.inodes:=rfl;have e2:(T.upd i (n.wrote e ds)).sectors=T.sectors:=rfl;rw [e1,e2];omega
    have fM:=jR.out;simp only [gJ] at fM;obtain⟨T9,jX⟩:∃ T9,T.upd i (n.wrote e ds)=T9:=⟨_,rfl⟩;obtain⟨n9,mC⟩:∃ n9,n.wrote e ds=n9:=⟨_,rfl⟩;rw [jX] at fM gS;rw [mC] at jX fR;have jL:=hid jX;have gK:=hid gS;have y3:=fI.cell 3;have f3:=fI.frozen 3;rw [show (zAb (hdD x (wrB n.data e ds) iA ic dA dc))[3]? = some (.int .i64 x.size) from rfl,fO] at y3;clear jJ fQ gJ jK jX gS jS jT gP jR gR;by_cases gE:(n.size:Int)<(e:Int)+dl
    · have t8:decide ((n.size:Int)<(e:Int)+(dl:Int))=true:=decide_eq_true gE
      have q1:Blk (wr.setCell ⟨y,3,none⟩ (.int .i64 ((e:Int)+dl))) y 123 (zAb (setZ (hdD x (wrB n.data e ds) iA ic dA dc) (if (n.size:Int)<(e:Int)+dl then (e:Int)+dl else n.size))):=by rw [if_pos gE];exact fI.set_ 3 _
      have q2:Chg (fun b=>b=y) wr (wr.setCell ⟨y,3,none⟩ (.int .i64 ((e:Int)+dl))):=(Chg.refl (fun b=>b=y) wr).setCell (p:=⟨y,3,none⟩) (fun _=>rfl) _;go_upto_region 19 with (fail);have jM:=hid q1;have gC:=hid q2;clear q1 q2;generalize wr.setCell ⟨y,3,none⟩ (.int .i64 ((e:Int)+dl))=wc at *;have gF:=gD.far gC.out (fun b e=>by omega);have fJ:=jW.out.chg (gC.out.mono fun b _ (e:b=y)=>.inr (by omega));have fS:RepN (setZ (hdD x (wrB n.data e ds) iA ic dA dc) (if (n.size:Int)<(e:Int)+dl then (e:Int)+dl else n.size)) i n9:=fR.out;have jN:HdR (zAM (zAM S g 3) y 1) wc (setZ (hdD x (wrB n.data e ds) iA ic dA dc) (if (n.size:Int)<(e:Int)+dl then (e:Int)+dl else n.size)) i n9:=⟨⟨fJ.at_.len,fJ.at_.sec,fJ.at_.idx,fJ.at_.dat⟩,fS,fJ.oi,fJ.od⟩;have fK:=jM.out;obtain⟨x6,fL⟩:∃ x6,(setZ (hdD x (wrB n.data e ds) iA ic dA dc) (if (n.size:Int)<(e:Int)+dl then (e:Int)+dl else n.size))=x6:=⟨_,rfl⟩
      have fT:HdR (zAM S g 3) wc x6 i n9:=by rw [←fL];exact jN.mono fun b hb=>.inl hb
      rw [fL] at fK;have fC:=zBv (fV.out _ gF.bl) (jY.out _ gF.le) gL.out.gr.ok fT;rw [jL.out,show ∀ t,trV t=.agg (zAa t).toArray from fun _=>rfl,show ∀ x,hdV x=.agg (zAb x).toArray from fun _=>rfl] at fC;have jO:=hid fC;have mD:y+1≤wc.heap.size:=fK.lt;clear fC fT fL jN fJ jM jW gD fI y3 f3
      go_upto_region 20 with (first
       | (refine wpList_load_row rfl 28 _ rfl g rfl 28 (zAa t).toArray _ _ gF.tb Tryz.underlying28 rfl rfl ?_)
       | (refine wpList_load_row rfl 123 _ rfl y rfl 123 (zAb x6).toArray _ _ fK Tryz.underlying123 rfl rfl ?_)
       | (go_at_call 113;(with_reducible refine (jO.out).mono ?_);rintro eb w7 ⟨⟨t7,rfl,gT⟩,jP⟩;have gB:=gF.fresh jP)
       | (refine wpList_store_row rfl 28 _ _ rfl w7.heap.size (zAa t7).toArray rfl (by rfl) 28 _ (Blk.new w7 28 z4) rfl rfl (zAc t7) ?_))
      obtain⟨hU,gG⟩:=zAP w7 t7;have fU:=gB.fresh gG;have kQ:=hid (gT.fresh gG);change Code.wp _ _ _ _ ((w7.alloc (.cells z4.toArray 28)).setRow w7.heap.size (zAa t7).toArray);have gU:=zE1 (gT.fresh gG).ref gK.out;rw [show trV t7=.agg (zAa t7).toArray from rfl] at gU;have gH:=hid gU;clear gU gG gT gB jP jO;generalize (w7.alloc (.cells z4.toArray 28)).setRow w7.heap.size (zAa t7).toArray=w8 at *;generalize w7.heap.size=ub at *;by_cases fD:T9.used+T9.inodes+1≤T9.sectors
      · rw [decide_eq_true fD] at gH;rw [if_pos fD] at fM;have gV:=hid fM;clear fM
        go_wp2_with (first
         | (refine wpList_load_row rfl 28 _ rfl ub rfl 28 (zAa t7).toArray _ _ hU Tryz.underlying28 rfl rfl ?_)
         | (go_at_call 121;(with_reducible refine (gH.out).mono ?_);rintro eb w9 ⟨rfl,fN⟩;have fE:=fU.fresh fN;have jQ:=hU.fresh fN)
         | (refine wpList_load_row rfl 28 _ rfl ub rfl 28 (zAa t7).toArray _ _ jQ Tryz.underlying28 rfl rfl ?_)
         | (refine wpList_store_row rfl 28 _ _ rfl (g+2) (zAa t7).toArray rfl (by rfl) 28 _ fE.rb rfl rfl (zAc t7) ?_))
        exact zAB (k:=3) fE.rb fW.out gV.out (kQ.out.fresh fN) fE.bl fX.out ⟨by omega,by omega⟩ rfl rfl rfl rfl
      · rw [decide_eq_false fD] at gH;rw [if_neg fD] at fM;have gV:=hid fM;clear fM
        go_wp2_with (first
         | (refine wpList_load_row rfl 28 _ rfl ub rfl 28 (zAa t7).toArray _ _ hU Tryz.underlying28 rfl rfl ?_)
         | (go_at_call 121;(with_reducible refine (gH.out).mono ?_);rintro eb w9 ⟨rfl,fN⟩;have fE:=fU.fresh fN;have jQ:=hU.fresh fN)
         | (refine wpList_load_row rfl 28 _ rfl g rfl 28 (zAa t).toArray _ _ fE.tb Tryz.underlying28 rfl rfl ?_)
         | (refine wpList_store_row rfl 28 _ _ rfl (g+2) (zAa t).toArray rfl (by rfl) 28 _ fE.rb rfl rfl (zAc t) ?_))
        exact zAB (k:=3) fE.rb fW.out gV.out (fV.out _ fE.bl) fE.bl fX.out ⟨by omega,by omega⟩ rfl rfl rfl rfl
    · have t8:decide ((n.size:Int)<(e:Int)+(dl:Int))=false:=decide_eq_false gE
      have q1:Blk wr y 123 (zAb (setZ (hdD x (wrB n.data e ds) iA ic dA dc) (if (n.size:Int)<(e:Int)+dl then (e:Int)+dl else n.size))):=by
       rw [if_neg gE,←fO];exact fI
      have q2:Chg (fun b=>b=y) wr wr:=Chg.refl _ _;go_upto_region 19 with (fail);have jM:=hid q1;have gC:=hid q2;clear q1 q2;generalize kR:wr=wc at *;clear kR;have gF:=gD.far gC.out (fun b e=>by omega);have fJ:=jW.out.chg (gC.out.mono fun b _ (e:b=y)=>.inr (by omega));have fS:RepN (setZ (hdD x (wrB n.data e ds) iA ic dA dc) (if (n.size:Int)<(e:Int)+dl then (e:Int)+dl else n.size)) i n9:=fR.out;have jN:HdR (zAM (zAM S g 3) y 1) wc (setZ (hdD x (wrB n.data e ds) iA ic dA dc) (if (n.size:Int)<(e:Int)+dl then (e:Int)+dl else n.size)) i n9:=⟨⟨fJ.at_.len,fJ.at_.sec,fJ.at_.idx,fJ.at_.dat⟩,fS,fJ.oi,fJ.od⟩;have fK:=jM.out;obtain⟨x6,fL⟩:∃ x6,(setZ (hdD x (wrB n.data e ds) iA ic dA dc) (if (n.size:Int)<(e:Int)+dl then (e:Int)+dl else n.size))=x6:=⟨_,rfl⟩
      have fT:HdR (zAM S g 3) wc x6 i n9:=by rw [←fL];exact jN.mono fun b hb=>.inl hb
      rw [fL] at fK;have fC:=zBv (fV.out _ gF.bl) (jY.out _ gF.le) gL.out.gr.ok fT;rw [jL.out,show ∀ t,trV t=.agg (zAa t).toArray from fun _=>rfl,show ∀ x,hdV x=.agg (zAb x).toArray from fun _=>rfl] at fC;have jO:=hid fC;have mD:y+1≤wc.heap.size:=fK.lt;clear fC fT fL jN fJ jM jW gD fI y3 f3
      go_upto_region 20 with (first
       | (refine wpList_load_row rfl 28 _ rfl g rfl 28 (zAa t).toArray _ _ gF.tb Tryz.underlying28 rfl rfl ?_)
       | (refine wpList_load_row rfl 123 _ rfl y rfl 123 (zAb x6).toArray _ _ fK Tryz.underlying123 rfl rfl ?_)
       | (go_at_call 113;(with_reducible refine (jO.out).mono ?_);rintro eb w7 ⟨⟨t7,rfl,gT⟩,jP⟩;have gB:=gF.fresh jP)
       | (refine wpList_store_row rfl 28 _ _ rfl w7.heap.size (zAa t7).toArray rfl (by rfl) 28 _ (Blk.new w7 28 z4) rfl rfl (zAc t7) ?_))
      obtain⟨hU,gG⟩:=zAP w7 t7;have fU:=gB.fresh gG;have kQ:=hid (gT.fresh gG);change Code.wp _ _ _ _ ((w7.alloc (.cells z4.toArray 28)).setRow w7.heap.size (zAa t7).toArray);have gU:=zE1 (gT.fresh gG).ref gK.out;rw [show trV t7=.agg (zAa t7).toArray from rfl] at gU;have gH:=hid gU;clear gU gG gT gB jP jO;generalize (w7.alloc (.cells z4.toArray 28)).setRow w7.heap.size (zAa t7).toArray=w8 at *;generalize w7.heap.size=ub at *;by_cases fD:T9.used+T9.inodes+1≤T9.sectors
      · rw [decide_eq_true fD] at gH;rw [if_pos fD] at fM;have gV:=hid fM;clear fM
        go_wp2_with (first
         | (refine wpList_load_row rfl 28 _ rfl ub rfl 28 (zAa t7).toArray _ _ hU Tryz.underlying28 rfl rfl ?_)
         | (go_at_call 121;(with_reducible refine (gH.out).mono ?_);rintro eb w9 ⟨rfl,fN⟩;have fE:=fU.fresh fN;have jQ:=hU.fresh fN)
         | (refine wpList_load_row rfl 28 _ rfl ub rfl 28 (zAa t7).toArray _ _ jQ Tryz.underlying28 rfl rfl ?_)
         | (refine wpList_store_row rfl 28 _ _ rfl (g+2) (zAa t7).toArray rfl (by rfl) 28 _ fE.rb rfl rfl (zAc t7) ?_))
        exact zAB (k:=3) fE.rb fW.out gV.out (kQ.out.fresh fN) fE.bl fX.out ⟨by omega,by omega⟩ rfl rfl rfl rfl
      · rw [decide_eq_false fD] at gH;rw [if_neg fD] at fM;have gV:=hid fM;clear fM
        go_wp2_with (first
         | (refine wpList_load_row rfl 28 _ rfl ub rfl 28 (zAa t7).toArray _ _ hU Tryz.underlying28 rfl rfl ?_)
         | (go_at_call 121;(with_reducible refine (gH.out).mono ?_);rintro eb w9 ⟨rfl,fN⟩;have fE:=fU.fresh fN;have jQ:=hU.fresh fN)
         | (refine wpList_load_row rfl 28 _ rfl g rfl 28 (zAa t).toArray _ _ fE.tb Tryz.underlying28 rfl rfl ?_)
         | (refine wpList_store_row rfl 28 _ _ rfl (g+2) (zAa t).toArray rfl (by rfl) 28 _ fE.rb rfl rfl (zAc t) ?_))
        exact zAB (k:=3) fE.rb fW.out gV.out (fV.out _ fE.bl) fE.bl fX.out ⟨by omega,by omega⟩ rfl rfl rfl rfl
end Go.Proofs.YtolpcfhfcdkokaaGreatDoor
