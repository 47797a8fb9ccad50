/- Joined out of SCut..QSpot. -/
import Derived.Test.YtolpcfhfcdkokaaGreatDoorQ32
import Derived.Test.YtolpcfhfcdkokaaGreatDoorQ36
set_option maxHeartbeats 16000000
set_option maxRecDepth 100000
namespace Go.Proofs.YtolpcfhfcdkokaaGreatDoor
open Lib (hid)
open Go.RowKit
structure StH (w wk:World) (g:Nat) (t:Tr) (x:Hd):Prop where
 tb:Blk wk g 28 (zAa t)
 xb:Blk wk (g+1) 123 (zAb x)
 rb:Blk wk (g+2) 28 z4
 bl:Below g w wk
theorem sth_0 (w:World) (t:Tr) (x:Hd):StH w (((w.alloc (.cells (zAa t).toArray 28)).alloc (.cells (zAb x).toArray 123)).alloc (.cells z4.toArray 28)) w.heap.size t x:=by
 refine⟨((Blk.new w 28 (zAa t)).alloc _).alloc _,?_,?_,(((Below.refl _ _).alloc (Nat.le_refl _) _).alloc (by simp) _).alloc (by simp;omega) _⟩
 · have:=(Blk.new (w.alloc (.cells (zAa t).toArray 28)) 123 (zAb x)).alloc (.cells z4.toArray 28);simpa using this
 · have:=Blk.new ((w.alloc (.cells (zAa t).toArray 28)).alloc (.cells (zAb x).toArray 123)) 28 z4;simpa using this
section
variable {w wk w':World} {g:Nat} {t:Tr} {x:Hd}
theorem StH.le (h:StH w wk g t x):g+3≤wk.heap.size:=h.rb.lt
theorem StH.fresh (h:StH w wk g t x) (hb:Below wk.heap.size wk w'):StH w w' g t x:=⟨h.tb.fresh hb,h.xb.fresh hb,h.rb.fresh hb,h.bl.trans (hb.mono (by have:=h.le;omega))⟩
theorem StH.far {S:Nat→Prop} (h:StH w wk g t x) (hc:Chg S wk w') (hS:∀ b,S b→g+3≤b):StH w w' g t x :=
 ⟨h.tb.chg hc fun e=>by have:=hS _ e;omega,h.xb.chg hc fun e=>by have:=hS _ e;omega,h.rb.chg hc fun e=>by have:=hS _ e;omega,h.bl.trans (hc.below (by have:=h.le;omega) fun b hb e=>by have:=hS _ e;omega)⟩
end
theorem Two.fresh {w w1:World} {base:Nat} {vi vd:Value} {l:List (Nat×List UInt8)} (h:Two w base vi vd l) (hb:Below w.heap.size w w1):Two w1 base vi vd l:=⟨zAN h.ri hb,zAN h.rd hb,h.ap⟩
theorem Two.step2 {w w6 w8:World} {base y:Nat} {vi vd vi' vd':Value} {l:List (Nat×List UInt8)} {k:Nat} {s:List UInt8} (h:Two w base vi vd l) (hy:y<base)
 (r1:w6.ownsRow base 3 1 vi' (l.length+1) (nats (l.map (·.1))++[.int .i64 (k:Int)])) (a1:vi'.ownBlock=vi.ownBlock∨∃ H,vi'.ownBlock=some H∧w.heap.size≤H)
 (c2:Chg (fun b=>vd.ownBlock=some b∨b=y) w6 w8) (r2:w8.ownsRow base 187 128 vd' (l.length+1) (secs (l.map (·.2))++bvs s)) (a2:vd'.ownBlock=vd.ownBlock∨∃ H,vd'.ownBlock=some H∧w6.heap.size≤H) :
 Two w8 base vi' vd' (l++[(k,s)]):=by
 have ap':∀ b,vi'.ownBlock=some b→vd.ownBlock≠some b:=fun b fA e=>by
  rcases a1 with a1 | ⟨H,a1,hH⟩
  · exact h.ap b (a1▸fA) e
  · have:=(h.rd.lt b e).2;rw [a1] at fA;injection fA with fA;omega
 refine⟨?_,?_,?_⟩
 · have e:nats ((l++[(k,s)]).map (·.1))=nats (l.map (·.1))++[.int .i64 (k:Int)]:=by simp [nats]
   rw [e,List.length_append]
   exact zAo r1 c2 fun g hg h2=>by
    rcases h2 with h2 | h2
    · exact ap' g hg h2
    · have:=(r1.lt g hg).1;omega
 · have e:secs ((l++[(k,s)]).map (·.2))=secs (l.map (·.2))++bvs s:=by simp [secs]
   rw [e,List.length_append];exact r2
 · intro b fA e;rcases a2 with a2 | ⟨H,a2,hH⟩
   · exact ap' b fA (a2▸e)
   · have:=(r1.lt b fA).2;rw [a2] at e;injection e with e;omega
abbrev yc (x:Hd) (e:Nat) (vi vd:Value):List Value:=[.int .i64 x.ino,.int .i64 x.kind,.int .i64 x.links,.int .i64 (e:Int),.int .i64 x.made,.int .i64 x.birth,vi,vd]
theorem two_hd {wr:World} {S:Nat→Prop} {g k base e i:Nat} {x:Hd} {n:PN} {vi vd:Value} (h:Two wr base vi vd (zAI e n.data)) (hS:∀ b,zAM S g k b→b<base) (hr:RepN x i n) (ho:n.Ok) (hd:n.dir=false) :
 ∃ y,yc x e vi vd=zAb y∧HdR (zAM S g k) wr y i (n.cut e):=by
 obtain⟨iA,ic,e1,s1⟩:=Sees.of_own (B:=wr.heap.size) h.ri fun g hg=>(h.ri.lt g hg).2;obtain⟨dA,dc,e2,s2⟩:=Sees.of_own (B:=wr.heap.size) h.rd fun g hg=>(h.rd.lt g hg).2;have fA:=cut_rep hr ho hd e iA ic dA dc;refine⟨_,?_,⟨⟨?_,?_,?_,?_⟩,fA,?_,?_⟩⟩
 · rw [e1,e2];simp [zAb]
 · simp
 · intro s hs;obtain⟨p,hp,rfl⟩:=List.mem_map.1 hs;exact cutD_len ho.secs p hp
 · simpa using s1
 · simpa using s2
 · intro _ a ea hs;have:=(h.ri.lt a.block (by rw [e1];simp only [Value.ownBlock];rw [show iA=some a from ea])).1;have:=hS _ hs;omega
 · intro _ a ea hs;have:=(h.rd.lt a.block (by rw [e2];simp only [Value.ownBlock];rw [show dA=some a from ea])).1;have:=hS _ hs;omega
theorem rcuts_any (S:Nat→Prop) (t:Tr) (T:PT) (i:Nat) (n:PN) (x:Hd) (off:Int) (w:World) (h:RefS S w t T) (hx:HdR S w x i n) (hS:∀ b,S b→b<w.heap.size) (hT:T.Inv) (hg:zAd i T.nodes=some n) (hd:n.dir=false) :
 Calls Tryz.prog 85 #[.agg (zAa t).toArray,.agg (zAb x).toArray,.int .i64 off] w (zHx S (T.trunc i off) w):=by
 obtain⟨lk,gB⟩:∃ lk,T.trunc i off=lk:=⟨_,rfl⟩;rw [gB];obtain⟨Q,hQ⟩:∃ Q,zHx S lk w=Q:=⟨_,rfl⟩;rw [hQ];obtain⟨g,hz⟩:∃ g,w.heap.size=g:=⟨_,rfl⟩;have gQ:=hid (zBV h hz 3);have jE:=hid (inS (k:=3) hS hz);have fN:Hid (∀ W,Below g w W→HdR (zAM S g 3) W x i n):=hid fun W hb=>(hx.addR 3 (Nat.le_of_eq hz)).fresh (hz▸hb);have gC:=(hT.gr.ok.get hg).1;unfold PT.trunc at gB;rw [zAp hg] at gB;have fC:=sth_0 w t x;rw [hz] at fC;have kK:=hx.rep.fidx gC hd;have kL:=hx.rep.fdat gC hd;have fH:x.size=(n.size:Int):=hx.rep.size;have gR:=hid hQ;have lN:Hid (∀ b,S b→b<g):=hid (by rw [←hz];exact hS);have hu:=hid gB.symm;have kM:=hid hT;have mJ:=hid hg;have kN:=hid hd;have fE:=hid gC;have fR:=hid kK;have gD:=hid kL;have gS:=hid hz;have mK:=gC.size;have gE:=hid hx.rep;clear gB hQ h hx hS hT hg hd gC kK kL;go_enter Tryz.func85,Tryz.ntmps85;go_upto_region 1 with (fail)
 try simp only [hz]
 change Code.wp _ _ _ _ (((w.alloc (.cells (zAa t).toArray 28)).alloc (.cells (zAb x).toArray 123)).alloc (.cells z4.toArray 28));generalize ((w.alloc (.cells (zAa t).toArray 28)).alloc (.cells (zAb x).toArray 123)).alloc (.cells z4.toArray 28)=w0 at *;clear hz;obtain⟨b0,b1,b2,b3,b4,b5,b6,b7⟩:=zAO fC.xb;by_cases fI:off<0∨136704<off
 · have fS:Hid (lk=(T,101)):=hid (by rw [hu.out,if_pos fI]);by_cases hn:off<0
   · have t1:decide (off<0)=true:=decide_eq_true hn;clear fI
     go_wp2_with (first
      | (refine wpList_load_row rfl 28 _ rfl g rfl 28 (zAa t).toArray _ _ fC.tb Tryz.underlying28 rfl rfl ?_)
      | (refine wpList_store_row rfl 28 _ _ rfl (g+2) (zAa t).toArray rfl (by rfl) 28 _ fC.rb rfl rfl (zAc t) ?_))
     exact zAB (k:=3) fC.rb gR.out fS.out (gQ.out _ fC.bl) fC.bl gS.out ⟨by omega,by omega⟩ rfl rfl rfl rfl
   · have t1:decide (off<0)=false:=decide_eq_false hn;have t2:decide (off > 136704)=true:=decide_eq_true (by omega);clear fI
     go_wp2_with (first
      | (refine wpList_load_row rfl 28 _ rfl g rfl 28 (zAa t).toArray _ _ fC.tb Tryz.underlying28 rfl rfl ?_)
      | (refine wpList_store_row rfl 28 _ _ rfl (g+2) (zAa t).toArray rfl (by rfl) 28 _ fC.rb rfl rfl (zAc t) ?_))
     exact zAB (k:=3) fC.rb gR.out fS.out (gQ.out _ fC.bl) fC.bl gS.out ⟨by omega,by omega⟩ rfl rfl rfl rfl
 have h0:0≤off:=by omega
 have h1:off≤136704:=by omega
 have fS:=hu.out;rw [if_neg fI] at fS;obtain⟨e,rfl⟩:=Int.eq_ofNat_of_zero_le h0;simp only [Int.toNat_natCast] at fS;have t1:decide ((e:Int)<0)=false:=decide_eq_false (by omega);have t2:decide ((e:Int) > 136704)=false:=decide_eq_false (by omega);have kO:=hid fS;clear fI hu fS
 go_upto_region 4 with (first
  | (refine wpList_load_row rfl 123 _ rfl (g+1) rfl 123 (zAb x).toArray _ _ fC.xb Tryz.underlying123 rfl rfl ?_)
  | (refine wpList_store_row rfl 123 _ _ rfl w0.heap.size (zAb x).toArray rfl (by rfl) 123 _ (Blk.new w0 123 z8) rfl rfl (zHl x) ?_))
 obtain⟨hY,kP⟩:=zBx w0 x;have kQ:=fC.fresh kP;have mL:g+3≤w0.heap.size:=fC.le;change Code.wp _ _ _ _ ((w0.alloc (.cells z8.toArray 123)).setRow w0.heap.size (zAb x).toArray);clear kP fC b0 b1 b2 b3 b4 b5 b6 b7;generalize (w0.alloc (.cells z8.toArray 123)).setRow w0.heap.size (zAb x).toArray=w1 at *;generalize w0.heap.size=y at *;have fX:Blk (w1.setCell ⟨y,3,none⟩ (.int .i64 (e:Int))) y 123 (zAb {x with size:=(e:Int)}):=hY.set_ 3 _;have kR:Chg (fun b=>b=y) w1 (w1.setCell ⟨y,3,none⟩ (.int .i64 (e:Int))):=(Chg.refl (fun b=>b=y) w1).setCell (p:=⟨y,3,none⟩) (fun _=>rfl) _
 have fF:=kQ.far kR fun b e=>by omega
 have y3:=hY.cell 3;have f3:=hY.frozen 3;simp only [zAb,List.getElem?_cons_succ,List.getElem?_cons_zero] at y3;go_upto_region 5 with (fail);generalize w1.setCell ⟨y,3,none⟩ (.int .i64 (e:Int))=w2 at *;clear kQ hY kR y3 f3;obtain⟨b0,b1,b2,b3,b4,b5,b6,b7⟩:=zAO fF.xb;rw [fH] at b3;by_cases kS:n.size≤e
 · have t3:decide ((e:Int)<(n.size:Int))=false:=decide_eq_false (by omega);have gF:HdR (zAM S g 3) w2 {x with size:=(e:Int)} i (n.cut e):=⟨⟨(fN.out _ fF.bl).at_.len,(fN.out _ fF.bl).at_.sec,(fN.out _ fF.bl).at_.idx,(fN.out _ fF.bl).at_.dat⟩,grow_rep gE.out fE.out kN.out kS,(fN.out _ fF.bl).oi,(fN.out _ fF.bl).od⟩;have fA:=zBv (gQ.out _ fF.bl) (jE.out _ fF.le) kM.out.gr.ok gF;rw [show ∀ t,trV t=.agg (zAa t).toArray from fun _=>rfl,show ∀ x,hdV x=.agg (zAb x).toArray from fun _=>rfl] at fA;have jF:=hid fA;clear fA gF fH
   go_wp2_with (first
    | (refine wpList_load_row rfl 28 _ rfl g rfl 28 (zAa t).toArray _ _ fF.tb Tryz.underlying28 rfl rfl ?_)
    | (refine wpList_load_row rfl 123 _ rfl y rfl 123 (zAb {x with size:=(e:Int)}).toArray _ _ fX Tryz.underlying123 rfl rfl ?_)
    | (go_at_call 113;(with_reducible refine (jF.out).mono ?_);rintro e w3 ⟨⟨t3,rfl,jG⟩,jH⟩;have fK:=fF.fresh jH)
    | (refine wpList_store_row rfl 28 _ _ rfl (g+2) (zAa t3).toArray rfl (by rfl) 28 _ fK.rb rfl rfl (zAc t3) ?_))
   exact zAB (k:=3) fK.rb gR.out kO.out jG fK.bl gS.out ⟨by omega,by omega⟩ rfl rfl rfl rfl
 have lO:e<n.size:=by omega
 have t3:decide ((e:Int)<(n.size:Int))=true:=decide_eq_true (by omega);have kT:Blk ((w2.setCell ⟨y,6,none⟩ zAg).setCell ⟨y,7,none⟩ zAg) y 123 (yc x e zAg zAg):=(fX.set_ 6 zAg).set_ 7 zAg;have kU:Chg (fun b=>b=y) w2 ((w2.setCell ⟨y,6,none⟩ zAg).setCell ⟨y,7,none⟩ zAg):=((Chg.refl (fun b=>b=y) w2).setCell (p:=⟨y,6,none⟩) (fun _=>rfl) _).setCell (p:=⟨y,7,none⟩) (fun _=>rfl) _
 have fK:=fF.far kU fun b e=>by omega
 obtain⟨-,-,-,-,-,-,y6,y7⟩:=zAO fX;have f6:=fX.frozen 6;have f7:=fX.frozen 7;go_upto_region 8 with (fail);change Code.wp _ _ _ _ ((w2.setCell ⟨y,6,none⟩ zAg).setCell ⟨y,7,none⟩ zAg);generalize (w2.setCell ⟨y,6,none⟩ zAg).setCell ⟨y,7,none⟩ zAg=w3 at *;obtain⟨len,fJ⟩:∃ len,n.data.length=len:=⟨_,rfl⟩;have fO:=hid fJ
 have mM:len≤1068:=by rw [←fJ];exact fE.out.dlen
 have kV:x.idx.length=len:=by rw [fR.out,List.length_map,fJ]
 have kW:x.dat.length=len:=by rw [gD.out,List.length_map,fJ]
 have fL:=hid kV;have gG:=hid kW;have gH:=hid fK;obtain⟨iI,lP,jI,jJ,jK⟩:=info_parts zFR;obtain⟨iS,lQ,jL,jM,jN⟩:=info_parts zIW;clear fF kU fX y6 y7 f6 f7 b0 b1 b2 b3 b4 b5 b6 b7 fJ kV kW fK fH t3 kS;go_wp2_with fail
 go_loopw [9] (fun i' wr=>∃ (k:Nat) (vi vd:Value),k≤len∧i'=.int .i64 (k:Int)∧Hid (Two wr (y+1) vi vd (zAI e (n.data.take k)))∧Hid (Blk wr y 123 (yc x e vi vd))∧Hid (StH w wr g t x)) (fun i' _=>len-(intOf i').toNat)
 case atStart=>exact⟨0,zAg,zAg,Nat.zero_le _,rfl,hid (Two.nil _ _),hid kT,gH⟩
 case round =>
  obtain⟨k,vi,vd,hk,rfl,hT,gT,fY⟩:=hrel;clear kT gH;obtain⟨b0,b1,b2,b3,b4,b5,b6,b7⟩:=zAO fY.out.xb;rw [fL.out] at b6;rw [gG.out] at b7;have gU:=fN.out wr fY.out.bl;by_cases jO:k<len
  · have kX:k<n.data.length:=by rw [fO.out];exact jO
    have kY:k<x.idx.length:=by rw [fL.out];exact jO
    have lR:k<x.dat.length:=by rw [gG.out];exact jO
    obtain⟨p,hp⟩:∃ p,n.data[k]=p:=⟨_,rfl⟩
    have jP:p∈n.data:=by rw [←hp];exact List.getElem_mem kX
    have lS:=fE.out.keys p jP;have fZ:=fE.out.secs p jP;obtain⟨fr,s⟩:=p;simp only at lS fZ;obtain⟨bi,oi,gI,-,gJ⟩:=gU.at_.idx.at_ (by omega);have c0:=gJ k _ (zBS x.idx k kY);obtain⟨bd,od,kZ,mN,fG⟩:=gU.at_.sec_cell k lR
    have e1:x.idx[k]=fr:=by simp only [fR.out,List.getElem_map,hp]
    have e2:x.dat[k]=s:=by simp only [gD.out,List.getElem_map,hp]
    rw [e1] at c0;rw [e2] at fG;rw [gI] at b6;rw [kZ] at b7;have fB:=hid (cut_step fE.out.secs e kX);rw [hp] at fB;obtain⟨f2,jQ⟩:∃ f2:Nat,fr * 128=f2:=⟨_,rfl⟩
    have v1:IntKind.i64.wrap ((fr:Int) * 128)=(f2:Int):=by rw [zAF _ (by omega)];omega
    rw [jQ] at fB
    have lT:f2≤136576:=by omega
    have lU:=hid jQ;clear jQ;have hZ:=Blk.new wr 187 (bvs zBN);have lV:=hid hp;clear gU gJ gI kZ hp jP e1 e2
    go_upto_region 13 with (first
     | (refine wpList_load_mid rfl 187 (.tmp 45) rfl bd (od+k * 128) rfl (bvs s) _ fG Tryz.underlying187 rfl (by rw [zBd,zAe,fZ]) ?_)
     | (refine wpList_store_row rfl 187 _ _ rfl wr.heap.size (bvs s).toArray rfl (by rfl) 187 _ (Blk.new wr 187 (bvs zBN)) (zAE fZ) (by rw [List.size_toArray,List.size_toArray,zAe,zAe,fZ,zAt]) (zBc s) ?_))
    have lA:Blk ((wr.alloc (.cells Tryz.zeroCells187 187)).setRow wr.heap.size (bvs s).toArray) wr.heap.size 187 (bvs s):=setRow_heap _ _ _ _ _ _ (zBh rfl);have lB:Chg (fun b=>wr.heap.size≤b) wr ((wr.alloc (.cells Tryz.zeroCells187 187)).setRow wr.heap.size (bvs s).toArray):=((Chg.refl (fun b=>wr.heap.size≤b) wr).alloc _).setRow (fun _=>Nat.le_refl _) _;have lW:=gT.out.lt;change Code.wp _ _ _ _ ((wr.alloc (.cells Tryz.zeroCells187 187)).setRow wr.heap.size (bvs s).toArray);have fT:=hid lB;have fU:=hid lA;clear b0 b1 b2 b3 b4 b5 b6 b7 c0 fG hZ lB lA;generalize (wr.alloc (.cells Tryz.zeroCells187 187)).setRow wr.heap.size (bvs s).toArray=w4 at *;obtain⟨sb,gV⟩:∃ sb,wr.heap.size=sb:=⟨_,rfl⟩;rw [gV] at fT fU lW;have fM:=hid gV
    try simp only [gV]
    clear gV;generalize lX:wr=wo at *;clear lX v1;go_wp2_with fail
    go_loopw [12] (fun j' wr=>∃ q:Nat,q≤128∧j'=.int .i64 (q:Int)∧Hid (Blk wr sb 187 (bvs (zl e f2 s q)))∧Hid (Chg (fun b=>sb≤b) wo wr)) (fun j' _=>128-(intOf j').toNat)
    case atStart=>exact⟨0,Nat.zero_le _,rfl,fU,fT⟩
    case round =>
     obtain⟨q,hq,rfl,fP,gK⟩:=hrel;clear fT fU;by_cases lY:q<128
     · have gA:=zHB e f2 s q;have v2:IntKind.i64.wrap ((f2:Int)+(q:Int))=(f2:Int)+(q:Int):=zAF _ (by omega);by_cases gW:e≤f2+q
       · have t4:decide ((f2:Int)+(q:Int)≥(e:Int))=true:=decide_eq_true (by omega);rw [if_pos gW] at gA
         have lZ:q<(zl e f2 s q).length:=by rw [zDH,fZ];exact lY
         have z0:=(fP.out.cell q).trans (by rw [zCO _ _ lZ]);have zf:=fP.out.frozen q
         have lC:Blk (wr.setCell ⟨sb,q,none⟩ (.int .u8 0)) sb 187 (bvs (zl e f2 s (q+1))):=by
          have h9:=fP.out.set_ q (.int .u8 0);rw [gA];rw [show bvs ((zl e f2 s q).set q 0)=(bvs (zl e f2 s q)).set q (.int .u8 0) from by unfold bvs;rw [List.map_set];rfl];exact h9
         have gL:Chg (fun b=>sb≤b) wo (wr.setCell ⟨sb,q,none⟩ (.int .u8 0)):=gK.out.setCell (p:=⟨sb,q,none⟩) (fun _=>Nat.le_refl _) _;have jR:=hid lC;have jS:=hid gL;clear gA gW fP gK lC gL;go_wp2_with fail;go_roundw
         case rel=>exact⟨q+1,by omega,by go_num,jR,jS⟩
         case measure=>simp [intOf];omega
       · have t4:decide ((f2:Int)+(q:Int)≥(e:Int))=false:=decide_eq_false (by omega);rw [if_neg gW] at gA;rw [←gA] at fP;clear gA gW;go_wp2_with fail;go_roundw
         case rel=>exact⟨q+1,by omega,by go_num,fP,gK⟩
         case measure=>simp [intOf];omega
     · obtain rfl:q=128:=by omega
       have jT:Hid (Below wo.heap.size wo wr):=hid (by rw [fM.out];exact gK.out.below (by rw [fM.out];exact Nat.le_refl _) fun b hb h=>by omega);have gM:=hid (hT.out.fresh jT.out);have jU:=hid (gT.out.fresh jT.out);have gX:=hid (fY.out.fresh jT.out)
       have gY:(zl e f2 s 128).length=128:=by rw [zDH];exact fZ
       obtain⟨s7,gN⟩:∃ s7,zl e f2 s 128=s7:=⟨_,rfl⟩;rw [gN] at fP gY fB
       have jV:Hid (∀ g,vi.ownBlock=some g→g<sb):=hid fun g hg=>by rw [←fM.out];exact (hT.out.ri.lt g hg).2
       have mA:Hid (∀ g,vd.ownBlock=some g→g<sb):=hid fun g hg=>by rw [←fM.out];exact (hT.out.rd.lt g hg).2
       clear hT gT fY gK gN;by_cases lD:f2<e
       · have t4:decide ((f2:Int)<(e:Int))=true:=decide_eq_true (by omega);have fV:Hid (zAI e (n.data.take (k+1))=zAI e (n.data.take k)++[(fr,s7)]):=hid (by have h9:=fB.out;rw [if_pos lD] at h9;exact h9);clear fB;obtain⟨m,hm⟩:∃ m,(zAI e (n.data.take k)).length=m:=⟨_,rfl⟩
         have mO:m≤1068:=by
          rw [←hm];unfold zAI;exact Nat.le_trans (List.length_filterMap_le _ _) (by rw [List.length_take];omega)
         have fQ:=gM.out.ri;have fG:=gM.out.rd;rw [hm] at fQ fG;obtain⟨iA,ic,lE,-⟩:=Sees.of_own (B:=wr.heap.size) fQ fun g hg=>(fQ.lt g hg).2;obtain⟨dA,dc,lF,-⟩:=Sees.of_own (B:=wr.heap.size) fG fun g hg=>(fG.lt g hg).2;have gO:=gM;have fD:=jU.out;rw [lE] at fQ fD;rw [lF] at fG fD;subst lE;subst lF;obtain⟨xi,jW⟩:∃ xi,nats ((zAI e (n.data.take k)).map (·.1))=xi:=⟨_,rfl⟩;obtain⟨xd,jX⟩:∃ xd,secs ((zAI e (n.data.take k)).map (·.2))=xd:=⟨_,rfl⟩;rw [jW] at fQ;rw [jX] at fG;have jY:=hid jW;have jZ:=hid jX;have lG:=hid hm;have kA:=hid fQ;have kC:=hid fG
         have mB:y+1≤wr.heap.size:=by have:=fD.lt;omega
         have gP:=hid fun g hg=>(fQ.lt g hg).1;have fW:=hid fun g hg=>(fG.lt g hg).1;have y6:=fD.cell 6;have y6':=(fD.alloc (.cells [.int .i64 (fr:Int)].toArray 3)).cell 6;simp only [List.getElem?_cons_succ,List.getElem?_cons_zero] at y6 y6';obtain⟨b0,b1,b2,b3,b4,b5,b6,b7⟩:=zAO gX.out.xb;rw [fL.out] at b6;obtain⟨bi2,oi2,gI,mC,gJ⟩:=(fN.out wr gX.out.bl).at_.idx.at_ (by rw [fL.out];omega);have c0:=gJ k _ (zBS x.idx k kY);rw [show x.idx[k]=fr by simp only [fR.out,List.getElem_map,lV.out]] at c0;rw [gI] at b6;have kD:=hid fD;clear jW jX hm fQ fG fD jU gM gI gJ b0 b1 b2 b3 b4 b5 b7;go_upto_region 19 with (fail)
         go_cut [] from 61 to 70 (fun wx=>∃ iA' ic',Hid (Blk wx y 123 (yc x e (.slice iA' (m+1) ic') (.slice dA m dc)))∧Hid (wx.ownsRow (y+1) 3 1 (.slice iA' (m+1) ic') (m+1) (xi++[.int .i64 (fr:Int)]))∧Hid (Chg (fun b=>(Value.slice iA m ic).ownBlock=some b∨b=y) wr wx)∧Hid ((Value.slice iA' (m+1) ic').ownBlock=(Value.slice iA m ic).ownBlock∨∃ H,(Value.slice iA' (m+1) ic').ownBlock=some H∧wr.heap.size≤H))
         case first =>
          go_region_law (refine zBw _ (by rfl) (.tmp 62) (.tmp 68) _ _ (by rfl) (y+1) 3 iI (.int .i64 0) 1 8 Tryz.underlying92 lP jI jJ jK rfl (.slice iA m ic) m xi (by rfl) ((kA.out.alloc _).drew) 1 [.int .i64 (fr:Int)] (zCo wr Tryz.underlying92 _ _ rfl) (by unfold maxLen;omega) (by omega) (by simp;omega) ?_;intro v5 w5 gZ mD kE;have gL:Chg (fun b=>(Value.slice iA m ic).ownBlock=some b) wr w5:=(((Chg.refl (fun b=>(Value.slice iA m ic).ownBlock=some b) wr).alloc _).drew).grown mD (fun g' e _=>e);have kF:=kD.out.chg gL (fun h=>absurd (gP.out _ h) (by omega));obtain⟨A9,c9,kG,-⟩:=Sees.of_own (B:=w5.heap.size) gZ fun g hg=>(gZ.lt g hg).2;subst kG;have z6:=kF.cell 6;have zf6:=kF.frozen 6;simp only [List.getElem?_cons_succ,List.getElem?_cons_zero] at z6)
          all_goals
           have q1:Blk (w5.setCell ⟨y,6,none⟩ (.slice A9 (m+1) c9)) y 123 (yc x e (.slice A9 (m+1) c9) (.slice dA m dc)):=kF.set_ 6 _
           have q2:(w5.setCell ⟨y,6,none⟩ (.slice A9 (m+1) c9)).ownsRow (y+1) 3 1 (.slice A9 (m+1) c9) (m+1) (xi++[.int .i64 (fr:Int)]):=zAo gZ ((Chg.refl (fun b=>b=y) w5).setCell (p:=⟨y,6,none⟩) (fun _=>rfl) _) fun g hg h2=>by have:=(gZ.lt g hg).1;omega
           have q3:Chg (fun b=>(Value.slice iA m ic).ownBlock=some b∨b=y) wr (w5.setCell ⟨y,6,none⟩ (.slice A9 (m+1) c9)):=(gL.mono (U:=fun b=>(Value.slice iA m ic).ownBlock=some b∨b=y) fun b _ h=>Or.inl h).setCell (p:=⟨y,6,none⟩) (fun _=>Or.inr rfl) _;have q4:(Value.slice A9 (m+1) c9).ownBlock=(Value.slice iA m ic).ownBlock∨∃ H,(Value.slice A9 (m+1) c9).ownBlock=some H∧wr.heap.size≤H:=kE.imp id fun h=>⟨_,h,by simp⟩;go_wp2;go_meet;exact⟨A9,c9,hid q1,hid q2,hid q3,hid q4⟩
         case rest =>
          obtain⟨iA',ic',lH,mE,jA,mF⟩:=hcut
          have mG:=fP.out.chg jA.out (fun h=>by
           rcases h with h | h
           · exact absurd (jV.out _ h) (Nat.lt_irrefl _)
           · omega)
          have rd6:=zAo kC.out jA.out (fun g hg h2=>by
           rcases h2 with h2 | h2
           · exact gO.out.ap g h2 hg
           · have:=fW.out g hg;omega)
          have mP:=jA.out.size;have y7:=lH.out.cell 7;simp only [List.getElem?_cons_succ,List.getElem?_cons_zero] at y7;clear y6 y6' b6 c0
          go_wp2_with (first
           | (refine wpList_load_row rfl 187 _ rfl sb rfl 187 (bvs s7).toArray _ _ mG Tryz.underlying187 rfl (by rw [zBd,List.size_toArray,zAe,gY]) ?_)
           | (refine zAq rfl 121 187 (.tmp 73) rfl (bvs s7).toArray (by rfl) 128 Tryz.underlying121 zBd zHZ (by rw [List.size_toArray,zAe,gY]) (by omega) (by omega) ?_)
           | (at_builtin;refine zAk _ rfl (.tmp 72) (.tmp 74) _ _ rfl (y+1) 187 iS (.agg Tryz.zeroCells187) 128 128 Tryz.underlying121 lQ jL jM jN zCM (.slice dA m dc) m xd rfl (rd6.alloc _) 1 (bvs s7) (zDq wc s7 gY) (by unfold maxLen;omega) (by omega) (by simp;omega) ?_;intro v7 w7 jB mH kI;have lI:Chg (fun b=>(Value.slice dA m dc).ownBlock=some b) wc w7:=((Chg.refl (fun b=>(Value.slice dA m dc).ownBlock=some b) wc).alloc _).grown mH (fun g' e _=>e);have jC:=lH.out.chg lI (fun h=>absurd (fW.out _ h) (by omega));obtain⟨A9,c9,kG,-⟩:=Sees.of_own (B:=w7.heap.size) jB fun g hg=>(jB.lt g hg).2;subst kG;have z7:=jC.cell 7;have zf7:=jC.frozen 7;simp only [List.getElem?_cons_succ,List.getElem?_cons_zero] at z7;have kJ:=hid jC;clear jC))
          have q1:Blk (w7.setCell ⟨y,7,none⟩ (.slice A9 (m+1) c9)) y 123 (yc x e (.slice iA' (m+1) ic') (.slice A9 (m+1) c9)):=kJ.out.set_ 7 _
          have q2:(w7.setCell ⟨y,7,none⟩ (.slice A9 (m+1) c9)).ownsRow (y+1) 187 128 (.slice A9 (m+1) c9) (m+1) (xd++bvs s7):=zAo jB ((Chg.refl (fun b=>b=y) w7).setCell (p:=⟨y,7,none⟩) (fun _=>rfl) _) fun g hg h2=>by have:=(jB.lt g hg).1;omega
          have q3:Chg (fun b=>(Value.slice dA m dc).ownBlock=some b∨b=y) wc (w7.setCell ⟨y,7,none⟩ (.slice A9 (m+1) c9)):=(lI.mono (U:=fun b=>(Value.slice dA m dc).ownBlock=some b∨b=y) fun b _ h=>Or.inl h).setCell (p:=⟨y,7,none⟩) (fun _=>Or.inr rfl) _;have q4:(Value.slice A9 (m+1) c9).ownBlock=(Value.slice dA m dc).ownBlock∨∃ H,(Value.slice A9 (m+1) c9).ownBlock=some H∧wc.heap.size≤H:=kI.imp id fun h=>⟨_,h,by simp⟩
          have q5:Two (w7.setCell ⟨y,7,none⟩ (.slice A9 (m+1) c9)) (y+1) (.slice iA' (m+1) ic') (.slice A9 (m+1) c9) (zAI e (n.data.take (k+1))):=by
           rw [fV.out];refine gO.out.step2 (w6:=wc) (y:=y) (by omega) ?_ mF.out q3 ?_ q4
           · rw [lG.out,jY.out];exact mE.out
           · rw [lG.out,jZ.out];exact q2
          have lJ:Chg (fun b=>y≤b) wr (w7.setCell ⟨y,7,none⟩ (.slice A9 (m+1) c9)):=(jA.out.mono (U:=fun b=>y≤b) fun b _ h=>by
           rcases h with h | h
           · have:=gP.out b h;omega
           · omega).trans (q3.mono (U:=fun b=>y≤b) fun b _ h=>by
           rcases h with h | h
           · have:=fW.out b h;omega
           · omega) (fun _ _ h=>h) (fun _ _ h=>h)
          have q6:=gX.out.far lJ fun b h=>by omega
          have q5H:=hid q5;have q6H:=hid q6;have q1H:=hid q1;clear q1 q2 q3 q4 q5 q6 lJ;go_roundw
          case rel=>exact⟨k+1,_,_,by omega,by go_num,q5H,q1H,q6H⟩
          case measure=>simp [intOf];omega
       · have t4:decide ((f2:Int)<(e:Int))=false:=decide_eq_false (by omega);have fV:Hid (zAI e (n.data.take (k+1))=zAI e (n.data.take k)):=hid (by have h9:=fB.out;rw [if_neg lD,List.append_nil] at h9;exact h9);clear fB;go_wp2_with fail;go_roundw
         case rel=>exact⟨k+1,vi,vd,by omega,by go_num,hid (by rw [fV.out];exact gM.out),jU,gX⟩
         case measure=>simp [intOf];omega
  · obtain rfl:k=len:=by omega
    have lK:Two wr (y+1) vi vd (zAI e n.data):=by
     have h9:=hT.out;rw [←fO.out,List.take_length] at h9;exact h9
    have mI:∀ b,zAM S g 3 b→b<y+1:=fun b hb=>by
     rcases hb with hb | hb
     · have:=jE.out wr fY.out.le b (.inl hb);have h9:=lN.out b hb;omega
     · omega
    obtain⟨x9,lL,gF⟩:=two_hd lK mI gE.out fE.out kN.out;have lM:=gT.out;rw [lL] at lM;have jD:=fY.out;have fA:=zBv (gQ.out _ jD.bl) (jE.out _ jD.le) kM.out.gr.ok gF;rw [show ∀ t,trV t=.agg (zAa t).toArray from fun _=>rfl,show ∀ x,hdV x=.agg (zAb x).toArray from fun _=>rfl] at fA;have jF:=hid fA;clear fA gF lL lK gU
    go_wp2_with (first
     | (refine wpList_load_row rfl 28 _ rfl g rfl 28 (zAa t).toArray _ _ jD.tb Tryz.underlying28 rfl rfl ?_)
     | (refine wpList_load_row rfl 123 _ rfl y rfl 123 (zAb x9).toArray _ _ lM Tryz.underlying123 rfl rfl ?_)
     | (go_at_call 113;(with_reducible refine (jF.out).mono ?_);rintro e w3 ⟨⟨t3,rfl,jG⟩,jH⟩;have fK:=jD.fresh jH)
     | (refine wpList_store_row rfl 28 _ _ rfl (g+2) (zAa t3).toArray rfl (by rfl) 28 _ fK.rb rfl rfl (zAc t3) ?_))
    exact zAB (k:=3) fK.rb gR.out kO.out jG fK.bl gS.out ⟨by omega,by omega⟩ rfl rfl rfl rfl
def edges (P:PT):List (Nat×ByteArray):=P.nodes.flatMap fun p=>p.2.names.map fun q=>(p.1,q.1)
theorem mem_edges {P:PT} {i d:Nat} {nm:ByteArray} (h:P.E d nm i):(d,nm)∈edges P:=by
 obtain⟨n,h1,_,h3⟩:=h;unfold edges;exact List.mem_flatMap.2 ⟨(d,n),zAi h1,List.mem_map.2 ⟨(nm,i),zAi h3,rfl⟩⟩
theorem edges_len {P:PT} (h:P.Ok):(edges P).length≤512 * 1068:=by
 unfold edges;rw [List.length_flatMap]
 have h1:((P.nodes.map fun p=>(p.2.names.map fun q=>(p.1,q.1)).length)).sum≤(P.nodes.map fun p=>(p.2.names.map fun q=>(p.1,q.1)).length).length * 1068:=sum_le fun x hx=>by
  obtain⟨p,hp,rfl⟩:=List.mem_map.1 hx;have h2:=(h.node p hp).1;have h3:=h2.nlen;have h4:=h2.slots;rw [List.length_map];omega
 rw [List.length_map] at h1;have h2:=h.len;refine Nat.le_trans h1 (Nat.mul_le_mul_right _ h2)
theorem zE2 {P:PT} (h:P.Inv):P.spots.length≤(edges P).length:=by
 have key:∀ y∈P.spots,∃ a nm d,y.1=a++[nm]∧P.walk a 1=(d,0)∧P.E d nm y.2:=fun y hy=>by
  obtain⟨h1,h2⟩:=zJZ h.gr.ok hy;rcases List.eq_nil_or_concat y.1 with e | ⟨a,nm,e⟩
  · exact absurd e h1
  rw [List.concat_eq_append] at e;rw [e] at h2;obtain⟨d,h3,h4⟩:=zCu.1 h2;exact⟨a,nm,d,e,h3,h4⟩
 have hl:(P.spots.map fun y=>((P.walk y.1.dropLast 1).1,zAL y.1)).length=P.spots.length:=List.length_map _;rw [←hl];refine zAC ?_ fun z hz=>?_
 · rw [List.Nodup,List.pairwise_map];refine (zGr h.gr.ok).imp_of_mem fun {y z} hy hz hp e=>?_;obtain⟨a,nm,d,e1,h3,h4⟩:=key y hy;obtain⟨b,nm',d',e2,fA,fB⟩:=key z hz;rw [e1,e2] at e hp
   have e3:d=d':=by
    have:=congrArg Prod.fst e;simp only [List.dropLast_concat,h3,fA] at this;exact this
   have e4:nm=nm':=by
    have:=congrArg Prod.snd e;simpa [zAL] using this
   subst e3;subst e4;rw [dir_path h a b h3 fA (E_dir h4)] at hp;exact zFv _ hp
 · obtain⟨y,hy,rfl⟩:=List.mem_map.1 hz;obtain⟨a,nm,d,e1,h3,h4⟩:=key y hy;rw [e1];simp only [List.dropLast_concat,h3,zAL,List.getLastD_concat];exact mem_edges h4
theorem zIu {P:PT} (h:P.Inv):P.spots.length≤1000000:=by
 have h1:=zE2 h;have h2:=edges_len h.gr.ok;omega
end Go.Proofs.YtolpcfhfcdkokaaGreatDoor
