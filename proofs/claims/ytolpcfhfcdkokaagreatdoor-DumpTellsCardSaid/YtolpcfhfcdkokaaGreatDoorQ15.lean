/- Joined out of RUsed..Owned. -/
import Derived.Test.YtolpcfhfcdkokaaGreatDoorQ07
import Derived.Test.YtolpcfhfcdkokaaGreatDoorQ13
set_option maxHeartbeats 16000000
set_option maxRecDepth 100000
set_option linter.unusedSimpArgs false
set_option linter.unusedVariables false
namespace Go.Proofs.YtolpcfhfcdkokaaGreatDoor
open Lib (hid)
open Go.RowKit
def Small (l:List Hd):Prop:=l.length≤600∧∀ x∈l,x.idx.length≤1100∧∀ k∈x.idx,k≤1100
def zCA (l:List Hd):Nat:=(l.map fun x=>zBt x.idx).sum
theorem used_le:∀ (l:List Hd),(∀ x∈l,x.idx.length≤1100∧∀ k∈x.idx,k≤1100)→zCA l≤l.length * 2202:=by
 intro l
 induction l with
 | nil=>intro _;simp [zCA]
 | cons x l ih =>
  intro h;have h1:=ih fun y hy=>h y (List.mem_cons_of_mem _ hy);have h2:=countL_le x.idx;have h3:=(h x List.mem_cons_self).1;rw [List.length_cons,Nat.succ_mul]
  have e:zCA (x::l)=zBt x.idx+zCA l:=by unfold zCA;rw [List.map_cons,List.sum_cons]
  omega
theorem used_step (l:List Hd) (i:Nat) (h:i<l.length):zCA (l.take (i+1))=zCA (l.take i)+zBt l[i].idx:=by
 rw [List.take_succ_eq_append_getElem h];unfold zCA;rw [List.map_append,List.sum_append];simp
theorem zI0 (B:Nat) (t:Tr) (w:World) (ht:TrAt w B t) (hB:B≤w.heap.size) (hs:Small t.l) :
 Calls Tryz.prog 36 #[trV t] w fun e w'=>e=.returned (.int .i64 (zCA t.l))∧Below w.heap.size w w':=by
 have fI:=Blk.new w 28 [.int .i64 t.sectors,.int .i64 t.inodes,.int .i64 t.births,.slice t.A t.l.length t.c];have fJ:Below w.heap.size w (w.alloc (.cells #[.int .i64 t.sectors,.int .i64 t.inodes,.int .i64 t.births,.slice t.A t.l.length t.c] 28)):=(Below.refl _ _).alloc (Nat.le_refl _) _;have fK:=(ht.more hB).below fJ;unfold trV;go_enter Tryz.func36,Tryz.ntmps36;go_upto_region 1 with (fail);generalize w.alloc (.cells #[.int .i64 t.sectors,.int .i64 t.inodes,.int .i64 t.births,.slice t.A t.l.length t.c] 28)=w0 at *;have x3:w0.cell? ⟨w.heap.size,3,none⟩=some (.slice t.A t.l.length t.c):=fI.cell 3;clear fI;obtain⟨len,fA⟩:∃ len,len=t.l.length:=⟨_,rfl⟩;have fC:=hid fA
 have fR:len≤600:=by rw [fA];exact hs.1
 rw [←fA] at x3;have fL:=hid hs;clear fA hs;go_wp2
 go_loop [3,4] (fun n i'=>∃ k m:Nat,k≤len∧i'=.int .i64 k∧n=.int .i64 m∧m≤2000000∧Hid (m=zCA (t.l.take k))) (fun _ i'=>len-(intOf i').toNat)
 case atStart=>exact⟨0,0,Nat.zero_le _,rfl,rfl,by omega,rfl⟩
 case round =>
  obtain⟨k,m,hk,rfl,rfl,hm,fF⟩:=hrel;by_cases fS:k<len
  · have fB:k<t.l.length:=by have:=fC.out;omega
    obtain⟨b,off,hA,fT,hc⟩:=fK.cell k fB;have hx:=fK.hds _ (List.getElem_mem fB);obtain⟨fU,fM⟩:=fL.out.2 _ (List.getElem_mem fB);have c6:w0.cell? ⟨b,off+k * 8+6,none⟩=some (.slice t.l[k].iA t.l[k].idx.length t.l[k].ic):=hc 6 _ (by omega) rfl;have fN:=hid (used_step t.l k fB);have fO:=hid (used_le (t.l.take (k+1)) fun x hx=>fL.out.2 x (List.mem_of_mem_take hx));rw [hA] at x3;clear hA hc;generalize t.l[k]=x at *
    have fG:m+zBt x.idx=zCA (t.l.take (k+1)):=by rw [fN.out,fF.out]
    have fP:m+zBt x.idx≤2000000:=by
     rw [fG];have:=fO.out;rw [List.length_take] at this;omega
    have fQ:=hid fG;have fD:=zGK w.heap.size x.iA x.ic x.idx w0 hx.idx (by omega) (fun k hk=>by have:=fM k hk;omega);clear fG fF;generalize zBt x.idx=cn at *;have fE:=hid fD;clear fD;go_wp2_with (go_at_call 58;refine fE.out.mono ?_;rintro e w1 ⟨rfl,rfl⟩);go_round
    case rel=>exact⟨k+1,m+cn,by omega,by go_num,by go_num,fP,fQ.out⟩
    case measure=>simp [intOf];omega
  · obtain rfl:k=len:=by omega
    have fH:=hid (show m=zCA t.l by rw [fF.out,List.take_of_length_le (by have:=fC.out;omega)]);clear fF;go_wp2;go_ret;exact⟨by rw [←fH.out];rfl,fJ⟩
theorem zAF (n:Int) (h : -9223372036854775808≤n∧n≤9223372036854775807):IntKind.i64.wrap n=n:=by rw [IntKind.wrap_i64];omega
theorem tr_drewN {w:World} {B:Nat} {t:Tr} (h:TrAt w B t) (n:Nat):TrAt (w.drewN n) B t:=h.keep fun _ _=>rfl
theorem used_fit {t:Tr} (hs:Small t.l):zCA t.l≤2000000:=by
 have:=used_le t.l hs.2;have:=hs.1;omega
def fitsB (t:Tr):Bool:=decide ((zCA t.l:Int)≤t.sectors-1-t.inodes)
theorem fits_any (B:Nat) (t:Tr) (w:World) (ht:TrAt w B t) (hB:B≤w.heap.size) (hs:Small t.l) (hn:0≤t.sectors∧t.sectors≤10000) (hi:0≤t.inodes∧t.inodes≤10000) :
 Calls Tryz.prog 121 #[trV t] w fun e w'=>e=.returned (.bool (fitsB t))∧Below w.heap.size w w':=by
 have fA:=Blk.new w 28 [.int .i64 t.sectors,.int .i64 t.inodes,.int .i64 t.births,.slice t.A t.l.length t.c];have fE:Below w.heap.size w (w.alloc (.cells #[.int .i64 t.sectors,.int .i64 t.inodes,.int .i64 t.births,.slice t.A t.l.length t.c] 28)):=(Below.refl _ _).alloc (Nat.le_refl _) _;have fF:=(ht.more hB).below fE;unfold trV;go_enter Tryz.func121,Tryz.ntmps121;go_upto_region 1 with (fail);generalize w.alloc (.cells #[.int .i64 t.sectors,.int .i64 t.inodes,.int .i64 t.births,.slice t.A t.l.length t.c] 28)=w0 at *;have x0:w0.cell? ⟨w.heap.size,0,none⟩=some (.int .i64 t.sectors):=fA.cell 0;have x1:w0.cell? ⟨w.heap.size,0+1,none⟩=some (.int .i64 t.inodes):=fA.cell 1;have x1':w0.cell? ⟨w.heap.size,1,none⟩=some (.int .i64 t.inodes):=fA.cell 1;have x2:w0.cell? ⟨w.heap.size,0+2,none⟩=some (.int .i64 t.births):=fA.cell 2;have x3:w0.cell? ⟨w.heap.size,0+3,none⟩=some (.slice t.A t.l.length t.c):=fA.cell 3;have fC:=fA.lt;have hu:=used_fit hs;obtain⟨fH,fI⟩:=hn;obtain⟨fJ,fK⟩:=hi
 have fG:w.heap.size≤w0.drew.heap.size:=by simp;omega
 have e1:IntKind.i64.wrap (t.sectors-1)=t.sectors-1:=zAF _ (by omega);have e2:IntKind.i64.wrap (t.sectors-1-t.inodes)=t.sectors-1-t.inodes:=zAF _ (by omega)
 go_region_held3 (fun w'=>w'.cell? ⟨w.heap.size,0,none⟩=some (.int .i64 t.sectors)∧w'.cell? ⟨w.heap.size,0+1,none⟩=some (.int .i64 t.inodes)∧w'.cell? ⟨w.heap.size,1,none⟩=some (.int .i64 t.inodes)∧w'.cell? ⟨w.heap.size,0+2,none⟩=some (.int .i64 t.births)∧w'.cell? ⟨w.heap.size,0+3,none⟩=some (.slice t.A t.l.length t.c))
  (first | go_keep)
  (first
   | (go_at_call 36;refine (zI0 w.heap.size t w0.drew (tr_drewN fF 1) fG hs).mono ?_;rintro e w1 ⟨rfl,fD⟩;have fB:Below w0.heap.size w0 w1:=(zAf (Below.refl _ w0) 1).trans fD;have y0:=(fB.cell (p:=⟨w.heap.size,0,none⟩) fC).trans x0;have y1:=(fB.cell (p:=⟨w.heap.size,0+1,none⟩) fC).trans x1;have y2:=(fB.cell (p:=⟨w.heap.size,0+2,none⟩) fC).trans x2;have y3:=(fB.cell (p:=⟨w.heap.size,0+3,none⟩) fC).trans x3;have y4:=(fB.cell (p:=⟨w.heap.size,1,none⟩) fC).trans x1))
 go_wp2;go_ret;exact⟨rfl,fE.trans (fB.mono (by omega))⟩
def OwB (H m N:Nat) (lv dv:Nat→Value) (b:Nat):Prop:=(∃ a,a<N∧(dv a).ownBlock=some b)∨(∃ a,a<m∧(lv a).ownBlock=some b)∨H≤b
theorem owned_chg (B p m c:Nat) (lv:Nat→Value) (L:Nat→List Nd) (w:World) (hL:Lists w B p m lv L) (hB:B≤w.heap.size) (hp:B≤p) (hm:m≤10) (jH:∀ i,i<m→(L i).length≤10000000∧∀ x∈L i,x.data.length≤1000000000) :
 Calls Tryz.prog 13 #[.slice (some ⟨p,0,none⟩) m c] w fun e w'=>e=.returned (.bool true)∧Chg (fun b=>∃ i,i<m∧zJ7 (lv i) (L i) b) w w':=by
 obtain⟨i2,kE,kF,kG,kI⟩:=info_parts infoBytes;have jB:=hid jH;have kJ:=fun i hi=>flat_le L 10000000 i (fun j hj=>(jH j (Nat.lt_of_lt_of_le hj hi)).1);have gC:Hid (∀ i,i≤m→(flat L i).length≤i * 10000000):=kJ;have jI:=hL.par.lt;clear jH kJ;go_enter Tryz.func13,Tryz.ntmps13;go_wp2
 go_loopw [3,4] (fun v i wr=>∃ j:Nat,j≤m∧i=.int .i64 j∧wr.ownsRow w.heap.size 64 1 v (flat L j).length ((flat L j).map ndV)∧Below w.heap.size w wr) (fun _ i _=>m-(intOf i).toNat)
 case atStart=>exact⟨0,Nat.zero_le _,rfl,World.ownsRow_nil _ _ _ _,Below.refl _ _⟩
 case round =>
  obtain⟨j,hj,rfl,ho,hb⟩:=hrel;by_cases jJ:j<m
  · have lB:=hL.own j jJ;obtain⟨A,cA,hv,hN⟩:=lB.nodes
    have k0:wr.cell? ⟨p,j,none⟩=some (.slice A (L j).length cA):=by
     rw [hb.cell (p:=⟨p,j,none⟩) jI,hL.par.cell,zBG lv m j jJ,hv]
    obtain⟨n,hn⟩:∃ n,n=(L j).length:=⟨_,rfl⟩;have fC:=hid hn
    have jC:n≤10000000:=by have:=(jB.out j jJ).1;omega
    have mB:(flat L j).length≤100000000:=by have:=gC.out j hj;omega
    rw [←hn] at k0;clear hn hv;go_wp2;obtain⟨wo,rfl⟩:∃ wo:World,wo=wr:=⟨_,rfl⟩
    go_loopw [3,5] (fun v i wr=>∃ k:Nat,k≤n∧i=.int .i64 k∧wr.ownsRow w.heap.size 64 1 v ((flat L j).length+k) ((flat L j++(L j).take k).map ndV)∧Below w.heap.size w wr) (fun _ i _=>n-(intOf i).toNat)
    case atStart=>exact⟨0,Nat.zero_le _,rfl,by simpa using ho,hb⟩
    case round =>
     obtain⟨k,hk,rfl,gN,fW⟩:=hrel;have k0':=(fW.cell (p:=⟨p,j,none⟩) jI).trans ((hb.cell (p:=⟨p,j,none⟩) jI).symm.trans k0);by_cases kK:k<n
     · have kL:k<(L j).length:=by have:=fC.out;omega
       obtain⟨g,off,rfl,lC,hc⟩:=hN.at_ (by omega);have c4:=(fW.cell (p:=⟨g,off+k * 5+4,none⟩) lC).trans (hc k kL).2.2.2.2;have kM:=hid (flat_snoc L j k kL);have kN:ndV (L j)[k]=.slice (L j)[k].dA (L j)[k].data.length (L j)[k].dc:=rfl;rw [kN] at kM;have fX:=fW.size;clear hN hc kN k0 ho;generalize (L j)[k]=x at *
       go_wp2_with (first
        | (at_builtin;refine zAk _ rfl (.tmp 37) (.tmp 46) _ _ rfl w.heap.size 64 i2 _ 1 24 Tryz.underlying47 kE kF kG kI rfl _ ((flat L j).length+k) _ rfl (gN.alloc _) 1 [.slice x.dA x.data.length x.dc] (zBH wr Tryz.underlying47 _ _ rfl) (by unfold maxLen;omega) (by omega) (by simp;omega) ?_;intro v' w1 fQ fJ fD))
       have gT:Below w.heap.size w w1:=(fW.alloc fX _).grown fJ (by simp;omega) (fun g hg=>(gN.lt g hg).1);clear gN fJ fD c4;go_wp2;go_roundw
       case rel=>exact⟨k+1,by omega,by go_num,by rw [kM.out];exact fQ,gT⟩
       case measure=>simp [intOf];omega
     · obtain rfl:k=n:=by omega
       have lD:Hid (wr.ownsRow w.heap.size 64 1 u3 (flat L (j+1)).length ((flat L (j+1)).map ndV)):=by
        have h1:=fC.out;rw [h1,List.take_length] at gN;rw [zEA,List.length_append];exact gN
       clear hN k0 ho gN;go_wp2;go_roundw
       case rel=>exact⟨j+1,by omega,by go_num,lD.out,fW⟩
       case measure=>simp [intOf];omega
  · obtain rfl:m=j:=by omega
    have gU:=hL.sep
    have mC:(flat L m).length≤100000000:=by have:=gC.out m (Nat.le_refl _);omega
    have jK:Hid (∀ a,a<(flat L m).length→dlF L m a≤1000000000):=fun a ha=>by
     rw [dlF_get L m a ha];obtain⟨i,hi,hx⟩:=zDL.1 (List.getElem_mem ha);exact (jB.out i hi).2 _ hx
    have kO:Hid (∀ a,a<m→(L a).length≤10000000):=fun a ha=>(jB.out a ha).1
    have gO:Hid (∀ a,a<(flat L m).length→∃ xs,wr.ownsRow B 5 1 (dvF L m a) (dlF L m a) xs):=fun a ha=>by
     obtain⟨xs,hx⟩:=hL.data a ha;exact⟨xs,zAN hx hb⟩
    have hM:Mem wr B w.heap.size p m (flat L m).length lv (dvF L m) (fun a=>(L a).length) (dlF L m) u3 0 0 :=
     ⟨hL.par.fresh hb,by rw [←dvF_all];exact ho,gO.out,fun a ha=>⟨_,zAN (hL.own a ha).row hb⟩,fun a ha=>absurd ha (by omega),fun a ha=>absurd ha (by omega)⟩
    have kP:Chg (OwB w.heap.size m (flat L m).length lv (dvF L m)) w wr:=Chg.of_fresh hb
    have lE:Hid (∀ b,b<w.heap.size→OwB w.heap.size m (flat L m).length lv (dvF L m) b→∃ i,i<m∧zJ7 (lv i) (L i) b):=hid fun b hb h=>by
     rcases h with ⟨a,ha,h⟩ | ⟨a,ha,h⟩ | h
     · rw [zDh L m a ha] at h;obtain⟨i,hi,hx⟩:=zDL.1 (List.getElem_mem ha);exact⟨i,hi,.inr ⟨_,hx,h⟩⟩
     · exact⟨a,ha,.inl h⟩
     · omega
    obtain⟨nl,jC⟩:∃ nl:Nat→Nat,nl=fun a=>(L a).length:=⟨_,rfl⟩;rw [←jC] at hM
    have gD:Hid (∀ a,a<m→nl a≤10000000):=by rw [jC];exact kO
    obtain⟨A3,c3,rfl,h3⟩:=zBo ho;have jL:=hid h3;have fB:=hid gU
    have gE:Hid (∀ a,a<(flat L m).length→Form (dvF L m a) (dlF L m a)):=fun a ha=>by obtain⟨xs,hx⟩:=hM.down a ha;exact zBo hx
    have gF:Hid (∀ a,a<m→Form (lv a) (nl a)):=fun a ha=>by obtain⟨xs,hx⟩:=hM.lown a ha;exact zBo hx
    clear kO gO ho hL gC jB jC h3 gU;generalize (flat L m).length=N at *;generalize dvF L m=dv at *;generalize dlF L m=dl at *;have kQ:=hb.size;clear hb;go_wp2
    go_loopw [6] (fun i wr=>∃ j:Nat,j≤N∧i=.int .i64 j∧Mem wr B w.heap.size p m N lv dv nl dl (.slice A3 N c3) j 0∧Chg (OwB w.heap.size m N lv dv) w wr∧w.heap.size≤wr.heap.size) (fun i _=>N-(intOf i).toNat)
    case atStart=>exact⟨0,Nat.zero_le _,rfl,hM,kP,kQ⟩
    case round =>
     obtain⟨i,hi,rfl,fZ,gO,kR⟩:=hrel;clear hM kP kQ;by_cases gA:i<N
     · obtain⟨g3,e3⟩:=jL.out (by omega);subst e3;obtain⟨xs0,fE⟩:=fZ.down i gA;obtain⟨A,cA,hv,hA⟩:=zBo fE;have fG:=hid hv;have gG:=hid hA;rw [hv] at fE;have fF:=jK.out i gA;obtain⟨n,hn⟩:∃ n,n=dl i:=⟨_,rfl⟩;have fC:=hid hn
       have k0:wr.cell? ⟨g3,i,none⟩=some (.slice A n cA):=by rw [hn,←hv];exact zBi fZ.dat rfl (zBG dv N i gA)
       rw [←hn] at fE fF;clear hn hv hA;go_wp2;obtain⟨wo,rfl⟩:∃ wo:World,wo=wr:=⟨_,rfl⟩
       go_loopw [7] (fun i' wr=>∃ (k:Nat) (xs:List Value),k≤n∧i'=.int .i64 k∧wr.ownsRow B 5 1 (.slice A n cA) n xs∧Hid (∀ k',k'<k→xs[k']? = some (bv i))∧Chg (fun b=>(Value.slice A n cA).ownBlock=some b) wo wr) (fun i' _=>n-(intOf i').toNat)
       case atStart=>exact⟨0,xs0,Nat.zero_le _,rfl,fE,fun k hk=>absurd hk (by omega),Chg.refl _ _⟩
       case round =>
        obtain⟨k,xs,hk,rfl,fA,fH,fK⟩:=hrel;clear fE;by_cases kK:k<n
        · obtain⟨g,eA⟩:=gG.out (by have:=fC.out;omega);subst eA
          have jM:k<xs.length:=by rw [fA.1];omega
          have k1:=zBi fA rfl (List.getElem?_eq_getElem jM);have k2:=fA.frozenAt k;have jD:=fZ.dat.lt g3 rfl;have lF:=fB.out.dlt i g gA (by rw [fG.out];rfl)
          have fR:¬(Value.slice (some ⟨g,0,none⟩) n cA).ownBlock=some g3:=fun e=>by
           have e':g=g3:=by simpa [Value.ownBlock] using e
           omega
          have k0':=(fK.cell (p:=⟨g3,i,none⟩) jD.2 fR).trans k0;have gP:=hid (fA.stored k (.int .u8 ((i:Int) % 251))).1;have jN:Hid (∀ k',k'<k+1→(xs.set k (.int .u8 ((i:Int) % 251)))[k']? = some (bv i)):=head_set fH.out jM;have jE:=fK.setCell (p:=⟨g,k,none⟩) (fun _=>rfl) (.int .u8 ((i:Int) % 251));clear k0 jD lF fR fK;generalize xs[k]=old at *;go_wp2;go_roundw
          case rel=>exact⟨k+1,_,by omega,by go_num,gP.out,jN.out,jE⟩
          case measure=>simp [intOf];omega
        · obtain rfl:n=k:=by omega
          have fV:Mem wr B w.heap.size p m N lv dv nl dl (.slice (some ⟨g3,0,none⟩) N c3) (i+1) 0:=fZ.fillD fB.out gA (Nat.zero_le _) (by rw [fG.out,←fC.out];exact fK) (by rw [fG.out,←fC.out];exact fA) (by rw [←fC.out];exact fH.out);have jD:=fZ.dat.lt g3 rfl
          have fR:¬(Value.slice A n cA).ownBlock=some g3:=fun e=>by
           have:=fB.out.dlt i g3 gA (by rw [fG.out,←fC.out];exact e);omega
          have k0':=(fK.cell (p:=⟨g3,i,none⟩) jD.2 fR).trans k0;have fX:=gO.trans fK (fun _ _ h=>h) (fun b _ e=>.inl ⟨i,gA,by rw [fG.out,←fC.out];exact e⟩);have lG:=fK.size;clear fK fZ k0 fA fH fR;go_wp2;go_roundw
          case rel=>exact⟨i+1,by omega,by go_num,fV,fX,by omega⟩
          case measure=>simp [intOf];omega
     · obtain rfl:N=i:=by omega
       go_wp2;obtain⟨wN,rfl⟩:∃ wN:World,wN=wr:=⟨_,rfl⟩
       go_loopw [8] (fun i wr=>∃ j:Nat,j≤m∧i=.int .i64 j∧Mem wr B w.heap.size p m N lv dv nl dl (.slice A3 N c3) N j∧Chg (OwB w.heap.size m N lv dv) w wr∧w.heap.size≤wr.heap.size) (fun i _=>m-(intOf i).toNat)
       case atStart=>exact⟨0,Nat.zero_le _,rfl,fZ,gO,kR⟩
       case round =>
        obtain⟨i,lH,rfl,fV,fW,kS⟩:=hrel;clear fZ gO kR;by_cases gQ:i<m
        · obtain⟨xs0,fE⟩:=fV.lown i gQ;obtain⟨A,cA,hv,hA⟩:=zBo fE;have fG:=hid hv;have gG:=hid hA;rw [hv] at fE;have fF:=gD.out i gQ;obtain⟨n,hn⟩:∃ n,n=nl i:=⟨_,rfl⟩;have fC:=hid hn
          have k0:wr.cell? ⟨p,i,none⟩=some (.slice A n cA):=by rw [hn,←hv,fV.par.cell];exact zBG lv m i gQ
          have kv0:=fV.par.lt;rw [←hn] at fE fF;clear hn hv hA;go_wp2;obtain⟨wo,rfl⟩:∃ wo:World,wo=wr:=⟨_,rfl⟩
          go_loopw [9] (fun i' wr=>∃ (k:Nat) (xs:List Value),k≤n∧i'=.int .i64 k∧wr.ownsRow B 75 5 (.slice A n cA) n xs∧Hid (∀ k',k'<k→xs[k' * 5+1]? = some (kv i))∧Chg (fun b=>(Value.slice A n cA).ownBlock=some b) wo wr) (fun i' _=>n-(intOf i').toNat)
          case atStart=>exact⟨0,xs0,Nat.zero_le _,rfl,fE,fun k hk=>absurd hk (by omega),Chg.refl _ _⟩
          case round =>
           obtain⟨k,xs,hk,rfl,fA,fH,fK⟩:=hrel;clear fE;have gH:¬(Value.slice A n cA).ownBlock=some p:=fun e=>(fB.out.llt i p gQ (by rw [fG.out,←fC.out];exact e)).2.2 rfl;have k0':=(fK.cell (p:=⟨p,i,none⟩) kv0 gH).trans k0;by_cases kK:k<n
           · obtain⟨g,eA⟩:=gG.out (by have:=fC.out;omega);subst eA;have jM:xs.length=n * 5:=fA.1;have y0:=zBi fA rfl (List.getElem?_eq_getElem (show k * 5<xs.length by omega));have y1:=zBi fA rfl (List.getElem?_eq_getElem (show k * 5+1<xs.length by omega));have y2:=zBi fA rfl (List.getElem?_eq_getElem (show k * 5+2<xs.length by omega));have y3:=zBi fA rfl (List.getElem?_eq_getElem (show k * 5+3<xs.length by omega));have y4:=zBi fA rfl (List.getElem?_eq_getElem (show k * 5+4<xs.length by omega));have z0:=fA.frozenAt (k * 5);have z1:=fA.frozenAt (k * 5+1);have z2:=fA.frozenAt (k * 5+2);have z3:=fA.frozenAt (k * 5+3);have z4:=fA.frozenAt (k * 5+4);have gP:=hid (((((fA.stored (k * 5) (.string ⟨#[]⟩)).1.stored (k * 5+1) (.int .i64 (-1-(i:Int)))).1.stored (k * 5+2) (.int .i64 0)).1.stored (k * 5+3) (.string ⟨#[]⟩)).1.stored (k * 5+4) (.slice none 0 0)).1;have jN:Hid (∀ k',k'<k+1→(((((xs.set (k * 5) (.string ⟨#[]⟩)).set (k * 5+1) (.int .i64 (-1-(i:Int)))).set (k * 5+2) (.int .i64 0)).set (k * 5+3) (.string ⟨#[]⟩)).set (k * 5+4) (.slice none 0 0))[k' * 5+1]? = some (kv i)):=head5 fH.out (by omega);have jE:=((((fK.setCell (p:=⟨g,k * 5,none⟩) (fun _=>rfl) (.string ⟨#[]⟩)).setCell (p:=⟨g,k * 5+1,none⟩) (fun _=>rfl) (.int .i64 (-1-(i:Int)))).setCell (p:=⟨g,k * 5+2,none⟩) (fun _=>rfl) (.int .i64 0)).setCell (p:=⟨g,k * 5+3,none⟩) (fun _=>rfl) (.string ⟨#[]⟩)).setCell (p:=⟨g,k * 5+4,none⟩) (fun _=>rfl) (.slice none 0 0);clear gH k0 fK fH;generalize xs[k * 5]=o0 at *;generalize xs[k * 5+1]=o1 at *;generalize xs[k * 5+2]=o2 at *;generalize xs[k * 5+3]=o3 at *;generalize xs[k * 5+4]=o4 at *;have gV:=gP.out;clear gP;have gP:=hid gV;have jO:=hid jE;clear gV jE fA;go_wp2;go_roundw
             case rel=>exact⟨k+1,_,by omega,by go_num,gP.out,jN.out,jO.out⟩
             case measure=>simp [intOf];omega
           · obtain rfl:n=k:=by omega
             have lI:Mem wr B w.heap.size p m N lv dv nl dl (.slice A3 N c3) N (i+1):=fV.fillL fB.out gQ (Nat.le_refl _) (by rw [fG.out,←fC.out];exact fK) (by rw [fG.out,←fC.out];exact fA) (by rw [←fC.out];exact fH.out);have fX:=fW.trans fK (fun _ _ h=>h) (fun b _ e=>.inr (.inl ⟨i,gQ,by rw [fG.out,←fC.out];exact e⟩));have lG:=fK.size;clear fK fV k0 fA fH gH;go_wp2;go_roundw
             case rel=>exact⟨i+1,by omega,by go_num,lI,fX,by omega⟩
             case measure=>simp [intOf];omega
        · obtain rfl:m=i:=by omega
          obtain⟨wm,jF⟩:∃ wm:World,wm=wr:=⟨_,rfl⟩;obtain⟨i0,lJ,lK,lL,lM⟩:=info_parts zCV
          have gW:Hid (∀ g,(Value.slice A3 N c3).ownBlock=some g→g<wm.heap.size):=fun g hg=>by rw [jF];exact (fV.dat.lt g hg).2
          have jP:w.heap.size≤wm.heap.size:=by rw [jF];exact kS
          have kT:=fV.ph4 (fun _=>.slice none 0 0) wm.heap.size
          have mD:B≤wm.heap.size:=by omega
          have gX:wm.heap.size≤wr.heap.size:=by rw [jF];exact Nat.le_refl _
          clear fV;go_wp2;clear jF
          go_loopw [10,11] (fun v i wr=>∃ (j:Nat) (gv:Nat→Value),j≤N∧i=.int .i64 j∧Ph4 wr B w.heap.size p m N lv dv nl dl (.slice A3 N c3) wm.heap.size j gv v∧Chg (OwB w.heap.size m N lv dv) w wr∧wm.heap.size≤wr.heap.size) (fun _ i _=>N-(intOf i).toNat)
          case atStart=>exact⟨0,_,Nat.zero_le _,rfl,kT,fW,gX⟩
          case round =>
           obtain⟨i,gv,gA,rfl,hP,gT,jQ⟩:=hrel;clear kT fW gX kS;by_cases fL:i<N
           · obtain⟨g3,e3⟩:=jL.out (by omega);subst e3;obtain⟨xs0,fE,fM⟩:=hP.down i (Nat.le_refl _) fL;obtain⟨A,cA,hv,hA⟩:=zBo fE;have fF:=jK.out i fL;obtain⟨n,hn⟩:∃ n,n=dl i:=⟨_,rfl⟩;have fC:=hid hn;rw [←hn] at hv fE fF fM;have fG:=hid hv;have gI:=hP.dall i fL;rw [hv,←hn] at gI;rw [hv] at fE
             have k0:wr.cell? ⟨g3,i,none⟩=some (.slice A n cA):=by rw [←hv];exact zBi hP.dat rfl (zBG dv N i fL)
             have gJ:Hid (∀ k',k'<n→xs0[k']? = some (bv i)):=fun k hk=>by simpa using fM k hk
             have fS:=hid gI;clear hn hv hA fM gI;go_wp2;obtain⟨wo,rfl⟩:∃ wo:World,wo=wr:=⟨_,rfl⟩
             go_loopw [12,13] (fun v i' wr=>∃ (k:Nat) (xs:List Value),k≤24∧i'=.int .i64 k∧wr.ownsRow B 5 1 v (n+k) xs∧Hid (∀ k',k'<n+k→xs[k']? = some (bv i))∧Hid (All wr (.slice A n cA) n 1 0 (bv i))∧Grows wo (.slice A n cA) wr v) (fun _ i' _=>24-(intOf i').toNat)
             case atStart=>exact⟨0,xs0,Nat.zero_le _,rfl,fE,gJ,fS,Grows.refl _ _⟩
             case round =>
              obtain⟨k,xs,hk,rfl,fA,fH,fY,fN⟩:=hrel;clear fE fS;have lN:=fN.chg.size;by_cases lO:k<24
              · clear k0
                go_wp2_with (first
                 | (at_builtin;refine zES _ rfl (.tmp 110) (.tmp 114) _ _ rfl B 5 i0 (.int .u8 0) 1 1 Tryz.underlying64 lJ lK lL lM rfl _ (n+k) xs rfl (fA.alloc _) 1 [.int .u8 ((i:Int) % 251)] (zBH wr Tryz.underlying64 _ _ rfl) (by unfold maxLen;omega) (by omega) (by simp;omega) ?_;intro v' w1 fQ fJ fD))
                have gY:Hid (∀ k',k'<n+(k+1)→(xs++[.int .u8 ((i:Int) % 251)])[k']? = some (bv i)):=snoc_all fH.out (by simpa using fA.1);obtain⟨gZ,jR⟩:=zIG (xs:=xs++[.int .u8 ((i:Int) % 251)]) (u:=bv i) (off:=0) (n:=n) fN fY.out ((Below.refl _ _).alloc (Nat.le_refl _) _) fQ (fun k' lP=>by simpa using gY.out k' (by omega)) fJ fD;have gK:=hid gZ;clear gZ fN fJ fD fA fH fY;go_wp2;go_roundw
                case rel=>exact⟨k+1,_,by omega,by go_num,fQ,gY,gK,jR⟩
                case measure=>simp [intOf];omega
              · obtain rfl:k=24:=by omega
                have fT:=hP.grow1 (v:=u12) (w1:=wr) fB.out jP fL (by rw [fG.out];exact fN);obtain⟨Av,cv,jS,_⟩:=zBo fA;subst jS;clear k0
                go_wp2_with (first
                 | (at_builtin;refine zAk _ rfl (.tmp 116) (.tmp 118) _ _ rfl wm.heap.size 64 i2 _ 1 24 Tryz.underlying47 kE kF kG kI rfl u10 i _ rfl (fT.alloc _) 1 [.slice Av (n+24) cv] (zBH wr Tryz.underlying47 _ _ rfl) (by unfold maxLen;omega) (by omega) (by simp;omega) ?_;intro v' w1 fQ fJ fD))
                have lQ:=hP.step fB.out jP gW.out jQ fL (by rw [←fC.out];exact fA) (by rw [←fC.out];exact fH.out) (by rw [fG.out,←fC.out];exact fY.out) (by rw [fG.out];exact fN) ((Below.refl _ _).alloc (Nat.le_refl _) _) fQ fJ fD;have fO:Chg (OwB w.heap.size m N lv dv) wo w1:=((fN.chg.mono (U:=OwB w.heap.size m N lv dv) fun b _ e=>.inl ⟨i,fL,by rw [fG.out];exact e⟩).alloc _).grown fJ (fun b e _=>.inr (.inr (by have:=(fT.lt b e).1;omega)));have fX:=gT.trans fO (fun _ _ h=>h) (fun _ _ h=>h);have lR:=fO.size;clear hP fN fA fH fY fT fQ fJ fD fO;go_wp2;go_roundw
                case rel=>exact⟨i+1,_,by omega,by go_num,lQ,fX,by omega⟩
                case measure=>simp [intOf];omega
           · obtain rfl:N=i:=by omega
             obtain⟨iN,jT,jU,jV,jW⟩:=info_parts zEo;obtain⟨i4,lS,lT,lU,lV⟩:=info_parts infoNodes;obtain⟨jG,hF⟩:=hP.ph5 jP gW.out jQ (fun _=>.slice none 0 0);have kU:=hid hF;obtain⟨w5,gL⟩:∃ w5:World,w5=wr:=⟨_,rfl⟩;rw [←gL] at kU jG
             have kV:w.heap.size≤w5.heap.size:=by rw [gL];omega
             have mE:B≤w5.heap.size:=by rw [gL];omega
             have kW:w5.heap.size≤wr.heap.size:=by rw [gL];exact Nat.le_refl _
             rw [gL] at jG
             have kX:Ph5 wr B w.heap.size p m N lv dv nl dl (.slice A3 N c3) gv u10 w5.heap.size 0 (fun _=>.slice none 0 0) (.slice none 0 0):=by rw [gL];exact jG
             clear hP hF jG gL;go_wp2
             go_loopw [14,15] (fun v i wr=>∃ (j:Nat) (mv:Nat→Value),j≤m∧i=.int .i64 j∧Ph5 wr B w.heap.size p m N lv dv nl dl (.slice A3 N c3) gv u10 w5.heap.size j mv v∧Chg (OwB w.heap.size m N lv dv) w wr∧w5.heap.size≤wr.heap.size) (fun _ i _=>m-(intOf i).toNat)
             case atStart=>exact⟨0,_,Nat.zero_le _,rfl,kX,gT,kW⟩
             case round =>
              obtain⟨i,mv,lW,rfl,hQ,kY,lX⟩:=hrel;clear kX gT kW jQ;by_cases fP:i<m
              · obtain⟨xs0,fE,fM⟩:=hQ.lown i (Nat.le_refl _) fP;obtain⟨A,cA,hv,hA⟩:=zBo fE;have fF:=gD.out i fP;obtain⟨n,hn⟩:∃ n,n=nl i:=⟨_,rfl⟩;have fC:=hid hn;rw [←hn] at hv fE fF fM;have fG:=hid hv;have gI:=hQ.lall i fP;rw [hv,←hn] at gI;rw [hv] at fE
                have k0:wr.cell? ⟨p,i,none⟩=some (.slice A n cA):=by rw [←hv,hQ.par.cell];exact zBG lv m i fP
                have gJ:Hid (∀ k',k'<n→xs0[k' * 5+1]? = some (kv i)):=fM;have fS:=hid gI;clear hn hv hA fM gI;go_wp2;obtain⟨wo,rfl⟩:∃ wo:World,wo=wr:=⟨_,rfl⟩
                go_loopw [16,17] (fun v i' wr=>∃ (k:Nat) (xs:List Value),k≤12∧i'=.int .i64 k∧wr.ownsRow B 75 5 v (n+k) xs∧Hid (∀ k',k'<n+k→xs[k' * 5+1]? = some (kv i))∧Hid (All wr (.slice A n cA) n 5 1 (kv i))∧Grows wo (.slice A n cA) wr v) (fun _ i' _=>12-(intOf i').toNat)
                case atStart=>exact⟨0,xs0,Nat.zero_le _,rfl,fE,gJ,fS,Grows.refl _ _⟩
                case round =>
                 obtain⟨k,xs,hk,rfl,fA,fH,fY,fN⟩:=hrel;clear fE fS;have lN:=fN.chg.size;by_cases lY:k<12
                 · clear k0
                   go_wp2_with (first
                    | (at_builtin;refine zES _ rfl (.tmp 134) (.tmp 138) _ _ rfl B 75 iN _ 5 72 Tryz.underlying31 jT jU jV jW rfl _ (n+k) xs rfl (fA.alloc _) 1 [.string ⟨#[]⟩,.int .i64 (-1-(i:Int)),.int .i64 0,.string ⟨#[]⟩,.slice none 0 0] (src_node wr Tryz.underlying31 ⟨⟨#[]⟩,-1-(i:Int),0,⟨#[]⟩,none,0,[]⟩ _) (by unfold maxLen;omega) (by omega) (by simp;omega) ?_;intro v' w1 fQ fJ fD))
                   have gY:Hid (∀ k',k'<n+(k+1)→(xs++[.string ⟨#[]⟩,.int .i64 (-1-(i:Int)),.int .i64 0,.string ⟨#[]⟩,.slice none 0 0])[k' * 5+1]? = some (kv i)):=snoc_all5 fH.out fA.1;obtain⟨gZ,jR⟩:=zIG (xs:=xs++[.string ⟨#[]⟩,.int .i64 (-1-(i:Int)),.int .i64 0,.string ⟨#[]⟩,.slice none 0 0]) (u:=kv i) (off:=1) (n:=n) fN fY.out ((Below.refl _ _).alloc (Nat.le_refl _) _) fQ (fun k' lP=>gY.out k' (by omega)) fJ fD;have gK:=hid gZ;clear gZ fN fJ fD fA fH fY;go_wp2;go_roundw
                   case rel=>exact⟨k+1,_,by omega,by go_num,fQ,gY,gK,jR⟩
                   case measure=>simp [intOf];omega
                 · obtain rfl:k=12:=by omega
                   have fU:=hQ.more1 (v:=u16) (w1:=wr) fB.out kV fP (by rw [fG.out];exact fN);obtain⟨Av,cv,jS,_⟩:=zBo fA;subst jS;clear k0
                   go_wp2_with (first
                    | (at_builtin;refine zAk _ rfl (.tmp 140) (.tmp 142) _ _ rfl w5.heap.size 31 i4 _ 1 24 Tryz.underlying38 lS lT lU lV rfl u14 i _ rfl (fU.alloc _) 1 [.slice Av (n+12) cv] (zBH wr Tryz.underlying38 _ _ rfl) (by unfold maxLen;omega) (by omega) (by simp;omega) ?_;intro v' w1 fQ fJ fD))
                   have lZ:=hQ.step fB.out kU.out kV lX fP (by rw [←fC.out];exact fA) (by rw [←fC.out];exact fH.out) (by rw [fG.out,←fC.out];exact fY.out) (by rw [fG.out];exact fN) ((Below.refl _ _).alloc (Nat.le_refl _) _) fQ fJ fD;have fO:Chg (OwB w.heap.size m N lv dv) wo w1:=((fN.chg.mono (U:=OwB w.heap.size m N lv dv) fun b _ e=>.inr (.inl ⟨i,fP,by rw [fG.out];exact e⟩)).alloc _).grown fJ (fun b e _=>.inr (.inr (by have:=(fU.lt b e).1;omega)));have fX:=kY.trans fO (fun _ _ h=>h) (fun _ _ h=>h);have lR:=fO.size;clear hQ fN fA fH fY fU fQ fJ fD fO;go_wp2;go_roundw
                   case rel=>exact⟨i+1,_,by omega,by go_num,lZ,fX,by omega⟩
                   case measure=>simp [intOf];omega
              · obtain rfl:m=i:=by omega
                obtain⟨A10,c10,fT,kZ⟩:=zBo hQ.grow;subst fT;obtain⟨A14,c14,fU,lA⟩:=zBo hQ.more;subst fU;have jX:=hid kZ;have jY:=hid lA;have gB:=hid hQ;clear kZ lA hQ;go_wp2
                go_loop [18] (fun i=>∃ j:Nat,j≤N∧i=.int .i64 j) (fun i=>N-(intOf i).toNat)
                case atStart=>exact⟨0,Nat.zero_le _,rfl⟩
                case round =>
                 obtain⟨i,mF,rfl⟩:=hrel;by_cases gR:i<N
                 · obtain⟨g3,e3⟩:=jL.out (by omega);subst e3;obtain⟨g10,e10⟩:=jX.out (by omega);subst e10;have fF:=jK.out i gR;obtain⟨⟨Ag,cg,gM,jA⟩,fI⟩:=gB.out.gall i gR;obtain⟨gg,eg⟩:=jA (by omega);subst eg;obtain⟨n,hn⟩:∃ n,n=dl i:=⟨_,rfl⟩
                   have k1:wr.cell? ⟨g10,i,none⟩=some (.slice (some ⟨gg,0,none⟩) (n+24) cg):=by rw [hn,←gM];exact zBi gB.out.grow rfl (zBG gv N i gR)
                   obtain⟨A,cA,hv,hA⟩:=gE.out i gR
                   have k2:wr.cell? ⟨g3,i,none⟩=some (.slice A n cA):=by rw [hn,←hv];exact zBi gB.out.dat rfl (zBG dv N i gR)
                   have gG:=hid hA
                   have jZ:Hid (∀ k,k<n+24→wr.cell? ⟨gg,k,none⟩=some (.int .u8 ((i:Int) % 251))):=fun k hk=>by
                    have:=fI gg (by rw [gM];rfl) k (by omega);rw [Nat.mul_one,Nat.add_zero] at this;exact this
                   have kA:Hid (∀ g,A=some ⟨g,0,none⟩→∀ k,k<n→wr.cell? ⟨g,k,none⟩=some (.int .u8 ((i:Int) % 251))):=fun g e k hk=>by
                    have:=gB.out.dall i gR g (by rw [hv,e];rfl) k (by omega);rw [Nat.mul_one,Nat.add_zero] at this;exact this
                   have fC:=hid hn;rw [←hn] at fF;clear jA fI gM hv hA hn;go_wp2
                   go_loop [19] (fun i=>∃ k:Nat,k≤n+24∧i=.int .i64 k) (fun i=>n+24-(intOf i).toNat)
                   case atStart=>exact⟨0,Nat.zero_le _,rfl⟩
                   case round =>
                    obtain⟨k,mA,rfl⟩:=hrel;by_cases kC:k<n+24
                    · have c1:=jZ.out k kC;by_cases kD:k<n
                      · obtain⟨g,eA⟩:=gG.out (by have:=fC.out;omega);subst eA;have c2:=kA.out g rfl k kD;go_wp2;go_round
                        case rel=>exact⟨k+1,by omega,by go_num⟩
                        case measure=>simp [intOf];omega
                      · go_wp2;go_round
                        case rel=>exact⟨k+1,by omega,by go_num⟩
                        case measure=>simp [intOf];omega
                    · obtain rfl:n+24=k:=by omega
                      go_wp2;go_round
                      case rel=>exact⟨i+1,by omega,by go_num⟩
                      case measure=>simp [intOf];omega
                 · obtain rfl:N=i:=by omega
                   go_wp2
                   go_loop [20] (fun i=>∃ j:Nat,j≤m∧i=.int .i64 j) (fun i=>m-(intOf i).toNat)
                   case atStart=>exact⟨0,Nat.zero_le _,rfl⟩
                   case round =>
                    obtain⟨i,mG,rfl⟩:=hrel;by_cases gS:i<m
                    · obtain⟨g14,e14⟩:=jY.out (by omega);subst e14;have fF:=gD.out i gS;obtain⟨⟨Ag,cg,gM,jA⟩,fI⟩:=gB.out.mall i gS;obtain⟨gg,eg⟩:=jA (by omega);subst eg;obtain⟨n,hn⟩:∃ n,n=nl i:=⟨_,rfl⟩
                      have k1:wr.cell? ⟨g14,i,none⟩=some (.slice (some ⟨gg,0,none⟩) (n+12) cg):=by rw [hn,←gM];exact zBi gB.out.more rfl (zBG mv m i gS)
                      obtain⟨A,cA,hv,hA⟩:=gF.out i gS
                      have k2:wr.cell? ⟨p,i,none⟩=some (.slice A n cA):=by rw [hn,←hv,gB.out.par.cell];exact zBG lv m i gS
                      have gG:=hid hA;have jZ:Hid (∀ k,k<n+12→wr.cell? ⟨gg,k * 5+1,none⟩=some (.int .i64 (-1-(i:Int)))):=fun k hk=>fI gg (by rw [gM];rfl) k (by omega);have kA:Hid (∀ g,A=some ⟨g,0,none⟩→∀ k,k<n→wr.cell? ⟨g,k * 5+1,none⟩=some (.int .i64 (-1-(i:Int)))):=fun g e k hk=>gB.out.lall i gS g (by rw [hv,e];rfl) k (by omega);have fC:=hid hn;rw [←hn] at fF;clear jA fI gM hv hA hn;go_wp2
                      go_loop [21] (fun i=>∃ k:Nat,k≤n+12∧i=.int .i64 k) (fun i=>n+12-(intOf i).toNat)
                      case atStart=>exact⟨0,Nat.zero_le _,rfl⟩
                      case round =>
                       obtain⟨k,mA,rfl⟩:=hrel;by_cases kC:k<n+12
                       · have c1:=jZ.out k kC;by_cases kD:k<n
                         · obtain⟨g,eA⟩:=gG.out (by have:=fC.out;omega);subst eA;have c2:=kA.out g rfl k kD;go_wp2;go_round
                           case rel=>exact⟨k+1,by omega,by go_num⟩
                           case measure=>simp [intOf];omega
                         · go_wp2;go_round
                           case rel=>exact⟨k+1,by omega,by go_num⟩
                           case measure=>simp [intOf];omega
                       · obtain rfl:n+12=k:=by omega
                         go_wp2;go_round
                         case rel=>exact⟨i+1,by omega,by go_num⟩
                         case measure=>simp [intOf];omega
                    · obtain rfl:m=i:=by omega
                      go_wp2;go_ret;exact⟨rfl,kY.mono lE.out⟩
end Go.Proofs.YtolpcfhfcdkokaaGreatDoor
