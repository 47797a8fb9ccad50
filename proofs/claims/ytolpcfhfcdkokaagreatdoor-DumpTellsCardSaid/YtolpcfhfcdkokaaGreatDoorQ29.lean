/- Joined out of SWalk..SCon. -/
import Derived.Test.YtolpcfhfcdkokaaGreatDoorQ26
import Derived.Test.YtolpcfhfcdkokaaGreatDoorQ28
set_option maxHeartbeats 16000000
set_option maxRecDepth 100000
namespace Go.Proofs.YtolpcfhfcdkokaaGreatDoor
open Lib (hid)
open Go.RowKit
structure RefAt (w:World) (t:Tr) (T:PT):Prop where
 tr:TrAt w w.heap.size t
 rep:RepT t T
theorem RefAt.fresh {w w':World} {t:Tr} {T:PT} (h:RefAt w t T) (hb:Below w.heap.size w w'):RefAt w' t T:=⟨(h.tr.below hb).more hb.size,h.rep⟩
theorem RefAt.len {w:World} {t:Tr} {T:PT} (h:RefAt w t T) (ho:T.Ok):t.l.length≤512:=by rw [h.rep.all.len];exact ho.len
theorem zE0 {w:World} {t:Tr} {T:PT} (h:RefAt w t T) (ho:T.Ok) {i:Nat} {n:PN} (hg:zAd i T.nodes=some n) :
 ∃ x∈t.l,RepN x i n∧HdAt w w.heap.size x∧∀ W,Below w.heap.size w W→Calls Tryz.prog 81 #[trV t,.int .i64 (i:Int)] W fun e w'=>e=.returned (hdV x)∧Below W.heap.size W w':=by
 obtain⟨x,hx,hr⟩:=h.rep.all.get hg;refine⟨x,hx,hr,h.tr.hds x hx,fun W hW=>?_⟩;have h1:=h.fresh hW;have:=inode_any W.heap.size t x W h1.tr (Nat.le_refl _) (by have:=h.len ho;omega) h.rep.cap hx (h.rep.all.uniq ho.ris hx);rw [hr.ino] at this;exact this
theorem zBx (w:World) (x:Hd):Blk ((w.alloc (.cells z8.toArray 123)).setRow w.heap.size (zAb x).toArray) w.heap.size 123 (zAb x) ∧
 Below w.heap.size w ((w.alloc (.cells z8.toArray 123)).setRow w.heap.size (zAb x).toArray):=by
 refine⟨setRow_heap _ w.heap.size _ _ _ _ (Blk.new w 123 z8),?_⟩;exact (((Chg.refl (fun b=>w.heap.size≤b) w).alloc _).setRow (fun _=>Nat.le_refl _) _).below (Nat.le_refl _) fun b hb h=>by omega
theorem zGT {x:Hd} {i:Nat} {n:PN} (h:RepN x i n):x.kind=2∧n.dir=true∨x.kind=1∧n.dir=false:=by
 have:=h.kind;unfold PN.kind at this
 cases hd:n.dir with
 | true=>rw [hd] at this;exact .inl ⟨this,rfl⟩
 | false=>rw [hd] at this;exact .inr ⟨this,rfl⟩
theorem FindP.uni {n:PN} {nm:ByteArray} {w w':World} {e:Ending} (h:FindP n nm w e w'):∃ kk ii:Int,e=.returned (.tuple #[.int .i64 kk,.int .i64 ii]) ∧
 Hid ((∃ i k:Nat,zAd nm n.names=some i∧zAj nm n.slots=some k∧kk=(k:Int)∧ii=(i:Int))∨(zAd nm n.names=none∧kk=-1∧ii=0))∧Below w.heap.size w w':=by
 rcases h.1 with ⟨i,k,h1,h2,rfl⟩ | ⟨h1,rfl⟩
 · exact⟨_,_,rfl,hid (.inl ⟨i,k,h1,h2,rfl,rfl⟩),h.2⟩
 · exact⟨_,_,rfl,hid (.inr ⟨h1,rfl,rfl⟩),h.2⟩
theorem zED (t:Tr) (T:PT) (A:Option Addr) (c:Nat) (l:List ByteArray) (w:World) (h:RefAt w t T) (hT:T.Wf) (hl:NmAt w w.heap.size A c l) (gB:∀ x∈l,x≠emp) :
 Calls Tryz.prog 80 #[trV t,.slice A l.length c] w fun e w'=>e=.returned (.tuple #[.int .i64 ((T.walk l 1).1:Int),.int .i64 ((T.walk l 1).2:Int)])∧Below w.heap.size w w':=by
 obtain⟨len,fG⟩:∃ len,len=l.length:=⟨_,rfl⟩;have fH:=hid fG;have gO:=hl.len;obtain⟨r,hr⟩:∃ r,T.walk l 1=r:=⟨_,rfl⟩;rw [←fG] at gO;rw [hr,←fG];have fT:=hid hr;have fQ:=hid hT;have gP:=hid hl;have gQ:=hid gB;have gR:=hid h;have gS:Below w.heap.size w (w.alloc (.cells (zAa t).toArray 28)):=(Below.refl _ _).alloc (Nat.le_refl _) _;have gC:=Blk.new w 28 (zAa t);clear fG hr hT hl gB h;unfold trV;go_enter Tryz.func80,Tryz.ntmps80;go_upto_region 1 with (fail);change Code.wp _ _ _ _ (w.alloc (.cells (zAa t).toArray 28));generalize w.alloc (.cells (zAa t).toArray 28)=w0 at *;obtain⟨g,fR⟩:∃ g,w.heap.size=g:=⟨_,rfl⟩;rw [fR] at gC;simp only [fR];have jA:=hid fR;clear fR;go_wp2
 go_loopw [6,7] (fun ci ck wr=>∃ (k i:Nat),k≤len∧ck=.int .i64 (k:Int)∧ci=.int .i64 (i:Int)∧Hid (T.walk (l.drop k) i=r)∧Hid (∃ n,zAd i T.nodes=some n)∧Hid (Below w.heap.size w wr)∧Hid (Blk wr g 28 (zAa t))) (fun _ ck _=>len-(intOf ck).toNat)
 case atStart=>exact⟨0,1,Nat.zero_le _,rfl,rfl,fT.out,hid (let ⟨n,h,_⟩:=fQ.out.root;⟨n,h⟩),gS,gC⟩
 case round =>
  obtain⟨k,i,hk,rfl,rfl,fS,gD,fM,fU⟩:=hrel;by_cases gT:k<len
  · have t1:decide ((k:Int)<(len:Int))=true:=by simpa using gT
    have fK:k<l.length:=by have:=fH.out;omega
    obtain⟨n,hn⟩:=gD.out;obtain⟨x,gU,fI,fN,gE⟩:=zE0 (gR.out.fresh fM.out) fQ.out.ok hn;have hX:=fU.out;obtain⟨b,off,rfl,gF,gG⟩:=gP.out.sees.at_ (by omega);have cn:w.cell? ⟨b,off+k,none⟩=some (.string l[k]):=gG k _ (by simp [strs,fK]);have gV:=gQ.out _ (List.getElem_mem fK);have gH:Hid (l.drop k=l[k]::l.drop (k+1)):=hid (List.drop_eq_getElem_cons fK);have fO:=(fQ.out.ok.get hn).1;have fL:=gE wr (Below.refl _ _);have fV:=hid (And.intro fI fN);have fW:=hid hn;generalize l[k]=nm at *;unfold trV hdV at fL;clear gG gU gE fI fN hn
    go_upto_region 6 with (first
     | (refine wpList_load_row rfl 28 (.tmp 2) rfl g rfl 28 (zAa t).toArray _ _ hX Tryz.underlying28 rfl rfl ?_)
     | (go_at_call 81;refine fL.mono ?_;rintro e w1 ⟨rfl,fX⟩;have gI:=Blk.new w1 123 z8)
     | (refine wpList_store_row rfl 123 (.tmp 8) (.tmp 19) rfl w1.heap.size (zAb x).toArray rfl (by rfl) 123 _ gI rfl rfl (zHl x) ?_))
    obtain⟨fF,gJ⟩:=zBx w1 x;have fD:=fX.trans (gJ.mono fX.size);have fP:=hid (fM.out.trans (fD.mono fM.out.size));have gW:=hid (fU.out.fresh fD);have fI:=fV.out.1;have fN:=hid ((fV.out.2.below fD).more fD.size);change Code.wp _ _ _ _ ((w1.alloc (.cells z8.toArray 123)).setRow w1.heap.size (zAb x).toArray);clear gJ fL hX fM fU fD gI fV gD fX;generalize (w1.alloc (.cells z8.toArray 123)).setRow w1.heap.size (zAb x).toArray=w2 at *;generalize w1.heap.size=z at *;have x1:=fF.cell 1;simp only [zAb,List.getElem?_cons_succ,List.getElem?_cons_zero] at x1;have cn2:=(fP.out.cell (p:=⟨b,off+k,none⟩) gF).trans cn;have fC:Hid (T.walk (nm::l.drop (k+1)) i=r):=hid (by rw [←gH.out];exact fS.out);clear fS gH cn;rcases zGT fI with ⟨hk2,hd⟩ | ⟨hk2,hd⟩
    · rw [hk2] at x1;have fY:=hid fun (W:World) (hW:Below w2.heap.size w2 W)=>(zI1 W.heap.size x (zAw n) nm W ((fN.out.below hW).more hW.size) (fI.dir fO hd) (Nat.le_refl _) (by rw [fI.rng fO hd,List.length_range];have:=fO.slots;omega)).mono fun _ _ h=>zI7 fI fO hd gV h;have y0:=fF.cell 0;have y2:=fF.cell 2;have y3:=fF.cell 3;have y4:=fF.cell 4;have y5:=fF.cell 5;have y6:=fF.cell 6;have y7:=fF.cell 7;simp only [zAb,List.getElem?_cons_succ,List.getElem?_cons_zero] at y0 y2 y3 y4 y5 y6 y7
      have gK:hdV x=.agg #[.int .i64 x.ino,.int .i64 2,.int .i64 x.links,.int .i64 x.size,.int .i64 x.made,.int .i64 x.birth,.slice x.iA x.idx.length x.ic,.slice x.dA x.dat.length x.dc]:=by unfold hdV zAb;rw [hk2]
      rw [gK] at fY
      have fB:Hid ((match zAd nm n.names with | none=>(0,110) | some j=>T.walk (l.drop (k+1)) j)=r):=hid (by
       have:=fC.out;rw [PT.walk,fW.out] at this;simp only at this;rw [if_neg (by rw [hd];simp)] at this;exact this)
      have fJ:=fF.lt;have gX:b<w2.heap.size:=Nat.lt_of_lt_of_le gF fP.out.size;clear fI fF fN gK fC fO;go_upto_region 8 with (fail)
      go_region_held3 (fun w'=>w'.cell? ⟨z,0,none⟩=some (.int .i64 x.ino)∧w'.cell? ⟨z,1,none⟩=some (.int .i64 2)∧w'.cell? ⟨z,2,none⟩=some (.int .i64 x.links)∧w'.cell? ⟨z,3,none⟩=some (.int .i64 x.size)∧w'.cell? ⟨z,4,none⟩=some (.int .i64 x.made)∧w'.cell? ⟨z,5,none⟩=some (.int .i64 x.birth)∧w'.cell? ⟨z,6,none⟩=some (.slice x.iA x.idx.length x.ic)∧w'.cell? ⟨z,7,none⟩=some (.slice x.dA x.dat.length x.dc)∧w'.cell? ⟨b,off+k,none⟩=some (.string nm))
       (first | go_keep)
       (first | (go_at_call 110;refine (fY.out _ (zAf (Below.refl _ w2) 1)).mono ?_;intro e w3 gL;obtain⟨kk,ii,rfl,fZ,gM⟩:=gL.uni;clear gL;have fA:Below w2.heap.size w2 w3:=(zAf (Below.refl _ w2) 1).trans gM;have q0:=(fA.cell (p:=⟨z,0,none⟩) fJ).trans y0;have q1:=(fA.cell (p:=⟨z,1,none⟩) fJ).trans x1;have q2:=(fA.cell (p:=⟨z,2,none⟩) fJ).trans y2;have q3:=(fA.cell (p:=⟨z,3,none⟩) fJ).trans y3;have q4:=(fA.cell (p:=⟨z,4,none⟩) fJ).trans y4;have q5:=(fA.cell (p:=⟨z,5,none⟩) fJ).trans y5;have q6:=(fA.cell (p:=⟨z,6,none⟩) fJ).trans y6;have q7:=(fA.cell (p:=⟨z,7,none⟩) fJ).trans y7;have q8:=(fA.cell (p:=⟨b,off+k,none⟩) gX).trans cn2))
      clear q0 q1 q2 q3 q4 q5 q6 q7 q8 y0 x1 y2 y3 y4 y5 y6 y7;have gY:=hid (gW.out.fresh fA);have gN:=hid (fP.out.trans (fA.mono fP.out.size));clear gM fA fY;rcases fZ.out with ⟨j,kj,h1,h2,rfl,rfl⟩ | ⟨h1,rfl,rfl⟩
      · have gZ:=hid (fQ.out.ents i n nm j fW.out h1);have gA:Hid (T.walk (l.drop (k+1)) j=r):=hid (by have:=fB.out;rw [h1] at this;exact this);clear h1 h2 fZ fB;go_wp2;go_roundw
        case rel=>exact⟨k+1,j,by omega,by go_num,rfl,gA,gZ,gN,gY⟩
        case measure=>simp [intOf];omega
      · have fE:Hid (r=(0,110)):=hid (by have:=fB.out;rw [h1] at this;exact this.symm);clear h1 fZ fB;go_wp2
        go_ret2
        exact⟨by rw [fE.out];rfl,gN.out⟩
    · rw [hk2] at x1
      have fE:Hid (r=(0,113)):=hid (by
       have:=fC.out;rw [PT.walk,fW.out] at this;simp only at this;rw [if_pos hd] at this;exact this.symm)
      clear fC fT;go_wp2
      go_ret2
      exact⟨by rw [fE.out];rfl,fP.out⟩
  · obtain rfl:k=len:=by omega
    have t1:decide ((k:Int)<(k:Int))=false:=by simp
    have fE:Hid (r=(i,0)):=hid (by
     have:=fS.out;rw [List.drop_eq_nil_of_le (by have:=fH.out;omega)] at this;exact this.symm)
    clear fS fT;go_wp2
    go_ret2
    exact⟨by rw [fE.out];rfl,fM.out⟩
theorem slice_hs (W:World) (b off n c m:Nat) (h1:m≤c) (h2:0<c):(Instr.sliceAt 108 (.slice (some ⟨b,off,none⟩) n c) none (some (.int .i64 (m:Int))) none).run Tryz.prog W=.ok (.slice (some ⟨b,off,none⟩) m c) W:=by
 have hu:Tryz.prog.underlying 108=some (.slice (Tryz.prog.elem 108)):=by kernel_rfl
 have hs:(sizeOf (Tryz.prog.elem 108)).run Tryz.prog W=.ok 1 W:=by kernel_rfl
 rw [run_sliceAt_slice W 108 _ _ _ _ hu,run_slice_h W 108 (some ⟨b,off,none⟩) n c hu .i64 m (by omega) (by omega),hs]
 have fA:¬c=0:=by omega
 simp [Result.andThen,sliced,fA,Addr.add_lit]
def zJy (T:PT) (l:List ByteArray):Value:=if (T.last l).2=0 then .tuple #[.int .i64 ((T.last l).1:Int),.string (zAL l),.int .i64 0] else .tuple #[.int .i64 0,.string ⟨#[]⟩,.int .i64 ((T.last l).2:Int)]
theorem zC4 (t:Tr) (T:PT) (A:Option Addr) (c:Nat) (l:List ByteArray) (w:World) (h:RefAt w t T) (hT:T.Wf) (hl:NmAt w w.heap.size A c l) (fX:∀ x∈l,x≠emp) :
 Calls Tryz.prog 109 #[trV t,.slice A l.length c] w fun e w'=>e=.returned (zJy T l)∧Below w.heap.size w w':=by
 have fL:Below w.heap.size w (w.alloc (.cells (zAa t).toArray 28)):=(Below.refl _ _).alloc (Nat.le_refl _) _;have fI:=Blk.new w 28 (zAa t);obtain⟨V,hV⟩:∃ V,zJy T l=V:=⟨_,rfl⟩;rw [hV];have fR:=hid hV;clear hV;unfold trV;go_enter Tryz.func109,Tryz.ntmps109;by_cases fG:l=[]
 · have fC:Hid (V=.tuple #[.int .i64 0,.string ⟨#[]⟩,.int .i64 143]):=hid (by rw [←fR.out,fG];rfl);subst fG;simp only [List.length_nil];clear fR fI;go_wp2
   go_ret3
   exact⟨by rw [fC.out];rfl,fL⟩
 · have fM:0<l.length:=List.length_pos_iff.2 fG;obtain⟨b,off,hA,gD,fK⟩:=hl.sees.at_ fM
   have fH:l.length-1<l.length:=by omega
   have cl:=fK (l.length-1) _ (zCC l _ fH)
   have fY:l[l.length-1]=zAL l:=by
    unfold zAL;rw [List.getLastD_eq_getLast?,List.getLast?_eq_getElem?,List.getElem?_eq_getElem fH];rfl
   rw [fY] at cl;have fS:l.dropLast.length=l.length-1:=List.length_dropLast;have fZ:=hl.cap
   have fN:NmAt w w.heap.size A c l.dropLast:=by
    have h9:=hl.sees.take (k:=l.length-1) (by omega)
    have e:(strs l).take ((l.length-1) * 1)=strs l.dropLast:=by rw [Nat.mul_one,List.dropLast_eq_take];simp [strs,List.map_take]
    rw [e] at h9;exact⟨by rw [fS];exact h9,by rw [fS];have:=hl.len;omega,by omega,fun x hx=>hl.small x (List.dropLast_subset l hx)⟩
   have fA:=hid fun (W:World) (hW:Below w.heap.size w W)=>zED t T A c l.dropLast W (h.fresh hW) hT ⟨(fN.sees.below hW).more hW.size,fN.len,fN.cap,fN.small⟩ (fun x hx=>fX x (List.dropLast_subset l hx));subst hA
   have fO:T.last l=(if (T.walk l.dropLast 1).2=0∧T.isDir (T.walk l.dropLast 1).1=false then ((T.walk l.dropLast 1).1,113) else T.walk l.dropLast 1):=by unfold PT.last;rw [if_neg fG]
   have fP:=zB0 hT l.dropLast 1 (let ⟨n,h,_⟩:=hT.root;⟨n,h⟩);have fT:V=if (T.last l).2=0 then .tuple #[.int .i64 ((T.last l).1:Int),.string (zAL l),.int .i64 0] else .tuple #[.int .i64 0,.string ⟨#[]⟩,.int .i64 ((T.last l).2:Int)]:=fR.out.symm;rw [fO] at fT;generalize T.walk l.dropLast 1=r at *;obtain⟨i,e⟩:=r;simp only at fT fP;unfold trV at fA;rw [fS] at fA;have fE:=hid fT;have gE:=hid h;have gF:=hid hT;have gG:l.length≤c:=fZ;have gH:=hl.len;clear fO fT fN fS fY fK hl fX h hT fZ fR;generalize zAL l=nm at *;obtain⟨m,hm⟩:∃ m,l.length=m+1:=⟨l.length-1,by omega⟩;rw [hm] at fM fH cl fA gG gH ⊢;simp only [Nat.add_sub_cancel] at cl fA;clear hm fG
   have gN:(((m+1:Nat):Int)==0)=false:=by simp;omega
   have gI:=fun (W:World)=>slice_hs W b off (m+1) c m (by omega) (by omega);go_upto_region 3 with (fail);change Code.wp _ _ _ _ (w.alloc (.cells (zAa t).toArray 28));generalize w.alloc (.cells (zAa t).toArray 28)=w0 at *;obtain⟨g,fU⟩:∃ g,w.heap.size=g:=⟨_,rfl⟩;rw [fU] at fI;simp only [fU];have gO:=hid fU;clear fU;have y0:=fI.cell 0;have y1:=fI.cell 1;have y2:=fI.cell 2;have y3:=fI.cell 3;simp only [List.getElem?_cons_succ,List.getElem?_cons_zero] at y0 y1 y2 y3;have fV:=fI.lt
   have v1:IntKind.i64.wrap (((m+1:Nat):Int)-1)=(m:Int):=by rw [zAF _ (by omega)];omega
   have v2:IntKind.i64.wrap ((m:Int)+1-1)=(m:Int):=by rw [zAF _ (by omega)];omega
   have v3:IntKind.i64.wrap (m:Int)=(m:Int):=zAF _ (by omega)
   go_region_held3 (fun w'=>w'.cell? ⟨g,0,none⟩=some (.int .i64 t.sectors)∧w'.cell? ⟨g,1,none⟩=some (.int .i64 t.inodes)∧w'.cell? ⟨g,2,none⟩=some (.int .i64 t.births)∧w'.cell? ⟨g,3,none⟩=some (.slice t.A t.l.length t.c))
    (first | go_keep)
    (first | (go_at_call 80;refine (fA.out _ (zAf fL 1)).mono ?_;rintro e w3 ⟨rfl,gA⟩;have fD:Below w0.heap.size w0 w3:=(zAf (Below.refl _ w0) 1).trans gA;have q0:=(fD.cell (p:=⟨g,0,none⟩) fV).trans y0;have q1:=(fD.cell (p:=⟨g,1,none⟩) fV).trans y1;have q2:=(fD.cell (p:=⟨g,2,none⟩) fV).trans y2;have q3:=(fD.cell (p:=⟨g,3,none⟩) fV).trans y3))
   have fB:=hid (fL.trans (fD.mono fL.size));have fW:=fI.fresh fD;clear q0 q1 q2 q3 y0 y1 y2 y3 v1 v2 v3 gA fD fA fL fI gI;by_cases he:e=0
   · obtain⟨n,hn⟩:=fP he;subst he;obtain⟨x,gJ,gB,gK,gC⟩:=zE0 (gE.out.fresh fB.out) gF.out.ok hn;have fF:=gC w3 (Below.refl _ _)
     have fJ:T.isDir i=n.dir:=by unfold PT.isDir;rw [hn]
     have fld:∀ (a b c d e f:Int) (A1:Option Addr) (n1 c1:Nat) (A2:Option Addr) (n2 c2:Nat) (W:World),(Instr.field 123 (.agg #[.int .i64 a,.int .i64 b,.int .i64 c,.int .i64 d,.int .i64 e,.int .i64 f,.slice A1 n1 c1,.slice A2 n2 c2]) 1).run Tryz.prog W=.ok (.int .i64 b) W:=fun _ _ _ _ _ _ _ _ _ _ _ _ _=>by kernel_rfl
     have hk:=zGT gB;have gL:((((0:Nat):Int)) != 0)=false:=rfl;unfold trV hdV zAb at fF;clear gJ gB gK gC hn;rcases hk with ⟨hk,hd⟩ | ⟨hk,hd⟩
     · have fC:Hid (V=.tuple #[.int .i64 (i:Int),.string nm,.int .i64 0]):=hid (by
        have:=fE.out;rw [fJ,hd] at this;simpa using this)
       rw [hk] at fF;clear fE fP fJ hk hd
       go_upto_region 8 with (first
        | (refine wpList_load_row rfl 28 (.tmp 2) rfl g rfl 28 (zAa t).toArray _ _ fW Tryz.underlying28 rfl rfl ?_)
        | (go_at_call 81;refine fF.mono ?_;rintro e w4 ⟨rfl,fQ⟩))
       have cl4:=((fB.out.trans (fQ.mono fB.out.size)).cell (p:=⟨b,off+m,none⟩) gD).trans cl;have gM:=hid (fB.out.trans (fQ.mono fB.out.size));clear fQ fW cl fld fF
       go_quiet (fail)
       go_wp2
       go_ret3
       exact⟨by rw [fC.out];rfl,zAf gM.out _⟩
     · have fC:Hid (V=.tuple #[.int .i64 0,.string ⟨#[]⟩,.int .i64 113]):=hid (by
        have:=fE.out;rw [fJ,hd] at this;simpa using this)
       rw [hk] at fF;clear fE fP fJ hk hd
       go_wp2_with (first
        | (refine wpList_load_row rfl 28 (.tmp 2) rfl g rfl 28 (zAa t).toArray _ _ fW Tryz.underlying28 rfl rfl ?_)
        | (go_at_call 81;refine fF.mono ?_;rintro e w4 ⟨rfl,fQ⟩))
       go_ret3
       exact⟨by rw [fC.out];rfl,fB.out.trans (fQ.mono fB.out.size)⟩
   · have gL:((e:Int) != 0)=true:=by simp;omega
     have fC:Hid (V=.tuple #[.int .i64 0,.string ⟨#[]⟩,.int .i64 (e:Int)]):=hid (by
      have:=fE.out;rw [if_neg (fun h:e=0∧_=>he h.1),if_neg he] at this;exact this)
     clear fE fP he;go_wp2
     go_ret3
     exact⟨by rw [fC.out];rfl,fB.out⟩
def zGm (S:Nat→Prop) (n:Nat) (A:Option Addr):Prop:=0<n→∀ a,A=some a→¬S a.block
theorem zGm.newer {S:Nat→Prop} {n m:Nat} {A:Option Addr} (h:zFO m A) (hS:∀ b,S b→b<m):zGm S n A:=fun _ a e hs=>by
 have:=h a e;have:=hS _ hs;omega
structure HdR (S:Nat→Prop) (w:World) (y:Hd) (i:Nat) (n:PN):Prop where
 at_:HdAt w w.heap.size y
 rep:RepN y i n
 oi:zGm S y.idx.length y.iA
 od:zGm S y.dat.length y.dA
structure RefS (S:Nat→Prop) (w:World) (t:Tr) (T:PT):Prop where
 ref:RefAt w t T
 oA:zGm S t.l.length t.A
 os:∀ y∈t.l,zGm S y.idx.length y.iA∧zGm S y.dat.length y.dA
section
variable {S S':Nat→Prop} {w w':World} {y:Hd} {i:Nat} {n:PN} {t:Tr} {T:PT}
theorem zGh {B:Nat} (h:HdAt w B y) (hc:Chg S w w') (hi:zGm S y.idx.length y.iA) (hd:zGm S y.dat.length y.dA):HdAt w' B y :=
 ⟨h.len,h.sec,h.idx.chgR (by decide) hc fun b off e hn=>hi hn _ e,h.dat.chgR (by decide) hc fun b off e hn=>hd hn _ e⟩
theorem HdR.fresh (h:HdR S w y i n) (hb:Below w.heap.size w w'):HdR S w' y i n:=⟨(h.at_.below hb).more hb.size,h.rep,h.oi,h.od⟩
theorem HdR.chg (h:HdR S w y i n) (hc:Chg S w w'):HdR S w' y i n:=⟨(zGh h.at_ hc h.oi h.od).more hc.size,h.rep,h.oi,h.od⟩
theorem zGm.mono {m:Nat} {A:Option Addr} (h:zGm S m A) (hS:∀ b,S' b→S b):zGm S' m A:=fun hn a e hs=>h hn a e (hS _ hs)
theorem HdR.mono (h:HdR S w y i n) (hS:∀ b,S' b→S b):HdR S' w y i n:=⟨h.at_,h.rep,h.oi.mono hS,h.od.mono hS⟩
theorem zDI {B size m:Nat} {A:Option Addr} {xs:List Value} (h:Sees w B size A m xs) (ho:zGm S m A):zGm (fun b=>S b∨B≤b) m A:=fun hn a e hs=>by
 obtain⟨b,off,e',hb,_⟩:=h.at_ hn;rw [e] at e';injection e' with e';subst e';rcases hs with hs | hs
 · exact ho hn _ e hs
 · exact absurd hb (Nat.not_lt.2 hs)
theorem HdR.own (h:HdR S w y i n):HdR (fun b=>S b∨w.heap.size≤b) w y i n:=⟨h.at_,h.rep,zDI h.at_.idx h.oi,zDI h.at_.dat h.od⟩
theorem RefS.fresh (h:RefS S w t T) (hb:Below w.heap.size w w'):RefS S w' t T:=⟨h.ref.fresh hb,h.oA,h.os⟩
theorem RefS.chg (h:RefS S w t T) (hc:Chg S w w'):RefS S w' t T :=
 ⟨⟨⟨(h.ref.tr.row.chgR (by decide) hc fun b off e hn=>h.oA hn _ e).more hc.size,fun y hy=>(zGh (h.ref.tr.hds y hy) hc (h.os y hy).1 (h.os y hy).2).more hc.size⟩,h.ref.rep⟩,h.oA,h.os⟩
theorem RefS.mono (h:RefS S w t T) (hS:∀ b,S' b→S b):RefS S' w t T:=⟨h.ref,h.oA.mono hS,fun y hy=>⟨(h.os y hy).1.mono hS,(h.os y hy).2.mono hS⟩⟩
theorem RefS.own (h:RefS S w t T):RefS (fun b=>S b∨w.heap.size≤b) w t T :=
 ⟨h.ref,zDI h.ref.tr.row h.oA,fun y hy=>⟨zDI (h.ref.tr.hds y hy).idx (h.os y hy).1,zDI (h.ref.tr.hds y hy).dat (h.os y hy).2⟩⟩
end
def zAM (S:Nat→Prop) (g k:Nat):Nat→Prop:=fun b=>S b∨(g≤b∧b<g+k)
section
variable {S:Nat→Prop} {w w1:World} {y:Hd} {i g k:Nat} {n:PN} {t:Tr} {T:PT}
theorem HdR.addR (h:HdR S w y i n) (k:Nat) (hg:w.heap.size≤g):HdR (zAM S g k) w y i n:=h.own.mono fun b hb=>by
 rcases hb with hb | hb
 · exact .inl hb
 · exact .inr (by omega)
theorem RefS.addR (h:RefS S w t T) (k:Nat) (hg:w.heap.size≤g):RefS (zAM S g k) w t T:=h.own.mono fun b hb=>by
 rcases hb with hb | hb
 · exact .inl hb
 · exact .inr (by omega)
theorem zBe {B:Nat} (hS:∀ b,S b→b<B) (hg:g+k≤B):∀ b,zAM S g k b→b<B:=fun b hb=>by
 rcases hb with hb | hb
 · exact hS b hb
 · omega
theorem zCi (h:Blk w g 28 z4) (t:Tr):Blk ((((w.setCell ⟨g,0,none⟩ (.int .i64 t.sectors)).setCell ⟨g,1,none⟩ (.int .i64 t.inodes)).setCell ⟨g,2,none⟩ (.int .i64 t.births)).setCell ⟨g,3,none⟩ (.slice t.A t.l.length t.c)) g 28 (zAa t) ∧
 Chg (fun b=>b=g) w ((((w.setCell ⟨g,0,none⟩ (.int .i64 t.sectors)).setCell ⟨g,1,none⟩ (.int .i64 t.inodes)).setCell ⟨g,2,none⟩ (.int .i64 t.births)).setCell ⟨g,3,none⟩ (.slice t.A t.l.length t.c)) :=
 ⟨(((h.set_ 0 (.int .i64 t.sectors)).set_ 1 (.int .i64 t.inodes)).set_ 2 (.int .i64 t.births)).set_ 3 (.slice t.A t.l.length t.c),
  ((((Chg.refl (fun b=>b=g) w).setCell (p:=⟨g,0,none⟩) (fun _=>rfl) _).setCell (p:=⟨g,1,none⟩) (fun _=>rfl) _).setCell (p:=⟨g,2,none⟩) (fun _=>rfl) _).setCell (p:=⟨g,3,none⟩) (fun _=>rfl) _⟩
end
section
variable {S S1:Nat→Prop} {w w6 W:World} {B ub:Nat} {t:Tr} {T:PT}
theorem zGc {cs:List Value} (fA:Blk W ub 28 cs∧Chg (fun b=>b=ub) w6 W) (ht:RefS (zAM S1 ub 1) w6 t T) (hb:Below B w w6) (hB:B≤ub) (hz:w.heap.size=B):RefS S1 W t T∧Below B w W :=
 ⟨(ht.chg (fA.2.mono (U:=zAM S1 ub 1) fun b _ h=>.inr (by omega))).mono fun _ h=>.inl h,hb.trans (fA.2.below (by have:=hb.size;omega) fun b hb h=>by omega)⟩
theorem ret_chg {r:Nat} (h:RefS S1 w6 t T) (hc:Chg (fun b=>b=r) w6 W) (hr:S1 r) (hS:∀ b,S b→S1 b) (hb:Below B w w6) (hB:B≤r) (hz:w.heap.size=B):RefS S W t T∧Below B w W :=
 ⟨(h.chg (hc.mono (U:=S1) fun b _ e=>e▸hr)).mono hS,hb.trans (hc.below (by have:=hb.size;omega) fun b hb h=>by omega)⟩
theorem zC7 {r:Nat} (cs:Array Value) (h:RefS S1 W t T) (hr:S1 r) (hS:∀ b,S b→S1 b) (hb:Below B w W) (hB:B≤r) (hz:w.heap.size=B):RefS S (W.setRow r cs) t T∧Below B w (W.setRow r cs) :=
 ret_chg h ((Chg.refl (fun b=>b=r) W).setRow (fun _=>rfl) _) hr hS hb hB hz
end
def GivesH (S:Nat→Prop) (i:Nat) (n:PN) (w:World) (e:Ending) (w':World):Prop:=(∃ y,e=.returned (hdV y)∧HdR S w' y i n)∧Below w.heap.size w w'
def zFu (S:Nat→Prop) (T:PT) (w:World) (e:Ending) (w':World):Prop:=(∃ t,e=.returned (trV t)∧RefS S w' t T)∧Below w.heap.size w w'
section
variable {S:Nat→Prop} {w:World} {t:Tr} {T:PT} {x:Hd} {i d:Nat} {n n':PN}
theorem zBC (h:RefS S w t T) (ho:T.Ok) (hg:zAd i T.nodes=some n) :
 ∃ x∈t.l,HdR S w x i n∧∀ W,Below w.heap.size w W→Calls Tryz.prog 81 #[trV t,.int .i64 (i:Int)] W fun e w'=>e=.returned (hdV x)∧Below W.heap.size W w':=by
 obtain⟨x,h1,h2,h3,h4⟩:=zE0 h.ref ho hg;exact⟨x,h1,⟨h3,h2,(h.os x h1).1,(h.os x h1).2⟩,h4⟩
theorem zID (h:HdR S w x d n) (hS:∀ b,S b→b<w.heap.size) (ho:n.Ok) (hd:n.dir=true) {k:Nat} (hk:k≤n.slots.length) (o:Slt) (fA:zGH o) (fB:n'.dir=true) (fC:n'.data=[]) (hl:n'.links=n.links) (hm:n'.made=n.made)
 (hs:zAw n'=zBr k o (zAw n)) (hz:n'.size=128 * n'.slots.length) (fD:SlOk n') :
 Calls Tryz.prog 117 #[hdV x,.int .i64 (k:Int),zGn o] w (GivesH S d n' w):=by
 have fE:k≤1068:=Nat.le_trans hk ho.slots;refine (set_any w.heap.size x k o w h.at_ (Nat.le_refl _) fA (by rw [h.rep.rng ho hd,List.length_range];have:=ho.slots;omega) (by omega)).mono ?_;rintro e w' ⟨⟨iA,ic,dA,dc,rfl,hy,h1,h2⟩,hb⟩;exact⟨⟨_,rfl,hy,set_rep h.rep ho hd hk o iA ic dA dc fB fC hl hm hs hz fD,.newer h1 hS,.newer h2 hS⟩,hb⟩
theorem zIY (h:HdR S w x d n) (hS:∀ b,S b→b<w.heap.size) (ho:n.Ok) (hd:n.dir=true) {k j:Nat} {nm:ByteArray} (hj:zEd j nm) (hk:k≤n.slots.length) (hm:MayAt n k nm) :
 Calls Tryz.prog 117 #[hdV x,.int .i64 (k:Int),zGn (some (j,nm))] w (GivesH S d (n.set k nm j) w):=by
 obtain⟨h1,h2⟩:=slots_set h.rep.sl hj hk hm;exact zID h hS ho hd hk (some (j,nm)) hj hd (ho.dd hd) rfl rfl h1 (h2.size hd) h2
theorem zJV (h:HdR S w x d n) (hS:∀ b,S b→b<w.heap.size) (ho:n.Ok) (hd:n.dir=true) {k:Nat} {nm:ByteArray} (hn:nm≠emp) (hk:zAj nm n.slots=some k) :
 Calls Tryz.prog 117 #[hdV x,.int .i64 (k:Int),zGn none] w (GivesH S d (n.clear nm) w):=by
 obtain⟨h0,h1,h2,h3⟩:=zHK h.rep.sl hn hk;exact zID h hS ho hd (by omega) none trivial hd (ho.dd hd) rfl rfl h1 (h2.size hd) h2
theorem zBv (h:RefS S w t T) (hS:∀ b,S b→b<w.heap.size) (ho:T.Ok) (hx:HdR S w x i n) :
 Calls Tryz.prog 113 #[trV t,hdV x] w (zFu S (T.upd i n) w):=by
 refine (with_any w.heap.size t x w h.ref.tr hx.at_ (Nat.le_refl _) (by have:=h.ref.len ho;omega)).mono ?_;rintro e w' ⟨⟨A,c,hc,rfl,hy,hA⟩,hb⟩;refine⟨⟨_,rfl,⟨hy,h.ref.rep.upd ho hx.rep A c hc _⟩,.newer hA hS,fun y hy=>?_⟩,hb⟩;rcases zEu _ _ _ _ _ hy with rfl | hy
 · exact⟨hx.oi,hx.od⟩
 · exact h.os y hy
theorem zG3 (h:RefS S w t T) (hS:∀ b,S b→b<w.heap.size) (ho:T.Ok) :
 Calls Tryz.prog 135 #[trV t,.int .i64 (i:Int)] w (zFu S (T.del i) w):=by
 refine (zHQ w.heap.size t (i:Int) w h.ref.tr (Nat.le_refl _) (by have:=h.ref.len ho;omega)).mono ?_;rintro e w' ⟨⟨A,c,hc,rfl,hy,hA⟩,hb⟩;exact⟨⟨_,rfl,⟨hy,h.ref.rep.del i A c hc _⟩,.newer hA hS,fun y hy=>h.os y (List.mem_filter.1 hy).1⟩,hb⟩
end
theorem zE1 {w:World} {t:Tr} {T:PT} (h:RefAt w t T) (ho:T.Ok) :
 Calls Tryz.prog 121 #[trV t] w fun e w'=>e=.returned (.bool (decide (T.used+T.inodes+1≤T.sectors)))∧Below w.heap.size w w':=by
 have h1:=ho.sec;have h2:=ho.ino;refine (fits_any w.heap.size t w h.tr (Nat.le_refl _) (h.rep.small ho) (by rw [h.rep.sec];omega) (by rw [h.rep.ino];omega)).mono ?_;rintro e w' ⟨rfl,hb⟩;refine⟨?_,hb⟩
 congr 2
 unfold fitsB;rw [h.rep.used ho,h.rep.sec,h.rep.ino];by_cases e:T.used+T.inodes+1≤T.sectors
 · rw [decide_eq_true e,decide_eq_true (by omega)]
 · rw [decide_eq_false e,decide_eq_false (by omega)]
end Go.Proofs.YtolpcfhfcdkokaaGreatDoor
