/- Joined out of SNew..UTld. -/
import Derived.Test.YtolpcfhfcdkokaaGreatDoorQ43
set_option maxHeartbeats 16000000
set_option maxRecDepth 100000
namespace Go.Proofs.YtolpcfhfcdkokaaGreatDoor
open Lib (hid)
open Go.RowKit
def zEU:Hd:=⟨1,2,1,0,0,0,none,0,[],none,0,[]⟩
def newT (n m g:Nat):Tr:=⟨n,m,0,some ⟨g,0,none⟩,1,[zEU]⟩
theorem new_ref {S:Nat→Prop} {w:World} {g k n m:Nat} (hS:∀ b,zAM S g k b→b<w.heap.size) :
 RefS (zAM S g k) (w.alloc (.cells (zAb zEU).toArray 123)) (newT n m w.heap.size) (PT.new n m):=by
 have hB:=Blk.new w 123 (zAb zEU);refine⟨⟨⟨⟨rfl,fun _=>⟨w.heap.size,0,rfl,by simp,fun j u hu=>?_⟩⟩,fun y hy=>?_⟩,⟨rfl,rfl,?_,Nat.le_refl _⟩⟩,fun _ a e hs=>?_,fun y hy=>?_⟩
 · rw [Nat.zero_add]
   have e:(newT n m w.heap.size).l.flatMap zAb=zAb zEU:=by simp [newT]
   rw [e] at hu;exact (hB.cell j).trans hu
 · obtain rfl:y=zEU:=by simpa [newT] using hy
   exact⟨rfl,fun s h=>(by cases h),Sees.nil,Sees.nil⟩
 · refine .cons (p:=(1,(⟨true,1,0,0,[],[],[]⟩:PN))) ?_ .nil;exact⟨rfl,rfl,rfl,rfl,rfl,rfl,rfl,⟨fun nm h=>(by cases h),List.Pairwise.nil,fun _=>rfl,fun p h=>(by cases h),fun p h=>(by cases h)⟩,fun p h=>(by cases h)⟩
 · have e:a=⟨w.heap.size,0,none⟩:=(Option.some.inj e).symm;subst e;exact absurd (hS _ hs) (Nat.lt_irrefl _)
 · obtain rfl:y=zEU:=by simpa [newT] using hy
   exact⟨fun h=>absurd h (by simp [zEU]),fun h=>absurd h (by simp [zEU])⟩
theorem rnew_any (S:Nat→Prop) (n m:Nat) (w:World) (hS:∀ b,S b→b<w.heap.size) (hn:8≤n∧n≤4096) (hm:1≤m∧m≤512) (fJ:m+2≤n) :
 Calls Tryz.prog 31 #[.int .i64 (n:Int),.int .i64 (m:Int)] w (zHx S (PT.new n m,0) w):=by
 obtain⟨Q,hQ⟩:∃ Q,zHx S (PT.new n m,0) w=Q:=⟨_,rfl⟩;rw [hQ];have fF:=hid hQ;have fA:=Blk.new w 28 z4;have fB:Below w.heap.size w (w.alloc (.cells z4.toArray 28)):=(Below.refl _ _).alloc (Nat.le_refl _) _
 have fC:(w.alloc (.cells z4.toArray 28)).heap.size=w.heap.size+1:=by simp
 have fG:=hid hS;obtain⟨g,hz⟩:∃ g,w.heap.size=g:=⟨_,rfl⟩;rw [hz] at fA fB fC;have t1:decide ((n:Int)<8)=false:=decide_eq_false (by omega);have t2:decide ((n:Int) > 4096)=false:=decide_eq_false (by omega);have t3:decide ((m:Int)<1)=false:=decide_eq_false (by omega);have t4:decide ((m:Int) > 512)=false:=decide_eq_false (by omega);have t5:decide ((m:Int)+2 > (n:Int))=false:=decide_eq_false (by omega);have v1:IntKind.i64.wrap ((m:Int)+2)=(m:Int)+2:=zAF _ (by omega);clear hQ hS;go_enter Tryz.func31,Tryz.ntmps31;go_upto_region 1 with (fail)
 try simp only [hz]
 change Code.wp _ _ _ _ (w.alloc (.cells z4.toArray 28));generalize w.alloc (.cells z4.toArray 28)=w0 at *;have fH:=hid hz;have fD:Blk (w0.alloc (.cells (zAb zEU).toArray 123)) g 28 z4:=fA.alloc _;have fI:Below g w (w0.alloc (.cells (zAb zEU).toArray 123)):=fB.alloc (by omega) _;have fE:=hid (new_ref (S:=S) (w:=w0) (g:=g) (k:=1) (n:=n) (m:=m) (zBe (fun b hb=>by have:=fG.out b hb;omega) (by omega)));rw [fC] at fE;clear hz
 go_wp2_with (first
  | (refine zAq rfl 26 123 (.tmp 29) rfl (zAb zEU).toArray (by rfl) 8 Tryz.underlying26 zCf zEa rfl (by omega) (by omega) ?_)
  | (refine wpList_store_row rfl 28 _ _ rfl g (zAa (newT n m (g+1))).toArray rfl (by rfl) 28 _ fD rfl rfl (zAc _) ?_))
 exact zAB (k:=1) fD fF.out rfl fE.out fI fH.out ⟨Nat.le_refl _,by omega⟩ rfl rfl rfl rfl
open Go.Proofs
theorem zEP (ns:List ByteArray) (nm:ByteArray):(pth (ns++[nm])).size≤(pth ns).size+1+nm.size:=by
 rw [zDG (by simp),zB9]
 have h1:(zCe [nm]).length=1+nm.size:=by
  show (47::(nm.data.toList++[])).length=1+nm.size
  rw [List.length_cons,List.append_nil,Array.length_toList]
  show nm.size+1=_
  omega
 rw [List.length_append,h1];by_cases h:ns=[]
 · subst h;have:(pth []).size=1:=rfl
   simp [zCe]
   try omega
 · rw [zDG h];omega
theorem DmpAt.drew {p:Nat} {w0 wr:World} {v:Value} {l:List Nd} {s:DS} (h:DmpAt p w0 wr v l s):DmpAt p w0 wr.drew v l s:=h.fresh ((Below.refl _ _).drew)
theorem GrD.drew {B:Nat} {w w':World} {v v':Value} (h:GrD B w.drew v w' v'):GrD B w v w' v':=(GrD.fresh v ((Below.refl _ _).drew)).trans h
theorem zEi (T:PT) (s:DS) (x:zFg):(T.step s x).nodes.length=s.nodes.length+1:=by
 unfold PT.step
 split
 · simp
 split<;>simp
theorem zGY (T:PT):∀ (L:List zFg) (s:DS),(L.foldl T.step s).nodes.length=s.nodes.length+L.length
 | [],_=>rfl
 | x::r,s=>by rw [List.foldl_cons,zGY T r,zEi,List.length_cons];omega
theorem zIr {T:PT} {f:Nat} {ns:List ByteArray} {j:Nat} {s:DS} (h:(zE8 T (zAU T f) ns j s).2=0):(zE8 T (zAU T f) ns j s).1.nodes.length=s.nodes.length+(1+if T.isDir j=true then (tl T f ns j).length else 0):=by
 unfold zE8 at h ⊢
 split at h
 · cases h
 rename_i h1;rw [if_neg h1]
 split at h
 · rename_i hd;rw [if_pos hd,if_pos hd,(zFV f ns j _ h).1,zGY,zEi];omega
 · rename_i hd;rw [if_neg hd,if_neg hd,zEi]
def ListI (p B:Nat) (w0 w2:World) (v:Value) (T:PT) (f:Nat) (ns:List ByteArray) (names:List (ByteArray×Nat)) (s:DS) (N:Nat) (e i:Value) (wr:World):Prop :=
 ∃ (k ek:Nat) (s':DS) (v':Value) (l':List Nd),k≤N∧e=.int .i64 (ek:Int)∧i=.int .i64 (k:Int)∧DmpAt p w0 wr v' l' s'∧GrD B w2 v wr v' ∧
  ((ek=0∧zCv T (zAU T f) ns names s=zCv T (zAU T f) ns (names.drop k) s'∧s'.nodes.length+(tlE T (tl T f) ns (names.drop k)).length≤1000000)∨(ek≠0∧zCv T (zAU T f) ns names s=(s',ek)))
section
variable (own:Nat→Option Role) (lay:Nat→NA) (p mb:Nat) (T:PT) (m0:Int) (w0:World) (h0:PlainAt w0 own lay p mb T) (hI:T.Inv) (hm:w0.cell? ⟨0,0,none⟩=some (.int .i64 m0))
include h0 hI hm
theorem zFG (ns:List ByteArray) (s:DS) (v:Value) (l:List Nd) (wr:World) (hD:DmpAt p w0 wr v l s) (fA:400<(pth ns).size) (fL:(pth ns).size≤1000) :
 Calls Tryz.prog 33 #[.pointer (some ⟨w0.heap.size+1,0,none⟩),.string (pth ns)] wr (DmpP p w0 v wr (s,70)):=by
 have fE:wr.cell? ⟨0,0,none⟩=some (.int .i64 m0):=(hD.below.cell (p:=⟨0,0,none⟩) (World.block_lt_of_cell? _ _ hm)).trans hm;have fF:=h0.fresh hD.below;obtain⟨B,fB⟩:∃ B,w0.heap.size=B:=⟨_,rfl⟩;have fC:=hD.wk;rw [fB] at fC ⊢;have fM:=hid fB;have y0:=fC.cell 0;simp only [List.getElem?_cons_zero,ifV] at y0;have fI:=hid hD;have fD:=ask_L own lay p mb T (pth ns) _ m0 wr fF hI.wf (by omega) fE (zGP fA);unfold ifV at fD;obtain⟨x,hx⟩:∃ x,pth ns=x:=⟨_,rfl⟩;rw [hx] at fD ⊢;clear fB hD fC hx fF fE fA;go_enter Tryz.func33,Tryz.ntmps33
 go_upto_region 2 with (first
  | (go_at_call 51;refine fD.mono ?_;rintro e w1 ⟨va,rfl,hA,-,fG⟩;obtain⟨dA,dc,eA,ec,rfl,-,-⟩:=hA;simp only [Ans.err,List.length_nil];have fJ:=Blk.new w1 67 zAs)
  | (refine wpList_store_row rfl 67 (.tmp 5) (.tmp 16) rfl w1.heap.size (zAh 70 st0 (.slice dA 0 dc) (.slice eA 0 ec)).toArray rfl (by rfl) 67 _ fJ rfl rfl (zAv _ _ _ _ _ _ _ _) ?_))
 have fK:Below w1.heap.size w1 ((w1.alloc (.cells zAs.toArray 67)).setRow w1.heap.size (zAh 70 st0 (.slice dA 0 dc) (.slice eA 0 ec)).toArray):=((Chg.refl (fun b=>w1.heap.size≤b) w1).alloc _ |>.setRow (fun _=>Nat.le_refl _) _).below (Nat.le_refl _) fun b hb e=>by omega
 go_wp2
 go_loopw [6,7] (fun e i wr'=>e=.int .i64 70∧i=.int .i64 0∧Hid (Below wr.heap.size wr wr')) (fun _ _ _=>0)
 case atStart=>exact⟨rfl,rfl,hid (fG.trans (fK.mono fG.size))⟩
 case round =>
  obtain⟨rfl,rfl,fH⟩:=hrel;go_wp2;go_ret;exact⟨rfl,v,l,fI.out.fresh fH.out,GrD.fresh v fH.out⟩
theorem dlist_any (f:Nat):∀ (ns:List ByteArray) (i:Nat) (n:PN) (s:DS) (v:Value) (l:List Nd) (wr:World),DmpAt p w0 wr v l s→T.walk ns 1=(i,0)→zAd i T.nodes=some n→n.dir=true→(∀ x∈ns,chk x=true)→(pth ns).size≤1000→202≤ns.length+f→s.nodes.length+(tl T f ns i).length≤1000000 →
 Calls Tryz.prog 33 #[.pointer (some ⟨w0.heap.size+1,0,none⟩),.string (pth ns)] wr (DmpP p w0 v wr (zAU T f ns i s)):=by
 induction f with
 | zero =>
  intro ns i n s v l wr hD hw hg hd hc gQ hf _;have h1:=zIo hc;have h2:=zDG (ns:=ns) (fun e=>by subst e;simp at hf);exact zFG own lay p mb T m0 w0 h0 hI hm ns s v l wr hD (by omega) gQ
 | succ f ih =>
  intro ns i n s v l wr hD hw hg hd hc gQ hf fQ;have hu:zAU T (f+1) ns i s=if 400<(pth ns).size then (s,70) else zCv T (zAU T f) ns (T.node i).names s:=rfl;by_cases fC:400<(pth ns).size
  · rw [hu,if_pos fC];exact zFG own lay p mb T m0 w0 h0 hI hm ns s v l wr hD fC gQ
  rw [hu,if_neg fC,zAp hg]
  have jE:tl T (f+1) ns i=tlE T (tl T f) ns n.names:=by
   show tlE T (tl T f) ns (T.node i).names=_
   rw [zAp hg]
  rw [jE] at fQ;clear hu jE;have jF:wr.cell? ⟨0,0,none⟩=some (.int .i64 m0):=(hD.below.cell (p:=⟨0,0,none⟩) (World.block_lt_of_cell? _ _ hm)).trans hm;have jG:=h0.fresh hD.below
  have jS:(pth ns).size≤400:=by omega
  have fR:T.isDir i=true:=by rw [zAn hg];exact hd
  have gR:=zI3 (T:=T) (zER hc jS) hw fR;obtain⟨es,gD⟩:∃ es,(n.names.map fun p=>(p.1,p.2,(T.node p.2).kind))=es:=⟨_,rfl⟩
  have jH:T.list i=⟨0,st0,[],es⟩:=by unfold PT.list;rw [if_pos fR,zAp hg,gD]
  rw [jH] at gR;have gE:=ask_L own lay p mb T (pth ns) _ m0 wr jG hI.wf (by omega) jF gR;unfold ifV at gE;obtain⟨B,fS⟩:∃ B,w0.heap.size=B:=⟨_,rfl⟩;have gF:=hD.wk;rw [fS] at gF;have y0:=gF.cell 0;simp only [List.getElem?_cons_zero,ifV] at y0
  have hN:es.length=n.names.length:=by rw [←gD,List.length_map]
  have kD:n.names.length≤1068:=by have h1:=(hI.gr.ok.get hg).1.nlen;have h2:=(hI.gr.ok.get hg).1.slots;omega
  obtain⟨N,gS⟩:∃ N,es.length=N:=⟨_,rfl⟩;rw [gS] at hN;have jT:=hid hD;have gG:=hid fS;have jI:=hid hN;have fM:=hid gS;have gT:=hid gD;have kE:B+1<wr.heap.size:=gF.lt
  have jJ:Hid (∀ g,v.ownBlock=some g→B+2≤g∧g<wr.heap.size):=hid fun g e=>by have:=hD.own.row.lt g e;rw [fS] at this;exact this
  rw [fS];clear jH gR hD jG jF gF hN gD gS fS;obtain⟨x,hx⟩:∃ x,pth ns=x:=⟨_,rfl⟩;rw [hx] at gE ⊢;have jK:=hid hx;clear hx;go_enter Tryz.func33,Tryz.ntmps33
  go_upto_region 2 with (first
   | (go_at_call 51;refine gE.mono ?_;rintro e w1 ⟨va,rfl,hA,hF,gH⟩;obtain⟨dA,dc,eA,ec,rfl,-,gU⟩:=hA;simp only [List.length_nil,fM.out] at gU hF ⊢;have gV:=Blk.new w1 67 zAs)
   | (refine wpList_store_row rfl 67 (.tmp 5) (.tmp 16) rfl w1.heap.size (zAh 0 st0 (.slice dA 0 dc) (.slice eA N ec)).toArray rfl (by rfl) 67 _ gV rfl rfl (zAv _ _ _ _ _ _ _ _) ?_))
  have jL:Blk ((w1.alloc (.cells zAs.toArray 67)).setRow w1.heap.size (zAh 0 st0 (.slice dA 0 dc) (.slice eA N ec)).toArray) w1.heap.size 67 (zAh 0 st0 (.slice dA 0 dc) (.slice eA N ec)):=setRow_heap (w1.alloc (.cells zAs.toArray 67)) w1.heap.size _ (zAh 0 st0 (.slice dA 0 dc) (.slice eA N ec)).toArray _ _ gV
  have gI:Below w1.heap.size w1 ((w1.alloc (.cells zAs.toArray 67)).setRow w1.heap.size (zAh 0 st0 (.slice dA 0 dc) (.slice eA N ec)).toArray):=((Chg.refl (fun b=>w1.heap.size≤b) w1).alloc _ |>.setRow (fun _=>Nat.le_refl _) _).below (Nat.le_refl _) fun b hb e=>by omega
  have fT:=gH.trans (gI.mono gH.size);have gW:=hid ((gU.below gI).more gI.size);have jU:Hid (∀ b off,eA=some ⟨b,off,none⟩→0<N→wr.heap.size≤b):=hid fun b off e hn=>hF _ _ _ _ _ b off _ _ (by rw [e]) hn;have kF:wr.heap.size≤w1.heap.size:=gH.size;have fD:=hid fT;change Code.wp _ _ _ _ ((w1.alloc (.cells zAs.toArray 67)).setRow w1.heap.size (zAh 0 st0 (.slice dA 0 dc) (.slice eA N ec)).toArray);generalize (w1.alloc (.cells zAs.toArray 67)).setRow w1.heap.size (zAh 0 st0 (.slice dA 0 dc) (.slice eA N ec)).toArray=w2 at *;generalize w1.heap.size=z at *;have gX:=hid jL;clear gE y0 gV gI gH gU hF jL fT;go_wp2
  go_loopw [6,7] (fun e i wr'=>ListI p B w0 w2 v T f ns n.names s N e i wr') (fun _ i _=>N-(intOf i).toNat)
  case atStart=>exact⟨0,0,s,v,l,Nat.zero_le _,rfl,rfl,jT.out.fresh fD.out,GrD.fresh v (Below.refl _ _),.inl ⟨rfl,rfl,fQ⟩⟩
  case round =>
   obtain⟨k,ek,s',v',l',hk,rfl,rfl,fO,fE,fB⟩:=hrel;have kG:z<w2.heap.size:=gX.out.lt
   have jM:¬(z=B∨z=B+1∨v.ownBlock=some z):=by
    rintro (e | e | e)
    · omega
    · omega
    · have:=jJ.out z e;omega
   have jV:=gX.out.chg fE.chg jM;have q8:=jV.cell 8;simp only [zAh,List.getElem?_cons_succ,List.getElem?_cons_zero] at q8;rcases fB with ⟨rfl,fB,fF⟩ | ⟨hne,fB⟩
   · by_cases gJ:k<N
     · have t1:decide ((k:Int)<(N:Int))=true:=by simpa using gJ
       have gY:k<n.names.length:=by rw [←jI.out];exact gJ
       obtain⟨nm,j,gK⟩:∃ nm j,n.names[k]=(nm,j):=⟨_,_,rfl⟩
       have jN:n.names.drop k=(nm,j)::n.names.drop (k+1):=by rw [List.drop_eq_getElem_cons gY,gK]
       rw [jN] at fB fF
       have fU:(nm,j)∈n.names:=by rw [←gK];exact List.getElem_mem _
       have gL:=zA0 (hI.gr.ok.get hg).1.nris.nd fU;obtain⟨m,fP⟩:=hI.gr.ents _ _ _ _ hg gL;have fG:=hI.gr.names _ _ _ _ hg gL;have gZ:T.walk (ns++[nm]) 1=(j,0):=zCu.2 ⟨i,hw,n,hg,hd,gL⟩
       have jA:∀ y∈ns++[nm],chk y=true:=fun y hy=>by
        rcases List.mem_append.1 hy with hy | hy
        · exact hc y hy
        · rw [List.mem_singleton.1 hy];exact fG
       have fN:(pth (ns++[nm])).size≤1000:=by have h1:=zEP ns nm;have h2:nm.size≤40:=zC5 fG;omega
       have fA:=fun W jW=>zJn own lay p mb T m0 w0 h0 hI.wf hm f (ns++[nm]) j m s' v' l' W jW gZ fP jA fN
        (fun fV s v l wr hD hc=>ih (ns++[nm]) j m s v l wr hD gZ fP fV jA fN (by rw [List.length_append,List.length_singleton];omega) hc)
        (by
         have h1:(tlE T (tl T f) ns ((nm,j)::n.names.drop (k+1))).length=1+((if T.isDir j=true then tl T f (ns++[nm]) j else []).length+(tlE T (tl T f) ns (n.names.drop (k+1))).length):=by rw [tlE];simp only [List.length_cons,List.length_append];omega
         rw [h1,zAn fP] at fF
         split
         · rename_i fV;rw [if_pos fV] at fF;omega
         · rename_i fV;rw [if_neg fV] at fF;simp at fF;omega)
       have jO:zCv T (zAU T f) ns ((nm,j)::n.names.drop (k+1)) s'=if (zE8 T (zAU T f) (ns++[nm]) j s').2≠0 then zE8 T (zAU T f) (ns++[nm]) j s' else zCv T (zAU T f) ns (n.names.drop (k+1)) (zE8 T (zAU T f) (ns++[nm]) j s').1:=rfl;rw [jO] at fB;have fH:=zIr (T:=T) (f:=f) (ns:=ns++[nm]) (j:=j) (s:=s')
       have fW:(tlE T (tl T f) ns ((nm,j)::n.names.drop (k+1))).length=1+((if T.isDir j=true then (tl T f (ns++[nm]) j).length else 0)+(tlE T (tl T f) ns (n.names.drop (k+1))).length):=by
        rw [tlE];simp only [List.length_cons,List.length_append]
        split
        · omega
        · simp;omega
       rw [fW] at fF;obtain⟨r,hr⟩:∃ r,zE8 T (zAU T f) (ns++[nm]) j s'=r:=⟨_,rfl⟩;rw [hr] at fB fH;simp only [hr] at fA;obtain⟨s2,c2⟩:=r;simp only at fB fH
       have jB:es[k]'(by rw [fM.out];exact gJ)=(nm,j,m.kind):=by
        simp only [←gT.out,List.getElem_map,gK,zAp fP]
       obtain⟨b,off,jX,gM,jC⟩:=gW.out.at_ (by omega);subst jX;have kI:=jU.out b off rfl (by omega)
       have gN:¬(b=B∨b=B+1∨v.ownBlock=some b):=by
        rintro (e | e | e)
        · omega
        · omega
        · have:=jJ.out b e;omega
       have jD:=fun jj (hj:jj<3)=>zDd zBq 3 es (fun _ _=>rfl) k (by rw [fM.out];exact gJ) jj hj;have e0:=jC (k * 3+0) (.string nm) (by rw [jD 0 (by omega),jB];rfl);have e2:=jC (k * 3+2) (.int .i64 m.kind) (by rw [jD 2 (by omega),jB];rfl);have g0:=(fE.chg.cell (p:=⟨b,off+(k * 3+0),none⟩) gM gN).trans e0;have g2:=(fE.chg.cell (p:=⟨b,off+(k * 3+2),none⟩) gM gN).trans e2;rw [show off+(k * 3+0)=off+k * 3 by omega] at g0;rw [show off+(k * 3+2)=off+k * 3+2 by omega] at g2;have fI:=fA wr.drew fO.drew;rw [gG.out] at fI;have fJ:=under_any x nm wr.drew (by rw [←jK.out];omega) (by have h2:nm.size≤40:=zC5 fG;omega);rw [show zJ8 x nm=pth (ns++[nm]) by rw [←jK.out];exact zIx hc nm] at fJ;obtain⟨y,hy⟩:∃ y,pth (ns++[nm])=y:=⟨_,rfl⟩;rw [hy] at fJ fI
       have jY:Hid (∀ w6 v6,GrD B wr v' w6 v6→w6.cell? ⟨z,8,none⟩=some (.slice (some ⟨b,off,none⟩) N ec)∧w6.cell? ⟨b,off+k * 3,none⟩=some (.string nm)∧w6.cell? ⟨b,off+k * 3+2,none⟩=some (.int .i64 m.kind)):=hid fun w6 v6 jZ=>by
        have h1:=fE.trans jZ;have h8:=(gX.out.chg h1.chg jM).cell 8;have jP:=(h1.chg.cell (p:=⟨b,off+(k * 3+0),none⟩) gM gN).trans e0;have jQ:=(h1.chg.cell (p:=⟨b,off+(k * 3+2),none⟩) gM gN).trans e2;rw [show off+(k * 3+0)=off+k * 3 by omega] at jP;rw [show off+(k * 3+2)=off+k * 3+2 by omega] at jQ;exact⟨h8,jP,jQ⟩
       have s0:(((0:Nat):Int)==0)=true:=rfl
       have b0:(0:Int)≤(k:Int):=by omega
       have kJ:k+1≤1000000:=by omega
       have kA:=hid fE;have fK:=hid fB;have fL:=hid fH;have fX:=hid fF;have fY:=zAn fP;rw [fY] at fL fX;clear jO fH fF fW jB jD e0 e2 fA jC fB fO fE fY jN gK fU gZ jA fN fP gL fG hy;go_upto_region 5 with (fail)
       go_region_held3 (fun w'=>w'.cell? ⟨z,8,none⟩=some (.slice (some ⟨b,off,none⟩) N ec)∧w'.cell? ⟨b,off+k * 3,none⟩=some (.string nm)∧w'.cell? ⟨b,off+k * 3+2,none⟩=some (.int .i64 m.kind))
        (first | go_keep)
        (first
         | (go_at_call 53;refine fJ.mono ?_;rintro e w' ⟨rfl,rfl⟩)
         | (go_at_call 52;refine fI.mono ?_;rintro e w6 ⟨rfl,v6,l6,jR,gO⟩;rw [gG.out] at gO;obtain⟨k1,k2,k3⟩:=jY.out w6 v6 gO.drew))
       have kK:IntKind.i64.wrap ((k:Int)+1)=((k+1:Nat):Int):=by rw [IntWalk.i64_in _ (by omega)];omega
       have fZ:=hid (kA.out.trans gO.drew);have gA:=hid jR;clear gO jR k1 k2 k3 fI fJ;go_wp2;go_roundw
       case rel =>
        refine⟨k+1,c2,s2,v6,l6,by omega,rfl,by go_num,gA.out,fZ.out,?_⟩;by_cases gP:c2=0
        · refine .inl ⟨gP,?_,?_⟩
          · rw [fK.out,if_neg (by omega)]
          · have h1:=fL.out gP;have h2:=fX.out;omega
        · refine .inr ⟨gP,?_⟩;rw [fK.out,if_pos gP]
       case measure =>
        simp [intOf]
        omega
     · obtain rfl:k=N:=by omega
       have t1:decide ((k:Int)<(k:Int))=false:=by simp
       have s0:(((0:Nat):Int)==0)=true:=rfl
       have gB:zCv T (zAU T f) ns n.names s=(s',0):=by rw [fB,List.drop_of_length_le (by rw [←jI.out];exact Nat.le_refl _)];rfl
       have gC:=hid gB;have gA:=hid fO;have fZ:=hid fE;clear gB fB fF fO fE;go_wp2;go_ret;rw [gC.out];refine⟨rfl,v',l',gA.out,?_⟩;rw [gG.out];exact (GrD.fresh v fD.out).trans fZ.out
   · have kC:((ek:Int)==0)=false:=by simp;omega
     have fK:=hid fB;have gA:=hid fO;have fZ:=hid fE;clear fB fO fE hne;go_wp2;go_ret;rw [fK.out];refine⟨rfl,v',l',gA.out,?_⟩;rw [gG.out];exact (GrD.fresh v fD.out).trans fZ.out
end
def FstR (T:PT) (s:DS) (l:List Nd) (js:List Nat):Prop :=
 ∀ i,T.isDir i=false→(((js.zip l).find? fun p=>decide (p.1=i)).map fun p=>p.2.path)=zAd i s.first
theorem FstR.get {T:PT} {s:DS} {l:List Nd} {js:List Nat} (h:FstR T s l js) {i:Nat} (hi:T.isDir i=false):fstP l js i 0=(zAd i s.first).getD emp:=by
 rw [←h i hi];unfold fstP;rw [List.drop_zero]
 cases (js.zip l).find? fun p=>decide (p.1=i)<;>rfl
theorem FstR.step {T:PT} {s:DS} {l:List Nd} {js:List Nat} (h:FstR T s l js) (hl:js.length=l.length) {ns:List ByteArray} {j:Nat} {x:Nd} (hx:x.path=pth ns):FstR T (T.step s (ns,j)) (l++[x]) (js++[j]):=by
 intro i hi;rw [List.zip_append hl,List.find?_append];have h0:=h i hi;unfold PT.step;by_cases hd:T.isDir j=true
 · rw [if_pos hd]
   have fA:j≠i:=fun e=>by rw [e,hi] at hd;cases hd
   simp only;rw [←h0]
   cases (js.zip l).find? fun p=>decide (p.1=i) with
   | some p=>rfl
   | none=>simp [fA]
 · rw [if_neg hd];by_cases e:j=i
   · subst e
     cases hg:zAd j s.first with
     | some q =>
      rw [hg] at h0;simp only;rw [hg,←h0]
      cases hf:(js.zip l).find? fun p=>decide (p.1=j) with
      | some p=>rfl
      | none=>rw [hf] at h0;cases h0
     | none =>
      rw [hg] at h0;simp only;rw [zAu]
      cases hf:(js.zip l).find? fun p=>decide (p.1=j) with
      | some p=>rw [hf] at h0;cases h0
      | none=>simp [hx]
   · have h1:zAd i (T.step s (ns,j)).first=zAd i s.first:=by
      unfold PT.step;rw [if_neg hd]
      cases hg:zAd j s.first with
      | some q=>rfl
      | none=>exact zAl zAG _ (fun e'=>e e'.symm) _
     unfold PT.step at h1;rw [if_neg hd] at h1;rw [h1,←h0]
     cases (js.zip l).find? fun p=>decide (p.1=i) with
     | some p=>rfl
     | none=>simp [e]
theorem zEO {w:World} {B1 B2:Nat} {e1 e2:TypeId} {s1 s2:Nat} {v1 v2:Value} {n1 n2:Nat} {x1 x2:List Value} (h1:w.ownsRow B1 e1 s1 v1 n1 x1) (h2:w.ownsRow B2 e2 s2 v2 n2 x2) (he:e1≠e2) {g:Nat} (hg:v1.ownBlock=some g):v2.ownBlock≠some g:=by
 intro fA;rcases h1.2 with ⟨rfl,_⟩ | ⟨g1,c1,k1,rfl,_,hh1,_⟩
 · cases hg
 rcases h2.2 with ⟨rfl,_⟩ | ⟨g2,c2,k2,rfl,_,hh2,_⟩
 · cases fA
 have a1:g1=g:=by simpa [Value.ownBlock] using hg
 have a2:g2=g:=by simpa [Value.ownBlock] using fA
 subst a1 a2;rw [hh1] at hh2;injection hh2 with h3;injection h3 with _ h4;exact he h4
def zC8 (t:Tr) (v vi:Value) (c:Int):List Value:=[.int .i64 t.sectors,.int .i64 t.inodes,.int .i64 t.births,.slice t.A t.l.length t.c,v,vi,.int .i64 c]
def TS (B:Nat) (v vi:Value) (b:Nat):Prop:=b=B∨v.ownBlock=some b∨vi.ownBlock=some b
theorem RefS.grow {S S':Nat→Prop} {w w':World} {t:Tr} {T:PT} (h:RefS S w t T) (hc:Chg S w w') (hS:∀ b,S' b→S b∨w.heap.size≤b):RefS S' w' t T :=
 (h.own.chg (hc.mono fun _ _ hb=>.inl hb)).mono hS
theorem RefS.wide {S S':Nat→Prop} {w W:World} {t:Tr} {T:PT} (h:RefS S w t T) (hb:Below w.heap.size w W) (hS:∀ b,S' b→S b∨w.heap.size≤b):RefS S' W t T:=(h.own.fresh hb).mono hS
structure TldW (w0 wr:World) (B:Nat) (T:PT) (v vi:Value) (l:List Nd) (js:List Nat):Prop where
 below:Below w0.heap.size w0 wr
 hB:w0.heap.size≤B
 blk:∃ t,Blk wr B 94 (zC8 t v vi 0)∧RefS (TS B v vi) wr t T
 own:OwnN wr (B+1) v l
 ino:wr.ownsRow (B+1) 3 1 vi js.length (nats js)
structure TldAt (w0 wr:World) (B:Nat) (T:PT) (v vi:Value) (l:List Nd) (js:List Nat) (s:DS):Prop where
 mem:TldW w0 wr B T v vi l js
 tn:l.map Nd.tn=s.nodes
 fst:FstR T s l js
 fne:∀ i q,zAd i s.first=some q→q≠emp
 len:js.length=l.length
structure GrU (B:Nat) (w:World) (v vi:Value) (w':World) (v' vi':Value):Prop where
 chg:Chg (TS B v vi) w w'
 at_:v'.ownBlock=v.ownBlock∨∃ g,v'.ownBlock=some g∧w.heap.size≤g
 ati:vi'.ownBlock=vi.ownBlock∨∃ g,vi'.ownBlock=some g∧w.heap.size≤g
section
variable {B:Nat} {w w0 w1 w2 wr:World} {v vi v' vi' v2 vi2:Value} {T:PT} {l:List Nd} {js:List Nat} {s:DS}
theorem GrU.fresh (v vi:Value) (hb:Below w.heap.size w w1):GrU B w v vi w1 v vi:=⟨Chg.of_fresh hb,.inl rfl,.inl rfl⟩
theorem GrU.one (hc:Chg (fun b=>b=B) w w1):GrU B w v vi w1 v vi:=⟨hc.mono fun _ _ h=>.inl h,.inl rfl,.inl rfl⟩
theorem GrU.ts (h:GrU B w v vi w1 v' vi'):∀ b,TS B v' vi' b→TS B v vi b∨w.heap.size≤b:=fun b hb=>by
 rcases hb with e | e | e
 · exact .inl (.inl e)
 · rcases h.at_ with h1 | ⟨g,h1,h2⟩
   · exact .inl (.inr (.inl (h1▸e)))
   · rw [h1] at e;injection e with e;exact .inr (e▸h2)
 · rcases h.ati with h1 | ⟨g,h1,h2⟩
   · exact .inl (.inr (.inr (h1▸e)))
   · rw [h1] at e;injection e with e;exact .inr (e▸h2)
theorem GrU.trans (h:GrU B w v vi w1 v' vi') (k:GrU B w1 v' vi' w2 v2 vi2):GrU B w v vi w2 v2 vi2:=by
 have hs:=h.chg.size;refine⟨h.chg.trans k.chg (fun _ _ h=>h) fun b hb e=>?_,?_,?_⟩
 · rcases h.ts b e with e | e
   · exact e
   · omega
 · rcases k.at_ with k1 | ⟨g,k1,k2⟩
   · rw [k1];exact h.at_
   · exact .inr ⟨g,k1,by omega⟩
 · rcases k.ati with k1 | ⟨g,k1,k2⟩
   · rw [k1];exact h.ati
   · exact .inr ⟨g,k1,by omega⟩
theorem TldW.ts (h:TldW w0 w B T v vi l js):∀ b,TS B v vi b→w0.heap.size≤b∧b<w.heap.size:=fun b hb=>by
 have hB:=h.hB;obtain⟨t,ht,-⟩:=h.blk;have hl:=ht.lt;rcases hb with e | e | e
 · omega
 · have:=h.own.row.lt b e;omega
 · have:=h.ino.lt b e;omega
theorem TldW.fresh (h:TldW w0 w B T v vi l js) (hb:Below w.heap.size w w1):TldW w0 w1 B T v vi l js:=by
 obtain⟨t,h1,h2⟩:=h.blk;exact⟨h.below.trans (hb.mono h.below.size),h.hB,⟨t,h1.fresh hb,h2.fresh hb⟩,h.own.fresh hb,zAN h.ino hb⟩
theorem TldAt.fresh (h:TldAt w0 w B T v vi l js s) (hb:Below w.heap.size w w1):TldAt w0 w1 B T v vi l js s:=⟨h.mem.fresh hb,h.tn,h.fst,h.fne,h.len⟩
theorem TldW.turn {t:Tr} (h:TldW w0 w B T v vi l js) (hc:Chg (fun b=>b=B) w w1) (hk:Blk w1 B 94 (zC8 t v vi 0)) (ht:RefS (TS B v vi) w1 t T):TldW w0 w1 B T v vi l js:=by
 have h1:=h.ts B (.inl rfl);exact⟨h.below.trans (hc.below h.below.size fun b hb e=>by omega),h.hB,⟨t,hk,ht⟩,h.own.chg hc fun b hb e=>by omega,zAo h.ino hc fun g hg e=>by have:=(h.ino.lt g hg).1;omega⟩
theorem TldW.push1 {x:Nd} {W1 w4:World} (h:TldW w0 w B T v vi l js) (hc:Chg (fun b=>b=B) w W1) (h1:TldW w0 W1 B T v vi l js) (hd:W1.ownsRow w.heap.size 5 1 (ndV x) x.data.length (bvs x.data))
 (ho:w4.ownsRow (B+1) 75 5 v' (l.length+1) (ncs l++zCx x)) (hg:W1.grownBy w4 v.ownBlock) (fD:v'.ownBlock=v.ownBlock∨v'.ownBlock=some W1.heap.size) :
 TldW w0 (w4.setCell ⟨B,4,none⟩ v') B T v' vi (l++[x]) js∧GrU B W1 v vi (w4.setCell ⟨B,4,none⟩ v') v' vi:=by
 have fC:=h1.ts;have fG:=fC B (.inl rfl);have hG:Grows W1 v w4 v':=Grows.of_law (Below.refl _ W1) hg fD (Nat.le_refl _);have fE:=h.own.step hc (fun b hb e=>by omega) (by have:=(h.ts B (.inl rfl)).2;omega) hd ho hG;have fB:Chg (fun b=>b=B) w4 (w4.setCell ⟨B,4,none⟩ v'):=(Chg.refl (fun b=>b=B) w4).setCell (p:=⟨B,4,none⟩) (fun _=>rfl) v';have fF:∀ g,v.ownBlock=some g→B+1≤g:=fun g e=>(h1.own.row.lt g e).1;have fA:GrU B W1 v vi (w4.setCell ⟨B,4,none⟩ v') v' vi:=⟨(hG.chg.mono (U:=TS B v vi) fun _ _ e=>.inr (.inl e)).trans fB (fun _ _ h=>h) (fun b _ e=>.inl e),hG.at_,.inl rfl⟩;obtain⟨t,hk,ht⟩:=h1.blk;refine⟨⟨h1.below.trans (fA.chg.below h1.below.size fun b hb e=>by have:=(fC b e).1;omega),h1.hB,⟨t,?_,ht.grow fA.chg fA.ts⟩,?_,?_⟩,fA⟩
 · exact (hk.law hg fun e=>by have:=fF _ e;omega).set_ 4 v'
 · exact fE.chg fB fun b hb e=>by omega
 · exact zAo (zAo h1.ino hG.chg fun g e1 e2=>zEO h1.own.row h1.ino (by decide) e2 e1) fB fun g hg e=>by have:=(h1.ino.lt g hg).1;omega
theorem TldW.push2 {j:Nat} {w4:World} (h1:TldW w0 w B T v vi l js) (ho:w4.ownsRow (B+1) 3 1 vi' (js.length+1) (nats js++[.int .i64 (j:Int)])) (hg:w.grownBy w4 vi.ownBlock) (fD:vi'.ownBlock=vi.ownBlock∨vi'.ownBlock=some w.heap.size) :
 TldW w0 (w4.setCell ⟨B,5,none⟩ vi') B T v vi' l (js++[j])∧GrU B w v vi (w4.setCell ⟨B,5,none⟩ vi') v vi':=by
 have fC:=h1.ts;have fG:=fC B (.inl rfl);have hG:Grows w vi w4 vi':=Grows.of_law (Below.refl _ w) hg fD (Nat.le_refl _);have fB:Chg (fun b=>b=B) w4 (w4.setCell ⟨B,5,none⟩ vi'):=(Chg.refl (fun b=>b=B) w4).setCell (p:=⟨B,5,none⟩) (fun _=>rfl) vi';have fE:∀ g,vi.ownBlock=some g→B+1≤g:=fun g e=>(h1.ino.lt g e).1;have fA:GrU B w v vi (w4.setCell ⟨B,5,none⟩ vi') v vi':=⟨(hG.chg.mono (U:=TS B v vi) fun _ _ e=>.inr (.inr e)).trans fB (fun _ _ h=>h) (fun b _ e=>.inl e),.inl rfl,hG.at_⟩;obtain⟨t,hk,ht⟩:=h1.blk;refine⟨⟨h1.below.trans (fA.chg.below h1.below.size fun b hb e=>by have:=(fC b e).1;omega),h1.hB,⟨t,?_,ht.grow fA.chg fA.ts⟩,?_,?_⟩,fA⟩
 · exact (hk.law hg fun e=>by have:=fE _ e;omega).set_ 5 vi'
 · refine (h1.own.keep hG.chg fun g fF e=>?_).chg fB fun b hb e=>by omega
   rcases fF with e2 | ⟨x,hx,e2⟩
   · exact zEO h1.own.row h1.ino (by decide) e2 e
   · obtain⟨i,hi,rfl⟩:=List.getElem_of_mem hx;exact zEO (h1.own.data i hi) h1.ino (by decide) e2 e
 · have h9:=zAo ho fB fun g hg e=>by have:=(ho.lt g hg).1;omega
   have h8:nats (js++[j])=nats js++[.int .i64 (j:Int)]:=by simp [nats]
   rw [h8,List.length_append,List.length_singleton];exact h9
end
def TldP (w0:World) (B:Nat) (T:PT) (v vi:Value) (w:World) (r:DS×Nat) (e:Ending) (w':World):Prop :=
 e=.returned (.bool (decide (r.2=0)))∧Below w0.heap.size w0 w'∧(r.2=0→∃ v' vi' l' js',TldAt w0 w' B T v' vi' l' js' r.1∧GrU B w v vi w' v' vi')∧(r.2≠0→w'.cell? ⟨B,6,none⟩=some (.int .i64 (r.2:Int)))
end Go.Proofs.YtolpcfhfcdkokaaGreatDoor
