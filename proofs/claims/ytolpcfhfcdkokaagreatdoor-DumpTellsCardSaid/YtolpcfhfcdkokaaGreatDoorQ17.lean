/- Joined out of Row..RLaid. -/
import Derived.Deep.CutRange
import Derived.Test.YtolpcfhfcdkokaaGreatDoorQ15
set_option maxHeartbeats 16000000
set_option maxRecDepth 100000
namespace Go.Proofs.YtolpcfhfcdkokaaGreatDoor
open Lib (hid)
open Go.RowKit
def zBg {α:Type} (key:α→Int) (x:α):Bool→List α→List α
 | d,[]=>if d then [] else [x]
 | d,y::l=>(if d=false∧key x≤key y then [x] else [])++((if key y=key x then [] else [y])++zBg key x (d || decide (key x≤key y)) l)
structure Two (w:World) (base:Nat) (vi vd:Value) (l:List (Nat×List UInt8)):Prop where
 ri:w.ownsRow base 3 1 vi l.length (nats (l.map (·.1)))
 rd:w.ownsRow base 187 128 vd l.length (secs (l.map (·.2)))
 ap:∀ b,vi.ownBlock=some b→vd.ownBlock≠some b
section
variable {w w1 w2:World} {base:Nat} {vi vd vi' vd':Value} {l:List (Nat×List UInt8)}
theorem Two.chg {S:Nat→Prop} (h:Two w base vi vd l) (hc:Chg S w w1) (hS:∀ b,S b→b<base):Two w1 base vi vd l :=
 ⟨zAo h.ri hc fun g hg hs=>by have:=(h.ri.lt g hg).1;have:=hS g hs;omega,zAo h.rd hc fun g hg hs=>by have:=(h.rd.lt g hg).1;have:=hS g hs;omega,h.ap⟩
theorem Two.nil (w:World) (base:Nat):Two w base (.slice none 0 0) (.slice none 0 0) []:=⟨World.ownsRow_nil w base _ _,World.ownsRow_nil w base _ _,fun b h=>by cases h⟩
theorem Two.mid {o:Obj} (h:Two w base vi vd l) (hg:(w.alloc o).grownBy w1 vi.ownBlock):w1.ownsRow base 187 128 vd l.length (secs (l.map (·.2))) :=
 zAo (zAN h.rd ((Below.refl _ w).alloc (Nat.le_refl _) o)) ((Chg.refl (fun b=>vi.ownBlock=some b) (w.alloc o)).grown hg fun _ e _=>e) fun g hg h2=>h.ap g h2 hg
theorem Two.step {o1 o2:Obj} {k:Nat} {s:List UInt8} {H1 H2:Nat} (h:Two w base vi vd l) (_hb:base≤w.heap.size)
 (r1:w1.ownsRow base 3 1 vi' (l.length+1) (nats (l.map (·.1))++[.int .i64 (k:Int)])) (g1:(w.alloc o1).grownBy w1 vi.ownBlock) (a1:vi'.ownBlock=vi.ownBlock∨vi'.ownBlock=some H1) (fB:w.heap.size≤H1)
 (r2:w2.ownsRow base 187 128 vd' (l.length+1) (secs (l.map (·.2))++bvs s)) (g2:(w1.alloc o2).grownBy w2 vd.ownBlock) (a2:vd'.ownBlock=vd.ownBlock∨vd'.ownBlock=some H2) (fC:w1.heap.size≤H2) :
 Two w2 base vi' vd' (l++[(k,s)])∧Chg (fun b=>base≤b) w w2:=by
 have fD:w.heap.size<w1.heap.size:=by have:=g1.size;simp at this;omega
 have ap':∀ b,vi'.ownBlock=some b→vd.ownBlock≠some b:=fun b fA e=>by
  rcases a1 with a1 | a1
  · exact h.ap b (a1▸fA) e
  · have:=(h.rd.lt b e).2;rw [a1] at fA;injection fA with fA;omega
 refine⟨⟨?_,?_,?_⟩,?_⟩
 · have e:nats ((l++[(k,s)]).map (·.1))=nats (l.map (·.1))++[.int .i64 (k:Int)]:=by simp [nats]
   rw [e,List.length_append];exact zAo (zAN r1 ((Below.refl _ w1).alloc (Nat.le_refl _) o2)) ((Chg.refl (fun b=>vd.ownBlock=some b) (w1.alloc o2)).grown g2 fun _ e _=>e) fun g hg h2=>ap' g hg h2
 · have e:secs ((l++[(k,s)]).map (·.2))=secs (l.map (·.2))++bvs s:=by simp [secs]
   rw [e,List.length_append];exact r2
 · intro b fA e;rcases a2 with a2 | a2
   · exact ap' b fA (a2▸e)
   · have:=(r1.lt b fA).2;rw [a2] at e;injection e with e;omega
 · refine (((Chg.refl (fun b=>base≤b) w).alloc o1).grown g1 (fun g e _=>(h.ri.lt g e).1)).trans (((Chg.refl (fun b=>base≤b) w1).alloc o2).grown g2 (fun g e _=>(h.rd.lt g e).1)) (fun _ _ h=>h) (fun _ _ h=>h)
end
theorem zFR:(Tryz.prog.info? 3).map (fun i=>(i.zero,i.size,i.bytes))=some (some (.int .i64 0),1,8):=by kernel_rfl
theorem zIW:(Tryz.prog.info? 187).map (fun i=>(i.zero,i.size,i.bytes))=some (some (.agg Tryz.zeroCells187),128,128):=by kernel_rfl
theorem zCM:(Value.agg Tryz.zeroCells187).cells.size=128:=by kernel_rfl
theorem zHZ:((Tryz.prog.info? 187).bind (·.zero)).map (·.cells.size)=some 128:=by kernel_rfl
abbrev z8:List Value:=[.int .i64 0,.int .i64 0,.int .i64 0,.int .i64 0,.int .i64 0,.int .i64 0,.slice none 0 0,.slice none 0 0]
abbrev kB (p:Nat×List UInt8):Int:=(p.1:Int)
structure LaidI (w:World) (g:Nat) (x:Hd) (s:List UInt8) (wr:World):Prop where
 bx:Blk wr g 123 (zAb x)
 bs:Blk wr (g+1) 187 (bvs s)
 bz:Blk wr (g+2) 123 z8
 hd:HdAt wr g x
 ch:Below g w wr
theorem LaidI.chg {w wr w2:World} {g:Nat} {x:Hd} {s:List UInt8} (h:LaidI w g x s wr) (hc:Chg (fun b=>g+3≤b) wr w2):LaidI w g x s w2:=by
 have h1:=h.bz.lt
 have hb:Below g wr w2:=hc.below (by omega) fun b hb hS=>by omega
 exact⟨h.bx.chg hc (by omega),h.bs.chg hc (by omega),h.bz.chg hc (by omega),h.hd.below hb,h.ch.trans hb⟩
section
variable {w wr:World} {g j len b off:Nat} {x:Hd} {s:List UInt8}
theorem LaidI.c6 (h:LaidI w g x s wr) (hA:x.iA=some ⟨b,off,none⟩) (hl:len=x.idx.length):wr.cell? ⟨g,6,none⟩=some (.slice (some ⟨b,off,none⟩) len x.ic):=by
 rw [hl,←hA];exact h.bx.cell 6
theorem LaidI.c7 (h:LaidI w g x s wr) (hA:x.dA=some ⟨b,off,none⟩) (hl:len=x.idx.length):wr.cell? ⟨g,7,none⟩=some (.slice (some ⟨b,off,none⟩) len x.dc):=by
 rw [hl,←hA,←h.hd.len];exact h.bx.cell 7
theorem LaidI.get {y:Nat} (h:LaidI w g x s wr) (hA:x.iA=some ⟨b,off,none⟩) (hj:j<x.idx.length) (hy:x.idx[j]=y):wr.cell? ⟨b,off+j,none⟩=some (.int .i64 (y:Int)):=by
 obtain⟨b',off',fA,_,hc⟩:=h.hd.idx.at_ (by omega);rw [hA] at fA;injection fA with fA;injection fA with h1 h2;subst h1 h2 hy;exact hc j _ (zBS x.idx j hj)
theorem LaidI.rng {y:List UInt8} (h:LaidI w g x s wr) (hA:x.dA=some ⟨b,off,none⟩) (hj:j<x.dat.length) (hy:x.dat[j]=y):wr.rangeAt b (off+j * 128) (bvs y):=by
 obtain⟨b',off',fA,_,hc⟩:=h.hd.sec_cell j hj;rw [hA] at fA;injection fA with fA;injection fA with h1 h2;subst h1 h2 hy;exact hc
end
theorem zDq (w:World) (s:List UInt8) (hs:s.length=128):Src Tryz.prog 128 121 (.slice (some ⟨w.heap.size,0,none⟩) 1 1) 1 (bvs s) (w.alloc (.cells (bvs s).toArray 187)):=by
 have:=zBP (P:=Tryz.prog) Tryz.underlying121 (Blk.new w 187 (bvs s)) (zCG s);rw [zAe,hs] at this;exact this
theorem zEu {α:Type} (key:α→Int) (x y:α):∀ (l:List α) (d:Bool),y∈zBg key x d l→y=x∨y∈l:=by
 intro l
 induction l with
 | nil=>intro d h;unfold zBg at h;split at h<;>simp_all
 | cons z l ih =>
  intro d h;unfold zBg at h;rw [List.mem_append,List.mem_append] at h;rcases h with h | h | h
  · split at h
    · exact .inl (by simpa using h)
    · cases h
  · split at h
    · cases h
    · exact .inr (by rw [List.mem_singleton] at h;rw [h];exact List.mem_cons_self)
  · rcases ih _ h with h | h
    · exact .inl h
    · exact .inr (List.mem_cons_of_mem _ h)
theorem two_sees {w:World} {base n m c1 c2:Nat} {A1 A2:Option Addr} {l:List (Nat×List UInt8)} (h:Two w base (.slice A1 n c1) (.slice A2 m c2) l) :
 n=l.length∧m=l.length∧Sees w w.heap.size 1 A1 l.length (nats (l.map (·.1)))∧Sees w w.heap.size 128 A2 l.length (secs (l.map (·.2))):=by
 obtain⟨A,c,hv,h1⟩:=Sees.of_own (B:=w.heap.size) h.ri fun g hg=>(h.ri.lt g hg).2;obtain⟨A',c',fA,h2⟩:=Sees.of_own (B:=w.heap.size) h.rd fun g hg=>(h.rd.lt g hg).2;injection hv with e1 e2 e3;injection fA with e4 e5 e6;subst e1 e4;exact⟨e2,e5,h1,h2⟩
theorem zJf {w wr:World} {g n m c1 c2:Nat} {x:Hd} {s:List UInt8} {k:Nat} {A1 A2:Option Addr} {l:List (Nat×List UInt8)} (hI:LaidI w g x s wr) (hT:Two wr (g+3) (.slice A1 n c1) (.slice A2 m c2) l)
 (hl:l=zBg kB (k,s) false (x.idx.zip x.dat)) (hs:s.length=128) (hg:w.heap.size=g) (W:World) (cs:List Value)
 (hW:W=((wr.setCell ⟨g,6,none⟩ (.slice A1 n c1)).setCell ⟨g,7,none⟩ (.slice A2 m c2)).setRow (g+2) cs.toArray) :
 (∃ iA ic dA dc,Ending.returned (.agg #[.int .i64 x.ino,.int .i64 x.kind,.int .i64 x.links,.int .i64 x.size,.int .i64 x.made,.int .i64 x.birth,.slice A1 n c1,.slice A2 m c2])=.returned (hdV {x with iA:=iA,ic:=ic,dA:=dA,dc:=dc,idx:=(zBg kB (k,s) false (x.idx.zip x.dat)).map (·.1),dat:=(zBg kB (k,s) false (x.idx.zip x.dat)).map (·.2)}) ∧
  HdAt W W.heap.size {x with iA:=iA,ic:=ic,dA:=dA,dc:=dc,idx:=(zBg kB (k,s) false (x.idx.zip x.dat)).map (·.1),dat:=(zBg kB (k,s) false (x.idx.zip x.dat)).map (·.2)}∧(∀ a,iA=some a→w.heap.size≤a.block)∧∀ a,dA=some a→w.heap.size≤a.block)∧Below w.heap.size w W:=by
 have hz:=hI.bz.lt
 have hc:Chg (fun b=>g≤b∧b<g+3) wr W:=by
  rw [hW];exact (((Chg.refl _ wr).setCell (p:=⟨g,6,none⟩) (fun _=>⟨Nat.le_refl _,by simp⟩) _).setCell (p:=⟨g,7,none⟩) (fun _=>⟨Nat.le_refl _,by simp⟩) _).setRow (g:=g+2) (fun _=>⟨by omega,by omega⟩) _
 have fA:=hT.chg hc fun b hb=>hb.2;obtain⟨h1,h2,h3,h4⟩:=two_sees fA;subst h1 h2;rw [←hl];refine⟨⟨A1,c1,A2,c2,?_,⟨?_,?_,?_,?_⟩,?_,?_⟩,?_⟩
 · simp [hdV,zAb]
 · simp
 · intro y hy;obtain⟨q,hq,rfl⟩:=List.mem_map.1 hy;rw [hl] at hq;rcases zEu _ _ _ _ _ hq with rfl | hq
   · exact hs
   · exact hI.hd.sec _ (List.of_mem_zip hq).2
 · simpa using h3
 · simpa using h4
 · intro a ha;have:=(hT.ri.lt a.block (by rw [ha];rfl)).1;omega
 · intro a ha;have:=(hT.rd.lt a.block (by rw [ha];rfl)).1;omega
 · rw [hg];exact hI.ch.trans (hc.below (by omega) fun b hb h=>by omega)
theorem one8v (a b c d e f:Int) (A1 A2:Option Addr) (n c1 m c2:Nat):(#[.int .i64 a,.int .i64 b,.int .i64 c,.int .i64 d,.int .i64 e,.int .i64 f,.slice A1 n c1,.slice A2 m c2]:Array Value).all (·.oneCell')=true:=by
 rw [Array.all_eq_true_iff_forall_mem];intro v hv;simp only [List.mem_toArray,List.mem_cons,List.not_mem_nil,or_false] at hv;rcases hv with rfl | rfl | rfl | rfl | rfl | rfl | rfl | rfl<;>rfl
theorem two_len {w:World} {base:Nat} {vi vd:Value} {l:List (Nat×List UInt8)} (h:Two w base vi vd l) {n:Nat} (hn:l.length=n):(∃ A c,vi=.slice A n c)∧∃ A c,vd=.slice A n c:=by
 subst hn;obtain⟨A,c,hv,_⟩:=Sees.of_own (B:=w.heap.size) h.ri fun g hg=>(h.ri.lt g hg).2;obtain⟨A',c',fA,_⟩:=Sees.of_own (B:=w.heap.size) h.rd fun g hg=>(h.rd.lt g hg).2;exact⟨⟨A,c,hv⟩,A',c',fA⟩
theorem zId (B:Nat) (x:Hd) (k:Nat) (s:List UInt8) (w:World) (hx:HdAt w B x) (hB:B≤w.heap.size) (hs:s.length=128) (hl:x.idx.length≤1100) :
 Calls Tryz.prog 120 #[hdV x,.int .i64 k,zB8 s] w fun e w'=>(∃ iA ic dA dc,e=.returned (hdV {x with iA:=iA,ic:=ic,dA:=dA,dc:=dc,idx:=(zBg kB (k,s) false (x.idx.zip x.dat)).map (·.1),dat:=(zBg kB (k,s) false (x.idx.zip x.dat)).map (·.2)}) ∧
  HdAt w' w'.heap.size {x with iA:=iA,ic:=ic,dA:=dA,dc:=dc,idx:=(zBg kB (k,s) false (x.idx.zip x.dat)).map (·.1),dat:=(zBg kB (k,s) false (x.idx.zip x.dat)).map (·.2)}∧(∀ a,iA=some a→w.heap.size≤a.block)∧∀ a,dA=some a→w.heap.size≤a.block)∧Below w.heap.size w w':=by
 obtain⟨iI,gB,fH,fI,fJ⟩:=info_parts zFR;obtain⟨iS,gC,fK,fL,fM⟩:=info_parts zIW
 have gT:LaidI w w.heap.size x s (((w.alloc (.cells (zAb x).toArray 123)).alloc (.cells (bvs s).toArray 187)).alloc (.cells z8.toArray 123)):=by
  have hb:Below w.heap.size w (((w.alloc (.cells (zAb x).toArray 123)).alloc (.cells (bvs s).toArray 187)).alloc (.cells z8.toArray 123)):=(((Below.refl _ _).alloc (Nat.le_refl _) _).alloc (by simp) _).alloc (by simp;omega) _;refine⟨((Blk.new w 123 (zAb x)).alloc _).alloc _,?_,?_,(hx.more hB).below hb,hb⟩
  · have:=(Blk.new (w.alloc (.cells (zAb x).toArray 123)) 187 (bvs s)).alloc (.cells z8.toArray 123);simpa using this
  · have:=Blk.new ((w.alloc (.cells (zAb x).toArray 123)).alloc (.cells (bvs s).toArray 187)) 123 z8;simpa using this
 unfold hdV zB8;go_enter Tryz.func120,Tryz.ntmps120;go_upto_region 1 with (fail);generalize ((w.alloc (.cells (zAb x).toArray 123)).alloc (.cells (bvs s).toArray 187)).alloc (.cells #[.int .i64 0,.int .i64 0,.int .i64 0,.int .i64 0,.int .i64 0,.int .i64 0,.slice none 0 0,.slice none 0 0] 123)=w0 at *;generalize hg:w.heap.size=g at *;have gU:=hid hg;clear hg hx;obtain⟨len,fY⟩:∃ len,len=x.idx.length:=⟨_,rfl⟩;have fC:=hid fY;rw [←fY] at hl;have fP:Hid (len=x.idx.length):=fC;clear fY;generalize gY:(zAb x).toArray=cx at *;clear gY;generalize gV:(bvs s).toArray=cs at *;have gZ:=hid gV;clear gV;go_wp2
 go_loopw [7,8,9,10] (fun vi vd d i wr=>∃ (j:Nat) (acc:List (Nat×List UInt8)) (db:Bool),j≤len∧i=.int .i64 j∧d=.bool db∧acc.length≤2 * j ∧
  Hid (acc++zBg kB (k,s) db ((x.idx.zip x.dat).drop j)=zBg kB (k,s) false (x.idx.zip x.dat))∧Hid (Two wr (g+3) vi vd acc)∧Hid (LaidI w g x s wr)) (fun _ _ _ i _=>len-(intOf i).toNat)
 case atStart=>exact⟨0,[],false,Nat.zero_le _,rfl,rfl,by simp,by simp [Hid],Two.nil _ _,gT⟩
 case round =>
  obtain⟨j,acc,db,hj,rfl,rfl,jL,fN,hT,hI⟩:=hrel;clear gT;have x6:wr.cell? ⟨g,6,none⟩=some (.slice x.iA x.idx.length x.ic):=hI.out.bx.cell 6;rw [←fC.out] at x6;by_cases jM:j<len
  · have fZ:j<x.idx.length:=by have:=fC.out;omega
    have gD:j<x.dat.length:=by have:=hI.out.hd.len;omega
    obtain⟨b,off,hA,jN,hc⟩:=hI.out.hd.idx.at_ (by omega);have c0:wr.cell? ⟨b,off+j,none⟩=some (.int .i64 (x.idx[j]:Int)):=hc j _ (zBS x.idx j fZ);rw [hA] at x6;clear hc;have gI:=hid hA;clear hA;generalize hy:x.idx[j]=y at *;have gK:=hid hy;clear hy;obtain⟨b2,off2,gA,-,-⟩:=hI.out.hd.sec_cell j gD;have x7:=hI.out.c7 gA fP.out;have gJ:Hid (x.dat[j]=x.dat[j]):=rfl;have fQ:=hI.out.hd.sec _ (List.getElem_mem gD)
    have gW:Hid ((x.idx.zip x.dat).drop j=(y,x.dat[j])::(x.idx.zip x.dat).drop (j+1)):=by
     show _=_
     rw [List.drop_eq_getElem_cons (by rw [List.length_zip];omega)];simp [gK.out]
    have fA:Hid (acc++((if db=false∧(k:Int)≤(y:Int) then [(k,s)] else [])++((if (y:Int)=(k:Int) then [] else [(y,x.dat[j])])++zBg kB (k,s) (db || decide ((k:Int)≤(y:Int))) ((x.idx.zip x.dat).drop (j+1))))=zBg kB (k,s) false (x.idx.zip x.dat)):=by
     have:=fN.out;rw [gW.out] at this;exact this
    generalize gE:x.dat[j]=sd at *;have gJ:Hid (x.dat[j]=sd):=gE;clear gE fN gW
    cases db with
    | true =>
     by_cases gF:y=k
     · subst gF
       have hf:Hid (acc++zBg kB (y,s) true ((x.idx.zip x.dat).drop (j+1))=zBg kB (y,s) false (x.idx.zip x.dat)):=by simpa [Hid] using fA.out
       clear fA;go_wp2;go_roundw
       case rel=>exact⟨j+1,acc,true,by omega,by go_num,rfl,by first | omega | (simp;omega),hf.out,hT.out,hI.out⟩
       case measure=>simp [intOf];omega
     · have gX:((y:Int) != (k:Int))=true:=by simp;omega
       have hf:Hid ((acc++[(y,sd)])++zBg kB (k,s) true ((x.idx.zip x.dat).drop (j+1))=zBg kB (k,s) false (x.idx.zip x.dat)):=by have:=fA.out;simp [Hid] at this ⊢;rw [if_neg (by omega)] at this;simpa using this
       clear fA
       go_wp2_with (first
        | (at_builtin;refine zAk _ rfl (.tmp 44) (.tmp 50) _ _ rfl (g+3) 3 iI (.int .i64 0) 1 8 Tryz.underlying92 gB fH fI fJ rfl u7 acc.length (nats (acc.map (·.1))) rfl (hT.out.ri.alloc _) 1 [.int .i64 (y:Int)] (zBH wr Tryz.underlying92 _ _ rfl) (by unfold maxLen;omega) (by omega) (by have:=hI.out.bz.lt;simp;omega) ?_;intro v1 w1 fR fD fE;have fS:Chg (fun b=>g+3≤b) wr w1:=((Chg.refl _ wr).alloc _).grown fD (fun g' e _=>(hT.out.ri.lt g' e).1);have fG:=hI.out.chg fS;have fT:=fG.bz.lt;have fU:=hT.out.mid fD;have x71:=fG.c7 gA fP.out;have gL:=fG.rng gA gD gJ.out)
        | (refine wpList_load_mid rfl 187 (.tmp 56) rfl b2 (off2+j * 128) rfl (bvs sd) _ gL Tryz.underlying187 rfl (by rw [zBd,zAe,fQ]) ?_)
        | (refine zAq rfl 121 187 (.tmp 57) rfl (bvs sd).toArray (by rfl) 128 Tryz.underlying121 zBd zHZ (by rw [List.size_toArray,zAe,fQ]) (by omega) (by omega) ?_)
        | (at_builtin;refine zAk _ rfl (.tmp 52) (.tmp 58) _ _ rfl (g+3) 187 iS (.agg Tryz.zeroCells187) 128 128 Tryz.underlying121 gC fK fL fM zCM u8 acc.length (secs (acc.map (·.2))) rfl (fU.alloc _) 1 (bvs sd) (zDq w1 sd fQ) (by unfold maxLen;omega) (by omega) (by simp;omega) ?_;intro v2 w2 fV fW fF;obtain⟨fO,fX⟩:=hT.out.step (by have:=hI.out.bz.lt;omega) fR fD fE (by simp) fV fW fF (by simp);have fB:=hI.out.chg fX))
       go_roundw
       case rel=>exact⟨j+1,acc++[(y,sd)],true,by omega,by go_num,rfl,by first | omega | (simp;omega),hf.out,fO,fB⟩
       case measure=>simp [intOf];omega
    | false =>
     rcases Nat.lt_trichotomy y k with gF | gF | gF
     · have gX:((y:Int) != (k:Int))=true:=by simp;omega
       have hf:Hid ((acc++[(y,sd)])++zBg kB (k,s) false ((x.idx.zip x.dat).drop (j+1))=zBg kB (k,s) false (x.idx.zip x.dat)):=by have:=fA.out;rw [if_neg (by rintro ⟨-,h⟩;omega),if_neg (by omega),decide_eq_false (by omega)] at this;simpa [Hid] using this
       clear fA
       go_wp2_with (first
        | (at_builtin;refine zAk _ rfl (.tmp 44) (.tmp 50) _ _ rfl (g+3) 3 iI (.int .i64 0) 1 8 Tryz.underlying92 gB fH fI fJ rfl u7 acc.length (nats (acc.map (·.1))) rfl (hT.out.ri.alloc _) 1 [.int .i64 (y:Int)] (zBH wr Tryz.underlying92 _ _ rfl) (by unfold maxLen;omega) (by omega) (by have:=hI.out.bz.lt;simp;omega) ?_;intro v1 w1 fR fD fE;have fS:Chg (fun b=>g+3≤b) wr w1:=((Chg.refl _ wr).alloc _).grown fD (fun g' e _=>(hT.out.ri.lt g' e).1);have fG:=hI.out.chg fS;have fT:=fG.bz.lt;have fU:=hT.out.mid fD;have x71:=fG.c7 gA fP.out;have gL:=fG.rng gA gD gJ.out)
        | (refine wpList_load_mid rfl 187 (.tmp 56) rfl b2 (off2+j * 128) rfl (bvs sd) _ gL Tryz.underlying187 rfl (by rw [zBd,zAe,fQ]) ?_)
        | (refine zAq rfl 121 187 (.tmp 57) rfl (bvs sd).toArray (by rfl) 128 Tryz.underlying121 zBd zHZ (by rw [List.size_toArray,zAe,fQ]) (by omega) (by omega) ?_)
        | (at_builtin;refine zAk _ rfl (.tmp 52) (.tmp 58) _ _ rfl (g+3) 187 iS (.agg Tryz.zeroCells187) 128 128 Tryz.underlying121 gC fK fL fM zCM u8 acc.length (secs (acc.map (·.2))) rfl (fU.alloc _) 1 (bvs sd) (zDq w1 sd fQ) (by unfold maxLen;omega) (by omega) (by simp;omega) ?_;intro v2 w2 fV fW fF;obtain⟨fO,fX⟩:=hT.out.step (by have:=hI.out.bz.lt;omega) fR fD fE (by simp) fV fW fF (by simp);have fB:=hI.out.chg fX))
       go_roundw
       case rel=>exact⟨j+1,acc++[(y,sd)],false,by omega,by go_num,rfl,by first | omega | (simp;omega),hf.out,fO,fB⟩
       case measure=>simp [intOf];omega
     · subst gF
       have hf:Hid ((acc++[(y,s)])++zBg kB (y,s) true ((x.idx.zip x.dat).drop (j+1))=zBg kB (y,s) false (x.idx.zip x.dat)):=by have:=fA.out;rw [if_pos ⟨rfl,by omega⟩,if_pos rfl,decide_eq_true (by omega)] at this;simpa [Hid] using this
       clear fA
       go_wp2_with (first
        | (at_builtin;refine zAk _ rfl (.tmp 29) (.tmp 31) _ _ rfl (g+3) 3 iI (.int .i64 0) 1 8 Tryz.underlying92 gB fH fI fJ rfl u7 acc.length (nats (acc.map (·.1))) rfl (hT.out.ri.alloc _) 1 [.int .i64 (y:Int)] (zBH wr Tryz.underlying92 _ _ rfl) (by unfold maxLen;omega) (by omega) (by have:=hI.out.bz.lt;simp;omega) ?_;intro v1 w1 fR fD fE;have fS:Chg (fun b=>g+3≤b) wr w1:=((Chg.refl _ wr).alloc _).grown fD (fun g' e _=>(hT.out.ri.lt g' e).1);have fG:=hI.out.chg fS;have fT:=fG.bz.lt;have fU:=hT.out.mid fD)
        | (refine wpList_load_row rfl 187 (.tmp 5) rfl (g+1) rfl 187 (bvs s).toArray _ _ fG.bs Tryz.underlying187 rfl (zAE hs) ?_)
        | (refine zAq rfl 121 187 (.tmp 34) rfl (bvs s).toArray (by rfl) 128 Tryz.underlying121 zBd zHZ (by rw [List.size_toArray,zAe,hs]) (by omega) (by omega) ?_)
        | (at_builtin;refine zAk _ rfl (.tmp 33) (.tmp 35) _ _ rfl (g+3) 187 iS (.agg Tryz.zeroCells187) 128 128 Tryz.underlying121 gC fK fL fM zCM u8 acc.length (secs (acc.map (·.2))) rfl (fU.alloc _) 1 (bvs s) (zDq w1 s hs) (by unfold maxLen;omega) (by omega) (by simp;omega) ?_;intro v2 w2 fV fW fF;obtain⟨fO,fX⟩:=hT.out.step (by have:=hI.out.bz.lt;omega) fR fD fE (by simp) fV fW fF (by simp);have fB:=hI.out.chg fX;have x62:=fB.c6 gI.out fC.out;have c02:=fB.get gI.out fZ gK.out))
       go_roundw
       case rel=>exact⟨j+1,acc++[(y,s)],true,by omega,by go_num,rfl,by first | omega | (simp;omega),hf.out,fO,fB⟩
       case measure=>simp [intOf];omega
     · have gX:((y:Int) != (k:Int))=true:=by simp;omega
       have hf:Hid ((acc++[(k,s)]++[(y,sd)])++zBg kB (k,s) true ((x.idx.zip x.dat).drop (j+1))=zBg kB (k,s) false (x.idx.zip x.dat)):=by have:=fA.out;rw [if_pos ⟨rfl,by omega⟩,if_neg (by omega),decide_eq_true (by omega)] at this;simpa [Hid] using this
       clear fA
       go_wp2_with (first
        | (at_builtin;refine zAk _ rfl (.tmp 29) (.tmp 31) _ _ rfl (g+3) 3 iI (.int .i64 0) 1 8 Tryz.underlying92 gB fH fI fJ rfl u7 acc.length (nats (acc.map (·.1))) rfl (hT.out.ri.alloc _) 1 [.int .i64 (k:Int)] (zBH wr Tryz.underlying92 _ _ rfl) (by unfold maxLen;omega) (by omega) (by have:=hI.out.bz.lt;simp;omega) ?_;intro v1 w1 fR fD fE;have fS:Chg (fun b=>g+3≤b) wr w1:=((Chg.refl _ wr).alloc _).grown fD (fun g' e _=>(hT.out.ri.lt g' e).1);have fG:=hI.out.chg fS;have fT:=fG.bz.lt;have fU:=hT.out.mid fD)
        | (refine wpList_load_row rfl 187 (.tmp 5) rfl (g+1) rfl 187 (bvs s).toArray _ _ fG.bs Tryz.underlying187 rfl (zAE hs) ?_)
        | (refine zAq rfl 121 187 (.tmp 34) rfl (bvs s).toArray (by rfl) 128 Tryz.underlying121 zBd zHZ (by rw [List.size_toArray,zAe,hs]) (by omega) (by omega) ?_)
        | (at_builtin;refine zAk _ rfl (.tmp 33) (.tmp 35) _ _ rfl (g+3) 187 iS (.agg Tryz.zeroCells187) 128 128 Tryz.underlying121 gC fK fL fM zCM u8 acc.length (secs (acc.map (·.2))) rfl (fU.alloc _) 1 (bvs s) (zDq w1 s hs) (by unfold maxLen;omega) (by omega) (by simp;omega) ?_;intro v2 w2 fV fW fF;obtain⟨fO,fX⟩:=hT.out.step (by have:=hI.out.bz.lt;omega) fR fD fE (by simp) fV fW fF (by simp);have fB:=hI.out.chg fX;have x62:=fB.c6 gI.out fC.out;have c02:=fB.get gI.out fZ gK.out;have jA:(acc++[(k,s)]).length≤2 * j+1:=by simp;omega)
        | (at_builtin;refine zAk _ rfl (.tmp 44) (.tmp 50) _ _ rfl (g+3) 3 iI (.int .i64 0) 1 8 Tryz.underlying92 gB fH fI fJ rfl v1 (acc++[(k,s)]).length (nats ((acc++[(k,s)]).map (·.1))) rfl (fO.ri.alloc _) 1 [.int .i64 (y:Int)] (zBH w2 Tryz.underlying92 _ _ rfl) (by unfold maxLen;omega) (by omega) (by have:=fB.bz.lt;simp;omega) ?_;intro v3 w3 jB gM gN;have jC:Chg (fun b=>g+3≤b) w2 w3:=((Chg.refl _ w2).alloc _).grown gM (fun g' e _=>(fO.ri.lt g' e).1);have gO:=fB.chg jC;have jD:=gO.bz.lt;have jE:=fO.mid gM;have x73:=gO.c7 gA fP.out;have jF:=gO.rng gA gD gJ.out)
        | (refine wpList_load_mid rfl 187 (.tmp 56) rfl b2 (off2+j * 128) rfl (bvs sd) _ jF Tryz.underlying187 rfl (by rw [zBd,zAe,fQ]) ?_)
        | (refine zAq rfl 121 187 (.tmp 57) rfl (bvs sd).toArray (by rfl) 128 Tryz.underlying121 zBd zHZ (by rw [List.size_toArray,zAe,fQ]) (by omega) (by omega) ?_)
        | (at_builtin;refine zAk _ rfl (.tmp 52) (.tmp 58) _ _ rfl (g+3) 187 iS (.agg Tryz.zeroCells187) 128 128 Tryz.underlying121 gC fK fL fM zCM v2 (acc++[(k,s)]).length (secs ((acc++[(k,s)]).map (·.2))) rfl (jE.alloc _) 1 (bvs sd) (zDq w3 sd fQ) (by unfold maxLen;omega) (by omega) (by simp;omega) ?_;intro v4 w4 jG jH gP;obtain⟨jI,jJ⟩:=fO.step (by have:=fB.bz.lt;omega) jB gM gN (by simp) jG jH gP (by simp);have jK:=fB.chg jJ))
       go_roundw
       case rel=>exact⟨j+1,acc++[(k,s)]++[(y,sd)],true,by omega,by go_num,rfl,by first | omega | (simp;omega),hf.out,jI,jK⟩
       case measure=>simp [intOf];omega
  · obtain rfl:j=len:=by omega
    have gG:Hid ((x.idx.zip x.dat).drop j=[]):=List.drop_eq_nil_of_le (by rw [List.length_zip];have:=fC.out;omega)
    cases db with
    | true =>
     have hf:Hid (acc=zBg kB (k,s) false (x.idx.zip x.dat)):=by have:=fN.out;rw [gG.out] at this;simpa [Hid,zBg] using this
     clear fN;obtain⟨n,hn⟩:∃ n,(acc).length=n:=⟨_,rfl⟩;have gQ:=hid hn;clear hn;obtain⟨⟨A1,c1,rfl⟩,A2,c2,rfl⟩:=two_len hT.out gQ.out;have f6:=hI.out.bx.frozen 6;have f7:=hI.out.bx.frozen 7;have z6:wr.cell? ⟨g,6,none⟩=some (.slice x.iA x.idx.length x.ic):=hI.out.bx.cell 6;have z7:wr.cell? ⟨g,7,none⟩=some (.slice x.dA x.dat.length x.dc):=hI.out.bx.cell 7;have gR:Blk ((wr.setCell ⟨g,6,none⟩ (.slice A1 n c1)).setCell ⟨g,7,none⟩ (.slice A2 n c2)) g 123 [.int .i64 x.ino,.int .i64 x.kind,.int .i64 x.links,.int .i64 x.size,.int .i64 x.made,.int .i64 x.birth,.slice A1 n c1,.slice A2 n c2]:=(hI.out.bx.set_ 6 _).set_ 7 _;have gH:Blk ((wr.setCell ⟨g,6,none⟩ (.slice A1 n c1)).setCell ⟨g,7,none⟩ (.slice A2 n c2)) (g+2) 123 z8:=(hI.out.bz.far (by simp) _).far (by simp) _
     go_wp2_with (first
      | (refine wpList_load_row rfl 123 (.tmp 3) rfl g rfl 123 _ _ _ gR rfl rfl rfl ?_)
      | (refine wpList_store_row rfl 123 (.tmp 6) (.tmp 74) rfl (g+2) _ rfl rfl 123 _ gH rfl rfl (one8v _ _ _ _ _ _ _ _ _ _ _ _) ?_))
     have gS:=setRow_heap ((wr.setCell ⟨g,6,none⟩ (.slice A1 n c1)).setCell ⟨g,7,none⟩ (.slice A2 n c2)) (g+2) _ ([.int .i64 x.ino,.int .i64 x.kind,.int .i64 x.links,.int .i64 x.size,.int .i64 x.made,.int .i64 x.birth,.slice A1 n c1,.slice A2 n c2]:List Value).toArray _ _ gH;refine bodyPost_ret (results_cell_row rfl _ _ (g+2) 123 ([.int .i64 x.ino,.int .i64 x.kind,.int .i64 x.links,.int .i64 x.size,.int .i64 x.made,.int .i64 x.birth,.slice A1 n c1,.slice A2 n c2]:List Value).toArray (0,0) _ rfl gS Tryz.underlying123 rfl rfl) rfl ?_;exact zJf hI.out hT.out hf.out hs gU.out _ [.int .i64 x.ino,.int .i64 x.kind,.int .i64 x.links,.int .i64 x.size,.int .i64 x.made,.int .i64 x.birth,.slice A1 n c1,.slice A2 n c2] rfl
    | false =>
     have hf:Hid (acc++[(k,s)]=zBg kB (k,s) false (x.idx.zip x.dat)):=by have:=fN.out;rw [gG.out] at this;simpa [Hid,zBg] using this
     clear fN
     go_upto_region 17 with (first
      | (at_builtin;refine zAk _ rfl (.tmp 62) (.tmp 64) _ _ rfl (g+3) 3 iI (.int .i64 0) 1 8 Tryz.underlying92 gB fH fI fJ rfl u7 acc.length (nats (acc.map (·.1))) rfl (hT.out.ri.alloc _) 1 [.int .i64 (k:Int)] (zBH wr Tryz.underlying92 _ _ rfl) (by unfold maxLen;omega) (by omega) (by have:=hI.out.bz.lt;simp;omega) ?_;intro v1 w1 fR fD fE;have fS:Chg (fun b=>g+3≤b) wr w1:=((Chg.refl _ wr).alloc _).grown fD (fun g' e _=>(hT.out.ri.lt g' e).1);have fG:=hI.out.chg fS;have fT:=fG.bz.lt;have fU:=hT.out.mid fD)
      | (refine wpList_load_row rfl 187 (.tmp 5) rfl (g+1) rfl 187 (bvs s).toArray _ _ fG.bs Tryz.underlying187 rfl (zAE hs) ?_)
      | (refine zAq rfl 121 187 (.tmp 67) rfl (bvs s).toArray (by rfl) 128 Tryz.underlying121 zBd zHZ (by rw [List.size_toArray,zAe,hs]) (by omega) (by omega) ?_)
      | (at_builtin;refine zAk _ rfl (.tmp 66) (.tmp 68) _ _ rfl (g+3) 187 iS (.agg Tryz.zeroCells187) 128 128 Tryz.underlying121 gC fK fL fM zCM u8 acc.length (secs (acc.map (·.2))) rfl (fU.alloc _) 1 (bvs s) (zDq w1 s hs) (by unfold maxLen;omega) (by omega) (by simp;omega) ?_;intro v2 w2 fV fW fF;obtain⟨fO,fX⟩:=hT.out.step (by have:=hI.out.bz.lt;omega) fR fD fE (by simp) fV fW fF (by simp);have fB:=hI.out.chg fX))
     obtain⟨n,hn⟩:∃ n,(acc++[(k,s)]).length=n:=⟨_,rfl⟩;have gQ:=hid hn;clear hn;obtain⟨⟨A1,c1,rfl⟩,A2,c2,rfl⟩:=two_len fO gQ.out;have f6:=fB.bx.frozen 6;have f7:=fB.bx.frozen 7;have z6:w2.cell? ⟨g,6,none⟩=some (.slice x.iA x.idx.length x.ic):=fB.bx.cell 6;have z7:w2.cell? ⟨g,7,none⟩=some (.slice x.dA x.dat.length x.dc):=fB.bx.cell 7;have gR:Blk ((w2.setCell ⟨g,6,none⟩ (.slice A1 n c1)).setCell ⟨g,7,none⟩ (.slice A2 n c2)) g 123 [.int .i64 x.ino,.int .i64 x.kind,.int .i64 x.links,.int .i64 x.size,.int .i64 x.made,.int .i64 x.birth,.slice A1 n c1,.slice A2 n c2]:=(fB.bx.set_ 6 _).set_ 7 _;have gH:Blk ((w2.setCell ⟨g,6,none⟩ (.slice A1 n c1)).setCell ⟨g,7,none⟩ (.slice A2 n c2)) (g+2) 123 z8:=(fB.bz.far (by simp) _).far (by simp) _
     go_wp2_with (first
      | (refine wpList_load_row rfl 123 (.tmp 3) rfl g rfl 123 _ _ _ gR rfl rfl rfl ?_)
      | (refine wpList_store_row rfl 123 (.tmp 6) (.tmp 74) rfl (g+2) _ rfl rfl 123 _ gH rfl rfl (one8v _ _ _ _ _ _ _ _ _ _ _ _) ?_))
     have gS:=setRow_heap ((w2.setCell ⟨g,6,none⟩ (.slice A1 n c1)).setCell ⟨g,7,none⟩ (.slice A2 n c2)) (g+2) _ ([.int .i64 x.ino,.int .i64 x.kind,.int .i64 x.links,.int .i64 x.size,.int .i64 x.made,.int .i64 x.birth,.slice A1 n c1,.slice A2 n c2]:List Value).toArray _ _ gH;refine bodyPost_ret (results_cell_row rfl _ _ (g+2) 123 ([.int .i64 x.ino,.int .i64 x.kind,.int .i64 x.links,.int .i64 x.size,.int .i64 x.made,.int .i64 x.birth,.slice A1 n c1,.slice A2 n c2]:List Value).toArray (0,0) _ rfl gS Tryz.underlying123 rfl rfl) rfl ?_;exact zJf fB fO hf.out hs gU.out _ [.int .i64 x.ino,.int .i64 x.kind,.int .i64 x.links,.int .i64 x.size,.int .i64 x.made,.int .i64 x.birth,.slice A1 n c1,.slice A2 n c2] rfl
end Go.Proofs.YtolpcfhfcdkokaaGreatDoor
