/- Joined out of RWithout..RWith. -/
import Derived.Test.YtolpcfhfcdkokaaGreatDoorQ17
set_option maxHeartbeats 16000000
set_option maxRecDepth 100000
namespace Go.Proofs.YtolpcfhfcdkokaaGreatDoor
open Lib (hid)
open Go.RowKit
theorem zGy:(Tryz.prog.info? 123).map (fun i=>(i.zero,i.size,i.bytes))=some (some (.agg z8.toArray),8,96):=by kernel_rfl
theorem zEa:((Tryz.prog.info? 123).bind (·.zero)).map (·.cells.size)=some 8:=by kernel_rfl
theorem one8m (x:Hd):∀ u∈zAb x,u.oneCell'=true:=by
 intro v hv;simp only [zAb,List.mem_cons,List.not_mem_nil,or_false] at hv;rcases hv with rfl | rfl | rfl | rfl | rfl | rfl | rfl | rfl<;>rfl
theorem zCJ (w:World) (x:Hd):Src Tryz.prog 8 26 (.slice (some ⟨w.heap.size,0,none⟩) 1 1) 1 (zAb x) (w.alloc (.cells (zAb x).toArray 123)) :=
 zBP (P:=Tryz.prog) Tryz.underlying26 (Blk.new w 123 (zAb x)) (one8m x)
abbrev zAa (t:Tr):List Value:=[.int .i64 t.sectors,.int .i64 t.inodes,.int .i64 t.births,.slice t.A t.l.length t.c]
abbrev z4:List Value:=[.int .i64 0,.int .i64 0,.int .i64 0,.slice none 0 0]
theorem one4v (a b c:Int) (A1:Option Addr) (n c1:Nat):(#[.int .i64 a,.int .i64 b,.int .i64 c,.slice A1 n c1]:Array Value).all (·.oneCell')=true:=by
 rw [Array.all_eq_true_iff_forall_mem];intro v hv;simp only [List.mem_toArray,List.mem_cons,List.not_mem_nil,or_false] at hv;rcases hv with rfl | rfl | rfl | rfl<;>rfl
structure TreeI (w:World) (g r:Nat) (t:Tr) (wr:World):Prop where
 lt:g<r
 bt:Blk wr g 28 (zAa t)
 bz:Blk wr r 28 z4
 tr:TrAt wr g t
 ch:Below g w wr
def zEK (w:World) (base:Nat) (v:Value) (l:List Hd):Prop:=w.ownsRow base 123 8 v l.length (l.flatMap zAb)
section
variable {w wr w2:World} {g r j len b off:Nat} {t:Tr} {x:Hd}
theorem TreeI.chg (h:TreeI w g r t wr) (hc:Chg (fun b=>r+1≤b) wr w2):TreeI w g r t w2:=by
 have h1:=h.bz.lt;have h0:=h.lt
 have hb:Below g wr w2:=hc.below (by omega) fun b hb hS=>by omega
 exact⟨h.lt,h.bt.chg hc (by omega),h.bz.chg hc (by omega),h.tr.below hb,h.ch.trans hb⟩
theorem TreeI.c3 (h:TreeI w g r t wr) (hA:t.A=some ⟨b,off,none⟩) (hl:len=t.l.length):wr.cell? ⟨g,3,none⟩=some (.slice (some ⟨b,off,none⟩) len t.c):=by
 rw [hl,←hA];exact h.bt.cell 3
theorem TreeI.get (h:TreeI w g r t wr) (hA:t.A=some ⟨b,off,none⟩) (hj:j<t.l.length) (hx:t.l[j]=x):wr.rangeAt b (off+j * 8) (zAb x):=by
 obtain⟨b',off',fA,_,hc⟩:=h.tr.range wr g t j hj;rw [hA] at fA;injection fA with fA;injection fA with h1 h2;subst h1 h2 hx;exact hc
theorem zEK.nil (w:World) (base:Nat):zEK w base (.slice none 0 0) []:=World.ownsRow_nil w base _ _
theorem zEK.form {base n:Nat} {v:Value} {l:List Hd} (h:zEK w base v l) (hn:l.length=n):∃ A c,v=.slice A n c:=by
 subst hn;obtain⟨A,c,hv,_⟩:=Sees.of_own (B:=w.heap.size) h fun g hg=>(World.ownsRow.lt h g hg).2;exact⟨A,c,hv⟩
theorem zEK.snoc {base:Nat} {v':Value} {l:List Hd} (r1:w2.ownsRow base 123 8 v' (l.length+1) (l.flatMap zAb++zAb x)):zEK w2 base v' (l++[x]):=by
 unfold zEK;rw [List.length_append,List.flatMap_append];simpa using r1
end
def zFO (n:Nat) (A:Option Addr):Prop:=∀ a,A=some a→n≤a.block
theorem zFP {w wr:World} {g r n c1:Nat} {t:Tr} {A1:Option Addr} {l:List Hd} (hI:TreeI w g r t wr) (hT:zEK wr (r+1) (.slice A1 n c1) l) (hn:l.length=n)
 (hh:∀ x∈l,HdAt wr g x) (hg:w.heap.size=g) (W:World) (cs:List Value)
 (hW:W=(wr.setCell ⟨g,3,none⟩ (.slice A1 n c1)).setRow r cs.toArray) :
 (∃ A c,l.length≤c∧Ending.returned (.agg #[.int .i64 t.sectors,.int .i64 t.inodes,.int .i64 t.births,.slice A1 n c1])=.returned (trV {t with A:=A,c:=c,l:=l}) ∧
  TrAt W W.heap.size {t with A:=A,c:=c,l:=l}∧zFO w.heap.size A)∧Below w.heap.size w W:=by
 have hz:=hI.bz.lt;have h0:=hI.lt
 have hc:Chg (fun b=>g≤b∧b<r+1) wr W:=by
  rw [hW];exact ((Chg.refl _ wr).setCell (p:=⟨g,3,none⟩) (fun _=>⟨Nat.le_refl _,by show g<r+1;omega⟩) _).setRow (g:=r) (fun _=>⟨by omega,by omega⟩) _
 have hb:Below g wr W:=hc.below (by omega) fun b hb h=>by omega
 have fB:zEK W (r+1) (.slice A1 n c1) l:=zAo hT hc fun g' fD h=>by have:=(World.ownsRow.lt hT g' fD).1;omega
 obtain⟨A,c,hv,h1⟩:=Sees.of_own (B:=W.heap.size) fB fun g hg=>(World.ownsRow.lt fB g hg).2;injection hv with e1 e2 e3
 have fA:l.length≤c1∧zFO w.heap.size A1:=by
  rcases fB.2 with ⟨h9,h8⟩ | ⟨g',cap,cur,h9,hgb,_,hnc,_⟩
  · injection h9 with fC _ h10;exact⟨by omega,fun a e=>by rw [fC] at e;cases e⟩
  · injection h9 with fC _ h10;exact⟨by omega,fun a e=>by rw [fC] at e;injection e with e;rw [←e,hg];show g≤g';omega⟩
 subst e1 hn;refine⟨⟨A1,c1,fA.1,rfl,⟨h1,fun x hx=>((hh x hx).below hb).more (by have:=hc.size;omega)⟩,fA.2⟩,?_⟩;rw [hg];exact hI.ch.trans hb
theorem zHQ (B:Nat) (t:Tr) (i:Int) (w:World) (ht:TrAt w B t) (hB:B≤w.heap.size) (hl:t.l.length≤600) :
 Calls Tryz.prog 135 #[trV t,.int .i64 i] w fun e w'=>(∃ A c,(t.l.filter fun y=>decide (y.ino≠i)).length≤c∧e=.returned (trV {t with A:=A,c:=c,l:=t.l.filter fun y=>decide (y.ino≠i)}) ∧
  TrAt w' w'.heap.size {t with A:=A,c:=c,l:=t.l.filter fun y=>decide (y.ino≠i)}∧zFO w.heap.size A)∧Below w.heap.size w w':=by
 obtain⟨iH,fN,fG,fH,fI⟩:=info_parts zGy
 have fK:TreeI w w.heap.size (w.heap.size+1) t ((w.alloc (.cells (zAa t).toArray 28)).alloc (.cells z4.toArray 28)):=by
  have hb:Below w.heap.size w ((w.alloc (.cells (zAa t).toArray 28)).alloc (.cells z4.toArray 28)):=((Below.refl _ _).alloc (Nat.le_refl _) _).alloc (by simp) _;refine⟨Nat.lt_succ_self _,(Blk.new w 28 (zAa t)).alloc _,?_,(ht.more hB).below hb,hb⟩;have:=Blk.new (w.alloc (.cells (zAa t).toArray 28)) 28 z4;simpa using this
 unfold trV;go_enter Tryz.func135,Tryz.ntmps135;go_upto_region 1 with (fail);generalize (w.alloc (.cells #[.int .i64 t.sectors,.int .i64 t.inodes,.int .i64 t.births,.slice t.A t.l.length t.c] 28)).alloc (.cells #[.int .i64 0,.int .i64 0,.int .i64 0,.slice none 0 0] 28)=w0 at *;generalize hg:w.heap.size=g at *;have fO:=hid hg;clear hg ht;obtain⟨len,fC⟩:∃ len,len=t.l.length:=⟨_,rfl⟩;have fA:=hid fC;rw [←fC] at hl ⊢;clear fC;go_wp2
 go_loopw [5,6] (fun v i' wr=>∃ (j:Nat) (acc:List Hd),j≤len∧i'=.int .i64 j∧acc.length≤j ∧
  Hid (acc++(t.l.drop j).filter (fun y=>decide (y.ino≠i))=t.l.filter fun y=>decide (y.ino≠i))∧Hid (zEK wr (g+1+1) v acc)∧Hid (TreeI w g (g+1) t wr)) (fun _ i' _=>len-(intOf i').toNat)
 case atStart=>exact⟨0,[],Nat.zero_le _,rfl,by simp,by simp [Hid],zEK.nil _ _,fK⟩
 case round =>
  obtain⟨j,acc,hj,rfl,fX,fB,hT,hI⟩:=hrel;clear fK;by_cases fY:j<len
  · have fD:j<t.l.length:=by have:=fA.out;omega
    obtain⟨b,off,hA,fZ,-⟩:=hI.out.tr.row.at_ (by omega);have x3:=hI.out.c3 hA fA.out;have hr:=hI.out.get hA fD rfl
    have fF:Hid ((t.l.drop j).filter (fun y=>decide (y.ino≠i))=(if t.l[j].ino=i then [] else [t.l[j]])++(t.l.drop (j+1)).filter (fun y=>decide (y.ino≠i))):=by
     show _=_
     rw [List.drop_eq_getElem_cons fD,List.filter_cons];by_cases e:t.l[j].ino=i<;>simp [e]
    generalize t.l[j]=y at *;have c0:wr.cell? ⟨b,off+j * 8,none⟩=some (.int .i64 y.ino):=hr 0 _ rfl;clear hA;by_cases he:y.ino=i
    · have hf:Hid (acc++(t.l.drop (j+1)).filter (fun y=>decide (y.ino≠i))=t.l.filter fun y=>decide (y.ino≠i)):=by
       have:=fB.out;rw [fF.out,if_pos he] at this;exact this
      rw [he] at c0;clear fB fF he;go_wp2;go_roundw
      case rel=>exact⟨j+1,acc,by omega,by go_num,by omega,hf.out,hT.out,hI.out⟩
      case measure=>simp [intOf];omega
    · have hf:Hid ((acc++[y])++(t.l.drop (j+1)).filter (fun y=>decide (y.ino≠i))=t.l.filter fun y=>decide (y.ino≠i)):=by
       have:=fB.out;rw [fF.out,if_neg he] at this;simpa [Hid] using this
      have gA:(y.ino != i)=true:=by simpa using he
      have hz:=hI.out.bz.lt;have fP:Hid (∀ g',u5.ownBlock=some g'→g+1+1≤g'):=fun g' e=>(World.ownsRow.lt hT.out g' e).1;clear fB fF he
      go_wp2_with (first
       | (refine wpList_load_mid rfl 123 (.tmp 26) rfl b (off+j * 8) rfl (zAb y) _ hr Tryz.underlying123 rfl rfl ?_)
       | (refine zAq rfl 26 123 (.tmp 27) rfl (zAb y).toArray (by rfl) 8 Tryz.underlying26 zCf zEa rfl (by omega) (by omega) ?_)
       | (at_builtin;refine zAk _ rfl (.tmp 22) (.tmp 28) _ _ rfl (g+1+1) 123 iH (.agg z8.toArray) 8 96 Tryz.underlying26 fN fG fH fI rfl u5 acc.length (acc.flatMap zAb) rfl (hT.out.alloc _) 1 (zAb y) (zCJ wr y) (by unfold maxLen;omega) (by omega) (by simp;omega) ?_;intro v1 w1 fQ fR fS;have fT:Chg (fun b=>g+1+1≤b) wr w1:=((Chg.refl _ wr).alloc _).grown fR (fun g' e _=>fP.out g' e);have fU:=hI.out.chg fT))
      go_roundw
      case rel=>exact⟨j+1,acc++[y],by omega,by go_num,by simp;omega,hf.out,zEK.snoc fQ,fU⟩
      case measure=>simp [intOf];omega
  · obtain rfl:j=len:=by omega
    have fJ:Hid (t.l.drop j=[]):=List.drop_eq_nil_of_le (by have:=fA.out;omega)
    have hf:Hid (acc=t.l.filter fun y=>decide (y.ino≠i)):=by have:=fB.out;rw [fJ.out] at this;simpa [Hid] using this
    have x3:wr.cell? ⟨g,3,none⟩=some (.slice t.A j t.c):=by rw [fA.out];exact hI.out.bt.cell 3
    clear fB;go_upto_region 7 with (fail);obtain⟨n,hn⟩:∃ n,acc.length=n:=⟨_,rfl⟩;have fL:=hid hn;clear hn;obtain⟨A1,c1,rfl⟩:=hT.out.form fL.out;have f3:=hI.out.bt.frozen 3;have fV:Blk (wr.setCell ⟨g,3,none⟩ (.slice A1 n c1)) g 28 [.int .i64 t.sectors,.int .i64 t.inodes,.int .i64 t.births,.slice A1 n c1]:=hI.out.bt.set_ 3 _;have fM:Blk (wr.setCell ⟨g,3,none⟩ (.slice A1 n c1)) (g+1) 28 z4:=hI.out.bz.far (by simp) _;have fW:=setRow_heap (wr.setCell ⟨g,3,none⟩ (.slice A1 n c1)) (g+1) _ ([.int .i64 t.sectors,.int .i64 t.inodes,.int .i64 t.births,.slice A1 n c1]:List Value).toArray _ _ fM
    go_wp2_with (first
     | (refine wpList_load_row rfl 28 (.tmp 2) rfl g rfl 28 _ _ _ fV rfl rfl rfl ?_)
     | (refine wpList_store_row rfl 28 (.tmp 4) (.tmp 32) rfl (g+1) _ rfl rfl 28 _ fM rfl rfl (one4v _ _ _ _ _ _) ?_))
    refine bodyPost_ret (results_cell_row rfl _ _ (g+1) 28 ([.int .i64 t.sectors,.int .i64 t.inodes,.int .i64 t.births,.slice A1 n c1]:List Value).toArray (0,0) _ rfl fW Tryz.underlying28 rfl rfl) rfl ?_;have fE:=zFP hI.out hT.out fL.out (fun x hx=>hI.out.tr.hds x (by rw [hf.out] at hx;exact (List.mem_filter.1 hx).1)) fO.out _ [.int .i64 t.sectors,.int .i64 t.inodes,.int .i64 t.births,.slice A1 n c1] rfl;rw [hf.out] at fE;exact fE
abbrev kH (x:Hd):Int:=x.ino
structure WithI (w:World) (g:Nat) (t:Tr) (x:Hd) (wr:World):Prop where
 ti:TreeI w g (g+2) t wr
 bx:Blk wr (g+1) 123 (zAb x)
 hx:HdAt wr g x
theorem WithI.chg {w wr w2:World} {g:Nat} {t:Tr} {x:Hd} (h:WithI w g t x wr) (hc:Chg (fun b=>g+3≤b) wr w2):WithI w g t x w2:=by
 have hz:=h.ti.bz.lt;have h0:=h.ti.lt
 have hb:Below g wr w2:=hc.below (by omega) fun b hb hS=>by omega
 exact⟨h.ti.chg hc,h.bx.chg hc (by omega),h.hx.below hb⟩
theorem WithI.drewN {w wr:World} {g:Nat} {t:Tr} {x:Hd} (h:WithI w g t x wr) (n:Nat):WithI w g t x (wr.drewN n):=h.chg (Chg.drewN (Chg.refl _ wr) n)
theorem zEK.drewN {wr:World} {base:Nat} {v:Value} {l:List Hd} (h:zEK wr base v l) (n:Nat):zEK (wr.drewN n) base v l:=zAo h (Chg.drewN (Chg.refl (fun _=>False) wr) n) fun _ _ e=>e
theorem with_any (B:Nat) (t:Tr) (x:Hd) (w:World) (ht:TrAt w B t) (hx:HdAt w B x) (hB:B≤w.heap.size) (hl:t.l.length≤600) :
 Calls Tryz.prog 113 #[trV t,hdV x] w fun e w'=>(∃ A c,(zBg kH x false t.l).length≤c∧e=.returned (trV {t with A:=A,c:=c,l:=zBg kH x false t.l}) ∧
  TrAt w' w'.heap.size {t with A:=A,c:=c,l:=zBg kH x false t.l}∧zFO w.heap.size A)∧Below w.heap.size w w':=by
 obtain⟨iH,fS,fI,fJ,fK⟩:=info_parts zGy
 have gL:WithI w w.heap.size t x (((w.alloc (.cells (zAa t).toArray 28)).alloc (.cells (zAb x).toArray 123)).alloc (.cells z4.toArray 28)):=by
  have hb:Below w.heap.size w (((w.alloc (.cells (zAa t).toArray 28)).alloc (.cells (zAb x).toArray 123)).alloc (.cells z4.toArray 28)):=(((Below.refl _ _).alloc (Nat.le_refl _) _).alloc (by simp) _).alloc (by simp;omega) _;refine⟨⟨by omega,((Blk.new w 28 (zAa t)).alloc _).alloc _,?_,(ht.more hB).below hb,hb⟩,?_,(hx.more hB).below hb⟩
  · have:=Blk.new ((w.alloc (.cells (zAa t).toArray 28)).alloc (.cells (zAb x).toArray 123)) 28 z4;simpa using this
  · have:=(Blk.new (w.alloc (.cells (zAa t).toArray 28)) 123 (zAb x)).alloc (.cells z4.toArray 28);simpa using this
 unfold trV hdV;go_enter Tryz.func113,Tryz.ntmps113;go_upto_region 1 with (fail);generalize ((w.alloc (.cells #[.int .i64 t.sectors,.int .i64 t.inodes,.int .i64 t.births,.slice t.A t.l.length t.c] 28)).alloc (.cells (zAb x).toArray 123)).alloc (.cells #[.int .i64 0,.int .i64 0,.int .i64 0,.slice none 0 0] 28)=w0 at *;generalize hg:w.heap.size=g at *;have gM:=hid hg;clear hg ht hx;obtain⟨len,fR⟩:∃ len,len=t.l.length:=⟨_,rfl⟩;have fA:=hid fR;rw [←fR] at hl ⊢;clear fR;go_wp2
 go_loopw [5,6,7] (fun v d i' wr=>∃ (j:Nat) (acc:List Hd) (db:Bool),j≤len∧i'=.int .i64 j∧d=.bool db∧acc.length≤2 * j ∧
  Hid (acc++zBg kH x db (t.l.drop j)=zBg kH x false t.l)∧Hid (zEK wr (g+3) v acc)∧Hid (WithI w g t x wr)) (fun _ _ i' _=>len-(intOf i').toNat)
 case atStart=>exact⟨0,[],false,Nat.zero_le _,rfl,rfl,by simp,by simp [Hid],zEK.nil _ _,gL⟩
 case round =>
  obtain⟨j,acc,db,hj,rfl,rfl,gX,fL,hT,hI⟩:=hrel;clear gL;by_cases gY:j<len
  · have fE:j<t.l.length:=by have:=fA.out;omega
    obtain⟨b,off,hA,gZ,-⟩:=hI.out.ti.tr.row.at_ (by omega);have fF:=hid hA;have x3:=hI.out.ti.c3 hA fA.out;have hr:=hI.out.ti.get hA fE rfl;have x0:wr.cell? ⟨g+1,0,none⟩=some (.int .i64 x.ino):=hI.out.bx.cell 0;have gN:Hid (t.l.drop j=t.l[j]::t.l.drop (j+1)):=List.drop_eq_getElem_cons fE;have fM:Hid (t.l[j]=t.l[j]):=rfl
    have fC:Hid (acc++((if db=false∧x.ino≤t.l[j].ino then [x] else [])++((if t.l[j].ino=x.ino then [] else [t.l[j]])++zBg kH x (db || decide (x.ino≤t.l[j].ino)) (t.l.drop (j+1))))=zBg kH x false t.l):=by
     have:=fL.out;rw [gN.out] at this;exact this
    generalize gO:t.l[j]=y at *;have fM:Hid (t.l[j]=y):=gO;clear gO fL gN;have c0:wr.cell? ⟨b,off+j * 8,none⟩=some (.int .i64 y.ino):=hr 0 _ rfl;clear hA;have hz:=hI.out.ti.bz.lt
    have j0:(0:Int)≤(j:Int):=by omega
    have j1:(j:Int)<(len:Int):=by omega
    cases db with
    | true =>
     by_cases fN:y.ino=x.ino
     · have hf:Hid (acc++zBg kH x true (t.l.drop (j+1))=zBg kH x false t.l):=by have:=fC.out;simpa [Hid,fN] using this
       have gC:(y.ino != x.ino)=false:=by simp [fN]
       have gE:¬y.ino≠x.ino:=by simp [fN]
       clear fC;go_upto_region 6 with (fail)
       go_quiet (fail)
       have fD:=hI.out.drewN nq;have fO:=hT.out.drewN nq;clear x3 hr x0 c0;generalize wr.drewN nq=w1 at *;have x3:=fD.ti.c3 fF.out fA.out;have hr:=fD.ti.get fF.out fE fM.out;have x0:w1.cell? ⟨g+1,0,none⟩=some (.int .i64 x.ino):=fD.bx.cell 0;have c0:w1.cell? ⟨b,off+j * 8,none⟩=some (.int .i64 y.ino):=hr 0 _ rfl;have gD:=fD.ti.bz.lt;go_upto_region 9 with (fail)
       go_quiet (fail)
       have fB:=fD.drewN nq;have fH:=fO.drewN nq;clear x3 hr x0 c0;generalize w1.drewN nq=w2 at *;have x3:=fB.ti.c3 fF.out fA.out;have hr:=fB.ti.get fF.out fE fM.out;have x0:w2.cell? ⟨g+1,0,none⟩=some (.int .i64 x.ino):=fB.bx.cell 0;have c0:w2.cell? ⟨b,off+j * 8,none⟩=some (.int .i64 y.ino):=hr 0 _ rfl;have gP:=fB.ti.bz.lt;go_wp2;go_roundw
       case rel=>exact⟨j+1,acc,true,by omega,by go_num,rfl,by first | omega | (simp;omega),hf.out,fH,fB⟩
       case measure=>simp [intOf];omega
     · have hf:Hid ((acc++[y])++zBg kH x true (t.l.drop (j+1))=zBg kH x false t.l):=by have:=fC.out;simp [Hid] at this ⊢;rw [if_neg fN] at this;simpa using this
       have gC:(y.ino != x.ino)=true:=by simpa using fN
       clear fC;go_upto_region 6 with (fail)
       go_quiet (fail)
       have fD:=hI.out.drewN nq;have fO:=hT.out.drewN nq;clear x3 hr x0 c0;generalize wr.drewN nq=w1 at *;have x3:=fD.ti.c3 fF.out fA.out;have hr:=fD.ti.get fF.out fE fM.out;have x0:w1.cell? ⟨g+1,0,none⟩=some (.int .i64 x.ino):=fD.bx.cell 0;have c0:w1.cell? ⟨b,off+j * 8,none⟩=some (.int .i64 y.ino):=hr 0 _ rfl;have gD:=fD.ti.bz.lt;go_upto_region 9 with (fail)
       go_quiet (fail)
       have fB:=fD.drewN nq;have fH:=fO.drewN nq;clear x3 hr x0 c0;generalize w1.drewN nq=w2 at *;have x3:=fB.ti.c3 fF.out fA.out;have hr:=fB.ti.get fF.out fE fM.out;have x0:w2.cell? ⟨g+1,0,none⟩=some (.int .i64 x.ino):=fB.bx.cell 0;have c0:w2.cell? ⟨b,off+j * 8,none⟩=some (.int .i64 y.ino):=hr 0 _ rfl;have gP:=fB.ti.bz.lt
       go_wp2_with (first
        | (refine wpList_load_mid rfl 123 (.tmp 45) rfl b (off+j * 8) rfl (zAb y) _ hr Tryz.underlying123 rfl rfl ?_)
        | (refine zAq rfl 26 123 (.tmp 46) rfl (zAb y).toArray (by rfl) 8 Tryz.underlying26 zCf zEa rfl (by omega) (by omega) ?_)
        | (at_builtin;refine zAk _ rfl (.tmp 41) (.tmp 47) _ _ rfl (g+3) 123 iH (.agg z8.toArray) 8 96 Tryz.underlying26 fS fI fJ fK rfl u5 (acc).length ((acc).flatMap zAb) rfl (fH.alloc _) 1 (zAb y) (zCJ w2 y) (by unfold maxLen;(try simp only [List.length_append,List.length_cons,List.length_nil]);omega) (by (try simp only [List.length_append,List.length_cons,List.length_nil]);omega) (by simp;omega) ?_;intro v3 w3 gF gG gH;have gI:Chg (fun b=>g+3≤b) w2 w3:=((Chg.refl _ w2).alloc _).grown gG (fun g' e _=>(World.ownsRow.lt fH g' e).1);have fG:=fB.chg gI;have fQ:=zEK.snoc gF))
       go_roundw
       case rel=>exact⟨j+1,acc++[y],true,by omega,by go_num,rfl,by first | omega | (simp;omega),hf.out,fQ,fG⟩
       case measure=>simp [intOf];omega
    | false =>
     rcases Int.lt_trichotomy y.ino x.ino with fN | fN | fN
     · have hf:Hid ((acc++[y])++zBg kH x false (t.l.drop (j+1))=zBg kH x false t.l):=by have:=fC.out;rw [if_neg (by rintro ⟨-,h⟩;omega),if_neg (by omega),decide_eq_false (by omega)] at this;simpa [Hid] using this
       have gC:(y.ino != x.ino)=true:=by simp;omega
       have fT:¬x.ino≤y.ino:=by omega
       have fU:decide (x.ino≤y.ino)=false:=by simpa using fT
       clear fC;go_upto_region 6 with (fail)
       go_quiet (fail)
       have fD:=hI.out.drewN nq;have fO:=hT.out.drewN nq;clear x3 hr x0 c0;generalize wr.drewN nq=w1 at *;have x3:=fD.ti.c3 fF.out fA.out;have hr:=fD.ti.get fF.out fE fM.out;have x0:w1.cell? ⟨g+1,0,none⟩=some (.int .i64 x.ino):=fD.bx.cell 0;have c0:w1.cell? ⟨b,off+j * 8,none⟩=some (.int .i64 y.ino):=hr 0 _ rfl;have gD:=fD.ti.bz.lt;go_upto_region 9 with (fail)
       go_quiet (fail)
       have fB:=fD.drewN nq;have fH:=fO.drewN nq;clear x3 hr x0 c0;generalize w1.drewN nq=w2 at *;have x3:=fB.ti.c3 fF.out fA.out;have hr:=fB.ti.get fF.out fE fM.out;have x0:w2.cell? ⟨g+1,0,none⟩=some (.int .i64 x.ino):=fB.bx.cell 0;have c0:w2.cell? ⟨b,off+j * 8,none⟩=some (.int .i64 y.ino):=hr 0 _ rfl;have gP:=fB.ti.bz.lt
       go_wp2_with (first
        | (refine wpList_load_mid rfl 123 (.tmp 45) rfl b (off+j * 8) rfl (zAb y) _ hr Tryz.underlying123 rfl rfl ?_)
        | (refine zAq rfl 26 123 (.tmp 46) rfl (zAb y).toArray (by rfl) 8 Tryz.underlying26 zCf zEa rfl (by omega) (by omega) ?_)
        | (at_builtin;refine zAk _ rfl (.tmp 41) (.tmp 47) _ _ rfl (g+3) 123 iH (.agg z8.toArray) 8 96 Tryz.underlying26 fS fI fJ fK rfl u5 (acc).length ((acc).flatMap zAb) rfl (fH.alloc _) 1 (zAb y) (zCJ w2 y) (by unfold maxLen;(try simp only [List.length_append,List.length_cons,List.length_nil]);omega) (by (try simp only [List.length_append,List.length_cons,List.length_nil]);omega) (by simp;omega) ?_;intro v3 w3 gF gG gH;have gI:Chg (fun b=>g+3≤b) w2 w3:=((Chg.refl _ w2).alloc _).grown gG (fun g' e _=>(World.ownsRow.lt fH g' e).1);have fG:=fB.chg gI;have fQ:=zEK.snoc gF))
       go_roundw
       case rel=>exact⟨j+1,acc++[y],false,by omega,by go_num,rfl,by first | omega | (simp;omega),hf.out,fQ,fG⟩
       case measure=>simp [intOf];omega
     · have hf:Hid ((acc++[x])++zBg kH x true (t.l.drop (j+1))=zBg kH x false t.l):=by have:=fC.out;rw [if_pos ⟨rfl,by omega⟩,if_pos fN,decide_eq_true (by omega)] at this;simpa [Hid] using this
       have gC:(y.ino != x.ino)=false:=by simp [fN]
       have gE:¬y.ino≠x.ino:=by simp [fN]
       have fT:x.ino≤y.ino:=by omega
       have fU:decide (x.ino≤y.ino)=true:=by simpa using fT
       clear fC;go_upto_region 6 with (fail)
       go_quiet (fail)
       have fD:=hI.out.drewN nq;have fO:=hT.out.drewN nq;clear x3 hr x0 c0;generalize wr.drewN nq=w1 at *;have x3:=fD.ti.c3 fF.out fA.out;have hr:=fD.ti.get fF.out fE fM.out;have x0:w1.cell? ⟨g+1,0,none⟩=some (.int .i64 x.ino):=fD.bx.cell 0;have c0:w1.cell? ⟨b,off+j * 8,none⟩=some (.int .i64 y.ino):=hr 0 _ rfl;have gD:=fD.ti.bz.lt
       go_upto_region 9 with (first
        | (refine wpList_load_row rfl 123 (.tmp 3) rfl (g+1) rfl 123 (zAb x).toArray _ _ fD.bx Tryz.underlying123 rfl rfl ?_)
        | (refine zAq rfl 26 123 (.tmp 29) rfl (zAb x).toArray (by rfl) 8 Tryz.underlying26 zCf zEa rfl (by omega) (by omega) ?_)
        | (at_builtin;refine zAk _ rfl (.tmp 28) (.tmp 30) _ _ rfl (g+3) 123 iH (.agg z8.toArray) 8 96 Tryz.underlying26 fS fI fJ fK rfl u5 (acc).length ((acc).flatMap zAb) rfl (fO.alloc _) 1 (zAb x) (zCJ w1 x) (by unfold maxLen;(try simp only [List.length_append,List.length_cons,List.length_nil]);omega) (by (try simp only [List.length_append,List.length_cons,List.length_nil]);omega) (by simp;omega) ?_;intro v2 w2 fV fW fX;have fY:Chg (fun b=>g+3≤b) w1 w2:=((Chg.refl _ w1).alloc _).grown fW (fun g' e _=>(World.ownsRow.lt fO g' e).1);have fB:=fD.chg fY;have fH:=zEK.snoc fV))
       clear x3 hr x0 c0;have x3:=fB.ti.c3 fF.out fA.out;have hr:=fB.ti.get fF.out fE fM.out;have x0:w2.cell? ⟨g+1,0,none⟩=some (.int .i64 x.ino):=fB.bx.cell 0;have c0:w2.cell? ⟨b,off+j * 8,none⟩=some (.int .i64 y.ino):=hr 0 _ rfl;go_upto_region 9 with (fail)
       go_quiet (fail)
       have fG:=fB.drewN nq;have fQ:=fH.drewN nq;clear x3 hr x0 c0;generalize w2.drewN nq=w3 at *;have x3:=fG.ti.c3 fF.out fA.out;have hr:=fG.ti.get fF.out fE fM.out;have x0:w3.cell? ⟨g+1,0,none⟩=some (.int .i64 x.ino):=fG.bx.cell 0;have c0:w3.cell? ⟨b,off+j * 8,none⟩=some (.int .i64 y.ino):=hr 0 _ rfl;have gQ:=fG.ti.bz.lt;go_wp2;go_roundw
       case rel=>exact⟨j+1,acc++[x],true,by omega,by go_num,rfl,by first | omega | (simp;omega),hf.out,fQ,fG⟩
       case measure=>simp [intOf];omega
     · have hf:Hid ((acc++[x]++[y])++zBg kH x true (t.l.drop (j+1))=zBg kH x false t.l):=by have:=fC.out;rw [if_pos ⟨rfl,by omega⟩,if_neg (by omega),decide_eq_true (by omega)] at this;simpa [Hid] using this
       have gC:(y.ino != x.ino)=true:=by simp;omega
       have fT:x.ino≤y.ino:=by omega
       have fU:decide (x.ino≤y.ino)=true:=by simpa using fT
       clear fC;go_upto_region 6 with (fail)
       go_quiet (fail)
       have fD:=hI.out.drewN nq;have fO:=hT.out.drewN nq;clear x3 hr x0 c0;generalize wr.drewN nq=w1 at *;have x3:=fD.ti.c3 fF.out fA.out;have hr:=fD.ti.get fF.out fE fM.out;have x0:w1.cell? ⟨g+1,0,none⟩=some (.int .i64 x.ino):=fD.bx.cell 0;have c0:w1.cell? ⟨b,off+j * 8,none⟩=some (.int .i64 y.ino):=hr 0 _ rfl;have gD:=fD.ti.bz.lt
       go_upto_region 9 with (first
        | (refine wpList_load_row rfl 123 (.tmp 3) rfl (g+1) rfl 123 (zAb x).toArray _ _ fD.bx Tryz.underlying123 rfl rfl ?_)
        | (refine zAq rfl 26 123 (.tmp 29) rfl (zAb x).toArray (by rfl) 8 Tryz.underlying26 zCf zEa rfl (by omega) (by omega) ?_)
        | (at_builtin;refine zAk _ rfl (.tmp 28) (.tmp 30) _ _ rfl (g+3) 123 iH (.agg z8.toArray) 8 96 Tryz.underlying26 fS fI fJ fK rfl u5 (acc).length ((acc).flatMap zAb) rfl (fO.alloc _) 1 (zAb x) (zCJ w1 x) (by unfold maxLen;(try simp only [List.length_append,List.length_cons,List.length_nil]);omega) (by (try simp only [List.length_append,List.length_cons,List.length_nil]);omega) (by simp;omega) ?_;intro v2 w2 fV fW fX;have fY:Chg (fun b=>g+3≤b) w1 w2:=((Chg.refl _ w1).alloc _).grown fW (fun g' e _=>(World.ownsRow.lt fO g' e).1);have fB:=fD.chg fY;have fH:=zEK.snoc fV))
       clear x3 hr x0 c0;have x3:=fB.ti.c3 fF.out fA.out;have hr:=fB.ti.get fF.out fE fM.out;have x0:w2.cell? ⟨g+1,0,none⟩=some (.int .i64 x.ino):=fB.bx.cell 0;have c0:w2.cell? ⟨b,off+j * 8,none⟩=some (.int .i64 y.ino):=hr 0 _ rfl;go_upto_region 9 with (fail)
       go_quiet (fail)
       have fG:=fB.drewN nq;have fQ:=fH.drewN nq;clear x3 hr x0 c0;generalize w2.drewN nq=w3 at *;have x3:=fG.ti.c3 fF.out fA.out;have hr:=fG.ti.get fF.out fE fM.out;have x0:w3.cell? ⟨g+1,0,none⟩=some (.int .i64 x.ino):=fG.bx.cell 0;have c0:w3.cell? ⟨b,off+j * 8,none⟩=some (.int .i64 y.ino):=hr 0 _ rfl;have gQ:=fG.ti.bz.lt
       go_wp2_with (first
        | (refine wpList_load_mid rfl 123 (.tmp 45) rfl b (off+j * 8) rfl (zAb y) _ hr Tryz.underlying123 rfl rfl ?_)
        | (refine zAq rfl 26 123 (.tmp 46) rfl (zAb y).toArray (by rfl) 8 Tryz.underlying26 zCf zEa rfl (by omega) (by omega) ?_)
        | (at_builtin;refine zAk _ rfl (.tmp 41) (.tmp 47) _ _ rfl (g+3) 123 iH (.agg z8.toArray) 8 96 Tryz.underlying26 fS fI fJ fK rfl v2 (acc++[x]).length ((acc++[x]).flatMap zAb) rfl (fQ.alloc _) 1 (zAb y) (zCJ w3 y) (by unfold maxLen;(try simp only [List.length_append,List.length_cons,List.length_nil]);omega) (by (try simp only [List.length_append,List.length_cons,List.length_nil]);omega) (by simp;omega) ?_;intro v4 w4 gR gS gT;have gU:Chg (fun b=>g+3≤b) w3 w4:=((Chg.refl _ w3).alloc _).grown gS (fun g' e _=>(World.ownsRow.lt fQ g' e).1);have gV:=fG.chg gU;have gW:=zEK.snoc gR))
       go_roundw
       case rel=>exact⟨j+1,acc++[x]++[y],true,by omega,by go_num,rfl,by first | omega | (simp;omega),hf.out,gW,gV⟩
       case measure=>simp [intOf];omega
  · obtain rfl:j=len:=by omega
    have fZ:Hid (t.l.drop j=[]):=List.drop_eq_nil_of_le (by have:=fA.out;omega)
    have x3:wr.cell? ⟨g,3,none⟩=some (.slice t.A j t.c):=by rw [fA.out];exact hI.out.ti.bt.cell 3
    have hz:=hI.out.ti.bz.lt
    cases db with
    | true =>
     have hf:Hid (acc=zBg kH x false t.l):=by have:=fL.out;rw [fZ.out] at this;simpa [Hid,zBg] using this
     clear fL;go_upto_region 13 with (fail);obtain⟨n,hn⟩:∃ n,(acc).length=n:=⟨_,rfl⟩;have gA:=hid hn;clear hn;obtain⟨A1,c1,rfl⟩:=hT.out.form gA.out;have f3:=hI.out.ti.bt.frozen 3;have z3:wr.cell? ⟨g,3,none⟩=some (.slice t.A t.l.length t.c):=hI.out.ti.bt.cell 3;have gJ:Blk (wr.setCell ⟨g,3,none⟩ (.slice A1 n c1)) g 28 [.int .i64 t.sectors,.int .i64 t.inodes,.int .i64 t.births,.slice A1 n c1]:=hI.out.ti.bt.set_ 3 _;have gB:Blk (wr.setCell ⟨g,3,none⟩ (.slice A1 n c1)) (g+2) 28 z4:=hI.out.ti.bz.far (by simp) _;have gK:=setRow_heap (wr.setCell ⟨g,3,none⟩ (.slice A1 n c1)) (g+2) _ ([.int .i64 t.sectors,.int .i64 t.inodes,.int .i64 t.births,.slice A1 n c1]:List Value).toArray _ _ gB
     go_wp2_with (first
      | (refine wpList_load_row rfl 28 (.tmp 2) rfl g rfl 28 _ _ _ gJ rfl rfl rfl ?_)
      | (refine wpList_store_row rfl 28 (.tmp 4) (.tmp 57) rfl (g+2) _ rfl rfl 28 _ gB rfl rfl (one4v _ _ _ _ _ _) ?_))
     refine bodyPost_ret (results_cell_row rfl _ _ (g+2) 28 ([.int .i64 t.sectors,.int .i64 t.inodes,.int .i64 t.births,.slice A1 n c1]:List Value).toArray (0,0) _ rfl gK Tryz.underlying28 rfl rfl) rfl ?_
     have fP:=zFP hI.out.ti hT.out gA.out (fun y hy=>by
      rw [hf.out] at hy;rcases zEu _ _ _ _ _ hy with rfl | hy
      · exact hI.out.hx
      · exact hI.out.ti.tr.hds y hy) gM.out _ [.int .i64 t.sectors,.int .i64 t.inodes,.int .i64 t.births,.slice A1 n c1] rfl
     rw [hf.out] at fP;exact fP
    | false =>
     have hf:Hid (acc++[x]=zBg kH x false t.l):=by have:=fL.out;rw [fZ.out] at this;simpa [Hid,zBg] using this
     clear fL
     go_upto_region 13 with (first
      | (refine wpList_load_row rfl 123 (.tmp 3) rfl (g+1) rfl 123 (zAb x).toArray _ _ hI.out.bx Tryz.underlying123 rfl rfl ?_)
      | (refine zAq rfl 26 123 (.tmp 52) rfl (zAb x).toArray (by rfl) 8 Tryz.underlying26 zCf zEa rfl (by omega) (by omega) ?_)
      | (at_builtin;refine zAk _ rfl (.tmp 51) (.tmp 53) _ _ rfl (g+3) 123 iH (.agg z8.toArray) 8 96 Tryz.underlying26 fS fI fJ fK rfl u5 (acc).length ((acc).flatMap zAb) rfl (hT.out.alloc _) 1 (zAb x) (zCJ wr x) (by unfold maxLen;(try simp only [List.length_append,List.length_cons,List.length_nil]);omega) (by (try simp only [List.length_append,List.length_cons,List.length_nil]);omega) (by simp;omega) ?_;intro v2 w2 fV fW fX;have fY:Chg (fun b=>g+3≤b) wr w2:=((Chg.refl _ wr).alloc _).grown fW (fun g' e _=>(World.ownsRow.lt hT.out g' e).1);have fB:=hI.out.chg fY;have fH:=zEK.snoc fV))
     obtain⟨n,hn⟩:∃ n,(acc++[x]).length=n:=⟨_,rfl⟩;have gA:=hid hn;clear hn;obtain⟨A1,c1,rfl⟩:=fH.form gA.out;have f3:=fB.ti.bt.frozen 3;have z3:w2.cell? ⟨g,3,none⟩=some (.slice t.A t.l.length t.c):=fB.ti.bt.cell 3;have gJ:Blk (w2.setCell ⟨g,3,none⟩ (.slice A1 n c1)) g 28 [.int .i64 t.sectors,.int .i64 t.inodes,.int .i64 t.births,.slice A1 n c1]:=fB.ti.bt.set_ 3 _;have gB:Blk (w2.setCell ⟨g,3,none⟩ (.slice A1 n c1)) (g+2) 28 z4:=fB.ti.bz.far (by simp) _;have gK:=setRow_heap (w2.setCell ⟨g,3,none⟩ (.slice A1 n c1)) (g+2) _ ([.int .i64 t.sectors,.int .i64 t.inodes,.int .i64 t.births,.slice A1 n c1]:List Value).toArray _ _ gB
     go_wp2_with (first
      | (refine wpList_load_row rfl 28 (.tmp 2) rfl g rfl 28 _ _ _ gJ rfl rfl rfl ?_)
      | (refine wpList_store_row rfl 28 (.tmp 4) (.tmp 57) rfl (g+2) _ rfl rfl 28 _ gB rfl rfl (one4v _ _ _ _ _ _) ?_))
     refine bodyPost_ret (results_cell_row rfl _ _ (g+2) 28 ([.int .i64 t.sectors,.int .i64 t.inodes,.int .i64 t.births,.slice A1 n c1]:List Value).toArray (0,0) _ rfl gK Tryz.underlying28 rfl rfl) rfl ?_
     have fP:=zFP fB.ti fH gA.out (fun y hy=>by
      rw [hf.out] at hy;rcases zEu _ _ _ _ _ hy with rfl | hy
      · exact fB.hx
      · exact fB.ti.tr.hds y hy) gM.out _ [.int .i64 t.sectors,.int .i64 t.inodes,.int .i64 t.births,.slice A1 n c1] rfl
     rw [hf.out] at fP;exact fP
end Go.Proofs.YtolpcfhfcdkokaaGreatDoor
