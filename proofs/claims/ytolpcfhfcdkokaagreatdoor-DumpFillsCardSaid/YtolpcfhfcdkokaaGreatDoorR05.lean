/- Joined out of RUsed..RWith. -/
import Derived.Deep.CutRange
import Derived.Shelf.Small.Strs
import Derived.Shelf.Strings.Search3
import Derived.Shelf.Strings.Prefix
import Derived.Shelf.Strings.Split
import Derived.Shelf.SlSortCmp.WholeK
import Derived.Shelf.SlSortCmp.NoneTotal
import Derived.Shelf.SlMaps.Clone
import Derived.Ground.SlsfProg
import Derived.Ground.SlmcProg
import Derived.Shelf.Small.Bits
import Derived.Test.YtolpcfhfcdkokaaGreatDoorProg
import Derived.Test.YtolpcfhfcdkokaaGreatDoorR03
set_option maxHeartbeats 16000000
set_option maxRecDepth 100000
set_option linter.unusedSimpArgs false
set_option linter.unusedVariables false
namespace Go.Proofs.YtolpcfhfcdkokaaGreatDoor
open Lib (hid)
open List renaming mem_cons_of_mem → Aa,mem_cons_self → Ab,length_cons → Ac,getElem_mem → Ad,length_append → Ae,mem_append → Af,mem_cons → Ag,not_mem_nil → Ah,drop_eq_getElem_cons → Ai,size_toArray → Aj,drop_eq_nil_of_le → Ak,length_nil → Al
open Proofs.Tryz renaming prog → Am,zeroCells187 → An,underlying121 → Ao,underlying92 → Ap,underlying187 → Aq,underlying123 → Ar,underlying26 → As,underlying28 → At,underlying3 → Au,zeroValue3 → Av,underlying9 → Aw,zeroValue9 → Ax,underlying4 → Ay,zeroValue4 → Az,underlying5 → AA
open Blk renaming new → AB
open Nat renaming zero_le → AC,le_refl → AD
open World renaming ownsRow_nil → AE
open Chg renaming refl → AF
open Sees renaming of_own → AG
open _root_.Array renaming all_eq_true_iff_forall_mem → AH
open Go renaming info_parts → AI,wpList_load_mid → AJ,wpList_load_row → AK,wpList_store_row → AL,setRow_heap → AM,bodyPost_ret → AN,results_cell_row → AO
open World.ownsRow renaming lt → AP
open Shelf renaming Ren → AQ
open Go.RowKit
def Small (l:List Hd):Prop:=l.length≤600∧∀ x∈l,x.idx.length≤1100∧∀ k∈x.idx,k≤1100
def zCG (l:List Hd):Nat:=(l.map fun x=>zBp x.idx).sum
theorem used_le:∀ (l:List Hd),(∀ x∈l,x.idx.length≤1100∧∀ k∈x.idx,k≤1100)→zCG l≤l.length * 2202:=by
 intro l
 induction l with
 | nil=>intro _;simp [zCG]
 | cons x l ih =>
  intro h;have h1:=ih fun y hy=>h y (Aa _ hy);have h2:=countL_le x.idx;have h3:=(h x Ab).1;rw [Ac,Nat.succ_mul]
  have e:zCG (x::l)=zBp x.idx+zCG l:=by unfold zCG;rw [List.map_cons,List.sum_cons]
  omega
theorem used_step (l:List Hd) (i:Nat) (h:i<l.length):zCG (l.take (i+1))=zCG (l.take i)+zBp l[i].idx:=by
 rw [List.take_succ_eq_append_getElem h];unfold zCG;rw [List.map_append,List.sum_append];simp
theorem zJh (B:Nat) (t:Tr) (w:World) (ht:TrAt w B t) (hB:B≤w.heap.size) (hs:Small t.l) :
 Calls Am 36 #[trV t] w fun e w'=>e=.returned (.int .i64 (zCG t.l))∧Below w.heap.size w w':=by
 have fI:=AB w 28 [.int .i64 t.sectors,.int .i64 t.inodes,.int .i64 t.births,.slice t.A t.l.length t.c];have fJ:Below w.heap.size w (w.alloc (.cells #[.int .i64 t.sectors,.int .i64 t.inodes,.int .i64 t.births,.slice t.A t.l.length t.c] 28)):=br.alloc nr _;have fK:=(ht.more hB).below fJ;unfold trV;go_enter Tryz.func36,Tryz.ntmps36;go_upto_region 1 with (fail);generalize w.alloc (.cells #[.int .i64 t.sectors,.int .i64 t.inodes,.int .i64 t.births,.slice t.A t.l.length t.c] 28)=w0 at *;have x3:w0.cell? ⟨w.heap.size,3,none⟩=some (.slice t.A t.l.length t.c):=fI.cell 3;clear fI;obtain⟨len,fA⟩:∃ len,len=t.l.length:=⟨_,rfl⟩;have fC:=hid fA
 have fR:len≤600:=by rw [fA];exact hs.1
 rw [←fA] at x3;have fL:=hid hs;clear fA hs;go_wp2
 go_loop [3,4] (fun n i'=>∃ k m:Nat,k≤len∧i'=.int .i64 k∧n=.int .i64 m∧m≤2000000∧Hid (m=zCG (t.l.take k))) (fun _ i'=>len-(intOf i').toNat)
 case atStart=>exact⟨0,0,AC _,rfl,rfl,by omega,rfl⟩
 case round =>
  obtain⟨k,m,hk,rfl,rfl,hm,fF⟩:=hrel;by_cases fS:k<len
  · have fB:k<t.l.length:=by have:=fC.o;omega
    obtain⟨b,off,hA,fT,hc⟩:=fK.cell k fB;have hx:=fK.hds _ (Ad fB);obtain⟨fU,fM⟩:=fL.o.2 _ (Ad fB);have c6:w0.cell? ⟨b,off+k * 8+6,none⟩=some (.slice t.l[k].iA t.l[k].idx.length t.l[k].ic):=hc 6 _ (by omega) rfl;have fN:=hid (used_step t.l k fB);have fO:=hid (used_le (t.l.take (k+1)) fun x hx=>fL.o.2 x (List.mem_of_mem_take hx));rw [hA] at x3;clear hA hc;generalize t.l[k]=x at *
    have fG:m+zBp x.idx=zCG (t.l.take (k+1)):=by rw [fN.o,fF.o]
    have fP:m+zBp x.idx≤2000000:=by
     rw [fG];have:=fO.o;rw [List.length_take] at this;omega
    have fQ:=hid fG;have fD:=zGO w.heap.size x.iA x.ic x.idx w0 hx.idx (by omega) (fun k hk=>by have:=fM k hk;omega);clear fG fF;generalize zBp x.idx=cn at *;have fE:=hid fD;clear fD;go_wp2_with (go_at_call 58;refine fE.o.mono ?_;rintro e w1 ⟨rfl,rfl⟩);go_round
    case rel=>exact⟨k+1,m+cn,by omega,by go_num,by go_num,fP,fQ.o⟩
    case measure=>simp [intOf];omega
  · obtain rfl:k=len:=by omega
    have fH:=hid (show m=zCG t.l by rw [fF.o,List.take_of_length_le (by have:=fC.o;omega)]);clear fF;go_wp2;go_ret;exact⟨by rw [←fH.o];rfl,fJ⟩
theorem zAF (n:Int) (h : -9223372036854775808≤n∧n≤9223372036854775807):IntKind.i64.wrap n=n:=by rw [IntKind.wrap_i64];omega
theorem tr_drewN {w:World} {B:Nat} {t:Tr} (h:TrAt w B t) (n:Nat):TrAt (w.drewN n) B t:=h.keep fun _ _=>rfl
theorem used_fit {t:Tr} (hs:Small t.l):zCG t.l≤2000000:=by
 have:=used_le t.l hs.2;have:=hs.1;omega
def fitsB (t:Tr):Bool:=decide ((zCG t.l:Int)≤t.sectors-1-t.inodes)
theorem fits_any (B:Nat) (t:Tr) (w:World) (ht:TrAt w B t) (hB:B≤w.heap.size) (hs:Small t.l) (hn:0≤t.sectors∧t.sectors≤10000) (hi:0≤t.inodes∧t.inodes≤10000) :
 Calls Am 121 #[trV t] w fun e w'=>e=.returned (.bool (fitsB t))∧Below w.heap.size w w':=by
 have fA:=AB w 28 [.int .i64 t.sectors,.int .i64 t.inodes,.int .i64 t.births,.slice t.A t.l.length t.c];have fE:Below w.heap.size w (w.alloc (.cells #[.int .i64 t.sectors,.int .i64 t.inodes,.int .i64 t.births,.slice t.A t.l.length t.c] 28)):=br.alloc nr _;have fF:=(ht.more hB).below fE;unfold trV;go_enter Tryz.func121,Tryz.ntmps121;go_upto_region 1 with (fail);generalize w.alloc (.cells #[.int .i64 t.sectors,.int .i64 t.inodes,.int .i64 t.births,.slice t.A t.l.length t.c] 28)=w0 at *;have x0:w0.cell? ⟨w.heap.size,0,none⟩=some (.int .i64 t.sectors):=fA.cell 0;have x1:w0.cell? ⟨w.heap.size,0+1,none⟩=some (.int .i64 t.inodes):=fA.cell 1;have x1':w0.cell? ⟨w.heap.size,1,none⟩=some (.int .i64 t.inodes):=fA.cell 1;have x2:w0.cell? ⟨w.heap.size,0+2,none⟩=some (.int .i64 t.births):=fA.cell 2;have x3:w0.cell? ⟨w.heap.size,0+3,none⟩=some (.slice t.A t.l.length t.c):=fA.cell 3;have fC:=fA.lt;have hu:=used_fit hs;obtain⟨fH,fI⟩:=hn;obtain⟨fJ,fK⟩:=hi
 have fG:w.heap.size≤w0.drew.heap.size:=by simp;omega
 have e1:IntKind.i64.wrap (t.sectors-1)=t.sectors-1:=zAF _ (by omega);have e2:IntKind.i64.wrap (t.sectors-1-t.inodes)=t.sectors-1-t.inodes:=zAF _ (by omega)
 go_region_held3 (fun w'=>w'.cell? ⟨w.heap.size,0,none⟩=some (.int .i64 t.sectors)∧w'.cell? ⟨w.heap.size,0+1,none⟩=some (.int .i64 t.inodes)∧w'.cell? ⟨w.heap.size,1,none⟩=some (.int .i64 t.inodes)∧w'.cell? ⟨w.heap.size,0+2,none⟩=some (.int .i64 t.births)∧w'.cell? ⟨w.heap.size,0+3,none⟩=some (.slice t.A t.l.length t.c))
  (first | go_keep)
  (first
   | (go_at_call 36;refine (zJh w.heap.size t w0.drew (tr_drewN fF 1) fG hs).mono ?_;rintro e w1 ⟨rfl,fD⟩;have fB:Below w0.heap.size w0 w1:=(zAd (Below.refl _ w0) 1).trans fD;have y0:=(fB.cell (p:=⟨w.heap.size,0,none⟩) fC).trans x0;have y1:=(fB.cell (p:=⟨w.heap.size,0+1,none⟩) fC).trans x1;have y2:=(fB.cell (p:=⟨w.heap.size,0+2,none⟩) fC).trans x2;have y3:=(fB.cell (p:=⟨w.heap.size,0+3,none⟩) fC).trans x3;have y4:=(fB.cell (p:=⟨w.heap.size,1,none⟩) fC).trans x1))
 go_wp2;go_ret;exact⟨rfl,fE.trans (fB.mono (by omega))⟩
def zBe {α:Type} (key:α→Int) (x:α):Bool→List α→List α
 | d,[]=>if d then [] else [x]
 | d,y::l=>(if d=false∧key x≤key y then [x] else [])++((if key y=key x then [] else [y])++zBe key x (d || decide (key x≤key y)) l)
structure Two (w:World) (base:Nat) (vi vd:Value) (l:List (Nat×List UInt8)):Prop where
 ri:w.ownsRow base 3 1 vi l.length (nats (l.map (·.1)))
 rd:w.ownsRow base 187 128 vd l.length (secs (l.map (·.2)))
 ap:∀ b,vi.ownBlock=some b→vd.ownBlock≠some b
section
variable {w w1 w2:World} {base:Nat} {vi vd vi' vd':Value} {l:List (Nat×List UInt8)}
theorem Two.chg {S:Nat→Prop} (h:Two w base vi vd l) (hc:Chg S w w1) (hS:∀ b,S b→b<base):Two w1 base vi vd l :=
 ⟨zAy h.ri hc fun g hg hs=>by have:=(h.ri.lt g hg).1;have:=hS g hs;omega,zAy h.rd hc fun g hg hs=>by have:=(h.rd.lt g hg).1;have:=hS g hs;omega,h.ap⟩
theorem Two.nil (w:World) (base:Nat):Two w base (.slice none 0 0) (.slice none 0 0) []:=⟨AE w base _ _,AE w base _ _,fun b h=>by cases h⟩
theorem Two.mid {o:Obj} (h:Two w base vi vd l) (hg:(w.alloc o).grownBy w1 vi.ownBlock):w1.ownsRow base 187 128 vd l.length (secs (l.map (·.2))) :=
 zAy (zAC h.rd ((Below.refl _ w).alloc nr o)) ((AF (fun b=>vi.ownBlock=some b) (w.alloc o)).grown hg fun _ e _=>e) fun g hg h2=>h.ap g h2 hg
theorem Two.step {o1 o2:Obj} {k:Nat} {s:List UInt8} {H1 H2:Nat} (h:Two w base vi vd l) (_hb:base≤w.heap.size)
 (r1:w1.ownsRow base 3 1 vi' (l.length+1) (nats (l.map (·.1))++[.int .i64 (k:Int)])) (g1:(w.alloc o1).grownBy w1 vi.ownBlock) (a1:vi'.ownBlock=vi.ownBlock∨vi'.ownBlock=some H1) (fB:w.heap.size≤H1)
 (r2:w2.ownsRow base 187 128 vd' (l.length+1) (secs (l.map (·.2))++bvs s)) (g2:(w1.alloc o2).grownBy w2 vd.ownBlock) (a2:vd'.ownBlock=vd.ownBlock∨vd'.ownBlock=some H2) (fC:w1.heap.size≤H2) :
 Two w2 base vi' vd' (l++[(k,s)])∧Chg (fun b=>base≤b) w w2:=by
 have fD:w.heap.size<w1.heap.size:=by have:=g1.size;simp at this;omega
 have ap':∀ b,vi'.ownBlock=some b→vd.ownBlock≠some b:=fun b fA e=>by
  rcases a1 with a1 | a1
  · exact h.ap b (a1▸fA) e
  · have:=(h.rd.lt b e).2;rw [a1] at fA;injection fA with fA;omega
 refine⟨⟨?_,?_,?_⟩,?_⟩
 · have e:nats ((l++[(k,s)]).map (·.1))=nats (l.map (·.1))++[.int .i64 (k:Int)]:=by simp [nats]
   rw [e,Ae];exact zAy (zAC r1 ((Below.refl _ w1).alloc nr o2)) ((AF (fun b=>vd.ownBlock=some b) (w1.alloc o2)).grown g2 fun _ e _=>e) fun g hg h2=>ap' g hg h2
 · have e:secs ((l++[(k,s)]).map (·.2))=secs (l.map (·.2))++bvs s:=by simp [secs]
   rw [e,Ae];exact r2
 · intro b fA e;rcases a2 with a2 | a2
   · exact ap' b fA (a2▸e)
   · have:=(r1.lt b fA).2;rw [a2] at e;injection e with e;omega
 · refine (((AF (fun b=>base≤b) w).alloc o1).grown g1 (fun g e _=>(h.ri.lt g e).1)).trans (((AF (fun b=>base≤b) w1).alloc o2).grown g2 (fun g e _=>(h.rd.lt g e).1)) (fun _ _ h=>h) (fun _ _ h=>h)
end
theorem zGq:(Tryz.prog.info? 3).map (fun i=>(i.zero,i.size,i.bytes))=some (some (.int .i64 0),1,8):=by kernel_rfl
theorem zJy:(Tryz.prog.info? 187).map (fun i=>(i.zero,i.size,i.bytes))=some (some (.agg An),128,128):=by kernel_rfl
theorem zCH:(Value.agg An).cells.size=128:=by kernel_rfl
theorem zH2:((Tryz.prog.info? 187).bind (·.zero)).map (·.cells.size)=some 128:=by kernel_rfl
abbrev z8:List Value:=[.int .i64 0,.int .i64 0,.int .i64 0,.int .i64 0,.int .i64 0,.int .i64 0,.slice none 0 0,.slice none 0 0]
abbrev kB (p:Nat×List UInt8):Int:=(p.1:Int)
structure LaidI (w:World) (g:Nat) (x:Hd) (s:List UInt8) (wr:World):Prop where
 bx:Blk wr g 123 (zAb x)
 bs:Blk wr (g+1) 187 (bvs s)
 bz:Blk wr (g+2) 123 z8
 hd:HdAt wr g x
 ch:Below g w wr
theorem LaidI.chg {w wr w2:World} {g:Nat} {x:Hd} {s:List UInt8} (h:LaidI w g x s wr) (hc:Chg (fun b=>g+3≤b) wr w2):LaidI w g x s w2:=by
 have h1:=h.bz.lt
 have hb:Below g wr w2:=hc.below (by omega) fun b hb hS=>by omega
 exact⟨h.bx.chg hc (by omega),h.bs.chg hc (by omega),h.bz.chg hc (by omega),h.hd.below hb,h.ch.trans hb⟩
section
variable {w wr:World} {g j len b off:Nat} {x:Hd} {s:List UInt8}
theorem LaidI.c6 (h:LaidI w g x s wr) (hA:x.iA=some ⟨b,off,none⟩) (hl:len=x.idx.length):wr.cell? ⟨g,6,none⟩=some (.slice (some ⟨b,off,none⟩) len x.ic):=by
 rw [hl,←hA];exact h.bx.cell 6
theorem LaidI.c7 (h:LaidI w g x s wr) (hA:x.dA=some ⟨b,off,none⟩) (hl:len=x.idx.length):wr.cell? ⟨g,7,none⟩=some (.slice (some ⟨b,off,none⟩) len x.dc):=by
 rw [hl,←hA,←h.hd.len];exact h.bx.cell 7
theorem LaidI.get {y:Nat} (h:LaidI w g x s wr) (hA:x.iA=some ⟨b,off,none⟩) (hj:j<x.idx.length) (hy:x.idx[j]=y):wr.cell? ⟨b,off+j,none⟩=some (.int .i64 (y:Int)):=by
 obtain⟨b',off',fA,_,hc⟩:=h.hd.idx.at_ (by omega);rw [hA] at fA;injection fA with fA;injection fA with h1 h2;subst h1 h2 hy;exact hc j _ (zBO x.idx j hj)
theorem LaidI.rng {y:List UInt8} (h:LaidI w g x s wr) (hA:x.dA=some ⟨b,off,none⟩) (hj:j<x.dat.length) (hy:x.dat[j]=y):wr.rangeAt b (off+j * 128) (bvs y):=by
 obtain⟨b',off',fA,_,hc⟩:=h.hd.sec_cell j hj;rw [hA] at fA;injection fA with fA;injection fA with h1 h2;subst h1 h2 hy;exact hc
end
theorem zDu (w:World) (s:List UInt8) (hs:s.length=128):Src Am 128 121 (.slice (some ⟨w.heap.size,0,none⟩) 1 1) 1 (bvs s) (w.alloc (.cells (bvs s).toArray 187)):=by
 have:=zA3 (P:=Am) Ao (AB w 187 (bvs s)) (zB4 s);rw [zAc,hs] at this;exact this
theorem zEK {α:Type} (key:α→Int) (x y:α):∀ (l:List α) (d:Bool),y∈zBe key x d l→y=x∨y∈l:=by
 intro l
 induction l with
 | nil=>intro d h;unfold zBe at h;split at h<;>simp_all
 | cons z l ih =>
  intro d h;unfold zBe at h;rw [Af,Af] at h;rcases h with h | h | h
  · split at h
    · exact .inl (by simpa using h)
    · cases h
  · split at h
    · cases h
    · exact .inr (by rw [List.mem_singleton] at h;rw [h];exact Ab)
  · rcases ih _ h with h | h
    · exact .inl h
    · exact .inr (Aa _ h)
theorem two_sees {w:World} {base n m c1 c2:Nat} {A1 A2:Option Addr} {l:List (Nat×List UInt8)} (h:Two w base (.slice A1 n c1) (.slice A2 m c2) l) :
 n=l.length∧m=l.length∧Sees w w.heap.size 1 A1 l.length (nats (l.map (·.1)))∧Sees w w.heap.size 128 A2 l.length (secs (l.map (·.2))):=by
 obtain⟨A,c,hv,h1⟩:=AG (B:=w.heap.size) h.ri fun g hg=>(h.ri.lt g hg).2;obtain⟨A',c',fA,h2⟩:=AG (B:=w.heap.size) h.rd fun g hg=>(h.rd.lt g hg).2;injection hv with e1 e2 e3;injection fA with e4 e5 e6;subst e1 e4;exact⟨e2,e5,h1,h2⟩
theorem zIB {w wr:World} {g n m c1 c2:Nat} {x:Hd} {s:List UInt8} {k:Nat} {A1 A2:Option Addr} {l:List (Nat×List UInt8)} (hI:LaidI w g x s wr) (hT:Two wr (g+3) (.slice A1 n c1) (.slice A2 m c2) l)
 (hl:l=zBe kB (k,s) false (x.idx.zip x.dat)) (hs:s.length=128) (hg:w.heap.size=g) (W:World) (cs:List Value)
 (hW:W=((wr.setCell ⟨g,6,none⟩ (.slice A1 n c1)).setCell ⟨g,7,none⟩ (.slice A2 m c2)).setRow (g+2) cs.toArray) :
 (∃ iA ic dA dc,Ending.returned (.agg #[.int .i64 x.ino,.int .i64 x.kind,.int .i64 x.links,.int .i64 x.size,.int .i64 x.made,.int .i64 x.birth,.slice A1 n c1,.slice A2 m c2])=.returned (hdV {x with iA:=iA,ic:=ic,dA:=dA,dc:=dc,idx:=(zBe kB (k,s) false (x.idx.zip x.dat)).map (·.1),dat:=(zBe kB (k,s) false (x.idx.zip x.dat)).map (·.2)}) ∧
  HdAt W W.heap.size {x with iA:=iA,ic:=ic,dA:=dA,dc:=dc,idx:=(zBe kB (k,s) false (x.idx.zip x.dat)).map (·.1),dat:=(zBe kB (k,s) false (x.idx.zip x.dat)).map (·.2)}∧(∀ a,iA=some a→w.heap.size≤a.block)∧∀ a,dA=some a→w.heap.size≤a.block)∧Below w.heap.size w W:=by
 have hz:=hI.bz.lt
 have hc:Chg (fun b=>g≤b∧b<g+3) wr W:=by
  rw [hW];exact (((AF _ wr).setCell (p:=⟨g,6,none⟩) (fun _=>⟨AD _,by simp⟩) _).setCell (p:=⟨g,7,none⟩) (fun _=>⟨AD _,by simp⟩) _).setRow (g:=g+2) (fun _=>⟨by omega,by omega⟩) _
 have fA:=hT.chg hc fun b hb=>hb.2;obtain⟨h1,h2,h3,h4⟩:=two_sees fA;subst h1 h2;rw [←hl];refine⟨⟨A1,c1,A2,c2,?_,⟨?_,?_,?_,?_⟩,?_,?_⟩,?_⟩
 · simp [hdV,zAb]
 · simp
 · intro y hy;obtain⟨q,hq,rfl⟩:=List.mem_map.1 hy;rw [hl] at hq;rcases zEK _ _ _ _ _ hq with rfl | hq
   · exact hs
   · exact hI.hd.sec _ (List.of_mem_zip hq).2
 · simpa using h3
 · simpa using h4
 · intro a ha;have:=(hT.ri.lt a.block (by rw [ha];rfl)).1;omega
 · intro a ha;have:=(hT.rd.lt a.block (by rw [ha];rfl)).1;omega
 · rw [hg];exact hI.ch.trans (hc.below (by omega) fun b hb h=>by omega)
theorem one8v (a b c d e f:Int) (A1 A2:Option Addr) (n c1 m c2:Nat):(#[.int .i64 a,.int .i64 b,.int .i64 c,.int .i64 d,.int .i64 e,.int .i64 f,.slice A1 n c1,.slice A2 m c2]:Array Value).all (·.oneCell')=true:=by
 rw [AH];intro v hv;simp only [List.mem_toArray,Ag,Ah,or_false] at hv;rcases hv with rfl | rfl | rfl | rfl | rfl | rfl | rfl | rfl<;>rfl
theorem two_len {w:World} {base:Nat} {vi vd:Value} {l:List (Nat×List UInt8)} (h:Two w base vi vd l) {n:Nat} (hn:l.length=n):(∃ A c,vi=.slice A n c)∧∃ A c,vd=.slice A n c:=by
 subst hn;obtain⟨A,c,hv,_⟩:=AG (B:=w.heap.size) h.ri fun g hg=>(h.ri.lt g hg).2;obtain⟨A',c',fA,_⟩:=AG (B:=w.heap.size) h.rd fun g hg=>(h.rd.lt g hg).2;exact⟨⟨A,c,hv⟩,A',c',fA⟩
theorem zJb (B:Nat) (x:Hd) (k:Nat) (s:List UInt8) (w:World) (hx:HdAt w B x) (hB:B≤w.heap.size) (hs:s.length=128) (hl:x.idx.length≤1100) :
 Calls Am 120 #[hdV x,.int .i64 k,zB6 s] w fun e w'=>(∃ iA ic dA dc,e=.returned (hdV {x with iA:=iA,ic:=ic,dA:=dA,dc:=dc,idx:=(zBe kB (k,s) false (x.idx.zip x.dat)).map (·.1),dat:=(zBe kB (k,s) false (x.idx.zip x.dat)).map (·.2)}) ∧
  HdAt w' w'.heap.size {x with iA:=iA,ic:=ic,dA:=dA,dc:=dc,idx:=(zBe kB (k,s) false (x.idx.zip x.dat)).map (·.1),dat:=(zBe kB (k,s) false (x.idx.zip x.dat)).map (·.2)}∧(∀ a,iA=some a→w.heap.size≤a.block)∧∀ a,dA=some a→w.heap.size≤a.block)∧Below w.heap.size w w':=by
 obtain⟨iI,gB,fH,fI,fJ⟩:=AI zGq;obtain⟨iS,gC,fK,fL,fM⟩:=AI zJy
 have gT:LaidI w w.heap.size x s (((w.alloc (.cells (zAb x).toArray 123)).alloc (.cells (bvs s).toArray 187)).alloc (.cells z8.toArray 123)):=by
  have hb:Below w.heap.size w (((w.alloc (.cells (zAb x).toArray 123)).alloc (.cells (bvs s).toArray 187)).alloc (.cells z8.toArray 123)):=((br.alloc nr _).alloc (by simp) _).alloc (by simp;omega) _;refine⟨((AB w 123 (zAb x)).alloc _).alloc _,?_,?_,(hx.more hB).below hb,hb⟩
  · have:=(AB (w.alloc (.cells (zAb x).toArray 123)) 187 (bvs s)).alloc (.cells z8.toArray 123);simpa using this
  · have:=AB ((w.alloc (.cells (zAb x).toArray 123)).alloc (.cells (bvs s).toArray 187)) 123 z8;simpa using this
 unfold hdV zB6;go_enter Tryz.func120,Tryz.ntmps120;go_upto_region 1 with (fail);generalize ((w.alloc (.cells (zAb x).toArray 123)).alloc (.cells (bvs s).toArray 187)).alloc (.cells #[.int .i64 0,.int .i64 0,.int .i64 0,.int .i64 0,.int .i64 0,.int .i64 0,.slice none 0 0,.slice none 0 0] 123)=w0 at *;generalize hg:w.heap.size=g at *;have gU:=hid hg;clear hg hx;obtain⟨len,fY⟩:∃ len,len=x.idx.length:=⟨_,rfl⟩;have fC:=hid fY;rw [←fY] at hl;have fP:Hid (len=x.idx.length):=fC;clear fY;generalize gY:(zAb x).toArray=cx at *;clear gY;generalize gV:(bvs s).toArray=cs at *;have gZ:=hid gV;clear gV;go_wp2
 go_loopw [7,8,9,10] (fun vi vd d i wr=>∃ (j:Nat) (acc:List (Nat×List UInt8)) (db:Bool),j≤len∧i=.int .i64 j∧d=.bool db∧acc.length≤2 * j ∧
  Hid (acc++zBe kB (k,s) db ((x.idx.zip x.dat).drop j)=zBe kB (k,s) false (x.idx.zip x.dat))∧Hid (Two wr (g+3) vi vd acc)∧Hid (LaidI w g x s wr)) (fun _ _ _ i _=>len-(intOf i).toNat)
 case atStart=>exact⟨0,[],false,AC _,rfl,rfl,by simp,by simp [Hid],Two.nil _ _,gT⟩
 case round =>
  obtain⟨j,acc,db,hj,rfl,rfl,jL,fN,hT,hI⟩:=hrel;clear gT;have x6:wr.cell? ⟨g,6,none⟩=some (.slice x.iA x.idx.length x.ic):=hI.o.bx.cell 6;rw [←fC.o] at x6;by_cases jM:j<len
  · have fZ:j<x.idx.length:=by have:=fC.o;omega
    have gD:j<x.dat.length:=by have:=hI.o.hd.len;omega
    obtain⟨b,off,hA,jN,hc⟩:=hI.o.hd.idx.at_ (by omega);have c0:wr.cell? ⟨b,off+j,none⟩=some (.int .i64 (x.idx[j]:Int)):=hc j _ (zBO x.idx j fZ);rw [hA] at x6;clear hc;have gI:=hid hA;clear hA;generalize hy:x.idx[j]=y at *;have gK:=hid hy;clear hy;obtain⟨b2,off2,gA,-,-⟩:=hI.o.hd.sec_cell j gD;have x7:=hI.o.c7 gA fP.o;have gJ:Hid (x.dat[j]=x.dat[j]):=rfl;have fQ:=hI.o.hd.sec _ (Ad gD)
    have gW:Hid ((x.idx.zip x.dat).drop j=(y,x.dat[j])::(x.idx.zip x.dat).drop (j+1)):=by
     show _=_
     rw [Ai (by rw [List.length_zip];omega)];simp [gK.o]
    have fA:Hid (acc++((if db=false∧(k:Int)≤(y:Int) then [(k,s)] else [])++((if (y:Int)=(k:Int) then [] else [(y,x.dat[j])])++zBe kB (k,s) (db || decide ((k:Int)≤(y:Int))) ((x.idx.zip x.dat).drop (j+1))))=zBe kB (k,s) false (x.idx.zip x.dat)):=by
     have:=fN.o;rw [gW.o] at this;exact this
    generalize gE:x.dat[j]=sd at *;have gJ:Hid (x.dat[j]=sd):=gE;clear gE fN gW
    cases db with
    | true =>
     by_cases gF:y=k
     · subst gF
       have hf:Hid (acc++zBe kB (y,s) true ((x.idx.zip x.dat).drop (j+1))=zBe kB (y,s) false (x.idx.zip x.dat)):=by simpa [Hid] using fA.o
       clear fA;go_wp2;go_roundw
       case rel=>exact⟨j+1,acc,true,by omega,by go_num,rfl,by first | omega | (simp;omega),hf.o,hT.o,hI.o⟩
       case measure=>simp [intOf];omega
     · have gX:((y:Int) != (k:Int))=true:=by simp;omega
       have hf:Hid ((acc++[(y,sd)])++zBe kB (k,s) true ((x.idx.zip x.dat).drop (j+1))=zBe kB (k,s) false (x.idx.zip x.dat)):=by have:=fA.o;simp [Hid] at this ⊢;rw [if_neg (by omega)] at this;simpa using this
       clear fA
       go_wp2_with (first
        | (at_builtin;refine zAg _ rfl (.tmp 44) (.tmp 50) _ _ rfl (g+3) 3 iI (.int .i64 0) 1 8 Ap gB fH fI fJ rfl u7 acc.length (nats (acc.map (·.1))) rfl (hT.o.ri.alloc _) 1 [.int .i64 (y:Int)] (zCr wr Ap _ _ rfl) (by unfold maxLen;omega) (by omega) (by have:=hI.o.bz.lt;simp;omega) ?_;intro v1 w1 fR fD fE;have fS:Chg (fun b=>g+3≤b) wr w1:=((AF _ wr).alloc _).grown fD (fun g' e _=>(hT.o.ri.lt g' e).1);have fG:=hI.o.chg fS;have fT:=fG.bz.lt;have fU:=hT.o.mid fD;have x71:=fG.c7 gA fP.o;have gL:=fG.rng gA gD gJ.o)
        | (refine AJ rfl 187 (.tmp 56) rfl b2 (off2+j * 128) rfl (bvs sd) _ gL Aq rfl (by rw [zA9,zAc,fQ]) ?_)
        | (refine zAo rfl 121 187 (.tmp 57) rfl (bvs sd).toArray (by rfl) 128 Ao zA9 zH2 (by rw [Aj,zAc,fQ]) (by omega) (by omega) ?_)
        | (at_builtin;refine zAg _ rfl (.tmp 52) (.tmp 58) _ _ rfl (g+3) 187 iS (.agg An) 128 128 Ao gC fK fL fM zCH u8 acc.length (secs (acc.map (·.2))) rfl (fU.alloc _) 1 (bvs sd) (zDu w1 sd fQ) (by unfold maxLen;omega) (by omega) (by simp;omega) ?_;intro v2 w2 fV fW fF;obtain⟨fO,fX⟩:=hT.o.step (by have:=hI.o.bz.lt;omega) fR fD fE (by simp) fV fW fF (by simp);have fB:=hI.o.chg fX))
       go_roundw
       case rel=>exact⟨j+1,acc++[(y,sd)],true,by omega,by go_num,rfl,by first | omega | (simp;omega),hf.o,fO,fB⟩
       case measure=>simp [intOf];omega
    | false =>
     rcases Nat.lt_trichotomy y k with gF | gF | gF
     · have gX:((y:Int) != (k:Int))=true:=by simp;omega
       have hf:Hid ((acc++[(y,sd)])++zBe kB (k,s) false ((x.idx.zip x.dat).drop (j+1))=zBe kB (k,s) false (x.idx.zip x.dat)):=by have:=fA.o;rw [if_neg (by rintro ⟨-,h⟩;omega),if_neg (by omega),decide_eq_false (by omega)] at this;simpa [Hid] using this
       clear fA
       go_wp2_with (first
        | (at_builtin;refine zAg _ rfl (.tmp 44) (.tmp 50) _ _ rfl (g+3) 3 iI (.int .i64 0) 1 8 Ap gB fH fI fJ rfl u7 acc.length (nats (acc.map (·.1))) rfl (hT.o.ri.alloc _) 1 [.int .i64 (y:Int)] (zCr wr Ap _ _ rfl) (by unfold maxLen;omega) (by omega) (by have:=hI.o.bz.lt;simp;omega) ?_;intro v1 w1 fR fD fE;have fS:Chg (fun b=>g+3≤b) wr w1:=((AF _ wr).alloc _).grown fD (fun g' e _=>(hT.o.ri.lt g' e).1);have fG:=hI.o.chg fS;have fT:=fG.bz.lt;have fU:=hT.o.mid fD;have x71:=fG.c7 gA fP.o;have gL:=fG.rng gA gD gJ.o)
        | (refine AJ rfl 187 (.tmp 56) rfl b2 (off2+j * 128) rfl (bvs sd) _ gL Aq rfl (by rw [zA9,zAc,fQ]) ?_)
        | (refine zAo rfl 121 187 (.tmp 57) rfl (bvs sd).toArray (by rfl) 128 Ao zA9 zH2 (by rw [Aj,zAc,fQ]) (by omega) (by omega) ?_)
        | (at_builtin;refine zAg _ rfl (.tmp 52) (.tmp 58) _ _ rfl (g+3) 187 iS (.agg An) 128 128 Ao gC fK fL fM zCH u8 acc.length (secs (acc.map (·.2))) rfl (fU.alloc _) 1 (bvs sd) (zDu w1 sd fQ) (by unfold maxLen;omega) (by omega) (by simp;omega) ?_;intro v2 w2 fV fW fF;obtain⟨fO,fX⟩:=hT.o.step (by have:=hI.o.bz.lt;omega) fR fD fE (by simp) fV fW fF (by simp);have fB:=hI.o.chg fX))
       go_roundw
       case rel=>exact⟨j+1,acc++[(y,sd)],false,by omega,by go_num,rfl,by first | omega | (simp;omega),hf.o,fO,fB⟩
       case measure=>simp [intOf];omega
     · subst gF
       have hf:Hid ((acc++[(y,s)])++zBe kB (y,s) true ((x.idx.zip x.dat).drop (j+1))=zBe kB (y,s) false (x.idx.zip x.dat)):=by have:=fA.o;rw [if_pos ⟨rfl,by omega⟩,if_pos rfl,decide_eq_true (by omega)] at this;simpa [Hid] using this
       clear fA
       go_wp2_with (first
        | (at_builtin;refine zAg _ rfl (.tmp 29) (.tmp 31) _ _ rfl (g+3) 3 iI (.int .i64 0) 1 8 Ap gB fH fI fJ rfl u7 acc.length (nats (acc.map (·.1))) rfl (hT.o.ri.alloc _) 1 [.int .i64 (y:Int)] (zCr wr Ap _ _ rfl) (by unfold maxLen;omega) (by omega) (by have:=hI.o.bz.lt;simp;omega) ?_;intro v1 w1 fR fD fE;have fS:Chg (fun b=>g+3≤b) wr w1:=((AF _ wr).alloc _).grown fD (fun g' e _=>(hT.o.ri.lt g' e).1);have fG:=hI.o.chg fS;have fT:=fG.bz.lt;have fU:=hT.o.mid fD)
        | (refine AK rfl 187 (.tmp 5) rfl (g+1) rfl 187 (bvs s).toArray _ _ fG.bs Aq rfl (zAD hs) ?_)
        | (refine zAo rfl 121 187 (.tmp 34) rfl (bvs s).toArray (by rfl) 128 Ao zA9 zH2 (by rw [Aj,zAc,hs]) (by omega) (by omega) ?_)
        | (at_builtin;refine zAg _ rfl (.tmp 33) (.tmp 35) _ _ rfl (g+3) 187 iS (.agg An) 128 128 Ao gC fK fL fM zCH u8 acc.length (secs (acc.map (·.2))) rfl (fU.alloc _) 1 (bvs s) (zDu w1 s hs) (by unfold maxLen;omega) (by omega) (by simp;omega) ?_;intro v2 w2 fV fW fF;obtain⟨fO,fX⟩:=hT.o.step (by have:=hI.o.bz.lt;omega) fR fD fE (by simp) fV fW fF (by simp);have fB:=hI.o.chg fX;have x62:=fB.c6 gI.o fC.o;have c02:=fB.get gI.o fZ gK.o))
       go_roundw
       case rel=>exact⟨j+1,acc++[(y,s)],true,by omega,by go_num,rfl,by first | omega | (simp;omega),hf.o,fO,fB⟩
       case measure=>simp [intOf];omega
     · have gX:((y:Int) != (k:Int))=true:=by simp;omega
       have hf:Hid ((acc++[(k,s)]++[(y,sd)])++zBe kB (k,s) true ((x.idx.zip x.dat).drop (j+1))=zBe kB (k,s) false (x.idx.zip x.dat)):=by have:=fA.o;rw [if_pos ⟨rfl,by omega⟩,if_neg (by omega),decide_eq_true (by omega)] at this;simpa [Hid] using this
       clear fA
       go_wp2_with (first
        | (at_builtin;refine zAg _ rfl (.tmp 29) (.tmp 31) _ _ rfl (g+3) 3 iI (.int .i64 0) 1 8 Ap gB fH fI fJ rfl u7 acc.length (nats (acc.map (·.1))) rfl (hT.o.ri.alloc _) 1 [.int .i64 (k:Int)] (zCr wr Ap _ _ rfl) (by unfold maxLen;omega) (by omega) (by have:=hI.o.bz.lt;simp;omega) ?_;intro v1 w1 fR fD fE;have fS:Chg (fun b=>g+3≤b) wr w1:=((AF _ wr).alloc _).grown fD (fun g' e _=>(hT.o.ri.lt g' e).1);have fG:=hI.o.chg fS;have fT:=fG.bz.lt;have fU:=hT.o.mid fD)
        | (refine AK rfl 187 (.tmp 5) rfl (g+1) rfl 187 (bvs s).toArray _ _ fG.bs Aq rfl (zAD hs) ?_)
        | (refine zAo rfl 121 187 (.tmp 34) rfl (bvs s).toArray (by rfl) 128 Ao zA9 zH2 (by rw [Aj,zAc,hs]) (by omega) (by omega) ?_)
        | (at_builtin;refine zAg _ rfl (.tmp 33) (.tmp 35) _ _ rfl (g+3) 187 iS (.agg An) 128 128 Ao gC fK fL fM zCH u8 acc.length (secs (acc.map (·.2))) rfl (fU.alloc _) 1 (bvs s) (zDu w1 s hs) (by unfold maxLen;omega) (by omega) (by simp;omega) ?_;intro v2 w2 fV fW fF;obtain⟨fO,fX⟩:=hT.o.step (by have:=hI.o.bz.lt;omega) fR fD fE (by simp) fV fW fF (by simp);have fB:=hI.o.chg fX;have x62:=fB.c6 gI.o fC.o;have c02:=fB.get gI.o fZ gK.o;have jA:(acc++[(k,s)]).length≤2 * j+1:=by simp;omega)
        | (at_builtin;refine zAg _ rfl (.tmp 44) (.tmp 50) _ _ rfl (g+3) 3 iI (.int .i64 0) 1 8 Ap gB fH fI fJ rfl v1 (acc++[(k,s)]).length (nats ((acc++[(k,s)]).map (·.1))) rfl (fO.ri.alloc _) 1 [.int .i64 (y:Int)] (zCr w2 Ap _ _ rfl) (by unfold maxLen;omega) (by omega) (by have:=fB.bz.lt;simp;omega) ?_;intro v3 w3 jB gM gN;have jC:Chg (fun b=>g+3≤b) w2 w3:=((AF _ w2).alloc _).grown gM (fun g' e _=>(fO.ri.lt g' e).1);have gO:=fB.chg jC;have jD:=gO.bz.lt;have jE:=fO.mid gM;have x73:=gO.c7 gA fP.o;have jF:=gO.rng gA gD gJ.o)
        | (refine AJ rfl 187 (.tmp 56) rfl b2 (off2+j * 128) rfl (bvs sd) _ jF Aq rfl (by rw [zA9,zAc,fQ]) ?_)
        | (refine zAo rfl 121 187 (.tmp 57) rfl (bvs sd).toArray (by rfl) 128 Ao zA9 zH2 (by rw [Aj,zAc,fQ]) (by omega) (by omega) ?_)
        | (at_builtin;refine zAg _ rfl (.tmp 52) (.tmp 58) _ _ rfl (g+3) 187 iS (.agg An) 128 128 Ao gC fK fL fM zCH v2 (acc++[(k,s)]).length (secs ((acc++[(k,s)]).map (·.2))) rfl (jE.alloc _) 1 (bvs sd) (zDu w3 sd fQ) (by unfold maxLen;omega) (by omega) (by simp;omega) ?_;intro v4 w4 jG jH gP;obtain⟨jI,jJ⟩:=fO.step (by have:=fB.bz.lt;omega) jB gM gN (by simp) jG jH gP (by simp);have jK:=fB.chg jJ))
       go_roundw
       case rel=>exact⟨j+1,acc++[(k,s)]++[(y,sd)],true,by omega,by go_num,rfl,by first | omega | (simp;omega),hf.o,jI,jK⟩
       case measure=>simp [intOf];omega
  · obtain rfl:j=len:=by omega
    have gG:Hid ((x.idx.zip x.dat).drop j=[]):=Ak (by rw [List.length_zip];have:=fC.o;omega)
    cases db with
    | true =>
     have hf:Hid (acc=zBe kB (k,s) false (x.idx.zip x.dat)):=by have:=fN.o;rw [gG.o] at this;simpa [Hid,zBe] using this
     clear fN;obtain⟨n,hn⟩:=nM ((acc).length);have gQ:=hid hn;clear hn;obtain⟨⟨A1,c1,rfl⟩,A2,c2,rfl⟩:=two_len hT.o gQ.o;have f6:=hI.o.bx.frozen 6;have f7:=hI.o.bx.frozen 7;have z6:wr.cell? ⟨g,6,none⟩=some (.slice x.iA x.idx.length x.ic):=hI.o.bx.cell 6;have z7:wr.cell? ⟨g,7,none⟩=some (.slice x.dA x.dat.length x.dc):=hI.o.bx.cell 7;have gR:Blk ((wr.setCell ⟨g,6,none⟩ (.slice A1 n c1)).setCell ⟨g,7,none⟩ (.slice A2 n c2)) g 123 [.int .i64 x.ino,.int .i64 x.kind,.int .i64 x.links,.int .i64 x.size,.int .i64 x.made,.int .i64 x.birth,.slice A1 n c1,.slice A2 n c2]:=(hI.o.bx.set_ 6 _).set_ 7 _;have gH:Blk ((wr.setCell ⟨g,6,none⟩ (.slice A1 n c1)).setCell ⟨g,7,none⟩ (.slice A2 n c2)) (g+2) 123 z8:=(hI.o.bz.far (by simp) _).far (by simp) _
     go_wp2_with (first
      | (refine AK rfl 123 (.tmp 3) rfl g rfl 123 _ _ _ gR rfl rfl rfl ?_)
      | (refine AL rfl 123 (.tmp 6) (.tmp 74) rfl (g+2) _ rfl rfl 123 _ gH rfl rfl (one8v _ _ _ _ _ _ _ _ _ _ _ _) ?_))
     have gS:=AM ((wr.setCell ⟨g,6,none⟩ (.slice A1 n c1)).setCell ⟨g,7,none⟩ (.slice A2 n c2)) (g+2) _ ([.int .i64 x.ino,.int .i64 x.kind,.int .i64 x.links,.int .i64 x.size,.int .i64 x.made,.int .i64 x.birth,.slice A1 n c1,.slice A2 n c2]:List Value).toArray _ _ gH;refine AN (AO rfl _ _ (g+2) 123 ([.int .i64 x.ino,.int .i64 x.kind,.int .i64 x.links,.int .i64 x.size,.int .i64 x.made,.int .i64 x.birth,.slice A1 n c1,.slice A2 n c2]:List Value).toArray (0,0) _ rfl gS Ar rfl rfl) rfl ?_;exact zIB hI.o hT.o hf.o hs gU.o _ [.int .i64 x.ino,.int .i64 x.kind,.int .i64 x.links,.int .i64 x.size,.int .i64 x.made,.int .i64 x.birth,.slice A1 n c1,.slice A2 n c2] rfl
    | false =>
     have hf:Hid (acc++[(k,s)]=zBe kB (k,s) false (x.idx.zip x.dat)):=by have:=fN.o;rw [gG.o] at this;simpa [Hid,zBe] using this
     clear fN
     go_upto_region 17 with (first
      | (at_builtin;refine zAg _ rfl (.tmp 62) (.tmp 64) _ _ rfl (g+3) 3 iI (.int .i64 0) 1 8 Ap gB fH fI fJ rfl u7 acc.length (nats (acc.map (·.1))) rfl (hT.o.ri.alloc _) 1 [.int .i64 (k:Int)] (zCr wr Ap _ _ rfl) (by unfold maxLen;omega) (by omega) (by have:=hI.o.bz.lt;simp;omega) ?_;intro v1 w1 fR fD fE;have fS:Chg (fun b=>g+3≤b) wr w1:=((AF _ wr).alloc _).grown fD (fun g' e _=>(hT.o.ri.lt g' e).1);have fG:=hI.o.chg fS;have fT:=fG.bz.lt;have fU:=hT.o.mid fD)
      | (refine AK rfl 187 (.tmp 5) rfl (g+1) rfl 187 (bvs s).toArray _ _ fG.bs Aq rfl (zAD hs) ?_)
      | (refine zAo rfl 121 187 (.tmp 67) rfl (bvs s).toArray (by rfl) 128 Ao zA9 zH2 (by rw [Aj,zAc,hs]) (by omega) (by omega) ?_)
      | (at_builtin;refine zAg _ rfl (.tmp 66) (.tmp 68) _ _ rfl (g+3) 187 iS (.agg An) 128 128 Ao gC fK fL fM zCH u8 acc.length (secs (acc.map (·.2))) rfl (fU.alloc _) 1 (bvs s) (zDu w1 s hs) (by unfold maxLen;omega) (by omega) (by simp;omega) ?_;intro v2 w2 fV fW fF;obtain⟨fO,fX⟩:=hT.o.step (by have:=hI.o.bz.lt;omega) fR fD fE (by simp) fV fW fF (by simp);have fB:=hI.o.chg fX))
     obtain⟨n,hn⟩:=nM ((acc++[(k,s)]).length);have gQ:=hid hn;clear hn;obtain⟨⟨A1,c1,rfl⟩,A2,c2,rfl⟩:=two_len fO gQ.o;have f6:=fB.bx.frozen 6;have f7:=fB.bx.frozen 7;have z6:w2.cell? ⟨g,6,none⟩=some (.slice x.iA x.idx.length x.ic):=fB.bx.cell 6;have z7:w2.cell? ⟨g,7,none⟩=some (.slice x.dA x.dat.length x.dc):=fB.bx.cell 7;have gR:Blk ((w2.setCell ⟨g,6,none⟩ (.slice A1 n c1)).setCell ⟨g,7,none⟩ (.slice A2 n c2)) g 123 [.int .i64 x.ino,.int .i64 x.kind,.int .i64 x.links,.int .i64 x.size,.int .i64 x.made,.int .i64 x.birth,.slice A1 n c1,.slice A2 n c2]:=(fB.bx.set_ 6 _).set_ 7 _;have gH:Blk ((w2.setCell ⟨g,6,none⟩ (.slice A1 n c1)).setCell ⟨g,7,none⟩ (.slice A2 n c2)) (g+2) 123 z8:=(fB.bz.far (by simp) _).far (by simp) _
     go_wp2_with (first
      | (refine AK rfl 123 (.tmp 3) rfl g rfl 123 _ _ _ gR rfl rfl rfl ?_)
      | (refine AL rfl 123 (.tmp 6) (.tmp 74) rfl (g+2) _ rfl rfl 123 _ gH rfl rfl (one8v _ _ _ _ _ _ _ _ _ _ _ _) ?_))
     have gS:=AM ((w2.setCell ⟨g,6,none⟩ (.slice A1 n c1)).setCell ⟨g,7,none⟩ (.slice A2 n c2)) (g+2) _ ([.int .i64 x.ino,.int .i64 x.kind,.int .i64 x.links,.int .i64 x.size,.int .i64 x.made,.int .i64 x.birth,.slice A1 n c1,.slice A2 n c2]:List Value).toArray _ _ gH;refine AN (AO rfl _ _ (g+2) 123 ([.int .i64 x.ino,.int .i64 x.kind,.int .i64 x.links,.int .i64 x.size,.int .i64 x.made,.int .i64 x.birth,.slice A1 n c1,.slice A2 n c2]:List Value).toArray (0,0) _ rfl gS Ar rfl rfl) rfl ?_;exact zIB fB fO hf.o hs gU.o _ [.int .i64 x.ino,.int .i64 x.kind,.int .i64 x.links,.int .i64 x.size,.int .i64 x.made,.int .i64 x.birth,.slice A1 n c1,.slice A2 n c2] rfl
theorem zGK:(Tryz.prog.info? 123).map (fun i=>(i.zero,i.size,i.bytes))=some (some (.agg z8.toArray),8,96):=by kernel_rfl
theorem zEi:((Tryz.prog.info? 123).bind (·.zero)).map (·.cells.size)=some 8:=by kernel_rfl
theorem one8m (x:Hd):∀ u∈zAb x,u.oneCell'=true:=by
 intro v hv;simp only [zAb,Ag,Ah,or_false] at hv;rcases hv with rfl | rfl | rfl | rfl | rfl | rfl | rfl | rfl<;>rfl
theorem zCL (w:World) (x:Hd):Src Am 8 26 (.slice (some ⟨w.heap.size,0,none⟩) 1 1) 1 (zAb x) (w.alloc (.cells (zAb x).toArray 123)) :=
 zA3 (P:=Am) As (AB w 123 (zAb x)) (one8m x)
abbrev zAa (t:Tr):List Value:=[.int .i64 t.sectors,.int .i64 t.inodes,.int .i64 t.births,.slice t.A t.l.length t.c]
abbrev z4:List Value:=[.int .i64 0,.int .i64 0,.int .i64 0,.slice none 0 0]
theorem one4v (a b c:Int) (A1:Option Addr) (n c1:Nat):(#[.int .i64 a,.int .i64 b,.int .i64 c,.slice A1 n c1]:Array Value).all (·.oneCell')=true:=by
 rw [AH];intro v hv;simp only [List.mem_toArray,Ag,Ah,or_false] at hv;rcases hv with rfl | rfl | rfl | rfl<;>rfl
structure TreeI (w:World) (g r:Nat) (t:Tr) (wr:World):Prop where
 lt:g<r
 bt:Blk wr g 28 (zAa t)
 bz:Blk wr r 28 z4
 tr:TrAt wr g t
 ch:Below g w wr
def zEZ (w:World) (base:Nat) (v:Value) (l:List Hd):Prop:=w.ownsRow base 123 8 v l.length (l.flatMap zAb)
section
variable {w wr w2:World} {g r j len b off:Nat} {t:Tr} {x:Hd}
theorem TreeI.chg (h:TreeI w g r t wr) (hc:Chg (fun b=>r+1≤b) wr w2):TreeI w g r t w2:=by
 have h1:=h.bz.lt;have h0:=h.lt
 have hb:Below g wr w2:=hc.below (by omega) fun b hb hS=>by omega
 exact⟨h.lt,h.bt.chg hc (by omega),h.bz.chg hc (by omega),h.tr.below hb,h.ch.trans hb⟩
theorem TreeI.c3 (h:TreeI w g r t wr) (hA:t.A=some ⟨b,off,none⟩) (hl:len=t.l.length):wr.cell? ⟨g,3,none⟩=some (.slice (some ⟨b,off,none⟩) len t.c):=by
 rw [hl,←hA];exact h.bt.cell 3
theorem TreeI.get (h:TreeI w g r t wr) (hA:t.A=some ⟨b,off,none⟩) (hj:j<t.l.length) (hx:t.l[j]=x):wr.rangeAt b (off+j * 8) (zAb x):=by
 obtain⟨b',off',fA,_,hc⟩:=h.tr.range wr g t j hj;rw [hA] at fA;injection fA with fA;injection fA with h1 h2;subst h1 h2 hx;exact hc
theorem zEZ.nil (w:World) (base:Nat):zEZ w base (.slice none 0 0) []:=AE w base _ _
theorem zEZ.form {base n:Nat} {v:Value} {l:List Hd} (h:zEZ w base v l) (hn:l.length=n):∃ A c,v=.slice A n c:=by
 subst hn;obtain⟨A,c,hv,_⟩:=AG (B:=w.heap.size) h fun g hg=>(AP h g hg).2;exact⟨A,c,hv⟩
theorem zEZ.snoc {base:Nat} {v':Value} {l:List Hd} (r1:w2.ownsRow base 123 8 v' (l.length+1) (l.flatMap zAb++zAb x)):zEZ w2 base v' (l++[x]):=by
 unfold zEZ;rw [Ae,List.flatMap_append];simpa using r1
end
def zGz (n:Nat) (A:Option Addr):Prop:=∀ a,A=some a→n≤a.block
theorem zF3 {w wr:World} {g r n c1:Nat} {t:Tr} {A1:Option Addr} {l:List Hd} (hI:TreeI w g r t wr) (hT:zEZ wr (r+1) (.slice A1 n c1) l) (hn:l.length=n)
 (hh:∀ x∈l,HdAt wr g x) (hg:w.heap.size=g) (W:World) (cs:List Value)
 (hW:W=(wr.setCell ⟨g,3,none⟩ (.slice A1 n c1)).setRow r cs.toArray) :
 (∃ A c,l.length≤c∧Ending.returned (.agg #[.int .i64 t.sectors,.int .i64 t.inodes,.int .i64 t.births,.slice A1 n c1])=.returned (trV {t with A:=A,c:=c,l:=l}) ∧
  TrAt W W.heap.size {t with A:=A,c:=c,l:=l}∧zGz w.heap.size A)∧Below w.heap.size w W:=by
 have hz:=hI.bz.lt;have h0:=hI.lt
 have hc:Chg (fun b=>g≤b∧b<r+1) wr W:=by
  rw [hW];exact ((AF _ wr).setCell (p:=⟨g,3,none⟩) (fun _=>⟨AD _,by show g<r+1;omega⟩) _).setRow (g:=r) (fun _=>⟨by omega,by omega⟩) _
 have hb:Below g wr W:=hc.below (by omega) fun b hb h=>by omega
 have fB:zEZ W (r+1) (.slice A1 n c1) l:=zAy hT hc fun g' fD h=>by have:=(AP hT g' fD).1;omega
 obtain⟨A,c,hv,h1⟩:=AG (B:=W.heap.size) fB fun g hg=>(AP fB g hg).2;injection hv with e1 e2 e3
 have fA:l.length≤c1∧zGz w.heap.size A1:=by
  rcases fB.2 with ⟨h9,h8⟩ | ⟨g',cap,cur,h9,hgb,_,hnc,_⟩
  · injection h9 with fC _ h10;exact⟨by omega,fun a e=>by rw [fC] at e;cases e⟩
  · injection h9 with fC _ h10;exact⟨by omega,fun a e=>by rw [fC] at e;injection e with e;rw [←e,hg];show g≤g';omega⟩
 subst e1 hn;refine⟨⟨A1,c1,fA.1,rfl,⟨h1,fun x hx=>((hh x hx).below hb).more (by have:=hc.size;omega)⟩,fA.2⟩,?_⟩;rw [hg];exact hI.ch.trans hb
theorem zIb (B:Nat) (t:Tr) (i:Int) (w:World) (ht:TrAt w B t) (hB:B≤w.heap.size) (hl:t.l.length≤600) :
 Calls Am 135 #[trV t,.int .i64 i] w fun e w'=>(∃ A c,(t.l.filter fun y=>decide (y.ino≠i)).length≤c∧e=.returned (trV {t with A:=A,c:=c,l:=t.l.filter fun y=>decide (y.ino≠i)}) ∧
  TrAt w' w'.heap.size {t with A:=A,c:=c,l:=t.l.filter fun y=>decide (y.ino≠i)}∧zGz w.heap.size A)∧Below w.heap.size w w':=by
 obtain⟨iH,fN,fG,fH,fI⟩:=AI zGK
 have fK:TreeI w w.heap.size (w.heap.size+1) t ((w.alloc (.cells (zAa t).toArray 28)).alloc (.cells z4.toArray 28)):=by
  have hb:Below w.heap.size w ((w.alloc (.cells (zAa t).toArray 28)).alloc (.cells z4.toArray 28)):=(br.alloc nr _).alloc (by simp) _;refine⟨Nat.lt_succ_self _,(AB w 28 (zAa t)).alloc _,?_,(ht.more hB).below hb,hb⟩;have:=AB (w.alloc (.cells (zAa t).toArray 28)) 28 z4;simpa using this
 unfold trV;go_enter Tryz.func135,Tryz.ntmps135;go_upto_region 1 with (fail);generalize (w.alloc (.cells #[.int .i64 t.sectors,.int .i64 t.inodes,.int .i64 t.births,.slice t.A t.l.length t.c] 28)).alloc (.cells #[.int .i64 0,.int .i64 0,.int .i64 0,.slice none 0 0] 28)=w0 at *;generalize hg:w.heap.size=g at *;have fO:=hid hg;clear hg ht;obtain⟨len,fC⟩:∃ len,len=t.l.length:=⟨_,rfl⟩;have fA:=hid fC;rw [←fC] at hl ⊢;clear fC;go_wp2
 go_loopw [5,6] (fun v i' wr=>∃ (j:Nat) (acc:List Hd),j≤len∧i'=.int .i64 j∧acc.length≤j ∧
  Hid (acc++(t.l.drop j).filter (fun y=>decide (y.ino≠i))=t.l.filter fun y=>decide (y.ino≠i))∧Hid (zEZ wr (g+1+1) v acc)∧Hid (TreeI w g (g+1) t wr)) (fun _ i' _=>len-(intOf i').toNat)
 case atStart=>exact⟨0,[],AC _,rfl,by simp,by simp [Hid],zEZ.nil _ _,fK⟩
 case round =>
  obtain⟨j,acc,hj,rfl,fX,fB,hT,hI⟩:=hrel;clear fK;by_cases fY:j<len
  · have fD:j<t.l.length:=by have:=fA.o;omega
    obtain⟨b,off,hA,fZ,-⟩:=hI.o.tr.row.at_ (by omega);have x3:=hI.o.c3 hA fA.o;have hr:=hI.o.get hA fD rfl
    have fF:Hid ((t.l.drop j).filter (fun y=>decide (y.ino≠i))=(if t.l[j].ino=i then [] else [t.l[j]])++(t.l.drop (j+1)).filter (fun y=>decide (y.ino≠i))):=by
     show _=_
     rw [Ai fD,List.filter_cons];by_cases e:t.l[j].ino=i<;>simp [e]
    generalize t.l[j]=y at *;have c0:wr.cell? ⟨b,off+j * 8,none⟩=some (.int .i64 y.ino):=hr 0 _ rfl;clear hA;by_cases he:y.ino=i
    · have hf:Hid (acc++(t.l.drop (j+1)).filter (fun y=>decide (y.ino≠i))=t.l.filter fun y=>decide (y.ino≠i)):=by
       have:=fB.o;rw [fF.o,if_pos he] at this;exact this
      rw [he] at c0;clear fB fF he;go_wp2;go_roundw
      case rel=>exact⟨j+1,acc,by omega,by go_num,by omega,hf.o,hT.o,hI.o⟩
      case measure=>simp [intOf];omega
    · have hf:Hid ((acc++[y])++(t.l.drop (j+1)).filter (fun y=>decide (y.ino≠i))=t.l.filter fun y=>decide (y.ino≠i)):=by
       have:=fB.o;rw [fF.o,if_neg he] at this;simpa [Hid] using this
      have gA:(y.ino != i)=true:=by simpa using he
      have hz:=hI.o.bz.lt;have fP:Hid (∀ g',u5.ownBlock=some g'→g+1+1≤g'):=fun g' e=>(AP hT.o g' e).1;clear fB fF he
      go_wp2_with (first
       | (refine AJ rfl 123 (.tmp 26) rfl b (off+j * 8) rfl (zAb y) _ hr Ar rfl rfl ?_)
       | (refine zAo rfl 26 123 (.tmp 27) rfl (zAb y).toArray (by rfl) 8 As zCe zEi rfl (by omega) (by omega) ?_)
       | (at_builtin;refine zAg _ rfl (.tmp 22) (.tmp 28) _ _ rfl (g+1+1) 123 iH (.agg z8.toArray) 8 96 As fN fG fH fI rfl u5 acc.length (acc.flatMap zAb) rfl (hT.o.alloc _) 1 (zAb y) (zCL wr y) (by unfold maxLen;omega) (by omega) (by simp;omega) ?_;intro v1 w1 fQ fR fS;have fT:Chg (fun b=>g+1+1≤b) wr w1:=((AF _ wr).alloc _).grown fR (fun g' e _=>fP.o g' e);have fU:=hI.o.chg fT))
      go_roundw
      case rel=>exact⟨j+1,acc++[y],by omega,by go_num,by simp;omega,hf.o,zEZ.snoc fQ,fU⟩
      case measure=>simp [intOf];omega
  · obtain rfl:j=len:=by omega
    have fJ:Hid (t.l.drop j=[]):=Ak (by have:=fA.o;omega)
    have hf:Hid (acc=t.l.filter fun y=>decide (y.ino≠i)):=by have:=fB.o;rw [fJ.o] at this;simpa [Hid] using this
    have x3:wr.cell? ⟨g,3,none⟩=some (.slice t.A j t.c):=by rw [fA.o];exact hI.o.bt.cell 3
    clear fB;go_upto_region 7 with (fail);obtain⟨n,hn⟩:=nM (acc.length);have fL:=hid hn;clear hn;obtain⟨A1,c1,rfl⟩:=hT.o.form fL.o;have f3:=hI.o.bt.frozen 3;have fV:Blk (wr.setCell ⟨g,3,none⟩ (.slice A1 n c1)) g 28 [.int .i64 t.sectors,.int .i64 t.inodes,.int .i64 t.births,.slice A1 n c1]:=hI.o.bt.set_ 3 _;have fM:Blk (wr.setCell ⟨g,3,none⟩ (.slice A1 n c1)) (g+1) 28 z4:=hI.o.bz.far (by simp) _;have fW:=AM (wr.setCell ⟨g,3,none⟩ (.slice A1 n c1)) (g+1) _ ([.int .i64 t.sectors,.int .i64 t.inodes,.int .i64 t.births,.slice A1 n c1]:List Value).toArray _ _ fM
    go_wp2_with (first
     | (refine AK rfl 28 (.tmp 2) rfl g rfl 28 _ _ _ fV rfl rfl rfl ?_)
     | (refine AL rfl 28 (.tmp 4) (.tmp 32) rfl (g+1) _ rfl rfl 28 _ fM rfl rfl (one4v _ _ _ _ _ _) ?_))
    refine AN (AO rfl _ _ (g+1) 28 ([.int .i64 t.sectors,.int .i64 t.inodes,.int .i64 t.births,.slice A1 n c1]:List Value).toArray (0,0) _ rfl fW At rfl rfl) rfl ?_;have fE:=zF3 hI.o hT.o fL.o (fun x hx=>hI.o.tr.hds x (by rw [hf.o] at hx;exact (List.mem_filter.1 hx).1)) fO.o _ [.int .i64 t.sectors,.int .i64 t.inodes,.int .i64 t.births,.slice A1 n c1] rfl;rw [hf.o] at fE;exact fE
end Go.Proofs.YtolpcfhfcdkokaaGreatDoor
namespace Go.Proofs
open Go.Shelf
def Tryz.lays106_ren:Shelf.Ren:=⟨fun | 106=>132 | 213=>148 | 265=>166 | n=>n,fun | 9=>9 | 3=>3 | n=>n,fun | n=>n⟩
theorem Tryz.lays106:Go.Proofs.Lays.n106 Tryz.prog Tryz.lays106_ren:={
 mixed:=by kernel_rfl
 f106:=Tryz.func132.trans (congrArg some (by kernel_rfl))
 f213:=Tryz.func148.trans (congrArg some (by kernel_rfl))
 f265:=Tryz.func166.trans (congrArg some (by kernel_rfl))
 t3:=Tryz.underlying3
 a3:=Tryz.isAgg3
 z3:=Tryz.sizeOf3
 v3:=Tryz.zeroValue3
 t9:=Tryz.underlying9
 a9:=Tryz.isAgg9
 z9:=Tryz.sizeOf9
 v9:=Tryz.zeroValue9}
open Go.RowKit in
theorem Tryz.strings_Compare (a b:ByteArray) (w:World) :
 Calls Tryz.prog 132 #[.string a,.string b] w fun e w'=>e=.returned (.int .i64 (Lib.compareBytes a.data.toList b.data.toList))∧w'=w:=Any.strings_Compare Tryz.lays106 a b w
def Tryz.lays144_ren:Shelf.Ren:=⟨fun | 144=>64 | 143=>93 | 219=>125 | 217=>139 | 225=>140 | 224=>141 | 267=>142 | 266=>153 | 314=>154 | n=>n,fun | 9=>9 | 4=>4 | 3=>3 | 5=>5 | 46=>145 | 146=>216 | 51=>215 | n=>n,fun | 1=>0 | n=>n⟩
theorem Tryz.lays144:Go.Proofs.Lays.n144 Tryz.prog Tryz.lays144_ren:={
 mixed:=by kernel_rfl
 f143:=Tryz.func93.trans (congrArg some (by kernel_rfl))
 f144:=Tryz.func64.trans (congrArg some (by kernel_rfl))
 f217:=Tryz.func139.trans (congrArg some (by kernel_rfl))
 f219:=Tryz.func125.trans (congrArg some (by kernel_rfl))
 f224:=Tryz.func141.trans (congrArg some (by kernel_rfl))
 f225:=Tryz.func140.trans (congrArg some (by kernel_rfl))
 f266:=Tryz.func153.trans (congrArg some (by kernel_rfl))
 f267:=Tryz.func142.trans (congrArg some (by kernel_rfl))
 f314:=Tryz.func154.trans (congrArg some (by kernel_rfl))
 t3:=Tryz.underlying3
 a3:=Tryz.isAgg3
 z3:=Tryz.sizeOf3
 v3:=Tryz.zeroValue3
 t4:=Tryz.underlying4
 a4:=Tryz.isAgg4
 z4:=Tryz.sizeOf4
 v4:=Tryz.zeroValue4
 t5:=Tryz.underlying5
 a5:=Tryz.isAgg5
 z5:=Tryz.sizeOf5
 v5:=Tryz.zeroValue5
 t9:=Tryz.underlying9
 a9:=Tryz.isAgg9
 z9:=Tryz.sizeOf9
 v9:=Tryz.zeroValue9
 t46:=Tryz.underlying145
 a46:=Tryz.isAgg145
 z46:=Tryz.sizeOf145
 v46:=Tryz.zeroValue145
 t51:=Tryz.underlying215
 a51:=Tryz.isAgg215
 z51:=Tryz.sizeOf215
 v51:=Tryz.zeroValue215
 t146:=Tryz.underlying216
 a146:=Tryz.isAgg216
 z146:=Tryz.sizeOf216
 v146:=Tryz.zeroValue216
 g1:=by kernel_rfl}
open Go.Lib
theorem Tryz.strings_Contains (s sub:ByteArray) (m:Int) (w:World) (hs:s.size<4294967281) (hm:w.cell? ⟨0,0,none⟩=some (.int .i64 m)) :
 Calls Tryz.prog 64 #[.string s,.string sub] w fun e w'=>e=.returned (.bool (Lib.contains s.data.toList sub.data.toList))∧w'=w:=Any.strings_Contains Tryz.lays144 s sub m w hs hm
def Tryz.lays99_ren:Shelf.Ren:=⟨fun | 99=>62 | 206=>91 | n=>n,fun | 9=>9 | 4=>4 | 3=>3 | n=>n,fun | n=>n⟩
theorem Tryz.lays99:Go.Proofs.Lays.n99 Tryz.prog Tryz.lays99_ren:={
 mixed:=by kernel_rfl
 f99:=Tryz.func62.trans (congrArg some (by kernel_rfl))
 f206:=Tryz.func91.trans (congrArg some (by kernel_rfl))
 t3:=Tryz.underlying3
 a3:=Tryz.isAgg3
 z3:=Tryz.sizeOf3
 v3:=Tryz.zeroValue3
 t4:=Tryz.underlying4
 a4:=Tryz.isAgg4
 z4:=Tryz.sizeOf4
 v4:=Tryz.zeroValue4
 t9:=Tryz.underlying9
 a9:=Tryz.isAgg9
 z9:=Tryz.sizeOf9
 v9:=Tryz.zeroValue9}
theorem Tryz.strings_HasPrefix (s p:ByteArray) (w:World) :
 Calls Tryz.prog 62 #[.string s,.string p] w fun e w'=>e=.returned (.bool (Lib.hasPrefix s.data.toList p.data.toList))∧w'=w:=Any.strings_HasPrefix Tryz.lays99 s p w
def Tryz.lays100_ren:Shelf.Ren:=⟨fun | 100=>63 | 207=>92 | n=>n,fun | 9=>9 | 4=>4 | 3=>3 | n=>n,fun | n=>n⟩
theorem Tryz.lays100:Go.Proofs.Lays.n100 Tryz.prog Tryz.lays100_ren:={
 mixed:=by kernel_rfl
 f100:=Tryz.func63.trans (congrArg some (by kernel_rfl))
 f207:=Tryz.func92.trans (congrArg some (by kernel_rfl))
 t3:=Tryz.underlying3
 a3:=Tryz.isAgg3
 z3:=Tryz.sizeOf3
 v3:=Tryz.zeroValue3
 t4:=Tryz.underlying4
 a4:=Tryz.isAgg4
 z4:=Tryz.sizeOf4
 v4:=Tryz.zeroValue4
 t9:=Tryz.underlying9
 a9:=Tryz.isAgg9
 z9:=Tryz.sizeOf9
 v9:=Tryz.zeroValue9}
theorem Tryz.strings_HasSuffix (s p:ByteArray) (w:World) (hs:s.size≤9223372036854775807) :
 Calls Tryz.prog 63 #[.string s,.string p] w fun e w'=>e=.returned (.bool (Lib.hasSuffix s.data.toList p.data.toList))∧w'=w:=Any.strings_HasSuffix Tryz.lays100 s p w hs
def Tryz.lays146_ren:Shelf.Ren:=⟨fun | 146=>65 | 221=>94 | 268=>126 | 138=>127 | 143=>93 | 195=>143 | 197=>144 | 218=>145 | 219=>125 | 260=>155 | 217=>139 | 225=>140 | 224=>141 | 267=>142 | 266=>153 | 314=>154 | n=>n,fun | 9=>9 | 31=>108 | 3=>3 | 4=>4 | 0=>0 | 105=>208 | 21=>21 | 5=>5 | 46=>145 | 119=>227 | 139=>230 | 138=>229 | 146=>216 | 51=>215 | n=>n,fun | 1=>0 | 3=>1 | 4=>2 | n=>n⟩
theorem Tryz.lays146:Go.Proofs.Lays.n146 Tryz.prog Tryz.lays146_ren:={
 mixed:=by kernel_rfl
 f138:=Tryz.func127.trans (congrArg some (by kernel_rfl))
 f143:=Tryz.func93.trans (congrArg some (by kernel_rfl))
 f146:=Tryz.func65.trans (congrArg some (by kernel_rfl))
 f195:=Tryz.func143.trans (congrArg some (by kernel_rfl))
 f197:=Tryz.func144.trans (congrArg some (by kernel_rfl))
 f217:=Tryz.func139.trans (congrArg some (by kernel_rfl))
 f218:=Tryz.func145.trans (congrArg some (by kernel_rfl))
 f219:=Tryz.func125.trans (congrArg some (by kernel_rfl))
 f221:=Tryz.func94.trans (congrArg some (by kernel_rfl))
 f224:=Tryz.func141.trans (congrArg some (by kernel_rfl))
 f225:=Tryz.func140.trans (congrArg some (by kernel_rfl))
 f260:=Tryz.func155.trans (congrArg some (by kernel_rfl))
 f266:=Tryz.func153.trans (congrArg some (by kernel_rfl))
 f267:=Tryz.func142.trans (congrArg some (by kernel_rfl))
 f268:=Tryz.func126.trans (congrArg some (by kernel_rfl))
 f314:=Tryz.func154.trans (congrArg some (by kernel_rfl))
 t0:=Tryz.underlying0
 a0:=Tryz.isAgg0
 z0:=Tryz.sizeOf0
 v0:=Tryz.zeroValue0
 t3:=Tryz.underlying3
 a3:=Tryz.isAgg3
 z3:=Tryz.sizeOf3
 v3:=Tryz.zeroValue3
 t4:=Tryz.underlying4
 a4:=Tryz.isAgg4
 z4:=Tryz.sizeOf4
 v4:=Tryz.zeroValue4
 t5:=Tryz.underlying5
 a5:=Tryz.isAgg5
 z5:=Tryz.sizeOf5
 v5:=Tryz.zeroValue5
 t9:=Tryz.underlying9
 a9:=Tryz.isAgg9
 z9:=Tryz.sizeOf9
 v9:=Tryz.zeroValue9
 t21:=Tryz.underlying21
 a21:=Tryz.isAgg21
 z21:=Tryz.sizeOf21
 v21:=Tryz.zeroValue21
 t31:=Tryz.underlying108
 a31:=Tryz.isAgg108
 z31:=Tryz.sizeOf108
 v31:=Tryz.zeroValue108
 t46:=Tryz.underlying145
 a46:=Tryz.isAgg145
 z46:=Tryz.sizeOf145
 v46:=Tryz.zeroValue145
 t51:=Tryz.underlying215
 a51:=Tryz.isAgg215
 z51:=Tryz.sizeOf215
 v51:=Tryz.zeroValue215
 t105:=Tryz.underlying208
 a105:=Tryz.isAgg208
 z105:=Tryz.sizeOf208
 v105:=Tryz.zeroValue208
 t119:=Tryz.underlying227
 a119:=Tryz.isAgg227
 z119:=Tryz.sizeOf227
 t138:=Tryz.underlying229
 a138:=Tryz.isAgg229
 z138:=Tryz.sizeOf229
 v138:=Tryz.zeroValue229
 t139:=Tryz.underlying230
 a139:=Tryz.isAgg230
 z139:=Tryz.sizeOf230
 v139:=Tryz.zeroValue230
 t146:=Tryz.underlying216
 a146:=Tryz.isAgg216
 z146:=Tryz.sizeOf216
 v146:=Tryz.zeroValue216
 g1:=by kernel_rfl
 g3:=by kernel_rfl
 g4:=by kernel_rfl}
theorem Tryz.strings_Split (s sep:ByteArray) (m:Int) (w:World) (hs:s.size<4294967281) (hm:w.cell? ⟨0,0,none⟩=some (.int .i64 m)) (h1:1≤sep.size) :
 Calls Tryz.prog 65 #[.string s,.string sep] w fun e w' =>
  e=.returned (.slice (some ⟨w.heap.size,0,none⟩) (Lib.countB s sep+1) (Lib.countB s sep+1))∧w'=w.alloc (.cells ((Lib.splitB sep 0 (Lib.countB s sep) s).map Value.string).toArray 9):=Any.strings_Split Tryz.lays146 (by kernel_rfl) s sep m w hs hm h1
def Tryz.sortE_ren:Shelf.Ren:=⟨fun | 6=>130 | 15=>147 | 14=>146 | 28=>164 | 29=>165 | 20=>156 | 21=>157 | 22=>158 | 23=>159 | 24=>160 | 25=>161 | 26=>162 | 27=>163 | 46=>167 | 47=>168 | 48=>169 | 49=>170 | 50=>171 | 57=>172 | n=>n,fun | 22=>65 | 24=>130 | 25=>199 | 3=>3 | 39=>145 | 0=>0 | 53=>215 | 55=>146 | 4=>4 | 46=>220 | 45=>219 | 50=>164 | 5=>5 | 9=>9 | 66=>231 | 70=>235 | 76=>237 | 77=>58 | n=>n,fun | n=>n⟩
theorem Tryz.sortE:Go.Proofs.SlLaysF0.n6 Tryz.prog Tryz.sortE_ren:={
 mixed:=by kernel_rfl
 f6:=⟨Tryz.f130.name,by decide,Tryz.func130.trans (congrArg some (by kernel_rfl))⟩
 f14:=⟨Tryz.f146.name,by decide,Tryz.func146.trans (congrArg some (by kernel_rfl))⟩
 f15:=Tryz.func147.trans (congrArg some (by kernel_rfl))
 f20:=⟨Tryz.f156.name,by decide,Tryz.func156.trans (congrArg some (by kernel_rfl))⟩
 f21:=⟨Tryz.f157.name,by decide,Tryz.func157.trans (congrArg some (by kernel_rfl))⟩
 f22:=⟨Tryz.f158.name,by decide,Tryz.func158.trans (congrArg some (by kernel_rfl))⟩
 f23:=⟨Tryz.f159.name,by decide,Tryz.func159.trans (congrArg some (by kernel_rfl))⟩
 f24:=⟨Tryz.f160.name,by decide,Tryz.func160.trans (congrArg some (by kernel_rfl))⟩
 f25:=⟨Tryz.f161.name,by decide,Tryz.func161.trans (congrArg some (by kernel_rfl))⟩
 f26:=⟨Tryz.f162.name,by decide,Tryz.func162.trans (congrArg some (by kernel_rfl))⟩
 f27:=⟨Tryz.f163.name,by decide,Tryz.func163.trans (congrArg some (by kernel_rfl))⟩
 f28:=Tryz.func164.trans (congrArg some (by kernel_rfl))
 f29:=Tryz.func165.trans (congrArg some (by kernel_rfl))
 f46:=⟨Tryz.f167.name,by decide,Tryz.func167.trans (congrArg some (by kernel_rfl))⟩
 f47:=Tryz.func168.trans (congrArg some (by kernel_rfl))
 f48:=Tryz.func169.trans (congrArg some (by kernel_rfl))
 f49:=⟨Tryz.f170.name,by decide,Tryz.func170.trans (congrArg some (by kernel_rfl))⟩
 f50:=⟨Tryz.f171.name,by decide,Tryz.func171.trans (congrArg some (by kernel_rfl))⟩
 f57:=⟨Tryz.f172.name,by decide,Tryz.func172.trans (congrArg some (by kernel_rfl))⟩
 t0:=Tryz.underlying0
 a0:=Tryz.isAgg0
 z0:=Tryz.sizeOf0
 v0:=Tryz.zeroValue0
 t3:=Tryz.underlying3
 a3:=Tryz.isAgg3
 z3:=Tryz.sizeOf3
 v3:=Tryz.zeroValue3
 t4:=Tryz.underlying4
 a4:=Tryz.isAgg4
 z4:=Tryz.sizeOf4
 v4:=Tryz.zeroValue4
 t5:=Tryz.underlying5
 a5:=Tryz.isAgg5
 z5:=Tryz.sizeOf5
 v5:=Tryz.zeroValue5
 t9:=Tryz.underlying9
 a9:=Tryz.isAgg9
 z9:=Tryz.sizeOf9
 v9:=Tryz.zeroValue9
 t22:=Tryz.underlying65
 a22:=Tryz.isAgg65
 z22:=Tryz.sizeOf65
 v22:=Tryz.zeroValue65
 t25:=Tryz.underlying199
 a25:=Tryz.isAgg199
 z25:=Tryz.sizeOf199
 v25:=Tryz.zeroValue199
 t39:=Tryz.underlying145
 a39:=Tryz.isAgg145
 z39:=Tryz.sizeOf145
 v39:=Tryz.zeroValue145
 t45:=Tryz.underlying219
 a45:=Tryz.isAgg219
 z45:=Tryz.sizeOf219
 v45:=Tryz.zeroValue219
 t46:=Tryz.underlying220
 a46:=Tryz.isAgg220
 z46:=Tryz.sizeOf220
 v46:=Tryz.zeroValue220
 t50:=Tryz.underlying164
 a50:=Tryz.isAgg164
 z50:=Tryz.sizeOf164
 v50:=Tryz.zeroValue164
 t53:=Tryz.underlying215
 a53:=Tryz.isAgg215
 z53:=Tryz.sizeOf215
 v53:=Tryz.zeroValue215
 t55:=Tryz.underlying146
 a55:=Tryz.isAgg146
 z55:=Tryz.sizeOf146
 v55:=Tryz.zeroValue146
 t66:=Tryz.underlying231
 a66:=Tryz.isAgg231
 z66:=Tryz.sizeOf231
 v66:=Tryz.zeroValue231
 t70:=Tryz.underlying235
 a70:=Tryz.isAgg235
 z70:=Tryz.sizeOf235
 v70:=Tryz.zeroValue235
 t76:=Tryz.underlying237
 a76:=Tryz.isAgg237
 z76:=Tryz.sizeOf237
 v76:=Tryz.zeroValue237
 t77:=Tryz.underlying58
 a77:=Tryz.isAgg58
 z77:=Tryz.sizeOf58
 v77:=Tryz.zeroValue58}
def Tryz.mclone_ren:Shelf.Ren:=⟨fun | 5=>133 | 7=>149 | n=>n,fun | 23=>107 | 25=>3 | 3=>187 | 4=>4 | 20=>20 | n=>n,fun | n=>n⟩
theorem Tryz.mclone:Go.Proofs.SlLaysW.n5 Tryz.prog Tryz.mclone_ren:={
 mixed:=by kernel_rfl
 f5:=⟨Tryz.f133.name,by decide,Tryz.func133.trans (congrArg some (by kernel_rfl))⟩
 f7:=Tryz.func149.trans (congrArg some (by kernel_rfl))
 t4:=Tryz.underlying4
 a4:=Tryz.isAgg4
 z4:=Tryz.sizeOf4
 v4:=Tryz.zeroValue4
 t20:=Tryz.underlying20
 a20:=Tryz.isAgg20
 z20:=Tryz.sizeOf20
 v20:=Tryz.zeroValue20
 t23:=Tryz.underlying107
 a23:=Tryz.isAgg107
 z23:=Tryz.sizeOf107
 v23:=Tryz.zeroValue107}
end Go.Proofs
namespace Go.Proofs.YtolpcfhfcdkokaaGreatDoor
open Lib (hid)
open List renaming length_cons → Ac,length_append → Ae,drop_eq_getElem_cons → Ai,drop_eq_nil_of_le → Ak,length_nil → Al
open Proofs.Tryz renaming prog → Am,underlying123 → Ar,underlying26 → As,underlying28 → At
open Blk renaming new → AB
open Nat renaming zero_le → AC
open Chg renaming refl → AF
open Go renaming info_parts → AI,wpList_load_mid → AJ,wpList_load_row → AK,wpList_store_row → AL,setRow_heap → AM,bodyPost_ret → AN,results_cell_row → AO
open World.ownsRow renaming lt → AP
open Go.RowKit
abbrev kH (x:Hd):Int:=x.ino
structure WithI (w:World) (g:Nat) (t:Tr) (x:Hd) (wr:World):Prop where
 ti:TreeI w g (g+2) t wr
 bx:Blk wr (g+1) 123 (zAb x)
 hx:HdAt wr g x
theorem WithI.chg {w wr w2:World} {g:Nat} {t:Tr} {x:Hd} (h:WithI w g t x wr) (hc:Chg (fun b=>g+3≤b) wr w2):WithI w g t x w2:=by
 have hz:=h.ti.bz.lt;have h0:=h.ti.lt
 have hb:Below g wr w2:=hc.below (by omega) fun b hb hS=>by omega
 exact⟨h.ti.chg hc,h.bx.chg hc (by omega),h.hx.below hb⟩
theorem WithI.drewN {w wr:World} {g:Nat} {t:Tr} {x:Hd} (h:WithI w g t x wr) (n:Nat):WithI w g t x (wr.drewN n):=h.chg (Chg.drewN (AF _ wr) n)
theorem zEZ.drewN {wr:World} {base:Nat} {v:Value} {l:List Hd} (h:zEZ wr base v l) (n:Nat):zEZ (wr.drewN n) base v l:=zAy h (Chg.drewN (AF (fun _=>False) wr) n) fun _ _ e=>e
theorem with_any (B:Nat) (t:Tr) (x:Hd) (w:World) (ht:TrAt w B t) (hx:HdAt w B x) (hB:B≤w.heap.size) (hl:t.l.length≤600) :
 Calls Am 113 #[trV t,hdV x] w fun e w'=>(∃ A c,(zBe kH x false t.l).length≤c∧e=.returned (trV {t with A:=A,c:=c,l:=zBe kH x false t.l}) ∧
  TrAt w' w'.heap.size {t with A:=A,c:=c,l:=zBe kH x false t.l}∧zGz w.heap.size A)∧Below w.heap.size w w':=by
 obtain⟨iH,fS,fI,fJ,fK⟩:=AI zGK
 have gL:WithI w w.heap.size t x (((w.alloc (.cells (zAa t).toArray 28)).alloc (.cells (zAb x).toArray 123)).alloc (.cells z4.toArray 28)):=by
  have hb:Below w.heap.size w (((w.alloc (.cells (zAa t).toArray 28)).alloc (.cells (zAb x).toArray 123)).alloc (.cells z4.toArray 28)):=((br.alloc nr _).alloc (by simp) _).alloc (by simp;omega) _;refine⟨⟨by omega,((AB w 28 (zAa t)).alloc _).alloc _,?_,(ht.more hB).below hb,hb⟩,?_,(hx.more hB).below hb⟩
  · have:=AB ((w.alloc (.cells (zAa t).toArray 28)).alloc (.cells (zAb x).toArray 123)) 28 z4;simpa using this
  · have:=(AB (w.alloc (.cells (zAa t).toArray 28)) 123 (zAb x)).alloc (.cells z4.toArray 28);simpa using this
 unfold trV hdV;go_enter Tryz.func113,Tryz.ntmps113;go_upto_region 1 with (fail);generalize ((w.alloc (.cells #[.int .i64 t.sectors,.int .i64 t.inodes,.int .i64 t.births,.slice t.A t.l.length t.c] 28)).alloc (.cells (zAb x).toArray 123)).alloc (.cells #[.int .i64 0,.int .i64 0,.int .i64 0,.slice none 0 0] 28)=w0 at *;generalize hg:w.heap.size=g at *;have gM:=hid hg;clear hg ht hx;obtain⟨len,fR⟩:∃ len,len=t.l.length:=⟨_,rfl⟩;have fA:=hid fR;rw [←fR] at hl ⊢;clear fR;go_wp2
 go_loopw [5,6,7] (fun v d i' wr=>∃ (j:Nat) (acc:List Hd) (db:Bool),j≤len∧i'=.int .i64 j∧d=.bool db∧acc.length≤2 * j ∧
  Hid (acc++zBe kH x db (t.l.drop j)=zBe kH x false t.l)∧Hid (zEZ wr (g+3) v acc)∧Hid (WithI w g t x wr)) (fun _ _ i' _=>len-(intOf i').toNat)
 case atStart=>exact⟨0,[],false,AC _,rfl,rfl,by simp,by simp [Hid],zEZ.nil _ _,gL⟩
 case round =>
  obtain⟨j,acc,db,hj,rfl,rfl,gX,fL,hT,hI⟩:=hrel;clear gL;by_cases gY:j<len
  · have fE:j<t.l.length:=by have:=fA.o;omega
    obtain⟨b,off,hA,gZ,-⟩:=hI.o.ti.tr.row.at_ (by omega);have fF:=hid hA;have x3:=hI.o.ti.c3 hA fA.o;have hr:=hI.o.ti.get hA fE rfl;have x0:wr.cell? ⟨g+1,0,none⟩=some (.int .i64 x.ino):=hI.o.bx.cell 0;have gN:Hid (t.l.drop j=t.l[j]::t.l.drop (j+1)):=Ai fE;have fM:Hid (t.l[j]=t.l[j]):=rfl
    have fC:Hid (acc++((if db=false∧x.ino≤t.l[j].ino then [x] else [])++((if t.l[j].ino=x.ino then [] else [t.l[j]])++zBe kH x (db || decide (x.ino≤t.l[j].ino)) (t.l.drop (j+1))))=zBe kH x false t.l):=by
     have:=fL.o;rw [gN.o] at this;exact this
    generalize gO:t.l[j]=y at *;have fM:Hid (t.l[j]=y):=gO;clear gO fL gN;have c0:wr.cell? ⟨b,off+j * 8,none⟩=some (.int .i64 y.ino):=hr 0 _ rfl;clear hA;have hz:=hI.o.ti.bz.lt
    have j0:(0:Int)≤(j:Int):=by omega
    have j1:(j:Int)<(len:Int):=by omega
    cases db with
    | true =>
     by_cases fN:y.ino=x.ino
     · have hf:Hid (acc++zBe kH x true (t.l.drop (j+1))=zBe kH x false t.l):=by have:=fC.o;simpa [Hid,fN] using this
       have gC:(y.ino != x.ino)=false:=by simp [fN]
       have gE:¬y.ino≠x.ino:=by simp [fN]
       clear fC;go_upto_region 6 with (fail)
       go_quiet (fail)
       have fD:=hI.o.drewN nq;have fO:=hT.o.drewN nq;clear x3 hr x0 c0;generalize wr.drewN nq=w1 at *;have x3:=fD.ti.c3 fF.o fA.o;have hr:=fD.ti.get fF.o fE fM.o;have x0:w1.cell? ⟨g+1,0,none⟩=some (.int .i64 x.ino):=fD.bx.cell 0;have c0:w1.cell? ⟨b,off+j * 8,none⟩=some (.int .i64 y.ino):=hr 0 _ rfl;have gD:=fD.ti.bz.lt;go_upto_region 9 with (fail)
       go_quiet (fail)
       have fB:=fD.drewN nq;have fH:=fO.drewN nq;clear x3 hr x0 c0;generalize w1.drewN nq=w2 at *;have x3:=fB.ti.c3 fF.o fA.o;have hr:=fB.ti.get fF.o fE fM.o;have x0:w2.cell? ⟨g+1,0,none⟩=some (.int .i64 x.ino):=fB.bx.cell 0;have c0:w2.cell? ⟨b,off+j * 8,none⟩=some (.int .i64 y.ino):=hr 0 _ rfl;have gP:=fB.ti.bz.lt;go_wp2;go_roundw
       case rel=>exact⟨j+1,acc,true,by omega,by go_num,rfl,by first | omega | (simp;omega),hf.o,fH,fB⟩
       case measure=>simp [intOf];omega
     · have hf:Hid ((acc++[y])++zBe kH x true (t.l.drop (j+1))=zBe kH x false t.l):=by have:=fC.o;simp [Hid] at this ⊢;rw [if_neg fN] at this;simpa using this
       have gC:(y.ino != x.ino)=true:=by simpa using fN
       clear fC;go_upto_region 6 with (fail)
       go_quiet (fail)
       have fD:=hI.o.drewN nq;have fO:=hT.o.drewN nq;clear x3 hr x0 c0;generalize wr.drewN nq=w1 at *;have x3:=fD.ti.c3 fF.o fA.o;have hr:=fD.ti.get fF.o fE fM.o;have x0:w1.cell? ⟨g+1,0,none⟩=some (.int .i64 x.ino):=fD.bx.cell 0;have c0:w1.cell? ⟨b,off+j * 8,none⟩=some (.int .i64 y.ino):=hr 0 _ rfl;have gD:=fD.ti.bz.lt;go_upto_region 9 with (fail)
       go_quiet (fail)
       have fB:=fD.drewN nq;have fH:=fO.drewN nq;clear x3 hr x0 c0;generalize w1.drewN nq=w2 at *;have x3:=fB.ti.c3 fF.o fA.o;have hr:=fB.ti.get fF.o fE fM.o;have x0:w2.cell? ⟨g+1,0,none⟩=some (.int .i64 x.ino):=fB.bx.cell 0;have c0:w2.cell? ⟨b,off+j * 8,none⟩=some (.int .i64 y.ino):=hr 0 _ rfl;have gP:=fB.ti.bz.lt
       go_wp2_with (first
        | (refine AJ rfl 123 (.tmp 45) rfl b (off+j * 8) rfl (zAb y) _ hr Ar rfl rfl ?_)
        | (refine zAo rfl 26 123 (.tmp 46) rfl (zAb y).toArray (by rfl) 8 As zCe zEi rfl (by omega) (by omega) ?_)
        | (at_builtin;refine zAg _ rfl (.tmp 41) (.tmp 47) _ _ rfl (g+3) 123 iH (.agg z8.toArray) 8 96 As fS fI fJ fK rfl u5 (acc).length ((acc).flatMap zAb) rfl (fH.alloc _) 1 (zAb y) (zCL w2 y) (by unfold maxLen;(try simp only [Ae,Ac,Al]);omega) (by (try simp only [Ae,Ac,Al]);omega) (by simp;omega) ?_;intro v3 w3 gF gG gH;have gI:Chg (fun b=>g+3≤b) w2 w3:=((AF _ w2).alloc _).grown gG (fun g' e _=>(AP fH g' e).1);have fG:=fB.chg gI;have fQ:=zEZ.snoc gF))
       go_roundw
       case rel=>exact⟨j+1,acc++[y],true,by omega,by go_num,rfl,by first | omega | (simp;omega),hf.o,fQ,fG⟩
       case measure=>simp [intOf];omega
    | false =>
     rcases Int.lt_trichotomy y.ino x.ino with fN | fN | fN
     · have hf:Hid ((acc++[y])++zBe kH x false (t.l.drop (j+1))=zBe kH x false t.l):=by have:=fC.o;rw [if_neg (by rintro ⟨-,h⟩;omega),if_neg (by omega),decide_eq_false (by omega)] at this;simpa [Hid] using this
       have gC:(y.ino != x.ino)=true:=by simp;omega
       have fT:¬x.ino≤y.ino:=by omega
       have fU:decide (x.ino≤y.ino)=false:=by simpa using fT
       clear fC;go_upto_region 6 with (fail)
       go_quiet (fail)
       have fD:=hI.o.drewN nq;have fO:=hT.o.drewN nq;clear x3 hr x0 c0;generalize wr.drewN nq=w1 at *;have x3:=fD.ti.c3 fF.o fA.o;have hr:=fD.ti.get fF.o fE fM.o;have x0:w1.cell? ⟨g+1,0,none⟩=some (.int .i64 x.ino):=fD.bx.cell 0;have c0:w1.cell? ⟨b,off+j * 8,none⟩=some (.int .i64 y.ino):=hr 0 _ rfl;have gD:=fD.ti.bz.lt;go_upto_region 9 with (fail)
       go_quiet (fail)
       have fB:=fD.drewN nq;have fH:=fO.drewN nq;clear x3 hr x0 c0;generalize w1.drewN nq=w2 at *;have x3:=fB.ti.c3 fF.o fA.o;have hr:=fB.ti.get fF.o fE fM.o;have x0:w2.cell? ⟨g+1,0,none⟩=some (.int .i64 x.ino):=fB.bx.cell 0;have c0:w2.cell? ⟨b,off+j * 8,none⟩=some (.int .i64 y.ino):=hr 0 _ rfl;have gP:=fB.ti.bz.lt
       go_wp2_with (first
        | (refine AJ rfl 123 (.tmp 45) rfl b (off+j * 8) rfl (zAb y) _ hr Ar rfl rfl ?_)
        | (refine zAo rfl 26 123 (.tmp 46) rfl (zAb y).toArray (by rfl) 8 As zCe zEi rfl (by omega) (by omega) ?_)
        | (at_builtin;refine zAg _ rfl (.tmp 41) (.tmp 47) _ _ rfl (g+3) 123 iH (.agg z8.toArray) 8 96 As fS fI fJ fK rfl u5 (acc).length ((acc).flatMap zAb) rfl (fH.alloc _) 1 (zAb y) (zCL w2 y) (by unfold maxLen;(try simp only [Ae,Ac,Al]);omega) (by (try simp only [Ae,Ac,Al]);omega) (by simp;omega) ?_;intro v3 w3 gF gG gH;have gI:Chg (fun b=>g+3≤b) w2 w3:=((AF _ w2).alloc _).grown gG (fun g' e _=>(AP fH g' e).1);have fG:=fB.chg gI;have fQ:=zEZ.snoc gF))
       go_roundw
       case rel=>exact⟨j+1,acc++[y],false,by omega,by go_num,rfl,by first | omega | (simp;omega),hf.o,fQ,fG⟩
       case measure=>simp [intOf];omega
     · have hf:Hid ((acc++[x])++zBe kH x true (t.l.drop (j+1))=zBe kH x false t.l):=by have:=fC.o;rw [if_pos ⟨rfl,by omega⟩,if_pos fN,decide_eq_true (by omega)] at this;simpa [Hid] using this
       have gC:(y.ino != x.ino)=false:=by simp [fN]
       have gE:¬y.ino≠x.ino:=by simp [fN]
       have fT:x.ino≤y.ino:=by omega
       have fU:decide (x.ino≤y.ino)=true:=by simpa using fT
       clear fC;go_upto_region 6 with (fail)
       go_quiet (fail)
       have fD:=hI.o.drewN nq;have fO:=hT.o.drewN nq;clear x3 hr x0 c0;generalize wr.drewN nq=w1 at *;have x3:=fD.ti.c3 fF.o fA.o;have hr:=fD.ti.get fF.o fE fM.o;have x0:w1.cell? ⟨g+1,0,none⟩=some (.int .i64 x.ino):=fD.bx.cell 0;have c0:w1.cell? ⟨b,off+j * 8,none⟩=some (.int .i64 y.ino):=hr 0 _ rfl;have gD:=fD.ti.bz.lt
       go_upto_region 9 with (first
        | (refine AK rfl 123 (.tmp 3) rfl (g+1) rfl 123 (zAb x).toArray _ _ fD.bx Ar rfl rfl ?_)
        | (refine zAo rfl 26 123 (.tmp 29) rfl (zAb x).toArray (by rfl) 8 As zCe zEi rfl (by omega) (by omega) ?_)
        | (at_builtin;refine zAg _ rfl (.tmp 28) (.tmp 30) _ _ rfl (g+3) 123 iH (.agg z8.toArray) 8 96 As fS fI fJ fK rfl u5 (acc).length ((acc).flatMap zAb) rfl (fO.alloc _) 1 (zAb x) (zCL w1 x) (by unfold maxLen;(try simp only [Ae,Ac,Al]);omega) (by (try simp only [Ae,Ac,Al]);omega) (by simp;omega) ?_;intro v2 w2 fV fW fX;have fY:Chg (fun b=>g+3≤b) w1 w2:=((AF _ w1).alloc _).grown fW (fun g' e _=>(AP fO g' e).1);have fB:=fD.chg fY;have fH:=zEZ.snoc fV))
       clear x3 hr x0 c0;have x3:=fB.ti.c3 fF.o fA.o;have hr:=fB.ti.get fF.o fE fM.o;have x0:w2.cell? ⟨g+1,0,none⟩=some (.int .i64 x.ino):=fB.bx.cell 0;have c0:w2.cell? ⟨b,off+j * 8,none⟩=some (.int .i64 y.ino):=hr 0 _ rfl;go_upto_region 9 with (fail)
       go_quiet (fail)
       have fG:=fB.drewN nq;have fQ:=fH.drewN nq;clear x3 hr x0 c0;generalize w2.drewN nq=w3 at *;have x3:=fG.ti.c3 fF.o fA.o;have hr:=fG.ti.get fF.o fE fM.o;have x0:w3.cell? ⟨g+1,0,none⟩=some (.int .i64 x.ino):=fG.bx.cell 0;have c0:w3.cell? ⟨b,off+j * 8,none⟩=some (.int .i64 y.ino):=hr 0 _ rfl;have gQ:=fG.ti.bz.lt;go_wp2;go_roundw
       case rel=>exact⟨j+1,acc++[x],true,by omega,by go_num,rfl,by first | omega | (simp;omega),hf.o,fQ,fG⟩
       case measure=>simp [intOf];omega
     · have hf:Hid ((acc++[x]++[y])++zBe kH x true (t.l.drop (j+1))=zBe kH x false t.l):=by have:=fC.o;rw [if_pos ⟨rfl,by omega⟩,if_neg (by omega),decide_eq_true (by omega)] at this;simpa [Hid] using this
       have gC:(y.ino != x.ino)=true:=by simp;omega
       have fT:x.ino≤y.ino:=by omega
       have fU:decide (x.ino≤y.ino)=true:=by simpa using fT
       clear fC;go_upto_region 6 with (fail)
       go_quiet (fail)
       have fD:=hI.o.drewN nq;have fO:=hT.o.drewN nq;clear x3 hr x0 c0;generalize wr.drewN nq=w1 at *;have x3:=fD.ti.c3 fF.o fA.o;have hr:=fD.ti.get fF.o fE fM.o;have x0:w1.cell? ⟨g+1,0,none⟩=some (.int .i64 x.ino):=fD.bx.cell 0;have c0:w1.cell? ⟨b,off+j * 8,none⟩=some (.int .i64 y.ino):=hr 0 _ rfl;have gD:=fD.ti.bz.lt
       go_upto_region 9 with (first
        | (refine AK rfl 123 (.tmp 3) rfl (g+1) rfl 123 (zAb x).toArray _ _ fD.bx Ar rfl rfl ?_)
        | (refine zAo rfl 26 123 (.tmp 29) rfl (zAb x).toArray (by rfl) 8 As zCe zEi rfl (by omega) (by omega) ?_)
        | (at_builtin;refine zAg _ rfl (.tmp 28) (.tmp 30) _ _ rfl (g+3) 123 iH (.agg z8.toArray) 8 96 As fS fI fJ fK rfl u5 (acc).length ((acc).flatMap zAb) rfl (fO.alloc _) 1 (zAb x) (zCL w1 x) (by unfold maxLen;(try simp only [Ae,Ac,Al]);omega) (by (try simp only [Ae,Ac,Al]);omega) (by simp;omega) ?_;intro v2 w2 fV fW fX;have fY:Chg (fun b=>g+3≤b) w1 w2:=((AF _ w1).alloc _).grown fW (fun g' e _=>(AP fO g' e).1);have fB:=fD.chg fY;have fH:=zEZ.snoc fV))
       clear x3 hr x0 c0;have x3:=fB.ti.c3 fF.o fA.o;have hr:=fB.ti.get fF.o fE fM.o;have x0:w2.cell? ⟨g+1,0,none⟩=some (.int .i64 x.ino):=fB.bx.cell 0;have c0:w2.cell? ⟨b,off+j * 8,none⟩=some (.int .i64 y.ino):=hr 0 _ rfl;go_upto_region 9 with (fail)
       go_quiet (fail)
       have fG:=fB.drewN nq;have fQ:=fH.drewN nq;clear x3 hr x0 c0;generalize w2.drewN nq=w3 at *;have x3:=fG.ti.c3 fF.o fA.o;have hr:=fG.ti.get fF.o fE fM.o;have x0:w3.cell? ⟨g+1,0,none⟩=some (.int .i64 x.ino):=fG.bx.cell 0;have c0:w3.cell? ⟨b,off+j * 8,none⟩=some (.int .i64 y.ino):=hr 0 _ rfl;have gQ:=fG.ti.bz.lt
       go_wp2_with (first
        | (refine AJ rfl 123 (.tmp 45) rfl b (off+j * 8) rfl (zAb y) _ hr Ar rfl rfl ?_)
        | (refine zAo rfl 26 123 (.tmp 46) rfl (zAb y).toArray (by rfl) 8 As zCe zEi rfl (by omega) (by omega) ?_)
        | (at_builtin;refine zAg _ rfl (.tmp 41) (.tmp 47) _ _ rfl (g+3) 123 iH (.agg z8.toArray) 8 96 As fS fI fJ fK rfl v2 (acc++[x]).length ((acc++[x]).flatMap zAb) rfl (fQ.alloc _) 1 (zAb y) (zCL w3 y) (by unfold maxLen;(try simp only [Ae,Ac,Al]);omega) (by (try simp only [Ae,Ac,Al]);omega) (by simp;omega) ?_;intro v4 w4 gR gS gT;have gU:Chg (fun b=>g+3≤b) w3 w4:=((AF _ w3).alloc _).grown gS (fun g' e _=>(AP fQ g' e).1);have gV:=fG.chg gU;have gW:=zEZ.snoc gR))
       go_roundw
       case rel=>exact⟨j+1,acc++[x]++[y],true,by omega,by go_num,rfl,by first | omega | (simp;omega),hf.o,gW,gV⟩
       case measure=>simp [intOf];omega
  · obtain rfl:j=len:=by omega
    have fZ:Hid (t.l.drop j=[]):=Ak (by have:=fA.o;omega)
    have x3:wr.cell? ⟨g,3,none⟩=some (.slice t.A j t.c):=by rw [fA.o];exact hI.o.ti.bt.cell 3
    have hz:=hI.o.ti.bz.lt
    cases db with
    | true =>
     have hf:Hid (acc=zBe kH x false t.l):=by have:=fL.o;rw [fZ.o] at this;simpa [Hid,zBe] using this
     clear fL;go_upto_region 13 with (fail);obtain⟨n,hn⟩:=nM ((acc).length);have gA:=hid hn;clear hn;obtain⟨A1,c1,rfl⟩:=hT.o.form gA.o;have f3:=hI.o.ti.bt.frozen 3;have z3:wr.cell? ⟨g,3,none⟩=some (.slice t.A t.l.length t.c):=hI.o.ti.bt.cell 3;have gJ:Blk (wr.setCell ⟨g,3,none⟩ (.slice A1 n c1)) g 28 [.int .i64 t.sectors,.int .i64 t.inodes,.int .i64 t.births,.slice A1 n c1]:=hI.o.ti.bt.set_ 3 _;have gB:Blk (wr.setCell ⟨g,3,none⟩ (.slice A1 n c1)) (g+2) 28 z4:=hI.o.ti.bz.far (by simp) _;have gK:=AM (wr.setCell ⟨g,3,none⟩ (.slice A1 n c1)) (g+2) _ ([.int .i64 t.sectors,.int .i64 t.inodes,.int .i64 t.births,.slice A1 n c1]:List Value).toArray _ _ gB
     go_wp2_with (first
      | (refine AK rfl 28 (.tmp 2) rfl g rfl 28 _ _ _ gJ rfl rfl rfl ?_)
      | (refine AL rfl 28 (.tmp 4) (.tmp 57) rfl (g+2) _ rfl rfl 28 _ gB rfl rfl (one4v _ _ _ _ _ _) ?_))
     refine AN (AO rfl _ _ (g+2) 28 ([.int .i64 t.sectors,.int .i64 t.inodes,.int .i64 t.births,.slice A1 n c1]:List Value).toArray (0,0) _ rfl gK At rfl rfl) rfl ?_
     have fP:=zF3 hI.o.ti hT.o gA.o (fun y hy=>by
      rw [hf.o] at hy;rcases zEK _ _ _ _ _ hy with rfl | hy
      · exact hI.o.hx
      · exact hI.o.ti.tr.hds y hy) gM.o _ [.int .i64 t.sectors,.int .i64 t.inodes,.int .i64 t.births,.slice A1 n c1] rfl
     rw [hf.o] at fP;exact fP
    | false =>
     have hf:Hid (acc++[x]=zBe kH x false t.l):=by have:=fL.o;rw [fZ.o] at this;simpa [Hid,zBe] using this
     clear fL
     go_upto_region 13 with (first
      | (refine AK rfl 123 (.tmp 3) rfl (g+1) rfl 123 (zAb x).toArray _ _ hI.o.bx Ar rfl rfl ?_)
      | (refine zAo rfl 26 123 (.tmp 52) rfl (zAb x).toArray (by rfl) 8 As zCe zEi rfl (by omega) (by omega) ?_)
      | (at_builtin;refine zAg _ rfl (.tmp 51) (.tmp 53) _ _ rfl (g+3) 123 iH (.agg z8.toArray) 8 96 As fS fI fJ fK rfl u5 (acc).length ((acc).flatMap zAb) rfl (hT.o.alloc _) 1 (zAb x) (zCL wr x) (by unfold maxLen;(try simp only [Ae,Ac,Al]);omega) (by (try simp only [Ae,Ac,Al]);omega) (by simp;omega) ?_;intro v2 w2 fV fW fX;have fY:Chg (fun b=>g+3≤b) wr w2:=((AF _ wr).alloc _).grown fW (fun g' e _=>(AP hT.o g' e).1);have fB:=hI.o.chg fY;have fH:=zEZ.snoc fV))
     obtain⟨n,hn⟩:=nM ((acc++[x]).length);have gA:=hid hn;clear hn;obtain⟨A1,c1,rfl⟩:=fH.form gA.o;have f3:=fB.ti.bt.frozen 3;have z3:w2.cell? ⟨g,3,none⟩=some (.slice t.A t.l.length t.c):=fB.ti.bt.cell 3;have gJ:Blk (w2.setCell ⟨g,3,none⟩ (.slice A1 n c1)) g 28 [.int .i64 t.sectors,.int .i64 t.inodes,.int .i64 t.births,.slice A1 n c1]:=fB.ti.bt.set_ 3 _;have gB:Blk (w2.setCell ⟨g,3,none⟩ (.slice A1 n c1)) (g+2) 28 z4:=fB.ti.bz.far (by simp) _;have gK:=AM (w2.setCell ⟨g,3,none⟩ (.slice A1 n c1)) (g+2) _ ([.int .i64 t.sectors,.int .i64 t.inodes,.int .i64 t.births,.slice A1 n c1]:List Value).toArray _ _ gB
     go_wp2_with (first
      | (refine AK rfl 28 (.tmp 2) rfl g rfl 28 _ _ _ gJ rfl rfl rfl ?_)
      | (refine AL rfl 28 (.tmp 4) (.tmp 57) rfl (g+2) _ rfl rfl 28 _ gB rfl rfl (one4v _ _ _ _ _ _) ?_))
     refine AN (AO rfl _ _ (g+2) 28 ([.int .i64 t.sectors,.int .i64 t.inodes,.int .i64 t.births,.slice A1 n c1]:List Value).toArray (0,0) _ rfl gK At rfl rfl) rfl ?_
     have fP:=zF3 fB.ti fH gA.o (fun y hy=>by
      rw [hf.o] at hy;rcases zEK _ _ _ _ _ hy with rfl | hy
      · exact fB.hx
      · exact fB.ti.tr.hds y hy) gM.o _ [.int .i64 t.sectors,.int .i64 t.inodes,.int .i64 t.births,.slice A1 n c1] rfl
     rw [hf.o] at fP;exact fP
end Go.Proofs.YtolpcfhfcdkokaaGreatDoor
