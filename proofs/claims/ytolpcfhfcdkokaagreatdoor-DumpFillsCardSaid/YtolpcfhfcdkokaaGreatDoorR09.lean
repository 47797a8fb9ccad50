/- Joined out of ArmT..World. -/
import Derived.Shelf.Vars
import Derived.Deep.DeepHandedRow
import Derived.Lib.LaidTab
import Derived.Test.YtolpcfhfcdkokaaGreatDoorR08
set_option maxHeartbeats 16000000
set_option maxRecDepth 100000
set_option linter.unusedSimpArgs false
set_option linter.unusedVariables false
namespace Go.Proofs.YtolpcfhfcdkokaaGreatDoor
open Lib (hid)
open _root_.Array renaming all_eq_true_iff_forall_mem → Aa
open List renaming mem_cons → Ab,not_mem_nil → Ac,getElem_mem → Ad,length_take → Ae,size_toArray → Af,getElem?_eq_some_iff → Ag,getElem?_eq_getElem → Ah,getElem?_cons_zero → Ai,getElem?_cons_succ → Aj,mem_map → Ak,getElem_map → Al,length_cons → Am,zip_cons_cons → An,length_map → Ao,map_nil → Ap,nil_append → Aq,getElem_of_mem → Ar,getElem_set → As,mem_singleton → At,length_set → Au,length_range → Av
open Proofs.Tryz renaming prog → Aw,underlying64 → Ax,underlying5 → Ay,underlying9 → Az,zeroCells187 → AA,underlying107 → AB,underlying187 → AC
open Go renaming wpList_load_row → AD,wpList_store_row → AE,bodyPost_ret → AF,results_cell_row → AG,setRow_heap → AH
open Chg renaming refl → AI,of_fresh → AJ
open Nat renaming zero_le → AK,lt_of_lt_of_le → AL,le_refl → AM,lt_or_ge → AN,le_trans → AO
open RowKit.Below renaming refl → AP
open World renaming cell?_alloc_lt → AQ
open Instr renaming sliceAt → AR
open Option.some renaming inj → AS
open Int renaming toNat_natCast → AT
open Blk renaming new → AU
open PN renaming keys → AV,kind → AW
open Code renaming wp → AX
open Go.RowKit
theorem tree_one0 (t:Tr):(zAa t).toArray.all (·.oneCell')=true:=by
 rw [Aa];intro v hv;simp only [zAa,List.mem_toArray,Ab,Ac,or_false] at hv;rcases hv with rfl | rfl | rfl | rfl<;>rfl
section
variable {ops:Array Oper} {rest:List Oper} {o:Oper} {a:Act} {w:World} {Q:Exit→Act→World→Prop} {x y:Operand} {g:Nat}
theorem ldT {t:Tr} (H:Blk w g 28 (zAa t)) (h1:o.guard=none) (h2:o.op=.load 28 x) (h3:a.eval x=.pointer (some ⟨g,0,none⟩)) (h:wpList Aw ops Q rest (a.put o.dst (.agg (zAa t).toArray)) w):wpList Aw ops Q (o::rest) a w :=
 AD h1 28 x h2 g h3 28 (zAa t).toArray _ _ H Tryz.underlying28 rfl (by kernel_rfl) h
theorem stT {cs:List Value} (t:Tr) (H:Blk w g 28 cs) (h1:o.guard=none) (h2:o.op=.store 28 x y) (h3:a.eval x=.pointer (some ⟨g,0,none⟩)) (h4:a.eval y=.agg (zAa t).toArray) (h5:cs.toArray.size=4) (h:wpList Aw ops Q rest (a.put o.dst undef) (w.setRow g (zAa t).toArray)):wpList Aw ops Q (o::rest) a w :=
 AE h1 28 x y h2 g (zAa t).toArray h3 h4 28 _ H (by kernel_rfl) h5 (tree_one0 t) h
end
theorem one10v (c:Nat) (s:St) {v1 v2:Value} (h1:v1.oneCell'=true) (h2:v2.oneCell'=true):(zAq c s v1 v2).toArray.all (·.oneCell')=true:=by
 rw [Aa];intro v hv
 have hv:v∈zAq c s v1 v2:=by simpa using hv
 simp only [zAq,Ab,Ac,or_false] at hv
 rcases hv with rfl | rfl | rfl | rfl | rfl | rfl | rfl | rfl | rfl | rfl<;>first | rfl | assumption
theorem stA {ops:Array Oper} {rest:List Oper} {o:Oper} {a:Act} {w:World} {Q:Exit→Act→World→Prop} {x y:Operand} {g:Nat} {cs:List Value} (c:Nat) (s:St) (v1 v2:Value) (H:Blk w g 67 cs) (h1:o.guard=none) (h2:o.op=.store 67 x y) (h3:a.eval x=.pointer (some ⟨g,0,none⟩)) (h4:a.eval y=.agg (zAq c s v1 v2).toArray) (h5:cs.toArray.size=10) (h6:v1.oneCell'=true) (h7:v2.oneCell'=true) (h:wpList Aw ops Q rest (a.put o.dst undef) (w.setRow g (zAq c s v1 v2).toArray)):wpList Aw ops Q (o::rest) a w :=
 AE h1 67 x y h2 g (zAq c s v1 v2).toArray h3 h4 67 _ H (by kernel_rfl) h5 (one10v c s h6 h7) h
theorem zCS {fn:Func} {Q:Ending→World→Prop} {a:Act} {w:World} {g:Nat} {c0:List Value} {c:Nat} {s:St} {v1 v2:Value} {p:Tmp} (H:Blk w g 67 c0) (h1:fn.results=#[.cell p 67]) (h2:a.tmps.getD p undef=.pointer (some ⟨g,0,none⟩)) (h3:a.defers=[]) (h:Chg (fun b=>b=g) w (w.setRow g (zAq c s v1 v2).toArray)→Q (.returned (.agg (zAq c s v1 v2).toArray)) (w.setRow g (zAq c s v1 v2).toArray)):bodyPost Aw fn Q .ret a (w.setRow g (zAq c s v1 v2).toArray) :=
 AF (AG h1 _ _ g 67 (zAq c s v1 v2).toArray (0,0) _ h2 (AH w g _ _ _ _ H) Tryz.underlying67 rfl (by kernel_rfl)) h3 (h ((AI (fun b=>b=g) w).setRow (fun _=>rfl) _))
def ndSame (x y:Nd):Prop:=x.path=y.path∧x.kind=y.kind∧x.made=y.made∧x.same=y.same∧x.data=y.data
theorem zHw (A1 A2:Option Addr) (k1 k2:Nat) (l1 l2:List Nd) (w:World) (fC:NodesAt w w.heap.size A1 l1) (fD:NodesAt w w.heap.size A2 l2) (fJ:l2.length=l1.length) (fM:l1.length≤1000000000)
 (hs:∀ i (h1:i<l1.length) (h2:i<l2.length),ndSame l1[i] l2[i]) :
 Calls Aw 12 #[.slice A1 l1.length k1,.slice A2 l1.length k2] w fun e w'=>e=.returned (.bool true)∧Below w.heap.size w w':=by
 obtain⟨len,fB⟩:∃ len,len=l1.length:=⟨_,rfl⟩;have fA:=hid fB;have fE:=hid fJ;rw [←fB] at fM ⊢;clear fB fJ;go_enter Tryz.func12,Tryz.ntmps12;go_wp2
 go_loopw [5] (fun i wr=>∃ j:Nat,j≤len∧i=.int .i64 j∧Below w.heap.size w wr) (fun i _=>len-(intOf i).toNat)
 case atStart=>exact⟨0,AK _,rfl,AP _ _⟩
 case round =>
  obtain⟨j,hj,rfl,hb⟩:=hrel;by_cases fP:j<len
  · have fF:j<l1.length:=by have:=fA.o;omega
    have fG:j<l2.length:=by have:=fA.o;have:=fE.o;omega
    obtain⟨b1,o1,rfl,fQ,fK⟩:=fC.at_ (by omega);obtain⟨b2,o2,rfl,fR,fL⟩:=fD.at_ (by omega);have hx:=(fK j fF).keep (w1:=wr) fun p hp=>hb.cell (by omega);have hy:=(fL j fG).keep (w1:=wr) fun p hp=>hb.cell (by omega);have fN:=hs j fF fG;have fH:=(fC.data _ (Ad fF)).below hb;have fI:=(fD.data _ (Ad fG)).below hb;clear hs fK fL fC fD;generalize l1[j]=x at *;generalize l2[j]=y at *;obtain⟨pa,ki,ma,sa,dA,dc,da⟩:=x;obtain⟨pa2,ki2,ma2,sa2,dA2,dc2,da2⟩:=y;obtain⟨e1,e2,e3,e4,e5⟩:=fN;simp only at e1 e2 e3 e4 e5;subst e1 e2 e3 e4 e5;obtain⟨c0,c1,c2,c3,c4⟩:=hx;obtain⟨d0,d1,d2,d3,d4⟩:=hy;simp only at c0 c1 c2 c3 c4 d0 d1 d2 d3 d4 fH fI;have fO:=hb.size;have y0:=(AQ wr (.cells #[.string pa,.int .i64 ki,.int .i64 ma,.string sa,.slice dA da.length dc] 75) ⟨b2,o2+j * 5,none⟩ (by show b2<_;omega)).trans d0;have y1:=(AQ wr (.cells #[.string pa,.int .i64 ki,.int .i64 ma,.string sa,.slice dA da.length dc] 75) ⟨b2,o2+j * 5+1,none⟩ (by show b2<_;omega)).trans d1;have y2:=(AQ wr (.cells #[.string pa,.int .i64 ki,.int .i64 ma,.string sa,.slice dA da.length dc] 75) ⟨b2,o2+j * 5+2,none⟩ (by show b2<_;omega)).trans d2;have y3:=(AQ wr (.cells #[.string pa,.int .i64 ki,.int .i64 ma,.string sa,.slice dA da.length dc] 75) ⟨b2,o2+j * 5+3,none⟩ (by show b2<_;omega)).trans d3;have y4:=(AQ wr (.cells #[.string pa,.int .i64 ki,.int .i64 ma,.string sa,.slice dA da.length dc] 75) ⟨b2,o2+j * 5+4,none⟩ (by show b2<_;omega)).trans d4
    have keep2:∀ p:Addr,p.block<w.heap.size→((wr.alloc (.cells #[.string pa,.int .i64 ki,.int .i64 ma,.string sa,.slice dA da.length dc] 75)).alloc (.cells #[.string pa,.int .i64 ki,.int .i64 ma,.string sa,.slice dA2 da.length dc2] 75)).cell? p=wr.cell? p:=fun p hp =>
     (AQ _ _ p (by simp;omega)).trans (AQ wr _ p (by omega))
    have s1:=zIr (P:=Aw) Ax Ay dc (fH.keep keep2) 9 Az;have s2:=zIr (P:=Aw) Ax Ay dc2 (fI.keep keep2) 9 Az;clear keep2 fH fI d0 d1 d2 d3 d4;go_wp2;go_roundw
    case rel=>exact⟨j+1,by omega,by go_num,(hb.alloc fO _).alloc (by simp;omega) _⟩
    case measure=>simp [intOf];omega
  · obtain rfl:j=len:=by omega
    clear hs fC fD;go_wp2;go_ret;exact⟨rfl,hb⟩
open Go.Proofs
open Go.Maps (Keyed)
theorem zH6 (w:World) (b:Nat) (d:Dat) (h:zAt w zAG zB6 3 b d) :
 Calls Aw 133 #[.map (some b)] w fun e w'=>e=.returned (.map (some w.heap.size))∧zAt w' zAG zB6 3 w.heap.size d∧Below w.heap.size w w':=by
 have:=AnyW.maps_Clone_owns Tryz.mclone 3 rawR b d.length _ w h;change Calls Aw 133 _ _ _ at this;refine this.mono ?_;rintro e w' ⟨h1,h2,_,h3⟩;exact⟨h1,h2,h3⟩
theorem slice_row (w:World) (o f len cap l:Nat) (L:Int) (h:L=(l:Int)) (hl:l<len) (hc:len≤cap):(AR 64 (.slice (some ⟨o,f,none⟩) len cap) (some (.int .i64 L)) none none).run Aw w=.ok (.slice (some ⟨o,f+l,none⟩) (len-l) (cap-l)) w:=by
 subst h
 have hu:Tryz.prog.underlying 64=some (.slice (Tryz.prog.elem 64)):=by kernel_rfl
 have hs:(sizeOf (Tryz.prog.elem 64)).run Aw w=.ok 1 w:=by kernel_rfl
 rw [run_sliceAt_slice w 64 _ _ _ _ hu,run_slice_l w 64 (some ⟨o,f,none⟩) len cap hu .i64 l (by omega) (by omega),hs]
 have fA:¬cap=l:=by omega
 simp [Result.andThen,sliced,fA,Addr.add_lit]
theorem zKn (s cs:List UInt8) (fr:Nat):splice (bvs s) fr (bvs cs)=bvs (splice s fr cs):=by simp [splice,bvs,List.map_take,List.map_drop]
theorem zJQ (s cs:List UInt8) (fr:Nat) (h:fr+cs.length≤s.length):(splice s fr cs).length=s.length:=length_splice s fr cs h
theorem zFz {own:Nat→Option Role} {lay:Nat→NA} {p mb i:Nat} {T:PT} {n:PN} {w w2:World} (h:PlainAt w own lay p mb T) (hT:T.Ok) (hg:zAe i T.nodes=some n) (hb:Below w.heap.size w w2) {z:Nat} (hz:w.heap.size≤z) {d:Dat} (s:Nat)
 (hm:zAt w2 zAG zB6 3 z d):zAv own p mb (T.upd i {n with data:=d,size:=s}) w (w2.setRow (lay i).nb (zB7 ⟨(lay i).nb,some z,(lay i).s,(lay i).nm⟩ {n with data:=d,size:=s}).toArray):=by
 have hP:=h.get hg;have ho:Owns own i (lay i):=h.owns _ (zAf hg);have hC:Chg (fun b=>b=(lay i).nb) w (w2.setRow (lay i).nb (zB7 ⟨(lay i).nb,some z,(lay i).s,(lay i).nm⟩ {n with data:=d,size:=s}).toArray):=(AJ (S:=fun b=>b=(lay i).nb) hb).setRow (fun _=>rfl) _;have fA:Chg (fun b=>b=(lay i).nb) w2 (w2.setRow (lay i).nb (zB7 ⟨(lay i).nb,some z,(lay i).s,(lay i).nm⟩ {n with data:=d,size:=s}).toArray):=(AI (fun b=>b=(lay i).nb) w2).setRow (fun _=>rfl) _;have fD:=hP.blk.lt;have fC:=hm.lt
 have fB:∀ {b:Nat} {r:Role},own b=some r→r≠.node i→b≠(lay i).nb:=fun e hr hb=>by
  subst hb;rw [ho.nb] at e;exact hr (AS e).symm
 have hN:PnAt (w2.setRow (lay i).nb (zB7 ⟨(lay i).nb,some z,(lay i).s,(lay i).nm⟩ {n with data:=d,size:=s}).toArray) ⟨(lay i).nb,some z,(lay i).s,(lay i).nm⟩ {n with data:=d,size:=s}:=by
  refine⟨AH w2 _ _ _ _ _ (hP.blk.fresh hb),hm.chg fA (by omega),zAy hP.slots hC fun g e=>fB (ho.s g e) (fun e=>by cases e),hP.names.chg hC fun b e=>fB (ho.nm b e) (fun e=>by cases e),hP.dirs,fun _=>⟨_,rfl⟩⟩
 have he:Ext w own (own1 own z (.data i)):=own1_ext hz h.lt;refine zAv.of (h.upd hT.ris hg hC (fun b _ hb=>by subst hb;exact .inl ho.nb) hN rfl he (fun b r e=>?_) ⟨?_,?_,?_,?_⟩) he (hC.mono fun b _ e=>by subst e;rw [ho.nb];simp)
 · unfold own1 at e
   split at e
   · rename_i e1;subst e1;exact AL fC fA.size
   · exact AL (h.lt b r e) hC.size
 · exact he.keep _ _ ho.nb
 · intro b e;cases e;simp [own1]
 · exact fun b e=>he.keep _ _ (ho.s b e)
 · exact fun b e=>he.keep _ _ (ho.nm b e)
theorem zJK (own:Nat→Option Role) (lay:Nat→NA) (p mb i:Nat) (T:PT) (n:PN) (off:Int) (A:Option Addr) (len cap:Nat) (bs:List UInt8) (w:World) (h:PlainAt w own lay p mb T) (hT:T.Ok) (hg:zAe i T.nodes=some n)
 (fO:n.dir=false) (hs:Sees w w.heap.size 1 A len (bvs bs)) (gG:bs.length=len) (jL:len≤cap) (lS:len<1000000000000) (lF:off≤9223372036854775807∧-9223372036854775808≤off) :
 Calls Aw 106 #[.pointer (some ⟨p,0,none⟩),zCq (lay i).nb,.int .i64 off,.slice A len cap] w fun e w'=>e=.returned (zAS (T.write i off bs).2)∧zAv own p mb (T.write i off bs).1 w w':=by
 have hu:=PT.write.eq_1 T i off bs;rw [gG] at hu;have hn:=(hT.get hg).1;have fE:=h.get hg;obtain⟨db,gH⟩:=fE.files fO;unfold zCq zAS;go_enter Tryz.func106,Tryz.ntmps106;by_cases fG:off<0∨131072<len∨136704<off+len
 · rw [if_pos fG] at hu;rw [hu];clear hu;have gI:=hid (zAv.same h (AP _ w));clear h fE hn gH hs;by_cases h1:off<0
   case' pos=>have t1:decide (off<0)=true:=by simpa using h1
   case' neg =>
    have t1:decide (off<0)=false:=by simpa using h1
    by_cases h2:131072<len
    case' pos=>have t2:decide (131072<len)=true:=by simpa using h2
    case' neg =>
     have t2:decide (131072<len)=false:=by simpa using h2
     have t3:decide (136704-(len:Int)<off)=true:=by simp;omega
   all_goals
    clear fG;go_wp2;go_ret;exact⟨rfl,gI.o⟩
 · rw [if_neg fG] at hu
   have t1:decide (off<0)=false:=by simp;omega
   have t2:decide ((131072:Int)<(len:Int))=false:=by simp;omega
   have t3:decide (136704-(len:Int)<off)=false:=by simp;omega
   obtain⟨of,rfl⟩:∃ of:Nat,off=(of:Int):=⟨off.toNat,by omega⟩;simp only [AT] at hu;have kJ:=hid hu
   have lT:of+len≤136704:=by omega
   clear fG hu;have b0:w.cell? ⟨(lay i).nb,0,none⟩=some (.int .i64 n.kind):=fE.blk.cell 0;have b1:w.cell? ⟨(lay i).nb,1,none⟩=some (.int .i64 (n.links:Int)):=fE.blk.cell 1;have b2:w.cell? ⟨(lay i).nb,2,none⟩=some (.int .i64 (n.size:Int)):=fE.blk.cell 2;have b3:w.cell? ⟨(lay i).nb,3,none⟩=some (.int .i64 (n.made:Int)):=fE.blk.cell 3;have b4:w.cell? ⟨(lay i).nb,4,none⟩=some (.map (lay i).d):=fE.blk.cell 4;have b5:w.cell? ⟨(lay i).nb,5,none⟩=some (lay i).s:=fE.blk.cell 5;have b6:w.cell? ⟨(lay i).nb,6,none⟩=some (.map (lay i).nm):=fE.blk.cell 6;rw [gH] at b4;have fS:=fE.data;rw [gH] at fS;have fP:zAt w zAG zB6 3 db n.data:=fS;have hH:=hid h;have gC:=hid fE;have fF:=hid hn;have lU:=hid gH;have lG:=hid hs;have jM:=hid hT;have lH:=hid fP;clear h fE hn gH hs hT fS fP;obtain⟨A1,c1,jH⟩:=gC.o.form;rw [jH] at b5;go_upto_region 4 with (fail);have jN:Blk (w.alloc (.cells #[.int .i64 n.kind,.int .i64 (n.links:Int),.int .i64 (n.size:Int),.int .i64 (n.made:Int),.map (some db),.slice A1 n.slots.length c1,.map (lay i).nm] 110)) w.heap.size 110 [.int .i64 n.kind,.int .i64 (n.links:Int),.int .i64 (n.size:Int),.int .i64 (n.made:Int),.map (some db),.slice A1 n.slots.length c1,.map (lay i).nm]:=AU w _ _;have gJ:Below w.heap.size w (w.alloc (.cells #[.int .i64 n.kind,.int .i64 (n.links:Int),.int .i64 (n.size:Int),.int .i64 (n.made:Int),.map (some db),.slice A1 n.slots.length c1,.map (lay i).nm] 110)):=br.alloc nr _
   have jO:(w.alloc (.cells #[.int .i64 n.kind,.int .i64 (n.links:Int),.int .i64 (n.size:Int),.int .i64 (n.made:Int),.map (some db),.slice A1 n.slots.length c1,.map (lay i).nm] 110)).heap.size=w.heap.size+1:=by simp
   generalize w.alloc (.cells #[.int .i64 n.kind,.int .i64 (n.links:Int),.int .i64 (n.size:Int),.int .i64 (n.made:Int),.map (some db),.slice A1 n.slots.length c1,.map (lay i).nm] 110)=w0 at *;obtain⟨q,hq⟩:=nM (w.heap.size)
   have gK:(lay i).nb<q:=by have:=gC.o.blk.lt;omega
   rw [hq] at jN gJ jO;simp only [hq];have gD:=hid hq
   have e4:w0.cell? ⟨(lay i).nb,4,none⟩=some (.map (some db)):=by rw [gJ.cell (p:=⟨(lay i).nb,4,none⟩) gK];exact b4
   have kK:zAt w0 zAG zB6 3 db n.data:=lH.o.fresh (by rw [hq];exact gJ);have fT:=hid gJ;have fH:=hid jN;clear hq b0 b1 b2 b3 b4 b5 b6 gJ jN
   go_upto_region 5 with (first
    | (go_at_call 133;refine (zH6 w0 db n.data kK).mono ?_;rintro e w1 ⟨rfl,jP,fU⟩;have x1:=(fH.o.fresh fU).cell 4;have x2:=(fH.o.fresh fU).frozen 4;simp only [jO] at jP fU x1 x2))
   have kL:Blk (w1.setCell ⟨q,4,none⟩ (.map (some (q+1)))) q 110 [.int .i64 n.kind,.int .i64 (n.links:Int),.int .i64 (n.size:Int),.int .i64 (n.made:Int),.map (some (q+1)),.slice A1 n.slots.length c1,.map (lay i).nm]:=((fH.o.fresh (by rw [jO];exact fU)).set_ 4 _);have jQ:Chg (fun b=>b=q) w1 (w1.setCell ⟨q,4,none⟩ (.map (some (q+1)))):=(AI (fun b=>b=q) w1).setCell (p:=⟨q,4,none⟩) (fun _=>rfl) _;have kM:zAt (w1.setCell ⟨q,4,none⟩ (.map (some (q+1)))) zAG zB6 3 (q+1) n.data:=jP.chg jQ (by omega);have kN:Below q w (w1.setCell ⟨q,4,none⟩ (.map (some (q+1)))):=(fT.o.trans (fU.mono (by omega))).trans (jQ.below (by have:=fT.o.size;have:=fU.size;omega) fun b hb e=>by omega);clear kK e4 jP fU x1 x2 jQ;generalize w1.setCell ⟨q,4,none⟩ (.map (some (q+1)))=wS at *;have gL:=hid kL;have gM:=hid kM;have gN:=hid kN;clear kL kM kN fH fT;go_wp2_with (fail)
   go_loopw [10,11,12,13] (fun x _ _ _ wr=>∃ ix:Nat,ix≤len∧x=.int .i64 ix∧Hid (Blk wr q 110 [.int .i64 n.kind,.int .i64 (n.links:Int),.int .i64 (n.size:Int),.int .i64 (n.made:Int),.map (some (q+1)),.slice A1 n.slots.length c1,.map (lay i).nm])∧Hid (zAt wr zAG zB6 3 (q+1) (wrB n.data of (bs.take ix)))∧Hid (Below q w wr)) (fun x _ _ _ _=>len-(intOf x).toNat)
   case atStart=>exact⟨0,by omega,rfl,gL,gM,gN⟩
   case round =>
    obtain⟨ix,lV,rfl,fQ,fV,jR⟩:=hrel;clear gL gM gN;have x4:wr.cell? ⟨q,4,none⟩=some (.map (some (q+1))):=fQ.o.cell 4;by_cases jS:ix<len
    · have t5:decide ((ix:Int)<(len:Int))=true:=by simpa using jS
      obtain⟨k,kO⟩:=nM ((of+ix) / 128);obtain⟨fr,kP⟩:=nM ((of+ix) % 128)
      have kQ:((of:Int)+ix) / 128=(k:Int):=by omega
      have kR:((of:Int)+ix) % 128=(fr:Int):=by omega
      have hk:k≤1067:=by omega
      have lI:fr<128:=by omega
      have fI:=hid jS;have kS:=hid kO;have kT:=hid kP;have fC:=fF.o.dOk.wrB (q:=of) (bs:=bs.take ix) (by rw [Ae];omega);have jT:=fC.dlen;have fW:(zA4 (wrB n.data of (bs.take ix)) k).length=128:=fC.blk k;obtain⟨l,jU⟩:=nM (wrB n.data of (bs.take ix));have kU:=hid jU;rw [jU] at fW jT fV;obtain⟨bk,jI⟩:=nM (zA4 l k);rw [jI] at fW
      have hv:orV zB6 (zB6 zBD) (zAe k l)=.agg (bvs bk).toArray:=by rw [←jI];unfold zA4;cases zAe k l<;>rfl
      have gO:=hid jI;have gP:=hid fV.o;have jV:Blk (wr.alloc (.cells AA 187)) wr.heap.size 187 (bvs zBD):=zBf rfl;clear jS kO kP jI jU fC;go_upto_region 8 with (fail);rw [kQ,kR];clear kQ kR
      go_upto_region 9 with (first
       | (at_lookup;refine zEg _ rfl (.tmp 50) (.tmp 51) 107 rfl zD3 AB (zSecV _) gP.o rfl k rfl (zHW k (by omega)) _ hv ?_)
       | (refine AE rfl 187 (.tmp 13) (.tmp 52) rfl wr.heap.size (bvs bk).toArray rfl (by rfl) 187 _ jV (zAD fW) (by rw [Af,Af,zAc,zAc,zAs,fW]) (zBa bk) ?_))
      have kV:Blk ((wr.alloc (.cells AA 187)).setRow wr.heap.size (bvs bk).toArray) wr.heap.size 187 (bvs bk):=AH _ _ _ _ _ _ jV;have fJ:Chg (fun b=>wr.heap.size≤b) wr ((wr.alloc (.cells AA 187)).setRow wr.heap.size (bvs bk).toArray):=((AI _ wr).alloc _).setRow (fun _=>AM _) _;have lW:q+1<wr.heap.size:=fV.o.lt;have gQ:=hid (fQ.o.chg fJ (by omega));have gR:=hid (fV.o.chg fJ (by omega));have gS:=hid (jR.o.trans (fJ.below (B:=q) (by omega) fun b hb h=>by omega));clear jV fJ fQ fV gP jR x4;generalize (wr.alloc (.cells AA 187)).setRow wr.heap.size (bvs bk).toArray=w3 at *;generalize wr.heap.size=z at *;obtain⟨mm,kW⟩:=nM (min (len-ix) (128-fr))
      have gT:fr+mm≤128:=by omega
      have jW:ix+mm≤len:=by have:=fI.o;omega
      have jX:0<mm:=by have:=fI.o;omega
      obtain⟨ch,jJ⟩:=nM ((bs.drop ix).take mm)
      have jY:ch.length=mm:=by rw [←jJ,Ae,List.length_drop];omega
      obtain⟨cs,gU⟩:=nM (bvs ch)
      have jZ:cs.length=mm:=by rw [←gU,zAc];exact jY
      obtain⟨ab,ao,hA,lX,lJ⟩:=(lG.o.below (by rw [gD.o];exact gS.o):Sees w3 w.heap.size 1 A len (bvs bs)).at_ (by have:=fI.o;omega);subst hA
      have gV:∀ (j:Nat) (v:Value),cs[j]? = some v→w3.cell? ((⟨ab,ao+ix,none⟩:Addr).add j)=some v:=by
       intro j v hj
       have lK:j<mm:=by have:=(Ag.1 hj).1;omega
       rw [Addr.add_lit,Nat.add_assoc];refine lJ (ix+j) v ?_;rw [←hj,←gU,←jJ];simp only [bvs,List.getElem?_map,List.getElem?_take,List.getElem?_drop,if_pos lK]
      have gW:∀ v∈cs,v.oneCell'=true:=by rw [←gU];exact zB4 _
      have fK:splice (bvs bk) fr cs=bvs (splice bk fr ch):=by rw [←gU,zKn]
      have gX:=hid fK
      have gY:fr+cs.length≤(bvs bk).length:=by rw [jZ,zAc,fW];exact gT
      have lL:∀ W:World,(AR 64 (.slice (some ⟨ab,ao,none⟩) len cap) (some (.int .i64 (ix:Int))) none none).run Aw W=.ok (.slice (some ⟨ab,ao+ix,none⟩) (len-ix) (cap-ix)) W:=fun W=>slice_row W _ _ _ _ _ _ rfl fI.o jL;have lM:∀ W:World,(AR 187 (.pointer (some ⟨z,0,none⟩)) (some (.int .i64 (fr:Int))) none none).run Aw W=.ok (.slice (some ⟨z,fr,none⟩) (128-fr) (128-fr)) W:=fun W=>zEU W _ _ _ rfl lI;have kX:=hid (show cs.length=Nat.min (len-ix) (128-fr) by rw [jZ];exact kW.symm)
      have lY:IntKind.i64.wrap ((ix:Int)+(mm:Int))=((ix+mm:Nat):Int):=by rw [IntWalk.i64_in _ (by omega)];omega
      have lN:(Tryz.prog.info? 5).map (·.size)=some 1:=by kernel_rfl
      have kA:=hid jJ;clear fK kW gU jJ
      go_region_law (refine step_copy_splice rfl (.tmp 55) (.tmp 58) 64 64 rfl 5 Ax lN _ _ (128-fr) (128-fr) (len-ix) (cap-ix) rfl rfl z fr _ 187 kV cs kX.o (fun _=>⟨rfl,_,rfl,gV⟩) gY gW z _ br nr ?_;intro w5 HG5 gE;have lO:Blk w5 z 187 (bvs (splice bk fr ch)):=(by (have h9:=HG5.o;rw [gX.o] at h9;exact h9));have fX:Hid (Below z w3 w5):=⟨gE.os,gE.tape,gE.output,gE.size,gE.block⟩;rw [jZ];clear HG5 gE)
      simp only [List.getElem_toArray,List.getElem_cons_succ,List.getElem_cons_zero]
      go_frame
      have fY:=gQ.o.below fX.o (by omega);have kC:=gR.o.chg (Chg.of_below fX.o) (by omega);have kY:=hid (gS.o.trans (fX.o.mono (by omega)));have x5:w5.cell? ⟨q,4,none⟩=some (.map (some (q+1))):=fY.cell 4
      have fK:(splice bk fr ch).length=128:=by rw [zJQ _ _ _ (by omega)];exact fW
      have gZ:=hid fY
      have kD:Hid (zA2 zAG k (splice bk fr ch) l=wrB n.data of (bs.take (ix+mm))):=by
       have h9:=zJu n.data of bs ix mm (by omega) jX (by rw [kU.o,kS.o,gO.o];exact fW) (by rw [kT.o];exact gT);rw [kU.o,kS.o,kT.o,gO.o,kA.o] at h9;exact h9.symm
      generalize splice bk fr ch=sp at *;clear fY gQ gR gS kV gX gY kX gV gW lL lM hv
      go_wp2_with (first
       | (refine AD rfl 187 (.tmp 13) rfl z rfl 187 (bvs sp).toArray (0,0) _ lO AC rfl (zAD fK) ?_)
       | (at_mapUpdate;refine zAZ _ rfl _ _ _ 107 (.inl rfl) zD3 AB kC (by unfold maxLen;omega) rfl k rfl (zHW k (by omega)) sp rfl ?_;intro w6 kZ lA;have lB:=zAP lA;have kE:=hid kZ;have jA:=hid lB;clear kZ lB lA))
      go_frame
      refine⟨?_,?measure⟩
      · repeat apply Exists.intro
        refine⟨?_,rfl⟩;refine⟨ix+mm,jW,by go_num,hid (gZ.o.chg jA.o (by omega)),?_,hid (kY.o.trans (jA.o.below (by have:=kY.o.size;rw [gD.o] at this;exact this) fun b hb e=>by omega))⟩;rw [←kD.o];exact kE
      case measure =>
       simp [intOf]
       omega
    · obtain rfl:ix=len:=by omega
      have t5:decide ((ix:Int)<(ix:Int))=false:=by simp
      have fC:=fF.o.dOk.wrB (q:=of) (bs:=bs) (by omega);have fL:=fV.o;rw [List.take_of_length_le (by omega)] at fL;have fM:({n with data:=wrB n.data of bs}:PN).Ok:=⟨fC.keys,fC.dlen,fC.secs,fF.o.slots,fF.o.links,fF.o.size,fF.o.made,fF.o.nm,fF.o.nlen,fun e=>by (have e':n.dir=true:=e;rw [fO] at e';cases e'),fF.o.df,fF.o.nris,fC.ris⟩
      have jK:Below w.heap.size w wr:=by rw [gD.o];exact jR.o
      have jB:=gC.o.chg (AJ (S:=fun _=>False) jK) id (fun _ _ h=>h) (fun _ _ h=>h) (fun _ _ h=>h)
      have hN:PnAt wr ⟨q,some (q+1),(lay i).s,(lay i).nm⟩ {n with data:=wrB n.data of bs}:=by
       refine⟨?_,fL,jB.slots,jB.names,jB.dirs,fun _=>⟨_,rfl⟩⟩;have h9:=fQ.o;rw [←jH] at h9;exact h9
      obtain⟨n2,lC⟩:∃ n2:PN,({n with data:=wrB n.data of bs}:PN)=n2:=⟨_,rfl⟩;rw [lC] at hN fM;have lD:∀ W,Below wr.heap.size wr W→Calls Aw 57 #[zCq (lay i).nb] W fun e w'=>e=.returned (.int .i64 ((n.count:Nat):Int))∧Below W.heap.size W w':=fun W hW=>zDL (jB.chg (AJ (S:=fun _=>False) hW) id (fun _ _ h=>h) (fun _ _ h=>h) (fun _ _ h=>h)) fF.o;have jC:∀ W,Below wr.heap.size wr W→Calls Aw 57 #[zCq q] W fun e w'=>e=.returned (.int .i64 ((n2.count:Nat):Int))∧Below W.heap.size W w':=fun W hW=>zDL (a:=⟨q,some (q+1),(lay i).s,(lay i).nm⟩) (hN.chg (AJ (S:=fun _=>False) hW) id (fun _ _ h=>h) (fun _ _ h=>h) (fun _ _ h=>h)) fM;have fA:=zI1 own lay p mb T (lay i).nb q n.count n2.count wr (hH.o.fresh jK) jM.o lD fF.o.count jC fM.count;rw [←lC] at fA;clear lD jC;unfold zCq at fA;have fB:=hid jK;have fR:=hid fL
      have fZ:Hid ((T.node i).wrote of bs={n with data:=wrB n.data of bs,size:=if ix=0 then n.size else max n.size (of+ix)}):=by
       show _=_
       rw [zAn hg];unfold PN.wrote;rw [gG]
      obtain⟨cy,kF⟩:=nM (({n with data:=wrB n.data of bs}:PN).count)
      have jD:((T.node i).wrote of bs).count=cy:=by
       rw [fZ.o,←kF];unfold PN.count AV;rfl
      have fN:=kJ.o;rw [jD,zAn hg] at fN;rw [kF] at fA
      have lE:n.wrote of bs={n with data:=wrB n.data of bs,size:=if ix=0 then n.size else max n.size (of+ix)}:=by have:=fZ.o;rw [zAn hg] at this;exact this
      rw [lE] at fN;obtain⟨lim,jE⟩:=nM ((T.sectors:Int)-1-T.inodes-T.used);rw [jE] at fN fA;clear kF jD lE kJ fZ jE;clear hN fM jB jK fL fV fC x4;by_cases hR:(cy:Int)-n.count≤lim
      · rw [decide_eq_true hR] at fA;rw [if_pos hR] at fN;have hW:=hid fN;clear fN hR
        have jF:∀ (v:Nat),([.int .i64 n.kind,.int .i64 (n.links:Int),.int .i64 (v:Int),.int .i64 (n.made:Int),.map (some (q+1)),.slice A1 n.slots.length c1,.map (lay i).nm]:List Value).toArray.all (·.oneCell')=true:=fun v=>by simp [Value.oneCell']
        by_cases hz:ix=0
        · have t6:decide ((0:Int)<(ix:Int))=false:=by simp;omega
          have t7:decide (0<ix)=false:=by simp;omega
          have kG:=hid hz;clear hz
          go_wp2_with (first
           | (go_at_call 129;refine fA.mono ?_;rintro e w2 ⟨rfl,fD⟩;have gA:=fQ.o.fresh fD;have lP:=gC.o.blk.fresh (fB.o.trans (fD.mono fB.o.size));have jG:=hid fD;have z0:=gA.cell 0;have z1:=gA.cell 1;have z2:=gA.cell 2;have z3:=gA.cell 3;have z4:=gA.cell 4;have z5:=gA.cell 5;have z6:=gA.cell 6;clear fD)
           | (refine AE rfl 110 (.tmp 84) (.tmp 83) rfl (lay i).nb [.int .i64 n.kind,.int .i64 (n.links:Int),.int .i64 (n.size:Int),.int .i64 (n.made:Int),.map (some (q+1)),.slice A1 n.slots.length c1,.map (lay i).nm].toArray rfl (by rfl) 110 _ lP rfl rfl (jF _) ?_))
          go_ret;rw [hW.o];refine⟨rfl,?_⟩;have h9:=zFz hH.o jM.o hg (fB.o.trans (jG.o.mono fB.o.size)) (z:=q+1) (by have:=gD.o;omega) n.size (fR.o.fresh jG.o);rw [jH] at h9;rw [if_pos kG.o];exact h9
        · have t6:decide ((0:Int)<(ix:Int))=true:=by simp;omega
          have t7:decide (0<ix)=true:=by simp;omega
          have hY:Hid (∀ W,Below wr.heap.size wr W→W.cell? ⟨(lay i).nb,2,none⟩=some (.int .i64 (n.size:Int))∧W.cell? ⟨q,2,none⟩=some (.int .i64 (n.size:Int))∧W.frozen? ⟨q,2,none⟩=false):=fun W hW=>⟨(gC.o.blk.fresh (fB.o.trans (hW.mono fB.o.size))).cell 2,(fQ.o.fresh hW).cell 2,(fQ.o.fresh hW).frozen 2⟩;have kG:=hid hz;clear hz
          go_upto_region 15 with (first
           | (go_at_call 129;refine fA.mono ?_;rintro e w2 ⟨rfl,fD⟩;obtain⟨y3,y4,y5⟩:=hY.o w2 fD))
          have gF:max ((n.size:Nat):Int) ((of:Int)+(ix:Int))=((max n.size (of+ix):Nat):Int):=by omega
          rw [gF];clear gF;obtain⟨mx,gF⟩:=nM (max n.size (of+ix));rw [gF];have fJ:Chg (fun b=>b=q) w2 (w2.setCell ⟨q,2,none⟩ (.int .i64 (mx:Int))):=(AI (fun b=>b=q) w2).setCell (p:=⟨q,2,none⟩) (fun _=>rfl) _;have gB:Blk (w2.setCell ⟨q,2,none⟩ (.int .i64 (mx:Int))) q 110 [.int .i64 n.kind,.int .i64 (n.links:Int),.int .i64 (mx:Int),.int .i64 (n.made:Int),.map (some (q+1)),.slice A1 n.slots.length c1,.map (lay i).nm]:=(fQ.o.fresh fD).set_ 2 _;have lQ:=(gC.o.blk.fresh (fB.o.trans (fD.mono fB.o.size))).chg fJ (by omega);have lR:=hid ((fR.o.fresh fD).chg fJ (by omega));have gS:=hid ((fB.o.trans (fD.mono fB.o.size)).trans (fJ.below (B:=w.heap.size) (by have:=fB.o.size;have:=fD.size;omega) fun b hb e=>by have:=gD.o;omega));have kI:=hid gF;clear fJ gF y3 y4 y5 fD hY;generalize w2.setCell ⟨q,2,none⟩ (.int .i64 (mx:Int))=w3 at *;have z0:=gB.cell 0;have z1:=gB.cell 1;have z2:=gB.cell 2;have z3:=gB.cell 3;have z4:=gB.cell 4;have z5:=gB.cell 5;have z6:=gB.cell 6
          go_wp2_with (first
           | (refine AE rfl 110 (.tmp 84) (.tmp 83) rfl (lay i).nb [.int .i64 n.kind,.int .i64 (n.links:Int),.int .i64 (mx:Int),.int .i64 (n.made:Int),.map (some (q+1)),.slice A1 n.slots.length c1,.map (lay i).nm].toArray rfl (by rfl) 110 _ lQ rfl rfl (jF _) ?_))
          go_ret;rw [hW.o];refine⟨rfl,?_⟩;have h9:=zFz hH.o jM.o hg gS.o (z:=q+1) (by have:=gD.o;omega) mx lR.o;rw [jH] at h9;rw [if_neg kG.o,kI.o];exact h9
      · rw [decide_eq_false hR] at fA;rw [if_neg hR] at fN;have hW:=hid fN;clear fN hR;go_wp2_with (go_at_call 129;refine fA.mono ?_;rintro e w2 ⟨rfl,fD⟩);go_ret;rw [hW.o];exact⟨rfl,zAv.same hH.o (fB.o.trans (fD.mono fB.o.size))⟩
def AnsP (own:Nat→Option Role) (p mb:Nat) (r:PT×Ans) (w:World) (e:Ending) (w':World):Prop:=(∃ v,e=.returned v∧zBJ w' v r.2)∧zAv own p mb r.1 w w'
theorem node_done {own:Nat→Option Role} {lay:Nat→NA} {p mb i:Nat} {T:PT} {n n':PN} {w w1:World} (h:PlainAt w own lay p mb T) (hT:T.Ok) (hg:zAe i T.nodes=some n) (hN:PnAt w1 (lay i) n') (hC:Chg (Of own i) w w1):zAv own p mb (T.upd i n') w w1 :=
 zAv.of (h.upd hT.ris hg hC (fun _ _ h=>h) hN rfl (Ext.refl _ _) (fun b r e=>AL (h.lt b r e) hC.size) (h.owns _ (zAf hg))) (Ext.refl _ _) hC.of_of
theorem Chg.of_of_ne {own:Nat→Option Role} {i z:Nat} {w w1:World} (_:Chg (Of own i) w w1) (hz:own z=none) (h:Of own i z):False:=by
 rcases h with h | h | h | h<;>rw [hz] at h<;>cases h
theorem zEy {off:Nat} {u:Value} (h:zAk[off]? = some u):(∃ k v,u=.int k v∧k=.i64)∨(∃ A n c,u=.slice A n c)∨∃ b,u=.bool b:=by
 have hm:=List.mem_of_getElem? h;simp only [zAk,Ab,Ac,or_false] at hm;rcases hm with rfl | rfl | rfl | rfl | rfl | rfl | rfl | rfl | rfl | rfl
 · exact .inl ⟨_,_,rfl,rfl⟩
 · exact .inl ⟨_,_,rfl,rfl⟩
 · exact .inl ⟨_,_,rfl,rfl⟩
 · exact .inl ⟨_,_,rfl,rfl⟩
 · exact .inl ⟨_,_,rfl,rfl⟩
 · exact .inl ⟨_,_,rfl,rfl⟩
 · exact .inl ⟨_,_,rfl,rfl⟩
 · exact .inr (.inl ⟨_,_,_,rfl⟩)
 · exact .inr (.inl ⟨_,_,_,rfl⟩)
 · exact .inr (.inr ⟨_,rfl⟩)
theorem Sees.row {w:World} {B size n z:Nat} {A:Option Addr} {xs:List Value} (h:Sees w B size A n xs) (hs:0<size) {t:TypeId} {cs:List Value} (hz:Blk w z t cs) (hd:∀ u,xs[0]? = some u→∀ off:Nat,cs[off]?≠some u) (ds:Array Value):Sees (w.setRow z ds) B size A n xs:=by
 refine⟨h.len,fun hn=>?_⟩;obtain⟨b,off,e,hb,hc⟩:=h.at_ hn
 have fA:b≠z:=fun e=>by
  subst e
  have hl:0<xs.length:=by rw [h.len];exact Nat.mul_pos hn hs
  have h0:xs[0]? = some xs[0]:=Ah hl;have h1:=hc 0 _ h0;rw [Nat.add_zero,hz.cell off] at h1;exact hd _ h0 off h1
 refine⟨b,off,e,hb,fun j u hu=>?_⟩;rw [←hc j u hu];exact ((AI (fun b=>b=z) w).setRow (fun _=>rfl) ds).cell (p:=⟨b,off+j,none⟩) (World.block_lt_of_cell? _ _ (hc j u hu)) fA
theorem bvs_0 {d:List UInt8} {u:Value} (h:(bvs d)[0]? = some u):∃ x,u=.int .u8 x:=by
 cases d with
 | nil=>simp [bvs] at h
 | cons x r=>simp [bvs] at h;exact⟨_,h.symm⟩
theorem ent_0 {l:List (ByteArray×Nat×Int)} {u:Value} (h:(l.flatMap zBn)[0]? = some u):∃ x,u=.string x:=by
 cases l with
 | nil=>simp at h
 | cons x r=>simp [zBn] at h;exact⟨_,h.symm⟩
theorem zBJ.row {w:World} {v:Value} {a:Ans} (h:zBJ w v a) {z:Nat} (hz:Blk w z 67 zAk) (ds:Array Value):zBJ (w.setRow z ds) v a:=by
 obtain⟨dA,dc,eA,ec,h1,h2,h3⟩:=h;have hC:=(AI (fun b=>b=z) w).setRow (fun _=>rfl) ds;refine⟨dA,dc,eA,ec,h1,(h2.row (by decide) hz (fun u hu off e=>?_) ds).more hC.size,(h3.row (by decide) hz (fun u hu off e=>?_) ds).more hC.size⟩
 · obtain⟨x,rfl⟩:=bvs_0 hu;rcases zEy e with ⟨_,_,e,e2⟩ | ⟨_,_,_,e⟩ | ⟨_,e⟩
   · cases e;cases e2
   · cases e
   · cases e
 · obtain⟨x,rfl⟩:=ent_0 hu;rcases zEy e with ⟨_,_,e,_⟩ | ⟨_,_,_,e⟩ | ⟨_,e⟩<;>cases e
theorem zAH (w:World) (c:Nat) (s:St):zBJ w (.agg (zAq c s zAj zAj).toArray) ⟨c,s,[],[]⟩:=zBv w ⟨c,s,[],[]⟩ rfl rfl
theorem pasks_any (own:Nat→Option Role) (lay:Nat→NA) (p mb i:Nat) (T:PT) (n:PN) (o:Opn) (A:Option Addr) (c:Nat) (w:World) (h:PlainAt w own lay p mb T) (hT:T.Wf) (hg:zAe i T.nodes=some n)
 (hs:Sees w w.heap.size 1 A o.data.length (bvs o.data)) (hc:o.data.length≤c) (gL:o.data.length<1000000000000) (fM:o.off≤9223372036854775807∧-9223372036854775808≤o.off) (gA:o.len≤9223372036854775807∧-9223372036854775808≤o.len) :
 Calls Aw 73 #[.pointer (some ⟨p,0,none⟩),opV o A c,.int .i64 (i:Int)] w (AnsP own p mb (T.asks o i) w):=by
 have hu:=PT.asks.eq_1 T o i;have gQ:=(hT.ok.get hg).2;have gR:=hT.ok.ino;have gB:own (w.heap.size+1)=none:=h.free (by omega);unfold opV opC;go_enter Tryz.func73,Tryz.ntmps73;go_upto_region 1 with (fail);have fS:Blk ((w.alloc (.cells (opC o A c).toArray 70)).alloc (.cells zAk.toArray 67)) w.heap.size 70 (opC o A c):=(AU w _ _).alloc _
 have fI:Blk ((w.alloc (.cells (opC o A c).toArray 70)).alloc (.cells zAk.toArray 67)) (w.heap.size+1) 67 zAk:=by
  have:=AU (w.alloc (.cells (opC o A c).toArray 70)) 67 zAk;simpa using this
 have fT:Below w.heap.size w ((w.alloc (.cells (opC o A c).toArray 70)).alloc (.cells zAk.toArray 67)):=(br.alloc nr _).alloc (by simp) _
 have gM:((w.alloc (.cells (opC o A c).toArray 70)).alloc (.cells zAk.toArray 67)).heap.size=w.heap.size+2:=by simp
 change AX _ _ _ _ ((w.alloc (.cells (opC o A c).toArray 70)).alloc (.cells zAk.toArray 67));generalize (w.alloc (.cells (opC o A c).toArray 70)).alloc (.cells zAk.toArray 67)=w0 at *;have fV:=h.fresh fT;have gG:=(hs.below fT).more fT.size;obtain⟨g,fZ⟩:=nM (w.heap.size);rw [fZ] at fS fI fT gM gB;simp only [fZ];have fF:=hid fZ;have fN:=hid fT;have fD:=hid gB;have fC:=hid fV;have gC:=hid gG;have fA:=hid hg;have fU:=hid hT;have gN:=hid hc;have gS:=hid fI;clear fZ fT gB gG hs hc h;have lkI:=fV.lookI hg (by omega);have x2:=fV.c2;have b0:=(fV.get hg).blk.cell 0;simp only [zB7,Ai] at b0;have y0:=fS.cell 0;have y3:=fS.cell 3;have y4:=fS.cell 4;have y5:=fS.cell 5;simp only [opC,Aj,Ai] at y0 y3 y4 y5;clear fS fV hT hg;by_cases k10:o.kind=10
 · rw [if_pos k10] at hu;have fH:=hid hu
   have t10:decide (o.kind=10)=true:=by simpa using k10
   have s10:(o.kind==10)=true:=by simpa using k10
   have fE:=zDx own lay p mb i T n w0 fC.o fU.o.ok fA.o;obtain⟨st,gD⟩:=nM (T.stat i);rw [gD] at fE;unfold stV stC at fE;have gE:=hid gD;clear hu gD k10
   go_wp2_with (first
    | (go_at_call 99;refine fE.mono ?_;rintro e w1 ⟨rfl,fJ⟩;have fG:=fI.fresh fJ;have fK:=hid fJ;clear fJ)
    | (refine stA 0 st zAj zAj fG rfl rfl rfl (by rfl) rfl rfl rfl ?_))
   refine zCS fG rfl rfl rfl fun fB=>?_;rw [fH.o];rw [gE.o];refine⟨⟨_,rfl,zAH _ 0 st⟩,?_⟩;exact (zAv.same fC.o fK.o).after (by rw [fF.o];exact fN.o) (by rw [fF.o];omega) (by omega) fD.o fB
 have s10:(o.kind==10)=false:=by simpa using k10
 rw [if_neg k10] at hu;by_cases k11:o.kind=11
 · rw [if_pos k11] at hu;have fH:=hid hu
   have s11:(o.kind==11)=true:=by simpa using k11
   have fE:=zG2 own lay p mb i T n w0 fC.o fU.o fA.o;obtain⟨an,fO⟩:=nM (T.list i);rw [fO] at fE;have fP:=hid fO;clear hu fO k10 k11
   go_wp2_with (first
    | (go_at_call 105;refine fE.mono ?_;rintro e w1 ⟨⟨v,rfl,hA,hF⟩,fJ⟩;have gT:=hid hF;clear hF;have gF:=hid hA;obtain⟨dA,dc,eA,ec,rfl,-,-⟩:=hA;have fG:=fI.fresh fJ;have fK:=hid fJ;clear fJ)
    | (refine stA an.code an.stat (.slice dA an.data.length dc) (.slice eA an.ents.length ec) fG rfl rfl rfl (by rfl) rfl rfl rfl ?_))
   refine zCS fG rfl rfl rfl fun fB=>?_;rw [fH.o];rw [fP.o];refine⟨⟨_,rfl,gF.o.row fG _⟩,?_⟩;exact (zAv.same fC.o fK.o).after (by rw [fF.o];exact fN.o) (by rw [fF.o];omega) (by omega) fD.o fB
 have s11:(o.kind==11)=false:=by simpa using k11
 rw [if_neg k11,zAm fA.o] at hu
 cases hd:n.dir with
 | true =>
  rw [hd,if_pos rfl] at hu;have fH:=hid hu
  have sd:(n.kind==2)=true:=by unfold AW;rw [hd];rfl
  clear hu k10 k11
  go_wp2_with (first
   | (refine stA 102 st0 zAj zAj fI rfl rfl rfl (by rfl) rfl rfl rfl ?_))
  refine zCS fI rfl rfl rfl fun fB=>?_;rw [fH.o];refine⟨⟨_,rfl,zAH _ 102 st0⟩,?_⟩;exact (zAv.same fC.o br).after (by rw [fF.o];exact fN.o) (by rw [fF.o];omega) (by omega) fD.o fB
 | false =>
  rw [hd,if_neg (by simp)] at hu
  have sd:(n.kind==2)=false:=by unfold AW;rw [hd];rfl
  have fW:=hid hd;obtain⟨db,gH⟩:=(fC.o.get fA.o).files hd;have fX:=hid gH;clear hd gH;by_cases k7:o.kind=7
  · rw [if_pos k7] at hu;have fH:=hid hu
    have s7:(o.kind==7)=true:=by simpa using k7
    have fE:=zJK own lay p mb i T n o.off A o.data.length c o.data w0 fC.o fU.o.ok fA.o fW.o gC.o rfl gN.o gL fM;obtain⟨r,hr⟩:=nM (T.write i o.off o.data);rw [hr] at fE;have fY:=hid hr;obtain⟨T1,cd⟩:=r;simp only at fE;unfold zCq zAS at fE;clear hu hr k7 k10 k11
    go_wp2_with (first
     | (go_at_call 106;refine fE.mono ?_;rintro e w1 ⟨rfl,gI⟩;have fQ:=hid gI;obtain⟨own1,zCu,gO,gP,fR⟩:=gI;have fG:=fI.chg fR (fun h=>h fD.o);clear gO gP fR)
     | (refine stA cd st0 zAj zAj fG rfl rfl rfl (by rfl) rfl rfl rfl ?_))
    refine zCS fG rfl rfl rfl fun fB=>?_;rw [fH.o];rw [fY.o];refine⟨⟨_,rfl,zAH _ cd st0⟩,?_⟩;exact fQ.o.after (by rw [fF.o];exact fN.o) (by rw [fF.o];omega) (by omega) fD.o fB
  have s7:(o.kind==7)=false:=by simpa using k7
  rw [if_neg k7] at hu;by_cases k8:o.kind=8
  · rw [if_pos k8] at hu;have fH:=hid hu
    have s8:(o.kind==8)=true:=by simpa using k8
    by_cases fL:o.off<0∨136704<o.off
    · have hr:T.trunc i o.off=(T,101):=by unfold PT.trunc;rw [if_pos fL]
      have fY:=hid hr;have fE:=zKy (lay i) o.off w0 fL ⟨fM.2,fM.1⟩;unfold zCq at fE;clear hu hr k7 k8 k10 k11 fL
      go_wp2_with (first
       | (go_at_call 107;refine fE.mono ?_;rintro e w1 ⟨rfl,rfl⟩)
       | (refine stA 101 st0 zAj zAj fI rfl rfl rfl (by rfl) rfl rfl rfl ?_))
      refine zCS fI rfl rfl rfl fun fB=>?_;rw [fH.o];rw [fY.o];refine⟨⟨_,rfl,zAH _ 101 st0⟩,?_⟩;exact (zAv.same fC.o br).after (by rw [fF.o];exact fN.o) (by rw [fF.o];omega) (by omega) fD.o fB
    · obtain⟨of,gJ⟩:∃ of:Nat,o.off=(of:Int):=⟨o.off.toNat,by omega⟩
      have hr:T.trunc i o.off=(T.upd i (n.cut of),0):=by
       unfold PT.trunc;rw [if_neg fL,zAn fA.o,gJ,AT]
      have fY:=hid hr;have fE:=ptrunc_ok own i (lay i) n db of w0 (fC.o.get fA.o) (fC.o.owns _ (zAf fA.o)) (fU.o.ok.get fA.o).1 fX.o (by omega);unfold zCq zAS at fE;rw [gJ] at y3;clear hu hr k7 k8 k10 k11 fL
      go_wp2_with (first
       | (go_at_call 107;refine fE.mono ?_;rintro e w1 ⟨rfl,gK,fR⟩;have fQ:=hid (node_done fC.o fU.o.ok fA.o gK fR);have fG:=fI.chg fR (fun h=>fR.of_of_ne fD.o h);clear gK fR)
       | (refine stA 0 st0 zAj zAj fG rfl rfl rfl (by rfl) rfl rfl rfl ?_))
      refine zCS fG rfl rfl rfl fun fB=>?_;rw [fH.o];rw [fY.o];refine⟨⟨_,rfl,zAH _ 0 st0⟩,?_⟩;exact fQ.o.after (by rw [fF.o];exact fN.o) (by rw [fF.o];omega) (by omega) fD.o fB
  have s8:(o.kind==8)=false:=by simpa using k8
  rw [if_neg k8] at hu;by_cases k9:o.kind=9
  · rw [if_pos k9,zAn fA.o] at hu;have fH:=hid hu
    have s9:(o.kind==9)=true:=by simpa using k9
    have fE:=zHG (lay i) n db o.off o.len w0 (fC.o.get fA.o) (fU.o.ok.get fA.o).1 fX.o fM gA;obtain⟨an,fO⟩:=nM (n.read o.off o.len);rw [fO] at fE;unfold zCq at fE;have fP:=hid fO;clear hu fO k7 k8 k9 k10 k11
    go_wp2_with (first
     | (go_at_call 108;refine fE.mono ?_;rintro e w1 ⟨⟨v,rfl,hA⟩,fJ⟩;have gF:=hid hA;obtain⟨dA,dc,eA,ec,rfl,-,-⟩:=hA;have fG:=fI.fresh fJ;have fK:=hid fJ;clear fJ)
     | (refine stA an.code an.stat (.slice dA an.data.length dc) (.slice eA an.ents.length ec) fG rfl rfl rfl (by rfl) rfl rfl rfl ?_))
    refine zCS fG rfl rfl rfl fun fB=>?_;rw [fH.o];rw [fP.o];refine⟨⟨_,rfl,gF.o.row fG _⟩,?_⟩;exact (zAv.same fC.o fK.o).after (by rw [fF.o];exact fN.o) (by rw [fF.o];omega) (by omega) fD.o fB
  have s9:(o.kind==9)=false:=by simpa using k9
  rw [if_neg k9] at hu;have fH:=hid hu;clear hu k7 k8 k9 k10 k11
  go_wp2_with (first
   | (refine stA 0 st0 zAj zAj fI rfl rfl rfl (by rfl) rfl rfl rfl ?_))
  refine zCS fI rfl rfl rfl fun fB=>?_;rw [fH.o];refine⟨⟨_,rfl,zAH _ 0 st0⟩,?_⟩;exact (zAv.same fC.o br).after (by rw [fF.o];exact fN.o) (by rw [fF.o];omega) (by omega) fD.o fB
theorem zFM (T:PT) (l:List ByteArray) (dir:Bool) (made:Nat):(T.make l dir made).2.data=[]∧(T.make l dir made).2.ents=[]:=by
 unfold PT.make
 split
 · exact⟨rfl,rfl⟩
 split
 · exact⟨rfl,rfl⟩
 split
 · exact⟨rfl,rfl⟩
 split<;>exact⟨rfl,rfl⟩
structure NmAt (w:World) (B:Nat) (A:Option Addr) (c:Nat) (l:List ByteArray):Prop where
 sees:Sees w B 1 A l.length (strs l)
 len:l.length≤1000000
 cap:l.length≤c
 small:∀ x∈l,x.size≤40
theorem NmAt.big {w:World} {B:Nat} {A:Option Addr} {c:Nat} {l:List ByteArray} (h:NmAt w B A c l):∀ x∈l,x.size≤1000000:=fun x hx=>by have:=h.small x hx;omega
theorem NmAt.fresh {w w1:World} {A:Option Addr} {c:Nat} {l:List ByteArray} (h:NmAt w w.heap.size A c l) (hb:Below w.heap.size w w1):NmAt w1 w1.heap.size A c l:=⟨(h.sees.below hb).more hb.size,h.len,h.cap,h.small⟩
theorem zER (own:Nat→Option Role) (lay:Nat→NA) (p mb:Nat) (T:PT) (o:Opn) (A:Option Addr) (c:Nat) (A1:Option Addr) (c1:Nat) (l:List ByteArray) (A2:Option Addr) (c2:Nat) (m:List ByteArray) (w:World) (h:PlainAt w own lay p mb T) (hT:T.Wf)
 (hs:Sees w w.heap.size 1 A o.data.length (bvs o.data)) (hc:o.data.length≤c) (gN:o.data.length<1000000000000) (gD:o.off≤9223372036854775807∧-9223372036854775808≤o.off) (gE:o.len≤9223372036854775807∧-9223372036854775808≤o.len)
 (gI:0≤o.made∧o.made≤1099511627776) (gJ:NmAt w w.heap.size A1 c1 l) (gK:NmAt w w.heap.size A2 c2 m) :
 Calls Aw 43 #[.pointer (some ⟨p,0,none⟩),opV o A c,.slice A1 l.length c1,.slice A2 m.length c2] w (AnsP own p mb (T.does o l m) w):=by
 have hu:=PT.does.eq_1 T o l m;have gF:own (w.heap.size+1)=none:=h.free (by omega);unfold opV opC;go_enter Tryz.func43,Tryz.ntmps43;go_upto_region 1 with (fail);have fV:Blk ((w.alloc (.cells (opC o A c).toArray 70)).alloc (.cells zAk.toArray 67)) w.heap.size 70 (opC o A c):=(AU w _ _).alloc _
 have fM:Blk ((w.alloc (.cells (opC o A c).toArray 70)).alloc (.cells zAk.toArray 67)) (w.heap.size+1) 67 zAk:=by
  have:=AU (w.alloc (.cells (opC o A c).toArray 70)) 67 zAk;simpa using this
 have fT:Below w.heap.size w ((w.alloc (.cells (opC o A c).toArray 70)).alloc (.cells zAk.toArray 67)):=(br.alloc nr _).alloc (by simp) _
 have gO:((w.alloc (.cells (opC o A c).toArray 70)).alloc (.cells zAk.toArray 67)).heap.size=w.heap.size+2:=by simp
 change AX _ _ _ _ ((w.alloc (.cells (opC o A c).toArray 70)).alloc (.cells zAk.toArray 67));generalize (w.alloc (.cells (opC o A c).toArray 70)).alloc (.cells zAk.toArray 67)=w0 at *;have gL:=h.fresh fT;have gM:=(hs.below fT).more fT.size;have fW:=gJ.fresh fT;have fX:=gK.fresh fT;obtain⟨g,fZ⟩:=nM (w.heap.size);rw [fZ] at fV fM fT gO gF;simp only [fZ];have fH:=hid fZ;have fR:=hid fT;have fC:=hid gF;have fF:=hid gL;have gG:=hid gM;have fS:=hid hT;have gP:=hid hc;have gT:=hid fM;have gQ:=hid fV;have fA:=hid fW;have fL:=hid fX;clear fZ fT gF gM hs hc h gL hT gJ gK fW fX;have y0:=fV.cell 0;have y6:=fV.cell 6;simp only [opC,Aj,Ai] at y0 y6;clear fV;obtain⟨made,gA⟩:∃ made:Nat,o.made=(made:Int):=⟨o.made.toNat,by omega⟩;rw [gA] at y6;by_cases k1:o.kind=1
 · rw [if_pos k1,gA,AT] at hu;have fK:=hid hu
   have s1:(o.kind==1)=true:=by simpa using k1
   have fD:=zHs own lay p mb T _ A1 c1 l false made w0 fF.o fS.o nr fA.o.sees fA.o.len fA.o.cap fA.o.small (by omega);have fU:=zFM T l false made;obtain⟨r,hr⟩:=nM (T.make l false made);rw [hr] at fD fU;have fN:=hid hr;have fQ:=hid fU;obtain⟨T1,an⟩:=r;simp only [zCR,AW,ansV] at fD;clear hu hr fU k1
   go_wp2_with (first
    | (go_at_call 67;refine fD.mono ?_;rintro e w1 ⟨rfl,fI⟩;have fE:=hid fI;obtain⟨own1,zCu,fO,fP,fJ⟩:=fI;have fG:=fM.chg fJ (fun h=>h fC.o);clear fO fP fJ)
    | (refine stA an.code an.stat zAj zAj fG rfl rfl rfl (by rfl) rfl rfl rfl ?_))
   refine zCS fG rfl rfl rfl fun fB=>?_;rw [fK.o];rw [fN.o];refine⟨⟨_,rfl,zBv _ an fQ.o.1 fQ.o.2⟩,?_⟩;exact fE.o.after (by rw [fH.o];exact fR.o) (by rw [fH.o];omega) (by omega) fC.o fB
 have s1:(o.kind==1)=false:=by simpa using k1
 rw [if_neg k1] at hu;by_cases k2:o.kind=2
 · rw [if_pos k2,gA,AT] at hu;have fK:=hid hu
   have s2:(o.kind==2)=true:=by simpa using k2
   have fD:=zHs own lay p mb T _ A1 c1 l true made w0 fF.o fS.o nr fA.o.sees fA.o.len fA.o.cap fA.o.small (by omega);have fU:=zFM T l true made;obtain⟨r,hr⟩:=nM (T.make l true made);rw [hr] at fD fU;have fN:=hid hr;have fQ:=hid fU;obtain⟨T1,an⟩:=r;simp only [zCR,AW,ansV] at fD;clear hu hr fU k2
   go_wp2_with (first
    | (go_at_call 67;refine fD.mono ?_;rintro e w1 ⟨rfl,fI⟩;have fE:=hid fI;obtain⟨own1,zCu,fO,fP,fJ⟩:=fI;have fG:=fM.chg fJ (fun h=>h fC.o);clear fO fP fJ)
    | (refine stA an.code an.stat zAj zAj fG rfl rfl rfl (by rfl) rfl rfl rfl ?_))
   refine zCS fG rfl rfl rfl fun fB=>?_;rw [fK.o];rw [fN.o];refine⟨⟨_,rfl,zBv _ an fQ.o.1 fQ.o.2⟩,?_⟩;exact fE.o.after (by rw [fH.o];exact fR.o) (by rw [fH.o];omega) (by omega) fC.o fB
 have s2:(o.kind==2)=false:=by simpa using k2
 rw [if_neg k2] at hu;by_cases k3:o.kind=3
 · rw [if_pos k3] at hu;have fK:=hid hu
   have s3:(o.kind==3)=true:=by simpa using k3
   have fD:=plink_any own lay p mb T _ A1 c1 l A2 c2 m w0 fF.o fS.o fA.o.sees fA.o.len fA.o.big fL.o.sees fL.o.len fL.o.cap fL.o.big;obtain⟨r,hr⟩:=nM (T.link l m);rw [hr] at fD;have fN:=hid hr;obtain⟨T1,cd⟩:=r;simp only at fD;unfold zAS at fD;clear hu hr k3
   go_wp2_with (first
    | (go_at_call 68;refine fD.mono ?_;rintro e w1 ⟨rfl,fI⟩;have fE:=hid fI;obtain⟨own1,zCu,fO,fP,fJ⟩:=fI;have fG:=fM.chg fJ (fun h=>h fC.o);clear fO fP fJ)
    | (refine stA cd st0 zAj zAj fG rfl rfl rfl (by rfl) rfl rfl rfl ?_))
   refine zCS fG rfl rfl rfl fun fB=>?_;rw [fK.o];rw [fN.o];refine⟨⟨_,rfl,zAH _ cd st0⟩,?_⟩;exact fE.o.after (by rw [fH.o];exact fR.o) (by rw [fH.o];omega) (by omega) fC.o fB
 have s3:(o.kind==3)=false:=by simpa using k3
 rw [if_neg k3] at hu;by_cases k4:o.kind=4
 · rw [if_pos k4] at hu;have fK:=hid hu
   have s4:(o.kind==4)=true:=by simpa using k4
   have fD:=zH5 own lay p mb T _ A1 c1 l w0 fF.o fS.o fA.o.sees fA.o.len fA.o.cap fA.o.big;obtain⟨r,hr⟩:=nM (T.unlink l);rw [hr] at fD;have fN:=hid hr;obtain⟨T1,cd⟩:=r;simp only at fD;unfold zAS at fD;clear hu hr k4
   go_wp2_with (first
    | (go_at_call 69;refine fD.mono ?_;rintro e w1 ⟨rfl,fI⟩;have fE:=hid fI;obtain⟨own1,zCu,fO,fP,fJ⟩:=fI;have fG:=fM.chg fJ (fun h=>h fC.o);clear fO fP fJ)
    | (refine stA cd st0 zAj zAj fG rfl rfl rfl (by rfl) rfl rfl rfl ?_))
   refine zCS fG rfl rfl rfl fun fB=>?_;rw [fK.o];rw [fN.o];refine⟨⟨_,rfl,zAH _ cd st0⟩,?_⟩;exact fE.o.after (by rw [fH.o];exact fR.o) (by rw [fH.o];omega) (by omega) fC.o fB
 have s4:(o.kind==4)=false:=by simpa using k4
 rw [if_neg k4] at hu;by_cases k5:o.kind=5
 · rw [if_pos k5] at hu;have fK:=hid hu
   have s5:(o.kind==5)=true:=by simpa using k5
   have fD:=zKz own lay p mb T _ A1 c1 l w0 fF.o fS.o fA.o.sees fA.o.len fA.o.cap fA.o.big;obtain⟨r,hr⟩:=nM (T.rmdir l);rw [hr] at fD;have fN:=hid hr;obtain⟨T1,cd⟩:=r;simp only at fD;unfold zAS at fD;clear hu hr k5
   go_wp2_with (first
    | (go_at_call 70;refine fD.mono ?_;rintro e w1 ⟨rfl,fI⟩;have fE:=hid fI;obtain⟨own1,zCu,fO,fP,fJ⟩:=fI;have fG:=fM.chg fJ (fun h=>h fC.o);clear fO fP fJ)
    | (refine stA cd st0 zAj zAj fG rfl rfl rfl (by rfl) rfl rfl rfl ?_))
   refine zCS fG rfl rfl rfl fun fB=>?_;rw [fK.o];rw [fN.o];refine⟨⟨_,rfl,zAH _ cd st0⟩,?_⟩;exact fE.o.after (by rw [fH.o];exact fR.o) (by rw [fH.o];omega) (by omega) fC.o fB
 have s5:(o.kind==5)=false:=by simpa using k5
 rw [if_neg k5] at hu;by_cases k6:o.kind=6
 · rw [if_pos k6] at hu;have fK:=hid hu
   have s6:(o.kind==6)=true:=by simpa using k6
   have fD:=zIh own lay p mb T _ A1 c1 l A2 c2 m w0 fF.o fS.o nr fA.o.sees fA.o.len fA.o.cap fA.o.small fL.o.sees fL.o.len fL.o.cap fL.o.small;obtain⟨r,hr⟩:=nM (T.rename l m);rw [hr] at fD;have fN:=hid hr;obtain⟨T1,cd⟩:=r;simp only at fD;unfold zAS at fD;clear hu hr k6
   go_wp2_with (first
    | (go_at_call 71;refine fD.mono ?_;rintro e w1 ⟨rfl,fI⟩;have fE:=hid fI;obtain⟨own1,zCu,fO,fP,fJ⟩:=fI;have fG:=fM.chg fJ (fun h=>h fC.o);clear fO fP fJ)
    | (refine stA cd st0 zAj zAj fG rfl rfl rfl (by rfl) rfl rfl rfl ?_))
   refine zCS fG rfl rfl rfl fun fB=>?_;rw [fK.o];rw [fN.o];refine⟨⟨_,rfl,zAH _ cd st0⟩,?_⟩;exact fE.o.after (by rw [fH.o];exact fR.o) (by rw [fH.o];omega) (by omega) fC.o fB
 have s6:(o.kind==6)=false:=by simpa using k6
 rw [if_neg k6] at hu;by_cases k12:o.kind=12
 · rw [if_pos (.inl k12)] at hu;have fK:=hid hu
   have s12:(o.kind==12)=true:=by simpa using k12
   clear hu k12
   go_wp2_with (first
    | (refine stA 0 st0 zAj zAj fM rfl rfl rfl (by rfl) rfl rfl rfl ?_))
   refine zCS fM rfl rfl rfl fun fB=>?_;rw [fK.o];refine⟨⟨_,rfl,zAH _ 0 st0⟩,?_⟩;exact (zAv.same fF.o br).after (by rw [fH.o];exact fR.o) (by rw [fH.o];omega) (by omega) fC.o fB
 have s12:(o.kind==12)=false:=by simpa using k12
 by_cases k14:o.kind=14
 · rw [if_pos (.inr k14)] at hu;have fK:=hid hu
   have s14:(o.kind==14)=true:=by simpa using k14
   clear hu k14
   go_wp2_with (first
    | (refine stA 0 st0 zAj zAj fM rfl rfl rfl (by rfl) rfl rfl rfl ?_))
   refine zCS fM rfl rfl rfl fun fB=>?_;rw [fK.o];refine⟨⟨_,rfl,zAH _ 0 st0⟩,?_⟩;exact (zAv.same fF.o br).after (by rw [fH.o];exact fR.o) (by rw [fH.o];omega) (by omega) fC.o fB
 have s14:(o.kind==14)=false:=by simpa using k14
 rw [if_neg (by rintro (h | h);exact k12 h;exact k14 h)] at hu;have fY:=zDU own lay p mb T _ A1 c1 l w0 fF.o fS.o fA.o.sees fA.o.len fA.o.big;have gB:=zBT fS.o l 1 (let ⟨n,h,_⟩:=fS.o.root;⟨n,h⟩);obtain⟨r,hr⟩:=nM (T.walk l 1);rw [hr] at fY gB hu;obtain⟨i,e1⟩:=r;simp only at fY gB hu;unfold zAS at fY;have gH:=hid gB;clear hr gB k1 k2 k3 k4 k5 k6 k12 k14;by_cases gC:e1≠0
 · rw [if_pos gC] at hu;have fK:=hid hu
   have gR:((e1:Int) != 0)=true:=by simp;omega
   clear hu gC
   go_wp2_with (first
    | (go_at_call 72;refine fY.mono ?_;rintro e w1 ⟨rfl,rfl⟩)
    | (refine stA e1 st0 zAj zAj fM rfl rfl rfl (by rfl) rfl rfl rfl ?_))
   refine zCS fM rfl rfl rfl fun fB=>?_;rw [fK.o];refine⟨⟨_,rfl,zAH _ e1 st0⟩,?_⟩;exact (zAv.same fF.o br).after (by rw [fH.o];exact fR.o) (by rw [fH.o];omega) (by omega) fC.o fB
 · have gC:e1=0:=by omega
   subst gC;rw [if_neg (by simp)] at hu;have fK:=hid hu;obtain⟨n,hn⟩:=gH.o rfl;have fD:=pasks_any own lay p mb i T n o A c w0 fF.o fS.o hn gG.o gP.o gN gD gE;have yc:=fun j=>gQ.o.cell j;have z1:=yc 1;have z2:=yc 2;have z3:=yc 3;have z4:=yc 4;have z5:=yc 5;have z7:=yc 7;simp only [opC,Aj,Ai] at z1 z2 z3 z4 z5 z7;unfold opV opC at fD;rw [gA] at fD;obtain⟨r,hr⟩:=nM (T.asks o i);rw [hr] at fD;have fN:=hid hr;obtain⟨T1,an⟩:=r;clear hu hr hn yc
   go_wp2_with (first
    | (go_at_call 72;refine fY.mono ?_;rintro e w1 ⟨rfl,rfl⟩)
    | (go_at_call 73;refine fD.mono ?_;rintro e w1 ⟨⟨v,rfl,hA⟩,fI⟩;have gS:=hid hA;obtain⟨dA,dc,eA,ec,rfl,-,-⟩:=hA;have fE:=hid fI;obtain⟨own1,zCu,fO,fP,fJ⟩:=fI;have fG:=fM.chg fJ (fun h=>h fC.o);clear fO fP fJ)
    | (refine stA an.code an.stat (.slice dA an.data.length dc) (.slice eA an.ents.length ec) fG rfl rfl rfl (by rfl) rfl rfl rfl ?_))
   refine zCS fG rfl rfl rfl fun fB=>?_;rw [fK.o];rw [fN.o];refine⟨⟨_,rfl,gS.o.row fG _⟩,?_⟩;exact fE.o.after (by rw [fH.o];exact fR.o) (by rw [fH.o];omega) (by omega) fC.o fB
theorem slN_emp (n:PN):slN n emp=none:=by unfold slN;rw [if_pos rfl]
theorem zDQ {n:PN} {nm:ByteArray} {i:Nat} (h:nm≠emp) (hg:zAe nm n.names=some i):slN n nm=some (i,nm):=by unfold slN;rw [if_neg h,hg];rfl
theorem zEt {n:PN} {nm y:ByteArray} {i:Nat} (h:slN n y=some (i,nm)):y=nm∧y≠emp∧zAe nm n.names=some i:=by
 unfold slN at h
 split at h
 · cases h
 · rename_i fA
   cases hg:zAe y n.names with
   | none=>rw [hg] at h;cases h
   | some j =>
    rw [hg] at h;simp only [Option.map_some,Option.some.injEq,Prod.mk.injEq] at h;obtain⟨rfl,rfl⟩:=h;exact⟨rfl,fA,hg⟩
theorem zJp {n:PN} (h:SlOk n):∀ o∈zAu n,zHy o:=fun o ho=>by
 obtain⟨nm,hn,rfl⟩:=Ak.1 ho
 cases e:slN n nm with
 | none=>trivial
 | some p =>
  obtain⟨i,nm'⟩:=p;obtain⟨rfl,h1,h2⟩:=zEt e;exact h.ok _ (zAf h2)
section
variable {x:Hd} {i:Nat} {n:PN}
theorem RepN.dir (h:RepN x i n) (ho:n.Ok) (hd:n.dir=true):Dir x (zAu n):=⟨by rw [h.dat];unfold zFW;rw [ho.dd hd];rfl,zJp h.sl⟩
theorem RepN.rng (h:RepN x i n) (ho:n.Ok) (hd:n.dir=true):x.idx=List.range n.slots.length:=by rw [h.idx];unfold AV;rw [ho.dd hd];rfl
def FindP (n:PN) (nm:ByteArray) (w:World) (e:Ending) (w':World):Prop :=
 ((∃ i k,zAe nm n.names=some i∧zAh nm n.slots=some k∧e=.returned (.tuple #[.int .i64 (k:Int),.int .i64 (i:Int)]))∨(zAe nm n.names=none∧e=.returned (.tuple #[.int .i64 (-1),.int .i64 0])))∧Below w.heap.size w w'
theorem zDt {x:ByteArray}:∀ {l:List ByteArray} {k:Nat} (h:k<l.length),l[k]=x→(∀ j (hj:j<k),l[j]≠x)→zAh x l=some k
 | y::r,0,_,h1,_=>by
  have h1:y=x:=h1;unfold zAh;rw [if_pos h1]
 | y::r,k+1,h,h1,h2=>by
  have h3:¬y=x:=h2 0 (by omega);unfold zAh;rw [if_neg h3,zDt (k:=k) (by simpa using h) h1 fun j hj=>h2 (j+1) (by omega)];rfl
theorem zJJ (h:RepN x i n) (ho:n.Ok) (hd:n.dir=true) {nm:ByteArray} (hn:nm≠emp) {w w':World} {e:Ending} (hf:RFind x (zAu n) nm w e w'):FindP n nm w e w':=by
 refine⟨?_,hf.2⟩;rcases hf.1 with ⟨j,m,hj,hjs,h1,h2,rfl⟩ | ⟨hno,rfl⟩
 · left
   have fA:j<n.slots.length:=by simpa [zAu] using hjs
   have e1:slN n n.slots[j]=some (m,nm):=by simpa [zAu] using h1
   obtain⟨e2,_,e3⟩:=zEt e1
   have fB:zAh nm n.slots=some j:=zDt fA e2 fun q hq eq=>by
    refine h2 q hq m ?_;simp only [zAu,Al];rw [eq];exact zDQ hn e3
   refine⟨m,j,e3,fB,?_⟩
   have:x.idx[j]=j:=by simp [h.rng ho hd]
   rw [this]
 · right
   refine⟨?_,rfl⟩
   cases hg:zAe nm n.names with
   | none=>rfl
   | some q =>
    exfalso
    have hm:=h.sl.at_ _ (zAf hg);refine hno q ?_;unfold zAu;rw [Ak];exact⟨nm,hm,zDQ hn hg⟩
end
def zBm {α:Type} (k:Nat) (s:α) (l:List α):List α:=if k=l.length then l++[s] else l.set k s
theorem zGZ (k:Nat) (s:List UInt8):∀ (l:List (List UInt8)) (o:Nat),k<o→zBe kB (k,s) true ((List.range' o l.length).zip l)=(List.range' o l.length).zip l
 | [],_,_=>rfl
 | y::r,o,h=>by
  rw [Am,List.range'_succ,An,zBe,if_neg (by simp),if_neg (by show ¬((o:Int)=(k:Int));omega),Bool.true_or,zGZ k s r (o+1) (by omega)];rfl
theorem zJE (k:Nat) (s:List UInt8):∀ (l:List (List UInt8)) (o:Nat),o≤k→k≤o+l.length→zBe kB (k,s) false ((List.range' o l.length).zip l)=(List.range' o (zBm (k-o) s l).length).zip (zBm (k-o) s l)
 | [],o,h1,h2=>by
  have:k=o:=by simp at h2;omega
  subst this;simp [zBe,zBm]
 | y::r,o,h1,h2=>by
  rw [Am,List.range'_succ,An,zBe];rcases AN o k with hlt | hge
  · have c1:¬((false=false)∧kB (k,s)≤kB (o,y)):=fun h=>by have:=h.2;simp only [kB] at this;omega
    have c2:¬(kB (o,y)=kB (k,s)):=by simp only [kB];omega
    have c3:decide (kB (k,s)≤kB (o,y))=false:=by simp only [kB];simp;omega
    rw [if_neg c1,if_neg c2,c3,Bool.or_false,zJE k s r (o+1) (by omega) (by simp at h2;omega)]
    have e:zBm (k-o) s (y::r)=y::zBm (k-(o+1)) s r:=by
     unfold zBm;rw [Am,show k-o=(k-(o+1))+1 by omega];by_cases hk:k-(o+1)=r.length
     · rw [if_pos (by omega),if_pos hk];rfl
     · rw [if_neg (by omega),if_neg hk];rfl
    rw [e,Am,List.range'_succ,An];rfl
  · have fA:o=k:=by omega
    subst fA;have c1:(false=false)∧kB (o,s)≤kB (o,y):=⟨rfl,by simp only [kB];omega⟩;have c2:kB (o,y)=kB (o,s):=rfl
    have c3:decide (kB (o,s)≤kB (o,y))=true:=by simp only [kB];simp
    rw [if_pos c1,if_pos c2,c3,Bool.or_true,zGZ o s r (o+1) (by omega)]
    have e:zBm (o-o) s (y::r)=s::r:=by unfold zBm;rw [if_neg (by simp)];simp
    rw [e,Am,List.range'_succ,An];rfl
theorem zBR {α:Type} {k:Nat} {s:α} {l:List α}:(zBm k s l).length=if k=l.length then l.length+1 else l.length:=by
 unfold zBm;split<;>simp
theorem zE1 {α β:Type} (f:α→β) {k:Nat} {s:α} {l:List α}:(zBm k s l).map f=zBm k (f s) (l.map f):=by
 unfold zBm;rw [Ao]
 split
 · simp
 · rw [List.map_set]
section
variable {x:Hd} {i:Nat} {n n':PN}
theorem set_rep (h:RepN x i n) (ho:n.Ok) (hd:n.dir=true) {k:Nat} (hk:k≤n.slots.length) (o:Slt) (iA:Option Addr) (ic:Nat) (dA:Option Addr) (dc:Nat) (fI:n'.dir=true) (fF:n'.data=[]) (hl:n'.links=n.links) (hm:n'.made=n.made)
 (hs:zAu n'=zBm k o (zAu n)) (hz:n'.size=128 * n'.slots.length) (fJ:SlOk n'):RepN (setH x k o iA ic dA dc) i n':=by
 have fD:(zAu n).length=n.slots.length:=by simp [zAu]
 have fA:x.dat=(zAu n).map zFt:=(h.dir ho hd).dat;have fG:=h.rng ho hd
 have fE:x.idx.zip x.dat=(List.range' 0 x.dat.length).zip x.dat:=by
  rw [fG,List.range_eq_range']
  congr 2
  rw [fA,Ao,fD]
 have fC:=zJE k (zFt o) x.dat 0 (by omega) (by rw [fA,Ao,fD];omega);rw [Nat.sub_zero] at fC
 have fB:n'.slots.length=(zBm k (zFt o) x.dat).length:=by
  have:=congrArg List.length hs;rw [zBR,fD] at this;rw [zBR,fA,Ao,fD];simpa [zAu] using this
 refine⟨h.ino,?_,by show x.links=_;rw [h.links,hl],?_,by show x.made=_;rw [h.made,hm],?_,?_,fJ,by rw [fF];exact fun _ hp=>by cases hp⟩
 · show x.kind=_
   rw [h.kind];unfold AW;rw [hd,fI]
 · show (if x.size<128 * ((k:Int)+1) then 128 * ((k:Int)+1) else x.size)=_
   have fK:=h.sl.size hd;have fH:=fB;rw [zBR,fA,Ao,fD] at fH;rw [h.size,hz,fH,fK];by_cases e:k=n.slots.length
   · rw [if_pos e,if_pos (by omega)];omega
   · rw [if_neg e,if_neg (by omega)]
 · show (zBe kB (k,zFt o) false (x.idx.zip x.dat)).map (·.1)=_
   rw [fE,fC];unfold AV;rw [fF,fB,List.range_eq_range',Ap,Aq];exact List.map_fst_zip (by simp)
 · show (zBe kB (k,zFt o) false (x.idx.zip x.dat)).map (·.2)=_
   rw [fE,fC];unfold zFW;rw [fF,hs,zE1,Ap,Aq,←fA];exact List.map_snd_zip (by simp)
end
def MayAt (n:PN) (k:Nat) (nm:ByteArray):Prop:=(k=n.slots.length∧zAe nm n.names=none)∨(n.slots[k]? = some emp∧zAe nm n.names=none)∨n.slots[k]? = some nm
theorem zJe {n:PN} (h:SlOk n) {nm:ByteArray} (hn:nm≠emp) (hg:zAe nm n.names=none):nm ∉ n.slots:=fun hm=>by
 have:=h.has nm hm hn;rw [hg] at this;cases this
theorem zGl {n:PN} (h:SlOk n) {nm:ByteArray} (hn:nm≠emp) {k q:Nat} (hk:n.slots[k]? = some nm) (hq:n.slots[q]? = some nm):k=q:=by
 obtain⟨h1,h2⟩:=Ag.1 hk;obtain⟨h3,h4⟩:=Ag.1 hq;have hp:=List.pairwise_iff_getElem.1 h.one;rcases Nat.lt_trichotomy k q with hlt | he | hlt
 · rcases hp k q h1 h3 hlt with e | e | e
   · rw [h2] at e;exact absurd e hn
   · rw [h4] at e;exact absurd e hn
   · rw [h2,h4] at e;exact absurd rfl e
 · exact he
 · rcases hp q k h3 h1 hlt with e | e | e
   · rw [h4] at e;exact absurd e hn
   · rw [h2] at e;exact absurd e hn
   · rw [h2,h4] at e;exact absurd rfl e
theorem zEW {α β:Type} (f g:α→β) (k:Nat) (s:β) (l:List α) (hk:k≤l.length) (h:∀ j (hj:j<l.length),j≠k→f l[j]=g l[j]):zBm k s (l.map f)=zBm k s (l.map g):=by
 unfold zBm;rw [Ao,Ao]
 split
 · rename_i e
   congr 1
   exact List.map_congr_left fun y hy=>by
    obtain⟨j,hj,rfl⟩:=Ar hy;exact h j hj (by omega)
 · apply List.ext_getElem (by simp)
   intro j h1 h2;rw [As,As]
   split
   · rfl
   · rename_i e;simp only [Al];exact h j (by simpa using h1) fun e2=>e e2.symm
theorem zHF {α:Type} {k:Nat} {s y:α} {l:List α} (h:y∈zBm k s l):y=s∨y∈l:=by
 unfold zBm at h
 split at h
 · rcases List.mem_append.1 h with h | h
   · exact .inr h
   · exact .inl (At.1 h)
 · exact (List.mem_or_eq_of_mem_set h).symm
theorem putAt_mem {α:Type} {k:Nat} {s:α} {l:List α} (hk:k≤l.length):s∈zBm k s l:=by
 unfold zBm
 split
 · simp
 · exact List.mem_set (by omega) s
theorem zFP {α:Type} {k:Nat} {s y:α} {l:List α} (h:y∈l) (hy:l[k]?≠some y):y∈zBm k s l:=by
 unfold zBm
 split
 · exact List.mem_append_left _ h
 · obtain⟨j,hj,rfl⟩:=Ar h;refine List.mem_iff_getElem.2 ⟨j,by simpa using hj,?_⟩;rw [As,if_neg];intro e;subst e;exact hy (Ah hj)
theorem zFQ {k:Nat} {nm:ByteArray} {l:List ByteArray} (h:l.Pairwise fun a b=>a=emp∨b=emp∨a≠b) (hn:∀ j (hj:j<l.length),j≠k→l[j]=emp∨nm=emp∨l[j]≠nm):(zBm k nm l).Pairwise fun a b=>a=emp∨b=emp∨a≠b:=by
 unfold zBm
 split
 · rename_i e;rw [List.pairwise_append];refine⟨h,List.pairwise_singleton _ _,fun a ha b hb=>?_⟩;obtain⟨j,hj,rfl⟩:=Ar ha;rw [At.1 hb];exact hn j hj (by omega)
 · rw [List.pairwise_iff_getElem] at h ⊢;intro a b ha hb fA;rw [Au] at ha hb;rw [As,As]
   split<;>split
   · omega
   · rename_i e1 e2
     rcases hn b hb (fun e=>e2 e.symm) with h1 | h1 | h1
     · exact .inr (.inl h1)
     · exact .inl h1
     · exact .inr (.inr fun e=>h1 e.symm)
   · rename_i e1 e2;exact hn a ha (fun e=>e1 e.symm)
   · exact h a b ha hb fA
theorem zGA {i:Nat} {nm:ByteArray} (h:zEo i nm):nm≠emp:=fun e=>by
 have:=h.2.2.1.1;rw [e] at this;exact absurd this (by decide)
theorem slots_set {n:PN} (h:SlOk n) {k j:Nat} {nm:ByteArray} (hj:zEo j nm) (hk:k≤n.slots.length) (hm:MayAt n k nm):zAu (n.set k nm j)=zBm k (some (j,nm)) (zAu n)∧SlOk (n.set k nm j):=by
 have hn:=zGA hj;have fA:(n.set k nm j).slots=zBm k nm n.slots:=rfl;have fB:(n.set k nm j).names=zA2 zAV nm j n.names:=rfl
 have fC:∀ q (hq:q<n.slots.length),q≠k→n.slots[q]≠nm:=fun q hq fD e=>by
  rcases hm with ⟨_,hg⟩ | ⟨_,hg⟩ | hg
  · exact zJe h hn hg (by rw [←e];exact Ad hq)
  · exact zJe h hn hg (by rw [←e];exact Ad hq)
  · exact fD (zGl h hn (by rw [Ah hq,e]) hg)
 refine⟨?_,?_,?_,?_,?_,?_⟩
 · unfold zAu;rw [fA,zE1,zDQ hn (by rw [fB];exact zAr zAV nm j n.names)];refine zEW _ _ _ _ _ hk fun q hq fD=>?_;unfold slN;rw [fB,zAi zAV j (fC q hq fD)]
 · intro y hy fE;rw [fB];by_cases e:y=nm
   · rw [e,zAr];rfl
   · rw [zAi zAV j e];rw [fA] at hy;rcases zHF hy with h1 | h1
     · exact absurd h1 e
     · exact h.has y h1 fE
 · rw [fA];exact zFQ h.one fun q hq fD=>.inr (.inr (fC q hq fD))
 · intro hd;have hz:=h.size hd;rw [fA,zBR]
   show (if k=n.slots.length then (n.slots.length+1) * 128 else n.size)=_
   split
   · omega
   · exact hz
 · intro p hp;rw [fB] at hp;rcases (zBj zAV).1 hp with rfl | ⟨hp,_⟩
   · exact hj
   · exact h.ok p hp
 · intro p hp;rw [fB] at hp;rw [fA];rcases (zBj zAV).1 hp with rfl | ⟨hp,fF⟩
   · exact putAt_mem hk
   · refine zFP (h.at_ p hp) ?_;have fG:=zGA (h.ok p hp);rcases hm with ⟨e,_⟩ | ⟨e,_⟩ | e
     · rw [List.getElem?_eq_none (by omega)];simp
     · rw [e];exact fun e2=>fG (AS e2).symm
     · rw [e];exact fun e2=>fF (AS e2).symm
theorem zIk {n:PN} (h:SlOk n) {k:Nat} {nm:ByteArray} (hn:nm≠emp) (hk:zAh nm n.slots=some k):k<n.slots.length∧zAu (n.clear nm)=zBm k none (zAu n)∧SlOk (n.clear nm)∧(n.clear nm).slots.length=n.slots.length:=by
 obtain⟨fH,fG⟩:=zAR hk
 have fA:(n.clear nm).slots=zBm k emp n.slots:=by
  unfold PN.clear zBm;simp only [hk];rw [if_neg (by omega)]
 have fD:(n.clear nm).names=zBB nm n.names:=rfl;have fB:∀ q (hq:q<n.slots.length),q≠k→n.slots[q]≠nm:=fun q hq fE e=>fE (zGl h hn (by rw [Ah hq,e]) fG)
 have fC:(n.clear nm).slots.length=n.slots.length:=by rw [fA,zBR,if_neg (by omega)]
 refine⟨fH,?_,⟨?_,?_,?_,?_,?_⟩,fC⟩
 · unfold zAu;rw [fA,zE1,slN_emp];refine zEW _ _ _ _ _ (by omega) fun q hq fE=>?_;unfold slN;rw [fD,zAT (fB q hq fE)]
 · intro y hy fF;rw [fD];rw [fA] at hy;rcases zHF hy with h1 | h1
   · exact absurd h1 fF
   · by_cases e:y=nm
     · exfalso
       subst e;unfold zBm at hy;rw [if_neg (by omega)] at hy;obtain⟨q,hq,e2⟩:=Ar hy;rw [As] at e2;rw [Au] at hq
       split at e2
       · exact fF e2.symm
       · rename_i e3;exact fB q hq (fun e=>e3 e.symm) e2
     · rw [zAT e];exact h.has y h1 fF
 · rw [fA];exact zFQ h.one fun q hq fE=>.inr (.inl rfl)
 · intro hd;rw [fC];exact h.size hd
 · intro p hp;rw [fD] at hp;exact h.ok p (zBG.1 hp).1
 · intro p hp;rw [fD] at hp;obtain⟨hp,fI⟩:=zBG.1 hp;rw [fA];exact zFP (h.at_ p hp) (by rw [fG];exact fun e2=>fI (AS e2).symm)
def zDW (n:PN) (k:Nat):Slt:=(zAu n)[k]?.getD none
theorem slotAt_ok {n:PN} (h:SlOk n) (k:Nat):zHy (zDW n k):=by
 unfold zDW
 cases e:(zAu n)[k]? with
 | none=>trivial
 | some o=>exact zJp h o (List.mem_of_getElem? e)
theorem zKk {x:Hd} {i:Nat} {n:PN} (h:RepN x i n) (ho:n.Ok) (hd:n.dir=true) {k:Nat} {w w':World} {e:Ending} (hb:RBlk x k w e w'):(∃ b:Bool,e=.returned (.tuple #[zB6 (zFt (zDW n k)),.bool b]))∧Below w.heap.size w w':=by
 refine⟨?_,hb.2⟩;have hD:=h.dir ho hd;have hr:=h.rng ho hd;rcases hb.1 with ⟨j,h1,h2,h3,h4,rfl⟩ | ⟨hno,rfl⟩
 · have fB:j<n.slots.length:=by rw [hr] at h1;simpa using h1
   have fC:j=k:=by rw [←h3];simp [hr]
   subst fC
   have fA:j<(zAu n).length:=by simpa [zAu] using fB
   refine⟨true,?_⟩;rw [hD.get j h2 fA];unfold zDW;rw [Ah fA];rfl
 · refine⟨false,?_⟩
   have:(zAu n)[k]? = none:=by
    rw [List.getElem?_eq_none_iff];rcases AN k n.slots.length with hlt | hge
    · exact absurd rfl (hno k (by rw [hr];exact List.mem_range.2 hlt))
    · simpa [zAu] using hge
   unfold zDW;rw [this];rfl
theorem one2s (a:Int) (s:ByteArray):(([.int .i64 a,.string s]:List Value).toArray).all (·.oneCell')=true:=by
 rw [Aa];intro v hv;simp only [List.mem_toArray,Ab,Ac,or_false] at hv;rcases hv with rfl | rfl<;>rfl
theorem sec_box {w:World} {s:List UInt8} (hs:s.length=128):Blk ((w.alloc (.cells AA 187)).setRow w.heap.size (bvs s).toArray) w.heap.size 187 (bvs s) ∧
 Below w.heap.size w ((w.alloc (.cells AA 187)).setRow w.heap.size (bvs s).toArray):=by
 have fA:Blk (w.alloc (.cells AA 187)) w.heap.size 187 (bvs zBD):=zBf rfl;refine⟨AH _ w.heap.size _ _ _ _ fA,?_⟩;exact (((AI (fun b=>w.heap.size≤b) w).alloc _).setRow (fun _=>AM _) _).below nr fun b hb h=>by omega
theorem slot_any (x:Hd) (i:Nat) (n:PN) (k:Nat) (w:World) (hx:HdAt w w.heap.size x) (hr:RepN x i n) (ho:n.Ok) (hd:n.dir=true) :
 Calls Aw 134 #[hdV x,.int .i64 (k:Int)] w fun e w'=>e=.returned (zGH (zDW n k))∧Below w.heap.size w w':=by
 have hl:x.idx.length≤1000000000:=by rw [hr.rng ho hd,Av];have:=ho.slots;omega
 have fR:=slotAt_ok hr.sl k;have fS:=fun (W:World) (hW:Below w.heap.size w W)=>(zHi W.heap.size x k W ((hx.below hW).more hW.size) nr hl).mono fun _ _ h=>zKk hr ho hd h;have fJ:=hid fS;generalize zDW n k=o at *;have fX:=hid fun (W:World)=>zCf o W fR;have fF:=zE3 o fR;generalize gB:zFt o=s at *;have fK:Below w.heap.size w ((w.alloc (.cells (zAb x).toArray 123)).alloc (.cells #[.int .i64 0,.string ⟨#[]⟩] 179)):=(br.alloc nr _).alloc (by simp) _;have fL:=(AU w 123 (zAb x)).alloc (.cells #[.int .i64 0,.string ⟨#[]⟩] 179)
 have fM:Blk ((w.alloc (.cells (zAb x).toArray 123)).alloc (.cells #[.int .i64 0,.string ⟨#[]⟩] 179)) (w.heap.size+1) 179 [.int .i64 0,.string ⟨#[]⟩]:=by
  have:=AU (w.alloc (.cells (zAb x).toArray 123)) 179 [.int .i64 0,.string ⟨#[]⟩];simpa using this
 clear fS hx hr ho hd hl;unfold hdV zB6 at *;go_enter Tryz.func134,Tryz.ntmps134;go_upto_region 1 with (fail);change AX _ _ _ _ ((w.alloc (.cells (zAb x).toArray 123)).alloc (.cells #[.int .i64 0,.string ⟨#[]⟩] 179));generalize (w.alloc (.cells (zAb x).toArray 123)).alloc (.cells #[.int .i64 0,.string ⟨#[]⟩] 179)=w0 at *;obtain⟨g,fG⟩:=nM (w.heap.size);have fD:=fJ.o w0 fK;rw [fG] at fL fM;simp only [fG];have fY:=hid fG;have fA:=hid fK;have fN:=hid fM;clear fG fK fM
 go_upto_region 2 with (first
  | (refine AD rfl 123 (.tmp 2) rfl g rfl 123 (zAb x).toArray _ _ fL Tryz.underlying123 rfl rfl ?_)
  | (go_at_call 119;refine fD.mono ?_;rintro e w1 ⟨⟨b,rfl⟩,fH⟩;have fT:Blk (w1.alloc (.cells AA 187)) w1.heap.size 187 (bvs zBD):=zBf rfl)
  | (refine AE rfl 187 (.tmp 5) (.tmp 13) rfl w1.heap.size (bvs s).toArray rfl (by rfl) 187 _ fT (zAD fF) (by rw [Af,Af,zAc,zAc,zAs,fF]) (zBa s) ?_))
 obtain⟨fU,fO⟩:=sec_box (w:=w1) fF;have fB:=hid (fA.o.trans (fH.mono fA.o.size) |>.trans (fO.mono (AO fA.o.size fH.size)));have fZ:=hid ((fN.o.fresh fH).fresh fO);clear fL fH fT fO fD;generalize (w1.alloc (.cells AA 187)).setRow w1.heap.size (bvs s).toArray=w2 at *;generalize w1.heap.size=z at *;have fC:=fX.o w2;have fV:zGH o=.agg #[.int .i64 (zB3 o),.string (zCk o)]:=rfl;rw [fV] at fC;clear fV
 go_upto_region 3 with (first
  | (refine AD rfl 187 (.tmp 5) rfl z rfl 187 (bvs s).toArray _ _ fU AC rfl (zAD fF) ?_)
  | (go_at_call 118;refine fC.mono ?_;rintro e w3 ⟨rfl,fI⟩))
 have fP:Below w3.heap.size w3 (w3.alloc (.cells #[.int .i64 (zB3 o),.string (zCk o)] 179)):=br.alloc nr _;have gA:Blk (w3.alloc (.cells #[.int .i64 (zB3 o),.string (zCk o)] 179)) w3.heap.size 179 [.int .i64 (zB3 o),.string (zCk o)]:=AU w3 _ _;have fW:=(fZ.o.fresh fI).fresh fP;have fE:=hid (fB.o.trans (fI.mono fB.o.size) |>.trans (fP.mono (AO fB.o.size fI.size)));change AX _ _ _ _ (w3.alloc (.cells #[.int .i64 (zB3 o),.string (zCk o)] 179));clear fU fC fI fP;generalize w3.alloc (.cells #[.int .i64 (zB3 o),.string (zCk o)] 179)=w4 at *;generalize w3.heap.size=z2 at *;have fQ:=AH w4 (g+1) _ ([.int .i64 (zB3 o),.string (zCk o)]:List Value).toArray _ _ fW
 go_wp2_with (first
  | (refine AD rfl 179 (.tmp 7) rfl z2 rfl 179 _ _ _ gA Tryz.underlying179 rfl rfl ?_)
  | (refine AE rfl 179 (.tmp 4) (.tmp 20) rfl (g+1) ([.int .i64 (zB3 o),.string (zCk o)]:List Value).toArray rfl (by rfl) 179 _ fW rfl rfl (one2s _ _) ?_))
 refine AF (AG rfl _ _ (g+1) 179 ([.int .i64 (zB3 o),.string (zCk o)]:List Value).toArray (0,0) _ rfl fQ Tryz.underlying179 rfl rfl) rfl ⟨rfl,?_⟩;have hg:=fY.o;exact fE.o.trans (((AI (fun b=>b=g+1) w4).setRow (g:=g+1) (fun _=>rfl) _).below fE.o.size fun b hb e=>by omega)
structure RefAt (w:World) (t:Tr) (T:PT):Prop where
 tr:TrAt w w.heap.size t
 rep:RepT t T
theorem RefAt.fresh {w w':World} {t:Tr} {T:PT} (h:RefAt w t T) (hb:Below w.heap.size w w'):RefAt w' t T:=⟨(h.tr.below hb).more hb.size,h.rep⟩
theorem RefAt.len {w:World} {t:Tr} {T:PT} (h:RefAt w t T) (ho:T.Ok):t.l.length≤512:=by rw [h.rep.all.len];exact ho.len
theorem zES {w:World} {t:Tr} {T:PT} (h:RefAt w t T) (ho:T.Ok) {i:Nat} {n:PN} (hg:zAe i T.nodes=some n) :
 ∃ x∈t.l,RepN x i n∧HdAt w w.heap.size x∧∀ W,Below w.heap.size w W→Calls Aw 81 #[trV t,.int .i64 (i:Int)] W fun e w'=>e=.returned (hdV x)∧Below W.heap.size W w':=by
 obtain⟨x,hx,hr⟩:=h.rep.all.get hg;refine⟨x,hx,hr,h.tr.hds x hx,fun W hW=>?_⟩;have h1:=h.fresh hW;have:=inode_any W.heap.size t x W h1.tr nr (by have:=h.len ho;omega) h.rep.cap hx (h.rep.all.uniq ho.ris hx);rw [hr.ino] at this;exact this
theorem zBt (w:World) (x:Hd):Blk ((w.alloc (.cells z8.toArray 123)).setRow w.heap.size (zAb x).toArray) w.heap.size 123 (zAb x) ∧
 Below w.heap.size w ((w.alloc (.cells z8.toArray 123)).setRow w.heap.size (zAb x).toArray):=by
 refine⟨AH _ w.heap.size _ _ _ _ (AU w 123 z8),?_⟩;exact (((AI (fun b=>w.heap.size≤b) w).alloc _).setRow (fun _=>AM _) _).below nr fun b hb h=>by omega
theorem zHe {x:Hd} {i:Nat} {n:PN} (h:RepN x i n):x.kind=2∧n.dir=true∨x.kind=1∧n.dir=false:=by
 have:=h.kind;unfold AW at this
 cases hd:n.dir with
 | true=>rw [hd] at this;exact .inl ⟨this,rfl⟩
 | false=>rw [hd] at this;exact .inr ⟨this,rfl⟩
theorem FindP.uni {n:PN} {nm:ByteArray} {w w':World} {e:Ending} (h:FindP n nm w e w'):∃ kk ii:Int,e=.returned (.tuple #[.int .i64 kk,.int .i64 ii]) ∧
 Hid ((∃ i k:Nat,zAe nm n.names=some i∧zAh nm n.slots=some k∧kk=(k:Int)∧ii=(i:Int))∨(zAe nm n.names=none∧kk=-1∧ii=0))∧Below w.heap.size w w':=by
 rcases h.1 with ⟨i,k,h1,h2,rfl⟩ | ⟨h1,rfl⟩
 · exact⟨_,_,rfl,hid (.inl ⟨i,k,h1,h2,rfl,rfl⟩),h.2⟩
 · exact⟨_,_,rfl,hid (.inr ⟨h1,rfl,rfl⟩),h.2⟩
theorem zE0 (t:Tr) (T:PT) (A:Option Addr) (c:Nat) (l:List ByteArray) (w:World) (h:RefAt w t T) (hT:T.Wf) (hl:NmAt w w.heap.size A c l) (gB:∀ x∈l,x≠emp) :
 Calls Aw 80 #[trV t,.slice A l.length c] w fun e w'=>e=.returned (.tuple #[.int .i64 ((T.walk l 1).1:Int),.int .i64 ((T.walk l 1).2:Int)])∧Below w.heap.size w w':=by
 obtain⟨len,fG⟩:∃ len,len=l.length:=⟨_,rfl⟩;have fH:=hid fG;have gO:=hl.len;obtain⟨r,hr⟩:=nM (T.walk l 1);rw [←fG] at gO;rw [hr,←fG];have fT:=hid hr;have fQ:=hid hT;have gP:=hid hl;have gQ:=hid gB;have gR:=hid h;have gS:Below w.heap.size w (w.alloc (.cells (zAa t).toArray 28)):=br.alloc nr _;have gC:=AU w 28 (zAa t);clear fG hr hT hl gB h;unfold trV;go_enter Tryz.func80,Tryz.ntmps80;go_upto_region 1 with (fail);change AX _ _ _ _ (w.alloc (.cells (zAa t).toArray 28));generalize w.alloc (.cells (zAa t).toArray 28)=w0 at *;obtain⟨g,fR⟩:=nM (w.heap.size);rw [fR] at gC;simp only [fR];have jA:=hid fR;clear fR;go_wp2
 go_loopw [6,7] (fun ci ck wr=>∃ (k i:Nat),k≤len∧ck=.int .i64 (k:Int)∧ci=.int .i64 (i:Int)∧Hid (T.walk (l.drop k) i=r)∧Hid (∃ n,zAe i T.nodes=some n)∧Hid (Below w.heap.size w wr)∧Hid (Blk wr g 28 (zAa t))) (fun _ ck _=>len-(intOf ck).toNat)
 case atStart=>exact⟨0,1,AK _,rfl,rfl,fT.o,hid (let ⟨n,h,_⟩:=fQ.o.root;⟨n,h⟩),gS,gC⟩
 case round =>
  obtain⟨k,i,hk,rfl,rfl,fS,gD,fM,fU⟩:=hrel;by_cases gT:k<len
  · have t1:decide ((k:Int)<(len:Int))=true:=by simpa using gT
    have fK:k<l.length:=by have:=fH.o;omega
    obtain⟨n,hn⟩:=gD.o;obtain⟨x,gU,fI,fN,gE⟩:=zES (gR.o.fresh fM.o) fQ.o.ok hn;have hX:=fU.o;obtain⟨b,off,rfl,gF,gG⟩:=gP.o.sees.at_ (by omega);have cn:w.cell? ⟨b,off+k,none⟩=some (.string l[k]):=gG k _ (by simp [strs,fK]);have gV:=gQ.o _ (Ad fK);have gH:Hid (l.drop k=l[k]::l.drop (k+1)):=hid (List.drop_eq_getElem_cons fK);have fO:=(fQ.o.ok.get hn).1;have fL:=gE wr br;have fV:=hid (And.intro fI fN);have fW:=hid hn;generalize l[k]=nm at *;unfold trV hdV at fL;clear gG gU gE fI fN hn
    go_upto_region 6 with (first
     | (refine ldT hX rfl rfl rfl ?_)
     | (go_at_call 81;refine fL.mono ?_;rintro e w1 ⟨rfl,fX⟩;have gI:=AU w1 123 z8)
     | (refine AE rfl 123 (.tmp 8) (.tmp 19) rfl w1.heap.size (zAb x).toArray rfl (by rfl) 123 _ gI rfl rfl (zHb x) ?_))
    obtain⟨fF,gJ⟩:=zBt w1 x;have fD:=fX.trans (gJ.mono fX.size);have fP:=hid (fM.o.trans (fD.mono fM.o.size));have gW:=hid (fU.o.fresh fD);have fI:=fV.o.1;have fN:=hid ((fV.o.2.below fD).more fD.size);change AX _ _ _ _ ((w1.alloc (.cells z8.toArray 123)).setRow w1.heap.size (zAb x).toArray);clear gJ fL hX fM fU fD gI fV gD fX;generalize (w1.alloc (.cells z8.toArray 123)).setRow w1.heap.size (zAb x).toArray=w2 at *;generalize w1.heap.size=z at *;have x1:=fF.cell 1;simp only [zAb,Aj,Ai] at x1;have cn2:=(fP.o.cell (p:=⟨b,off+k,none⟩) gF).trans cn;have fC:Hid (T.walk (nm::l.drop (k+1)) i=r):=hid (by rw [←gH.o];exact fS.o);clear fS gH cn;rcases zHe fI with ⟨hk2,hd⟩ | ⟨hk2,hd⟩
    · rw [hk2] at x1;have fY:=hid fun (W:World) (hW:Below w2.heap.size w2 W)=>(zIR W.heap.size x (zAu n) nm W ((fN.o.below hW).more hW.size) (fI.dir fO hd) nr (by rw [fI.rng fO hd,Av];have:=fO.slots;omega)).mono fun _ _ h=>zJJ fI fO hd gV h;have y0:=fF.cell 0;have y2:=fF.cell 2;have y3:=fF.cell 3;have y4:=fF.cell 4;have y5:=fF.cell 5;have y6:=fF.cell 6;have y7:=fF.cell 7;simp only [zAb,Aj,Ai] at y0 y2 y3 y4 y5 y6 y7
      have gK:hdV x=.agg #[.int .i64 x.ino,.int .i64 2,.int .i64 x.links,.int .i64 x.size,.int .i64 x.made,.int .i64 x.birth,.slice x.iA x.idx.length x.ic,.slice x.dA x.dat.length x.dc]:=by unfold hdV zAb;rw [hk2]
      rw [gK] at fY
      have fB:Hid ((match zAe nm n.names with | none=>(0,110) | some j=>T.walk (l.drop (k+1)) j)=r):=hid (by
       have:=fC.o;rw [PT.walk,fW.o] at this;simp only at this;rw [if_neg (by rw [hd];simp)] at this;exact this)
      have fJ:=fF.lt;have gX:b<w2.heap.size:=AL gF fP.o.size;clear fI fF fN gK fC fO;go_upto_region 8 with (fail)
      go_region_held3 (fun w'=>w'.cell? ⟨z,0,none⟩=some (.int .i64 x.ino)∧w'.cell? ⟨z,1,none⟩=some (.int .i64 2)∧w'.cell? ⟨z,2,none⟩=some (.int .i64 x.links)∧w'.cell? ⟨z,3,none⟩=some (.int .i64 x.size)∧w'.cell? ⟨z,4,none⟩=some (.int .i64 x.made)∧w'.cell? ⟨z,5,none⟩=some (.int .i64 x.birth)∧w'.cell? ⟨z,6,none⟩=some (.slice x.iA x.idx.length x.ic)∧w'.cell? ⟨z,7,none⟩=some (.slice x.dA x.dat.length x.dc)∧w'.cell? ⟨b,off+k,none⟩=some (.string nm))
       (first | go_keep)
       (first | (go_at_call 110;refine (fY.o _ (zAd (AP _ w2) 1)).mono ?_;intro e w3 gL;obtain⟨kk,ii,rfl,fZ,gM⟩:=gL.uni;clear gL;have fA:Below w2.heap.size w2 w3:=(zAd (AP _ w2) 1).trans gM;have q0:=(fA.cell (p:=⟨z,0,none⟩) fJ).trans y0;have q1:=(fA.cell (p:=⟨z,1,none⟩) fJ).trans x1;have q2:=(fA.cell (p:=⟨z,2,none⟩) fJ).trans y2;have q3:=(fA.cell (p:=⟨z,3,none⟩) fJ).trans y3;have q4:=(fA.cell (p:=⟨z,4,none⟩) fJ).trans y4;have q5:=(fA.cell (p:=⟨z,5,none⟩) fJ).trans y5;have q6:=(fA.cell (p:=⟨z,6,none⟩) fJ).trans y6;have q7:=(fA.cell (p:=⟨z,7,none⟩) fJ).trans y7;have q8:=(fA.cell (p:=⟨b,off+k,none⟩) gX).trans cn2))
      clear q0 q1 q2 q3 q4 q5 q6 q7 q8 y0 x1 y2 y3 y4 y5 y6 y7;have gY:=hid (gW.o.fresh fA);have gN:=hid (fP.o.trans (fA.mono fP.o.size));clear gM fA fY;rcases fZ.o with ⟨j,kj,h1,h2,rfl,rfl⟩ | ⟨h1,rfl,rfl⟩
      · have gZ:=hid (fQ.o.ents i n nm j fW.o h1);have gA:Hid (T.walk (l.drop (k+1)) j=r):=hid (by have:=fB.o;rw [h1] at this;exact this);clear h1 h2 fZ fB;go_wp2;go_roundw
        case rel=>exact⟨k+1,j,by omega,by go_num,rfl,gA,gZ,gN,gY⟩
        case measure=>simp [intOf];omega
      · have fE:Hid (r=(0,110)):=hid (by have:=fB.o;rw [h1] at this;exact this.symm);clear h1 fZ fB;go_wp2
        go_ret2
        exact⟨by rw [fE.o];rfl,gN.o⟩
    · rw [hk2] at x1
      have fE:Hid (r=(0,113)):=hid (by
       have:=fC.o;rw [PT.walk,fW.o] at this;simp only at this;rw [if_pos hd] at this;exact this.symm)
      clear fC fT;go_wp2
      go_ret2
      exact⟨by rw [fE.o];rfl,fP.o⟩
  · obtain rfl:k=len:=by omega
    have t1:decide ((k:Int)<(k:Int))=false:=by simp
    have fE:Hid (r=(i,0)):=hid (by
     have:=fS.o;rw [List.drop_eq_nil_of_le (by have:=fH.o;omega)] at this;exact this.symm)
    clear fS fT;go_wp2
    go_ret2
    exact⟨by rw [fE.o];rfl,fM.o⟩
theorem slice_hs (W:World) (b off n c m:Nat) (h1:m≤c) (h2:0<c):(AR 108 (.slice (some ⟨b,off,none⟩) n c) none (some (.int .i64 (m:Int))) none).run Aw W=.ok (.slice (some ⟨b,off,none⟩) m c) W:=by
 have hu:Tryz.prog.underlying 108=some (.slice (Tryz.prog.elem 108)):=by kernel_rfl
 have hs:(sizeOf (Tryz.prog.elem 108)).run Aw W=.ok 1 W:=by kernel_rfl
 rw [run_sliceAt_slice W 108 _ _ _ _ hu,run_slice_h W 108 (some ⟨b,off,none⟩) n c hu .i64 m (by omega) (by omega),hs]
 have fA:¬c=0:=by omega
 simp [Result.andThen,sliced,fA,Addr.add_lit]
def zJ9 (T:PT) (l:List ByteArray):Value:=if (T.last l).2=0 then .tuple #[.int .i64 ((T.last l).1:Int),.string (zAM l),.int .i64 0] else .tuple #[.int .i64 0,.string ⟨#[]⟩,.int .i64 ((T.last l).2:Int)]
theorem zCT (t:Tr) (T:PT) (A:Option Addr) (c:Nat) (l:List ByteArray) (w:World) (h:RefAt w t T) (hT:T.Wf) (hl:NmAt w w.heap.size A c l) (fX:∀ x∈l,x≠emp) :
 Calls Aw 109 #[trV t,.slice A l.length c] w fun e w'=>e=.returned (zJ9 T l)∧Below w.heap.size w w':=by
 have fL:Below w.heap.size w (w.alloc (.cells (zAa t).toArray 28)):=br.alloc nr _;have fI:=AU w 28 (zAa t);obtain⟨V,hV⟩:=nM (zJ9 T l);rw [hV];have fR:=hid hV;clear hV;unfold trV;go_enter Tryz.func109,Tryz.ntmps109;by_cases fG:l=[]
 · have fC:Hid (V=.tuple #[.int .i64 0,.string ⟨#[]⟩,.int .i64 143]):=hid (by rw [←fR.o,fG];rfl);subst fG;simp only [List.length_nil];clear fR fI;go_wp2
   go_ret3
   exact⟨by rw [fC.o];rfl,fL⟩
 · have fM:0<l.length:=List.length_pos_iff.2 fG;obtain⟨b,off,hA,gD,fK⟩:=hl.sees.at_ fM
   have fH:l.length-1<l.length:=by omega
   have cl:=fK (l.length-1) _ (zCM l _ fH)
   have fY:l[l.length-1]=zAM l:=by
    unfold zAM;rw [List.getLastD_eq_getLast?,List.getLast?_eq_getElem?,Ah fH];rfl
   rw [fY] at cl;have fS:l.dropLast.length=l.length-1:=List.length_dropLast;have fZ:=hl.cap
   have fN:NmAt w w.heap.size A c l.dropLast:=by
    have h9:=hl.sees.take (k:=l.length-1) (by omega)
    have e:(strs l).take ((l.length-1) * 1)=strs l.dropLast:=by rw [Nat.mul_one,List.dropLast_eq_take];simp [strs,List.map_take]
    rw [e] at h9;exact⟨by rw [fS];exact h9,by rw [fS];have:=hl.len;omega,by omega,fun x hx=>hl.small x (List.dropLast_subset l hx)⟩
   have fA:=hid fun (W:World) (hW:Below w.heap.size w W)=>zE0 t T A c l.dropLast W (h.fresh hW) hT ⟨(fN.sees.below hW).more hW.size,fN.len,fN.cap,fN.small⟩ (fun x hx=>fX x (List.dropLast_subset l hx));subst hA
   have fO:T.last l=(if (T.walk l.dropLast 1).2=0∧T.isDir (T.walk l.dropLast 1).1=false then ((T.walk l.dropLast 1).1,113) else T.walk l.dropLast 1):=by unfold PT.last;rw [if_neg fG]
   have fP:=zBT hT l.dropLast 1 (let ⟨n,h,_⟩:=hT.root;⟨n,h⟩);have fT:V=if (T.last l).2=0 then .tuple #[.int .i64 ((T.last l).1:Int),.string (zAM l),.int .i64 0] else .tuple #[.int .i64 0,.string ⟨#[]⟩,.int .i64 ((T.last l).2:Int)]:=fR.o.symm;rw [fO] at fT;generalize T.walk l.dropLast 1=r at *;obtain⟨i,e⟩:=r;simp only at fT fP;unfold trV at fA;rw [fS] at fA;have fE:=hid fT;have gE:=hid h;have gF:=hid hT;have gG:l.length≤c:=fZ;have gH:=hl.len;clear fO fT fN fS fY fK hl fX h hT fZ fR;generalize zAM l=nm at *;obtain⟨m,hm⟩:∃ m,l.length=m+1:=⟨l.length-1,by omega⟩;rw [hm] at fM fH cl fA gG gH ⊢;simp only [Nat.add_sub_cancel] at cl fA;clear hm fG
   have gN:(((m+1:Nat):Int)==0)=false:=by simp;omega
   have gI:=fun (W:World)=>slice_hs W b off (m+1) c m (by omega) (by omega);go_upto_region 3 with (fail);change AX _ _ _ _ (w.alloc (.cells (zAa t).toArray 28));generalize w.alloc (.cells (zAa t).toArray 28)=w0 at *;obtain⟨g,fU⟩:=nM (w.heap.size);rw [fU] at fI;simp only [fU];have gO:=hid fU;clear fU;have y0:=fI.cell 0;have y1:=fI.cell 1;have y2:=fI.cell 2;have y3:=fI.cell 3;simp only [Aj,Ai] at y0 y1 y2 y3;have fV:=fI.lt
   have v1:IntKind.i64.wrap (((m+1:Nat):Int)-1)=(m:Int):=by rw [zAF _ (by omega)];omega
   have v2:IntKind.i64.wrap ((m:Int)+1-1)=(m:Int):=by rw [zAF _ (by omega)];omega
   have v3:IntKind.i64.wrap (m:Int)=(m:Int):=zAF _ (by omega)
   go_region_held3 (fun w'=>w'.cell? ⟨g,0,none⟩=some (.int .i64 t.sectors)∧w'.cell? ⟨g,1,none⟩=some (.int .i64 t.inodes)∧w'.cell? ⟨g,2,none⟩=some (.int .i64 t.births)∧w'.cell? ⟨g,3,none⟩=some (.slice t.A t.l.length t.c))
    (first | go_keep)
    (first | (go_at_call 80;refine (fA.o _ (zAd fL 1)).mono ?_;rintro e w3 ⟨rfl,gA⟩;have fD:Below w0.heap.size w0 w3:=(zAd (AP _ w0) 1).trans gA;have q0:=(fD.cell (p:=⟨g,0,none⟩) fV).trans y0;have q1:=(fD.cell (p:=⟨g,1,none⟩) fV).trans y1;have q2:=(fD.cell (p:=⟨g,2,none⟩) fV).trans y2;have q3:=(fD.cell (p:=⟨g,3,none⟩) fV).trans y3))
   have fB:=hid (fL.trans (fD.mono fL.size));have fW:=fI.fresh fD;clear q0 q1 q2 q3 y0 y1 y2 y3 v1 v2 v3 gA fD fA fL fI gI;by_cases he:e=0
   · obtain⟨n,hn⟩:=fP he;subst he;obtain⟨x,gJ,gB,gK,gC⟩:=zES (gE.o.fresh fB.o) gF.o.ok hn;have fF:=gC w3 br
     have fJ:T.isDir i=n.dir:=by unfold PT.isDir;rw [hn]
     have fld:∀ (a b c d e f:Int) (A1:Option Addr) (n1 c1:Nat) (A2:Option Addr) (n2 c2:Nat) (W:World),(Instr.field 123 (.agg #[.int .i64 a,.int .i64 b,.int .i64 c,.int .i64 d,.int .i64 e,.int .i64 f,.slice A1 n1 c1,.slice A2 n2 c2]) 1).run Aw W=.ok (.int .i64 b) W:=fun _ _ _ _ _ _ _ _ _ _ _ _ _=>by kernel_rfl
     have hk:=zHe gB;have gL:((((0:Nat):Int)) != 0)=false:=rfl;unfold trV hdV zAb at fF;clear gJ gB gK gC hn;rcases hk with ⟨hk,hd⟩ | ⟨hk,hd⟩
     · have fC:Hid (V=.tuple #[.int .i64 (i:Int),.string nm,.int .i64 0]):=hid (by
        have:=fE.o;rw [fJ,hd] at this;simpa using this)
       rw [hk] at fF;clear fE fP fJ hk hd
       go_upto_region 8 with (first
        | (refine ldT fW rfl rfl rfl ?_)
        | (go_at_call 81;refine fF.mono ?_;rintro e w4 ⟨rfl,fQ⟩))
       have cl4:=((fB.o.trans (fQ.mono fB.o.size)).cell (p:=⟨b,off+m,none⟩) gD).trans cl;have gM:=hid (fB.o.trans (fQ.mono fB.o.size));clear fQ fW cl fld fF
       go_quiet (fail)
       go_wp2
       go_ret3
       exact⟨by rw [fC.o];rfl,zAd gM.o _⟩
     · have fC:Hid (V=.tuple #[.int .i64 0,.string ⟨#[]⟩,.int .i64 113]):=hid (by
        have:=fE.o;rw [fJ,hd] at this;simpa using this)
       rw [hk] at fF;clear fE fP fJ hk hd
       go_wp2_with (first
        | (refine ldT fW rfl rfl rfl ?_)
        | (go_at_call 81;refine fF.mono ?_;rintro e w4 ⟨rfl,fQ⟩))
       go_ret3
       exact⟨by rw [fC.o];rfl,fB.o.trans (fQ.mono fB.o.size)⟩
   · have gL:((e:Int) != 0)=true:=by simp;omega
     have fC:Hid (V=.tuple #[.int .i64 0,.string ⟨#[]⟩,.int .i64 (e:Int)]):=hid (by
      have:=fE.o;rw [if_neg (fun h:e=0∧_=>he h.1),if_neg he] at this;exact this)
     clear fE fP he;go_wp2
     go_ret3
     exact⟨by rw [fC.o];rfl,fB.o⟩
def zGI (S:Nat→Prop) (n:Nat) (A:Option Addr):Prop:=0<n→∀ a,A=some a→¬S a.block
theorem zGI.newer {S:Nat→Prop} {n m:Nat} {A:Option Addr} (h:zGz m A) (hS:∀ b,S b→b<m):zGI S n A:=fun _ a e hs=>by
 have:=h a e;have:=hS _ hs;omega
structure HdR (S:Nat→Prop) (w:World) (y:Hd) (i:Nat) (n:PN):Prop where
 at_:HdAt w w.heap.size y
 rep:RepN y i n
 oi:zGI S y.idx.length y.iA
 od:zGI S y.dat.length y.dA
structure RefS (S:Nat→Prop) (w:World) (t:Tr) (T:PT):Prop where
 ref:RefAt w t T
 oA:zGI S t.l.length t.A
 os:∀ y∈t.l,zGI S y.idx.length y.iA∧zGI S y.dat.length y.dA
section
variable {S S':Nat→Prop} {w w':World} {y:Hd} {i:Nat} {n:PN} {t:Tr} {T:PT}
theorem zGj {B:Nat} (h:HdAt w B y) (hc:Chg S w w') (hi:zGI S y.idx.length y.iA) (hd:zGI S y.dat.length y.dA):HdAt w' B y :=
 ⟨h.len,h.sec,h.idx.chgR (by decide) hc fun b off e hn=>hi hn _ e,h.dat.chgR (by decide) hc fun b off e hn=>hd hn _ e⟩
theorem HdR.fresh (h:HdR S w y i n) (hb:Below w.heap.size w w'):HdR S w' y i n:=⟨(h.at_.below hb).more hb.size,h.rep,h.oi,h.od⟩
theorem HdR.chg (h:HdR S w y i n) (hc:Chg S w w'):HdR S w' y i n:=⟨(zGj h.at_ hc h.oi h.od).more hc.size,h.rep,h.oi,h.od⟩
theorem zGI.mono {m:Nat} {A:Option Addr} (h:zGI S m A) (hS:∀ b,S' b→S b):zGI S' m A:=fun hn a e hs=>h hn a e (hS _ hs)
theorem HdR.mono (h:HdR S w y i n) (hS:∀ b,S' b→S b):HdR S' w y i n:=⟨h.at_,h.rep,h.oi.mono hS,h.od.mono hS⟩
theorem zDC {B size m:Nat} {A:Option Addr} {xs:List Value} (h:Sees w B size A m xs) (ho:zGI S m A):zGI (fun b=>S b∨B≤b) m A:=fun hn a e hs=>by
 obtain⟨b,off,e',hb,_⟩:=h.at_ hn;rw [e] at e';injection e' with e';subst e';rcases hs with hs | hs
 · exact ho hn _ e hs
 · exact absurd hb (Nat.not_lt.2 hs)
theorem HdR.own (h:HdR S w y i n):HdR (fun b=>S b∨w.heap.size≤b) w y i n:=⟨h.at_,h.rep,zDC h.at_.idx h.oi,zDC h.at_.dat h.od⟩
theorem RefS.fresh (h:RefS S w t T) (hb:Below w.heap.size w w'):RefS S w' t T:=⟨h.ref.fresh hb,h.oA,h.os⟩
theorem RefS.chg (h:RefS S w t T) (hc:Chg S w w'):RefS S w' t T :=
 ⟨⟨⟨(h.ref.tr.row.chgR (by decide) hc fun b off e hn=>h.oA hn _ e).more hc.size,fun y hy=>(zGj (h.ref.tr.hds y hy) hc (h.os y hy).1 (h.os y hy).2).more hc.size⟩,h.ref.rep⟩,h.oA,h.os⟩
theorem RefS.mono (h:RefS S w t T) (hS:∀ b,S' b→S b):RefS S' w t T:=⟨h.ref,h.oA.mono hS,fun y hy=>⟨(h.os y hy).1.mono hS,(h.os y hy).2.mono hS⟩⟩
theorem RefS.own (h:RefS S w t T):RefS (fun b=>S b∨w.heap.size≤b) w t T :=
 ⟨h.ref,zDC h.ref.tr.row h.oA,fun y hy=>⟨zDC (h.ref.tr.hds y hy).idx (h.os y hy).1,zDC (h.ref.tr.hds y hy).dat (h.os y hy).2⟩⟩
end
def zAJ (S:Nat→Prop) (g k:Nat):Nat→Prop:=fun b=>S b∨(g≤b∧b<g+k)
section
variable {S:Nat→Prop} {w w1:World} {y:Hd} {i g k:Nat} {n:PN} {t:Tr} {T:PT}
theorem HdR.addR (h:HdR S w y i n) (k:Nat) (hg:w.heap.size≤g):HdR (zAJ S g k) w y i n:=h.own.mono fun b hb=>by
 rcases hb with hb | hb
 · exact .inl hb
 · exact .inr (by omega)
theorem RefS.addR (h:RefS S w t T) (k:Nat) (hg:w.heap.size≤g):RefS (zAJ S g k) w t T:=h.own.mono fun b hb=>by
 rcases hb with hb | hb
 · exact .inl hb
 · exact .inr (by omega)
theorem zA8 {B:Nat} (hS:∀ b,S b→b<B) (hg:g+k≤B):∀ b,zAJ S g k b→b<B:=fun b hb=>by
 rcases hb with hb | hb
 · exact hS b hb
 · omega
theorem zCg (h:Blk w g 28 z4) (t:Tr):Blk ((((w.setCell ⟨g,0,none⟩ (.int .i64 t.sectors)).setCell ⟨g,1,none⟩ (.int .i64 t.inodes)).setCell ⟨g,2,none⟩ (.int .i64 t.births)).setCell ⟨g,3,none⟩ (.slice t.A t.l.length t.c)) g 28 (zAa t) ∧
 Chg (fun b=>b=g) w ((((w.setCell ⟨g,0,none⟩ (.int .i64 t.sectors)).setCell ⟨g,1,none⟩ (.int .i64 t.inodes)).setCell ⟨g,2,none⟩ (.int .i64 t.births)).setCell ⟨g,3,none⟩ (.slice t.A t.l.length t.c)) :=
 ⟨(((h.set_ 0 (.int .i64 t.sectors)).set_ 1 (.int .i64 t.inodes)).set_ 2 (.int .i64 t.births)).set_ 3 (.slice t.A t.l.length t.c),
  ((((AI (fun b=>b=g) w).setCell (p:=⟨g,0,none⟩) (fun _=>rfl) _).setCell (p:=⟨g,1,none⟩) (fun _=>rfl) _).setCell (p:=⟨g,2,none⟩) (fun _=>rfl) _).setCell (p:=⟨g,3,none⟩) (fun _=>rfl) _⟩
end
section
variable {S S1:Nat→Prop} {w w6 W:World} {B ub:Nat} {t:Tr} {T:PT}
theorem zGh {cs:List Value} (fA:Blk W ub 28 cs∧Chg (fun b=>b=ub) w6 W) (ht:RefS (zAJ S1 ub 1) w6 t T) (hb:Below B w w6) (hB:B≤ub) (hz:w.heap.size=B):RefS S1 W t T∧Below B w W :=
 ⟨(ht.chg (fA.2.mono (U:=zAJ S1 ub 1) fun b _ h=>.inr (by omega))).mono fun _ h=>.inl h,hb.trans (fA.2.below (by have:=hb.size;omega) fun b hb h=>by omega)⟩
theorem ret_chg {r:Nat} (h:RefS S1 w6 t T) (hc:Chg (fun b=>b=r) w6 W) (hr:S1 r) (hS:∀ b,S b→S1 b) (hb:Below B w w6) (hB:B≤r) (hz:w.heap.size=B):RefS S W t T∧Below B w W :=
 ⟨(h.chg (hc.mono (U:=S1) fun b _ e=>e▸hr)).mono hS,hb.trans (hc.below (by have:=hb.size;omega) fun b hb h=>by omega)⟩
theorem zDe {r:Nat} (cs:Array Value) (h:RefS S1 W t T) (hr:S1 r) (hS:∀ b,S b→S1 b) (hb:Below B w W) (hB:B≤r) (hz:w.heap.size=B):RefS S (W.setRow r cs) t T∧Below B w (W.setRow r cs) :=
 ret_chg h ((AI (fun b=>b=r) W).setRow (fun _=>rfl) _) hr hS hb hB hz
end
def GivesH (S:Nat→Prop) (i:Nat) (n:PN) (w:World) (e:Ending) (w':World):Prop:=(∃ y,e=.returned (hdV y)∧HdR S w' y i n)∧Below w.heap.size w w'
def zFA (S:Nat→Prop) (T:PT) (w:World) (e:Ending) (w':World):Prop:=(∃ t,e=.returned (trV t)∧RefS S w' t T)∧Below w.heap.size w w'
section
variable {S:Nat→Prop} {w:World} {t:Tr} {T:PT} {x:Hd} {i d:Nat} {n n':PN}
theorem zBy (h:RefS S w t T) (ho:T.Ok) (hg:zAe i T.nodes=some n) :
 ∃ x∈t.l,HdR S w x i n∧∀ W,Below w.heap.size w W→Calls Aw 81 #[trV t,.int .i64 (i:Int)] W fun e w'=>e=.returned (hdV x)∧Below W.heap.size W w':=by
 obtain⟨x,h1,h2,h3,h4⟩:=zES h.ref ho hg;exact⟨x,h1,⟨h3,h2,(h.os x h1).1,(h.os x h1).2⟩,h4⟩
theorem zJj (h:HdR S w x d n) (hS:∀ b,S b→b<w.heap.size) (ho:n.Ok) (hd:n.dir=true) {k:Nat} (hk:k≤n.slots.length) (o:Slt) (fA:zHy o) (fB:n'.dir=true) (fC:n'.data=[]) (hl:n'.links=n.links) (hm:n'.made=n.made)
 (hs:zAu n'=zBm k o (zAu n)) (hz:n'.size=128 * n'.slots.length) (fD:SlOk n') :
 Calls Aw 117 #[hdV x,.int .i64 (k:Int),zGH o] w (GivesH S d n' w):=by
 have fE:k≤1068:=AO hk ho.slots;refine (set_any w.heap.size x k o w h.at_ nr fA (by rw [h.rep.rng ho hd,Av];have:=ho.slots;omega) (by omega)).mono ?_;rintro e w' ⟨⟨iA,ic,dA,dc,rfl,hy,h1,h2⟩,hb⟩;exact⟨⟨_,rfl,hy,set_rep h.rep ho hd hk o iA ic dA dc fB fC hl hm hs hz fD,.newer h1 hS,.newer h2 hS⟩,hb⟩
theorem zJI (h:HdR S w x d n) (hS:∀ b,S b→b<w.heap.size) (ho:n.Ok) (hd:n.dir=true) {k j:Nat} {nm:ByteArray} (hj:zEo j nm) (hk:k≤n.slots.length) (hm:MayAt n k nm) :
 Calls Aw 117 #[hdV x,.int .i64 (k:Int),zGH (some (j,nm))] w (GivesH S d (n.set k nm j) w):=by
 obtain⟨h1,h2⟩:=slots_set h.rep.sl hj hk hm;exact zJj h hS ho hd hk (some (j,nm)) hj hd (ho.dd hd) rfl rfl h1 (h2.size hd) h2
theorem zJT (h:HdR S w x d n) (hS:∀ b,S b→b<w.heap.size) (ho:n.Ok) (hd:n.dir=true) {k:Nat} {nm:ByteArray} (hn:nm≠emp) (hk:zAh nm n.slots=some k) :
 Calls Aw 117 #[hdV x,.int .i64 (k:Int),zGH none] w (GivesH S d (n.clear nm) w):=by
 obtain⟨h0,h1,h2,h3⟩:=zIk h.rep.sl hn hk;exact zJj h hS ho hd (by omega) none trivial hd (ho.dd hd) rfl rfl h1 (h2.size hd) h2
theorem zBr (h:RefS S w t T) (hS:∀ b,S b→b<w.heap.size) (ho:T.Ok) (hx:HdR S w x i n) :
 Calls Aw 113 #[trV t,hdV x] w (zFA S (T.upd i n) w):=by
 refine (with_any w.heap.size t x w h.ref.tr hx.at_ nr (by have:=h.ref.len ho;omega)).mono ?_;rintro e w' ⟨⟨A,c,hc,rfl,hy,hA⟩,hb⟩;refine⟨⟨_,rfl,⟨hy,h.ref.rep.upd ho hx.rep A c hc _⟩,.newer hA hS,fun y hy=>?_⟩,hb⟩;rcases zEK _ _ _ _ _ hy with rfl | hy
 · exact⟨hx.oi,hx.od⟩
 · exact h.os y hy
theorem zHn (h:RefS S w t T) (hS:∀ b,S b→b<w.heap.size) (ho:T.Ok) :
 Calls Aw 135 #[trV t,.int .i64 (i:Int)] w (zFA S (T.del i) w):=by
 refine (zIb w.heap.size t (i:Int) w h.ref.tr nr (by have:=h.ref.len ho;omega)).mono ?_;rintro e w' ⟨⟨A,c,hc,rfl,hy,hA⟩,hb⟩;exact⟨⟨_,rfl,⟨hy,h.ref.rep.del i A c hc _⟩,.newer hA hS,fun y hy=>h.os y (List.mem_filter.1 hy).1⟩,hb⟩
end
theorem zEN {w:World} {t:Tr} {T:PT} (h:RefAt w t T) (ho:T.Ok) :
 Calls Aw 121 #[trV t] w fun e w'=>e=.returned (.bool (decide (T.used+T.inodes+1≤T.sectors)))∧Below w.heap.size w w':=by
 have h1:=ho.sec;have h2:=ho.ino;refine (fits_any w.heap.size t w h.tr nr (h.rep.small ho) (by rw [h.rep.sec];omega) (by rw [h.rep.ino];omega)).mono ?_;rintro e w' ⟨rfl,hb⟩;refine⟨?_,hb⟩
 congr 2
 unfold fitsB;rw [h.rep.used ho,h.rep.sec,h.rep.ino];by_cases e:T.used+T.inodes+1≤T.sectors
 · rw [decide_eq_true e,decide_eq_true (by omega)]
 · rw [decide_eq_false e,decide_eq_false (by omega)]
section
variable {T:PT} {l m:List ByteArray}
theorem make_err {dir:Bool} {made:Nat}:(T.make l dir made).2.code≠0→(T.make l dir made).1=T:=by
 unfold PT.make
 repeat' split
 all_goals first | (intro _;rfl) | (intro h;exact absurd rfl h)
theorem link_err:(T.link l m).2≠0→(T.link l m).1=T:=by
 unfold PT.link
 repeat' split
 all_goals first | (intro _;rfl) | (intro h;exact absurd rfl h)
theorem zJ5:(T.unlink l).2≠0→(T.unlink l).1=T:=by
 unfold PT.unlink
 repeat' split
 all_goals first | (intro _;rfl) | (intro h;exact absurd rfl h)
theorem rmdir_err:(T.rmdir l).2≠0→(T.rmdir l).1=T:=by
 unfold PT.rmdir
 repeat' split
 all_goals first | (intro _;rfl) | (intro h;exact absurd rfl h)
theorem zKA:(T.rename l m).2≠0→(T.rename l m).1=T:=by
 unfold PT.rename
 repeat' split
 all_goals first | (intro _;rfl) | (intro h;exact absurd rfl h)
theorem write_err {i:Nat} {off:Int} {ds:List UInt8}:(T.write i off ds).2≠0→(T.write i off ds).1=T:=by
 unfold PT.write;simp only
 repeat' split
 all_goals first | (intro _;rfl) | (intro h;exact absurd rfl h)
theorem trunc_err {i:Nat} {off:Int}:(T.trunc i off).2≠0→(T.trunc i off).1=T:=by
 unfold PT.trunc
 repeat' split
 all_goals first | (intro _;rfl) | (intro h;exact absurd rfl h)
theorem asks_err {o:Opn} {i:Nat}:(T.asks o i).2.code≠0→(T.asks o i).1=T:=by
 unfold PT.asks
 repeat' split
 all_goals first | (intro _;rfl) | exact write_err | exact trunc_err
theorem zIH {o:Opn}:(T.does o l m).2.code≠0→(T.does o l m).1=T:=by
 unfold PT.does
 repeat' split
 all_goals first | (intro _;rfl) | exact make_err | exact link_err | exact zJ5 | exact rmdir_err | exact zKA | exact asks_err
end
open Go.ChangeShapes Go.WideShapes Go.ChangeAt
theorem own:ownKnob Tryz.prog.godebug=none:=by kernel_rfl
theorem laidOut:laidOutB Aw=true:=by kernel_rfl
theorem maxCell {W:World} (h:W.ShapedOpen Aw):∃ m,W.cell? ⟨0,0,none⟩=some (.int .i64 m) :=
 cell_of_shapedOpen_int (P:=Aw) (g:=0) (t:=3) (zero:=#[.int .i64 0]) h (of_decide_eq_true (by kernel_rfl)) (by kernel_rfl) rfl (by kernel_rfl) (by kernel_rfl) Tryz.underlying3
def rangesL:List Nat:=[128,191,160,191,128,159,144,191,128,143,0,0,0,0,0,0,0,0,0,0,0,0,0,0,0,0,0,0,0,0,0,0]
def u8s (l:List Nat):Array Value:=(l.map fun (n:Nat)=>Value.int .u8 (n:Int)).toArray
def layU8 (l:List Nat):Obj→Obj
 | .cells _ t frozen=>.cells (u8s l) t frozen
 | o=>o
noncomputable def zG0 (os:Go.Os):World:=World.holding Aw os ⟨#[],#[],[]⟩
noncomputable def zFk (os:Go.Os):World :=
 {zG0 os with heap:=((zG0 os).heap.modify 1 (layU8 Go.Pinned.utf8FirstZ)).modify 2 (layU8 rangesL)}
end Go.Proofs.YtolpcfhfcdkokaaGreatDoor
