/-
  Proved: the statement DumpFills's card (for whatever job the law answers true, and the job reads as before). No condition beyond the row's own: the two tables of unicode/utf8 that the row lists hold what the row says.
-/
import Derived.Test.YtolpcfhfcdkokaaGreatDoorCards
import Derived.Test.YtolpcfhfcdkokaaGreatDoorTie
import Derived.ChangeOld
import Derived.Lib.SmallJoins
import Derived.Test.YtolpcfhfcdkokaaGreatDoorR19
set_option maxHeartbeats 16000000
set_option maxRecDepth 100000
set_option linter.unusedSimpArgs false
set_option linter.unusedVariables false
namespace Go.Proofs.YtolpcfhfcdkokaaGreatDoor.dumpFills
open Lib (hid)
open Proofs.Tryz renaming prog → Aa,underlying3 → Ab
open DataW renaming weightsEach → Ac,trod_int → Ad,weights → Ae
open List renaming all_eq_true → Af,append_nil → Ag,mem_append → Ah,map_cons → Ai,map_nil → Aj
open Go.ChangeShapes Go.WideShapes Go.ChangeAt Go.RowKit Go.Lib
set_option linter.unusedVariables false
theorem contract (H:Type) (enc:TypeId×Value→H) (W:World) (base:Nat) (args:Array Value) (ds gs:List (DataW H)) (before:List MemPlace)
 (hval0:∀ (j:Nat) t v,Tryz.f4.params[j]? = some t→args[j]? = some v→Value.okWide Aa W .any base t v)
 (hW:DataW.Whole enc Aa Tryz.f4.params.toList Rows.dumpFillsSpec.vars false W args.toList ds gs before)
 (hsz0:(Ac Aa (Tryz.f4.params.toList++Rows.dumpFillsSpec.plain.varTypes Aa) (ds++gs)).all (·≤reachBytes)=true) (hsh:W.ShapedOpen Aa) :
 Calls Aa 4 args W fun e W'=>∃ v,e=.returned v∧Rows.dumpFillsSpec.post enc Aa Tryz.f4 false true false false W args v W':=by
 have hval:∀ (j:Nat) t v,Tryz.f4.params[j]? = some t→args[j]? = some v→Value.okWide Aa W .any base t v:=hval0;have hW':=hW;obtain⟨p,q,hA0,hV,rfl,hfz,hnd⟩:=hW;have hA:DataW.TrodAll enc Aa W 0 (fun _=>true) true Tryz.f4.params.toList args.toList ds p:=hA0;rw [Tryz.params4] at hA hval;obtain⟨v0,vs0,d0,ds0,p0,q0,hargs,rfl,rfl,h0,r0⟩:=trodAll_cons hA;obtain⟨rfl,rfl,rfl⟩:=trodAll_nil r0
 obtain rfl:args=#[v0]:=by cases args;simp_all
 obtain⟨rfl,rfl⟩:=trodVars_none hV;have k0:=h0
 have lt0:∀ x∈p0,x.block<W.heap.size:=by obtain⟨m,hm⟩:=k0;exact DataW.trod_lt m _ _ _ hm
 obtain⟨c0,c1,c2,c3,y0,y1,y2,y3,n,rfl,rfl,_,t0,t1,t2,t3⟩:=Go.Joins.open_agg4 Tryz.underlying45 (by kernel_rfl) (by kernel_rfl) (hval 0 45 v0 rfl rfl) h0;obtain⟨s,e0,z0,hs⟩:=Ad Ab t0;obtain⟨i,e1,z1,hi⟩:=Ad Ab t1;obtain⟨A,c,l,e2,hN,hwf,hdat⟩:=open_ops t2;obtain⟨A3,l3,c3',e3⟩:=Go.Joins.slice_form Tryz.underlying31 t3;simp only [List.cons.injEq,and_true] at e0 e1 e2 e3;subst e0 e1 e2 e3;obtain⟨ns,rfl,hcap,_,hM,hdc,hdn⟩:=zJN (A:=A3) (n:=l3) (c:=c3') (d:=y3.1) (p:=y3.2) ⟨_,t3⟩;have hw:(Ac Aa [45] [.agg [y0.1,y1.1,y2.1,y3.1]]).all (fun x=>decide (x≤reachBytes))=true:=hsz0
 have hbig:=ops_big hdat (fun x hx=>by
  have:=Af.1 hw x (by
   simp only [Ac,Ae,Tryz.underlying45,Ag,Ah,Ai,Aj];simp only [hx,true_or,or_true])
  exact of_decide_eq_true this)
 have hbig2:=nodes_big hdn (fun x hx=>by
  have:=Af.1 hw x (by
   simp only [Ac,Ae,Tryz.underlying45,Ag,Ah,Ai,Aj];simp only [hx,true_or,or_true])
  exact of_decide_eq_true this)
 obtain⟨m0,hm0⟩:=maxCell hsh;clear hA0 hval0;have r0':=wf_64 hs;have r1':=wf_64 hi;refine (fills_law s i m0 A A3 c c3' l ns W hN hbig.1 hbig.2 hwf hM hbig2.1 hbig2.2 hcap hdc hm0 ⟨r0'.2,r0'.1⟩ ⟨r1'.2,r1'.1⟩).mono fun e W' ⟨he,bel⟩=>?_;subst he;exact⟨_,rfl,_,_,_,[],_,[],hW',trodAll_mk1 (shut_bool Tryz.underlying4 _),(trodAll_cons_mk (Below.trod laidOut (by kernel_rfl) (of_decide_eq_true (by kernel_rfl)) k0 bel lt0) trodAll_mk0),rfl,bel.frame _,fun h=>by cases h⟩
theorem reads (os:Go.Os) {H:Type} (enc:TypeId×Value→H):∃ places,DataW.whole enc Aa ((zFk os).forCall (fun _ _=>0) ⟨#[],#[.agg #[.int .i64 0,.int .i64 0,.slice none 0 0,.slice none 0 0]],[]⟩).memory Tryz.f4.params.toList Rows.dumpFillsSpec.vars false #[Value.agg #[.int .i64 0,.int .i64 0,.slice none 0 0,.slice none 0 0]].toList 8=some ([.agg [.lit (.int .i64 0),.lit (.int .i64 0),.nil,.nil]],[],places) :=
 ⟨[],by kernel_rfl⟩
theorem laid_met (os:Go.Os):laidMet Aa Rows.dumpFillsRow.laid ((zFk os).forCall (fun _ _=>0) ⟨#[],#[.agg #[.int .i64 0,.int .i64 0,.slice none 0 0,.slice none 0 0]],[]⟩).memory :=
 laidMet_of_run' 8 (by kernel_rfl) (by kernel_rfl)
theorem lifted (os:Go.Os) (started:os.Started) (H:Type) (enc:TypeId×Value→H) (F:Stop.Interp) :
 ReturnsInHanded {} Tryz.checked os 4 .any ((OpenSpec.ofChange Rows.dumpFillsSpec).preRow enc Aa Tryz.f4 Rows.dumpFillsRow.domain false Rows.dumpFillsRow.laid) (((OpenSpec.ofChange Rows.dumpFillsSpec).at F).post enc Aa Tryz.f4 false true false false):=by
 obtain⟨places,hx⟩:=reads os enc
 refine returnsInHanded_of_row (C:=Tryz.checked) (s:=OpenSpec.ofChange Rows.dumpFillsSpec) own started (by kernel_rfl) Tryz.func4
  (witness_row_at (enc:=enc) (C:=Tryz.checked) false (zFk os) #[.agg #[.int .i64 0,.int .i64 0,.slice none 0 0,.slice none 0 0]] rfl (by kernel_rfl) (by kernel_rfl) (by kernel_rfl)
   (OpenSpec.preRow_of_cond 8 hx (by kernel_rfl) (fun k hk=>by cases hk) (by kernel_rfl) (laid_met os))) ?_
 intro W base args ds gs before hval hW _ _ hsz _ hsh _;exact contract H enc W base args ds gs before hval hW hsz hsh
theorem said:Rows.DumpFillsSaid :=
 OpenClaim.holds_of_cond 4 Tryz.f4 rfl rfl rfl rfl rfl rfl rfl ⟨rfl,rfl,rfl,rfl,rfl⟩ rfl rfl rfl rfl rfl (by kernel_rfl) Tryz.func4 (by kernel_rfl)
  (of_decide_eq_true (by kernel_rfl)) (by unfold Func.isWrapper;first | (rw [if_pos (by decide +kernel)];kernel_rfl) | (rw [if_neg (by decide +kernel)];exact⟨rfl,rfl⟩))
  (fun os started H enc _ F=>by rw [OpenClaim.pre_eq_preRow];exact lifted os started H enc F)
theorem plain (f:FuncId) (fn:Func) (hf:Tryz.pinned.checked.prog.funcNamed Rows.dumpFillsRow.func = some f) (hfn:Tryz.pinned.checked.prog.funcs[f]? = some fn) :
 true=Tryz.pinned.checked.prog.looks []∧∀ (j:Nat) t,fn.params[j]? = some t→Tryz.pinned.checked.prog.wantsStandIn t=false:=by
 obtain rfl:f=4:=Option.some.inj ((show Tryz.prog.funcNamed Rows.dumpFillsRow.func = some 4 by kernel_rfl).symm.trans hf) |>.symm;obtain rfl:fn=Tryz.f4:=(Option.some.inj (Tryz.func4.symm.trans hfn)).symm;refine⟨by kernel_rfl,fun j t ht=>?_⟩;rw [Tryz.params4] at ht;have h:=Array.mem_of_getElem? ht;simp only [List.mem_toArray,List.mem_cons,List.not_mem_nil,or_false] at h;subst h;exact (show Tryz.prog.wantsStandIn 45=false by kernel_rfl)
theorem card:Rows.DumpFillsCardSaid :=
 Claim7.holds_tied_plain_at .later [] _ _ _ _ said (fun _ h=>by cases h) (by kernel_rfl) (fun _ h=>by cases h) dumpFills_row_tie rfl ⟨rfl,rfl⟩ (by kernel_rfl) rfl plain (by kernel_rfl)
end Go.Proofs.YtolpcfhfcdkokaaGreatDoor.dumpFills
