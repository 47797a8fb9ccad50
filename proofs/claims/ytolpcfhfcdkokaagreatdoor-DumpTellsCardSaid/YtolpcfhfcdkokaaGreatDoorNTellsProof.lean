/-
  Proved: the statement DumpTells's card (for whatever sizes and script the law answers true, and the script reads as before). No condition beyond the row's own: the two tables of unicode/utf8 that the row lists hold what the row says.
-/
import Derived.Test.YtolpcfhfcdkokaaGreatDoorCards
import Derived.Test.YtolpcfhfcdkokaaGreatDoorTie
import Derived.ChangeOld
import Derived.Lib.SmallJoins
import Derived.Test.YtolpcfhfcdkokaaGreatDoorQ53
set_option maxHeartbeats 16000000
set_option maxRecDepth 100000
namespace Go.Proofs.YtolpcfhfcdkokaaGreatDoor.dumpTells
open Lib (hid)
open Go.ChangeShapes Go.WideShapes Go.ChangeAt Go.RowKit Go.Lib
set_option linter.unusedVariables false
theorem contract (H:Type) (enc:TypeId×Value→H) (W:World) (base:Nat) (args:Array Value) (ds gs:List (DataW H)) (before:List MemPlace)
 (hval0:∀ (j:Nat) t v,Tryz.f3.params[j]? = some t→args[j]? = some v→Value.okWide Tryz.prog W .any base t v)
 (hW:DataW.Whole enc Tryz.prog Tryz.f3.params.toList Rows.dumpTellsSpec.vars false W args.toList ds gs before)
 (hsz0:(DataW.weightsEach Tryz.prog (Tryz.f3.params.toList++Rows.dumpTellsSpec.plain.varTypes Tryz.prog) (ds++gs)).all (·≤reachBytes)=true) (hsh:W.ShapedOpen Tryz.prog) :
 Calls Tryz.prog 3 args W fun e W'=>∃ v,e=.returned v∧Rows.dumpTellsSpec.post enc Tryz.prog Tryz.f3 false true false false W args v W':=by
 have hval:∀ (j:Nat) t v,Tryz.f3.params[j]? = some t→args[j]? = some v→Value.okWide Tryz.prog W .any base t v:=hval0;have hW':=hW;obtain⟨p,q,hA0,hV,rfl,hfz,hnd⟩:=hW;have hA:DataW.TrodAll enc Tryz.prog W 0 (fun _=>true) true Tryz.f3.params.toList args.toList ds p:=hA0;rw [Tryz.params3] at hA hval;obtain⟨v0,vs0,d0,ds0,p0,q0,hargs,rfl,rfl,h0,r0⟩:=trodAll_cons hA;obtain⟨v1,vs1,d1,ds1,p1,q1,hvs0,rfl,rfl,h1,r1⟩:=trodAll_cons r0;obtain⟨v2,vs2,d2,ds2,p2,q2,hvs1,rfl,rfl,h2,r2⟩:=trodAll_cons r1;obtain⟨rfl,rfl,rfl⟩:=trodAll_nil r2
 obtain rfl:args=#[v0,v1,v2]:=by cases args;simp_all
 obtain⟨rfl,rfl⟩:=trodVars_none hV;have k0:=h0;have k1:=h1;have k2:=h2
 have lt0:∀ x∈p0,x.block<W.heap.size:=by obtain⟨m,hm⟩:=k0;exact DataW.trod_lt m _ _ _ hm
 have lt1:∀ x∈p1,x.block<W.heap.size:=by obtain⟨m,hm⟩:=k1;exact DataW.trod_lt m _ _ _ hm
 have lt2:∀ x∈p2,x.block<W.heap.size:=by obtain⟨m,hm⟩:=k2;exact DataW.trod_lt m _ _ _ hm
 obtain⟨a1,rfl,rfl,rfl,w1⟩:=open_int Tryz.underlying3 (hval 0 3 v0 rfl rfl) h0;obtain⟨a2,rfl,rfl,rfl,w2⟩:=open_int Tryz.underlying3 (hval 1 3 v1 rfl rfl) h1;obtain⟨A0,len0,cap0,rfl⟩:=okWide_slice Tryz.underlying22 (hval 2 22 v2 rfl rfl);obtain⟨fu,hfu⟩:=h2;obtain⟨A,c,l,e2,hN,hwf,hdat⟩:=open_ops hfu;simp only [Value.cells,List.cons.injEq,and_true] at e2;injection e2 with e3 e4 e5;subst e3 e4 e5;have hw:(DataW.weightsEach Tryz.prog [3,3,22] [.lit (.int .i64 a1),.lit (.int .i64 a2),d2]).all (fun x=>decide (x≤reachBytes))=true:=hsz0
 have hbig:=ops_big hdat (fun x hx=>by
  have:=List.all_eq_true.1 hw x (by
   simp only [DataW.weightsEach,List.append_nil,List.mem_append];simp only [hx,or_true])
  exact of_decide_eq_true this)
 obtain⟨m0,hm0⟩:=maxCell hsh;clear hA0 hval0;have r0':=wf_64 w1;have r1':=wf_64 w2;refine (tells_any a1 a2 m0 A0 cap0 l W hN hbig.1 hbig.2 hwf hm0 ⟨r0'.2,r0'.1⟩ ⟨r1'.2,r1'.1⟩).mono fun e W' ⟨he,bel⟩=>?_;subst he;exact⟨_,rfl,_,_,_,[],_,[],hW',trodAll_mk1 (shut_bool Tryz.underlying4 _),(trodAll_cons_mk (Below.trod zHF (by kernel_rfl) (of_decide_eq_true (by kernel_rfl)) k0 bel lt0) (trodAll_cons_mk (Below.trod zHF (by kernel_rfl) (of_decide_eq_true (by kernel_rfl)) k1 bel lt1) (trodAll_cons_mk (Below.trod zHF (by kernel_rfl) (of_decide_eq_true (by kernel_rfl)) k2 bel lt2) trodAll_mk0))),rfl,bel.frame _,fun h=>by cases h⟩
theorem reads (os:Go.Os) {H:Type} (enc:TypeId×Value→H):∃ places,DataW.whole enc Tryz.prog ((zEC os).forCall (fun _ _=>0) ⟨#[],#[.int .i64 0,.int .i64 0,.slice none 0 0],[]⟩).memory Tryz.f3.params.toList Rows.dumpTellsSpec.vars false #[Value.int .i64 0,.int .i64 0,.slice none 0 0].toList 8=some ([.lit (.int .i64 0),.lit (.int .i64 0),.nil],[],places) :=
 ⟨[],by kernel_rfl⟩
theorem laid_met (os:Go.Os):laidMet Tryz.prog Rows.dumpTellsRow.laid ((zEC os).forCall (fun _ _=>0) ⟨#[],#[.int .i64 0,.int .i64 0,.slice none 0 0],[]⟩).memory :=
 laidMet_of_run' 8 (by kernel_rfl) (by kernel_rfl)
theorem lifted (os:Go.Os) (started:os.Started) (H:Type) (enc:TypeId×Value→H) (F:Stop.Interp) :
 ReturnsInHanded {} Tryz.checked os 3 .any ((OpenSpec.ofChange Rows.dumpTellsSpec).preRow enc Tryz.prog Tryz.f3 Rows.dumpTellsRow.domain false Rows.dumpTellsRow.laid) (((OpenSpec.ofChange Rows.dumpTellsSpec).at F).post enc Tryz.prog Tryz.f3 false true false false):=by
 obtain⟨places,hx⟩:=reads os enc
 refine returnsInHanded_of_row (C:=Tryz.checked) (s:=OpenSpec.ofChange Rows.dumpTellsSpec) own started (by kernel_rfl) Tryz.func3
  (witness_row_at (enc:=enc) (C:=Tryz.checked) false (zEC os) #[.int .i64 0,.int .i64 0,.slice none 0 0] rfl (by kernel_rfl) (by kernel_rfl) (by kernel_rfl)
   (OpenSpec.preRow_of_cond 8 hx (by kernel_rfl) (fun k hk=>by cases hk) (by kernel_rfl) (laid_met os))) ?_
 intro W base args ds gs before hval hW _ _ hsz _ hsh _;exact contract H enc W base args ds gs before hval hW hsz hsh
theorem said:Rows.DumpTellsSaid :=
 OpenClaim.holds_of_cond 3 Tryz.f3 rfl rfl rfl rfl rfl rfl rfl ⟨rfl,rfl,rfl,rfl,rfl⟩ rfl rfl rfl rfl rfl (by kernel_rfl) Tryz.func3 (by kernel_rfl)
  (of_decide_eq_true (by kernel_rfl)) (by unfold Func.isWrapper;first | (rw [if_pos (by decide +kernel)];kernel_rfl) | (rw [if_neg (by decide +kernel)];exact⟨rfl,rfl⟩))
  (fun os started H enc _ F=>by rw [OpenClaim.pre_eq_preRow];exact lifted os started H enc F)
theorem plain (f:FuncId) (fn:Func) (hf:Tryz.pinned.checked.prog.funcNamed Rows.dumpTellsRow.func = some f) (hfn:Tryz.pinned.checked.prog.funcs[f]? = some fn) :
 true=Tryz.pinned.checked.prog.looks []∧∀ (j:Nat) t,fn.params[j]? = some t→Tryz.pinned.checked.prog.wantsStandIn t=false:=by
 obtain rfl:f=3:=Option.some.inj ((show Tryz.prog.funcNamed Rows.dumpTellsRow.func = some 3 by kernel_rfl).symm.trans hf) |>.symm;obtain rfl:fn=Tryz.f3:=(Option.some.inj (Tryz.func3.symm.trans hfn)).symm;refine⟨by kernel_rfl,fun j t ht=>?_⟩;rw [Tryz.params3] at ht;have h:=Array.mem_of_getElem? ht;simp only [List.mem_toArray,List.mem_cons,List.not_mem_nil,or_false] at h;rcases h with rfl | rfl | rfl
 · exact (show Tryz.prog.wantsStandIn 3=false by kernel_rfl)
 · exact (show Tryz.prog.wantsStandIn 3=false by kernel_rfl)
 · exact (show Tryz.prog.wantsStandIn 22=false by kernel_rfl)
theorem card:Rows.DumpTellsCardSaid :=
 Claim7.holds_tied_plain_at .later [] _ _ _ _ said (fun _ h=>by cases h) (by kernel_rfl) (fun _ h=>by cases h) dumpTells_row_tie rfl ⟨rfl,rfl⟩ (by kernel_rfl) rfl plain (by kernel_rfl)
end Go.Proofs.YtolpcfhfcdkokaaGreatDoor.dumpTells
