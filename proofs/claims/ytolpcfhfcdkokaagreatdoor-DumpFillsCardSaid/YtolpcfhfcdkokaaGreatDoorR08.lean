/- Joined out of QPath..TSeg. -/
import Derived.Lib.SplitLaws
import Derived.Laws.RangeAny
import Derived.Test.YtolpcfhfcdkokaaGreatDoorR07
set_option maxHeartbeats 16000000
set_option maxRecDepth 100000
set_option linter.unusedSimpArgs false
set_option linter.unusedVariables false
namespace Go.Proofs.YtolpcfhfcdkokaaGreatDoor
open Lib (hid)
open Lib renaming hasPrefix → Aa,splitB → Ab,countB → Ac,index → Ad
open List renaming all_eq_true → Ae,mem_cons_self → Af,mem_cons_of_mem → Ag,length_cons → Ah,isPrefixOf → Ai,cons_append → Aj,length_nil → Ak,getLast_mem → Al,append_nil → Am,map_cons → An,mem_singleton → Ao,mem_cons → Ap,getElem?_eq_getElem → Aq,getElem_mem → Ar,size_toArray → As,pairwise_cons → At,filter_cons → Au,getElem?_eq_some_iff → Av,getLastD_eq_getLast? → Aw,getLast?_eq_some_getLast → Ax,take_succ_eq_append_getElem → Ay,mem_append → Az
open _root_.Array renaming length_toList → AA,mem_toList_iff → AB,toList_inj → AC
open Nat renaming le_refl → AD,zero_add → AE,zero_le → AF,lt_of_lt_of_le → AG,add_sub_cancel → AH
open Bool renaming and_eq_true → AI,or_false → AJ
open Utf8 renaming decode → AK
open Proofs.Tryz renaming prog → AL,strings_HasPrefix → AM,underlying9 → AN,strings_HasSuffix → AO,zeroCells187 → AP,underlying123 → AQ
open Instr renaming next → AR
open _root_.ByteArray renaming size_extract → AS
open Blk renaming new → AT
open Value renaming string → AU
open Go renaming wpList_load_row → AV,wpList_store_row → AW,setRow_heap → AX,bodyPost_ret → AY,results_cell_row → AZ
def slash:ByteArray:=⟨#[47]⟩
def spB (p:ByteArray):ByteArray:=p.extract 1 p.size
def spl (p:ByteArray):List ByteArray×Nat :=
 if 400<p.size∨Aa p.data.toList [47]=false then ([],70) else if p=slash then ([],0) else if Lib.hasSuffix p.data.toList [47]=true∨Lib.contains p.data.toList [47,47]=true then ([],70) else
 if (Ab slash 0 (Ac (spB p) slash) (spB p)).all chk=true then (Ab slash 0 (Ac (spB p) slash) (spB p),0) else ([],71)
theorem zE7 (p:ByteArray):∀ x∈(spl p).1,chk x=true:=by
 unfold spl
 split
 · intro x hx;cases hx
 split
 · intro x hx;cases hx
 split
 · intro x hx;cases hx
 split
 · rename_i h;exact Ae.1 h
 · intro x hx;cases hx
def zCc:List ByteArray→List UInt8
 | []=>[]
 | n::r=>47::(n.data.toList++zCc r)
def pth (ns:List ByteArray):ByteArray:=if ns=[] then slash else ⟨(zCc ns).toArray⟩
theorem zB9 (a b:List ByteArray):zCc (a++b)=zCc a++zCc b:=by
 induction a with
 | nil=>rfl
 | cons n r ih=>simp [zCc,ih]
theorem chk_47 {x:ByteArray} (h:chk x=true):(47:UInt8) ∉ x.data.toList:=by
 unfold chk at h;intro h1;exact ((of_decide_eq_true h).2.2.2.2 47 h1).2 rfl
theorem chk_pos {x:ByteArray} (h:chk x=true):0<x.data.toList.length:=by
 unfold chk at h;have:=(of_decide_eq_true h).1;rw [AA];exact this
def seg (x:ByteArray):Prop:=0<x.data.toList.length∧(47:UInt8) ∉ x.data.toList
theorem chk_seg {x:ByteArray} (h:chk x=true):seg x:=⟨chk_pos h,chk_47 h⟩
theorem zF6 {ns:List ByteArray} (h:∀ x∈ns,chk x=true):∀ x∈ns,seg x:=fun x hx=>chk_seg (h x hx)
theorem zEG {ns:List ByteArray} (h:ns≠[]):(pth ns).data.toList=zCc ns:=by unfold pth;rw [if_neg h]
theorem zDB {ns:List ByteArray} (h:ns≠[]):(pth ns).size=(zCc ns).length:=by unfold pth;rw [if_neg h];simp [ByteArray.size]
theorem zEQ:∀ {ns:List ByteArray},(∀ x∈ns,seg x)→2 * ns.length≤(zCc ns).length
 | [],_=>AD _
 | n::r,h=>by
  have h1:=(h n Af).1;have h2:=zEQ (ns:=r) fun x hx=>h x (Ag _ hx);simp only [zCc,Ah,List.length_append];omega
theorem zIN {ns:List ByteArray} (h:∀ x∈ns,chk x=true):2 * ns.length≤(zCc ns).length:=zEQ (zF6 h)
theorem pth_ne {ns:List ByteArray} (h:ns≠[]) (hc:∀ x∈ns,seg x):pth ns≠slash:=fun e=>by
 have h1:=zEQ hc;have h2:=List.length_pos_iff.2 h;have h3:=zDB h;rw [e] at h3;have h4:slash.size=1:=rfl;omega
theorem zFV (ns:List ByteArray):pth ns≠emp:=fun e=>by
 unfold pth at e
 split at e
 · exact absurd e (by decide)
 · rename_i h
   cases ns with
   | nil=>exact h rfl
   | cons n r =>
    have e2:(zCc (n::r)).toArray=#[]:=congrArg ByteArray.data e;have e3:(zCc (n::r))=[]:=congrArg Array.toList e2;rw [zCc] at e3;cases e3
def zKC (p nm:ByteArray):ByteArray:=(if p=slash then emp else p)++slash++nm
theorem zDH {a b:ByteArray} (h:a.data.toList=b.data.toList):a=b:=zGB h
theorem zI4 {ns:List ByteArray} (hc:∀ x∈ns,chk x=true) (nm:ByteArray):zKC (pth ns) nm=pth (ns++[nm]):=by
 apply zDH
 rw [zEG (by simp),zB9];unfold zKC;by_cases h:ns=[]
 · subst h;simp [pth,zCc,emp,slash]
 · rw [if_neg (pth_ne h (zF6 hc))];simp only [ByteArray.data_append,Array.toList_append,zEG h,List.append_assoc];simp [zCc,slash]
theorem zHm:∀ {a:List UInt8},(47:UInt8) ∉ a→Ad a [47]=-1
 | [],_=>rfl
 | b::l,h=>by
  have hb:(47:UInt8)≠b:=fun e=>h (by rw [e];exact Af)
  have hp:([47]:List UInt8).isPrefixOf (b::l)=false:=by simp [Ai,hb]
  have ih:=zHm (a:=l) fun e=>h (Ag _ e);unfold Ad;rw [hp,ih];rfl
theorem zF1 (r:List UInt8):∀ {a:List UInt8},(47:UInt8) ∉ a→Ad (a++47::r) [47]=(a.length:Nat)
 | [],_=>by
  rw [List.nil_append];unfold Ad;rw [if_pos (by simp [Ai])];rfl
 | b::l,h=>by
  have hb:(47:UInt8)≠b:=fun e=>h (by rw [e];exact Af)
  have hp:([47]:List UInt8).isPrefixOf (b::(l++47::r))=false:=by simp [Ai,hb]
  have ih:=zF1 r (a:=l) fun e=>h (Ag _ e);rw [Aj];unfold Ad;rw [hp,ih]
  have h1:((l.length:Int)==-1)=false:=by rw [beq_eq_false_iff_ne];omega
  simp [h1]
theorem count47:∀ {r:List ByteArray},(∀ x∈r,seg x)→(zCc r).count 47=r.length
 | [],_=>rfl
 | n::r,h=>by
  rw [zCc,List.count_cons_self,List.count_append,count47 (fun x hx=>h x (Ag _ hx)),List.count_eq_zero_of_not_mem ((h n Af).2)];simp
theorem zFF:∀ (r:List ByteArray) (a:ByteArray),seg a→(∀ x∈r,seg x)→Lib.splitK [47] 0 r.length (a.data.toList++zCc r)=a.data.toList::r.map (·.data.toList)
 | [],a,_,_=>by simp [zCc,Lib.splitK]
 | b::r,a,ha,h=>by
  have hi:=zF1 (b.data.toList++zCc r) (ha.2);have ih:=zFF r b (h b Af) fun x hx=>h x (Ag _ hx)
  have hm:¬(Ad (a.data.toList++47::(b.data.toList++zCc r)) [47]==-1)=true:=fun e=>by
   have:=beq_iff_eq.1 e;rw [hi] at this;omega
  rw [zCc,Ah,Lib.splitK,if_neg hm,hi];simp only [Int.toNat_natCast,Nat.add_zero,Ah,Ak,AE];rw [List.take_left,show a.data.toList++47::(b.data.toList++zCc r)=(a.data.toList++[47])++(b.data.toList++zCc r) by simp,show a.data.toList.length+1=(a.data.toList++[47]).length by simp,List.drop_left,ih];rfl
def nd:List UInt8→Bool
 | []=>true
 | x::r=>!(x==47 && r.head?==some 47) && nd r
theorem zJt:∀ {s:List UInt8},nd s=true→Ad s [47,47]=-1
 | [],_=>rfl
 | b::l,h=>by
  rw [nd,AI] at h;have ih:=zJt h.2
  have hp:([47,47]:List UInt8).isPrefixOf (b::l)=false:=by
   have h1:=h.1
   cases l with
   | nil=>simp [Ai]
   | cons c l =>
    simp only [Ai,List.head?_cons,Bool.and_true] at h1 ⊢
    revert h1
    by_cases e1:b=47<;>by_cases e2:c=47<;>simp [e1,e2,Ne.symm]<;>exact fun e=>e1 e.symm
  unfold Ad;rw [hp,ih];rfl
theorem nd_app:∀ {a s:List UInt8},(47:UInt8) ∉ a→nd s=true→nd (a++s)=true
 | [],_,_,h=>h
 | b::l,s,h1,h=>by
  have hb:b≠47:=fun e=>h1 (by rw [e];exact Af);rw [Aj,nd,nd_app (fun e=>h1 (Ag _ e)) h];simp [hb]
theorem nd_pth:∀ {r:List ByteArray},(∀ x∈r,seg x)→nd (zCc r)=true
 | [],_=>rfl
 | n::r,h=>by
  have h1:=h n Af;have ih:=nd_pth (r:=r) fun x hx=>h x (Ag _ hx);rw [zCc,nd,nd_app (h1.2) ih];have h2:=h1.1;have h3:=h1.2
  cases hl:n.data.toList with
  | nil=>rw [hl] at h2;simp at h2
  | cons x t =>
   rw [hl] at h3;have:x≠47:=fun e=>h3 (by rw [e];exact Af);simp [this]
theorem zI0:∀ {r:List ByteArray},r≠[]→(∀ x∈r,seg x)→∃ x t,zCc r=t++[x]∧x≠47
 | [],h,_=>absurd rfl h
 | n::r,_,h=>by
  by_cases hr:r=[]
  · subst hr;have h1:=(h n Af).1;have h2:=(h n Af).2;have fA:n.data.toList≠[]:=List.ne_nil_of_length_pos h1;refine⟨n.data.toList.getLast fA,47::n.data.toList.dropLast,?_,fun e=>h2 (by rw [←e];exact Al fA)⟩;simp only [zCc,Am,Aj];rw [List.dropLast_concat_getLast]
  · obtain⟨x,t,h1,h2⟩:=zI0 hr fun x hx=>h x (Ag _ hx);exact⟨x,47::(n.data.toList++t),by simp [zCc,h1],h2⟩
theorem zEj:∀ {a b:List ByteArray},a.map (·.data.toList)=b.map (·.data.toList)→a=b
 | [],[],_=>rfl
 | [],_::_,h=>by simp at h
 | _::_,[],h=>by simp at h
 | x::a,y::b,h=>by
  simp only [An,List.cons.injEq] at h;rw [zDH h.1,zEj h.2]
theorem zJz:spl slash=([],0):=by
 unfold spl;rw [if_neg,if_pos rfl];rintro (h | h)
 · exact absurd h (by decide)
 · exact absurd h (by decide)
theorem spl_long {p:ByteArray} (h:400<p.size):spl p=([],70):=by unfold spl;rw [if_pos (.inl h)]
theorem spl_seg {ns:List ByteArray} (hc:∀ x∈ns,seg x) (hs:(pth ns).size≤400):spl (pth ns)=if ns.all chk=true then (ns,0) else ([],71):=by
 cases ns with
 | nil=>exact zJz
 | cons a r =>
  have fA:a::r≠[]:=by simp
  have hd:=zEG fA;have ha:=hc a Af;have hr:∀ x∈r,seg x:=fun x hx=>hc x (Ag _ hx)
  have hB:(spB (pth (a::r))).data.toList=a.data.toList++zCc r:=by
   unfold spB;rw [Lib.extract_to_end,hd];rfl
  have hK:Ab slash 0 (Ac (spB (pth (a::r))) slash) (spB (pth (a::r)))=a::r:=by
   apply zEj
   rw [Lib.splitB_data];unfold Ac;rw [hB]
   show Lib.splitK [47] 0 (Lib.count _ [47]) _=_
   rw [Lib.count_one,List.count_append,count47 hr,List.count_eq_zero_of_not_mem (ha.2),AE,zFF r a ha hr];rfl
  unfold spl;rw [if_neg,if_neg (pth_ne fA hc),if_neg,hK]
  · rw [hd];rintro (h | h)
    · obtain⟨x,t,h1,h2⟩:=zI0 fA hc;rw [h1] at h;unfold Lib.hasSuffix at h;rw [List.isSuffixOf_iff_suffix] at h;obtain⟨u,hu⟩:=h;have:=congrArg List.getLast? hu
      simp at this
      exact h2 this.symm
    · unfold Lib.contains at h;rw [zJt (nd_pth hc)] at h;exact absurd h (by decide)
  · rw [hd];rintro (h | h)
    · omega
    · unfold Aa at h;simp [zCc,Ai] at h
theorem zFj {ns:List ByteArray} (hc:∀ x∈ns,chk x=true) (hs:(pth ns).size≤400):spl (pth ns)=(ns,0):=by
 rw [spl_seg (zF6 hc) hs,if_pos (Ae.2 hc)]
structure Opn where
 kind:Int
 path:ByteArray
 dst:ByteArray
 off:Int
 len:Int
 data:List UInt8
 made:Int
 pick:Int
def useP (k:Int):Bool:=decide (1≤k∧k≤11∨k=13)
def useT (k:Int):Bool:=decide (k=3∨k=6)
def useO (k:Int):Bool:=decide (k=7∨k=8∨k=9)
def useL (k:Int):Bool:=decide (k=9)
def useD (k:Int):Bool:=decide (k=7)
def useM (k:Int):Bool:=decide (k=1∨k=2)
def useF (k:Int):Bool:=decide (k=14)
def Opn.fine (o:Opn):Bool :=
 decide (1≤o.kind∧o.kind≤14∧0≤o.made∧o.made≤1099511627776∧(useP o.kind=true∨o.path=emp)∧(useT o.kind=true∨o.dst=emp)∧(useO o.kind=true∨o.off=0)∧(useL o.kind=true∨o.len=0)∧(useD o.kind=true∨o.data.length=0)∧(useM o.kind=true∨o.made=0)∧(useF o.kind=true∨o.pick=0))
def PT.asks (T:PT) (o:Opn) (i:Nat):PT×Ans :=
 if o.kind=10 then (T,⟨0,T.stat i,[],[]⟩) else if o.kind=11 then (T,T.list i) else if T.isDir i=true then (T,.err 102) else
 if o.kind=7 then ((T.write i o.off o.data).1,.err (T.write i o.off o.data).2) else if o.kind=8 then ((T.trunc i o.off).1,.err (T.trunc i o.off).2) else if o.kind=9 then (T,(T.node i).read o.off o.len) else (T,.err 0)
noncomputable def PT.does (T:PT) (o:Opn) (l m:List ByteArray):PT×Ans :=
 if o.kind=1 then T.make l false o.made.toNat else if o.kind=2 then T.make l true o.made.toNat else if o.kind=3 then ((T.link l m).1,.err (T.link l m).2) else
 if o.kind=4 then ((T.unlink l).1,.err (T.unlink l).2) else if o.kind=5 then ((T.rmdir l).1,.err (T.rmdir l).2) else if o.kind=6 then ((T.rename l m).1,.err (T.rename l m).2) else
 if o.kind=12∨o.kind=14 then (T,.err 0) else if (T.walk l 1).2≠0 then (T,.err (T.walk l 1).2) else T.asks o (T.walk l 1).1
def Ans.told (a:Ans):Ans:=if a.code=0 then a else .err a.code
def Opn.code1 (o:Opn):Nat:=if o.kind=12∨o.kind=14 then 0 else (spl o.path).2
def Opn.code2 (o:Opn):Nat:=if o.kind=3∨o.kind=6 then (spl o.dst).2 else 0
def Opn.from_ (o:Opn):List ByteArray:=if o.kind=12∨o.kind=14 then [] else (spl o.path).1
def Opn.to_ (o:Opn):List ByteArray:=if o.kind=3∨o.kind=6 then (spl o.dst).1 else []
noncomputable def PT.run (T:PT) (o:Opn):PT×Ans :=
 if o.fine=false then (T,.err 150) else if o.code1≠0 then (T,.err o.code1) else if o.code2≠0 then (T,.err o.code2) else ((T.does o o.from_ o.to_).1,(T.does o o.from_ o.to_).2.told)
theorem from_chk (o:Opn):∀ x∈o.from_,chk x=true:=by
 unfold Opn.from_
 split
 · intro x hx;cases hx
 · exact zE7 _
theorem to_chk (o:Opn):∀ x∈o.to_,chk x=true:=by
 unfold Opn.to_
 split
 · exact zE7 _
 · intro x hx;cases hx
theorem inv_asks {T:PT} (h:T.Inv) (o:Opn) {i:Nat} {n:PN} (hg:zAe i T.nodes=some n):(T.asks o i).1.Inv:=by
 unfold PT.asks
 split
 · exact h
 split
 · exact h
 split
 · exact h
 rename_i hd;rw [zAm hg] at hd
 have hd:n.dir=false:=by simpa using hd
 split
 · exact inv_write h hg hd _ _
 split
 · exact inv_trunc h hg hd _
 split<;>exact h
theorem inv_does {T:PT} (h:T.Inv) (o:Opn) (hf:o.fine=true) (l m:List ByteArray) (hl:∀ x∈l,chk x=true) (hm:∀ x∈m,chk x=true):(T.does o l m).1.Inv:=by
 have fA:o.made.toNat≤1099511627776:=by
  unfold Opn.fine at hf;have:=(of_decide_eq_true hf).2.2.2.1;omega
 unfold PT.does
 split
 · exact zJq h _ _ _ fA hl
 split
 · exact zJq h _ _ _ fA hl
 split
 · exact inv_link h _ _ hm
 split
 · exact zKs h _
 split
 · exact inv_rmdir h _
 split
 · exact zKg h _ _ hm
 split
 · exact h
 split
 · exact h
 rename_i h0;obtain⟨n,hn⟩:=zBT h.wf l 1 (let ⟨n,h,_⟩:=h.wf.root;⟨n,h⟩) (by simpa using h0);exact inv_asks h o hn
theorem zCa {T:PT} (h:T.Inv) (o:Opn):(T.run o).1.Inv:=by
 unfold PT.run
 split
 · exact h
 rename_i hf
 split
 · exact h
 split
 · exact h
 exact inv_does h o (by simpa using hf) _ _ (from_chk o) (to_chk o)
def PT.new (n m:Nat):PT:=⟨n,m,[(1,⟨true,1,0,0,[],[],[]⟩)]⟩
theorem inv_new {n m:Nat} (h1:8≤n∧n≤4096) (h2:1≤m∧m≤512) (h3:m+2≤n):(PT.new n m).Inv:=by
 have hg:∀ {i x},zAe i (PT.new n m).nodes=some x→i=1∧x=⟨true,1,0,0,[],[],[]⟩:=fun {i x} h=>by
  unfold PT.new at h;simp only [zAe] at h
  split at h
  · rename_i e;exact⟨e.symm,(Option.some.inj h).symm⟩
  · cases h
 have fA:∀ {i x nm j},zAe i (PT.new n m).nodes=some x→zAe nm x.names=some j→False:=fun {i x nm j} h h'=>by
  obtain⟨_,rfl⟩:=hg h;cases h'
 have hr:∀ j,(PT.new n m).refs j=0:=fun j=>rfl;refine⟨⟨⟨?_,fun p hp=>?_,h2.2,h1.1,h1.2⟩,⟨_,rfl,rfl⟩,fun i x nm j h h'=>(fA h h').elim,fun i x nm j h h'=>(fA h h').elim,⟨fun _=>0,fun i x nm j h h'=>(fA h h').elim⟩,fun i x nm j h h'=>(fA h h').elim,hr 1⟩,fun j x h=>?_,?_⟩
 · exact List.pairwise_singleton _ _
 · have:p=(1,⟨true,1,0,0,[],[],[]⟩):=by simpa [PT.new] using hp
   subst this;refine⟨⟨by simp,by simp,by simp,by simp,by simp,by simp,by simp,by simp,by simp,fun _=>rfl,fun e=>(by cases e),List.Pairwise.nil,List.Pairwise.nil⟩,AD _,h2.1⟩
 · obtain⟨rfl,rfl⟩:=hg h;exact⟨AD _,fun _=>rfl,fun e=>absurd rfl e⟩
 · show 0+m+1≤n
   omega
open Go.RowKit Go.Proofs
theorem get_byte (s:ByteArray) (k:Nat) (h:k<s.size):s.get! k=s[k]'h:=by
 have:=get_at s k h;simpa using this
theorem zHV (s:ByteArray) (pos:Nat) (h:pos<s.size) (ha:128≤(s[pos]'h).toNat):∀ k (hk:k<s.size),pos≤k→k<pos+(AK s pos).2→128≤(s[k]'hk).toNat:=by
 have hn:¬(s[pos]'h).toNat<128:=by omega
 have c:∀ j,(decide (pos+j<s.size) && (s.get! (pos+j)).toNat / 64==2)=true→∀ k (hk:k<s.size),k=pos+j→128≤(s[k]'hk).toNat:=fun j hj k hk e=>by
  subst e;simp only [AI,decide_eq_true_eq,beq_iff_eq] at hj;rw [get_byte s _ hk] at hj;omega
 have z:∀ k (hk:k<s.size),k=pos→128≤(s[k]'hk).toNat:=fun k hk e=>by subst e;exact ha
 intro k hk h1 h2;simp only [AK,get_at s pos h,hn,if_false] at h2
 split at h2
 · rename_i hc;simp only [AI] at hc;have c1:=c 1 (by simpa using hc.2)
   split at h2
   · have:k=pos∨k=pos+1:=by simp at h2;omega
     rcases this with e | e
     · exact z k hk e
     · exact c1 k hk e
   · exact z k hk (by simp at h2;omega)
 split at h2
 · rename_i hc;simp only [AI] at hc;have c1:=c 1 (by simpa using hc.1.2);have c2:=c 2 (by simpa using hc.2)
   split at h2
   · have:k=pos∨k=pos+1∨k=pos+2:=by simp at h2;omega
     rcases this with e | e | e
     · exact z k hk e
     · exact c1 k hk e
     · exact c2 k hk e
   · exact z k hk (by simp at h2;omega)
 split at h2
 · rename_i hc;simp only [AI] at hc;have c1:=c 1 (by simpa using hc.1.1.2);have c2:=c 2 (by simpa using hc.1.2);have c3:=c 3 (by simpa using hc.2)
   split at h2
   · have:k=pos∨k=pos+1∨k=pos+2∨k=pos+3:=by simp at h2;omega
     rcases this with e | e | e | e
     · exact z k hk e
     · exact c1 k hk e
     · exact c2 k hk e
     · exact c3 k hk e
   · exact z k hk (by simp at h2;omega)
 · exact z k hk (by simp at h2;omega)
def okTo (s:ByteArray) (pos:Nat):Prop:=∀ k (h:k<s.size),k<pos→s[k]'h≠0∧s[k]'h≠47
theorem okTo_next {s:ByteArray} {pos:Nat} (h:pos<s.size) (ho:okTo s pos) (h0:(AK s pos).1≠0) (h1:(AK s pos).1≠47):okTo s (pos+(AK s pos).2):=fun k hk h2=>by
 by_cases hp:k<pos
 · exact ho k hk hp
 by_cases ha:(s[pos]'h).toNat<128
 · rw [decode_ascii s pos h ha] at h0 h1 h2
   have e:k=pos:=by simp at h2;omega
   subst e;refine⟨fun e=>h0 ?_,fun e=>h1 ?_⟩
   · rw [e];rfl
   · rw [e];rfl
 · have:=zHV s pos h (by omega) k hk (by omega) h2;refine⟨fun e=>?_,fun e=>?_⟩<;>rw [e] at this<;>simp at this
theorem bad_at {s:ByteArray} {pos:Nat} (h:pos<s.size) (h1:(AK s pos).1=0∨(AK s pos).1=47):chk s=false:=by
 by_cases ha:(s[pos]'h).toNat<128
 · rw [decode_ascii s pos h ha] at h1;unfold chk;refine decide_eq_false fun hc=>?_
   have hm:s[pos]'h∈s.data.toList:=by
    rw [AB];exact Array.getElem_mem _
   have h2:=hc.2.2.2.2 _ hm;rcases h1 with h1 | h1
   · exact h2.1 (UInt8.toNat_inj.1 h1)
   · exact h2.2 (UInt8.toNat_inj.1 h1)
 · have:=(decode_high s pos h (by omega)).1;omega
theorem chk_all {s:ByteArray} (h:okTo s s.size) (h0:s≠⟨#[]⟩) (h1:s.size≤40) (h2:s≠⟨#[46]⟩) (h3:s≠⟨#[46,46]⟩):chk s=true:=by
 have inj:∀ a:Array UInt8,s.data.toList=a.toList→s=⟨a⟩:=fun a e=>by
  cases s with | mk d=>exact congrArg ByteArray.mk (AC.1 e)
 unfold chk;refine decide_eq_true ⟨?_,h1,fun e=>h2 (inj _ e),fun e=>h3 (inj _ e),fun b hb=>?_⟩
 · rcases Nat.eq_zero_or_pos s.size with e | e
   · exfalso
     refine h0 (inj _ ?_);exact List.eq_nil_of_length_eq_zero (by rw [AA];exact e)
   · exact e
 · rw [AB] at hb;obtain⟨k,hk,e⟩:=Array.getElem_of_mem hb;have:=h k hk hk;have e':s[k]'hk=b:=e;rw [e'] at this;exact this
theorem chk_bad0:chk ⟨#[]⟩=false:=by decide
theorem zI2:chk ⟨#[46]⟩=false:=by decide
theorem zJc:chk ⟨#[46,46]⟩=false:=by decide
theorem zI3 {s:ByteArray} (h:40<s.size):chk s=false:=by
 unfold chk;exact decide_eq_false fun hc=>by have:=hc.2.1;omega
theorem zDc (w:World) (s:ByteArray) (pos:Nat):Below w.heap.size w (w.iter s pos):=br.alloc nr _
theorem toList_data (s:ByteArray):s.toList=s.data.toList:=ByteArray.toList_eq s
theorem zFx {s:ByteArray} (h:s.toList=[]):s=⟨#[]⟩:=by
 rw [toList_data] at h
 cases s with | mk d=>exact congrArg ByteArray.mk (AC.1 h)
def chkV (x:ByteArray):Value:=.int .i64 (if chk x=true then 0 else 71)
theorem zKv (x:ByteArray) (w:World) (hx:x.size≤1000000000) :
 Calls AL 66 #[.string x] w fun e w'=>e=.returned (chkV x)∧Below w.heap.size w w':=by
 obtain⟨cv,fB⟩:∃ cv:Int,(if chk x=true then (0:Int) else 71)=cv:=⟨_,rfl⟩
 have e1:chkV x=.int .i64 cv:=by unfold chkV;rw [fB]
 rw [e1];have fA:=hid fB;clear e1 fB
 have bad:chk x=false→cv=71:=fun h=>by rw [←fA.o,h];rfl
 have badH:=hid bad;clear bad
 have inj:∀ a:Array UInt8,x.toList=a.toList→x=⟨a⟩:=fun a e=>by
  rw [toList_data] at e
  cases x with | mk d=>exact congrArg ByteArray.mk (AC.1 e)
 have injH:=hid inj;clear inj;go_enter Tryz.func66,Tryz.ntmps66;by_cases h0:x.toList=[]
 · have hb:=badH.o (by rw [injH.o _ h0];exact chk_bad0);subst hb;clear badH fA injH
   have t0:x.toList.isEmpty=true:=by rw [h0];rfl
   go_wp2;go_ret;exact⟨rfl,Below.refl _ _⟩
 have t0:x.toList.isEmpty=false:=by
  cases hx:x.toList.isEmpty with
  | false=>rfl
  | true=>exact absurd (by simpa using hx) h0
 by_cases h1:40<x.size
 · have hb:=badH.o (zI3 h1);subst hb;clear badH fA injH
   have t1:decide (40<(x.size:Int))=true:=by simp;omega
   go_wp2;go_ret;exact⟨rfl,Below.refl _ _⟩
 have t1:decide (40<(x.size:Int))=false:=by simp;omega
 by_cases h2:x.toList=[46]
 · have hb:=badH.o (by rw [injH.o _ h2];exact zI2);subst hb;clear badH fA injH
   have t2:(x.toList==[46])=true:=by rw [h2];rfl
   go_wp2;go_ret;exact⟨rfl,Below.refl _ _⟩
 have t2:(x.toList==[46])=false:=by simpa using h2
 by_cases h3:x.toList=[46,46]
 · have hb:=badH.o (by rw [injH.o _ h3];exact zJc);subst hb;clear badH fA injH
   have t3:(x.toList==[46,46])=true:=by rw [h3];rfl
   go_wp2;go_ret;exact⟨rfl,Below.refl _ _⟩
 have t3:(x.toList==[46,46])=false:=by simpa using h3
 have g0:=hid h0;have g1:=hid h1;have g2:=hid h2;have g3:=hid h3;go_wp2;clear h0 h1 h2 h3 t0 t1 t2 t3
 go_loopw [4] (fun r w'=>∃ (pos:Nat),w'=w.iter x pos∧Hid (okTo x pos)) (fun _ w'=>x.size-w'.iterPos w.heap.size)
 case atStart=>exact⟨0,rfl,hid fun k hk h=>absurd h (by omega)⟩
 case round =>
  obtain⟨pos,rfl,ho⟩:=hrel;by_cases hp:pos<x.size
  · have fG:∀ ty,(AR (.pointer (some ⟨w.heap.size,0,none⟩)) true ty).run AL (w.iter x pos)=_:=fun ty=>run_next_any w x pos ty hp
    have fI:1≤(AK x pos).2:=by
     by_cases ha:(x[pos]'hp).toNat<128
     · rw [decode_ascii x pos hp ha];exact AD _
     · exact (decode_high x pos hp (by omega)).2
    have hb:=hid (fun h=>badH.o (bad_at hp h));have hn:=hid (okTo_next hp ho.o);clear ho badH fA;generalize (AK x pos).1=c at *;generalize (AK x pos).2=wd at *;by_cases fC:c=0
    · have fD:=hb.o (.inl fC);clear hb hn;subst fD;subst fC;go_wp2;go_ret;exact⟨rfl,zDc _ _ _⟩
    by_cases fE:c=47
    · have fD:=hb.o (.inr fE);clear hb hn;subst fD;subst fE;go_wp2;go_ret;exact⟨rfl,zDc _ _ _⟩
    have fH:=hid (hn.o fC fE)
    have t1:((c:Int)==0)=false:=by simp;omega
    have t2:((c:Int)==47)=false:=by simp;omega
    clear hn hb;go_wp2;go_roundw
    case rel=>exact⟨pos+wd,rfl,fH⟩
    case measure =>
     simp
     have:=hp;omega
  · have fG:∀ ty,(AR (.pointer (some ⟨w.heap.size,0,none⟩)) true ty).run AL (w.iter x pos)=_:=fun ty=>run_next_end w x pos ty hp;have fF:=chk_all (fun k hk h=>ho.o k hk (by omega)) (fun e=>g0.o (by rw [e,toList_data])) (by have:=g1.o;omega) (fun e=>g2.o (by rw [e,toList_data])) (fun e=>g3.o (by rw [e,toList_data]))
    have hz:cv=0:=by rw [←fA.o,if_pos fF]
    subst hz;clear fF badH fA injH;go_wp2;go_ret;exact⟨rfl,zDc _ _ _⟩
theorem zE8 (sep:ByteArray):∀ (k:Nat) (s:ByteArray),∀ x∈Ab sep 0 k s,x.size≤s.size
 | 0,s,x,h=>by
  rw [Lib.splitB_zero,Ao] at h;rw [h];exact AD _
 | k+1,s,x,h=>by
  unfold Ab at h
  split at h
  · rw [Ao] at h;rw [h];exact AD _
  · rcases Ap.1 h with rfl | h
    · rw [AS];omega
    · have:=zE8 sep k _ x h;rw [AS] at this;omega
def SplP (x:ByteArray) (w:World) (e:Ending) (w':World):Prop :=
 (∃ A c,e=.returned (.tuple #[.slice A (spl x).1.length c,zAS (spl x).2])∧(spl x).1.length≤c∧c≤x.size+1∧Sees w' w'.heap.size 1 A (spl x).1.length (strs (spl x).1))∧Below w.heap.size w w'
theorem zCA {x:ByteArray} {w w':World} {c:Nat} (h:spl x=([],c)) (hb:Below w.heap.size w w'):SplP x w (.returned (.tuple #[.slice none 0 0,zAS c])) w':=by
 unfold SplP;rw [h];exact⟨⟨none,0,rfl,AD _,AF _,Sees.nil⟩,hb⟩
theorem zJU (x:ByteArray) (m0:Int) (w:World) (hx:x.size≤100000000) (hm:w.cell? ⟨0,0,none⟩=some (.int .i64 m0)) :
 Calls AL 42 #[.string x] w (SplP x w):=by
 have inj:∀ a:Array UInt8,x.toList=a.toList→x=⟨a⟩:=fun a e=>by
  rw [toList_data] at e
  cases x with | mk d=>exact congrArg ByteArray.mk (AC.1 e)
 have injH:=hid inj;clear inj;obtain⟨Q,hQ⟩:=nM (SplP x w);rw [hQ];have fF:=hid hQ;clear hQ;go_enter Tryz.func42,Tryz.ntmps42;by_cases h1:400<x.size
 · have t1:decide (400<(x.size:Int))=true:=by simp;omega
   go_wp2;rw [←fF.o];exact zCA (c:=70) (by unfold spl;rw [if_pos (.inl h1)]) br
 have t1:decide (400<(x.size:Int))=false:=by simp;omega
 cases hp:Aa x.data.toList [47] with
 | false =>
  go_wp2_with (go_at_call 62;refine (AM x ⟨#[47]⟩ w).mono ?_;rintro e w1 ⟨rfl,hw⟩;have hw:=hw.symm;subst hw;rw [hp]);rw [←fF.o];exact zCA (c:=70) (by unfold spl;rw [if_pos (.inr hp)]) br
 | true =>
  by_cases h2:x.toList=[47]
  · have t2:(x.toList==[47])=true:=by rw [h2];rfl
    go_wp2_with (go_at_call 62;refine (AM x ⟨#[47]⟩ w).mono ?_;rintro e w1 ⟨rfl,hw⟩;have hw:=hw.symm;subst hw;rw [hp]);rw [←fF.o];refine zCA (c:=0) ?_ br;unfold spl;rw [if_neg (by rw [hp];simp;omega),if_pos (show x=slash from injH.o _ h2)]
  have t2:(x.toList==[47])=false:=by simpa using h2
  have fP:x≠slash:=fun e=>h2 (by rw [e,toList_data];rfl)
  have gI:1≤x.size:=by
   rcases Nat.eq_zero_or_pos x.size with e | e
   · exfalso
     have e2:x.data.toList=[]:=List.eq_nil_of_length_eq_zero (by rw [AA];exact e);rw [e2] at hp;cases hp
   · exact e
  have gJ:∀ W:World,(Instr.sliceAt 9 (.string x) (some (.int .i64 1)) none none).run AL W=.ok (.string (spB x)) W:=fun W=>by
   rw [run_sliceAt_string _ _ _ _ _ _ AN,run_slice_string_l _ 9 x AN .i64 1 (by omega) (by omega)];rfl
  cases hs:Lib.hasSuffix x.data.toList [47] with
  | true =>
   go_wp2_with (first
    | (go_at_call 62;refine (AM x ⟨#[47]⟩ w).mono ?_;rintro e w1 ⟨rfl,hw⟩;have hw:=hw.symm;subst hw;rw [hp])
    | (go_at_call 63;refine (AO x ⟨#[47]⟩ w (by omega)).mono ?_;rintro e w1 ⟨rfl,hw⟩;have hw:=hw.symm;subst hw;rw [hs]))
   rw [←fF.o];refine zCA (c:=70) ?_ br;unfold spl;rw [if_neg (by rw [hp];simp;omega),if_neg fP,if_pos (.inl hs)]
  | false =>
   cases hc:Lib.contains x.data.toList [47,47] with
   | true =>
    go_wp2_with (first
     | (go_at_call 62;refine (AM x ⟨#[47]⟩ w).mono ?_;rintro e w1 ⟨rfl,hw⟩;have hw:=hw.symm;subst hw;rw [hp])
     | (go_at_call 63;refine (AO x ⟨#[47]⟩ w (by omega)).mono ?_;rintro e w1 ⟨rfl,hw⟩;have hw:=hw.symm;subst hw;rw [hs])
     | (go_at_call 64;refine (Tryz.strings_Contains x ⟨#[47,47]⟩ m0 w (by omega) hm).mono ?_;rintro e w1 ⟨rfl,hw⟩;have hw:=hw.symm;subst hw;rw [hc]))
    rw [←fF.o];refine zCA (c:=70) ?_ br;unfold spl;rw [if_neg (by rw [hp];simp;omega),if_neg fP,if_pos (.inr hc)]
   | false =>
    have fG:spl x=if (Ab slash 0 (Ac (spB x) slash) (spB x)).all chk=true then (Ab slash 0 (Ac (spB x) slash) (spB x),0) else ([],71):=by
     unfold spl;rw [if_neg (by rw [hp];simp;omega),if_neg fP,if_neg (by rw [hs,hc];simp)]
    have fJ:(spB x).size≤x.size:=by unfold spB;rw [AS];omega
    have fC:(Ab slash 0 (Ac (spB x) slash) (spB x)).length=Ac (spB x) slash+1:=Lib.splitB_all slash (by decide) 0 _ _ rfl;have fR:Ac (spB x) slash≤(spB x).size:=Lib.countB_le slash (by decide) _ _ nr;have fS:=zE8 slash (Ac (spB x) slash) (spB x);have fK:=Tryz.strings_Split (spB x) slash m0 w (by omega) hm (by decide);rw [←fC] at fK
    have fD:(Ab slash 0 (Ac (spB x) slash) (spB x)).length≤x.size+1:=by rw [fC];omega
    clear fC fR;obtain⟨L,hL⟩:=nM (Ab slash 0 (Ac (spB x) slash) (spB x));rw [hL] at fG fS fK fD;clear hL;have fE:=hid fG;have fT:=hid fS;obtain⟨len,fH⟩:=nM (L.length);rw [fH] at fK fD;have fB:=hid fH;clear fG fS fH fP injH
    go_upto_region 8 with (first
     | (go_at_call 62;refine (AM x ⟨#[47]⟩ w).mono ?_;rintro e w1 ⟨rfl,hw⟩;have hw:=hw.symm;subst hw;rw [hp])
     | (go_at_call 63;refine (AO x ⟨#[47]⟩ w (by omega)).mono ?_;rintro e w1 ⟨rfl,hw⟩;have hw:=hw.symm;subst hw;rw [hs])
     | (go_at_call 64;refine (Tryz.strings_Contains x ⟨#[47,47]⟩ m0 w (by omega) hm).mono ?_;rintro e w1 ⟨rfl,hw⟩;have hw:=hw.symm;subst hw;rw [hc])
     | (go_at_call 65;refine fK.mono ?_;rintro e w1 ⟨rfl,rfl⟩))
    have fU:Blk (w.alloc (.cells (strs L).toArray 9)) w.heap.size 9 (strs L):=AT w _ _;have fV:Below w.heap.size w (w.alloc (.cells (strs L).toArray 9)):=br.alloc nr _
    have gK:(w.alloc (.cells (strs L).toArray 9)).heap.size=w.heap.size+1:=by simp
    change Code.wp _ _ _ _ (w.alloc (.cells (strs L).toArray 9));generalize w.alloc (.cells (strs L).toArray 9)=w0 at *;obtain⟨g,hg⟩:=nM (w.heap.size);rw [hg] at fU fV gK;simp only [hg];have gC:=hid hg;have fL:=hid fU;have fW:=hid fV;have fM:=hid fJ;clear hg fU fV fK hm gI gJ t1 t2 h2 hp hs hc fJ;go_wp2
    go_loopw [29] (fun t wr=>∃ ix:Nat,ix≤len∧t=.int .i64 ix∧Hid (Below (g+1) w0 wr)∧Hid (∀ j (h:j<L.length),j<ix→chk L[j]=true)) (fun t _=>len-(intOf t).toNat)
    case atStart=>exact⟨0,by omega,rfl,hid br,hid fun j _ h=>absurd h (by omega)⟩
    case round =>
     obtain⟨ix,gL,rfl,fI,gD⟩:=hrel;have gE:Hid (Below g w wr):=hid (fW.o.trans (fI.o.mono (by omega)));by_cases gF:ix<len
     · have t5:decide ((ix:Int)<(len:Int))=true:=by simpa using gF
       have fX:ix<L.length:=by rw [fB.o];exact gF
       obtain⟨nm,fQ⟩:=nM (L[ix])
       have gG:wr.cell? ⟨g,ix,none⟩=some (.string nm):=by
        rw [(fL.o.below fI.o (by omega)).cell ix];simp [strs,Aq fX,fQ]
       have fY:nm.size≤1000000000:=by have:=fT.o nm (by rw [←fQ];exact Ar _);have:=fM.o;omega
       have fA:=zKv nm wr fY;have fN:=hid fQ;clear fQ;unfold chkV at fA
       cases fO:chk nm with
       | false =>
        rw [fO] at fA;go_wp2_with (go_at_call 66;refine fA.mono ?_;rintro e w2 ⟨rfl,fZ⟩);rw [←fF.o];refine zCA (c:=71) ?_ ?_
        · rw [fE.o,if_neg];rw [Ae];intro h;have:=h nm (by rw [←fN.o];exact Ar _);rw [fO] at this;cases this
        · rw [gC.o];exact gE.o.trans (fZ.mono (by have:=fI.o.size;omega))
       | true =>
        rw [fO] at fA;have gA:=hid fO;clear fO
        have hw:IntKind.i64.wrap ((ix:Int)+1)=((ix+1:Nat):Int):=by rw [IntWalk.i64_in _ (by omega)];omega
        go_wp2_with (go_at_call 66;refine fA.mono ?_;rintro e w2 ⟨rfl,fZ⟩);go_roundw
        case rel=>exact⟨ix+1,by omega,by go_num,hid (fI.o.trans (fZ.mono (by have:=fI.o.size;omega))),hid fun j hj h=>by
         by_cases e:j=ix
         · subst e;rw [fN.o];exact gA.o
         · exact gD.o j hj (by omega)⟩
        case measure =>
         simp [intOf]
         omega
     · obtain rfl:ix=len:=by omega
       have t5:decide ((ix:Int)<(ix:Int))=false:=by simp
       go_wp2;rw [←fF.o]
       have gB:L.all chk=true:=by
        rw [Ae];intro y hy;obtain⟨j,hj,rfl⟩:=List.getElem_of_mem hy;exact gD.o j hj (by rw [←fB.o];exact hj)
       have h9:spl x=(L,0):=by rw [fE.o,if_pos gB]
       unfold SplP;rw [h9];refine⟨⟨some ⟨g,0,none⟩,ix,by rw [←fB.o];rfl,Nat.le_of_eq fB.o,fD,?_⟩,by rw [gC.o];exact gE.o⟩;have gH:=fL.o.below fI.o (by omega);refine⟨by simp [strs],fun _=>⟨g,0,rfl,gH.lt,fun i v hv=>?_⟩⟩;rw [AE,gH.cell i];exact hv
open Go.Maps (Keyed)
def runK:KE Int where
 enc n:=.int .i32 n
 val n:=.int .i32 n
 lt a b:=decide (a<b)
 before_eq a b:=by simp [Lit.before]
 same_iff a b:=by simp [Lit.sameKey]
 isKey _:=trivial
theorem kRun:Keyed AL 21:=Go.Maps.int_keyed Tryz.underlying21
theorem keyR (n:Int) (h:0≤n∧n≤1000000):keyOf AL 21 (runK.val n)=some (runK.enc n):=Go.Maps.keyOf_int_mk Tryz.underlying21 (WalkArith.wf_i32 (by omega))
def zCD (W:World) (r:Nat) (s:ByteArray) (pos:Nat):World:={W with heap:=W.heap.setIfInBounds r (.stringIter s pos)}
theorem zIs {P:Program} {W:World} {r:Nat} {s:ByteArray} {pos:Nat} (h:W.heap[r]? = some (.stringIter s pos)) (hp:pos<s.size) (ty:TypeId) :
 (AR (.pointer (some ⟨r,0,none⟩)) true ty).run P W=.ok (.tuple #[.bool true,.int .i64 pos,.int .i32 (AK s pos).1]) (zCD W r s (pos+(AK s pos).2)):=by
 simp only [AR,getObj,setObj,Sem.run_bind,Sem.run,h,Result.andThen,hp,if_true];simp [goInt,zCD]
theorem zGp {P:Program} {W:World} {r:Nat} {s:ByteArray} {pos:Nat} (h:W.heap[r]? = some (.stringIter s pos)) (hp:¬pos<s.size) (ty:TypeId) :
 (AR (.pointer (some ⟨r,0,none⟩)) true ty).run P W=.ok (.tuple #[.bool false]) W:=by
 simp [AR,getObj,Sem.run,h,hp]
theorem zJW {W:World} {r:Nat} (h:r<W.heap.size) (s:ByteArray) (pos:Nat):(zCD W r s pos).heap[r]? = some (.stringIter s pos):=by
 simp [zCD,h]
theorem zH9 (W:World) (r:Nat) (s:ByteArray) (pos:Nat):Chg (fun b=>b=r) W (zCD W r s pos):=by
 refine⟨rfl,rfl,rfl,by simp [zCD],fun b _ hb=>?_⟩;simp only [zCD];rw [Array.getElem?_setIfInBounds_ne (fun e=>hb e.symm)]
def opC (o:Opn) (A:Option Addr) (c:Nat):List Value:=[.int .i64 o.kind,.string o.path,.string o.dst,.int .i64 o.off,.int .i64 o.len,.slice A o.data.length c,.int .i64 o.made,.int .i64 o.pick]
def opV (o:Opn) (A:Option Addr) (c:Nat):Value:=.agg (opC o A c).toArray
def usesL:List ByteArray:=[⟨#[]⟩,⟨#[112,109]⟩,⟨#[112,109]⟩,⟨#[112,116]⟩,⟨#[112]⟩,⟨#[112]⟩,⟨#[112,116]⟩,⟨#[112,111,100]⟩,⟨#[112,111]⟩,⟨#[112,111,108]⟩,⟨#[112]⟩,⟨#[112]⟩,⟨#[]⟩,⟨#[112]⟩,⟨#[102]⟩]
def zA1 (k:Int):ByteArray:=usesL.getD k.toNat emp
def anyc (c:Int) (s:ByteArray):Bool:=s.data.toList.any fun b=>((b.toNat:Int)==c)
theorem kinds {P:Int→Prop} (h1:P 1) (h2:P 2) (h3:P 3) (h4:P 4) (h5:P 5) (h6:P 6) (h7:P 7) (h8:P 8) (h9:P 9) (fA:P 10) (fB:P 11) (fC:P 12) (fD:P 13) (fE:P 14) (k:Int) (hk:1≤k∧k≤14):P k:=by
 have:k=1∨k=2∨k=3∨k=4∨k=5∨k=6∨k=7∨k=8∨k=9∨k=10∨k=11∨k=12∨k=13∨k=14:=by omega
 rcases this with rfl | rfl | rfl | rfl | rfl | rfl | rfl | rfl | rfl | rfl | rfl | rfl | rfl | rfl<;>assumption
theorem uses_pat (k:Int) (hk:1≤k∧k≤14):zA1 k=⟨#[112,109]⟩∨zA1 k=⟨#[112,116]⟩∨zA1 k=⟨#[112]⟩∨zA1 k=⟨#[112,111,100]⟩∨zA1 k=⟨#[112,111]⟩∨zA1 k=⟨#[112,111,108]⟩∨zA1 k=⟨#[]⟩∨zA1 k=⟨#[102]⟩:=by
 revert k
 refine fun k hk=>kinds (P:=fun k=>zA1 k=⟨#[112,109]⟩∨zA1 k=⟨#[112,116]⟩∨zA1 k=⟨#[112]⟩∨zA1 k=⟨#[112,111,100]⟩∨zA1 k=⟨#[112,111]⟩∨zA1 k=⟨#[112,111,108]⟩∨zA1 k=⟨#[]⟩∨zA1 k=⟨#[102]⟩) ?_ ?_ ?_ ?_ ?_ ?_ ?_ ?_ ?_ ?_ ?_ ?_ ?_ ?_ k hk
 all_goals decide
theorem uses_bits (k:Int) (hk:1≤k∧k≤14):useP k=anyc 112 (zA1 k)∧useT k=anyc 116 (zA1 k)∧useO k=anyc 111 (zA1 k)∧useL k=anyc 108 (zA1 k)∧useD k=anyc 100 (zA1 k)∧useM k=anyc 109 (zA1 k)∧useF k=anyc 102 (zA1 k):=by
 refine kinds (P:=fun k=>useP k=anyc 112 (zA1 k)∧useT k=anyc 116 (zA1 k)∧useO k=anyc 111 (zA1 k)∧useL k=anyc 108 (zA1 k)∧useD k=anyc 100 (zA1 k)∧useM k=anyc 109 (zA1 k)∧useF k=anyc 102 (zA1 k)) ?_ ?_ ?_ ?_ ?_ ?_ ?_ ?_ ?_ ?_ ?_ ?_ ?_ ?_ k hk
 all_goals decide
theorem zJS (k:Int) (hk:1≤k∧k≤14):(zA1 k).size≤3∧∀ b∈(zA1 k).data.toList,b.toNat<128:=by
 refine kinds (P:=fun k=>(zA1 k).size≤3∧∀ b∈(zA1 k).data.toList,b.toNat<128) ?_ ?_ ?_ ?_ ?_ ?_ ?_ ?_ ?_ ?_ ?_ ?_ ?_ ?_ k hk
 all_goals decide
theorem fine_bits (o:Opn) (hk:1≤o.kind∧o.kind≤14) (hm:0≤o.made∧o.made≤1099511627776) :
 o.fine=((anyc 112 (zA1 o.kind) || decide (o.path=emp)) && (anyc 116 (zA1 o.kind) || decide (o.dst=emp)) && (anyc 111 (zA1 o.kind) || decide (o.off=0)) && (anyc 108 (zA1 o.kind) || decide (o.len=0)) && (anyc 100 (zA1 o.kind) || decide (o.data.length=0)) && (anyc 109 (zA1 o.kind) || decide (o.made=0)) && (anyc 102 (zA1 o.kind) || decide (o.pick=0))):=by
 obtain⟨h1,h2,h3,h4,h5,h6,h7⟩:=uses_bits o.kind hk;rw [←h1,←h2,←h3,←h4,←h5,←h6,←h7,Bool.eq_iff_iff];unfold Opn.fine;simp only [decide_eq_true_eq,AI,Bool.or_eq_true]
 constructor
 · rintro ⟨_,_,_,_,a1,a2,a3,a4,a5,a6,a7⟩;exact⟨⟨⟨⟨⟨⟨a1,a2⟩,a3⟩,a4⟩,a5⟩,a6⟩,a7⟩
 · rintro ⟨⟨⟨⟨⟨⟨a1,a2⟩,a3⟩,a4⟩,a5⟩,a6⟩,a7⟩;exact⟨hk.1,hk.2,hm.1,hm.2,a1,a2,a3,a4,a5,a6,a7⟩
theorem zD8 (x:ByteArray):x=emp↔x.toList=[]:=⟨fun h=>by rw [h,toList_data];rfl,zFx⟩
theorem zC0 {s:ByteArray} (h:s=emp):s.toList.isEmpty=true:=by rw [toList_data,h];rfl
theorem zEk {s:ByteArray} (h:¬s=emp):s.toList.isEmpty=false:=by
 cases hx:s.toList.isEmpty with
 | false=>rfl
 | true=>exact absurd (zFx (by simpa using hx)) h
theorem uses_any (k:Int) (hk:1≤k∧k≤14) (w:World):Calls AL 61 #[.int .i64 k] w fun e w'=>e=.returned (.string (zA1 k))∧Below w.heap.size w w':=by
 obtain⟨s,hs⟩:=nM (zA1 k);rw [hs]
 have hl:([AU ⟨#[]⟩,AU ⟨#[112,109]⟩,AU ⟨#[112,109]⟩,AU ⟨#[112,116]⟩,AU ⟨#[112]⟩,AU ⟨#[112]⟩,AU ⟨#[112,116]⟩,AU ⟨#[112,111,100]⟩,AU ⟨#[112,111]⟩,AU ⟨#[112,111,108]⟩,AU ⟨#[112]⟩,AU ⟨#[112]⟩,AU ⟨#[]⟩,AU ⟨#[112]⟩,AU ⟨#[102]⟩]:List Value)[k.toNat]? = some (.string s):=by
  rw [←hs];exact kinds (P:=fun k=>([AU ⟨#[]⟩,AU ⟨#[112,109]⟩,AU ⟨#[112,109]⟩,AU ⟨#[112,116]⟩,AU ⟨#[112]⟩,AU ⟨#[112]⟩,AU ⟨#[112,116]⟩,AU ⟨#[112,111,100]⟩,AU ⟨#[112,111]⟩,AU ⟨#[112,111,108]⟩,AU ⟨#[112]⟩,AU ⟨#[112]⟩,AU ⟨#[]⟩,AU ⟨#[112]⟩,AU ⟨#[102]⟩]:List Value)[k.toNat]? = some (.string (zA1 k))) rfl rfl rfl rfl rfl rfl rfl rfl rfl rfl rfl rfl rfl rfl k hk
 clear hs;go_enter Tryz.func61,Tryz.ntmps61;go_wp2;go_ret;exact⟨rfl,br.alloc nr _⟩
def FineI (g r:Nat) (s:ByteArray) (w:World) (cs:List Value) (wr:World):Prop :=
 ∃ (pos:Nat) (l:List (Int×Unit)),pos≤s.size∧Hid (wr.heap[r]? = some (.stringIter s pos))∧Hid (zAt wr runK zKE 21 (g+1) l)∧Hid (∀ z:Int,(zAe z l).isSome=(s.data.toList.take pos).any fun b=>((b.toNat:Int)==z))∧l.length≤pos∧Hid (Below g w wr)∧Hid (Blk wr g 70 cs)
theorem zJk (o:Opn) (A:Option Addr) (c:Nat) (w:World):Calls AL 41 #[opV o A c] w fun e w'=>e=.returned (.bool o.fine)∧Below w.heap.size w w':=by
 have gP:=@run_makeMap AL;obtain⟨fb,fH⟩:=nM (o.fine);rw [fH];have fA:=hid fH;clear fH;unfold opV opC;go_enter Tryz.func41,Tryz.ntmps41;by_cases h1:o.kind<1
 · have t1:decide (o.kind<1)=true:=by simpa using h1
   have hv:fb=false:=by rw [←fA.o];unfold Opn.fine;exact decide_eq_false fun h=>by omega
   subst hv;clear fA;go_wp2;go_ret;exact⟨rfl,br.alloc nr _⟩
 have t1:decide (o.kind<1)=false:=by simpa using h1
 by_cases h2:14<o.kind
 · have t2:decide (14<o.kind)=true:=by simpa using h2
   have hv:fb=false:=by rw [←fA.o];unfold Opn.fine;exact decide_eq_false fun h=>by omega
   subst hv;clear fA;go_wp2;go_ret;exact⟨rfl,br.alloc nr _⟩
 have t2:decide (14<o.kind)=false:=by simpa using h2
 by_cases h3:o.made<0
 · have t3:decide (o.made<0)=true:=by simpa using h3
   have hv:fb=false:=by rw [←fA.o];unfold Opn.fine;exact decide_eq_false fun h=>by omega
   subst hv;clear fA;go_wp2;go_ret;exact⟨rfl,br.alloc nr _⟩
 have t3:decide (o.made<0)=false:=by simpa using h3
 by_cases h4:1099511627776<o.made
 · have t4:decide (1099511627776<o.made)=true:=by simpa using h4
   have hv:fb=false:=by rw [←fA.o];unfold Opn.fine;exact decide_eq_false fun h=>by omega
   subst hv;clear fA;go_wp2;go_ret;exact⟨rfl,br.alloc nr _⟩
 have t4:decide (1099511627776<o.made)=false:=by simpa using h4
 have hk:1≤o.kind∧o.kind≤14:=by omega
 have fF:=fine_bits o hk (by omega);rw [fA.o] at fF;have fI:=hid (uses_pat o.kind hk);obtain⟨gE,fB⟩:=zJS o.kind hk;have fD:=uses_any o.kind hk;obtain⟨s,hs⟩:=nM (zA1 o.kind);rw [hs] at fF fI gE fB fD;have gQ:=hid fF;clear fF;clear fA hs h1 h2 h3 h4;have fG:=hid fB;clear fB;go_upto_region 4 with (fail);have fR:Blk ((w.alloc (.cells (opC o A c).toArray 70)).alloc (.map #[] 0)) w.heap.size 70 (opC o A c):=(AT w _ _).alloc _
 have fW:zAt ((w.alloc (.cells (opC o A c).toArray 70)).alloc (.map #[] 0)) runK zKE 21 (w.heap.size+1) []:=by
  have:=zAt.made (w.alloc (.cells (opC o A c).toArray 70)) runK zKE 21;simpa using this
 have fX:Below w.heap.size w ((w.alloc (.cells (opC o A c).toArray 70)).alloc (.map #[] 0)):=(br.alloc nr _).alloc (by simp) _
 have gR:((w.alloc (.cells (opC o A c).toArray 70)).alloc (.map #[] 0)).heap.size=w.heap.size+2:=by simp
 change Code.wp _ _ _ _ ((w.alloc (.cells (opC o A c).toArray 70)).alloc (.map #[] 0));generalize (w.alloc (.cells (opC o A c).toArray 70)).alloc (.map #[] 0)=w0 at *;obtain⟨g,hg⟩:=nM (w.heap.size);rw [hg] at fR fW fX gR;simp only [hg];have gS:=hid hg;have gF:=hid fW;have gG:=hid fX;have z0:w0.cell? ⟨g,0,none⟩=some (.int .i64 o.kind):=fR.cell 0;have gH:=hid fR;clear hg fW fX fR t1 t2 t3 t4 gP;have gI:=fD w0;clear fD;go_wp2_with (go_at_call 61;refine gI.mono ?_;rintro e w1 ⟨rfl,fS⟩);have fT:Below w0.heap.size w0 (w1.iter s 0):=fS.trans ((zDc w1 s 0).mono fS.size);have fM:(w1.iter s 0).heap[w1.heap.size]? = some (.stringIter s 0):=World.iter_heap w1 s 0
 have gZ:g+2≤w1.heap.size:=by have:=fS.size;omega
 have jA:(w1.iter s 0).heap.size=w1.heap.size+1:=by simp [World.iter]
 clear fS;generalize w1.iter s 0=w2 at *;generalize w1.heap.size=r at *;have fC:Hid (Blk w2 g 70 (opC o A c)):=hid (gH.o.fresh fT);have fJ:zAt w2 runK zKE 21 (g+1) []:=gF.o.chg (Chg.of_below (B:=w0.heap.size) fT) (by omega);have fK:Hid (Below g w w2):=hid (gG.o.trans (fT.mono (by omega)));have gJ:=hid fM;clear fM;clear fT gH gF gG z0 gI
 go_loopw [5] (fun _ wr=>FineI g r s w (opC o A c) wr) (fun _ wr=>s.size-wr.iterPos r)
 case atStart=>exact⟨0,[],AF _,gJ,hid fJ,hid (fun z=>rfl),AD _,fK,fC⟩
 case round =>
  clear gJ fJ fK fC;obtain⟨pos,l,fY,hI,fJ,fE,gT,fK,fC⟩:=hrel;by_cases hp:pos<s.size
  · have fU:∀ ty,(AR (.pointer (some ⟨r,0,none⟩)) true ty).run AL wr=_:=fun ty=>zIs hI.o hp ty
    have fN:s[pos]'hp∈s.data.toList:=by rw [AB];exact Array.getElem_mem _
    have fO:=fG.o _ fN;rw [decode_ascii s pos hp fO] at fU;obtain⟨bt,fZ⟩:∃ bt:Nat,(s[pos]'hp).toNat=bt:=⟨_,rfl⟩;rw [fZ] at fU fO;have gA:=hid fZ;have gU:r<wr.heap.size:=(Array.getElem?_eq_some_iff.1 hI.o).1;have fV:=zH9 wr r s (pos+1);have gK:=hid (zJW gU s (pos+1));have gV:zAt (zCD wr r s (pos+1)) runK zKE 21 (g+1) l:=fJ.o.chg fV (by omega);have fP:=hid (fC.o.chg fV (by omega));have gB:=hid (fK.o.trans (fV.below (B:=g) (by omega) fun b hb e=>by omega))
    have gL:wr.iterPos r=pos:=by unfold World.iterPos;rw [hI.o]
    have gC:=hid gL;clear fZ fN fV hI fJ fC fK gL;generalize zCD wr r s (pos+1)=w3 at *
    go_wp2_with (first
     | (at_mapUpdate;refine zAZ _ rfl _ _ _ 136 (.inl rfl) kRun Tryz.underlying136 gV (by unfold maxLen;omega) rfl (bt:Int) rfl (keyR _ (by omega)) () rfl ?_;intro w6 fQ gM;have gW:=hid fQ;clear fQ;have gD:=hid (zAP gM);clear gM))
    have gN:w6.heap[r]? = some (.stringIter s (pos+1)):=(gD.o.block r (Array.getElem?_eq_some_iff.1 gK.o).1 (by omega)).trans gK.o;go_roundw
    case rel =>
     refine⟨pos+1,zA2 runK (bt:Int) () l,by omega,hid gN,gW,hid fun z=>?_,?_,hid (gB.o.trans (gD.o.below (B:=g) (by have:=fP.o.lt;omega) fun b hb e=>by omega)),hid (fP.o.chg gD.o (by omega))⟩
     · rw [zDf,fE.o z,List.take_add_one,List.any_append,Aq (by rw [AA];exact hp)];have e2:(s.data.toList[pos]'(by rw [AA];exact hp)).toNat=bt:=gA.o;simp only [Option.toList_some,List.any_cons,List.any_nil,AJ,e2];rw [Bool.or_comm]
       congr 1
       rw [zHQ];exact decide_eq_decide.2 ⟨fun e=>e.symm,fun e=>e.symm⟩
     · have:=zBi runK (bt:Int) () l;omega
    case measure =>
     rw [show w6.iterPos r=pos+1 by unfold World.iterPos;rw [gN]];rw [gC.o];omega
  · obtain rfl:pos=s.size:=by omega
    have fU:∀ ty,(AR (.pointer (some ⟨r,0,none⟩)) true ty).run AL wr=_:=fun ty=>zGp hI.o hp ty
    have lk:∀ (z:Int) (b:Bool),0≤z∧z≤1000→anyc z s=b→(Instr.lookup 136 (.map (some (g+1))) (.int .i32 z) false).run AL wr=.ok (.bool b) wr:=fun z b hz hb=>by
     have gX:(zeroValue 4).run AL wr=.ok (.bool false) wr:=by kernel_rfl
     have h9:=fJ.o.look (t:=136) kRun Tryz.underlying136 gX (keyR z (by omega));have fL:=fE.o z;rw [List.take_of_length_le (by rw [AA];exact AD _)] at fL;unfold anyc at hb;rw [hb] at fL;rw [show (Value.int .i32 z)=runK.val z from rfl,h9]
     cases gO:zAe z l with
     | none=>rw [gO] at fL;rw [←fL];rfl
     | some u=>rw [gO] at fL;rw [←fL];rfl
    have y1:=fC.o.cell 1;have y2:=fC.o.cell 2;have y3:=fC.o.cell 3;have y4:=fC.o.cell 4;have y5:=fC.o.cell 5;have y6:=fC.o.cell 6;have y7:=fC.o.cell 7;simp only [opC,List.getElem?_cons_succ,List.getElem?_cons_zero] at y1 y2 y3 y4 y5 y6 y7;go_upto_region 8 with (fail);clear fU hI fJ fE fC hp fY gT fG gE hk;have gY:=fI.o;clear fI;rcases gY with rfl | rfl | rfl | rfl | rfl | rfl | rfl | rfl
    all_goals
     first | have lp:=lk 112 true (by decide) (by decide) | have lp:=lk 112 false (by decide) (by decide)
     first | have lt:=lk 116 true (by decide) (by decide) | have lt:=lk 116 false (by decide) (by decide)
     first | have lo:=lk 111 true (by decide) (by decide) | have lo:=lk 111 false (by decide) (by decide)
     first | have ll:=lk 108 true (by decide) (by decide) | have ll:=lk 108 false (by decide) (by decide)
     first | have ld:=lk 100 true (by decide) (by decide) | have ld:=lk 100 false (by decide) (by decide)
     first | have lm:=lk 109 true (by decide) (by decide) | have lm:=lk 109 false (by decide) (by decide)
     first | have lf:=lk 102 true (by decide) (by decide) | have lf:=lk 102 false (by decide) (by decide)
     clear lk;go_wp2
    all_goals
     go_ret;refine⟨congrArg (fun b=>Ending.returned (Value.bool b)) ?_,by rw [gS.o];exact fK.o⟩;rw [gQ.o,Bool.eq_iff_iff];clear lp lt lo ll ld lm lf
     first
      | (simp [anyc,zD8, *];done)
      | (simp [anyc,zD8, *];omega)
      | (simp [anyc,zD8, *];intros;omega)
def setH (x:Hd) (k:Nat) (o:Slt) (iA:Option Addr) (ic:Nat) (dA:Option Addr) (dc:Nat):Hd :=
 {x with iA:=iA,ic:=ic,dA:=dA,dc:=dc,idx:=(zBe kB (k,zFt o) false (x.idx.zip x.dat)).map (·.1),dat:=(zBe kB (k,zFt o) false (x.idx.zip x.dat)).map (·.2),size:=if x.size<128 * ((k:Int)+1) then 128 * ((k:Int)+1) else x.size}
theorem Sees.chgR {w w1:World} {B size n:Nat} {A:Option Addr} {xs:List Value} {S:Nat→Prop} (h:Sees w B size A n xs) (hs:0<size) (hc:Chg S w w1) (hn:∀ b off,A=some ⟨b,off,none⟩→0<n→¬S b):Sees w1 B size A n xs:=by
 refine⟨h.len,fun h0=>?_⟩;obtain⟨b,off,e,hb,fA⟩:=h.at_ h0
 have hl:0<xs.length:=by rw [h.len];exact Nat.mul_pos h0 hs
 have fB:b<w.heap.size:=World.block_lt_of_cell? _ _ (fA 0 _ (Aq hl));exact⟨b,off,e,hb,fun j u hu=>(hc.cell (p:=⟨b,off+j,none⟩) fB (hn b off e h0)).trans (fA j u hu)⟩
theorem set_any (B:Nat) (x:Hd) (k:Nat) (o:Slt) (w:World) (hx:HdAt w B x) (hB:B≤w.heap.size) (ho:zHy o) (hl:x.idx.length≤1100) (hk:k≤1100) :
 Calls AL 117 #[hdV x,.int .i64 k,zGH o] w fun e w'=>(∃ iA ic dA dc,e=.returned (hdV (setH x k o iA ic dA dc))∧HdAt w' w'.heap.size (setH x k o iA ic dA dc)∧zGz w.heap.size iA∧zGz w.heap.size dA)∧Below w.heap.size w w':=by
 unfold hdV zGH;go_enter Tryz.func117,Tryz.ntmps117;go_upto_region 1 with (fail);have fP:Below w.heap.size w (((w.alloc (.cells (zAb x).toArray 123)).alloc (.cells #[.int .i64 (zB3 o),.string (zCk o)] 179)).alloc (.cells z8.toArray 123)):=((br.alloc nr _).alloc (by simp) _).alloc (by simp;omega) _;have fL:=((AT w 123 (zAb x)).alloc (.cells #[.int .i64 (zB3 o),.string (zCk o)] 179)).alloc (.cells z8.toArray 123)
 have gC:Blk (((w.alloc (.cells (zAb x).toArray 123)).alloc (.cells #[.int .i64 (zB3 o),.string (zCk o)] 179)).alloc (.cells z8.toArray 123)) (w.heap.size+1) 179 [.int .i64 (zB3 o),.string (zCk o)]:=by
  have:=(AT (w.alloc (.cells (zAb x).toArray 123)) 179 [.int .i64 (zB3 o),.string (zCk o)]).alloc (.cells z8.toArray 123);simpa using this
 have gD:Blk (((w.alloc (.cells (zAb x).toArray 123)).alloc (.cells #[.int .i64 (zB3 o),.string (zCk o)] 179)).alloc (.cells z8.toArray 123)) (w.heap.size+2) 123 z8:=by
  have:=AT ((w.alloc (.cells (zAb x).toArray 123)).alloc (.cells #[.int .i64 (zB3 o),.string (zCk o)] 179)) 123 z8;simpa using this
 have gE:=(hx.more hB).below fP;generalize ((w.alloc (.cells (zAb x).toArray 123)).alloc (.cells #[.int .i64 (zB3 o),.string (zCk o)] 179)).alloc (.cells #[.int .i64 0,.int .i64 0,.int .i64 0,.int .i64 0,.int .i64 0,.int .i64 0,.slice none 0 0,.slice none 0 0] 123)=w0 at *;generalize hg:w.heap.size=g at *;have fQ:=hid hg;clear hg hx
 go_wp2_with (first
  | (refine AV rfl 179 (.tmp 5) rfl (g+1) rfl 179 _ _ _ gC rfl rfl rfl ?_))
 refine (zFm o w0 ho).mono ?_;rintro e w1 ⟨rfl,fI⟩;have fM:=zE3 o ho;have gF:=fL.fresh fI;have fR:=gD.fresh fI;have gG:=gE.below (fI.mono (by have:=fL.lt;omega));have gH:=fP.trans (fI.mono (by have:=fL.lt;omega));clear fL gD gC fP fI gE;have fS:Blk (w1.alloc (.cells AP 187)) w1.heap.size 187 (bvs zBD):=zBf rfl;unfold zB6;generalize hs:zFt o=s at *;have fT:=hid hs;clear hs
 go_upto_region 2 with (first
  | (refine AW rfl 187 (.tmp 7) (.tmp 13) rfl w1.heap.size (bvs s).toArray rfl (by rfl) 187 _ fS (zAD fM) (by rw [As,As,zAc,zAc,zAs,fM]) (zBa s) ?_))
 have hC:Chg (fun b=>w1.heap.size≤b) w1 ((w1.alloc (.cells AP 187)).setRow w1.heap.size (bvs s).toArray):=((Chg.refl _ w1).alloc _).setRow (fun _=>AD _) _;have gI:=fR.lt;have gJ:=gF.chg hC (by omega);have fF:=fR.chg hC (by omega)
 have fB:Below g w1 _:=hC.below (by omega) fun b hb h=>by omega
 have gK:=gG.below fB;have gL:=gH.trans fB;have gM:Blk ((w1.alloc (.cells AP 187)).setRow w1.heap.size (bvs s).toArray) w1.heap.size 187 (bvs s):=AX _ w1.heap.size _ _ _ _ fS;clear hC gF fR gG gH fS fB;generalize (w1.alloc (.cells AP 187)).setRow w1.heap.size (bvs s).toArray=w2 at *;generalize w1.heap.size=z at *
 go_wp2_with (first
  | (refine AV rfl 123 (.tmp 3) rfl g rfl 123 (zAb x).toArray _ _ gJ AQ rfl rfl ?_)
  | (refine AV rfl 187 (.tmp 7) rfl z rfl 187 (bvs s).toArray _ _ gM Tryz.underlying187 rfl (zAD fM) ?_))
 refine (zJb g x k s w2 gK (by have:=fF.lt;omega) fM hl).mono ?_;rintro e w3 ⟨⟨iA,ic,dA,dc,rfl,fU,gN,gO⟩,fV⟩;have gP:Hid (∀ a,iA=some a→g+2<a.block):=hid fun a e=>AG fF.lt (gN a e);have gQ:Hid (∀ a,dA=some a→g+2<a.block):=hid fun a e=>AG fF.lt (gO a e);clear gN gO;have fW:=fF.fresh fV;have gR:=gL.trans (fV.mono (by have:=fF.lt;omega));clear gJ gM gK gL fV fF;obtain⟨y,hy⟩:∃ y:Hd,({x with iA:=iA,ic:=ic,dA:=dA,dc:=dc,idx:=(zBe kB (k,s) false (x.idx.zip x.dat)).map (·.1),dat:=(zBe kB (k,s) false (x.idx.zip x.dat)).map (·.2)}:Hd)=y:=⟨_,rfl⟩;have fN:=hid hy;rw [hy] at fU ⊢;clear hy;have fX:=AT w3 123 z8;unfold hdV
 go_upto_region 3 with (first
  | (refine AW rfl 123 (.tmp 9) (.tmp 18) rfl w3.heap.size (zAb y).toArray rfl (by rfl) 123 _ fX rfl rfl (zHb y) ?_))
 have hC:Chg (fun b=>w3.heap.size≤b) w3 ((w3.alloc (.cells z8.toArray 123)).setRow w3.heap.size (zAb y).toArray):=((Chg.refl _ w3).alloc _).setRow (fun _=>AD _) _;have gI:=fW.lt;have fY:=fW.chg hC (by omega)
 have fB:Below w3.heap.size w3 _:=hC.below nr fun b hb h=>by omega
 have gS:=fU.below fB;have gT:=gR.trans (fB.mono (by omega));have fG:Blk ((w3.alloc (.cells z8.toArray 123)).setRow w3.heap.size (zAb y).toArray) w3.heap.size 123 (zAb y):=AX _ w3.heap.size _ _ _ _ fX;clear hC fW fU gR fX fB;generalize (w3.alloc (.cells #[.int .i64 0,.int .i64 0,.int .i64 0,.int .i64 0,.int .i64 0,.int .i64 0,.slice none 0 0,.slice none 0 0] 123)).setRow w3.heap.size (zAb y).toArray=w4 at *;generalize w3.heap.size=u at *;have y3:w4.cell? ⟨u,3,none⟩=some (.int .i64 y.size):=fG.cell 3;have q3:=fG.frozen 3
 have gW:g+2<u:=by have:=fY.lt;have:=gI;omega
 have gU:y.size=x.size:=by rw [←fN.o]
 have fC:=hid fY;have fZ:=hid gT;have gA:=hid gS;have fJ:=hid gU;clear fY gT gS gU
 have key:∀ (z:Hd) (w5:World),Blk w5 u 123 (zAb z)→Chg (fun b=>b=u) w4 w5→z=setH x k o iA ic dA dc→(∃ iA ic dA dc,Ending.returned (.agg (zAb z).toArray)=.returned (.agg (zAb (setH x k o iA ic dA dc)).toArray)∧HdAt (w5.setRow (g+2) (zAb z).toArray) (w5.setRow (g+2) (zAb z).toArray).heap.size (setH x k o iA ic dA dc)∧zGz w.heap.size iA∧zGz w.heap.size dA)∧Below w.heap.size w (w5.setRow (g+2) (zAb z).toArray):=by
  intro z w5 hz hc e;have fO:Chg (fun b=>b=u∨b=g+2) w4 (w5.setRow (g+2) (zAb z).toArray):=(hc.mono (U:=fun b=>b=u∨b=g+2) fun b _ h=>.inl h).setRow (g:=g+2) (fun _=>.inr rfl) _;refine⟨⟨iA,ic,dA,dc,by rw [e],?_,fun a e=>by have:=gP.o a e;have:=fQ.o;omega,fun a e=>by have:=gQ.o a e;have:=fQ.o;omega⟩,?_⟩
  · have h1:HdAt w4 u (setH x k o iA ic dA dc):=by
     have h9:=gA.o;rw [←fN.o,←fT.o] at h9;exact⟨h9.len,h9.sec,h9.idx,h9.dat⟩
    have h2:HdAt (w5.setRow (g+2) (zAb z).toArray) u (setH x k o iA ic dA dc):=⟨h1.len,h1.sec,h1.idx.chgR (by decide) fO (fun b off e hn hb=>?_),h1.dat.chgR (by decide) fO (fun b off e hn hb=>?_)⟩
    · exact h2.more (by have:=fO.size;have:=hz.lt;have:=hc.size;simp;omega)
    · obtain⟨b',off',e',gV,_⟩:=h1.idx.at_ hn;rw [e] at e';injection e' with e';injection e' with e1 _ _;have:=gP.o _ e;simp only at this;omega
    · obtain⟨b',off',e',gV,_⟩:=h1.dat.at_ hn;rw [e] at e';injection e' with e';injection e' with e1 _ _;have:=gQ.o _ e;simp only at this;omega
  · rw [fQ.o];exact fZ.o.trans (fO.below (by have:=fC.o.lt;omega) fun b hb h=>by omega)
 have fA:=hid key;clear key;by_cases fH:x.size<128 * ((k:Int)+1)
 · have t1:decide (x.size<128 * ((k:Int)+1))=true:=by simpa using fH
   have hq:Blk (w4.setCell ⟨u,3,none⟩ (.int .i64 (128 * ((k:Int)+1)))) u 123 (zAb {y with size:=128 * ((k:Int)+1)}):=fG.set_ 3 _;have gB:Chg (fun b=>b=u) w4 (w4.setCell ⟨u,3,none⟩ (.int .i64 (128 * ((k:Int)+1)))):=(Chg.refl (fun b=>b=u) w4).setCell (p:=⟨u,3,none⟩) (fun _=>rfl) _;have fK:Blk (w4.setCell ⟨u,3,none⟩ (.int .i64 (128 * ((k:Int)+1)))) (g+2) 123 z8:=fC.o.chg gB (by omega);have fD:=hid (fA.o _ _ hq gB (by rw [←fN.o,←fT.o];unfold setH;rw [if_pos fH]));have fE:=AX (w4.setCell ⟨u,3,none⟩ (.int .i64 (128 * ((k:Int)+1)))) (g+2) _ (zAb {y with size:=128 * ((k:Int)+1)}).toArray _ _ fK;rw [fJ.o] at y3;clear fH gB fA fG;generalize hz:({y with size:=128 * ((k:Int)+1)}:Hd)=z at *;clear hz
   go_wp2_with (first
    | (refine AV rfl 123 (.tmp 9) rfl u rfl 123 (zAb z).toArray _ _ hq AQ rfl rfl ?_)
    | (refine AW rfl 123 (.tmp 6) (.tmp 29) rfl (g+2) (zAb z).toArray rfl (by rfl) 123 _ fK rfl rfl (zHb z) ?_))
   refine AY (AZ rfl _ _ (g+2) 123 (zAb z).toArray (0,0) _ rfl fE AQ rfl rfl) rfl ?_;exact fD.o
 · have t1:decide (x.size<128 * ((k:Int)+1))=false:=by simpa using fH
   have fK:Blk w4 (g+2) 123 z8:=fC.o;have fD:=hid (fA.o _ _ fG (Chg.refl _ w4) (by rw [←fN.o,←fT.o];unfold setH;rw [if_neg fH]));have fE:=AX w4 (g+2) _ (zAb y).toArray _ _ fK;rw [fJ.o] at y3;clear fH fA
   go_wp2_with (first
    | (refine AV rfl 123 (.tmp 9) rfl u rfl 123 (zAb y).toArray _ _ fG AQ rfl rfl ?_)
    | (refine AW rfl 123 (.tmp 6) (.tmp 29) rfl (g+2) (zAb y).toArray rfl (by rfl) 123 _ fK rfl rfl (zHb y) ?_))
   refine AY (AZ rfl _ _ (g+2) 123 (zAb y).toArray (0,0) _ rfl fE AQ rfl rfl) rfl ?_;exact fD.o
def slN (n:PN) (nm:ByteArray):Slt:=if nm=emp then none else (zAe nm n.names).map fun i=>(i,nm)
def zAu (n:PN):List Slt:=n.slots.map (slN n)
def zFW (n:PN):List (List UInt8):=n.data.map (·.2)++(zAu n).map zFt
structure SlOk (n:PN):Prop where
 has:∀ nm∈n.slots,nm≠emp→(zAe nm n.names).isSome=true
 one:n.slots.Pairwise fun a b=>a=emp∨b=emp∨a≠b
 size:n.dir=true→n.size=128 * n.slots.length
 ok:∀ p∈n.names,zEo p.2 p.1
 at_:∀ p∈n.names,p.1∈n.slots
def zB5 (d:List (Nat×List UInt8)) (z:Nat):Prop:=∀ p∈d,p.1 * 128<z∧∀ (j:Nat) (h:j<p.2.length),z≤p.1 * 128+j→p.2[j]=0
structure RepN (x:Hd) (i:Nat) (n:PN):Prop where
 ino:x.ino=(i:Int)
 kind:x.kind=n.kind
 links:x.links=(n.links:Int)
 size:x.size=(n.size:Int)
 made:x.made=(n.made:Int)
 idx:x.idx=n.keys
 dat:x.dat=zFW n
 sl:SlOk n
 tl:zB5 n.data n.size
inductive RepL:List Hd→List (Nat×PN)→Prop
 | nil:RepL [] []
 | cons {x:Hd} {p:Nat×PN} {l:List Hd} {m:List (Nat×PN)}:RepN x p.1 p.2→RepL l m→RepL (x::l) (p::m)
structure RepT (t:Tr) (T:PT):Prop where
 sec:t.sectors=(T.sectors:Int)
 ino:t.inodes=(T.inodes:Int)
 all:RepL t.l T.nodes
 cap:t.l.length≤t.c
section
variable {l:List Hd} {m:List (Nat×PN)} {x:Hd} {i:Nat} {n:PN}
theorem RepL.len:∀ {l:List Hd} {m:List (Nat×PN)},RepL l m→l.length=m.length
 | _,_,.nil=>rfl
 | _,_,.cons _ h=>by rw [Ah,Ah,RepL.len h]
theorem RepL.mem:∀ {l:List Hd} {m:List (Nat×PN)},RepL l m→∀ {x},x∈l→∃ p∈m,RepN x p.1 p.2
 | _,_,.nil,_,h=>by cases h
 | _,_,.cons (p:=p) h1 h2,x,h=>by
  rcases Ap.1 h with rfl | h
  · exact⟨p,Af,h1⟩
  · obtain⟨q,hq,h3⟩:=RepL.mem h2 h;exact⟨q,Ag _ hq,h3⟩
theorem RepL.get:∀ {l:List Hd} {m:List (Nat×PN)},RepL l m→∀ {i n},zAe i m=some n→∃ x∈l,RepN x i n
 | _,_,.nil,_,_,h=>by cases h
 | _,_,.cons (x:=x) (p:=p) h1 h2,i,n,h=>by
  rw [zAe] at h
  split at h
  · rename_i e;have h:=Option.some.inj h;exact⟨x,Af,by rw [←e,←h];exact h1⟩
  · obtain⟨y,hy,h3⟩:=RepL.get h2 h;exact⟨y,Ag _ hy,h3⟩
theorem RepL.uniq (h:RepL l m) (hr:zBo zAG m) (hx:x∈l):∀ y∈l,y.ino=x.ino→y=x:=by
 induction h with
 | nil=>cases hx
 | cons h1 h2 ih =>
  rename_i x0 p0 l0 m0;obtain⟨h3,h4⟩:=At.1 hr
  have fA:∀ y∈l0,x0.ino<y.ino:=fun y hy=>by
   obtain⟨q,hq,fB⟩:=h2.mem hy;have:=h3 q hq;rw [h1.ino,fB.ino];simp only [zAG,decide_eq_true_eq] at this;omega
  intro y hy e;rcases Ap.1 hx with hx1 | hx1
  · rcases Ap.1 hy with hy1 | hy1
    · rw [hx1,hy1]
    · have:=fA y hy1;rw [hx1] at e;omega
  · rcases Ap.1 hy with hy1 | hy1
    · have:=fA x hx1;rw [hy1] at e;omega
    · exact ih h4 hx1 y hy1 e
theorem zGi:∀ {l:List Hd} {m:List (Nat×PN)},RepL l m→(∀ p∈m,i<p.1)→(hx:x.ino=(i:Int))→zBe kH x true l=l
 | _,_,.nil,_,_=>rfl
 | _,_,.cons (x:=y) (p:=p) h1 h2,hp,hx=>by
  have h3:=hp p Af
  have fA:¬kH y=kH x:=by show ¬y.ino=x.ino;rw [h1.ino,hx];omega
  rw [zBe,if_neg (by simp),if_neg fA,Bool.true_or,zGi h2 (fun q hq=>hp q (Ag _ hq)) hx];rfl
theorem zI8 {m:List (Nat×PN)} (h:∀ p∈m,i<p.1):zBB i m=m:=by
 unfold zBB;rw [List.filter_eq_self];intro p hp;have:=h p hp;simp;omega
theorem rep_ins (hx:RepN x i n):∀ {l:List Hd} {m:List (Nat×PN)},RepL l m→zBo zAG m→RepL (zBe kH x false l) (zA2 zAG i n m)
 | _,_,.nil,_=>.cons (p:=(i,n)) hx .nil
 | _,_,.cons (x:=y) (p:=p) (l:=l) (m:=m) h1 h2,hr=>by
  obtain⟨h3,h4⟩:=At.1 hr
  have h3:∀ q∈m,p.1<q.1:=fun q hq=>by simpa [zAG] using h3 q hq
  have fA:kH y=(p.1:Int):=h1.ino;have fB:kH x=(i:Int):=hx.ino;rw [zBe,fA,fB];rcases Nat.lt_trichotomy p.1 i with hlt | heq | hgt
  · have c1:¬((false=false)∧(i:Int)≤(p.1:Int)):=fun h=>by omega
    have c2:¬((p.1:Int)=(i:Int)):=by omega
    have c3:decide ((i:Int)≤(p.1:Int))=false:=by simp;omega
    rw [if_neg c1,if_neg c2,c3,AJ]
    have e:zA2 zAG i n (p::m)=p::zA2 zAG i n m:=by
     unfold zA2
     have e1:zBB i (p::m)=p::zBB i m:=by
      unfold zBB;rw [Au,if_pos (by simp;omega)]
     rw [e1,zCi,if_neg (by simp [zAG];omega)]
    rw [e];exact .cons h1 (rep_ins hx h2 h4)
  · have c1:(false=false)∧(i:Int)≤(p.1:Int):=⟨rfl,by omega⟩
    have c2:(p.1:Int)=(i:Int):=by omega
    have c3:decide ((i:Int)≤(p.1:Int))=true:=by simp;omega
    rw [if_pos c1,if_pos c2,c3,Bool.or_true,zGi h2 (i:=i) (fun q hq=>by have:=h3 q hq;omega) hx.ino]
    have e:zA2 zAG i n (p::m)=(i,n)::m:=by
     unfold zA2
     have e1:zBB i (p::m)=m:=by
      have:=zI8 (i:=i) (m:=m) fun q hq=>by have:=h3 q hq;omega
      unfold zBB at this ⊢;rw [Au,if_neg (by simp;omega)];exact this
     rw [e1]
     cases m with
     | nil=>rfl
     | cons q r=>rw [zCi,if_pos (by have:=h3 q Af;simp [zAG];omega)]
    rw [e];exact .cons (p:=(i,n)) hx h2
  · have c1:(false=false)∧(i:Int)≤(p.1:Int):=⟨rfl,by omega⟩
    have c2:¬((p.1:Int)=(i:Int)):=by omega
    have c3:decide ((i:Int)≤(p.1:Int))=true:=by simp;omega
    rw [if_pos c1,if_neg c2,c3,Bool.or_true,zGi h2 (i:=i) (fun q hq=>by have:=h3 q hq;omega) hx.ino]
    have e:zA2 zAG i n (p::m)=(i,n)::p::m:=by
     unfold zA2
     rw [zI8 (i:=i) (m:=p::m) fun q hq=>by
      rcases Ap.1 hq with rfl | hq
      · omega
      · have:=h3 q hq;omega,zCi,if_pos (by simp [zAG];omega)]
    rw [e];exact .cons (p:=(i,n)) hx (.cons h1 h2)
theorem rep_del:∀ {l:List Hd} {m:List (Nat×PN)},RepL l m→RepL (l.filter fun y=>decide (y.ino≠(i:Int))) (zBB i m)
 | _,_,.nil=>.nil
 | _,_,.cons (x:=y) (p:=p) h1 h2=>by
  have ih:=rep_del h2;unfold zBB at ih ⊢;rw [Au,Au,h1.ino];by_cases e:p.1=i
  · rw [if_neg (by simp;omega),if_neg (by simp [e])];exact ih
  · rw [if_pos (by simp;omega),if_pos (by simp [e])];exact .cons h1 ih
theorem zFe {n:PN} (h:n.Ok):n.keys.Pairwise (· < ·)∧∀ k∈n.keys,k≤1067:=by
 unfold PN.keys
 cases hd:n.dir with
 | true =>
  rw [h.dd hd];refine⟨by simpa using List.pairwise_lt_range,fun k hk=>?_⟩;have:=h.slots
  simp at hk
  omega
 | false =>
  rw [(h.df hd).1];simp only [Ak,List.range_zero,Am];refine⟨?_,fun k hk=>?_⟩
  · rw [List.pairwise_map];exact h.dris.imp fun {a b} fA=>by simpa [zAG] using fA
  · obtain⟨p,hp,rfl⟩:=List.mem_map.1 hk;exact h.keys p hp
theorem zG4 {x:Hd} {i:Nat} {n:PN} (h:RepN x i n) (ho:n.Ok):zBp x.idx=n.count:=by
 rw [h.idx];exact zKu (zFe ho).1 (zFe ho).2
theorem zJo:∀ {l:List Hd} {m:List (Nat×PN)},RepL l m→(∀ p∈m,p.2.Ok)→zCG l=(m.map fun p=>p.2.count).sum
 | _,_,.nil,_=>rfl
 | _,_,.cons (x:=y) (p:=p) (l:=l) (m:=m) h1 h2,ho=>by
  have ih:=zJo h2 fun q hq=>ho q (Ag _ hq)
  have e:zCG (y::l)=zBp y.idx+zCG l:=by unfold zCG;rw [An,List.sum_cons]
  rw [e,ih,zG4 h1 (ho p Af),An,List.sum_cons]
theorem zHJ {l:List Hd} {m:List (Nat×PN)} (h:RepL l m) (ho:∀ p∈m,p.2.Ok) (hl:m.length≤512):Small l:=by
 refine⟨by rw [h.len];omega,fun x hx=>?_⟩;obtain⟨p,hp,hr⟩:=h.mem hx;have h1:=ho p hp;rw [hr.idx];refine⟨?_,fun k hk=>by have:=(zFe h1).2 k hk;omega⟩;have h2:=h1.dlen;have h3:=h1.slots
 have:p.2.keys.length=p.2.data.length+p.2.slots.length:=by simp [PN.keys]
 cases hd:p.2.dir with
 | true=>rw [h1.dd hd] at this;simp at this;omega
 | false=>rw [(h1.df hd).1] at this;simp at this;omega
end
theorem RepT.used {t:Tr} {T:PT} (h:RepT t T) (ho:T.Ok):zCG t.l=T.used:=zJo h.all fun p hp=>(ho.node p hp).1
theorem RepT.small {t:Tr} {T:PT} (h:RepT t T) (ho:T.Ok):Small t.l:=zHJ h.all (fun p hp=>(ho.node p hp).1) ho.len
theorem RepT.upd {t:Tr} {T:PT} (h:RepT t T) (ho:T.Ok) {x:Hd} {i:Nat} {n:PN} (hx:RepN x i n) (A:Option Addr) (c:Nat) (hc:(zBe kH x false t.l).length≤c) (bi:Int):RepT ⟨t.sectors,t.inodes,bi,A,c,zBe kH x false t.l⟩ (T.upd i n) :=
 ⟨h.sec,h.ino,rep_ins hx h.all ho.ris,hc⟩
theorem RepT.del {t:Tr} {T:PT} (h:RepT t T) (i:Nat) (A:Option Addr) (c:Nat) (hc:(t.l.filter fun y=>decide (y.ino≠(i:Int))).length≤c) (bi:Int):RepT ⟨t.sectors,t.inodes,bi,A,c,t.l.filter fun y=>decide (y.ino≠(i:Int))⟩ (T.del i) :=
 ⟨h.sec,h.ino,rep_del h.all,hc⟩
theorem zG7:∀ {s:List UInt8},nd s=false→0≤Ad s [47,47]
 | [],h=>by cases h
 | b::l,h=>by
  unfold Ad;by_cases hp:([47,47]:List UInt8).isPrefixOf (b::l)=true
  · rw [if_pos hp];exact Int.le_refl 0
  · rw [if_neg hp]
    have h2:nd l=false:=by
     rw [nd,Bool.and_eq_false_iff] at h;rcases h with h | h
     · exfalso
       apply hp
       cases l with
       | nil=>simp at h
       | cons c l=>simp at h;simp [h.1,h.2]
     · exact h
    have ih:=zG7 h2
    have:¬(Ad l [47,47]==-1)=true:=fun e=>by have:=beq_iff_eq.1 e;omega
    simp only [this,Bool.false_eq_true,if_false];omega
theorem nd_two:∀ {s:List UInt8} {j:Nat},s[j]? = some 47→s[j+1]? = some 47→nd s=false
 | [],_,h,_=>by simp at h
 | b::l,0,h1,h2=>by
  simp at h1 h2
  rw [nd,h1,List.head?_eq_getElem?,h2];rfl
 | b::l,j+1,h1,h2=>by
  rw [nd,nd_two (s:=l) (j:=j) (by simpa using h1) (by simpa using h2),Bool.and_false]
theorem zF9 {p:ByteArray} (h:400<p.size∨p.data.toList[0]?≠some 47):spl p=([],70):=by
 unfold spl;rw [if_pos];refine h.imp id fun h=>?_;unfold Aa
 cases hp:p.data.toList with
 | nil=>rfl
 | cons b r=>rw [hp] at h;simp at h;simp [Ai,Ne.symm h]
theorem spl_bad {p:ByteArray} {j:Nat} (h1:p.data.toList[j+1]? = some 47) (h2:p.data.toList[j]? = some 47∨j+2=p.size):spl p=([],70):=by
 have hl:=(Av.1 h1).1;rw [AA] at hl;have hl:j+1<p.size:=hl;unfold spl;by_cases h0:400<p.size∨Aa p.data.toList [47]=false
 · rw [if_pos h0]
 · have fA:p≠slash:=fun e=>by rw [e] at hl;exact absurd hl (by show ¬(j+1<1);omega)
   rw [if_neg h0,if_neg fA,if_pos];rcases h2 with h2 | h2
   · right
     unfold Lib.contains;exact decide_eq_true (zG7 (nd_two h2 h1))
   · left
     unfold Lib.hasSuffix;rw [List.isSuffixOf_iff_suffix];refine⟨p.data.toList.take (j+1),?_⟩;rw [show ([47]:List UInt8)=p.data.toList.drop (j+1) from ?_,List.take_append_drop];rw [List.drop_eq_getElem_cons (by rw [AA];exact hl),List.drop_eq_nil_of_le (by rw [AA];show p.size≤_;omega)];obtain⟨h3,h4⟩:=Av.1 h1;rw [h4]
theorem spl_form {p:ByteArray} {ns:List ByteArray} (hs:p.size≤400) (h:p.data.toList=zCc ns) (hn:ns≠[]) (hc:∀ x∈ns,seg x):spl p=if ns.all chk=true then (ns,0) else ([],71):=by
 have e:p=pth ns:=zDH (by rw [zEG hn,h]);rw [e] at hs ⊢;exact spl_seg hc hs
theorem spl_one {p:ByteArray} (h:p.size=1) (h0:p.data.toList[0]? = some 47):spl p=([],0):=by
 have e:p=slash:=by
  apply zDH
  cases hp:p.data.toList with
  | nil=>rw [hp] at h0;cases h0
  | cons b r =>
   rw [hp] at h0
   have:r=[]:=by
    have hl:p.data.toList.length=1:=by rw [AA];exact h
    rw [hp] at hl;exact List.eq_nil_of_length_eq_zero (by simpa using hl)
   simp at h0
   rw [h0,this];rfl
 rw [e];exact zJz
def zHd (out:List ByteArray) (b:UInt8):List ByteArray:=out.dropLast++[⟨((out.getLastD emp).data.toList++[b]).toArray⟩]
def zH4 (p:List UInt8) (i:Nat) (out:List ByteArray):Prop:=(p[i-1]? = some 47∧zCc out++[47]=p.take i∨p[i-1]?≠some 47∧zCc out=p.take i∧out≠[])∧∀ x∈out,seg x
theorem pthL_addB {out:List ByteArray} (h:out≠[]) (b:UInt8):zCc (zHd out b)=zCc out++[b]:=by
 unfold zHd;rw [zB9]
 have e:out=out.dropLast++[out.getLastD emp]:=by
  rw [Aw,Ax h];exact (List.dropLast_concat_getLast h).symm
 conv=>rhs;rw [e,zB9]
 simp [zCc]
theorem cutt_1 {p:List UInt8} (h:p[0]? = some 47):zH4 p 1 []:=by
 refine⟨.inl ⟨h,?_⟩,fun x hx=>by cases hx⟩
 cases p with
 | nil=>cases h
 | cons b r=>simp at h;simp [zCc,h]
section
variable {p:List UInt8} {i:Nat} {out:List ByteArray} {b:UInt8}
theorem zH4.slash (h:zH4 p i out) (hb:p[i]? = some 47) (hn:p[i-1]?≠some 47):zH4 p (i+1) out:=by
 obtain⟨hl,e⟩:=Av.1 hb;refine⟨.inl ⟨hb,?_⟩,h.2⟩;rcases h.1 with ⟨h1,_⟩ | ⟨_,h2,_⟩
 · exact absurd h1 hn
 · rw [h2,Ay hl,e]
theorem zJs {x:ByteArray} (h:(47:UInt8) ∉ x.data.toList) (hb:b≠47):seg ⟨(x.data.toList++[b]).toArray⟩:=by
 refine⟨by simp,?_⟩;simp only [Az,Ao,not_or];exact⟨h,Ne.symm hb⟩
theorem zH4.first (h:zH4 p i out) (hb:p[i]? = some b) (fA:b≠47) (hn:p[i-1]? = some 47):zH4 p (i+1) (zHd (out++[emp]) b):=by
 obtain⟨hl,e⟩:=Av.1 hb
 have e2:zHd (out++[emp]) b=out++[⟨[b].toArray⟩]:=by
  unfold zHd;rw [List.dropLast_concat,Aw,List.getLast?_concat];rfl
 rw [e2];refine⟨.inr ⟨by rw [AH,hb];simpa using fA,?_,by simp⟩,fun x hx=>?_⟩
 · rcases h.1 with ⟨_,h2⟩ | ⟨h1,_⟩
   · rw [zB9,Ay hl,←h2,e];simp [zCc]
   · exact absurd hn h1
 · rcases Az.1 hx with hx | hx
   · exact h.2 x hx
   · rw [Ao.1 hx];exact zJs (x:=emp) (by intro h;cases h) fA
theorem zH4.more (h:zH4 p i out) (hb:p[i]? = some b) (fA:b≠47) (hn:p[i-1]?≠some 47):out≠[]∧zH4 p (i+1) (zHd out b):=by
 obtain⟨hl,e⟩:=Av.1 hb;rcases h.1 with ⟨h1,_⟩ | ⟨_,h2,h3⟩
 · exact absurd h1 hn
 refine⟨h3,.inr ⟨by rw [AH,hb];simpa using fA,?_,?_⟩,fun x hx=>?_⟩
 · rw [pthL_addB h3,Ay hl,h2,e]
 · unfold zHd;simp
 · unfold zHd at hx;rcases Az.1 hx with hx | hx
   · exact h.2 x ((List.dropLast_sublist out).subset hx)
   · rw [Ao.1 hx];refine zJs (h.2 _ ?_).2 fA;rw [Aw,Ax h3];exact Al h3
theorem zH4.all (h:zH4 p p.length out) (hl:p[p.length-1]?≠some 47):p=zCc out∧out≠[]:=by
 rcases h.1 with ⟨h1,_⟩ | ⟨_,h2,h3⟩
 · exact absurd h1 hl
 · rw [List.take_length] at h2;exact⟨h2.symm,h3⟩
end
end Go.Proofs.YtolpcfhfcdkokaaGreatDoor
