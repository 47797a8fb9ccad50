/- Joined out of SCount..PSplit. -/
import Derived.Laws.RangeAny
import Derived.Test.YtolpcfhfcdkokaaGreatDoorQ23
set_option maxHeartbeats 16000000
set_option maxRecDepth 100000
set_option linter.unusedSimpArgs false
set_option linter.unusedVariables false
namespace Go.Proofs.YtolpcfhfcdkokaaGreatDoor
open Lib (hid)
theorem zFc {α:Type} [DecidableEq α] (p:α→Bool) (j:α):∀ L:List α,L.Nodup→j∈L→(L.filter fun x=>p x || decide (x=j)).length=(L.filter p).length+if p j=true then 0 else 1
 | [],_,h=>by cases h
 | y::r,hn,h=>by
  obtain⟨h1,h2⟩:=List.nodup_cons.1 hn;by_cases e:y=j
  · subst e
    have hr:(r.filter fun x=>p x || decide (x=y))=r.filter p:=by
     refine List.filter_congr fun x hx=>?_;have:x≠y:=fun e=>h1 (e▸hx);simp [this]
    cases hp:p y with
    | true=>simp [List.filter_cons,hp,hr]
    | false=>simp [List.filter_cons,hp,hr]
  · have hj:j∈r:=by
     rcases List.mem_cons.1 h with h | h
     · exact absurd h.symm e
     · exact h
    have ih:=zFc p j r h2 hj
    cases hp:p y with
    | true=>simp only [List.filter_cons,hp,Bool.true_or,if_true,List.length_cons,ih];omega
    | false=>simp only [List.filter_cons,hp,e,decide_false,Bool.or_false,Bool.false_eq_true,if_false,ih]
def tbl (a:List Nat) (j:Nat):Bool:=a.any fun k=>decide (44≤k∧(k-44) / 32=j)
def zJO (a:List Nat):Nat:=((List.range 32).filter (tbl a)).length
def sgl (a:List Nat):Nat:=if a.any (fun k=>decide (12≤k∧k<44))=true then 1 else 0
def dbl (a:List Nat):Nat:=if a.any (fun k=>decide (44≤k))=true then 1 else 0
theorem zEm (a:List Nat) (k j:Nat):tbl (a++[k]) j=(tbl a j || decide (44≤k∧(k-44) / 32=j)):=by unfold tbl;rw [List.any_append];simp
theorem tblN_snoc (a:List Nat) (k:Nat) (h:k≤1067):zJO (a++[k])=zJO a+if 44≤k∧tbl a ((k-44) / 32)=false then 1 else 0:=by
 unfold zJO;by_cases fA:44≤k
 · have e:(List.range 32).filter (tbl (a++[k]))=(List.range 32).filter fun x=>tbl a x || decide (x=(k-44) / 32):=by
    refine List.filter_congr fun x _=>?_;rw [zEm]
    congr 1
    exact decide_eq_decide.2 ⟨fun h=>h.2.symm,fun h=>⟨fA,h.symm⟩⟩
   rw [e,zFc _ _ _ List.nodup_range (List.mem_range.2 (by omega))];cases tbl a ((k-44) / 32)<;>simp [fA]
 · have e:(List.range 32).filter (tbl (a++[k]))=(List.range 32).filter (tbl a):=by
    refine List.filter_congr fun x _=>?_;rw [zEm];simp [fA]
   rw [e,if_neg (by omega)];rfl
def LaOk (a:List Nat) (la:Int):Prop:=(∀ k∈a,44≤k→∃ j:Nat,la=(j:Int)∧tbl a j=true∧(k-44) / 32≤j)∧((∀ k∈a,¬44≤k)→la=-1)
theorem zFy (m:Nat):∀ (a:List Nat) (r:List Nat),(a++r).Pairwise (· < ·)→(∀ k∈a++r,k≤1067)→∀ la,LaOk a la→r.foldl zBW (m+zJO a,sgl a,dbl a,la)=(m+zJO (a++r),sgl (a++r),dbl (a++r),(r.foldl zBW (m+zJO a,sgl a,dbl a,la)).2.2.2)
 | a,[],_,_,la,_=>by simp
 | a,k::r,hs,hb,la,hl=>by
  have hk:=hb k (by simp);have fC:∀ y∈a,y<k:=fun y hy=>(List.pairwise_append.1 hs).2.2 y hy k List.mem_cons_self
  have e1:a++k::r=(a++[k])++r:=by simp
  have key:∃ la',zBW (m+zJO a,sgl a,dbl a,la) k=(m+zJO (a++[k]),sgl (a++[k]),dbl (a++[k]),la')∧LaOk (a++[k]) la':=by
   have fF:sgl (a++[k])=if 12≤k∧k<44 then 1 else sgl a:=by
    unfold sgl;rw [List.any_append];by_cases h:12≤k∧k<44
    · simp [h]
    · rw [if_neg h];simp [h]
   have fG:dbl (a++[k])=if 44≤k then 1 else dbl a:=by
    unfold dbl;rw [List.any_append];by_cases h:44≤k
    · simp [h]
    · rw [if_neg h];simp [h]
   rw [tblN_snoc a k hk,fF,fG];unfold zBW;simp only;by_cases fA:44≤k
   · have fD:((((k-44) / 32:Nat):Int)≠la)↔tbl a ((k-44) / 32)=false:=by
      constructor
      · intro fH
        cases ht:tbl a ((k-44) / 32) with
        | false=>rfl
        | true =>
         exfalso
         unfold tbl at ht;obtain⟨y,hy,hp⟩:=List.any_eq_true.1 ht;have hp:=of_decide_eq_true hp;obtain⟨j,h1,h2,h3⟩:=hl.1 y hy hp.1;unfold tbl at h2;obtain⟨z,hz,hq⟩:=List.any_eq_true.1 h2;have hq:=of_decide_eq_true hq;have:=fC z hz
         apply fH
         rw [h1];omega
      · intro ht e;by_cases fE:∃ y∈a,44≤y
        · obtain⟨y,hy,h5⟩:=fE;obtain⟨j,h1,h2,h3⟩:=hl.1 y hy h5;rw [h1] at e
          have e:(k-44) / 32=j:=by omega
          rw [e,h2] at ht;cases ht
        · have:=hl.2 fun y hy h=>fE ⟨y,hy,h⟩;omega
     refine⟨(((k-44) / 32:Nat):Int),?_,fun y hy fB=>⟨(k-44) / 32,rfl,?_,?_⟩,fun h=>absurd fA (h k (by simp))⟩
     · rw [if_pos fA,if_pos fA]
       congr 1
       by_cases ht:tbl a ((k-44) / 32)=false
       · rw [if_pos ⟨fA,fD.2 ht⟩,if_pos ⟨fA,ht⟩];omega
       · rw [if_neg fun h=>ht (fD.1 h.2),if_neg fun h=>ht h.2];omega
     · rw [zEm];simp [fA]
     · rcases List.mem_append.1 hy with h | h
       · have:=fC y h;omega
       · rw [List.mem_singleton.1 h];omega
   · refine⟨la,?_,fun y hy fB=>?_,fun h=>hl.2 fun y hy=>h y (List.mem_append_left _ hy)⟩
     · have c1:¬(44≤k∧(((k-44) / 32:Nat):Int)≠la):=fun h=>fA h.1;have c2:¬(44≤k∧tbl a ((k-44) / 32)=false):=fun h=>fA h.1;simp only [if_neg fA,if_neg c1,if_neg c2,Nat.add_zero]
     · rcases List.mem_append.1 hy with h | h
       · obtain⟨j,h1,h2,h3⟩:=hl.1 y h fB;exact⟨j,h1,by rw [zEm,h2];rfl,h3⟩
       · rw [List.mem_singleton.1 h] at fB;exact absurd fB fA
  obtain⟨la',h1,h2⟩:=key;rw [List.foldl_cons,h1];have ih:=zFy m (a++[k]) r (by rw [←e1];exact hs) (by rw [←e1];exact hb) la' h2;rw [←e1] at ih;exact ih
theorem zJI (ks:List Nat):zCm ks=dbl ks+sgl ks+zJO ks:=by
 unfold zCm zDj;rw [List.filter_cons,List.filter_cons]
 have h2:(ks.any fun k=>tab k (-2))=ks.any fun k=>decide (44≤k):=by
  congr 1;funext k
  unfold tab;by_cases h:44≤k
  · simp [h]
  · by_cases h':12≤k<;>simp [h,h']
 have h1:(ks.any fun k=>tab k (-1))=ks.any fun k=>decide (12≤k∧k<44):=by
  congr 1;funext k
  unfold tab;by_cases h:44≤k
  · have:¬((-1:Int)=(((k-44) / 32:Nat):Int)):=by omega
    rw [if_pos h];simp only [Int.reduceNeg,Int.reduceBEq,Bool.false_or];rw [Bool.eq_iff_iff];simp only [beq_iff_eq,decide_eq_true_iff];omega
  · by_cases h':12≤k
    · simp [h,h'];omega
    · simp [h,h']
 have h3:(((List.range 32).map Int.ofNat).filter fun z=>ks.any fun k=>tab k z).length=zJO ks:=by
  unfold zJO;rw [List.filter_map,List.length_map]
  congr 1
  refine List.filter_congr fun j _=>?_;unfold tbl;simp only [Function.comp]
  congr 1;funext k
  unfold tab;by_cases h:44≤k
  · rw [if_pos h,Bool.eq_iff_iff];simp only [Bool.or_eq_true,beq_iff_eq,decide_eq_true_iff,h,true_and]
    constructor
    · rintro (h | h)
      · have:(Int.ofNat j)=(j:Int):=rfl;omega
      · have:(Int.ofNat j)=(j:Int):=rfl;omega
    · intro h;exact .inr (by rw [h];rfl)
  · by_cases h':12≤k
    · rw [if_neg h,if_pos h',Bool.eq_iff_iff];simp only [beq_iff_eq,decide_eq_true_iff,h,false_and,iff_false];have:(Int.ofNat j)=(j:Int):=rfl;omega
    · simp [h,h']
 unfold dbl sgl;rw [h2,h1]
 cases (ks.any fun k=>decide (44≤k))<;>cases (ks.any fun k=>decide (12≤k∧k<44))<;>simp only [Bool.false_eq_true,if_false,if_true,List.length_cons,h3]<;>omega
theorem zJY {l:List Nat} (hs:l.Pairwise (· < ·)) (hb:∀ k∈l,k≤1067):zBt l=zDt l:=by
 have h:=zFy l.length [] l (by simpa using hs) (by simpa using hb) (-1) ⟨fun k hk=>(by cases hk),fun _=>rfl⟩
 have e:(l.length+zJO [],sgl [],dbl [],(-1:Int))=(l.length,0,0,-1):=by
  have:zJO []=0:=by decide
  rw [this];rfl
 rw [e] at h;unfold zBt zDt;rw [zJI,h];simp only [List.nil_append];omega
structure Opn where
 kind:Int
 path:ByteArray
 dst:ByteArray
 off:Int
 len:Int
 data:List UInt8
 made:Int
 pick:Int
def zHp (k:Int):Bool:=decide (1≤k∧k≤11∨k=13)
def zHr (k:Int):Bool:=decide (k=3∨k=6)
def zHq (k:Int):Bool:=decide (k=7∨k=8∨k=9)
def zHk (k:Int):Bool:=decide (k=9)
def zHo (k:Int):Bool:=decide (k=7)
def zHn (k:Int):Bool:=decide (k=1∨k=2)
def zHm (k:Int):Bool:=decide (k=14)
def Opn.fine (o:Opn):Bool :=
 decide (1≤o.kind∧o.kind≤14∧0≤o.made∧o.made≤1099511627776∧(zHp o.kind=true∨o.path=emp)∧(zHr o.kind=true∨o.dst=emp)∧(zHq o.kind=true∨o.off=0)∧(zHk o.kind=true∨o.len=0)∧(zHo o.kind=true∨o.data.length=0)∧(zHn o.kind=true∨o.made=0)∧(zHm o.kind=true∨o.pick=0))
def PT.asks (T:PT) (o:Opn) (i:Nat):PT×Ans :=
 if o.kind=10 then (T,⟨0,T.stat i,[],[]⟩) else if o.kind=11 then (T,T.list i) else if T.isDir i=true then (T,.err 102) else
 if o.kind=7 then ((T.write i o.off o.data).1,.err (T.write i o.off o.data).2) else if o.kind=8 then ((T.trunc i o.off).1,.err (T.trunc i o.off).2) else if o.kind=9 then (T,(T.node i).read o.off o.len) else (T,.err 0)
noncomputable def PT.does (T:PT) (o:Opn) (l m:List ByteArray):PT×Ans :=
 if o.kind=1 then T.make l false o.made.toNat else if o.kind=2 then T.make l true o.made.toNat else if o.kind=3 then ((T.link l m).1,.err (T.link l m).2) else
 if o.kind=4 then ((T.unlink l).1,.err (T.unlink l).2) else if o.kind=5 then ((T.rmdir l).1,.err (T.rmdir l).2) else if o.kind=6 then ((T.rename l m).1,.err (T.rename l m).2) else
 if o.kind=12∨o.kind=14 then (T,.err 0) else if (T.walk l 1).2≠0 then (T,.err (T.walk l 1).2) else T.asks o (T.walk l 1).1
def Ans.told (a:Ans):Ans:=if a.code=0 then a else .err a.code
def Opn.code1 (o:Opn):Nat:=if o.kind=12∨o.kind=14 then 0 else (spl o.path).2
def Opn.code2 (o:Opn):Nat:=if o.kind=3∨o.kind=6 then (spl o.dst).2 else 0
def Opn.from_ (o:Opn):List ByteArray:=if o.kind=12∨o.kind=14 then [] else (spl o.path).1
def Opn.to_ (o:Opn):List ByteArray:=if o.kind=3∨o.kind=6 then (spl o.dst).1 else []
noncomputable def PT.run (T:PT) (o:Opn):PT×Ans :=
 if o.fine=false then (T,.err 150) else if o.code1≠0 then (T,.err o.code1) else if o.code2≠0 then (T,.err o.code2) else ((T.does o o.from_ o.to_).1,(T.does o o.from_ o.to_).2.told)
theorem from_chk (o:Opn):∀ x∈o.from_,chk x=true:=by
 unfold Opn.from_
 split
 · intro x hx;cases hx
 · exact zEQ _
theorem to_chk (o:Opn):∀ x∈o.to_,chk x=true:=by
 unfold Opn.to_
 split
 · exact zEQ _
 · intro x hx;cases hx
theorem inv_asks {T:PT} (h:T.Inv) (o:Opn) {i:Nat} {n:PN} (hg:zAd i T.nodes=some n):(T.asks o i).1.Inv:=by
 unfold PT.asks
 split
 · exact h
 split
 · exact h
 split
 · exact h
 rename_i hd;rw [zAn hg] at hd
 have hd:n.dir=false:=by simpa using hd
 split
 · exact inv_write h hg hd _ _
 split
 · exact inv_trunc h hg hd _
 split<;>exact h
theorem inv_does {T:PT} (h:T.Inv) (o:Opn) (hf:o.fine=true) (l m:List ByteArray) (hl:∀ x∈l,chk x=true) (hm:∀ x∈m,chk x=true):(T.does o l m).1.Inv:=by
 have fA:o.made.toNat≤1099511627776:=by
  unfold Opn.fine at hf;have:=(of_decide_eq_true hf).2.2.2.1;omega
 unfold PT.does
 split
 · exact zIm h _ _ _ fA hl
 split
 · exact zIm h _ _ _ fA hl
 split
 · exact inv_link h _ _ hm
 split
 · exact zJT h _
 split
 · exact inv_rmdir h _
 split
 · exact zJN h _ _ hm
 split
 · exact h
 split
 · exact h
 rename_i h0;obtain⟨n,hn⟩:=zB0 h.wf l 1 (let ⟨n,h,_⟩:=h.wf.root;⟨n,h⟩) (by simpa using h0);exact inv_asks h o hn
theorem inv_run {T:PT} (h:T.Inv) (o:Opn):(T.run o).1.Inv:=by
 unfold PT.run
 split
 · exact h
 rename_i hf
 split
 · exact h
 split
 · exact h
 exact inv_does h o (by simpa using hf) _ _ (from_chk o) (to_chk o)
def PT.new (n m:Nat):PT:=⟨n,m,[(1,⟨true,1,0,0,[],[],[]⟩)]⟩
theorem inv_new {n m:Nat} (h1:8≤n∧n≤4096) (h2:1≤m∧m≤512) (h3:m+2≤n):(PT.new n m).Inv:=by
 have hg:∀ {i x},zAd i (PT.new n m).nodes=some x→i=1∧x=⟨true,1,0,0,[],[],[]⟩:=fun {i x} h=>by
  unfold PT.new at h;simp only [zAd] at h
  split at h
  · rename_i e;exact⟨e.symm,(Option.some.inj h).symm⟩
  · cases h
 have fA:∀ {i x nm j},zAd i (PT.new n m).nodes=some x→zAd nm x.names=some j→False:=fun {i x nm j} h h'=>by
  obtain⟨_,rfl⟩:=hg h;cases h'
 have hr:∀ j,(PT.new n m).refs j=0:=fun j=>rfl;refine⟨⟨⟨?_,fun p hp=>?_,h2.2,h1.1,h1.2⟩,⟨_,rfl,rfl⟩,fun i x nm j h h'=>(fA h h').elim,fun i x nm j h h'=>(fA h h').elim,⟨fun _=>0,fun i x nm j h h'=>(fA h h').elim⟩,fun i x nm j h h'=>(fA h h').elim,hr 1⟩,fun j x h=>?_,?_⟩
 · exact List.pairwise_singleton _ _
 · have:p=(1,⟨true,1,0,0,[],[],[]⟩):=by simpa [PT.new] using hp
   subst this;refine⟨⟨by simp,by simp,by simp,by simp,by simp,by simp,by simp,by simp,by simp,fun _=>rfl,fun e=>(by cases e),List.Pairwise.nil,List.Pairwise.nil⟩,Nat.le_refl _,h2.1⟩
 · obtain⟨rfl,rfl⟩:=hg h;exact⟨Nat.le_refl _,fun _=>rfl,fun e=>absurd rfl e⟩
 · show 0+m+1≤n
   omega
open Go.RowKit Go.Proofs
theorem get_byte (s:ByteArray) (k:Nat) (h:k<s.size):s.get! k=s[k]'h:=by
 have:=get_at s k h;simpa using this
theorem zHz (s:ByteArray) (pos:Nat) (h:pos<s.size) (ha:128≤(s[pos]'h).toNat):∀ k (hk:k<s.size),pos≤k→k<pos+(Utf8.decode s pos).2→128≤(s[k]'hk).toNat:=by
 have hn:¬(s[pos]'h).toNat<128:=by omega
 have c:∀ j,(decide (pos+j<s.size) && (s.get! (pos+j)).toNat / 64==2)=true→∀ k (hk:k<s.size),k=pos+j→128≤(s[k]'hk).toNat:=fun j hj k hk e=>by
  subst e;simp only [Bool.and_eq_true,decide_eq_true_eq,beq_iff_eq] at hj;rw [get_byte s _ hk] at hj;omega
 have z:∀ k (hk:k<s.size),k=pos→128≤(s[k]'hk).toNat:=fun k hk e=>by subst e;exact ha
 intro k hk h1 h2;simp only [Utf8.decode,get_at s pos h,hn,if_false] at h2
 split at h2
 · rename_i hc;simp only [Bool.and_eq_true] at hc;have c1:=c 1 (by simpa using hc.2)
   split at h2
   · have:k=pos∨k=pos+1:=by simp at h2;omega
     rcases this with e | e
     · exact z k hk e
     · exact c1 k hk e
   · exact z k hk (by simp at h2;omega)
 split at h2
 · rename_i hc;simp only [Bool.and_eq_true] at hc;have c1:=c 1 (by simpa using hc.1.2);have c2:=c 2 (by simpa using hc.2)
   split at h2
   · have:k=pos∨k=pos+1∨k=pos+2:=by simp at h2;omega
     rcases this with e | e | e
     · exact z k hk e
     · exact c1 k hk e
     · exact c2 k hk e
   · exact z k hk (by simp at h2;omega)
 split at h2
 · rename_i hc;simp only [Bool.and_eq_true] at hc;have c1:=c 1 (by simpa using hc.1.1.2);have c2:=c 2 (by simpa using hc.1.2);have c3:=c 3 (by simpa using hc.2)
   split at h2
   · have:k=pos∨k=pos+1∨k=pos+2∨k=pos+3:=by simp at h2;omega
     rcases this with e | e | e | e
     · exact z k hk e
     · exact c1 k hk e
     · exact c2 k hk e
     · exact c3 k hk e
   · exact z k hk (by simp at h2;omega)
 · exact z k hk (by simp at h2;omega)
def okTo (s:ByteArray) (pos:Nat):Prop:=∀ k (h:k<s.size),k<pos→s[k]'h≠0∧s[k]'h≠47
theorem okTo_next {s:ByteArray} {pos:Nat} (h:pos<s.size) (ho:okTo s pos) (h0:(Utf8.decode s pos).1≠0) (h1:(Utf8.decode s pos).1≠47):okTo s (pos+(Utf8.decode s pos).2):=fun k hk h2=>by
 by_cases hp:k<pos
 · exact ho k hk hp
 by_cases ha:(s[pos]'h).toNat<128
 · rw [decode_ascii s pos h ha] at h0 h1 h2
   have e:k=pos:=by simp at h2;omega
   subst e;refine⟨fun e=>h0 ?_,fun e=>h1 ?_⟩
   · rw [e];rfl
   · rw [e];rfl
 · have:=zHz s pos h (by omega) k hk (by omega) h2;refine⟨fun e=>?_,fun e=>?_⟩<;>rw [e] at this<;>simp at this
theorem bad_at {s:ByteArray} {pos:Nat} (h:pos<s.size) (h1:(Utf8.decode s pos).1=0∨(Utf8.decode s pos).1=47):chk s=false:=by
 by_cases ha:(s[pos]'h).toNat<128
 · rw [decode_ascii s pos h ha] at h1;unfold chk;refine decide_eq_false fun hc=>?_
   have hm:s[pos]'h∈s.data.toList:=by
    rw [Array.mem_toList_iff];exact Array.getElem_mem _
   have h2:=hc.2.2.2.2 _ hm;rcases h1 with h1 | h1
   · exact h2.1 (UInt8.toNat_inj.1 h1)
   · exact h2.2 (UInt8.toNat_inj.1 h1)
 · have:=(decode_high s pos h (by omega)).1;omega
theorem chk_all {s:ByteArray} (h:okTo s s.size) (h0:s≠⟨#[]⟩) (h1:s.size≤40) (h2:s≠⟨#[46]⟩) (h3:s≠⟨#[46,46]⟩):chk s=true:=by
 have inj:∀ a:Array UInt8,s.data.toList=a.toList→s=⟨a⟩:=fun a e=>by
  cases s with | mk d=>exact congrArg ByteArray.mk (Array.toList_inj.1 e)
 unfold chk;refine decide_eq_true ⟨?_,h1,fun e=>h2 (inj _ e),fun e=>h3 (inj _ e),fun b hb=>?_⟩
 · rcases Nat.eq_zero_or_pos s.size with e | e
   · exfalso
     refine h0 (inj _ ?_);exact List.eq_nil_of_length_eq_zero (by rw [Array.length_toList];exact e)
   · exact e
 · rw [Array.mem_toList_iff] at hb;obtain⟨k,hk,e⟩:=Array.getElem_of_mem hb;have:=h k hk hk;have e':s[k]'hk=b:=e;rw [e'] at this;exact this
theorem chk_bad0:chk ⟨#[]⟩=false:=by decide
theorem zI5:chk ⟨#[46]⟩=false:=by decide
theorem zI6:chk ⟨#[46,46]⟩=false:=by decide
theorem zIU {s:ByteArray} (h:40<s.size):chk s=false:=by
 unfold chk;exact decide_eq_false fun hc=>by have:=hc.2.1;omega
theorem zDa (w:World) (s:ByteArray) (pos:Nat):Below w.heap.size w (w.iter s pos):=(Below.refl _ _).alloc (Nat.le_refl _) _
theorem toList_data (s:ByteArray):s.toList=s.data.toList:=ByteArray.toList_eq s
theorem zJr {s:ByteArray} (h:s.toList=[]):s=⟨#[]⟩:=by
 rw [toList_data] at h
 cases s with | mk d=>exact congrArg ByteArray.mk (Array.toList_inj.1 h)
def chkV (x:ByteArray):Value:=.int .i64 (if chk x=true then 0 else 71)
theorem zJW (x:ByteArray) (w:World) (hx:x.size≤1000000000) :
 Calls Tryz.prog 66 #[.string x] w fun e w'=>e=.returned (chkV x)∧Below w.heap.size w w':=by
 obtain⟨cv,fB⟩:∃ cv:Int,(if chk x=true then (0:Int) else 71)=cv:=⟨_,rfl⟩
 have e1:chkV x=.int .i64 cv:=by unfold chkV;rw [fB]
 rw [e1];have fA:=hid fB;clear e1 fB
 have bad:chk x=false→cv=71:=fun h=>by rw [←fA.out,h];rfl
 have badH:=hid bad;clear bad
 have inj:∀ a:Array UInt8,x.toList=a.toList→x=⟨a⟩:=fun a e=>by
  rw [toList_data] at e
  cases x with | mk d=>exact congrArg ByteArray.mk (Array.toList_inj.1 e)
 have injH:=hid inj;clear inj;go_enter Tryz.func66,Tryz.ntmps66;by_cases h0:x.toList=[]
 · have hb:=badH.out (by rw [injH.out _ h0];exact chk_bad0);subst hb;clear badH fA injH
   have t0:x.toList.isEmpty=true:=by rw [h0];rfl
   go_wp2;go_ret;exact⟨rfl,Below.refl _ _⟩
 have t0:x.toList.isEmpty=false:=by
  cases hx:x.toList.isEmpty with
  | false=>rfl
  | true=>exact absurd (by simpa using hx) h0
 by_cases h1:40<x.size
 · have hb:=badH.out (zIU h1);subst hb;clear badH fA injH
   have t1:decide (40<(x.size:Int))=true:=by simp;omega
   go_wp2;go_ret;exact⟨rfl,Below.refl _ _⟩
 have t1:decide (40<(x.size:Int))=false:=by simp;omega
 by_cases h2:x.toList=[46]
 · have hb:=badH.out (by rw [injH.out _ h2];exact zI5);subst hb;clear badH fA injH
   have t2:(x.toList==[46])=true:=by rw [h2];rfl
   go_wp2;go_ret;exact⟨rfl,Below.refl _ _⟩
 have t2:(x.toList==[46])=false:=by simpa using h2
 by_cases h3:x.toList=[46,46]
 · have hb:=badH.out (by rw [injH.out _ h3];exact zI6);subst hb;clear badH fA injH
   have t3:(x.toList==[46,46])=true:=by rw [h3];rfl
   go_wp2;go_ret;exact⟨rfl,Below.refl _ _⟩
 have t3:(x.toList==[46,46])=false:=by simpa using h3
 have g0:=hid h0;have g1:=hid h1;have g2:=hid h2;have g3:=hid h3;go_wp2;clear h0 h1 h2 h3 t0 t1 t2 t3
 go_loopw [4] (fun r w'=>∃ (pos:Nat),w'=w.iter x pos∧Hid (okTo x pos)) (fun _ w'=>x.size-w'.iterPos w.heap.size)
 case atStart=>exact⟨0,rfl,hid fun k hk h=>absurd h (by omega)⟩
 case round =>
  obtain⟨pos,rfl,ho⟩:=hrel;by_cases hp:pos<x.size
  · have fG:∀ ty,(Instr.next (.pointer (some ⟨w.heap.size,0,none⟩)) true ty).run Tryz.prog (w.iter x pos)=_:=fun ty=>run_next_any w x pos ty hp
    have fI:1≤(Utf8.decode x pos).2:=by
     by_cases ha:(x[pos]'hp).toNat<128
     · rw [decode_ascii x pos hp ha];exact Nat.le_refl _
     · exact (decode_high x pos hp (by omega)).2
    have hb:=hid (fun h=>badH.out (bad_at hp h));have hn:=hid (okTo_next hp ho.out);clear ho badH fA;generalize (Utf8.decode x pos).1=c at *;generalize (Utf8.decode x pos).2=wd at *;by_cases fC:c=0
    · have fD:=hb.out (.inl fC);clear hb hn;subst fD;subst fC;go_wp2;go_ret;exact⟨rfl,zDa _ _ _⟩
    by_cases fE:c=47
    · have fD:=hb.out (.inr fE);clear hb hn;subst fD;subst fE;go_wp2;go_ret;exact⟨rfl,zDa _ _ _⟩
    have fH:=hid (hn.out fC fE)
    have t1:((c:Int)==0)=false:=by simp;omega
    have t2:((c:Int)==47)=false:=by simp;omega
    clear hn hb;go_wp2;go_roundw
    case rel=>exact⟨pos+wd,rfl,fH⟩
    case measure =>
     simp
     have:=hp;omega
  · have fG:∀ ty,(Instr.next (.pointer (some ⟨w.heap.size,0,none⟩)) true ty).run Tryz.prog (w.iter x pos)=_:=fun ty=>run_next_end w x pos ty hp;have fF:=chk_all (fun k hk h=>ho.out k hk (by omega)) (fun e=>g0.out (by rw [e,toList_data])) (by have:=g1.out;omega) (fun e=>g2.out (by rw [e,toList_data])) (fun e=>g3.out (by rw [e,toList_data]))
    have hz:cv=0:=by rw [←fA.out,if_pos fF]
    subst hz;clear fF badH fA injH;go_wp2;go_ret;exact⟨rfl,zDa _ _ _⟩
theorem zEF (sep:ByteArray):∀ (k:Nat) (s:ByteArray),∀ x∈Lib.splitB sep 0 k s,x.size≤s.size
 | 0,s,x,h=>by
  rw [Lib.splitB_zero,List.mem_singleton] at h;rw [h];exact Nat.le_refl _
 | k+1,s,x,h=>by
  unfold Lib.splitB at h
  split at h
  · rw [List.mem_singleton] at h;rw [h];exact Nat.le_refl _
  · rcases List.mem_cons.1 h with rfl | h
    · rw [ByteArray.size_extract];omega
    · have:=zEF sep k _ x h;rw [ByteArray.size_extract] at this;omega
def SplP (x:ByteArray) (w:World) (e:Ending) (w':World):Prop :=
 (∃ A c,e=.returned (.tuple #[.slice A (spl x).1.length c,zAW (spl x).2])∧(spl x).1.length≤c∧c≤x.size+1∧Sees w' w'.heap.size 1 A (spl x).1.length (strs (spl x).1))∧Below w.heap.size w w'
theorem zCs {x:ByteArray} {w w':World} {c:Nat} (h:spl x=([],c)) (hb:Below w.heap.size w w'):SplP x w (.returned (.tuple #[.slice none 0 0,zAW c])) w':=by
 unfold SplP;rw [h];exact⟨⟨none,0,rfl,Nat.le_refl _,Nat.zero_le _,Sees.nil⟩,hb⟩
theorem zJo (x:ByteArray) (m0:Int) (w:World) (hx:x.size≤100000000) (hm:w.cell? ⟨0,0,none⟩=some (.int .i64 m0)) :
 Calls Tryz.prog 42 #[.string x] w (SplP x w):=by
 have inj:∀ a:Array UInt8,x.toList=a.toList→x=⟨a⟩:=fun a e=>by
  rw [toList_data] at e
  cases x with | mk d=>exact congrArg ByteArray.mk (Array.toList_inj.1 e)
 have injH:=hid inj;clear inj;obtain⟨Q,hQ⟩:∃ Q,SplP x w=Q:=⟨_,rfl⟩;rw [hQ];have fF:=hid hQ;clear hQ;go_enter Tryz.func42,Tryz.ntmps42;by_cases h1:400<x.size
 · have t1:decide (400<(x.size:Int))=true:=by simp;omega
   go_wp2;rw [←fF.out];exact zCs (c:=70) (by unfold spl;rw [if_pos (.inl h1)]) (Below.refl _ _)
 have t1:decide (400<(x.size:Int))=false:=by simp;omega
 cases hp:Lib.hasPrefix x.data.toList [47] with
 | false =>
  go_wp2_with (go_at_call 62;refine (Tryz.strings_HasPrefix x ⟨#[47]⟩ w).mono ?_;rintro e w1 ⟨rfl,hw⟩;have hw:=hw.symm;subst hw;rw [hp]);rw [←fF.out];exact zCs (c:=70) (by unfold spl;rw [if_pos (.inr hp)]) (Below.refl _ _)
 | true =>
  by_cases h2:x.toList=[47]
  · have t2:(x.toList==[47])=true:=by rw [h2];rfl
    go_wp2_with (go_at_call 62;refine (Tryz.strings_HasPrefix x ⟨#[47]⟩ w).mono ?_;rintro e w1 ⟨rfl,hw⟩;have hw:=hw.symm;subst hw;rw [hp]);rw [←fF.out];refine zCs (c:=0) ?_ (Below.refl _ _);unfold spl;rw [if_neg (by rw [hp];simp;omega),if_pos (show x=slash from injH.out _ h2)]
  have t2:(x.toList==[47])=false:=by simpa using h2
  have fP:x≠slash:=fun e=>h2 (by rw [e,toList_data];rfl)
  have gI:1≤x.size:=by
   rcases Nat.eq_zero_or_pos x.size with e | e
   · exfalso
     have e2:x.data.toList=[]:=List.eq_nil_of_length_eq_zero (by rw [Array.length_toList];exact e);rw [e2] at hp;cases hp
   · exact e
  have gJ:∀ W:World,(Instr.sliceAt 9 (.string x) (some (.int .i64 1)) none none).run Tryz.prog W=.ok (.string (spB x)) W:=fun W=>by
   rw [run_sliceAt_string _ _ _ _ _ _ Tryz.underlying9,run_slice_string_l _ 9 x Tryz.underlying9 .i64 1 (by omega) (by omega)];rfl
  cases hs:Lib.hasSuffix x.data.toList [47] with
  | true =>
   go_wp2_with (first
    | (go_at_call 62;refine (Tryz.strings_HasPrefix x ⟨#[47]⟩ w).mono ?_;rintro e w1 ⟨rfl,hw⟩;have hw:=hw.symm;subst hw;rw [hp])
    | (go_at_call 63;refine (Tryz.strings_HasSuffix x ⟨#[47]⟩ w (by omega)).mono ?_;rintro e w1 ⟨rfl,hw⟩;have hw:=hw.symm;subst hw;rw [hs]))
   rw [←fF.out];refine zCs (c:=70) ?_ (Below.refl _ _);unfold spl;rw [if_neg (by rw [hp];simp;omega),if_neg fP,if_pos (.inl hs)]
  | false =>
   cases hc:Lib.contains x.data.toList [47,47] with
   | true =>
    go_wp2_with (first
     | (go_at_call 62;refine (Tryz.strings_HasPrefix x ⟨#[47]⟩ w).mono ?_;rintro e w1 ⟨rfl,hw⟩;have hw:=hw.symm;subst hw;rw [hp])
     | (go_at_call 63;refine (Tryz.strings_HasSuffix x ⟨#[47]⟩ w (by omega)).mono ?_;rintro e w1 ⟨rfl,hw⟩;have hw:=hw.symm;subst hw;rw [hs])
     | (go_at_call 64;refine (Tryz.strings_Contains x ⟨#[47,47]⟩ m0 w (by omega) hm).mono ?_;rintro e w1 ⟨rfl,hw⟩;have hw:=hw.symm;subst hw;rw [hc]))
    rw [←fF.out];refine zCs (c:=70) ?_ (Below.refl _ _);unfold spl;rw [if_neg (by rw [hp];simp;omega),if_neg fP,if_pos (.inr hc)]
   | false =>
    have fG:spl x=if (Lib.splitB slash 0 (Lib.countB (spB x) slash) (spB x)).all chk=true then (Lib.splitB slash 0 (Lib.countB (spB x) slash) (spB x),0) else ([],71):=by
     unfold spl;rw [if_neg (by rw [hp];simp;omega),if_neg fP,if_neg (by rw [hs,hc];simp)]
    have fJ:(spB x).size≤x.size:=by unfold spB;rw [ByteArray.size_extract];omega
    have fC:(Lib.splitB slash 0 (Lib.countB (spB x) slash) (spB x)).length=Lib.countB (spB x) slash+1:=Lib.splitB_all slash (by decide) 0 _ _ rfl;have fR:Lib.countB (spB x) slash≤(spB x).size:=Lib.countB_le slash (by decide) _ _ (Nat.le_refl _);have fS:=zEF slash (Lib.countB (spB x) slash) (spB x);have fK:=Tryz.strings_Split (spB x) slash m0 w (by omega) hm (by decide);rw [←fC] at fK
    have fD:(Lib.splitB slash 0 (Lib.countB (spB x) slash) (spB x)).length≤x.size+1:=by rw [fC];omega
    clear fC fR;obtain⟨L,hL⟩:∃ L,Lib.splitB slash 0 (Lib.countB (spB x) slash) (spB x)=L:=⟨_,rfl⟩;rw [hL] at fG fS fK fD;clear hL;have fE:=hid fG;have fT:=hid fS;obtain⟨len,fH⟩:∃ len,L.length=len:=⟨_,rfl⟩;rw [fH] at fK fD;have fB:=hid fH;clear fG fS fH fP injH
    go_upto_region 8 with (first
     | (go_at_call 62;refine (Tryz.strings_HasPrefix x ⟨#[47]⟩ w).mono ?_;rintro e w1 ⟨rfl,hw⟩;have hw:=hw.symm;subst hw;rw [hp])
     | (go_at_call 63;refine (Tryz.strings_HasSuffix x ⟨#[47]⟩ w (by omega)).mono ?_;rintro e w1 ⟨rfl,hw⟩;have hw:=hw.symm;subst hw;rw [hs])
     | (go_at_call 64;refine (Tryz.strings_Contains x ⟨#[47,47]⟩ m0 w (by omega) hm).mono ?_;rintro e w1 ⟨rfl,hw⟩;have hw:=hw.symm;subst hw;rw [hc])
     | (go_at_call 65;refine fK.mono ?_;rintro e w1 ⟨rfl,rfl⟩))
    have fU:Blk (w.alloc (.cells (strs L).toArray 9)) w.heap.size 9 (strs L):=Blk.new w _ _;have fV:Below w.heap.size w (w.alloc (.cells (strs L).toArray 9)):=(Below.refl _ _).alloc (Nat.le_refl _) _
    have gK:(w.alloc (.cells (strs L).toArray 9)).heap.size=w.heap.size+1:=by simp
    change Code.wp _ _ _ _ (w.alloc (.cells (strs L).toArray 9));generalize w.alloc (.cells (strs L).toArray 9)=w0 at *;obtain⟨g,hg⟩:∃ g,w.heap.size=g:=⟨_,rfl⟩;rw [hg] at fU fV gK;simp only [hg];have gC:=hid hg;have fL:=hid fU;have fW:=hid fV;have fM:=hid fJ;clear hg fU fV fK hm gI gJ t1 t2 h2 hp hs hc fJ;go_wp2
    go_loopw [29] (fun t wr=>∃ ix:Nat,ix≤len∧t=.int .i64 ix∧Hid (Below (g+1) w0 wr)∧Hid (∀ j (h:j<L.length),j<ix→chk L[j]=true)) (fun t _=>len-(intOf t).toNat)
    case atStart=>exact⟨0,by omega,rfl,hid (Below.refl _ _),hid fun j _ h=>absurd h (by omega)⟩
    case round =>
     obtain⟨ix,gL,rfl,fI,gD⟩:=hrel;have gE:Hid (Below g w wr):=hid (fW.out.trans (fI.out.mono (by omega)));by_cases gF:ix<len
     · have t5:decide ((ix:Int)<(len:Int))=true:=by simpa using gF
       have fX:ix<L.length:=by rw [fB.out];exact gF
       obtain⟨nm,fQ⟩:∃ nm,L[ix]=nm:=⟨_,rfl⟩
       have gG:wr.cell? ⟨g,ix,none⟩=some (.string nm):=by
        rw [(fL.out.below fI.out (by omega)).cell ix];simp [strs,List.getElem?_eq_getElem fX,fQ]
       have fY:nm.size≤1000000000:=by have:=fT.out nm (by rw [←fQ];exact List.getElem_mem _);have:=fM.out;omega
       have fA:=zJW nm wr fY;have fN:=hid fQ;clear fQ;unfold chkV at fA
       cases fO:chk nm with
       | false =>
        rw [fO] at fA;go_wp2_with (go_at_call 66;refine fA.mono ?_;rintro e w2 ⟨rfl,fZ⟩);rw [←fF.out];refine zCs (c:=71) ?_ ?_
        · rw [fE.out,if_neg];rw [List.all_eq_true];intro h;have:=h nm (by rw [←fN.out];exact List.getElem_mem _);rw [fO] at this;cases this
        · rw [gC.out];exact gE.out.trans (fZ.mono (by have:=fI.out.size;omega))
       | true =>
        rw [fO] at fA;have gA:=hid fO;clear fO
        have hw:IntKind.i64.wrap ((ix:Int)+1)=((ix+1:Nat):Int):=by rw [IntWalk.i64_in _ (by omega)];omega
        go_wp2_with (go_at_call 66;refine fA.mono ?_;rintro e w2 ⟨rfl,fZ⟩);go_roundw
        case rel=>exact⟨ix+1,by omega,by go_num,hid (fI.out.trans (fZ.mono (by have:=fI.out.size;omega))),hid fun j hj h=>by
         by_cases e:j=ix
         · subst e;rw [fN.out];exact gA.out
         · exact gD.out j hj (by omega)⟩
        case measure =>
         simp [intOf]
         omega
     · obtain rfl:ix=len:=by omega
       have t5:decide ((ix:Int)<(ix:Int))=false:=by simp
       go_wp2;rw [←fF.out]
       have gB:L.all chk=true:=by
        rw [List.all_eq_true];intro y hy;obtain⟨j,hj,rfl⟩:=List.getElem_of_mem hy;exact gD.out j hj (by rw [←fB.out];exact hj)
       have h9:spl x=(L,0):=by rw [fE.out,if_pos gB]
       unfold SplP;rw [h9];refine⟨⟨some ⟨g,0,none⟩,ix,by rw [←fB.out];rfl,Nat.le_of_eq fB.out,fD,?_⟩,by rw [gC.out];exact gE.out⟩;have gH:=fL.out.below fI.out (by omega);refine⟨by simp [strs],fun _=>⟨g,0,rfl,gH.lt,fun i v hv=>?_⟩⟩;rw [Nat.zero_add,gH.cell i];exact hv
end Go.Proofs.YtolpcfhfcdkokaaGreatDoor
