/- Joined out of QDump..Kept. -/
import Derived.Test.YtolpcfhfcdkokaaGreatDoorR13
set_option maxHeartbeats 16000000
set_option maxRecDepth 100000
set_option linter.unusedSimpArgs false
set_option linter.unusedVariables false
namespace Go.Proofs.YtolpcfhfcdkokaaGreatDoor
open Lib (hid)
open List renaming mem_cons → Aa,mem_append → Ab,append_assoc → Ac,nil_append → Ad,mem_cons_self → Ae,pairwise_cons → Af,concat_eq_append → Ag,map_append → Ah,getElem?_cons_zero → Ai,length_nil → Aj,getElem?_cons_succ → Ak,length_pos_iff → Al,getElem?_map → Am,getLastD_eq_getLast? → An,getElem?_append_left → Ao,getElem?_eq_none → Ap,length_cons → Aq,length_append → Ar,all_eq_true → As,getElem_mem → At,getElem_of_mem → Au
open List.Pairwise renaming nil → Aw
open Nat renaming le_refl → Ax,zero_le → Ay,add_sub_cancel → Az,zero_add → AA
open Opn renaming fine → AB,code1 → AC,code2 → AD,from_ → AE
open Proofs.Tryz renaming prog → AF,underlying64 → AG,underlying108 → AH
open Sees renaming of_own → AI
open Go renaming setRow_heap → AJ,run_string_add_sum → AK
open Chg renaming refl → AL
open _root_.Array renaming length_toList → AM
open UInt8 renaming toNat_inj → AN
structure Tn where
 path:ByteArray
 kind:Int
 made:Int
 same:ByteArray
 data:List UInt8
deriving DecidableEq
def Nd.tn (x:Nd):Tn:=⟨x.path,x.kind,x.made,x.same,x.data⟩
structure DS where
 nodes:List Tn
 first:List (Nat×ByteArray)
abbrev zF7:=List ByteArray×Nat
def PT.step (T:PT) (s:DS) (x:zF7):DS :=
 if T.isDir x.2=true then ⟨s.nodes++[⟨pth x.1,2,((T.node x.2).made:Int),emp,[]⟩],s.first⟩ else
 match zAe x.2 s.first with
 | some q=>⟨s.nodes++[⟨pth x.1,1,((T.node x.2).made:Int),q,[]⟩],s.first⟩
 | none=>⟨s.nodes++[⟨pth x.1,1,((T.node x.2).made:Int),emp,rdL (T.node x.2).data 0 (T.node x.2).size⟩],zA2 zAG x.2 (pth x.1) s.first⟩
def zFl (T:PT) (rec:List ByteArray→Nat→DS→DS×Nat) (ns:List ByteArray) (j:Nat) (s:DS):DS×Nat :=
 if 400<(pth ns).size then (s,70) else if T.isDir j=true then rec ns j (T.step s (ns,j)) else (T.step s (ns,j),0)
def zCz (T:PT) (rec:List ByteArray→Nat→DS→DS×Nat) (ns:List ByteArray):List (ByteArray×Nat)→DS→DS×Nat
 | [],s=>(s,0)
 | x::r,s=>if (zFl T rec (ns++[x.1]) x.2 s).2≠0 then zFl T rec (ns++[x.1]) x.2 s else zCz T rec ns r (zFl T rec (ns++[x.1]) x.2 s).1
def zAQ (T:PT):Nat→List ByteArray→Nat→DS→DS×Nat
 | 0,_,_,s=>(s,70)
 | f+1,ns,i,s=>if 400<(pth ns).size then (s,70) else zCz T (zAQ T f) ns (T.node i).names s
def tlE (T:PT) (rec:List ByteArray→Nat→List zF7) (ns:List ByteArray):List (ByteArray×Nat)→List zF7
 | []=>[]
 | x::r=>(ns++[x.1],x.2)::((if T.isDir x.2=true then rec (ns++[x.1]) x.2 else [])++tlE T rec ns r)
def tl (T:PT):Nat→List ByteArray→Nat→List zF7
 | 0,_,_=>[]
 | f+1,ns,i=>tlE T (tl T f) ns (T.node i).names
def zG5 (L:List zF7):Prop:=∀ x∈L,(pth x.1).size≤400
theorem zIx {T:PT} {f:Nat} (ih:∀ ns j s,(zAQ T f ns j s).2=0→(zAQ T f ns j s).1=(tl T f ns j).foldl T.step s∧zG5 (tl T f ns j)) (ns:List ByteArray) :
 ∀ (l:List (ByteArray×Nat)) (s:DS),(zCz T (zAQ T f) ns l s).2=0→(zCz T (zAQ T f) ns l s).1=(tlE T (tl T f) ns l).foldl T.step s∧zG5 (tlE T (tl T f) ns l)
 | [],s,_=>⟨rfl,fun x hx=>by cases hx⟩
 | x::r,s,h=>by
  rw [zCz] at h ⊢
  split at h
  · rename_i h1;exact absurd h h1
  · rename_i h1;rw [if_neg h1]
    have h1:(zFl T (zAQ T f) (ns++[x.1]) x.2 s).2=0:=by simpa using h1
    obtain⟨h2,h3⟩:=zIx ih ns r _ h
    have h4:(pth (ns++[x.1])).size≤400∧(zFl T (zAQ T f) (ns++[x.1]) x.2 s).1=((ns++[x.1],x.2)::(if T.isDir x.2=true then tl T f (ns++[x.1]) x.2 else [])).foldl T.step s∧zG5 (if T.isDir x.2=true then tl T f (ns++[x.1]) x.2 else []):=by
     unfold zFl at h1 ⊢
     split at h1
     · cases h1
     rename_i h5;rw [if_neg h5];refine⟨by omega,?_⟩;by_cases hd:T.isDir x.2=true
     · rw [if_pos hd] at h1;rw [if_pos hd,if_pos hd];exact ih _ _ _ h1
     · rw [if_neg hd,if_neg hd];exact⟨rfl,fun x hx=>by cases hx⟩
    refine⟨?_,?_⟩
    · rw [h2,h4.2.1,tlE,←List.foldl_append];rfl
    · intro y hy;rw [tlE] at hy;rcases Aa.1 hy with rfl | hy
      · exact h4.1
      rcases Ab.1 hy with hy | hy
      · exact h4.2.2 y hy
      · exact h3 y hy
theorem zGm {T:PT}:∀ (f:Nat) (ns:List ByteArray) (i:Nat) (s:DS),(zAQ T f ns i s).2=0→(zAQ T f ns i s).1=(tl T f ns i).foldl T.step s∧zG5 (tl T f ns i)
 | 0,_,_,_,h=>by cases h
 | f+1,ns,i,s,h=>by
  rw [zAQ] at h ⊢
  split at h
  · cases h
  · rename_i h1;rw [if_neg h1];exact zIx (fun ns j s=>zGm f ns j s) ns _ s h
def PT.spots (T:PT):List zF7:=tl T 202 [] 1
def PT.dump (T:PT):List Tn×Nat:=if (zAQ T 202 [] 1 ⟨[],[]⟩).2=0 then ((zAQ T 202 [] 1 ⟨[],[]⟩).1.nodes,0) else ([],(zAQ T 202 [] 1 ⟨[],[]⟩).2)
def PT.tn1 (T:PT) (pre:List zF7) (x:zF7):Tn :=
 if T.isDir x.2=true then ⟨pth x.1,2,((T.node x.2).made:Int),emp,[]⟩ else
 match pre.find? fun y=>decide (y.2=x.2) with
 | some y=>⟨pth x.1,1,((T.node x.2).made:Int),pth y.1,[]⟩
 | none=>⟨pth x.1,1,((T.node x.2).made:Int),emp,rdL (T.node x.2).data 0 (T.node x.2).size⟩
def PT.mks (T:PT) (pre:List zF7):List zF7→List Tn
 | []=>[]
 | x::r=>T.tn1 pre x::T.mks (pre++[x]) r
def FstOk (T:PT) (pre:List zF7) (fs:List (Nat×ByteArray)):Prop:=∀ i,T.isDir i=false→zAe i fs=(pre.find? fun y=>decide (y.2=i)).map fun y=>pth y.1
theorem zHl {T:PT}:∀ (L pre:List zF7) (s:DS),FstOk T pre s.first→(L.foldl T.step s).nodes=s.nodes++T.mks pre L
 | [],pre,s,_=>by simp [PT.mks]
 | x::r,pre,s,h=>by
  rw [List.foldl_cons]
  have key:(T.step s x).nodes=s.nodes++[T.tn1 pre x]∧FstOk T (pre++[x]) (T.step s x).first:=by
   unfold PT.step PT.tn1;by_cases hd:T.isDir x.2=true
   · rw [if_pos hd,if_pos hd];refine⟨rfl,fun i hi=>?_⟩
     have fA:x.2≠i:=fun e=>by rw [e,hi] at hd;cases hd
     simp only;rw [h i hi,List.find?_append]
     cases pre.find? fun y=>decide (y.2=i) with
     | none=>simp [fA]
     | some y=>simp
   · rw [if_neg hd,if_neg hd]
     have fB:T.isDir x.2=false:=by simpa using hd
     have hx:=h x.2 fB
     cases hp:pre.find? fun y=>decide (y.2=x.2) with
     | some y =>
      rw [hp] at hx;rw [hx];refine⟨rfl,fun i hi=>?_⟩;simp only [Option.map_some];rw [h i hi,List.find?_append]
      cases hq:pre.find? fun y=>decide (y.2=i) with
      | some z=>simp
      | none =>
       have fA:x.2≠i:=fun e=>by rw [←e,hp] at hq;cases hq
       simp [fA]
     | none =>
      rw [hp] at hx;simp only [Option.map_none] at hx;rw [hx];refine⟨rfl,fun i hi=>?_⟩;simp only;rw [List.find?_append];by_cases e:i=x.2
      · subst e;rw [zAr,hp];simp
      · rw [zAi zAG _ e,h i hi];have fA:x.2≠i:=fun e'=>e e'.symm
        cases pre.find? fun y=>decide (y.2=i) with
        | none=>simp [fA]
        | some y=>simp
  rw [zHl r (pre++[x]) _ key.2,key.1,PT.mks,Ac];rfl
theorem PT.mks_len (T:PT):∀ (L pre:List zF7),(T.mks pre L).length=L.length
 | [],_=>rfl
 | _::r,_=>by simp [PT.mks,PT.mks_len T r]
theorem dump_ok {T:PT} (h:(T.dump).2=0):T.dump.1=T.mks [] T.spots∧zG5 T.spots:=by
 unfold PT.dump at h ⊢
 split at h
 · rename_i h1;rw [if_pos h1];obtain⟨h2,h3⟩:=zGm _ _ _ _ h1;refine⟨?_,h3⟩;simp only;rw [h2];exact (zHl _ [] ⟨[],[]⟩ fun i _=>rfl).trans (Ad _)
 · rename_i h1;exact absurd h h1
theorem dump_err {T:PT} (h:(T.dump).2≠0):T.dump.1=[]:=by
 unfold PT.dump at h ⊢
 split at h
 · exact absurd rfl h
 · rename_i h1;rw [if_neg h1]
def plt:List ByteArray→List ByteArray→Prop
 | _,[]=>False
 | [],_::_=>True
 | a::r,b::s=>zAV.lt a b=true∨a=b∧plt r s
theorem zFq:∀ a,¬plt a a
 | []=>fun h=>h
 | a::r=>fun h=>by
  rcases h with h | ⟨_,h⟩
  · rw [zBL] at h;cases h
  · exact zFq r h
theorem zHO:∀ (n:List ByteArray) {a b},plt a b→plt (n++a) (n++b)
 | [],_,_,h=>h
 | _::r,_,_,h=>.inr ⟨rfl,zHO r h⟩
theorem plt_pre:∀ (a:List ByteArray) {m},m≠[]→plt a (a++m)
 | [],m,h=>by
  cases m with
  | nil=>exact absurd rfl h
  | cons x r=>exact trivial
 | _::r,_,h=>.inr ⟨rfl,plt_pre r h⟩
theorem zIe {T:PT} {rec:List ByteArray→Nat→List zF7} {ns:List ByteArray} {x:zF7}:∀ {l:List (ByteArray×Nat)},x∈tlE T rec ns l↔∃ p∈l,x=(ns++[p.1],p.2)∨T.isDir p.2=true∧x∈rec (ns++[p.1]) p.2
 | []=>by simp [tlE]
 | q::r=>by
  rw [tlE,Aa,Ab,zIe (l:=r)]
  constructor
  · rintro (h | h | ⟨p,hp,h⟩)
    · exact⟨q,Ae,.inl h⟩
    · split at h
      · rename_i hd;exact⟨q,Ae,.inr ⟨hd,h⟩⟩
      · cases h
    · exact⟨p,List.mem_cons_of_mem _ hp,h⟩
  · rintro ⟨p,hp,h⟩;rcases Aa.1 hp with rfl | hp
    · rcases h with h | ⟨hd,h⟩
      · exact .inl h
      · rw [if_pos hd];exact .inr (.inl h)
    · exact .inr (.inr ⟨p,hp,h⟩)
theorem zCY {T:PT} {i:Nat} {n:PN} (hg:zAe i T.nodes=some n) (hd:n.dir=true) {nm:ByteArray} {j:Nat} (hj:zAe nm n.names=some j) (r:List ByteArray):T.walk (nm::r) i=T.walk r j:=by
 rw [PT.walk,hg];simp only;rw [if_neg (by rw [hd];simp),hj]
theorem zBH {T:PT} {i j:Nat} {nm:ByteArray} {r:List ByteArray} (h:T.walk (nm::r) i=(j,0)):∃ n k,zAe i T.nodes=some n∧n.dir=true∧zAe nm n.names=some k∧T.walk r k=(j,0):=by
 rw [PT.walk] at h
 cases hg:zAe i T.nodes with
 | none=>rw [hg] at h;simp at h
 | some n =>
  rw [hg] at h;simp only at h;by_cases hd:n.dir=true
  · rw [if_neg (by rw [hd];simp)] at h
    cases hj:zAe nm n.names with
    | none=>rw [hj] at h;simp at h
    | some k=>rw [hj] at h;exact⟨n,k,rfl,hd,hj,h⟩
  · rw [if_pos (by simpa using hd)] at h;simp at h
theorem mem_names {T:PT} (hT:T.Ok) {i:Nat} {p:ByteArray×Nat} (h:p∈(T.node i).names):∃ n,zAe i T.nodes=some n∧n.dir=true∧zAe p.1 n.names=some p.2:=by
 unfold PT.node at h
 cases hg:zAe i T.nodes with
 | none=>rw [hg] at h;cases h
 | some n =>
  rw [hg] at h;have h:p∈n.names:=h;refine⟨n,rfl,?_,zAU (hT.get hg).1.nris.nd h⟩
  cases hd:n.dir with
  | true=>rfl
  | false=>rw [((hT.get hg).1.df hd).2] at h;cases h
theorem zHK {T:PT} (hT:T.Ok):∀ (f:Nat) (ns:List ByteArray) (i:Nat) (x:zF7),x∈tl T f ns i↔∃ ms,ms≠[]∧ms.length≤f∧x.1=ns++ms∧T.walk ms i=(x.2,0)
 | 0,ns,i,x=>by
  constructor
  · intro h;cases h
  · rintro ⟨ms,h1,h2,_⟩;exact absurd (List.eq_nil_of_length_eq_zero (Nat.le_zero.1 h2)) h1
 | f+1,ns,i,x=>by
  rw [tl,zIe]
  constructor
  · rintro ⟨p,hp,h⟩;obtain⟨n,hg,hd,hj⟩:=mem_names hT hp;rcases h with rfl | ⟨hdj,h⟩
    · exact⟨[p.1],by simp,by simp,rfl,by rw [zCY hg hd hj];rfl⟩
    · obtain⟨ms,h1,h2,h3,h4⟩:=(zHK hT f _ _ _).1 h;exact⟨p.1::ms,by simp,by simp;omega,by rw [h3,Ac];rfl,by rw [zCY hg hd hj];exact h4⟩
  · rintro ⟨ms,h1,h2,h3,h4⟩
    cases ms with
    | nil=>exact absurd rfl h1
    | cons nm r =>
     obtain⟨n,k,hg,hd,hk,h5⟩:=zBH h4;refine⟨(nm,k),by rw [zAn hg];exact zAf hk,?_⟩
     cases r with
     | nil =>
      have h6:k=x.2:=congrArg Prod.fst h5;exact .inl (Prod.ext h3 h6.symm)
     | cons nm2 r2 =>
      obtain⟨n2,k2,fA,fB,_,_⟩:=zBH h5;exact .inr ⟨by rw [zAm fA,fB],(zHK hT f _ _ _).2 ⟨nm2::r2,by simp,by simpa using h2,by rw [h3,Ac];rfl,h5⟩⟩
theorem zHc {T:PT} (hT:T.Ok):∀ (f:Nat) (ns:List ByteArray) (i:Nat),(tl T f ns i).Pairwise fun x y=>plt x.1 y.1
 | 0,_,_=>Aw
 | f+1,ns,i=>by
  have fB:zBo zAV (T.node i).names:=by
   unfold PT.node
   cases hg:zAe i T.nodes with
   | none=>exact Aw
   | some n=>exact (hT.get hg).1.nris
  rw [tl];generalize (T.node i).names=l at fB
  induction l with
  | nil=>exact Aw
  | cons p r ih =>
   obtain⟨h1,h2⟩:=Af.1 fB
   have fC:∀ y∈(if T.isDir p.2=true then tl T f (ns++[p.1]) p.2 else []),∃ ms,ms≠[]∧y.1=ns++[p.1]++ms:=fun y hy=>by
    split at hy
    · obtain⟨ms,a,_,b,_⟩:=(zHK hT f _ _ _).1 hy;exact⟨ms,a,b⟩
    · cases hy
   have fA:∀ y∈tlE T (tl T f) ns r,∃ nm ms,zAV.lt p.1 nm=true∧y.1=ns++(nm::ms):=fun y hy=>by
    obtain⟨q,hq,h⟩:=zIe.1 hy;rcases h with rfl | ⟨_,h⟩
    · exact⟨q.1,[],h1 q hq,rfl⟩
    · obtain⟨ms,_,_,b,_⟩:=(zHK hT f _ _ _).1 h;exact⟨q.1,ms,h1 q hq,by rw [b,Ac];rfl⟩
   rw [tlE,Af,List.pairwise_append];refine⟨fun y hy=>?_,?_,ih h2,fun x hx y hy=>?_⟩
   · rcases Ab.1 hy with hy | hy
     · obtain⟨ms,h3,h4⟩:=fC y hy;rw [h4];exact plt_pre _ h3
     · obtain⟨nm,ms,h3,h4⟩:=fA y hy;rw [h4];exact zHO ns (.inl h3)
   · split
     · exact zHc hT f _ _
     · exact Aw
   · obtain⟨ms,_,h4⟩:=fC x hx;obtain⟨nm,ms',h5,h6⟩:=fA y hy;rw [h4,h6,Ac];exact zHO ns (.inl h5)
theorem zEL {T:PT}:∀ (a b:List ByteArray) {i j:Nat},T.walk a i=(j,0)→T.walk (a++b) i=T.walk b j
 | [],b,i,j,h=>by (have e:i=j:=congrArg Prod.fst h);rw [e];rfl
 | x::a,b,i,j,h=>by
  obtain⟨n,k,hg,hd,hk,h5⟩:=zBH h;rw [List.cons_append,zCY hg hd hk];exact zEL a b h5
theorem zCZ {T:PT}:∀ (a b:List ByteArray) {i j:Nat},T.walk (a++b) i=(j,0)→∃ k,T.walk a i=(k,0)∧T.walk b k=(j,0)
 | [],b,i,j,h=>⟨i,rfl,h⟩
 | x::a,b,i,j,h=>by
  obtain⟨n,k,hg,hd,hk,h5⟩:=zBH h;obtain⟨k',h6,h7⟩:=zCZ a b h5;exact⟨k',by rw [zCY hg hd hk];exact h6,h7⟩
theorem zGV {T:PT} (hT:T.Ok):T.spots.Pairwise fun x y=>plt x.1 y.1:=zHc hT _ _ _
theorem zJR {T:PT} (hT:T.Ok) {x:zF7} (hx:x∈T.spots):x.1≠[]∧T.walk x.1 1=(x.2,0):=by
 obtain⟨ms,h1,_,h3,h4⟩:=(zHK hT _ _ _ _).1 hx;rw [Ad] at h3;rw [h3];exact⟨h1,h4⟩
def zch (d:List UInt8) (e:Nat):Bool:=((d.drop e).take 128).all (·==0)
def zBF (d:List UInt8) (a:Nat):Nat→Nat→Nat
 | 0,e=>e
 | f+1,e=>if e<d.length∧e-a<131072∧zch d e=false then zBF d a f (min (e+128) d.length) else e
def opW (p:ByteArray) (a:Nat) (ch:List UInt8):Opn:=⟨7,p,emp,a,0,ch,0,0⟩
def opT (p:ByteArray) (n:Nat):Opn:=⟨8,p,emp,n,0,[],0,0⟩
noncomputable def zGF (p:ByteArray) (d:List UInt8):Nat→PT→Nat→PT×Nat
 | 0,T,_=>(T,999)
 | f+1,T,a =>
  if a<d.length then
   if zBF d a 1100 a=a then zGF p d f T (a+128)
   else if (T.run (opW p a ((d.drop a).take (zBF d a 1100 a-a)))).2.code≠0 then ((T.run (opW p a ((d.drop a).take (zBF d a 1100 a-a)))).1,(T.run (opW p a ((d.drop a).take (zBF d a 1100 a-a)))).2.code)
   else zGF p d f (T.run (opW p a ((d.drop a).take (zBF d a 1100 a-a)))).1 (zBF d a 1100 a)
  else ((T.run (opT p d.length)).1,(T.run (opT p d.length)).2.code)
theorem zDN (d:List UInt8) (a:Nat) (ha:a % 128=0):∀ (f e:Nat),a≤e→e≤a+131072→(e % 128=0∨e=d.length)→e≤d.length →
 e≤zBF d a f e∧zBF d a f e≤a+131072∧(zBF d a f e % 128=0∨zBF d a f e=d.length)∧zBF d a f e≤d.length∧(∀ x,e≤x→x<zBF d a f e→zch d (128 * (x / 128))=false)∧(0<f→e<d.length→e-a<131072→zBF d a f e=e→zch d e=true)
 | 0,e,h1,h2,h3,h4=>⟨Ax _,h2,h3,h4,fun x hx fA=>by simp only [zBF] at fA;omega,fun h=>by omega⟩
 | f+1,e,h1,h2,h3,h4=>by
  rw [zBF]
  split
  · rename_i h;obtain⟨h5,h6,h7⟩:=h
    have he:e % 128=0:=by omega
    obtain⟨a1,a2,a3,a4,a5,_⟩:=zDN d a ha f (min (e+128) d.length) (by omega) (by omega) (by omega) (by omega);refine⟨by omega,a2,a3,a4,fun x hx fA=>?_,fun _ _ _ h8=>by omega⟩;by_cases h8:x<e+128
    · have:128 * (x / 128)=e:=by omega
      rw [this];exact h7
    · exact a5 x (by omega) fA
  · rename_i h;refine⟨Ax _,h2,h3,h4,fun x hx fA=>by omega,fun _ h5 h6 _=>?_⟩
    cases hz:zch d e with
    | true=>rfl
    | false=>exact absurd ⟨h5,h6,hz⟩ h
def PT.E (T:PT) (i:Nat) (nm:ByteArray) (j:Nat):Prop:=∃ n,zAe i T.nodes=some n∧n.dir=true∧zAe nm n.names=some j
theorem walk_E {T:PT} {nm:ByteArray} {r:List ByteArray} {i j:Nat}:T.walk (nm::r) i=(j,0)↔∃ k,T.E i nm k∧T.walk r k=(j,0):=by
 constructor
 · intro h;obtain⟨n,k,h1,h2,h3,h4⟩:=zBH h;exact⟨k,⟨n,h1,h2,h3⟩,h4⟩
 · rintro ⟨k,⟨n,h1,h2,h3⟩,h4⟩;rw [zCY h1 h2 h3];exact h4
theorem zCB {T:PT} {nm:ByteArray} {a:List ByteArray} {i j:Nat}:T.walk (a++[nm]) i=(j,0)↔∃ k,T.walk a i=(k,0)∧T.E k nm j:=by
 constructor
 · intro h;obtain⟨k,h1,h2⟩:=zCZ _ _ h;obtain⟨k',h3,h4⟩:=walk_E.1 h2;have e:k'=j:=congrArg Prod.fst h4;exact⟨k,h1,e▸h3⟩
 · rintro ⟨k,h1,h2⟩;rw [zEL _ _ h1];exact walk_E.2 ⟨j,h2,rfl⟩
theorem E_dir {T:PT} {i:Nat} {nm:ByteArray} {j:Nat} (h:T.E i nm j):T.isDir i=true:=by
 obtain⟨n,a1,a2,_⟩:=h;rw [zAm a1,a2]
theorem dir_path {P:PT} (h:P.Inv):∀ (a b:List ByteArray) {i:Nat},P.walk a 1=(i,0)→P.walk b 1=(i,0)→P.isDir i=true→a=b:=by
 intro a
 induction hl:a.length generalizing a with
 | zero =>
  obtain rfl:=List.eq_nil_of_length_eq_zero hl;intro b i h1 h2 h3;have e:1=i:=congrArg Prod.fst h1;subst e;rcases List.eq_nil_or_concat b with rfl | ⟨b',y,rfl⟩
  · rfl
  · rw [Ag] at h2;obtain⟨k,_,n,h5,_,h7⟩:=zCB.1 h2;exact absurd rfl (h.gr.ne1 h5 h7)
 | succ m ih =>
  intro b i h1 h2 h3;rcases List.eq_nil_or_concat a with rfl | ⟨a',x,rfl⟩
  · cases hl
  rw [Ag] at h1 hl ⊢;obtain⟨k,h4,fB⟩:=zCB.1 h1;have fA:=fB;obtain⟨n,h5,h6,h7⟩:=fB;have fC:=h.gr.ne1 h5 h7;rcases List.eq_nil_or_concat b with rfl | ⟨b',y,rfl⟩
  · exact absurd (congrArg Prod.fst h2).symm fC
  rw [Ag] at h2 ⊢;obtain⟨k',h8,fD⟩:=zCB.1 h2;obtain⟨n',h9,fF,fE⟩:=fD;obtain⟨z,hz⟩:=h.gr.ents _ _ _ _ h5 h7;rw [zAm hz] at h3;obtain⟨_,d2,d3⟩:=h.dev i z hz;have d4:=d3 fC;rw [d2 h3] at d4;simp only [no] at d4;obtain⟨e1,e2⟩:=PT.refs_one h.gr.ok (j:=i) (by omega) h5 h7 h9 fE;subst e1;subst e2;rw [ih a' (by simpa using hl) b' h4 h8 (E_dir fA)]
open Go.RowKit Go.Proofs
def opR (x:ByteArray) (off len:Int):Opn:=⟨9,x,emp,off,len,[],0,0⟩
def opS (x:ByteArray):Opn:=⟨10,x,emp,0,0,[],0,0⟩
def opL (x:ByteArray):Opn:=⟨11,x,emp,0,0,[],0,0⟩
theorem fine_R (x:ByteArray) (off len:Int):(opR x off len).fine=true:=by
 unfold AB opR useP useT useO useL useD useM useF;simp
theorem fine_S (x:ByteArray):(opS x).fine=true:=by
 unfold AB opS useP useT useO useL useD useM useF;simp
theorem fine_L (x:ByteArray):(opL x).fine=true:=by
 unfold AB opL useP useT useO useL useD useM useF;simp
theorem zJd {T:PT} {x:ByteArray} {l:List ByteArray} {i:Nat} {n:PN} (hs:spl x=(l,0)) (hw:T.walk l 1=(i,0)) (hg:zAe i T.nodes=some n) (hd:n.dir=false) (off len:Int):(T.run (opR x off len)).2=(n.read off len).told:=by
 have hi:=zAm hg;rw [hd] at hi;have hn:=zAn hg;unfold PT.run;rw [if_neg (by rw [fine_R];simp),if_neg (by simp [AC,opR,hs]),if_neg (by simp [AD,opR])];simp [PT.does,PT.asks,opR,AE,hs,hw,hi,hn]
theorem zJx {T:PT} {x:ByteArray} {l:List ByteArray} {i:Nat} (hs:spl x=(l,0)) (hw:T.walk l 1=(i,0)):(T.run (opS x)).2=⟨0,T.stat i,[],[]⟩:=by
 unfold PT.run;rw [if_neg (by rw [fine_S];simp),if_neg (by simp [AC,opS,hs]),if_neg (by simp [AD,opS])];simp [PT.does,PT.asks,opS,AE,hs,hw,Ans.told]
theorem zJn {T:PT} {x:ByteArray} {l:List ByteArray} {i:Nat} (hs:spl x=(l,0)) (hw:T.walk l 1=(i,0)) (hd:T.isDir i=true):(T.run (opL x)).2=T.list i:=by
 have h:(T.list i).told=T.list i:=by unfold PT.list;rw [if_pos hd];rfl
 unfold PT.run;rw [if_neg (by rw [fine_L];simp),if_neg (by simp [AC,opL,hs]),if_neg (by simp [AD,opL])];simp [PT.does,PT.asks,opL,AE,hs,hw,h]
theorem run_bad {T:PT} {o:Opn} (hf:o.fine=true) (hk:¬(o.kind=12∨o.kind=14)) {l:List ByteArray} {c:Nat} (hs:spl o.path=(l,c)) (hc:c≠0):(T.run o).2=.err c:=by
 unfold PT.run;rw [if_neg (by rw [hf];simp)]
 have h:o.code1=c:=by unfold AC;rw [if_neg hk,hs]
 rw [h,if_pos hc]
def slLen:Value→Nat
 | .slice _ k _=>k
 | _=>0
def RdP (d:Dat) (size:Nat) (w:World) (e:Ending) (w':World):Prop :=
 ∃ v,e=.returned (.tuple #[v,.int .i64 0])∧w'.ownsRow w.heap.size 5 1 v size (bvs (rdL d 0 size))∧Below w.heap.size w w'
theorem rdL_add (d:Dat) (a b:Nat):rdL d 0 (a+b)=rdL d 0 a++rdL d a b:=by
 unfold rdL;rw [List.range_add,Ah,List.map_map]
 congr 1
 refine List.map_congr_left fun j _=>?_;simp
theorem dread_any (own:Nat→Option Role) (lay:Nat→NA) (p mb:Nat) (T:PT) (x:ByteArray) (l:List ByteArray) (i:Nat) (n:PN) (m0:Int) (wb:Nat) (nv fv:Value) (w:World) (h:PlainAt w own lay p mb T) (hT:T.Wf)
 (hs:spl x=(l,0)) (hw:T.walk l 1=(i,0)) (hg:zAe i T.nodes=some n) (hd:n.dir=false) (hx:x.size≤100000) (hm:w.cell? ⟨0,0,none⟩=some (.int .i64 m0)) (fP:Blk w wb 89 [ifV p,nv,fv]) :
 Calls AF 87 #[.pointer (some ⟨wb,0,none⟩),.string x,.int .i64 (n.size:Int)] w (RdP n.data n.size w):=by
 obtain⟨i0,hi,fU,fV,fW⟩:=info_parts zCP;have fX:=(hT.ok.get hg).1.size;obtain⟨size,fY⟩:=nM (n.size);obtain⟨Q,hQ⟩:=nM (RdP n.data n.size w);rw [hQ];rw [fY] at fX hQ ⊢;have fZ:=hid hQ
 have fB:∀ (W:World) (k m:Nat),Below w.heap.size w W→k<size→0<m→m≤131072→m≤size-k→Calls AF 51 #[ifV p,.agg #[.int .i64 9,.string x,.string ⟨#[]⟩,.int .i64 (k:Int),.int .i64 (m:Int),.slice none 0 0,.int .i64 0,.int .i64 0]] W (AskA ⟨0,st0,rdL n.data k m,[]⟩ W):=fun W k m hb hk h0 gL gM=>by
  have h9:=ask_q own lay p mb T (opR x k m) none 0 m0 W (h.fresh hb) hT (.inl rfl) (fine_R _ _ _) (by show (k:Int)≤_∧_≤(k:Int);omega) (by show (m:Int)≤_∧_≤(m:Int);omega) hx ((hb.cell (p:=⟨0,0,none⟩) (World.block_lt_of_cell? _ _ hm)).trans hm);rw [zJd hs hw hg hd] at h9
  have hr:n.read (k:Int) (m:Int)=⟨0,st0,rdL n.data k m,[]⟩:=by
   unfold PN.read;rw [if_neg (by omega),if_neg (by omega)];simp only [Int.toNat_natCast];rw [show min m (n.size-k)=m by omega]
  rw [hr] at h9;exact h9
 have fC:=hid fB;have fD:=hid fP;clear fB hQ h hT hs hw hg hm fP;go_enter Tryz.func87,Tryz.ntmps87;go_wp2
 go_loopw [8] (fun v wr=>∃ k:Nat,k≤size∧wr.ownsRow w.heap.size 5 1 v k (bvs (rdL n.data 0 k))∧Hid (Below w.heap.size w wr)) (fun v _=>size-slLen v)
 case atStart=>exact⟨0,Ay _,World.ownsRow_nil _ _ _ _,hid br⟩
 case round =>
  obtain⟨k,hk,ho,fE⟩:=hrel;obtain⟨A8,c8,rfl,-⟩:=AI (B:=wr.heap.size) ho fun g hg=>(ho.lt g hg).2;have gA:wb<w.heap.size:=fD.o.lt;have fH:=fD.o.below fE.o gA;have y0:=fH.cell 0;simp only [Ai,ifV] at y0;by_cases fQ:k<size
  · have t1:decide ((k:Int)<(size:Int))=true:=by simpa using fQ
    obtain⟨m,fR⟩:=nM (min 131072 (size-k))
    have gN:min 131072 ((size:Int)-(k:Int))=(m:Int):=by omega
    have fI:=fC.o wr k m fE.o fQ (by omega) (by omega) (by omega);unfold ifV at fI;have fJ:=hid fR;clear fR fH
    go_upto_region 4 with (first
     | (go_at_call 51;refine fI.mono ?_;rintro e w1 ⟨v,rfl,hA,-,fK⟩;obtain⟨dA,dc,eA,ec,rfl,fL,-⟩:=hA;simp only [Aj,zAE] at fL ⊢;have fM:=Blk.new w1 67 zAk)
     | (refine stA 0 st0 (.slice dA m dc) (.slice eA 0 ec) fM rfl rfl rfl (by rfl) rfl rfl rfl ?_))
    have gB:Blk ((w1.alloc (.cells zAk.toArray 67)).setRow w1.heap.size (zAq 0 st0 (.slice dA m dc) (.slice eA 0 ec)).toArray) w1.heap.size 67 (zAq 0 st0 (.slice dA m dc) (.slice eA 0 ec)):=AJ (w1.alloc (.cells zAk.toArray 67)) w1.heap.size _ (zAq 0 st0 (.slice dA m dc) (.slice eA 0 ec)).toArray _ _ fM
    have fG:Below w1.heap.size w1 ((w1.alloc (.cells zAk.toArray 67)).setRow w1.heap.size (zAq 0 st0 (.slice dA m dc) (.slice eA 0 ec)).toArray):=((AL (fun b=>w1.heap.size≤b) w1).alloc _ |>.setRow (fun _=>Ax _) _).below nr fun b hb e=>by omega
    have gC:=(fL.below fG).more fG.size;have fN:Below wr.heap.size wr ((w1.alloc (.cells zAk.toArray 67)).setRow w1.heap.size (zAq 0 st0 (.slice dA m dc) (.slice eA 0 ec)).toArray):=fK.trans (fG.mono fK.size);have fS:=zAC ho fN;change Code.wp _ _ _ _ ((w1.alloc (.cells zAk.toArray 67)).setRow w1.heap.size (zAq 0 st0 (.slice dA m dc) (.slice eA 0 ec)).toArray);generalize (w1.alloc (.cells zAk.toArray 67)).setRow w1.heap.size (zAq 0 st0 (.slice dA m dc) (.slice eA 0 ec)).toArray=w2 at *;have x7:w2.cell? ⟨w1.heap.size,7,none⟩=some (.slice dA m dc):=gB.cell 7
    have gO:((m:Int)==0)=false:=by have:=fJ.o;simp;omega
    have fA:=hid fN
    have gD:k+m≤size:=by have:=fJ.o;omega
    have gE:w.heap.size≤wr.heap.size:=fE.o.size;have gF:=hid (rdL_add n.data k m);clear fM fG fK fL fN fI;generalize fT:rdL n.data k m=dd at *;generalize gG:rdL n.data 0 k=dk at *
    have fF:dd.length=m:=by rw [←fT,zAE]
    have gH:=hid fF;clear fT gG fF
    go_wp2_with (first
     | (at_builtin;refine zAg _ rfl _ _ _ _ rfl w.heap.size 5 i0 (.int .u8 0) 1 1 AG hi fU fV fW rfl (.slice A8 k c8) k (bvs dk) rfl fS m (bvs dd) (zCn w2 AG dc gC (zB4 dd)) (by unfold maxLen;omega) (by omega) (by have:=fA.o.size;omega) ?_;intro v3 w3 fO gI gJ))
    obtain⟨A9,c9,e9,-⟩:=AI (B:=w3.heap.size) fO fun g hg=>(fO.lt g hg).2
    have gK:Below w.heap.size w w3:=by
     refine (fE.o.trans (fA.o.mono gE)).trans ((Chg.grown (S:=fun b=>w.heap.size≤b) (AL _ w2) gI fun g e hl=>(fS.lt g e).1).below (by have:=fA.o.size;omega) fun b hb e=>by omega)
    refine⟨⟨k+m,gD,?_,hid gK⟩,?_⟩
    · rw [gF.o,zBZ];exact fO
    · rw [e9]
      show size-(k+m)<size-k
      have:=fJ.o;omega
  · obtain rfl:k=size:=by omega
    have t1:decide ((k:Int)<(k:Int))=false:=by simp
    clear fH;go_wp2;rw [←fZ.o];exact⟨_,rfl,ho,fE.o⟩
def SW (S:Nat→Prop) (w0 W:World) (b:Nat):Prop:=S b∨(w0.heap.size≤b∧b<W.heap.size)
def PairQ (w0:World) (S:Nat→Prop) (T':PT) (an:Ans) (c6 c7:Value) (wx:World):Prop :=
 ∃ ub ua t6 dA dc eA ec,c6=.pointer (some ⟨ub,0,none⟩)∧c7=.pointer (some ⟨ua,0,none⟩)∧Blk wx ub 28 (zAa t6)∧Blk wx ua 67 (zAq an.code an.stat (.slice dA an.data.length dc) (.slice eA an.ents.length ec))∧RefS S wx t6 T' ∧
  zD2 S wx (.agg (zAq an.code an.stat (.slice dA an.data.length dc) (.slice eA an.ents.length ec)).toArray) an∧Below w0.heap.size w0 wx∧w0.heap.size≤ub∧w0.heap.size≤ua
theorem sw_lt {S:Nat→Prop} {w0 W:World} (hS:∀ b,S b→b<w0.heap.size) (hb:Below w0.heap.size w0 W):∀ b,SW S w0 W b→b<W.heap.size:=fun b h=>by
 have:=hb.size;rcases h with h | h
 · have:=hS b h;omega
 · exact h.2
theorem sw_ref {S:Nat→Prop} {w0 W:World} {t:Tr} {T:PT} (h:RefS S w0 t T) (hb:Below w0.heap.size w0 W):RefS (SW S w0 W) W t T:=(h.own.fresh hb).mono fun b hb=>by
 rcases hb with e | e
 · exact .inl e
 · exact .inr e.1
theorem zF8 {S:Nat→Prop} {w0 W w1 wx:World} {ub ua:Nat} {t4:Tr} {T':PT} {an:Ans} {dA eA:Option Addr} {dc ec:Nat} (h:RefS (SW S w0 W) w1 t4 T')
 (hv:zD2 (SW S w0 W) w1 (.agg (zAq an.code an.stat (.slice dA an.data.length dc) (.slice eA an.ents.length ec)).toArray) an) (fB:Below w0.heap.size w0 W) (fC:Below W.heap.size W w1) (fA:Below w1.heap.size w1 wx)
 (kub:Blk wx ub 28 z4) (kua:Blk wx ua 67 zAk) (fD:ub≠ua) (fF:w0.heap.size≤ub∧(ub<W.heap.size∨w1.heap.size≤ub)) (fG:w0.heap.size≤ua∧(ua<W.heap.size∨w1.heap.size≤ua)) :
 PairQ w0 S T' an (.pointer (some ⟨ub,0,none⟩)) (.pointer (some ⟨ua,0,none⟩)) ((wx.setRow ub (zAa t4).toArray).setRow ua (zAq an.code an.stat (.slice dA an.data.length dc) (.slice eA an.ents.length ec)).toArray):=by
 have fE:Chg (fun b=>b=ub∨b=ua) wx ((wx.setRow ub (zAa t4).toArray).setRow ua (zAq an.code an.stat (.slice dA an.data.length dc) (.slice eA an.ents.length ec)).toArray) :=
  ((AL (fun b=>b=ub∨b=ua) wx).setRow (fun _=>.inl rfl) _).setRow (fun _=>.inr rfl) _
 have hc:Chg (SW S w0 W) w1 ((wx.setRow ub (zAa t4).toArray).setRow ua (zAq an.code an.stat (.slice dA an.data.length dc) (.slice eA an.ents.length ec)).toArray) :=
  (Chg.of_fresh (S:=SW S w0 W) fA).trans fE (fun _ _ h=>h) fun b hb e=>by
   rcases e with e | e<;>(subst e;exact .inr (by omega))
 have k1:Blk (wx.setRow ub (zAa t4).toArray) ub 28 (zAa t4):=AJ _ _ _ _ _ _ kub;have fH:=fB.size;have fI:=fC.size;have fJ:=fA.size;refine⟨ub,ua,t4,dA,dc,eA,ec,rfl,rfl,k1.row_far fD _,AJ _ _ _ _ _ _ (kua.row_far (fun e=>fD e.symm) _),(h.chg hc).mono fun _ h=>.inl h,(hv.chg hc).mono fun _ h=>.inl h,?_,fF.1,fG.1⟩;exact ((fB.trans (fC.mono fH)).trans (fA.mono (by omega))).trans (fE.below (by omega) fun b hb e=>by omega)
theorem rmay_any (o:Opn) (A:Option Addr) (c:Nat) (w:World):Calls AF 48 #[.agg (opC o A c).toArray] w fun e w'=>e=.returned (.bool o.fine)∧Below w.heap.size w w':=by
 obtain⟨Q,hQ⟩:∃ Q:Ending→World→Prop,(fun e w'=>e=.returned (.bool o.fine)∧Below w.heap.size w w')=Q:=⟨_,rfl⟩;rw [hQ];have fD:=hid hQ;have fA:=Blk.new w 70 (opC o A c);have fC:Below w.heap.size w (w.alloc (.cells (opC o A c).toArray 70)):=br.alloc nr _;have fB:=hid fC;clear hQ fC;go_enter Tryz.func48,Tryz.ntmps48;go_upto_region 1 with (fail);change Code.wp _ _ _ _ (w.alloc (.cells (opC o A c).toArray 70));generalize w.alloc (.cells (opC o A c).toArray 70)=w0 at *;have o0:=fA.cell 0;have o1:=fA.cell 1;have o2:=fA.cell 2;have o3:=fA.cell 3;have o4:=fA.cell 4;have o5:=fA.cell 5;have o6:=fA.cell 6;have o7:=fA.cell 7;simp only [opC,Ak,Ai] at o0 o1 o2 o3 o4 o5 o6 o7;clear fA
 have hq:(o.kind=1∨o.kind=2∨o.kind=3∨o.kind=6∨o.kind=7∨o.kind=8∨o.kind=9∨o.kind=12∨o.kind=14)∨(1≤o.kind∧o.kind≤14∧¬o.kind=1∧¬o.kind=2∧¬o.kind=3∧¬o.kind=6∧¬o.kind=7∧¬o.kind=8∧¬o.kind=9∧¬o.kind=12∧¬o.kind=14)∨(o.kind<1∨14<o.kind):=by omega
 rcases hq with (h | h | h | h | h | h | h | h | h) | ⟨r1,r2,n1,n2,n3,n6,n7,n8,n9,n12,n14⟩ | hr
 all_goals (try rw [h] at o0)
 all_goals go_wp2
 all_goals
  rw [←fD.o];refine⟨congrArg (fun b=>Ending.returned (Value.bool b)) ?_,fB.o⟩;rw [Bool.eq_iff_iff]
  first
   | (simp [AB,useP,useT,useO,useL,useD,useM,useF,zD8, *];done)
   | (simp [AB,useP,useT,useO,useL,useD,useM,useF,zD8, *];omega)
   | (simp [AB,useP,useT,useO,useL,useD,useM,useF,zD8, *];intros;omega)
theorem zJg {w:World} {base:Nat} {v:Value} {out:List ByteArray} (h:w.ownsRow base 9 1 v out.length (strs out)) (hn:out≠[]) :
 ∃ gb cap,v=.slice (some ⟨gb,0,none⟩) out.length cap∧base≤gb∧w.cell? ⟨gb,out.length-1,none⟩=some (.string (out.getLastD emp))∧w.frozen? ⟨gb,out.length-1,none⟩=false ∧
  ∀ s,(w.setCell ⟨gb,out.length-1,none⟩ (.string s)).ownsRow base 9 1 v out.length (strs (out.dropLast++[s])):=by
 have hp:=Al.2 hn;rcases h.2 with ⟨_,h0⟩ | ⟨g,cap,cur,hv,hb,hg,hnc,hcm,hcs,ht⟩
 · omega
 have hB:Blk w g 9 cur.toList:=hg
 have hl:(strs out)[out.length-1]? = some (.string (out.getLastD emp)):=by
  unfold strs;rw [Am,An,List.getLast?_eq_getElem?];rw [List.getElem?_eq_getElem (by omega)];rfl
 have fA:cur.toList.take out.length=strs out:=by rw [←ht,Nat.mul_one]
 have fB:cur.toList[out.length-1]? = some (.string (out.getLastD emp)):=by
  rw [←hl,←fA,List.getElem?_take_of_lt (by omega)]
 refine⟨g,cap,hv,hb,(hB.cell _).trans fB,hB.frozen _,fun s=>?_⟩;have fC:=hB.set_ (out.length-1) (.string s)
 have e1:strs (out.dropLast++[s])=(strs out).set (out.length-1) (.string s):=by
  unfold strs
  apply List.ext_getElem?
  intro k;rw [List.getElem?_set,Ah];by_cases e:out.length-1=k
  · subst e;rw [if_pos rfl,if_pos (by simp;omega),List.getElem?_append_right (by simp)];simp
  · rw [if_neg e];by_cases h2:k<out.length-1
    · rw [Ao (by simpa using h2),Am,Am,List.getElem?_dropLast,if_pos h2]
    · rw [Ap (by simp;omega),Ap (by simp;omega)]
 refine⟨by rw [e1,List.length_set];exact h.1,.inr ⟨g,cap,(cur.toList.set (out.length-1) (.string s)).toArray,hv,hb,fC,hnc,hcm,by simpa using hcs,?_⟩⟩;rw [List.toList_toArray,Nat.mul_one,List.take_set,fA,e1]
def RSpl (p:ByteArray) (w:World) (e:Ending) (w':World):Prop :=
 (∃ A c,e=.returned (.tuple #[.slice A (spl p).1.length c,.int .i64 ((spl p).2:Int)])∧NmAt w' w'.heap.size A c (spl p).1)∧Below w.heap.size w w'
theorem zJF {p:ByteArray} {w w':World} {c:Nat} {v:Value} (h:spl p=([],c)) (hv:v=.tuple #[.slice none 0 0,.int .i64 (c:Int)]) (hb:Below w.heap.size w w'):RSpl p w (.returned v) w':=by
 unfold RSpl;rw [h,hv];exact⟨⟨none,0,rfl,Sees.nil,by simp,by simp,fun x h=>by cases h⟩,hb⟩
theorem zJC {out:List ByteArray} (h:out≠[]) (b:UInt8):(zHd out b).length=out.length:=by
 have:=Al.2 h;unfold zHd
 simp
 omega
theorem zIS {out:List ByteArray} (b:UInt8):zHd out b=out.dropLast++[⟨((out.getLastD emp).data.toList++[b]).toArray⟩]:=rfl
theorem ext_one {p:ByteArray} {k:Nat} (h:k<p.size) (x:ByteArray):x++p.extract k (k+1)=⟨(x.data.toList++[p[k]]).toArray⟩:=by
 apply zDH
 have h1:(p.extract k (k+1)).data.toList=[p[k]]:=by
  rw [ByteArray.data_extract,Array.toList_extract]
  have hl:k<p.data.toList.length:=by rw [AM];exact h
  rw [List.extract_eq_take_drop,List.drop_eq_getElem_cons hl]
  simp
  rfl
 rw [ByteArray.data_append,Array.toList_append,h1]
theorem zIw:∀ {ns:List ByteArray} {x:ByteArray},x∈ns→x.size≤(zCc ns).length
 | n::r,x,h=>by
  rw [zCc,Aq,Ar,AM];rcases Aa.1 h with rfl | h
  · show x.size≤x.size+_+1;omega
  · have:=zIw h;omega
theorem zH4.small {p:ByteArray} {i:Nat} {out:List ByteArray} (h:zH4 p.data.toList i out) {x:ByteArray} (hx:x∈out):x.size≤p.size:=by
 have h1:=zIw hx
 have h2:(p.data.toList.take i).length≤p.size:=by rw [List.length_take,AM];exact Nat.min_le_right _ _
 rcases h.1 with ⟨_,h3⟩ | ⟨_,h3,_⟩
 · rw [←h3,Ar] at h2;omega
 · rw [←h3] at h2;omega
theorem last_mem {out:List ByteArray} (h:out≠[]):out.getLastD emp∈out:=by
 rw [An,List.getLast?_eq_some_getLast h];exact List.getLast_mem h
theorem zFD (p:ByteArray) (w:World):Calls AF 49 #[.string p] w (RSpl p w):=by
 obtain⟨Q,hQ⟩:=nM (RSpl p w);rw [hQ];have gG:=hid hQ;clear hQ;obtain⟨i0,hi,jJ,jK,jL⟩:=info_parts zGw;go_enter Tryz.func49,Tryz.ntmps49
 go_wp2_with (first
  | (go_at_call 74;refine (zIn p w).mono ?_;rintro e w' ⟨⟨b,rfl,gT,gU⟩,rfl⟩))
 · rw [←gG.o];exact zJF (gU (by simpa using ‹(!b)=true›)) rfl br
 · obtain⟨h1,h2,h0,gV⟩:=gT (by simpa using ‹(!b)=false›)
   obtain rfl:b=true:=by simpa using ‹(!b)=false›
   simp only [Bool.not_true];have fT:=hid gV;have gW:=hid h0;clear gT gU gV h0;go_wp2_with fail
   go_loopw [4,5] (fun v i wr=>∃ (m:Nat) (out:List ByteArray),m+1≤p.size∧i=.int .i64 ((m+1:Nat):Int)∧out.length≤m∧Hid (zH4 p.data.toList (m+1) out)∧Hid (wr.ownsRow w.heap.size 9 1 v out.length (strs out))∧Hid (Below w.heap.size w wr)) (fun _ i _=>p.size-(intOf i).toNat)
   case atStart=>exact⟨0,[],h1,rfl,Ax _,hid (cutt_1 gW.o),hid (World.ownsRow_nil _ _ _ _),hid br⟩
   case round =>
    obtain⟨m,out,hm,rfl,gX,hcut,ho,hb⟩:=hrel
    have v1:IntKind.i64.wrap (((m+1:Nat):Int)-1)=(m:Int):=by rw [zAF _ (by omega)];omega
    have v2:IntKind.i64.wrap ((m:Int)+1-1)=(m:Int):=by rw [zAF _ (by omega)];omega
    have v3:IntKind.i64.wrap (m:Int)=(m:Int):=zAF _ (by omega);by_cases gH:m+1<p.size
    · have gY:m<p.size:=by omega
      have ga:=zEp gY;have gb0:=zEp gH;obtain⟨a,ha⟩:=nM (p[m]);obtain⟨b,gI⟩:=nM (p[m+1]);rw [ha] at ga;rw [gI] at gb0;have gaH:=hid ga;have gbH:=hid gb0;clear ga gb0;by_cases ea:a.toNat=47
      · have ta:((a.toNat:Int)==47)=true:=by rw [ea];rfl
        have ga2:p.data.toList[m]? = some 47:=by rw [gaH.o,AN.1 (show a.toNat=(47:UInt8).toNat from ea)]
        have eb:b≠47:=fun e=>(fT.o m (by rw [gbH.o,e])).1 ga2
        have tb:((b.toNat:Int) != 47)=true:=by
         have:b.toNat≠47:=fun e=>eb (AN.1 e);simp;omega
        have fB:=hid (hcut.o.first (i:=m+1) gbH.o eb (by rw [Az];exact ga2));have gJ:=ho.o;have jW:=hb.o.size;obtain⟨on,gF⟩:=nM (out.length);obtain⟨ox,gK⟩:=nM (strs out);rw [gF] at gX;rw [gF,gK] at gJ;have fU:=hid gF;have gL:=hid gK;clear gF gK ga2
        go_upto_region 10 with (first
         | (at_builtin;refine zAg _ rfl (.tmp 21) (.tmp 22) _ _ rfl w.heap.size 9 i0 (.string ⟨#[]⟩) 1 16 AH hi jJ jK jL rfl u4 on ox rfl (gJ.alloc _) 1 [.string ⟨#[]⟩] (zCr wr AH (.string ⟨#[]⟩) 9 rfl) (by unfold maxLen;omega) (by omega) (by simp;omega) ?_;intro v9 w9 gZ jA gM;have jB:Chg (fun b=>w.heap.size≤b) wr w9:=((AL (fun b=>w.heap.size≤b) wr).alloc _).grown jA (fun g' e _=>(World.ownsRow.lt gJ g' e).1);have jC:=hid (hb.o.trans (jB.below hb.o.size fun b hb h=>by omega));have gN:=hid gZ;clear jA gM jB gZ))
        have fV:w9.ownsRow w.heap.size 9 1 v9 (out++[emp]).length (strs (out++[emp])):=by
         have h9:=gN.o;rw [←fU.o,←gL.o] at h9;simpa [strs,emp] using h9
        have fG:(out++[emp])≠[]:=by simp
        have fJ:((out++[emp]).getLastD emp).size≤p.size:=by rw [List.getLastD_concat];exact Ay _
        have jM:(out++[emp]).length≤m+1:=by simp only [Ar,Aq,Aj,fU.o];omega
        obtain⟨gb,cap,rfl,jN,fK,fW,fA⟩:=zJg fV fG;obtain⟨q,hq⟩:∃ q,(out++[emp]).length=q+1:=⟨(out++[emp]).length-1,by have:=Al.2 fG;omega⟩;rw [hq];rw [hq] at fK fW fA;simp only [Az] at fK fW fA;have fC:=hid fA
        have jO:q≤m:=by omega
        have gO:=hid hq;obtain⟨la,fL⟩:=nM ((out++[emp]).getLastD emp);rw [fL] at fK fJ;have fM:=hid fL;have fN:=hid fG
        have x1:IntKind.i64.wrap (((q+1:Nat):Int)-1)=(q:Int):=by rw [zAF _ (by omega)];omega
        have x2:IntKind.i64.wrap ((q:Int)+1-1)=(q:Int):=by rw [zAF _ (by omega)];omega
        have x3:IntKind.i64.wrap (q:Int)=(q:Int):=zAF _ (by omega)
        have x4:IntKind.i64.wrap (((m+1:Nat):Int)+1)=((m+2:Nat):Int):=by rw [zAF _ (by omega)];omega
        have x5:IntKind.i64.wrap ((m:Int)+1+1)=((m+2:Nat):Int):=by rw [zAF _ (by omega)];omega
        have jP:m+2≤p.size:=by omega
        have fO:∀ W:World,(Op.stringOp .add la (p.extract (m+1) (m+2))).run AF W=.ok (.string ⟨(la.data.toList++[p[m+1]]).toArray⟩) W:=fun W=>by
         have fP:la.size+(p.extract (m+1) (m+2)).size≤9223372036854775807:=by
          have h9:(p.extract (m+1) (m+2)).size≤p.size:=by rw [ByteArray.size_extract];omega
          omega
         exact (AK _ _ _ fP).trans (by rw [show m+2=(m+1)+1 from rfl,ext_one gH])
        rw [gI] at fO;clear hq fL fA fV fG
        go_region
        go_upto_region 6 with (fail);obtain⟨s',fX⟩:∃ s',(⟨(la.data.toList++[b]).toArray⟩:ByteArray)=s':=⟨_,rfl⟩;have fD:=hid (fC.o s');have gP:Chg (fun b=>b=gb) w9 (w9.setCell ⟨gb,q,none⟩ (.string s')).drew:=((AL (fun b=>b=gb) w9).setCell (p:=⟨gb,q,none⟩) (fun _=>rfl) _).drew;have gQ:=hid (jC.o.trans (gP.below jC.o.size fun b hb e=>by omega))
        have fQ:(zHd (out++[emp]) b).length=q+1:=by rw [zJC fN.o,gO.o]
        have fR:strs ((out++[emp]).dropLast++[s'])=strs (zHd (out++[emp]) b):=by rw [zIS,fM.o,fX]
        rw [fR] at fD;rw [fX];go_wp2;go_roundw
        case rel=>exact⟨m+1,zHd (out++[emp]) b,by omega,by go_num,by omega,fB,hid (by rw [fQ];exact fD.o),gQ⟩
        case measure=>simp [intOf];omega
      · have ta:((a.toNat:Int)==47)=false:=by simp;omega
        have ga2:p.data.toList[m]?≠some 47:=fun h=>ea (by rw [gaH.o] at h;rw [Option.some.inj h];rfl);by_cases eb:b=47
        · have tb:((b.toNat:Int) != 47)=false:=by rw [eb];rfl
          have fB:=hid (hcut.o.slash (i:=m+1) (by rw [gbH.o,eb]) (by rw [Az];exact ga2));clear eb;go_wp2;go_roundw
          case rel=>exact⟨m+1,out,by omega,by go_num,by omega,fB,ho,hb⟩
          case measure=>simp [intOf];omega
        · have tb:((b.toNat:Int) != 47)=true:=by
           have:b.toNat≠47:=fun e=>eb (AN.1 e);simp;omega
          obtain⟨fG,fH⟩:=hcut.o.more (i:=m+1) gbH.o eb (by rw [Az];exact ga2);have fB:=hid fH;have fJ:=hcut.o.small (last_mem fG);have fV:=ho.o;clear ga2 fH;go_upto_region 10 with (fail);obtain⟨gb,cap,rfl,jN,fK,fW,fA⟩:=zJg fV fG;obtain⟨q,hq⟩:∃ q,(out).length=q+1:=⟨(out).length-1,by have:=Al.2 fG;omega⟩;rw [hq];rw [hq] at fK fW fA;simp only [Az] at fK fW fA;have fC:=hid fA
          have jO:q≤m:=by omega
          have gO:=hid hq;obtain⟨la,fL⟩:=nM ((out).getLastD emp);rw [fL] at fK fJ;have fM:=hid fL;have fN:=hid fG
          have x1:IntKind.i64.wrap (((q+1:Nat):Int)-1)=(q:Int):=by rw [zAF _ (by omega)];omega
          have x2:IntKind.i64.wrap ((q:Int)+1-1)=(q:Int):=by rw [zAF _ (by omega)];omega
          have x3:IntKind.i64.wrap (q:Int)=(q:Int):=zAF _ (by omega)
          have x4:IntKind.i64.wrap (((m+1:Nat):Int)+1)=((m+2:Nat):Int):=by rw [zAF _ (by omega)];omega
          have x5:IntKind.i64.wrap ((m:Int)+1+1)=((m+2:Nat):Int):=by rw [zAF _ (by omega)];omega
          have jP:m+2≤p.size:=by omega
          have fO:∀ W:World,(Op.stringOp .add la (p.extract (m+1) (m+2))).run AF W=.ok (.string ⟨(la.data.toList++[p[m+1]]).toArray⟩) W:=fun W=>by
           have fP:la.size+(p.extract (m+1) (m+2)).size≤9223372036854775807:=by
            have h9:(p.extract (m+1) (m+2)).size≤p.size:=by rw [ByteArray.size_extract];omega
            omega
           exact (AK _ _ _ fP).trans (by rw [show m+2=(m+1)+1 from rfl,ext_one gH])
          rw [gI] at fO;clear hq fL fA fV fG
          go_region
          go_upto_region 6 with (fail);obtain⟨s',fX⟩:∃ s',(⟨(la.data.toList++[b]).toArray⟩:ByteArray)=s':=⟨_,rfl⟩;have fD:=hid (fC.o s');have gP:Chg (fun b=>b=gb) wr (wr.setCell ⟨gb,q,none⟩ (.string s')).drew:=((AL (fun b=>b=gb) wr).setCell (p:=⟨gb,q,none⟩) (fun _=>rfl) _).drew;have gQ:=hid (hb.o.trans (gP.below hb.o.size fun b hb e=>by omega))
          have fQ:(zHd (out) b).length=q+1:=by rw [zJC fN.o,gO.o]
          have fR:strs ((out).dropLast++[s'])=strs (zHd (out) b):=by rw [zIS,fM.o,fX]
          rw [fR] at fD;rw [fX];go_wp2;go_roundw
          case rel=>exact⟨m+1,zHd (out) b,by omega,by go_num,by omega,fB,hid (by rw [fQ];exact fD.o),gQ⟩
          case measure=>simp [intOf];omega
    · have gR:m+1=p.size:=by omega
      clear v1 v2 v3
      have jD:Hid (spl p=if out.all chk=true then (out,0) else ([],71)):=hid (by
       by_cases gY:m=0
       · rw [spl_one (p:=p) (by omega) gW.o,List.eq_nil_of_length_eq_zero (l:=out) (by omega)];rfl
       · have h9:=hcut.o;rw [show m+1=p.data.toList.length by rw [AM];exact gR] at h9
         obtain⟨jQ,jR⟩:=h9.all (by
          rw [AM]
          show p.data.toList[p.size-1]?≠some 47
          rw [←gR,Az];intro jS;have jX:=fT.o (m-1) (by rw [show m-1+1=m by omega];exact jS);omega)
         exact spl_form h2 jQ jR h9.2)
      obtain⟨n,hn⟩:=nM (out.length);have fY:=ho.o;rw [hn] at fY gX;have fZ:=hid hn;have jE:=World.ownsRow.lt fY;obtain⟨A,c,hv,gA⟩:=AI (B:=wr.heap.size) fY fun g hg=>(jE g hg).2
      have gB:n≤c:=by
       rcases fY.2 with ⟨e,e2⟩ | ⟨g,cap,cur,e,_,_,hnc,_⟩
       · omega
       · rw [hv] at e;injection e with e1 e2 e3;omega
      subst hv;have fI:=hid gA
      have jT:n≤1000000:=by omega
      clear hn ho fY hcut gA jE gR;generalize m+1=m1 at *;go_wp2_with fail
      go_loopw [6] (fun i' wr'=>∃ k:Nat,k≤n∧i'=.int .i64 (k:Int)∧wr'=wr∧Hid (∀ j (h:j<out.length),j<k→chk out[j]=true)) (fun i' _=>n-(intOf i').toNat)
      case atStart=>exact⟨0,Ay _,rfl,rfl,hid fun j _ h=>absurd h (by omega)⟩
      case round =>
       obtain⟨k,hk,rfl,rfl,fE⟩:=hrel;by_cases jU:k<n
       · have jF:k<out.length:=by rw [fZ.o];exact jU
         obtain⟨b5,off5,jV,-,jG⟩:=fI.o.at_ (by omega);have y0:=jG k (.string out[k]) (by rw [zCM _ _ jF]);subst jV;obtain⟨x,hx⟩:=nM (out[k]);rw [hx] at y0;have jH:=hid hx;clear hx jG;have fS:=fun W=>zKt x W;unfold chkV at fS
         cases hc:chk x with
         | true =>
          rw [hc] at fS;simp only [if_true] at fS
          have gC:Hid (∀ j (h:j<out.length),j<k+1→chk out[j]=true):=hid fun j h hj=>by
           by_cases e:j=k
           · subst e;rw [jH.o];exact hc
           · exact fE.o j h (by omega)
          clear fE;go_wp2_with (first | (go_at_call 75;refine (fS _).mono ?_;rintro e w' ⟨rfl,rfl⟩));go_roundw
          case rel=>exact⟨k+1,by omega,by go_num,by trivial,gC⟩
          case measure=>simp [intOf];omega
         | false =>
          rw [hc] at fS;simp only [Bool.false_eq_true,if_false] at fS
          have gS:Hid (spl p=([],71)):=hid (by
           rw [jD.o,if_neg];intro h;have:=As.1 h out[k] (At jF);rw [jH.o,hc] at this
           cases this)
          clear fE;go_wp2_with (first | (go_at_call 75;refine (fS _).mono ?_;rintro e w' ⟨rfl,rfl⟩));rw [←gG.o];exact zJF gS.o rfl hb.o
       · have fF:∀ x∈out,chk x=true:=fun x hx=>by
          obtain⟨j,hj,rfl⟩:=Au hx;exact fE.o j hj (by have:=fZ.o;omega)
         have gD:Hid (spl p=(out,0)):=hid (by rw [jD.o,if_pos (As.2 fF)]);have gE:=hid fF;clear fE fF;go_wp2_with fail;rw [←gG.o];unfold RSpl;rw [gD.o];have jI:=fI.o;rw [←fZ.o] at jI gB;exact⟨⟨A,c,by rw [fZ.o];rfl,jI,by rw [fZ.o];exact jT,gB,fun x hx=>zCX (gE.o x hx)⟩,hb.o⟩
theorem rused_any {w:World} {t:Tr} {T:PT} (h:RefAt w t T) (ho:T.Ok):Calls AF 36 #[trV t] w fun e w'=>e=.returned (.int .i64 (T.used:Int))∧Below w.heap.size w w':=by
 refine (zJh w.heap.size t w h.tr nr (h.rep.small ho)).mono ?_;rintro e w' ⟨rfl,hb⟩;exact⟨by rw [h.rep.used ho],hb⟩
theorem room_set {w:World} {r:Nat} (h:Blk w r 40 [.int .i64 0,.int .i64 0,.int .i64 0]) (a b c:Int):Blk (((w.setCell ⟨r,0,none⟩ (.int .i64 a)).setCell ⟨r,1,none⟩ (.int .i64 b)).setCell ⟨r,2,none⟩ (.int .i64 c)) r 40 [.int .i64 a,.int .i64 b,.int .i64 c] ∧
 Chg (fun b=>b=r) w (((w.setCell ⟨r,0,none⟩ (.int .i64 a)).setCell ⟨r,1,none⟩ (.int .i64 b)).setCell ⟨r,2,none⟩ (.int .i64 c)) :=
 ⟨((h.set_ 0 _).set_ 1 _).set_ 2 _,(((AL (fun b=>b=r) w).setCell (p:=⟨r,0,none⟩) (fun _=>rfl) _).setCell (p:=⟨r,1,none⟩) (fun _=>rfl) _).setCell (p:=⟨r,2,none⟩) (fun _=>rfl) _⟩
theorem rroom_any (S:Nat→Prop) (t:Tr) (T:PT) (w:World) (h:RefS S w t T) (hT:T.Inv) :
 Calls AF 15 #[.agg (zAa t).toArray] w fun e w'=>e=.returned (zEq T)∧Below w.heap.size w w':=by
 obtain⟨Q,hQ⟩:∃ Q:Ending→World→Prop,(fun e w'=>e=.returned (zEq T)∧Below w.heap.size w w')=Q:=⟨_,rfl⟩;rw [hQ];have gA:=hid hQ;have fJ:=(Blk.new w 28 (zAa t)).alloc (.cells #[.int .i64 0,.int .i64 0,.int .i64 0] 40)
 have fN:Blk ((w.alloc (.cells (zAa t).toArray 28)).alloc (.cells #[.int .i64 0,.int .i64 0,.int .i64 0] 40)) (w.heap.size+1) 40 [.int .i64 0,.int .i64 0,.int .i64 0]:=by
  have:=Blk.new (w.alloc (.cells (zAa t).toArray 28)) 40 [.int .i64 0,.int .i64 0,.int .i64 0];simpa using this
 have fF:Below w.heap.size w ((w.alloc (.cells (zAa t).toArray 28)).alloc (.cells #[.int .i64 0,.int .i64 0,.int .i64 0] 40)):=(br.alloc nr _).alloc (by simp) _;have fY:=h.fresh fF;have fB:=h.ref.rep.sec;have fC:=h.ref.rep.ino;have fA:t.l.length=T.nodes.length:=h.ref.rep.all.len;have fG:=hT.gr.ok;have gB:=fG.len;have gC:=fG.ino;have gD:=fG.sec;have fO:=hT.room;have fZ:=hid fA;have gI:=hid hT;obtain⟨us,fK⟩:=nM (T.used);obtain⟨se,fP⟩:=nM (T.sectors);obtain⟨io,fQ⟩:=nM (T.inodes);obtain⟨nl,fR⟩:=nM (T.nodes.length);rw [fP] at fB gD fO;rw [fQ] at fC gC fO;rw [fR] at fA gB;rw [fK] at fO;have hv:Hid (zEq T=.agg #[.int .i64 ((se:Int)-1-io-us),.int .i64 0,.int .i64 ((io:Int)-nl)]):=hid (by rw [←fK,←fP,←fQ,←fR];rfl);have fD:=fun W (hb:Below ((w.alloc (.cells (zAa t).toArray 28)).alloc (.cells #[.int .i64 0,.int .i64 0,.int .i64 0] 40)).heap.size ((w.alloc (.cells (zAa t).toArray 28)).alloc (.cells #[.int .i64 0,.int .i64 0,.int .i64 0] 40)) W)=>rused_any (fY.fresh (w':=W) hb).ref fG;rw [fK] at fD;unfold trV at fD;rw [fB,fC,fA] at fD;have fS:=hid fB;have fT:=hid fC;have fU:=hid fA;obtain⟨a0,a1,a2,a3⟩:=zAp fJ;rw [fB] at a0;rw [fC] at a1;rw [fA] at a3;obtain⟨g,hz⟩:=nM (w.heap.size);have fL:=hid hz;clear hQ h hT fY fK fP fQ fR fG;go_enter Tryz.func15,Tryz.ntmps15;go_upto_region 1 with (fail);change Code.wp _ _ _ _ ((w.alloc (.cells (zAa t).toArray 28)).alloc (.cells #[.int .i64 0,.int .i64 0,.int .i64 0] 40));generalize (w.alloc (.cells (zAa t).toArray 28)).alloc (.cells #[.int .i64 0,.int .i64 0,.int .i64 0] 40)=w0 at *;rw [hz] at fJ fN fF a0 a1 a2 a3
 try simp only [hz]
 have fH:Below w0.heap.size w0 w0.drew:=zAd (Below.refl _ w0) 1;have fV:=hid (fD w0.drew fH);have gE:=hid (fJ.fresh fH);have gF:=hid (fN.fresh fH);have fW:=hid (fF.trans (fH.mono (by have:=fF.size;have:=fL.o;omega)));have v1:IntKind.i64.wrap ((se:Int)-1)=(se:Int)-1:=zAF _ (by omega);have v2:IntKind.i64.wrap ((se:Int)-1-io)=(se:Int)-1-io:=zAF _ (by omega);have v3:IntKind.i64.wrap ((se:Int)-1-io-us)=(se:Int)-1-io-us:=zAF _ (by omega);have v4:IntKind.i64.wrap ((io:Int)-nl)=(io:Int)-nl:=zAF _ (by omega);clear fD fJ fN fF fH hz fB fC fA
 go_region_held3 (fun w'=>w'.cell? ⟨g,0,none⟩=some (.int .i64 (se:Int))∧w'.cell? ⟨g,1,none⟩=some (.int .i64 (io:Int))∧w'.cell? ⟨g,2,none⟩=some (.int .i64 t.births)∧w'.cell? ⟨g,3,none⟩=some (.slice t.A nl t.c))
  (first | go_keep)
  (first
   | (go_at_call 36;(with_reducible refine fV.o.mono ?_);rintro e w3 ⟨rfl,fM⟩;have fE:=gF.o.fresh fM;have fX:=gE.o.fresh fM;obtain⟨u0,u1,u2,u3⟩:=zAp fX;obtain⟨x1,x2⟩:=room_set fE ((se:Int)-1-io-us) 0 ((io:Int)-nl);have z0:=fE.cell 0;have z1:=fE.cell 1;have z2:=fE.cell 2;simp only [Ak,Ai] at z0 z1 z2;have f0:=fE.frozen 0;have f1:=fE.frozen 1;have f2:=fE.frozen 2;obtain⟨r0,r1,r2,r3⟩:=zAp (fX.chg x2 (by omega));have gG:=hid x1;have gH:=hid x2;have fI:=hid fM;clear x1 x2 fM fE fX;simp only [fS.o,fT.o,fU.o] at u0 u1 u3 r0 r1 r3))
 go_wp2;refine bodyPost_ret (results_cell_row rfl _ _ (g+1) 40 (#[.int .i64 ((se:Int)-1-io-us),.int .i64 0,.int .i64 ((io:Int)-nl)]:Array Value) (0,0) _ rfl gG.o Tryz.underlying40 rfl rfl) rfl ?_;rw [←gA.o];exact⟨by rw [hv.o],by rw [fL.o];exact (fW.o.trans (fI.o.mono (by have:=fW.o.size;have:=fL.o;omega))).trans (gH.o.below (by have:=fW.o.size;have:=fI.o.size;have:=fL.o;omega) fun b hb e=>by omega)⟩
def zD5 (l:List Nd) (bs:Nat→Nat):List Nd:=l.mapIdx fun i x=>zDh x (bs i)
theorem zAX (l:List Nd) (bs:Nat→Nat):(zD5 l bs).length=l.length:=by simp [zD5]
theorem zC7 (l:List Nd) (bs:Nat→Nat) (i:Nat) (h:i<(zD5 l bs).length) (h':i<l.length):(zD5 l bs)[i]=zDh l[i] (bs i):=by simp [zD5]
theorem blk_sees {w:World} {g:Nat} {t:TypeId} {cs rest:List Value} (h:Blk w g t (cs++rest)) {B:Nat} (hB:g<B):Sees w B 1 (some ⟨g,0,none⟩) cs.length cs :=
 ⟨by simp,fun _=>⟨g,0,rfl,hB,fun j u hu=>by
  rw [AA,h.cell]
  have hj:j<cs.length:=by
   rcases Nat.lt_or_ge j cs.length with h | h
   · exact h
   · rw [Ap h] at hu;cases hu
  rw [Ao hj];exact hu⟩⟩
theorem zFr {w:World} {B g:Nat} {vb:Value} {bs:Nat→Nat} {l:List Nd} (h:LentAt w B g vb bs l):NodesAt w w.heap.size (some ⟨g,0,none⟩) (zD5 l bs):=by
 obtain⟨cs,hr,hl⟩:=h.row;refine⟨fun _=>⟨g,0,rfl,hr.lt,fun i hi=>?_⟩,fun x hx=>?_⟩
 · have fA:i<l.length:=by rw [zAX] at hi;exact hi
   rw [zC7 l bs i hi fA,AA];exact h.mem.node i fA fA
 · obtain⟨i,hi,rfl⟩:=Au hx
   have fA:i<l.length:=by rw [zAX] at hi;exact hi
   rw [zC7 l bs i hi fA];have hd:=h.mem.data i fA fA;have:=blk_sees hd (B:=w.heap.size) hd.lt;rw [zAc] at this;exact this
theorem lent_same (l:List Nd) (bs:Nat→Nat):∀ i (h1:i<(zD5 l bs).length) (h2:i<l.length),ndSame (zD5 l bs)[i] l[i]:=fun i h1 h2=>by
 rw [zC7 l bs i h1 h2];exact⟨rfl,rfl,rfl,rfl,rfl⟩
theorem zKb (l:List Nd) (bs:Nat→Nat) (n i:Nat) (h:i<n):(zEd l bs n)[i]? = some (.slice (some ⟨bs i,0,none⟩) (zIq l i+5) (zIq l i+5)):=by simp [zEd,h]
theorem kept_true (B g:Nat) (vb:Value) (bs:Nat→Nat) (A:Option Addr) (cap:Nat) (l:List Nd) (w:World) (hL:LentAt w B g vb bs l) (hN:NodesAt w w.heap.size A l) (fR:l.length≤5000) (fI:∀ x∈l,x.data.length≤2097152) :
 Calls AF 19 #[.agg #[.slice (some ⟨g,0,none⟩) (l.length+3) (l.length+3),vb],.slice A l.length cap] w fun e w'=>e=.returned (.bool true)∧Below w.heap.size w w':=by
 obtain⟨Av,cv,rfl,fG⟩:=AI (B:=w.heap.size) hL.own fun g' fS=>(hL.own.lt g' fS).2
 have fN:g<w.heap.size:=by obtain⟨cs,hr,_⟩:=hL.row;exact hr.lt
 obtain⟨len,fA⟩:∃ len,len=l.length:=⟨_,rfl⟩;have fB:=hid fA;have hp:=Blk.new w 49 [.slice (some ⟨g,0,none⟩) (len+3) (len+3),.slice Av len cv];have fT:=(Below.refl w.heap.size w).alloc nr (.cells #[.slice (some ⟨g,0,none⟩) (len+3) (len+3),.slice Av len cv] 49);rw [←fA] at fR ⊢
 have fJ:∀ i,len≤i→i<len+3→w.cell? ⟨g,i * 5,none⟩=some (.string ⟨#[109,97,114,107]⟩)∧w.cell? ⟨g,i * 5+4,none⟩=some (.slice none 0 0):=by rw [fA];exact hL.marked
 rw [←fA] at fG;clear fA;go_enter Tryz.func19,Tryz.ntmps19;go_wp2;generalize w.alloc (.cells #[.slice (some ⟨g,0,none⟩) (len+3) (len+3),.slice Av len cv] 49)=W1 at *;have fU:Blk W1 w.heap.size 49 [.slice (some ⟨g,0,none⟩) (len+3) (len+3),.slice Av len cv]:=hp;clear hp
 go_loopw [5] (fun i wr=>∃ m:Nat,m≤3∧i=.int .i64 ((len:Int)+m)∧Below w.heap.size w wr∧Blk wr w.heap.size 49 [.slice (some ⟨g,0,none⟩) (len+3) (len+3),.slice Av len cv])
  (fun i _=>len+3-(intOf i).toNat)
 case atStart=>exact⟨0,by omega,by simp,fT,fU⟩
 case round =>
  obtain⟨m,hm,rfl,hb,fH⟩:=hrel;have q0:=fH.cell 0;by_cases gC:m<3
  · obtain⟨m1,m2⟩:=fJ (len+m) (by omega) (by omega);have m3:=(hb.cell (p:=⟨g,(len+m) * 5,none⟩) fN).trans m1;have m4:=(hb.cell (p:=⟨g,(len+m) * 5+4,none⟩) fN).trans m2;clear m1 m2 fJ;go_wp2;go_roundw
    case rel=>exact⟨m+1,by omega,by go_num,hb,fH⟩
    case measure=>simp [intOf];omega
  · obtain rfl:m=3:=by omega
    clear fJ;go_wp2;obtain⟨wo,rfl⟩:∃ wo:World,wo=wr:=⟨_,rfl⟩
    go_loopw [6] (fun i wr=>∃ j:Nat,j≤len∧i=.int .i64 j∧∃ nd,wr=wo.drewN nd) (fun i _=>len-(intOf i).toNat)
    case atStart=>exact⟨0,by omega,rfl,0,rfl⟩
    case round =>
     obtain⟨j,hj,rfl,nd,rfl⟩:=hrel;by_cases fV:j<len
     · have fC:j<l.length:=by have:=fB.o;omega
       obtain⟨b,off,rfl,fW,hc⟩:=hN.at_ (by omega);have c4:=(hb.cell (p:=⟨b,off+j * 5+4,none⟩) fW).trans (hc j fC).2.2.2.2;have hd:=(hN.data _ (At fC)).below hb;have fK:=fI _ (At fC);have fD:=(hL.mem.data j fC fC).fresh hb;have fO:=zHr l j fC;obtain⟨bv,ov,fX,fY,fP⟩:=fG.at_ (by omega);subst fX;have v0:=(hb.cell (p:=⟨bv,ov+j,none⟩) fY).trans (fP j _ (zKb l bs _ j fV));rw [fO] at v0;have q1:=fH.cell 1;clear hN hc fI hL fP fG fO;generalize l[j]=x at *;obtain⟨pa,ki,ma,sa,dA,dc,da⟩:=x;simp only at c4 hd fK fD v0;generalize bs j=h at *;go_wp2;obtain⟨wo2,fZ⟩:∃ wo2:World,wo2=wo.drewN nd:=⟨_,rfl⟩
       go_loopw [8] (fun i wr=>∃ k:Nat,k≤da.length+5∧i=.int .i64 k∧∃ nd,wr=wo.drewN nd) (fun i _=>da.length+5-(intOf i).toNat)
       case atStart=>exact⟨0,by omega,rfl,nd,rfl⟩
       case round =>
        obtain⟨k,hk,rfl,nd2,rfl⟩:=hrel
        have k0:(0:Int)≤(k:Int):=by omega
        have j0:(0:Int)≤(j:Int):=by omega
        have j1:(j:Int)<(len:Int):=by omega
        by_cases fL:k<da.length
        · have fF:wo.cell? ⟨h,k,none⟩=some (.int .u8 ((da[k]'fL).toNat:Int)):=by rw [fD.cell,Ao (by rw [zAc];exact fL)];exact zBK da k fL
          obtain⟨bd,od,rfl,gD,fQ⟩:=hd.at_ (by omega);have fM:=fQ k _ (zBK da k fL)
          have k1:(k:Int)<(da.length:Int):=by omega
          have k2:(k:Int)<(da.length:Int)+5:=by omega
          have k3:decide (da.length≤k)=false:=by simp;omega
          clear fQ hd fD;generalize (da[k]'fL)=by8 at *;go_wp2
          go_quiet (fail)
          go_wp2;go_roundw
          case rel=>exact⟨k+1,by omega,by go_num,nd2+nq,by simp [World.drewN]⟩
          case measure=>simp [intOf];omega
        · by_cases gE:k<da.length+5
          · have fF:wo.cell? ⟨h,k,none⟩=some (.int .u8 201):=by
             rw [fD.cell,List.getElem?_append_right (by rw [zAc];omega),zAc,mark5,List.getElem?_replicate,if_pos (by omega)]
            have k1:¬(k:Int)<(da.length:Int):=by omega
            have k2:(k:Int)<(da.length:Int)+5:=by omega
            have k3:decide ((k:Int)<(da.length:Int))=false:=by simpa using k1
            have k4:(da.length:Int)≤(k:Int):=by omega
            clear hd fD;go_wp2
            go_quiet (fail)
            go_wp2;go_roundw
            case rel=>first | exact⟨k+1,by omega,by go_num,nd2+nq,by simp [World.drewN]⟩ | ((repeat apply Exists.intro);exact⟨⟨k+1,by omega,by go_num,nd2+nq,by simp [World.drewN]⟩,rfl⟩)
            case measure=>simp [intOf];omega
          · obtain rfl:k=da.length+5:=by omega
            clear hd fD;go_wp2;go_roundw
            case rel=>exact⟨j+1,by omega,by go_num,nd2,rfl⟩
            case measure=>simp [intOf];omega
     · obtain rfl:j=len:=by omega
       have q0':=(fH.cell 0);clear fG fI;go_wp2_with fail;have gA:=zFr hL;have fE:Below w.heap.size w (wo.drewN nd):=zAd hb nd;have hc:=zHw (some ⟨g,0,none⟩) A (j+3) cap (zD5 l bs) l (wo.drewN nd) ((gA.below fE).more fE.size) ((hN.below fE).more fE.size) (zAX l bs).symm (by rw [zAX];have:=fB.o;omega) (lent_same l bs);rw [zAX,←fB.o] at hc;refine hc.mono ?_;rintro e w5 ⟨rfl,gB⟩;go_wp2;go_ret;exact⟨rfl,fE.trans (gB.mono fE.size)⟩
end Go.Proofs.YtolpcfhfcdkokaaGreatDoor
