/- Joined out of SRep..SSlot. -/
import Derived.Test.YtolpcfhfcdkokaaGreatDoorQ24
set_option maxHeartbeats 16000000
set_option maxRecDepth 100000
set_option linter.unusedSimpArgs false
set_option linter.unusedVariables false
namespace Go.Proofs.YtolpcfhfcdkokaaGreatDoor
open Lib (hid)
open Go.RowKit
def slN (n:PN) (nm:ByteArray):Slt:=if nm=emp then none else (zAd nm n.names).map fun i=>(i,nm)
def zAw (n:PN):List Slt:=n.slots.map (slN n)
def zFI (n:PN):List (List UInt8):=n.data.map (·.2)++(zAw n).map zFo
structure SlOk (n:PN):Prop where
 has:∀ nm∈n.slots,nm≠emp→(zAd nm n.names).isSome=true
 one:n.slots.Pairwise fun a b=>a=emp∨b=emp∨a≠b
 size:n.dir=true→n.size=128 * n.slots.length
 ok:∀ p∈n.names,zEd p.2 p.1
 at_:∀ p∈n.names,p.1∈n.slots
def zCb (d:List (Nat×List UInt8)) (z:Nat):Prop:=∀ p∈d,p.1 * 128<z∧∀ (j:Nat) (h:j<p.2.length),z≤p.1 * 128+j→p.2[j]=0
structure RepN (x:Hd) (i:Nat) (n:PN):Prop where
 ino:x.ino=(i:Int)
 kind:x.kind=n.kind
 links:x.links=(n.links:Int)
 size:x.size=(n.size:Int)
 made:x.made=(n.made:Int)
 idx:x.idx=n.keys
 dat:x.dat=zFI n
 sl:SlOk n
 tl:zCb n.data n.size
inductive RepL:List Hd→List (Nat×PN)→Prop
 | nil:RepL [] []
 | cons {x:Hd} {p:Nat×PN} {l:List Hd} {m:List (Nat×PN)}:RepN x p.1 p.2→RepL l m→RepL (x::l) (p::m)
structure RepT (t:Tr) (T:PT):Prop where
 sec:t.sectors=(T.sectors:Int)
 ino:t.inodes=(T.inodes:Int)
 all:RepL t.l T.nodes
 cap:t.l.length≤t.c
section
variable {l:List Hd} {m:List (Nat×PN)} {x:Hd} {i:Nat} {n:PN}
theorem RepL.len:∀ {l:List Hd} {m:List (Nat×PN)},RepL l m→l.length=m.length
 | _,_,.nil=>rfl
 | _,_,.cons _ h=>by rw [List.length_cons,List.length_cons,RepL.len h]
theorem RepL.mem:∀ {l:List Hd} {m:List (Nat×PN)},RepL l m→∀ {x},x∈l→∃ p∈m,RepN x p.1 p.2
 | _,_,.nil,_,h=>by cases h
 | _,_,.cons (p:=p) h1 h2,x,h=>by
  rcases List.mem_cons.1 h with rfl | h
  · exact⟨p,List.mem_cons_self,h1⟩
  · obtain⟨q,hq,h3⟩:=RepL.mem h2 h;exact⟨q,List.mem_cons_of_mem _ hq,h3⟩
theorem RepL.get:∀ {l:List Hd} {m:List (Nat×PN)},RepL l m→∀ {i n},zAd i m=some n→∃ x∈l,RepN x i n
 | _,_,.nil,_,_,h=>by cases h
 | _,_,.cons (x:=x) (p:=p) h1 h2,i,n,h=>by
  rw [zAd] at h
  split at h
  · rename_i e;have h:=Option.some.inj h;exact⟨x,List.mem_cons_self,by rw [←e,←h];exact h1⟩
  · obtain⟨y,hy,h3⟩:=RepL.get h2 h;exact⟨y,List.mem_cons_of_mem _ hy,h3⟩
theorem RepL.uniq (h:RepL l m) (hr:zBs zAG m) (hx:x∈l):∀ y∈l,y.ino=x.ino→y=x:=by
 induction h with
 | nil=>cases hx
 | cons h1 h2 ih =>
  rename_i x0 p0 l0 m0;obtain⟨h3,h4⟩:=List.pairwise_cons.1 hr
  have fA:∀ y∈l0,x0.ino<y.ino:=fun y hy=>by
   obtain⟨q,hq,fB⟩:=h2.mem hy;have:=h3 q hq;rw [h1.ino,fB.ino];simp only [zAG,decide_eq_true_eq] at this;omega
  intro y hy e;rcases List.mem_cons.1 hx with hx1 | hx1
  · rcases List.mem_cons.1 hy with hy1 | hy1
    · rw [hx1,hy1]
    · have:=fA y hy1;rw [hx1] at e;omega
  · rcases List.mem_cons.1 hy with hy1 | hy1
    · have:=fA x hx1;rw [hy1] at e;omega
    · exact ih h4 hx1 y hy1 e
theorem zF1:∀ {l:List Hd} {m:List (Nat×PN)},RepL l m→(∀ p∈m,i<p.1)→(hx:x.ino=(i:Int))→zBg kH x true l=l
 | _,_,.nil,_,_=>rfl
 | _,_,.cons (x:=y) (p:=p) h1 h2,hp,hx=>by
  have h3:=hp p List.mem_cons_self
  have fA:¬kH y=kH x:=by show ¬y.ino=x.ino;rw [h1.ino,hx];omega
  rw [zBg,if_neg (by simp),if_neg fA,Bool.true_or,zF1 h2 (fun q hq=>hp q (List.mem_cons_of_mem _ hq)) hx];rfl
theorem zH9 {m:List (Nat×PN)} (h:∀ p∈m,i<p.1):zBE i m=m:=by
 unfold zBE;rw [List.filter_eq_self];intro p hp;have:=h p hp;simp;omega
theorem rep_ins (hx:RepN x i n):∀ {l:List Hd} {m:List (Nat×PN)},RepL l m→zBs zAG m→RepL (zBg kH x false l) (zBa zAG i n m)
 | _,_,.nil,_=>.cons (p:=(i,n)) hx .nil
 | _,_,.cons (x:=y) (p:=p) (l:=l) (m:=m) h1 h2,hr=>by
  obtain⟨h3,h4⟩:=List.pairwise_cons.1 hr
  have h3:∀ q∈m,p.1<q.1:=fun q hq=>by simpa [zAG] using h3 q hq
  have fA:kH y=(p.1:Int):=h1.ino;have fB:kH x=(i:Int):=hx.ino;rw [zBg,fA,fB];rcases Nat.lt_trichotomy p.1 i with hlt | heq | hgt
  · have c1:¬((false=false)∧(i:Int)≤(p.1:Int)):=fun h=>by omega
    have c2:¬((p.1:Int)=(i:Int)):=by omega
    have c3:decide ((i:Int)≤(p.1:Int))=false:=by simp;omega
    rw [if_neg c1,if_neg c2,c3,Bool.or_false]
    have e:zBa zAG i n (p::m)=p::zBa zAG i n m:=by
     unfold zBa
     have e1:zBE i (p::m)=p::zBE i m:=by
      unfold zBE;rw [List.filter_cons,if_pos (by simp;omega)]
     rw [e1,zCn,if_neg (by simp [zAG];omega)]
    rw [e];exact .cons h1 (rep_ins hx h2 h4)
  · have c1:(false=false)∧(i:Int)≤(p.1:Int):=⟨rfl,by omega⟩
    have c2:(p.1:Int)=(i:Int):=by omega
    have c3:decide ((i:Int)≤(p.1:Int))=true:=by simp;omega
    rw [if_pos c1,if_pos c2,c3,Bool.or_true,zF1 h2 (i:=i) (fun q hq=>by have:=h3 q hq;omega) hx.ino]
    have e:zBa zAG i n (p::m)=(i,n)::m:=by
     unfold zBa
     have e1:zBE i (p::m)=m:=by
      have:=zH9 (i:=i) (m:=m) fun q hq=>by have:=h3 q hq;omega
      unfold zBE at this ⊢;rw [List.filter_cons,if_neg (by simp;omega)];exact this
     rw [e1]
     cases m with
     | nil=>rfl
     | cons q r=>rw [zCn,if_pos (by have:=h3 q List.mem_cons_self;simp [zAG];omega)]
    rw [e];exact .cons (p:=(i,n)) hx h2
  · have c1:(false=false)∧(i:Int)≤(p.1:Int):=⟨rfl,by omega⟩
    have c2:¬((p.1:Int)=(i:Int)):=by omega
    have c3:decide ((i:Int)≤(p.1:Int))=true:=by simp;omega
    rw [if_pos c1,if_neg c2,c3,Bool.or_true,zF1 h2 (i:=i) (fun q hq=>by have:=h3 q hq;omega) hx.ino]
    have e:zBa zAG i n (p::m)=(i,n)::p::m:=by
     unfold zBa
     rw [zH9 (i:=i) (m:=p::m) fun q hq=>by
      rcases List.mem_cons.1 hq with rfl | hq
      · omega
      · have:=h3 q hq;omega,zCn,if_pos (by simp [zAG];omega)]
    rw [e];exact .cons (p:=(i,n)) hx (.cons h1 h2)
theorem rep_del:∀ {l:List Hd} {m:List (Nat×PN)},RepL l m→RepL (l.filter fun y=>decide (y.ino≠(i:Int))) (zBE i m)
 | _,_,.nil=>.nil
 | _,_,.cons (x:=y) (p:=p) h1 h2=>by
  have ih:=rep_del h2;unfold zBE at ih ⊢;rw [List.filter_cons,List.filter_cons,h1.ino];by_cases e:p.1=i
  · rw [if_neg (by simp;omega),if_neg (by simp [e])];exact ih
  · rw [if_pos (by simp;omega),if_pos (by simp [e])];exact .cons h1 ih
theorem zEJ {n:PN} (h:n.Ok):n.keys.Pairwise (· < ·)∧∀ k∈n.keys,k≤1067:=by
 unfold PN.keys
 cases hd:n.dir with
 | true =>
  rw [h.dd hd];refine⟨by simpa using List.pairwise_lt_range,fun k hk=>?_⟩;have:=h.slots
  simp at hk
  omega
 | false =>
  rw [(h.df hd).1];simp only [List.length_nil,List.range_zero,List.append_nil];refine⟨?_,fun k hk=>?_⟩
  · rw [List.pairwise_map];exact h.dris.imp fun {a b} fA=>by simpa [zAG] using fA
  · obtain⟨p,hp,rfl⟩:=List.mem_map.1 hk;exact h.keys p hp
theorem zG8 {x:Hd} {i:Nat} {n:PN} (h:RepN x i n) (ho:n.Ok):zBt x.idx=n.count:=by
 rw [h.idx];exact zJY (zEJ ho).1 (zEJ ho).2
theorem zIl:∀ {l:List Hd} {m:List (Nat×PN)},RepL l m→(∀ p∈m,p.2.Ok)→zCA l=(m.map fun p=>p.2.count).sum
 | _,_,.nil,_=>rfl
 | _,_,.cons (x:=y) (p:=p) (l:=l) (m:=m) h1 h2,ho=>by
  have ih:=zIl h2 fun q hq=>ho q (List.mem_cons_of_mem _ hq)
  have e:zCA (y::l)=zBt y.idx+zCA l:=by unfold zCA;rw [List.map_cons,List.sum_cons]
  rw [e,ih,zG8 h1 (ho p List.mem_cons_self),List.map_cons,List.sum_cons]
theorem zGx {l:List Hd} {m:List (Nat×PN)} (h:RepL l m) (ho:∀ p∈m,p.2.Ok) (hl:m.length≤512):Small l:=by
 refine⟨by rw [h.len];omega,fun x hx=>?_⟩;obtain⟨p,hp,hr⟩:=h.mem hx;have h1:=ho p hp;rw [hr.idx];refine⟨?_,fun k hk=>by have:=(zEJ h1).2 k hk;omega⟩;have h2:=h1.dlen;have h3:=h1.slots
 have:p.2.keys.length=p.2.data.length+p.2.slots.length:=by simp [PN.keys]
 cases hd:p.2.dir with
 | true=>rw [h1.dd hd] at this;simp at this;omega
 | false=>rw [(h1.df hd).1] at this;simp at this;omega
end
theorem RepT.used {t:Tr} {T:PT} (h:RepT t T) (ho:T.Ok):zCA t.l=T.used:=zIl h.all fun p hp=>(ho.node p hp).1
theorem RepT.small {t:Tr} {T:PT} (h:RepT t T) (ho:T.Ok):Small t.l:=zGx h.all (fun p hp=>(ho.node p hp).1) ho.len
theorem RepT.upd {t:Tr} {T:PT} (h:RepT t T) (ho:T.Ok) {x:Hd} {i:Nat} {n:PN} (hx:RepN x i n) (A:Option Addr) (c:Nat) (hc:(zBg kH x false t.l).length≤c) (bi:Int):RepT ⟨t.sectors,t.inodes,bi,A,c,zBg kH x false t.l⟩ (T.upd i n) :=
 ⟨h.sec,h.ino,rep_ins hx h.all ho.ris,hc⟩
theorem RepT.del {t:Tr} {T:PT} (h:RepT t T) (i:Nat) (A:Option Addr) (c:Nat) (hc:(t.l.filter fun y=>decide (y.ino≠(i:Int))).length≤c) (bi:Int):RepT ⟨t.sectors,t.inodes,bi,A,c,t.l.filter fun y=>decide (y.ino≠(i:Int))⟩ (T.del i) :=
 ⟨h.sec,h.ino,rep_del h.all,hc⟩
theorem slN_emp (n:PN):slN n emp=none:=by unfold slN;rw [if_pos rfl]
theorem zDS {n:PN} {nm:ByteArray} {i:Nat} (h:nm≠emp) (hg:zAd nm n.names=some i):slN n nm=some (i,nm):=by unfold slN;rw [if_neg h,hg];rfl
theorem zEx {n:PN} {nm y:ByteArray} {i:Nat} (h:slN n y=some (i,nm)):y=nm∧y≠emp∧zAd nm n.names=some i:=by
 unfold slN at h
 split at h
 · cases h
 · rename_i fA
   cases hg:zAd y n.names with
   | none=>rw [hg] at h;cases h
   | some j =>
    rw [hg] at h;simp only [Option.map_some,Option.some.injEq,Prod.mk.injEq] at h;obtain⟨rfl,rfl⟩:=h;exact⟨rfl,fA,hg⟩
theorem zIN {n:PN} (h:SlOk n):∀ o∈zAw n,zGH o:=fun o ho=>by
 obtain⟨nm,hn,rfl⟩:=List.mem_map.1 ho
 cases e:slN n nm with
 | none=>trivial
 | some p =>
  obtain⟨i,nm'⟩:=p;obtain⟨rfl,h1,h2⟩:=zEx e;exact h.ok _ (zAi h2)
section
variable {x:Hd} {i:Nat} {n:PN}
theorem RepN.dir (h:RepN x i n) (ho:n.Ok) (hd:n.dir=true):Dir x (zAw n):=⟨by rw [h.dat];unfold zFI;rw [ho.dd hd];rfl,zIN h.sl⟩
theorem RepN.rng (h:RepN x i n) (ho:n.Ok) (hd:n.dir=true):x.idx=List.range n.slots.length:=by rw [h.idx];unfold PN.keys;rw [ho.dd hd];rfl
def FindP (n:PN) (nm:ByteArray) (w:World) (e:Ending) (w':World):Prop :=
 ((∃ i k,zAd nm n.names=some i∧zAj nm n.slots=some k∧e=.returned (.tuple #[.int .i64 (k:Int),.int .i64 (i:Int)]))∨(zAd nm n.names=none∧e=.returned (.tuple #[.int .i64 (-1),.int .i64 0])))∧Below w.heap.size w w'
theorem zDl {x:ByteArray}:∀ {l:List ByteArray} {k:Nat} (h:k<l.length),l[k]=x→(∀ j (hj:j<k),l[j]≠x)→zAj x l=some k
 | y::r,0,_,h1,_=>by
  have h1:y=x:=h1;unfold zAj;rw [if_pos h1]
 | y::r,k+1,h,h1,h2=>by
  have h3:¬y=x:=h2 0 (by omega);unfold zAj;rw [if_neg h3,zDl (k:=k) (by simpa using h) h1 fun j hj=>h2 (j+1) (by omega)];rfl
theorem zI7 (h:RepN x i n) (ho:n.Ok) (hd:n.dir=true) {nm:ByteArray} (hn:nm≠emp) {w w':World} {e:Ending} (hf:RFind x (zAw n) nm w e w'):FindP n nm w e w':=by
 refine⟨?_,hf.2⟩;rcases hf.1 with ⟨j,m,hj,hjs,h1,h2,rfl⟩ | ⟨hno,rfl⟩
 · left
   have fA:j<n.slots.length:=by simpa [zAw] using hjs
   have e1:slN n n.slots[j]=some (m,nm):=by simpa [zAw] using h1
   obtain⟨e2,_,e3⟩:=zEx e1
   have fB:zAj nm n.slots=some j:=zDl fA e2 fun q hq eq=>by
    refine h2 q hq m ?_;simp only [zAw,List.getElem_map];rw [eq];exact zDS hn e3
   refine⟨m,j,e3,fB,?_⟩
   have:x.idx[j]=j:=by simp [h.rng ho hd]
   rw [this]
 · right
   refine⟨?_,rfl⟩
   cases hg:zAd nm n.names with
   | none=>rfl
   | some q =>
    exfalso
    have hm:=h.sl.at_ _ (zAi hg);refine hno q ?_;unfold zAw;rw [List.mem_map];exact⟨nm,hm,zDS hn hg⟩
end
def zBr {α:Type} (k:Nat) (s:α) (l:List α):List α:=if k=l.length then l++[s] else l.set k s
theorem zG5 (k:Nat) (s:List UInt8):∀ (l:List (List UInt8)) (o:Nat),k<o→zBg kB (k,s) true ((List.range' o l.length).zip l)=(List.range' o l.length).zip l
 | [],_,_=>rfl
 | y::r,o,h=>by
  rw [List.length_cons,List.range'_succ,List.zip_cons_cons,zBg,if_neg (by simp),if_neg (by show ¬((o:Int)=(k:Int));omega),Bool.true_or,zG5 k s r (o+1) (by omega)];rfl
theorem zIX (k:Nat) (s:List UInt8):∀ (l:List (List UInt8)) (o:Nat),o≤k→k≤o+l.length→zBg kB (k,s) false ((List.range' o l.length).zip l)=(List.range' o (zBr (k-o) s l).length).zip (zBr (k-o) s l)
 | [],o,h1,h2=>by
  have:k=o:=by simp at h2;omega
  subst this;simp [zBg,zBr]
 | y::r,o,h1,h2=>by
  rw [List.length_cons,List.range'_succ,List.zip_cons_cons,zBg];rcases Nat.lt_or_ge o k with hlt | hge
  · have c1:¬((false=false)∧kB (k,s)≤kB (o,y)):=fun h=>by have:=h.2;simp only [kB] at this;omega
    have c2:¬(kB (o,y)=kB (k,s)):=by simp only [kB];omega
    have c3:decide (kB (k,s)≤kB (o,y))=false:=by simp only [kB];simp;omega
    rw [if_neg c1,if_neg c2,c3,Bool.or_false,zIX k s r (o+1) (by omega) (by simp at h2;omega)]
    have e:zBr (k-o) s (y::r)=y::zBr (k-(o+1)) s r:=by
     unfold zBr;rw [List.length_cons,show k-o=(k-(o+1))+1 by omega];by_cases hk:k-(o+1)=r.length
     · rw [if_pos (by omega),if_pos hk];rfl
     · rw [if_neg (by omega),if_neg hk];rfl
    rw [e,List.length_cons,List.range'_succ,List.zip_cons_cons];rfl
  · have fA:o=k:=by omega
    subst fA;have c1:(false=false)∧kB (o,s)≤kB (o,y):=⟨rfl,by simp only [kB];omega⟩;have c2:kB (o,y)=kB (o,s):=rfl
    have c3:decide (kB (o,s)≤kB (o,y))=true:=by simp only [kB];simp
    rw [if_pos c1,if_pos c2,c3,Bool.or_true,zG5 o s r (o+1) (by omega)]
    have e:zBr (o-o) s (y::r)=s::r:=by unfold zBr;rw [if_neg (by simp)];simp
    rw [e,List.length_cons,List.range'_succ,List.zip_cons_cons];rfl
theorem zBY {α:Type} {k:Nat} {s:α} {l:List α}:(zBr k s l).length=if k=l.length then l.length+1 else l.length:=by
 unfold zBr;split<;>simp
theorem zE4 {α β:Type} (f:α→β) {k:Nat} {s:α} {l:List α}:(zBr k s l).map f=zBr k (f s) (l.map f):=by
 unfold zBr;rw [List.length_map]
 split
 · simp
 · rw [List.map_set]
section
variable {x:Hd} {i:Nat} {n n':PN}
theorem set_rep (h:RepN x i n) (ho:n.Ok) (hd:n.dir=true) {k:Nat} (hk:k≤n.slots.length) (o:Slt) (iA:Option Addr) (ic:Nat) (dA:Option Addr) (dc:Nat) (fI:n'.dir=true) (fF:n'.data=[]) (hl:n'.links=n.links) (hm:n'.made=n.made)
 (hs:zAw n'=zBr k o (zAw n)) (hz:n'.size=128 * n'.slots.length) (fJ:SlOk n'):RepN (setH x k o iA ic dA dc) i n':=by
 have fD:(zAw n).length=n.slots.length:=by simp [zAw]
 have fA:x.dat=(zAw n).map zFo:=(h.dir ho hd).dat;have fG:=h.rng ho hd
 have fE:x.idx.zip x.dat=(List.range' 0 x.dat.length).zip x.dat:=by
  rw [fG,List.range_eq_range']
  congr 2
  rw [fA,List.length_map,fD]
 have fC:=zIX k (zFo o) x.dat 0 (by omega) (by rw [fA,List.length_map,fD];omega);rw [Nat.sub_zero] at fC
 have fB:n'.slots.length=(zBr k (zFo o) x.dat).length:=by
  have:=congrArg List.length hs;rw [zBY,fD] at this;rw [zBY,fA,List.length_map,fD];simpa [zAw] using this
 refine⟨h.ino,?_,by show x.links=_;rw [h.links,hl],?_,by show x.made=_;rw [h.made,hm],?_,?_,fJ,by rw [fF];exact fun _ hp=>by cases hp⟩
 · show x.kind=_
   rw [h.kind];unfold PN.kind;rw [hd,fI]
 · show (if x.size<128 * ((k:Int)+1) then 128 * ((k:Int)+1) else x.size)=_
   have fK:=h.sl.size hd;have fH:=fB;rw [zBY,fA,List.length_map,fD] at fH;rw [h.size,hz,fH,fK];by_cases e:k=n.slots.length
   · rw [if_pos e,if_pos (by omega)];omega
   · rw [if_neg e,if_neg (by omega)]
 · show (zBg kB (k,zFo o) false (x.idx.zip x.dat)).map (·.1)=_
   rw [fE,fC];unfold PN.keys;rw [fF,fB,List.range_eq_range',List.map_nil,List.nil_append];exact List.map_fst_zip (by simp)
 · show (zBg kB (k,zFo o) false (x.idx.zip x.dat)).map (·.2)=_
   rw [fE,fC];unfold zFI;rw [fF,hs,zE4,List.map_nil,List.nil_append,←fA];exact List.map_snd_zip (by simp)
end
def MayAt (n:PN) (k:Nat) (nm:ByteArray):Prop:=(k=n.slots.length∧zAd nm n.names=none)∨(n.slots[k]? = some emp∧zAd nm n.names=none)∨n.slots[k]? = some nm
theorem zH6 {n:PN} (h:SlOk n) {nm:ByteArray} (hn:nm≠emp) (hg:zAd nm n.names=none):nm ∉ n.slots:=fun hm=>by
 have:=h.has nm hm hn;rw [hg] at this;cases this
theorem zFU {n:PN} (h:SlOk n) {nm:ByteArray} (hn:nm≠emp) {k q:Nat} (hk:n.slots[k]? = some nm) (hq:n.slots[q]? = some nm):k=q:=by
 obtain⟨h1,h2⟩:=List.getElem?_eq_some_iff.1 hk;obtain⟨h3,h4⟩:=List.getElem?_eq_some_iff.1 hq;have hp:=List.pairwise_iff_getElem.1 h.one;rcases Nat.lt_trichotomy k q with hlt | he | hlt
 · rcases hp k q h1 h3 hlt with e | e | e
   · rw [h2] at e;exact absurd e hn
   · rw [h4] at e;exact absurd e hn
   · rw [h2,h4] at e;exact absurd rfl e
 · exact he
 · rcases hp q k h3 h1 hlt with e | e | e
   · rw [h4] at e;exact absurd e hn
   · rw [h2] at e;exact absurd e hn
   · rw [h2,h4] at e;exact absurd rfl e
theorem zEz {α β:Type} (f g:α→β) (k:Nat) (s:β) (l:List α) (hk:k≤l.length) (h:∀ j (hj:j<l.length),j≠k→f l[j]=g l[j]):zBr k s (l.map f)=zBr k s (l.map g):=by
 unfold zBr;rw [List.length_map,List.length_map]
 split
 · rename_i e
   congr 1
   exact List.map_congr_left fun y hy=>by
    obtain⟨j,hj,rfl⟩:=List.getElem_of_mem hy;exact h j hj (by omega)
 · apply List.ext_getElem (by simp)
   intro j h1 h2;rw [List.getElem_set,List.getElem_set]
   split
   · rfl
   · rename_i e;simp only [List.getElem_map];exact h j (by simpa using h1) fun e2=>e e2.symm
theorem zHc {α:Type} {k:Nat} {s y:α} {l:List α} (h:y∈zBr k s l):y=s∨y∈l:=by
 unfold zBr at h
 split at h
 · rcases List.mem_append.1 h with h | h
   · exact .inr h
   · exact .inl (List.mem_singleton.1 h)
 · exact (List.mem_or_eq_of_mem_set h).symm
theorem putAt_mem {α:Type} {k:Nat} {s:α} {l:List α} (hk:k≤l.length):s∈zBr k s l:=by
 unfold zBr
 split
 · simp
 · exact List.mem_set (by omega) s
theorem zFe {α:Type} {k:Nat} {s y:α} {l:List α} (h:y∈l) (hy:l[k]?≠some y):y∈zBr k s l:=by
 unfold zBr
 split
 · exact List.mem_append_left _ h
 · obtain⟨j,hj,rfl⟩:=List.getElem_of_mem h;refine List.mem_iff_getElem.2 ⟨j,by simpa using hj,?_⟩;rw [List.getElem_set,if_neg];intro e;subst e;exact hy (List.getElem?_eq_getElem hj)
theorem zFE {k:Nat} {nm:ByteArray} {l:List ByteArray} (h:l.Pairwise fun a b=>a=emp∨b=emp∨a≠b) (hn:∀ j (hj:j<l.length),j≠k→l[j]=emp∨nm=emp∨l[j]≠nm):(zBr k nm l).Pairwise fun a b=>a=emp∨b=emp∨a≠b:=by
 unfold zBr
 split
 · rename_i e;rw [List.pairwise_append];refine⟨h,List.pairwise_singleton _ _,fun a ha b hb=>?_⟩;obtain⟨j,hj,rfl⟩:=List.getElem_of_mem ha;rw [List.mem_singleton.1 hb];exact hn j hj (by omega)
 · rw [List.pairwise_iff_getElem] at h ⊢;intro a b ha hb fA;rw [List.length_set] at ha hb;rw [List.getElem_set,List.getElem_set]
   split<;>split
   · omega
   · rename_i e1 e2
     rcases hn b hb (fun e=>e2 e.symm) with h1 | h1 | h1
     · exact .inr (.inl h1)
     · exact .inl h1
     · exact .inr (.inr fun e=>h1 e.symm)
   · rename_i e1 e2;exact hn a ha (fun e=>e1 e.symm)
   · exact h a b ha hb fA
theorem zF9 {i:Nat} {nm:ByteArray} (h:zEd i nm):nm≠emp:=fun e=>by
 have:=h.2.2.1.1;rw [e] at this;exact absurd this (by decide)
theorem slots_set {n:PN} (h:SlOk n) {k j:Nat} {nm:ByteArray} (hj:zEd j nm) (hk:k≤n.slots.length) (hm:MayAt n k nm):zAw (n.set k nm j)=zBr k (some (j,nm)) (zAw n)∧SlOk (n.set k nm j):=by
 have hn:=zF9 hj;have fA:(n.set k nm j).slots=zBr k nm n.slots:=rfl;have fB:(n.set k nm j).names=zBa zA6 nm j n.names:=rfl
 have fC:∀ q (hq:q<n.slots.length),q≠k→n.slots[q]≠nm:=fun q hq fD e=>by
  rcases hm with ⟨_,hg⟩ | ⟨_,hg⟩ | hg
  · exact zH6 h hn hg (by rw [←e];exact List.getElem_mem hq)
  · exact zH6 h hn hg (by rw [←e];exact List.getElem_mem hq)
  · exact fD (zFU h hn (by rw [List.getElem?_eq_getElem hq,e]) hg)
 refine⟨?_,?_,?_,?_,?_,?_⟩
 · unfold zAw;rw [fA,zE4,zDS hn (by rw [fB];exact zAu zA6 nm j n.names)];refine zEz _ _ _ _ _ hk fun q hq fD=>?_;unfold slN;rw [fB,zAl zA6 j (fC q hq fD)]
 · intro y hy fE;rw [fB];by_cases e:y=nm
   · rw [e,zAu];rfl
   · rw [zAl zA6 j e];rw [fA] at hy;rcases zHc hy with h1 | h1
     · exact absurd h1 e
     · exact h.has y h1 fE
 · rw [fA];exact zFE h.one fun q hq fD=>.inr (.inr (fC q hq fD))
 · intro hd;have hz:=h.size hd;rw [fA,zBY]
   show (if k=n.slots.length then (n.slots.length+1) * 128 else n.size)=_
   split
   · omega
   · exact hz
 · intro p hp;rw [fB] at hp;rcases (zBm zA6).1 hp with rfl | ⟨hp,_⟩
   · exact hj
   · exact h.ok p hp
 · intro p hp;rw [fB] at hp;rw [fA];rcases (zBm zA6).1 hp with rfl | ⟨hp,fF⟩
   · exact putAt_mem hk
   · refine zFe (h.at_ p hp) ?_;have fG:=zF9 (h.ok p hp);rcases hm with ⟨e,_⟩ | ⟨e,_⟩ | e
     · rw [List.getElem?_eq_none (by omega)];simp
     · rw [e];exact fun e2=>fG (Option.some.inj e2).symm
     · rw [e];exact fun e2=>fF (Option.some.inj e2).symm
theorem zHK {n:PN} (h:SlOk n) {k:Nat} {nm:ByteArray} (hn:nm≠emp) (hk:zAj nm n.slots=some k):k<n.slots.length∧zAw (n.clear nm)=zBr k none (zAw n)∧SlOk (n.clear nm)∧(n.clear nm).slots.length=n.slots.length:=by
 obtain⟨fH,fG⟩:=zAV hk
 have fA:(n.clear nm).slots=zBr k emp n.slots:=by
  unfold PN.clear zBr;simp only [hk];rw [if_neg (by omega)]
 have fD:(n.clear nm).names=zBE nm n.names:=rfl;have fB:∀ q (hq:q<n.slots.length),q≠k→n.slots[q]≠nm:=fun q hq fE e=>fE (zFU h hn (by rw [List.getElem?_eq_getElem hq,e]) fG)
 have fC:(n.clear nm).slots.length=n.slots.length:=by rw [fA,zBY,if_neg (by omega)]
 refine⟨fH,?_,⟨?_,?_,?_,?_,?_⟩,fC⟩
 · unfold zAw;rw [fA,zE4,slN_emp];refine zEz _ _ _ _ _ (by omega) fun q hq fE=>?_;unfold slN;rw [fD,zAX (fB q hq fE)]
 · intro y hy fF;rw [fD];rw [fA] at hy;rcases zHc hy with h1 | h1
   · exact absurd h1 fF
   · by_cases e:y=nm
     · exfalso
       subst e;unfold zBr at hy;rw [if_neg (by omega)] at hy;obtain⟨q,hq,e2⟩:=List.getElem_of_mem hy;rw [List.getElem_set] at e2;rw [List.length_set] at hq
       split at e2
       · exact fF e2.symm
       · rename_i e3;exact fB q hq (fun e=>e3 e.symm) e2
     · rw [zAX e];exact h.has y h1 fF
 · rw [fA];exact zFE h.one fun q hq fE=>.inr (.inl rfl)
 · intro hd;rw [fC];exact h.size hd
 · intro p hp;rw [fD] at hp;exact h.ok p (zBL.1 hp).1
 · intro p hp;rw [fD] at hp;obtain⟨hp,fI⟩:=zBL.1 hp;rw [fA];exact zFe (h.at_ p hp) (by rw [fG];exact fun e2=>fI (Option.some.inj e2).symm)
def zDO (n:PN) (k:Nat):Slt:=(zAw n)[k]?.getD none
theorem slotAt_ok {n:PN} (h:SlOk n) (k:Nat):zGH (zDO n k):=by
 unfold zDO
 cases e:(zAw n)[k]? with
 | none=>trivial
 | some o=>exact zIN h o (List.mem_of_getElem? e)
theorem zJH {x:Hd} {i:Nat} {n:PN} (h:RepN x i n) (ho:n.Ok) (hd:n.dir=true) {k:Nat} {w w':World} {e:Ending} (hb:RBlk x k w e w'):(∃ b:Bool,e=.returned (.tuple #[zB8 (zFo (zDO n k)),.bool b]))∧Below w.heap.size w w':=by
 refine⟨?_,hb.2⟩;have hD:=h.dir ho hd;have hr:=h.rng ho hd;rcases hb.1 with ⟨j,h1,h2,h3,h4,rfl⟩ | ⟨hno,rfl⟩
 · have fB:j<n.slots.length:=by rw [hr] at h1;simpa using h1
   have fC:j=k:=by rw [←h3];simp [hr]
   subst fC
   have fA:j<(zAw n).length:=by simpa [zAw] using fB
   refine⟨true,?_⟩;rw [hD.get j h2 fA];unfold zDO;rw [List.getElem?_eq_getElem fA];rfl
 · refine⟨false,?_⟩
   have:(zAw n)[k]? = none:=by
    rw [List.getElem?_eq_none_iff];rcases Nat.lt_or_ge k n.slots.length with hlt | hge
    · exact absurd rfl (hno k (by rw [hr];exact List.mem_range.2 hlt))
    · simpa [zAw] using hge
   unfold zDO;rw [this];rfl
theorem one2s (a:Int) (s:ByteArray):(([.int .i64 a,.string s]:List Value).toArray).all (·.oneCell')=true:=by
 rw [Array.all_eq_true_iff_forall_mem];intro v hv;simp only [List.mem_toArray,List.mem_cons,List.not_mem_nil,or_false] at hv;rcases hv with rfl | rfl<;>rfl
theorem sec_box {w:World} {s:List UInt8} (hs:s.length=128):Blk ((w.alloc (.cells Tryz.zeroCells187 187)).setRow w.heap.size (bvs s).toArray) w.heap.size 187 (bvs s) ∧
 Below w.heap.size w ((w.alloc (.cells Tryz.zeroCells187 187)).setRow w.heap.size (bvs s).toArray):=by
 have fA:Blk (w.alloc (.cells Tryz.zeroCells187 187)) w.heap.size 187 (bvs zBN):=zBh rfl;refine⟨setRow_heap _ w.heap.size _ _ _ _ fA,?_⟩;exact (((Chg.refl (fun b=>w.heap.size≤b) w).alloc _).setRow (fun _=>Nat.le_refl _) _).below (Nat.le_refl _) fun b hb h=>by omega
theorem slot_any (x:Hd) (i:Nat) (n:PN) (k:Nat) (w:World) (hx:HdAt w w.heap.size x) (hr:RepN x i n) (ho:n.Ok) (hd:n.dir=true) :
 Calls Tryz.prog 134 #[hdV x,.int .i64 (k:Int)] w fun e w'=>e=.returned (zGn (zDO n k))∧Below w.heap.size w w':=by
 have hl:x.idx.length≤1000000000:=by rw [hr.rng ho hd,List.length_range];have:=ho.slots;omega
 have fR:=slotAt_ok hr.sl k;have fS:=fun (W:World) (hW:Below w.heap.size w W)=>(zG1 W.heap.size x k W ((hx.below hW).more hW.size) (Nat.le_refl _) hl).mono fun _ _ h=>zJH hr ho hd h;have fJ:=hid fS;generalize zDO n k=o at *;have fX:=hid fun (W:World)=>zCk o W fR;have fF:=zEN o fR;generalize gB:zFo o=s at *;have fK:Below w.heap.size w ((w.alloc (.cells (zAb x).toArray 123)).alloc (.cells #[.int .i64 0,.string ⟨#[]⟩] 179)):=((Below.refl _ _).alloc (Nat.le_refl _) _).alloc (by simp) _;have fL:=(Blk.new w 123 (zAb x)).alloc (.cells #[.int .i64 0,.string ⟨#[]⟩] 179)
 have fM:Blk ((w.alloc (.cells (zAb x).toArray 123)).alloc (.cells #[.int .i64 0,.string ⟨#[]⟩] 179)) (w.heap.size+1) 179 [.int .i64 0,.string ⟨#[]⟩]:=by
  have:=Blk.new (w.alloc (.cells (zAb x).toArray 123)) 179 [.int .i64 0,.string ⟨#[]⟩];simpa using this
 clear fS hx hr ho hd hl;unfold hdV zB8 at *;go_enter Tryz.func134,Tryz.ntmps134;go_upto_region 1 with (fail);change Code.wp _ _ _ _ ((w.alloc (.cells (zAb x).toArray 123)).alloc (.cells #[.int .i64 0,.string ⟨#[]⟩] 179));generalize (w.alloc (.cells (zAb x).toArray 123)).alloc (.cells #[.int .i64 0,.string ⟨#[]⟩] 179)=w0 at *;obtain⟨g,fG⟩:∃ g,w.heap.size=g:=⟨_,rfl⟩;have fD:=fJ.out w0 fK;rw [fG] at fL fM;simp only [fG];have fY:=hid fG;have fA:=hid fK;have fN:=hid fM;clear fG fK fM
 go_upto_region 2 with (first
  | (refine wpList_load_row rfl 123 (.tmp 2) rfl g rfl 123 (zAb x).toArray _ _ fL Tryz.underlying123 rfl rfl ?_)
  | (go_at_call 119;refine fD.mono ?_;rintro e w1 ⟨⟨b,rfl⟩,fH⟩;have fT:Blk (w1.alloc (.cells Tryz.zeroCells187 187)) w1.heap.size 187 (bvs zBN):=zBh rfl)
  | (refine wpList_store_row rfl 187 (.tmp 5) (.tmp 13) rfl w1.heap.size (bvs s).toArray rfl (by rfl) 187 _ fT (zAE fF) (by rw [List.size_toArray,List.size_toArray,zAe,zAe,zAt,fF]) (zBc s) ?_))
 obtain⟨fU,fO⟩:=sec_box (w:=w1) fF;have fB:=hid (fA.out.trans (fH.mono fA.out.size) |>.trans (fO.mono (Nat.le_trans fA.out.size fH.size)));have fZ:=hid ((fN.out.fresh fH).fresh fO);clear fL fH fT fO fD;generalize (w1.alloc (.cells Tryz.zeroCells187 187)).setRow w1.heap.size (bvs s).toArray=w2 at *;generalize w1.heap.size=z at *;have fC:=fX.out w2;have fV:zGn o=.agg #[.int .i64 (zB3 o),.string (zCh o)]:=rfl;rw [fV] at fC;clear fV
 go_upto_region 3 with (first
  | (refine wpList_load_row rfl 187 (.tmp 5) rfl z rfl 187 (bvs s).toArray _ _ fU Tryz.underlying187 rfl (zAE fF) ?_)
  | (go_at_call 118;refine fC.mono ?_;rintro e w3 ⟨rfl,fI⟩))
 have fP:Below w3.heap.size w3 (w3.alloc (.cells #[.int .i64 (zB3 o),.string (zCh o)] 179)):=(Below.refl _ _).alloc (Nat.le_refl _) _;have gA:Blk (w3.alloc (.cells #[.int .i64 (zB3 o),.string (zCh o)] 179)) w3.heap.size 179 [.int .i64 (zB3 o),.string (zCh o)]:=Blk.new w3 _ _;have fW:=(fZ.out.fresh fI).fresh fP;have fE:=hid (fB.out.trans (fI.mono fB.out.size) |>.trans (fP.mono (Nat.le_trans fB.out.size fI.size)));change Code.wp _ _ _ _ (w3.alloc (.cells #[.int .i64 (zB3 o),.string (zCh o)] 179));clear fU fC fI fP;generalize w3.alloc (.cells #[.int .i64 (zB3 o),.string (zCh o)] 179)=w4 at *;generalize w3.heap.size=z2 at *;have fQ:=setRow_heap w4 (g+1) _ ([.int .i64 (zB3 o),.string (zCh o)]:List Value).toArray _ _ fW
 go_wp2_with (first
  | (refine wpList_load_row rfl 179 (.tmp 7) rfl z2 rfl 179 _ _ _ gA Tryz.underlying179 rfl rfl ?_)
  | (refine wpList_store_row rfl 179 (.tmp 4) (.tmp 20) rfl (g+1) ([.int .i64 (zB3 o),.string (zCh o)]:List Value).toArray rfl (by rfl) 179 _ fW rfl rfl (one2s _ _) ?_))
 refine bodyPost_ret (results_cell_row rfl _ _ (g+1) 179 ([.int .i64 (zB3 o),.string (zCh o)]:List Value).toArray (0,0) _ rfl fQ Tryz.underlying179 rfl rfl) rfl ⟨rfl,?_⟩;have hg:=fY.out;exact fE.out.trans (((Chg.refl (fun b=>b=g+1) w4).setRow (g:=g+1) (fun _=>rfl) _).below fE.out.size fun b hb e=>by omega)
end Go.Proofs.YtolpcfhfcdkokaaGreatDoor
