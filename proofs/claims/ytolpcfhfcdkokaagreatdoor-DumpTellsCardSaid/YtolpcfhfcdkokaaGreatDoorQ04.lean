/- Joined out of Num..Same. -/
import Derived.Test.YtolpcfhfcdkokaaGreatDoorQ02
import Derived.Test.YtolpcfhfcdkokaaGreatDoorQ03
set_option maxHeartbeats 16000000
set_option maxRecDepth 100000
namespace Go.Proofs.YtolpcfhfcdkokaaGreatDoor
open Lib (hid)
open Go.RowKit
def zGp:List UInt8→Nat
 | []=>0
 | x::xs=>x.toNat+256 * zGp xs
theorem numL_lt (l:List UInt8):zGp l<2 ^ (8 * l.length):=by
 induction l with
 | nil=>simp [zGp]
 | cons x xs ih =>
  have hx:x.toNat<256:=x.toNat_lt
  have e:2 ^ (8 * (x::xs).length)=256 * 2 ^ (8 * xs.length):=by rw [List.length_cons,Nat.mul_add,Nat.pow_add];omega
  rw [e];simp only [zGp];omega
theorem zGM (k:Nat):∀ m:Int,0≤m→zGp (zB7 m k)=(m % (256 ^ k:Nat)).toNat:=by
 induction k with
 | zero =>
  intro m hm
  show 0=(m % ((256 ^ 0:Nat):Int)).toNat
  rw [Nat.pow_zero];omega
 | succ k ih =>
  intro m hm
  have h1:(UInt8.ofNat (m % 256).toNat).toNat=(m % 256).toNat:=by have:=u8_of m;omega
  simp only [zB7,zGp,ih (m / 256) (by omega),h1];obtain⟨n,rfl⟩:=Int.eq_ofNat_of_zero_le hm;rw [Nat.pow_succ,Nat.mul_comm (256 ^ k) 256];have e2:n % (256 * 256 ^ k)=n % 256+256 * (n / 256 % 256 ^ k):=Nat.mod_mul;generalize 256 ^ k=q at *;have e1:((n:Int) / 256 % (q:Int)).toNat=n / 256 % q:=rfl;have e3:((n:Int) % ((256 * q:Nat):Int)).toNat=n % (256 * q):=rfl;have e4:((n:Int) % 256).toNat=n % 256:=rfl;rw [e1,e3,e4,e2]
def takeX (k:Nat):Option (List UInt8)→List UInt8
 | none=>[]
 | some r=>if r.length<k then [] else r.take k
def takeO (k:Nat):Option (List UInt8)→Option (List UInt8)
 | none=>none
 | some r=>if r.length<k then none else some (r.drop k)
def numX (k most:Nat) (o:Option (List UInt8)):Nat:=if zGp (takeX k o)≤most then zGp (takeX k o) else 0
def numO (k most:Nat) (o:Option (List UInt8)):Option (List UInt8):=if zGp (takeX k o)≤most then takeO k o else none
structure PN where
 dir:Bool
 links:Nat
 size:Nat
 made:Nat
 data:List (Nat×List UInt8)
 slots:List ByteArray
 names:List (ByteArray×Nat)
structure PT where
 sectors:Nat
 inodes:Nat
 nodes:List (Nat×PN)
def PN.kind (n:PN):Int:=if n.dir then 2 else 1
def tab (k:Nat) (z:Int):Bool:=if 44≤k then z==-2 || z==(((k-44) / 32:Nat):Int) else if 12≤k then z==-1 else false
def zDj:List Int:=-2::-1::(List.range 32).map Int.ofNat
def zCm (ks:List Nat):Nat:=(zDj.filter fun z=>ks.any fun k=>tab k z).length
def zDt (ks:List Nat):Nat:=ks.length+zCm ks
def PN.keys (n:PN):List Nat:=n.data.map (·.1)++List.range n.slots.length
def PN.count (n:PN):Nat:=zDt n.keys
def PT.used (T:PT):Nat:=(T.nodes.map fun p=>p.2.count).sum
theorem zH5 {k:Nat} (hk:k≤1067) {z:Int} (h:tab k z=true):z∈zDj:=by
 unfold tab at h
 split at h
 · simp only [Bool.or_eq_true,beq_iff_eq] at h;rcases h with rfl | rfl
   · simp [zDj]
   · simp only [zDj,List.mem_cons,List.mem_map,List.mem_range];exact .inr (.inr ⟨(k-44) / 32,by omega,rfl⟩)
 · split at h
   · simp only [beq_iff_eq] at h;subst h;simp [zDj]
   · cases h
theorem zFS:zDj.Nodup:=by decide
theorem zG4 (ks:List Nat):zCm ks≤34:=by
 unfold zCm;exact Nat.le_trans (List.length_filter_le _ _) (by decide)
theorem zAC {α:Type} [DecidableEq α]:∀ {l1 l2:List α},l1.Nodup→(∀ a∈l1,a∈l2)→l1.length≤l2.length
 | [],_,_,_=>Nat.zero_le _
 | a::r,l2,hn,hs=>by
  obtain⟨h1,h2⟩:=List.nodup_cons.1 hn;have ha:=hs a List.mem_cons_self
  have:=zAC (l2:=l2.erase a) h2 fun b hb=>by
   have fA:b≠a:=fun e=>h1 (by rw [←e];exact hb);rw [List.mem_erase_of_ne fA];exact hs b (List.mem_cons_of_mem _ hb)
  rw [List.length_erase_of_mem ha] at this;have hp:=List.length_pos_of_mem ha;simp only [List.length_cons];omega
theorem zCr {α:Type} [DecidableEq α] {l1 l2:List α} (h1:l1.Nodup) (h2:l2.Nodup) (h:∀ a,a∈l1↔a∈l2):l1.length=l2.length :=
 Nat.le_antisymm (zAC h1 fun a=>(h a).1) (zAC h2 fun a=>(h a).2)
def zD6 (k:Nat) (tl:List (Int×Unit)):List (Int×Unit) :=
 if 44≤k then zBa zIC ((((k-44) / 32:Nat)):Int) () (zBa zIC (-2) () tl) else if 12≤k then zBa zIC (-1) () tl else tl
theorem zC9 {α β:Type} [DecidableEq α] (K:KE α) (a z:α) (v:β) (l:List (α×β)):(zAd z (zBa K a v l)).isSome=(decide (z=a) || (zAd z l).isSome):=by
 by_cases h:z=a
 · subst h;rw [zAu];simp
 · rw [zAl K v h];simp [h]
theorem zH3 (a b:Int):(a==b)=decide (a=b):=by
 by_cases h:a=b<;>simp [h]
theorem zHD (k:Nat) (tl:List (Int×Unit)) (z:Int):(zAd z (zD6 k tl)).isSome=(tab k z || (zAd z tl).isSome):=by
 unfold zD6 tab
 split
 · rw [zC9,zC9];simp only [zH3];cases decide (z=(((k-44) / 32:Nat):Int))<;>cases decide (z=-2)<;>rfl
 · split
   · rw [zC9];simp only [zH3]
   · rfl
def zBZ (tl:List (Int×Unit)) (ks:List Nat):Prop:=∀ z,(zAd z tl).isSome=ks.any fun k=>tab k z
theorem zBZ.nil:zBZ [] []:=fun _=>rfl
theorem zBZ.snoc {tl:List (Int×Unit)} {ks:List Nat} (h:zBZ tl ks) (k:Nat):zBZ (zD6 k tl) (ks++[k]):=fun z=>by
 rw [zHD,h z,List.any_append];simp only [List.any_cons,List.any_nil,Bool.or_false];rw [Bool.or_comm]
theorem zBZ.len {tl:List (Int×Unit)} {ks:List Nat} (h:zBZ tl ks) (hr:zBs zIC tl) (hk:∀ k∈ks,k≤1067):tl.length=zCm ks:=by
 have h1:(tl.map (·.1)).Nodup:=by rw [List.Nodup,List.pairwise_map];exact hr.nd
 rw [←List.length_map (f:=(·.1)),zCm];refine zCr h1 (zFS.filter _) fun z=>?_;have hz:=h z;rw [List.mem_filter]
 constructor
 · intro hm;obtain⟨p,hp,rfl⟩:=List.mem_map.1 hm;rw [zA0 hr.nd hp] at hz;have fA:=hz.symm;simp only [Option.isSome_some] at fA;obtain⟨k,fB,fC⟩:=List.any_eq_true.1 fA;exact⟨zH5 (hk k fB) fC,fA⟩
 · rintro ⟨-,hm⟩;rw [hm] at hz
   cases hg:zAd z tl with
   | none=>rw [hg] at hz;cases hz
   | some u=>exact List.mem_map.2 ⟨(z,u),zAi hg,rfl⟩
theorem zHM {a b:List Nat} (h:∀ k,k∈a↔k∈b):zCm a=zCm b:=by
 unfold zCm
 congr 1
 refine List.filter_congr fun z _=>?_;rw [Bool.eq_iff_iff,List.any_eq_true,List.any_eq_true];exact⟨fun⟨k,hk,hz⟩=>⟨k,(h k).1 hk,hz⟩,fun⟨k,hk,hz⟩=>⟨k,(h k).2 hk,hz⟩⟩
theorem sum_perm {l1 l2:List Nat} (h:l1.Perm l2):l1.sum=l2.sum:=by
 induction h with
 | nil=>rfl
 | cons x _ ih=>simp [ih]
 | swap x y l=>simp only [List.sum_cons];omega
 | trans _ _ ih1 ih2=>exact ih1.trans ih2
theorem zDC {α β γ:Type} [DecidableEq α] (f:α→β→γ) (a:α):∀ l:List (α×β),zAd a (l.map fun x=>(x.1,f x.1 x.2))=(zAd a l).map (f a)
 | []=>rfl
 | y::r=>by
  simp only [List.map_cons,zAd]
  split
  · rename_i h;subst h;rfl
  · exact zDC f a r
theorem zEj {α β:Type} [DecidableEq α] {K:KE α} {l:List (α×β)} (h:zBs K l):(l.map (·.1)).Nodup:=by
 rw [List.Nodup,List.pairwise_map];exact h.nd
theorem zDJ {α β:Type} [DecidableEq α] {a:α} {l:List (α×β)}:a∈l.map (·.1)↔(zAd a l).isSome=true:=by
 rw [List.mem_map]
 constructor
 · rintro ⟨p,hp,rfl⟩
   cases hg:zAd p.1 l with
   | none=>exact absurd rfl (zA9.1 hg p hp)
   | some u=>rfl
 · intro h
   cases hg:zAd a l with
   | none=>rw [hg] at h;cases h
   | some u=>exact⟨_,zAi hg,rfl⟩
structure PN.Ok (n:PN):Prop where
 keys:∀ p∈n.data,p.1≤1067
 dlen:n.data.length≤1068
 secs:∀ p∈n.data,p.2.length=128
 slots:n.slots.length≤1068
 links:n.links≤100
 size:n.size≤136704
 made:n.made≤1099511627776
 nm:∀ p∈n.names,p.1.size≤40∧p.2≤512
 nlen:n.names.length≤n.slots.length
 dd:n.dir=true→n.data=[]
 df:n.dir=false→n.slots=[]∧n.names=[]
 nris:zBs zA6 n.names
 dris:zBs zAG n.data
structure PT.Ok (T:PT):Prop where
 ris:zBs zAG T.nodes
 node:∀ p∈T.nodes,p.2.Ok∧1≤p.1∧p.1≤T.inodes
 ino:T.inodes≤512
 s8:8≤T.sectors
 sec:T.sectors≤4096
theorem cntK_le (ks:List Nat):zDt ks≤ks.length+34:=by
 have:=zG4 ks;unfold zDt;omega
theorem PN.Ok.count {n:PN} (h:n.Ok):n.count≤2200:=by
 have h1:=cntK_le n.keys
 have h2:n.keys.length=n.data.length+n.slots.length:=by simp [PN.keys]
 have h3:=h.dlen;have h4:=h.slots;unfold PN.count;omega
theorem PT.Ok.len {T:PT} (h:T.Ok):T.nodes.length≤512:=by
 have e:(T.nodes.map (·.1)).length=T.nodes.length:=List.length_map _;rw [←e];refine Nat.le_trans (zAC (l2:=(List.range 512).map (· + 1)) (zEj h.ris) fun a ha=>?_) (by simp);obtain⟨p,hp,rfl⟩:=List.mem_map.1 ha;have h1:=(h.node p hp).2;have h2:=h.ino;exact List.mem_map.2 ⟨p.1-1,List.mem_range.2 (by omega),by omega⟩
theorem sum_le {l:List Nat} {k:Nat} (h:∀ x∈l,x≤k):l.sum≤l.length * k:=by
 induction l with
 | nil=>simp
 | cons x r ih =>
  have h1:=h x List.mem_cons_self;have h2:=ih fun y hy=>h y (List.mem_cons_of_mem _ hy);simp only [List.sum_cons,List.length_cons,Nat.add_mul];omega
theorem PT.Ok.used {T:PT} (h:T.Ok):T.used≤1126400:=by
 have h1:T.used≤(T.nodes.map fun p=>p.2.count).length * 2200:=sum_le fun x hx=>by
  obtain⟨p,hp,rfl⟩:=List.mem_map.1 hx;exact (h.node p hp).1.count
 rw [List.length_map] at h1;have:=h.len;omega
def PT.countAt (T:PT) (i:Nat):Nat:=match zAd i T.nodes with | some n=>n.count | none=>0
theorem PT.used_of {T:PT} (hr:zBs zAG T.nodes) {ks:List Nat} (hn:ks.Nodup) (h:∀ k,k∈ks↔(zAd k T.nodes).isSome=true):(ks.map T.countAt).sum=T.used:=by
 have hp:ks.Perm (T.nodes.map (·.1)):=(List.perm_ext_iff_of_nodup hn (zEj hr)).2 fun a=>by rw [h,zDJ]
 rw [sum_perm (hp.map T.countAt),List.map_map];unfold PT.used
 congr 1
 refine List.map_congr_left fun p hp=>?_;simp only [Function.comp_def,PT.countAt,zA0 hr.nd hp]
def zAj (x:ByteArray):List ByteArray→Option Nat
 | []=>none
 | y::r=>if y=x then some 0 else (zAj x r).map (· + 1)
def emp:ByteArray:=⟨#[]⟩
def PT.walk (T:PT):List ByteArray→Nat→Nat×Nat
 | [],i=>(i,0)
 | nm::r,i=>match zAd i T.nodes with
  | none=>(0,999)
  | some d=>if d.dir=false then (0,113) else match zAd nm d.names with
   | none=>(0,110)
   | some j=>T.walk r j
def PT.isDir (T:PT) (i:Nat):Bool:=match zAd i T.nodes with | some d=>d.dir | none=>false
def PT.last (T:PT) (l:List ByteArray):Nat×Nat :=
 if l=[] then (0,143) else
 let r:=T.walk l.dropLast 1
 if r.2=0∧T.isDir r.1=false then (r.1,113) else r
def zAL (l:List ByteArray):ByteArray:=l.getLastD emp
def PT.room (T:PT) (was is:Nat):Bool:=decide ((is:Int)-was≤(T.sectors:Int)-1-T.inodes-T.used)
def PT.place (T:PT) (d:PN):Nat×Nat :=
 match zAj emp d.slots with
 | some k=>(k,0)
 | none=>if d.slots.length=1068 then (0,112) else if T.room d.count (zDt (List.range (d.slots.length+1))) then (d.slots.length,0) else (0,80)
def PN.set (d:PN) (k:Nat) (nm:ByteArray) (i:Nat):PN :=
 {d with slots:=if k=d.slots.length then d.slots++[nm] else d.slots.set k nm,size:=if k=d.slots.length then (d.slots.length+1) * 128 else d.size,names:=zBa zA6 nm i d.names}
def PN.clear (d:PN) (nm:ByteArray):PN :=
 {d with slots:=match zAj nm d.slots with | some k=>d.slots.set k emp | none=>d.slots,names:=zBE nm d.names}
def PT.upd (T:PT) (i:Nat) (n:PN):PT:={T with nodes:=zBa zAG i n T.nodes}
def PT.del (T:PT) (i:Nat):PT:={T with nodes:=zBE i T.nodes}
def PT.less (T:PT) (i:Nat):PT:=match zAd i T.nodes with
 | some n=>if n.links-1=0∨n.dir=true then T.del i else T.upd i {n with links:=n.links-1}
 | none=>T
def zA7 (T:PT):Nat→Nat→Nat
 | 0,_=>0
 | f+1,i=>if T.inodes<i then 0 else if (zAd i T.nodes).isSome then zA7 T f (i+1) else i
def PT.free (T:PT):Nat:=zA7 T (T.inodes+1) 2
theorem zAV {x:ByteArray}:∀ {l:List ByteArray} {k:Nat},zAj x l=some k→k<l.length∧l[k]? = some x
 | [],k,h=>by cases h
 | y::r,k,h=>by
  unfold zAj at h
  split at h
  · rename_i e;injection h with h;subst h;exact⟨by simp,by simp [e]⟩
  · cases hr:zAj x r with
    | none=>rw [hr] at h;cases h
    | some j =>
     rw [hr] at h;injection h with h;subst h;have:=zAV hr;exact⟨by simp;omega,by simpa using this.2⟩
theorem zB2 {x:ByteArray}:∀ {l:List ByteArray},zAj x l=none↔∀ y∈l,y≠x
 | []=>by simp [zAj]
 | y::r=>by
  unfold zAj
  split
  · rename_i e
    constructor
    · intro h;cases h
    · intro h;exact absurd e (h y List.mem_cons_self)
  · rename_i e;rw [Option.map_eq_none_iff,zB2];simp [e]
theorem zGg {x:ByteArray} {l:List ByteArray}:∀ (k:Nat),(∀ j (_hj:j<k) (h:j<l.length),l[j]≠x)→k≤l.length→zAj x l=(zAj x (l.drop k)).map (· + k):=by
 induction l with
 | nil =>
  intro k _ hk
  have:k=0:=by simpa using hk
  subst this;simp [zAj]
 | cons y r ih =>
  intro k h hk
  cases k with
  | zero=>simp
  | succ k =>
   have hy:y≠x:=h 0 (by omega) (by simp);rw [zAj,if_neg hy,ih k (fun j hj h'=>by have:=h (j+1) (by omega) (by simp;omega);simpa using this) (by simpa using hk),List.drop_succ_cons]
   cases zAj x (r.drop k) with
   | none=>rfl
   | some j=>simp;omega
structure St where
 ino:Int
 kind:Int
 links:Int
 size:Int
 made:Int
 blocks:Int
def st0:St:=⟨0,0,0,0,0,0⟩
def PT.stat (T:PT) (i:Nat):St:=match zAd i T.nodes with
 | some n=>⟨i,n.kind,n.links,n.size,n.made,n.count⟩
 | none=>st0
structure Ans where
 code:Nat
 stat:St
 data:List UInt8
 ents:List (ByteArray×Nat×Int)
def Ans.err (c:Nat):Ans:=⟨c,st0,[],[]⟩
def PT.entry (T:PT) (l:List ByteArray):Nat×ByteArray×Nat×Nat :=
 let r:=T.last l
 if r.2≠0 then (0,emp,0,r.2) else
 match (zAd r.1 T.nodes).bind fun d=>zAd (zAL l) d.names with
 | none=>(0,emp,0,110)
 | some j=>(r.1,zAL l,j,0)
def PT.clr (T:PT) (d:Nat) (nm:ByteArray):PT:=match zAd d T.nodes with | some n=>T.upd d (n.clear nm) | none=>T
def PT.ins (T:PT) (d k:Nat) (nm:ByteArray) (i:Nat):PT:=match zAd d T.nodes with | some n=>T.upd d (n.set k nm i) | none=>T
def PT.node (T:PT) (i:Nat):PN:=(zAd i T.nodes).getD ⟨false,0,0,0,[],[],[]⟩
def PT.linksUp (T:PT) (i:Nat):PT:=T.upd i {T.node i with links:=(T.node i).links+1}
def PT.unlink (T:PT) (l:List ByteArray):PT×Nat :=
 if (T.entry l).2.2.2≠0 then (T,(T.entry l).2.2.2) else if T.isDir (T.entry l).2.2.1=true then (T,102) else ((T.clr (T.entry l).1 (T.entry l).2.1).less (T.entry l).2.2.1,0)
def PT.rmdir (T:PT) (l:List ByteArray):PT×Nat :=
 if (T.entry l).2.2.2≠0 then (T,(T.entry l).2.2.2) else if T.isDir (T.entry l).2.2.1=false then (T,113) else if 0<(T.node (T.entry l).2.2.1).names.length then (T,140) else ((T.clr (T.entry l).1 (T.entry l).2.1).less (T.entry l).2.2.1,0)
def PT.link (T:PT) (l m:List ByteArray):PT×Nat :=
 if (T.walk l 1).2≠0 then (T,(T.walk l 1).2) else if (T.last m).2≠0 then (T,(T.last m).2) else
 if (zAd (zAL m) (T.node (T.last m).1).names).isSome then (T,111) else if T.isDir (T.walk l 1).1=true then (T,102) else if (T.node (T.walk l 1).1).links=100 then (T,142) else
 if (T.place (T.node (T.last m).1)).2≠0 then (T,(T.place (T.node (T.last m).1)).2) else
 ((T.linksUp (T.walk l 1).1).ins (T.last m).1 (T.place (T.node (T.last m).1)).1 (zAL m) (T.walk l 1).1,0)
def zCR (dir:Bool) (made:Nat):PN:=⟨dir,1,0,made,[],[],[]⟩
def PT.make (T:PT) (l:List ByteArray) (dir:Bool) (made:Nat):PT×Ans :=
 if (T.last l).2≠0 then (T,.err (T.last l).2) else if (zAd (zAL l) (T.node (T.last l).1).names).isSome then (T,.err 111) else if T.free=0 then (T,.err 81) else
 if (T.place (T.node (T.last l).1)).2≠0 then (T,.err (T.place (T.node (T.last l).1)).2) else
 (((T.upd T.free (zCR dir made)).ins (T.last l).1 (T.place (T.node (T.last l).1)).1 (zAL l) T.free),⟨0,((T.upd T.free (zCR dir made)).ins (T.last l).1 (T.place (T.node (T.last l).1)).1 (zAL l) T.free).stat T.free,[],[]⟩)
inductive PT.Und (T:PT) (d:Nat):Nat→Prop where
 | here:PT.Und T d d
 | step {i k:Nat} {n:PN} {nm:ByteArray}:zAd i T.nodes=some n→zAd nm n.names=some k→T.isDir k=true→PT.Und T d k→PT.Und T d i
def PT.Ranked (T:PT) (rk:Nat→Nat):Prop:=∀ i n nm j,zAd i T.nodes=some n→zAd nm n.names=some j→T.isDir j=true→rk i<rk j
open Classical in
noncomputable def PT.rename (T:PT) (l m:List ByteArray):PT×Nat :=
 if (T.last l).2≠0 then (T,(T.last l).2) else if (T.last m).2≠0 then (T,(T.last m).2) else
 match zAd (zAL l) (T.node (T.last l).1).names with
 | none=>(T,110)
 | some i =>
  if (T.last l).1=(T.last m).1∧zAL l=zAL m then (T,0) else
  if T.isDir i=true then
   if (zAd (zAL m) (T.node (T.last m).1).names).isSome then (T,111) else if T.Und (T.last m).1 i then (T,141) else
   if (T.place (T.node (T.last m).1)).2≠0 then (T,(T.place (T.node (T.last m).1)).2) else
   ((T.ins (T.last m).1 (T.place (T.node (T.last m).1)).1 (zAL m) i).clr (T.last l).1 (zAL l),0)
  else match zAd (zAL m) (T.node (T.last m).1).names with
   | some j=>if T.isDir j=true then (T,111) else if i=j then (T,0) else if (T.node i).links=100 then (T,142) else
    (((T.ins (T.last m).1 ((zAj (zAL m) (T.node (T.last m).1).slots).getD 0) (zAL m) i).clr (T.last l).1 (zAL l)).less j,0)
   | none=>if (T.node i).links=100 then (T,142) else if (T.place (T.node (T.last m).1)).2≠0 then (T,(T.place (T.node (T.last m).1)).2) else
    ((T.ins (T.last m).1 (T.place (T.node (T.last m).1)).1 (zAL m) i).clr (T.last l).1 (zAL l),0)
structure PT.Wf (T:PT):Prop where
 ok:T.Ok
 root:∃ n,zAd 1 T.nodes=some n∧n.dir=true
 ents:∀ i n nm j,zAd i T.nodes=some n→zAd nm n.names=some j→∃ m,zAd j T.nodes=some m
 slotn:∀ i n nm j,zAd i T.nodes=some n→zAd nm n.names=some j→∃ k,zAj nm n.slots=some k
 lnk:∀ i n,zAd i T.nodes=some n→1≤n.links
 nemp:∀ i n,zAd i T.nodes=some n→zAd emp n.names=none
 rank:∃ rk:Nat→Nat,∀ i n nm j,zAd i T.nodes=some n→zAd nm n.names=some j→T.isDir j=true→rk i<rk j
theorem PT.Ok.get {T:PT} (h:T.Ok) {i:Nat} {n:PN} (hg:zAd i T.nodes=some n):n.Ok∧1≤i∧i≤T.inodes:=h.node _ (zAi hg)
theorem PT.Ok.upd {T:PT} (h:T.Ok) {i:Nat} {n:PN} (hn:n.Ok) (hi:1≤i∧i≤T.inodes):(T.upd i n).Ok:=by
 refine⟨h.ris.put zAG zCj i n,fun p hp=>?_,h.ino,h.s8,h.sec⟩;rcases (zBm zAG).1 hp with rfl | ⟨hp,-⟩
 · exact⟨hn,hi⟩
 · exact h.node p hp
theorem PT.Ok.del {T:PT} (h:T.Ok) (i:Nat):(T.del i).Ok:=⟨h.ris.del zAG i,fun p hp=>h.node p (zBL.1 hp).1,h.ino,h.s8,h.sec⟩
theorem PN.Ok.clear {n:PN} (h:n.Ok) (nm:ByteArray):(n.clear nm).Ok:=by
 refine⟨h.keys,h.dlen,h.secs,?_,h.links,h.size,h.made,fun p hp=>h.nm p (zBL.1 hp).1,?_,h.dd,fun e=>?_,?_,?_⟩
 · unfold PN.clear;simp only
   split
   · rw [List.length_set];exact h.slots
   · exact h.slots
 · have h1:(zBE nm n.names).length≤n.names.length:=List.length_filter_le _ _;have h2:=h.nlen;unfold PN.clear;simp only
   split
   · rw [List.length_set];omega
   · omega
 · obtain⟨h1,h2⟩:=h.df e;unfold PN.clear;simp only [h1,h2];exact⟨by simp [zAj],rfl⟩
 · exact h.nris.del zA6 nm
 · exact h.dris
theorem PN.Ok.set {n:PN} (h:n.Ok) (hd:n.dir=true) {k:Nat} {nm:ByteArray} {j:Nat} (_hk:k≤n.slots.length) (fB:k<1068) (fA:nm.size≤40) (hj:j≤512) (hl:(zBa zA6 nm j n.names).length≤(n.set k nm j).slots.length):(n.set k nm j).Ok:=by
 refine⟨h.keys,h.dlen,h.secs,?_,h.links,?_,h.made,fun p hp=>?_,?_,h.dd,fun e=>?_,h.nris.put zA6 zEw nm j,h.dris⟩
 · unfold PN.set;simp only
   split
   · rw [List.length_append,List.length_singleton];omega
   · rw [List.length_set];exact h.slots
 · unfold PN.set;simp only
   split
   · omega
   · exact h.size
 · rcases (zBm zA6).1 hp with rfl | ⟨hp,-⟩
   · exact⟨fA,hj⟩
   · exact h.nm p hp
 · exact hl
 · have e':n.dir=false:=e;rw [hd] at e';cases e'
theorem zAp {T:PT} {i:Nat} {n:PN} (h:zAd i T.nodes=some n):T.node i=n:=by unfold PT.node;rw [h];rfl
theorem zCX {x:ByteArray} {l:List ByteArray} (h:x∈l):∃ k,zAj x l=some k:=by
 cases hf:zAj x l with
 | some k=>exact⟨k,rfl⟩
 | none=>exact absurd rfl (zB2.1 hf x h)
def PN.Fit (n:PN) (k:Nat) (nm:ByteArray):Prop:=(k=n.slots.length∧n.slots.length<1068)∨(k<n.slots.length∧n.slots[k]? = some emp)∨((zAd nm n.names).isSome=true∧n.slots[k]? = some nm)
theorem PN.Fit.le {n:PN} {k:Nat} {nm:ByteArray} (h:n.Fit k nm):k≤n.slots.length:=by
 rcases h with h | h | h
 · omega
 · omega
 · have:=(List.getElem?_eq_some_iff.1 h.2).1;omega
theorem PN.Fit.lt {n:PN} {k:Nat} {nm:ByteArray} (h:n.Fit k nm) (hn:n.Ok):k<1068:=by
 have:=hn.slots;rcases h with h | h | h
 · omega
 · omega
 · have:=(List.getElem?_eq_some_iff.1 h.2).1;omega
theorem zBu {T:PT} {n:PN} (hn:n.Ok) {nm:ByteArray} (h:(T.place n).2=0):n.Fit (T.place n).1 nm:=by
 have hs:=hn.slots;unfold PT.place at h ⊢
 cases hf:zAj emp n.slots with
 | some k=>exact .inr (.inl (zAV hf))
 | none =>
  rw [hf] at h;simp only at h ⊢
  split
  · rename_i h1;rw [if_pos h1] at h;cases h
  · rename_i h1;rw [if_neg h1] at h
    split
    · exact .inl ⟨rfl,by omega⟩
    · rename_i h2;rw [if_neg h2] at h;cases h
theorem zCy {T:PT} (hT:T.Wf) {d:Nat} {n:PN} (hg:zAd d T.nodes=some n) (hd:n.dir=true) {k j:Nat} {nm:ByteArray} (hf:n.Fit k nm) (hs:nm.size≤40) (hj:j≤512):(n.set k nm j).Ok:=by
 have hn:=(hT.ok.get hg).1;refine hn.set hd hf.le (hf.lt hn) hs hj ?_;have fE:=hn.nris;have hl:=hn.nlen;have fF:=zBM zA6 nm j n.names;rcases hf with ⟨rfl,-⟩ | ⟨h1,h2⟩ | ⟨h1,h2⟩
 · simp only [PN.set,if_true,List.length_append,List.length_singleton];omega
 · simp only [PN.set,if_neg (Nat.ne_of_lt h1),List.length_set]
   have fB:n.names.length≤(n.slots.eraseIdx k).length:=by
    have e:(n.names.map (·.1)).length=n.names.length:=List.length_map _;rw [←e];refine zAC (zEj fE) fun x hx=>?_;have fC:=zDJ.1 hx
    cases fA:zAd x n.names with
    | none=>rw [fA] at fC;cases fC
    | some u =>
     obtain⟨q,hq⟩:=hT.slotn d n x u hg fA;have fD:=zAV hq
     have fG:q≠k:=fun e=>by
      subst e;have:=Option.some.inj (fD.2.symm.trans h2);rw [this,hT.nemp d n hg] at fA;cases fA
     rw [List.mem_eraseIdx_iff_getElem?];exact⟨q,fG,fD.2⟩
   rw [List.length_eraseIdx,if_pos h1] at fB;omega
 · have fB:=(List.getElem?_eq_some_iff.1 h2).1;simp only [PN.set,if_neg (Nat.ne_of_lt fB),List.length_set]
   have:(zBa zA6 nm j n.names).length≤n.names.length:=by
    unfold zBa;rw [zDk];have hm:nm∈n.names.map (·.1):=zDJ.2 h1
    have:(zBE nm n.names).length<n.names.length:=by
     unfold zBE
     rcases Nat.lt_or_ge (List.filter (fun p=>decide (p.1≠nm)) n.names).length n.names.length with h | h
     · exact h
     · have fH:=List.length_filter_le (fun p:ByteArray×Nat=>decide (p.1≠nm)) n.names;have fI:=List.length_filter_eq_length_iff.1 (Nat.le_antisymm fH h);obtain⟨p,hp,e⟩:=List.mem_map.1 hm;have:=fI p hp;simp [e] at this
    omega
   omega
theorem zCS {x y:ByteArray}:∀ {l:List ByteArray} {k q:Nat},zAj x l=some q→y≠x→l[k]?≠some x→zAj x (l.set k y)=some q
 | [],_,_,h,_,_=>by cases h
 | z::r,0,q,h,hy,hk=>by
  unfold zAj at h;have hz:z≠x:=fun e=>hk (by simp [e]);rw [if_neg hz] at h;rw [List.set_cons_zero,zAj,if_neg hy];exact h
 | z::r,k+1,q,h,hy,hk=>by
  unfold zAj at h;rw [List.set_cons_succ,zAj]
  split
  · rename_i e;rw [if_pos e] at h;exact h
  · rename_i e;rw [if_neg e] at h
    cases hr:zAj x r with
    | none=>rw [hr] at h;cases h
    | some j =>
     rw [hr] at h;rw [zCS hr hy (by simpa using hk)];exact h
theorem zDA {x y:ByteArray}:∀ {l:List ByteArray} {q:Nat},zAj x l=some q→zAj x (l++[y])=some q
 | [],_,h=>by cases h
 | z::r,q,h=>by
  unfold zAj at h;rw [List.cons_append,zAj]
  split
  · rename_i e;rw [if_pos e] at h;exact h
  · rename_i e;rw [if_neg e] at h
    cases hr:zAj x r with
    | none=>rw [hr] at h;cases h
    | some j =>
     rw [hr] at h;rw [zDA hr];exact h
theorem zC2 {n:PN} {k j q:Nat} {nm x:ByteArray} (hf:n.Fit k nm) (fA:nm≠x) (hx:x≠emp) (hq:zAj x n.slots=some q):zAj x (n.set k nm j).slots=some q:=by
 unfold PN.set;simp only
 split
 · exact zDA hq
 · refine zCS hq fA fun e=>?_;rcases hf with ⟨h,-⟩ | ⟨-,h⟩ | ⟨-,h⟩
   · exact absurd h (by assumption)
   · rw [h] at e;exact hx (Option.some.inj e).symm
   · rw [h] at e;exact fA (Option.some.inj e)
def s1 (o:Option (List UInt8)):Option (List UInt8):=numO 1 2 o
def s2 (o:Option (List UInt8)):Option (List UInt8):=numO 8 1099511627776 (s1 o)
def s3 (o:Option (List UInt8)):Option (List UInt8):=numO 4 400 (s2 o)
def s4 (o:Option (List UInt8)):Option (List UInt8):=takeO (numX 4 400 (s2 o)) (s3 o)
def s5 (o:Option (List UInt8)):Option (List UInt8):=numO 4 400 (s4 o)
def s6 (o:Option (List UInt8)):Option (List UInt8):=takeO (numX 4 400 (s4 o)) (s5 o)
def s7 (o:Option (List UInt8)):Option (List UInt8):=numO 4 136704 (s6 o)
def s8 (o:Option (List UInt8)):Option (List UInt8):=takeO (numX 4 136704 (s6 o)) (s7 o)
def ndSame (x y:Nd):Prop:=x.path=y.path∧x.kind=y.kind∧x.made=y.made∧x.same=y.same∧x.data=y.data
theorem zET (A1 A2:Option Addr) (k1 k2:Nat) (l1 l2:List Nd) (w:World) (fC:NodesAt w w.heap.size A1 l1) (fD:NodesAt w w.heap.size A2 l2) (fJ:l2.length=l1.length) (fM:l1.length≤1000000000)
 (hs:∀ i (h1:i<l1.length) (h2:i<l2.length),ndSame l1[i] l2[i]) :
 Calls Tryz.prog 12 #[.slice A1 l1.length k1,.slice A2 l1.length k2] w fun e w'=>e=.returned (.bool true)∧Below w.heap.size w w':=by
 obtain⟨len,fB⟩:∃ len,len=l1.length:=⟨_,rfl⟩;have fA:=hid fB;have fE:=hid fJ;rw [←fB] at fM ⊢;clear fB fJ;go_enter Tryz.func12,Tryz.ntmps12;go_wp2
 go_loopw [5] (fun i wr=>∃ j:Nat,j≤len∧i=.int .i64 j∧Below w.heap.size w wr) (fun i _=>len-(intOf i).toNat)
 case atStart=>exact⟨0,Nat.zero_le _,rfl,Below.refl _ _⟩
 case round =>
  obtain⟨j,hj,rfl,hb⟩:=hrel;by_cases fP:j<len
  · have fF:j<l1.length:=by have:=fA.out;omega
    have fG:j<l2.length:=by have:=fA.out;have:=fE.out;omega
    obtain⟨b1,o1,rfl,fQ,fK⟩:=fC.at_ (by omega);obtain⟨b2,o2,rfl,fR,fL⟩:=fD.at_ (by omega);have hx:=(fK j fF).keep (w1:=wr) fun p hp=>hb.cell (by omega);have hy:=(fL j fG).keep (w1:=wr) fun p hp=>hb.cell (by omega);have fN:=hs j fF fG;have fH:=(fC.data _ (List.getElem_mem fF)).below hb;have fI:=(fD.data _ (List.getElem_mem fG)).below hb;clear hs fK fL fC fD;generalize l1[j]=x at *;generalize l2[j]=y at *;obtain⟨pa,ki,ma,sa,dA,dc,da⟩:=x;obtain⟨pa2,ki2,ma2,sa2,dA2,dc2,da2⟩:=y;obtain⟨e1,e2,e3,e4,e5⟩:=fN;simp only at e1 e2 e3 e4 e5;subst e1 e2 e3 e4 e5;obtain⟨c0,c1,c2,c3,c4⟩:=hx;obtain⟨d0,d1,d2,d3,d4⟩:=hy;simp only at c0 c1 c2 c3 c4 d0 d1 d2 d3 d4 fH fI;have fO:=hb.size;have y0:=(World.cell?_alloc_lt wr (.cells #[.string pa,.int .i64 ki,.int .i64 ma,.string sa,.slice dA da.length dc] 75) ⟨b2,o2+j * 5,none⟩ (by show b2<_;omega)).trans d0;have y1:=(World.cell?_alloc_lt wr (.cells #[.string pa,.int .i64 ki,.int .i64 ma,.string sa,.slice dA da.length dc] 75) ⟨b2,o2+j * 5+1,none⟩ (by show b2<_;omega)).trans d1;have y2:=(World.cell?_alloc_lt wr (.cells #[.string pa,.int .i64 ki,.int .i64 ma,.string sa,.slice dA da.length dc] 75) ⟨b2,o2+j * 5+2,none⟩ (by show b2<_;omega)).trans d2;have y3:=(World.cell?_alloc_lt wr (.cells #[.string pa,.int .i64 ki,.int .i64 ma,.string sa,.slice dA da.length dc] 75) ⟨b2,o2+j * 5+3,none⟩ (by show b2<_;omega)).trans d3;have y4:=(World.cell?_alloc_lt wr (.cells #[.string pa,.int .i64 ki,.int .i64 ma,.string sa,.slice dA da.length dc] 75) ⟨b2,o2+j * 5+4,none⟩ (by show b2<_;omega)).trans d4
    have keep2:∀ p:Addr,p.block<w.heap.size→((wr.alloc (.cells #[.string pa,.int .i64 ki,.int .i64 ma,.string sa,.slice dA da.length dc] 75)).alloc (.cells #[.string pa,.int .i64 ki,.int .i64 ma,.string sa,.slice dA2 da.length dc2] 75)).cell? p=wr.cell? p:=fun p hp =>
     (World.cell?_alloc_lt _ _ p (by simp;omega)).trans (World.cell?_alloc_lt wr _ p (by omega))
    have s1:=zHA (P:=Tryz.prog) Tryz.underlying64 Tryz.underlying5 dc (fH.keep keep2) 9 Tryz.underlying9;have s2:=zHA (P:=Tryz.prog) Tryz.underlying64 Tryz.underlying5 dc2 (fI.keep keep2) 9 Tryz.underlying9;clear keep2 fH fI d0 d1 d2 d3 d4;go_wp2;go_roundw
    case rel=>exact⟨j+1,by omega,by go_num,(hb.alloc fO _).alloc (by simp;omega) _⟩
    case measure=>simp [intOf];omega
  · obtain rfl:j=len:=by omega
    clear hs fC fD;go_wp2;go_ret;exact⟨rfl,hb⟩
end Go.Proofs.YtolpcfhfcdkokaaGreatDoor
