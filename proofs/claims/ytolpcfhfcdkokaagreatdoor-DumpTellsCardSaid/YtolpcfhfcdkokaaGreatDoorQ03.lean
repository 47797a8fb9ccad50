/- Joined out of Mp..Mp. -/
import Derived.Maps.RangeWalk
import Derived.Maps.Ext
import Derived.Test.YtolpcfhfcdkokaaGreatDoorQ01
set_option maxHeartbeats 16000000
set_option maxRecDepth 100000
namespace Go.Proofs.YtolpcfhfcdkokaaGreatDoor
open Lib (hid)
open Go.RowKit
open Go.Maps (Keyed)
structure KE (α:Type) where
 enc:α→Lit
 val:α→Value
 lt:α→α→Bool
 before_eq:∀ a b,(enc a).before (enc b)=lt a b
 same_iff:∀ a b,(enc a).sameKey (enc b)=true↔a=b
 isKey:∀ a,WideAt.IsKeyLit (enc a)
section
variable {α β:Type} [DecidableEq α] (K:KE α)
def zCn (x:α×β):List (α×β)→List (α×β)
 | []=>[x]
 | y::r=>if K.lt x.1 y.1 then x::y::r else y::zCn x r
def zBE (a:α) (l:List (α×β)):List (α×β):=l.filter fun p=>decide (p.1≠a)
def zBa (a:α) (v:β) (l:List (α×β)):List (α×β):=zCn K (a,v) (zBE a l)
def zAd (a:α):List (α×β)→Option β
 | []=>none
 | y::r=>if y.1=a then some y.2 else zAd a r
theorem zJv (a b:α) (h:a≠b):(K.enc a).sameKey (K.enc b)=false:=by
 have _:=(inferInstance:DecidableEq α);cases hs:(K.enc a).sameKey (K.enc b)
 · rfl
 · exact absurd ((K.same_iff a b).1 hs) h
theorem zDw (a b:α):(K.enc a).sameKey (K.enc b)=decide (a=b):=by
 by_cases h:a=b
 · rw [(K.same_iff a b).2 h];simp [h]
 · rw [zJv K a b h];simp [h]
theorem zBI (a:α):∀ l:List (α×β),zAd a (zBE a l)=none
 | []=>rfl
 | y::r=>by
  unfold zBE;by_cases h:y.1=a
  · simp only [List.filter_cons,h,ne_eq,not_true_eq_false,decide_false,Bool.false_eq_true,if_false];exact zBI a r
  · simp only [List.filter_cons,h,ne_eq,not_false_eq_true,decide_true,if_true,zAd,if_false];exact zBI a r
theorem zAX {a b:α} (fA:b≠a):∀ l:List (α×β),zAd b (zBE a l)=zAd b l
 | []=>rfl
 | y::r=>by
  unfold zBE;by_cases h:y.1=a
  · simp only [List.filter_cons,h,ne_eq,not_true_eq_false,decide_false,Bool.false_eq_true,if_false,zAd];rw [if_neg (fun e=>fA e.symm)];exact zAX fA r
  · simp only [List.filter_cons,h,ne_eq,not_false_eq_true,decide_true,if_true,zAd];have:=zAX fA r;unfold zBE at this;rw [this]
theorem zDv (x:α×β):∀ l:List (α×β),(∀ p∈l,p.1≠x.1)→zAd x.1 (zCn K x l)=some x.2
 | [],_=>by simp [zCn,zAd]
 | y::r,h=>by
  unfold zCn
  split
  · simp [zAd]
  · simp only [zAd];rw [if_neg (h y List.mem_cons_self)];exact zDv x r fun p hp=>h p (List.mem_cons_of_mem _ hp)
theorem zDg {b:α} (x:α×β) (fA:b≠x.1):∀ l:List (α×β),zAd b (zCn K x l)=zAd b l
 | []=>by simp [zCn,zAd,fA.symm]
 | y::r=>by
  unfold zCn
  split
  · simp only [zAd];rw [if_neg (fun e=>fA e.symm)]
  · simp only [zAd];rw [zDg x fA r]
theorem zBL {a:α} {l:List (α×β)} {p:α×β}:p∈zBE a l↔p∈l∧p.1≠a:=by simp [zBE]
theorem zF0 {x p:α×β}:∀ {l:List (α×β)},p∈zCn K x l↔p=x∨p∈l
 | []=>by have _:=(inferInstance:DecidableEq α);simp [zCn]
 | y::r=>by
  unfold zCn
  split
  · simp
  · rw [List.mem_cons,zF0,List.mem_cons]
    constructor
    · rintro (h | h | h)
      · exact .inr (.inl h)
      · exact .inl h
      · exact .inr (.inr h)
    · rintro (h | h | h)
      · exact .inr (.inl h)
      · exact .inl h
      · exact .inr (.inr h)
theorem zAu (a:α) (v:β) (l:List (α×β)):zAd a (zBa K a v l)=some v :=
 zDv K (a,v) _ fun _ hp=>(zBL.1 hp).2
theorem zAl {a b:α} (v:β) (fA:b≠a) (l:List (α×β)):zAd b (zBa K a v l)=zAd b l:=by
 unfold zBa;rw [zDg K (a,v) fA,zAX fA]
theorem zBm {a:α} {v:β} {l:List (α×β)} {p:α×β}:p∈zBa K a v l↔p=(a,v)∨p∈l∧p.1≠a:=by
 unfold zBa;rw [zF0,zBL]
theorem zDk (x:α×β):∀ l:List (α×β),(zCn K x l).length=l.length+1
 | []=>have _:=(inferInstance:DecidableEq α);rfl
 | y::r=>by
  unfold zCn
  split
  · simp
  · simp [zDk x r]
theorem zAi {a:α} {v:β}:∀ {l:List (α×β)},zAd a l=some v→(a,v)∈l
 | [],h=>by cases h
 | y::r,h=>by
  unfold zAd at h
  split at h
  · rename_i e;injection h with h;rw [←e,←h];exact List.mem_cons_self
  · exact List.mem_cons_of_mem _ (zAi h)
theorem zA9 {a:α}:∀ {l:List (α×β)},zAd a l=none↔∀ p∈l,p.1≠a
 | []=>by simp [zAd]
 | y::r=>by
  unfold zAd
  split
  · rename_i e
    constructor
    · intro h;cases h
    · intro h;exact absurd e (h y List.mem_cons_self)
  · rename_i e;rw [zA9]
    constructor
    · intro h p hp;rcases List.mem_cons.1 hp with rfl | hp
      · exact e
      · exact h p hp
    · intro h p hp;exact h p (List.mem_cons_of_mem _ hp)
theorem zD3 {a:α} {l:List (α×β)} (h:zAd a l=none):zBE a l=l:=by
 have:=zA9.1 h;unfold zBE;rw [List.filter_eq_self];intro p hp;simpa using this p hp
theorem zBM (a:α) (v:β) (l:List (α×β)):(zBa K a v l).length≤l.length+1:=by
 unfold zBa;rw [zDk];have:(zBE a l).length≤l.length:=List.length_filter_le _ _;omega
theorem zIz (a:α) (v:β):∀ l:List (α×β),zBE a (zCn K (a,v) l)=zBE a l
 | []=>by simp [zCn,zBE]
 | y::r=>by
  unfold zCn
  split
  · simp [zBE]
  · have:=zIz a v r;unfold zBE at this ⊢;simp only [List.filter_cons];rw [this]
theorem zF2 (a:α) (v:β) (l:List (α×β)):zBE a (zBa K a v l)=zBE a l:=by
 unfold zBa;rw [zIz];unfold zBE;rw [List.filter_filter];simp
theorem putS_put (a:α) (u v:β) (l:List (α×β)):zBa K a v (zBa K a u l)=zBa K a v l:=by
 unfold zBa
 congr 1
 exact zF2 K a u l
def zBs (l:List (α×β)):Prop:=l.Pairwise fun p q=>K.lt p.1 q.1=true
theorem zBQ (a:α):K.lt a a=false:=by have _:=(inferInstance:DecidableEq α);rw [←K.before_eq];exact Go.WideShapes.before_irrefl _
theorem zDR {a b c:α} (h1:K.lt a b=true) (h2:K.lt b c=true):K.lt a c=true:=by
 have _:=(inferInstance:DecidableEq α);rw [←K.before_eq] at *;exact Go.WideShapes.before_trans h1 h2
theorem zBs.nd {l:List (α×β)} (h:zBs K l):l.Pairwise fun p q=>p.1≠q.1 :=
 h.imp fun {p q} fA e=>by rw [e,zBQ] at fA;cases fA
theorem zA0:∀ {l:List (α×β)} (_:l.Pairwise fun p q=>p.1≠q.1) {p:α×β},p∈l→zAd p.1 l=some p.2
 | [],_,p,hp=>by cases hp
 | y::r,hd,p,hp=>by
  obtain⟨h1,h2⟩:=List.pairwise_cons.1 hd;rcases List.mem_cons.1 hp with rfl | hp'
  · simp [zAd]
  · simp only [zAd];rw [if_neg (h1 p hp')];exact zA0 h2 hp'
theorem zBs.del {l:List (α×β)} (h:zBs K l) (a:α):zBs K (zBE a l):=List.Pairwise.filter _ h
theorem zBs.ins (tot:∀ a b:α,a≠b→K.lt a b=true∨K.lt b a=true) {x:α×β}:∀ {l:List (α×β)},zBs K l→(∀ p∈l,p.1≠x.1)→zBs K (zCn K x l)
 | [],_,_=>by simp [zCn,zBs]
 | y::r,h,hn=>by
  obtain⟨h1,h2⟩:=List.pairwise_cons.1 h;unfold zCn
  split
  · rename_i fA;refine List.pairwise_cons.2 ⟨fun p hp=>?_,h⟩;rcases List.mem_cons.1 hp with rfl | hp
    · exact fA
    · exact zDR K fA (h1 p hp)
  · rename_i fA;refine List.pairwise_cons.2 ⟨fun p hp=>?_,zBs.ins tot h2 fun p hp=>hn p (List.mem_cons_of_mem _ hp)⟩;rcases (zF0 K).1 hp with rfl | hp
    · rcases tot y.1 p.1 (hn y List.mem_cons_self) with h' | h'
      · exact h'
      · exact absurd h' fA
    · exact h1 p hp
theorem zBs.put (tot:∀ a b:α,a≠b→K.lt a b=true∨K.lt b a=true) {l:List (α×β)} (h:zBs K l) (a:α) (v:β):zBs K (zBa K a v l) :=
 zBs.ins K tot (h.del K a) fun _ hp=>(zBL.1 hp).2
theorem zBs.ext {l l':List (α×β)} (h:zBs K l) (h':zBs K l') (hm:∀ a,zAd a l=zAd a l'):l=l':=by
 induction l generalizing l' with
 | nil =>
  cases l' with
  | nil=>rfl
  | cons y r=>have:=hm y.1;simp [zAd] at this
 | cons x l ih =>
  cases l' with
  | nil=>have:=hm x.1;simp [zAd] at this
  | cons y r =>
   obtain⟨h1,h2⟩:=List.pairwise_cons.1 h;obtain⟨fA,fC⟩:=List.pairwise_cons.1 h'
   have fB:x.1=y.1:=by
    by_cases e:x.1=y.1
    · exact e
    have a1:=hm x.1;have a2:=hm y.1;simp only [zAd,if_true] at a1 a2;rw [if_neg (fun e'=>e e'.symm)] at a1;rw [if_neg e] at a2;have m1:=fA _ (zAi a1.symm);have m2:=h1 _ (zAi a2);have:=zDR K m1 m2;rw [zBQ] at this;cases this
   have hv:x=y:=by
    have a1:=hm x.1;simp only [zAd,if_true,fB] at a1;injection a1 with a1;exact Prod.ext fB a1
   subst hv;rw [ih h2 fC fun a=>?_];have a1:=hm a;simp only [zAd] at a1;by_cases e:x.1=a
   · have n1:zAd a l=none:=zA9.2 fun p hp e'=>by have:=h1 p hp;rw [e,e',zBQ] at this;cases this
     have n2:zAd a r=none:=zA9.2 fun p hp e'=>by have:=fA p hp;rw [e,e',zBQ] at this;cases this
     rw [n1,n2]
   · rw [if_neg e,if_neg e] at a1;exact a1
end
def rawR (v:Value):Option (DataW Value×List MemPlace):=some (.held v,[])
def zFF {α β:Type} (K:KE α) (V:β→Value) (l:List (α×β)):List (Lit×DataW Value):=l.map fun p=>(K.enc p.1,.held (V p.2))
def zAy (w:World) {α β:Type} (K:KE α) (V:β→Value) (k:TypeId) (b:Nat) (l:List (α×β)):Prop:=w.ownsMap Tryz.prog k rawR b l.length (.map (zFF K V l))
section
variable {α β:Type} [DecidableEq α] (K:KE α) (V:β→Value)
theorem zF4 (a:α) (l:List (α×β)):DataW.del (.map (zFF K V l)) (K.enc a)=.map (zFF K V (zBE a l)):=by
 show DataW.map _=_
 congr 1
 unfold zFF zBE;rw [List.filter_map]
 congr 1
 apply List.filter_congr
 intro p _;simp only [Function.comp_def];rw [zDw];by_cases h:p.1=a<;>simp [h]
theorem zJg (x:α×β):∀ l:List (α×β),DataW.insert (K.enc x.1,.held (V x.2)) (zFF K V l)=zFF K V (zCn K x l)
 | []=>have _:=(inferInstance:DecidableEq α);rfl
 | y::r=>by
  show DataW.insert _ ((K.enc y.1,.held (V y.2))::zFF K V r)=_
  unfold DataW.insert zCn;simp only [K.before_eq]
  split
  · rfl
  · rw [zJg x r];rfl
theorem zIV (a:α) (v:β) (l:List (α×β)):DataW.put (.map (zFF K V l)) (K.enc a) (.held (V v))=.map (zFF K V (zBa K a v l)):=by
 have:=zF4 K V a l;unfold DataW.del at this;injection this with this
 show DataW.map (DataW.insert _ _)=_
 rw [this];unfold zBa;rw [←zJg]
theorem zHy (a:α) (z:DataW Value):∀ l:List (α×β),DataW.atKey (.map (zFF K V l)) (K.enc a) z=match zAd a l with | some v=>.held (V v) | none=>z
 | []=>rfl
 | y::r=>by
  have:=zHy a z r;unfold DataW.atKey at this ⊢;unfold zFF at this ⊢;simp only [List.map_cons,List.find?_cons,zDw,zAd] at this ⊢;by_cases h:y.1=a
  · simp [h]
  · simp only [h,decide_false,if_false];exact this
theorem zEp (a:α):∀ l:List (α×β),Maps.has (.map (zFF K V l)) (K.enc a)=(zAd a l).isSome
 | []=>rfl
 | y::r=>by
  have:=zEp a r;unfold Maps.has at this ⊢;unfold zFF at this ⊢;simp only [List.map_cons,List.any_cons,zDw,zAd] at this ⊢;by_cases h:y.1=a
  · simp [h]
  · simp only [h,decide_false,Bool.false_or,if_false];exact this
theorem zGZ (l:List (α×β)):Maps.size (.map (zFF K V l))=l.length:=by have _:=(inferInstance:DecidableEq α);simp [Maps.size,zFF]
variable {K V} {w w':World} {k:TypeId} {b:Nat} {l:List (α×β)}
theorem zAy.lt (h:zAy w K V k b l):b<w.heap.size:=have _:=(inferInstance:DecidableEq α);World.ownsMap.lt h
theorem zAy.made (w:World) (K:KE α) (V:β→Value) (k:TypeId):zAy (w.alloc (.map #[] 0)) K V k w.heap.size []:=have _:=(inferInstance:DecidableEq α);World.ownsMap_made _ _ _ _
theorem zAy.chg {S:Nat→Prop} (h:zAy w K V k b l) (hc:Chg S w w') (hb:¬S b):zAy w' K V k b l:=by
 have fA:=h.lt;obtain⟨es,clock,fB,F,hs,hD⟩:=h;exact⟨es,clock,(hc.block b fA hb).trans fB,F,hs,hD⟩
theorem zAy.fresh (h:zAy w K V k b l) (hb:Below w.heap.size w w'):zAy w' K V k b l:=h.chg (Chg.of_fresh (S:=fun _=>False) hb) id
theorem zAy.alloc (h:zAy w K V k b l) (o:Obj):zAy (w.alloc o) K V k b l:=have _:=(inferInstance:DecidableEq α);World.ownsMap.alloc h o
theorem zAy.ris (h:zAy w K V k b l) (hk:Keyed Tryz.prog k):zBs K l:=by
 have _:=(inferInstance:DecidableEq α);obtain⟨es,e,hp,_⟩:=World.ownsMap.canon h hk;injection e with e;rw [←e] at hp;unfold zFF at hp;rw [List.pairwise_map] at hp;exact hp.imp fun {p q} h=>by rwa [K.before_eq] at h
theorem zFQ {v:Value} {d:DataW Value} {ps:List MemPlace} (h:rawR v=some (d,ps)):d=.held v:=by
 unfold rawR at h;injection h with h;injection h with h1 h2;exact h1.symm
def orV (V:β→Value) (z:Value):Option β→Value
 | some v=>V v
 | none=>z
omit [DecidableEq α] in
theorem zFY {a b:Value} (h:(DataW.held a:DataW Value)=.held b):a=b:=by injection h
theorem zGF {v z:Value} {a:α} (h:DataW.atKey (.map (zFF K V l)) (K.enc a) (.held z)=.held v):v=orV V z (zAd a l):=by
 rw [zHy] at h
 cases hg:zAd a l with
 | none=>rw [hg] at h;exact (zFY h).symm
 | some u=>rw [hg] at h;exact (zFY h).symm
theorem zAy.look {t e:TypeId} (h:zAy w K V k b l) (hk:Keyed Tryz.prog k) (ht:Tryz.prog.underlying t=some (.map k e)) {z:Value} (hz:(zeroValue e).run Tryz.prog w=.ok z w) {a:α} (fA:keyOf Tryz.prog k (K.val a)=some (K.enc a)) :
 (Instr.lookup t (.map (some b)) (K.val a) false).run Tryz.prog w=.ok (orV V z (zAd a l)) w:=by
 obtain⟨v,ps,fB,hv⟩:=World.ownsMap.lookup h hk ht hz (zd:=.held z) (zp:=[]) rfl fA;rw [fB];rw [show v=orV V z (zAd a l) from zGF (zFQ hv)]
theorem zAy.look_ok {t e:TypeId} (h:zAy w K V k b l) (hk:Keyed Tryz.prog k) (ht:Tryz.prog.underlying t=some (.map k e)) {z:Value} (hz:(zeroValue e).run Tryz.prog w=.ok z w) {a:α} (fA:keyOf Tryz.prog k (K.val a)=some (K.enc a)) :
 (Instr.lookup t (.map (some b)) (K.val a) true).run Tryz.prog w=.ok (.tuple #[orV V z (zAd a l),.bool (zAd a l).isSome]) w:=by
 obtain⟨v,ps,fB,hv⟩:=World.ownsMap.look_ok h hk ht hz (zd:=.held z) (zp:=[]) rfl fA;rw [fB,zEp];rw [show v=orV V z (zAd a l) from zGF (zFQ hv)]
theorem zCI {n:Nat} {D:DataW Value} {l':List (α×β)} (h:w.ownsMap Tryz.prog k rawR b n D) (hD:D=.map (zFF K V l')):zAy w K V k b l':=by
 obtain⟨es,clock,fA,F,hs,e⟩:=h;rw [hD] at e;have e2:=congrArg Maps.size e;rw [zGZ] at e2;simp only [Maps.size,length_sorted,List.length_map,Array.length_toList] at e2;exact⟨es,clock,fA,F,by omega,e⟩
theorem zAy.store {t e:TypeId} (h:zAy w K V k b l) (hk:Keyed Tryz.prog k) (ht:Tryz.prog.underlying t=some (.map k e)) (hn:l.length<maxLen) {a:α} {v:β} (fA:keyOf Tryz.prog k (K.val a)=some (K.enc a)) :
 ∃ w',(Instr.mapUpdate t (.map (some b)) (K.val a) (V v)).run Tryz.prog w=.ok () w'∧zAy w' K V k b (zBa K a v l)∧w.mapTurned w' b:=by
 obtain⟨w',fB,ho,ht⟩:=World.ownsMap.store h hk ht hn fA (val:=V v) (d:=.held (V v)) (ps:=[]) rfl;exact⟨w',fB,zCI ho (zIV K V a v l),ht⟩
theorem zAy.drop {t e:TypeId} (h:zAy w K V k b l) (hk:Keyed Tryz.prog k) (ht:Tryz.prog.underlying t=some (.map k e)) {a:α} (fA:keyOf Tryz.prog k (K.val a)=some (K.enc a)) (ty:TypeId) :
 ∃ w',(Builtin.delete_ #[t,k] ty #[.map (some b),K.val a]).run Tryz.prog w=.ok (.tuple #[]) w'∧zAy w' K V k b (zBE a l)∧w.mapTurned w' b:=by
 obtain⟨w',fB,ho,ht⟩:=World.ownsMap.drop h hk ht fA ty;exact⟨w',fB,zCI ho (zF4 K V a l),ht⟩
theorem zAy.len {t e:TypeId} (h:zAy w K V k b l) (ht:Tryz.prog.underlying t=some (.map k e)) (ty:TypeId):(Builtin.len_ #[t] ty #[.map (some b)]).run Tryz.prog w=.ok (.int .i64 (l.length:Nat)) w:=by
 rw [World.ownsMap.len h ht ty,zGZ]
theorem zAT (h:w.mapTurned w' b):Chg (fun c=>c=b) w w':=(Chg.refl _ w).grown h.grown fun g e _=>by injection e with e;exact e.symm
end
def zAG:KE Nat where
 enc n:=.int .i64 (n:Int)
 val n:=.int .i64 (n:Int)
 lt a b:=decide (a<b)
 before_eq a b:=by simp [Lit.before]
 same_iff a b:=by simp [Lit.sameKey];omega
 isKey _:=trivial
def zIC:KE Int where
 enc n:=.int .i64 n
 val n:=.int .i64 n
 lt a b:=decide (a<b)
 before_eq a b:=by simp [Lit.before]
 same_iff a b:=by simp [Lit.sameKey]
 isKey _:=trivial
theorem zCj (a b:Nat) (h:a≠b):zAG.lt a b=true∨zAG.lt b a=true:=by simp only [zAG,decide_eq_true_eq];omega
theorem zGk {a b:ByteArray} (h:a.data.toList=b.data.toList):a=b:=by
 cases a with | mk a =>
 cases b with | mk b =>
 simp only at h;rw [show a=b from Array.ext' h]
def zA6:KE ByteArray where
 enc s:=.string s.data.toList
 val s:=.string s
 lt a b:=bytesBefore a.data.toList b.data.toList
 before_eq a b:=by simp [Lit.before]
 same_iff a b:=by
  simp only [Lit.sameKey,beq_iff_eq];exact⟨zGk,fun h=>by rw [h]⟩
 isKey _:=trivial
theorem zCY:∀ a b:List UInt8,a≠b→bytesBefore a b=true∨bytesBefore b a=true
 | [],[],h=>absurd rfl h
 | [],_::_,_=>.inl rfl
 | _::_,[],_=>.inr rfl
 | a::r,b::s,h=>by
  simp only [bytesBefore,Bool.or_eq_true,decide_eq_true_eq,Bool.and_eq_true,beq_iff_eq];by_cases e:a=b
  · subst e
    rcases zCY r s (fun e=>h (by rw [e])) with h' | h'
    · exact .inl (.inr ⟨rfl,h'⟩)
    · exact .inr (.inr ⟨rfl,h'⟩)
  · have:a.toNat≠b.toNat:=fun e'=>e (UInt8.toNat_inj.1 e');rcases Nat.lt_or_gt_of_ne this with h' | h'
    · exact .inl (.inl h')
    · exact .inr (.inl h')
theorem zEw (a b:ByteArray) (h:a≠b):zA6.lt a b=true∨zA6.lt b a=true:=zCY _ _ fun e=>h (zGk e)
section
variable {α β:Type} [DecidableEq α] {K:KE α} {V:β→Value} {k:TypeId} {b:Nat} {l:List (α×β)} (w:World) {ops:Array Oper} {rest:List Oper} {o:Oper} {c:Act} {Q:Exit→Act→World→Prop}
theorem zEb (hg:o.guard=none) (m x:Operand) (t:TypeId) (fC:o.op=Op.lookup t m x false) {e:TypeId} (hk:Keyed Tryz.prog k) (ht:Tryz.prog.underlying t=some (.map k e)) {z:Value} (hz:(zeroValue e).run Tryz.prog w=.ok z w)
 (h:zAy w K V k b l) (hm:c.eval m=.map (some b)) (a:α) (hx:c.eval x=K.val a) (fA:keyOf Tryz.prog k (K.val a)=some (K.enc a)) (v:Value) (hv:orV V z (zAd a l)=v)
 (hK:wpList Tryz.prog ops Q rest (c.put o.dst v) w):wpList Tryz.prog ops Q (o::rest) c w:=by
 refine wpList_plain hg fun K' fD=>?_;have fB:=h.look hk ht hz fA;unfold Oper.wp
 simp [execOp,fC,hm,hx,fB,Result.andThen]
 rw [hv];exact fD _ _ hK
theorem zA4 (hg:o.guard=none) (m x v:Operand) (t:TypeId) (fA:o.op=Op.mapUpdate t m x v∨o.op=Op.insert t m x v) {e:TypeId} (hk:Keyed Tryz.prog k) (ht:Tryz.prog.underlying t=some (.map k e))
 (h:zAy w K V k b l) (hn:l.length<maxLen) (hm:c.eval m=.map (some b)) (a:α) (hx:c.eval x=K.val a) (fC:keyOf Tryz.prog k (K.val a)=some (K.enc a)) (u:β) (hv:c.eval v=V u)
 (hK:∀ w',zAy w' K V k b (zBa K a u l)→w.mapTurned w' b→wpList Tryz.prog ops Q rest (c.put o.dst undef) w'):wpList Tryz.prog ops Q (o::rest) c w:=by
 refine wpList_plain hg fun K' fD=>?_;obtain⟨w',fB,r1,r2⟩:=h.store hk ht hn (v:=u) fC;unfold Oper.wp;rcases fA with fA | fA
 · simp [execOp,fA,hm,hx,hv,fB,Result.andThen]
   exact fD _ _ (hK w' r1 r2)
 · simp [execOp,fA,hm,hx,hv,fB,Result.andThen]
   exact fD _ _ (hK w' r1 r2)
theorem zDn (hg:o.guard=none) (m x:Operand) (t:TypeId) (fC:o.op=Op.call {callee:=Callee.builtin Builtin.delete,args:=#[m,x],argTypes:=#[t,k]}) {e:TypeId} (hk:Keyed Tryz.prog k) (ht:Tryz.prog.underlying t=some (.map k e))
 (h:zAy w K V k b l) (hm:c.eval m=.map (some b)) (a:α) (hx:c.eval x=K.val a) (fA:keyOf Tryz.prog k (K.val a)=some (K.enc a))
 (hK:∀ w',zAy w' K V k b (zBE a l)→w.mapTurned w' b→wpList Tryz.prog ops Q rest (c.put o.dst (.tuple #[])) w'):wpList Tryz.prog ops Q (o::rest) c w:=by
 refine wpList_plain hg fun K' fD=>?_;obtain⟨w',fB,r1,r2⟩:=h.drop hk ht fA o.type;unfold Oper.wp
 simp [execOp,fC,resolve,invoke,builtin,hm,hx,fB,Result.andThen]
 exact fD _ _ (hK w' r1 r2)
theorem zCE (hg:o.guard=none) (m:Operand) (t:TypeId) (fA:o.op=Op.call {callee:=Callee.builtin Builtin.len,args:=#[m],argTypes:=#[t]}) {e:TypeId} (ht:Tryz.prog.underlying t=some (.map k e))
 (h:zAy w K V k b l) (hm:c.eval m=.map (some b)) (n:Nat) (hn:l.length=n) (hK:wpList Tryz.prog ops Q rest (c.put o.dst (.int .i64 n)) w):wpList Tryz.prog ops Q (o::rest) c w:=by
 refine wpList_plain hg fun K' fB=>?_;unfold Oper.wp
 simp [execOp,fA,resolve,invoke,builtin,hm,h.len ht o.type,Result.andThen]
 rw [hn];exact fB _ _ hK
end
theorem zF5 (es:Array MapEntry) (seen:Array Nat) (j:Nat) (f:MapEntry→MapEntry) (hf:∀ e,(f e).born=e.born):(leftOf (es.modify j f) seen).size=(leftOf es seen).size:=by
 have e1:∀ a:Array MapEntry,(leftOf a seen).size=((a.toList.map (·.born)).filter fun b=>!seen.contains b).length:=fun a=>by
  unfold leftOf;rw [List.filter_map,List.length_map,←Array.length_toList,Array.toList_filter];rfl
 rw [e1,e1]
 have e2:(es.modify j f).toList.map (·.born)=es.toList.map (·.born):=by
  apply List.ext_getElem?
  intro i;simp only [List.getElem?_map,Array.getElem?_toList,Array.getElem?_modify]
  split
  · cases es[i]?<;>simp [hf]
  · rfl
 rw [e2]
open Go.ChangeMaps Go.MapKept in
theorem zGO {P:Program} {k:TypeId} {R:Value→Option (DataW Value×List MemPlace)} {w:World} {b r n:Nat} {D:DataW Value} {left:Lit→Bool} {cnt:Nat} {t e:TypeId}
 (h:w.ranges P k R b r n D left cnt) (K:Keyed P k) (ht:P.underlying t=some (.map k e)) {key val:Value} {kl:Lit} {d:DataW Value} {ps:List MemPlace} (fA:keyOf P k key=some kl) (hv:R val=some (d,ps)) (fK:Maps.has D kl=true) (hn:n<maxLen) :
 ∃ w',(Instr.mapUpdate t (.map (some b)) key val).run P w=.ok () w'∧w'.ranges P k R b r n (D.put kl d) left cnt∧w.mapTurned w' b:=by
 have fO:=h.ne;obtain⟨es,clock,since,seen,c0,hb,F,hs,rfl,hr,fD,rfl,fL,fP,fQ,fR⟩:=h;obtain⟨es',clock',fE,F',fH,_⟩:=Maps.fit_store (R':=R) K ht hb F (Nat.lt_of_le_of_lt hs hn) (fun _ _ _ _ hz=>hz) fA hv;rcases K.find w fA es.toList F.keys with ⟨h1,h2⟩ | ⟨j,e0,h1,h2,h3⟩
 · exfalso
   unfold Maps.has at fK;obtain⟨p,hp,fS⟩:=List.any_eq_true.1 fK;obtain⟨x,hx,rfl⟩:=List.mem_map.1 (mem_sorted.1 hp);obtain⟨y,hy⟩:=F.reads x hx;have m1:=Go.WideElems.rd_key hy;have e1:=WideAt.sameKey_eq fS;rw [Go.WideElems.rg_of hy] at e1;rw [e1] at m1;exact h2 x hx (K.inj m1 fA)
 · have hj:es[j]? = some e0:=by simpa using h2
   have fC:(Instr.mapUpdate t (.map (some b)) key val).run P w=.ok () (setBlock w b (.map (es.modify j fun e'=>{e' with key:=key,val:=val}) clock)):=by
    simp [Instr.mapUpdate,run_underlying ht,MapKept.run_getObj_map hb,K.check w false fA,h1,hj,h3,K.stays w fA,MapKept.run_setObj_map _ hb,Result.andThen,setBlock]
   have fT:(Obj.map es' clock')=.map (es.modify j fun e'=>{e' with key:=key,val:=val}) clock:=by
    rw [fE] at fC;injection fC with _ hw;have a1:=heap_setBlock_same hb (.map es' clock');have a2:=heap_setBlock_same hb (.map (es.modify j fun e'=>{e' with key:=key,val:=val}) clock);rw [hw] at a1;rw [a1] at a2;injection a2
   injection fT with hes hck;have fI:=hck.symm;subst hes fI
   have fB:(es.modify j (fun e'=>{e' with key:=key,val:=val})).toList=es.toList.set j {e0 with key:=key,val:=val}:=by rw [Array.toList_modify,ChangeMaps.modify_eq_set _ _ _ _ h2]
   have fJ:e0∈es.toList:=List.mem_of_getElem? h2;obtain⟨y0,fM⟩:=F.reads e0 fJ
   have fF:(Go.WideElems.rg P k R e0).1=kl:=by
    rw [Go.WideElems.rg_of fM];have:=Go.WideElems.rd_key fM;rw [h3,fA] at this;injection this with this;exact this.symm
   have fG:(Go.WideElems.rg P k R ({e0 with key:=key,val:=val}:MapEntry)).1=kl:=by rw [Go.WideElems.rg_of (Go.WideElems.rd_mk fA hv)]
   have who:∀ x∈es.toList.set j {e0 with key:=key,val:=val},x∈es.toList∨x={e0 with key:=key,val:=val}:=fun x hx=>List.mem_or_eq_of_mem_set hx;refine⟨_,fE,⟨_,clock,since,seen,c0,heap_setBlock_same hb _,F',by simpa using hs,by rw [DataW.put_eq,fH],(heap_setBlock_other hb _ fO).trans hr,fun x hx=>?_,zF5 es seen j _ (fun _=>rfl),fun x hx=>?_,fun x0 fU=>?_,fQ,fR⟩,⟨es,clock,_,clock,hb,rfl⟩⟩
   · rw [fB] at hx;rcases who x hx with hx | rfl
     · exact fD x hx
     · exact fD e0 fJ
   · rw [fB] at hx;rcases who x hx with hx | rfl
     · exact fL x hx
     · rw [fG,←fF];exact fL e0 fJ
   · obtain⟨x,hx,rfl⟩:=fP x0 fU;rw [fB];obtain⟨i,hi⟩:=List.getElem?_of_mem hx;by_cases fN:i=j
     · subst fN;rw [h2] at hi;injection hi with hi;subst hi;exact⟨_,List.mem_iff_getElem?.2 ⟨i,by rw [List.getElem?_set_self (List.getElem?_eq_some_iff.1 h2).1]⟩,by rw [fG,fF]⟩
     · exact⟨x,List.mem_iff_getElem?.2 ⟨i,by rw [List.getElem?_set_ne (Ne.symm fN)];exact hi⟩,rfl⟩
def zAQ (w:World) {α β:Type} (K:KE α) (V:β→Value) (k:TypeId) (b r n:Nat) (l:List (α×β)) (todo:α→Bool):Prop :=
 ∃ left cnt,w.ranges Tryz.prog k rawR b r n (.map (zFF K V l)) left cnt∧(∀ a,left (K.enc a)=todo a)∧∀ kl,left kl=true→∃ p∈l,K.enc p.1=kl
section
variable {α β:Type} [DecidableEq α] {K:KE α} {V:β→Value} {k:TypeId} {b r n:Nat} {l:List (α×β)} {todo:α→Bool} {w w':World}
theorem zAQ.owns (h:zAQ w K V k b r n l todo):zAy w K V k b l:=by
 obtain⟨left,cnt,h,_⟩:=h;exact zCI h.owns rfl
theorem zAQ.ne (h:zAQ w K V k b r n l todo):r≠b:=have _:=(inferInstance:DecidableEq α);let ⟨_,_,h,_⟩:=h;h.ne
theorem zAQ.lt (h:zAQ w K V k b r n l todo):r<w.heap.size:=have _:=(inferInstance:DecidableEq α);let ⟨_,_,h,_⟩:=h;h.lt
theorem zAQ.chg {S:Nat→Prop} (h:zAQ w K V k b r n l todo) (hc:Chg S w w') (hb:¬S b) (hr:¬S r):zAQ w' K V k b r n l todo:=by
 have _:=(inferInstance:DecidableEq α);obtain⟨left,cnt,h,hl⟩:=h;have h1:=h.owns.lt;have h2:=h.lt;obtain⟨es,clock,since,seen,c0,fA,F,hs,hD,fB,rest⟩:=h;exact⟨left,cnt,⟨es,clock,since,seen,c0,(hc.block b h1 hb).trans fA,F,hs,hD,(hc.block r h2 hr).trans fB,rest⟩,hl⟩
theorem zBn {S:Nat→Prop} (hc:Chg S w w') (h1:b<w.heap.size) (h2:r<w.heap.size) (hb:¬S b) (hr:¬S r):w'.rangeLeft b r=w.rangeLeft b r:=by
 unfold World.rangeLeft;rw [hc.block b h1 hb,hc.block r h2 hr]
theorem has_mem (K:KE α) (V:β→Value) (l:List (α×β)) (kl:Lit) (h:Maps.has (.map (zFF K V l)) kl=true):∃ p∈l,K.enc p.1=kl:=by
 have _:=(inferInstance:DecidableEq α);unfold Maps.has at h;obtain⟨p,hp,fA⟩:=List.any_eq_true.1 h;obtain⟨q,hq,rfl⟩:=List.mem_map.1 hp;exact⟨q,hq,WideAt.sameKey_eq fA⟩
theorem zAy.range {t e:TypeId} (h:zAy w K V k b l) (hk:Keyed Tryz.prog k) (ht:Tryz.prog.underlying t=some (.map k e)) :
 ∃ w',(Instr.range t (.map (some b))).run Tryz.prog w=.ok (.pointer (some ⟨w.heap.size,0,none⟩)) w'∧zAQ w' K V k b w.heap.size l.length l (fun a=>(zAd a l).isSome)∧Below w.heap.size w w'∧w'.heap.size=w.heap.size+1:=by
 obtain⟨w',fA,hr,hg,hs⟩:=World.ownsMap.range h hk ht;refine⟨w',fA,⟨_,_,hr,fun a=>zEp K V a l,has_mem K V l⟩,(Below.refl _ _).grown hg (Nat.le_refl _) (fun j hj=>by cases hj),hs⟩
theorem zAQ.next (h:zAQ w K V k b r n l todo) (hk:Keyed Tryz.prog k) (fD:∀ key a,keyOf Tryz.prog k key=some (K.enc a)→key=K.val a) (ty:TypeId) :
 ((∀ a,todo a=false)∧(Instr.next (.pointer (some ⟨r,0,none⟩)) false ty).run Tryz.prog w=.ok (.tuple #[.bool false]) w) ∨
 ∃ a v w',todo a=true∧zAd a l=some v∧(Instr.next (.pointer (some ⟨r,0,none⟩)) false ty).run Tryz.prog w=.ok (.tuple #[.bool true,K.val a,V v]) w' ∧
  zAQ w' K V k b r n l (fun x=>todo x && decide (x≠a))∧w'.rangeLeft b r<w.rangeLeft b r∧Chg (fun c=>c=r) w w'∧w'.heap.size=w.heap.size ∧
  (Instr.entry (.pointer (some ⟨r,0,none⟩))).run Tryz.prog w'=.ok (.tuple #[K.val a,V v]) w'∧keyOf Tryz.prog k (K.val a)=some (K.enc a):=by
 obtain⟨left,cnt,h,hl,fE⟩:=h;rcases h.next hk ty with ⟨_,h0,fA⟩ | ⟨key,v,kl,y,w',cnt',fB,fF,hv,hat,fA,hrg,hlt,hg,hs,fG⟩
 · exact .inl ⟨fun a=>by rw [←hl];exact h0 _,fA⟩
 · obtain⟨p,hp,rfl⟩:=fE kl fF;obtain rfl:=fD _ _ fB
   have fC:∃ u,zAd p.1 l=some u:=by
    cases hg:zAd p.1 l with
    | some u=>exact⟨u,rfl⟩
    | none=>exact absurd rfl (zA9.1 hg p hp)
   obtain⟨u,hu⟩:=fC
   have fH:v=V u:=by
    have h1:=hat (.held v);rw [zHy,hu,zFQ (show rawR v=some (y.1,y.2) from hv)] at h1;exact (zFY (by simpa using h1)).symm
   subst fH;refine .inr ⟨p.1,u,w',by rw [←hl];exact fF,hu,fA,⟨_,cnt',hrg,fun a=>?_,fun kl' h'=>?_⟩,?_,(Chg.refl _ w).grown hg (fun g e _=>(Option.some.inj e).symm),hs,fG,fB⟩
   · show (left (K.enc a) && !(K.enc a).sameKey (K.enc p.1))=_
     rw [hl,zDw];by_cases e:a=p.1<;>simp [e]
   · simp only [Bool.and_eq_true] at h';exact fE kl' h'.1
   · rw [hrg.left_eq,h.left_eq];exact hlt
theorem zAQ.drop {t e:TypeId} (h:zAQ w K V k b r n l todo) (hk:Keyed Tryz.prog k) (ht:Tryz.prog.underlying t=some (.map k e)) {a:α} (fA:keyOf Tryz.prog k (K.val a)=some (K.enc a)) (ty:TypeId) :
 ∃ w',(Builtin.delete_ #[t,k] ty #[.map (some b),K.val a]).run Tryz.prog w=.ok (.tuple #[]) w'∧zAQ w' K V k b r n (zBE a l) (fun x=>todo x && decide (x≠a))∧w'.rangeLeft b r≤w.rangeLeft b r∧w.mapTurned w' b:=by
 obtain⟨left,cnt,h,hl,fD⟩:=h;obtain⟨w',cnt',fB,fC,fE,fF⟩:=h.drop hk ht fA ty;rw [zF4] at fC;refine⟨w',fB,⟨_,cnt',fC,fun x=>?_,fun kl' h'=>?_⟩,?_,fF⟩
 · show (left (K.enc x) && !(K.enc x).sameKey (K.enc a))=_
   rw [hl,zDw];by_cases e:x=a<;>simp [e]
 · simp only [Bool.and_eq_true,Bool.not_eq_true'] at h';obtain⟨p,hp,rfl⟩:=fD kl' h'.1;refine⟨p,zBL.2 ⟨hp,fun e=>?_⟩,rfl⟩;rw [e,(K.same_iff a a).2 rfl] at h';exact absurd h'.2 (by simp)
 · rw [fC.left_eq,h.left_eq];exact fE
theorem zAQ.store {t e:TypeId} (h:zAQ w K V k b r n l todo) (hk:Keyed Tryz.prog k) (ht:Tryz.prog.underlying t=some (.map k e)) {a:α} {u0 u:β} (fA:keyOf Tryz.prog k (K.val a)=some (K.enc a)) (fB:zAd a l=some u0) (hn:n<maxLen) :
 ∃ w',(Instr.mapUpdate t (.map (some b)) (K.val a) (V u)).run Tryz.prog w=.ok () w'∧zAQ w' K V k b r n (zBa K a u l) todo∧w'.rangeLeft b r≤w.rangeLeft b r∧w.mapTurned w' b:=by
 obtain⟨left,cnt,h,hl,fE⟩:=h;obtain⟨w',fC,fD,fF⟩:=zGO h hk ht fA (val:=V u) (d:=.held (V u)) (ps:=[]) rfl (by rw [zEp,fB];rfl) hn;rw [zIV] at fD;refine⟨w',fC,⟨_,cnt,fD,hl,fun kl' h'=>?_⟩,?_,fF⟩
 · obtain⟨p,hp,rfl⟩:=fE kl' h';by_cases e:p.1=a
   · exact⟨(a,u),(zBm K).2 (.inl rfl),by rw [e]⟩
   · exact⟨p,(zBm K).2 (.inr ⟨hp,e⟩),rfl⟩
 · rw [fD.left_eq,h.left_eq];exact Nat.le_refl _
variable {ops:Array Oper} {rest:List Oper} {o:Oper} {c:Act} {Q:Exit→Act→World→Prop}
theorem zBK (w:World) (hg:o.guard=none) (m:Operand) (t:TypeId) (fB:o.op=Op.range t m) {e:TypeId} (hk:Keyed Tryz.prog k) (ht:Tryz.prog.underlying t=some (.map k e)) (h:zAy w K V k b l) (hm:c.eval m=.map (some b))
 (hK:∀ w',zAQ w' K V k b w.heap.size l.length l (fun a=>(zAd a l).isSome)→Below w.heap.size w w'→w'.heap.size=w.heap.size+1→wpList Tryz.prog ops Q rest (c.put o.dst (.pointer (some ⟨w.heap.size,0,none⟩))) w'):wpList Tryz.prog ops Q (o::rest) c w:=by
 refine wpList_plain hg fun K' fC=>?_;obtain⟨w',fA,r1,r2,r3⟩:=h.range hk ht;unfold Oper.wp
 simp [execOp,fB,hm,fA,Result.andThen]
 exact fC _ _ (hK w' r1 r2 r3)
theorem zBX (w:World) (hg:o.guard=none) (it:Operand) (fD:o.op=Op.next it false) (hk:Keyed Tryz.prog k) (fC:∀ key a,keyOf Tryz.prog k key=some (K.enc a)→key=K.val a) (fE:c.eval it=.pointer (some ⟨r,0,none⟩)) (h:zAQ w K V k b r n l todo)
 (fA:(∀ a,todo a=false)→wpList Tryz.prog ops Q rest (c.put o.dst (.tuple #[.bool false])) w)
 (fB:∀ a v w',todo a=true→zAd a l=some v→zAQ w' K V k b r n l (fun x=>todo x && decide (x≠a))→w'.rangeLeft b r<w.rangeLeft b r→Chg (fun c=>c=r) w w'→w'.heap.size=w.heap.size →
  (Instr.entry (.pointer (some ⟨r,0,none⟩))).run Tryz.prog w'=.ok (.tuple #[K.val a,V v]) w'→keyOf Tryz.prog k (K.val a)=some (K.enc a)→wpList Tryz.prog ops Q rest (c.put o.dst (.tuple #[.bool true,K.val a,V v])) w'):wpList Tryz.prog ops Q (o::rest) c w:=by
 refine wpList_plain hg fun K' fF=>?_;unfold Oper.wp;rcases h.next hk fC o.type with ⟨h0,hrun⟩ | ⟨a,v,w',h1,h2,hrun,h3,h4,h5,h6,h7,h8⟩
 · simp [execOp,fD,fE,hrun,Result.andThen]
   exact fF _ _ (fA h0)
 · simp [execOp,fD,fE,hrun,Result.andThen]
   exact fF _ _ (fB a v w' h1 h2 h3 h4 h5 h6 h7 h8)
theorem zGI (w:World) (hg:o.guard=none) (m x:Operand) (t:TypeId) (fC:o.op=Op.call {callee:=Callee.builtin Builtin.delete,args:=#[m,x],argTypes:=#[t,k]}) {e:TypeId} (hk:Keyed Tryz.prog k) (ht:Tryz.prog.underlying t=some (.map k e))
 (h:zAQ w K V k b r n l todo) (hm:c.eval m=.map (some b)) (a:α) (hx:c.eval x=K.val a) (fA:keyOf Tryz.prog k (K.val a)=some (K.enc a))
 (hK:∀ w',zAQ w' K V k b r n (zBE a l) (fun x=>todo x && decide (x≠a))→w'.rangeLeft b r≤w.rangeLeft b r→w.mapTurned w' b→wpList Tryz.prog ops Q rest (c.put o.dst (.tuple #[])) w'):wpList Tryz.prog ops Q (o::rest) c w:=by
 refine wpList_plain hg fun K' fD=>?_;obtain⟨w',fB,r1,r2,r3⟩:=h.drop hk ht fA o.type;unfold Oper.wp
 simp [execOp,fC,resolve,invoke,builtin,hm,hx,fB,Result.andThen]
 exact fD _ _ (hK w' r1 r2 r3)
theorem zGG (w:World) (hg:o.guard=none) (m x v:Operand) (t:TypeId) (fD:o.op=Op.mapUpdate t m x v) {e:TypeId} (hk:Keyed Tryz.prog k) (ht:Tryz.prog.underlying t=some (.map k e))
 (h:zAQ w K V k b r n l todo) (hn:n<maxLen) (hm:c.eval m=.map (some b)) (a:α) (hx:c.eval x=K.val a) (fA:keyOf Tryz.prog k (K.val a)=some (K.enc a)) (u0:β) (fB:zAd a l=some u0) (u:β) (hv:c.eval v=V u)
 (hK:∀ w',zAQ w' K V k b r n (zBa K a u l) todo→w'.rangeLeft b r≤w.rangeLeft b r→w.mapTurned w' b→wpList Tryz.prog ops Q rest (c.put o.dst undef) w'):wpList Tryz.prog ops Q (o::rest) c w:=by
 refine wpList_plain hg fun K' fE=>?_;obtain⟨w',fC,r1,r2,r3⟩:=h.store hk ht (u:=u) fA fB hn;unfold Oper.wp
 simp [execOp,fD,hm,hx,hv,fC,Result.andThen]
 exact fE _ _ (hK w' r1 r2 r3)
end
theorem natK_inv {k:TypeId} (hk:Tryz.prog.underlying k=some (.int .i64)) (key:Value) (a:Nat) (h:keyOf Tryz.prog k key=some (zAG.enc a)):key=zAG.val a:=by
 obtain⟨x,rfl,e,_⟩:=Maps.keyOf_int_inv hk h;simp only [zAG,Lit.int.injEq] at e ⊢;rw [e.2]
theorem strK_inv {k:TypeId} (hk:Tryz.prog.underlying k=some .string) (key:Value) (a:ByteArray) (h:keyOf Tryz.prog k key=some (zA6.enc a)):key=zA6.val a:=by
 cases key<;>simp [keyOf,hk,mapKey] at h;rename_i s;have:=h.2;simp only [zA6,Lit.string.injEq] at this;rw [zGk this];rfl
end Go.Proofs.YtolpcfhfcdkokaaGreatDoor
