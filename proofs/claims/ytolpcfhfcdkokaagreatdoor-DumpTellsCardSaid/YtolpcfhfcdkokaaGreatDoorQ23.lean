/- Joined out of QOps..QPath. -/
import Derived.Lib.SplitLaws
import Derived.Test.YtolpcfhfcdkokaaGreatDoorQ22
set_option maxHeartbeats 16000000
set_option maxRecDepth 100000
namespace Go.Proofs.YtolpcfhfcdkokaaGreatDoor
open Lib (hid)
theorem zHL {a b:List Nat} (h:∀ k∈a,k∈b):zCm a≤zCm b:=by
 unfold zCm;rw [←List.countP_eq_length_filter,←List.countP_eq_length_filter];refine List.countP_mono_left fun z _ hz=>?_;obtain⟨k,hk,h1⟩:=List.any_eq_true.1 hz;exact List.any_eq_true.2 ⟨k,h k hk,h1⟩
theorem cntK_mono {a b:List Nat} (ha:a.Nodup) (h:∀ k∈a,k∈b):zDt a≤zDt b:=by
 have:=zHL h;have:=zAC ha h;unfold zDt;omega
theorem count_dir {n:PN} (h:n.Ok) (hd:n.dir=true):n.count=zDt (List.range n.slots.length):=by
 unfold PN.count PN.keys;rw [h.dd hd];rfl
theorem zFd {n:PN} (h:n.Ok) (hd:n.dir=false):n.count=zDt (n.data.map (·.1)):=by
 unfold PN.count PN.keys;rw [(h.df hd).1];simp
theorem zJD {T:PT} {n:PN} (hn:n.Ok) (hd:n.dir=true) (hr:T.used+T.inodes+1≤T.sectors) (h:(T.place n).2=0) (nm:ByteArray) (i:Nat):(n.set (T.place n).1 nm i).count+T.used+T.inodes+1≤T.sectors+n.count:=by
 have h1:(n.set (T.place n).1 nm i).count=zDt (List.range (n.set (T.place n).1 nm i).slots.length):=by
  unfold PN.count PN.keys;have:(n.set (T.place n).1 nm i).data=[]:=hn.dd hd;rw [this];rfl
 have h2:=count_dir hn hd;rw [h1];unfold PT.place at h ⊢
 cases hf:zAj emp n.slots with
 | some k =>
  have:=(zAV hf).1;simp only [PN.set,if_neg (Nat.ne_of_lt this),List.length_set];omega
 | none =>
  rw [hf] at h;simp only at h ⊢;by_cases h3:n.slots.length=1068
  · rw [if_pos h3] at h;cases h
  · rw [if_neg h3] at h ⊢;by_cases h4:T.room n.count (zDt (List.range (n.slots.length+1)))=true
    · rw [if_pos h4];unfold PT.room at h4;have h5:=of_decide_eq_true h4;simp only [PN.set,if_true,List.length_append,List.length_singleton];omega
    · rw [if_neg h4] at h;cases h
theorem PT.Gr.ne1 {T:PT} (h:T.Gr) {i j:Nat} {n:PN} {nm:ByteArray} (hg:zAd i T.nodes=some n) (hj:zAd nm n.names=some j):j≠1:=by
 rintro rfl;exact (PT.refs_pos h.ok).2 ⟨_,_,_,hg,hj⟩ h.root0
theorem PT.Gr.loop {T:PT} (h:T.Gr) {i:Nat} {n:PN} {nm:ByteArray} (hg:zAd i T.nodes=some n):zAd nm n.names≠some i:=fun hj=>by
 obtain⟨rk,hr⟩:=h.rank
 cases hd:n.dir with
 | true =>
  have:=hr i n nm i hg hj (by rw [zAn hg,hd]);omega
 | false =>
  rw [((h.ok.get hg).1.df hd).2] at hj;cases hj
theorem PT.wf_of {T:PT} {e:Nat→Int} (h:T.Gr) (hv:T.Dev e):T.Wf:=⟨h.ok,h.root,h.ents,h.slotn,fun i n hg=>(hv i n hg).1,h.nemp,h.rank⟩
theorem zGa (i j:Nat) (_e:Nat→Int):at1 i (-1) j=no j-zEh j i:=by
 unfold at1 no zEh;by_cases h:j=i
 · subst h;simp
 · rw [if_neg h,if_neg (fun e=>h e.symm)];simp
theorem zJd {T:PT} (h:T.Inv) {d i:Nat} {n m:PN} {nm:ByteArray} (hn:zAd d T.nodes=some n) (hd:n.dir=true) (fA:zAd nm n.names=some i) (hm:zAd i T.nodes=some m) (fB:m.names=[]):((T.clr d nm).less i).Inv:=by
 have hiD:i≠d:=fun e=>h.gr.loop hn (e▸fA);rw [zCt hn];have hG:=h.gr.clear hn hd fA;have hD:(T.upd d (n.clear nm)).Dev (at1 i (-1)):=h.dev.clear h.gr.ok hn fA fun j=>zGa i j no;obtain⟨h1,h2,h3⟩:=hG.less hD ((zAm _ hiD).trans hm) (h.gr.ne1 hn fA) fB;refine⟨h1,h2,?_⟩;have h4:=PT.used_upd h.gr.ok.ris (n':=n.clear nm) hn;rw [zEX] at h4;have h5:=h.room
 have h6:((T.upd d (n.clear nm)).less i).inodes=T.inodes∧((T.upd d (n.clear nm)).less i).sectors=T.sectors:=by
  unfold PT.less
  split
  · split<;>exact⟨rfl,rfl⟩
  · exact⟨rfl,rfl⟩
 rw [h6.1,h6.2];omega
theorem zJT {T:PT} (h:T.Inv) (l:List ByteArray):(T.unlink l).1.Inv:=by
 have fA:=zDE h.wf l;unfold PT.unlink
 split
 · exact h
 · rename_i h0;obtain⟨n,m,hn,hd,fB,hm,-⟩:=fA (by simpa using h0)
   split
   · exact h
   · rename_i h1;rw [zAn hm] at h1;exact zJd h hn hd fB hm ((h.gr.ok.get hm).1.df (by simpa using h1)).2
theorem inv_rmdir {T:PT} (h:T.Inv) (l:List ByteArray):(T.rmdir l).1.Inv:=by
 have fA:=zDE h.wf l;unfold PT.rmdir
 split
 · exact h
 · rename_i h0;obtain⟨n,m,hn,hd,fB,hm,-⟩:=fA (by simpa using h0)
   split
   · exact h
   · split
     · exact h
     · rename_i h1 h2;rw [zAp hm] at h2;exact zJd h hn hd fB hm (List.eq_nil_of_length_eq_zero (by omega))
theorem zHO {T:PT} {e:Nat→Int} (h:T.Gr) (hv:T.Dev e) (hr:T.used+T.inodes+1≤T.sectors) {d i:Nat} {n m:PN} {nm:ByteArray} (hn:zAd d T.nodes=some n) (hd:n.dir=true) (hp:(T.place n).2=0) (hc:chk nm=true) (h0:zAd nm n.names=none) (hm:zAd i T.nodes=some m) (hi:i≠1)
 (hk:∃ rk:Nat→Nat,T.Ranked rk∧(T.isDir i=true→rk d<rk i)) {e':Nat→Int} (he:∀ j,e' j=e j+zEh j i) :
 (T.upd d (n.set (T.place n).1 nm i)).Gr∧(T.upd d (n.set (T.place n).1 nm i)).Dev e'∧(T.upd d (n.set (T.place n).1 nm i)).used+T.inodes+1≤T.sectors:=by
 have hw:=PT.wf_of h hv;have fA:=(h.ok.get hn).1;have hf:n.Fit (T.place n).1 nm:=zBu fA hp;have fB:=h.ok.ino;have fC:=(h.ok.get hm).2;refine⟨h.set hn hd hf hc hm hi (zCy hw hn hd hf (zC5 hc) (by omega)) hk,hv.set h.ok hn _ _ _ fun j=>by rw [zEr h0,he];simp,?_⟩;have h1:=PT.used_upd h.ok.ris (n':=n.set (T.place n).1 nm i) hn;have h2:=zJD fA hd hr hp nm i;omega
theorem zI4 {T T':PT} (n:PN) (h1:T'.sectors=T.sectors) (h2:T'.inodes=T.inodes) (h3:T'.used=T.used):T'.place n=T.place n:=by
 unfold PT.place PT.room;rw [h1,h2,h3]
theorem inv_link {T:PT} (h:T.Inv) (l m:List ByteArray) (hc:∀ x∈m,chk x=true):(T.link l m).1.Inv:=by
 have fB:=zBz h.wf m;have fC:=zB0 h.wf l 1 (let ⟨n,h,_⟩:=h.wf.root;⟨n,h⟩);unfold PT.link
 split
 · exact h
 rename_i h0;obtain⟨x,hx⟩:=fC (by simpa using h0)
 split
 · exact h
 rename_i h1;obtain⟨n,hn,hd⟩:=fB (by simpa using h1);rw [zAp hn,zAp hx,zAn hx]
 split
 · exact h
 rename_i h2
 split
 · exact h
 rename_i h3
 split
 · exact h
 rename_i h4
 split
 · exact h
 rename_i h5
 have fA:x.dir=false:=by simpa using h3
 have hp:(T.place n).2=0:=by simpa using h5
 have fG:zAd (zAL m) n.names=none:=by simpa using h2
 have fH:(T.last m).1≠(T.walk l 1).1:=fun e=>by
  rw [e,hx] at hn;rw [Option.some.inj hn,hd] at fA;cases fA
 have fI:(T.walk l 1).1≠1:=fun e=>by
  obtain⟨r,hr,fJ⟩:=h.gr.root;rw [e,hr] at hx;rw [←Option.some.inj hx,fJ] at fA;cases fA
 have fD:m≠[]:=fun e=>by
  unfold PT.last at h1;rw [if_pos e] at h1;exact h1 (by simp)
 have fK:chk (zAL m)=true:=by
  unfold zAL;rw [List.getLastD_eq_getLast?,List.getLast?_eq_some_getLast fD];exact hc _ (List.getLast_mem fD)
 generalize (T.last m).1=d at *;generalize (T.walk l 1).1=i at *;unfold PT.linksUp;rw [zAp hx];have fM:=(h.gr.ok.get hx).1.links;have hG:=h.gr.turn (n':={x with links:=x.links+1}) hx rfl rfl rfl ((h.gr.ok.get hx).1.lnk (by omega))
 have hD:(T.upd i {x with links:=x.links+1}).Dev (at1 i (-1)):=h.dev.turn h.gr.ok hx rfl rfl (by simp) (fun e=>by rw [fA] at e;cases e) (fun _=>by simp only [at1,no,if_true];omega) fun j hj=>by simp [at1,no,hj]
 have hU:(T.upd i {x with links:=x.links+1}).used=T.used:=by
  have:=PT.used_upd h.gr.ok.ris (n':={x with links:=x.links+1}) hx;have e:({x with links:=x.links+1}:PN).count=x.count:=rfl;omega
 have fE:zAd d (T.upd i {x with links:=x.links+1}).nodes=some n:=(zAm _ fH).trans hn;rw [zCg fE];have fF:=zI4 (T:=T) (T':=T.upd i {x with links:=x.links+1}) n rfl rfl hU;rw [←fF];obtain⟨rk,fL⟩:=hG.rank
 obtain⟨a1,a2,a3⟩:=zHO (e':=no) hG hD (by rw [hU];exact h.room) fE hd (by rw [fF];exact hp) fK fG (zA8 _ _) fI ⟨rk,fL,fun e=>by rw [zDy (n':={x with links:=x.links+1}) hx rfl,zAn hx,fA] at e;cases e⟩ fun j=>by
  have:=zGa i j no;omega
 exact⟨a1,a2,a3⟩
theorem PT.Gr.new {T:PT} (h:T.Gr) {i:Nat} {n:PN} (hg:zAd i T.nodes=none) (hi:1≤i∧i≤T.inodes) (hn:n.names=[]) (ho:n.Ok):(T.upd i n).Gr:=by
 have hr:∀ j,(T.upd i n).refs j=T.refs j:=fun j=>by
  have:=PT.refs_new h.ok.ris (n':=n) hg j;rw [PN.refs_nil hn] at this;omega
 have fA:∀ {j x nm v},zAd j (T.upd i n).nodes=some x→zAd nm x.names=some v→zAd j T.nodes=some x∧v≠i:=fun {j x nm v} h1 h2=>by
  rcases zBb h1 with ⟨_,rfl⟩ | ⟨_,h3⟩
  · rw [hn] at h2;cases h2
  · refine⟨h3,?_⟩;rintro rfl;obtain⟨y,hy⟩:=h.ents _ _ _ _ h3 h2;rw [hg] at hy;cases hy
 refine⟨h.ok.upd ho hi,?_,fun j x nm v h1 h2=>?_,fun j x nm v h1 h2=>h.slotn _ _ _ _ (fA h1 h2).1 h2,?_,fun j x nm v h1 h2=>h.names _ _ _ _ (fA h1 h2).1 h2,by rw [hr];exact h.root0⟩
 · obtain⟨m,h1,h2⟩:=h.root;refine⟨m,?_,h2⟩;rw [zAm]
   · exact h1
   · rintro rfl;rw [hg] at h1;cases h1
 · obtain⟨y,hy⟩:=h.ents _ _ _ _ (fA h1 h2).1 h2;exact zCH hy
 · obtain⟨rk,fB⟩:=h.rank;refine⟨rk,fun j x nm v h1 h2 h3=>fB _ _ _ _ (fA h1 h2).1 h2 ?_⟩;unfold PT.isDir at h3 ⊢;rw [zAm _ (fA h1 h2).2] at h3;exact h3
theorem PT.Gr.unnamed {T:PT} (h:T.Gr) {i:Nat} (hg:zAd i T.nodes=none):T.refs i=0:=by
 by_cases e:T.refs i=0
 · exact e
 · obtain⟨j,n,nm,h1,h2⟩:=(PT.refs_pos h.ok).1 e;obtain⟨y,hy⟩:=h.ents _ _ _ _ h1 h2;rw [hg] at hy;cases hy
theorem zIm {T:PT} (h:T.Inv) (l:List ByteArray) (dir:Bool) (made:Nat) (hm:made≤1099511627776) (hc:∀ x∈l,chk x=true):(T.make l dir made).1.Inv:=by
 have fA:=zBz h.wf l;unfold PT.make
 split
 · exact h
 rename_i h1;obtain⟨n,hn,hd⟩:=fA (by simpa using h1);rw [zAp hn]
 split
 · exact h
 rename_i h2
 split
 · exact h
 rename_i h3
 split
 · exact h
 rename_i h5
 have hp:(T.place n).2=0:=by simpa using h5
 have fF:zAd (zAL l) n.names=none:=by simpa using h2
 obtain⟨f1,f2,f3⟩:=zG9 h3
 have fB:l≠[]:=fun e=>by
  unfold PT.last at h1;rw [if_pos e] at h1;exact h1 (by simp)
 have fG:chk (zAL l)=true:=by
  unfold zAL;rw [List.getLastD_eq_getLast?,List.getLast?_eq_some_getLast fB];exact hc _ (List.getLast_mem fB)
 generalize (T.last l).1=d at *;generalize T.free=i at *
 have fC:d≠i:=by rintro rfl;rw [f3] at hn;cases hn
 have hG:=h.gr.new (n:=zCR dir made) f3 ⟨by omega,f2⟩ rfl (zHs dir hm)
 have hR:∀ j,(T.upd i (zCR dir made)).refs j=T.refs j:=fun j=>by
  have:=PT.refs_new h.gr.ok.ris (n':=zCR dir made) f3 j;rw [PN.refs_nil rfl] at this;omega
 have hD:(T.upd i (zCR dir made)).Dev (at1 i (-1)):=fun j m hj=>by
  rcases zBb hj with ⟨rfl,rfl⟩ | ⟨h7,h6⟩
  · refine⟨Nat.le_refl _,fun _=>rfl,fun _=>?_⟩;rw [hR,h.gr.unnamed f3];simp [at1,zCR]
  · obtain⟨b1,b2,b3⟩:=h.dev j m h6;refine⟨b1,b2,fun b4=>?_⟩;rw [hR,b3 b4];simp [at1,no,h7]
 have hU:(T.upd i (zCR dir made)).used=T.used:=by
  have:=PT.used_new h.gr.ok.ris (n':=zCR dir made) f3
  have e:(zCR dir made).count=0:=by cases dir<;>rfl
  omega
 have fD:zAd d (T.upd i (zCR dir made)).nodes=some n:=(zAm _ fC).trans hn;rw [zCg fD];have fE:=zI4 (T:=T) (T':=T.upd i (zCR dir made)) n rfl rfl hU;rw [←fE];obtain⟨rk,fH⟩:=hG.rank
 have fI:∀ {j x nm v},zAd j (T.upd i (zCR dir made)).nodes=some x→zAd nm x.names=some v→j≠i∧v≠i:=fun {j x nm v} b1 b2=>by
  rcases zBb b1 with ⟨_,rfl⟩ | ⟨b4,b3⟩
  · cases b2
  · refine⟨b4,?_⟩;rintro rfl;obtain⟨y,hy⟩:=h.gr.ents _ _ _ _ b3 b2;rw [f3] at hy;cases hy
 obtain⟨a1,a2,a3⟩:=zHO (e':=no) hG hD (by rw [hU];exact h.room) fD hd (by rw [fE];exact hp) fG fF (zA8 _ _) (by omega) ⟨fun x=>if x=i then rk d+1 else rk x,fun j x nm v b1 b2 b3=>by
  obtain⟨b4,b5⟩:=fI b1 b2
  show (if j=i then rk d+1 else rk j)<if v=i then rk d+1 else rk v
  rw [if_neg b4,if_neg b5]
  exact fH _ _ _ _ b1 b2 b3,fun _=>by show (if d=i then rk d+1 else rk d)<if i=i then rk d+1 else rk i;rw [if_neg fC,if_pos rfl];omega⟩ fun j=>by
  have:=zGa i j no;omega
 exact⟨a1,a2,a3⟩
theorem und_snoc {T:PT} {i j v:Nat} {n:PN} {nm:ByteArray} (h:T.Und j i) (hg:zAd j T.nodes=some n) (hv:zAd nm n.names=some v) (hd:T.isDir v=true):T.Und v i:=by
 induction h with
 | here=>exact .step hg hv hd .here
 | step h1 h2 h3 _ ih=>exact .step h1 h2 h3 ih
open Classical in
theorem rank_move {T:PT} {rk:Nat→Nat} (h:T.Ranked rk) {t i:Nat} (hu:¬T.Und t i):∃ rk':Nat→Nat,T.Ranked rk'∧rk' t<rk' i:=by
 refine⟨fun y=>rk y+if T.Und y i then rk t+1 else 0,fun j n nm v h1 h2 h3=>?_,?_⟩
 · have:=h j n nm v h1 h2 h3;simp only;by_cases e:T.Und j i
   · rw [if_pos e,if_pos (und_snoc e h1 h2 h3)];omega
   · rw [if_neg e];omega
 · simp only;rw [if_neg hu,if_pos .here];omega
theorem clr_inv {T:PT} {i:Nat} {e:Nat→Int} (h:T.Gr) (hv:T.Dev e) {d:Nat} {n:PN} {nm:ByteArray} (hn:zAd d T.nodes=some n) (hd:n.dir=true) (hi:zAd nm n.names=some i) {e':Nat→Int} (he:∀ j,e' j=e j-zEh j i) :
 (T.clr d nm).Gr∧(T.clr d nm).Dev e'∧(T.clr d nm).used=T.used:=by
 rw [zCt hn];refine⟨h.clear hn hd hi,hv.clear h.ok hn hi he,?_⟩;have:=PT.used_upd h.ok.ris (n':=n.clear nm) hn;rw [zEX] at this;omega
theorem zF6 (i j:Nat):at1 i 1 j=no j+zEh j i:=by
 unfold at1 no zEh;by_cases h:j=i
 · subst h;simp
 · rw [if_neg h,if_neg (fun e=>h e.symm)];simp
theorem zIE {T:PT} {d t k i:Nat} {n nt:PN} {old nm:ByteArray} (hn:zAd d T.nodes=some n) (hd:n.dir=true) (ho:zAd old n.names=some i) (ht:zAd t T.nodes=some nt) (fA:d=t→old≠nm):∃ n1,zAd d (T.upd t (nt.set k nm i)).nodes=some n1∧n1.dir=true∧zAd old n1.names=some i:=by
 by_cases e:d=t
 · subst e;have:=Option.some.inj (hn.symm.trans ht);subst this;refine⟨_,zA8 _ _,hd,?_⟩
   show zAd old (zBa zA6 nm i n.names)=some i
   rw [zAl zA6 i (fA rfl)];exact ho
 · exact⟨n,(zAm _ e).trans hn,hd,ho⟩
theorem zJh {T:PT} (h:T.Inv) {d t i:Nat} {n nt x:PN} {old nm:ByteArray} (hn:zAd d T.nodes=some n) (hd:n.dir=true) (ho:zAd old n.names=some i) (ht:zAd t T.nodes=some nt) (fA:nt.dir=true) (hx:zAd i T.nodes=some x)
 (hp:(T.place nt).2=0) (hc:chk nm=true) (h0:zAd nm nt.names=none) (hk:∃ rk:Nat→Nat,T.Ranked rk∧(T.isDir i=true→rk t<rk i)):((T.ins t (T.place nt).1 nm i).clr d old).Inv:=by
 rw [zCg ht];obtain⟨a1,a2,a3⟩:=zHO (e':=at1 i 1) h.gr h.dev h.room ht fA hp hc h0 hx (h.gr.ne1 hn ho) hk fun j=>zF6 i j
 have fB:d=t→old≠nm:=fun e e2=>by
  subst e;subst e2;have:=Option.some.inj (hn.symm.trans ht);subst this;rw [ho] at h0;cases h0
 obtain⟨n1,b1,b2,b3⟩:=zIE (k:=(T.place nt).1) hn hd ho ht fB
 obtain⟨c1,c2,c3⟩:=clr_inv (e':=no) a1 a2 b1 b2 b3 fun j=>by have:=zF6 i j;omega
 have h6:∀ (T:PT) d nm,(T.clr d nm).inodes=T.inodes∧(T.clr d nm).sectors=T.sectors:=fun T d nm=>by
  unfold PT.clr
  split<;>exact⟨rfl,rfl⟩
 refine⟨c1,c2,?_⟩;rw [c3,(h6 _ _ _).1,(h6 _ _ _).2];exact a3
theorem inv_over {T:PT} (h:T.Inv) {d t i j k:Nat} {n nt x y:PN} {old nm:ByteArray} (hn:zAd d T.nodes=some n) (hd:n.dir=true) (ho:zAd old n.names=some i) (ht:zAd t T.nodes=some nt) (fB:nt.dir=true) (hx:zAd i T.nodes=some x) (fC:x.dir=false)
 (hk:zAj nm nt.slots=some k) (hj:zAd nm nt.names=some j) (hy:zAd j T.nodes=some y) (fA:y.dir=false) (fD:i≠j):(((T.ins t k nm i).clr d old).less j).Inv:=by
 rw [zCg ht];have hw:=h.wf;have hc:=h.gr.names _ _ _ _ ht hj;have hf:nt.Fit k nm:=.inr (.inr ⟨by rw [hj];rfl,(zAV hk).2⟩);have fJ:=h.gr.ok.ino;have fK:=(h.gr.ok.get hx).2;obtain⟨rk,fE⟩:=h.gr.rank;have a1:=h.gr.set ht fB hf hc hx (h.gr.ne1 hn ho) (zCy hw ht fB hf (zC5 hc) (by omega)) ⟨rk,fE,fun e=>by rw [zAn hx,fC] at e;cases e⟩
 have a2:(T.upd t (nt.set k nm i)).Dev (fun q=>at1 i 1 q-zEh q j):=h.dev.set h.gr.ok ht _ _ _ fun q=>by
  rw [zCF hj];have:=zF6 i q;omega
 have fF:d=t→old≠nm:=fun e e2=>by
  subst e;subst e2;have:=Option.some.inj (hn.symm.trans ht);subst this;rw [ho] at hj;exact fD (Option.some.inj hj)
 obtain⟨n1,b1,b2,b3⟩:=zIE (k:=k) hn hd ho ht fF
 obtain⟨c1,c2,c3⟩:=clr_inv (e':=at1 j (-1)) a1 a2 b1 b2 b3 fun q=>by
  have:=zF6 i q;have:=zGa j q no;simp only [no] at *;omega
 have fG:j≠t:=fun e=>by subst e;rw [ht] at hy;rw [←Option.some.inj hy,fB] at fA;cases fA
 have fH:j≠d:=fun e=>by subst e;rw [hn] at hy;rw [←Option.some.inj hy,hd] at fA;cases fA
 have fI:zAd j ((T.upd t (nt.set k nm i)).clr d old).nodes=some y:=by
  rw [zCt b1,zAm _ fH,zAm _ fG];exact hy
 obtain⟨d1,d2,d3⟩:=c1.less c2 fI (h.gr.ne1 ht hj) ((h.gr.ok.get hy).1.df fA).2
 have h6:∀ (T:PT) d nm,(T.clr d nm).inodes=T.inodes∧(T.clr d nm).sectors=T.sectors:=fun T d nm=>by
  unfold PT.clr
  split<;>exact⟨rfl,rfl⟩
 have h7:∀ (T:PT) d,(T.less d).inodes=T.inodes∧(T.less d).sectors=T.sectors:=fun T d=>by
  unfold PT.less
  split
  · split<;>exact⟨rfl,rfl⟩
  · exact⟨rfl,rfl⟩
 refine⟨d1,d2,?_⟩;rw [(h7 _ _).1,(h7 _ _).2,(h6 _ _ _).1,(h6 _ _ _).2];have e1:=PT.used_upd h.gr.ok.ris (n':=nt.set k nm i) ht
 have e2:(nt.set k nm i).count=nt.count:=by
  have:=(zAV hk).1;unfold PN.count PN.keys PN.set;simp only [if_neg (Nat.ne_of_lt this),List.length_set]
 have e3:=h.room
 show _+T.inodes+1≤T.sectors
 omega
theorem zCw {T:PT} {m:List ByteArray} (h:(T.last m).2=0) (hc:∀ x∈m,chk x=true):chk (zAL m)=true:=by
 have fA:m≠[]:=fun e=>by
  unfold PT.last at h;rw [if_pos e] at h;cases h
 unfold zAL;rw [List.getLastD_eq_getLast?,List.getLast?_eq_some_getLast fA];exact hc _ (List.getLast_mem fA)
theorem zJN {T:PT} (h:T.Inv) (l m:List ByteArray) (hc:∀ x∈m,chk x=true):(T.rename l m).1.Inv:=by
 have fB:=zBz h.wf l;have fA:=zBz h.wf m;have fG:=zCw (T:=T) (m:=m);unfold PT.rename
 split
 · exact h
 rename_i h1
 split
 · exact h
 rename_i h2;obtain⟨n,hn,hd⟩:=fB (by simpa using h1);obtain⟨nt,ht,fC⟩:=fA (by simpa using h2);have fE:=fG (by simpa using h2) hc;rw [zAp hn,zAp ht];generalize (T.last l).1=d at *;generalize (T.last m).1=t at *;generalize zAL l=old at *;generalize zAL m=nm at *
 cases hi:zAd old n.names with
 | none=>exact h
 | some i =>
  simp only;obtain⟨x,hx⟩:=h.gr.ents _ _ _ _ hn hi;rw [zAn hx]
  split
  · exact h
  rename_i h3
  split
  · rename_i h4
    split
    · exact h
    rename_i h5
    split
    · exact h
    rename_i h6
    split
    · exact h
    rename_i h7;obtain⟨rk,fD⟩:=h.gr.rank;obtain⟨rk',fH,fI⟩:=rank_move fD h6;exact zJh h hn hd hi ht fC hx (by simpa using h7) fE (by simpa using h5) ⟨rk',fH,fun _=>fI⟩
  · rename_i h4
    have fF:x.dir=false:=by simpa using h4
    cases hj:zAd nm nt.names with
    | none =>
     simp only
     split
     · exact h
     split
     · exact h
     rename_i h7;obtain⟨rk,fD⟩:=h.gr.rank;exact zJh h hn hd hi ht fC hx (by simpa using h7) fE hj ⟨rk,fD,fun e=>by rw [zAn hx,fF] at e;cases e⟩
    | some j =>
     simp only;obtain⟨y,hy⟩:=h.gr.ents _ _ _ _ ht hj;rw [zAn hy]
     split
     · exact h
     rename_i h5
     split
     · exact h
     rename_i h6
     split
     · exact h
     obtain⟨k,hk⟩:=h.gr.slotn _ _ _ _ ht hj;rw [hk];exact inv_over h hn hd hi ht fC hx fF hk hj hy (by simpa using h5) h6
theorem zJj {n:PN} (h:n.Ok) (hd:n.dir=false) {off:Nat} {ds:List UInt8} (ho:off+ds.length≤136704):(n.wrote off ds).Ok:=by
 have hk:=h.dOk.wrB (q:=off) (bs:=ds) ho;refine⟨hk.keys,hk.dlen,hk.secs,h.slots,h.links,?_,h.made,h.nm,h.nlen,fun e=>?_,h.df,h.nris,hk.ris⟩
 · have:=h.size;unfold PN.wrote;simp only
   split<;>omega
 · have e':n.dir=true:=e;rw [hd] at e';cases e'
theorem inv_write {T:PT} (h:T.Inv) {i:Nat} {n:PN} (hg:zAd i T.nodes=some n) (hd:n.dir=false) (off:Int) (ds:List UInt8):(T.write i off ds).1.Inv:=by
 unfold PT.write
 split
 · exact h
 rename_i h1;simp only;rw [zAp hg]
 split
 · rename_i h2;have h3:=h.room;exact h.turn hg rfl rfl rfl rfl (zJj (h.gr.ok.get hg).1 hd (by omega)) (by omega)
 · exact h
theorem cut_ok {n:PN} (h:n.Ok) {size:Nat} (hs:size≤136704):(n.cut size).Ok:=by
 have hm:∀ p∈zAI size n.data,(∃ s,(p.1,s)∈n.data)∧p.2.length=128:=fun p hp=>by
  unfold zAI at hp;obtain⟨q,hq,h1⟩:=List.mem_filterMap.1 hp;have fA:=h.secs q hq;unfold zHC at h1
  split at h1
  · cases h1
  · rename_i h2;simp only [Option.map_some,Option.some.injEq] at h1;subst h1;refine⟨⟨q.2,hq⟩,?_⟩;simp only
    split
    · exact cut_len size q.1 q.2 fA (by omega) (by omega)
    · exact fA
 refine⟨fun p hp=>?_,?_,fun p hp=>(hm p hp).2,h.slots,h.links,hs,h.made,h.nm,h.nlen,fun e=>?_,h.df,h.nris,ris_cut h.dris⟩
 · obtain⟨⟨s,h1⟩,_⟩:=hm p hp;exact h.keys (p.1,s) h1
 · exact Nat.le_trans (List.length_filterMap_le _ _) h.dlen
 · show zAI size n.data=[]
   rw [h.dd e];rfl
theorem cut_count {n:PN} (h:n.Ok) (hd:n.dir=false) (size:Nat) (hs:size≤136704):(n.cut size).count≤n.count:=by
 rw [zFd h hd,zFd (cut_ok h hs) hd];refine cntK_mono (zEj (cut_ok h hs).dris) fun k hk=>?_;obtain⟨p,hp,rfl⟩:=List.mem_map.1 hk;have fA:p∈zAI size n.data:=hp;unfold zAI at fA;obtain⟨q,hq,h1⟩:=List.mem_filterMap.1 fA
 cases hc:zHC size q.1 q.2 with
 | none=>rw [hc] at h1;cases h1
 | some s =>
  rw [hc] at h1;simp only [Option.map_some,Option.some.injEq] at h1;rw [←h1];exact List.mem_map.2 ⟨q,hq,rfl⟩
def PT.trunc (T:PT) (i:Nat) (off:Int):PT×Nat:=if off<0∨136704<off then (T,101) else (T.upd i ((T.node i).cut off.toNat),0)
theorem inv_trunc {T:PT} (h:T.Inv) {i:Nat} {n:PN} (hg:zAd i T.nodes=some n) (hd:n.dir=false) (off:Int):(T.trunc i off).1.Inv:=by
 unfold PT.trunc
 split
 · exact h
 rename_i h1;rw [zAp hg];have h2:=cut_count (h.gr.ok.get hg).1 hd off.toNat (by omega);have h3:=h.room;exact h.turn hg rfl rfl rfl rfl (cut_ok (h.gr.ok.get hg).1 (by omega)) (by omega)
def slash:ByteArray:=⟨#[47]⟩
def spB (p:ByteArray):ByteArray:=p.extract 1 p.size
def spl (p:ByteArray):List ByteArray×Nat :=
 if 400<p.size∨Lib.hasPrefix p.data.toList [47]=false then ([],70) else if p=slash then ([],0) else if Lib.hasSuffix p.data.toList [47]=true∨Lib.contains p.data.toList [47,47]=true then ([],70) else
 if (Lib.splitB slash 0 (Lib.countB (spB p) slash) (spB p)).all chk=true then (Lib.splitB slash 0 (Lib.countB (spB p) slash) (spB p),0) else ([],71)
theorem zEQ (p:ByteArray):∀ x∈(spl p).1,chk x=true:=by
 unfold spl
 split
 · intro x hx;cases hx
 split
 · intro x hx;cases hx
 split
 · intro x hx;cases hx
 split
 · rename_i h;exact List.all_eq_true.1 h
 · intro x hx;cases hx
def zCe:List ByteArray→List UInt8
 | []=>[]
 | n::r=>47::(n.data.toList++zCe r)
def pth (ns:List ByteArray):ByteArray:=if ns=[] then slash else ⟨(zCe ns).toArray⟩
theorem zB9 (a b:List ByteArray):zCe (a++b)=zCe a++zCe b:=by
 induction a with
 | nil=>rfl
 | cons n r ih=>simp [zCe,ih]
theorem chk_47 {x:ByteArray} (h:chk x=true):(47:UInt8) ∉ x.data.toList:=by
 unfold chk at h;intro h1;exact ((of_decide_eq_true h).2.2.2.2 47 h1).2 rfl
theorem chk_pos {x:ByteArray} (h:chk x=true):0<x.data.toList.length:=by
 unfold chk at h;have:=(of_decide_eq_true h).1;rw [Array.length_toList];exact this
def seg (x:ByteArray):Prop:=0<x.data.toList.length∧(47:UInt8) ∉ x.data.toList
theorem chk_seg {x:ByteArray} (h:chk x=true):seg x:=⟨chk_pos h,chk_47 h⟩
theorem zFX {ns:List ByteArray} (h:∀ x∈ns,chk x=true):∀ x∈ns,seg x:=fun x hx=>chk_seg (h x hx)
theorem zEq {ns:List ByteArray} (h:ns≠[]):(pth ns).data.toList=zCe ns:=by unfold pth;rw [if_neg h]
theorem zDG {ns:List ByteArray} (h:ns≠[]):(pth ns).size=(zCe ns).length:=by unfold pth;rw [if_neg h];simp [ByteArray.size]
theorem zE6:∀ {ns:List ByteArray},(∀ x∈ns,seg x)→2 * ns.length≤(zCe ns).length
 | [],_=>Nat.le_refl _
 | n::r,h=>by
  have h1:=(h n List.mem_cons_self).1;have h2:=zE6 (ns:=r) fun x hx=>h x (List.mem_cons_of_mem _ hx);simp only [zCe,List.length_cons,List.length_append];omega
theorem zIo {ns:List ByteArray} (h:∀ x∈ns,chk x=true):2 * ns.length≤(zCe ns).length:=zE6 (zFX h)
theorem pth_ne {ns:List ByteArray} (h:ns≠[]) (hc:∀ x∈ns,seg x):pth ns≠slash:=fun e=>by
 have h1:=zE6 hc;have h2:=List.length_pos_iff.2 h;have h3:=zDG h;rw [e] at h3;have h4:slash.size=1:=rfl;omega
theorem zFq (ns:List ByteArray):pth ns≠emp:=fun e=>by
 unfold pth at e
 split at e
 · exact absurd e (by decide)
 · rename_i h
   cases ns with
   | nil=>exact h rfl
   | cons n r =>
    have e2:(zCe (n::r)).toArray=#[]:=congrArg ByteArray.data e;have e3:(zCe (n::r))=[]:=congrArg Array.toList e2;rw [zCe] at e3;cases e3
def zJ8 (p nm:ByteArray):ByteArray:=(if p=slash then emp else p)++slash++nm
theorem zDe {a b:ByteArray} (h:a.data.toList=b.data.toList):a=b:=zGk h
theorem zIx {ns:List ByteArray} (hc:∀ x∈ns,chk x=true) (nm:ByteArray):zJ8 (pth ns) nm=pth (ns++[nm]):=by
 apply zDe
 rw [zEq (by simp),zB9];unfold zJ8;by_cases h:ns=[]
 · subst h;simp [pth,zCe,emp,slash]
 · rw [if_neg (pth_ne h (zFX hc))];simp only [ByteArray.data_append,Array.toList_append,zEq h,List.append_assoc];simp [zCe,slash]
theorem zGz:∀ {a:List UInt8},(47:UInt8) ∉ a→Lib.index a [47]=-1
 | [],_=>rfl
 | b::l,h=>by
  have hb:(47:UInt8)≠b:=fun e=>h (by rw [e];exact List.mem_cons_self)
  have hp:([47]:List UInt8).isPrefixOf (b::l)=false:=by simp [List.isPrefixOf,hb]
  have ih:=zGz (a:=l) fun e=>h (List.mem_cons_of_mem _ e);unfold Lib.index;rw [hp,ih];rfl
theorem zFM (r:List UInt8):∀ {a:List UInt8},(47:UInt8) ∉ a→Lib.index (a++47::r) [47]=(a.length:Nat)
 | [],_=>by
  rw [List.nil_append];unfold Lib.index;rw [if_pos (by simp [List.isPrefixOf])];rfl
 | b::l,h=>by
  have hb:(47:UInt8)≠b:=fun e=>h (by rw [e];exact List.mem_cons_self)
  have hp:([47]:List UInt8).isPrefixOf (b::(l++47::r))=false:=by simp [List.isPrefixOf,hb]
  have ih:=zFM r (a:=l) fun e=>h (List.mem_cons_of_mem _ e);rw [List.cons_append];unfold Lib.index;rw [hp,ih]
  have h1:((l.length:Int)==-1)=false:=by rw [beq_eq_false_iff_ne];omega
  simp [h1]
theorem count47:∀ {r:List ByteArray},(∀ x∈r,seg x)→(zCe r).count 47=r.length
 | [],_=>rfl
 | n::r,h=>by
  rw [zCe,List.count_cons_self,List.count_append,count47 (fun x hx=>h x (List.mem_cons_of_mem _ hx)),List.count_eq_zero_of_not_mem ((h n List.mem_cons_self).2)];simp
theorem zFL:∀ (r:List ByteArray) (a:ByteArray),seg a→(∀ x∈r,seg x)→Lib.splitK [47] 0 r.length (a.data.toList++zCe r)=a.data.toList::r.map (·.data.toList)
 | [],a,_,_=>by simp [zCe,Lib.splitK]
 | b::r,a,ha,h=>by
  have hi:=zFM (b.data.toList++zCe r) (ha.2);have ih:=zFL r b (h b List.mem_cons_self) fun x hx=>h x (List.mem_cons_of_mem _ hx)
  have hm:¬(Lib.index (a.data.toList++47::(b.data.toList++zCe r)) [47]==-1)=true:=fun e=>by
   have:=beq_iff_eq.1 e;rw [hi] at this;omega
  rw [zCe,List.length_cons,Lib.splitK,if_neg hm,hi];simp only [Int.toNat_natCast,Nat.add_zero,List.length_cons,List.length_nil,Nat.zero_add];rw [List.take_left,show a.data.toList++47::(b.data.toList++zCe r)=(a.data.toList++[47])++(b.data.toList++zCe r) by simp,show a.data.toList.length+1=(a.data.toList++[47]).length by simp,List.drop_left,ih];rfl
def nd:List UInt8→Bool
 | []=>true
 | x::r=>!(x==47 && r.head?==some 47) && nd r
theorem zIt:∀ {s:List UInt8},nd s=true→Lib.index s [47,47]=-1
 | [],_=>rfl
 | b::l,h=>by
  rw [nd,Bool.and_eq_true] at h;have ih:=zIt h.2
  have hp:([47,47]:List UInt8).isPrefixOf (b::l)=false:=by
   have h1:=h.1
   cases l with
   | nil=>simp [List.isPrefixOf]
   | cons c l =>
    simp only [List.isPrefixOf,List.head?_cons,Bool.and_true] at h1 ⊢
    revert h1
    by_cases e1:b=47<;>by_cases e2:c=47<;>simp [e1,e2,Ne.symm]<;>exact fun e=>e1 e.symm
  unfold Lib.index;rw [hp,ih];rfl
theorem nd_app:∀ {a s:List UInt8},(47:UInt8) ∉ a→nd s=true→nd (a++s)=true
 | [],_,_,h=>h
 | b::l,s,h1,h=>by
  have hb:b≠47:=fun e=>h1 (by rw [e];exact List.mem_cons_self);rw [List.cons_append,nd,nd_app (fun e=>h1 (List.mem_cons_of_mem _ e)) h];simp [hb]
theorem nd_pth:∀ {r:List ByteArray},(∀ x∈r,seg x)→nd (zCe r)=true
 | [],_=>rfl
 | n::r,h=>by
  have h1:=h n List.mem_cons_self;have ih:=nd_pth (r:=r) fun x hx=>h x (List.mem_cons_of_mem _ hx);rw [zCe,nd,nd_app (h1.2) ih];have h2:=h1.1;have h3:=h1.2
  cases hl:n.data.toList with
  | nil=>rw [hl] at h2;simp at h2
  | cons x t =>
   rw [hl] at h3;have:x≠47:=fun e=>h3 (by rw [e];exact List.mem_cons_self);simp [this]
theorem zIB:∀ {r:List ByteArray},r≠[]→(∀ x∈r,seg x)→∃ x t,zCe r=t++[x]∧x≠47
 | [],h,_=>absurd rfl h
 | n::r,_,h=>by
  by_cases hr:r=[]
  · subst hr;have h1:=(h n List.mem_cons_self).1;have h2:=(h n List.mem_cons_self).2;have fA:n.data.toList≠[]:=List.ne_nil_of_length_pos h1;refine⟨n.data.toList.getLast fA,47::n.data.toList.dropLast,?_,fun e=>h2 (by rw [←e];exact List.getLast_mem fA)⟩;simp only [zCe,List.append_nil,List.cons_append];rw [List.dropLast_concat_getLast]
  · obtain⟨x,t,h1,h2⟩:=zIB hr fun x hx=>h x (List.mem_cons_of_mem _ hx);exact⟨x,47::(n.data.toList++t),by simp [zCe,h1],h2⟩
theorem zD8:∀ {a b:List ByteArray},a.map (·.data.toList)=b.map (·.data.toList)→a=b
 | [],[],_=>rfl
 | [],_::_,h=>by simp at h
 | _::_,[],h=>by simp at h
 | x::a,y::b,h=>by
  simp only [List.map_cons,List.cons.injEq] at h;rw [zDe h.1,zD8 h.2]
theorem zJb:spl slash=([],0):=by
 unfold spl;rw [if_neg,if_pos rfl];rintro (h | h)
 · exact absurd h (by decide)
 · exact absurd h (by decide)
theorem spl_long {p:ByteArray} (h:400<p.size):spl p=([],70):=by unfold spl;rw [if_pos (.inl h)]
theorem spl_seg {ns:List ByteArray} (hc:∀ x∈ns,seg x) (hs:(pth ns).size≤400):spl (pth ns)=if ns.all chk=true then (ns,0) else ([],71):=by
 cases ns with
 | nil=>exact zJb
 | cons a r =>
  have fA:a::r≠[]:=by simp
  have hd:=zEq fA;have ha:=hc a List.mem_cons_self;have hr:∀ x∈r,seg x:=fun x hx=>hc x (List.mem_cons_of_mem _ hx)
  have hB:(spB (pth (a::r))).data.toList=a.data.toList++zCe r:=by
   unfold spB;rw [Lib.extract_to_end,hd];rfl
  have hK:Lib.splitB slash 0 (Lib.countB (spB (pth (a::r))) slash) (spB (pth (a::r)))=a::r:=by
   apply zD8
   rw [Lib.splitB_data];unfold Lib.countB;rw [hB]
   show Lib.splitK [47] 0 (Lib.count _ [47]) _=_
   rw [Lib.count_one,List.count_append,count47 hr,List.count_eq_zero_of_not_mem (ha.2),Nat.zero_add,zFL r a ha hr];rfl
  unfold spl;rw [if_neg,if_neg (pth_ne fA hc),if_neg,hK]
  · rw [hd];rintro (h | h)
    · obtain⟨x,t,h1,h2⟩:=zIB fA hc;rw [h1] at h;unfold Lib.hasSuffix at h;rw [List.isSuffixOf_iff_suffix] at h;obtain⟨u,hu⟩:=h;have:=congrArg List.getLast? hu
      simp at this
      exact h2 this.symm
    · unfold Lib.contains at h;rw [zIt (nd_pth hc)] at h;exact absurd h (by decide)
  · rw [hd];rintro (h | h)
    · omega
    · unfold Lib.hasPrefix at h;simp [zCe,List.isPrefixOf] at h
theorem zER {ns:List ByteArray} (hc:∀ x∈ns,chk x=true) (hs:(pth ns).size≤400):spl (pth ns)=(ns,0):=by
 rw [spl_seg (zFX hc) hs,if_pos (List.all_eq_true.2 hc)]
end Go.Proofs.YtolpcfhfcdkokaaGreatDoor
