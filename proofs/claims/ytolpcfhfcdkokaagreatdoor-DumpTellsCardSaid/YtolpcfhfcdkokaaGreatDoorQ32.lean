/- Joined out of TFile..TSplit. -/
import Derived.Test.YtolpcfhfcdkokaaGreatDoorQ27
import Derived.Test.YtolpcfhfcdkokaaGreatDoorQ29
set_option maxHeartbeats 16000000
set_option maxRecDepth 100000
set_option linter.unusedSimpArgs false
set_option linter.unusedVariables false
namespace Go.Proofs.YtolpcfhfcdkokaaGreatDoor
open Lib (hid)
open Go.RowKit
theorem zH0 {k:Nat} {s:List UInt8}:∀ {d:Dat},(∀ p∈d,k<p.1)→zBg kB (k,s) true d=d
 | [],_=>rfl
 | y::r,h=>by
  have:=h y List.mem_cons_self;rw [zBg,if_neg (by simp),if_neg (by simp only [kB];omega),Bool.true_or,zH0 fun p hp=>h p (List.mem_cons_of_mem _ hp)];rfl
theorem zGS (k:Nat) (s:List UInt8):∀ {d:Dat},zBs zAG d→zBg kB (k,s) false d=zBa zAG k s d
 | [],_=>rfl
 | p::m,hr=>by
  obtain⟨h3,h4⟩:=List.pairwise_cons.1 hr
  have h3:∀ q∈m,p.1<q.1:=fun q hq=>by simpa [zAG] using h3 q hq
  have ks:kB (k,s)=(k:Int):=rfl;have kp:kB p=(p.1:Int):=rfl;rw [zBg,ks,kp];rcases Nat.lt_trichotomy p.1 k with hlt | heq | hgt
  · have e:zBa zAG k s (p::m)=p::zBa zAG k s m:=by
     unfold zBa
     have e1:zBE k (p::m)=p::zBE k m:=by unfold zBE;rw [List.filter_cons,if_pos (by simp;omega)]
     rw [e1,zCn,if_neg (by simp [zAG];omega)]
    rw [if_neg (fun h=>by have:=h.2;omega),if_neg (by omega),show decide ((k:Int)≤(p.1:Int))=false by simp;omega,Bool.or_false,zGS k s h4,e];rfl
  · have e1:zBE k (p::m)=m:=by
     have:=delS_none (k:=k) (m:=m) fun q hq=>by have:=h3 q hq;omega
     unfold zBE at this ⊢;rw [List.filter_cons,if_neg (by simp;omega)];exact this
    have e:zBa zAG k s (p::m)=(k,s)::m:=by
     unfold zBa;rw [e1]
     cases m with
     | nil=>rfl
     | cons q r=>rw [zCn,if_pos (by have:=h3 q List.mem_cons_self;simp [zAG];omega)]
    rw [if_pos ⟨rfl,by omega⟩,if_pos (by omega),show decide ((k:Int)≤(p.1:Int))=true by simp;omega,Bool.or_true,zH0 fun q hq=>by have:=h3 q hq;omega,e];rfl
  · have e:zBa zAG k s (p::m)=(k,s)::p::m:=by
     unfold zBa
     rw [delS_none fun q hq=>by
      rcases List.mem_cons.1 hq with rfl | hq
      · omega
      · have:=h3 q hq;omega,zCn,if_pos (by simp [zAG];omega)]
    rw [if_pos ⟨rfl,by omega⟩,if_neg (by omega),show decide ((k:Int)≤(p.1:Int))=true by simp;omega,Bool.or_true,zH0 fun q hq=>by have:=h3 q hq;omega,e];rfl
where
 delS_none {k:Nat} {m:Dat} (h:∀ p∈m,p.1≠k):zBE k m=m:=by
  unfold zBE;rw [List.filter_eq_self];intro p hp;have:=h p hp;simpa using this
theorem zip_ab {α β:Type}:∀ l:List (α×β),(l.map (·.1)).zip (l.map (·.2))=l
 | []=>rfl
 | p::r=>by simp only [List.map_cons,List.zip_cons_cons,zip_ab r]
section
variable {d:Dat} {z e:Nat}
theorem zCb.more (h:zCb d z) (he:z≤e):zCb d e:=fun p hp=>⟨by have:=(h p hp).1;omega,fun j hj hz=>(h p hp).2 j hj (by omega)⟩
theorem zCb.cut_same (h:zCb d z) (hs:∀ p∈d,p.2.length=128) (he:z≤e):zAI e d=d:=by
 induction d with
 | nil=>rfl
 | cons p r ih =>
  have h1:=h p List.mem_cons_self;have h2:=hs p List.mem_cons_self
  have hc:zHC e p.1 p.2=some p.2:=by
   unfold zHC;rw [if_neg (by omega)]
   congr 1
   split
   · unfold zB1
     apply List.ext_getElem
     · simp;omega
     · intro j a b;rw [List.getElem_append]
       split
       · rw [List.getElem_take]
       · rename_i hj;rw [List.getElem_replicate,h1.2 j b (by simp at hj;omega)]
   · rfl
  have ih:=ih (fun p hp=>h p (List.mem_cons_of_mem _ hp)) fun p hp=>hs p (List.mem_cons_of_mem _ hp);unfold zAI at ih ⊢;rw [List.filterMap_cons,hc,ih];rfl
theorem cut_tail (hs:∀ p∈d,p.2.length=128):zCb (zAI e d) e:=by
 intro p hp;unfold zAI at hp;obtain⟨q,hq,fA⟩:=List.mem_filterMap.1 hp;have hl:=hs q hq;unfold zHC at fA
 split at fA
 · cases fA
 · simp only [Option.map_some,Option.some.injEq] at fA;subst fA;refine⟨by simp only;omega,fun j hj hz=>?_⟩;simp only at hz;by_cases h2:e<q.1 * 128+128
   · simp only [if_pos h2] at hj ⊢;unfold zB1 at hj ⊢;rw [List.getElem_append_right (by rw [List.length_take];omega),List.getElem_replicate]
   · simp only [if_neg h2] at hj;omega
theorem cutD_len (hs:∀ p∈d,p.2.length=128):∀ p∈zAI e d,p.2.length=128:=by
 intro p hp;unfold zAI at hp;obtain⟨q,hq,fA⟩:=List.mem_filterMap.1 hp;have hl:=hs q hq;unfold zHC at fA
 split at fA
 · cases fA
 · simp only [Option.map_some,Option.some.injEq] at fA;subst fA;simp only
   split
   · unfold zB1;simp;omega
   · exact hl
theorem zCb.blk (h:zCb d z) (k j:Nat) (hj:j<(zA5 d k).length) (hz:z≤k * 128+j):(zA5 d k)[j]=0:=by
 have e:zA5 d k=(zAd k d).getD zBN:=rfl
 cases hg:zAd k d with
 | none =>
  have e2:zA5 d k=zBN:=by rw [e,hg];rfl
  simp only [e2,zBN,List.getElem_replicate]
 | some s =>
  have e2:zA5 d k=s:=by rw [e,hg];rfl
  simp only [e2] at hj ⊢;exact (h (k,s) (zAi hg)).2 j hj hz
theorem zCb.wr1 (h:zCb d z) {q:Nat} {b:UInt8} (hq:q<e) (he:z≤e):zCb (Go.Proofs.YtolpcfhfcdkokaaGreatDoor.wr1 d q b) e:=by
 intro p hp;unfold Go.Proofs.YtolpcfhfcdkokaaGreatDoor.wr1 at hp;rcases (zBm zAG).1 hp with rfl | hp
 · refine⟨by show q / 128 * 128<e;omega,fun j hj hz=>?_⟩;simp only [List.length_set] at hj hz
   show ((zA5 d (q / 128)).set (q % 128) b)[j]=0
   rw [List.getElem_set_ne (by omega)];exact h.blk _ _ hj (by omega)
 · exact h.more he p hp.1
theorem zCb.wrB (h:zCb d z) (he:z≤e):∀ {q:Nat} {bs:List UInt8},q+bs.length≤e→zCb (Go.Proofs.YtolpcfhfcdkokaaGreatDoor.wrB d q bs) e:=by
 intro q bs
 induction bs generalizing d q z with
 | nil=>intro _;exact h.more he
 | cons b bs ih =>
  intro hq;simp only [List.length_cons] at hq;exact ih (h.wr1 (b:=b) (by omega) he) (Nat.le_refl _) (by omega)
end
section
variable {x:Hd} {i:Nat} {n:PN}
theorem RepN.fidx (h:RepN x i n) (ho:n.Ok) (hd:n.dir=false):x.idx=n.data.map (·.1):=by rw [h.idx];unfold PN.keys;rw [(ho.df hd).1];simp
theorem RepN.fdat (h:RepN x i n) (ho:n.Ok) (hd:n.dir=false):x.dat=n.data.map (·.2):=by rw [h.dat];unfold zFI zAw;rw [(ho.df hd).1];simp
theorem zIL {d:Dat} (hr:zBs zAG d) {j:Nat} (h:j<d.length):zAd d[j].1 d=some d[j].2:=zA0 hr.nd (List.getElem_mem h)
theorem zJ3 {w w':World} {e:Ending} {d:Dat} (h1:x.idx=d.map (·.1)) (h2:x.dat=d.map (·.2)) (hr:zBs zAG d) {k:Nat} (h:RBlk x k w e w'):(∃ b:Bool,e=.returned (.tuple #[zB8 (zA5 d k),.bool b]))∧Below w.heap.size w w':=by
 refine⟨?_,h.2⟩;rcases h.1 with ⟨j,hj,hj',hk,-,rfl⟩ | ⟨fA,rfl⟩
 · have hl:j<d.length:=by rw [h1,List.length_map] at hj;exact hj
   have e1:zAd k d=some d[j].2:=by rw [←hk];simp only [h1,List.getElem_map];exact zIL hr hl
   have e2:x.dat[j]=zA5 d k:=by unfold zA5;rw [e1];simp only [h2,List.getElem_map,Option.getD_some]
   exact⟨_,by rw [e2]⟩
 · have e1:zAd k d=none:=zA9.2 fun p hp e=>fA p.1 (by rw [h1];exact List.mem_map.2 ⟨p,hp,rfl⟩) e;exact⟨_,by unfold zA5;rw [e1];rfl⟩
def wl (off k:Nat) (ds s:List UInt8) (m:Nat):List UInt8:=(List.range m).foldl (fun s j=>if h:off≤k * 128+j∧k * 128+j-off<ds.length then s.set j ds[k * 128+j-off] else s) s
theorem zHT (off k:Nat) (ds s:List UInt8) (m:Nat):wl off k ds s (m+1)=if h:off≤k * 128+m∧k * 128+m-off<ds.length then (wl off k ds s m).set m ds[k * 128+m-off] else wl off k ds s m:=by
 unfold wl;rw [List.range_succ,List.foldl_append];rfl
theorem zEZ (off k:Nat) (ds s:List UInt8):∀ m,(wl off k ds s m).length=s.length
 | 0=>rfl
 | m+1=>by rw [zHT];split<;>simp [zEZ off k ds s m]
theorem wl_get (off k:Nat) (ds s:List UInt8):∀ (m j:Nat) (h:j<(wl off k ds s m).length),(wl off k ds s m)[j]=if h':j<m∧off≤k * 128+j∧k * 128+j-off<ds.length then ds[k * 128+j-off]'(h'.2.2) else s[j]'(by rw [zEZ] at h;exact h)
 | 0,j,h=>by rw [dif_neg (by omega)];rfl
 | m+1,j,h=>by
  have ih:=wl_get off k ds s m j (by rw [zEZ] at h ⊢;exact h);have hs:=zHT off k ds s m;simp only [hs];by_cases hc:off≤k * 128+m∧k * 128+m-off<ds.length
  · simp only [dif_pos hc,List.getElem_set];by_cases e:m=j
    · subst e;rw [if_pos rfl,dif_pos ⟨by omega,hc⟩]
    · rw [if_neg e,ih];by_cases h2:j<m∧off≤k * 128+j∧k * 128+j-off<ds.length
      · rw [dif_pos h2,dif_pos ⟨by omega,h2.2⟩]
      · rw [dif_neg h2,dif_neg (by omega)]
  · simp only [dif_neg hc,ih];by_cases h2:j<m∧off≤k * 128+j∧k * 128+j-off<ds.length
    · rw [dif_pos h2,dif_pos ⟨by omega,h2.2⟩]
    · rw [dif_neg h2,dif_neg (fun h3=>by
       by_cases e:j=m
       · subst e;exact hc h3.2
       · exact h2 ⟨by omega,h3.2⟩)]
theorem wr_step {d:Dat} (hd:DOk d) (off k:Nat) (ds:List UInt8) (h0:0<ds.length) (hl:off+ds.length≤136704) (hk:off / 128≤k) (fD:k * 128<off+ds.length) :
 zBa zAG k (wl off k ds (zA5 d k) 128) (wrB d off (ds.take (k * 128-off)))=wrB d off (ds.take ((k+1) * 128-off)):=by
 obtain⟨a,ha⟩:∃ a,k * 128-off=a:=⟨_,rfl⟩;obtain⟨mm,fC⟩:∃ mm,min ((k+1) * 128-off) ds.length-a=mm:=⟨_,rfl⟩
 have e1:ds.take ((k+1) * 128-off)=ds.take (a+mm):=by
  by_cases h:(k+1) * 128-off≤ds.length
  · rw [show a+mm=(k+1) * 128-off by omega]
  · rw [List.take_of_length_le (by omega),List.take_of_length_le (by omega)]
 have hq:(off+a) / 128=k:=by omega
 have fE:a+mm≤ds.length:=by omega
 have fF:a+mm=ds.length∨(k+1) * 128=off+a+mm:=by omega
 obtain⟨fr,fB⟩:∃ fr,(off+a) % 128=fr:=⟨_,rfl⟩
 have fG:k * 128+fr=off+a:=by omega
 have fH:fr<128:=by omega
 have fI:fr+mm≤128:=by omega
 have fJ:a=0∨fr=0:=by omega
 have fA:(ds.take a).length=a:=by rw [List.length_take];omega
 have hD:DOk (wrB d off (ds.take a)):=hd.wrB (by rw [fA];omega);rw [e1,zI8 d off ds a mm (by omega) (by omega) (hD.blk _) (by omega),hq,ha,fB]
 congr 1
 have hb:zA5 (wrB d off (ds.take a)) k=zA5 d k:=by
  apply List.ext_getElem
  · rw [hD.blk,hd.blk]
  · intro j h1 h2;have hx:=zJ1 hd (k * 128+j) off (ds.take a) (by rw [fA];omega);rw [hD.blk] at h1;rw [dif_neg (by rw [fA];omega)] at hx;unfold zCP at hx;rw [show (k * 128+j) / 128=k by omega,show (k * 128+j) % 128=j by omega,List.getD_eq_getElem?_getD,List.getElem?_eq_getElem (by rw [hD.blk];omega),List.getD_eq_getElem?_getD,List.getElem?_eq_getElem h2] at hx;exact hx
 rw [hb];have fK:=hd.blk k;generalize zA5 d k=s at *;clear fB fC hq ha e1
 apply List.ext_getElem
 · rw [zEZ,length_splice _ _ _ (by simp;omega)]
 · intro j h1 h2;rw [wl_get];rw [zEZ] at h1;unfold splice;simp only [List.getElem_append,List.length_take,List.getElem_take,List.getElem_drop,List.length_drop];by_cases c1:j<fr
   · rw [dif_neg (show ¬(j<128∧off≤k * 128+j∧k * 128+j-off<ds.length) by omega),dif_pos (show j<min fr s.length by omega)]
   · have c3:¬j<min fr s.length:=by omega
     by_cases c2:j-fr<mm
     · rw [dif_pos (show (j<128∧off≤k * 128+j∧k * 128+j-off<ds.length) by omega),dif_neg c3,dif_pos (show j-min fr s.length<min mm (ds.length-a) by omega)]
       congr 1
       omega
     · rw [dif_neg (show ¬(j<128∧off≤k * 128+j∧k * 128+j-off<ds.length) by omega),dif_neg c3,dif_neg (show ¬j-min fr s.length<min mm (ds.length-a) by omega)]
       congr 1
       omega
theorem wrote_rep (h:RepN x i n) (ho:n.Ok) (hd:n.dir=false) {off:Nat} {ds:List UInt8} (h0:0<ds.length) (hl:off+ds.length≤136704) (iA:Option Addr) (ic:Nat) (dA:Option Addr) (dc:Nat) :
 RepN {x with iA:=iA,ic:=ic,dA:=dA,dc:=dc,idx:=(wrB n.data off ds).map (·.1),dat:=(wrB n.data off ds).map (·.2),size:=if x.size<(off:Int)+ds.length then (off:Int)+ds.length else x.size} i (n.wrote off ds):=by
 obtain⟨e1,e2⟩:=ho.df hd;refine⟨h.ino,h.kind,h.links,?_,h.made,?_,?_,⟨h.sl.has,h.sl.one,fun e=>absurd (hd.symm.trans e) (by simp),h.sl.ok,h.sl.at_⟩,?_⟩
 · show (if x.size<(off:Int)+ds.length then (off:Int)+ds.length else x.size)=_
   have e0:¬ds.length=0:=by omega
   simp only [PN.wrote,if_neg e0];rw [h.size];rcases Nat.le_total n.size (off+ds.length) with h3 | h3
   · rw [Nat.max_eq_right h3];split<;>omega
   · rw [Nat.max_eq_left h3];split<;>omega
 · unfold PN.keys PN.wrote;simp [e1]
 · unfold zFI zAw PN.wrote;simp [e1]
 · have e0:¬ds.length=0:=by omega
   simp only [PN.wrote,if_neg e0];exact h.tl.wrB (Nat.le_max_left _ _) (Nat.le_max_right _ _)
theorem cut_rep (h:RepN x i n) (ho:n.Ok) (hd:n.dir=false) (e:Nat) (iA:Option Addr) (ic:Nat) (dA:Option Addr) (dc:Nat) :
 RepN {x with iA:=iA,ic:=ic,dA:=dA,dc:=dc,idx:=(zAI e n.data).map (·.1),dat:=(zAI e n.data).map (·.2),size:=(e:Int)} i (n.cut e):=by
 obtain⟨e1,e2⟩:=ho.df hd;refine⟨h.ino,h.kind,h.links,rfl,h.made,?_,?_,⟨h.sl.has,h.sl.one,fun e=>absurd (hd.symm.trans e) (by simp),h.sl.ok,h.sl.at_⟩,cut_tail ho.secs⟩
 · unfold PN.keys PN.cut;simp [e1]
 · unfold zFI zAw PN.cut;simp [e1]
theorem grow_rep (h:RepN x i n) (ho:n.Ok) (hd:n.dir=false) {e:Nat} (he:n.size≤e):RepN {x with size:=(e:Int)} i (n.cut e):=by
 have h2:=cut_rep h ho hd e x.iA x.ic x.dA x.dc;rw [h.tl.cut_same ho.secs he,←h.fidx ho hd,←h.fdat ho hd] at h2;exact h2
def zl (e fr:Nat) (s:List UInt8) (m:Nat):List UInt8:=(List.range m).foldl (fun s j=>if e≤fr+j then s.set j 0 else s) s
theorem zHB (e fr:Nat) (s:List UInt8) (m:Nat):zl e fr s (m+1)=if e≤fr+m then (zl e fr s m).set m 0 else zl e fr s m:=by
 unfold zl;rw [List.range_succ,List.foldl_append];rfl
theorem zDH (e fr:Nat) (s:List UInt8):∀ m,(zl e fr s m).length=s.length
 | 0=>rfl
 | m+1=>by rw [zHB];split<;>simp [zDH e fr s m]
theorem zl_get (e fr:Nat) (s:List UInt8):∀ (m j:Nat) (h:j<(zl e fr s m).length),(zl e fr s m)[j]=if j<m∧e≤fr+j then 0 else s[j]'(by rw [zDH] at h;exact h)
 | 0,j,h=>by rw [if_neg (by omega)];rfl
 | m+1,j,h=>by
  have ih:=zl_get e fr s m j (by rw [zDH] at h ⊢;exact h);have hs:=zHB e fr s m;simp only [hs];by_cases hc:e≤fr+m
  · simp only [if_pos hc,List.getElem_set];by_cases e:m=j
    · subst e;rw [if_pos rfl,if_pos ⟨by omega,hc⟩]
    · rw [if_neg e,ih];by_cases h2:j<m
      · congr 1;simp only [eq_iff_iff];omega
      · congr 1;simp only [eq_iff_iff];omega
  · simp only [if_neg hc,ih]
    congr 1;simp only [eq_iff_iff];constructor<;>intro h<;>refine⟨?_,h.2⟩<;>omega
theorem cut_step {d:Dat} (hs:∀ p∈d,p.2.length=128) (e:Nat) {j:Nat} (h:j<d.length) :
 zAI e (d.take (j+1))=zAI e (d.take j)++if d[j].1 * 128<e then [(d[j].1,zl e (d[j].1 * 128) d[j].2 128)] else []:=by
 have hl:=hs _ (List.getElem_mem h);unfold zAI;rw [List.take_succ_eq_append_getElem h,List.filterMap_append]
 congr 1
 generalize d[j]=p at *;simp only [List.filterMap_cons,List.filterMap_nil];unfold zHC;by_cases h1:p.1 * 128<e
 · rw [if_neg (by omega),if_pos h1];simp only [Option.map_some]
   congr 2
   by_cases h4:e<p.1 * 128+128
   · rw [if_pos h4];unfold zB1
     apply List.ext_getElem
     · rw [zDH];simp;omega
     · intro q h2 h3;rw [zl_get];rw [zDH] at h3;rw [List.getElem_append];simp only [List.length_take,List.getElem_take,List.getElem_replicate];by_cases h5:e≤p.1 * 128+q
       · rw [dif_neg (by omega),if_pos (by omega)]
       · rw [dif_pos (by omega),if_neg (by omega)]
   · rw [if_neg h4]
     apply List.ext_getElem
     · rw [zDH]
     · intro q h2 h3;rw [zl_get];rw [zDH] at h3;rw [if_neg (by omega)]
 · rw [if_pos (by omega),if_neg h1];rfl
end
def got (d:Dat) (i j q:Nat):Bool:=(d.take i).any (fun p=>p.1==q / 128) || (match d[i]? with | some p=>p.1==q / 128 && decide (q % 128<j) | none=>false)
def bw (d:Dat) (z i j:Nat):List UInt8:=(List.range z).map fun q=>if got d i j q=true then zCP d q else 0
theorem zEY (d:Dat) (z i j:Nat):(bw d z i j).length=z:=by simp [bw]
theorem bw_0 (d:Dat) (z:Nat):bw d z 0 0=List.replicate z 0:=by
 unfold bw
 apply List.ext_getElem
 · simp
 · intro q h1 h2;simp only [List.getElem_map,List.getElem_range,List.getElem_replicate];rw [if_neg];unfold got;cases d[0]?<;>simp
theorem bw_step {d:Dat} (hr:zBs zAG d) {z i j:Nat} (hi:i<d.length) (hj:j<128) {b:UInt8} (hb:d[i].2[j]? = some b):bw d z i (j+1)=(bw d z i j).set (d[i].1 * 128+j) b:=by
 have hg:=zIL hr hi
 apply List.ext_getElem
 · rw [List.length_set,zEY,zEY]
 · intro q h1 h2;rw [zEY] at h1;rw [List.getElem_set]
   have e1:got d i (j+1) q=(got d i j q || decide (q=d[i].1 * 128+j)):=by
    unfold got;rw [List.getElem?_eq_getElem hi,Bool.or_assoc]
    congr 1
    simp only;rw [Bool.eq_iff_iff];simp only [Bool.or_eq_true,Bool.and_eq_true,beq_iff_eq,decide_eq_true_iff];omega
   simp only [bw,List.getElem_map,List.getElem_range,e1];by_cases e:d[i].1 * 128+j=q
   · subst e;rw [if_pos rfl,if_pos (by simp)];unfold zCP zA5;rw [show (d[i].1 * 128+j) / 128=d[i].1 by omega,show (d[i].1 * 128+j) % 128=j by omega,hg];simp only [Option.getD_some];rw [List.getD_eq_getElem?_getD,hb];rfl
   · rw [if_neg e]
     have:decide (q=d[i].1 * 128+j)=false:=by simp;omega
     rw [this,Bool.or_false]
theorem bw_next {d:Dat} {z i j:Nat} (hi:i<d.length) (h:j=128∨z≤d[i].1 * 128+j):bw d z i j=bw d z (i+1) 0:=by
 apply List.ext_getElem
 · rw [zEY,zEY]
 · intro q h1 h2;rw [zEY] at h1;simp only [bw,List.getElem_map,List.getElem_range]
   have e1:got d i j q=got d (i+1) 0 q:=by
    unfold got;rw [List.getElem?_eq_getElem hi,List.take_succ_eq_append_getElem hi,List.any_append];simp only [List.any_cons,List.any_nil,Bool.or_false]
    have e3:(match d[i+1]? with | some p=>p.1==q / 128 && decide (q % 128<0) | none=>false)=false:=by cases d[i+1]?<;>simp
    rw [e3,Bool.or_false]
    congr 1
    rw [Bool.eq_iff_iff];simp only [Bool.and_eq_true,beq_iff_eq,decide_eq_true_iff];omega
   rw [e1]
theorem bw_all (d:Dat) (z:Nat):bw d z d.length 0=rdL d 0 z:=by
 unfold bw rdL;refine List.map_congr_left fun q _=>?_;rw [Nat.zero_add]
 split
 · rfl
 · rename_i h;unfold got at h;rw [List.take_length] at h;unfold zCP zA5
   have:zAd (q / 128) d=none:=zA9.2 fun p hp e=>h (by
    rw [Bool.or_eq_true];exact .inl (List.any_eq_true.2 ⟨p,hp,by simpa using e⟩))
   rw [this];simp only [Option.getD_none,zBN];rw [List.getD_eq_getElem?_getD,List.getElem?_replicate]
   split<;>rfl
theorem zIP {w:World} {base:Nat} {v:Value} {out:List ByteArray} (h:w.ownsRow base 9 1 v out.length (strs out)) (hn:out≠[]) :
 ∃ gb cap,v=.slice (some ⟨gb,0,none⟩) out.length cap∧base≤gb∧w.cell? ⟨gb,out.length-1,none⟩=some (.string (out.getLastD emp))∧w.frozen? ⟨gb,out.length-1,none⟩=false ∧
  ∀ s,(w.setCell ⟨gb,out.length-1,none⟩ (.string s)).ownsRow base 9 1 v out.length (strs (out.dropLast++[s])):=by
 have hp:=List.length_pos_iff.2 hn;rcases h.2 with ⟨_,h0⟩ | ⟨g,cap,cur,hv,hb,hg,hnc,hcm,hcs,ht⟩
 · omega
 have hB:Blk w g 9 cur.toList:=hg
 have hl:(strs out)[out.length-1]? = some (.string (out.getLastD emp)):=by
  unfold strs;rw [List.getElem?_map,List.getLastD_eq_getLast?,List.getLast?_eq_getElem?];rw [List.getElem?_eq_getElem (by omega)];rfl
 have fA:cur.toList.take out.length=strs out:=by rw [←ht,Nat.mul_one]
 have fB:cur.toList[out.length-1]? = some (.string (out.getLastD emp)):=by
  rw [←hl,←fA,List.getElem?_take_of_lt (by omega)]
 refine⟨g,cap,hv,hb,(hB.cell _).trans fB,hB.frozen _,fun s=>?_⟩;have fC:=hB.set_ (out.length-1) (.string s)
 have e1:strs (out.dropLast++[s])=(strs out).set (out.length-1) (.string s):=by
  unfold strs
  apply List.ext_getElem?
  intro k;rw [List.getElem?_set,List.map_append];by_cases e:out.length-1=k
  · subst e;rw [if_pos rfl,if_pos (by simp;omega),List.getElem?_append_right (by simp)];simp
  · rw [if_neg e];by_cases h2:k<out.length-1
    · rw [List.getElem?_append_left (by simpa using h2),List.getElem?_map,List.getElem?_map,List.getElem?_dropLast,if_pos h2]
    · rw [List.getElem?_eq_none (by simp;omega),List.getElem?_eq_none (by simp;omega)]
 refine⟨by rw [e1,List.length_set];exact h.1,.inr ⟨g,cap,(cur.toList.set (out.length-1) (.string s)).toArray,hv,hb,fC,hnc,hcm,by simpa using hcs,?_⟩⟩;rw [List.toList_toArray,Nat.mul_one,List.take_set,fA,e1]
def RSpl (p:ByteArray) (w:World) (e:Ending) (w':World):Prop :=
 (∃ A c,e=.returned (.tuple #[.slice A (spl p).1.length c,.int .i64 ((spl p).2:Int)])∧NmAt w' w'.heap.size A c (spl p).1)∧Below w.heap.size w w'
theorem zIS {p:ByteArray} {w w':World} {c:Nat} {v:Value} (h:spl p=([],c)) (hv:v=.tuple #[.slice none 0 0,.int .i64 (c:Int)]) (hb:Below w.heap.size w w'):RSpl p w (.returned v) w':=by
 unfold RSpl;rw [h,hv];exact⟨⟨none,0,rfl,Sees.nil,by simp,by simp,fun x h=>by cases h⟩,hb⟩
theorem zIq {out:List ByteArray} (h:out≠[]) (b:UInt8):(zGC out b).length=out.length:=by
 have:=List.length_pos_iff.2 h;unfold zGC
 simp
 omega
theorem zIw {out:List ByteArray} (b:UInt8):zGC out b=out.dropLast++[⟨((out.getLastD emp).data.toList++[b]).toArray⟩]:=rfl
theorem ext_one {p:ByteArray} {k:Nat} (h:k<p.size) (x:ByteArray):x++p.extract k (k+1)=⟨(x.data.toList++[p[k]]).toArray⟩:=by
 apply zDe
 have h1:(p.extract k (k+1)).data.toList=[p[k]]:=by
  rw [ByteArray.data_extract,Array.toList_extract]
  have hl:k<p.data.toList.length:=by rw [Array.length_toList];exact h
  rw [List.extract_eq_take_drop,List.drop_eq_getElem_cons hl]
  simp
  rfl
 rw [ByteArray.data_append,Array.toList_append,h1]
theorem zIk:∀ {ns:List ByteArray} {x:ByteArray},x∈ns→x.size≤(zCe ns).length
 | n::r,x,h=>by
  rw [zCe,List.length_cons,List.length_append,Array.length_toList];rcases List.mem_cons.1 h with rfl | h
  · show x.size≤x.size+_+1;omega
  · have:=zIk h;omega
theorem zHN.small {p:ByteArray} {i:Nat} {out:List ByteArray} (h:zHN p.data.toList i out) {x:ByteArray} (hx:x∈out):x.size≤p.size:=by
 have h1:=zIk hx
 have h2:(p.data.toList.take i).length≤p.size:=by rw [List.length_take,Array.length_toList];exact Nat.min_le_right _ _
 rcases h.1 with ⟨_,h3⟩ | ⟨_,h3,_⟩
 · rw [←h3,List.length_append] at h2;omega
 · rw [←h3] at h2;omega
theorem last_mem {out:List ByteArray} (h:out≠[]):out.getLastD emp∈out:=by
 rw [List.getLastD_eq_getLast?,List.getLast?_eq_some_getLast h];exact List.getLast_mem h
theorem zFz (p:ByteArray) (w:World):Calls Tryz.prog 49 #[.string p] w (RSpl p w):=by
 obtain⟨Q,hQ⟩:∃ Q,RSpl p w=Q:=⟨_,rfl⟩;rw [hQ];have gG:=hid hQ;clear hQ;obtain⟨i0,hi,jJ,jK,jL⟩:=info_parts zGl;go_enter Tryz.func49,Tryz.ntmps49
 go_wp2_with (first
  | (go_at_call 74;refine (zHJ p w).mono ?_;rintro e w' ⟨⟨b,rfl,gT,gU⟩,rfl⟩))
 · rw [←gG.out];exact zIS (gU (by simpa using ‹(!b)=true›)) rfl (Below.refl _ _)
 · obtain⟨h1,h2,h0,gV⟩:=gT (by simpa using ‹(!b)=false›)
   obtain rfl:b=true:=by simpa using ‹(!b)=false›
   simp only [Bool.not_true];have fT:=hid gV;have gW:=hid h0;clear gT gU gV h0;go_wp2_with fail
   go_loopw [4,5] (fun v i wr=>∃ (m:Nat) (out:List ByteArray),m+1≤p.size∧i=.int .i64 ((m+1:Nat):Int)∧out.length≤m∧Hid (zHN p.data.toList (m+1) out)∧Hid (wr.ownsRow w.heap.size 9 1 v out.length (strs out))∧Hid (Below w.heap.size w wr)) (fun _ i _=>p.size-(intOf i).toNat)
   case atStart=>exact⟨0,[],h1,rfl,Nat.le_refl _,hid (cutt_1 gW.out),hid (World.ownsRow_nil _ _ _ _),hid (Below.refl _ _)⟩
   case round =>
    obtain⟨m,out,hm,rfl,gX,hcut,ho,hb⟩:=hrel
    have v1:IntKind.i64.wrap (((m+1:Nat):Int)-1)=(m:Int):=by rw [zAF _ (by omega)];omega
    have v2:IntKind.i64.wrap ((m:Int)+1-1)=(m:Int):=by rw [zAF _ (by omega)];omega
    have v3:IntKind.i64.wrap (m:Int)=(m:Int):=zAF _ (by omega);by_cases gH:m+1<p.size
    · have gY:m<p.size:=by omega
      have ga:=zD5 gY;have gb0:=zD5 gH;obtain⟨a,ha⟩:∃ a,p[m]=a:=⟨_,rfl⟩;obtain⟨b,gI⟩:∃ b,p[m+1]=b:=⟨_,rfl⟩;rw [ha] at ga;rw [gI] at gb0;have gaH:=hid ga;have gbH:=hid gb0;clear ga gb0;by_cases ea:a.toNat=47
      · have ta:((a.toNat:Int)==47)=true:=by rw [ea];rfl
        have ga2:p.data.toList[m]? = some 47:=by rw [gaH.out,UInt8.toNat_inj.1 (show a.toNat=(47:UInt8).toNat from ea)]
        have eb:b≠47:=fun e=>(fT.out m (by rw [gbH.out,e])).1 ga2
        have tb:((b.toNat:Int) != 47)=true:=by
         have:b.toNat≠47:=fun e=>eb (UInt8.toNat_inj.1 e);simp;omega
        have fB:=hid (hcut.out.first (i:=m+1) gbH.out eb (by rw [Nat.add_sub_cancel];exact ga2));have gJ:=ho.out;have jW:=hb.out.size;obtain⟨on,gF⟩:∃ on,out.length=on:=⟨_,rfl⟩;obtain⟨ox,gK⟩:∃ ox,strs out=ox:=⟨_,rfl⟩;rw [gF] at gX;rw [gF,gK] at gJ;have fU:=hid gF;have gL:=hid gK;clear gF gK ga2
        go_upto_region 10 with (first
         | (at_builtin;refine zAk _ rfl (.tmp 21) (.tmp 22) _ _ rfl w.heap.size 9 i0 (.string ⟨#[]⟩) 1 16 Tryz.underlying108 hi jJ jK jL rfl u4 on ox rfl (gJ.alloc _) 1 [.string ⟨#[]⟩] (zBH wr Tryz.underlying108 (.string ⟨#[]⟩) 9 rfl) (by unfold maxLen;omega) (by omega) (by simp;omega) ?_;intro v9 w9 gZ jA gM;have jB:Chg (fun b=>w.heap.size≤b) wr w9:=((Chg.refl (fun b=>w.heap.size≤b) wr).alloc _).grown jA (fun g' e _=>(World.ownsRow.lt gJ g' e).1);have jC:=hid (hb.out.trans (jB.below hb.out.size fun b hb h=>by omega));have gN:=hid gZ;clear jA gM jB gZ))
        have fV:w9.ownsRow w.heap.size 9 1 v9 (out++[emp]).length (strs (out++[emp])):=by
         have h9:=gN.out;rw [←fU.out,←gL.out] at h9;simpa [strs,emp] using h9
        have fG:(out++[emp])≠[]:=by simp
        have fJ:((out++[emp]).getLastD emp).size≤p.size:=by rw [List.getLastD_concat];exact Nat.zero_le _
        have jM:(out++[emp]).length≤m+1:=by simp only [List.length_append,List.length_cons,List.length_nil,fU.out];omega
        obtain⟨gb,cap,rfl,jN,fK,fW,fA⟩:=zIP fV fG;obtain⟨q,hq⟩:∃ q,(out++[emp]).length=q+1:=⟨(out++[emp]).length-1,by have:=List.length_pos_iff.2 fG;omega⟩;rw [hq];rw [hq] at fK fW fA;simp only [Nat.add_sub_cancel] at fK fW fA;have fC:=hid fA
        have jO:q≤m:=by omega
        have gO:=hid hq;obtain⟨la,fL⟩:∃ la,(out++[emp]).getLastD emp=la:=⟨_,rfl⟩;rw [fL] at fK fJ;have fM:=hid fL;have fN:=hid fG
        have x1:IntKind.i64.wrap (((q+1:Nat):Int)-1)=(q:Int):=by rw [zAF _ (by omega)];omega
        have x2:IntKind.i64.wrap ((q:Int)+1-1)=(q:Int):=by rw [zAF _ (by omega)];omega
        have x3:IntKind.i64.wrap (q:Int)=(q:Int):=zAF _ (by omega)
        have x4:IntKind.i64.wrap (((m+1:Nat):Int)+1)=((m+2:Nat):Int):=by rw [zAF _ (by omega)];omega
        have x5:IntKind.i64.wrap ((m:Int)+1+1)=((m+2:Nat):Int):=by rw [zAF _ (by omega)];omega
        have jP:m+2≤p.size:=by omega
        have fO:∀ W:World,(Op.stringOp .add la (p.extract (m+1) (m+2))).run Tryz.prog W=.ok (.string ⟨(la.data.toList++[p[m+1]]).toArray⟩) W:=fun W=>by
         have fP:la.size+(p.extract (m+1) (m+2)).size≤9223372036854775807:=by
          have h9:(p.extract (m+1) (m+2)).size≤p.size:=by rw [ByteArray.size_extract];omega
          omega
         exact (run_string_add_sum _ _ _ fP).trans (by rw [show m+2=(m+1)+1 from rfl,ext_one gH])
        rw [gI] at fO;clear hq fL fA fV fG
        go_region
        go_upto_region 6 with (fail);obtain⟨s',fX⟩:∃ s',(⟨(la.data.toList++[b]).toArray⟩:ByteArray)=s':=⟨_,rfl⟩;have fD:=hid (fC.out s');have gP:Chg (fun b=>b=gb) w9 (w9.setCell ⟨gb,q,none⟩ (.string s')).drew:=((Chg.refl (fun b=>b=gb) w9).setCell (p:=⟨gb,q,none⟩) (fun _=>rfl) _).drew;have gQ:=hid (jC.out.trans (gP.below jC.out.size fun b hb e=>by omega))
        have fQ:(zGC (out++[emp]) b).length=q+1:=by rw [zIq fN.out,gO.out]
        have fR:strs ((out++[emp]).dropLast++[s'])=strs (zGC (out++[emp]) b):=by rw [zIw,fM.out,fX]
        rw [fR] at fD;rw [fX];go_wp2;go_roundw
        case rel=>exact⟨m+1,zGC (out++[emp]) b,by omega,by go_num,by omega,fB,hid (by rw [fQ];exact fD.out),gQ⟩
        case measure=>simp [intOf];omega
      · have ta:((a.toNat:Int)==47)=false:=by simp;omega
        have ga2:p.data.toList[m]?≠some 47:=fun h=>ea (by rw [gaH.out] at h;rw [Option.some.inj h];rfl);by_cases eb:b=47
        · have tb:((b.toNat:Int) != 47)=false:=by rw [eb];rfl
          have fB:=hid (hcut.out.slash (i:=m+1) (by rw [gbH.out,eb]) (by rw [Nat.add_sub_cancel];exact ga2));clear eb;go_wp2;go_roundw
          case rel=>exact⟨m+1,out,by omega,by go_num,by omega,fB,ho,hb⟩
          case measure=>simp [intOf];omega
        · have tb:((b.toNat:Int) != 47)=true:=by
           have:b.toNat≠47:=fun e=>eb (UInt8.toNat_inj.1 e);simp;omega
          obtain⟨fG,fH⟩:=hcut.out.more (i:=m+1) gbH.out eb (by rw [Nat.add_sub_cancel];exact ga2);have fB:=hid fH;have fJ:=hcut.out.small (last_mem fG);have fV:=ho.out;clear ga2 fH;go_upto_region 10 with (fail);obtain⟨gb,cap,rfl,jN,fK,fW,fA⟩:=zIP fV fG;obtain⟨q,hq⟩:∃ q,(out).length=q+1:=⟨(out).length-1,by have:=List.length_pos_iff.2 fG;omega⟩;rw [hq];rw [hq] at fK fW fA;simp only [Nat.add_sub_cancel] at fK fW fA;have fC:=hid fA
          have jO:q≤m:=by omega
          have gO:=hid hq;obtain⟨la,fL⟩:∃ la,(out).getLastD emp=la:=⟨_,rfl⟩;rw [fL] at fK fJ;have fM:=hid fL;have fN:=hid fG
          have x1:IntKind.i64.wrap (((q+1:Nat):Int)-1)=(q:Int):=by rw [zAF _ (by omega)];omega
          have x2:IntKind.i64.wrap ((q:Int)+1-1)=(q:Int):=by rw [zAF _ (by omega)];omega
          have x3:IntKind.i64.wrap (q:Int)=(q:Int):=zAF _ (by omega)
          have x4:IntKind.i64.wrap (((m+1:Nat):Int)+1)=((m+2:Nat):Int):=by rw [zAF _ (by omega)];omega
          have x5:IntKind.i64.wrap ((m:Int)+1+1)=((m+2:Nat):Int):=by rw [zAF _ (by omega)];omega
          have jP:m+2≤p.size:=by omega
          have fO:∀ W:World,(Op.stringOp .add la (p.extract (m+1) (m+2))).run Tryz.prog W=.ok (.string ⟨(la.data.toList++[p[m+1]]).toArray⟩) W:=fun W=>by
           have fP:la.size+(p.extract (m+1) (m+2)).size≤9223372036854775807:=by
            have h9:(p.extract (m+1) (m+2)).size≤p.size:=by rw [ByteArray.size_extract];omega
            omega
           exact (run_string_add_sum _ _ _ fP).trans (by rw [show m+2=(m+1)+1 from rfl,ext_one gH])
          rw [gI] at fO;clear hq fL fA fV fG
          go_region
          go_upto_region 6 with (fail);obtain⟨s',fX⟩:∃ s',(⟨(la.data.toList++[b]).toArray⟩:ByteArray)=s':=⟨_,rfl⟩;have fD:=hid (fC.out s');have gP:Chg (fun b=>b=gb) wr (wr.setCell ⟨gb,q,none⟩ (.string s')).drew:=((Chg.refl (fun b=>b=gb) wr).setCell (p:=⟨gb,q,none⟩) (fun _=>rfl) _).drew;have gQ:=hid (hb.out.trans (gP.below hb.out.size fun b hb e=>by omega))
          have fQ:(zGC (out) b).length=q+1:=by rw [zIq fN.out,gO.out]
          have fR:strs ((out).dropLast++[s'])=strs (zGC (out) b):=by rw [zIw,fM.out,fX]
          rw [fR] at fD;rw [fX];go_wp2;go_roundw
          case rel=>exact⟨m+1,zGC (out) b,by omega,by go_num,by omega,fB,hid (by rw [fQ];exact fD.out),gQ⟩
          case measure=>simp [intOf];omega
    · have gR:m+1=p.size:=by omega
      clear v1 v2 v3
      have jD:Hid (spl p=if out.all chk=true then (out,0) else ([],71)):=hid (by
       by_cases gY:m=0
       · rw [spl_one (p:=p) (by omega) gW.out,List.eq_nil_of_length_eq_zero (l:=out) (by omega)];rfl
       · have h9:=hcut.out;rw [show m+1=p.data.toList.length by rw [Array.length_toList];exact gR] at h9
         obtain⟨jQ,jR⟩:=h9.all (by
          rw [Array.length_toList]
          show p.data.toList[p.size-1]?≠some 47
          rw [←gR,Nat.add_sub_cancel];intro jS;have jX:=fT.out (m-1) (by rw [show m-1+1=m by omega];exact jS);omega)
         exact spl_form h2 jQ jR h9.2)
      obtain⟨n,hn⟩:∃ n,out.length=n:=⟨_,rfl⟩;have fY:=ho.out;rw [hn] at fY gX;have fZ:=hid hn;have jE:=World.ownsRow.lt fY;obtain⟨A,c,hv,gA⟩:=Sees.of_own (B:=wr.heap.size) fY fun g hg=>(jE g hg).2
      have gB:n≤c:=by
       rcases fY.2 with ⟨e,e2⟩ | ⟨g,cap,cur,e,_,_,hnc,_⟩
       · omega
       · rw [hv] at e;injection e with e1 e2 e3;omega
      subst hv;have fI:=hid gA
      have jT:n≤1000000:=by omega
      clear hn ho fY hcut gA jE gR;generalize m+1=m1 at *;go_wp2_with fail
      go_loopw [6] (fun i' wr'=>∃ k:Nat,k≤n∧i'=.int .i64 (k:Int)∧wr'=wr∧Hid (∀ j (h:j<out.length),j<k→chk out[j]=true)) (fun i' _=>n-(intOf i').toNat)
      case atStart=>exact⟨0,Nat.zero_le _,rfl,rfl,hid fun j _ h=>absurd h (by omega)⟩
      case round =>
       obtain⟨k,hk,rfl,rfl,fE⟩:=hrel;by_cases jU:k<n
       · have jF:k<out.length:=by rw [fZ.out];exact jU
         obtain⟨b5,off5,jV,-,jG⟩:=fI.out.at_ (by omega);have y0:=jG k (.string out[k]) (by rw [zCC _ _ jF]);subst jV;obtain⟨x,hx⟩:∃ x,out[k]=x:=⟨_,rfl⟩;rw [hx] at y0;have jH:=hid hx;clear hx jG;have fS:=fun W=>zJz x W;unfold chkV at fS
         cases hc:chk x with
         | true =>
          rw [hc] at fS;simp only [if_true] at fS
          have gC:Hid (∀ j (h:j<out.length),j<k+1→chk out[j]=true):=hid fun j h hj=>by
           by_cases e:j=k
           · subst e;rw [jH.out];exact hc
           · exact fE.out j h (by omega)
          clear fE;go_wp2_with (first | (go_at_call 75;refine (fS _).mono ?_;rintro e w' ⟨rfl,rfl⟩));go_roundw
          case rel=>exact⟨k+1,by omega,by go_num,by trivial,gC⟩
          case measure=>simp [intOf];omega
         | false =>
          rw [hc] at fS;simp only [Bool.false_eq_true,if_false] at fS
          have gS:Hid (spl p=([],71)):=hid (by
           rw [jD.out,if_neg];intro h;have:=List.all_eq_true.1 h out[k] (List.getElem_mem jF);rw [jH.out,hc] at this
           cases this)
          clear fE;go_wp2_with (first | (go_at_call 75;refine (fS _).mono ?_;rintro e w' ⟨rfl,rfl⟩));rw [←gG.out];exact zIS gS.out rfl hb.out
       · have fF:∀ x∈out,chk x=true:=fun x hx=>by
          obtain⟨j,hj,rfl⟩:=List.getElem_of_mem hx;exact fE.out j hj (by have:=fZ.out;omega)
         have gD:Hid (spl p=(out,0)):=hid (by rw [jD.out,if_pos (List.all_eq_true.2 fF)]);have gE:=hid fF;clear fE fF;go_wp2_with fail;rw [←gG.out];unfold RSpl;rw [gD.out];have jI:=fI.out;rw [←fZ.out] at jI gB;exact⟨⟨A,c,by rw [fZ.out];rfl,jI,by rw [fZ.out];exact jT,gB,fun x hx=>zC5 (gE.out x hx)⟩,hb.out⟩
end Go.Proofs.YtolpcfhfcdkokaaGreatDoor
