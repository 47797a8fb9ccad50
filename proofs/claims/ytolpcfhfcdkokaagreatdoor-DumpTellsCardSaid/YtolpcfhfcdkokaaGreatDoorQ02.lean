/- Joined out of Node..Sec. -/
import Derived.Deep.DeepCutAuto
import Derived.Deep.LoopGhost
import Derived.Deep.MidRow
import Derived.Great.Ranges
import Derived.Test.YtolpcfhfcdkokaaGreatDoorQ01
set_option maxHeartbeats 16000000
set_option maxRecDepth 100000
namespace Go.Proofs.YtolpcfhfcdkokaaGreatDoor
open Lib (hid)
open Go.RowKit
structure Nd where
 path:ByteArray
 kind:Int
 made:Int
 same:ByteArray
 dA:Option Addr
 dc:Nat
 data:List UInt8
def zGW (w:World) (b off:Nat) (x:Nd):Prop :=
 w.cell? ⟨b,off,none⟩=some (.string x.path)∧w.cell? ⟨b,off+1,none⟩=some (.int .i64 x.kind)∧w.cell? ⟨b,off+2,none⟩=some (.int .i64 x.made) ∧
 w.cell? ⟨b,off+3,none⟩=some (.string x.same)∧w.cell? ⟨b,off+4,none⟩=some (.slice x.dA x.data.length x.dc)
structure NodesAt (w:World) (B:Nat) (A:Option Addr) (l:List Nd):Prop where
 at_:0<l.length→∃ b off,A=some ⟨b,off,none⟩∧b<B∧∀ i (h:i<l.length),zGW w b (off+i * 5) l[i]
 data:∀ x∈l,Sees w B 1 x.dA x.data.length (bvs x.data)
section
variable {w w1:World} {B B':Nat} {A:Option Addr} {l:List Nd}
theorem zGW.keep {b off:Nat} {x:Nd} (h:zGW w b off x) (hk:∀ p:Addr,p.block=b→w1.cell? p=w.cell? p):zGW w1 b off x :=
 ⟨(hk _ rfl).trans h.1,(hk _ rfl).trans h.2.1,(hk _ rfl).trans h.2.2.1,(hk _ rfl).trans h.2.2.2.1,(hk _ rfl).trans h.2.2.2.2⟩
theorem NodesAt.keep (h:NodesAt w B A l) (hk:∀ p:Addr,p.block<B→w1.cell? p=w.cell? p):NodesAt w1 B A l :=
 ⟨fun hn=>let ⟨b,off,e,hb,hc⟩:=h.at_ hn;⟨b,off,e,hb,fun i hi=>(hc i hi).keep fun p hp=>hk p (by omega)⟩,fun x hx=>(h.data x hx).keep hk⟩
theorem NodesAt.below (h:NodesAt w B A l) (hb:Below B w w1):NodesAt w1 B A l:=h.keep fun _ hp=>hb.cell hp
end
def zD2 (x:Nd):Prop:=(x.kind=1∨x.kind=2)∧0≤x.made∧x.made≤1099511627776∧x.path.size≤400∧x.same.size≤400∧x.data.length≤136704
instance (x:Nd):Decidable (zD2 x):=by unfold zD2;infer_instance
def enc1 (x:Nd):List UInt8 :=
 UInt8.ofNat (x.kind % 256).toNat::(zB7 x.made 8++(zB7 x.path.size 4++(x.path.data.toList++(zB7 x.same.size 4++(x.same.data.toList++(zB7 x.data.length 4++x.data))))))
def zBB (l:List Nd):List UInt8:=l.flatMap enc1
def Bts (l:List Nd) (w:World) (e:Ending) (w':World):Prop :=
 (((∀ x∈l,zD2 x)∧∃ v',e=.returned (.tuple #[v',.int .i64 0])∧w'.ownsRow w.heap.size 5 1 v' (zBB l).length (bvs (zBB l))) ∨
  ((¬∀ x∈l,zD2 x)∧e=.returned (.tuple #[.slice none 0 0,.int .i64 170])))∧Below w.heap.size w w'
theorem zE3 (x:Nd):(enc1 x).length=21+x.path.size+x.same.size+x.data.length:=by
 have h1:x.path.data.toList.length=x.path.size:=by rw [Array.length_toList];rfl
 have h2:x.same.data.toList.length=x.same.size:=by rw [Array.length_toList];rfl
 simp only [enc1,List.length_cons,List.length_append,zA2,h1,h2];omega
theorem enc_row (done:List UInt8) (pa:ByteArray) (ki ma:Int) (sa:ByteArray) (dA:Option Addr) (dc:Nat) (da:List UInt8) :
 bvs done++[.int .u8 (ki % 256)]++bvs (zB7 ma 8)++bvs (zB7 pa.size 4)++byteCells pa++bvs (zB7 sa.size 4)++byteCells sa++bvs (zB7 da.length 4)++bvs da=bvs (done++enc1 ⟨pa,ki,ma,sa,dA,dc,da⟩):=by
 simp only [enc1,zB6,zGN,List.append_assoc]
 congr 1
 show _=Value.int .u8 _::bvs _
 rw [u8_of];simp only [zB6,List.singleton_append]
theorem enc_len (done:List UInt8) (pa:ByteArray) (ki ma:Int) (sa:ByteArray) (dA:Option Addr) (dc:Nat) (da:List UInt8) :
 (done++enc1 ⟨pa,ki,ma,sa,dA,dc,da⟩).length=done.length+1+8+4+pa.size+4+sa.size+4+da.length:=by
 rw [List.length_append,zE3]
 show _+(21+pa.size+sa.size+da.length)=_
 omega
theorem zDB (a b:List Nd):zBB (a++b)=zBB a++zBB b:=by unfold zBB;rw [List.flatMap_append]
theorem zEV (l:List Nd) (i:Nat) (h:i<l.length):zBB (l.take (i+1))=zBB (l.take i)++enc1 l[i]:=by
 have e:l.take (i+1)=l.take i++[l[i]]:=List.take_succ_eq_append_getElem h;rw [e,zDB];simp [zBB]
theorem encAll_le (l:List Nd) (i:Nat) (h:i<l.length):(zBB (l.take i)).length+(enc1 l[i]).length≤(zBB l).length:=by
 have h1:=zEV l i h
 have h2:zBB l=zBB (l.take (i+1))++zBB (l.drop (i+1)):=by rw [←zDB,List.take_append_drop]
 rw [h2,h1,List.length_append,List.length_append];omega
theorem low8 (B:Nat) (v:Value) (xs:List Value) (n0:Nat) (n:Int) (w:World) (hx:n0≤1000000000) (hn:0≤n) (fB:n≤1099511627776) (hB:B≤w.heap.size) (fA:w.ownsRow B 5 1 v n0 xs) :
 Calls Tryz.prog 44 #[v,.int .i64 n,.int .i64 8] w fun e w'=>∃ v',e=.returned v'∧w'.ownsRow B 5 1 v' (n0+8) (xs++bvs (zB7 n 8))∧Grows w v w' v' :=
 low_any B v xs n0 n 8 w hx (by omega) hn (by omega) hB fA
theorem low4 (B:Nat) (v:Value) (xs:List Value) (n0:Nat) (n:Int) (w:World) (hx:n0≤1000000000) (hn:0≤n) (fB:n≤1099511627776) (hB:B≤w.heap.size) (fA:w.ownsRow B 5 1 v n0 xs) :
 Calls Tryz.prog 44 #[v,.int .i64 n,.int .i64 4] w fun e w'=>∃ v',e=.returned v'∧w'.ownsRow B 5 1 v' (n0+4) (xs++bvs (zB7 n 4))∧Grows w v w' v' :=
 low_any B v xs n0 n 4 w hx (by omega) hn (by omega) hB fA
theorem bytes_any (A:Option Addr) (cap:Nat) (l:List Nd) (w:World) (hN:NodesAt w w.heap.size A l) (jX:(zBB l).length≤1000000000) (jO:l.length≤1000000000) :
 Calls Tryz.prog 28 #[.slice A l.length cap] w (Bts l w):=by
 obtain⟨i0,hi,gD,gE,gF⟩:=info_parts zCV;obtain⟨len,fG⟩:∃ len,len=l.length:=⟨_,rfl⟩;have fD:=hid fG;rw [←fG] at jO ⊢;clear fG;go_enter Tryz.func28,Tryz.ntmps28;go_wp2
 go_loopw [4,9] (fun u i wr=>∃ (j:Nat),j≤len∧Hid (∀ x∈l.take j,zD2 x)∧i=.int .i64 j∧wr.ownsRow w.heap.size 5 1 u (zBB (l.take j)).length (bvs (zBB (l.take j)))∧Below w.heap.size w wr)
  (fun _ i _=>len-(intOf i).toNat)
 case atStart=>exact⟨0,Nat.zero_le _,(by simp [Hid]),rfl,by simpa [zBB,bvs] using World.ownsRow_nil _ _ _ _,Below.refl _ _⟩
 case round =>
  obtain⟨j,hj,fH,rfl,ho,hb⟩:=hrel;have jP:=hb.size;by_cases jY:j<len
  · have fN:j<l.length:=by have:=fD.out;omega
    obtain⟨b,off,rfl,jZ,hc⟩:=hN.at_ (by omega);have jQ:=(hc j fN).keep (w1:=wr) fun p hp=>hb.cell (by omega);have fP:=List.getElem_mem fN;have fQ:l.take (j+1)=l.take j++[l[j]]:=List.take_succ_eq_append_getElem fN
    have fE:Hid (zD2 l[j]→∀ x∈l.take (j+1),zD2 x):=by
     intro hx y hy;rw [fQ,List.mem_append,List.mem_singleton] at hy;rcases hy with hy | rfl
     · exact fH.out y hy
     · exact hx
    have fR:Hid (¬zD2 l[j]→¬∀ x∈l,zD2 x):=fun hn ha=>hn (ha _ fP);clear fQ fP fH;have gQ:=hN.data _ (List.getElem_mem fN);have gR:=encAll_le l j fN;have jR:=hid (zEV l j fN);rw [zE3] at gR;clear hc hN;generalize l[j]=x at *;generalize zBB (l.take j)=done at *;obtain⟨pa,ki,ma,sa,dA,dc,da⟩:=x;obtain⟨c0,c1,c2,c3,c4⟩:=jQ;simp only at c0 c1 c2 c3 c4 gR gQ;have fS:∀ g,u4.ownBlock=some g→g<wr.heap.size:=fun g hg=>(ho.lt g hg).2;go_upto_region 5 with (fail)
    have jS:zGW (wr.alloc (.cells #[.string pa,.int .i64 ki,.int .i64 ma,.string sa,.slice dA da.length dc] 75)) wr.heap.size 0 ⟨pa,ki,ma,sa,dA,dc,da⟩:=by
     refine⟨?_,?_,?_,?_,?_⟩<;>(rw [World.cell?_alloc_at _ _ _ _ rfl];rfl)
    have fF:=hb.alloc jP (.cells #[.string pa,.int .i64 ki,.int .i64 ma,.string sa,.slice dA da.length dc] 75);have gH:=ho.alloc (.cells #[.string pa,.int .i64 ki,.int .i64 ma,.string sa,.slice dA da.length dc] 75)
    have fC:wr.heap.size<(wr.alloc (.cells #[.string pa,.int .i64 ki,.int .i64 ma,.string sa,.slice dA da.length dc] 75)).heap.size:=by simp
    generalize wr.alloc (.cells #[.string pa,.int .i64 ki,.int .i64 ma,.string sa,.slice dA da.length dc] 75)=W1 at *;generalize wr.heap.size=g at *;clear ho hb c0 c1 c2 c3 c4;obtain⟨c0,c1,c2,c3,c4⟩:=jS
    go_cut [9,48] from 9 to 82 (fun s9 s48 wx=>∃ bad:Bool,s9=.int .i64 j∧s48=.bool bad∧Hid (bad=!decide (zD2 ⟨pa,ki,ma,sa,dA,dc,da⟩))∧W1=wx)
    case first =>
     by_cases hk:ki=1∨ki=2
     · rcases hk with rfl | rfl
       all_goals
        by_cases h1:ma<0
        · (go_wp2;go_meet;exact⟨!decide (zD2 _),rfl,congrArg Value.bool (by rw [Bool.eq_iff_iff];simp [zD2];omega),rfl,rfl⟩)
        · by_cases h2:1099511627776<ma
          · (go_wp2;go_meet;exact⟨!decide (zD2 _),rfl,congrArg Value.bool (by rw [Bool.eq_iff_iff];simp [zD2];omega),rfl,rfl⟩)
          · by_cases h3:400<pa.size
            · (go_wp2;go_meet;exact⟨!decide (zD2 _),rfl,congrArg Value.bool (by rw [Bool.eq_iff_iff];simp [zD2];omega),rfl,rfl⟩)
            · by_cases h4:400<sa.size
              · (go_wp2;go_meet;exact⟨!decide (zD2 _),rfl,congrArg Value.bool (by rw [Bool.eq_iff_iff];simp [zD2];omega),rfl,rfl⟩)
              · by_cases h5:136704<da.length
                · (go_wp2;go_meet;exact⟨!decide (zD2 _),rfl,congrArg Value.bool (by rw [Bool.eq_iff_iff];simp [zD2];omega),rfl,rfl⟩)
                · (go_wp2;go_meet;exact⟨!decide (zD2 _),rfl,congrArg Value.bool (by rw [Bool.eq_iff_iff];simp [zD2];omega),rfl,rfl⟩)
     · have jT:ki≠1:=fun h=>hk (.inl h);have jU:ki≠2:=fun h=>hk (.inr h);clear hk;go_wp2;go_meet;exact⟨!decide (zD2 _),rfl,congrArg Value.bool (by rw [Bool.eq_iff_iff];simp [zD2,jT,jU]),rfl,rfl⟩
    case rest =>
     obtain⟨bad,rfl,rfl,gI,rfl⟩:=hcut;cases bad
     case true =>
      go_wp2
      go_ret2
      exact⟨.inr ⟨fR.out (by simpa using gI.out.symm),rfl⟩,fF⟩
     case false =>
     have fB:zD2 ⟨pa,ki,ma,sa,dA,dc,da⟩:=by simpa using gI.out.symm
     obtain⟨hk,gS,gT,hp,hs,hd⟩:=id fB;simp only at hk gS gT hp hs hd;have fT:=hid (fE.out fB);clear fE fR gI fB;go_wp2
     have gJ:done.length+1≤1000000000:=by omega
     have fA:u4.ownBlock≠some g:=fun e=>by have:=fS g e;omega
     go_region_held3 (fun w'=>w'.cell? ⟨g,0+1,none⟩=some (.int .i64 ki)∧w'.cell? ⟨g,0+2,none⟩=some (.int .i64 ma))
      (first | go_keep)
      (first
       | (refine zBw _ (by rfl) _ _ _ _ (by rfl) w.heap.size 5 i0 (.int .u8 0) 1 1 Tryz.underlying64 hi gD gE gF rfl u4 done.length (bvs done) (by rfl) ((gH.alloc _).drew) 1 [.int .u8 (ki % 256)] (zCo W1 Tryz.underlying64 _ _ rfl) (by unfold maxLen;omega) (by omega) (by have:=fF.size;simp;omega) ?_;intro v2 w2 gU fU fI;have k1:=zHd fU c1 fA;have k2:=zHd fU c2 fA;have fJ:=ne_law (W:=W1) fI fA fC (by simp);have fV:W1.heap.size<w2.heap.size:=Nat.lt_of_lt_of_le (by simp) fU.size;have gV:w.heap.size≤w2.heap.size:=Nat.le_trans fF.size (Nat.le_of_lt fV))
       | (go_at_call 44;refine (low8 w.heap.size v2 (bvs done++[.int .u8 (ki % 256)]) (done.length+1) ma w2 gJ gS gT gV gU).mono ?_;rintro e w3 ⟨v3,rfl,gW,gG⟩;have k1':=zBf gG k1 fJ;have k2':=zBf gG k2 fJ))
     have G3:=(Grows.of_law ((Below.refl W1.heap.size W1).alloc (Nat.le_refl _) _).drew fU fI (by simp)).trans gG;clear fU fI gG gU fJ k1 k2 k1' k2' fV gV;have gX:=G3.chg.size;have fK:=zDb G3 fA fC
     have gY:g<w3.heap.size:=by omega
     have c0':=zBf G3 c0 fA;have c3':=zBf G3 c3 fA;have c4':=zBf G3 c4 fA;have gK:w.heap.size≤w3.heap.size:=Nat.le_trans fF.size gX;clear c0 c1 c2;go_wp2
     go_region_held3 (fun w'=>w'.cell? ⟨g,0,none⟩=some (.string pa))
      (first | go_keep)
      (first
       | (go_at_call 44;refine (low4 w.heap.size v3 _ (done.length+1+8) pa.size w3.drew (by omega) (by omega) (by omega) gK gW).mono ?_;rintro e w4 ⟨v4,rfl,gZ,fW⟩;have k4:=zBf fW c0' fK;have jA:=fW.chg.size;have jB:w.heap.size≤w4.heap.size:=Nat.le_trans gK jA)
       | (refine zBw _ (by rfl) _ _ _ _ (by rfl) w.heap.size 5 i0 (.int .u8 0) 1 1 Tryz.underlying64 hi gD gE gF rfl v4 (done.length+1+8+4) _ (by rfl) gZ pa.size (byteCells pa) (Src.ofString _ Tryz.underlying9 pa) (by unfold maxLen;omega) (by omega) jB ?_;intro v5 w5 jC gL fX;have k5:=zEy gL k4 (zDb fW fK gY)))
     have G5:=G3.drew.trans (fW.trans (Grows.of_law (Below.refl w4.heap.size w4) gL fX (Nat.le_refl _)));clear G3 fW gL fX gW gZ fK k4 k5 jA jB gK gX gY;have jD:=G5.chg.size;have fL:=zDb G5 fA fC;go_wp2;have gM:w.heap.size≤w5.heap.size:=Nat.le_trans fF.size jD
     have fY:g<w5.heap.size:=by omega
     have q3:=zBf G5 c3 fA
     go_region_held3 (fun w'=>w'.cell? ⟨g,0+3,none⟩=some (.string sa))
      (first | go_keep)
      (first
       | (go_at_call 44;refine (low4 w.heap.size v5 _ (done.length+1+8+4+pa.size) sa.size w5.drew (by omega) (by omega) (by omega) gM jC).mono ?_;rintro e w6 ⟨v6,rfl,jE,fZ⟩;have k6:=zBf fZ q3 fL;have jF:=fZ.chg.size;have jG:w.heap.size≤w6.heap.size:=Nat.le_trans gM jF)
       | (refine zBw _ (by rfl) _ _ _ _ (by rfl) w.heap.size 5 i0 (.int .u8 0) 1 1 Tryz.underlying64 hi gD gE gF rfl v6 (done.length+1+8+4+pa.size+4) _ (by rfl) jE sa.size (byteCells sa) (Src.ofString _ Tryz.underlying9 sa) (by unfold maxLen;omega) (by omega) jG ?_;intro v7 w7 jH gN gA;have k7:=zEy gN k6 (zDb fZ fL fY)))
     have G7:=G5.drew.trans (fZ.trans (Grows.of_law (Below.refl w6.heap.size w6) gN gA (Nat.le_refl _)));clear G5 fZ gN gA jC jE fL k6 k7 jF jG gM jD fY;have jI:=G7.chg.size;have fM:=zDb G7 fA fC;go_wp2;have gO:w.heap.size≤w7.heap.size:=Nat.le_trans fF.size jI
     have gB:g<w7.heap.size:=by omega
     have q4:=zBf G7 c4 fA
     go_region_held3 (fun w'=>w'.cell? ⟨g,0+4,none⟩=some (.slice dA da.length dc))
      (first | go_keep)
      (first
       | (go_at_call 44;refine (low4 w.heap.size v7 _ (done.length+1+8+4+pa.size+4+sa.size) da.length w7.drew (by omega) (by omega) (by omega) gO jH).mono ?_;rintro e w8 ⟨v8,rfl,jJ,fO⟩;have k8:=zBf fO q4 fM;have jK:=fO.chg.size;have jL:w.heap.size≤w8.heap.size:=Nat.le_trans gO jK;have jM:=(Grows.first fF (G7.drew.trans fO) (fun q hq=>(gH.lt q hq).1)).1)
       | (refine zBw _ (by rfl) _ _ _ _ (by rfl) w.heap.size 5 i0 (.int .u8 0) 1 1 Tryz.underlying64 hi gD gE gF rfl v8 (done.length+1+8+4+pa.size+4+sa.size+4) _ (by rfl) jJ da.length (bvs da) (zCK _ Tryz.underlying64 dc (gQ.below jM) (zCG da)) (by unfold maxLen;omega) (by omega) jL ?_;intro v9 w9 jV gP gC;have k9:=zEy gP k8 (zDb fO fM gB)))
     have G9:=G7.drew.trans (fO.trans (Grows.of_law (Below.refl w8.heap.size w8) gP gC (Nat.le_refl _)));have jW:=(Grows.first fF G9 (fun q hq=>(gH.lt q hq).1)).1;clear G7 fO gP gC jH jJ fM k8 k9 jK jL gO jI gB jM c3 c4;go_wp2;go_roundw
     case rel=>exact⟨j+1,by omega,fT.out,by go_num,by rw [jR.out,enc_len,←enc_row];exact jV,jW⟩
     case measure=>simp [intOf];omega
  · obtain rfl:j=len:=by omega
    go_wp2
    go_ret2
    have h9:=fD.out;have jN:=fH.out;rw [h9,List.take_length] at ho jN;exact⟨.inl ⟨jN,_,rfl,ho⟩,hb⟩
section
variable {P:Program} {w:World}
theorem zHA {src e:TypeId} (hs:P.underlying src=some (.slice e)) (he:P.underlying e=some (.int .u8)) {B:Nat} {A:Option Addr} (c:Nat) {n:Nat} {l:List UInt8} (h:Sees w B 1 A n (bvs l)) :
 ∀ dst,P.underlying dst=some .string→(convert src dst (.slice A n c)).run P w=.ok (.string ⟨l.toArray⟩) w:=by
 intro dst hd
 have hl:n=l.length:=by have:=h.len;rw [zAe] at this;omega
 subst hl;rcases A with _ | ad
 · have h0:l=[]:=by
    rcases Nat.eq_zero_or_pos l.length with h0 | h0
    · exact List.eq_nil_of_length_eq_zero h0
    · obtain⟨b,off,e,_⟩:=h.at_ h0;cases e
   subst h0;exact run_convert_bytes_nil w src e hs he _ c dst hd
 · have fA:(loadCells ad l.length).run P w=.ok (((l.map fun b=>(b.toNat:Int)).map (Value.int .u8)).toArray) w:=by
    have:=run_loadCells_list (P:=P) w ad (bvs l) (fun j v hj=>by
     rcases Nat.eq_zero_or_pos l.length with h0 | h0
     · have:l=[]:=List.eq_nil_of_length_eq_zero h0;subst this;simp [bvs] at hj
     · obtain⟨b,off,e,hb,hc⟩:=h.at_ h0;injection e with e;subst e;rw [Addr.add_lit];exact hc j v hj)
    rw [zAe] at this;rw [this,bvs,List.map_map];rfl
   rw [run_convert_bytes_string w src dst e _ _ c hs he hd,run_bytesToString w _ _ c _ fA,foldl_push_bytes]
   have hiD:(fun n:Int=>UInt8.ofNat n.toNat) ∘ (fun b:UInt8=>(b.toNat:Int))=id:=by
    funext b
    simp
   rw [List.map_map,hiD,List.map_id]
   simp [ByteArray.empty,ByteArray.emptyWithCapacity]
   rfl
theorem zEH {src e0:TypeId} (hs:P.underlying src=some (.slice e0)) (he:P.underlying e0=some (.int .u8)) {base:Nat} {e:TypeId} {v:Value} {n:Nat} {l:List UInt8} (h:w.ownsRow base e 1 v n (bvs l)) :
 ∀ dst,P.underlying dst=some .string→(convert src dst v).run P w=.ok (.string ⟨l.toArray⟩) w:=by
 obtain⟨A,c,rfl,hS⟩:=Sees.of_own (B:=w.heap.size) h fun g hg=>(h.lt g hg).2;exact zHA hs he c hS
end
def chapC:Nd:=⟨⟨#[47,99]⟩,1,7,ByteArray.empty,none,0,[]⟩
theorem zHg:zBB [chapC]=[1,7,0,0,0,0,0,0,0,2,0,0,0,47,99,0,0,0,0,0,0,0,0]:=by decide +kernel
theorem ok_chapC:∀ x∈[chapC],zD2 x:=by
 intro x hx;rw [List.mem_singleton] at hx;subst hx
 decide +kernel
theorem awake_any (w:World) :
 Calls Tryz.prog 7 #[] w fun e w'=>e=.returned (.bool true)∧Below w.heap.size w w':=by
 have fA:NodesAt (w.alloc (.cells #[.string ⟨#[47,99]⟩,.int .i64 1,.int .i64 7,.string ⟨#[]⟩,.slice none 0 0] 75)) (w.heap.size+1) (some ⟨w.heap.size,0,none⟩) [chapC]:=by
  refine⟨fun _=>⟨w.heap.size,0,rfl,by omega,fun i hi=>?_⟩,fun x hx=>?_⟩
  · have:i=0:=by simpa using hi
    subst this;refine⟨?_,?_,?_,?_,?_⟩<;>(rw [World.cell?_alloc_at _ _ _ _ rfl];rfl)
  · rw [List.mem_singleton] at hx;subst hx;exact Sees.nil
 go_enter Tryz.func7,Tryz.ntmps7;go_wp2_with fail;have hc:=bytes_any (some ⟨w.heap.size,0,none⟩) 1 [chapC] (w.alloc (.cells #[.string ⟨#[47,99]⟩,.int .i64 1,.int .i64 7,.string ⟨#[]⟩,.slice none 0 0] 75)) (by simpa using fA) (by rw [zHg];decide) (by decide);refine hc.mono ?_;rintro e w1 ⟨⟨_,v1,rfl,ho⟩ | ⟨hn,_⟩,hb⟩
 case inr=>exact absurd ok_chapC hn
 rw [zHg] at ho;have hs:=zEH (P:=Tryz.prog) Tryz.underlying64 Tryz.underlying5 ho 9 Tryz.underlying9;have hB:Below w.heap.size w w1:=((Below.refl _ _).alloc (Nat.le_refl _) _).trans (hb.mono (by simp));clear ho hb fA hc;go_wp2;go_ret;exact⟨by rfl,hB⟩
theorem zEo:(Tryz.prog.info? 75).map (fun i=>(i.zero,i.size,i.bytes))=some (some (.agg #[.string ByteArray.empty,.int .i64 0,.int .i64 0,.string ByteArray.empty,.slice none 0 0]),5,72):=by kernel_rfl
theorem infoBytes:(Tryz.prog.info? 64).map (fun i=>(i.zero,i.size,i.bytes))=some (some (.slice none 0 0),1,24):=by kernel_rfl
def Blk (w:World) (g:Nat) (t:TypeId) (cs:List Value):Prop:=w.heap[g]? = some (.cells cs.toArray t (0,0))
section
variable {w w1:World} {g:Nat} {t:TypeId} {cs:List Value}
theorem Blk.lt (h:Blk w g t cs):g<w.heap.size:=(Array.getElem?_eq_some_iff.1 h).1
theorem Blk.cell (h:Blk w g t cs) (i:Nat):w.cell? ⟨g,i,none⟩=cs[i]?:=by rw [cell_of_row w g i cs.toArray t (0,0) h];simp
theorem Blk.frozen (h:Blk w g t cs) (i:Nat):w.frozen? ⟨g,i,none⟩=false:=frozen_of_row w g i cs.toArray t h
theorem Blk.chg {S:Nat→Prop} (h:Blk w g t cs) (hc:Chg S w w1) (hn:¬S g):Blk w1 g t cs:=(hc.block g h.lt hn).trans h
theorem Blk.below {B:Nat} (h:Blk w g t cs) (hc:Below B w w1) (hn:g<B):Blk w1 g t cs:=(hc.block g hn).trans h
theorem Blk.fresh (h:Blk w g t cs) (hc:Below w.heap.size w w1):Blk w1 g t cs:=(hc.block g h.lt).trans h
theorem Blk.law {row:Option Nat} (h:Blk w g t cs) (hc:w.grownBy w1 row) (hn:row≠some g):Blk w1 g t cs:=(hc.block g h.lt (fun e=>hn e.symm)).trans h
theorem Blk.alloc (h:Blk w g t cs) (o:Obj):Blk (w.alloc o) g t cs:=(Below.heap_alloc w o g h.lt).trans h
theorem Blk.new (w:World) (t:TypeId) (cs:List Value):Blk (w.alloc (.cells cs.toArray t)) w.heap.size t cs:=heap_alloc_new w _
theorem Blk.set_ (h:Blk w g t cs) (i:Nat) (u:Value):Blk (w.setCell ⟨g,i,none⟩ u) g t (cs.set i u):=by
 unfold Blk at h ⊢;simp [World.setCell,Array.getElem?_modify,h]
theorem Blk.far (h:Blk w g t cs) {p:Addr} (hp:g≠p.block) (u:Value):Blk (w.setCell p u) g t cs:=(Below.heap_setCell w p u g hp).trans h
theorem zIf {base:Nat} {e:TypeId} {size n:Nat} {xs:List Value} (h:w.ownsRow base e size (.slice (some ⟨g,0,none⟩) n n) n xs):Blk w g e xs:=by
 rcases h.2 with ⟨h0,_⟩ | ⟨g',cap,cur,hv,hb,hg,hnc,hcm,hcs,ht⟩
 · cases h0
 · injection hv with h1 h2 h3;injection h1 with h1;injection h1 with h1;subst h1;have hc:cap=n:=h3.symm;subst hc
   have:cur.toList=xs:=by rw [←ht,List.take_of_length_le (by simp [hcs])]
   unfold Blk;rw [hg,←this]
end
theorem zBU (z:Value) (hz:z.cells=#[z]) (n:Nat):(madeCells z.cells (n * 1)).toList=List.replicate n z:=by rw [hz,Nat.mul_one,toList_madeCells_one]
theorem zBd:(Tryz.prog.info? 187).map (·.size)=some 128:=by kernel_rfl
def zB8 (s:List UInt8):Value:=.agg (bvs s).toArray
def zH7 (s:List UInt8) (at_ k:Nat) (n:Int):List UInt8:=s.take at_++(zB7 n k++s.drop (at_+k))
theorem zDi (s:List UInt8) (at_ k:Nat) (n:Int) (h:at_+k≤s.length):(zH7 s at_ k n).length=s.length:=by
 simp only [zH7,List.length_append,List.length_take,List.length_drop,zA2];omega
theorem lay_step1 {done:List UInt8} {m n:Int} {j k:Nat} (h:done++zB7 m (k-j)=zB7 n k) (hj:j<k):Hid ((done++[UInt8.ofNat (m % 256).toNat])++zB7 (m / 256) (k-(j+1))=zB7 n k):=by
 show _=_
 rw [show k-j=(k-(j+1))+1 by omega] at h;rw [←h,List.append_assoc];rfl
theorem lay_step2 {s done:List UInt8} {m:Int} {j at_:Nat} (hd:done.length=j) (hs:at_+j<s.length) :
 (bvs (s.take at_++(done++s.drop (at_+j)))).set (at_+j) (.int .u8 (m % 256))=bvs (s.take at_++((done++[UInt8.ofNat (m % 256).toNat])++s.drop (at_+(j+1)))):=by
 have e:s.drop (at_+j)=s[at_+j]::s.drop (at_+(j+1)):=List.drop_eq_getElem_cons hs
 have hl:(s.take at_).length=at_:=by rw [List.length_take];omega
 have hu:Value.int .u8 (m % 256)=.int .u8 ((UInt8.ofNat (m % 256).toNat).toNat:Int):=by rw [u8_of]
 rw [hu,e];unfold bvs;rw [←List.map_set (f:=fun b:UInt8=>Value.int .u8 (b.toNat:Int))]
 congr 1
 rw [List.set_append_right _ _ (by omega),hl,show at_+j-at_=j by omega,List.set_append_right _ _ (by omega),hd,Nat.sub_self,List.set_cons_zero];simp
theorem zBc (s:List UInt8):(bvs s).toArray.all (·.oneCell')=true:=by
 rw [Array.all_eq_true_iff_forall_mem];intro x hx;exact zCG s x (by simpa using hx)
theorem lay_any (s:List UInt8) (at_ k:Nat) (n:Int) (w:World) (hs:s.length=128) (hk:at_+k≤128) (hn:0≤n) (fL:n≤9223372036854775807) :
 Calls Tryz.prog 152 #[zB8 s,.int .i64 at_,.int .i64 k,.int .i64 n] w fun e w'=>e=.returned (zB8 (zH7 s at_ k n))∧Below w.heap.size w w':=by
 unfold zB8;have fF:=(Blk.new w 187 (bvs s)).alloc (.cells Tryz.zeroCells187 187)
 have fG:Blk ((w.alloc (.cells (bvs s).toArray 187)).alloc (.cells Tryz.zeroCells187 187)) (w.heap.size+1) 187 Tryz.zeroCells187.toList:=by
  have:=Blk.new (w.alloc (.cells (bvs s).toArray 187)) 187 Tryz.zeroCells187.toList;simpa using this
 have fH:Below w.heap.size w ((w.alloc (.cells (bvs s).toArray 187)).alloc (.cells Tryz.zeroCells187 187)):=((Below.refl _ _).alloc (Nat.le_refl _) _).alloc (by simp) _;go_enter Tryz.func152,Tryz.ntmps152;go_wp2;generalize (w.alloc (.cells (bvs s).toArray 187)).alloc (.cells Tryz.zeroCells187 187)=w0 at *;generalize hg:w.heap.size=g at *;have fM:=hid hg;clear hg
 go_loopw [9,10] (fun x i wr=>∃ (j:Nat) (m:Int) (done:List UInt8),j≤k∧i=.int .i64 j∧x=.int .i64 m∧0≤m∧m≤9223372036854775807∧Hid (done++zB7 m (k-j)=zB7 n k)∧Hid (done.length=j) ∧
  Blk wr g 187 (bvs (s.take at_++(done++s.drop (at_+j))))∧Blk wr (g+1) 187 Tryz.zeroCells187.toList∧Below g w wr)
  (fun _ i _=>k-(intOf i).toNat)
 case atStart=>exact⟨0,n,[],Nat.zero_le _,rfl,rfl,hn,fL,by simp [Hid],rfl,by simpa using fF,fG,fH⟩
 case round =>
  obtain⟨j,m,done,hj,rfl,rfl,fQ,fR,hd,fA,hB,hP,fB⟩:=hrel;clear fF fG fH;by_cases fI:j<k
  · have fS:=hid (zHe (m:=m) fI)
    have fT:(bvs (s.take at_++(done++s.drop (at_+j)))).length=128:=by
     rw [zAe,List.length_append,List.length_append,List.length_take,List.length_drop,fA.out];omega
    have k1:=(hB.cell (at_+j)).trans (List.getElem?_eq_getElem (by omega));have k2:=hB.frozen (at_+j);have fN:=hid (hB.set_ (at_+j) (.int .u8 (m % 256)));have fO:=hid (hP.far (p:=⟨g,at_+j,none⟩) (by simp) (.int .u8 (m % 256)));have fP:=hid (fB.setCell (p:=⟨g,at_+j,none⟩) (Nat.le_refl _) (.int .u8 (m % 256)));generalize (bvs (s.take at_++(done++s.drop (at_+j))))[at_+j]=old at *;clear hB hP fB;go_wp2;go_roundw
    case rel=>exact⟨j+1,m / 256,done++[UInt8.ofNat (m % 256).toNat],by omega,by go_num,by go_num,by omega,by omega,lay_step1 hd.out fI,by show _=_;rw [List.length_append,fA.out];rfl,by rw [←lay_step2 fA.out (by omega)];exact fN.out,fO.out,fP.out⟩
    case measure=>simp [intOf];omega
  · obtain rfl:k=j:=by omega
    have fJ:s.take at_++(done++s.drop (at_+k))=zH7 s at_ k n:=by
     have h:=hd.out;rw [Nat.sub_self] at h;simp only [zB7,List.append_nil] at h;rw [h];rfl
    rw [fJ] at hB;have hl:=zDi s at_ k n (by omega)
    have hz:Tryz.zeroCells187.toList.length=128:=by kernel_rfl
    generalize fK:zH7 s at_ k n=ys at *;have fC:=hid fK;clear fK
    have fD:(Tryz.prog.info? 187).map (·.size)=some (bvs ys).toArray.size:=by rw [zBd,List.size_toArray,zAe];congr 1;omega
    clear fJ hd
    go_wp2_with (first
     | (refine wpList_load_row rfl 187 (.tmp 4) rfl g rfl 187 (bvs ys).toArray (0,0) _ hB Tryz.underlying187 rfl fD ?_)
     | (refine wpList_store_row rfl 187 (.tmp 8) (.tmp 26) rfl (g+1) (bvs ys).toArray rfl rfl 187 _ hP fD (by rw [List.size_toArray,List.size_toArray,hz,zAe];omega) (zBc ys) ?_))
    have fE:Blk (wr.setRow (g+1) (bvs ys).toArray) (g+1) 187 (bvs ys):=setRow_heap wr (g+1) _ _ _ _ hP;refine bodyPost_ret (results_cell_row rfl _ _ (g+1) 187 (bvs ys).toArray (0,0) _ rfl fE Tryz.underlying187 rfl fD) rfl ⟨by rw [fC.out],?_⟩;rw [fM.out];exact fB.trans (((Chg.refl (fun b=>b=g+1) wr).setRow (g:=g+1) (fun _=>rfl) _).below (Nat.le_of_lt hB.lt) (fun b hb e=>by omega))
end Go.Proofs.YtolpcfhfcdkokaaGreatDoor
