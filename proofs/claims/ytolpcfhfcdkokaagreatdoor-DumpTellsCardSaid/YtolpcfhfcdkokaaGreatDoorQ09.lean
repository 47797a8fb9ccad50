/- Joined out of ReadSlot..RFind. -/
import Derived.Test.YtolpcfhfcdkokaaGreatDoorQ06
set_option maxHeartbeats 16000000
set_option maxRecDepth 100000
namespace Go.Proofs.YtolpcfhfcdkokaaGreatDoor
open Lib (hid)
open Go.RowKit
theorem plainU8:Tryz.prog.plainKey 5=true:=by kernel_rfl
theorem cellsU8':Tryz.prog.cellsOf 5=1:=by kernel_rfl
theorem sec_eq {s:List UInt8} (hs:s.length=128) (w:World):(Op.equalIn 10000 187 (.agg (bvs s).toArray) (.agg (bvs s).toArray)).run Tryz.prog w=.ok true w:=by
 obtain⟨i0,hi,_,_,_⟩:=info_parts zCV;rw [show (10000:Nat)=9999+1 from rfl,run_equalIn_array w 9999 _ _ Tryz.underlying187 hi,cellsU8']
 have h:∀ is:List Nat,(∀ i∈is,i<128)→(Op.eqItems 9999 5 1 (bvs s).toArray (bvs s).toArray is).run Tryz.prog w=.ok true w:=by
  intro is
  induction is with
  | nil=>intro _;simp [Op.eqItems]
  | cons i is ih =>
   intro fA
   have hi:i<s.length:=by rw [hs];exact fA i List.mem_cons_self
   have hp:(part 5 (bvs s).toArray (i * 1)).run Tryz.prog w=.ok (.int .u8 (s[i].toNat:Int)) w:=run_part_plain w plainU8 (by rw [Nat.mul_one,List.getElem?_toArray];exact zCO s i hi);have he:=run_equalIn_int (P:=Tryz.prog) w 9998 5 .u8 .u8 (s[i].toNat:Int) (s[i].toNat:Int) Tryz.underlying5;simp only [Op.eqItems,Sem.run_bind,hp,Result.andThen_ok,he,beq_self_eq_true,Bool.not_true,Bool.false_eq_true,if_false];exact ih fun j hj=>fA j (List.mem_cons_of_mem _ hj)
 exact h _ fun i hi=>List.mem_range.1 hi
theorem zJR:Tryz.prog.eqGuardType Tryz.prog.depth 187=false:=by kernel_rfl
theorem zAJ {P:Program} {ops:Array Oper} {Q:Exit→Act→World→Prop} {a:Act} {w:World} {rest:List Oper} {o:Oper} (hw:Region.wanted o (yielded ops a.tmps)=true)
 (h:∀ K:Act→World→Prop,(∀ a' w',wpList P ops Q rest a' w'→K a' w')→o.wp P a w K Q):wpList P ops Q (o::rest) a w:=by
 exact wpList_step fun K hK=>by rw [if_pos hw];exact h K hK
theorem zEk (i:Nat) (nm:ByteArray) (h:nm.size≤40):encS i nm=zB7 i 4++(zB7 nm.size 1++(nm.data.toList++zBN.drop (5+nm.size))):=by
 have hS:zH7 (zH7 zBN 0 4 i) 4 1 nm.size=zB7 i 4++(zB7 nm.size 1++zBN.drop 5):=by
  have h1:zH7 zBN 0 4 i=zB7 i 4++zBN.drop 4:=by simp [zH7]
  have hl:(zB7 (i:Int) 4).length=4:=zA2 _ _;rw [h1];simp only [zH7];rw [List.take_left' hl,List.drop_append,hl,List.drop_of_length_le (by omega),List.nil_append,List.drop_drop]
 unfold encS;rw [hS];have fA:(zB7 (i:Int) 4).length=4:=zA2 _ _;have fB:(zB7 (nm.size:Int) 1).length=1:=zA2 _ _
 have e1:(zB7 (i:Int) 4++(zB7 nm.size 1++zBN.drop 5)).take 5=zB7 i 4++zB7 nm.size 1:=by
  rw [←List.append_assoc,List.take_left' (by rw [List.length_append];omega)]
 have e2:(zB7 (i:Int) 4++(zB7 nm.size 1++zBN.drop 5)).drop (5+nm.size)=zBN.drop (5+nm.size):=by
  rw [←List.append_assoc,List.drop_append,List.drop_of_length_le (by rw [List.length_append];omega),List.nil_append,List.length_append,List.drop_drop]
  congr 1
  omega
 show List.take 5 _++(_++List.drop (5+nm.size) _)=_
 rw [e1,e2,List.append_assoc]
theorem zFJ (i:Nat) (nm:ByteArray) (h:nm.size≤40):(encS i nm).length=128:=by
 have hn:nm.data.toList.length=nm.size:=by rw [Array.length_toList];rfl
 rw [zEk i nm h];simp only [List.length_append,zA2,List.length_drop,zAt,hn];omega
theorem enc_ino (i:Nat) (nm:ByteArray) (h:nm.size≤40) (hi:i≤512):zGp (((encS i nm).drop 0).take 4)=i:=by
 rw [zEk i nm h,List.drop_zero,List.take_left' (zA2 _ _),zGM 4 _ (by omega),Int.emod_eq_of_lt (by omega) (by simp;omega)];rfl
theorem enc_size (i:Nat) (nm:ByteArray) (h:nm.size≤40):zGp (((encS i nm).drop 4).take 1)=nm.size:=by
 rw [zEk i nm h,List.drop_left' (zA2 _ _),List.take_left' (zA2 _ _),zGM 1 _ (by omega),Int.emod_eq_of_lt (by omega) (by simp;omega)];rfl
theorem enc_name (i:Nat) (nm:ByteArray) (h:nm.size≤40) (k:Nat) (hk:k<nm.size):(encS i nm)[5+k]? = some nm[k]:=by
 have hn:nm.data.toList.length=nm.size:=by rw [Array.length_toList];rfl
 have e:encS i nm=(zB7 (i:Int) 4++zB7 nm.size 1)++(nm.data.toList++zBN.drop (5+nm.size)):=by rw [zEk i nm h,List.append_assoc]
 have hl:(zB7 (i:Int) 4++zB7 (nm.size:Int) 1).length=5:=by rw [List.length_append,zA2,zA2]
 rw [e,List.getElem?_append_right (by omega),hl,show 5+k-5=k by omega,List.getElem?_append_left (by omega),List.getElem?_eq_getElem (by omega)];rfl
theorem zD9 (i:Nat) (nm:ByteArray) (s:List UInt8) (w:World) (jQ:nm.size≤40) (fA:s.length=128) (gE:zGp ((s.drop 0).take 4)=i) (gF:zGp ((s.drop 4).take 1)=nm.size)
 (fC:∀ k (hk:k<nm.size),s[5+k]? = some nm[k])
 (gG:∀ w:World,Calls Tryz.prog 136 #[.agg #[.int .i64 i,.string nm]] w fun e w'=>e=.returned (.tuple #[zB8 s,.int .i64 0])∧Below w.heap.size w w') :
 Calls Tryz.prog 118 #[zB8 s] w fun e w'=>e=.returned (.tuple #[.agg #[.int .i64 i,.string nm],.int .i64 0])∧Below w.heap.size w w':=by
 have jA:=hid fC
 have jB:decide ((nm.size:Int)≤40)=true:=by simp;omega
 have fS:=hid gG;clear gG fC;unfold zB8;have fO:=(Blk.new w 187 (bvs s)).alloc (.cells #[.int .i64 0,.string ⟨#[]⟩] 179)
 have gH:Blk ((w.alloc (.cells (bvs s).toArray 187)).alloc (.cells #[.int .i64 0,.string ⟨#[]⟩] 179)) (w.heap.size+1) 179 [.int .i64 0,.string ⟨#[]⟩]:=by
  have:=Blk.new (w.alloc (.cells (bvs s).toArray 187)) 179 [.int .i64 0,.string ⟨#[]⟩];simpa using this
 have gI:Below w.heap.size w ((w.alloc (.cells (bvs s).toArray 187)).alloc (.cells #[.int .i64 0,.string ⟨#[]⟩] 179)):=((Below.refl _ _).alloc (Nat.le_refl _) _).alloc (by simp) _;go_enter Tryz.func118,Tryz.ntmps118;go_upto_region 1 with (fail);generalize (w.alloc (.cells (bvs s).toArray 187)).alloc (.cells #[.int .i64 0,.string ⟨#[]⟩] 179)=w0 at *;generalize hg:w.heap.size=g at *;have jC:=hid hg;clear hg
 go_wp2_with (first
  | (refine wpList_load_row rfl 187 (.tmp 1) rfl g rfl 187 (bvs s).toArray (0,0) _ fO Tryz.underlying187 rfl (zAE fA) ?_))
 have fT:=zIO s 0 4 w0 fA (by omega) (by omega);rw [gE] at fT;refine fT.mono ?_;rintro e w1 ⟨rfl,fP⟩;have fU:=fO.fresh fP;have fV:=gH.fresh fP;have fD:=gI.trans (fP.mono (Nat.le_of_lt fO.lt));have gJ:=Blk.new w1 179 [.int .i64 i,.string ⟨#[]⟩];have fQ:=fU.alloc (.cells #[.int .i64 i,.string ⟨#[]⟩] 179);have gK:=fV.alloc (.cells #[.int .i64 i,.string ⟨#[]⟩] 179);have fE:=fD.alloc (show g≤w1.heap.size by have:=fU.lt;omega) (.cells #[.int .i64 i,.string ⟨#[]⟩] 179);have jD:=fV.lt;clear fO gH gI fP fT fU fV fD gE;go_upto_region 2 with (fail);generalize w1.alloc (.cells #[.int .i64 i,.string ⟨#[]⟩] 179)=w2 at *;generalize w1.heap.size=x at *
 go_wp2_with (first
  | (refine wpList_load_row rfl 187 (.tmp 1) rfl g rfl 187 (bvs s).toArray (0,0) _ fQ Tryz.underlying187 rfl (zAE fA) ?_))
 have fW:=zIO s 4 1 w2 fA (by omega) (by omega);rw [gF] at fW;refine fW.mono ?_;rintro e w3 ⟨rfl,fF⟩;have gL:=fQ.fresh fF;have gM:=gK.fresh fF;have fX:Blk w3 x 179 [.int .i64 i,.string ⟨#[]⟩]:=gJ.fresh fF;have fG:=fE.trans (fF.mono (Nat.le_of_lt fQ.lt));clear fQ gK gJ fE fF fW gF;obtain⟨i0,jE,jF,jG,jH⟩:=info_parts zCV
 have gN:Hid (nm.data.toList.length=nm.size):=by show _=_;rw [Array.length_toList];rfl
 have jI:x<w3.heap.size:=fX.lt;go_wp2_with fail
 go_loopw [6,7] (fun v i wr=>∃ k:Nat,k≤nm.size∧i=.int .i64 k∧wr.ownsRow w3.heap.size 5 1 v k (bvs (nm.data.toList.take k))∧Below w3.heap.size w3 wr) (fun _ i _=>nm.size-(intOf i).toNat)
 case atStart=>exact⟨0,Nat.zero_le _,rfl,World.ownsRow_nil _ _ _ _,Below.refl _ _⟩
 case round =>
  obtain⟨k,hk,rfl,ho,hb⟩:=hrel;have jJ:=hb.size;have hB:=gL.fresh hb;by_cases jK:k<nm.size
  · have gO:=jA.out k jK
    have k1:wr.cell? ⟨g,5+k,none⟩=some (.int .u8 (nm[k].toNat:Int)):=by
     rw [hB.cell];unfold bvs;rw [List.getElem?_map,gO];rfl
    have jL:Hid (bvs (nm.data.toList.take (k+1))=bvs (nm.data.toList.take k)++[.int .u8 (nm[k].toNat:Int)]):=by
     show _=_
     rw [List.take_succ_eq_append_getElem (by have:=gN.out;omega),zB6];rfl
    clear gO hB;generalize nm[k]=y at *
    go_wp2_with (first
     | (at_builtin;refine zAk _ rfl (.tmp 22) (.tmp 27) _ _ rfl w3.heap.size 5 i0 (.int .u8 0) 1 1 Tryz.underlying64 jE jF jG jH rfl _ k _ rfl (ho.alloc _) 1 [.int .u8 (y.toNat:Int)] (zBH wr Tryz.underlying64 _ _ rfl) (by unfold maxLen;omega) (by omega) (by simp;omega) ?_;intro v' w4 jM gP fY))
    have fR:=(hb.alloc jJ (.cells #[.int .u8 (y.toNat:Int)] 5)).grown gP (by simp;omega) (fun g hg=>(ho.lt g hg).1);clear ho gP fY;go_wp2;go_roundw
    case rel=>exact⟨k+1,by omega,by go_num,by rw [jL.out];exact jM,fR⟩
    case measure=>simp [intOf];omega
  · obtain rfl:k=nm.size:=by omega
    have fH:=zEH (P:=Tryz.prog) Tryz.underlying64 Tryz.underlying5 ho 9 Tryz.underlying9
    have gQ:(⟨(nm.data.toList.take nm.size).toArray⟩:ByteArray)=nm:=by
     rw [List.take_of_length_le (by rw [gN.out];exact Nat.le_refl _)]
    rw [gQ] at fH;have hX:=fX.fresh hb;have hR:=gM.fresh hb;have y0:wr.cell? ⟨x,0,none⟩=some (.int .i64 i):=hX.cell 0;have y1:wr.cell? ⟨x,1,none⟩=some (.string ⟨#[]⟩):=hX.cell 1;have f1:=hX.frozen 1;have gR:Blk (wr.setCell ⟨x,1,none⟩ (.string nm)) x 179 [.int .i64 i,.string nm]:=hX.set_ 1 (.string nm);have gS:=hB.far (p:=⟨x,1,none⟩) (show g≠x by omega) (.string nm);have gT:=hR.far (p:=⟨x,1,none⟩) (show g+1≠x by omega) (.string nm);have fR:=fG.trans ((hb.mono (show g≤w3.heap.size by omega)).setCell (p:=⟨x,1,none⟩) (show g≤x by omega) (.string nm));have fI:=hid gR;have fB:=hid gS;have fJ:=hid gT;have fK:=hid fR;clear hX hB hR gR gS gT fR gL gM fX fG ho hb gQ;go_wp2_with fail;generalize wr.setCell ⟨x,1,none⟩ (.string nm)=w5 at *;refine (fS.out w5).mono ?_;rintro e w6 ⟨rfl,fL⟩;have fZ:=fI.out.fresh fL;have gA:=fB.out.fresh fL;have gU:=fJ.out.fresh fL;have fM:=fK.out.trans (fL.mono (Nat.le_of_lt fB.out.lt));clear fI fB fJ fK fL y0 y1 f1 fH;unfold zB8;have gB:=zBh (w:=w6) rfl;have gV:=fZ.alloc (.cells Tryz.zeroCells187 187);have gW:=gA.alloc (.cells Tryz.zeroCells187 187);have gX:=gU.alloc (.cells Tryz.zeroCells187 187);have gY:=fM.alloc (show g≤w6.heap.size from Nat.le_of_lt gA.lt) (.cells Tryz.zeroCells187 187);have jR:=fZ.lt
    have gC:(w6.alloc (.cells Tryz.zeroCells187 187)).heap.size=w6.heap.size+1:=by simp
    clear fZ gA gU fM
    go_upto_region 11 with (first
     | (refine wpList_store_row rfl 187 (.tmp 8) (.tmp 35) rfl w6.heap.size (bvs s).toArray rfl rfl 187 _ gB (zAE fA) (by rw [List.size_toArray,List.size_toArray,zAe,zAe,zAt,fA]) (zBc s) ?_))
    have jS:¬g=w6.heap.size:=by omega
    have jN:Blk ((w6.alloc (.cells Tryz.zeroCells187 187)).setRow w6.heap.size (bvs s).toArray) w6.heap.size 187 (bvs s):=setRow_heap _ w6.heap.size _ _ _ _ gB;have jO:Blk ((w6.alloc (.cells Tryz.zeroCells187 187)).setRow w6.heap.size (bvs s).toArray) g 187 (bvs s):=(setRow_other _ w6.heap.size g _ (by omega)).trans gW;have gZ:Blk ((w6.alloc (.cells Tryz.zeroCells187 187)).setRow w6.heap.size (bvs s).toArray) x 179 [.int .i64 i,.string nm]:=(setRow_other _ w6.heap.size x _ (by omega)).trans gV;have fN:Blk ((w6.alloc (.cells Tryz.zeroCells187 187)).setRow w6.heap.size (bvs s).toArray) (g+1) 179 [.int .i64 0,.string ⟨#[]⟩]:=(setRow_other _ w6.heap.size (g+1) _ (by omega)).trans gX;have jP:=gY.trans (((Chg.refl (fun b=>b=w6.heap.size) (w6.alloc (.cells Tryz.zeroCells187 187))).setRow (g:=w6.heap.size) (fun _=>rfl) (bvs s).toArray).below (B:=g) (by omega) (fun b hb e=>by omega));have hm:=zJR;clear gB gW gV gX gY gC;generalize (w6.alloc (.cells Tryz.zeroCells187 187)).setRow w6.heap.size (bvs s).toArray=w8 at *;generalize w6.heap.size=z at *;have jT:=sec_eq fA w8;have y0:w8.cell? ⟨x,0,none⟩=some (.int .i64 i):=gZ.cell 0;have y1:w8.cell? ⟨x,1,none⟩=some (.string nm):=gZ.cell 1;have q0:w8.cell? ⟨g+1,0,none⟩=some (.int .i64 0):=fN.cell 0;have q1:w8.cell? ⟨g+1,1,none⟩=some (.string ⟨#[]⟩):=fN.cell 1;have f0:=fN.frozen 0;have f1:=fN.frozen 1
    go_wp2_with (first
     | (refine zAJ (by rfl) (fun _ hK=>wp_load_row 187 (.tmp 8) rfl z rfl 187 (bvs s).toArray (0,0) _ jN Tryz.underlying187 rfl (zAE fA) (hK _ _ ?_)))
     | (refine zAJ (by rfl) (fun _ hK=>wp_load_row 187 (.tmp 1) rfl g rfl 187 (bvs s).toArray (0,0) _ jO Tryz.underlying187 rfl (zAE fA) (hK _ _ ?_))))
    have gD:Blk _ (g+1) 179 [.int .i64 i,.string nm]:=(fN.set_ 0 (.int .i64 i)).set_ 1 (.string nm);refine bodyPost_ret (zAA rfl _ _ (g+1) 179 #[.int .i64 i,.string nm] (0,0) _ rfl gD Tryz.underlying179 rfl (by kernel_rfl)) rfl ⟨rfl,?_⟩;rw [jC.out];exact (jP.setCell (p:=⟨g+1,0,none⟩) (show g≤g+1 by omega) _).setCell (p:=⟨g+1,1,none⟩) (show g≤g+1 by omega) _
theorem zCQ (w:World) :
 Calls Tryz.prog 136 #[.agg #[.int .i64 0,.string ⟨#[]⟩]] w fun e w'=>e=.returned (.tuple #[zB8 zBN,.int .i64 0])∧Below w.heap.size w w':=by
 go_enter Tryz.func136,Tryz.ntmps136;go_upto_region 3 with (fail);have hR:Blk (((w.alloc (.cells #[.int .i64 0,.string ⟨#[]⟩] 179)).alloc (.cells Tryz.zeroCells187 187)).alloc (.cells Tryz.zeroCells187 187)) (w.heap.size+1) 187 (bvs zBN):=(zBh (w:=w.alloc (.cells #[.int .i64 0,.string ⟨#[]⟩] 179)) (by simp)).alloc _;have hS:Blk (((w.alloc (.cells #[.int .i64 0,.string ⟨#[]⟩] 179)).alloc (.cells Tryz.zeroCells187 187)).alloc (.cells Tryz.zeroCells187 187)) (w.heap.size+1+1) 187 (bvs zBN):=zBh (w:=(w.alloc (.cells #[.int .i64 0,.string ⟨#[]⟩] 179)).alloc (.cells Tryz.zeroCells187 187)) (by simp)
 have hb:Below w.heap.size w (((w.alloc (.cells #[.int .i64 0,.string ⟨#[]⟩] 179)).alloc (.cells Tryz.zeroCells187 187)).alloc (.cells Tryz.zeroCells187 187)) :=
  (((Below.refl _ _).alloc (Nat.le_refl _) _).alloc (by simp) _).alloc (by simp;omega) _
 generalize ((w.alloc (.cells #[.int .i64 0,.string ⟨#[]⟩] 179)).alloc (.cells Tryz.zeroCells187 187)).alloc (.cells Tryz.zeroCells187 187)=w0 at *;generalize hg:w.heap.size=g at *;have fB:=hid hg;clear hg
 go_wp2_with (first
  | (refine wpList_load_row rfl 187 (.tmp 4) rfl (g+1+1) rfl 187 (bvs zBN).toArray (0,0) _ hS Tryz.underlying187 rfl (zAE zAt) ?_)
  | (refine wpList_store_row rfl 187 (.tmp 2) (.tmp 14) rfl (g+1) (bvs zBN).toArray rfl rfl 187 _ hR (zAE zAt) rfl (zBc zBN) ?_))
 have fA:Blk (w0.setRow (g+1) (bvs zBN).toArray) (g+1) 187 (bvs zBN):=setRow_heap w0 (g+1) _ _ _ _ hR;refine bodyPost_ret (zAA rfl _ _ (g+1) 187 (bvs zBN).toArray (0,0) _ rfl fA Tryz.underlying187 rfl (zAE zAt)) rfl ⟨rfl,?_⟩;rw [fB.out];exact hb.trans (((Chg.refl (fun b=>b=g+1) w0).setRow (g:=g+1) (fun _=>rfl) _).below (by have:=hR.lt;omega) (fun b hb e=>by omega))
abbrev Slt:=Option (Nat×ByteArray)
def zGH:Slt→Prop
 | none=>True
 | some (i,nm)=>zEd i nm
def zFo:Slt→List UInt8
 | none=>zBN
 | some (i,nm)=>encS i nm
def zB3:Slt→Nat
 | none=>0
 | some (i,_)=>i
def zCh:Slt→ByteArray
 | none=>⟨#[]⟩
 | some (_,nm)=>nm
def zGn (o:Slt):Value:=.agg #[.int .i64 (zB3 o),.string (zCh o)]
theorem zEN (o:Slt) (h:zGH o):(zFo o).length=128:=by
 cases o with
 | none=>exact zAt
 | some x=>exact zFJ x.1 x.2 h.2.2.1.2
theorem zE7 (o:Slt) (w:World) (h:zGH o) :
 Calls Tryz.prog 136 #[zGn o] w fun e w'=>e=.returned (.tuple #[zB8 (zFo o),.int .i64 0])∧Below w.heap.size w w':=by
 cases o with
 | none=>exact zCQ w
 | some x=>exact zCU x.1 x.2 w h
theorem zCk (o:Slt) (w:World) (h:zGH o) :
 Calls Tryz.prog 118 #[zB8 (zFo o)] w fun e w'=>e=.returned (.tuple #[zGn o,.int .i64 0])∧Below w.heap.size w w':=by
 cases o with
 | none=>exact zD9 0 ⟨#[]⟩ zBN w (by decide) zAt (by decide +kernel) (by decide +kernel) (fun k hk=>absurd hk (by simp [ByteArray.size])) zCQ
 | some x =>
  have fA:=h.2.2.1.2;exact zD9 x.1 x.2 _ w fA (zFJ x.1 x.2 fA) (enc_ino x.1 x.2 fA h.2.1) (enc_size x.1 x.2 fA) (fun k hk=>enc_name x.1 x.2 fA k hk) (fun w=>zCU x.1 x.2 w h)
structure Hd where
 ino:Int
 kind:Int
 links:Int
 size:Int
 made:Int
 birth:Int
 iA:Option Addr
 ic:Nat
 idx:List Nat
 dA:Option Addr
 dc:Nat
 dat:List (List UInt8)
def nats (l:List Nat):List Value:=l.map fun (n:Nat)=>Value.int .i64 (n:Int)
theorem zBS (l:List Nat) (i:Nat) (h:i<l.length):(nats l)[i]? = some (.int .i64 (l[i]:Int)):=by simp [nats,h]
def secs (l:List (List UInt8)):List Value:=l.flatMap bvs
def zAb (x:Hd):List Value :=
 [.int .i64 x.ino,.int .i64 x.kind,.int .i64 x.links,.int .i64 x.size,.int .i64 x.made,.int .i64 x.birth,.slice x.iA x.idx.length x.ic,.slice x.dA x.dat.length x.dc]
def hdV (x:Hd):Value:=.agg (zAb x).toArray
structure HdAt (w:World) (B:Nat) (x:Hd):Prop where
 len:x.dat.length=x.idx.length
 sec:∀ s∈x.dat,s.length=128
 idx:Sees w B 1 x.iA x.idx.length (nats x.idx)
 dat:Sees w B 128 x.dA x.dat.length (secs x.dat)
structure Tr where
 sectors:Int
 inodes:Int
 births:Int
 A:Option Addr
 c:Nat
 l:List Hd
def trV (t:Tr):Value:=.agg #[.int .i64 t.sectors,.int .i64 t.inodes,.int .i64 t.births,.slice t.A t.l.length t.c]
structure TrAt (w:World) (B:Nat) (t:Tr):Prop where
 row:Sees w B 8 t.A t.l.length (t.l.flatMap zAb)
 hds:∀ x∈t.l,HdAt w B x
section
variable {w w1:World} {B B':Nat} {x:Hd} {t:Tr}
theorem HdAt.keep (h:HdAt w B x) (hk:∀ p:Addr,p.block<B→w1.cell? p=w.cell? p):HdAt w1 B x:=⟨h.len,h.sec,h.idx.keep hk,h.dat.keep hk⟩
theorem HdAt.below (h:HdAt w B x) (hb:Below B w w1):HdAt w1 B x:=h.keep fun _ hp=>hb.cell hp
theorem HdAt.more (h:HdAt w B x) (hB:B≤B'):HdAt w B' x:=⟨h.len,h.sec,h.idx.more hB,h.dat.more hB⟩
theorem TrAt.keep (h:TrAt w B t) (hk:∀ p:Addr,p.block<B→w1.cell? p=w.cell? p):TrAt w1 B t:=⟨h.row.keep hk,fun x hx=>(h.hds x hx).keep hk⟩
theorem TrAt.below (h:TrAt w B t) (hb:Below B w w1):TrAt w1 B t:=h.keep fun _ hp=>hb.cell hp
theorem TrAt.more (h:TrAt w B t) (hB:B≤B'):TrAt w B' t:=⟨h.row.more hB,fun x hx=>(h.hds x hx).more hB⟩
theorem TrAt.cell (h:TrAt w B t) (k:Nat) (hk:k<t.l.length):∃ b off,t.A=some ⟨b,off,none⟩∧b<B∧∀ j u,j<8→(zAb t.l[k])[j]? = some u→w.cell? ⟨b,off+k * 8+j,none⟩=some u:=by
 obtain⟨b,off,e,hb,hc⟩:=h.row.at_ (by omega);refine⟨b,off,e,hb,fun j u hj hu=>?_⟩;rw [Nat.add_assoc];exact hc (k * 8+j) u ((zDd zAb 8 t.l (fun _ _=>rfl) k hk j hj).trans hu)
theorem HdAt.sec_cell (h:HdAt w B x) (k:Nat) (hk:k<x.dat.length):∃ b off,x.dA=some ⟨b,off,none⟩∧b<B∧w.rangeAt b (off+k * 128) (bvs x.dat[k]):=by
 obtain⟨b,off,e,hb,hc⟩:=h.dat.at_ (by omega);refine⟨b,off,e,hb,fun j v hv=>?_⟩
 have hl:∀ s∈x.dat,(bvs s).length=128:=fun s hs=>by rw [zAe];exact h.sec s hs
 have hj:j<128:=by
  rcases Nat.lt_or_ge j 128 with h' | h'
  · exact h'
  · rw [List.getElem?_eq_none (by rw [hl _ (List.getElem_mem hk)];exact h')] at hv;cases hv
 rw [Nat.add_assoc];exact hc (k * 128+j) v ((zDd bvs 128 x.dat hl k hk j hj).trans hv)
end
def RAt (l:List Hd) (i:Int) (w:World) (e:Ending) (w':World):Prop :=
 ((∃ k,∃ h:k<l.length,l[k].ino=i∧(∀ j (hj:j<k),l[j].ino≠i)∧e=.returned (.int .i64 k))∨((∀ x∈l,x.ino≠i)∧e=.returned (.int .i64 (-1))))∧Below w.heap.size w w'
theorem at_any (B:Nat) (t:Tr) (i:Int) (w:World) (ht:TrAt w B t) (hB:B≤w.heap.size) (hl:t.l.length≤1000000000) :
 Calls Tryz.prog 111 #[trV t,.int .i64 i] w (RAt t.l i w):=by
 have fI:=Blk.new w 28 [.int .i64 t.sectors,.int .i64 t.inodes,.int .i64 t.births,.slice t.A t.l.length t.c];have fE:Below w.heap.size w (w.alloc (.cells #[.int .i64 t.sectors,.int .i64 t.inodes,.int .i64 t.births,.slice t.A t.l.length t.c] 28)):=(Below.refl _ _).alloc (Nat.le_refl _) _;have fJ:=(ht.more hB).below fE;unfold trV;go_enter Tryz.func111,Tryz.ntmps111;go_upto_region 1 with (fail);generalize w.alloc (.cells #[.int .i64 t.sectors,.int .i64 t.inodes,.int .i64 t.births,.slice t.A t.l.length t.c] 28)=w0 at *;have x3:w0.cell? ⟨w.heap.size,3,none⟩=some (.slice t.A t.l.length t.c):=fI.cell 3;clear fI;obtain⟨len,fB⟩:∃ len,len=t.l.length:=⟨_,rfl⟩;have fA:=hid fB;rw [←fB] at hl x3;clear fB;go_wp2
 go_loop [5] (fun i'=>∃ k:Nat,k≤len∧i'=.int .i64 k∧Hid (∀ j (hj:j<k) (h:j<t.l.length),t.l[j].ino≠i)) (fun i'=>len-(intOf i').toNat)
 case atStart=>exact⟨0,Nat.zero_le _,rfl,fun j hj=>absurd hj (by omega)⟩
 case round =>
  obtain⟨k,hk,rfl,fC⟩:=hrel;by_cases fK:k<len
  · have fD:k<t.l.length:=by have:=fA.out;omega
    obtain⟨b,off,hA,fL,hc⟩:=fJ.cell k fD;have c0:w0.cell? ⟨b,off+k * 8,none⟩=some (.int .i64 t.l[k].ino):=hc 0 _ (by omega) rfl;rw [hA] at x3;clear hA hc;by_cases he:t.l[k].ino=i
    · have fF:=hid (show ∃ k',∃ h:k'<t.l.length,t.l[k'].ino=i∧(∀ j (hj:j<k'),t.l[j].ino≠i)∧(k':Int)=k from ⟨k,fD,he,fun j hj=>fC.out j hj (by omega),rfl⟩);rw [he] at c0;clear he fC;go_wp2;go_ret;obtain⟨k',h1,h2,h3,h4⟩:=fF.out;exact⟨.inl ⟨k',h1,h2,h3,by rw [h4];rfl⟩,fE⟩
    · have fM:(t.l[k].ino==i)=false:=by simpa using he
      have fG:Hid (∀ j (hj:j<k+1) (h:j<t.l.length),t.l[j].ino≠i):=fun j hj h=>by
       by_cases e:j=k
       · subst e;exact he
       · exact fC.out j (by omega) h
      clear he;generalize t.l[k].ino=y at *;go_wp2;go_round
      case rel=>exact⟨k+1,by omega,by go_num,fG⟩
      case measure=>simp [intOf];omega
  · obtain rfl:k=len:=by omega
    have fH:Hid (∀ x∈t.l,x.ino≠i):=fun x hx=>by
     obtain⟨j,hj,rfl⟩:=List.getElem_of_mem hx;exact fC.out j (by have:=fA.out;omega) hj
    clear fC;go_wp2;go_ret;exact⟨.inr ⟨fH.out,rfl⟩,fE⟩
def RBlk (x:Hd) (k:Nat) (w:World) (e:Ending) (w':World):Prop :=
 ((∃ j,∃ h:j<x.idx.length,∃ h':j<x.dat.length,x.idx[j]=k∧(∀ i (hi:i<j),x.idx[i]≠k)∧e=.returned (.tuple #[zB8 x.dat[j],.bool true]))∨((∀ i∈x.idx,i≠k)∧e=.returned (.tuple #[zB8 zBN,.bool false])))∧Below w.heap.size w w'
theorem zG1 (B:Nat) (x:Hd) (k:Nat) (w:World) (hx:HdAt w B x) (hB:B≤w.heap.size) (hl:x.idx.length≤1000000000) :
 Calls Tryz.prog 119 #[hdV x,.int .i64 k] w (RBlk x k w):=by
 have fJ:=(Blk.new w 123 (zAb x)).alloc (.cells Tryz.zeroCells187 187);have fE:Blk ((w.alloc (.cells (zAb x).toArray 123)).alloc (.cells Tryz.zeroCells187 187)) (w.heap.size+1) 187 (bvs zBN):=zBh (by simp);have fK:Below w.heap.size w ((w.alloc (.cells (zAb x).toArray 123)).alloc (.cells Tryz.zeroCells187 187)):=((Below.refl _ _).alloc (Nat.le_refl _) _).alloc (by simp) _;have fF:=(hx.more hB).below fK;unfold hdV;go_enter Tryz.func119,Tryz.ntmps119;go_upto_region 1 with (fail);generalize (w.alloc (.cells (zAb x).toArray 123)).alloc (.cells Tryz.zeroCells187 187)=w0 at *;have x6:w0.cell? ⟨w.heap.size,6,none⟩=some (.slice x.iA x.idx.length x.ic):=fJ.cell 6;have x7:w0.cell? ⟨w.heap.size,7,none⟩=some (.slice x.dA x.dat.length x.dc):=fJ.cell 7;clear fJ;generalize hg:w.heap.size=g at *;have fO:=hid hg;clear hg;obtain⟨len,fB⟩:∃ len,len=x.idx.length:=⟨_,rfl⟩;have fA:=hid fB;rw [fF.len] at x7;rw [←fB] at hl x6 x7;clear fB;generalize fQ:(zAb x).toArray=cx at *;clear fQ;go_wp2
 go_loop [6] (fun i'=>∃ i:Nat,i≤len∧i'=.int .i64 i∧Hid (∀ j (hj:j<i) (h:j<x.idx.length),x.idx[j]≠k)) (fun i'=>len-(intOf i').toNat)
 case atStart=>exact⟨0,Nat.zero_le _,rfl,fun j hj=>absurd hj (by omega)⟩
 case round =>
  obtain⟨i,hi,rfl,fG⟩:=hrel;by_cases fT:i<len
  · have fH:i<x.idx.length:=by have:=fA.out;omega
    have fC:i<x.dat.length:=by have:=fA.out;have:=fF.len;omega
    obtain⟨b,off,hA,fU,hc⟩:=fF.idx.at_ (by omega);have c0:w0.cell? ⟨b,off+i,none⟩=some (.int .i64 (x.idx[i]:Int)):=hc i _ (zBS x.idx i fH);rw [hA] at x6;by_cases he:x.idx[i]=k
    · obtain⟨b2,off2,fP,fR,fS⟩:=fF.sec_cell i fC;have fI:=fF.sec _ (List.getElem_mem fC);have fL:=hid (show ∃ j,∃ h:j<x.idx.length,∃ h':j<x.dat.length,x.idx[j]=k∧(∀ i' (hi:i'<j),x.idx[i']≠k)∧x.dat[j]=x.dat[i] from ⟨i,fH,fC,he,fun j hj=>fG.out j hj (by omega),rfl⟩);rw [fP] at x7;rw [he] at c0;clear he fG hA hc fP;generalize x.dat[i]=s at *
      go_wp2_with (first
       | (refine wpList_load_mid rfl 187 (.tmp 24) rfl b2 (off2+i * 128) rfl (bvs s) _ fS Tryz.underlying187 rfl (by rw [zBd,zAe,fI]) ?_)
       | (refine wpList_store_row rfl 187 (.tmp 4) (.tmp 25) rfl (g+1) (bvs s).toArray rfl rfl 187 _ fE (zAE fI) (by rw [List.size_toArray,List.size_toArray,zAe,zAe,zAt,fI]) (zBc s) ?_))
      have fD:Blk (w0.setRow (g+1) (bvs s).toArray) (g+1) 187 (bvs s):=setRow_heap w0 (g+1) _ _ _ _ fE;obtain⟨j,h1,h2,h3,h4,h5⟩:=fL.out;refine bodyPost_ret (zAA rfl _ _ (g+1) 187 (bvs s).toArray (0,0) _ rfl fD Tryz.underlying187 rfl (zAE fI)) rfl ⟨.inl ⟨j,h1,h2,h3,h4,by rw [h5];rfl⟩,?_⟩;rw [fO.out];exact fK.trans (((Chg.refl (fun b=>b=g+1) w0).setRow (g:=g+1) (fun _=>rfl) _).below (by have:=fE.lt;omega) (fun b hb e=>by omega))
    · have fV:((x.idx[i]:Int)==(k:Int))=false:=by simp;omega
      have fM:Hid (∀ j (hj:j<i+1) (h:j<x.idx.length),x.idx[j]≠k):=fun j hj h=>by
       by_cases e:j=i
       · subst e;exact he
       · exact fG.out j (by omega) h
      clear he hA hc;generalize x.idx[i]=y at *;go_wp2;go_round
      case rel=>exact⟨i+1,by omega,by go_num,fM⟩
      case measure=>simp [intOf];omega
  · obtain rfl:i=len:=by omega
    have fN:Hid (∀ y∈x.idx,y≠k):=fun y hy=>by
     obtain⟨j,hj,rfl⟩:=List.getElem_of_mem hy;exact fG.out j (by have:=fA.out;omega) hj
    clear fG
    go_wp2_with (first
     | (refine wpList_store_row rfl 187 (.tmp 4) (.tmp 26) rfl (g+1) (bvs zBN).toArray rfl (by rfl) 187 _ fE (zAE zAt) rfl (zBc zBN) ?_))
    have fD:Blk (w0.setRow (g+1) (bvs zBN).toArray) (g+1) 187 (bvs zBN):=setRow_heap w0 (g+1) _ _ _ _ fE;refine bodyPost_ret (zAA rfl _ _ (g+1) 187 (bvs zBN).toArray (0,0) _ rfl fD Tryz.underlying187 rfl (zAE zAt)) rfl ⟨.inr ⟨fN.out,rfl⟩,?_⟩;rw [fO.out];exact fK.trans (((Chg.refl (fun b=>b=g+1) w0).setRow (g:=g+1) (fun _=>rfl) _).below (by have:=fE.lt;omega) (fun b hb e=>by omega))
structure Dir (x:Hd) (S:List Slt):Prop where
 dat:x.dat=S.map zFo
 ok:∀ o∈S,zGH o
theorem Dir.len {x:Hd} {S:List Slt} (h:Dir x S):x.dat.length=S.length:=by rw [h.dat,List.length_map]
theorem Dir.get {x:Hd} {S:List Slt} (h:Dir x S) (i:Nat) (hi:i<x.dat.length) (fA:i<S.length):x.dat[i]=zFo S[i]:=by
 have h1:x.dat[i]? = (S.map zFo)[i]?:=by rw [h.dat]
 simpa [hi,fA] using h1
def RFind (x:Hd) (S:List Slt) (nm:ByteArray) (w:World) (e:Ending) (w':World):Prop :=
 ((∃ j n,∃ h:j<x.idx.length,∃ h':j<S.length,S[j]=some (n,nm)∧(∀ i (hi:i<j) n',S[i]≠some (n',nm))∧e=.returned (.tuple #[.int .i64 (x.idx[j]:Int),.int .i64 (n:Int)])) ∨
  ((∀ n,some (n,nm) ∉ S)∧e=.returned (.tuple #[.int .i64 (-1),.int .i64 0])))∧Below w.heap.size w w'
theorem zI1 (B:Nat) (x:Hd) (S:List Slt) (nm:ByteArray) (w:World) (hx:HdAt w B x) (hD:Dir x S) (hB:B≤w.heap.size) (hl:x.idx.length≤1000000000) :
 Calls Tryz.prog 110 #[hdV x,.string nm] w (RFind x S nm w):=by
 have gB:=Blk.new w 123 (zAb x);have fT:Below w.heap.size w (w.alloc (.cells (zAb x).toArray 123)):=(Below.refl _ _).alloc (Nat.le_refl _) _;have gC:=(hx.more hB).below fT;unfold hdV;go_enter Tryz.func110,Tryz.ntmps110;go_upto_region 1 with (fail);generalize w.alloc (.cells (zAb x).toArray 123)=w0 at *;generalize hg:w.heap.size=g at *;have gD:=hid hg;clear hg;obtain⟨len,fD⟩:∃ len,len=x.idx.length:=⟨_,rfl⟩;have fA:=hid fD;rw [←fD] at hl;clear fD hx;generalize gJ:(zAb x).toArray=cx at *;clear gJ;go_wp2
 go_loopw [6] (fun i' wr=>∃ i:Nat,i≤len∧i'=.int .i64 i∧Hid (∀ j (hj:j<i) (h:j<S.length) n,S[j]≠some (n,nm))∧Blk wr g 123 (zAb x)∧HdAt wr g x∧Below g w wr) (fun i' _=>len-(intOf i').toNat)
 case atStart=>exact⟨0,Nat.zero_le _,rfl,fun j hj=>absurd hj (by omega),gB,gC,fT⟩
 case round =>
  obtain⟨i,hi,rfl,fE,hX,fC,hb⟩:=hrel;clear gB gC fT;have x6:wr.cell? ⟨g,6,none⟩=some (.slice x.iA x.idx.length x.ic):=hX.cell 6;have x7:wr.cell? ⟨g,7,none⟩=some (.slice x.dA x.dat.length x.dc):=hX.cell 7;rw [fC.len] at x7;rw [←fA.out] at x6 x7;have gR:=hX.lt;by_cases gS:i<len
  · have fF:i<x.idx.length:=by have:=fA.out;omega
    have fG:i<x.dat.length:=by have:=fA.out;have:=fC.len;omega
    have fU:i<S.length:=by have:=hD.len;omega
    obtain⟨b,off,hA,gT,hc⟩:=fC.idx.at_ (by omega);obtain⟨b2,off2,gE,gK,fV⟩:=fC.sec_cell i fG;have gF:=hc i _ (zBS x.idx i fF);have gG:=hD.ok _ (List.getElem_mem fU);have fW:=fC.sec _ (List.getElem_mem fG);rw [hD.get i fG fU] at fV fW;rw [gE] at x7;have fX:=hid (And.intro hA gF);clear hc gE hA gF;generalize ho:S[i]=o at *;have fY:=hid ho;clear ho
    go_wp2_with (first
     | (refine wpList_load_mid rfl 187 (.tmp 20) rfl b2 (off2+i * 128) rfl (bvs (zFo o)) _ fV Tryz.underlying187 rfl (by rw [zBd,zAe,fW]) ?_))
    refine (zCk o wr gG).mono ?_;rintro e w1 ⟨rfl,fP⟩;have fQ:=hX.fresh fP;have fJ:=fC.below (fP.mono (by omega));have fK:=hb.trans (fP.mono (by omega));have fR:=fQ.alloc (.cells #[.int .i64 (zB3 o),.string (zCh o)] 179);have fL:=Blk.new w1 179 [.int .i64 (zB3 o),.string (zCh o)];have fH:=fJ.below ((Below.refl g w1).alloc (by have:=fQ.lt;omega) (.cells #[.int .i64 (zB3 o),.string (zCh o)] 179));have fM:=fK.alloc (show g≤w1.heap.size by have:=fQ.lt;omega) (.cells #[.int .i64 (zB3 o),.string (zCh o)] 179);clear hX fC hb fP fQ fJ fK x6 x7 fV;unfold zGn
    have gL:(w1.alloc (.cells #[.int .i64 (zB3 o),.string (zCh o)] 179)).heap.size=w1.heap.size+1:=by simp
    have gU:=fR.lt;go_upto_region 5 with (fail)
    replace fL:Blk (w1.alloc (.cells #[.int .i64 (zB3 o),.string (zCh o)] 179)) w1.heap.size 179 [.int .i64 (zB3 o),.string (zCh o)]:=fL
    generalize w1.alloc (.cells #[.int .i64 (zB3 o),.string (zCh o)] 179)=w2 at *;generalize w1.heap.size=z at *;have o0:w2.cell? ⟨z,0,none⟩=some (.int .i64 (zB3 o)):=fL.cell 0;have o1:w2.cell? ⟨z,1,none⟩=some (.string (zCh o)):=fL.cell 1;have x6:w2.cell? ⟨g,6,none⟩=some (.slice x.iA x.idx.length x.ic):=fR.cell 6;rw [←fA.out] at x6
    have gM:w2.cell? ⟨b,off+i,none⟩=some (.int .i64 (x.idx[i]:Int)):=by
     obtain⟨b',off',fS,_,gN⟩:=fH.idx.at_ (by omega);have hA:=fX.out.1;rw [hA] at fS;injection fS with fS;injection fS with h1 h2;subst h1 h2;exact gN i _ (zBS x.idx i fF)
    rw [fX.out.1] at x6;have gH:=hid fR;have fN:=hid fH;have fO:=hid fM;clear fR fH fM fL fX fW
    have fB:Hid ((∀ n,o≠some (n,nm))→∀ j (hj:j<i+1) (h:j<S.length) n,S[j]≠some (n,nm)):=fun gI j hj h n=>by
     by_cases e:j=i
     · subst e;rw [fY.out];exact gI n
     · exact fE.out j (by omega) h n
    cases o with
    | none =>
     have fI:=hid (fB.out (fun n e=>by cases e));simp only [zB3,zCh] at o0 o1;clear fE fB;go_wp2;go_roundw
     case rel=>exact⟨i+1,by omega,by go_num,fI.out,gH.out,fN.out,fO.out⟩
     case measure=>simp [intOf];omega
    | some on =>
     obtain⟨n,nm2⟩:=on
     have gV:((n:Int) != 0)=true:=by
      have:=gG.1
      simp
      omega
     simp only [zB3,zCh] at o0 o1;by_cases he:nm2=nm
     · have fZ:=hid (show ∃ j n',∃ h:j<x.idx.length,∃ h':j<S.length,S[j]=some (n',nm)∧(∀ i' (hi:i'<j) n'',S[i']≠some (n'',nm))∧x.idx[j]=x.idx[i]∧n'=n from
        ⟨i,n,fF,fU,by rw [fY.out,he],fun i' gO n''=>fE.out i' gO (by omega) n'',rfl,rfl⟩)
       subst he;clear fE fB fY;generalize x.idx[i]=y at *
       have gP:(i:Int)<(len:Int):=by omega
       have gW:(0:Int)≤(i:Int):=by omega
       go_upto_region 6 with (fail)
       go_quiet (fail)
       go_wp2
       go_ret2
       obtain⟨j,n',h1,h2,h3,h4,h5,h6⟩:=fZ.out;refine⟨.inl ⟨j,n',h1,h2,h3,h4,by rw [h5,h6];rfl⟩,?_⟩;rw [gD.out];exact zAf fO.out _
     · have fI:=hid (fB.out (fun n' e=>by injection e with e;injection e with _ e;exact he e))
       have gI:(nm2.toList==nm.toList)=false:=by simpa using fun h=>he (zDm.1 h)
       have gQ:¬nm2.toList=nm.toList:=fun h=>he (zDm.1 h);clear fE fB he;go_wp2;go_roundw
       case rel=>exact⟨i+1,by omega,by go_num,fI.out,gH.out,fN.out,fO.out⟩
       case measure=>simp [intOf];omega
  · obtain rfl:i=len:=by omega
    have gA:Hid (∀ n,some (n,nm) ∉ S):=fun n hm=>by
     obtain⟨j,hj,e⟩:=List.getElem_of_mem hm;exact fE.out j (by have:=hD.len;have:=fC.len;have:=fA.out;omega) hj n e
    have fO:=hid hb;clear fE hX fC hb;go_wp2
    go_ret2
    refine⟨.inr ⟨gA.out,rfl⟩,?_⟩;rw [gD.out];exact fO.out
end Go.Proofs.YtolpcfhfcdkokaaGreatDoor
