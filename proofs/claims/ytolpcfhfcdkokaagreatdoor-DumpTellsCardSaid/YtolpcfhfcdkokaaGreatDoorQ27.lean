/- Joined out of TSeg..QRel. -/
import Derived.Test.YtolpcfhfcdkokaaGreatDoorQ24
set_option maxHeartbeats 16000000
set_option maxRecDepth 100000
namespace Go.Proofs.YtolpcfhfcdkokaaGreatDoor
open Lib (hid)
theorem zGB:∀ {s:List UInt8},nd s=false→0≤Lib.index s [47,47]
 | [],h=>by cases h
 | b::l,h=>by
  unfold Lib.index;by_cases hp:([47,47]:List UInt8).isPrefixOf (b::l)=true
  · rw [if_pos hp];exact Int.le_refl 0
  · rw [if_neg hp]
    have h2:nd l=false:=by
     rw [nd,Bool.and_eq_false_iff] at h;rcases h with h | h
     · exfalso
       apply hp
       cases l with
       | nil=>simp at h
       | cons c l=>simp at h;simp [h.1,h.2]
     · exact h
    have ih:=zGB h2
    have:¬(Lib.index l [47,47]==-1)=true:=fun e=>by have:=beq_iff_eq.1 e;omega
    simp only [this,Bool.false_eq_true,if_false];omega
theorem nd_two:∀ {s:List UInt8} {j:Nat},s[j]? = some 47→s[j+1]? = some 47→nd s=false
 | [],_,h,_=>by simp at h
 | b::l,0,h1,h2=>by
  simp at h1 h2
  rw [nd,h1,List.head?_eq_getElem?,h2];rfl
 | b::l,j+1,h1,h2=>by
  rw [nd,nd_two (s:=l) (j:=j) (by simpa using h1) (by simpa using h2),Bool.and_false]
theorem zFZ {p:ByteArray} (h:400<p.size∨p.data.toList[0]?≠some 47):spl p=([],70):=by
 unfold spl;rw [if_pos];refine h.imp id fun h=>?_;unfold Lib.hasPrefix
 cases hp:p.data.toList with
 | nil=>rfl
 | cons b r=>rw [hp] at h;simp at h;simp [List.isPrefixOf,Ne.symm h]
theorem spl_bad {p:ByteArray} {j:Nat} (h1:p.data.toList[j+1]? = some 47) (h2:p.data.toList[j]? = some 47∨j+2=p.size):spl p=([],70):=by
 have hl:=(List.getElem?_eq_some_iff.1 h1).1;rw [Array.length_toList] at hl;have hl:j+1<p.size:=hl;unfold spl;by_cases h0:400<p.size∨Lib.hasPrefix p.data.toList [47]=false
 · rw [if_pos h0]
 · have fA:p≠slash:=fun e=>by rw [e] at hl;exact absurd hl (by show ¬(j+1<1);omega)
   rw [if_neg h0,if_neg fA,if_pos];rcases h2 with h2 | h2
   · right
     unfold Lib.contains;exact decide_eq_true (zGB (nd_two h2 h1))
   · left
     unfold Lib.hasSuffix;rw [List.isSuffixOf_iff_suffix];refine⟨p.data.toList.take (j+1),?_⟩;rw [show ([47]:List UInt8)=p.data.toList.drop (j+1) from ?_,List.take_append_drop];rw [List.drop_eq_getElem_cons (by rw [Array.length_toList];exact hl),List.drop_eq_nil_of_le (by rw [Array.length_toList];show p.size≤_;omega)];obtain⟨h3,h4⟩:=List.getElem?_eq_some_iff.1 h1;rw [h4]
theorem spl_form {p:ByteArray} {ns:List ByteArray} (hs:p.size≤400) (h:p.data.toList=zCe ns) (hn:ns≠[]) (hc:∀ x∈ns,seg x):spl p=if ns.all chk=true then (ns,0) else ([],71):=by
 have e:p=pth ns:=zDe (by rw [zEq hn,h]);rw [e] at hs ⊢;exact spl_seg hc hs
theorem spl_one {p:ByteArray} (h:p.size=1) (h0:p.data.toList[0]? = some 47):spl p=([],0):=by
 have e:p=slash:=by
  apply zDe
  cases hp:p.data.toList with
  | nil=>rw [hp] at h0;cases h0
  | cons b r =>
   rw [hp] at h0
   have:r=[]:=by
    have hl:p.data.toList.length=1:=by rw [Array.length_toList];exact h
    rw [hp] at hl;exact List.eq_nil_of_length_eq_zero (by simpa using hl)
   simp at h0
   rw [h0,this];rfl
 rw [e];exact zJb
def zGC (out:List ByteArray) (b:UInt8):List ByteArray:=out.dropLast++[⟨((out.getLastD emp).data.toList++[b]).toArray⟩]
def zHN (p:List UInt8) (i:Nat) (out:List ByteArray):Prop:=(p[i-1]? = some 47∧zCe out++[47]=p.take i∨p[i-1]?≠some 47∧zCe out=p.take i∧out≠[])∧∀ x∈out,seg x
theorem pthL_addB {out:List ByteArray} (h:out≠[]) (b:UInt8):zCe (zGC out b)=zCe out++[b]:=by
 unfold zGC;rw [zB9]
 have e:out=out.dropLast++[out.getLastD emp]:=by
  rw [List.getLastD_eq_getLast?,List.getLast?_eq_some_getLast h];exact (List.dropLast_concat_getLast h).symm
 conv=>rhs;rw [e,zB9]
 simp [zCe]
theorem cutt_1 {p:List UInt8} (h:p[0]? = some 47):zHN p 1 []:=by
 refine⟨.inl ⟨h,?_⟩,fun x hx=>by cases hx⟩
 cases p with
 | nil=>cases h
 | cons b r=>simp at h;simp [zCe,h]
section
variable {p:List UInt8} {i:Nat} {out:List ByteArray} {b:UInt8}
theorem zHN.slash (h:zHN p i out) (hb:p[i]? = some 47) (hn:p[i-1]?≠some 47):zHN p (i+1) out:=by
 obtain⟨hl,e⟩:=List.getElem?_eq_some_iff.1 hb;refine⟨.inl ⟨hb,?_⟩,h.2⟩;rcases h.1 with ⟨h1,_⟩ | ⟨_,h2,_⟩
 · exact absurd h1 hn
 · rw [h2,List.take_succ_eq_append_getElem hl,e]
theorem zIp {x:ByteArray} (h:(47:UInt8) ∉ x.data.toList) (hb:b≠47):seg ⟨(x.data.toList++[b]).toArray⟩:=by
 refine⟨by simp,?_⟩;simp only [List.mem_append,List.mem_singleton,not_or];exact⟨h,Ne.symm hb⟩
theorem zHN.first (h:zHN p i out) (hb:p[i]? = some b) (fA:b≠47) (hn:p[i-1]? = some 47):zHN p (i+1) (zGC (out++[emp]) b):=by
 obtain⟨hl,e⟩:=List.getElem?_eq_some_iff.1 hb
 have e2:zGC (out++[emp]) b=out++[⟨[b].toArray⟩]:=by
  unfold zGC;rw [List.dropLast_concat,List.getLastD_eq_getLast?,List.getLast?_concat];rfl
 rw [e2];refine⟨.inr ⟨by rw [Nat.add_sub_cancel,hb];simpa using fA,?_,by simp⟩,fun x hx=>?_⟩
 · rcases h.1 with ⟨_,h2⟩ | ⟨h1,_⟩
   · rw [zB9,List.take_succ_eq_append_getElem hl,←h2,e];simp [zCe]
   · exact absurd hn h1
 · rcases List.mem_append.1 hx with hx | hx
   · exact h.2 x hx
   · rw [List.mem_singleton.1 hx];exact zIp (x:=emp) (by intro h;cases h) fA
theorem zHN.more (h:zHN p i out) (hb:p[i]? = some b) (fA:b≠47) (hn:p[i-1]?≠some 47):out≠[]∧zHN p (i+1) (zGC out b):=by
 obtain⟨hl,e⟩:=List.getElem?_eq_some_iff.1 hb;rcases h.1 with ⟨h1,_⟩ | ⟨_,h2,h3⟩
 · exact absurd h1 hn
 refine⟨h3,.inr ⟨by rw [Nat.add_sub_cancel,hb];simpa using fA,?_,?_⟩,fun x hx=>?_⟩
 · rw [pthL_addB h3,List.take_succ_eq_append_getElem hl,h2,e]
 · unfold zGC;simp
 · unfold zGC at hx;rcases List.mem_append.1 hx with hx | hx
   · exact h.2 x ((List.dropLast_sublist out).subset hx)
   · rw [List.mem_singleton.1 hx];refine zIp (h.2 _ ?_).2 fA;rw [List.getLastD_eq_getLast?,List.getLast?_eq_some_getLast h3];exact List.getLast_mem h3
theorem zHN.all (h:zHN p p.length out) (hl:p[p.length-1]?≠some 47):p=zCe out∧out≠[]:=by
 rcases h.1 with ⟨h1,_⟩ | ⟨_,h2,h3⟩
 · exact absurd h1 hl
 · rw [List.take_length] at h2;exact⟨h2.symm,h3⟩
end
open Go.RowKit
theorem chk_byte {x:ByteArray} {k:Nat} (h:k<x.size) (hb:x[k].toNat=0∨x[k].toNat=47):chk x=false:=by
 unfold chk;refine decide_eq_false fun hc=>?_
 have hm:x[k]'h∈x.data.toList:=by
  rw [Array.mem_toList_iff];exact Array.getElem_mem _
 have h2:=hc.2.2.2.2 _ hm;rcases hb with hb | hb
 · exact h2.1 (UInt8.toNat_inj.1 hb)
 · exact h2.2 (UInt8.toNat_inj.1 hb)
theorem zD5 {x:ByteArray} {k:Nat} (h:k<x.size):x.data.toList[k]? = some x[k]:=by
 rw [Array.getElem?_toList,Array.getElem?_eq_getElem h];rfl
theorem dots_two {x:ByteArray} (h:∀ k (h:k<x.size),x[k].toNat=46) (h1:1≤x.size) (h2:x.size≤2):chk x=false:=by
 have hl:x.data.toList.length=x.size:=Array.length_toList;rcases Nat.lt_or_ge x.size 2 with h3 | h3
 · have:x=⟨#[46]⟩:=zDe (List.ext_getElem? fun k=>by
    by_cases hk:k<x.size
    · rw [zD5 hk]
      have:k=0:=by omega
      subst this
      show some x[0]=some 46
      rw [UInt8.toNat_inj.1 (show x[0].toNat=(46:UInt8).toNat from h 0 hk)]
    · rw [List.getElem?_eq_none (by omega),List.getElem?_eq_none (by show [46].length≤k;simp;omega)])
   rw [this];exact zI5
 · have:x=⟨#[46,46]⟩:=zDe (List.ext_getElem? fun k=>by
    by_cases hk:k<x.size
    · rw [zD5 hk];have e:=UInt8.toNat_inj.1 (show x[k].toNat=(46:UInt8).toNat from h k hk)
      have:k=0∨k=1:=by omega
      rw [e];rcases this with rfl | rfl<;>rfl
    · rw [List.getElem?_eq_none (by omega),List.getElem?_eq_none (by show [46,46].length≤k;simp;omega)])
   rw [this];exact zI6
theorem zJz (x:ByteArray) (w:World):Calls Tryz.prog 75 #[.string x] w fun e w'=>e=.returned (chkV x)∧w=w':=by
 obtain⟨cv,fD⟩:∃ cv:Int,(if chk x=true then (0:Int) else 71)=cv:=⟨_,rfl⟩
 have e1:chkV x=.int .i64 cv:=by unfold chkV;rw [fD]
 rw [e1]
 have bad:Hid (chk x=false→cv=71):=hid fun h=>by rw [←fD,h];rfl
 have good:Hid (chk x=true→cv=0):=hid fun h=>by rw [←fD,h];rfl
 clear e1 fD;go_enter Tryz.func75,Tryz.ntmps75;by_cases h1:1≤x.size
 · by_cases h2:x.size≤40
   · have t1:decide ((x.size:Int)<1)=false:=decide_eq_false (by omega);have t2:decide ((x.size:Int) > 40)=false:=decide_eq_false (by omega);go_wp2
     go_loop [3,4] (fun dt i=>∃ (k:Nat) (b:Bool),k≤x.size∧i=.int .i64 k∧dt=.bool b∧Hid (∀ j (h:j<x.size),j<k→x[j].toNat≠0∧x[j].toNat≠47)∧Hid (b=true↔∀ j (h:j<x.size),j<k→x[j].toNat=46)) (fun _ i=>x.size-(intOf i).toNat)
     case atStart=>exact⟨0,true,Nat.zero_le _,rfl,rfl,hid fun j _ h=>absurd h (by omega),hid ⟨fun _ j _ h=>absurd h (by omega),fun _=>rfl⟩⟩
     case round =>
      obtain⟨k,b,hk,rfl,rfl,ho,hd⟩:=hrel;by_cases fG:k<x.size
      · obtain⟨y,hy⟩:∃ y,x[k].toNat=y:=⟨_,rfl⟩;have fI:=hid hy;by_cases b0:y=0∨y=47
        · have hb:=bad.out (chk_byte fG (by rw [hy];exact b0));subst hb;clear bad good ho hd;by_cases b1:y=0
          · have t4:((x[k].toNat:Int)==0)=true:=by rw [hy,b1];rfl
            clear hy;go_wp2;go_ret;exact⟨rfl,rfl⟩
          · have t4:((x[k].toNat:Int)==0)=false:=by rw [hy];simp;omega
            have t5:((x[k].toNat:Int)==47)=true:=by rw [hy];simp;omega
            clear hy;go_wp2;go_ret;exact⟨rfl,rfl⟩
        · have t4:((x[k].toNat:Int)==0)=false:=by rw [hy];simp;omega
          have t5:((x[k].toNat:Int)==47)=false:=by rw [hy];simp;omega
          have fF:Hid (∀ j (h:j<x.size),j<k+1→x[j].toNat≠0∧x[j].toNat≠47):=hid fun j h hj=>by
           by_cases e:j=k
           · subst e;rw [hy];omega
           · exact ho.out j h (by omega)
          cases b with
          | false =>
           have fA:Hid (false=true↔∀ j (h:j<x.size),j<k+1→x[j].toNat=46):=hid ⟨fun h=>(by cases h),fun h=>hd.out.2 fun j hj hk=>h j hj (by omega)⟩;clear hy ho hd bad good;go_wp2;go_round
           case rel=>exact⟨k+1,false,by omega,by go_num,rfl,fF,fA⟩
           case measure=>simp [intOf];omega
          | true =>
           by_cases b6:y=46
           · have t6:((x[k].toNat:Int)==46)=true:=by rw [hy];simp;omega
             have fA:Hid (true=true↔∀ j (h:j<x.size),j<k+1→x[j].toNat=46):=hid ⟨fun _ j h hj=>by
              by_cases e:j=k
              · subst e;rw [hy,b6]
              · exact hd.out.1 rfl j h (by omega),fun _=>rfl⟩
             clear hy ho hd bad good;go_wp2;go_round
             case rel=>exact⟨k+1,true,by omega,by go_num,rfl,fF,fA⟩
             case measure=>simp [intOf];omega
           · have t6:((x[k].toNat:Int)==46)=false:=by rw [hy];simp;omega
             have fA:Hid (false=true↔∀ j (h:j<x.size),j<k+1→x[j].toNat=46):=hid ⟨fun h=>(by cases h),fun h=>absurd ((hy.symm.trans (h k fG (by omega)))) b6⟩;clear hy ho hd bad good;go_wp2;go_round
             case rel=>exact⟨k+1,false,by omega,by go_num,rfl,fF,fA⟩
             case measure=>simp [intOf];omega
      · obtain rfl:k=x.size:=by omega
        have fB:∀ j (h:j<x.size),x[j].toNat≠0∧x[j].toNat≠47:=fun j h=>ho.out j h h;have fE:okTo x x.size:=fun j h _=>⟨fun e=>(fB j h).1 (by rw [e];rfl),fun e=>(fB j h).2 (by rw [e];rfl)⟩
        have fH:x≠⟨#[]⟩:=fun e=>by rw [e] at h1;exact absurd h1 (by decide)
        have fC:(b=true→2<x.size)→chk x=true:=fun hb=>chk_all fE fH h2
         (fun e=>by
          have h9:b=true:=hd.out.2 fun j hj _=>by
           subst e
           have:j=0:=by have:j<1:=hj;omega
           subst this;rfl
          have:=hb h9;rw [e] at this;exact absurd this (by decide))
         (fun e=>by
          have h9:b=true:=hd.out.2 fun j hj _=>by
           subst e
           have:j=0∨j=1:=by have:j<2:=hj;omega
           rcases this with rfl | rfl<;>rfl
          have:=hb h9;rw [e] at this;exact absurd this (by decide))
        cases b with
        | false =>
         have hg:=good.out (fC fun h=>by cases h);subst hg;clear bad good fC ho hd fB fE;go_wp2;go_ret;exact⟨rfl,rfl⟩
        | true =>
         by_cases h3:x.size≤2
         · have hb:=bad.out (dots_two (fun j h=>hd.out.1 rfl j h h) h1 h3);subst hb;have t7:decide ((x.size:Int)≤2)=true:=decide_eq_true (by omega);clear bad good fC ho hd fB fE;go_wp2;go_ret;exact⟨rfl,rfl⟩
         · have hg:=good.out (fC fun _=>by omega);subst hg;have t7:decide ((x.size:Int)≤2)=false:=decide_eq_false (by omega);clear bad good fC ho hd fB fE;go_wp2;go_ret;exact⟨rfl,rfl⟩
   · have hb:=bad.out (zIU (by omega));subst hb;have t1:decide ((x.size:Int)<1)=false:=decide_eq_false (by omega);have t2:decide ((x.size:Int) > 40)=true:=decide_eq_true (by omega);clear bad good;go_wp2;go_ret;exact⟨rfl,rfl⟩
 · have hb:=bad.out (by unfold chk;exact decide_eq_false fun h=>h1 (by omega));subst hb;have t1:decide ((x.size:Int)<1)=true:=decide_eq_true (by omega);clear bad good;go_wp2;go_ret;exact⟨rfl,rfl⟩
def Fo (p:ByteArray):Prop:=1≤p.size∧p.size≤400∧p.data.toList[0]? = some 47∧∀ j,p.data.toList[j+1]? = some 47→p.data.toList[j]?≠some 47∧j+2≠p.size
theorem zHJ (p:ByteArray) (w:World):Calls Tryz.prog 74 #[.string p] w fun e w'=>(∃ b,e=.returned (.bool b)∧(b=true→Fo p)∧(b=false→spl p=([],70)))∧w=w':=by
 obtain⟨Q,hQ⟩:∃ Q:Ending→World→Prop,(fun e w'=>(∃ b,e=.returned (.bool b)∧(b=true→Fo p)∧(b=false→spl p=([],70)))∧w=w')=Q:=⟨_,rfl⟩;rw [hQ];have fB:=hid hQ;clear hQ;go_enter Tryz.func74,Tryz.ntmps74;by_cases h1:1≤p.size
 · have t1:decide ((p.size:Int)<1)=false:=decide_eq_false (by omega);by_cases h2:p.size≤400
   · have t2:decide ((p.size:Int) > 400)=false:=decide_eq_false (by omega);have h0:0<p.size:=h1;obtain⟨y,hy⟩:∃ y,p[0].toNat=y:=⟨_,rfl⟩;by_cases h3:y=47
     · have t3:((p[0].toNat:Int) != 47)=false:=by rw [hy,h3];rfl
       have fD:Hid (p.data.toList[0]? = some 47):=hid (by rw [zD5 h0,UInt8.toNat_inj.1 (show p[0].toNat=(47:UInt8).toNat by rw [hy,h3];rfl)]);clear hy;go_wp2
       go_loop [3] (fun i=>∃ m:Nat,m+1≤p.size∧i=.int .i64 ((m+1:Nat):Int)∧Hid (∀ j,j<m→p.data.toList[j+1]? = some 47→p.data.toList[j]?≠some 47∧j+2≠p.size)) (fun i=>p.size-(intOf i).toNat)
       case atStart=>exact⟨0,by omega,rfl,hid fun j h=>absurd h (by omega)⟩
       case round =>
        obtain⟨m,hm,rfl,ho⟩:=hrel
        have v1:IntKind.i64.wrap (((m+1:Nat):Int)-1)=(m:Int):=by rw [zAF _ (by omega)];omega
        have v2:IntKind.i64.wrap ((m:Int)+1-1)=(m:Int):=by rw [zAF _ (by omega)];omega
        have v3:IntKind.i64.wrap (m:Int)=(m:Int):=zAF _ (by omega);have v4:IntKind.i64.wrap ((p.size:Int)-1)=(p.size:Int)-1:=zAF _ (by omega);by_cases fE:m+1<p.size
        · have fF:m<p.size:=by omega
          have fH:((m:Int)+1)<(p.size:Int):=by omega
          have ga:=zD5 fF;have gb:=zD5 fE;obtain⟨a,ha⟩:∃ a,p[m]=a:=⟨_,rfl⟩;obtain⟨b,hb⟩:∃ b,p[m+1]=b:=⟨_,rfl⟩;rw [ha] at ga;rw [hb] at gb;have gaH:=hid ga;have gbH:=hid gb;clear ga gb;by_cases eb:b.toNat=47
          · have tb:((p[m+1].toNat:Int)==47)=true:=by rw [hb,eb];rfl
            have gb2:p.data.toList[m+1]? = some 47:=by rw [gbH.out,UInt8.toNat_inj.1 (show b.toNat=(47:UInt8).toNat from eb)]
            by_cases ea:a.toNat=47
            · have ta:((p[m].toNat:Int)==47)=true:=by rw [ha,ea];rfl
              have fA:=hid (spl_bad gb2 (.inl (by rw [gaH.out,UInt8.toNat_inj.1 (show a.toNat=(47:UInt8).toNat from ea)])));clear gb2 ho ha hb;go_wp2;rw [←fB.out];exact⟨⟨false,rfl,fun h=>(by cases h),fun _=>fA.out⟩,rfl⟩
            · have ta:((p[m].toNat:Int)==47)=false:=by rw [ha];simp;omega
              by_cases el:m+2=p.size
              · have tl:((((m+1:Nat):Int))==(p.size:Int)-1)=true:=by simp;omega
                have tl2:(((m:Int)+1)==(p.size:Int)-1)=true:=by simp;omega
                have fA:=hid (spl_bad gb2 (.inr el));clear gb2 ho ha hb;go_wp2;rw [←fB.out];exact⟨⟨false,rfl,fun h=>(by cases h),fun _=>fA.out⟩,rfl⟩
              · have tl:((((m+1:Nat):Int))==(p.size:Int)-1)=false:=by simp;omega
                have tl2:(((m:Int)+1)==(p.size:Int)-1)=false:=by simp;omega
                have fC:Hid (∀ j,j<m+1→p.data.toList[j+1]? = some 47→p.data.toList[j]?≠some 47∧j+2≠p.size):=hid fun j hj h=>by
                 by_cases e:j=m
                 · subst e;refine⟨fun h9=>ea ?_,el⟩;rw [gaH.out] at h9;rw [Option.some.inj h9];rfl
                 · exact ho.out j (by omega) h
                clear gb2 ho ha hb;go_wp2;go_round
                case rel=>exact⟨m+1,by omega,by go_num,fC⟩
                case measure=>simp [intOf];omega
          · have tb:((p[m+1].toNat:Int)==47)=false:=by rw [hb];simp;omega
            have fC:Hid (∀ j,j<m+1→p.data.toList[j+1]? = some 47→p.data.toList[j]?≠some 47∧j+2≠p.size):=hid fun j hj h=>by
             by_cases e:j=m
             · subst e;rw [gbH.out] at h;exact absurd (by rw [Option.some.inj h];rfl) eb
             · exact ho.out j (by omega) h
            clear ho ha hb;go_wp2;go_round
            case rel=>exact⟨m+1,by omega,by go_num,fC⟩
            case measure=>simp [intOf];omega
        · have fI:m+1=p.size:=by omega
          have fG:Hid (Fo p):=hid ⟨h1,h2,fD.out,fun j h=>by
           have:=(List.getElem?_eq_some_iff.1 h).1;rw [Array.length_toList] at this;have this:j+1<p.size:=this;exact ho.out j (by omega) h⟩
          clear ho;go_wp2;rw [←fB.out];exact⟨⟨true,rfl,fun _=>fG.out,fun h=>(by cases h)⟩,rfl⟩
     · have t3:((p[0].toNat:Int) != 47)=true:=by rw [hy];simp;omega
       have fA:=hid (zFZ (p:=p) (.inr (by
        rw [zD5 h0];intro h
        apply h3
        rw [←hy,Option.some.inj h];rfl)))
       clear hy;go_wp2;rw [←fB.out];exact⟨⟨false,rfl,fun h=>(by cases h),fun _=>fA.out⟩,rfl⟩
   · have t2:decide ((p.size:Int) > 400)=true:=decide_eq_true (by omega);have fA:=hid (zFZ (p:=p) (.inl (by omega)));go_wp2;rw [←fB.out];exact⟨⟨false,rfl,fun h=>(by cases h),fun _=>fA.out⟩,rfl⟩
 · have t1:decide ((p.size:Int)<1)=true:=decide_eq_true (by omega)
   have fA:=hid (zFZ (p:=p) (.inr (by
    rw [List.getElem?_eq_none (by rw [Array.length_toList];show p.size≤0;omega)];simp)))
   go_wp2;rw [←fB.out];exact⟨⟨false,rfl,fun h=>(by cases h),fun _=>fA.out⟩,rfl⟩
structure Tn where
 path:ByteArray
 kind:Int
 made:Int
 same:ByteArray
 data:List UInt8
deriving DecidableEq
def Nd.tn (x:Nd):Tn:=⟨x.path,x.kind,x.made,x.same,x.data⟩
structure DS where
 nodes:List Tn
 first:List (Nat×ByteArray)
abbrev zFg:=List ByteArray×Nat
def PT.step (T:PT) (s:DS) (x:zFg):DS :=
 if T.isDir x.2=true then ⟨s.nodes++[⟨pth x.1,2,((T.node x.2).made:Int),emp,[]⟩],s.first⟩ else
 match zAd x.2 s.first with
 | some q=>⟨s.nodes++[⟨pth x.1,1,((T.node x.2).made:Int),q,[]⟩],s.first⟩
 | none=>⟨s.nodes++[⟨pth x.1,1,((T.node x.2).made:Int),emp,rdL (T.node x.2).data 0 (T.node x.2).size⟩],zBa zAG x.2 (pth x.1) s.first⟩
def zE8 (T:PT) (rec:List ByteArray→Nat→DS→DS×Nat) (ns:List ByteArray) (j:Nat) (s:DS):DS×Nat :=
 if 400<(pth ns).size then (s,70) else if T.isDir j=true then rec ns j (T.step s (ns,j)) else (T.step s (ns,j),0)
def zCv (T:PT) (rec:List ByteArray→Nat→DS→DS×Nat) (ns:List ByteArray):List (ByteArray×Nat)→DS→DS×Nat
 | [],s=>(s,0)
 | x::r,s=>if (zE8 T rec (ns++[x.1]) x.2 s).2≠0 then zE8 T rec (ns++[x.1]) x.2 s else zCv T rec ns r (zE8 T rec (ns++[x.1]) x.2 s).1
def zAU (T:PT):Nat→List ByteArray→Nat→DS→DS×Nat
 | 0,_,_,s=>(s,70)
 | f+1,ns,i,s=>if 400<(pth ns).size then (s,70) else zCv T (zAU T f) ns (T.node i).names s
def tlE (T:PT) (rec:List ByteArray→Nat→List zFg) (ns:List ByteArray):List (ByteArray×Nat)→List zFg
 | []=>[]
 | x::r=>(ns++[x.1],x.2)::((if T.isDir x.2=true then rec (ns++[x.1]) x.2 else [])++tlE T rec ns r)
def tl (T:PT):Nat→List ByteArray→Nat→List zFg
 | 0,_,_=>[]
 | f+1,ns,i=>tlE T (tl T f) ns (T.node i).names
def zHj (L:List zFg):Prop:=∀ x∈L,(pth x.1).size≤400
theorem zIa {T:PT} {f:Nat} (ih:∀ ns j s,(zAU T f ns j s).2=0→(zAU T f ns j s).1=(tl T f ns j).foldl T.step s∧zHj (tl T f ns j)) (ns:List ByteArray) :
 ∀ (l:List (ByteArray×Nat)) (s:DS),(zCv T (zAU T f) ns l s).2=0→(zCv T (zAU T f) ns l s).1=(tlE T (tl T f) ns l).foldl T.step s∧zHj (tlE T (tl T f) ns l)
 | [],s,_=>⟨rfl,fun x hx=>by cases hx⟩
 | x::r,s,h=>by
  rw [zCv] at h ⊢
  split at h
  · rename_i h1;exact absurd h h1
  · rename_i h1;rw [if_neg h1]
    have h1:(zE8 T (zAU T f) (ns++[x.1]) x.2 s).2=0:=by simpa using h1
    obtain⟨h2,h3⟩:=zIa ih ns r _ h
    have h4:(pth (ns++[x.1])).size≤400∧(zE8 T (zAU T f) (ns++[x.1]) x.2 s).1=((ns++[x.1],x.2)::(if T.isDir x.2=true then tl T f (ns++[x.1]) x.2 else [])).foldl T.step s∧zHj (if T.isDir x.2=true then tl T f (ns++[x.1]) x.2 else []):=by
     unfold zE8 at h1 ⊢
     split at h1
     · cases h1
     rename_i h5;rw [if_neg h5];refine⟨by omega,?_⟩;by_cases hd:T.isDir x.2=true
     · rw [if_pos hd] at h1;rw [if_pos hd,if_pos hd];exact ih _ _ _ h1
     · rw [if_neg hd,if_neg hd];exact⟨rfl,fun x hx=>by cases hx⟩
    refine⟨?_,?_⟩
    · rw [h2,h4.2.1,tlE,←List.foldl_append];rfl
    · intro y hy;rw [tlE] at hy;rcases List.mem_cons.1 hy with rfl | hy
      · exact h4.1
      rcases List.mem_append.1 hy with hy | hy
      · exact h4.2.2 y hy
      · exact h3 y hy
theorem zFV {T:PT}:∀ (f:Nat) (ns:List ByteArray) (i:Nat) (s:DS),(zAU T f ns i s).2=0→(zAU T f ns i s).1=(tl T f ns i).foldl T.step s∧zHj (tl T f ns i)
 | 0,_,_,_,h=>by cases h
 | f+1,ns,i,s,h=>by
  rw [zAU] at h ⊢
  split at h
  · cases h
  · rename_i h1;rw [if_neg h1];exact zIa (fun ns j s=>zFV f ns j s) ns _ s h
def PT.spots (T:PT):List zFg:=tl T 202 [] 1
def PT.dump (T:PT):List Tn×Nat:=if (zAU T 202 [] 1 ⟨[],[]⟩).2=0 then ((zAU T 202 [] 1 ⟨[],[]⟩).1.nodes,0) else ([],(zAU T 202 [] 1 ⟨[],[]⟩).2)
def PT.tn1 (T:PT) (pre:List zFg) (x:zFg):Tn :=
 if T.isDir x.2=true then ⟨pth x.1,2,((T.node x.2).made:Int),emp,[]⟩ else
 match pre.find? fun y=>decide (y.2=x.2) with
 | some y=>⟨pth x.1,1,((T.node x.2).made:Int),pth y.1,[]⟩
 | none=>⟨pth x.1,1,((T.node x.2).made:Int),emp,rdL (T.node x.2).data 0 (T.node x.2).size⟩
def PT.mks (T:PT) (pre:List zFg):List zFg→List Tn
 | []=>[]
 | x::r=>T.tn1 pre x::T.mks (pre++[x]) r
def FstOk (T:PT) (pre:List zFg) (fs:List (Nat×ByteArray)):Prop:=∀ i,T.isDir i=false→zAd i fs=(pre.find? fun y=>decide (y.2=i)).map fun y=>pth y.1
theorem zHf {T:PT}:∀ (L pre:List zFg) (s:DS),FstOk T pre s.first→(L.foldl T.step s).nodes=s.nodes++T.mks pre L
 | [],pre,s,_=>by simp [PT.mks]
 | x::r,pre,s,h=>by
  rw [List.foldl_cons]
  have key:(T.step s x).nodes=s.nodes++[T.tn1 pre x]∧FstOk T (pre++[x]) (T.step s x).first:=by
   unfold PT.step PT.tn1;by_cases hd:T.isDir x.2=true
   · rw [if_pos hd,if_pos hd];refine⟨rfl,fun i hi=>?_⟩
     have fA:x.2≠i:=fun e=>by rw [e,hi] at hd;cases hd
     simp only;rw [h i hi,List.find?_append]
     cases pre.find? fun y=>decide (y.2=i) with
     | none=>simp [fA]
     | some y=>simp
   · rw [if_neg hd,if_neg hd]
     have fB:T.isDir x.2=false:=by simpa using hd
     have hx:=h x.2 fB
     cases hp:pre.find? fun y=>decide (y.2=x.2) with
     | some y =>
      rw [hp] at hx;rw [hx];refine⟨rfl,fun i hi=>?_⟩;simp only [Option.map_some];rw [h i hi,List.find?_append]
      cases hq:pre.find? fun y=>decide (y.2=i) with
      | some z=>simp
      | none =>
       have fA:x.2≠i:=fun e=>by rw [←e,hp] at hq;cases hq
       simp [fA]
     | none =>
      rw [hp] at hx;simp only [Option.map_none] at hx;rw [hx];refine⟨rfl,fun i hi=>?_⟩;simp only;rw [List.find?_append];by_cases e:i=x.2
      · subst e;rw [zAu,hp];simp
      · rw [zAl zAG _ e,h i hi];have fA:x.2≠i:=fun e'=>e e'.symm
        cases pre.find? fun y=>decide (y.2=i) with
        | none=>simp [fA]
        | some y=>simp
  rw [zHf r (pre++[x]) _ key.2,key.1,PT.mks,List.append_assoc];rfl
theorem PT.mks_len (T:PT):∀ (L pre:List zFg),(T.mks pre L).length=L.length
 | [],_=>rfl
 | _::r,_=>by simp [PT.mks,PT.mks_len T r]
theorem dump_ok {T:PT} (h:(T.dump).2=0):T.dump.1=T.mks [] T.spots∧zHj T.spots:=by
 unfold PT.dump at h ⊢
 split at h
 · rename_i h1;rw [if_pos h1];obtain⟨h2,h3⟩:=zFV _ _ _ _ h1;refine⟨?_,h3⟩;simp only;rw [h2];exact (zHf _ [] ⟨[],[]⟩ fun i _=>rfl).trans (List.nil_append _)
 · rename_i h1;exact absurd h h1
theorem zIv {T:PT} (h:(T.dump).2≠0):T.dump.1=[]:=by
 unfold PT.dump at h ⊢
 split at h
 · exact absurd rfl h
 · rename_i h1;rw [if_neg h1]
def plt:List ByteArray→List ByteArray→Prop
 | _,[]=>False
 | [],_::_=>True
 | a::r,b::s=>zA6.lt a b=true∨a=b∧plt r s
theorem zFv:∀ a,¬plt a a
 | []=>fun h=>h
 | a::r=>fun h=>by
  rcases h with h | ⟨_,h⟩
  · rw [zBQ] at h;cases h
  · exact zFv r h
theorem zH2:∀ (n:List ByteArray) {a b},plt a b→plt (n++a) (n++b)
 | [],_,_,h=>h
 | _::r,_,_,h=>.inr ⟨rfl,zH2 r h⟩
theorem plt_pre:∀ (a:List ByteArray) {m},m≠[]→plt a (a++m)
 | [],m,h=>by
  cases m with
  | nil=>exact absurd rfl h
  | cons x r=>exact trivial
 | _::r,_,h=>.inr ⟨rfl,plt_pre r h⟩
theorem zHH {T:PT} {rec:List ByteArray→Nat→List zFg} {ns:List ByteArray} {x:zFg}:∀ {l:List (ByteArray×Nat)},x∈tlE T rec ns l↔∃ p∈l,x=(ns++[p.1],p.2)∨T.isDir p.2=true∧x∈rec (ns++[p.1]) p.2
 | []=>by simp [tlE]
 | q::r=>by
  rw [tlE,List.mem_cons,List.mem_append,zHH (l:=r)]
  constructor
  · rintro (h | h | ⟨p,hp,h⟩)
    · exact⟨q,List.mem_cons_self,.inl h⟩
    · split at h
      · rename_i hd;exact⟨q,List.mem_cons_self,.inr ⟨hd,h⟩⟩
      · cases h
    · exact⟨p,List.mem_cons_of_mem _ hp,h⟩
  · rintro ⟨p,hp,h⟩;rcases List.mem_cons.1 hp with rfl | hp
    · rcases h with h | ⟨hd,h⟩
      · exact .inl h
      · rw [if_pos hd];exact .inr (.inl h)
    · exact .inr (.inr ⟨p,hp,h⟩)
theorem zCW {T:PT} {i:Nat} {n:PN} (hg:zAd i T.nodes=some n) (hd:n.dir=true) {nm:ByteArray} {j:Nat} (hj:zAd nm n.names=some j) (r:List ByteArray):T.walk (nm::r) i=T.walk r j:=by
 rw [PT.walk,hg];simp only;rw [if_neg (by rw [hd];simp),hj]
theorem zBF {T:PT} {i j:Nat} {nm:ByteArray} {r:List ByteArray} (h:T.walk (nm::r) i=(j,0)):∃ n k,zAd i T.nodes=some n∧n.dir=true∧zAd nm n.names=some k∧T.walk r k=(j,0):=by
 rw [PT.walk] at h
 cases hg:zAd i T.nodes with
 | none=>rw [hg] at h;simp at h
 | some n =>
  rw [hg] at h;simp only at h;by_cases hd:n.dir=true
  · rw [if_neg (by rw [hd];simp)] at h
    cases hj:zAd nm n.names with
    | none=>rw [hj] at h;simp at h
    | some k=>rw [hj] at h;exact⟨n,k,rfl,hd,hj,h⟩
  · rw [if_pos (by simpa using hd)] at h;simp at h
theorem mem_names {T:PT} (hT:T.Ok) {i:Nat} {p:ByteArray×Nat} (h:p∈(T.node i).names):∃ n,zAd i T.nodes=some n∧n.dir=true∧zAd p.1 n.names=some p.2:=by
 unfold PT.node at h
 cases hg:zAd i T.nodes with
 | none=>rw [hg] at h;cases h
 | some n =>
  rw [hg] at h;have h:p∈n.names:=h;refine⟨n,rfl,?_,zA0 (hT.get hg).1.nris.nd h⟩
  cases hd:n.dir with
  | true=>rfl
  | false=>rw [((hT.get hg).1.df hd).2] at h;cases h
theorem zGU {T:PT} (hT:T.Ok):∀ (f:Nat) (ns:List ByteArray) (i:Nat) (x:zFg),x∈tl T f ns i↔∃ ms,ms≠[]∧ms.length≤f∧x.1=ns++ms∧T.walk ms i=(x.2,0)
 | 0,ns,i,x=>by
  constructor
  · intro h;cases h
  · rintro ⟨ms,h1,h2,_⟩;exact absurd (List.eq_nil_of_length_eq_zero (Nat.le_zero.1 h2)) h1
 | f+1,ns,i,x=>by
  rw [tl,zHH]
  constructor
  · rintro ⟨p,hp,h⟩;obtain⟨n,hg,hd,hj⟩:=mem_names hT hp;rcases h with rfl | ⟨hdj,h⟩
    · exact⟨[p.1],by simp,by simp,rfl,by rw [zCW hg hd hj];rfl⟩
    · obtain⟨ms,h1,h2,h3,h4⟩:=(zGU hT f _ _ _).1 h;exact⟨p.1::ms,by simp,by simp;omega,by rw [h3,List.append_assoc];rfl,by rw [zCW hg hd hj];exact h4⟩
  · rintro ⟨ms,h1,h2,h3,h4⟩
    cases ms with
    | nil=>exact absurd rfl h1
    | cons nm r =>
     obtain⟨n,k,hg,hd,hk,h5⟩:=zBF h4;refine⟨(nm,k),by rw [zAp hg];exact zAi hk,?_⟩
     cases r with
     | nil =>
      have h6:k=x.2:=congrArg Prod.fst h5;exact .inl (Prod.ext h3 h6.symm)
     | cons nm2 r2 =>
      obtain⟨n2,k2,fA,fB,_,_⟩:=zBF h5;exact .inr ⟨by rw [zAn fA,fB],(zGU hT f _ _ _).2 ⟨nm2::r2,by simp,by simpa using h2,by rw [h3,List.append_assoc];rfl,h5⟩⟩
theorem zGt {T:PT} (hT:T.Ok):∀ (f:Nat) (ns:List ByteArray) (i:Nat),(tl T f ns i).Pairwise fun x y=>plt x.1 y.1
 | 0,_,_=>List.Pairwise.nil
 | f+1,ns,i=>by
  have fB:zBs zA6 (T.node i).names:=by
   unfold PT.node
   cases hg:zAd i T.nodes with
   | none=>exact List.Pairwise.nil
   | some n=>exact (hT.get hg).1.nris
  rw [tl];generalize (T.node i).names=l at fB
  induction l with
  | nil=>exact List.Pairwise.nil
  | cons p r ih =>
   obtain⟨h1,h2⟩:=List.pairwise_cons.1 fB
   have fC:∀ y∈(if T.isDir p.2=true then tl T f (ns++[p.1]) p.2 else []),∃ ms,ms≠[]∧y.1=ns++[p.1]++ms:=fun y hy=>by
    split at hy
    · obtain⟨ms,a,_,b,_⟩:=(zGU hT f _ _ _).1 hy;exact⟨ms,a,b⟩
    · cases hy
   have fA:∀ y∈tlE T (tl T f) ns r,∃ nm ms,zA6.lt p.1 nm=true∧y.1=ns++(nm::ms):=fun y hy=>by
    obtain⟨q,hq,h⟩:=zHH.1 hy;rcases h with rfl | ⟨_,h⟩
    · exact⟨q.1,[],h1 q hq,rfl⟩
    · obtain⟨ms,_,_,b,_⟩:=(zGU hT f _ _ _).1 h;exact⟨q.1,ms,h1 q hq,by rw [b,List.append_assoc];rfl⟩
   rw [tlE,List.pairwise_cons,List.pairwise_append];refine⟨fun y hy=>?_,?_,ih h2,fun x hx y hy=>?_⟩
   · rcases List.mem_append.1 hy with hy | hy
     · obtain⟨ms,h3,h4⟩:=fC y hy;rw [h4];exact plt_pre _ h3
     · obtain⟨nm,ms,h3,h4⟩:=fA y hy;rw [h4];exact zH2 ns (.inl h3)
   · split
     · exact zGt hT f _ _
     · exact List.Pairwise.nil
   · obtain⟨ms,_,h4⟩:=fC x hx;obtain⟨nm,ms',h5,h6⟩:=fA y hy;rw [h4,h6,List.append_assoc];exact zH2 ns (.inl h5)
theorem zEE {T:PT}:∀ (a b:List ByteArray) {i j:Nat},T.walk a i=(j,0)→T.walk (a++b) i=T.walk b j
 | [],b,i,j,h=>by (have e:i=j:=congrArg Prod.fst h);rw [e];rfl
 | x::a,b,i,j,h=>by
  obtain⟨n,k,hg,hd,hk,h5⟩:=zBF h;rw [List.cons_append,zCW hg hd hk];exact zEE a b h5
theorem zC1 {T:PT}:∀ (a b:List ByteArray) {i j:Nat},T.walk (a++b) i=(j,0)→∃ k,T.walk a i=(k,0)∧T.walk b k=(j,0)
 | [],b,i,j,h=>⟨i,rfl,h⟩
 | x::a,b,i,j,h=>by
  obtain⟨n,k,hg,hd,hk,h5⟩:=zBF h;obtain⟨k',h6,h7⟩:=zC1 a b h5;exact⟨k',by rw [zCW hg hd hk];exact h6,h7⟩
theorem zGr {T:PT} (hT:T.Ok):T.spots.Pairwise fun x y=>plt x.1 y.1:=zGt hT _ _ _
theorem zJZ {T:PT} (hT:T.Ok) {x:zFg} (hx:x∈T.spots):x.1≠[]∧T.walk x.1 1=(x.2,0):=by
 obtain⟨ms,h1,_,h3,h4⟩:=(zGU hT _ _ _ _).1 hx;rw [List.nil_append] at h3;rw [h3];exact⟨h1,h4⟩
def PT.E (T:PT) (i:Nat) (nm:ByteArray) (j:Nat):Prop:=∃ n,zAd i T.nodes=some n∧n.dir=true∧zAd nm n.names=some j
theorem walk_E {T:PT} {nm:ByteArray} {r:List ByteArray} {i j:Nat}:T.walk (nm::r) i=(j,0)↔∃ k,T.E i nm k∧T.walk r k=(j,0):=by
 constructor
 · intro h;obtain⟨n,k,h1,h2,h3,h4⟩:=zBF h;exact⟨k,⟨n,h1,h2,h3⟩,h4⟩
 · rintro ⟨k,⟨n,h1,h2,h3⟩,h4⟩;rw [zCW h1 h2 h3];exact h4
theorem zCu {T:PT} {nm:ByteArray} {a:List ByteArray} {i j:Nat}:T.walk (a++[nm]) i=(j,0)↔∃ k,T.walk a i=(k,0)∧T.E k nm j:=by
 constructor
 · intro h;obtain⟨k,h1,h2⟩:=zC1 _ _ h;obtain⟨k',h3,h4⟩:=walk_E.1 h2;have e:k'=j:=congrArg Prod.fst h4;exact⟨k,h1,e▸h3⟩
 · rintro ⟨k,h1,h2⟩;rw [zEE _ _ h1];exact walk_E.2 ⟨j,h2,rfl⟩
theorem E_dir {T:PT} {i:Nat} {nm:ByteArray} {j:Nat} (h:T.E i nm j):T.isDir i=true:=by
 obtain⟨n,a1,a2,_⟩:=h;rw [zAn a1,a2]
theorem dir_path {P:PT} (h:P.Inv):∀ (a b:List ByteArray) {i:Nat},P.walk a 1=(i,0)→P.walk b 1=(i,0)→P.isDir i=true→a=b:=by
 intro a
 induction hl:a.length generalizing a with
 | zero =>
  obtain rfl:=List.eq_nil_of_length_eq_zero hl;intro b i h1 h2 h3;have e:1=i:=congrArg Prod.fst h1;subst e;rcases List.eq_nil_or_concat b with rfl | ⟨b',y,rfl⟩
  · rfl
  · rw [List.concat_eq_append] at h2;obtain⟨k,_,n,h5,_,h7⟩:=zCu.1 h2;exact absurd rfl (h.gr.ne1 h5 h7)
 | succ m ih =>
  intro b i h1 h2 h3;rcases List.eq_nil_or_concat a with rfl | ⟨a',x,rfl⟩
  · cases hl
  rw [List.concat_eq_append] at h1 hl ⊢;obtain⟨k,h4,fB⟩:=zCu.1 h1;have fA:=fB;obtain⟨n,h5,h6,h7⟩:=fB;have fC:=h.gr.ne1 h5 h7;rcases List.eq_nil_or_concat b with rfl | ⟨b',y,rfl⟩
  · exact absurd (congrArg Prod.fst h2).symm fC
  rw [List.concat_eq_append] at h2 ⊢;obtain⟨k',h8,fD⟩:=zCu.1 h2;obtain⟨n',h9,fF,fE⟩:=fD;obtain⟨z,hz⟩:=h.gr.ents _ _ _ _ h5 h7;rw [zAn hz] at h3;obtain⟨_,d2,d3⟩:=h.dev i z hz;have d4:=d3 fC;rw [d2 h3] at d4;simp only [no] at d4;obtain⟨e1,e2⟩:=PT.refs_one h.gr.ok (j:=i) (by omega) h5 h7 h9 fE;subst e1;subst e2;rw [ih a' (by simpa using hl) b' h4 h8 (E_dir fA)]
end Go.Proofs.YtolpcfhfcdkokaaGreatDoor
