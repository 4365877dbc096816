/- Texts that the claim leans on: walks and plain laws, function by function. -/
import Derived.Test.YtkopcinhbjimiaaGreatDoorK07
import Derived.Test.YtkopcinhbjimiaaGreatDoorK14
import Derived.Test.YtkopcinhbjimiaaGreatDoorK12
import Derived.BigQuiet
import Derived.Test.YtkopcinhbjimiaaGreatDoorK06
import Derived.Test.YtkopcinhbjimiaaGreatDoorK13
import Derived.Test.YtkopcinhbjimiaaGreatDoorK08
import Derived.Test.YtkopcinhbjimiaaGreatDoorK01
import Derived.RangeFuncNested
import Derived.RangeFuncBound
import Derived.RangeFuncCalls
import Derived.RangeFuncLeaves
import Derived.RangeFuncBox
import Derived.Shelf.Abstract
import Derived.Shelf.RegionOpen
import Derived.OwnWalkIn
import Derived.TacticsInMore
import Derived.LoopNIn
import Derived.LoopIn
set_option maxRecDepth 100000
set_option maxHeartbeats 16000000
namespace Go.Proofs.YtkopcinhbjimiaaGreatDoor
open Go.RowKit
def wsum (ps:List PR):Nat:=(ps.map fun x=>(enc x.g).length).sum
theorem wsum_app (a b:List PR):wsum (a++b)=wsum a+wsum b:=by simp [wsum,List.sum_append]
theorem wsum_take {ps:List PR} {i:Nat} {x:PR} (h:ps[i]?=some x):wsum (ps.take (i+1))=wsum (ps.take i)+(enc x.g).length:=by
 rw [List.take_add_one,h,Option.toList_some,wsum_app]
 simp [wsum]
theorem wsum_le (ps:List PR) (i:Nat):wsum (ps.take i)<=wsum ps:=by
 have h:=wsum_app (ps.take i) (ps.drop i)
 rw [List.take_append_drop] at h
 omega
theorem wflat_take {α:Type} {f:α->List PR} {l:List α} {i:Nat} {x:α} (h:l[i]?=some x):wsum ((l.take (i+1)).flatMap f)=wsum ((l.take i).flatMap f)+wsum (f x):=by
 rw [List.take_add_one,h,Option.toList_some,List.flatMap_append,wsum_app]
 simp
theorem wflat_le {α:Type} (f:α->List PR) (l:List α) (i:Nat):wsum ((l.take i).flatMap f)<=wsum (l.flatMap f):=by
 have h:=wsum_app ((l.take i).flatMap f) ((l.drop i).flatMap f)
 rw [<- List.flatMap_append,List.take_append_drop] at h
 omega
theorem propsWeight_spec {F:Nat->Prop} {A:Option Addr} {n c:Nat} {ps:List PR} (w:World) (h:RdPs w F A n c ps) (hf:PsFit ps) (hs:wsum ps<=4611686018427387904) :
 Calls Tryz.prog 87 #[.slice A n c] w fun e w'=>e=.returned (.int .i64 (wsum ps:Int))/\Same w w':=by
 have hl:=h.len
 have hmx:=h.row.max
 have hle:=h.row.le
 unfold maxLen at hmx
 have HR:=qH h
 have HF:=qH hf
 have HL:=qH hl
 obtain ⟨T,hT⟩:∃ T,wsum ps=T:=⟨_,rfl⟩
 rw [hT] at hs ⊢
 have HT:=qH hT
 clear h hf hl hT
 go_enter Tryz.func87,Tryz.ntmps87
 go_wp2_with fail
 go_loopg [3,4] n (fun gh sx ix wr=>∃ i q:Nat,n-i=gh/\i<=n/\ix=.int .i64 i/\sx=.int .i64 q/\q<=T/\Hid (wsum (ps.take i)=q)/\Hid (Same w wr))
 case atStart=>exact ⟨0,0,rfl,Nat.zero_le _,rfl,rfl,Nat.zero_le _,qH (by simp [wsum]),qH (Upd.refl _ _)⟩
 obtain ⟨i,q,rfl,hi,rfl,rfl,hq,KQ,KS⟩:=hrel
 by_cases hlt:i<n
 · have HRw:=qH (HR.out.same KS.out)
   obtain ⟨b,o,x,rfl,hb,_,hx,hxm,r0,r1,r2,r3,r4,r5⟩:=HRw.out.at_ hlt
   have HV:=qH ((HRw.out.val x hxm))
   have HX1:=qH (HF.out x hxm).1
   have HX2:=qH (HF.out x hxm).2
   obtain ⟨ln,hln⟩:∃ ln,(enc x.g).length=ln:=⟨_,rfl⟩
   have hq1:q+ln<=T:=by
    have h1:=wsum_take hx
    have h2:=wsum_le ps (i+1)
    rw [HT.out,h1,KQ.out,hln] at h2
    exact h2
   have HQ1:=qH (show wsum (ps.take (i+1))=q+ln by rw [wsum_take hx,KQ.out,hln])
   have HLn:=qH hln
   have hwr:IntKind.i64.wrap ((q:Int)+(ln:Int))=((q+ln:Nat):Int):=by rw [IntKind.wrap_i64];omega
   obtain ⟨kx,⟨x0,x1,x2,x3,x4⟩,X1,a1,b1,X2,a2,b2⟩:=x
   simp only at r0 r1 r2 r3 r4 r5
   clear hx hxm hln KQ HRw r0
   go_wp2_with fail
   refine (rencode_spec _ HV.out HX1.out HX2.out).mono ?_
   rintro e w2 ⟨v,rfl,hv,hs2⟩
   have HS2:=qH (KS.out.same hs2)
   obtain ⟨A9,c9,rfl⟩:=own_form hv
   have hlen2:=HLn.out
   rw [hlen2]
   clear hs2 hv r1 r2 r3 r4 r5
   go_wp2
   go_roundg (n-(i+1))
   case measure=>omega
   case rel=>exact ⟨i+1,q+ln,rfl,by omega,by go_num,rfl,hq1,HQ1,HS2⟩
 have hin:i=n:=by omega
 have hqT:q=T:=by rw [<- KQ.out,List.take_of_length_le (by rw [HL.out];omega)];exact HT.out
 subst hqT
 go_wp2
 go_ret
 exact ⟨rfl,KS.out⟩
theorem rweight_spec {F:Nat->Prop} (w:World) (g:GR) (h:RdG w F g) (hf:GFit g) (hs:wsum (g.ns.flatMap ND.props)+wsum (g.rs.flatMap RL.props)<=4611686018427387904) :
 Calls Tryz.prog 47 #[g.agg] w fun e w'=>e=.returned (.int .i64 ((wsum (g.ns.flatMap ND.props)+wsum (g.rs.flatMap RL.props):Nat):Int))/\Same w w':=by
 obtain ⟨ns,AN,nN,cN,rs,AR,nR,cR⟩:=g
 have hmx:=h.nodes.row.max
 have hle:=h.nodes.row.le
 have hmx':=h.rels.row.max
 have hle':=h.rels.row.le
 unfold maxLen at hmx hmx'
 have HL:=qH h.nodes.len
 have HL':=qH h.rels.len
 have HF1:=qH hf.nodes
 have HF2:=qH hf.rels
 simp only at hs hmx hle hmx' hle' HL HL' HF1 HF2 ⊢
 have hs1:=(Upd.refl (fun _=>False) w).alloc (.cells #[.slice AN nN cN,.slice AR nR cR] 26)
 have HS1:=qH hs1
 have HR1:=qH (h.same hs1)
 have HB1:=qH (Blk.new w 26 #[.slice AN nN cN,.slice AR nR cR])
 obtain ⟨T1,hT1⟩:∃ T,wsum (ns.flatMap ND.props)=T:=⟨_,rfl⟩
 obtain ⟨T2,hT2⟩:∃ T,wsum (rs.flatMap RL.props)=T:=⟨_,rfl⟩
 rw [hT1,hT2] at hs ⊢
 have HT1:=qH hT1
 have HT2:=qH hT2
 clear h hf hs1 hT1 hT2
 go_enter Tryz.func47,Tryz.ntmps47
 go_upto_region 1 with fail
 generalize w.alloc (.cells #[.slice AN nN cN,.slice AR nR cR] 26)=w1 at *
 go_wp2_with fail
 go_loopg [3,4] nN (fun gh sx ix wr=>∃ i q:Nat,nN-i=gh/\i<=nN/\ix=.int .i64 i/\sx=.int .i64 q/\q<=T1/\Hid (wsum ((ns.take i).flatMap ND.props)=q)/\Hid (Same w1 wr))
 case atStart=>exact ⟨0,0,rfl,Nat.zero_le _,rfl,rfl,Nat.zero_le _,qH (by simp [wsum]),qH (Upd.refl _ _)⟩
 obtain ⟨i,q,rfl,hi,rfl,rfl,hq,KQ,KS⟩:=hrel
 have p1:wr.cell? ⟨w.heap.size,0,none⟩=some (.slice AN nN cN):=(HB1.out.same KS.out).cell 0
 by_cases hlt:i<nN
 · have HRw:=qH (HR1.out.nodes.same KS.out)
   obtain ⟨b,o,x,rfl,hb,_,hx,hxm,r0,r1,r2⟩:=HRw.out.at_ hlt
   have HP:=qH (HRw.out.pro x hxm)
   have HX:=qH (HF1.out x hxm)
   obtain ⟨ln,hln⟩:∃ ln,wsum x.props=ln:=⟨_,rfl⟩
   have hq1:q+ln<=T1:=by
    have h1:=wflat_take (f:=ND.props) hx
    have h2:=wflat_le ND.props ns (i+1)
    rw [HT1.out,h1,KQ.out,hln] at h2
    exact h2
   have HQ1:=qH (show wsum ((ns.take (i+1)).flatMap ND.props)=q+ln by rw [wflat_take hx,KQ.out,hln])
   have HLn:=qH hln
   have hwr:IntKind.i64.wrap ((q:Int)+(ln:Int))=((q+ln:Nat):Int):=by rw [IntKind.wrap_i64];omega
   obtain ⟨ix,lb,AL,nL,cL,px,AP,nP,cP⟩:=x
   simp only at r0 r1 r2 HP HX HLn
   clear hx hxm hln KQ HRw r0 r1
   go_wp2_with fail
   refine (propsWeight_spec _ HP.out HX.out (by rw [HLn.out];omega)).mono ?_
   rintro e w2 ⟨rfl,hs2⟩
   have HS2:=qH (KS.out.same hs2)
   rw [HLn.out]
   clear hs2 r2 p1
   go_wp2
   go_roundg (nN-(i+1))
   case measure=>omega
   case rel=>exact ⟨i+1,q+ln,rfl,by omega,by go_num,rfl,hq1,HQ1,HS2⟩
 have hin:i=nN:=by omega
 have hqT:q=T1:=by rw [<- KQ.out,List.take_of_length_le (by rw [HL.out];omega)];exact HT1.out
 subst hqT
 have HSn:=qH KS.out
 clear hin KQ KS
 generalize wr=wn at *
 go_wp2_with fail
 clear p1
 go_loopg [3,5] nR (fun gh sx ix wr=>∃ i p:Nat,nR-i=gh/\i<=nR/\ix=.int .i64 i/\sx=.int .i64 ((q+p:Nat):Int)/\p<=T2/\Hid (wsum ((rs.take i).flatMap RL.props)=p)/\Hid (Same w1 wr))
 case atStart=>exact ⟨0,0,rfl,Nat.zero_le _,rfl,rfl,Nat.zero_le _,qH (by simp [wsum]),HSn⟩
 obtain ⟨i,p,rfl,hi,rfl,rfl,hp,KQ,KS⟩:=hrel
 have p1:wr.cell? ⟨w.heap.size,1,none⟩=some (.slice AR nR cR):=(HB1.out.same KS.out).cell 1
 by_cases hlt:i<nR
 · have HRw:=qH (HR1.out.rels.same KS.out)
   obtain ⟨b,o,x,rfl,hb,_,hx,hxm,r0,r1,r2,r3,r4⟩:=HRw.out.at_ hlt
   have HP:=qH (HRw.out.pro x hxm)
   have HX:=qH (HF2.out x hxm)
   obtain ⟨ln,hln⟩:∃ ln,wsum x.props=ln:=⟨_,rfl⟩
   have hq1:p+ln<=T2:=by
    have h1:=wflat_take (f:=RL.props) hx
    have h2:=wflat_le RL.props rs (i+1)
    rw [HT2.out,h1,KQ.out,hln] at h2
    exact h2
   have HQ1:=qH (show wsum ((rs.take (i+1)).flatMap RL.props)=p+ln by rw [wflat_take hx,KQ.out,hln])
   have HLn:=qH hln
   have hwr:IntKind.i64.wrap (((q+p:Nat):Int)+(ln:Int))=((q+(p+ln):Nat):Int):=by rw [IntKind.wrap_i64];omega
   obtain ⟨ix,tx,sx,dx,px,AP,nP,cP⟩:=x
   simp only at r0 r1 r2 r3 r4 HP HX HLn
   obtain ⟨sm,hsm⟩:∃ sm,q+p=sm:=⟨_,rfl⟩
   obtain ⟨sm2,hsm2⟩:∃ sm,q+(p+ln)=sm:=⟨_,rfl⟩
   rw [hsm,hsm2] at hwr
   rw [hsm]
   have HSm2:=qH hsm2
   clear hx hxm hln KQ HRw r0 r1 r2 r3 hsm hsm2
   go_wp2_with fail
   refine (propsWeight_spec _ HP.out HX.out (by rw [HLn.out];omega)).mono ?_
   rintro e w2 ⟨rfl,hs2⟩
   have HS2:=qH (KS.out.same hs2)
   rw [HLn.out]
   clear hs2 r4 p1
   go_wp2
   go_roundg (nR-(i+1))
   case measure=>omega
   case rel=>exact ⟨i+1,p+ln,rfl,by omega,by go_num,by rw [HSm2.out],hq1,HQ1,HS2⟩
 have hin:i=nR:=by omega
 have hqT:p=T2:=by rw [<- KQ.out,List.take_of_length_le (by rw [HL'.out];omega)];exact HT2.out
 subst hqT
 go_wp2
 go_ret
 exact ⟨rfl,HS1.out.same KS.out⟩
end Go.Proofs.YtkopcinhbjimiaaGreatDoor
namespace Go.Proofs.YtkopcinhbjimiaaGreatDoor
open Go.RowKit
def lett (k:Nat):Nat:=if k<26 then 97+k else if k<52 then 39+k else if k=52 then 95 else k-5
def posC (c:UInt8):Nat:=if 97<=c.toNat/\c.toNat<=122 then c.toNat-97 else if 65<=c.toNat/\c.toNat<=90 then c.toNat-39 else if c.toNat=95 then 52 else if 48<=c.toNat/\c.toNat<=57 then c.toNat+5 else 63
theorem posC_le (c:UInt8):posC c<=63:=by
 unfold posC
 have:=c.toNat_lt
 repeat' split
 all_goals omega
theorem lett_ne {c:UInt8} {j:Nat} (h:j<posC c):lett j≠c.toNat:=by
 have:=c.toNat_lt
 unfold posC at h
 unfold lett
 repeat' split at h
 all_goals (repeat' split)
 all_goals omega
theorem lett_at {c:UInt8} (h:posC c<63):lett (posC c)=c.toNat:=by
 have:=c.toNat_lt
 unfold posC at h ⊢
 unfold lett
 repeat' split at h
 all_goals (repeat' split)
 all_goals omega
theorem nameC_pos (c:UInt8):nameC c=decide (posC c<63):=by
 by_cases h:(97<=c.toNat/\c.toNat<=122)\/(65<=c.toNat/\c.toNat<=90)\/(48<=c.toNat/\c.toNat<=57)\/c.toNat=95
 · rw [nameC_yes h,eq_comm,decide_eq_true_eq]
   unfold posC
   repeat' split
   all_goals omega
 rw [nameC_no h,eq_comm,decide_eq_false_iff_not]
 unfold posC
 repeat' split
 all_goals omega
theorem digitC_pos (c:UInt8) (h:posC c<63):digitC c=decide (52<posC c):=by
 unfold digitC
 rw [Bool.eq_iff_iff,Bool.and_eq_true,decide_eq_true_eq,decide_eq_true_eq,decide_eq_true_eq]
 unfold posC at h ⊢
 repeat' split at h
 all_goals (repeat' split)
 all_goals omega
def letters:ByteArray:=⟨#[97,98,99,100,101,102,103,104,105,106,107,108,109,110,111,112,113,114,115,116,117,118,119,120,121,122,65,66,67,68,69,70,71,72,73,74,75,76,77,78,79,80,81,82,83,84,85,86,87,88,89,90,95,48,49,50,51,52,53,54,55,56,57]⟩
theorem letters_at:∀ k:Fin 63,(letters[k.val]'(by have:=k.isLt;show k.val<63;exact this)).toNat=lett k.val:=by decide +kernel
theorem run_letters (w:World) {j:Nat} (h:j<63):(Instr.index 9 (.string ⟨#[97,98,99,100,101,102,103,104,105,106,107,108,109,110,111,112,113,114,115,116,117,118,119,120,121,122,65,66,67,68,69,70,71,72,73,74,75,76,77,78,79,80,81,82,83,84,85,86,87,88,89,90,95,48,49,50,51,52,53,54,55,56,57]⟩) (.int .i64 j)).run Tryz.prog w=.ok (.int .u8 (lett j:Nat)) w:=by
 rw [run_index_string w 9 _ .i64 j Tryz.underlying9,dif_pos ⟨by omega,show (j:Int)<((63:Nat):Int) by omega⟩]
 have h1:=letters_at ⟨j,h⟩
 simp only [letters] at h1
 simp only [Int.toNat_natCast]
 rw [h1]
theorem goodN_digit {s:ByteArray} (h0:0<s.size) (h:digitC s[0]=true):goodN s=false:=by
 unfold goodN goodL
 rw [headC_pos h0,h]
 simp
theorem goodN_bad {s:ByteArray} {k:Nat} (h0:k<s.size) (h:nameC s[k]=false):goodN s=false:=by
 unfold goodN goodL
 rw [all_false (k:=k) (by rw [bytes_len];exact h0) (by rw [bytes_get s h0];exact h)]
 simp
theorem rgood_spec (s:ByteArray) (w:World):Calls Tryz.prog 52 #[.string s] w fun e w'=>e=.returned (.bool (goodN s))/\Same w w':=by
 by_cases h0:s.size<1
 · have HG:=qH (show goodN s=false from by
    unfold goodN goodL
    have:s.data.toList=[]:=List.length_eq_zero_iff.1 (by rw [bytes_len];omega)
    rw [this];rfl)
   have h0i:(s.size:Int)<1:=by omega
   go_enter Tryz.func52,Tryz.ntmps52
   go_wp2
   go_ret
   exact ⟨by rw [HG.out];rfl,Upd.refl _ _⟩
 by_cases h40:40<s.size
 · have HG:=qH (show goodN s=false from by
    unfold goodN goodL
    rw [bytes_len,decide_eq_false (by omega)];rfl)
   have h0i:¬ (s.size:Int)<1:=by omega
   have h1i:(40:Int)<s.size:=by omega
   go_enter Tryz.func52,Tryz.ntmps52
   go_wp2
   go_ret
   exact ⟨by rw [HG.out];rfl,Upd.refl _ _⟩
 have h0i:¬ (s.size:Int)<1:=by omega
 have h1i:¬ (40:Int)<s.size:=by omega
 have HP:=qH (show 0<s.size by omega)
 go_enter Tryz.func52,Tryz.ntmps52
 go_wp2_with fail
 go_loopg [3] s.size (fun gh ix wr=>∃ k:Nat,s.size-k=gh/\k<=s.size/\ix=.int .i64 k/\Hid ((s.data.toList.take k).all nameC=true)/\Hid (∀ h:0<s.size,0<k->digitC s[0]=false)/\Hid (Same w wr))
 case atStart=>exact ⟨0,rfl,Nat.zero_le _,rfl,qH rfl,qH (fun _ h=>by omega),qH (Upd.refl _ _)⟩
 obtain ⟨k,rfl,hk,rfl,KA,KD,KS⟩:=hrel
 by_cases hlt:k<s.size
 · obtain ⟨c,hc⟩:∃ c,s[k]=c:=⟨_,rfl⟩
   obtain ⟨p,hp⟩:∃ p,posC c=p:=⟨_,rfl⟩
   have hp63:=posC_le c
   rw [hp] at hp63
   have HA1:Hid (p<63->(s.data.toList.take (k+1)).all nameC=true):=qH fun h=>by
    rw [all_take (by rw [bytes_len];exact hlt),bytes_get s hlt,KA.out,hc,nameC_pos,hp,decide_eq_true h]
    rfl
   have HB1:Hid (p=63->goodN s=false):=qH fun h=>goodN_bad hlt (by rw [hc,nameC_pos,hp,h];rfl)
   have HD1:Hid (k=0->52<p->p<63->goodN s=false):=qH fun h h1 h2=>by
    subst h
    exact goodN_digit hlt (by rw [hc,digitC_pos c (by rw [hp];exact h2),hp,decide_eq_true h1])
   have HD2:Hid (p<63->(k=0->p<=52)->∀ h:0<s.size,digitC s[0]=false):=qH fun h1 h2 h=>by
    by_cases hk0:k=0
    · subst hk0
      rw [hc,digitC_pos c (by rw [hp];exact h1),hp,decide_eq_false (by have:=h2 rfl;omega)]
    exact KD.out h (by omega)
   have HN1:Hid (∀ j,j<p->lett j≠c.toNat):=qH fun j hj=>lett_ne (by rw [hp];exact hj)
   have HN2:Hid (p<63->lett p=c.toNat):=qH fun h=>by rw [<- hp] at h ⊢;exact lett_at h
   have hcl:=c.toNat_lt
   obtain ⟨wo,rfl⟩:∃ wo:World,wo=wr:=⟨_,rfl⟩
   clear hp KA KD
   go_wp2_with fail
   go_loopg [4] p (fun gh ix wr=>∃ j:Nat,p-j=gh/\j<=p/\ix=.int .i64 j/\Hid (Same w wr))
   case atStart=>exact ⟨0,rfl,Nat.zero_le _,rfl,KS⟩
   obtain ⟨j,rfl,hj,rfl,JS⟩:=hrel
   by_cases hjp:j<p
   · have hidx:=fun w=>run_letters w (j:=j) (by omega)
     have hne:=HN1.out j hjp
     obtain ⟨L,hL⟩:∃ L,lett j=L:=⟨_,rfl⟩
     rw [hL] at hidx hne
     have hn1:((L:Int)==(c.toNat:Int))=false:=by simp only [beq_eq_false_iff_ne,ne_eq];omega
     have hn2:((L:Int) != (c.toNat:Int))=true:=by simp only [bne_iff_ne,ne_eq];omega
     have hj63:decide ((j:Int)<63)=true:=decide_eq_true (by omega)
     have hki:(k:Int)<s.size:=by omega
     clear hL hne
     go_wp2_with fail
     go_quiet (fail)
     go_wp2
     go_roundg (p-(j+1))
     case measure=>omega
     case rel=>exact ⟨j+1,rfl,by omega,by go_num,qH (JS.out.drewN _)⟩
   have hjp2:j=p:=by omega
   subst hjp2
   by_cases h63:j=63
   · have HG:=qH (HB1.out h63)
     subst h63
     go_wp2_with fail
     go_quiet (fail)
     go_wp2
     go_ret
     exact ⟨by rw [HG.out];rfl,JS.out.drewN _⟩
   have hidx:=fun w=>run_letters w (j:=j) (by omega)
   have heq:=HN2.out (by omega)
   obtain ⟨L,hL⟩:∃ L,lett j=L:=⟨_,rfl⟩
   rw [hL] at hidx heq
   subst heq
   have hj63:decide ((j:Int)<63)=true:=decide_eq_true (by omega)
   have hj64:((j:Int)==63)=false:=by simp only [beq_eq_false_iff_ne,ne_eq];omega
   have hki:(k:Int)<s.size:=by omega
   clear hL
   by_cases hk0:k=0
   · subst hk0
     by_cases h52:52<j
     · have HG:=qH (HD1.out rfl h52 (by omega))
       have h52i:decide ((52:Int)<j)=true:=decide_eq_true (by omega)
       go_wp2_with fail
       go_quiet (fail)
       go_wp2
       go_ret
       exact ⟨by rw [HG.out];rfl,JS.out.drewN _⟩
     have h52i:decide ((52:Int)<j)=false:=decide_eq_false (by omega)
     go_wp2_with fail
     go_quiet (fail)
     go_wp2
     go_roundg (s.size-1)
     case measure=>omega
     case rel=>exact ⟨1,by omega,by omega,by go_num,qH (HA1.out (by omega)),qH (fun h _=>HD2.out (by omega) (fun _=>by omega) h),qH (JS.out.drewN _)⟩
   have hk0i:((k:Int)==0)=false:=by simp only [beq_eq_false_iff_ne,ne_eq];omega
   go_wp2_with fail
   go_quiet (fail)
   go_wp2
   go_roundg (s.size-(k+1))
   case measure=>omega
   case rel=>exact ⟨k+1,by omega,by omega,by go_num,qH (HA1.out (by omega)),qH (fun h _=>HD2.out (by omega) (fun h=>absurd h hk0) h),qH (JS.out.drewN _)⟩
 have hks:k=s.size:=by omega
 have HG:=qH (show goodN s=true from by
  unfold goodN goodL
  have h1:=KA.out
  rw [List.take_of_length_le (by rw [bytes_len];omega)] at h1
  have hp:=HP.out
  rw [headC_pos hp,KD.out hp (by omega),h1,bytes_len,decide_eq_true (by omega)]
  rfl)
 go_wp2
 go_ret
 exact ⟨by rw [HG.out];rfl,KS.out⟩
end Go.Proofs.YtkopcinhbjimiaaGreatDoor
namespace Go.Proofs.YtkopcinhbjimiaaGreatDoor
open Go.RowKit
theorem propsWrong_spec {F:Nat->Prop} {A:Option Addr} {n c:Nat} {ps:List PR} (w:World) (h:RdPs w F A n c ps) (hf:PsFit ps) {E:Int} (hE:propsErr (ps.map PR.dat)=E) :
 Calls Tryz.prog 53 #[.slice A n c] w fun e w'=>e=.returned (.int .i64 E)/\Same w w':=by
 have hl:=h.len
 have hmx:=h.row.max
 have hle:=h.row.le
 unfold maxLen at hmx
 have HR:=qH h
 have HF:=qH hf
 unfold propsErr at hE
 rw [List.length_map,hl] at hE
 have HL:=qH hl
 by_cases h16:16<n
 · rw [if_pos h16] at hE
   subst hE
   have h16i:(16:Int)<n:=by omega
   go_enter Tryz.func53,Tryz.ntmps53
   go_wp2
   go_ret
   exact ⟨rfl,Upd.refl _ _⟩
 rw [if_neg h16] at hE
 have HE:=qH hE
 have h16i:¬ (16:Int)<n:=by omega
 clear h hf hl hE
 go_enter Tryz.func53,Tryz.ntmps53
 go_wp2_with fail
 go_loopg [3,2,4] n (fun gh ix s2 s4 wr=>∃ i:Nat,n-i=gh/\i<=n/\ix=.int .i64 i/\Hid (Same w wr)/\Hid (propErrs (aheadK PR.key ps i) ((ps.map PR.dat).drop i)=E))
 case atStart=>exact ⟨0,rfl,Nat.zero_le _,rfl,qH (Upd.refl _ _),qH (by rw [List.drop_zero];exact HE.out)⟩
 obtain ⟨i,rfl,hi,rfl,KS,KE⟩:=hrel
 by_cases hlt:i<n
 · have HRw:=qH (HR.out.same KS.out)
   obtain ⟨b,o,x,rfl,hb,_,hx,hxm,r0,r1,r2,r3,r4,r5⟩:=HRw.out.at_ hlt
   have hke:=KE.out
   have hxd:(ps.map PR.dat)[i]?=some x.dat:=by rw [List.getElem?_map,hx];rfl
   rw [drop_cons hxd] at hke
   simp only [propErrs] at hke
   have HV:=qH ((HRw.out.val x hxm))
   have HX1:=qH (HF.out x hxm).1
   have HX2:=qH (HF.out x hxm).2
   have HAk:=qH (show aheadK PR.key ps (i+1)=some x.key from by simp only [aheadK,hx];rfl)
   have HRat:=qH (fun (w9:World) (hu:Same wr w9)=>(HRw.out.same hu).at_ hlt)
   have HX:=qH hx
   obtain ⟨kx,⟨x0,x1,x2,x3,x4⟩,X1,a1,b1,X2,a2,b2⟩:=x
   simp only at r0 r1 r2 r3 r4 r5
   replace hke:(if goodN kx=false then 60 else if notAfter kx (aheadK PR.key ps i)=true then 6 else if chk ⟨x0,x1,x2,x3,x4⟩≠0 then chk ⟨x0,x1,x2,x3,x4⟩ else propErrs (some kx) ((ps.map PR.dat).drop (i+1)))=E:=hke
   cases hg:goodN kx with
   | false =>
     rw [hg,if_pos rfl] at hke
     have HK:=qH hke
     have HG:=qH hg
     clear hke hg hx hxd hxm r1 r2 r3 r4 r5
     go_wp2_with fail
     refine (rgood_spec kx _).mono ?_
     rintro e w2 ⟨rfl,hs2⟩
     have HS2:=qH (KS.out.same hs2)
     clear hs2
     rw [HG.out]
     go_wp2
     go_ret
     exact ⟨by rw [<- HK.out];rfl,HS2.out⟩
   | true =>
     rw [hg,if_neg (by simp)] at hke
     have HG:=qH hg
     obtain ⟨r,hr⟩:∃ r,notAfter kx (aheadK PR.key ps i)=r:=⟨_,rfl⟩
     rw [hr] at hke
     have HKr:=qH (show r=true->(6:Int)=E from fun h=>by rw [if_pos h] at hke;exact hke)
     have HKn:=qH (show r=false->(if chk ⟨x0,x1,x2,x3,x4⟩≠0 then chk ⟨x0,x1,x2,x3,x4⟩ else propErrs (some kx) (List.drop (i+1) (ps.map PR.dat)))=E from fun h=>by rw [if_neg (by rw [h];simp)] at hke;exact hke)
     have HRr:=qH hr
     clear hke hg hr hx hxd hxm r1 r2 r3 r4 r5
     go_wp2_with fail
     refine (rgood_spec kx _).mono ?_
     rintro e w2 ⟨rfl,hs2⟩
     have HS2:=qH (KS.out.same hs2)
     have HRA:=qH (HRw.out.same hs2)
     have HV2:=qH (HV.out.same hs2)
     rw [HG.out]
     have r0':w2.cell? ⟨b,o+i*6,none⟩=some (.string kx):=(hs2.cell (p:=⟨b,o+i*6,none⟩) hb (fun f=>f)).trans r0
     clear r0 hs2 KS KE HRw HV HRat
     go_upto_region 8 with fail
     go_cut [36] from 21 to 45 (fun s36 wx=>s36=.bool r/\∃ d,wx=w2.drewN d)
     case first =>
      by_cases hi0:i=0
      · have hgt:¬ (0:Int)<i:=by omega
        have hgtN:¬ 0<i:=by omega
        have hgd:decide (0<i)=false:=decide_eq_false hgtN
        have hr0:r=false:=by rw [<- HRr.out,hi0];rfl
        subst hr0
        clear hi0
        go_quiet (fail)
        go_wp2
        go_meet
        case rel=>exact ⟨rfl,_,rfl⟩
      obtain ⟨j,hj⟩:∃ j,i=j+1:=⟨i-1,by omega⟩
      have hgt:(0:Int)<i:=by omega
      have hgtN:0<i:=by omega
      have hjn:j<n:=by omega
      have hwr:IntKind.i64.wrap ((i:Int)-1)=(j:Int):=by rw [IntKind.wrap_i64];omega
      obtain ⟨b2,o2,y,hA2,_,_,hy,_,q0,_⟩:=HRA.out.at_ hjn
      injection hA2 with hA2
      injection hA2 with e1 e2 _
      subst e1 e2
      obtain ⟨ky,hky⟩:∃ ky,y.key=ky:=⟨_,rfl⟩
      rw [hky] at q0
      have hyr:(Op.bytesLess kx.toList ky.toList || kx.toList==ky.toList)=r:=by
       rw [<- HRr.out,hj]
       simp only [aheadK]
       rw [hy]
       simp only [Option.map_some,hky]
       rfl
      clear hy hky hj hi0
      go_quiet (fail)
      go_wp2
      go_meet
      case rel=>exact ⟨rfl,_,rfl⟩
     obtain ⟨rfl,d,rfl⟩:=hcut
     have hsd:Same w2 (w2.drewN d):=(Upd.refl _ w2).drewN d
     have HS6:=qH (HS2.out.same hsd)
     have HR6:=qH (HRA.out.same hsd)
     have HV6:=qH (HV2.out.same hsd)
     clear hsd r0' HS2 HRA HV2
     generalize w2.drewN d=w6 at *
     cases r with
     | true =>
       have hE6:=HKr.out rfl
       subst hE6
       go_wp2
       go_ret
       exact ⟨rfl,HS6.out⟩
     | false =>
       have hk:=HKn.out rfl
       obtain ⟨b3,o3,x',hA3,_,_,hx',_,q0,q1,q2,q3,q4,q5⟩:=HR6.out.at_ hlt
       injection hA3 with hA3
       injection hA3 with e1 e2 _
       subst e1 e2
       rw [HX.out] at hx'
       injection hx' with hx'
       subst hx'
       simp only at q0 q1 q2 q3 q4 q5
       have HK:=qH hk
       clear hk q0
       go_wp2_with fail
       refine (rcheck_spec _ HV6.out HX1.out HX2.out).mono ?_
       rintro e w7 ⟨rfl,hs7⟩
       have HS7:=qH (HS6.out.same hs7)
       clear hs7 q1 q2 q3 q4 q5 HS6 HV6
       obtain ⟨C,hC⟩:∃ C,chk ⟨x0,x1,x2,x3,x4⟩=C:=⟨_,rfl⟩
       have hk:=HK.out
       rw [hC] at hk ⊢
       by_cases hz:C=0
       · subst hz
         rw [if_neg (by simp)] at hk
         have HK2:=qH hk
         clear hk HK hC
         go_wp2
         go_roundg (n-(i+1))
         case measure=>omega
         case rel=>exact ⟨i+1,rfl,by omega,by go_num,HS7,qH (by rw [HAk.out];exact HK2.out)⟩
       rw [if_pos hz] at hk
       subst hk
       have hcn:(C != 0)=true:=by rw [bne_iff_ne];exact hz
       go_wp2
       go_ret
       exact ⟨rfl,HS7.out⟩
 have hin:i=n:=by omega
 have hE0:E=0:=by
  have h1:=KE.out
  rw [List.drop_of_length_le (by rw [List.length_map,HL.out];omega)] at h1
  simpa [propErrs] using h1.symm
 subst hE0
 clear KE HE
 go_wp2
 go_ret
 exact ⟨rfl,KS.out⟩
def insideErr (ls:List ByteArray) (ps:List GPr):Int:=if labelsErr ls≠0 then labelsErr ls else propsErr ps
theorem nodeWrong_spec {F:Nat->Prop} {ix:Int} {AL AP:Option Addr} {nL cL nP cP:Nat} {ls:List ByteArray} {ps:List PR} (w:World) (hL:WRow w F 1 AL nL cL (ls.map Value.string)) (hP:RdPs w F AP nP cP ps) (hf:PsFit ps) {E:Int} (hE:insideErr ls (ps.map PR.dat)=E) :
 Calls Tryz.prog 51 #[.agg #[.int .i64 ix,.slice AL nL cL,.slice AP nP cP]] w fun e w'=>e=.returned (.int .i64 E)/\Same w w':=by
 have hl:ls.length=nL:=by have:=hL.len;simpa using this
 have hmx:=hL.max
 have hle:=hL.le
 unfold maxLen at hmx
 have hs1:=(Upd.refl (fun _=>False) w).alloc (.cells #[.int .i64 ix,.slice AL nL cL,.slice AP nP cP] 43)
 have HS1:=qH hs1
 have HB1:=qH (Blk.new w 43 #[.int .i64 ix,.slice AL nL cL,.slice AP nP cP])
 have HR:=qH (hL.upd hs1 fun b hb hh=>hh)
 have HP:=qH (hP.same hs1)
 have HF:=qH hf
 have HL:=qH hl
 obtain ⟨L,hLE⟩:∃ L,labelsErr ls=L:=⟨_,rfl⟩
 unfold insideErr at hE
 rw [hLE] at hE
 unfold labelsErr at hLE
 rw [hl] at hLE
 by_cases h8:8<nL
 · rw [if_pos h8] at hLE
   subst hLE
   rw [if_pos (by decide)] at hE
   subst hE
   have h8i:(8:Int)<nL:=by omega
   go_enter Tryz.func51,Tryz.ntmps51
   go_wp2
   go_ret
   exact ⟨rfl,HS1.out⟩
 rw [if_neg h8] at hLE
 have HE:=qH hE
 have HLE:=qH hLE
 have h8i:¬ (8:Int)<nL:=by omega
 clear hL hP hf hl hE hLE hs1
 go_enter Tryz.func51,Tryz.ntmps51
 go_upto_region 1 with fail
 generalize w.alloc (.cells #[.int .i64 ix,.slice AL nL cL,.slice AP nP cP] 43)=w1 at *
 have p1:w1.cell? ⟨w.heap.size,1,none⟩=some (.slice AL nL cL):=HB1.out.cell 1
 go_wp2_with fail
 clear p1
 go_loopg [3,2] nL (fun gh jx s2 wr=>∃ i:Nat,nL-i=gh/\i<=nL/\jx=.int .i64 i/\Hid (Same w1 wr)/\Hid (labErrs (aheadK id ls i) (ls.drop i)=L))
 case atStart=>exact ⟨0,rfl,Nat.zero_le _,rfl,qH (Upd.refl _ _),qH (by rw [List.drop_zero];exact HLE.out)⟩
 obtain ⟨i,rfl,hi,rfl,KS,KE⟩:=hrel
 have p1:wr.cell? ⟨w.heap.size,1,none⟩=some (.slice AL nL cL):=(HB1.out.same KS.out).cell 1
 by_cases hlt:i<nL
 · have HRw:=qH (HR.out.upd KS.out fun b hb hh=>hh)
   obtain ⟨b,o,u,rfl,hb,_,hu,r0⟩:=HRw.out.at_ hlt
   rw [List.getElem?_map] at hu
   obtain ⟨x,hx,rfl⟩:=Option.map_eq_some_iff.1 hu
   have hke:=KE.out
   rw [drop_cons hx] at hke
   simp only [labErrs] at hke
   have HAk:=qH (show aheadK id ls (i+1)=some x from by simp only [aheadK,hx];rfl)
   clear hu
   cases hg:goodN x with
   | false =>
     rw [hg,if_pos rfl] at hke
     subst hke
     have HE2:=qH (show (60:Int)=E from by have h:=HE.out;rw [if_pos (by decide)] at h;exact h)
     have HG:=qH hg
     clear hg hx
     go_wp2_with fail
     refine (rgood_spec x _).mono ?_
     rintro e w2 ⟨rfl,hs2⟩
     have HS2:=qH (KS.out.same hs2)
     clear hs2
     rw [HG.out]
     go_wp2
     go_ret
     exact ⟨by rw [<- HE2.out];rfl,HS1.out.same HS2.out⟩
   | true =>
     rw [hg,if_neg (by simp)] at hke
     have HG:=qH hg
     obtain ⟨r,hr⟩:∃ r,notAfter x (aheadK id ls i)=r:=⟨_,rfl⟩
     rw [hr] at hke
     have HKr:=qH (show r=true->(6:Int)=L from fun h=>by rw [if_pos h] at hke;exact hke)
     have HKn:=qH (show r=false->labErrs (some x) (ls.drop (i+1))=L from fun h=>by rw [if_neg (by rw [h];simp)] at hke;exact hke)
     have HRr:=qH hr
     clear hke hg hr
     go_wp2_with fail
     refine (rgood_spec x _).mono ?_
     rintro e w2 ⟨rfl,hs2⟩
     have HS2:=qH (KS.out.same hs2)
     have HRA:=qH (HRw.out.upd hs2 fun b hb hh=>hh)
     rw [HG.out]
     have r0':w2.cell? ⟨b,o+i,none⟩=some (.string x):=(hs2.cell (p:=⟨b,o+i,none⟩) hb (fun f=>f)).trans r0
     have p1':w2.cell? ⟨w.heap.size,1,none⟩=some (.slice (some ⟨b,o,none⟩) nL cL):=(HB1.out.same HS2.out).cell 1
     clear r0 hs2 KS KE HRw p1
     go_upto_region 8 with fail
     go_cut [37] from 22 to 37 (fun s37 wx=>s37=.bool r/\∃ d,wx=w2.drewN d)
     case first =>
      by_cases hi0:i=0
      · have hgt:¬ (0:Int)<i:=by omega
        have hgtN:¬ 0<i:=by omega
        have hgd:decide (0<i)=false:=decide_eq_false hgtN
        have hr0:r=false:=by rw [<- HRr.out,hi0];rfl
        subst hr0
        clear hi0 hx
        go_quiet (fail)
        go_wp2
        go_meet
        case rel=>exact ⟨rfl,_,rfl⟩
      obtain ⟨j,hj⟩:∃ j,i=j+1:=⟨i-1,by omega⟩
      have hgt:(0:Int)<i:=by omega
      have hgtN:0<i:=by omega
      have hjn:j<nL:=by omega
      have hwr:IntKind.i64.wrap ((i:Int)-1)=(j:Int):=by rw [IntKind.wrap_i64];omega
      obtain ⟨b2,o2,v,hA2,_,_,hv,q0⟩:=HRA.out.at_ hjn
      injection hA2 with hA2
      injection hA2 with e1 e2 _
      subst e1 e2
      rw [List.getElem?_map] at hv
      obtain ⟨ky,hky,rfl⟩:=Option.map_eq_some_iff.1 hv
      have hyr:(Op.bytesLess x.toList ky.toList || x.toList==ky.toList)=r:=by
       rw [<- HRr.out,hj]
       simp only [aheadK]
       rw [hky]
       rfl
      clear hv hky hj hi0 hx
      go_quiet (fail)
      go_wp2
      go_meet
      case rel=>exact ⟨rfl,_,rfl⟩
     obtain ⟨rfl,d,rfl⟩:=hcut
     have hsd:Same w2 (w2.drewN d):=(Upd.refl _ w2).drewN d
     have HS6:=qH (HS2.out.same hsd)
     clear hsd r0' p1' HS2 HRA
     generalize w2.drewN d=w6 at *
     cases r with
     | true =>
       have hE6:=HKr.out rfl
       subst hE6
       have HE2:=qH (show (6:Int)=E from by have h:=HE.out;rw [if_pos (by decide)] at h;exact h)
       clear hx
       go_wp2
       go_ret
       exact ⟨by rw [<- HE2.out];rfl,HS1.out.same HS6.out⟩
     | false =>
       have HK:=qH (HKn.out rfl)
       clear hx
       go_wp2
       go_roundg (nL-(i+1))
       case measure=>omega
       case rel=>exact ⟨i+1,rfl,by omega,by go_num,HS6,qH (by rw [HAk.out];exact HK.out)⟩
 have hin:i=nL:=by omega
 have hL0:L=0:=by
  have h1:=KE.out
  rw [List.drop_of_length_le (by rw [HL.out];omega)] at h1
  simpa [labErrs] using h1.symm
 have HE2:=qH (show propsErr (ps.map PR.dat)=E from by have h:=HE.out;rw [if_neg (by rw [hL0];decide)] at h;exact h)
 have p2:wr.cell? ⟨w.heap.size,2,none⟩=some (.slice AP nP cP):=(HB1.out.same KS.out).cell 2
 clear hL0 KE HE HLE
 go_wp2_with fail
 refine (propsWrong_spec _ (HP.out.same KS.out) HF.out HE2.out).mono ?_
 rintro e w9 ⟨rfl,hs9⟩
 have HS9:=qH (KS.out.same hs9)
 clear hs9 p1 p2
 go_wp2
 go_ret
 exact ⟨rfl,HS1.out.same HS9.out⟩
end Go.Proofs.YtkopcinhbjimiaaGreatDoor
namespace Go.Proofs.YtkopcinhbjimiaaGreatDoor
open Go.RowKit
end Go.Proofs.YtkopcinhbjimiaaGreatDoor
namespace Go.Proofs.YtkopcinhbjimiaaGreatDoor
open Go.RowKit Go.Shelf
attribute [local go_sem] Oper.semAt_some
def Ints (S:Nat->Prop) (W:World) (sv:Value) (zs:List Int):Prop :=
 (sv=.slice none 0 0/\zs=[])\/∃ b off cap,sv=.slice (some ⟨b,off,none⟩) zs.length cap/\b<W.heap.size/\¬ S b/\∀ j,j<zs.length->W.cell? ⟨b,off+j,none⟩=some (.int .i64 (zs[j]?.getD 0))
theorem Ints.below {S:Nat->Prop} {A B:World} (h:Below A.heap.size A B) {sv:Value} {zs:List Int}:Ints S A sv zs->Ints S B sv zs
 | .inl e=>.inl e
 | .inr ⟨b,off,cap,e,hb,hs,hc⟩=>.inr ⟨b,off,cap,e,Nat.lt_of_lt_of_le hb h.size,hs,fun j hj=>(h.cell (p:=⟨b,off+j,none⟩) hb).trans (hc j hj)⟩
theorem Ints.of_own {S:Nat->Prop} {w:World} {B c:Nat} {A:Option Addr} {l:List Int} (h:w.ownsRow B 3 1 (.slice A l.length c) l.length (l.map (Value.int .i64))) (hS:∀ b,B<=b->b<w.heap.size->¬ S b):Ints S w (.slice A l.length c) l:=by
 have hr:=Row.of_own h
 cases hA:A with
 | none =>
   have h1:=hr.nil hA
   have h2:=hr.le
   have h3:l.length=0:=by omega
   have h4:l=[]:=List.length_eq_zero_iff.1 h3
   subst h4
   subst h1
   exact .inl ⟨rfl,rfl⟩
 | some a =>
   obtain ⟨h1,h2,h3,h4⟩:=hr.cell a hA
   obtain ⟨b,o,s⟩:=a
   subst h1
   refine .inr ⟨b,o,c,rfl,h2,hS _ h3.2 h2,fun j hj=>?_⟩
   have:=h4 j (.int .i64 (l[j]?.getD 0)) (by rw [List.getElem?_map,List.getElem?_eq_getElem hj];rfl)
   exact this
theorem updK_t {S:Nat->Prop} {A B C:World} (h:Upd S A B) (k:Upd S B C):Upd S A C:=h.trans k fun _ _ h=>h
theorem updK_b {S:Nat->Prop} {w:World} (hS:∀ k,w.heap.size<=k->S k) (W:World) (l:Nat) (o o':Obj) (hl:w.heap.size<=l) (_:W.heap[l]?=some o) (_:o.isCells=false) (_:o.isWalk=false):Upd S W (W.putObj l o') :=
 (Upd.refl S W).grown (grownBy_putObj' W l o') fun k e=>.inl (by injection e with e;subst e;exact hS _ hl)
end Go.Proofs.YtkopcinhbjimiaaGreatDoor
