/- Texts that the claim leans on: walks and plain laws, function by function. -/
import Derived.Shelf.Abstract
import Derived.Shelf.RegionOpen
import Derived.OwnWalkIn
import Derived.TacticsInMore
import Derived.LoopNIn
import Derived.LoopIn
import Derived.Test.YtkopcinhbjimiaaGreatDoorIterL
import Derived.StringKeys
import Derived.Test.YtkopcinhbjimiaaGreatDoorS11
set_option maxRecDepth 100000
set_option maxHeartbeats 16000000
namespace Go.Proofs.YtkopcinhbjimiaaGreatDoor
open Go.RowKit
def wsum (ps:List PR):Nat:=(ps.map fun x=>(enc x.g).length).sum
theorem ZdP (a b:List PR):wsum (a++b)=wsum a+wsum b:=by simp [wsum,List.sum_append]
theorem ZiZ {ps:List PR} {i:Nat} {x:PR} (h:ps[i]?=some x):wsum (ps.take (i+1))=wsum (ps.take i)+(enc x.g).length:=by
 rw [List.take_add_one,h,Option.toList_some,ZdP]
 simp [wsum]
theorem Zpy (ps:List PR) (i:Nat):wsum (ps.take i)<=wsum ps:=by
 have h:=ZdP (ps.take i) (ps.drop i)
 rw [List.take_append_drop] at h
 omega
theorem ZdQ {α:Type} {f:α->List PR} {l:List α} {i:Nat} {x:α} (h:l[i]?=some x):wsum ((l.take (i+1)).flatMap f)=wsum ((l.take i).flatMap f)+wsum (f x):=by
 rw [List.take_add_one,h,Option.toList_some,List.flatMap_append,ZdP]
 simp
theorem Zlp {α:Type} (f:α->List PR) (l:List α) (i:Nat):wsum ((l.take i).flatMap f)<=wsum (l.flatMap f):=by
 have h:=ZdP ((l.take i).flatMap f) ((l.drop i).flatMap f)
 rw [<- List.flatMap_append,List.take_append_drop] at h
 omega
theorem Zdo {F:Nat->Prop} {A:Option Addr} {n c:Nat} {ps:List PR} (w:World) (h:RdPs w F A n c ps) (hf:Zel ps) (hs:wsum ps<=4611686018427387904) :
 Calls Tryz.prog 87 #[.slice A n c] w fun e w'=>e=.returned (.int .i64 (wsum ps:Int))/\Same w w':=by
 have hl:=h.len
 have hmx:=h.row.max
 have hle:=h.row.le
 unfold maxLen at hmx
 have HR:=qH h
 have HF:=qH hf
 have HL:=qH hl
 obtain ⟨T,hT⟩:∃ T,wsum ps=T:=⟨_,rfl⟩
 rw [hT] at hs ⊢
 have HT:=qH hT
 clear h hf hl hT
 go_enter Tryz.func87,Tryz.ntmps87
 go_wp2_with fail
 go_loopg [3,4] n (fun gh sx ix wr=>∃ i q:Nat,n-i=gh/\i<=n/\ix=.int .i64 i/\sx=.int .i64 q/\q<=T/\Hid (wsum (ps.take i)=q)/\Hid (Same w wr))
 case atStart=>exact ⟨0,0,rfl,Nat.zero_le _,rfl,rfl,Nat.zero_le _,qH (by simp [wsum]),qH (Upd.refl _ _)⟩
 obtain ⟨i,q,rfl,hi,rfl,rfl,hq,KQ,KS⟩:=hrel
 by_cases hlt:i<n
 · have HRw:=qH (HR.out.same KS.out)
   obtain ⟨b,o,x,rfl,hb,_,hx,hxm,r0,r1,r2,r3,r4,r5⟩:=HRw.out.at_ hlt
   have HV:=qH ((HRw.out.val x hxm))
   have HX1:=qH (HF.out x hxm).1
   have HX2:=qH (HF.out x hxm).2
   obtain ⟨ln,hln⟩:∃ ln,(enc x.g).length=ln:=⟨_,rfl⟩
   have hq1:q+ln<=T:=by
    have h1:=ZiZ hx
    have h2:=Zpy ps (i+1)
    rw [HT.out,h1,KQ.out,hln] at h2
    exact h2
   have HQ1:=qH (show wsum (ps.take (i+1))=q+ln by rw [ZiZ hx,KQ.out,hln])
   have HLn:=qH hln
   have hwr:IntKind.i64.wrap ((q:Int)+(ln:Int))=((q+ln:Nat):Int):=by rw [IntKind.wrap_i64];omega
   obtain ⟨kx,⟨x0,x1,x2,x3,x4⟩,X1,a1,b1,X2,a2,b2⟩:=x
   simp only at r0 r1 r2 r3 r4 r5
   clear hx hxm hln KQ HRw r0
   go_wp2_with fail
   refine (Zfy _ HV.out HX1.out HX2.out).mono ?_
   rintro e w2 ⟨v,rfl,hv,hs2⟩
   have HS2:=qH (KS.out.same hs2)
   obtain ⟨A9,c9,rfl⟩:=Zac hv
   have hlen2:=HLn.out
   rw [hlen2]
   clear hs2 hv r1 r2 r3 r4 r5
   go_wp2
   go_roundg (n-(i+1))
   case measure=>omega
   case rel=>exact ⟨i+1,q+ln,rfl,by omega,by go_num,rfl,hq1,HQ1,HS2⟩
 have hin:i=n:=by omega
 have hqT:q=T:=by rw [<- KQ.out,List.take_of_length_le (by rw [HL.out];omega)];exact HT.out
 subst hqT
 go_wp2
 go_ret
 exact ⟨rfl,KS.out⟩
theorem ZfA {F:Nat->Prop} (w:World) (g:GR) (h:RdG w F g) (hf:GFit g) (hs:wsum (g.ns.flatMap ND.props)+wsum (g.rs.flatMap RL.props)<=4611686018427387904) :
 Calls Tryz.prog 47 #[g.agg] w fun e w'=>e=.returned (.int .i64 ((wsum (g.ns.flatMap ND.props)+wsum (g.rs.flatMap RL.props):Nat):Int))/\Same w w':=by
 obtain ⟨ns,AN,nN,cN,rs,AR,nR,cR⟩:=g
 have hmx:=h.nodes.row.max
 have hle:=h.nodes.row.le
 have hmx':=h.rels.row.max
 have hle':=h.rels.row.le
 unfold maxLen at hmx hmx'
 have HL:=qH h.nodes.len
 have HL':=qH h.rels.len
 have HF1:=qH hf.nodes
 have HF2:=qH hf.rels
 simp only at hs hmx hle hmx' hle' HL HL' HF1 HF2 ⊢
 have hs1:=(Upd.refl (fun _=>False) w).alloc (.cells #[.slice AN nN cN,.slice AR nR cR] 26)
 have HS1:=qH hs1
 have HR1:=qH (h.same hs1)
 have HB1:=qH (Blk.new w 26 #[.slice AN nN cN,.slice AR nR cR])
 obtain ⟨T1,hT1⟩:∃ T,wsum (ns.flatMap ND.props)=T:=⟨_,rfl⟩
 obtain ⟨T2,hT2⟩:∃ T,wsum (rs.flatMap RL.props)=T:=⟨_,rfl⟩
 rw [hT1,hT2] at hs ⊢
 have HT1:=qH hT1
 have HT2:=qH hT2
 clear h hf hs1 hT1 hT2
 go_enter Tryz.func47,Tryz.ntmps47
 go_upto_region 1 with fail
 generalize w.alloc (.cells #[.slice AN nN cN,.slice AR nR cR] 26)=w1 at *
 go_wp2_with fail
 go_loopg [3,4] nN (fun gh sx ix wr=>∃ i q:Nat,nN-i=gh/\i<=nN/\ix=.int .i64 i/\sx=.int .i64 q/\q<=T1/\Hid (wsum ((ns.take i).flatMap ND.props)=q)/\Hid (Same w1 wr))
 case atStart=>exact ⟨0,0,rfl,Nat.zero_le _,rfl,rfl,Nat.zero_le _,qH (by simp [wsum]),qH (Upd.refl _ _)⟩
 obtain ⟨i,q,rfl,hi,rfl,rfl,hq,KQ,KS⟩:=hrel
 have p1:wr.cell? ⟨w.heap.size,0,none⟩=some (.slice AN nN cN):=(HB1.out.same KS.out).cell 0
 by_cases hlt:i<nN
 · have HRw:=qH (HR1.out.nodes.same KS.out)
   obtain ⟨b,o,x,rfl,hb,_,hx,hxm,r0,r1,r2⟩:=HRw.out.at_ hlt
   have HP:=qH (HRw.out.pro x hxm)
   have HX:=qH (HF1.out x hxm)
   obtain ⟨ln,hln⟩:∃ ln,wsum x.props=ln:=⟨_,rfl⟩
   have hq1:q+ln<=T1:=by
    have h1:=ZdQ (f:=ND.props) hx
    have h2:=Zlp ND.props ns (i+1)
    rw [HT1.out,h1,KQ.out,hln] at h2
    exact h2
   have HQ1:=qH (show wsum ((ns.take (i+1)).flatMap ND.props)=q+ln by rw [ZdQ hx,KQ.out,hln])
   have HLn:=qH hln
   have hwr:IntKind.i64.wrap ((q:Int)+(ln:Int))=((q+ln:Nat):Int):=by rw [IntKind.wrap_i64];omega
   obtain ⟨ix,lb,AL,nL,cL,px,AP,nP,cP⟩:=x
   simp only at r0 r1 r2 HP HX HLn
   clear hx hxm hln KQ HRw r0 r1
   go_wp2_with fail
   refine (Zdo _ HP.out HX.out (by rw [HLn.out];omega)).mono ?_
   rintro e w2 ⟨rfl,hs2⟩
   have HS2:=qH (KS.out.same hs2)
   rw [HLn.out]
   clear hs2 r2 p1
   go_wp2
   go_roundg (nN-(i+1))
   case measure=>omega
   case rel=>exact ⟨i+1,q+ln,rfl,by omega,by go_num,rfl,hq1,HQ1,HS2⟩
 have hin:i=nN:=by omega
 have hqT:q=T1:=by rw [<- KQ.out,List.take_of_length_le (by rw [HL.out];omega)];exact HT1.out
 subst hqT
 have HSn:=qH KS.out
 clear hin KQ KS
 generalize wr=wn at *
 go_wp2_with fail
 clear p1
 go_loopg [3,5] nR (fun gh sx ix wr=>∃ i p:Nat,nR-i=gh/\i<=nR/\ix=.int .i64 i/\sx=.int .i64 ((q+p:Nat):Int)/\p<=T2/\Hid (wsum ((rs.take i).flatMap RL.props)=p)/\Hid (Same w1 wr))
 case atStart=>exact ⟨0,0,rfl,Nat.zero_le _,rfl,rfl,Nat.zero_le _,qH (by simp [wsum]),HSn⟩
 obtain ⟨i,p,rfl,hi,rfl,rfl,hp,KQ,KS⟩:=hrel
 have p1:wr.cell? ⟨w.heap.size,1,none⟩=some (.slice AR nR cR):=(HB1.out.same KS.out).cell 1
 by_cases hlt:i<nR
 · have HRw:=qH (HR1.out.rels.same KS.out)
   obtain ⟨b,o,x,rfl,hb,_,hx,hxm,r0,r1,r2,r3,r4⟩:=HRw.out.at_ hlt
   have HP:=qH (HRw.out.pro x hxm)
   have HX:=qH (HF2.out x hxm)
   obtain ⟨ln,hln⟩:∃ ln,wsum x.props=ln:=⟨_,rfl⟩
   have hq1:p+ln<=T2:=by
    have h1:=ZdQ (f:=RL.props) hx
    have h2:=Zlp RL.props rs (i+1)
    rw [HT2.out,h1,KQ.out,hln] at h2
    exact h2
   have HQ1:=qH (show wsum ((rs.take (i+1)).flatMap RL.props)=p+ln by rw [ZdQ hx,KQ.out,hln])
   have HLn:=qH hln
   have hwr:IntKind.i64.wrap (((q+p:Nat):Int)+(ln:Int))=((q+(p+ln):Nat):Int):=by rw [IntKind.wrap_i64];omega
   obtain ⟨ix,tx,sx,dx,px,AP,nP,cP⟩:=x
   simp only at r0 r1 r2 r3 r4 HP HX HLn
   obtain ⟨sm,hsm⟩:∃ sm,q+p=sm:=⟨_,rfl⟩
   obtain ⟨sm2,hsm2⟩:∃ sm,q+(p+ln)=sm:=⟨_,rfl⟩
   rw [hsm,hsm2] at hwr
   rw [hsm]
   have HSm2:=qH hsm2
   clear hx hxm hln KQ HRw r0 r1 r2 r3 hsm hsm2
   go_wp2_with fail
   refine (Zdo _ HP.out HX.out (by rw [HLn.out];omega)).mono ?_
   rintro e w2 ⟨rfl,hs2⟩
   have HS2:=qH (KS.out.same hs2)
   rw [HLn.out]
   clear hs2 r4 p1
   go_wp2
   go_roundg (nR-(i+1))
   case measure=>omega
   case rel=>exact ⟨i+1,p+ln,rfl,by omega,by go_num,by rw [HSm2.out],hq1,HQ1,HS2⟩
 have hin:i=nR:=by omega
 have hqT:p=T2:=by rw [<- KQ.out,List.take_of_length_le (by rw [HL'.out];omega)];exact HT2.out
 subst hqT
 go_wp2
 go_ret
 exact ⟨rfl,HS1.out.same KS.out⟩
def lett (k:Nat):Nat:=if k<26 then 97+k else if k<52 then 39+k else if k=52 then 95 else k-5
def posC (c:UInt8):Nat:=if 97<=c.toNat/\c.toNat<=122 then c.toNat-97 else if 65<=c.toNat/\c.toNat<=90 then c.toNat-39 else if c.toNat=95 then 52 else if 48<=c.toNat/\c.toNat<=57 then c.toNat+5 else 63
theorem Zpz (c:UInt8):posC c<=63:=by
 unfold posC
 have:=c.toNat_lt
 repeat' split
 all_goals omega
theorem ZpA {c:UInt8} {j:Nat} (h:j<posC c):lett j≠c.toNat:=by
 have:=c.toNat_lt
 unfold posC at h
 unfold lett
 repeat' split at h
 all_goals (repeat' split)
 all_goals omega
theorem ZpB {c:UInt8} (h:posC c<63):lett (posC c)=c.toNat:=by
 have:=c.toNat_lt
 unfold posC at h ⊢
 unfold lett
 repeat' split at h
 all_goals (repeat' split)
 all_goals omega
theorem Zja (c:UInt8):Zek c=decide (posC c<63):=by
 by_cases h:(97<=c.toNat/\c.toNat<=122)\/(65<=c.toNat/\c.toNat<=90)\/(48<=c.toNat/\c.toNat<=57)\/c.toNat=95
 · rw [ZiY h,eq_comm,decide_eq_true_eq]
   unfold posC
   repeat' split
   all_goals omega
 rw [Zlo h,eq_comm,decide_eq_false_iff_not]
 unfold posC
 repeat' split
 all_goals omega
theorem Zhy (c:UInt8) (h:posC c<63):ZeF c=decide (52<posC c):=by
 unfold ZeF
 rw [Bool.eq_iff_iff,Bool.and_eq_true,decide_eq_true_eq,decide_eq_true_eq,decide_eq_true_eq]
 unfold posC at h ⊢
 repeat' split at h
 all_goals (repeat' split)
 all_goals omega
def Znh:ByteArray:=⟨#[97,98,99,100,101,102,103,104,105,106,107,108,109,110,111,112,113,114,115,116,117,118,119,120,121,122,65,66,67,68,69,70,71,72,73,74,75,76,77,78,79,80,81,82,83,84,85,86,87,88,89,90,95,48,49,50,51,52,53,54,55,56,57]⟩
theorem Zmh:∀ k:Fin 63,(Znh[k.val]'(by have:=k.isLt;show k.val<63;exact this)).toNat=lett k.val:=by decide +kernel
theorem ZgE (w:World) {j:Nat} (h:j<63):(Instr.index 9 (.string ⟨#[97,98,99,100,101,102,103,104,105,106,107,108,109,110,111,112,113,114,115,116,117,118,119,120,121,122,65,66,67,68,69,70,71,72,73,74,75,76,77,78,79,80,81,82,83,84,85,86,87,88,89,90,95,48,49,50,51,52,53,54,55,56,57]⟩) (.int .i64 j)).run Tryz.prog w=.ok (.int .u8 (lett j:Nat)) w:=by
 rw [run_index_string w 9 _ .i64 j Tryz.underlying9,dif_pos ⟨by omega,show (j:Int)<((63:Nat):Int) by omega⟩]
 have h1:=Zmh ⟨j,h⟩
 simp only [Znh] at h1
 simp only [Int.toNat_natCast]
 rw [h1]
theorem Zkh {s:ByteArray} (h0:0<s.size) (h:ZeF s[0]=true):ZaZ s=false:=by
 unfold ZaZ ZfU
 rw [ZgD h0,h]
 simp
theorem Zni {s:ByteArray} {k:Nat} (h0:k<s.size) (h:Zek s[k]=false):ZaZ s=false:=by
 unfold ZaZ ZfU
 rw [ZiX (k:=k) (by rw [ZaW];exact h0) (by rw [ZeG s h0];exact h)]
 simp
theorem Zdd (s:ByteArray) (w:World):Calls Tryz.prog 52 #[.string s] w fun e w'=>e=.returned (.bool (ZaZ s))/\Same w w':=by
 by_cases h0:s.size<1
 · have HG:=qH (show ZaZ s=false from by
    unfold ZaZ ZfU
    have:s.data.toList=[]:=List.length_eq_zero_iff.1 (by rw [ZaW];omega)
    rw [this];rfl)
   have h0i:(s.size:Int)<1:=by omega
   go_enter Tryz.func52,Tryz.ntmps52
   go_wp2
   go_ret
   exact ⟨by rw [HG.out];rfl,Upd.refl _ _⟩
 by_cases h40:40<s.size
 · have HG:=qH (show ZaZ s=false from by
    unfold ZaZ ZfU
    rw [ZaW,decide_eq_false (by omega)];rfl)
   have h0i:¬ (s.size:Int)<1:=by omega
   have h1i:(40:Int)<s.size:=by omega
   go_enter Tryz.func52,Tryz.ntmps52
   go_wp2
   go_ret
   exact ⟨by rw [HG.out];rfl,Upd.refl _ _⟩
 have h0i:¬ (s.size:Int)<1:=by omega
 have h1i:¬ (40:Int)<s.size:=by omega
 have HP:=qH (show 0<s.size by omega)
 go_enter Tryz.func52,Tryz.ntmps52
 go_wp2_with fail
 go_loopg [3] s.size (fun gh ix wr=>∃ k:Nat,s.size-k=gh/\k<=s.size/\ix=.int .i64 k/\Hid ((s.data.toList.take k).all Zek=true)/\Hid (∀ h:0<s.size,0<k->ZeF s[0]=false)/\Hid (Same w wr))
 case atStart=>exact ⟨0,rfl,Nat.zero_le _,rfl,qH rfl,qH (fun _ h=>by omega),qH (Upd.refl _ _)⟩
 obtain ⟨k,rfl,hk,rfl,KA,KD,KS⟩:=hrel
 by_cases hlt:k<s.size
 · obtain ⟨c,hc⟩:∃ c,s[k]=c:=⟨_,rfl⟩
   obtain ⟨p,hp⟩:∃ p,posC c=p:=⟨_,rfl⟩
   have hp63:=Zpz c
   rw [hp] at hp63
   have HA1:Hid (p<63->(s.data.toList.take (k+1)).all Zek=true):=qH fun h=>by
    rw [Zln (by rw [ZaW];exact hlt),ZeG s hlt,KA.out,hc,Zja,hp,decide_eq_true h]
    rfl
   have HB1:Hid (p=63->ZaZ s=false):=qH fun h=>Zni hlt (by rw [hc,Zja,hp,h];rfl)
   have HD1:Hid (k=0->52<p->p<63->ZaZ s=false):=qH fun h h1 h2=>by
    subst h
    exact Zkh hlt (by rw [hc,Zhy c (by rw [hp];exact h2),hp,decide_eq_true h1])
   have HD2:Hid (p<63->(k=0->p<=52)->∀ h:0<s.size,ZeF s[0]=false):=qH fun h1 h2 h=>by
    by_cases hk0:k=0
    · subst hk0
      rw [hc,Zhy c (by rw [hp];exact h1),hp,decide_eq_false (by have:=h2 rfl;omega)]
    exact KD.out h (by omega)
   have HN1:Hid (∀ j,j<p->lett j≠c.toNat):=qH fun j hj=>ZpA (by rw [hp];exact hj)
   have HN2:Hid (p<63->lett p=c.toNat):=qH fun h=>by rw [<- hp] at h ⊢;exact ZpB h
   have hcl:=c.toNat_lt
   obtain ⟨wo,rfl⟩:∃ wo:World,wo=wr:=⟨_,rfl⟩
   clear hp KA KD
   go_wp2_with fail
   go_loopg [4] p (fun gh ix wr=>∃ j:Nat,p-j=gh/\j<=p/\ix=.int .i64 j/\Hid (Same w wr))
   case atStart=>exact ⟨0,rfl,Nat.zero_le _,rfl,KS⟩
   obtain ⟨j,rfl,hj,rfl,JS⟩:=hrel
   by_cases hjp:j<p
   · have hidx:=fun w=>ZgE w (j:=j) (by omega)
     have hne:=HN1.out j hjp
     obtain ⟨L,hL⟩:∃ L,lett j=L:=⟨_,rfl⟩
     rw [hL] at hidx hne
     have hn1:((L:Int)==(c.toNat:Int))=false:=by simp only [beq_eq_false_iff_ne,ne_eq];omega
     have hn2:((L:Int) != (c.toNat:Int))=true:=by simp only [bne_iff_ne,ne_eq];omega
     have hj63:decide ((j:Int)<63)=true:=decide_eq_true (by omega)
     have hki:(k:Int)<s.size:=by omega
     clear hL hne
     go_wp2_with fail
     go_quiet (fail)
     go_wp2
     go_roundg (p-(j+1))
     case measure=>omega
     case rel=>exact ⟨j+1,rfl,by omega,by go_num,qH (JS.out.drewN _)⟩
   have hjp2:j=p:=by omega
   subst hjp2
   by_cases h63:j=63
   · have HG:=qH (HB1.out h63)
     subst h63
     go_wp2_with fail
     go_quiet (fail)
     go_wp2
     go_ret
     exact ⟨by rw [HG.out];rfl,JS.out.drewN _⟩
   have hidx:=fun w=>ZgE w (j:=j) (by omega)
   have heq:=HN2.out (by omega)
   obtain ⟨L,hL⟩:∃ L,lett j=L:=⟨_,rfl⟩
   rw [hL] at hidx heq
   subst heq
   have hj63:decide ((j:Int)<63)=true:=decide_eq_true (by omega)
   have hj64:((j:Int)==63)=false:=by simp only [beq_eq_false_iff_ne,ne_eq];omega
   have hki:(k:Int)<s.size:=by omega
   clear hL
   by_cases hk0:k=0
   · subst hk0
     by_cases h52:52<j
     · have HG:=qH (HD1.out rfl h52 (by omega))
       have h52i:decide ((52:Int)<j)=true:=decide_eq_true (by omega)
       go_wp2_with fail
       go_quiet (fail)
       go_wp2
       go_ret
       exact ⟨by rw [HG.out];rfl,JS.out.drewN _⟩
     have h52i:decide ((52:Int)<j)=false:=decide_eq_false (by omega)
     go_wp2_with fail
     go_quiet (fail)
     go_wp2
     go_roundg (s.size-1)
     case measure=>omega
     case rel=>exact ⟨1,by omega,by omega,by go_num,qH (HA1.out (by omega)),qH (fun h _=>HD2.out (by omega) (fun _=>by omega) h),qH (JS.out.drewN _)⟩
   have hk0i:((k:Int)==0)=false:=by simp only [beq_eq_false_iff_ne,ne_eq];omega
   go_wp2_with fail
   go_quiet (fail)
   go_wp2
   go_roundg (s.size-(k+1))
   case measure=>omega
   case rel=>exact ⟨k+1,by omega,by omega,by go_num,qH (HA1.out (by omega)),qH (fun h _=>HD2.out (by omega) (fun h=>absurd h hk0) h),qH (JS.out.drewN _)⟩
 have hks:k=s.size:=by omega
 have HG:=qH (show ZaZ s=true from by
  unfold ZaZ ZfU
  have h1:=KA.out
  rw [List.take_of_length_le (by rw [ZaW];omega)] at h1
  have hp:=HP.out
  rw [ZgD hp,KD.out hp (by omega),h1,ZaW,decide_eq_true (by omega)]
  rfl)
 go_wp2
 go_ret
 exact ⟨by rw [HG.out];rfl,KS.out⟩
theorem ZdB {F:Nat->Prop} {A:Option Addr} {n c:Nat} {ps:List PR} (w:World) (h:RdPs w F A n c ps) (hf:Zel ps) {E:Int} (hE:ZaF (ps.map PR.dat)=E) :
 Calls Tryz.prog 53 #[.slice A n c] w fun e w'=>e=.returned (.int .i64 E)/\Same w w':=by
 have hl:=h.len
 have hmx:=h.row.max
 have hle:=h.row.le
 unfold maxLen at hmx
 have HR:=qH h
 have HF:=qH hf
 unfold ZaF at hE
 rw [List.length_map,hl] at hE
 have HL:=qH hl
 by_cases h16:16<n
 · rw [if_pos h16] at hE
   subst hE
   have h16i:(16:Int)<n:=by omega
   go_enter Tryz.func53,Tryz.ntmps53
   go_wp2
   go_ret
   exact ⟨rfl,Upd.refl _ _⟩
 rw [if_neg h16] at hE
 have HE:=qH hE
 have h16i:¬ (16:Int)<n:=by omega
 clear h hf hl hE
 go_enter Tryz.func53,Tryz.ntmps53
 go_wp2_with fail
 go_loopg [3,2,4] n (fun gh ix s2 s4 wr=>∃ i:Nat,n-i=gh/\i<=n/\ix=.int .i64 i/\Hid (Same w wr)/\Hid (Zbg (Zan PR.key ps i) ((ps.map PR.dat).drop i)=E))
 case atStart=>exact ⟨0,rfl,Nat.zero_le _,rfl,qH (Upd.refl _ _),qH (by rw [List.drop_zero];exact HE.out)⟩
 obtain ⟨i,rfl,hi,rfl,KS,KE⟩:=hrel
 by_cases hlt:i<n
 · have HRw:=qH (HR.out.same KS.out)
   obtain ⟨b,o,x,rfl,hb,_,hx,hxm,r0,r1,r2,r3,r4,r5⟩:=HRw.out.at_ hlt
   have hke:=KE.out
   have hxd:(ps.map PR.dat)[i]?=some x.dat:=by rw [List.getElem?_map,hx];rfl
   rw [ZbM hxd] at hke
   simp only [Zbg] at hke
   have HV:=qH ((HRw.out.val x hxm))
   have HX1:=qH (HF.out x hxm).1
   have HX2:=qH (HF.out x hxm).2
   have HAk:=qH (show Zan PR.key ps (i+1)=some x.key from by simp only [Zan,hx];rfl)
   have HRat:=qH (fun (w9:World) (hu:Same wr w9)=>(HRw.out.same hu).at_ hlt)
   have HX:=qH hx
   obtain ⟨kx,⟨x0,x1,x2,x3,x4⟩,X1,a1,b1,X2,a2,b2⟩:=x
   simp only at r0 r1 r2 r3 r4 r5
   replace hke:(if ZaZ kx=false then 60 else if Zbp kx (Zan PR.key ps i)=true then 6 else if chk ⟨x0,x1,x2,x3,x4⟩≠0 then chk ⟨x0,x1,x2,x3,x4⟩ else Zbg (some kx) ((ps.map PR.dat).drop (i+1)))=E:=hke
   cases hg:ZaZ kx with
   | false =>
     rw [hg,if_pos rfl] at hke
     have HK:=qH hke
     have HG:=qH hg
     clear hke hg hx hxd hxm r1 r2 r3 r4 r5
     go_wp2_with fail
     refine (Zdd kx _).mono ?_
     rintro e w2 ⟨rfl,hs2⟩
     have HS2:=qH (KS.out.same hs2)
     clear hs2
     rw [HG.out]
     go_wp2
     go_ret
     exact ⟨by rw [<- HK.out];rfl,HS2.out⟩
   | true =>
     rw [hg,if_neg (by simp)] at hke
     have HG:=qH hg
     obtain ⟨r,hr⟩:∃ r,Zbp kx (Zan PR.key ps i)=r:=⟨_,rfl⟩
     rw [hr] at hke
     have HKr:=qH (show r=true->(6:Int)=E from fun h=>by rw [if_pos h] at hke;exact hke)
     have HKn:=qH (show r=false->(if chk ⟨x0,x1,x2,x3,x4⟩≠0 then chk ⟨x0,x1,x2,x3,x4⟩ else Zbg (some kx) (List.drop (i+1) (ps.map PR.dat)))=E from fun h=>by rw [if_neg (by rw [h];simp)] at hke;exact hke)
     have HRr:=qH hr
     clear hke hg hr hx hxd hxm r1 r2 r3 r4 r5
     go_wp2_with fail
     refine (Zdd kx _).mono ?_
     rintro e w2 ⟨rfl,hs2⟩
     have HS2:=qH (KS.out.same hs2)
     have HRA:=qH (HRw.out.same hs2)
     have HV2:=qH (HV.out.same hs2)
     rw [HG.out]
     have r0':w2.cell? ⟨b,o+i*6,none⟩=some (.string kx):=(hs2.cell (p:=⟨b,o+i*6,none⟩) hb (fun f=>f)).trans r0
     clear r0 hs2 KS KE HRw HV HRat
     go_upto_region 8 with fail
     go_cut [36] from 21 to 45 (fun s36 wx=>s36=.bool r/\∃ d,wx=w2.drewN d)
     case first =>
      by_cases hi0:i=0
      · have hgt:¬ (0:Int)<i:=by omega
        have hgtN:¬ 0<i:=by omega
        have hgd:decide (0<i)=false:=decide_eq_false hgtN
        have hr0:r=false:=by rw [<- HRr.out,hi0];rfl
        subst hr0
        clear hi0
        go_quiet (fail)
        go_wp2
        go_meet
        case rel=>exact ⟨rfl,_,rfl⟩
      obtain ⟨j,hj⟩:∃ j,i=j+1:=⟨i-1,by omega⟩
      have hgt:(0:Int)<i:=by omega
      have hgtN:0<i:=by omega
      have hjn:j<n:=by omega
      have hwr:IntKind.i64.wrap ((i:Int)-1)=(j:Int):=by rw [IntKind.wrap_i64];omega
      obtain ⟨b2,o2,y,hA2,_,_,hy,_,q0,_⟩:=HRA.out.at_ hjn
      injection hA2 with hA2
      injection hA2 with e1 e2 _
      subst e1 e2
      obtain ⟨ky,hky⟩:∃ ky,y.key=ky:=⟨_,rfl⟩
      rw [hky] at q0
      have hyr:(Op.bytesLess kx.toList ky.toList || kx.toList==ky.toList)=r:=by
       rw [<- HRr.out,hj]
       simp only [Zan]
       rw [hy]
       simp only [Option.map_some,hky]
       rfl
      clear hy hky hj hi0
      go_quiet (fail)
      go_wp2
      go_meet
      case rel=>exact ⟨rfl,_,rfl⟩
     obtain ⟨rfl,d,rfl⟩:=hcut
     have hsd:Same w2 (w2.drewN d):=(Upd.refl _ w2).drewN d
     have HS6:=qH (HS2.out.same hsd)
     have HR6:=qH (HRA.out.same hsd)
     have HV6:=qH (HV2.out.same hsd)
     clear hsd r0' HS2 HRA HV2
     generalize w2.drewN d=w6 at *
     cases r with
     | true =>
       have hE6:=HKr.out rfl
       subst hE6
       go_wp2
       go_ret
       exact ⟨rfl,HS6.out⟩
     | false =>
       have hk:=HKn.out rfl
       obtain ⟨b3,o3,x',hA3,_,_,hx',_,q0,q1,q2,q3,q4,q5⟩:=HR6.out.at_ hlt
       injection hA3 with hA3
       injection hA3 with e1 e2 _
       subst e1 e2
       rw [HX.out] at hx'
       injection hx' with hx'
       subst hx'
       simp only at q0 q1 q2 q3 q4 q5
       have HK:=qH hk
       clear hk q0
       go_wp2_with fail
       refine (Zgq _ HV6.out HX1.out HX2.out).mono ?_
       rintro e w7 ⟨rfl,hs7⟩
       have HS7:=qH (HS6.out.same hs7)
       clear hs7 q1 q2 q3 q4 q5 HS6 HV6
       obtain ⟨C,hC⟩:∃ C,chk ⟨x0,x1,x2,x3,x4⟩=C:=⟨_,rfl⟩
       have hk:=HK.out
       rw [hC] at hk ⊢
       by_cases hz:C=0
       · subst hz
         rw [if_neg (by simp)] at hk
         have HK2:=qH hk
         clear hk HK hC
         go_wp2
         go_roundg (n-(i+1))
         case measure=>omega
         case rel=>exact ⟨i+1,rfl,by omega,by go_num,HS7,qH (by rw [HAk.out];exact HK2.out)⟩
       rw [if_pos hz] at hk
       subst hk
       have hcn:(C != 0)=true:=by rw [bne_iff_ne];exact hz
       go_wp2
       go_ret
       exact ⟨rfl,HS7.out⟩
 have hin:i=n:=by omega
 have hE0:E=0:=by
  have h1:=KE.out
  rw [List.drop_of_length_le (by rw [List.length_map,HL.out];omega)] at h1
  simpa [Zbg] using h1.symm
 subst hE0
 clear KE HE
 go_wp2
 go_ret
 exact ⟨rfl,KS.out⟩
def ZgF (ls:List ByteArray) (ps:List GPr):Int:=if ZaB ls≠0 then ZaB ls else ZaF ps
theorem Zhi {F:Nat->Prop} {ix:Int} {AL AP:Option Addr} {nL cL nP cP:Nat} {ls:List ByteArray} {ps:List PR} (w:World) (hL:WRow w F 1 AL nL cL (ls.map Value.string)) (hP:RdPs w F AP nP cP ps) (hf:Zel ps) {E:Int} (hE:ZgF ls (ps.map PR.dat)=E) :
 Calls Tryz.prog 51 #[.agg #[.int .i64 ix,.slice AL nL cL,.slice AP nP cP]] w fun e w'=>e=.returned (.int .i64 E)/\Same w w':=by
 have hl:ls.length=nL:=by have:=hL.len;simpa using this
 have hmx:=hL.max
 have hle:=hL.le
 unfold maxLen at hmx
 have hs1:=(Upd.refl (fun _=>False) w).alloc (.cells #[.int .i64 ix,.slice AL nL cL,.slice AP nP cP] 43)
 have HS1:=qH hs1
 have HB1:=qH (Blk.new w 43 #[.int .i64 ix,.slice AL nL cL,.slice AP nP cP])
 have HR:=qH (hL.upd hs1 fun b hb hh=>hh)
 have HP:=qH (hP.same hs1)
 have HF:=qH hf
 have HL:=qH hl
 obtain ⟨L,hLE⟩:∃ L,ZaB ls=L:=⟨_,rfl⟩
 unfold ZgF at hE
 rw [hLE] at hE
 unfold ZaB at hLE
 rw [hl] at hLE
 by_cases h8:8<nL
 · rw [if_pos h8] at hLE
   subst hLE
   rw [if_pos (by decide)] at hE
   subst hE
   have h8i:(8:Int)<nL:=by omega
   go_enter Tryz.func51,Tryz.ntmps51
   go_wp2
   go_ret
   exact ⟨rfl,HS1.out⟩
 rw [if_neg h8] at hLE
 have HE:=qH hE
 have HLE:=qH hLE
 have h8i:¬ (8:Int)<nL:=by omega
 clear hL hP hf hl hE hLE hs1
 go_enter Tryz.func51,Tryz.ntmps51
 go_upto_region 1 with fail
 generalize w.alloc (.cells #[.int .i64 ix,.slice AL nL cL,.slice AP nP cP] 43)=w1 at *
 have p1:w1.cell? ⟨w.heap.size,1,none⟩=some (.slice AL nL cL):=HB1.out.cell 1
 go_wp2_with fail
 clear p1
 go_loopg [3,2] nL (fun gh jx s2 wr=>∃ i:Nat,nL-i=gh/\i<=nL/\jx=.int .i64 i/\Hid (Same w1 wr)/\Hid (ZbZ (Zan id ls i) (ls.drop i)=L))
 case atStart=>exact ⟨0,rfl,Nat.zero_le _,rfl,qH (Upd.refl _ _),qH (by rw [List.drop_zero];exact HLE.out)⟩
 obtain ⟨i,rfl,hi,rfl,KS,KE⟩:=hrel
 have p1:wr.cell? ⟨w.heap.size,1,none⟩=some (.slice AL nL cL):=(HB1.out.same KS.out).cell 1
 by_cases hlt:i<nL
 · have HRw:=qH (HR.out.upd KS.out fun b hb hh=>hh)
   obtain ⟨b,o,u,rfl,hb,_,hu,r0⟩:=HRw.out.at_ hlt
   rw [List.getElem?_map] at hu
   obtain ⟨x,hx,rfl⟩:=Option.map_eq_some_iff.1 hu
   have hke:=KE.out
   rw [ZbM hx] at hke
   simp only [ZbZ] at hke
   have HAk:=qH (show Zan id ls (i+1)=some x from by simp only [Zan,hx];rfl)
   clear hu
   cases hg:ZaZ x with
   | false =>
     rw [hg,if_pos rfl] at hke
     subst hke
     have HE2:=qH (show (60:Int)=E from by have h:=HE.out;rw [if_pos (by decide)] at h;exact h)
     have HG:=qH hg
     clear hg hx
     go_wp2_with fail
     refine (Zdd x _).mono ?_
     rintro e w2 ⟨rfl,hs2⟩
     have HS2:=qH (KS.out.same hs2)
     clear hs2
     rw [HG.out]
     go_wp2
     go_ret
     exact ⟨by rw [<- HE2.out];rfl,HS1.out.same HS2.out⟩
   | true =>
     rw [hg,if_neg (by simp)] at hke
     have HG:=qH hg
     obtain ⟨r,hr⟩:∃ r,Zbp x (Zan id ls i)=r:=⟨_,rfl⟩
     rw [hr] at hke
     have HKr:=qH (show r=true->(6:Int)=L from fun h=>by rw [if_pos h] at hke;exact hke)
     have HKn:=qH (show r=false->ZbZ (some x) (ls.drop (i+1))=L from fun h=>by rw [if_neg (by rw [h];simp)] at hke;exact hke)
     have HRr:=qH hr
     clear hke hg hr
     go_wp2_with fail
     refine (Zdd x _).mono ?_
     rintro e w2 ⟨rfl,hs2⟩
     have HS2:=qH (KS.out.same hs2)
     have HRA:=qH (HRw.out.upd hs2 fun b hb hh=>hh)
     rw [HG.out]
     have r0':w2.cell? ⟨b,o+i,none⟩=some (.string x):=(hs2.cell (p:=⟨b,o+i,none⟩) hb (fun f=>f)).trans r0
     have p1':w2.cell? ⟨w.heap.size,1,none⟩=some (.slice (some ⟨b,o,none⟩) nL cL):=(HB1.out.same HS2.out).cell 1
     clear r0 hs2 KS KE HRw p1
     go_upto_region 8 with fail
     go_cut [37] from 22 to 37 (fun s37 wx=>s37=.bool r/\∃ d,wx=w2.drewN d)
     case first =>
      by_cases hi0:i=0
      · have hgt:¬ (0:Int)<i:=by omega
        have hgtN:¬ 0<i:=by omega
        have hgd:decide (0<i)=false:=decide_eq_false hgtN
        have hr0:r=false:=by rw [<- HRr.out,hi0];rfl
        subst hr0
        clear hi0 hx
        go_quiet (fail)
        go_wp2
        go_meet
        case rel=>exact ⟨rfl,_,rfl⟩
      obtain ⟨j,hj⟩:∃ j,i=j+1:=⟨i-1,by omega⟩
      have hgt:(0:Int)<i:=by omega
      have hgtN:0<i:=by omega
      have hjn:j<nL:=by omega
      have hwr:IntKind.i64.wrap ((i:Int)-1)=(j:Int):=by rw [IntKind.wrap_i64];omega
      obtain ⟨b2,o2,v,hA2,_,_,hv,q0⟩:=HRA.out.at_ hjn
      injection hA2 with hA2
      injection hA2 with e1 e2 _
      subst e1 e2
      rw [List.getElem?_map] at hv
      obtain ⟨ky,hky,rfl⟩:=Option.map_eq_some_iff.1 hv
      have hyr:(Op.bytesLess x.toList ky.toList || x.toList==ky.toList)=r:=by
       rw [<- HRr.out,hj]
       simp only [Zan]
       rw [hky]
       rfl
      clear hv hky hj hi0 hx
      go_quiet (fail)
      go_wp2
      go_meet
      case rel=>exact ⟨rfl,_,rfl⟩
     obtain ⟨rfl,d,rfl⟩:=hcut
     have hsd:Same w2 (w2.drewN d):=(Upd.refl _ w2).drewN d
     have HS6:=qH (HS2.out.same hsd)
     clear hsd r0' p1' HS2 HRA
     generalize w2.drewN d=w6 at *
     cases r with
     | true =>
       have hE6:=HKr.out rfl
       subst hE6
       have HE2:=qH (show (6:Int)=E from by have h:=HE.out;rw [if_pos (by decide)] at h;exact h)
       clear hx
       go_wp2
       go_ret
       exact ⟨by rw [<- HE2.out];rfl,HS1.out.same HS6.out⟩
     | false =>
       have HK:=qH (HKn.out rfl)
       clear hx
       go_wp2
       go_roundg (nL-(i+1))
       case measure=>omega
       case rel=>exact ⟨i+1,rfl,by omega,by go_num,HS6,qH (by rw [HAk.out];exact HK.out)⟩
 have hin:i=nL:=by omega
 have hL0:L=0:=by
  have h1:=KE.out
  rw [List.drop_of_length_le (by rw [HL.out];omega)] at h1
  simpa [ZbZ] using h1.symm
 have HE2:=qH (show ZaF (ps.map PR.dat)=E from by have h:=HE.out;rw [if_neg (by rw [hL0];decide)] at h;exact h)
 have p2:wr.cell? ⟨w.heap.size,2,none⟩=some (.slice AP nP cP):=(HB1.out.same KS.out).cell 2
 clear hL0 KE HE HLE
 go_wp2_with fail
 refine (ZdB _ (HP.out.same KS.out) HF.out HE2.out).mono ?_
 rintro e w9 ⟨rfl,hs9⟩
 have HS9:=qH (KS.out.same hs9)
 clear hs9 p1 p2
 go_wp2
 go_ret
 exact ⟨rfl,HS1.out.same HS9.out⟩
end Go.Proofs.YtkopcinhbjimiaaGreatDoor
namespace Go.Proofs.YtkopcinhbjimiaaGreatDoor
open Go.RowKit Go.Shelf
attribute [local go_sem] Oper.semAt_some
theorem Zpg {S:Nat->Prop} {A B C:World} (h:Upd S A B) (k:Upd S B C):Upd S A C:=h.trans k fun _ _ h=>h
theorem Zph {S:Nat->Prop} {w:World} (hS:∀ k,w.heap.size<=k->S k) (W:World) (l:Nat) (o o':Obj) (hl:w.heap.size<=l) (_:W.heap[l]?=some o) (_:o.isCells=false) (_:o.isWalk=false):Upd S W (W.putObj l o') :=
 (Upd.refl S W).grown (grownBy_putObj' W l o') fun k e=>.inl (by injection e with e;subst e;exact hS _ hl)
end Go.Proofs.YtkopcinhbjimiaaGreatDoor
namespace Go.Proofs.YtkopcinhbjimiaaGreatDoor
open Go.RowKit Go.Maps Go.Sort Go.Shelf
theorem Zqr (m:Nat):AnyZ.SortsIn Tryz.prog sortedL_ren Fence.wide m :=
 ⟨fun blk off cap ss W hH hblk hsz=>callsIn_wide.2 (AnyM.slices_Sort_string sortL blk off cap ss W hH hblk hsz),
  fun p cap W=>callsIn_wide.2 (AnyM.slices_Sort_string_none sortL p cap W)⟩
theorem keys_in (mb:Option Nat) (W:World):CallsIn Fence.wide 5 Tryz.prog 103 #[.map mb] W fun e w'=>e=.returned (.func (.func 136) #[] #[.pointer (some ⟨W.heap.size,0,none⟩)])/\w'=W.alloc (.cells #[.map mb] 151) :=
 AnyZ.keys_in keysL Fence.wide 5 trivial rfl mb W
theorem Zki {H:Type} (b nn:Nat) (D0:DataW H) (R:Value->Option (DataW H×List MemPlace)) (w:World) (hown:w.ownsMap Tryz.prog 9 R b nn D0) (hmax:Maps.size D0<=maxLen) (hbytes:Maps.size D0*16<=140737488355328) :
 CallsIn Fence.wide 5 Tryz.prog 102 #[.func (.func 136) #[] #[.pointer (some ⟨w.heap.size,0,none⟩)]] (w.alloc (.cells #[.map (some b)] 151)) fun e w'=>∃ (v:Value) (ss:List (List UInt8)),e=.returned v/\ss.Perm (strKeys D0) /\
  w'.ownsRow (w.alloc (.cells #[.map (some b)] 151)).heap.size 9 1 v ss.length ((ss.mergeSort (fun x y=>decide (x<=y))).map encStr)/\(v=.slice none 0 0↔ss=[])/\Below (w.alloc (.cells #[.map (some b)] 151)).heap.size (w.alloc (.cells #[.map (some b)] 151)) w':=by
 have hbl:=hown.lt
 have hseq:SeqGives Fence.wide 2 Tryz.prog 136 #[.pointer (some ⟨w.heap.size,0,none⟩)] encStr (fun ss=>ss.Perm (strKeys D0)) (Maps.size D0) (w.alloc (.cells #[.map (some b)] 151)) :=
  AnyZ.keys_gives (ρ:=keysL_ren) { keysL with } Fence.wide _ trivial rfl (by omega) w.heap.size b nn D0 _ (by simp) (by simp) (by
   obtain ⟨es,clock,hb,Ft,hs,hD⟩:=hown
   exact ⟨es,clock,(Below.heap_alloc _ _ b hbl).trans hb,Ft,hs,hD⟩)
 exact AnyZ.sorted_in sortedL Fence.wide 5 trivial trivial trivial trivial rfl (by omega) (Zqr _) (enters_of Tryz.func66 (by kernel_rfl) rfl) 136 #[.pointer (some ⟨w.heap.size,0,none⟩)] trivial (enters_of Tryz.func136 (by kernel_rfl) rfl) _ _ hmax hbytes _ hseq
theorem Znj (p:Option Addr) (cap:Nat) (w:World):Calls Tryz.prog 66 #[.slice p 0 cap] w fun e w'=>e=.returned (.tuple #[])/\w'=w:=AnyM.slices_Sort_string_none sortL p cap w
end Go.Proofs.YtkopcinhbjimiaaGreatDoor
namespace Go.Proofs.YtkopcinhbjimiaaGreatDoor
open Go.RowKit Go.Maps Go.Sort
theorem keyS:Keyed Tryz.prog 9:=string_keyed Tryz.underlying9
def MapS (w:World) (b n:Nat) (seen:List ByteArray):Prop :=
 ∃ D:DataW Unit,w.ownsMap Tryz.prog 9 (plainElem Tryz.prog 3) b n D/\∀ x:ByteArray,Maps.has D (.string x.data.toList)=true↔x∈seen
section
variable {w w':World} {b n:Nat} {seen:List ByteArray}
theorem MapS.made (w:World):MapS (w.alloc (.map #[] 0)) w.heap.size 0 []:=⟨_,World.ownsMap_made w _ _ _,fun _=>by simp [Maps.has]⟩
theorem MapS.upd {S:Nat->Prop} (h:MapS w b n seen) (hu:Upd S w w') (hs:¬ S b):MapS w' b n seen:=by
 obtain ⟨D,h1,h2⟩:=h
 have hb:=h1.lt
 obtain ⟨es,clock,h3,h4⟩:=h1
 exact ⟨D,⟨es,clock,(hu.block b hb hs).trans h3,h4⟩,h2⟩
theorem MapS.same (h:MapS w b n seen) (hu:Same w w'):MapS w' b n seen:=h.upd hu fun f=>f
theorem ZoI {x y:ByteArray} (h:x.data.toList=y.data.toList):x=y:=by
 cases x;cases y
 simp only at h
 congr 1
 exact Array.toList_inj.1 h
theorem MapS.put (h:MapS w b n seen) (hn:n<maxLen) {x:ByteArray} (hx:x.size<=maxLen) :
 ∃ c w',(Instr.lookup 151 (.map (some b)) (.string x) false).run Tryz.prog w=.ok (.int .i64 c) w/\(Instr.mapUpdate 151 (.map (some b)) (.string x) (.int .i64 (IntKind.i64.wrap (c+1)))).run Tryz.prog w=.ok () w'/\MapS w' b (n+1) (seen++[x])/\Upd (fun k=>k=b) w w':=by
 obtain ⟨D,h1,h2⟩:=h
 obtain ⟨c,hrun,hat,hw⟩:=h1.lookup_int keyS Tryz.underlying151 Tryz.underlying3 (Zqq w) (Go.WideMaps.keyOf_string_mk Tryz.underlying9 hx)
 have hwf:(Lit.int .i64 (IntKind.i64.wrap (c+1))).wf=true:=wfI (by rw [IntKind.wrap_i64];omega)
 obtain ⟨w',hput,h3,h4⟩:=h1.update keyS Tryz.underlying151 hn (Go.WideMaps.keyOf_string_mk Tryz.underlying9 hx) (plainElem_int Tryz.underlying3 hwf)
 refine ⟨c,w',hrun,hput,⟨_,h3,fun y=>?_⟩,(Upd.refl _ w).grown h4 fun k hk=>.inl (by injection hk with hk;exact hk.symm)⟩
 by_cases hy:y=x
 · subst hy
   rw [has_put_same h1.isMap (by simp [WideAt.IsKeyLit])]
   simp
 rw [has_put_other (by intro h;injection h with h;exact hy (ZoI h)),h2]
 simp [hy]
end
structure Zcv (seen:List ByteArray) (l:List (List UInt8)):Prop where
 sorted:l.Pairwise (fun x y=>x<=y)
 nodup:l.Nodup
 mem:∀ x:List UInt8,x∈l↔(⟨x.toArray⟩:ByteArray)∈seen
theorem Zcv.unique {seen:List ByteArray} {l m:List (List UInt8)} (h:Zcv seen l) (h':Zcv seen m):l=m :=
 List.Perm.eq_of_pairwise (le:=fun a b=>a<=b) (fun _ _ _ _ h1 h2=>List.le_antisymm h1 h2) h.sorted h'.sorted ((List.perm_ext_iff_of_nodup h.nodup h'.nodup).2 fun x=>(h.mem x).trans (h'.mem x).symm)
theorem ZoJ {w:World} {b n:Nat} {R:Value->Option (DataW Unit×List MemPlace)} {D:DataW Unit} {seen:List ByteArray} (h:w.ownsMap Tryz.prog 9 R b n D) (hm:∀ x:ByteArray,Maps.has D (.string x.data.toList)=true↔x∈seen) {ss:List (List UInt8)} (hp:ss.Perm (strKeys D)) :
 Zcv seen (ss.mergeSort fun x y=>decide (x<=y)):=by
 obtain ⟨es,rfl,hne,hkl⟩:=h.entries keyS
 obtain ⟨es',he,hks⟩:=h.keysOf
 injection he with he
 subst he
 have hstr:∀ p∈es,∃ x,p.1=.string x:=fun p hp'=>by
  obtain ⟨key,hk⟩:=hks p hp'
  obtain ⟨x,_,hx,_⟩:=Maps.keyOf_str Tryz.underlying9 hk
  exact ⟨x,hx⟩
 have hnd:(strKeys (.map es:DataW Unit)).Nodup:=by
  show (es.map fun p=>strOf p.1).Nodup
  refine List.pairwise_map.2 (hne.imp_of_mem fun {p q} hp' hq' hne' e=>hne' ?_)
  obtain ⟨a,ha⟩:=hstr p hp'
  obtain ⟨b,hb⟩:=hstr q hq'
  rw [ha,hb] at e ⊢
  exact congrArg _ e
 have hmem:∀ x,x∈strKeys (.map es:DataW Unit)↔Maps.has (.map es:DataW Unit) (.string x)=true:=fun x=>by
  show x∈(es.map fun p=>strOf p.1)↔(es.any fun p=>p.1.sameKey (.string x))=true
  rw [List.any_eq_true,List.mem_map]
  constructor
  · rintro ⟨p,hp',rfl⟩
    obtain ⟨a,ha⟩:=hstr p hp'
    refine ⟨p,hp',?_⟩
    rw [ha]
    exact WideAt.sameKey_self (by simp [WideAt.IsKeyLit])
  rintro ⟨p,hp',h2⟩
  exact ⟨p,hp',by rw [WideAt.sameKey_eq h2];rfl⟩
 have hpm:=(List.mergeSort_perm ss fun x y=>decide (x<=y)).trans hp
 refine ⟨?_,hpm.nodup_iff.2 hnd,fun x=>?_⟩
 · have h1:=List.pairwise_mergeSort (le:=fun x y:List UInt8=>decide (x<=y)) (fun a b c h1 h2=>by simp only [decide_eq_true_eq] at *;exact List.le_trans h1 h2) (fun a b=>by simp only [Bool.or_eq_true,decide_eq_true_eq];exact List.le_total a b) ss
   exact h1.imp fun h=>by simpa using h
 rw [hpm.mem_iff,hmem]
 exact hm ⟨x.toArray⟩
end Go.Proofs.YtkopcinhbjimiaaGreatDoor
namespace Go.Proofs.YtkopcinhbjimiaaGreatDoor
open Go.RowKit
def Zaf (g:Zak) (k:Int):List ByteArray :=
 if k=1 then g.nodes.flatMap ZaO.labels
 else if k=2 then g.rels.map GRel.type
 else if k=3 then (g.nodes.flatMap fun n=>n.props.map GPr.key)++g.rels.flatMap fun r=>r.props.map GPr.key
 else []
structure ZgG (g:GR):Prop where
 type:∀ x∈g.rs,x.type.size<=9223372036854775807
 label:∀ x∈g.ns,∀ s∈x.labels,s.size<=9223372036854775807
 key1:∀ x∈g.ns,∀ p∈x.props,p.key.size<=9223372036854775807
 key2:∀ x∈g.rs,∀ p∈x.props,p.key.size<=9223372036854775807
abbrev strV (l:List UInt8):Value:=.string ⟨l.toArray⟩
theorem ZeI (mb:Option Nat) (w:World):Calls Tryz.prog 103 #[.map mb] w fun e w'=>e=.returned (.func (.func 136) #[] #[.pointer (some ⟨w.heap.size,0,none⟩)])/\w'=w.alloc (.cells #[.map mb] 151) :=
 callsIn_wide.1 (keys_in mb w)
theorem Zdi {b nn:Nat} {seen:List ByteArray} (w:World) (h:MapS w b nn seen) (hn:nn<=8796093022208) :
 Calls Tryz.prog 102 #[.func (.func 136) #[] #[.pointer (some ⟨w.heap.size,0,none⟩)]] (w.alloc (.cells #[.map (some b)] 151)) fun e w'=>∃ (v:Value) (l:List (List UInt8)),e=.returned v/\Zcv seen l/\w'.ownsRow w.heap.size 9 1 v l.length (l.map strV)/\Same w w':=by
 obtain ⟨D,h1,h2⟩:=h
 have hsz:=h1.size_le
 refine (callsIn_wide.1 (Zki b nn D _ w h1 (by unfold maxLen;omega) (by omega))).mono ?_
 rintro e w' ⟨v,ss,rfl,hp,hrow,-,hb⟩
 have hn:=ZoJ h1 h2 hp
 have hl:(ss.mergeSort fun x y=>decide (x<=y)).length=ss.length:=List.length_mergeSort ss
 have hs:Same w w':=((Upd.refl (fun _=>False) w).alloc _).same (Same.of_below hb)
 exact ⟨v,_,rfl,hn,by rw [hl];exact Zad hrow (by simp),hs⟩
theorem Zkj {F:Nat->Prop} (w:World) (g:GR) (h:RdG w F g) (ht:ZgG g) (hn:g.nR<=8796093022208) :
 Calls Tryz.prog 58 #[g.agg,.int .i64 2] w fun e w'=>∃ (v:Value) (l:List (List UInt8)),e=.returned v/\Zcv (Zaf g.dat 2) l/\w'.ownsRow w.heap.size 9 1 v l.length (l.map strV)/\Same w w':=by
 obtain ⟨ns,AN,nN,cN,rs,AR,nR,cR⟩:=g
 simp only at hn
 have hmx:=h.rels.row.max
 have hle:=h.rels.row.le
 unfold maxLen at hmx
 have HL:=qH h.rels.len
 have HT:=qH ht.type
 simp only at hmx hle HL HT
 have hs0:=(Upd.refl (fun _=>False) w).alloc (.cells #[.slice AN nN cN,.slice AR nR cR] 26)
 have hs1:=hs0.alloc (.map #[] 0)
 have hs2:=hs1.alloc (.cells #[.map (some (w.heap.size+1))] 151)
 have hm0:=(MapS.made (w.alloc (.cells #[.slice AN nN cN,.slice AR nR cR] 26))).same ((Upd.refl (fun _=>False) _).alloc (.cells #[.map (some (w.heap.size+1))] 151))
 have hb0:=((Blk.new w 26 #[.slice AN nN cN,.slice AR nR cR]).alloc (.map #[] 0)).alloc (.cells #[.map (some (w.heap.size+1))] 151)
 have hb5:=Blk.new ((w.alloc (.cells #[.slice AN nN cN,.slice AR nR cR] 26)).alloc (.map #[] 0)) 151 #[.map (some (w.heap.size+1))]
 have HR1:=qH ((h.mono (F':=fun b=>b<w.heap.size) fun b hb _=>hb).rels.same hs2)
 simp only [World.size_alloc] at hm0 hb5
 have hmm:=@run_makeMap Tryz.prog
 have HS1:=qH hs2
 have HM1:=qH hm0
 have HB0:=qH hb0
 have HB5:=qH hb5
 clear h ht hs0 hs1 hs2 hm0 hb0 hb5
 go_enter Tryz.func58,Tryz.ntmps58
 go_upto_region 2 with fail
 clear hmm
 generalize ((w.alloc (.cells #[.slice AN nN cN,.slice AR nR cR] 26)).alloc (.map #[] 0)).alloc (.cells #[.map (some (w.heap.size+1))] 151)=w1 at *
 simp only at HR1
 have p1:w1.cell? ⟨w.heap.size,1,none⟩=some (.slice AR nR cR):=HB0.out.cell 1
 go_wp2_with fail
 clear p1
 go_loopg [42] nR (fun gh ix wr=>∃ i:Nat,nR-i=gh/\i<=nR/\ix=.int .i64 i/\Hid (MapS wr (w.heap.size+1) i ((rs.map RL.type).take i))/\Hid (Upd (fun k=>k=w.heap.size+1) w1 wr))
 case atStart=>exact ⟨0,rfl,Nat.zero_le _,rfl,HM1,qH (Upd.refl _ _)⟩
 obtain ⟨i,rfl,hi,rfl,KM,KU⟩:=hrel
 have HRw:=qH (HR1.out.upd KU.out fun b hb hh=>by omega)
 have HB5w:=qH (HB5.out.upd KU.out (by omega))
 by_cases hlt:i<nR
 · obtain ⟨b,o,x,rfl,hb,_,hx,hxm,r0,r1,r2,r3,r4⟩:=HRw.out.at_ hlt
   have HTx:=qH (HT.out x hxm)
   have HTk:=qH (show (rs.map RL.type).take (i+1)=(rs.map RL.type).take i++[x.type] from by
    rw [List.take_add_one,List.getElem?_map,hx];rfl)
   clear hx hxm HRw
   obtain ⟨ix,tx,sx,dx,px,AP,nP,cP⟩:=x
   simp only at r0 r1 r2 r3 r4
   have hsA:=(Upd.refl (fun _=>False) wr).alloc (.cells #[.int .i64 ix,.string tx,.int .i64 sx,.int .i64 dx,.slice AP nP cP] 50)
   have HBA:=qH (Blk.new wr 50 #[.int .i64 ix,.string tx,.int .i64 sx,.int .i64 dx,.slice AP nP cP])
   have HMA:=qH (KM.out.same hsA)
   have HUA:=qH (KU.out.same hsA)
   have HB5A:=qH (HB5w.out.same hsA)
   clear hsA KM KU HB5w
   go_upto_region 17 with fail
   clear r0 r1 r2 r3 r4
   generalize wr.alloc (.cells #[.int .i64 ix,.string tx,.int .i64 sx,.int .i64 dx,.slice AP nP cP] 50)=w6 at *
   generalize wr.heap.size=g6 at *
   have p1:w6.cell? ⟨g6,1,none⟩=some (.string tx):=HBA.out.cell 1
   have p5:w6.cell? ⟨w.heap.size+1+1,0,none⟩=some (.map (some (w.heap.size+1))):=HB5A.out.cell 0
   obtain ⟨c,w7,lk,lput,hm7,hu7⟩:=HMA.out.put (x:=tx) (by unfold maxLen;omega) (by have:=HTx.out;unfold maxLen;omega)
   obtain ⟨c1,hc1⟩:∃ c1,IntKind.i64.wrap (c+1)=c1:=⟨_,rfl⟩
   rw [hc1] at lput
   have HM7:=qH hm7
   have HU7:=qH (HUA.out.trans hu7 fun _ _ h=>h)
   clear hm7 hu7 HMA HUA
   go_wp2_with (at_mapUpdate;go_must (refine Zbf rfl _ _ _ _ rfl rfl rfl rfl lput ?_))
   go_roundg (nR-(i+1))
   case measure=>omega
   case rel=>exact ⟨i+1,rfl,by omega,by go_num,qH (by rw [HTk.out];exact HM7.out),HU7⟩
 have hin:i=nR:=by omega
 subst hin
 have hseen:Zaf (GR.dat ⟨ns,AN,nN,cN,rs,AR,i,cR⟩) 2=(rs.map RL.type).take i:=by
  rw [List.take_of_length_le (by rw [List.length_map,HL.out];exact Nat.le_refl _)]
  unfold Zaf
  rw [if_neg (by decide),if_pos rfl]
  simp only [GR.dat,List.map_map]
  exact List.map_congr_left fun _ _=>rfl
 have HSn:=qH hseen
 have p5:wr.cell? ⟨w.heap.size+1+1,0,none⟩=some (.map (some (w.heap.size+1))):=HB5w.out.cell 0
 have HSw:=qH (show Same w wr from HS1.out.trans KU.out fun b hb hh=>by omega)
 have hzw:=HSw.out.size
 clear hseen hlt
 go_wp2_with fail
 refine (ZeI _ _).mono ?_
 rintro e w8 ⟨rfl,rfl⟩
 go_wp2_with fail
 refine (Zdi _ KM.out (by omega)).mono ?_
 rintro e w9 ⟨v,l,rfl,hnm,hrow,hs9⟩
 have H:=qH (And.intro hnm (And.intro hrow hs9))
 clear hnm hrow hs9
 go_wp2
 go_ret
 exact ⟨v,l,rfl,by rw [HSn.out];exact H.1,Zad H.2.1 hzw,HSw.out.same H.2.2⟩
end Go.Proofs.YtkopcinhbjimiaaGreatDoor
