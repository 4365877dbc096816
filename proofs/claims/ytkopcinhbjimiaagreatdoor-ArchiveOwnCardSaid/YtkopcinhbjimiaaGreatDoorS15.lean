/- Texts that the claim leans on: walks and plain laws, function by function. -/
import Derived.Test.YtkopcinhbjimiaaGreatDoorS14
set_option maxRecDepth 100000
set_option maxHeartbeats 16000000
namespace Go.Proofs.YtkopcinhbjimiaaGreatDoor
open Go.RowKit
theorem WRow.tail {w:World} {F:Nat->Prop} {A:Option Addr} {n c:Nat} {ls:List ByteArray} (h:WRow w F 1 A n c (ls.map Value.string)) {q:Nat} (hq:q<n) :
 ∃ b o,A=some ⟨b,o,none⟩/\WRow w F 1 (some ⟨b,o+q,none⟩) (n-q) (c-q) ((ls.drop q).map Value.string):=by
 obtain ⟨b,o,_,hA,_⟩:=h.at_ (i:=q) hq
 subst hA
 have hc:=Row.cut (h.row (by omega)) (j:=q) (m:=n) (by omega) (Nat.le_refl n)
 have hle:=h.le
 rw [if_neg (by omega)] at hc
 simp only [Nat.mul_one,Option.map_some,Zcm] at hc
 rw [List.take_of_length_le (by rw [List.length_drop,h.len];omega),<-List.map_drop] at hc
 exact ⟨b,o,rfl,hc.weak⟩
theorem WRow.front {w:World} {F:Nat->Prop} {A:Option Addr} {n c:Nat} {ls:List ByteArray} (h:WRow w F 1 A n c (ls.map Value.string)) {q:Nat} (hq:q<n):WRow w F 1 A q c ((ls.take q).map Value.string):=by
 obtain ⟨b,o,_,hA,_⟩:=h.at_ (i:=q) hq
 subst hA
 have hc:=Row.cut (h.row (by omega)) (j:=0) (m:=q) (by omega) (by omega)
 have hle:=h.le
 rw [if_neg (by omega)] at hc
 simp only [Nat.mul_one,Nat.sub_zero,List.drop_zero,Option.map_some,Zcm,Nat.add_zero] at hc
 rw [<- List.map_take] at hc
 exact hc.weak
theorem ZcI:∀ (N:Nat) {F:Nat->Prop} {A:Option Addr} {n c:Nat} {ls:List ByteArray} (w:World),n<=N->WRow w F 1 A n c (ls.map Value.string)->n<=8796093022208 ->
 Calls Tryz.prog 97 #[.slice A n c] w fun e w'=>∃ (A':Option Addr) (c':Nat) (m:List ByteArray),e=.returned (.slice A' m.length c')/\m.length<=n/\Hid (Srt ls m)/\Hid (w'.ownsRow w.heap.size 9 1 (.slice A' m.length c') m.length (m.map Value.string))/\Same w w':=by
 intro N
 induction N with
 | zero =>
   intro F A n c ls w hnN h hn
   have HL:=qH (show ls.length=n from by have:=h.len;simpa using this)
   have h2i:(n:Int)<2:=by omega
   go_enter Tryz.func97,Tryz.ntmps97
   go_wp2_with (at_builtin;go_must (refine Zag rfl (.tmp 12) (.tmp 13) _ _ rfl w.heap.size _ _ _ _ Tryz.underlying40 ZaA rfl _ 0 [] rfl (World.ownsRow_made w #[] 0 (Nat.le_refl _) (Nat.zero_le _) rfl) rfl (Zcz Tryz.underlying40 (WRow.same h ((Upd.refl _ w).alloc _)) (Zig ls)) (by unfold maxLen;omega) (by omega) (by simp) ?_);intro v' w' happ)
   go_ret
   have ho:=happ.own
   rw [Nat.zero_add,List.nil_append] at ho
   rw [<- HL.out] at ho
   obtain ⟨A',c',rfl⟩:=Zac ho
   refine ⟨A',c',ls,rfl,by rw [HL.out];exact Nat.le_refl _,qH ⟨?_,fun _=>Iff.rfl⟩,qH ho,?_⟩
   · have h1:=HL.out
     match ls,h1 with
     | [],_=>exact List.Pairwise.nil
     | [_],_=>exact List.pairwise_singleton _ _
     | _::_::_,h1=>simp at h1;omega
   exact ((Upd.refl _ w).alloc _).trans happ.upd fun b hb hv=>by
    have:=Option.some.inj hv
    simp only at this
    omega
 | succ N ih =>
   intro F A n c ls w hnN h hn
   have HL:=qH (show ls.length=n from by have:=h.len;simpa using this)
   by_cases h2:n<2
   · have h2i:(n:Int)<2:=by omega
     go_enter Tryz.func97,Tryz.ntmps97
     go_wp2_with (at_builtin;go_must (refine Zag rfl (.tmp 12) (.tmp 13) _ _ rfl w.heap.size _ _ _ _ Tryz.underlying40 ZaA rfl _ 0 [] rfl (World.ownsRow_made w #[] 0 (Nat.le_refl _) (Nat.zero_le _) rfl) rfl (Zcz Tryz.underlying40 (WRow.same h ((Upd.refl _ w).alloc _)) (Zig ls)) (by unfold maxLen;omega) (by omega) (by simp) ?_);intro v' w' happ)
     go_ret
     have ho:=happ.own
     rw [Nat.zero_add,List.nil_append] at ho
     rw [<- HL.out] at ho
     obtain ⟨A',c',rfl⟩:=Zac ho
     refine ⟨A',c',ls,rfl,by rw [HL.out];exact Nat.le_refl _,qH ⟨?_,fun _=>Iff.rfl⟩,qH ho,?_⟩
     · have h1:=HL.out
       match ls,h1 with
       | [],_=>exact List.Pairwise.nil
       | [_],_=>exact List.pairwise_singleton _ _
       | _::_::_,h1=>simp at h1;omega
     exact ((Upd.refl _ w).alloc _).trans happ.upd fun b hb hv=>by
      have:=Option.some.inj hv
      simp only at this
      omega
   obtain ⟨q,hq⟩:∃ q,n / 2=q:=⟨_,rfl⟩
   have h2i:¬ (n:Int)<2:=by omega
   have hq1:q<n:=by omega
   have hq0:1<=q:=by omega
   have hqi:(n:Int) / 2=(q:Int):=by omega
   have hqt:Int.tdiv (n:Int) 2=(q:Int):=by rw [Int.tdiv_eq_ediv_of_nonneg (by omega)];exact hqi
   obtain ⟨b,o,rfl,ht⟩:=h.tail hq1
   have hf:=h.front hq1
   have HT:=qH ht
   have HF:=qH hf
   have hle:=h.le
   have hmx:=h.max
   unfold maxLen at hmx
   clear ht hf h
   go_enter Tryz.func97,Tryz.ntmps97
   go_wp2_with fail
   refine (ih _ (by omega) HF.out (by omega)).mono ?_
   rintro e w1 ⟨A1,c1,ma,rfl,hlma,HSa,HOa,hs1⟩
   have HT1:=qH (HT.out.same hs1)
   have S1:=qH hs1
   clear hs1 HT HF
   go_wp2_with fail
   refine (ih _ (by omega) HT1.out (by omega)).mono ?_
   rintro e w2 ⟨A2,c2,mb,rfl,hlmb,HSb,HOb,hs2⟩
   have S2:=qH (S1.out.same hs2)
   have HOa2:=qH (Zaa HOa.out hs2)
   have HSn:=qH (show ∀ out,Srt (ls.take q++ls.drop q) out->Srt ls out from fun out h=>by rw [List.take_append_drop] at h;exact h)
   have hz1:=S1.out.size
   have hz2:=hs2.size
   clear hs2 HT1 HOa
   have HWa:=qH ((Zci HOa2.out).mono (F':=fun b=>b<w2.heap.size) fun _ _ h=>h.2)
   have HWb:=qH ((Zci HOb.out).mono (F':=fun b=>b<w2.heap.size) fun _ _ h=>h.2)
   have ha1:=HWa.out.max
   have hb1:=HWb.out.max
   have ha2:=HWa.out.le
   have hb2:=HWb.out.le
   unfold maxLen at ha1 hb1
   clear HOa2 HOb
   obtain ⟨la,hla⟩:∃ la,ma.length=la:=⟨_,rfl⟩
   obtain ⟨lb,hlb⟩:∃ lb,mb.length=lb:=⟨_,rfl⟩
   rw [hla] at HWa ha2 hlma ⊢
   rw [hlb] at HWb hb2 hlmb ⊢
   have hA:=qH hla
   have hB:=qH hlb
   clear hla hlb
   go_wp2_with fail
   go_loopg [5,6,7] (la+lb) (fun gh s5 s6 s7 wr=>∃ (i j:Nat) (out:List ByteArray),la+lb-(i+j)=gh/\i<=la/\j<=lb/\s6=.int .i64 i/\s7=.int .i64 j/\Hid (MInv ma mb i j out)/\Hid (wr.ownsRow w2.heap.size 9 1 s5 out.length (out.map Value.string))/\Hid (Same w2 wr)/\Hid (out.length<=i+j))
   case atStart=>exact ⟨0,0,[],rfl,Nat.zero_le _,Nat.zero_le _,rfl,rfl,qH (MInv.start _ _),qH (World.ownsRow_made w2 #[] 0 (Nat.le_refl _) (Nat.zero_le _) rfl),qH ((Upd.refl _ _).alloc _),qH (Nat.le_refl _)⟩
   obtain ⟨i,j,out,rfl,hi,hj,rfl,rfl,KM,KO,KS,KL⟩:=hrel
   by_cases hgo:i<la\/j<lb
   · have HWa1:=qH (HWa.out.same KS.out)
     have HWb1:=qH (HWb.out.same KS.out)
     have HPa:=qH (HSa.out.sorted)
     have HPb:=qH (HSb.out.sorted)
     by_cases hia:i<la
     · go_upto_region 9 with fail
       go_cut [58] from 38 to 87 (fun s58 wx=>∃ r:Bool,s58=.bool r/\Hid (r=true->∃ x,ma[i]?=some x/\Pick ma mb i j x (i+1) j)/\Hid (r=false->∃ y,mb[j]?=some y/\Pick ma mb i j y i (j+1))/\Hid (Same wr wx))
       case first =>
        obtain ⟨x,hx⟩:∃ x,ma[i]?=some x:=⟨_,List.getElem?_eq_getElem (by rw [hA.out];exact hia)⟩
        obtain ⟨b1,o1,u1,rfl,_,_,hu1,r1⟩:=HWa1.out.at_ hia
        rw [List.getElem?_map,hx] at hu1
        cases hu1
        have HX:=qH hx
        clear hx
        by_cases hjb:j<lb
        · obtain ⟨y,hy⟩:∃ y,mb[j]?=some y:=⟨_,List.getElem?_eq_getElem (by rw [hB.out];exact hjb)⟩
          obtain ⟨b2,o2,u2,rfl,_,_,hu2,r2⟩:=HWb1.out.at_ hjb
          rw [List.getElem?_map,hy] at hu2
          cases hu2
          have hj1:((j:Int)==(lb:Int))=false:=by simp only [beq_eq_false_iff_ne,ne_eq];omega
          have HY:=qH hy
          clear hy
          cases hxy:(Op.bytesLess x.toList y.toList || x.toList==y.toList) with
          | true =>
            have HP:=qH (Pick.left HPa.out HPb.out HX.out fun z hz=>by
             rw [HY.out] at hz
             cases hz
             exact (Zke _ _).1 hxy)
            go_quiet (fail)
            go_wp2
            go_meet
            exact ⟨true,rfl,qH (fun _=>⟨x,HX.out,HP.out⟩),qH (fun h=>by cases h),qH ((Upd.refl _ _).drewN _)⟩
          | false =>
            have HP:=qH (Pick.right HPa.out HPb.out HY.out fun z hz=>by
             rw [HX.out] at hz
             cases hz
             intro hl
             have h1:=(Zke x y).2 (Zay.asym hl)
             rw [hxy] at h1
             cases h1)
            go_quiet (fail)
            go_wp2
            go_meet
            exact ⟨false,rfl,qH (fun h=>by cases h),qH (fun _=>⟨y,HY.out,HP.out⟩),qH ((Upd.refl _ _).drewN _)⟩
        have hjb2:j=lb:=by omega
        have HP:=qH (Pick.left (j:=j) HPa.out HPb.out HX.out fun z hz=>by
         rw [List.getElem?_eq_none (by rw [hB.out];omega)] at hz
         cases hz)
        subst hjb2
        go_quiet (fail)
        go_wp2
        go_meet
        exact ⟨true,rfl,qH (fun _=>⟨x,HX.out,HP.out⟩),qH (fun h=>by cases h),qH ((Upd.refl _ _).drewN _)⟩
       obtain ⟨r,rfl,H1,H2,JS⟩:=hcut
       go_upto_if 58 with fail
       go_cut [6,7,8] from 59 to 87 (fun s6 s7 s8 wx=>∃ (i' j':Nat) (x:ByteArray),s6=.int .i64 i'/\s7=.int .i64 j'/\s8=.string x/\i'<=la/\j'<=lb/\i'+j'=i+j+1/\Hid (Pick ma mb i j x i' j')/\wx=wc)
       case first =>
        cases r with
        | true =>
          obtain ⟨x,hx,hp⟩:=H1.out rfl
          have hil:i<la:=by have:=(List.getElem?_eq_some_iff.1 hx).1;have:=hA.out;omega
          obtain ⟨b1,o1,u1,rfl,_,_,hu1,r1⟩:=(HWa1.out.same JS.out).at_ hil
          rw [List.getElem?_map,hx] at hu1
          cases hu1
          have HP:=qH hp
          clear hx hp
          go_wp2
          go_meet
          exact ⟨i+1,j,x,by go_num,rfl,rfl,by omega,by omega,by omega,HP,rfl⟩
        | false =>
          obtain ⟨x,hx,hp⟩:=H2.out rfl
          have hjl:j<lb:=by have:=(List.getElem?_eq_some_iff.1 hx).1;have:=hB.out;omega
          obtain ⟨b1,o1,u1,rfl,_,_,hu1,r1⟩:=(HWb1.out.same JS.out).at_ hjl
          rw [List.getElem?_map,hx] at hu1
          cases hu1
          have HP:=qH hp
          clear hx hp
          go_wp2
          go_meet
          exact ⟨i,j+1,x,rfl,by go_num,rfl,by omega,by omega,by omega,HP,rfl⟩
       obtain ⟨i',j',x,rfl,rfl,rfl,hi',hj',hij,HP,rfl⟩:=hcut
       have KOc:=qH (Zaa KO.out JS.out)
       have KSc:=qH (KS.out.same JS.out)
       have hzc:=KSc.out.size
       clear H1 H2
       rcases List.eq_nil_or_concat out with rfl | ⟨pre,y,hcc⟩
       · have HM:=qH (KM.out.snoc HP.out (by simp))
         obtain ⟨A3,c3,hv⟩:=Zac KOc.out
         subst hv
         go_wp2_with (at_builtin;go_must (refine Zag rfl (.tmp 84) (.tmp 86) _ _ rfl w2.heap.size 9 1 16 _ Tryz.underlying40 ZaA rfl _ 0 [] rfl (KOc.out.alloc _) rfl (Zal Tryz.underlying40 (Row.one _ _ _) (by simp [Value.oneCell'])) (by unfold maxLen;omega) (by omega) (by simp;omega) ?_);intro v' w' happ;have HG:=qH happ;clear happ)
         go_roundg (la+lb-(i'+j'))
         case measure=>omega
         case rel=>exact ⟨i',j',[x],rfl,hi',hj',rfl,rfl,HM,qH HG.out.own,qH ((KSc.out.alloc _).trans HG.out.upd fun b hb hh=>by have:=(KOc.out.lt b hh).1;omega),qH (by simp;omega)⟩
       rw [List.concat_eq_append] at hcc
       subst hcc
       have hlen:(pre++[y]).length=pre.length+1:=by simp
       obtain ⟨A3,c3,hv⟩:=Zac KOc.out
       subst hv
       have KOd:=qH KOc.out
       obtain ⟨g3,u3,rfl,_,_,hu3,r3,_,_⟩:=Zlf KOd.out (i:=pre.length) (by omega)
       rw [List.map_append,List.getElem?_append_right (by simp)] at hu3
       simp only [List.length_map,Nat.sub_self,List.map_cons,List.map_nil,List.getElem?_cons_zero,Option.some.injEq] at hu3
       subst hu3
       rw [hlen] at KOc KL ⊢
       obtain ⟨lp,hlp⟩:∃ lp,pre.length=lp:=⟨_,rfl⟩
       have KL2:=KL.out
       rw [hlp] at KOc KL2 r3 ⊢
       have HLP:=qH hlp
       have hw1:IntKind.i64.wrap (((lp+1:Nat):Int)-1)=(lp:Int):=by rw [IntKind.wrap_i64];omega
       have hnz:(((lp+1:Nat):Int)==0)=false:=by simp only [beq_eq_false_iff_ne,ne_eq];omega
       clear hlp hlen KOd
       cases hyx:(y.toList==x.toList) with
       | true =>
         have HM:=qH (KM.out.skip HP.out (by rw [(ZgB _ _).1 hyx];simp))
         have hyx2:(!(y.toList==x.toList))=false:=by rw [hyx];rfl
         go_wp2
         go_roundg (la+lb-(i'+j'))
         case measure=>omega
         case rel=>exact ⟨i',j',pre++[y],rfl,hi',hj',rfl,rfl,HM,qH (by rw [List.length_append,HLP.out];exact KOc.out),KSc,qH (by rw [List.length_append,HLP.out];simp;omega)⟩
       | false =>
         have HM:=qH (KM.out.snoc HP.out (KM.out.fresh HP.out fun e=>by rw [e,(ZgB _ _).2 rfl] at hyx;cases hyx))
         have hyx2:(!(y.toList==x.toList))=true:=by rw [hyx];rfl
         go_wp2_with (at_builtin;go_must (refine Zag rfl (.tmp 84) (.tmp 86) _ _ rfl w2.heap.size 9 1 16 _ Tryz.underlying40 ZaA rfl _ (lp+1) _ rfl (KOc.out.alloc _) rfl (Zal Tryz.underlying40 (Row.one _ _ _) (by simp [Value.oneCell'])) (by unfold maxLen;omega) (by omega) (by simp;omega) ?_);intro v' w' happ;have HG:=qH happ;clear happ)
         go_roundg (la+lb-(i'+j'))
         case measure=>omega
         case rel=>exact ⟨i',j',(pre++[y])++[x],rfl,hi',hj',rfl,rfl,HM,qH (by have h1:=HG.out.own;rw [List.length_append,List.length_append,HLP.out,List.map_append];exact h1),qH ((KSc.out.alloc _).trans HG.out.upd fun b hb hh=>by have:=(KOc.out.lt b hh).1;omega),qH (by rw [List.length_append,List.length_append,HLP.out];simp;omega)⟩
     have hjb:j<lb:=by omega
     go_upto_region 9 with fail
     go_cut [58] from 38 to 87 (fun s58 wx=>∃ r:Bool,s58=.bool r/\Hid (r=true->∃ x,ma[i]?=some x/\Pick ma mb i j x (i+1) j)/\Hid (r=false->∃ y,mb[j]?=some y/\Pick ma mb i j y i (j+1))/\Hid (Same wr wx))
     case first =>
      have hi1:decide (i<la)=false:=decide_eq_false hia
      obtain ⟨y,hy⟩:∃ y,mb[j]?=some y:=⟨_,List.getElem?_eq_getElem (by rw [hB.out];exact hjb)⟩
      obtain ⟨b2,o2,u2,rfl,_,_,hu2,r2⟩:=HWb1.out.at_ hjb
      rw [List.getElem?_map,hy] at hu2
      cases hu2
      have hj1:((j:Int)==(lb:Int))=false:=by simp only [beq_eq_false_iff_ne,ne_eq];omega
      have HY:=qH hy
      clear hy
      have HP:=qH (Pick.right (i:=i) HPa.out HPb.out HY.out fun z hz=>by
       rw [List.getElem?_eq_none (by rw [hA.out];omega)] at hz
       cases hz)
      go_quiet (fail)
      go_wp2
      go_meet
      exact ⟨false,rfl,qH (fun h=>by cases h),qH (fun _=>⟨y,HY.out,HP.out⟩),qH ((Upd.refl _ _).drewN _)⟩
     obtain ⟨r,rfl,H1,H2,JS⟩:=hcut
     go_upto_if 58 with fail
     go_cut [6,7,8] from 59 to 87 (fun s6 s7 s8 wx=>∃ (i' j':Nat) (x:ByteArray),s6=.int .i64 i'/\s7=.int .i64 j'/\s8=.string x/\i'<=la/\j'<=lb/\i'+j'=i+j+1/\Hid (Pick ma mb i j x i' j')/\wx=wc)
     case first =>
      cases r with
      | true =>
        obtain ⟨x,hx,hp⟩:=H1.out rfl
        have hil:i<la:=by have:=(List.getElem?_eq_some_iff.1 hx).1;have:=hA.out;omega
        exact absurd hil hia
      | false =>
        obtain ⟨x,hx,hp⟩:=H2.out rfl
        have hjl:j<lb:=by have:=(List.getElem?_eq_some_iff.1 hx).1;have:=hB.out;omega
        obtain ⟨b1,o1,u1,rfl,_,_,hu1,r1⟩:=(HWb1.out.same JS.out).at_ hjl
        rw [List.getElem?_map,hx] at hu1
        cases hu1
        have HP:=qH hp
        clear hx hp
        go_wp2
        go_meet
        exact ⟨i,j+1,x,rfl,by go_num,rfl,by omega,by omega,by omega,HP,rfl⟩
     obtain ⟨i',j',x,rfl,rfl,rfl,hi',hj',hij,HP,rfl⟩:=hcut
     have KOc:=qH (Zaa KO.out JS.out)
     have KSc:=qH (KS.out.same JS.out)
     have hzc:=KSc.out.size
     clear H1 H2
     rcases List.eq_nil_or_concat out with rfl | ⟨pre,y,hcc⟩
     · have HM:=qH (KM.out.snoc HP.out (by simp))
       obtain ⟨A3,c3,hv⟩:=Zac KOc.out
       subst hv
       go_wp2_with (at_builtin;go_must (refine Zag rfl (.tmp 84) (.tmp 86) _ _ rfl w2.heap.size 9 1 16 _ Tryz.underlying40 ZaA rfl _ 0 [] rfl (KOc.out.alloc _) rfl (Zal Tryz.underlying40 (Row.one _ _ _) (by simp [Value.oneCell'])) (by unfold maxLen;omega) (by omega) (by simp;omega) ?_);intro v' w' happ;have HG:=qH happ;clear happ)
       go_roundg (la+lb-(i'+j'))
       case measure=>omega
       case rel=>exact ⟨i',j',[x],rfl,hi',hj',rfl,rfl,HM,qH HG.out.own,qH ((KSc.out.alloc _).trans HG.out.upd fun b hb hh=>by have:=(KOc.out.lt b hh).1;omega),qH (by simp;omega)⟩
     rw [List.concat_eq_append] at hcc
     subst hcc
     have hlen:(pre++[y]).length=pre.length+1:=by simp
     obtain ⟨A3,c3,hv⟩:=Zac KOc.out
     subst hv
     have KOd:=qH KOc.out
     obtain ⟨g3,u3,rfl,_,_,hu3,r3,_,_⟩:=Zlf KOd.out (i:=pre.length) (by omega)
     rw [List.map_append,List.getElem?_append_right (by simp)] at hu3
     simp only [List.length_map,Nat.sub_self,List.map_cons,List.map_nil,List.getElem?_cons_zero,Option.some.injEq] at hu3
     subst hu3
     rw [hlen] at KOc KL ⊢
     obtain ⟨lp,hlp⟩:∃ lp,pre.length=lp:=⟨_,rfl⟩
     have KL2:=KL.out
     rw [hlp] at KOc KL2 r3 ⊢
     have HLP:=qH hlp
     have hw1:IntKind.i64.wrap (((lp+1:Nat):Int)-1)=(lp:Int):=by rw [IntKind.wrap_i64];omega
     have hnz:(((lp+1:Nat):Int)==0)=false:=by simp only [beq_eq_false_iff_ne,ne_eq];omega
     clear hlp hlen KOd
     cases hyx:(y.toList==x.toList) with
     | true =>
       have HM:=qH (KM.out.skip HP.out (by rw [(ZgB _ _).1 hyx];simp))
       have hyx2:(!(y.toList==x.toList))=false:=by rw [hyx];rfl
       go_wp2
       go_roundg (la+lb-(i'+j'))
       case measure=>omega
       case rel=>exact ⟨i',j',pre++[y],rfl,hi',hj',rfl,rfl,HM,qH (by rw [List.length_append,HLP.out];exact KOc.out),KSc,qH (by rw [List.length_append,HLP.out];simp;omega)⟩
     | false =>
       have HM:=qH (KM.out.snoc HP.out (KM.out.fresh HP.out fun e=>by rw [e,(ZgB _ _).2 rfl] at hyx;cases hyx))
       have hyx2:(!(y.toList==x.toList))=true:=by rw [hyx];rfl
       go_wp2_with (at_builtin;go_must (refine Zag rfl (.tmp 84) (.tmp 86) _ _ rfl w2.heap.size 9 1 16 _ Tryz.underlying40 ZaA rfl _ (lp+1) _ rfl (KOc.out.alloc _) rfl (Zal Tryz.underlying40 (Row.one _ _ _) (by simp [Value.oneCell'])) (by unfold maxLen;omega) (by omega) (by simp;omega) ?_);intro v' w' happ;have HG:=qH happ;clear happ)
       go_roundg (la+lb-(i'+j'))
       case measure=>omega
       case rel=>exact ⟨i',j',(pre++[y])++[x],rfl,hi',hj',rfl,rfl,HM,qH (by have h1:=HG.out.own;rw [List.length_append,List.length_append,HLP.out,List.map_append];exact h1),qH ((KSc.out.alloc _).trans HG.out.upd fun b hb hh=>by have:=(KOc.out.lt b hh).1;omega),qH (by rw [List.length_append,List.length_append,HLP.out];simp;omega)⟩
   have hia:i=la:=by omega
   have hjb:j=lb:=by omega
   subst hia hjb
   have HD:=qH (HSn.out _ (KM.out.done (by rw [hA.out];exact Nat.le_refl _) (by rw [hB.out];exact Nat.le_refl _) HSa.out HSb.out))
   obtain ⟨A3,c3,rfl⟩:=Zac KO.out
   go_wp2
   go_ret
   exact ⟨A3,c3,out,rfl,by have:=KL.out;omega,HD,qH (Zad KO.out (by omega)),S2.out.same KS.out⟩
def nmN (k:Int) (l:List ZaO):List ByteArray:=if k=1 then l.flatMap ZaO.labels else if k=3 then l.flatMap fun n=>n.props.map GPr.key else []
def nmR (k:Int) (l:List GRel):List ByteArray:=if k=2 then l.map GRel.type else if k=3 then l.flatMap fun r=>r.props.map GPr.key else []
theorem Zdj (g:Zak) (k:Int):Zaf g k=nmN k g.nodes++nmR k g.rels:=by
 unfold Zaf nmN nmR
 by_cases h1:k=1
 · subst h1;simp
 by_cases h2:k=2
 · subst h2;simp
 by_cases h3:k=3
 · subst h3;simp
 simp [h1,h2,h3]
theorem Zns (k:Int) (l m:List ZaO):nmN k (l++m)=nmN k l++nmN k m:=by
 unfold nmN
 split
 · rw [List.flatMap_append]
 split
 · rw [List.flatMap_append]
 rfl
theorem Znt (k:Int) (l m:List GRel):nmR k (l++m)=nmR k l++nmR k m:=by
 unfold nmR
 split
 · rw [List.map_append]
 split
 · rw [List.flatMap_append]
 rfl
theorem Zgf (k:Int) {l:List ND} {i:Nat} {x:ND} (hx:l[i]?=some x):nmN k ((l.take (i+1)).map ND.dat)=nmN k ((l.take i).map ND.dat)++nmN k [x.dat]:=by
 rw [List.take_add_one,hx,Option.toList_some,List.map_append,Zns];rfl
theorem Zgg (k:Int) {l:List RL} {i:Nat} {x:RL} (hx:l[i]?=some x):nmR k ((l.take (i+1)).map RL.dat)=nmR k ((l.take i).map RL.dat)++nmR k [x.dat]:=by
 rw [List.take_add_one,hx,Option.toList_some,List.map_append,Znt];rfl
theorem Zlw (k:Int) (l:List ND) (i:Nat):(nmN k ((l.take i).map ND.dat)).length<=(nmN k (l.map ND.dat)).length:=by
 have h:=congrArg List.length (Zns k ((l.take i).map ND.dat) ((l.drop i).map ND.dat))
 rw [<- List.map_append,List.take_append_drop,List.length_append] at h
 omega
theorem Zlx (k:Int) (l:List RL) (i:Nat):(nmR k ((l.take i).map RL.dat)).length<=(nmR k (l.map RL.dat)).length:=by
 have h:=congrArg List.length (Znt k ((l.take i).map RL.dat) ((l.drop i).map RL.dat))
 rw [<- List.map_append,List.take_append_drop,List.length_append] at h
 omega
theorem Zjh {ps:List PR} {j:Nat} {x:PR} (hx:ps[j]?=some x):((ps.take (j+1)).map PR.dat).map GPr.key=((ps.take j).map PR.dat).map GPr.key++[x.key]:=by
 rw [List.take_add_one,hx,Option.toList_some,List.map_append,List.map_append];rfl
structure Coll (w0 wr:World) (s:Value) (l:List ByteArray):Prop where
 row:wr.ownsRow w0.heap.size 9 1 s l.length (l.map Value.string)
 same:Same w0 wr
theorem Coll.same' {w0 wr w':World} {s:Value} {l:List ByteArray} (h:Coll w0 wr s l) (hs:Same wr w'):Coll w0 w' s l:=⟨Zaa h.row hs,h.same.same hs⟩
theorem Coll.app {w0 wr wa w':World} {s s':Value} {l m:List ByteArray} (h:Coll w0 wr s l) (ha:Same wr wa) (hg:Grew wa w0.heap.size 9 1 s (l.length+m.length) (l.map Value.string++m.map Value.string) s' w'):Coll w0 w' s' (l++m):=by
 have h1:=hg.own
 rw [<- List.map_append,<-List.length_append] at h1
 exact ⟨h1,(h.same.same ha).trans hg.upd fun b hb hh=>by have:=(h.row.lt b hh).1;omega⟩
theorem Zji {F:Nat->Prop} (w:World) (g:GR) (h:RdG w F g) (hT:(Zaf g.dat 1).length<=8796093022208) :
 Calls Tryz.prog 54 #[g.agg,.int .i64 1] w fun e w'=>∃ (A:Option Addr) (c:Nat) (m:List ByteArray),e=.returned (.slice A m.length c)/\m.length<=(Zaf g.dat 1).length/\Hid (Srt (Zaf g.dat 1) m)/\Hid (w'.ownsRow w.heap.size 9 1 (.slice A m.length c) m.length (m.map Value.string))/\Same w w':=by
 obtain ⟨ns,AN,nN,cN,rs,AR,nR,cR⟩:=g
 have HAll:=qH (show Zaf (GR.dat ⟨ns,AN,nN,cN,rs,AR,nR,cR⟩) 1=nmN 1 (ns.map ND.dat)++nmR 1 (rs.map RL.dat) from Zdj _ _)
 rw [HAll.out,List.length_append] at hT
 obtain ⟨tN,htN⟩:∃ t,(nmN 1 (ns.map ND.dat)).length=t:=⟨_,rfl⟩
 obtain ⟨tR,htR⟩:∃ t,(nmR 1 (rs.map RL.dat)).length=t:=⟨_,rfl⟩
 rw [htN,htR] at hT
 have HleN:=qH (fun i=>Nat.le_trans (Zlw 1 ns i) (Nat.le_of_eq htN))
 have HleR:=qH (fun i=>Nat.le_trans (Zlx 1 rs i) (Nat.le_of_eq htR))
 have HtN:=qH htN
 have HtR:=qH htR
 have hmx:=h.nodes.row.max
 have hle:=h.nodes.row.le
 have hmx':=h.rels.row.max
 have hle':=h.rels.row.le
 unfold maxLen at hmx hmx'
 have HL:=qH h.nodes.len
 have HL':=qH h.rels.len
 simp only at hmx hle hmx' hle' HL HL'
 have hs0:=((Upd.refl (fun _=>False) w).alloc (.cells #[.slice AN nN cN,.slice AR nR cR] 26)).alloc (.cells #[] 9)
 have hb0:=(Blk.new w 26 #[.slice AN nN cN,.slice AR nR cR]).alloc (.cells #[] 9)
 have HC0:=qH (show Coll w ((w.alloc (.cells #[.slice AN nN cN,.slice AR nR cR] 26)).alloc (.cells #[] 9)) (.slice (some ⟨w.heap.size+1,0,none⟩) 0 0) [] from ⟨by
  have h1:((w.alloc (.cells #[.slice AN nN cN,.slice AR nR cR] 26)).alloc (.cells #[] 9)).ownsRow w.heap.size 9 1 (.slice (some ⟨(w.alloc (.cells #[.slice AN nN cN,.slice AR nR cR] 26)).heap.size,0,none⟩) 0 0) 0 []:=World.ownsRow_made _ #[] 0 (by simp) (Nat.zero_le _) rfl
  rw [World.size_alloc] at h1
  exact h1,hs0⟩)
 have HB0:=qH hb0
 have HN:=qH (h.nodes.mono (F':=fun _=>True) fun _ _ _=>trivial)
 have HRr:=qH (h.rels.mono (F':=fun _=>True) fun _ _ _=>trivial)
 simp only at HN HRr
 clear h hs0 hb0 htN htR
 go_enter Tryz.func54,Tryz.ntmps54
 go_upto_region 2 with fail
 generalize (w.alloc (.cells #[.slice AN nN cN,.slice AR nR cR] 26)).alloc (.cells #[] 9)=w1 at *
 go_wp2_with fail
 go_loopg [5,6] nN (fun gh s5 ix wr=>∃ (i:Nat) (l:List ByteArray),nN-i=gh/\i<=nN/\ix=.int .i64 i/\Hid (l=nmN 1 ((ns.take i).map ND.dat))/\Hid (Coll w wr s5 l)/\Hid (Blk wr w.heap.size 26 #[.slice AN nN cN,.slice AR nR cR]))
 case atStart=>exact ⟨0,[],rfl,Nat.zero_le _,rfl,qH (by simp [nmN]),HC0,HB0⟩
 clear HC0 HB0
 obtain ⟨i,l,rfl,hi,rfl,KE,KC,KB⟩:=hrel
 have hll:l.length<=tN:=by rw [KE.out];exact HleN.out i
 have p1:wr.cell? ⟨w.heap.size,0,none⟩=some (.slice AN nN cN):=KB.out.cell 0
 obtain ⟨A5,c5,rfl⟩:=Zac KC.out.row
 by_cases hlt:i<nN
 · have HNw:=qH (HN.out.same (KC.out.same))
   obtain ⟨b,o,x,rfl,hb,_,hx,hxm,r0,r1,r2⟩:=HNw.out.at_ hlt
   have HXL:=qH (HNw.out.lab x hxm)
   have HXP:=qH (HNw.out.pro x hxm)
   have HX:=qH (Zgf 1 hx)
   have hl2:=HleN.out (i+1)
   rw [HX.out,List.length_append,<-KE.out] at hl2
   clear hx hxm HNw
   obtain ⟨ix,lb,AL,nL,cL,ps,AP,nP,cP⟩:=x
   simp only at r0 r1 r2
   have sA:=(Upd.refl (fun _=>False) wr).alloc (.cells #[.int .i64 ix,.slice AL nL cL,.slice AP nP cP] 43)
   have hb7:=Blk.new wr 43 #[.int .i64 ix,.slice AL nL cL,.slice AP nP cP]
   have KC7:=qH (KC.out.same' sA)
   have KB7:=qH (KB.out.same sA)
   have HXL7:=qH (HXL.out.same sA)
   have HXP7:=qH (HXP.out.same sA)
   have HB7:=qH hb7
   clear hb7 sA HXL HXP
   go_upto_region 6 with fail
   clear p1 r0 r1 r2
   generalize wr.alloc (.cells #[.int .i64 ix,.slice AL nL cL,.slice AP nP cP] 43)=w7 at *
   generalize wr.heap.size=g7 at *
   have hLn:lb.length=nL:=by have:=HXL7.out.len;simpa using this
   have hE1:nmN 1 [ND.dat ⟨ix,lb,AL,nL,cL,ps,AP,nP,cP⟩]=lb:=by simp [nmN,ND.dat]
   rw [hE1,hLn] at hl2
   have p2:w7.cell? ⟨g7,1,none⟩=some (.slice AL nL cL):=HB7.out.cell 1
   have hz7:=KC7.out.same.size
   clear hLn hE1
   go_wp2_with (at_builtin;go_must (refine Zag rfl (.tmp 27) (.tmp 29) _ _ rfl w.heap.size 9 1 16 _ Tryz.underlying40 ZaA rfl _ l.length _ rfl (KC7.out.row) rfl (Zcz Tryz.underlying40 HXL7.out (Zig _)) (by unfold maxLen;omega) (by omega) (by skip;omega) ?_);intro v' w' happ;have HG:=qH happ;clear happ)
   have hLn:lb.length=nL:=by have:=HXL7.out.len;simpa using this
   have KC8:=qH (KC7.out.app (m:=lb) (Upd.refl _ _) (by rw [hLn];exact HG.out))
   have hS8:=HG.out.upd
   have hB8:=(HB7.out).upd hS8 fun hh=>HB7.out.ne_own KC7.out.row (by decide) hh
   have hKB8:=(KB7.out).upd hS8 fun hh=>KB7.out.ne_own KC7.out.row (by decide) hh
   have KB8:=qH hKB8
   have HB8:=qH hB8
   obtain ⟨A6,c6,rfl⟩:=Zac KC8.out.row
   clear hLn hS8 hB8 hKB8 p2 HG
   have p3:w'.cell? ⟨g7,2,none⟩=some (.slice AP nP cP):=HB8.out.cell 2
   generalize w'=w8 at *
   go_loopg [5,8] 0 (fun gh s5 ix wr=>s5=.slice A6 (l++lb).length c6/\ix=.int .i64 0/\wr=w8)
   case atStart=>exact ⟨rfl,rfl,rfl⟩
   obtain ⟨rfl,rfl,rfl⟩:=hrel
   by_cases hnp:0<nP
   all_goals
    go_wp2
    go_roundg (nN-(i+1))
    case measure=>omega
    case rel=>exact ⟨i+1,l++lb,rfl,by omega,by go_num,qH (by rw [HX.out,<-KE.out];simp [nmN,ND.dat]),KC8,KB8⟩
 have hin:i=nN:=by omega
 subst hin
 have KE2:=qH (show l=nmN 1 (ns.map ND.dat) from by rw [KE.out,List.take_of_length_le (by rw [HL.out];exact Nat.le_refl _)])
 have hl0:l.length=tN:=by rw [KE2.out];exact HtN.out
 clear KE hlt
 obtain ⟨wo,rfl⟩:∃ wo:World,wo=wr:=⟨_,rfl⟩
 go_wp2_with fail
 clear p1
 go_loopg [5,9] nR (fun gh s5 jx wr=>∃ (j:Nat) (m:List ByteArray),nR-j=gh/\j<=nR/\jx=.int .i64 j/\Hid (m=l++nmR 1 ((rs.take j).map RL.dat))/\Hid (Coll w wr s5 m)/\Hid (Blk wr w.heap.size 26 #[.slice AN i cN,.slice AR nR cR]))
 case atStart=>exact ⟨0,l,rfl,Nat.zero_le _,rfl,qH (by simp [nmR]),KC,KB⟩
 clear KC KB
 obtain ⟨j,m,rfl,hj,rfl,JE,JC,JB⟩:=hrel
 have p1:wr.cell? ⟨w.heap.size,1,none⟩=some (.slice AR nR cR):=JB.out.cell 1
 have hml:m.length<=tN+tR:=by
  have h1:=congrArg List.length JE.out
  rw [List.length_append] at h1
  have:=HleR.out j
  omega
 obtain ⟨A6,c6,rfl⟩:=Zac JC.out.row
 by_cases hlt:j<nR
 · have HRw:=qH (HRr.out.same (JC.out.same))
   obtain ⟨b,o,x,rfl,hb,_,hx,hxm,r0,r1,r2,r3,r4⟩:=HRw.out.at_ hlt
   have HXP:=qH (HRw.out.pro x hxm)
   have HXP0:=qH (fun (w9:World) (hs9:Same w w9)=>(HRr.out.same hs9).pro x hxm)
   have HX:=qH (Zgg 1 hx)
   have hl2:=HleR.out (j+1)
   have hml2:=congrArg List.length JE.out
   rw [List.length_append] at hml2
   rw [HX.out,List.length_append] at hl2
   clear hx hxm HRw
   obtain ⟨ix,tx,sx,dx,ps,AP,nP,cP⟩:=x
   simp only at r0 r1 r2 r3 r4
   have sA:=(Upd.refl (fun _=>False) wr).alloc (.cells #[.int .i64 ix,.string tx,.int .i64 sx,.int .i64 dx,.slice AP nP cP] 50)
   have hb7:=Blk.new wr 50 #[.int .i64 ix,.string tx,.int .i64 sx,.int .i64 dx,.slice AP nP cP]
   have KC7:=qH (JC.out.same' sA)
   have KB7:=qH (JB.out.same sA)
   have HXP7:=qH (HXP.out.same sA)
   have HB7:=qH hb7
   clear hb7 sA HXP
   go_upto_region 16 with fail
   clear p1 r0 r1 r2 r3 r4
   generalize wr.alloc (.cells #[.int .i64 ix,.string tx,.int .i64 sx,.int .i64 dx,.slice AP nP cP] 50)=w7 at *
   generalize wr.heap.size=g7 at *
   have hE1:nmR 1 [RL.dat ⟨ix,tx,sx,dx,ps,AP,nP,cP⟩]=[]:=by simp [nmR]
   have HE1:=qH hE1
   have p3:w7.cell? ⟨g7,4,none⟩=some (.slice AP nP cP):=HB7.out.cell 4
   clear hE1 hml2 hl2
   go_wp2_with fail
   go_loopg [5,11] 0 (fun gh s5 ix wr=>s5=.slice A6 m.length c6/\ix=.int .i64 0/\wr=w7)
   case atStart=>exact ⟨rfl,rfl,rfl⟩
   obtain ⟨rfl,rfl,rfl⟩:=hrel
   by_cases hnp:0<nP
   all_goals
    go_wp2
    go_roundg (nR-(j+1))
    case measure=>omega
    case rel=>exact ⟨j+1,m,rfl,by omega,by go_num,qH (by rw [HX.out,JE.out,HE1.out,List.append_nil]),KC7,KB7⟩
 have hjn:j=nR:=by omega
 subst hjn
 have HM:=qH (show Zaf (GR.dat ⟨ns,AN,i,cN,rs,AR,j,cR⟩) 1=m from by
  rw [HAll.out,JE.out,KE2.out,List.take_of_length_le (by rw [HL'.out];exact Nat.le_refl _)])
 have HW:=qH (Zci JC.out.row)
 go_wp2_with fail
 refine (ZcI m.length wr (Nat.le_refl _) HW.out (by omega)).mono ?_
 rintro e w9 ⟨A9,c9,m9,rfl,hl9,HS9,HO9,hs9⟩
 have H9:=qH hs9
 have hz9:=JC.out.same.size
 clear hs9
 go_wp2
 go_ret
 exact ⟨A9,c9,m9,rfl,by rw [HM.out];exact hl9,by rw [HM.out];exact HS9,qH (Zad HO9.out hz9),JC.out.same.same H9.out⟩
theorem Zjj {F:Nat->Prop} (w:World) (g:GR) (h:RdG w F g) (hT:(Zaf g.dat 2).length<=8796093022208) :
 Calls Tryz.prog 54 #[g.agg,.int .i64 2] w fun e w'=>∃ (A:Option Addr) (c:Nat) (m:List ByteArray),e=.returned (.slice A m.length c)/\m.length<=(Zaf g.dat 2).length/\Hid (Srt (Zaf g.dat 2) m)/\Hid (w'.ownsRow w.heap.size 9 1 (.slice A m.length c) m.length (m.map Value.string))/\Same w w':=by
 obtain ⟨ns,AN,nN,cN,rs,AR,nR,cR⟩:=g
 have HAll:=qH (show Zaf (GR.dat ⟨ns,AN,nN,cN,rs,AR,nR,cR⟩) 2=nmN 2 (ns.map ND.dat)++nmR 2 (rs.map RL.dat) from Zdj _ _)
 rw [HAll.out,List.length_append] at hT
 obtain ⟨tN,htN⟩:∃ t,(nmN 2 (ns.map ND.dat)).length=t:=⟨_,rfl⟩
 obtain ⟨tR,htR⟩:∃ t,(nmR 2 (rs.map RL.dat)).length=t:=⟨_,rfl⟩
 rw [htN,htR] at hT
 have HleN:=qH (fun i=>Nat.le_trans (Zlw 2 ns i) (Nat.le_of_eq htN))
 have HleR:=qH (fun i=>Nat.le_trans (Zlx 2 rs i) (Nat.le_of_eq htR))
 have HtN:=qH htN
 have HtR:=qH htR
 have hmx:=h.nodes.row.max
 have hle:=h.nodes.row.le
 have hmx':=h.rels.row.max
 have hle':=h.rels.row.le
 unfold maxLen at hmx hmx'
 have HL:=qH h.nodes.len
 have HL':=qH h.rels.len
 simp only at hmx hle hmx' hle' HL HL'
 have hs0:=((Upd.refl (fun _=>False) w).alloc (.cells #[.slice AN nN cN,.slice AR nR cR] 26)).alloc (.cells #[] 9)
 have hb0:=(Blk.new w 26 #[.slice AN nN cN,.slice AR nR cR]).alloc (.cells #[] 9)
 have HC0:=qH (show Coll w ((w.alloc (.cells #[.slice AN nN cN,.slice AR nR cR] 26)).alloc (.cells #[] 9)) (.slice (some ⟨w.heap.size+1,0,none⟩) 0 0) [] from ⟨by
  have h1:((w.alloc (.cells #[.slice AN nN cN,.slice AR nR cR] 26)).alloc (.cells #[] 9)).ownsRow w.heap.size 9 1 (.slice (some ⟨(w.alloc (.cells #[.slice AN nN cN,.slice AR nR cR] 26)).heap.size,0,none⟩) 0 0) 0 []:=World.ownsRow_made _ #[] 0 (by simp) (Nat.zero_le _) rfl
  rw [World.size_alloc] at h1
  exact h1,hs0⟩)
 have HB0:=qH hb0
 have HN:=qH (h.nodes.mono (F':=fun _=>True) fun _ _ _=>trivial)
 have HRr:=qH (h.rels.mono (F':=fun _=>True) fun _ _ _=>trivial)
 simp only at HN HRr
 clear h hs0 hb0 htN htR
 go_enter Tryz.func54,Tryz.ntmps54
 go_upto_region 2 with fail
 generalize (w.alloc (.cells #[.slice AN nN cN,.slice AR nR cR] 26)).alloc (.cells #[] 9)=w1 at *
 go_wp2_with fail
 go_loopg [5,6] nN (fun gh s5 ix wr=>∃ (i:Nat) (l:List ByteArray),nN-i=gh/\i<=nN/\ix=.int .i64 i/\Hid (l=nmN 2 ((ns.take i).map ND.dat))/\Hid (Coll w wr s5 l)/\Hid (Blk wr w.heap.size 26 #[.slice AN nN cN,.slice AR nR cR]))
 case atStart=>exact ⟨0,[],rfl,Nat.zero_le _,rfl,qH (by simp [nmN]),HC0,HB0⟩
 clear HC0 HB0
 obtain ⟨i,l,rfl,hi,rfl,KE,KC,KB⟩:=hrel
 have hll:l.length<=tN:=by rw [KE.out];exact HleN.out i
 have p1:wr.cell? ⟨w.heap.size,0,none⟩=some (.slice AN nN cN):=KB.out.cell 0
 obtain ⟨A5,c5,rfl⟩:=Zac KC.out.row
 by_cases hlt:i<nN
 · have HNw:=qH (HN.out.same (KC.out.same))
   obtain ⟨b,o,x,rfl,hb,_,hx,hxm,r0,r1,r2⟩:=HNw.out.at_ hlt
   have HXL:=qH (HNw.out.lab x hxm)
   have HXP:=qH (HNw.out.pro x hxm)
   have HX:=qH (Zgf 2 hx)
   have hl2:=HleN.out (i+1)
   rw [HX.out,List.length_append,<-KE.out] at hl2
   clear hx hxm HNw
   obtain ⟨ix,lb,AL,nL,cL,ps,AP,nP,cP⟩:=x
   simp only at r0 r1 r2
   have sA:=(Upd.refl (fun _=>False) wr).alloc (.cells #[.int .i64 ix,.slice AL nL cL,.slice AP nP cP] 43)
   have hb7:=Blk.new wr 43 #[.int .i64 ix,.slice AL nL cL,.slice AP nP cP]
   have KC7:=qH (KC.out.same' sA)
   have KB7:=qH (KB.out.same sA)
   have HXL7:=qH (HXL.out.same sA)
   have HXP7:=qH (HXP.out.same sA)
   have HB7:=qH hb7
   clear hb7 sA HXL HXP
   go_upto_region 6 with fail
   clear p1 r0 r1 r2
   generalize wr.alloc (.cells #[.int .i64 ix,.slice AL nL cL,.slice AP nP cP] 43)=w7 at *
   generalize wr.heap.size=g7 at *
   have hE1:nmN 2 [ND.dat ⟨ix,lb,AL,nL,cL,ps,AP,nP,cP⟩]=[]:=by simp [nmN]
   have HE1:=qH hE1
   have p3:w7.cell? ⟨g7,2,none⟩=some (.slice AP nP cP):=HB7.out.cell 2
   clear hE1
   go_wp2_with fail
   go_loopg [5,8] 0 (fun gh s5 ix wr=>s5=.slice A5 l.length c5/\ix=.int .i64 0/\wr=w7)
   case atStart=>exact ⟨rfl,rfl,rfl⟩
   obtain ⟨rfl,rfl,rfl⟩:=hrel
   by_cases hnp:0<nP
   all_goals
    go_wp2
    go_roundg (nN-(i+1))
    case measure=>omega
    case rel=>exact ⟨i+1,l,rfl,by omega,by go_num,qH (by rw [HX.out,<-KE.out,HE1.out,List.append_nil]),KC7,KB7⟩
 have hin:i=nN:=by omega
 subst hin
 have KE2:=qH (show l=nmN 2 (ns.map ND.dat) from by rw [KE.out,List.take_of_length_le (by rw [HL.out];exact Nat.le_refl _)])
 have hl0:l.length=tN:=by rw [KE2.out];exact HtN.out
 clear KE hlt
 obtain ⟨wo,rfl⟩:∃ wo:World,wo=wr:=⟨_,rfl⟩
 go_wp2_with fail
 clear p1
 go_loopg [5,9] nR (fun gh s5 jx wr=>∃ (j:Nat) (m:List ByteArray),nR-j=gh/\j<=nR/\jx=.int .i64 j/\Hid (m=l++nmR 2 ((rs.take j).map RL.dat))/\Hid (Coll w wr s5 m)/\Hid (Blk wr w.heap.size 26 #[.slice AN i cN,.slice AR nR cR]))
 case atStart=>exact ⟨0,l,rfl,Nat.zero_le _,rfl,qH (by simp [nmR]),KC,KB⟩
 clear KC KB
 obtain ⟨j,m,rfl,hj,rfl,JE,JC,JB⟩:=hrel
 have p1:wr.cell? ⟨w.heap.size,1,none⟩=some (.slice AR nR cR):=JB.out.cell 1
 have hml:m.length<=tN+tR:=by
  have h1:=congrArg List.length JE.out
  rw [List.length_append] at h1
  have:=HleR.out j
  omega
 obtain ⟨A6,c6,rfl⟩:=Zac JC.out.row
 by_cases hlt:j<nR
 · have HRw:=qH (HRr.out.same (JC.out.same))
   obtain ⟨b,o,x,rfl,hb,_,hx,hxm,r0,r1,r2,r3,r4⟩:=HRw.out.at_ hlt
   have HXP:=qH (HRw.out.pro x hxm)
   have HXP0:=qH (fun (w9:World) (hs9:Same w w9)=>(HRr.out.same hs9).pro x hxm)
   have HX:=qH (Zgg 2 hx)
   have hl2:=HleR.out (j+1)
   have hml2:=congrArg List.length JE.out
   rw [List.length_append] at hml2
   rw [HX.out,List.length_append] at hl2
   clear hx hxm HRw
   obtain ⟨ix,tx,sx,dx,ps,AP,nP,cP⟩:=x
   simp only at r0 r1 r2 r3 r4
   have sA:=(Upd.refl (fun _=>False) wr).alloc (.cells #[.int .i64 ix,.string tx,.int .i64 sx,.int .i64 dx,.slice AP nP cP] 50)
   have hb7:=Blk.new wr 50 #[.int .i64 ix,.string tx,.int .i64 sx,.int .i64 dx,.slice AP nP cP]
   have KC7:=qH (JC.out.same' sA)
   have KB7:=qH (JB.out.same sA)
   have HXP7:=qH (HXP.out.same sA)
   have HB7:=qH hb7
   clear hb7 sA HXP
   go_upto_region 16 with fail
   clear p1 r0 r1 r2 r3 r4
   generalize wr.alloc (.cells #[.int .i64 ix,.string tx,.int .i64 sx,.int .i64 dx,.slice AP nP cP] 50)=w7 at *
   generalize wr.heap.size=g7 at *
   have hE1:nmR 2 [RL.dat ⟨ix,tx,sx,dx,ps,AP,nP,cP⟩]=[tx]:=by simp [nmR,RL.dat]
   rw [hE1] at hl2
   simp only [List.length_singleton] at hl2
   have p2:w7.cell? ⟨g7,1,none⟩=some (.string tx):=HB7.out.cell 1
   have hz7:=KC7.out.same.size
   clear hE1
   generalize hn5:m.length=n5 at *
   have HN5:=qH hn5
   have KR7:=qH (hn5 ▸ KC7.out.row)
   have hm5:n5<=tN+tR-1:=by omega
   clear hn5 hml2 hl2
   go_wp2_with (at_builtin;go_must (refine Zag rfl (.tmp 65) (.tmp 68) _ _ rfl w.heap.size 9 1 16 _ Tryz.underlying40 ZaA rfl _ n5 _ rfl (KR7.out.alloc _) rfl (Zal Tryz.underlying40 (Row.one _ _ _) (by simp [Value.oneCell'])) (by unfold maxLen;omega) (by omega) (by simp;omega) ?_);intro v' w' happ;have HG:=qH happ;clear happ)
   have sB:=(Upd.refl (fun _=>False) w7).alloc (.cells #[.string tx] 9)
   have KC8:=qH (KC7.out.app (m:=[tx]) sB (by rw [HN5.out];exact HG.out))
   have hrw:=Zaa KC7.out.row sB
   have hS8:=HG.out.upd
   have KB8:=qH ((KB7.out.same sB).upd hS8 fun hh=>(KB7.out.same sB).ne_own hrw (by decide) hh)
   have HB8:=qH ((HB7.out.same sB).upd hS8 fun hh=>(HB7.out.same sB).ne_own hrw (by decide) hh)
   obtain ⟨A8,c8,rfl⟩:=Zac KC8.out.row
   clear sB hrw hS8 p2 HG
   have p3:w'.cell? ⟨g7,4,none⟩=some (.slice AP nP cP):=HB8.out.cell 4
   generalize w'=w8 at *
   go_loopg [5,11] 0 (fun gh s5 ix wr=>s5=.slice A8 (m++[tx]).length c8/\ix=.int .i64 0/\wr=w8)
   case atStart=>exact ⟨rfl,rfl,rfl⟩
   obtain ⟨rfl,rfl,rfl⟩:=hrel
   by_cases hnp:0<nP
   all_goals
    go_wp2
    go_roundg (nR-(j+1))
    case measure=>omega
    case rel=>exact ⟨j+1,m++[tx],rfl,by omega,by go_num,qH (by rw [HX.out,JE.out];simp [nmR,RL.dat]),KC8,KB8⟩
 have hjn:j=nR:=by omega
 subst hjn
 have HM:=qH (show Zaf (GR.dat ⟨ns,AN,i,cN,rs,AR,j,cR⟩) 2=m from by
  rw [HAll.out,JE.out,KE2.out,List.take_of_length_le (by rw [HL'.out];exact Nat.le_refl _)])
 have HW:=qH (Zci JC.out.row)
 go_wp2_with fail
 refine (ZcI m.length wr (Nat.le_refl _) HW.out (by omega)).mono ?_
 rintro e w9 ⟨A9,c9,m9,rfl,hl9,HS9,HO9,hs9⟩
 have H9:=qH hs9
 have hz9:=JC.out.same.size
 clear hs9
 go_wp2
 go_ret
 exact ⟨A9,c9,m9,rfl,by rw [HM.out];exact hl9,by rw [HM.out];exact HS9,qH (Zad HO9.out hz9),JC.out.same.same H9.out⟩
theorem Zjk {F:Nat->Prop} (w:World) (g:GR) (h:RdG w F g) (hT:(Zaf g.dat 3).length<=8796093022208) :
 Calls Tryz.prog 54 #[g.agg,.int .i64 3] w fun e w'=>∃ (A:Option Addr) (c:Nat) (m:List ByteArray),e=.returned (.slice A m.length c)/\m.length<=(Zaf g.dat 3).length/\Hid (Srt (Zaf g.dat 3) m)/\Hid (w'.ownsRow w.heap.size 9 1 (.slice A m.length c) m.length (m.map Value.string))/\Same w w':=by
 obtain ⟨ns,AN,nN,cN,rs,AR,nR,cR⟩:=g
 have HAll:=qH (show Zaf (GR.dat ⟨ns,AN,nN,cN,rs,AR,nR,cR⟩) 3=nmN 3 (ns.map ND.dat)++nmR 3 (rs.map RL.dat) from Zdj _ _)
 rw [HAll.out,List.length_append] at hT
 obtain ⟨tN,htN⟩:∃ t,(nmN 3 (ns.map ND.dat)).length=t:=⟨_,rfl⟩
 obtain ⟨tR,htR⟩:∃ t,(nmR 3 (rs.map RL.dat)).length=t:=⟨_,rfl⟩
 rw [htN,htR] at hT
 have HleN:=qH (fun i=>Nat.le_trans (Zlw 3 ns i) (Nat.le_of_eq htN))
 have HleR:=qH (fun i=>Nat.le_trans (Zlx 3 rs i) (Nat.le_of_eq htR))
 have HtN:=qH htN
 have HtR:=qH htR
 have hmx:=h.nodes.row.max
 have hle:=h.nodes.row.le
 have hmx':=h.rels.row.max
 have hle':=h.rels.row.le
 unfold maxLen at hmx hmx'
 have HL:=qH h.nodes.len
 have HL':=qH h.rels.len
 simp only at hmx hle hmx' hle' HL HL'
 have hs0:=((Upd.refl (fun _=>False) w).alloc (.cells #[.slice AN nN cN,.slice AR nR cR] 26)).alloc (.cells #[] 9)
 have hb0:=(Blk.new w 26 #[.slice AN nN cN,.slice AR nR cR]).alloc (.cells #[] 9)
 have HC0:=qH (show Coll w ((w.alloc (.cells #[.slice AN nN cN,.slice AR nR cR] 26)).alloc (.cells #[] 9)) (.slice (some ⟨w.heap.size+1,0,none⟩) 0 0) [] from ⟨by
  have h1:((w.alloc (.cells #[.slice AN nN cN,.slice AR nR cR] 26)).alloc (.cells #[] 9)).ownsRow w.heap.size 9 1 (.slice (some ⟨(w.alloc (.cells #[.slice AN nN cN,.slice AR nR cR] 26)).heap.size,0,none⟩) 0 0) 0 []:=World.ownsRow_made _ #[] 0 (by simp) (Nat.zero_le _) rfl
  rw [World.size_alloc] at h1
  exact h1,hs0⟩)
 have HB0:=qH hb0
 have HN:=qH (h.nodes.mono (F':=fun _=>True) fun _ _ _=>trivial)
 have HRr:=qH (h.rels.mono (F':=fun _=>True) fun _ _ _=>trivial)
 simp only at HN HRr
 clear h hs0 hb0 htN htR
 go_enter Tryz.func54,Tryz.ntmps54
 go_upto_region 2 with fail
 generalize (w.alloc (.cells #[.slice AN nN cN,.slice AR nR cR] 26)).alloc (.cells #[] 9)=w1 at *
 go_wp2_with fail
 go_loopg [5,6] nN (fun gh s5 ix wr=>∃ (i:Nat) (l:List ByteArray),nN-i=gh/\i<=nN/\ix=.int .i64 i/\Hid (l=nmN 3 ((ns.take i).map ND.dat))/\Hid (Coll w wr s5 l)/\Hid (Blk wr w.heap.size 26 #[.slice AN nN cN,.slice AR nR cR]))
 case atStart=>exact ⟨0,[],rfl,Nat.zero_le _,rfl,qH (by simp [nmN]),HC0,HB0⟩
 clear HC0 HB0
 obtain ⟨i,l,rfl,hi,rfl,KE,KC,KB⟩:=hrel
 have hll:l.length<=tN:=by rw [KE.out];exact HleN.out i
 have p1:wr.cell? ⟨w.heap.size,0,none⟩=some (.slice AN nN cN):=KB.out.cell 0
 obtain ⟨A5,c5,rfl⟩:=Zac KC.out.row
 by_cases hlt:i<nN
 · have HNw:=qH (HN.out.same (KC.out.same))
   obtain ⟨b,o,x,rfl,hb,_,hx,hxm,r0,r1,r2⟩:=HNw.out.at_ hlt
   have HXL:=qH (HNw.out.lab x hxm)
   have HXP:=qH (HNw.out.pro x hxm)
   have HXP0:=qH (fun (w9:World) (hs9:Same w w9)=>(HN.out.same hs9).pro x hxm)
   have HX:=qH (Zgf 3 hx)
   have hl2:=HleN.out (i+1)
   rw [HX.out,List.length_append,<-KE.out] at hl2
   clear hx hxm HNw
   obtain ⟨ix,lb,AL,nL,cL,ps,AP,nP,cP⟩:=x
   simp only at r0 r1 r2
   have sA:=(Upd.refl (fun _=>False) wr).alloc (.cells #[.int .i64 ix,.slice AL nL cL,.slice AP nP cP] 43)
   have hb7:=Blk.new wr 43 #[.int .i64 ix,.slice AL nL cL,.slice AP nP cP]
   have KC7:=qH (KC.out.same' sA)
   have KB7:=qH (KB.out.same sA)
   have HXL7:=qH (HXL.out.same sA)
   have HXP7:=qH (HXP.out.same sA)
   have HB7:=qH hb7
   clear hb7 sA HXL HXP
   go_upto_region 6 with fail
   clear p1 r0 r1 r2
   generalize wr.alloc (.cells #[.int .i64 ix,.slice AL nL cL,.slice AP nP cP] 43)=w7 at *
   generalize wr.heap.size=g7 at *
   have hE1:nmN 3 [ND.dat ⟨ix,lb,AL,nL,cL,ps,AP,nP,cP⟩]=(ps.map PR.dat).map GPr.key:=by simp [nmN,ND.dat]
   have HE1:=qH hE1
   have hPl:ps.length=nP:=HXP7.out.len
   rw [hE1,List.length_map,List.length_map,hPl] at hl2
   have HPL:=qH hPl
   have hmp:cP<=maxLen:=HXP7.out.row.max
   have hlp:nP<=cP:=HXP7.out.row.le
   unfold maxLen at hmp
   have p3:w7.cell? ⟨g7,2,none⟩=some (.slice AP nP cP):=HB7.out.cell 2
   clear hPl hE1
   go_wp2_with fail
   clear p3
   go_loopg [5,8] nP (fun gh s5 jx wr=>∃ (j:Nat) (l':List ByteArray),nP-j=gh/\j<=nP/\jx=.int .i64 j/\l'.length=l.length+j/\Hid (l'=l++((ps.take j).map PR.dat).map GPr.key)/\Hid (Coll w wr s5 l')/\Hid (Blk wr w.heap.size 26 #[.slice (some ⟨b,o,none⟩) nN cN,.slice AR nR cR])/\Hid (Blk wr g7 43 #[.int .i64 ix,.slice AL nL cL,.slice AP nP cP])/\Hid (RdPs wr (fun _=>True) AP nP cP ps))
   case atStart=>exact ⟨0,l,rfl,Nat.zero_le _,rfl,rfl,qH (by simp),KC7,KB7,HB7,HXP7⟩
   clear KC7 KB7 HB7 HXP7
   obtain ⟨j,l',rfl,hj,rfl,hl',JE,JC,JB,JB7,JP⟩:=hrel
   have p3:wr.cell? ⟨g7,2,none⟩=some (.slice AP nP cP):=JB7.out.cell 2
   obtain ⟨A6,c6,rfl⟩:=Zac JC.out.row
   by_cases hjl:j<nP
   · obtain ⟨b2,o2,y,rfl,_,_,hy,_,q0,_⟩:=JP.out.at_ hjl
     have HK:=qH (Zjh hy)
     have hzr:=JC.out.same.size
     obtain ⟨yk,yg,yA,yn,yc,yA2,yn2,yc2⟩:=y
     simp only at q0
     have hyc:=qH (show l'++[yk]=l++((ps.take (j+1)).map PR.dat).map GPr.key from by rw [HK.out,JE.out];simp)
     generalize hl2':l'.length=n5 at *
     have HL2:=qH hl2'
     clear hy hl2'
     go_wp2_with (at_builtin;go_must (refine Zag rfl (.tmp 42) (.tmp 49) _ _ rfl w.heap.size 9 1 16 _ Tryz.underlying40 ZaA rfl _ n5 _ rfl ((HL2.out ▸ JC.out.row).alloc _) rfl (Zal Tryz.underlying40 (Row.one _ _ _) (by simp [Value.oneCell'])) (by unfold maxLen;omega) (by omega) (by simp;omega) ?_);intro v' w' happ;have HG:=qH happ;clear happ)
     have KC8:=qH (JC.out.app (m:=[yk]) ((Upd.refl _ wr).alloc _) (by rw [HL2.out];exact HG.out))
     have sB:=(Upd.refl (fun _=>False) wr).alloc (.cells #[.string yk] 9)
     have hrw:=Zaa JC.out.row sB
     have hS8:=HG.out.upd
     have KB8:=qH ((JB.out.same sB).upd hS8 fun hh=>(JB.out.same sB).ne_own hrw (by decide) hh)
     have HB8:=qH ((JB7.out.same sB).upd hS8 fun hh=>(JB7.out.same sB).ne_own hrw (by decide) hh)
     have HP8:=qH (HXP0.out w' KC8.out.same)
     clear sB hrw hS8 HG q0 p3
     go_roundg (nP-(j+1))
     case measure=>omega
     case rel=>exact ⟨j+1,l'++[yk],rfl,by omega,by go_num,by rw [List.length_append,HL2.out];simp;omega,hyc,KC8,KB8,HB8,HP8⟩
   have hjn:j=nP:=by omega
   subst hjn
   have HD:=qH (show l'=nmN 3 ((ns.take (i+1)).map ND.dat) from by
    rw [HX.out,<-KE.out,HE1.out,JE.out,List.take_of_length_le (by rw [HPL.out];exact Nat.le_refl _)])
   go_wp2
   go_roundg (nN-(i+1))
   case measure=>omega
   case rel=>exact ⟨i+1,l',rfl,by omega,by go_num,HD,JC,JB⟩
 have hin:i=nN:=by omega
 subst hin
 have KE2:=qH (show l=nmN 3 (ns.map ND.dat) from by rw [KE.out,List.take_of_length_le (by rw [HL.out];exact Nat.le_refl _)])
 have hl0:l.length=tN:=by rw [KE2.out];exact HtN.out
 clear KE hlt
 obtain ⟨wo,rfl⟩:∃ wo:World,wo=wr:=⟨_,rfl⟩
 go_wp2_with fail
 clear p1
 go_loopg [5,9] nR (fun gh s5 jx wr=>∃ (j:Nat) (m:List ByteArray),nR-j=gh/\j<=nR/\jx=.int .i64 j/\Hid (m=l++nmR 3 ((rs.take j).map RL.dat))/\Hid (Coll w wr s5 m)/\Hid (Blk wr w.heap.size 26 #[.slice AN i cN,.slice AR nR cR]))
 case atStart=>exact ⟨0,l,rfl,Nat.zero_le _,rfl,qH (by simp [nmR]),KC,KB⟩
 clear KC KB
 obtain ⟨j,m,rfl,hj,rfl,JE,JC,JB⟩:=hrel
 have p1:wr.cell? ⟨w.heap.size,1,none⟩=some (.slice AR nR cR):=JB.out.cell 1
 have hml:m.length<=tN+tR:=by
  have h1:=congrArg List.length JE.out
  rw [List.length_append] at h1
  have:=HleR.out j
  omega
 obtain ⟨A6,c6,rfl⟩:=Zac JC.out.row
 by_cases hlt:j<nR
 · have HRw:=qH (HRr.out.same (JC.out.same))
   obtain ⟨b,o,x,rfl,hb,_,hx,hxm,r0,r1,r2,r3,r4⟩:=HRw.out.at_ hlt
   have HXP:=qH (HRw.out.pro x hxm)
   have HXP0:=qH (fun (w9:World) (hs9:Same w w9)=>(HRr.out.same hs9).pro x hxm)
   have HX:=qH (Zgg 3 hx)
   have hl2:=HleR.out (j+1)
   have hml2:=congrArg List.length JE.out
   rw [List.length_append] at hml2
   rw [HX.out,List.length_append] at hl2
   clear hx hxm HRw
   obtain ⟨ix,tx,sx,dx,ps,AP,nP,cP⟩:=x
   simp only at r0 r1 r2 r3 r4
   have sA:=(Upd.refl (fun _=>False) wr).alloc (.cells #[.int .i64 ix,.string tx,.int .i64 sx,.int .i64 dx,.slice AP nP cP] 50)
   have hb7:=Blk.new wr 50 #[.int .i64 ix,.string tx,.int .i64 sx,.int .i64 dx,.slice AP nP cP]
   have KC7:=qH (JC.out.same' sA)
   have KB7:=qH (JB.out.same sA)
   have HXP7:=qH (HXP.out.same sA)
   have HB7:=qH hb7
   clear hb7 sA HXP
   go_upto_region 16 with fail
   clear p1 r0 r1 r2 r3 r4
   generalize wr.alloc (.cells #[.int .i64 ix,.string tx,.int .i64 sx,.int .i64 dx,.slice AP nP cP] 50)=w7 at *
   generalize wr.heap.size=g7 at *
   have hE1:nmR 3 [RL.dat ⟨ix,tx,sx,dx,ps,AP,nP,cP⟩]=(ps.map PR.dat).map GPr.key:=by simp [nmR,RL.dat]
   have HE1:=qH hE1
   have hPl:ps.length=nP:=HXP7.out.len
   rw [hE1,List.length_map,List.length_map,hPl] at hl2
   have HPL:=qH hPl
   have hmp:cP<=maxLen:=HXP7.out.row.max
   have hlp:nP<=cP:=HXP7.out.row.le
   unfold maxLen at hmp
   have hmP:m.length+nP<=tN+tR:=by omega
   have p3:w7.cell? ⟨g7,4,none⟩=some (.slice AP nP cP):=HB7.out.cell 4
   clear hPl hE1 hml2 hl2
   go_wp2_with fail
   clear p3
   go_loopg [5,11] nP (fun gh s5 jx wr=>∃ (q:Nat) (l':List ByteArray),nP-q=gh/\q<=nP/\jx=.int .i64 q/\l'.length=m.length+q/\Hid (l'=m++((ps.take q).map PR.dat).map GPr.key)/\Hid (Coll w wr s5 l')/\Hid (Blk wr w.heap.size 26 #[.slice AN i cN,.slice (some ⟨b,o,none⟩) nR cR])/\Hid (Blk wr g7 50 #[.int .i64 ix,.string tx,.int .i64 sx,.int .i64 dx,.slice AP nP cP])/\Hid (RdPs wr (fun _=>True) AP nP cP ps))
   case atStart=>exact ⟨0,m,rfl,Nat.zero_le _,rfl,rfl,qH (by simp),KC7,KB7,HB7,HXP7⟩
   clear KC7 KB7 HB7 HXP7
   obtain ⟨q,l',rfl,hq,rfl,hl',LE,LC,LB,LB7,LP⟩:=hrel
   have p3:wr.cell? ⟨g7,4,none⟩=some (.slice AP nP cP):=LB7.out.cell 4
   obtain ⟨A7,c7,rfl⟩:=Zac LC.out.row
   by_cases hjl:q<nP
   · obtain ⟨b2,o2,y,rfl,_,_,hy,_,q0,_⟩:=LP.out.at_ hjl
     have HK:=qH (Zjh hy)
     have hzr:=LC.out.same.size
     obtain ⟨yk,yg,yA,yn,yc,yA2,yn2,yc2⟩:=y
     simp only at q0
     have hyc:=qH (show l'++[yk]=m++((ps.take (q+1)).map PR.dat).map GPr.key from by rw [HK.out,LE.out];simp)
     generalize hl2':l'.length=n5 at *
     have HL2:=qH hl2'
     clear hy hl2'
     go_wp2_with (at_builtin;go_must (refine Zag rfl (.tmp 81) (.tmp 88) _ _ rfl w.heap.size 9 1 16 _ Tryz.underlying40 ZaA rfl _ n5 _ rfl ((HL2.out ▸ LC.out.row).alloc _) rfl (Zal Tryz.underlying40 (Row.one _ _ _) (by simp [Value.oneCell'])) (by unfold maxLen;omega) (by omega) (by simp;omega) ?_);intro v' w' happ;have HG:=qH happ;clear happ)
     have sB:=(Upd.refl (fun _=>False) wr).alloc (.cells #[.string yk] 9)
     have KC8:=qH (LC.out.app (m:=[yk]) sB (by rw [HL2.out];exact HG.out))
     have hrw:=Zaa LC.out.row sB
     have hS8:=HG.out.upd
     have KB8:=qH ((LB.out.same sB).upd hS8 fun hh=>(LB.out.same sB).ne_own hrw (by decide) hh)
     have HB8:=qH ((LB7.out.same sB).upd hS8 fun hh=>(LB7.out.same sB).ne_own hrw (by decide) hh)
     have HP8:=qH (HXP0.out w' KC8.out.same)
     clear sB hrw hS8 HG q0 p3
     go_roundg (nP-(q+1))
     case measure=>omega
     case rel=>exact ⟨q+1,l'++[yk],rfl,by omega,by go_num,by rw [List.length_append,HL2.out];simp;omega,hyc,KC8,KB8,HB8,HP8⟩
   have hjn:q=nP:=by omega
   subst hjn
   have HD:=qH (show l'=l++nmR 3 ((rs.take (j+1)).map RL.dat) from by
    rw [HX.out,HE1.out,LE.out,List.take_of_length_le (by rw [HPL.out];exact Nat.le_refl _),JE.out,List.append_assoc])
   go_wp2
   go_roundg (nR-(j+1))
   case measure=>omega
   case rel=>exact ⟨j+1,l',rfl,by omega,by go_num,HD,LC,LB⟩
 have hjn:j=nR:=by omega
 subst hjn
 have HM:=qH (show Zaf (GR.dat ⟨ns,AN,i,cN,rs,AR,j,cR⟩) 3=m from by
  rw [HAll.out,JE.out,KE2.out,List.take_of_length_le (by rw [HL'.out];exact Nat.le_refl _)])
 have HW:=qH (Zci JC.out.row)
 go_wp2_with fail
 refine (ZcI m.length wr (Nat.le_refl _) HW.out (by omega)).mono ?_
 rintro e w9 ⟨A9,c9,m9,rfl,hl9,HS9,HO9,hs9⟩
 have H9:=qH hs9
 have hz9:=JC.out.same.size
 clear hs9
 go_wp2
 go_ret
 exact ⟨A9,c9,m9,rfl,by rw [HM.out];exact hl9,by rw [HM.out];exact HS9,qH (Zad HO9.out hz9),JC.out.same.same H9.out⟩
theorem Zjl {F:Nat->Prop} (k:Int) (w:World) (g:GR) (h:RdG w F g) (hT:(Zaf g.dat k).length<=8796093022208) (hk1:k≠1) (hk2:k≠2) (hk3:k≠3) :
 Calls Tryz.prog 54 #[g.agg,.int .i64 k] w fun e w'=>∃ (A:Option Addr) (c:Nat) (m:List ByteArray),e=.returned (.slice A m.length c)/\m.length<=(Zaf g.dat k).length/\Hid (Srt (Zaf g.dat k) m)/\Hid (w'.ownsRow w.heap.size 9 1 (.slice A m.length c) m.length (m.map Value.string))/\Same w w':=by
 obtain ⟨ns,AN,nN,cN,rs,AR,nR,cR⟩:=g
 have HAll:=qH (show Zaf (GR.dat ⟨ns,AN,nN,cN,rs,AR,nR,cR⟩) k=nmN k (ns.map ND.dat)++nmR k (rs.map RL.dat) from Zdj _ _)
 rw [HAll.out,List.length_append] at hT
 obtain ⟨tN,htN⟩:∃ t,(nmN k (ns.map ND.dat)).length=t:=⟨_,rfl⟩
 obtain ⟨tR,htR⟩:∃ t,(nmR k (rs.map RL.dat)).length=t:=⟨_,rfl⟩
 rw [htN,htR] at hT
 have HleN:=qH (fun i=>Nat.le_trans (Zlw k ns i) (Nat.le_of_eq htN))
 have HleR:=qH (fun i=>Nat.le_trans (Zlx k rs i) (Nat.le_of_eq htR))
 have HtN:=qH htN
 have HtR:=qH htR
 have hmx:=h.nodes.row.max
 have hle:=h.nodes.row.le
 have hmx':=h.rels.row.max
 have hle':=h.rels.row.le
 unfold maxLen at hmx hmx'
 have HL:=qH h.nodes.len
 have HL':=qH h.rels.len
 simp only at hmx hle hmx' hle' HL HL'
 have hs0:=((Upd.refl (fun _=>False) w).alloc (.cells #[.slice AN nN cN,.slice AR nR cR] 26)).alloc (.cells #[] 9)
 have hb0:=(Blk.new w 26 #[.slice AN nN cN,.slice AR nR cR]).alloc (.cells #[] 9)
 have HC0:=qH (show Coll w ((w.alloc (.cells #[.slice AN nN cN,.slice AR nR cR] 26)).alloc (.cells #[] 9)) (.slice (some ⟨w.heap.size+1,0,none⟩) 0 0) [] from ⟨by
  have h1:((w.alloc (.cells #[.slice AN nN cN,.slice AR nR cR] 26)).alloc (.cells #[] 9)).ownsRow w.heap.size 9 1 (.slice (some ⟨(w.alloc (.cells #[.slice AN nN cN,.slice AR nR cR] 26)).heap.size,0,none⟩) 0 0) 0 []:=World.ownsRow_made _ #[] 0 (by simp) (Nat.zero_le _) rfl
  rw [World.size_alloc] at h1
  exact h1,hs0⟩)
 have HB0:=qH hb0
 have HN:=qH (h.nodes.mono (F':=fun _=>True) fun _ _ _=>trivial)
 have HRr:=qH (h.rels.mono (F':=fun _=>True) fun _ _ _=>trivial)
 simp only at HN HRr
 clear h hs0 hb0 htN htR
 have hk1':((k:Int)==1)=false:=by simpa using hk1
 have hk2':((k:Int)==2)=false:=by simpa using hk2
 have hk3':((k:Int)==3)=false:=by simpa using hk3
 go_enter Tryz.func54,Tryz.ntmps54
 go_upto_region 2 with fail
 generalize (w.alloc (.cells #[.slice AN nN cN,.slice AR nR cR] 26)).alloc (.cells #[] 9)=w1 at *
 go_wp2_with fail
 go_loopg [5,6] nN (fun gh s5 ix wr=>∃ (i:Nat) (l:List ByteArray),nN-i=gh/\i<=nN/\ix=.int .i64 i/\Hid (l=nmN k ((ns.take i).map ND.dat))/\Hid (Coll w wr s5 l)/\Hid (Blk wr w.heap.size 26 #[.slice AN nN cN,.slice AR nR cR]))
 case atStart=>exact ⟨0,[],rfl,Nat.zero_le _,rfl,qH (by simp [nmN]),HC0,HB0⟩
 clear HC0 HB0
 obtain ⟨i,l,rfl,hi,rfl,KE,KC,KB⟩:=hrel
 have hll:l.length<=tN:=by rw [KE.out];exact HleN.out i
 have p1:wr.cell? ⟨w.heap.size,0,none⟩=some (.slice AN nN cN):=KB.out.cell 0
 obtain ⟨A5,c5,rfl⟩:=Zac KC.out.row
 by_cases hlt:i<nN
 · have HNw:=qH (HN.out.same (KC.out.same))
   obtain ⟨b,o,x,rfl,hb,_,hx,hxm,r0,r1,r2⟩:=HNw.out.at_ hlt
   have HXL:=qH (HNw.out.lab x hxm)
   have HXP:=qH (HNw.out.pro x hxm)
   have HX:=qH (Zgf k hx)
   have hl2:=HleN.out (i+1)
   rw [HX.out,List.length_append,<-KE.out] at hl2
   clear hx hxm HNw
   obtain ⟨ix,lb,AL,nL,cL,ps,AP,nP,cP⟩:=x
   simp only at r0 r1 r2
   have sA:=(Upd.refl (fun _=>False) wr).alloc (.cells #[.int .i64 ix,.slice AL nL cL,.slice AP nP cP] 43)
   have hb7:=Blk.new wr 43 #[.int .i64 ix,.slice AL nL cL,.slice AP nP cP]
   have KC7:=qH (KC.out.same' sA)
   have KB7:=qH (KB.out.same sA)
   have HXL7:=qH (HXL.out.same sA)
   have HXP7:=qH (HXP.out.same sA)
   have HB7:=qH hb7
   clear hb7 sA HXL HXP
   go_upto_region 6 with fail
   clear p1 r0 r1 r2
   generalize wr.alloc (.cells #[.int .i64 ix,.slice AL nL cL,.slice AP nP cP] 43)=w7 at *
   generalize wr.heap.size=g7 at *
   have hE1:nmN k [ND.dat ⟨ix,lb,AL,nL,cL,ps,AP,nP,cP⟩]=[]:=by unfold nmN;rw [if_neg hk1,if_neg hk3]
   have HE1:=qH hE1
   have p3:w7.cell? ⟨g7,2,none⟩=some (.slice AP nP cP):=HB7.out.cell 2
   clear hE1
   go_wp2_with fail
   go_loopg [5,8] 0 (fun gh s5 ix wr=>s5=.slice A5 l.length c5/\ix=.int .i64 0/\wr=w7)
   case atStart=>exact ⟨rfl,rfl,rfl⟩
   obtain ⟨rfl,rfl,rfl⟩:=hrel
   by_cases hnp:0<nP
   all_goals
    go_wp2
    go_roundg (nN-(i+1))
    case measure=>omega
    case rel=>exact ⟨i+1,l,rfl,by omega,by go_num,qH (by rw [HX.out,<-KE.out,HE1.out,List.append_nil]),KC7,KB7⟩
 have hin:i=nN:=by omega
 subst hin
 have KE2:=qH (show l=nmN k (ns.map ND.dat) from by rw [KE.out,List.take_of_length_le (by rw [HL.out];exact Nat.le_refl _)])
 have hl0:l.length=tN:=by rw [KE2.out];exact HtN.out
 clear KE hlt
 obtain ⟨wo,rfl⟩:∃ wo:World,wo=wr:=⟨_,rfl⟩
 go_wp2_with fail
 clear p1
 go_loopg [5,9] nR (fun gh s5 jx wr=>∃ (j:Nat) (m:List ByteArray),nR-j=gh/\j<=nR/\jx=.int .i64 j/\Hid (m=l++nmR k ((rs.take j).map RL.dat))/\Hid (Coll w wr s5 m)/\Hid (Blk wr w.heap.size 26 #[.slice AN i cN,.slice AR nR cR]))
 case atStart=>exact ⟨0,l,rfl,Nat.zero_le _,rfl,qH (by simp [nmR]),KC,KB⟩
 clear KC KB
 obtain ⟨j,m,rfl,hj,rfl,JE,JC,JB⟩:=hrel
 have p1:wr.cell? ⟨w.heap.size,1,none⟩=some (.slice AR nR cR):=JB.out.cell 1
 have hml:m.length<=tN+tR:=by
  have h1:=congrArg List.length JE.out
  rw [List.length_append] at h1
  have:=HleR.out j
  omega
 obtain ⟨A6,c6,rfl⟩:=Zac JC.out.row
 by_cases hlt:j<nR
 · have HRw:=qH (HRr.out.same (JC.out.same))
   obtain ⟨b,o,x,rfl,hb,_,hx,hxm,r0,r1,r2,r3,r4⟩:=HRw.out.at_ hlt
   have HXP:=qH (HRw.out.pro x hxm)
   have HXP0:=qH (fun (w9:World) (hs9:Same w w9)=>(HRr.out.same hs9).pro x hxm)
   have HX:=qH (Zgg k hx)
   have hl2:=HleR.out (j+1)
   have hml2:=congrArg List.length JE.out
   rw [List.length_append] at hml2
   rw [HX.out,List.length_append] at hl2
   clear hx hxm HRw
   obtain ⟨ix,tx,sx,dx,ps,AP,nP,cP⟩:=x
   simp only at r0 r1 r2 r3 r4
   have sA:=(Upd.refl (fun _=>False) wr).alloc (.cells #[.int .i64 ix,.string tx,.int .i64 sx,.int .i64 dx,.slice AP nP cP] 50)
   have hb7:=Blk.new wr 50 #[.int .i64 ix,.string tx,.int .i64 sx,.int .i64 dx,.slice AP nP cP]
   have KC7:=qH (JC.out.same' sA)
   have KB7:=qH (JB.out.same sA)
   have HXP7:=qH (HXP.out.same sA)
   have HB7:=qH hb7
   clear hb7 sA HXP
   go_upto_region 16 with fail
   clear p1 r0 r1 r2 r3 r4
   generalize wr.alloc (.cells #[.int .i64 ix,.string tx,.int .i64 sx,.int .i64 dx,.slice AP nP cP] 50)=w7 at *
   generalize wr.heap.size=g7 at *
   have hE1:nmR k [RL.dat ⟨ix,tx,sx,dx,ps,AP,nP,cP⟩]=[]:=by unfold nmR;rw [if_neg hk2,if_neg hk3]
   have HE1:=qH hE1
   have p3:w7.cell? ⟨g7,4,none⟩=some (.slice AP nP cP):=HB7.out.cell 4
   clear hE1 hml2 hl2
   go_wp2_with fail
   go_loopg [5,11] 0 (fun gh s5 ix wr=>s5=.slice A6 m.length c6/\ix=.int .i64 0/\wr=w7)
   case atStart=>exact ⟨rfl,rfl,rfl⟩
   obtain ⟨rfl,rfl,rfl⟩:=hrel
   by_cases hnp:0<nP
   all_goals
    go_wp2
    go_roundg (nR-(j+1))
    case measure=>omega
    case rel=>exact ⟨j+1,m,rfl,by omega,by go_num,qH (by rw [HX.out,JE.out,HE1.out,List.append_nil]),KC7,KB7⟩
 have hjn:j=nR:=by omega
 subst hjn
 have HM:=qH (show Zaf (GR.dat ⟨ns,AN,i,cN,rs,AR,j,cR⟩) k=m from by
  rw [HAll.out,JE.out,KE2.out,List.take_of_length_le (by rw [HL'.out];exact Nat.le_refl _)])
 have HW:=qH (Zci JC.out.row)
 go_wp2_with fail
 refine (ZcI m.length wr (Nat.le_refl _) HW.out (by omega)).mono ?_
 rintro e w9 ⟨A9,c9,m9,rfl,hl9,HS9,HO9,hs9⟩
 have H9:=qH hs9
 have hz9:=JC.out.same.size
 clear hs9
 go_wp2
 go_ret
 exact ⟨A9,c9,m9,rfl,by rw [HM.out];exact hl9,by rw [HM.out];exact HS9,qH (Zad HO9.out hz9),JC.out.same.same H9.out⟩
theorem Zkn {F:Nat->Prop} (k:Int) (w:World) (g:GR) (h:RdG w F g) (hT:(Zaf g.dat k).length<=8796093022208) :
 Calls Tryz.prog 54 #[g.agg,.int .i64 k] w fun e w'=>∃ (A:Option Addr) (c:Nat) (m:List ByteArray),e=.returned (.slice A m.length c)/\m.length<=(Zaf g.dat k).length/\Hid (Srt (Zaf g.dat k) m)/\Hid (w'.ownsRow w.heap.size 9 1 (.slice A m.length c) m.length (m.map Value.string))/\Same w w':=by
 by_cases h1:k=1
 · subst h1;exact Zji w g h hT
 by_cases h2:k=2
 · subst h2;exact Zjj w g h hT
 by_cases h3:k=3
 · subst h3;exact Zjk w g h hT
 exact Zjl k w g h hT h1 h2 h3
end Go.Proofs.YtkopcinhbjimiaaGreatDoor
