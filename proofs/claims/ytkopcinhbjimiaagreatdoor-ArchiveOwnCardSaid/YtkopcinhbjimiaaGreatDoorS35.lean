/- Texts that the claim leans on: walks and plain laws, function by function. -/
import Derived.LaidMore
import Derived.Stop.Joined
import Derived.Test.YtkopcinhbjimiaaGreatDoorS33
set_option maxRecDepth 100000
set_option maxHeartbeats 16000000
namespace Go.Proofs.YtkopcinhbjimiaaGreatDoor
open Go.RowKit
theorem ZfP {α:Type} {l m:List α} {k:Nat} (h1:k<l.length) (h2:k<m.length) (h:l.take k=m.take k) (he:l[k]=m[k]):l.take (k+1)=m.take (k+1):=by
 rw [List.take_succ_eq_append_getElem h1,List.take_succ_eq_append_getElem h2,h,he]
theorem ZlU {α:Type} {l m:List α} {k:Nat} (h1:k<l.length) (h2:k<m.length) (he:l[k]≠m[k]):l≠m:=by
 rintro rfl
 exact he rfl
def ZeU (g h:GVal):Bool:=g.kind==h.kind && (g.num==h.num && (g.text.toList==h.text.toList && (decide (g.nums=h.nums) && decide (g.texts=h.texts))))
theorem Zob (g h:GVal):ZeU g h=true↔g=h:=by
 unfold ZeU
 simp only [Bool.and_eq_true,beq_iff_eq,decide_eq_true_eq,ZcX]
 cases g;cases h
 simp
theorem ZmD {F F':Nat->Prop} {A1 A2 B1 B2:Option Addr} {n1 c1 n2 c2 m1 d1 m2 d2:Nat} {g h:GVal} (w:World) (hg:Zcg w F A1 n1 c1 A2 n2 c2 g) (hh:Zcg w F' B1 m1 d1 B2 m2 d2 h) :
 Calls Tryz.prog 62 #[g.val A1 n1 c1 A2 n2 c2,h.val B1 m1 d1 B2 m2 d2] w fun e w'=>e=.returned (.bool (ZeU g h))/\Same w w':=by
 obtain ⟨kind,num,text,nums,texts⟩:=g
 obtain ⟨kind',num',text',nums',texts'⟩:=h
 simp only [GVal.val]
 have H1:=qH hg
 have H2:=qH hh
 have HL1:=qH (show nums.length=n1 from hg.len1)
 have HL2:=qH (show texts.length=n2 from hg.len2)
 have HM1:=qH (show nums'.length=m1 from hh.len1)
 have HM2:=qH (show texts'.length=m2 from hh.len2)
 have hn1:n1<=9223372036854775807:=by have:=hg.nums.le;have:=hg.nums.max;unfold maxLen at this;omega
 have hn2:n2<=9223372036854775807:=by have:=hg.texts.le;have:=hg.texts.max;unfold maxLen at this;omega
 have hm1:m1<=9223372036854775807:=by have:=hh.nums.le;have:=hh.nums.max;unfold maxLen at this;omega
 have hm2:m2<=9223372036854775807:=by have:=hh.texts.le;have:=hh.texts.max;unfold maxLen at this;omega
 clear hg hh
 by_cases hk:kind=kind'
 case neg =>
  have hk':(kind != kind')=true:=by simpa using hk
  have HB:=qH (show ZeU ⟨kind,num,text,nums,texts⟩ ⟨kind',num',text',nums',texts'⟩=false from by
   have:(kind==kind')=false:=by simpa using hk
   simp only [ZeU,this,Bool.false_and])
  go_enter Tryz.func62,Tryz.ntmps62
  go_wp2
  go_ret
  exact ⟨Zbl HB.out.symm,((Upd.refl _ w).alloc _).alloc _⟩
 subst hk
 by_cases hn:num=num'
 case neg =>
  have hn':(num != num')=true:=by simpa using hn
  have HB:=qH (show ZeU ⟨kind,num,text,nums,texts⟩ ⟨kind,num',text',nums',texts'⟩=false from by
   have:(num==num')=false:=by simpa using hn
   simp only [ZeU,this,Bool.false_and,Bool.and_false])
  go_enter Tryz.func62,Tryz.ntmps62
  go_wp2
  go_ret
  exact ⟨Zbl HB.out.symm,((Upd.refl _ w).alloc _).alloc _⟩
 subst hn
 by_cases ht:(text.toList==text'.toList)=true
 case neg =>
  have ht':(text.toList==text'.toList)=false:=by simpa using ht
  have HB:=qH (show ZeU ⟨kind,num,text,nums,texts⟩ ⟨kind,num,text',nums',texts'⟩=false from by
   simp only [ZeU,ht',Bool.false_and,Bool.and_false])
  go_enter Tryz.func62,Tryz.ntmps62
  go_wp2
  go_ret
  exact ⟨Zbl HB.out.symm,((Upd.refl _ w).alloc _).alloc _⟩
 have HB:=qH (show ZeU ⟨kind,num,text,nums,texts⟩ ⟨kind,num,text',nums',texts'⟩=(decide (nums=nums') && decide (texts=texts')) from by
  simp [ZeU,ht])
 by_cases hl1:n1=m1
 case neg =>
  have hl1':((n1:Int) != (m1:Int))=true:=by rw [bne_iff_ne];omega
  have hne:nums≠nums':=by
   rintro rfl
   exact hl1 (HL1.out.symm.trans HM1.out)
  go_enter Tryz.func62,Tryz.ntmps62
  go_wp2
  go_ret
  exact ⟨Zbl (by rw [HB.out,decide_eq_false hne];rfl),((Upd.refl _ w).alloc _).alloc _⟩
 subst hl1
 by_cases hl2:n2=m2
 case neg =>
  have hl2':((n2:Int) != (m2:Int))=true:=by rw [bne_iff_ne];omega
  have hne:texts≠texts':=by
   rintro rfl
   exact hl2 (HL2.out.symm.trans HM2.out)
  go_enter Tryz.func62,Tryz.ntmps62
  go_wp2
  go_ret
  exact ⟨Zbl (by rw [HB.out,decide_eq_false hne,Bool.and_false]),((Upd.refl _ w).alloc _).alloc _⟩
 subst hl2
 go_enter Tryz.func62,Tryz.ntmps62
 go_wp2
 have hs0:=((Upd.refl (fun _=>False) w).alloc (.cells #[.int .i64 kind,.int .i64 num,.string text,.slice A1 n1 c1,.slice A2 n2 c2] 46)).alloc (.cells #[.int .i64 kind,.int .i64 num,.string text',.slice B1 n1 d1,.slice B2 n2 d2] 46)
 have hb0:Blk _ w.heap.size _ _:=(Blk.new w 46 #[.int .i64 kind,.int .i64 num,.string text,.slice A1 n1 c1,.slice A2 n2 c2]).alloc (.cells #[.int .i64 kind,.int .i64 num,.string text',.slice B1 n1 d1,.slice B2 n2 d2] 46)
 have hb1:=Blk.new (w.alloc (.cells #[.int .i64 kind,.int .i64 num,.string text,.slice A1 n1 c1,.slice A2 n2 c2] 46)) 46 #[.int .i64 kind,.int .i64 num,.string text',.slice B1 n1 d1,.slice B2 n2 d2]
 rw [World.size_alloc] at hb1
 have hc3:=hb0.cell 3
 have hc4:=hb0.cell 4
 have hd3:=hb1.cell 3
 have hd4:=hb1.cell 4
 simp only [List.getElem?_toArray,List.getElem?_cons_succ,List.getElem?_cons_zero] at hc3 hc4 hd3 hd4
 clear hb0 hb1
 revert hs0 hc3 hc4 hd3 hd4
 generalize (w.alloc (.cells #[.int .i64 kind,.int .i64 num,.string text,.slice A1 n1 c1,.slice A2 n2 c2] 46)).alloc (.cells #[.int .i64 kind,.int .i64 num,.string text',.slice B1 n1 d1,.slice B2 n2 d2] 46)=W
 intro hs0 hc3 hc4 hd3 hd4
 have HW1:=qH (H1.out.same hs0)
 have HW2:=qH (H2.out.same hs0)
 have HS:=qH hs0
 clear hs0
 go_loopw [5] (fun i wr=>∃ k d:Nat,k<=n1/\i=.int .i64 k/\wr=W.drewN d/\Hid (nums.take k=nums'.take k)) (fun i _=>n1-(intOf i).toNat)
 case atStart=>exact ⟨0,0,Nat.zero_le _,rfl,rfl,qH rfl⟩
 obtain ⟨k,d,hk,rfl,rfl,HP⟩:=hrel
 by_cases hlt:k<n1
 · obtain ⟨b,o,u,rfl,hbl,_,hu,hc⟩:=HW1.out.nums.at_ hlt
   obtain ⟨b',o',u',rfl,hbl',_,hu',hc'⟩:=HW2.out.nums.at_ hlt
   have hkl:k<nums.length:=by rw [HL1.out];exact hlt
   have hkl':k<nums'.length:=by rw [HM1.out];exact hlt
   simp only [List.getElem?_map,List.getElem?_eq_getElem hkl,List.getElem?_eq_getElem hkl',Option.map_some,Option.some.injEq] at hu hu'
   subst hu
   subst hu'
   have HT:=qH (ZfP hkl hkl' HP.out)
   have HN:=qH (ZlU hkl hkl')
   generalize nums[k]=x at *
   generalize nums'[k]=y at *
   by_cases hxy:x=y
   · subst hxy
     go_wp2_with fail
     go_quiet (fail)
     go_wp2
     go_roundw
     case rel=>exact ⟨k+1,_,by omega,by go_num,rfl,qH (HT.out (by first | rfl | trivial))⟩
     case measure=>simp [intOf];omega
   have hxy':(x != y)=true:=by simpa using hxy
   go_wp2_with fail
   go_quiet (fail)
   go_wp2
   go_ret
   refine ⟨Zbl ?_,(HS.out.drewN _).drewN _⟩
   rw [HB.out,decide_eq_false (HN.out hxy)]
   rfl
 obtain rfl:k=n1:=by omega
 have HE:=qH (show nums=nums' from by
  have hall:=HP.out
  rwa [List.take_of_length_le (by rw [HL1.out];exact Nat.le_refl _),List.take_of_length_le (by rw [HM1.out];exact Nat.le_refl _)] at hall)
 go_wp2
 go_loopw [6] (fun i wr=>∃ k d:Nat,k<=n2/\i=.int .i64 k/\wr=W.drewN d/\Hid (texts.take k=texts'.take k)) (fun i _=>n2-(intOf i).toNat)
 case atStart=>exact ⟨0,d,Nat.zero_le _,rfl,rfl,qH rfl⟩
 obtain ⟨k2,d2,hk2,rfl,rfl,HP2⟩:=hrel
 by_cases hlt:k2<n2
 · obtain ⟨b,o,u,rfl,hbl,_,hu,hc⟩:=HW1.out.texts.at_ hlt
   obtain ⟨b',o',u',rfl,hbl',_,hu',hc'⟩:=HW2.out.texts.at_ hlt
   have hkl:k2<texts.length:=by rw [HL2.out];exact hlt
   have hkl':k2<texts'.length:=by rw [HM2.out];exact hlt
   simp only [List.getElem?_map,List.getElem?_eq_getElem hkl,List.getElem?_eq_getElem hkl',Option.map_some,Option.some.injEq] at hu hu'
   subst hu
   subst hu'
   have HT:=qH (ZfP hkl hkl' HP2.out)
   have HN:=qH (ZlU hkl hkl')
   generalize texts[k2]=x at *
   generalize texts'[k2]=y at *
   by_cases hxy:x=y
   · subst hxy
     go_wp2_with fail
     go_quiet (fail)
     go_wp2
     go_roundw
     case rel=>exact ⟨k2+1,_,by omega,by go_num,rfl,qH (HT.out (by first | rfl | trivial))⟩
     case measure=>simp [intOf];omega
   have hxy':(x.toList==y.toList)=false:=by rw [beq_eq_false_iff_ne];exact fun hh=>hxy ((ZcX x y).1 hh)
   go_wp2_with fail
   go_quiet (fail)
   go_wp2
   go_ret
   refine ⟨Zbl ?_,(HS.out.drewN _).drewN _⟩
   rw [HB.out,decide_eq_false (HN.out hxy),Bool.and_false]
 obtain rfl:k2=n2:=by omega
 have HE2:=qH (show texts=texts' from by
  have hall:=HP2.out
  rwa [List.take_of_length_le (by rw [HL2.out];exact Nat.le_refl _),List.take_of_length_le (by rw [HM2.out];exact Nat.le_refl _)] at hall)
 go_wp2
 go_ret
 refine ⟨Zbl ?_,HS.out.drewN _⟩
 rw [HB.out,decide_eq_true HE.out,decide_eq_true HE2.out]
 rfl
section
variable {w0 wx:World} {g1 g2:Nat} {t1 t2:TypeId} {a0 a1 a2 a3 a4 b0 b1 b2 b3 b4:Value}
end
theorem ZpZ {w0:World} {E:Ending->Prop} {n:Nat} {args:Array Value} (h:∀ wx,Same w0 wx->Calls Tryz.prog n args wx fun x w'=>E x/\Same wx w') :
 ∀ wx,Same w0 wx->Calls Tryz.prog n args wx fun x w'=>E x/\Same w0 w':=fun wx hs=>(h wx hs).mono fun _ _ ⟨h1,h2⟩=>⟨h1,hs.same h2⟩
def Zbs {α β:Type} (f:α->β->Bool):List α->List β->Bool
 | [],[]=>true
 | x::l,y::m=>f x y && Zbs f l m
 | _,_=>false
def eqS (s t:ByteArray):Bool:=s.toList==t.toList
def Zdq (p q:GPr):Bool:=eqS p.key q.key && ZeU p.val q.val
def ZfQ (p q:ZaO):Bool:=decide (p.id=q.id) && Zbs eqS p.labels q.labels && Zbs Zdq p.props q.props
def Zef (p q:GRel):Bool:=decide (p.id=q.id) && eqS p.type q.type && decide (p.src=q.src) && decide (p.dst=q.dst) && Zbs Zdq p.props q.props
theorem ZdJ {α β:Type} {f:α->β->Bool}:∀ {l:List α} {m:List β},l.length≠m.length->Zbs f l m=false
 | [],[],h=>absurd rfl h
 | [],_::_,_=>rfl
 | _::_,[],_=>rfl
 | x::l,y::m,h=>by simp only [Zbs];rw [ZdJ (f:=f) (l:=l) (m:=m) (by intro e;exact h (by simp [e]))];simp
theorem ZdW {α β:Type} {f:α->β->Bool} {l:List α} {m:List β} {i:Nat} {x:α} {y:β} (hx:l[i]?=some x) (hy:m[i]?=some y):Zbs f (l.drop i) (m.drop i)=(f x y && Zbs f (l.drop (i+1)) (m.drop (i+1))):=by
 obtain ⟨hi,rfl⟩:=List.getElem?_eq_some_iff.1 hx
 obtain ⟨hj,rfl⟩:=List.getElem?_eq_some_iff.1 hy
 rw [List.drop_eq_getElem_cons hi,List.drop_eq_getElem_cons hj]
 rfl
theorem Zdg {α:Type} {f:α->α->Bool} (hf:∀ x y,f x y=true↔x=y):∀ (l m:List α),Zbs f l m=true↔l=m
 | [],[]=>by simp [Zbs]
 | [],_::_=>by simp [Zbs]
 | _::_,[]=>by simp [Zbs]
 | x::l,y::m=>by simp [Zbs,hf,Zdg hf l m]
theorem ZkS (s t:ByteArray):eqS s t=true↔s=t:=by
 unfold eqS
 rw [beq_iff_eq]
 exact ZcX s t
theorem ZhW (p q:GPr):Zdq p q=true↔p=q:=by
 obtain ⟨k,g⟩:=p
 obtain ⟨k',g'⟩:=q
 simp [Zdq,ZkS,Zob]
theorem ZmE (p q:ZaO):ZfQ p q=true↔p=q:=by
 obtain ⟨a,b,c⟩:=p
 obtain ⟨a',b',c'⟩:=q
 simp [ZfQ,Zdg ZkS,Zdg ZhW,and_assoc]
theorem ZmF (p q:GRel):Zef p q=true↔p=q:=by
 obtain ⟨a,b,c,d,e⟩:=p
 obtain ⟨a',b',c',d',e'⟩:=q
 simp [Zef,ZkS,Zdg ZhW,and_assoc]
def Zqa (a b:Zak):Bool:=Zbs ZfQ a.nodes b.nodes && Zbs Zef a.rels b.rels
theorem Zoc (a b:Zak):Zqa a b=true↔a=b:=by
 obtain ⟨n,r⟩:=a
 obtain ⟨n',r'⟩:=b
 simp [Zqa,Zdg ZmE,Zdg ZmF]
theorem Zhm {F F':Nat->Prop} {A A':Option Addr} {n c n' c':Nat} {ls ms:List ByteArray} (w:World) (h:WRow w F 1 A n c (ls.map Value.string)) (h':WRow w F' 1 A' n' c' (ms.map Value.string)) {r:Bool} (hr:Zbs eqS ls ms=r) :
 Calls Tryz.prog 33 #[.slice A n c,.slice A' n' c'] w fun e w'=>e=.returned (.bool r)/\Same w w':=by
 have HL:=qH (show ls.length=n from by have:=h.len;simpa using this)
 have HL':=qH (show ms.length=n' from by have:=h'.len;simpa using this)
 have hmx:=h.max
 have hle:=h.le
 have hmx':=h'.max
 have hle':=h'.le
 unfold maxLen at hmx hmx'
 have hn:n<=9223372036854775807:=by omega
 have hn':n'<=9223372036854775807:=by omega
 clear hmx hmx' hle hle'
 have HR:=qH h
 have HR':=qH h'
 have HE:=qH hr
 clear h h' hr
 by_cases hne:n=n'
 · subst hne
   go_enter Tryz.func33,Tryz.ntmps33
   go_wp2_with fail
   go_loopg [5] n (fun gh ix wr=>∃ k:Nat,n-k=gh/\k<=n/\ix=.int .i64 k/\Hid (Same w wr)/\Hid (Zbs eqS (ls.drop k) (ms.drop k)=r))
   case atStart=>exact ⟨0,rfl,Nat.zero_le _,rfl,qH (Upd.refl _ _),HE⟩
   obtain ⟨k,rfl,hk,rfl,KS,KE⟩:=hrel
   by_cases hlt:k<n
   · obtain ⟨b,o,u,rfl,hb,_,hu,r0⟩:=(HR.out.same KS.out).at_ hlt
     obtain ⟨b',o',u',rfl,hb',_,hu',r0'⟩:=(HR'.out.same KS.out).at_ hlt
     obtain ⟨x,hx⟩:∃ x,ls[k]?=some x:=⟨_,List.getElem?_eq_getElem (by rw [HL.out];exact hlt)⟩
     obtain ⟨y,hy⟩:∃ y,ms[k]?=some y:=⟨_,List.getElem?_eq_getElem (by rw [HL'.out];exact hlt)⟩
     rw [List.getElem?_map,hx] at hu
     rw [List.getElem?_map,hy] at hu'
     cases hu
     cases hu'
     have hke:=KE.out
     rw [ZdW hx hy] at hke
     cases hs:eqS x y with
     | false =>
       rw [hs,Bool.false_and] at hke
       subst hke
       have hk1:(x.toList==y.toList)=false:=hs
       have hkk:(!(x.toList==y.toList))=true:=by rw [hk1];rfl
       clear hx hy hs
       go_wp2_with fail
       go_quiet (fail)
       go_wp2
       go_ret
       exact ⟨rfl,KS.out.drewN _⟩
     | true =>
       rw [hs,Bool.true_and] at hke
       have HK:=qH hke
       have hk1:(x.toList==y.toList)=true:=hs
       have hkk:(!(x.toList==y.toList))=false:=by rw [hk1];rfl
       clear hx hy hs hke
       go_wp2_with fail
       go_quiet (fail)
       go_wp2
       go_roundg (n-(k+1))
       case measure=>omega
       case rel=>exact ⟨k+1,rfl,by omega,by go_num,qH (KS.out.drewN _),HK⟩
   have hke:=KE.out
   rw [List.drop_of_length_le (by rw [HL.out];omega),List.drop_of_length_le (by rw [HL'.out];omega)] at hke
   simp only [Zbs] at hke
   subst hke
   go_wp2
   go_ret
   exact ⟨rfl,KS.out⟩
 have hne':((n:Int) != (n':Int))=true:=by rw [bne_iff_ne];omega
 have hk:=HE.out
 rw [ZdJ (by rw [HL.out,HL'.out];exact hne)] at hk
 subst hk
 clear hne
 go_enter Tryz.func33,Tryz.ntmps33
 go_wp2
 go_ret
 exact ⟨rfl,Upd.refl _ _⟩
theorem ZkT {w wx:World} {b p b' p':Nat} {k a0 a1 a2 a3 a4 k' a0' a1' a2' a3' a4':Value} (h:Hid (PrAt w b p k a0 a1 a2 a3 a4)) (h':Hid (PrAt w b' p' k' a0' a1' a2' a3' a4')) (hb:b<w.heap.size) (hb':b'<w.heap.size) (hs:Same w wx) :
 Same w wx/\PrAt wx b p k a0 a1 a2 a3 a4/\PrAt wx b' p' k' a0' a1' a2' a3' a4':=⟨hs,h.out.same hb hs,h'.out.same hb' hs⟩
theorem ZdK {F F':Nat->Prop} {A A':Option Addr} {n c n' c':Nat} {ls ms:List PR} (w:World) (h:RdPs w F A n c ls) (h':RdPs w F' A' n' c' ms) {r:Bool} (hr:Zbs Zdq (ls.map PR.dat) (ms.map PR.dat)=r) :
 Calls Tryz.prog 34 #[.slice A n c,.slice A' n' c'] w fun e w'=>e=.returned (.bool r)/\Same w w':=by
 have HL:=qH h.len
 have HL':=qH h'.len
 have hmx:=h.row.max
 have hle:=h.row.le
 have hmx':=h'.row.max
 have hle':=h'.row.le
 unfold maxLen at hmx hmx'
 have hn:n<=9223372036854775807:=by omega
 have hn':n'<=9223372036854775807:=by omega
 clear hmx hmx' hle hle'
 have HR:=qH h
 have HR':=qH h'
 have HE:=qH hr
 clear h h' hr
 by_cases hne:n=n'
 · subst hne
   go_enter Tryz.func34,Tryz.ntmps34
   go_wp2_with fail
   go_loopg [5] n (fun gh ix wr=>∃ k:Nat,n-k=gh/\k<=n/\ix=.int .i64 k/\Hid (Same w wr)/\Hid (Zbs Zdq ((ls.map PR.dat).drop k) ((ms.map PR.dat).drop k)=r))
   case atStart=>exact ⟨0,rfl,Nat.zero_le _,rfl,qH (Upd.refl _ _),HE⟩
   obtain ⟨k,rfl,hk,rfl,KS,KE⟩:=hrel
   by_cases hlt:k<n
   · obtain ⟨b,o,x,rfl,hb,_,hx,hxm,r0,r1,r2,r3,r4,r5⟩:=(HR.out.same KS.out).at_ hlt
     obtain ⟨b',o',y,rfl,hb',_,hy,hym,q0,q1,q2,q3,q4,q5⟩:=(HR'.out.same KS.out).at_ hlt
     have hke:=KE.out
     rw [ZdW (f:=Zdq) (x:=x.dat) (y:=y.dat) (by rw [List.getElem?_map,hx];rfl) (by rw [List.getElem?_map,hy];rfl)] at hke
     have HVx:=qH ((HR.out.val x hxm).mono (F':=fun _=>True) fun _ _ _=>trivial)
     have HVy:=qH ((HR'.out.val y hym).mono (F':=fun _=>True) fun _ _ _=>trivial)
     clear hx hy hxm hym
     obtain ⟨kx,⟨x0,x1,x2,x3,x4⟩,X1,a1,b1,X2,a2,b2⟩:=x
     obtain ⟨ky,⟨y0,y1,y2,y3,y4⟩,Y1,d1,e1,Y2,d2,e2⟩:=y
     simp only at r0 r1 r2 r3 r4 r5 q0 q1 q2 q3 q4 q5
     have HP:=qH (show PrAt wr b (o+k*6) (.string kx) (.int .i64 x0) (.int .i64 x1) (.string x2) (.slice X1 a1 b1) (.slice X2 a2 b2) from ⟨r0,r1,r2,r3,r4,r5⟩)
     have HQ2:=qH (show PrAt wr b' (o'+k*6) (.string ky) (.int .i64 y0) (.int .i64 y1) (.string y2) (.slice Y1 d1 e1) (.slice Y2 d2 e2) from ⟨q0,q1,q2,q3,q4,q5⟩)
     clear r0 r1 r2 r3 r4 r5 q0 q1 q2 q3 q4 q5
     replace hke:((kx.toList==ky.toList && ZeU ⟨x0,x1,x2,x3,x4⟩ ⟨y0,y1,y2,y3,y4⟩) && Zbs Zdq ((ls.map PR.dat).drop (k+1)) ((ms.map PR.dat).drop (k+1)))=r:=hke
     cases hs:(kx.toList==ky.toList) with
     | false =>
       rw [hs,Bool.false_and,Bool.false_and] at hke
       subst hke
       have hkk:(!(kx.toList==ky.toList))=true:=by rw [hs];rfl
       obtain ⟨p0,_,_,_,_,_⟩:=HP.out
       obtain ⟨q0,_,_,_,_,_⟩:=HQ2.out
       go_wp2_with fail
       go_quiet (fail)
       go_wp2
       go_ret
       exact ⟨rfl,KS.out.drewN _⟩
     | true =>
       rw [hs,Bool.true_and] at hke
       have hkk:(!(kx.toList==ky.toList))=false:=by rw [hs];rfl
       obtain ⟨sb,hsb⟩:∃ sb,ZeU ⟨x0,x1,x2,x3,x4⟩ ⟨y0,y1,y2,y3,y4⟩=sb:=⟨_,rfl⟩
       rw [hsb] at hke
       have HK:=qH hke
       have HSB:=qH hsb
       have HVx2:=qH (HVx.out.same KS.out)
       have HVy2:=qH (HVy.out.same KS.out)
       have HS:=qH (ZpZ fun wx hs=>ZmD wx (HVx2.out.same hs) (HVy2.out.same hs))
       simp only at HS
       rw [hsb] at HS
       clear hke hsb HVx HVy
       go_upto_region 6 with fail
       have h00:Same wr wr.drew:=(Upd.refl _ wr).drew
       go_region_held3 (fun wx=>Same wr wx/\PrAt wx b (o+k*6) (.string kx) (.int .i64 x0) (.int .i64 x1) (.string x2) (.slice X1 a1 b1) (.slice X2 a2 b2)/\PrAt wx b' (o'+k*6) (.string ky) (.int .i64 y0) (.int .i64 y1) (.string y2) (.slice Y1 d1 e1) (.slice Y2 d2 e2)) (exact ZkT HP HQ2 hb hb' (by assumption)) (first
        | (go_at_call 62;refine (HS.out _ (by assumption)).mono ?_;rintro e w' ⟨rfl,hs⟩))
       all_goals
        cases sb with
        | true =>
          have hke:=HK.out
          rw [Bool.true_and] at hke
          have HK2:=qH hke
          clear hke
          go_wp2
          go_roundg (n-(k+1))
          case measure=>omega
          case rel=>exact ⟨k+1,rfl,by omega,by go_num,qH (KS.out.same (by assumption)),HK2⟩
        | false =>
          have hke:=HK.out
          rw [Bool.false_and] at hke
          subst hke
          go_wp2
          go_ret
          exact ⟨rfl,KS.out.same (by assumption)⟩
   have hke:=KE.out
   rw [List.drop_of_length_le (by rw [List.length_map,HL.out];omega),List.drop_of_length_le (by rw [List.length_map,HL'.out];omega)] at hke
   simp only [Zbs] at hke
   subst hke
   go_wp2
   go_ret
   exact ⟨rfl,KS.out⟩
 have hne':((n:Int) != (n':Int))=true:=by rw [bne_iff_ne];omega
 have hk:=HE.out
 rw [ZdJ (by rw [List.length_map,List.length_map,HL.out,HL'.out];exact hne)] at hk
 subst hk
 clear hne
 go_enter Tryz.func34,Tryz.ntmps34
 go_wp2
 go_ret
 exact ⟨rfl,Upd.refl _ _⟩
theorem ZqC {w wx:World} {ga gb b p b' p':Nat} {t:TypeId} {va vb x0 x1 x2 y0 y1 y2 ua ub:Value} (ha:Hid (Blk w ga t #[va,ua])) (hb:Hid (Blk w gb t #[vb,ub])) (hx:Hid (w.cell? ⟨b,p,none⟩=some x0/\w.cell? ⟨b,p+1,none⟩=some x1/\w.cell? ⟨b,p+2,none⟩=some x2)) (hy:Hid (w.cell? ⟨b',p',none⟩=some y0/\w.cell? ⟨b',p'+1,none⟩=some y1/\w.cell? ⟨b',p'+2,none⟩=some y2))
 (hbl:b<w.heap.size) (hbl':b'<w.heap.size) (hs:Same w wx) :
 Same w wx/\wx.cell? ⟨ga,0,none⟩=some va/\wx.cell? ⟨gb,0,none⟩=some vb/\(wx.cell? ⟨b,p,none⟩=some x0/\wx.cell? ⟨b,p+1,none⟩=some x1/\wx.cell? ⟨b,p+2,none⟩=some x2)/\(wx.cell? ⟨b',p',none⟩=some y0/\wx.cell? ⟨b',p'+1,none⟩=some y1/\wx.cell? ⟨b',p'+2,none⟩=some y2):=by
 have hk:∀ b o,b<w.heap.size->wx.cell? ⟨b,o,none⟩=w.cell? ⟨b,o,none⟩:=fun b o h=>hs.cell (p:=⟨b,o,none⟩) h fun f=>f
 refine ⟨hs,(ha.out.same hs).cell 0,(hb.out.same hs).cell 0,?_,?_⟩
 · rw [hk _ _ hbl,hk _ _ hbl,hk _ _ hbl];exact hx.out
 rw [hk _ _ hbl',hk _ _ hbl',hk _ _ hbl'];exact hy.out
theorem ZqD {w wx:World} {ga gb b p b' p':Nat} {t:TypeId} {va vb x0 x1 x2 x3 x4 y0 y1 y2 y3 y4 ua ub:Value} (ha:Hid (Blk w ga t #[ua,va])) (hb:Hid (Blk w gb t #[ub,vb]))
 (hx:Hid (w.cell? ⟨b,p,none⟩=some x0/\w.cell? ⟨b,p+1,none⟩=some x1/\w.cell? ⟨b,p+2,none⟩=some x2/\w.cell? ⟨b,p+3,none⟩=some x3/\w.cell? ⟨b,p+4,none⟩=some x4))
 (hy:Hid (w.cell? ⟨b',p',none⟩=some y0/\w.cell? ⟨b',p'+1,none⟩=some y1/\w.cell? ⟨b',p'+2,none⟩=some y2/\w.cell? ⟨b',p'+3,none⟩=some y3/\w.cell? ⟨b',p'+4,none⟩=some y4))
 (hbl:b<w.heap.size) (hbl':b'<w.heap.size) (hs:Same w wx) :
 Same w wx/\wx.cell? ⟨ga,1,none⟩=some va/\wx.cell? ⟨gb,1,none⟩=some vb/\(wx.cell? ⟨b,p,none⟩=some x0/\wx.cell? ⟨b,p+1,none⟩=some x1/\wx.cell? ⟨b,p+2,none⟩=some x2/\wx.cell? ⟨b,p+3,none⟩=some x3/\wx.cell? ⟨b,p+4,none⟩=some x4) /\
  (wx.cell? ⟨b',p',none⟩=some y0/\wx.cell? ⟨b',p'+1,none⟩=some y1/\wx.cell? ⟨b',p'+2,none⟩=some y2/\wx.cell? ⟨b',p'+3,none⟩=some y3/\wx.cell? ⟨b',p'+4,none⟩=some y4):=by
 have hk:∀ b o,b<w.heap.size->wx.cell? ⟨b,o,none⟩=w.cell? ⟨b,o,none⟩:=fun b o h=>hs.cell (p:=⟨b,o,none⟩) h fun f=>f
 refine ⟨hs,(ha.out.same hs).cell 1,(hb.out.same hs).cell 1,?_,?_⟩
 · rw [hk _ _ hbl,hk _ _ hbl,hk _ _ hbl,hk _ _ hbl,hk _ _ hbl];exact hx.out
 rw [hk _ _ hbl',hk _ _ hbl',hk _ _ hbl',hk _ _ hbl',hk _ _ hbl'];exact hy.out
theorem ZlV (w:World) (o:Obj) (t:TypeId) (cs:Array Value):Blk ((w.alloc o).alloc (.cells cs t)) (w.heap.size+1) t cs:=by
 have h:=Blk.new (w.alloc o) t cs
 rwa [World.size_alloc] at h
theorem ZkU {F F':Nat->Prop} (w:World) (g g':GR) (h:RdG w F g) (h':RdG w F' g') {r:Bool} (hr:Zqa g.dat g'.dat=r) :
 Calls Tryz.prog 17 #[g.agg,g'.agg] w fun e w'=>e=.returned (.bool r)/\Same w w':=by
 obtain ⟨ns,AN,nN,cN,rs,AR,nR,cR⟩:=g
 obtain ⟨ns',AN',nN',cN',rs',AR',nR',cR'⟩:=g'
 replace hr:(Zbs ZfQ (ns.map ND.dat) (ns'.map ND.dat) && Zbs Zef (rs.map RL.dat) (rs'.map RL.dat))=r:=hr
 have hs1:=(Upd.refl (fun _=>False) w).alloc (.cells #[.slice AN nN cN,.slice AR nR cR] 26)
 have hs2:=hs1.alloc (.cells #[.slice AN' nN' cN',.slice AR' nR' cR'] 26)
 have hb1:=(Blk.new w 26 #[.slice AN nN cN,.slice AR nR cR]).alloc (.cells #[.slice AN' nN' cN',.slice AR' nR' cR'] 26)
 have hb2:=Blk.new (w.alloc (.cells #[.slice AN nN cN,.slice AR nR cR] 26)) 26 #[.slice AN' nN' cN',.slice AR' nR' cR']
 rw [World.size_alloc] at hb2
 have HN:=qH (h.nodes.mono (F':=fun _=>True) fun _ _ _=>trivial)
 have HN':=qH (h'.nodes.mono (F':=fun _=>True) fun _ _ _=>trivial)
 have HR:=qH (h.rels.mono (F':=fun _=>True) fun _ _ _=>trivial)
 have HR':=qH (h'.rels.mono (F':=fun _=>True) fun _ _ _=>trivial)
 simp only at HN HN' HR HR'
 have HL:=qH HN.out.len
 have HL':=qH HN'.out.len
 have HM:=qH HR.out.len
 have HM':=qH HR'.out.len
 have m1:=HN.out.row.max
 have m2:=HN.out.row.le
 have m3:=HN'.out.row.max
 have m4:=HN'.out.row.le
 have m5:=HR.out.row.max
 have m6:=HR.out.row.le
 have m7:=HR'.out.row.max
 have m8:=HR'.out.row.le
 unfold maxLen at m1 m3 m5 m7
 have hn1:nN<=9223372036854775807:=by omega
 have hn2:nN'<=9223372036854775807:=by omega
 have hn3:nR<=9223372036854775807:=by omega
 have hn4:nR'<=9223372036854775807:=by omega
 clear m1 m2 m3 m4 m5 m6 m7 m8
 have HE:=qH hr
 have HS0:=qH hs2
 have HB1:=qH hb1
 have HB2:=qH hb2
 clear h h' hs1 hs2 hb1 hb2 hr
 by_cases hne:nN=nN'
 · subst hne
   by_cases hne2:nR=nR'
   · subst hne2
     go_enter Tryz.func17,Tryz.ntmps17
     go_wp2_with fail
     generalize (w.alloc (.cells #[.slice AN nN cN,.slice AR nR cR] 26)).alloc (.cells #[.slice AN' nN cN',.slice AR' nR cR'] 26)=w1 at *
     go_loopg [5] nN (fun gh ix wr=>∃ i:Nat,nN-i=gh/\i<=nN/\ix=.int .i64 i/\Hid (Same w wr)/\Hid (Blk wr w.heap.size 26 #[.slice AN nN cN,.slice AR nR cR])/\Hid (Blk wr (w.heap.size+1) 26 #[.slice AN' nN cN',.slice AR' nR cR']) /\
      Hid ((Zbs ZfQ ((ns.map ND.dat).drop i) ((ns'.map ND.dat).drop i) && Zbs Zef (rs.map RL.dat) (rs'.map RL.dat))=r))
     case atStart=>exact ⟨0,rfl,Nat.zero_le _,rfl,HS0,HB1,HB2,HE⟩
     clear HS0 HB1 HB2 HE
     obtain ⟨i,rfl,hi,rfl,KS,KB1,KB2,KE⟩:=hrel
     have p1:wr.cell? ⟨w.heap.size,0,none⟩=some (.slice AN nN cN):=KB1.out.cell 0
     by_cases hlt:i<nN
     · obtain ⟨b,o,x,rfl,hb,_,hx,hxm,r0,r1,r2⟩:=(HN.out.same KS.out).at_ hlt
       obtain ⟨b',o',y,rfl,hb',_,hy,hym,q0,q1,q2⟩:=(HN'.out.same KS.out).at_ hlt
       have hke:=KE.out
       rw [ZdW (f:=ZfQ) (x:=x.dat) (y:=y.dat) (by rw [List.getElem?_map,hx];rfl) (by rw [List.getElem?_map,hy];rfl)] at hke
       have HLx:=qH ((HN.out.same KS.out).lab x hxm)
       have HLy:=qH ((HN'.out.same KS.out).lab y hym)
       have HPx:=qH ((HN.out.same KS.out).pro x hxm)
       have HPy:=qH ((HN'.out.same KS.out).pro y hym)
       clear hx hy hxm hym
       obtain ⟨ix,lx,ALx,nLx,cLx,psx,APx,nPx,cPx⟩:=x
       obtain ⟨iy,ly,ALy,nLy,cLy,psy,APy,nPy,cPy⟩:=y
       simp only at r0 r1 r2 q0 q1 q2
       have HX:=qH (And.intro r0 (And.intro r1 r2))
       have HY:=qH (And.intro q0 (And.intro q1 q2))
       have HK:=qH hke
       clear hke r0 r1 r2 q0 q1 q2 KE
       go_upto_region 6 with fail
       clear p1
       have h00:Same wr wr.drew:=(Upd.refl _ wr).drew
       go_cut [6,7] from 34 to 64 (fun s6 s7 wx=>∃ g6 g7:Nat,s6=.pointer (some ⟨g6,0,none⟩)/\s7=.pointer (some ⟨g7,0,none⟩)/\Hid (Blk wx g6 43 #[.int .i64 ix,.slice ALx nLx cLx,.slice APx nPx cPx])/\Hid (Blk wx g7 43 #[.int .i64 iy,.slice ALy nLy cLy,.slice APy nPy cPy])/\Hid (Same wr wx))
       case first =>
        go_region_held3 (fun wx=>Same wr wx/\wx.cell? ⟨w.heap.size,0,none⟩=some (.slice (some ⟨b,o,none⟩) nN cN)/\wx.cell? ⟨w.heap.size+1,0,none⟩=some (.slice (some ⟨b',o',none⟩) nN cN')/\(wx.cell? ⟨b,o+i*3,none⟩=some (.int .i64 ix)/\wx.cell? ⟨b,o+i*3+1,none⟩=some (.slice ALx nLx cLx)/\wx.cell? ⟨b,o+i*3+2,none⟩=some (.slice APx nPx cPx)) /\
         (wx.cell? ⟨b',o'+i*3,none⟩=some (.int .i64 iy)/\wx.cell? ⟨b',o'+i*3+1,none⟩=some (.slice ALy nLy cLy)/\wx.cell? ⟨b',o'+i*3+2,none⟩=some (.slice APy nPy cPy))) (exact ZqC KB1 KB2 HX HY hb hb' (by repeat (first | assumption | exact Upd.refl _ _ | refine Upd.drew ?_ | refine Upd.alloc ?_ _))) (fail)
        all_goals go_wp2
        all_goals go_meet
        all_goals refine ⟨_,_,rfl,rfl,qH ?_,qH ?_,qH (((Upd.refl _ wr).alloc _).alloc _).drew⟩
        all_goals first
         | exact ((Blk.new _ _ _).alloc _).drew
         | exact (ZlV _ _ _ _).drew
       obtain ⟨g6,g7,rfl,rfl,JB6,JB7,JS⟩:=hcut
       have k0:wc.cell? ⟨g6,0,none⟩=some (.int .i64 ix):=JB6.out.cell 0
       have k1:wc.cell? ⟨g6,1,none⟩=some (.slice ALx nLx cLx):=JB6.out.cell 1
       have l0:wc.cell? ⟨g7,0,none⟩=some (.int .i64 iy):=JB7.out.cell 0
       have l1:wc.cell? ⟨g7,1,none⟩=some (.slice ALy nLy cLy):=JB7.out.cell 1
       have HK2:=qH (show (((decide (ix=iy) && Zbs eqS lx ly) && Zbs Zdq (psx.map PR.dat) (psy.map PR.dat)) && Zbs ZfQ ((ns.map ND.dat).drop (i+1)) ((ns'.map ND.dat).drop (i+1)) && Zbs Zef (rs.map RL.dat) (rs'.map RL.dat))=r from HK.out)
       clear HK h00
       by_cases hid:ix=iy
       · subst hid
         obtain ⟨q1,hq1⟩:∃ q1,Zbs eqS lx ly=q1:=⟨_,rfl⟩
         have hkk:=HK2.out
         rw [decide_eq_true rfl,Bool.true_and,hq1] at hkk
         have HQ1:=qH hq1
         have HK3:=qH hkk
         clear hkk hq1 HK2
         go_wp2_with fail
         refine (Zhm wc (HLx.out.same JS.out) (HLy.out.same JS.out) HQ1.out).mono ?_
         rintro e w8 ⟨rfl,hs8⟩
         have JS8:=qH (JS.out.same hs8)
         have m2:w8.cell? ⟨g6,2,none⟩=some (.slice APx nPx cPx):=(JB6.out.same hs8).cell 2
         have m3:w8.cell? ⟨g7,2,none⟩=some (.slice APy nPy cPy):=(JB7.out.same hs8).cell 2
         clear k0 k1 l0 l1 hs8 JS
         cases q1 with
         | false =>
           have hkk:=HK3.out
           simp only [Bool.false_and] at hkk
           subst hkk
           go_wp2
           go_ret
           exact ⟨rfl,KS.out.same JS8.out⟩
         | true =>
           obtain ⟨q2,hq2⟩:∃ q2,Zbs Zdq (psx.map PR.dat) (psy.map PR.dat)=q2:=⟨_,rfl⟩
           have hkk:=HK3.out
           rw [Bool.true_and,hq2] at hkk
           have HQ2:=qH hq2
           have HK4:=qH hkk
           clear hkk hq2 HK3
           go_wp2_with fail
           refine (ZdK w8 (HPx.out.same JS8.out) (HPy.out.same JS8.out) HQ2.out).mono ?_
           rintro e w9 ⟨rfl,hs9⟩
           have JS9:=qH (JS8.out.same hs9)
           clear hs9 JS8 m2 m3
           cases q2 with
           | false =>
             have hkk:=HK4.out
             simp only [Bool.false_and] at hkk
             subst hkk
             go_wp2
             go_ret
             exact ⟨rfl,KS.out.same JS9.out⟩
           | true =>
             have hkk:=HK4.out
             rw [Bool.true_and] at hkk
             have HK5:=qH hkk
             clear hkk HK4
             go_wp2
             go_roundg (nN-(i+1))
             case measure=>omega
             case rel=>exact ⟨i+1,rfl,by omega,by go_num,qH (KS.out.same JS9.out),qH (KB1.out.same JS9.out),qH (KB2.out.same JS9.out),HK5⟩
       have hkk:=HK2.out
       rw [decide_eq_false hid] at hkk
       simp only [Bool.false_and] at hkk
       subst hkk
       have hne':((ix:Int) != iy)=true:=by rw [bne_iff_ne];exact hid
       clear HK2 hid
       go_wp2
       go_ret
       exact ⟨rfl,KS.out.same JS.out⟩
     have hin:i=nN:=by omega
     subst hin
     have hkk:=KE.out
     rw [List.drop_of_length_le (by rw [List.length_map,HL.out];exact Nat.le_refl _),List.drop_of_length_le (by rw [List.length_map,HL'.out];exact Nat.le_refl _)] at hkk
     simp only [Zbs,Bool.true_and] at hkk
     have HK:=qH hkk
     clear hkk KE hlt
     obtain ⟨wo,rfl⟩:∃ wo:World,wo=wr:=⟨_,rfl⟩
     go_wp2_with fail
     clear p1
     go_loopg [8] nR (fun gh ix wr=>∃ j:Nat,nR-j=gh/\j<=nR/\ix=.int .i64 j/\Hid (Same w wr)/\Hid (Blk wr w.heap.size 26 #[.slice AN i cN,.slice AR nR cR])/\Hid (Blk wr (w.heap.size+1) 26 #[.slice AN' i cN',.slice AR' nR cR']) /\
      Hid (Zbs Zef ((rs.map RL.dat).drop j) ((rs'.map RL.dat).drop j)=r))
     case atStart=>exact ⟨0,rfl,Nat.zero_le _,rfl,KS,KB1,KB2,HK⟩
     clear KS KB1 KB2 HK
     obtain ⟨j,rfl,hj,rfl,KS,KB1,KB2,KE⟩:=hrel
     have p1:wr.cell? ⟨w.heap.size,1,none⟩=some (.slice AR nR cR):=KB1.out.cell 1
     by_cases hlt:j<nR
     · obtain ⟨b,o,x,rfl,hb,_,hx,hxm,r0,r1,r2,r3,r4⟩:=(HR.out.same KS.out).at_ hlt
       obtain ⟨b',o',y,rfl,hb',_,hy,hym,q0,q1,q2,q3,q4⟩:=(HR'.out.same KS.out).at_ hlt
       have hke:=KE.out
       rw [ZdW (f:=Zef) (x:=x.dat) (y:=y.dat) (by rw [List.getElem?_map,hx];rfl) (by rw [List.getElem?_map,hy];rfl)] at hke
       have HPx:=qH ((HR.out.same KS.out).pro x hxm)
       have HPy:=qH ((HR'.out.same KS.out).pro y hym)
       clear hx hy hxm hym
       obtain ⟨ix,tx,sx,dx,psx,APx,nPx,cPx⟩:=x
       obtain ⟨iy,ty,sy,dy,psy,APy,nPy,cPy⟩:=y
       simp only at r0 r1 r2 r3 r4 q0 q1 q2 q3 q4
       have HX:=qH (And.intro r0 (And.intro r1 (And.intro r2 (And.intro r3 r4))))
       have HY:=qH (And.intro q0 (And.intro q1 (And.intro q2 (And.intro q3 q4))))
       have HK:=qH hke
       clear hke r0 r1 r2 r3 r4 q0 q1 q2 q3 q4 KE
       go_upto_region 12 with fail
       clear p1
       have h00:Same wr wr.drew:=(Upd.refl _ wr).drew
       go_cut [9,10] from 72 to 115 (fun s6 s7 wx=>∃ g6 g7:Nat,s6=.pointer (some ⟨g6,0,none⟩)/\s7=.pointer (some ⟨g7,0,none⟩)/\Hid (Blk wx g6 50 #[.int .i64 ix,.string tx,.int .i64 sx,.int .i64 dx,.slice APx nPx cPx])/\Hid (Blk wx g7 50 #[.int .i64 iy,.string ty,.int .i64 sy,.int .i64 dy,.slice APy nPy cPy])/\Hid (Same wr wx))
       case first =>
        go_region_held3 (fun wx=>Same wr wx/\wx.cell? ⟨w.heap.size,1,none⟩=some (.slice (some ⟨b,o,none⟩) nR cR)/\wx.cell? ⟨w.heap.size+1,1,none⟩=some (.slice (some ⟨b',o',none⟩) nR cR') /\
         (wx.cell? ⟨b,o+j*5,none⟩=some (.int .i64 ix)/\wx.cell? ⟨b,o+j*5+1,none⟩=some (.string tx)/\wx.cell? ⟨b,o+j*5+2,none⟩=some (.int .i64 sx)/\wx.cell? ⟨b,o+j*5+3,none⟩=some (.int .i64 dx)/\wx.cell? ⟨b,o+j*5+4,none⟩=some (.slice APx nPx cPx)) /\
         (wx.cell? ⟨b',o'+j*5,none⟩=some (.int .i64 iy)/\wx.cell? ⟨b',o'+j*5+1,none⟩=some (.string ty)/\wx.cell? ⟨b',o'+j*5+2,none⟩=some (.int .i64 sy)/\wx.cell? ⟨b',o'+j*5+3,none⟩=some (.int .i64 dy)/\wx.cell? ⟨b',o'+j*5+4,none⟩=some (.slice APy nPy cPy))) (exact ZqD KB1 KB2 HX HY hb hb' (by repeat (first | assumption | exact Upd.refl _ _ | refine Upd.drew ?_ | refine Upd.alloc ?_ _))) (fail)
        all_goals go_wp2
        all_goals go_meet
        all_goals refine ⟨_,_,rfl,rfl,qH ?_,qH ?_,qH (((Upd.refl _ wr).alloc _).alloc _).drew⟩
        all_goals first
         | exact ((Blk.new _ _ _).alloc _).drew
         | exact (ZlV _ _ _ _).drew
       obtain ⟨g6,g7,rfl,rfl,JB6,JB7,JS⟩:=hcut
       have k0:wc.cell? ⟨g6,0,none⟩=some (.int .i64 ix):=JB6.out.cell 0
       have k1:wc.cell? ⟨g6,1,none⟩=some (.string tx):=JB6.out.cell 1
       have k2:wc.cell? ⟨g6,2,none⟩=some (.int .i64 sx):=JB6.out.cell 2
       have k3:wc.cell? ⟨g6,3,none⟩=some (.int .i64 dx):=JB6.out.cell 3
       have k4:wc.cell? ⟨g6,4,none⟩=some (.slice APx nPx cPx):=JB6.out.cell 4
       have l0:wc.cell? ⟨g7,0,none⟩=some (.int .i64 iy):=JB7.out.cell 0
       have l1:wc.cell? ⟨g7,1,none⟩=some (.string ty):=JB7.out.cell 1
       have l2:wc.cell? ⟨g7,2,none⟩=some (.int .i64 sy):=JB7.out.cell 2
       have l3:wc.cell? ⟨g7,3,none⟩=some (.int .i64 dy):=JB7.out.cell 3
       have l4:wc.cell? ⟨g7,4,none⟩=some (.slice APy nPy cPy):=JB7.out.cell 4
       have HK2:=qH (show ((((decide (ix=iy) && (tx.toList==ty.toList)) && decide (sx=sy)) && decide (dx=dy)) && Zbs Zdq (psx.map PR.dat) (psy.map PR.dat) && Zbs Zef ((rs.map RL.dat).drop (j+1)) ((rs'.map RL.dat).drop (j+1)))=r from HK.out)
       clear HK h00
       by_cases hid:ix=iy
       · subst hid
         cases htt:(tx.toList==ty.toList) with
         | false =>
           have hkk:=HK2.out
           simp only [htt,decide_true,Bool.true_and,Bool.false_and] at hkk
           subst hkk
           have ht2:(!(tx.toList==ty.toList))=true:=by rw [htt];rfl
           clear HK2
           go_wp2
           go_ret
           exact ⟨rfl,KS.out.same JS.out⟩
         | true =>
           have ht2:(!(tx.toList==ty.toList))=false:=by rw [htt];rfl
           by_cases hsd:sx=sy
           · subst hsd
             by_cases hdd:dx=dy
             · subst hdd
               obtain ⟨q2,hq2⟩:∃ q2,Zbs Zdq (psx.map PR.dat) (psy.map PR.dat)=q2:=⟨_,rfl⟩
               have hkk:=HK2.out
               simp only [htt,decide_true,Bool.true_and,hq2] at hkk
               have HQ2:=qH hq2
               have HK4:=qH hkk
               clear hkk hq2 HK2
               go_wp2_with fail
               refine (ZdK wc (HPx.out.same JS.out) (HPy.out.same JS.out) HQ2.out).mono ?_
               rintro e w9 ⟨rfl,hs9⟩
               have JS9:=qH (JS.out.same hs9)
               clear hs9 k0 k1 k2 k3 k4 l0 l1 l2 l3 l4 JS
               cases q2 with
               | false =>
                 have hkk:=HK4.out
                 simp only [Bool.false_and] at hkk
                 subst hkk
                 go_wp2
                 go_ret
                 exact ⟨rfl,KS.out.same JS9.out⟩
               | true =>
                 have hkk:=HK4.out
                 rw [Bool.true_and] at hkk
                 have HK5:=qH hkk
                 clear hkk HK4
                 go_wp2
                 go_roundg (nR-(j+1))
                 case measure=>omega
                 case rel=>exact ⟨j+1,rfl,by omega,by go_num,qH (KS.out.same JS9.out),qH (KB1.out.same JS9.out),qH (KB2.out.same JS9.out),HK5⟩
             have hkk:=HK2.out
             simp only [decide_eq_false hdd,Bool.and_false,Bool.false_and] at hkk
             subst hkk
             have hne':((dx:Int) != dy)=true:=by rw [bne_iff_ne];exact hdd
             clear HK2 hdd
             go_wp2
             go_ret
             exact ⟨rfl,KS.out.same JS.out⟩
           have hkk:=HK2.out
           simp only [decide_eq_false hsd,Bool.and_false,Bool.false_and] at hkk
           subst hkk
           have hne':((sx:Int) != sy)=true:=by rw [bne_iff_ne];exact hsd
           clear HK2 hsd
           go_wp2
           go_ret
           exact ⟨rfl,KS.out.same JS.out⟩
       have hkk:=HK2.out
       rw [decide_eq_false hid] at hkk
       simp only [Bool.false_and] at hkk
       subst hkk
       have hne':((ix:Int) != iy)=true:=by rw [bne_iff_ne];exact hid
       clear HK2 hid
       go_wp2
       go_ret
       exact ⟨rfl,KS.out.same JS.out⟩
     have hkk:=KE.out
     rw [List.drop_of_length_le (by rw [List.length_map,HM.out];omega),List.drop_of_length_le (by rw [List.length_map,HM'.out];omega)] at hkk
     simp only [Zbs] at hkk
     subst hkk
     go_wp2
     go_ret
     exact ⟨rfl,KS.out⟩
   have hne':((nR:Int) != (nR':Int))=true:=by rw [bne_iff_ne];omega
   have hk:=HE.out
   rw [ZdJ (f:=Zef) (by rw [List.length_map,List.length_map,HM.out,HM'.out];exact hne2),Bool.and_false] at hk
   subst hk
   clear hne2
   go_enter Tryz.func17,Tryz.ntmps17
   go_wp2
   go_ret
   exact ⟨rfl,HS0.out⟩
 have hne':((nN:Int) != (nN':Int))=true:=by rw [bne_iff_ne];omega
 have hk:=HE.out
 rw [ZdJ (f:=ZfQ) (by rw [List.length_map,List.length_map,HL.out,HL'.out];exact hne),Bool.false_and] at hk
 subst hk
 clear hne
 go_enter Tryz.func17,Tryz.ntmps17
 go_wp2
 go_ret
 exact ⟨rfl,HS0.out⟩
def ZlW (G:Zak) (w:World) (e:Ending) (w':World):Prop :=
 ∃ v,e=.returned (.tuple #[v,.int .i64 (chkP G).1])/\OwnB w' w.heap.size v (pcsP G).flatten/\Same w w'
theorem ZkV {F:Nat->Prop} (w:World) (g:GR) (h:RdG w F g) (hz:ZbJ g):Calls Tryz.prog 15 #[g.agg] w (ZlW g.dat w):=by
 obtain ⟨e,at_,hE⟩:∃ e at_,chkP g.dat=(e,at_):=⟨_,_,rfl⟩
 have he1:(chkP g.dat).1=e:=by rw [hE]
 obtain ⟨L,hL⟩:∃ L,pcsP g.dat=L:=⟨_,rfl⟩
 have hLl:L.length<=100000/\L.flatten.length<=2900025:=by
  rw [<- hL]
  unfold pcsP
  split
  · rename_i h0
    have h1:=(Zck h0 (Zfq h)).1
    refine ⟨?_,h1.arc_len⟩
    have h2:=h1.nN
    have h3:=h1.nR
    unfold Zba Zaz
    simp
    omega
  simp
 have HNR:=qH (show ∀ x w',ZlW g.dat w x w'↔∃ v,x=.returned (.tuple #[v,.int .i64 e])/\OwnB w' w.heap.size v L.flatten/\Same w w' from fun _ _=>by unfold ZlW;rw [he1,hL])
 generalize ZlW g.dat w=NRes at HNR ⊢
 have s1:=(Upd.refl (fun _=>False) w).alloc (.cells #[.slice g.AN g.nN g.cN,.slice g.AR g.nR g.cR] 26)
 have HB1:=qH (Blk.new w 26 #[.slice g.AN g.nN g.cN,.slice g.AR g.nR g.cR])
 have HS1:=qH s1
 have HRG:=qH (h.same s1)
 have HC:=qH (ZfL _ g (h.same s1) hz hE)
 have HL:=qH hL
 have HZ:=qH hz
 have HLl:=qH hLl
 clear h hz hE he1 s1 hL hLl
 obtain ⟨ns,AN,nN,cN,rs,AR,nR,cR⟩:=g
 simp only at HB1 HS1 HRG HC
 go_enter Tryz.func15,Tryz.ntmps15
 go_upto_region 1 with fail
 generalize w.alloc (.cells #[.slice AN nN cN,.slice AR nR cR] 26)=w1 at *
 generalize hg0:w.heap.size=g0 at *
 have c0:w1.cell? ⟨g0,0,none⟩=some (.slice AN nN cN):=HB1.out.cell 0
 have c1:w1.cell? ⟨g0,1,none⟩=some (.slice AR nR cR):=HB1.out.cell 1
 go_wp2_with fail
 refine HC.out.mono ?_
 rintro x w2 ⟨rfl,hs2⟩
 have hs3:=hs2.alloc (.cells #[] 5)
 have HO3:Hid (OwnB (w2.alloc (.cells #[] 5)) w2.heap.size (.slice (some ⟨w2.heap.size,0,none⟩) 0 0) []):=qH (World.ownsRow_made w2 #[] 0 (Nat.le_refl _) (Nat.zero_le _) rfl)
 have HS3:=qH hs3
 have HB3:=qH (HB1.out.same hs3)
 have hz2:=hs2.size
 have hz1:=HS1.out.size
 clear c0 c1 hs2 hs3
 go_upto_region 3 with fail
 generalize hw3:w2.alloc (.cells #[] 5)=w3 at *
 have hz3:w3.heap.size=w2.heap.size+1:=by rw [<- hw3,World.size_alloc]
 have c0:w3.cell? ⟨g0,0,none⟩=some (.slice AN nN cN):=HB3.out.cell 0
 have c1:w3.cell? ⟨g0,1,none⟩=some (.slice AR nR cR):=HB3.out.cell 1
 clear hw3
 go_wp2_with fail
 refine (ZfN w3 ⟨ns,AN,nN,cN,rs,AR,nR,cR⟩ (HRG.out.same HS3.out) HZ.out).mono ?_
 rintro x w4 ⟨A,c,l,rfl,hO4,hD4,hs4⟩
 rw [HL.out] at hD4
 have hll:l.length<=100000:=by have h1:=HLl.1;rw [<- hD4,List.length_map] at h1;exact h1
 have HT:=qH (show (l.map BS.data).flatten.length<=2900025 by rw [hD4];exact HLl.2)
 have HD4:=qH hD4
 have HO4:=qH hO4
 have HS4:=qH hs4
 have HX4:Hid (OwnB w4 w2.heap.size (.slice (some ⟨w2.heap.size,0,none⟩) 0 0) []):=qH (Zaa HO3.out hs4)
 have hz4:=hs4.size
 clear hD4 hO4 hs4 c0 c1 HL HLl HC
 generalize hN:l.length=N at *
 have HN:=qH hN
 clear hN
 go_wp2_with fail
 go_loopg [6,8] N (fun gh s6 s8 wx=>∃ (i:Nat),N-i=gh/\i<=N/\s8=.int .i64 (i:Int)/\Hid (Zbw w4 w2.heap.size (.slice (some ⟨w2.heap.size,0,none⟩) 0 0) ((l.take i).map BS.data).flatten s6 wx))
 case atStart=>exact ⟨0,rfl,Nat.zero_le _,rfl,qH (Grew.refl HX4.out)⟩
 obtain ⟨i,rfl,hi,rfl,LG⟩:=hrel
 have LU:Hid (Upd (fun b=>b=w2.heap.size) w4 wr):=qH (LG.out.upd.mono fun b _ e=>by injection e with e;exact e.symm)
 have hO:Hid (ZbQ wr w3.heap.size (.slice A N c) l):=qH ⟨Zam HO4.out.row LU.out fun b hb e=>by have:=(HO4.out.row.lt b hb).1;omega,fun x hx=>(HO4.out.each x hx).upd LU.out fun b hb e=>by have:=hb.1;omega⟩
 by_cases hin:i<N
 case pos =>
  have j1:(i:Int)<(N:Int):=by omega
  have hwi:IntKind.i64.wrap ((i:Int)+1)=((i+1:Nat):Int):=by rw [IntKind.wrap_i64];omega
  obtain ⟨b,o,x,hA,hb,hx,hxm,hc⟩:=hO.out.at_ HN.out hin
  subst hA
  have HBy:Hid (Bytes wr (fun b=>TyB w4 w3.heap.size b) x.A x.n x.c x.data):=qH (Row.upd (HO4.out.each x hxm) LU.out fun b hb e=>by have:=hb.1;omega)
  have HTS:=qH (ZeS hx)
  have HTl:=qH (Zha l (i+1))
  have HLv:=qH LG.out.own.lt
  have HLb:=qH LG.out.block
  have hzw:=LU.out.size
  have hxl:x.data.length=x.n:=Bytes.len HBy.out
  rw [HTS.out,List.length_append,hxl] at HTl
  obtain ⟨xd,xA,xn,xc⟩:=x
  simp only at HBy HTS HTl hxl hc
  clear hx hxm
  go_wp2_with fail
  refine (Zbt wr LG.out.own (by omega) HBy.out (fun b hb e=>by
   have h1:=hb.1
   have h2:=hb.2.1
   rcases HLb.out with h3 | ⟨g,h3,h4⟩
   · rw [h3] at e;injection e with e;have e2:w2.heap.size=b:=e;omega
   rw [h3] at e;injection e with e;omega) (by have:=HTl.out;have:=HT.out;omega)).mono ?_
  rintro x w5 ⟨v5,rfl,hg5⟩
  have HG5:Hid (Zbw w4 w2.heap.size (.slice (some ⟨w2.heap.size,0,none⟩) 0 0) ((l.take (i+1)).map BS.data).flatten v5 w5):=qH (by rw [HTS.out];exact LG.out.next hg5)
  clear hg5 hc
  go_wp2_with fail
  go_roundg (N-(i+1))
  case measure=>omega
  case rel=>exact ⟨i+1,rfl,by omega,by go_num,HG5⟩
 obtain rfl:i=N:=by omega
 have LO1:Hid (OwnB wr w2.heap.size u6 L.flatten):=qH (by
  have h1:=LG.out.own
  rwa [List.take_of_length_le (by rw [HN.out];exact Nat.le_refl _),HD4.out] at h1)
 have hS:Same w wr:=((HS1.out.trans HS3.out fun _ _ f=>f).trans HS4.out fun _ _ f=>f).trans LU.out fun b hb e=>by omega
 have hSw:=qH hS
 clear hS LG
 go_wp2
 exact (HNR.out _ _).2 ⟨_,rfl,Zad LO1.out (by omega),hSw.out⟩
theorem Zod {G:Zak} (h:(chkP G).1≠0):(pcsP G).flatten=[]:=by unfold pcsP;rw [if_neg h];rfl
theorem ZkW {G:Zak} (h:(chkP G).1=0):(pcsP G).flatten=arcP G:=by unfold pcsP;rw [if_pos h];rfl
end Go.Proofs.YtkopcinhbjimiaaGreatDoor
