/- Texts that the claim leans on: walks and plain laws, function by function. -/
import Derived.Deep.QuietTactic
import Derived.BigQuiet
import Derived.Laws.BytesArg
import Derived.Deep.RegionLaw
import Derived.Deep.DeepCutAuto
import Derived.Test.YtkopcinhbjimiaaGreatDoorQ02
set_option maxRecDepth 100000
set_option maxHeartbeats 16000000
namespace Go.Proofs.YtkopcinhbjimiaaGreatDoor
open Go.RowKit
def ZaQ (ts:List ByteArray):Bool:=ts.any fun s=>decide (1000<s.size)
theorem Zgr (s:ByteArray) (w:World) (h:s.size<=9223372036854775807):Calls Tryz.prog 168 #[.string s] w fun e w'=>e=.returned (.bool (decide (1000<s.size)))/\w=w':=by
 go_enter Tryz.func168,Tryz.ntmps168
 go_wp2
 go_ret
 exact ⟨Zbp (decide_eq_decide.2 (by omega)),rfl⟩
theorem Zhk {F:Nat->Prop} {A:Option Addr} {n c:Nat} {ts:List ByteArray} (w:World) (h:WRow w F 1 A n c (ts.map Value.string)) (hts:∀ s∈ts,s.size<=9223372036854775807) :
 Calls Tryz.prog 192 #[.slice A n c,.func (.func 168) #[] #[]] w fun e w'=>∃ r:Int,e=.returned (.int .i64 r)/\(ZaQ ts=decide (0<=r))/\w=w':=by
 have HL:=qH (show ts.length=n from by simpa using h.len)
 have hmx:=h.max
 have hle:=h.le
 unfold maxLen at hmx
 have hn:n<=9223372036854775807:=by omega
 clear hmx hle
 go_enter Tryz.func192,Tryz.ntmps192
 go_wp2
 go_loop [8] (fun i=>∃ k:Nat,k<=n/\i=.int .i64 k/\ZaQ (ts.take k)=false) (fun i=>n-(intOf i).toNat)
 case atStart=>exact ⟨0,Nat.zero_le _,rfl,rfl⟩
 obtain ⟨k,hk,rfl,hno⟩:=hrel
 by_cases hlt:k<n
 · obtain ⟨b,o,u,rfl,hbl,_,hu,hc⟩:=h.at_ hlt
   have hkl:k<ts.length:=by rw [HL.out];exact hlt
   rw [List.getElem?_map,List.getElem?_eq_getElem hkl] at hu
   obtain rfl:Value.string ts[k]=u:=by simpa using hu
   have HS:=qH (hts ts[k] (List.getElem_mem hkl))
   have HN:=qH hno
   have HT:=qH (show ZaQ (ts.take (k+1))=(ZaQ (ts.take k) || decide (1000<ts[k].size)) from by
    rw [List.take_succ_eq_append_getElem hkl];unfold ZaQ;rw [List.any_append,List.any_cons,List.any_nil,Bool.or_false])
   clear hu hno hts
   generalize ts[k]=s at *
   by_cases hs:1000<s.size
   · go_wp2_with fail
     refine (Zgr _ _ HS.out).mono ?_
     rintro e w' ⟨rfl,rfl⟩
     go_wp2
     go_ret
     refine ⟨k,rfl,?_,rfl⟩
     have h1:=HT.out
     rw [decide_eq_true hs,Bool.or_true] at h1
     have h2:ZaQ ts=true:=by
      unfold ZaQ at h1 ⊢
      obtain ⟨x,hx,hx2⟩:=List.any_eq_true.1 h1
      exact List.any_eq_true.2 ⟨x,List.mem_of_mem_take hx,hx2⟩
     rw [h2]
     simp
   go_wp2_with fail
   refine (Zgr _ _ HS.out).mono ?_
   rintro e w' ⟨rfl,rfl⟩
   go_wp2
   go_round
   case rel =>
    refine ⟨k+1,by omega,by go_num,?_⟩
    rw [HT.out,HN.out,decide_eq_false hs]
    rfl
   case measure=>simp [intOf];omega
 have hkn:k=n:=by omega
 have HN:=qH hno
 clear hno
 go_wp2
 go_ret
 refine ⟨-1,rfl,?_,rfl⟩
 have h1:=HN.out
 rw [List.take_of_length_le (by rw [HL.out];omega)] at h1
 rw [h1]
 rfl
theorem ZcR {F:Nat->Prop} {A:Option Addr} {n c:Nat} {ts:List ByteArray} (w:World) (h:WRow w F 1 A n c (ts.map Value.string)) (hts:∀ s∈ts,s.size<=9223372036854775807) {r:Bool} (hr:ZaQ ts=r) :
 Calls Tryz.prog 167 #[.slice A n c,.func (.func 168) #[] #[]] w fun e w'=>e=.returned (.bool r)/\w=w':=by
 subst hr
 go_enter Tryz.func167,Tryz.ntmps167
 go_wp2_with fail
 refine (Zhk _ h hts).mono ?_
 rintro e w' ⟨r,rfl,hr,rfl⟩
 have HR:=qH hr
 clear hr
 go_wp2
 go_ret
 exact ⟨Zbp HR.out.symm,rfl⟩
theorem Zgs {kind:Int} (x:Int) (h:4<=kind):Zaq (ZbE kind) x=Zaq (kind-4) x:=by
 unfold ZbE
 split
 · rfl
 obtain rfl:kind=4:=by omega
 simp [Zaq]
theorem ZfG (k:Int) (l:List Int) (i:Nat) (hi:i<l.length) (h:ZaJ k (l.take i)=0):ZaJ k (l.take (i+1))=Zaq k l[i]:=by
 induction l generalizing i with
 | nil=>simp at hi
 | cons x l ih =>
   cases i with
   | zero=>by_cases hx:Zaq k x=0 <;> simp [ZaJ,hx]
   | succ i =>
     simp only [List.take_succ_cons,ZaJ,List.getElem_cons_succ] at h ⊢
     split at h
     · exact absurd h (by assumption)
     rename_i hx
     rw [if_neg hx]
     exact ih i (by simpa using hi) h
theorem ZfH (k:Int) (l:List Int) (i:Nat) (h:ZaJ k (l.take i)≠0):ZaJ k l=ZaJ k (l.take i):=by
 induction l generalizing i with
 | nil=>simp
 | cons x l ih =>
   cases i with
   | zero=>simp [ZaJ] at h
   | succ i =>
     simp only [List.take_succ_cons,ZaJ] at h ⊢
     split
     · rfl
     rename_i hx
     rw [if_neg hx] at h
     exact ih i h
theorem Zht {F:Nat->Prop} {A1 A2:Option Addr} {n1 c1 n2 c2:Nat} {g:GVal} (w:World) (h:Zcz w F A1 n1 c1 A2 n2 c2 g) (hx:g.text.size<=9223372036854775807) (hts:∀ s∈g.texts,s.size<=9223372036854775807) :
 Calls Tryz.prog 133 #[g.val A1 n1 c1 A2 n2 c2] w fun e w'=>e=.returned (.int .i64 (chk g))/\Same w w':=by
 obtain ⟨kind,num,text,nums,texts⟩:=g
 simp only [GVal.val]
 simp only at hx hts
 have hk:=h.kind
 simp only at hk
 have hl1:=h.len1
 have hl2:=h.len2
 simp only at hl1 hl2
 have hm1:=h.nums.max
 have hm2:=h.texts.max
 have hle1:=h.nums.le
 have hle2:=h.texts.le
 unfold maxLen at hm1 hm2
 by_cases hrange:kind<1\/8<kind
 · have e1:chk ⟨kind,num,text,nums,texts⟩=40:=by unfold chk;rw [if_pos hrange]
   rw [e1]
   clear e1 hl1 hl2
   rcases hrange with hr | hr
   · go_enter Tryz.func133,Tryz.ntmps133
     go_wp2
     go_ret
     exact ⟨rfl,(Upd.refl _ w).alloc _⟩
   have hr':¬ kind<1:=by omega
   go_enter Tryz.func133,Tryz.ntmps133
   go_wp2
   go_ret
   exact ⟨rfl,(Upd.refl _ w).alloc _⟩
 have hk1:¬ kind<1:=by omega
 have hk8:¬ 8<kind:=by omega
 have hu:=ZjX (A1:=A1) (A2:=A2) (n1:=n1) (c1:=c1) (n2:=n2) (c2:=c2) (kind:=kind) (num:=num) (text:=text) (w.alloc (.cells #[.int .i64 kind,.int .i64 num,.string text,.slice A1 n1 c1,.slice A2 n2 c2] 46)) (by omega) (by omega)
 have hfb:ZbG ⟨kind,num,text,nums,texts⟩=badB kind num text.size n1 n2:=by
  simp only [ZbG,badB,hl1,hl2]
 by_cases hf:badB kind num text.size n1 n2=true
 · have e1:chk ⟨kind,num,text,nums,texts⟩=41:=by
    unfold chk;rw [if_neg hrange,if_pos (by rw [hfb];exact hf)]
   rw [e1]
   rw [hf] at hu
   have HU:=qH hu
   clear e1 hl1 hl2 hf hu hfb
   go_enter Tryz.func133,Tryz.ntmps133
   go_wp2_with fail
   refine HU.out.mono ?_
   rintro e w1 ⟨rfl,hs⟩
   go_wp2
   go_ret
   exact ⟨rfl,((Upd.refl _ w).alloc _).same hs⟩
 have hff:badB kind num text.size n1 n2=false:=by simpa using hf
 rw [hff] at hu
 have HU:=qH hu
 have HC:=qH (show chk ⟨kind,num,text,nums,texts⟩=(if 40<nums.length\/40<texts.length then 45
  else if 1000<text.size\/ZaQ texts=true then 44
  else if kind<4 then Zaq kind num else ZaJ (kind-4) nums) from by
  unfold chk;rw [if_neg hrange,if_neg (by rw [hfb,hff];simp)];rfl)
 clear hu hfb hf hff
 have HR:=qH h
 have HL1:=qH hl1
 have HL2:=qH hl2
 by_cases hlist:40<nums.length\/40<texts.length
 · have HC1:=qH (HC.out.trans (if_pos hlist))
   rw [hl1,hl2] at hlist
   clear h hl1 hl2
   rcases hlist with h40 | h40
   · go_enter Tryz.func133,Tryz.ntmps133
     go_wp2_with fail
     refine HU.out.mono ?_
     rintro e w1 ⟨rfl,hs⟩
     have hb:=(Blk.new w 46 #[.int .i64 kind,.int .i64 num,.string text,.slice A1 n1 c1,.slice A2 n2 c2]).same hs
     have c3:w1.cell? ⟨w.heap.size,3,none⟩=some (.slice A1 n1 c1):=hb.cell 3
     go_wp2
     go_ret
     exact ⟨ZaU HC1.out.symm,((Upd.refl _ w).alloc _).same hs⟩
   by_cases h41:40<n1
   · go_enter Tryz.func133,Tryz.ntmps133
     go_wp2_with fail
     refine HU.out.mono ?_
     rintro e w1 ⟨rfl,hs⟩
     have hb:=(Blk.new w 46 #[.int .i64 kind,.int .i64 num,.string text,.slice A1 n1 c1,.slice A2 n2 c2]).same hs
     have c3:w1.cell? ⟨w.heap.size,3,none⟩=some (.slice A1 n1 c1):=hb.cell 3
     go_wp2
     go_ret
     exact ⟨ZaU HC1.out.symm,((Upd.refl _ w).alloc _).same hs⟩
   go_enter Tryz.func133,Tryz.ntmps133
   go_wp2_with fail
   refine HU.out.mono ?_
   rintro e w1 ⟨rfl,hs⟩
   have hb:=(Blk.new w 46 #[.int .i64 kind,.int .i64 num,.string text,.slice A1 n1 c1,.slice A2 n2 c2]).same hs
   have c3:w1.cell? ⟨w.heap.size,3,none⟩=some (.slice A1 n1 c1):=hb.cell 3
   have c4:w1.cell? ⟨w.heap.size,4,none⟩=some (.slice A2 n2 c2):=hb.cell 4
   go_wp2
   go_ret
   exact ⟨ZaU HC1.out.symm,((Upd.refl _ w).alloc _).same hs⟩
 have HC1:=qH (HC.out.trans (if_neg hlist))
 rw [hl1,hl2] at hlist
 have h40:n1<=40:=by omega
 have h41:n2<=40:=by omega
 clear h hl1 hl2 hlist
 by_cases htext:1000<text.size
 · have HC2:=qH (HC1.out.trans (if_pos (.inl htext)))
   go_enter Tryz.func133,Tryz.ntmps133
   go_wp2_with fail
   refine HU.out.mono ?_
   rintro e w1 ⟨rfl,hs⟩
   have hb:=(Blk.new w 46 #[.int .i64 kind,.int .i64 num,.string text,.slice A1 n1 c1,.slice A2 n2 c2]).same hs
   have c2':w1.cell? ⟨w.heap.size,2,none⟩=some (.string text):=hb.cell 2
   have c3:w1.cell? ⟨w.heap.size,3,none⟩=some (.slice A1 n1 c1):=hb.cell 3
   have c4:w1.cell? ⟨w.heap.size,4,none⟩=some (.slice A2 n2 c2):=hb.cell 4
   go_wp2
   go_ret
   exact ⟨ZaU HC2.out.symm,((Upd.refl _ w).alloc _).same hs⟩
 have HT:=qH (show (1000<text.size\/ZaQ texts=true)↔ZaQ texts=true from ⟨fun h=>h.resolve_left htext,.inr⟩)
 go_enter Tryz.func133,Tryz.ntmps133
 go_wp2_with fail
 refine HU.out.mono ?_
 rintro e w1 ⟨rfl,hs⟩
 have hb:=(Blk.new w 46 #[.int .i64 kind,.int .i64 num,.string text,.slice A1 n1 c1,.slice A2 n2 c2]).same hs
 have hsame:=((Upd.refl (fun _=>False) w).alloc (.cells #[.int .i64 kind,.int .i64 num,.string text,.slice A1 n1 c1,.slice A2 n2 c2] 46)).same hs
 have c0:w1.cell? ⟨w.heap.size,0,none⟩=some (.int .i64 kind):=hb.cell 0
 have c1':w1.cell? ⟨w.heap.size,1,none⟩=some (.int .i64 num):=hb.cell 1
 have c2':w1.cell? ⟨w.heap.size,2,none⟩=some (.string text):=hb.cell 2
 have c3:w1.cell? ⟨w.heap.size,3,none⟩=some (.slice A1 n1 c1):=hb.cell 3
 have c4:w1.cell? ⟨w.heap.size,4,none⟩=some (.slice A2 n2 c2):=hb.cell 4
 clear hb
 generalize hB:w.heap.size=B at c0 c1' c2' c3 c4
 clear hB hs
 go_wp2_with fail
 by_cases hlong:ZaQ texts=true
 · refine (ZcR _ (HR.out.texts.same hsame) hts hlong).mono ?_
   rintro e w2 ⟨rfl,rfl⟩
   have HG:=qH hlong
   clear hlong
   go_wp2
   go_ret
   refine ⟨ZaU ?_,hsame⟩
   exact (HC1.out.trans (if_pos (.inr HG.out))).symm
 refine (ZcR _ (HR.out.texts.same hsame) hts (r:=false) (by simpa using hlong)).mono ?_
 rintro e w2 ⟨rfl,rfl⟩
 have HG:=qH (fun hh=>hlong (HT.1 hh))
 clear hlong
 by_cases h4:kind<4
 · go_wp2_with fail
   refine (Zcs _ _ _ (by omega) (by omega)).mono ?_
   rintro e w3 ⟨rfl,rfl⟩
   go_wp2
   go_ret
   refine ⟨ZaU ?_,hsame⟩
   rw [HC1.out,if_neg HG.out,if_pos h4]
   rw [show ZbE kind=kind from by unfold ZbE;rw [if_neg (by omega)]]
 go_wp2
 go_loop [51] (fun i=>∃ k:Nat,k<=n1/\i=.int .i64 k/\Hid (ZaJ (kind-4) (nums.take k)=0)) (fun i=>n1-(intOf i).toNat)
 case atStart=>exact ⟨0,Nat.zero_le _,rfl,qH rfl⟩
 obtain ⟨k,hk,rfl,hno⟩:=hrel
 have HK:=qH (show ZaJ (kind-4) nums=chk ⟨kind,num,text,nums,texts⟩ from by
  rw [HC1.out,if_neg HG.out,if_neg (by omega)])
 by_cases hlt:k<n1
 · have hrow:=HR.out.nums.same hsame
   obtain ⟨b,o,u,rfl,hbl,_,hu,hc⟩:=hrow.at_ hlt
   have hkl:k<nums.length:=by rw [HL1.out];exact hlt
   simp only [List.getElem?_map,List.getElem?_eq_getElem hkl,Option.map_some,Option.some.injEq] at hu
   subst hu
   have HN:=qH (ZfG (kind-4) nums k hkl hno.out)
   have HS:=qH (ZfH (kind-4) nums (k+1))
   clear hrow
   generalize nums[k]=x at *
   by_cases hz:Zaq (kind-4) x=0
   · go_wp2_with fail
     refine (Zcs _ _ _ (by omega) (by omega)).mono ?_
     rintro e w3 ⟨rfl,rfl⟩
     have hz':Zaq (ZbE kind) x=0:=by rw [Zgs x (by omega)];exact hz
     have HZ:=qH hz
     clear hz
     go_wp2
     go_round
     case rel=>exact ⟨k+1,by omega,by go_num,qH (HN.out.trans HZ.out)⟩
     case measure=>simp [intOf];omega
   go_wp2_with fail
   refine (Zcs _ _ _ (by omega) (by omega)).mono ?_
   rintro e w3 ⟨rfl,rfl⟩
   have hb':=Zgs x (show 4<=kind by omega)
   have hz':(Zaq (ZbE kind) x != 0)=true:=by rw [hb'];simpa using hz
   have HZ:=qH hz
   have HB:=qH hb'
   clear hz hb'
   go_wp2
   go_ret
   refine ⟨ZaU ?_,hsame⟩
   rw [<- HK.out,HB.out,HS.out (by rw [HN.out];exact HZ.out),HN.out]
 obtain rfl:k=n1:=by omega
 go_wp2
 go_ret
 refine ⟨ZaU ?_,hsame⟩
 rw [<- HK.out,<-hno.out,List.take_of_length_le (by rw [HL1.out];exact Nat.le_refl _)]
theorem ZfI {α:Type} {l m:List α} {k:Nat} (h1:k<l.length) (h2:k<m.length) (h:l.take k=m.take k) (he:l[k]=m[k]):l.take (k+1)=m.take (k+1):=by
 rw [List.take_succ_eq_append_getElem h1,List.take_succ_eq_append_getElem h2,h,he]
theorem Zlm {α:Type} {l m:List α} {k:Nat} (h1:k<l.length) (h2:k<m.length) (he:l[k]≠m[k]):l≠m:=by
 rintro rfl
 exact he rfl
theorem Zcw (s t:ByteArray):s.toList=t.toList↔s=t:=by
 rw [ByteArray.toList_eq,ByteArray.toList_eq]
 constructor
 · intro h
   cases s;cases t
   congr 1
   exact Array.toList_inj.1 h
 rintro rfl;rfl
instance Zoi:DecidableEq ByteArray:=fun a b=>decidable_of_iff _ (Zcw a b)
def ZeG (g h:GVal):Bool:=g.kind==h.kind && (g.num==h.num && (g.text.toList==h.text.toList && (decide (g.nums=h.nums) && decide (g.texts=h.texts))))
theorem ZmJ (g h:GVal):ZeG g h=true↔g=h:=by
 unfold ZeG
 simp only [Bool.and_eq_true,beq_iff_eq,decide_eq_true_eq,Zcw]
 cases g;cases h
 simp
theorem Zmc {F F':Nat->Prop} {A1 A2 B1 B2:Option Addr} {n1 c1 n2 c2 m1 d1 m2 d2:Nat} {g h:GVal} (w:World) (hg:Zcz w F A1 n1 c1 A2 n2 c2 g) (hh:Zcz w F' B1 m1 d1 B2 m2 d2 h) :
 Calls Tryz.prog 62 #[g.val A1 n1 c1 A2 n2 c2,h.val B1 m1 d1 B2 m2 d2] w fun e w'=>e=.returned (.bool (ZeG g h))/\Same w w':=by
 obtain ⟨kind,num,text,nums,texts⟩:=g
 obtain ⟨kind',num',text',nums',texts'⟩:=h
 simp only [GVal.val]
 have H1:=qH hg
 have H2:=qH hh
 have HL1:=qH (show nums.length=n1 from hg.len1)
 have HL2:=qH (show texts.length=n2 from hg.len2)
 have HM1:=qH (show nums'.length=m1 from hh.len1)
 have HM2:=qH (show texts'.length=m2 from hh.len2)
 have hn1:n1<=9223372036854775807:=by have:=hg.nums.le;have:=hg.nums.max;unfold maxLen at this;omega
 have hn2:n2<=9223372036854775807:=by have:=hg.texts.le;have:=hg.texts.max;unfold maxLen at this;omega
 have hm1:m1<=9223372036854775807:=by have:=hh.nums.le;have:=hh.nums.max;unfold maxLen at this;omega
 have hm2:m2<=9223372036854775807:=by have:=hh.texts.le;have:=hh.texts.max;unfold maxLen at this;omega
 clear hg hh
 by_cases hk:kind=kind'
 case neg =>
  have hk':(kind != kind')=true:=by simpa using hk
  have HB:=qH (show ZeG ⟨kind,num,text,nums,texts⟩ ⟨kind',num',text',nums',texts'⟩=false from by
   have:(kind==kind')=false:=by simpa using hk
   simp only [ZeG,this,Bool.false_and])
  go_enter Tryz.func62,Tryz.ntmps62
  go_wp2
  go_ret
  exact ⟨Zbp HB.out.symm,((Upd.refl _ w).alloc _).alloc _⟩
 subst hk
 by_cases hn:num=num'
 case neg =>
  have hn':(num != num')=true:=by simpa using hn
  have HB:=qH (show ZeG ⟨kind,num,text,nums,texts⟩ ⟨kind,num',text',nums',texts'⟩=false from by
   have:(num==num')=false:=by simpa using hn
   simp only [ZeG,this,Bool.false_and,Bool.and_false])
  go_enter Tryz.func62,Tryz.ntmps62
  go_wp2
  go_ret
  exact ⟨Zbp HB.out.symm,((Upd.refl _ w).alloc _).alloc _⟩
 subst hn
 by_cases ht:(text.toList==text'.toList)=true
 case neg =>
  have ht':(text.toList==text'.toList)=false:=by simpa using ht
  have HB:=qH (show ZeG ⟨kind,num,text,nums,texts⟩ ⟨kind,num,text',nums',texts'⟩=false from by
   simp only [ZeG,ht',Bool.false_and,Bool.and_false])
  go_enter Tryz.func62,Tryz.ntmps62
  go_wp2
  go_ret
  exact ⟨Zbp HB.out.symm,((Upd.refl _ w).alloc _).alloc _⟩
 have HB:=qH (show ZeG ⟨kind,num,text,nums,texts⟩ ⟨kind,num,text',nums',texts'⟩=(decide (nums=nums') && decide (texts=texts')) from by
  simp [ZeG,ht])
 by_cases hl1:n1=m1
 case neg =>
  have hl1':((n1:Int) != (m1:Int))=true:=by rw [bne_iff_ne];omega
  have hne:nums≠nums':=by
   rintro rfl
   exact hl1 (HL1.out.symm.trans HM1.out)
  go_enter Tryz.func62,Tryz.ntmps62
  go_wp2
  go_ret
  exact ⟨Zbp (by rw [HB.out,decide_eq_false hne];rfl),((Upd.refl _ w).alloc _).alloc _⟩
 subst hl1
 by_cases hl2:n2=m2
 case neg =>
  have hl2':((n2:Int) != (m2:Int))=true:=by rw [bne_iff_ne];omega
  have hne:texts≠texts':=by
   rintro rfl
   exact hl2 (HL2.out.symm.trans HM2.out)
  go_enter Tryz.func62,Tryz.ntmps62
  go_wp2
  go_ret
  exact ⟨Zbp (by rw [HB.out,decide_eq_false hne,Bool.and_false]),((Upd.refl _ w).alloc _).alloc _⟩
 subst hl2
 go_enter Tryz.func62,Tryz.ntmps62
 go_wp2
 have hs0:=((Upd.refl (fun _=>False) w).alloc (.cells #[.int .i64 kind,.int .i64 num,.string text,.slice A1 n1 c1,.slice A2 n2 c2] 46)).alloc (.cells #[.int .i64 kind,.int .i64 num,.string text',.slice B1 n1 d1,.slice B2 n2 d2] 46)
 have hb0:Blk _ w.heap.size _ _:=(Blk.new w 46 #[.int .i64 kind,.int .i64 num,.string text,.slice A1 n1 c1,.slice A2 n2 c2]).alloc (.cells #[.int .i64 kind,.int .i64 num,.string text',.slice B1 n1 d1,.slice B2 n2 d2] 46)
 have hb1:=Blk.new (w.alloc (.cells #[.int .i64 kind,.int .i64 num,.string text,.slice A1 n1 c1,.slice A2 n2 c2] 46)) 46 #[.int .i64 kind,.int .i64 num,.string text',.slice B1 n1 d1,.slice B2 n2 d2]
 rw [World.size_alloc] at hb1
 have hc3:=hb0.cell 3
 have hc4:=hb0.cell 4
 have hd3:=hb1.cell 3
 have hd4:=hb1.cell 4
 simp only [List.getElem?_toArray,List.getElem?_cons_succ,List.getElem?_cons_zero] at hc3 hc4 hd3 hd4
 clear hb0 hb1
 revert hs0 hc3 hc4 hd3 hd4
 generalize (w.alloc (.cells #[.int .i64 kind,.int .i64 num,.string text,.slice A1 n1 c1,.slice A2 n2 c2] 46)).alloc (.cells #[.int .i64 kind,.int .i64 num,.string text',.slice B1 n1 d1,.slice B2 n2 d2] 46)=W
 intro hs0 hc3 hc4 hd3 hd4
 have HW1:=qH (H1.out.same hs0)
 have HW2:=qH (H2.out.same hs0)
 have HS:=qH hs0
 clear hs0
 go_loopw [5] (fun i wr=>∃ k d:Nat,k<=n1/\i=.int .i64 k/\wr=W.drewN d/\Hid (nums.take k=nums'.take k)) (fun i _=>n1-(intOf i).toNat)
 case atStart=>exact ⟨0,0,Nat.zero_le _,rfl,rfl,qH rfl⟩
 obtain ⟨k,d,hk,rfl,rfl,HP⟩:=hrel
 by_cases hlt:k<n1
 · obtain ⟨b,o,u,rfl,hbl,_,hu,hc⟩:=HW1.out.nums.at_ hlt
   obtain ⟨b',o',u',rfl,hbl',_,hu',hc'⟩:=HW2.out.nums.at_ hlt
   have hkl:k<nums.length:=by rw [HL1.out];exact hlt
   have hkl':k<nums'.length:=by rw [HM1.out];exact hlt
   simp only [List.getElem?_map,List.getElem?_eq_getElem hkl,List.getElem?_eq_getElem hkl',Option.map_some,Option.some.injEq] at hu hu'
   subst hu
   subst hu'
   have HT:=qH (ZfI hkl hkl' HP.out)
   have HN:=qH (Zlm hkl hkl')
   generalize nums[k]=x at *
   generalize nums'[k]=y at *
   by_cases hxy:x=y
   · subst hxy
     go_wp2_with fail
     go_quiet (fail)
     go_wp2
     go_roundw
     case rel=>exact ⟨k+1,_,by omega,by go_num,rfl,qH (HT.out (by first | rfl | trivial))⟩
     case measure=>simp [intOf];omega
   have hxy':(x != y)=true:=by simpa using hxy
   go_wp2_with fail
   go_quiet (fail)
   go_wp2
   go_ret
   refine ⟨Zbp ?_,(HS.out.drewN _).drewN _⟩
   rw [HB.out,decide_eq_false (HN.out hxy)]
   rfl
 obtain rfl:k=n1:=by omega
 have HE:=qH (show nums=nums' from by
  have hall:=HP.out
  rwa [List.take_of_length_le (by rw [HL1.out];exact Nat.le_refl _),List.take_of_length_le (by rw [HM1.out];exact Nat.le_refl _)] at hall)
 go_wp2
 go_loopw [6] (fun i wr=>∃ k d:Nat,k<=n2/\i=.int .i64 k/\wr=W.drewN d/\Hid (texts.take k=texts'.take k)) (fun i _=>n2-(intOf i).toNat)
 case atStart=>exact ⟨0,d,Nat.zero_le _,rfl,rfl,qH rfl⟩
 obtain ⟨k2,d2,hk2,rfl,rfl,HP2⟩:=hrel
 by_cases hlt:k2<n2
 · obtain ⟨b,o,u,rfl,hbl,_,hu,hc⟩:=HW1.out.texts.at_ hlt
   obtain ⟨b',o',u',rfl,hbl',_,hu',hc'⟩:=HW2.out.texts.at_ hlt
   have hkl:k2<texts.length:=by rw [HL2.out];exact hlt
   have hkl':k2<texts'.length:=by rw [HM2.out];exact hlt
   simp only [List.getElem?_map,List.getElem?_eq_getElem hkl,List.getElem?_eq_getElem hkl',Option.map_some,Option.some.injEq] at hu hu'
   subst hu
   subst hu'
   have HT:=qH (ZfI hkl hkl' HP2.out)
   have HN:=qH (Zlm hkl hkl')
   generalize texts[k2]=x at *
   generalize texts'[k2]=y at *
   by_cases hxy:x=y
   · subst hxy
     go_wp2_with fail
     go_quiet (fail)
     go_wp2
     go_roundw
     case rel=>exact ⟨k2+1,_,by omega,by go_num,rfl,qH (HT.out (by first | rfl | trivial))⟩
     case measure=>simp [intOf];omega
   have hxy':(x.toList==y.toList)=false:=by rw [beq_eq_false_iff_ne];exact fun hh=>hxy ((Zcw x y).1 hh)
   go_wp2_with fail
   go_quiet (fail)
   go_wp2
   go_ret
   refine ⟨Zbp ?_,(HS.out.drewN _).drewN _⟩
   rw [HB.out,decide_eq_false (HN.out hxy),Bool.and_false]
 obtain rfl:k2=n2:=by omega
 have HE2:=qH (show texts=texts' from by
  have hall:=HP2.out
  rwa [List.take_of_length_le (by rw [HL2.out];exact Nat.le_refl _),List.take_of_length_le (by rw [HM2.out];exact Nat.le_refl _)] at hall)
 go_wp2
 go_ret
 refine ⟨Zbp ?_,HS.out.drewN _⟩
 rw [HB.out,decide_eq_true HE.out,decide_eq_true HE2.out]
 rfl
theorem Zay {F:Nat->Prop} {A:Option Addr} {n c:Nat} {bs:List UInt8} {w:World} (hb:Bytes w F A n c bs) :
 (convert 28 9 (.slice A n c)).run Tryz.prog w=.ok (.string ⟨bs.toArray⟩) w:=by
 have hl:=hb.len
 cases hA:A with
 | none =>
   have hc:=hb.nil hA
   have hle:=Row.le hb
   obtain rfl:n=0:=by omega
   obtain rfl:c=0:=by omega
   have:bs=[]:=List.eq_nil_of_length_eq_zero hl
   subst this
   exact run_convert_bytes_nil (P:=Tryz.prog) w 28 5 Tryz.underlying28 Tryz.underlying5 0 0 9 Tryz.underlying9
 | some a =>
   obtain ⟨h1,h2,h3,h4⟩:=Row.cell hb a hA
   obtain ⟨b,o,s⟩:=a
   subst h1
   have h:=run_convert_bytes_arg (P:=Tryz.prog) w 28 5 Tryz.underlying28 Tryz.underlying5 b o n c (bs.map fun x=>(x.toNat:Int)) (by simpa using hl) (fun i hi=>by
    have hil:i<bs.length:=by omega
    have:=h4 i (u8v bs[i]) (by simp [List.getElem?_eq_getElem hil])
    simp only at this
    rw [this]
    simp [u8v,List.getD,List.getElem?_eq_getElem hil]) 9 Tryz.underlying9
   rw [h]
   congr 2
   unfold strOfNums
   congr 2
   rw [List.map_map]
   conv=>rhs;rw [<- List.map_id bs]
   apply List.map_congr_left
   intro x _
   simp
theorem Zia (n:Nat) (h:n<18446744073709551616):wrap64 (n:Int)=i64 n:=by
 unfold wrap64 i64
 split <;> omega
theorem RS.num_short {l:List UInt8} {k:Nat} (hk:Zam k=true) (h:l.length<k):RS.num ⟨l,0⟩ k=(0,⟨[],10⟩):=by
 unfold RS.num
 rw [hk,RS.take_short h]
 rfl
theorem RS.num_ok {l:List UInt8} {k:Nat} (hk:Zam k=true) (h:k<=l.length):RS.num ⟨l,0⟩ k=(be (l.take k),⟨l.drop k,0⟩):=by
 unfold RS.num
 rw [hk,RS.take_ok h]
def ZcD (K:Int) (l:List UInt8) (n e:Int) (s':RS):Prop :=
 match pNum K l with
 | .error e0=>e=e0/\e≠0
 | .ok (m,r)=>e=0/\n=m/\s'=⟨r,0⟩
theorem Zgt {w:World} {F:Nat->Prop} {r:Nat} {l:List UInt8} (h:Rdr w F r ⟨l,0⟩) (hF:¬ F r) (kind:Int) (hk0:1<=kind) (hk:kind<=8) :
 Calls Tryz.prog 202 #[.pointer (some ⟨r,0,none⟩),.int .i64 kind] w fun e w'=>∃ (n er:Int) (s':RS),e=.returned (.tuple #[.int .i64 n,.int .i64 er])/\ZcD (ZbE kind) l n er s'/\Rdr w' F r s'/\Upd (fun b=>b=r) w w':=by
 have hb:=ZeE kind
 have hcn:=fun (n:Int) (w:World)=>Zcs kind n w hk0 hk
 have HN:=qH (show ∀ (width:Nat),width=(if ZbE kind=1 then 1 else 8)->pNum (ZbE kind) l=if l.length<width then .error 10
  else if Zaq (ZbE kind) (i64 (be (l.take width)))≠0 then .error (Zaq (ZbE kind) (i64 (be (l.take width))))
  else .ok (i64 (be (l.take width)),l.drop width) from fun width hw=>by subst hw;rfl)
 generalize ZbE kind=K at hb hcn HN ⊢
 have HB:=qH hb
 have HCN:=qH hcn
 have HR:=qH h
 clear hb hcn h
 by_cases hK:K=1
 · subst hK
   have HWD':=qH (show 1=(if (1:Int)=1 then 1 else 8) from rfl)
   by_cases hs:l.length<1
   · have HP:=qH ((HN.out 1 HWD'.out).trans (if_pos hs))
     have hm:=Zbb HR.out hF 1
     have hx:=RS.num_short (l:=l) (k:=1) rfl hs
     rw [show ((1:Nat):Int)=1 from rfl] at hx
     rw [hx] at hm
     have HM:=qH hm
     clear hs hm hx
     go_enter Tryz.func202,Tryz.ntmps202
     go_wp2_with fail
     refine (HB.out _ (by omega) (by omega)).mono ?_
     rintro e w' ⟨rfl,rfl⟩
     go_wp2_with fail
     refine HM.out.mono ?_
     rintro e w1 ⟨rfl,hr,hu⟩
     have HR1:=qH hr
     have HU1:=qH hu
     clear hr hu
     go_wp2_with fail
     refine (Zbq HR1.out).mono ?_
     rintro e w2 ⟨rfl,rfl⟩
     go_wp2
     go_ret2
     exact ⟨_,_,_,rfl,by unfold ZcD;rw [HP.out];exact ⟨rfl,by decide⟩,HR1.out,HU1.out⟩
   have HP:=qH ((HN.out 1 HWD'.out).trans (if_neg hs))
   have hm:=Zbb HR.out hF 1
   have hx:=RS.num_ok (l:=l) (k:=1) rfl (by omega)
   rw [show ((1:Nat):Int)=1 from rfl] at hx
   rw [hx] at hm
   have HM:=qH hm
   have HLT:=qH (ZdQ l 1 (by omega))
   clear hs hm hx
   generalize be (l.take 1)=N at *
   have HI:=qH (Zia N HLT.out)
   have HI2:=qH (Zgp N HLT.out)
   go_enter Tryz.func202,Tryz.ntmps202
   go_wp2_with fail
   refine (HB.out _ (by omega) (by omega)).mono ?_
   rintro e w' ⟨rfl,rfl⟩
   go_wp2_with fail
   refine HM.out.mono ?_
   rintro e w1 ⟨rfl,hr,hu⟩
   have HR1:=qH hr
   have HU1:=qH hu
   clear hr hu
   go_wp2_with fail
   refine (Zbq HR1.out).mono ?_
   rintro e w2 ⟨rfl,rfl⟩
   go_wp2_with fail
   rw [HI.out]
   refine (HCN.out _ _).mono ?_
   rintro e w3 ⟨rfl,rfl⟩
   have HP2:=HP
   generalize i64 N=m at *
   by_cases hz:Zaq 1 m=0
   · have HZ:=qH hz
     go_wp2
     go_ret2
     refine ⟨_,_,_,rfl,?_,HR1.out,HU1.out⟩
     unfold ZcD
     rw [HP2.out,if_neg (fun h=>h HZ.out)]
     exact ⟨rfl,rfl,rfl⟩
   have HZ:=qH hz
   clear hz
   go_wp2
   go_ret2
   refine ⟨_,_,_,rfl,?_,HR1.out,HU1.out⟩
   unfold ZcD
   rw [HP2.out,if_pos HZ.out]
   exact ⟨rfl,HZ.out⟩
 have HWD:8=(if K=1 then 1 else 8):=by rw [if_neg hK]
 have HWD':=qH HWD
 have hK':(K==1)=false:=by simpa using hK
 have HK:=qH hK
 clear hK HWD
 by_cases hs:l.length<8
 · have HP:=qH ((HN.out 8 HWD'.out).trans (if_pos hs))
   have hm:=Zbb HR.out hF 8
   have hx:=RS.num_short (l:=l) (k:=8) rfl hs
   rw [show ((8:Nat):Int)=8 from rfl] at hx
   rw [hx] at hm
   have HM:=qH hm
   clear hs hm hx
   go_enter Tryz.func202,Tryz.ntmps202
   go_wp2_with fail
   refine (HB.out _ (by omega) (by omega)).mono ?_
   rintro e w' ⟨rfl,rfl⟩
   go_wp2_with fail
   refine HM.out.mono ?_
   rintro e w1 ⟨rfl,hr,hu⟩
   have HR1:=qH hr
   have HU1:=qH hu
   clear hr hu
   go_wp2_with fail
   refine (Zbq HR1.out).mono ?_
   rintro e w2 ⟨rfl,rfl⟩
   go_wp2
   go_ret2
   exact ⟨_,_,_,rfl,by unfold ZcD;rw [HP.out];exact ⟨rfl,by decide⟩,HR1.out,HU1.out⟩
 have HP:=qH ((HN.out 8 HWD'.out).trans (if_neg hs))
 have hm:=Zbb HR.out hF 8
 have hx:=RS.num_ok (l:=l) (k:=8) rfl (by omega)
 rw [show ((8:Nat):Int)=8 from rfl] at hx
 rw [hx] at hm
 have HM:=qH hm
 have HLT:=qH (ZdQ l 8 (by omega))
 clear hs hm hx
 generalize be (l.take 8)=N at *
 have HI:=qH (Zia N HLT.out)
 have HI2:=qH (Zgp N HLT.out)
 go_enter Tryz.func202,Tryz.ntmps202
 go_wp2_with fail
 refine (HB.out _ (by omega) (by omega)).mono ?_
 rintro e w' ⟨rfl,rfl⟩
 go_wp2_with fail
 refine HM.out.mono ?_
 rintro e w1 ⟨rfl,hr,hu⟩
 have HR1:=qH hr
 have HU1:=qH hu
 clear hr hu
 go_wp2_with fail
 refine (Zbq HR1.out).mono ?_
 rintro e w2 ⟨rfl,rfl⟩
 go_wp2_with fail
 rw [HI.out]
 refine (HCN.out _ _).mono ?_
 rintro e w3 ⟨rfl,rfl⟩
 have HP2:=HP
 generalize i64 N=m at *
 by_cases hz:Zaq K m=0
 · have HZ:=qH hz
   go_wp2
   go_ret2
   refine ⟨_,_,_,rfl,?_,HR1.out,HU1.out⟩
   unfold ZcD
   rw [HP2.out,if_neg (fun h=>h HZ.out)]
   exact ⟨rfl,rfl,rfl⟩
 have HZ:=qH hz
 clear hz
 go_wp2
 go_ret2
 refine ⟨_,_,_,rfl,?_,HR1.out,HU1.out⟩
 unfold ZcD
 rw [HP2.out,if_pos HZ.out]
 exact ⟨rfl,HZ.out⟩
def Zco (l:List UInt8) (s:ByteArray) (e:Int) (s':RS):Prop :=
 match Zbn l with
 | .error e0=>e=e0/\e≠0
 | .ok (t,r)=>e=0/\s=t/\s'=⟨r,0⟩
theorem Zgu (l:List UInt8):be (l.take 2)<=65535:=by
 have h:=Zdp (l.take 2)
 have h2:256 ^ (l.take 2).length<=256 ^ 2:=Nat.pow_le_pow_right (by omega) (by rw [List.length_take];omega)
 have h3:256 ^ 2=65536:=by decide
 omega
theorem ZfJ {w:World} {F:Nat->Prop} {r:Nat} {l:List UInt8} (h:Rdr w F r ⟨l,0⟩) (hF:¬ F r) (hl:l.length<=140737488355328) :
 Calls Tryz.prog 201 #[.pointer (some ⟨r,0,none⟩)] w fun e w'=>∃ (s:ByteArray) (er:Int) (s':RS),e=.returned (.tuple #[.string s,.int .i64 er])/\Zco l s er s'/\Rdr w' F r s'/\Upd (fun b=>b=r) w w':=by
 have HP:=qH (show Zbn l=if l.length<2 then .error 10 else if 1000<be (l.take 2) then .error 44 else if (l.drop 2).length<be (l.take 2) then .error 10
  else .ok (⟨((l.drop 2).take (be (l.take 2))).toArray⟩,(l.drop 2).drop (be (l.take 2))) from rfl)
 have HR:=qH h
 clear h
 by_cases hs:l.length<2
 · have HP1:=qH (HP.out.trans (if_pos hs))
   have hm:=Zbb HR.out hF 2
   have hx:=RS.num_short (l:=l) (k:=2) rfl hs
   rw [show ((2:Nat):Int)=2 from rfl] at hx
   rw [hx] at hm
   have HM:=qH hm
   clear hs hm hx
   go_enter Tryz.func201,Tryz.ntmps201
   go_wp2_with fail
   refine HM.out.mono ?_
   rintro e w1 ⟨rfl,hr,hu⟩
   have HR1:=qH hr
   have HU1:=qH hu
   clear hr hu
   go_wp2_with fail
   refine (Zbq HR1.out).mono ?_
   rintro e w2 ⟨rfl,rfl⟩
   go_wp2
   go_ret2
   exact ⟨_,_,_,rfl,by unfold Zco;rw [HP1.out];exact ⟨rfl,by decide⟩,HR1.out,HU1.out⟩
 have HP1:=qH (HP.out.trans (if_neg hs))
 have hm:=Zbb HR.out hF 2
 have hx:=RS.num_ok (l:=l) (k:=2) rfl (by omega)
 rw [show ((2:Nat):Int)=2 from rfl] at hx
 rw [hx] at hm
 have HM:=qH hm
 have hlt:=Zgu l
 have hdl:(l.drop 2).length<=140737488355328:=by rw [List.length_drop];omega
 clear hs hm hx
 generalize be (l.take 2)=N at *
 by_cases hb:1000<N
 · have HP2:=qH (HP1.out.trans (if_pos hb))
   go_enter Tryz.func201,Tryz.ntmps201
   go_wp2_with fail
   refine HM.out.mono ?_
   rintro e w1 ⟨rfl,hr,hu⟩
   have HR1:=qH hr
   have HU1:=qH hu
   clear hr hu
   go_wp2_with fail
   refine (Zbq HR1.out).mono ?_
   rintro e w2 ⟨rfl,rfl⟩
   go_wp2
   go_ret2
   exact ⟨_,_,_,rfl,by unfold Zco;rw [HP2.out];exact ⟨rfl,by decide⟩,HR1.out,HU1.out⟩
 have HP2:=qH (HP1.out.trans (if_neg hb))
 by_cases hsh:(l.drop 2).length<N
 · have HP3:=qH (HP2.out.trans (if_pos hsh))
   have HT:=qH (RS.take_short hsh)
   clear hsh
   go_enter Tryz.func201,Tryz.ntmps201
   go_wp2_with fail
   refine HM.out.mono ?_
   rintro e w1 ⟨rfl,hr,hu⟩
   have hraw:=Zge hr hF hdl N
   rw [HT.out] at hraw
   have HRaw:=qH hraw
   have HR1:=qH hr
   have HU1:=qH hu
   clear hr hu hraw
   go_wp2_with fail
   refine (Zbq HR1.out).mono ?_
   rintro e w2 ⟨rfl,rfl⟩
   go_wp2_with fail
   refine HRaw.out.mono ?_
   rintro e w3 ⟨v,rfl,ho,hr2,hu2⟩
   obtain ⟨A,m,c,rfl⟩:=Zas ho
   have hconv:=Zay (ZaM ho)
   have HR2:=qH hr2
   have HU2:=qH hu2
   clear ho hr2 hu2
   go_wp2_with fail
   refine (Zbq HR2.out).mono ?_
   rintro e w4 ⟨rfl,rfl⟩
   go_wp2
   go_ret2
   exact ⟨_,_,_,rfl,by unfold Zco;rw [HP3.out];exact ⟨rfl,by decide⟩,HR2.out,HU1.out.trans HU2.out fun _ _ hh=>hh⟩
 have HP3:=qH (HP2.out.trans (if_neg hsh))
 have HT:=qH (RS.take_ok (show N<=(l.drop 2).length by omega))
 clear hsh
 go_enter Tryz.func201,Tryz.ntmps201
 go_wp2_with fail
 refine HM.out.mono ?_
 rintro e w1 ⟨rfl,hr,hu⟩
 have hraw:=Zge hr hF hdl N
 rw [HT.out] at hraw
 have HRaw:=qH hraw
 have HR1:=qH hr
 have HU1:=qH hu
 clear hr hu hraw
 go_wp2_with fail
 refine (Zbq HR1.out).mono ?_
 rintro e w2 ⟨rfl,rfl⟩
 go_wp2_with fail
 refine HRaw.out.mono ?_
 rintro e w3 ⟨v,rfl,ho,hr2,hu2⟩
 obtain ⟨A,m,c,rfl⟩:=Zas ho
 have hconv:=Zay (ZaM ho)
 have HR2:=qH hr2
 have HU2:=qH hu2
 clear ho hr2 hu2
 generalize (l.drop 2).take N=Y at *
 go_wp2_with fail
 refine (Zbq HR2.out).mono ?_
 rintro e w4 ⟨rfl,rfl⟩
 go_wp2
 go_ret2
 exact ⟨_,_,_,rfl,by unfold Zco;rw [HP3.out];exact ⟨rfl,rfl,rfl⟩,HR2.out,HU1.out.trans HU2.out fun _ _ hh=>hh⟩
theorem Zib:(Tryz.prog.info? 2).map (fun i=>(i.zero,i.size,i.bytes))=some (some (.int .i64 0),1,8):=by kernel_rfl
theorem Zax:(Tryz.prog.info? 9).map (fun i=>(i.zero,i.size,i.bytes))=some (some (.string ⟨#[]⟩),1,16):=by kernel_rfl
end Go.Proofs.YtkopcinhbjimiaaGreatDoor
