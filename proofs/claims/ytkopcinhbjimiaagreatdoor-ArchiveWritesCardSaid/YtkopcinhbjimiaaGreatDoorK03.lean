/- Texts that the claim leans on: walks and plain laws, function by function. -/
import Derived.Test.YtkopcinhbjimiaaGreatDoorK02
import Derived.Deep.QuietTactic
import Derived.BigQuiet
import Derived.Test.YtkopcinhbjimiaaGreatDoorK01
set_option maxRecDepth 100000
set_option maxHeartbeats 16000000
namespace Go.Proofs.YtkopcinhbjimiaaGreatDoor
open Go.RowKit
structure RS where
 left:List UInt8
 err:Int
def RS.take (s:RS) (n:Int) (right:Bool):List UInt8×RS :=
 if s.err=0 then
  if right=false\/n<0 then ([],⟨[],2⟩)
  else if (s.left.length:Int)<n then ([],⟨[],10⟩)
  else (s.left.take n.toNat,⟨s.left.drop n.toNat,0⟩)
 else ([],s)
theorem RS.take_short {left:List UInt8} {k:Nat} (h:left.length<k):RS.take ⟨left,0⟩ k true=([],⟨[],10⟩):=by
 have h1:¬ ((k:Int)<0):=by omega
 simp [RS.take,h1,h]
theorem RS.take_ok {left:List UInt8} {k:Nat} (h:k<=left.length):RS.take ⟨left,0⟩ k true=(left.take k,⟨left.drop k,0⟩):=by
 have h1:¬ ((k:Int)<0):=by omega
 have h2:¬ (left.length<k):=by omega
 simp [RS.take,h1,h2]
theorem RS.take_err {s:RS} (h:s.err≠0) (n:Int) (right:Bool):s.take n right=([],s):=by simp [RS.take,h]
def Rdr (w:World) (F:Nat->Prop) (r:Nat) (s:RS):Prop :=
 ∃ A n c,Blk w r 235 #[.slice A n c,.int .i64 s.err]/\Bytes w F A n c s.left
theorem Rdr.upd {w w':World} {F S:Nat->Prop} {r:Nat} {s:RS} (h:Rdr w F r s) (hu:Upd S w w') (hr:¬ S r) (hf:∀ b,F b->¬ S b):Rdr w' F r s:=by
 obtain ⟨A,n,c,hb,hy⟩:=h
 exact ⟨A,n,c,hb.upd hu hr,hy.upd hu hf⟩
theorem Rdr.same {w w':World} {F:Nat->Prop} {r:Nat} {s:RS} (h:Rdr w F r s) (hu:Same w w'):Rdr w' F r s:=h.upd hu (fun f=>f) fun _ _ f=>f
theorem Rdr.lt {w:World} {F:Nat->Prop} {r:Nat} {s:RS} (h:Rdr w F r s):r<w.heap.size:=by
 obtain ⟨A,n,c,hb,hy⟩:=h
 exact hb.lt
theorem err_spec {w:World} {F:Nat->Prop} {r:Nat} {s:RS} (h:Rdr w F r s) :
 Calls Tryz.prog 199 #[.pointer (some ⟨r,0,none⟩)] w fun e w'=>e=.returned (.int .i64 s.err)/\w=w':=by
 obtain ⟨A,n,c,hb,hy⟩:=h
 have h1:=hb.cell 1
 simp only [List.getElem?_toArray,List.getElem?_cons_succ,List.getElem?_cons_zero] at h1
 go_enter Tryz.func199,Tryz.ntmps199
 go_wp2
 go_ret
 exact ⟨rfl,rfl⟩
theorem left_spec {w:World} {F:Nat->Prop} {r:Nat} {s:RS} (h:Rdr w F r s) :
 Calls Tryz.prog 203 #[.pointer (some ⟨r,0,none⟩)] w fun e w'=>e=.returned (.int .i64 s.left.length)/\w=w':=by
 obtain ⟨A,n,c,hb,hy⟩:=h
 have h1:=hb.cell 0
 simp only [List.getElem?_toArray,List.getElem?_cons_zero] at h1
 have HL:=qH hy.len
 go_enter Tryz.func203,Tryz.ntmps203
 go_wp2
 go_ret
 exact ⟨by rw [HL.out];rfl,rfl⟩
theorem take_spec {w:World} {F:Nat->Prop} {r:Nat} {s:RS} (h:Rdr w F r s) (hF:¬ F r) (n:Int) (right:Bool) :
 Calls Tryz.prog 187 #[.pointer (some ⟨r,0,none⟩),.int .i64 n,.bool right] w fun e w' =>
  ∃ A' n' c',e=.returned (.slice A' n' c')/\Bytes w' F A' n' c' (s.take n right).1/\Rdr w' F r (s.take n right).2/\Upd (fun b=>b=r) w w':=by
 have hrdr:=h
 obtain ⟨A,m,c,hb,hy⟩:=h
 have h0:=hb.cell 0
 simp only [List.getElem?_toArray,List.getElem?_cons_zero] at h0
 have h1:=hb.cell 1
 simp only [List.getElem?_toArray,List.getElem?_cons_succ,List.getElem?_cons_zero] at h1
 have f0:=hb.frozen 0
 have f1:=hb.frozen 1
 have HL:=qH hy.len
 by_cases he:s.err=0
 · obtain ⟨left,err⟩:=s
   obtain rfl:err=0:=he
   simp only at h1 HL
   by_cases ha:right=false\/n<0
   · have e1:RS.take ⟨left,0⟩ n right=([],⟨[],2⟩):=by simp [RS.take,ha]
     rw [e1]
     have hr:right=false\/(right=true/\n<0):=by
      rcases ha with ha | ha
      · exact .inl ha
      cases right
      · exact .inl rfl
      exact .inr ⟨rfl,ha⟩
     clear ha e1
     rcases hr with rfl | ⟨rfl,hn⟩
     all_goals
      go_enter Tryz.func187,Tryz.ntmps187
      go_wp2
      go_ret
      exact ⟨none,0,0,rfl,Bytes.nil_ _ _,⟨none,0,0,(hb.put 1 _).put 0 _,Bytes.nil_ _ _⟩,((Upd.refl _ w).put1 _).put1 _⟩
   have hr:right=true:=by cases right <;> simp_all
   subst hr
   have hn:¬ n<0:=fun hh=>ha (.inr hh)
   obtain ⟨k,rfl⟩:∃ k:Nat,n=k:=⟨n.toNat,by omega⟩
   clear ha
   by_cases hk:m<k
   · have e1:RS.take ⟨left,0⟩ k true=([],⟨[],10⟩):=by
      exact RS.take_short (by rw [HL.out];exact hk)
     rw [e1]
     clear e1
     go_enter Tryz.func187,Tryz.ntmps187
     go_wp2
     go_ret
     exact ⟨none,0,0,rfl,Bytes.nil_ _ _,⟨none,0,0,(hb.put 1 _).put 0 _,Bytes.nil_ _ _⟩,((Upd.refl _ w).put1 _).put1 _⟩
   have e1:RS.take ⟨left,0⟩ k true=(left.take k,⟨left.drop k,0⟩):=by
    exact RS.take_ok (by rw [HL.out];omega)
   rw [e1]
   clear e1
   have hkm:k<=m:=by omega
   have hle:=Row.le hy
   have hmx:=Row.max hy
   unfold maxLen at hmx
   have hhead:=hy.head hkm
   have hrest:=hy.rest hkm
   by_cases hck:c=k
   · rw [if_pos hck] at hrest
     obtain rfl:m=k:=by omega
     obtain rfl:=hck
     simp only [Nat.sub_self] at hrest
     have HR:=qH hrest
     clear hrest
     go_enter Tryz.func187,Tryz.ntmps187
     go_wp2
     go_ret
     refine ⟨_,_,_,rfl,hhead.upd ((Upd.refl _ w).put1 _) (fun b hb h=>hF (h ▸ hb)),⟨_,_,_,hb.put 0 _,?_⟩,(Upd.refl _ w).put1 _⟩
     exact HR.out.upd ((Upd.refl _ w).put1 _) (fun b hb h=>hF (h ▸ hb))
   rw [if_neg hck] at hrest
   have HR:=qH hrest
   clear hrest
   go_enter Tryz.func187,Tryz.ntmps187
   go_wp2
   go_ret
   exact ⟨_,_,_,rfl,hhead.upd ((Upd.refl _ w).put1 _) (fun b hb h=>hF (h ▸ hb)),⟨_,_,_,hb.put 0 _,HR.out.upd ((Upd.refl _ w).put1 _) (fun b hb h=>hF (h ▸ hb))⟩,(Upd.refl _ w).put1 _⟩
 have e1:RS.take s n right=([],s):=by simp [RS.take,he]
 rw [e1]
 clear e1
 have he':(s.err != 0)=true:=by simpa using he
 go_enter Tryz.func187,Tryz.ntmps187
 go_wp2
 go_ret
 exact ⟨none,0,0,rfl,Bytes.nil_ _ _,hrdr,Upd.refl _ _⟩
def RS.num (s:RS) (width:Int):Nat×RS:=(be (s.take width (isWidthB width)).1,(s.take width (isWidthB width)).2)
theorem RS.take_len (s:RS) (width:Int):(s.take width (isWidthB width)).1.length<=8:=by
 unfold RS.take
 split
 · split
   · simp
   split
   · simp
   rename_i h1 h2
   have h3:isWidthB width=true:=by cases h:isWidthB width <;> simp_all
   simp only [isWidthB,Bool.or_eq_true,beq_iff_eq] at h3
   simp only [List.length_take]
   omega
 simp
theorem Rdr.here {w:World} {F:Nat->Prop} {r:Nat} {s:RS} (h:Rdr w F r s):∃ A n c,w.cell? ⟨r,0,none⟩=some (.slice A n c):=by
 obtain ⟨A,n,c,hb,hy⟩:=h
 exact ⟨A,n,c,hb.cell 0⟩
theorem num_spec {w:World} {F:Nat->Prop} {r:Nat} {s:RS} (h:Rdr w F r s) (hF:¬ F r) (width:Int) :
 Calls Tryz.prog 163 #[.pointer (some ⟨r,0,none⟩),.int .i64 width] w fun e w' =>
  e=.returned (.int .u64 ((s.num width).1:Int))/\Rdr w' F r (s.num width).2/\Upd (fun b=>b=r) w w':=by
 go_enter Tryz.func163,Tryz.ntmps163
 go_wp2_with fail
 refine (isWidth_spec _ _).mono ?_
 rintro e w' ⟨rfl,rfl⟩
 go_wp2_with fail
 refine (take_spec h hF _ _).mono ?_
 rintro e w1 ⟨A',n',c',rfl,hb,hr,hu⟩
 go_wp2_with fail
 refine (number_spec _ hb (by rw [<- hb.len];exact RS.take_len s width)).mono ?_
 rintro e w' ⟨rfl,rfl⟩
 go_wp2_with fail
 go_ret
 exact ⟨rfl,hr,hu⟩
theorem raw_spec {w:World} {F:Nat->Prop} {r:Nat} {s:RS} (h:Rdr w F r s) (hF:¬ F r) (hs:s.left.length<=140737488355328) (n:Int) :
 Calls Tryz.prog 188 #[.pointer (some ⟨r,0,none⟩),.int .i64 n] w fun e w' =>
  ∃ v,e=.returned v/\OwnB w' w.heap.size v (s.take n true).1/\Rdr w' F r (s.take n true).2/\Upd (fun b=>b=r) w w':=by
 have hlen:(s.take n true).1.length<=140737488355328:=by
  unfold RS.take
  split
  · split
    · simp
    split
    · simp
    simp only [List.length_take];omega
  simp
 go_enter Tryz.func188,Tryz.ntmps188
 go_wp2_with fail
 refine (take_spec h hF _ _).mono ?_
 rintro e w1 ⟨A',n',c',rfl,hb,hr,hu⟩
 go_wp2_with fail
 refine (clone_spec _ hb (by rw [<- hb.len];exact hlen)).mono ?_
 rintro e w2 ⟨v,rfl,ho,hs⟩
 go_wp2_with fail
 go_ret
 exact ⟨v,rfl,own_base ho hu.size,hr.same hs,hu.same hs⟩
theorem newReader_spec {w:World} {F:Nat->Prop} {A:Option Addr} {n c:Nat} {bs:List UInt8} (hb:Bytes w F A n c bs) (hn:n<=140737488355328) :
 Calls Tryz.prog 162 #[.slice A n c] w fun e w'=>∃ r,e=.returned (.pointer (some ⟨r,0,none⟩))/\w.heap.size<=r/\Rdr w' (fun b=>w.heap.size<=b/\b≠r) r ⟨bs,0⟩/\Same w w':=by
 go_enter Tryz.func162,Tryz.ntmps162
 go_wp2_with fail
 refine (clone_spec _ hb hn).mono ?_
 rintro e w1 ⟨v,rfl,ho,hs⟩
 obtain ⟨A',c',rfl⟩:=own_form ho
 go_wp2
 go_ret
 refine ⟨w1.heap.size,rfl,hs.size,⟨A',_,c',Blk.new _ _ _,?_⟩,hs.alloc _⟩
 have hrow:=Row.of_own ho
 exact (hrow.mono (F':=fun b=>w.heap.size<=b/\b≠w1.heap.size) (fun b hlt hb=>⟨hb.2,by omega⟩)).same ((Upd.refl _ w1).alloc _)
end Go.Proofs.YtkopcinhbjimiaaGreatDoor
namespace Go.Proofs.YtkopcinhbjimiaaGreatDoor
open Go.RowKit
def longAny (ts:List ByteArray):Bool:=ts.any fun s=>decide (1000<s.size)
theorem check1_spec (s:ByteArray) (w:World) (h:s.size<=9223372036854775807):Calls Tryz.prog 168 #[.string s] w fun e w'=>e=.returned (.bool (decide (1000<s.size)))/\w=w':=by
 go_enter Tryz.func168,Tryz.ntmps168
 go_wp2
 go_ret
 exact ⟨ret_bool (decide_eq_decide.2 (by omega)),rfl⟩
theorem indexLong_spec {F:Nat->Prop} {A:Option Addr} {n c:Nat} {ts:List ByteArray} (w:World) (h:WRow w F 1 A n c (ts.map Value.string)) (hts:∀ s∈ts,s.size<=9223372036854775807) :
 Calls Tryz.prog 192 #[.slice A n c,.func (.func 168) #[] #[]] w fun e w'=>∃ r:Int,e=.returned (.int .i64 r)/\(longAny ts=decide (0<=r))/\w=w':=by
 have HL:=qH (show ts.length=n from by simpa using h.len)
 have hmx:=h.max
 have hle:=h.le
 unfold maxLen at hmx
 have hn:n<=9223372036854775807:=by omega
 clear hmx hle
 go_enter Tryz.func192,Tryz.ntmps192
 go_wp2
 go_loop [8] (fun i=>∃ k:Nat,k<=n/\i=.int .i64 k/\longAny (ts.take k)=false) (fun i=>n-(intOf i).toNat)
 case atStart=>exact ⟨0,Nat.zero_le _,rfl,rfl⟩
 obtain ⟨k,hk,rfl,hno⟩:=hrel
 by_cases hlt:k<n
 · obtain ⟨b,o,u,rfl,hbl,_,hu,hc⟩:=h.at_ hlt
   have hkl:k<ts.length:=by rw [HL.out];exact hlt
   rw [List.getElem?_map,List.getElem?_eq_getElem hkl] at hu
   obtain rfl:Value.string ts[k]=u:=by simpa using hu
   have HS:=qH (hts ts[k] (List.getElem_mem hkl))
   have HN:=qH hno
   have HT:=qH (show longAny (ts.take (k+1))=(longAny (ts.take k) || decide (1000<ts[k].size)) from by
    rw [List.take_succ_eq_append_getElem hkl];unfold longAny;rw [List.any_append,List.any_cons,List.any_nil,Bool.or_false])
   clear hu hno hts
   generalize ts[k]=s at *
   by_cases hs:1000<s.size
   · go_wp2_with fail
     refine (check1_spec _ _ HS.out).mono ?_
     rintro e w' ⟨rfl,rfl⟩
     go_wp2
     go_ret
     refine ⟨k,rfl,?_,rfl⟩
     have h1:=HT.out
     rw [decide_eq_true hs,Bool.or_true] at h1
     have h2:longAny ts=true:=by
      unfold longAny at h1 ⊢
      obtain ⟨x,hx,hx2⟩:=List.any_eq_true.1 h1
      exact List.any_eq_true.2 ⟨x,List.mem_of_mem_take hx,hx2⟩
     rw [h2]
     simp
   go_wp2_with fail
   refine (check1_spec _ _ HS.out).mono ?_
   rintro e w' ⟨rfl,rfl⟩
   go_wp2
   go_round
   case rel =>
    refine ⟨k+1,by omega,by go_num,?_⟩
    rw [HT.out,HN.out,decide_eq_false hs]
    rfl
   case measure=>simp [intOf];omega
 have hkn:k=n:=by omega
 have HN:=qH hno
 clear hno
 go_wp2
 go_ret
 refine ⟨-1,rfl,?_,rfl⟩
 have h1:=HN.out
 rw [List.take_of_length_le (by rw [HL.out];omega)] at h1
 rw [h1]
 rfl
theorem containsLong_spec {F:Nat->Prop} {A:Option Addr} {n c:Nat} {ts:List ByteArray} (w:World) (h:WRow w F 1 A n c (ts.map Value.string)) (hts:∀ s∈ts,s.size<=9223372036854775807) {r:Bool} (hr:longAny ts=r) :
 Calls Tryz.prog 167 #[.slice A n c,.func (.func 168) #[] #[]] w fun e w'=>e=.returned (.bool r)/\w=w':=by
 subst hr
 go_enter Tryz.func167,Tryz.ntmps167
 go_wp2_with fail
 refine (indexLong_spec _ h hts).mono ?_
 rintro e w' ⟨r,rfl,hr,rfl⟩
 have HR:=qH hr
 clear hr
 go_wp2
 go_ret
 exact ⟨ret_bool HR.out.symm,rfl⟩
theorem numErr_base {kind:Int} (x:Int) (h:4<=kind):numErr (baseK kind) x=numErr (kind-4) x:=by
 unfold baseK
 split
 · rfl
 obtain rfl:kind=4:=by omega
 simp [numErr]
theorem numsErr_take (k:Int) (l:List Int) (i:Nat) (hi:i<l.length) (h:numsErr k (l.take i)=0):numsErr k (l.take (i+1))=numErr k l[i]:=by
 induction l generalizing i with
 | nil=>simp at hi
 | cons x l ih =>
   cases i with
   | zero=>by_cases hx:numErr k x=0 <;> simp [numsErr,hx]
   | succ i =>
     simp only [List.take_succ_cons,numsErr,List.getElem_cons_succ] at h ⊢
     split at h
     · exact absurd h (by assumption)
     rename_i hx
     rw [if_neg hx]
     exact ih i (by simpa using hi) h
theorem numsErr_stop (k:Int) (l:List Int) (i:Nat) (h:numsErr k (l.take i)≠0):numsErr k l=numsErr k (l.take i):=by
 induction l generalizing i with
 | nil=>simp
 | cons x l ih =>
   cases i with
   | zero=>simp [numsErr] at h
   | succ i =>
     simp only [List.take_succ_cons,numsErr] at h ⊢
     split
     · rfl
     rename_i hx
     rw [if_neg hx] at h
     exact ih i h
theorem check_spec {F:Nat->Prop} {A1 A2:Option Addr} {n1 c1 n2 c2:Nat} {g:GVal} (w:World) (h:RdVal w F A1 n1 c1 A2 n2 c2 g) (hx:g.text.size<=9223372036854775807) (hts:∀ s∈g.texts,s.size<=9223372036854775807) :
 Calls Tryz.prog 133 #[g.val A1 n1 c1 A2 n2 c2] w fun e w'=>e=.returned (.int .i64 (chk g))/\Same w w':=by
 obtain ⟨kind,num,text,nums,texts⟩:=g
 simp only [GVal.val]
 simp only at hx hts
 have hk:=h.kind
 simp only at hk
 have hl1:=h.len1
 have hl2:=h.len2
 simp only at hl1 hl2
 have hm1:=h.nums.max
 have hm2:=h.texts.max
 have hle1:=h.nums.le
 have hle2:=h.texts.le
 unfold maxLen at hm1 hm2
 by_cases hrange:kind<1\/8<kind
 · have e1:chk ⟨kind,num,text,nums,texts⟩=40:=by unfold chk;rw [if_pos hrange]
   rw [e1]
   clear e1 hl1 hl2
   rcases hrange with hr | hr
   · go_enter Tryz.func133,Tryz.ntmps133
     go_wp2
     go_ret
     exact ⟨rfl,(Upd.refl _ w).alloc _⟩
   have hr':¬ kind<1:=by omega
   go_enter Tryz.func133,Tryz.ntmps133
   go_wp2
   go_ret
   exact ⟨rfl,(Upd.refl _ w).alloc _⟩
 have hk1:¬ kind<1:=by omega
 have hk8:¬ 8<kind:=by omega
 have hu:=unused_spec (A1:=A1) (A2:=A2) (n1:=n1) (c1:=c1) (n2:=n2) (c2:=c2) (kind:=kind) (num:=num) (text:=text) (w.alloc (.cells #[.int .i64 kind,.int .i64 num,.string text,.slice A1 n1 c1,.slice A2 n2 c2] 46)) (by omega) (by omega)
 have hfb:fieldBad ⟨kind,num,text,nums,texts⟩=badB kind num text.size n1 n2:=by
  simp only [fieldBad,badB,hl1,hl2]
 by_cases hf:badB kind num text.size n1 n2=true
 · have e1:chk ⟨kind,num,text,nums,texts⟩=41:=by
    unfold chk;rw [if_neg hrange,if_pos (by rw [hfb];exact hf)]
   rw [e1]
   rw [hf] at hu
   have HU:=qH hu
   clear e1 hl1 hl2 hf hu hfb
   go_enter Tryz.func133,Tryz.ntmps133
   go_wp2_with fail
   refine HU.out.mono ?_
   rintro e w1 ⟨rfl,hs⟩
   go_wp2
   go_ret
   exact ⟨rfl,((Upd.refl _ w).alloc _).same hs⟩
 have hff:badB kind num text.size n1 n2=false:=by simpa using hf
 rw [hff] at hu
 have HU:=qH hu
 have HC:=qH (show chk ⟨kind,num,text,nums,texts⟩=(if 40<nums.length\/40<texts.length then 45
  else if 1000<text.size\/longAny texts=true then 44
  else if kind<4 then numErr kind num else numsErr (kind-4) nums) from by
  unfold chk;rw [if_neg hrange,if_neg (by rw [hfb,hff];simp)];rfl)
 clear hu hfb hf hff
 have HR:=qH h
 have HL1:=qH hl1
 have HL2:=qH hl2
 by_cases hlist:40<nums.length\/40<texts.length
 · have HC1:=qH (HC.out.trans (if_pos hlist))
   rw [hl1,hl2] at hlist
   clear h hl1 hl2
   rcases hlist with h40 | h40
   · go_enter Tryz.func133,Tryz.ntmps133
     go_wp2_with fail
     refine HU.out.mono ?_
     rintro e w1 ⟨rfl,hs⟩
     have hb:=(Blk.new w 46 #[.int .i64 kind,.int .i64 num,.string text,.slice A1 n1 c1,.slice A2 n2 c2]).same hs
     have c3:w1.cell? ⟨w.heap.size,3,none⟩=some (.slice A1 n1 c1):=hb.cell 3
     go_wp2
     go_ret
     exact ⟨ret_int HC1.out.symm,((Upd.refl _ w).alloc _).same hs⟩
   by_cases h41:40<n1
   · go_enter Tryz.func133,Tryz.ntmps133
     go_wp2_with fail
     refine HU.out.mono ?_
     rintro e w1 ⟨rfl,hs⟩
     have hb:=(Blk.new w 46 #[.int .i64 kind,.int .i64 num,.string text,.slice A1 n1 c1,.slice A2 n2 c2]).same hs
     have c3:w1.cell? ⟨w.heap.size,3,none⟩=some (.slice A1 n1 c1):=hb.cell 3
     go_wp2
     go_ret
     exact ⟨ret_int HC1.out.symm,((Upd.refl _ w).alloc _).same hs⟩
   go_enter Tryz.func133,Tryz.ntmps133
   go_wp2_with fail
   refine HU.out.mono ?_
   rintro e w1 ⟨rfl,hs⟩
   have hb:=(Blk.new w 46 #[.int .i64 kind,.int .i64 num,.string text,.slice A1 n1 c1,.slice A2 n2 c2]).same hs
   have c3:w1.cell? ⟨w.heap.size,3,none⟩=some (.slice A1 n1 c1):=hb.cell 3
   have c4:w1.cell? ⟨w.heap.size,4,none⟩=some (.slice A2 n2 c2):=hb.cell 4
   go_wp2
   go_ret
   exact ⟨ret_int HC1.out.symm,((Upd.refl _ w).alloc _).same hs⟩
 have HC1:=qH (HC.out.trans (if_neg hlist))
 rw [hl1,hl2] at hlist
 have h40:n1<=40:=by omega
 have h41:n2<=40:=by omega
 clear h hl1 hl2 hlist
 by_cases htext:1000<text.size
 · have HC2:=qH (HC1.out.trans (if_pos (.inl htext)))
   go_enter Tryz.func133,Tryz.ntmps133
   go_wp2_with fail
   refine HU.out.mono ?_
   rintro e w1 ⟨rfl,hs⟩
   have hb:=(Blk.new w 46 #[.int .i64 kind,.int .i64 num,.string text,.slice A1 n1 c1,.slice A2 n2 c2]).same hs
   have c2':w1.cell? ⟨w.heap.size,2,none⟩=some (.string text):=hb.cell 2
   have c3:w1.cell? ⟨w.heap.size,3,none⟩=some (.slice A1 n1 c1):=hb.cell 3
   have c4:w1.cell? ⟨w.heap.size,4,none⟩=some (.slice A2 n2 c2):=hb.cell 4
   go_wp2
   go_ret
   exact ⟨ret_int HC2.out.symm,((Upd.refl _ w).alloc _).same hs⟩
 have HT:=qH (show (1000<text.size\/longAny texts=true)↔longAny texts=true from ⟨fun h=>h.resolve_left htext,.inr⟩)
 go_enter Tryz.func133,Tryz.ntmps133
 go_wp2_with fail
 refine HU.out.mono ?_
 rintro e w1 ⟨rfl,hs⟩
 have hb:=(Blk.new w 46 #[.int .i64 kind,.int .i64 num,.string text,.slice A1 n1 c1,.slice A2 n2 c2]).same hs
 have hsame:=((Upd.refl (fun _=>False) w).alloc (.cells #[.int .i64 kind,.int .i64 num,.string text,.slice A1 n1 c1,.slice A2 n2 c2] 46)).same hs
 have c0:w1.cell? ⟨w.heap.size,0,none⟩=some (.int .i64 kind):=hb.cell 0
 have c1':w1.cell? ⟨w.heap.size,1,none⟩=some (.int .i64 num):=hb.cell 1
 have c2':w1.cell? ⟨w.heap.size,2,none⟩=some (.string text):=hb.cell 2
 have c3:w1.cell? ⟨w.heap.size,3,none⟩=some (.slice A1 n1 c1):=hb.cell 3
 have c4:w1.cell? ⟨w.heap.size,4,none⟩=some (.slice A2 n2 c2):=hb.cell 4
 clear hb
 generalize hB:w.heap.size=B at c0 c1' c2' c3 c4
 clear hB hs
 go_wp2_with fail
 by_cases hlong:longAny texts=true
 · refine (containsLong_spec _ (HR.out.texts.same hsame) hts hlong).mono ?_
   rintro e w2 ⟨rfl,rfl⟩
   have HG:=qH hlong
   clear hlong
   go_wp2
   go_ret
   refine ⟨ret_int ?_,hsame⟩
   exact (HC1.out.trans (if_pos (.inr HG.out))).symm
 refine (containsLong_spec _ (HR.out.texts.same hsame) hts (r:=false) (by simpa using hlong)).mono ?_
 rintro e w2 ⟨rfl,rfl⟩
 have HG:=qH (fun hh=>hlong (HT.out.1 hh))
 clear hlong
 by_cases h4:kind<4
 · go_wp2_with fail
   refine (checkNum_spec _ _ _ (by omega) (by omega)).mono ?_
   rintro e w3 ⟨rfl,rfl⟩
   go_wp2
   go_ret
   refine ⟨ret_int ?_,hsame⟩
   rw [HC1.out,if_neg HG.out,if_pos h4]
   rw [show baseK kind=kind from by unfold baseK;rw [if_neg (by omega)]]
 go_wp2
 go_loop [51] (fun i=>∃ k:Nat,k<=n1/\i=.int .i64 k/\Hid (numsErr (kind-4) (nums.take k)=0)) (fun i=>n1-(intOf i).toNat)
 case atStart=>exact ⟨0,Nat.zero_le _,rfl,qH rfl⟩
 obtain ⟨k,hk,rfl,hno⟩:=hrel
 have HK:=qH (show numsErr (kind-4) nums=chk ⟨kind,num,text,nums,texts⟩ from by
  rw [HC1.out,if_neg HG.out,if_neg (by omega)])
 by_cases hlt:k<n1
 · have hrow:=HR.out.nums.same hsame
   obtain ⟨b,o,u,rfl,hbl,_,hu,hc⟩:=hrow.at_ hlt
   have hkl:k<nums.length:=by rw [HL1.out];exact hlt
   simp only [List.getElem?_map,List.getElem?_eq_getElem hkl,Option.map_some,Option.some.injEq] at hu
   subst hu
   have HN:=qH (numsErr_take (kind-4) nums k hkl hno.out)
   have HS:=qH (numsErr_stop (kind-4) nums (k+1))
   clear hrow
   generalize nums[k]=x at *
   by_cases hz:numErr (kind-4) x=0
   · go_wp2_with fail
     refine (checkNum_spec _ _ _ (by omega) (by omega)).mono ?_
     rintro e w3 ⟨rfl,rfl⟩
     have hz':numErr (baseK kind) x=0:=by rw [numErr_base x (by omega)];exact hz
     have HZ:=qH hz
     clear hz
     go_wp2
     go_round
     case rel=>exact ⟨k+1,by omega,by go_num,qH (HN.out.trans HZ.out)⟩
     case measure=>simp [intOf];omega
   go_wp2_with fail
   refine (checkNum_spec _ _ _ (by omega) (by omega)).mono ?_
   rintro e w3 ⟨rfl,rfl⟩
   have hb':=numErr_base x (show 4<=kind by omega)
   have hz':(numErr (baseK kind) x != 0)=true:=by rw [hb'];simpa using hz
   have HZ:=qH hz
   have HB:=qH hb'
   clear hz hb'
   go_wp2
   go_ret
   refine ⟨ret_int ?_,hsame⟩
   rw [<- HK.out,HB.out,HS.out (by rw [HN.out];exact HZ.out),HN.out]
 obtain rfl:k=n1:=by omega
 go_wp2
 go_ret
 refine ⟨ret_int ?_,hsame⟩
 rw [<- HK.out,<-hno.out,List.take_of_length_le (by rw [HL1.out];exact Nat.le_refl _)]
end Go.Proofs.YtkopcinhbjimiaaGreatDoor
namespace Go.Proofs.YtkopcinhbjimiaaGreatDoor
open Go.RowKit
theorem take_eq_succ {α:Type} {l m:List α} {k:Nat} (h1:k<l.length) (h2:k<m.length) (h:l.take k=m.take k) (he:l[k]=m[k]):l.take (k+1)=m.take (k+1):=by
 rw [List.take_succ_eq_append_getElem h1,List.take_succ_eq_append_getElem h2,h,he]
theorem ne_of_at {α:Type} {l m:List α} {k:Nat} (h1:k<l.length) (h2:k<m.length) (he:l[k]≠m[k]):l≠m:=by
 rintro rfl
 exact he rfl
theorem str_eq_iff (s t:ByteArray):s.toList=t.toList↔s=t:=by
 rw [ByteArray.toList_eq,ByteArray.toList_eq]
 constructor
 · intro h
   cases s;cases t
   congr 1
   exact Array.toList_inj.1 h
 rintro rfl;rfl
instance:DecidableEq ByteArray:=fun a b=>decidable_of_iff _ (str_eq_iff a b)
def sameB (g h:GVal):Bool:=g.kind==h.kind && (g.num==h.num && (g.text.toList==h.text.toList && (decide (g.nums=h.nums) && decide (g.texts=h.texts))))
theorem sameB_iff (g h:GVal):sameB g h=true↔g=h:=by
 unfold sameB
 simp only [Bool.and_eq_true,beq_iff_eq,decide_eq_true_eq,str_eq_iff]
 cases g;cases h
 simp
theorem rsame_spec {F F':Nat->Prop} {A1 A2 B1 B2:Option Addr} {n1 c1 n2 c2 m1 d1 m2 d2:Nat} {g h:GVal} (w:World) (hg:RdVal w F A1 n1 c1 A2 n2 c2 g) (hh:RdVal w F' B1 m1 d1 B2 m2 d2 h) :
 Calls Tryz.prog 62 #[g.val A1 n1 c1 A2 n2 c2,h.val B1 m1 d1 B2 m2 d2] w fun e w'=>e=.returned (.bool (sameB g h))/\Same w w':=by
 obtain ⟨kind,num,text,nums,texts⟩:=g
 obtain ⟨kind',num',text',nums',texts'⟩:=h
 simp only [GVal.val]
 have H1:=qH hg
 have H2:=qH hh
 have HL1:=qH (show nums.length=n1 from hg.len1)
 have HL2:=qH (show texts.length=n2 from hg.len2)
 have HM1:=qH (show nums'.length=m1 from hh.len1)
 have HM2:=qH (show texts'.length=m2 from hh.len2)
 have hn1:n1<=9223372036854775807:=by have:=hg.nums.le;have:=hg.nums.max;unfold maxLen at this;omega
 have hn2:n2<=9223372036854775807:=by have:=hg.texts.le;have:=hg.texts.max;unfold maxLen at this;omega
 have hm1:m1<=9223372036854775807:=by have:=hh.nums.le;have:=hh.nums.max;unfold maxLen at this;omega
 have hm2:m2<=9223372036854775807:=by have:=hh.texts.le;have:=hh.texts.max;unfold maxLen at this;omega
 clear hg hh
 by_cases hk:kind=kind'
 case neg =>
  have hk':(kind != kind')=true:=by simpa using hk
  have HB:=qH (show sameB ⟨kind,num,text,nums,texts⟩ ⟨kind',num',text',nums',texts'⟩=false from by
   have:(kind==kind')=false:=by simpa using hk
   simp only [sameB,this,Bool.false_and])
  go_enter Tryz.func62,Tryz.ntmps62
  go_wp2
  go_ret
  exact ⟨ret_bool HB.out.symm,((Upd.refl _ w).alloc _).alloc _⟩
 subst hk
 by_cases hn:num=num'
 case neg =>
  have hn':(num != num')=true:=by simpa using hn
  have HB:=qH (show sameB ⟨kind,num,text,nums,texts⟩ ⟨kind,num',text',nums',texts'⟩=false from by
   have:(num==num')=false:=by simpa using hn
   simp only [sameB,this,Bool.false_and,Bool.and_false])
  go_enter Tryz.func62,Tryz.ntmps62
  go_wp2
  go_ret
  exact ⟨ret_bool HB.out.symm,((Upd.refl _ w).alloc _).alloc _⟩
 subst hn
 by_cases ht:(text.toList==text'.toList)=true
 case neg =>
  have ht':(text.toList==text'.toList)=false:=by simpa using ht
  have HB:=qH (show sameB ⟨kind,num,text,nums,texts⟩ ⟨kind,num,text',nums',texts'⟩=false from by
   simp only [sameB,ht',Bool.false_and,Bool.and_false])
  go_enter Tryz.func62,Tryz.ntmps62
  go_wp2
  go_ret
  exact ⟨ret_bool HB.out.symm,((Upd.refl _ w).alloc _).alloc _⟩
 have HB:=qH (show sameB ⟨kind,num,text,nums,texts⟩ ⟨kind,num,text',nums',texts'⟩=(decide (nums=nums') && decide (texts=texts')) from by
  simp [sameB,ht])
 by_cases hl1:n1=m1
 case neg =>
  have hl1':((n1:Int) != (m1:Int))=true:=by rw [bne_iff_ne];omega
  have hne:nums≠nums':=by
   rintro rfl
   exact hl1 (HL1.out.symm.trans HM1.out)
  go_enter Tryz.func62,Tryz.ntmps62
  go_wp2
  go_ret
  exact ⟨ret_bool (by rw [HB.out,decide_eq_false hne];rfl),((Upd.refl _ w).alloc _).alloc _⟩
 subst hl1
 by_cases hl2:n2=m2
 case neg =>
  have hl2':((n2:Int) != (m2:Int))=true:=by rw [bne_iff_ne];omega
  have hne:texts≠texts':=by
   rintro rfl
   exact hl2 (HL2.out.symm.trans HM2.out)
  go_enter Tryz.func62,Tryz.ntmps62
  go_wp2
  go_ret
  exact ⟨ret_bool (by rw [HB.out,decide_eq_false hne,Bool.and_false]),((Upd.refl _ w).alloc _).alloc _⟩
 subst hl2
 go_enter Tryz.func62,Tryz.ntmps62
 go_wp2
 have hs0:=((Upd.refl (fun _=>False) w).alloc (.cells #[.int .i64 kind,.int .i64 num,.string text,.slice A1 n1 c1,.slice A2 n2 c2] 46)).alloc (.cells #[.int .i64 kind,.int .i64 num,.string text',.slice B1 n1 d1,.slice B2 n2 d2] 46)
 have hb0:Blk _ w.heap.size _ _:=(Blk.new w 46 #[.int .i64 kind,.int .i64 num,.string text,.slice A1 n1 c1,.slice A2 n2 c2]).alloc (.cells #[.int .i64 kind,.int .i64 num,.string text',.slice B1 n1 d1,.slice B2 n2 d2] 46)
 have hb1:=Blk.new (w.alloc (.cells #[.int .i64 kind,.int .i64 num,.string text,.slice A1 n1 c1,.slice A2 n2 c2] 46)) 46 #[.int .i64 kind,.int .i64 num,.string text',.slice B1 n1 d1,.slice B2 n2 d2]
 rw [World.size_alloc] at hb1
 have hc3:=hb0.cell 3
 have hc4:=hb0.cell 4
 have hd3:=hb1.cell 3
 have hd4:=hb1.cell 4
 simp only [List.getElem?_toArray,List.getElem?_cons_succ,List.getElem?_cons_zero] at hc3 hc4 hd3 hd4
 clear hb0 hb1
 revert hs0 hc3 hc4 hd3 hd4
 generalize (w.alloc (.cells #[.int .i64 kind,.int .i64 num,.string text,.slice A1 n1 c1,.slice A2 n2 c2] 46)).alloc (.cells #[.int .i64 kind,.int .i64 num,.string text',.slice B1 n1 d1,.slice B2 n2 d2] 46)=W
 intro hs0 hc3 hc4 hd3 hd4
 have HW1:=qH (H1.out.same hs0)
 have HW2:=qH (H2.out.same hs0)
 have HS:=qH hs0
 clear hs0
 go_loopw [5] (fun i wr=>∃ k d:Nat,k<=n1/\i=.int .i64 k/\wr=W.drewN d/\Hid (nums.take k=nums'.take k)) (fun i _=>n1-(intOf i).toNat)
 case atStart=>exact ⟨0,0,Nat.zero_le _,rfl,rfl,qH rfl⟩
 obtain ⟨k,d,hk,rfl,rfl,HP⟩:=hrel
 by_cases hlt:k<n1
 · obtain ⟨b,o,u,rfl,hbl,_,hu,hc⟩:=HW1.out.nums.at_ hlt
   obtain ⟨b',o',u',rfl,hbl',_,hu',hc'⟩:=HW2.out.nums.at_ hlt
   have hkl:k<nums.length:=by rw [HL1.out];exact hlt
   have hkl':k<nums'.length:=by rw [HM1.out];exact hlt
   simp only [List.getElem?_map,List.getElem?_eq_getElem hkl,List.getElem?_eq_getElem hkl',Option.map_some,Option.some.injEq] at hu hu'
   subst hu
   subst hu'
   have HT:=qH (take_eq_succ hkl hkl' HP.out)
   have HN:=qH (ne_of_at hkl hkl')
   generalize nums[k]=x at *
   generalize nums'[k]=y at *
   by_cases hxy:x=y
   · subst hxy
     go_wp2_with fail
     go_quiet (fail)
     go_wp2
     go_roundw
     case rel=>exact ⟨k+1,_,by omega,by go_num,rfl,qH (HT.out (by first | rfl | trivial))⟩
     case measure=>simp [intOf];omega
   have hxy':(x != y)=true:=by simpa using hxy
   go_wp2_with fail
   go_quiet (fail)
   go_wp2
   go_ret
   refine ⟨ret_bool ?_,(HS.out.drewN _).drewN _⟩
   rw [HB.out,decide_eq_false (HN.out hxy)]
   rfl
 obtain rfl:k=n1:=by omega
 have HE:=qH (show nums=nums' from by
  have hall:=HP.out
  rwa [List.take_of_length_le (by rw [HL1.out];exact Nat.le_refl _),List.take_of_length_le (by rw [HM1.out];exact Nat.le_refl _)] at hall)
 go_wp2
 go_loopw [6] (fun i wr=>∃ k d:Nat,k<=n2/\i=.int .i64 k/\wr=W.drewN d/\Hid (texts.take k=texts'.take k)) (fun i _=>n2-(intOf i).toNat)
 case atStart=>exact ⟨0,d,Nat.zero_le _,rfl,rfl,qH rfl⟩
 obtain ⟨k2,d2,hk2,rfl,rfl,HP2⟩:=hrel
 by_cases hlt:k2<n2
 · obtain ⟨b,o,u,rfl,hbl,_,hu,hc⟩:=HW1.out.texts.at_ hlt
   obtain ⟨b',o',u',rfl,hbl',_,hu',hc'⟩:=HW2.out.texts.at_ hlt
   have hkl:k2<texts.length:=by rw [HL2.out];exact hlt
   have hkl':k2<texts'.length:=by rw [HM2.out];exact hlt
   simp only [List.getElem?_map,List.getElem?_eq_getElem hkl,List.getElem?_eq_getElem hkl',Option.map_some,Option.some.injEq] at hu hu'
   subst hu
   subst hu'
   have HT:=qH (take_eq_succ hkl hkl' HP2.out)
   have HN:=qH (ne_of_at hkl hkl')
   generalize texts[k2]=x at *
   generalize texts'[k2]=y at *
   by_cases hxy:x=y
   · subst hxy
     go_wp2_with fail
     go_quiet (fail)
     go_wp2
     go_roundw
     case rel=>exact ⟨k2+1,_,by omega,by go_num,rfl,qH (HT.out (by first | rfl | trivial))⟩
     case measure=>simp [intOf];omega
   have hxy':(x.toList==y.toList)=false:=by rw [beq_eq_false_iff_ne];exact fun hh=>hxy ((str_eq_iff x y).1 hh)
   go_wp2_with fail
   go_quiet (fail)
   go_wp2
   go_ret
   refine ⟨ret_bool ?_,(HS.out.drewN _).drewN _⟩
   rw [HB.out,decide_eq_false (HN.out hxy),Bool.and_false]
 obtain rfl:k2=n2:=by omega
 have HE2:=qH (show texts=texts' from by
  have hall:=HP2.out
  rwa [List.take_of_length_le (by rw [HL2.out];exact Nat.le_refl _),List.take_of_length_le (by rw [HM2.out];exact Nat.le_refl _)] at hall)
 go_wp2
 go_ret
 refine ⟨ret_bool ?_,HS.out.drewN _⟩
 rw [HB.out,decide_eq_true HE.out,decide_eq_true HE2.out]
 rfl
end Go.Proofs.YtkopcinhbjimiaaGreatDoor
