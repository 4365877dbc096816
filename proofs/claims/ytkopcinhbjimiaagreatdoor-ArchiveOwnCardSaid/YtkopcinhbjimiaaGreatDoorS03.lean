/- Texts that the claim leans on: walks and plain laws, function by function. -/
import Derived.Deep.QuietTactic
import Derived.BigQuiet
import Derived.Laws.BytesArg
import Derived.Deep.RegionLaw
import Derived.Deep.DeepCutAuto
import Derived.Test.YtkopcinhbjimiaaGreatDoorS02
set_option maxRecDepth 100000
set_option maxHeartbeats 16000000
namespace Go.Proofs.YtkopcinhbjimiaaGreatDoor
open Go.RowKit
def ZaP (ts:List ByteArray):Bool:=ts.any fun s=>decide (1000<s.size)
theorem Zgn (s:ByteArray) (w:World) (h:s.size<=9223372036854775807):Calls Tryz.prog 168 #[.string s] w fun e w'=>e=.returned (.bool (decide (1000<s.size)))/\w=w':=by
 go_enter Tryz.func168,Tryz.ntmps168
 go_wp2
 go_ret
 exact ⟨Zbl (decide_eq_decide.2 (by omega)),rfl⟩
theorem Zhf {F:Nat->Prop} {A:Option Addr} {n c:Nat} {ts:List ByteArray} (w:World) (h:WRow w F 1 A n c (ts.map Value.string)) (hts:∀ s∈ts,s.size<=9223372036854775807) :
 Calls Tryz.prog 192 #[.slice A n c,.func (.func 168) #[] #[]] w fun e w'=>∃ r:Int,e=.returned (.int .i64 r)/\(ZaP ts=decide (0<=r))/\w=w':=by
 have HL:=qH (show ts.length=n from by simpa using h.len)
 have hmx:=h.max
 have hle:=h.le
 unfold maxLen at hmx
 have hn:n<=9223372036854775807:=by omega
 clear hmx hle
 go_enter Tryz.func192,Tryz.ntmps192
 go_wp2
 go_loop [8] (fun i=>∃ k:Nat,k<=n/\i=.int .i64 k/\ZaP (ts.take k)=false) (fun i=>n-(intOf i).toNat)
 case atStart=>exact ⟨0,Nat.zero_le _,rfl,rfl⟩
 obtain ⟨k,hk,rfl,hno⟩:=hrel
 by_cases hlt:k<n
 · obtain ⟨b,o,u,rfl,hbl,_,hu,hc⟩:=h.at_ hlt
   have hkl:k<ts.length:=by rw [HL.out];exact hlt
   rw [List.getElem?_map,List.getElem?_eq_getElem hkl] at hu
   obtain rfl:Value.string ts[k]=u:=by simpa using hu
   have HS:=qH (hts ts[k] (List.getElem_mem hkl))
   have HN:=qH hno
   have HT:=qH (show ZaP (ts.take (k+1))=(ZaP (ts.take k) || decide (1000<ts[k].size)) from by
    rw [List.take_succ_eq_append_getElem hkl];unfold ZaP;rw [List.any_append,List.any_cons,List.any_nil,Bool.or_false])
   clear hu hno hts
   generalize ts[k]=s at *
   by_cases hs:1000<s.size
   · go_wp2_with fail
     refine (Zgn _ _ HS.out).mono ?_
     rintro e w' ⟨rfl,rfl⟩
     go_wp2
     go_ret
     refine ⟨k,rfl,?_,rfl⟩
     have h1:=HT.out
     rw [decide_eq_true hs,Bool.or_true] at h1
     have h2:ZaP ts=true:=by
      unfold ZaP at h1 ⊢
      obtain ⟨x,hx,hx2⟩:=List.any_eq_true.1 h1
      exact List.any_eq_true.2 ⟨x,List.mem_of_mem_take hx,hx2⟩
     rw [h2]
     simp
   go_wp2_with fail
   refine (Zgn _ _ HS.out).mono ?_
   rintro e w' ⟨rfl,rfl⟩
   go_wp2
   go_round
   case rel =>
    refine ⟨k+1,by omega,by go_num,?_⟩
    rw [HT.out,HN.out,decide_eq_false hs]
    rfl
   case measure=>simp [intOf];omega
 have hkn:k=n:=by omega
 have HN:=qH hno
 clear hno
 go_wp2
 go_ret
 refine ⟨-1,rfl,?_,rfl⟩
 have h1:=HN.out
 rw [List.take_of_length_le (by rw [HL.out];omega)] at h1
 rw [h1]
 rfl
theorem ZcW {F:Nat->Prop} {A:Option Addr} {n c:Nat} {ts:List ByteArray} (w:World) (h:WRow w F 1 A n c (ts.map Value.string)) (hts:∀ s∈ts,s.size<=9223372036854775807) {r:Bool} (hr:ZaP ts=r) :
 Calls Tryz.prog 167 #[.slice A n c,.func (.func 168) #[] #[]] w fun e w'=>e=.returned (.bool r)/\w=w':=by
 subst hr
 go_enter Tryz.func167,Tryz.ntmps167
 go_wp2_with fail
 refine (Zhf _ h hts).mono ?_
 rintro e w' ⟨r,rfl,hr,rfl⟩
 have HR:=qH hr
 clear hr
 go_wp2
 go_ret
 exact ⟨Zbl HR.out.symm,rfl⟩
theorem Zgo {kind:Int} (x:Int) (h:4<=kind):Zat (ZbA kind) x=Zat (kind-4) x:=by
 unfold ZbA
 split
 · rfl
 obtain rfl:kind=4:=by omega
 simp [Zat]
theorem Zft (k:Int) (l:List Int) (i:Nat) (hi:i<l.length) (h:ZaJ k (l.take i)=0):ZaJ k (l.take (i+1))=Zat k l[i]:=by
 induction l generalizing i with
 | nil=>simp at hi
 | cons x l ih =>
   cases i with
   | zero=>by_cases hx:Zat k x=0 <;> simp [ZaJ,hx]
   | succ i =>
     simp only [List.take_succ_cons,ZaJ,List.getElem_cons_succ] at h ⊢
     split at h
     · exact absurd h (by assumption)
     rename_i hx
     rw [if_neg hx]
     exact ih i (by simpa using hi) h
theorem Zfu (k:Int) (l:List Int) (i:Nat) (h:ZaJ k (l.take i)≠0):ZaJ k l=ZaJ k (l.take i):=by
 induction l generalizing i with
 | nil=>simp
 | cons x l ih =>
   cases i with
   | zero=>simp [ZaJ] at h
   | succ i =>
     simp only [List.take_succ_cons,ZaJ] at h ⊢
     split
     · rfl
     rename_i hx
     rw [if_neg hx] at h
     exact ih i h
theorem Zhp {F:Nat->Prop} {A1 A2:Option Addr} {n1 c1 n2 c2:Nat} {g:GVal} (w:World) (h:Zcg w F A1 n1 c1 A2 n2 c2 g) (hx:g.text.size<=9223372036854775807) (hts:∀ s∈g.texts,s.size<=9223372036854775807) :
 Calls Tryz.prog 133 #[g.val A1 n1 c1 A2 n2 c2] w fun e w'=>e=.returned (.int .i64 (chk g))/\Same w w':=by
 obtain ⟨kind,num,text,nums,texts⟩:=g
 simp only [GVal.val]
 simp only at hx hts
 have hk:=h.kind
 simp only at hk
 have hl1:=h.len1
 have hl2:=h.len2
 simp only at hl1 hl2
 have hm1:=h.nums.max
 have hm2:=h.texts.max
 have hle1:=h.nums.le
 have hle2:=h.texts.le
 unfold maxLen at hm1 hm2
 by_cases hrange:kind<1\/8<kind
 · have e1:chk ⟨kind,num,text,nums,texts⟩=40:=by unfold chk;rw [if_pos hrange]
   rw [e1]
   clear e1 hl1 hl2
   rcases hrange with hr | hr
   · go_enter Tryz.func133,Tryz.ntmps133
     go_wp2
     go_ret
     exact ⟨rfl,(Upd.refl _ w).alloc _⟩
   have hr':¬ kind<1:=by omega
   go_enter Tryz.func133,Tryz.ntmps133
   go_wp2
   go_ret
   exact ⟨rfl,(Upd.refl _ w).alloc _⟩
 have hk1:¬ kind<1:=by omega
 have hk8:¬ 8<kind:=by omega
 have hu:=ZjP (A1:=A1) (A2:=A2) (n1:=n1) (c1:=c1) (n2:=n2) (c2:=c2) (kind:=kind) (num:=num) (text:=text) (w.alloc (.cells #[.int .i64 kind,.int .i64 num,.string text,.slice A1 n1 c1,.slice A2 n2 c2] 46)) (by omega) (by omega)
 have hfb:ZbE ⟨kind,num,text,nums,texts⟩=badB kind num text.size n1 n2:=by
  simp only [ZbE,badB,hl1,hl2]
 by_cases hf:badB kind num text.size n1 n2=true
 · have e1:chk ⟨kind,num,text,nums,texts⟩=41:=by
    unfold chk;rw [if_neg hrange,if_pos (by rw [hfb];exact hf)]
   rw [e1]
   rw [hf] at hu
   have HU:=qH hu
   clear e1 hl1 hl2 hf hu hfb
   go_enter Tryz.func133,Tryz.ntmps133
   go_wp2_with fail
   refine HU.out.mono ?_
   rintro e w1 ⟨rfl,hs⟩
   go_wp2
   go_ret
   exact ⟨rfl,((Upd.refl _ w).alloc _).same hs⟩
 have hff:badB kind num text.size n1 n2=false:=by simpa using hf
 rw [hff] at hu
 have HU:=qH hu
 have HC:=qH (show chk ⟨kind,num,text,nums,texts⟩=(if 40<nums.length\/40<texts.length then 45
  else if 1000<text.size\/ZaP texts=true then 44
  else if kind<4 then Zat kind num else ZaJ (kind-4) nums) from by
  unfold chk;rw [if_neg hrange,if_neg (by rw [hfb,hff];simp)];rfl)
 clear hu hfb hf hff
 have HR:=qH h
 have HL1:=qH hl1
 have HL2:=qH hl2
 by_cases hlist:40<nums.length\/40<texts.length
 · have HC1:=qH (HC.out.trans (if_pos hlist))
   rw [hl1,hl2] at hlist
   clear h hl1 hl2
   rcases hlist with h40 | h40
   · go_enter Tryz.func133,Tryz.ntmps133
     go_wp2_with fail
     refine HU.out.mono ?_
     rintro e w1 ⟨rfl,hs⟩
     have hb:=(Blk.new w 46 #[.int .i64 kind,.int .i64 num,.string text,.slice A1 n1 c1,.slice A2 n2 c2]).same hs
     have c3:w1.cell? ⟨w.heap.size,3,none⟩=some (.slice A1 n1 c1):=hb.cell 3
     go_wp2
     go_ret
     exact ⟨ZaS HC1.out.symm,((Upd.refl _ w).alloc _).same hs⟩
   by_cases h41:40<n1
   · go_enter Tryz.func133,Tryz.ntmps133
     go_wp2_with fail
     refine HU.out.mono ?_
     rintro e w1 ⟨rfl,hs⟩
     have hb:=(Blk.new w 46 #[.int .i64 kind,.int .i64 num,.string text,.slice A1 n1 c1,.slice A2 n2 c2]).same hs
     have c3:w1.cell? ⟨w.heap.size,3,none⟩=some (.slice A1 n1 c1):=hb.cell 3
     go_wp2
     go_ret
     exact ⟨ZaS HC1.out.symm,((Upd.refl _ w).alloc _).same hs⟩
   go_enter Tryz.func133,Tryz.ntmps133
   go_wp2_with fail
   refine HU.out.mono ?_
   rintro e w1 ⟨rfl,hs⟩
   have hb:=(Blk.new w 46 #[.int .i64 kind,.int .i64 num,.string text,.slice A1 n1 c1,.slice A2 n2 c2]).same hs
   have c3:w1.cell? ⟨w.heap.size,3,none⟩=some (.slice A1 n1 c1):=hb.cell 3
   have c4:w1.cell? ⟨w.heap.size,4,none⟩=some (.slice A2 n2 c2):=hb.cell 4
   go_wp2
   go_ret
   exact ⟨ZaS HC1.out.symm,((Upd.refl _ w).alloc _).same hs⟩
 have HC1:=qH (HC.out.trans (if_neg hlist))
 rw [hl1,hl2] at hlist
 have h40:n1<=40:=by omega
 have h41:n2<=40:=by omega
 clear h hl1 hl2 hlist
 by_cases htext:1000<text.size
 · have HC2:=qH (HC1.out.trans (if_pos (.inl htext)))
   go_enter Tryz.func133,Tryz.ntmps133
   go_wp2_with fail
   refine HU.out.mono ?_
   rintro e w1 ⟨rfl,hs⟩
   have hb:=(Blk.new w 46 #[.int .i64 kind,.int .i64 num,.string text,.slice A1 n1 c1,.slice A2 n2 c2]).same hs
   have c2':w1.cell? ⟨w.heap.size,2,none⟩=some (.string text):=hb.cell 2
   have c3:w1.cell? ⟨w.heap.size,3,none⟩=some (.slice A1 n1 c1):=hb.cell 3
   have c4:w1.cell? ⟨w.heap.size,4,none⟩=some (.slice A2 n2 c2):=hb.cell 4
   go_wp2
   go_ret
   exact ⟨ZaS HC2.out.symm,((Upd.refl _ w).alloc _).same hs⟩
 have HT:=qH (show (1000<text.size\/ZaP texts=true)↔ZaP texts=true from ⟨fun h=>h.resolve_left htext,.inr⟩)
 go_enter Tryz.func133,Tryz.ntmps133
 go_wp2_with fail
 refine HU.out.mono ?_
 rintro e w1 ⟨rfl,hs⟩
 have hb:=(Blk.new w 46 #[.int .i64 kind,.int .i64 num,.string text,.slice A1 n1 c1,.slice A2 n2 c2]).same hs
 have hsame:=((Upd.refl (fun _=>False) w).alloc (.cells #[.int .i64 kind,.int .i64 num,.string text,.slice A1 n1 c1,.slice A2 n2 c2] 46)).same hs
 have c0:w1.cell? ⟨w.heap.size,0,none⟩=some (.int .i64 kind):=hb.cell 0
 have c1':w1.cell? ⟨w.heap.size,1,none⟩=some (.int .i64 num):=hb.cell 1
 have c2':w1.cell? ⟨w.heap.size,2,none⟩=some (.string text):=hb.cell 2
 have c3:w1.cell? ⟨w.heap.size,3,none⟩=some (.slice A1 n1 c1):=hb.cell 3
 have c4:w1.cell? ⟨w.heap.size,4,none⟩=some (.slice A2 n2 c2):=hb.cell 4
 clear hb
 generalize hB:w.heap.size=B at c0 c1' c2' c3 c4
 clear hB hs
 go_wp2_with fail
 by_cases hlong:ZaP texts=true
 · refine (ZcW _ (HR.out.texts.same hsame) hts hlong).mono ?_
   rintro e w2 ⟨rfl,rfl⟩
   have HG:=qH hlong
   clear hlong
   go_wp2
   go_ret
   refine ⟨ZaS ?_,hsame⟩
   exact (HC1.out.trans (if_pos (.inr HG.out))).symm
 refine (ZcW _ (HR.out.texts.same hsame) hts (r:=false) (by simpa using hlong)).mono ?_
 rintro e w2 ⟨rfl,rfl⟩
 have HG:=qH (fun hh=>hlong (HT.1 hh))
 clear hlong
 by_cases h4:kind<4
 · go_wp2_with fail
   refine (Zcy _ _ _ (by omega) (by omega)).mono ?_
   rintro e w3 ⟨rfl,rfl⟩
   go_wp2
   go_ret
   refine ⟨ZaS ?_,hsame⟩
   rw [HC1.out,if_neg HG.out,if_pos h4]
   rw [show ZbA kind=kind from by unfold ZbA;rw [if_neg (by omega)]]
 go_wp2
 go_loop [51] (fun i=>∃ k:Nat,k<=n1/\i=.int .i64 k/\Hid (ZaJ (kind-4) (nums.take k)=0)) (fun i=>n1-(intOf i).toNat)
 case atStart=>exact ⟨0,Nat.zero_le _,rfl,qH rfl⟩
 obtain ⟨k,hk,rfl,hno⟩:=hrel
 have HK:=qH (show ZaJ (kind-4) nums=chk ⟨kind,num,text,nums,texts⟩ from by
  rw [HC1.out,if_neg HG.out,if_neg (by omega)])
 by_cases hlt:k<n1
 · have hrow:=HR.out.nums.same hsame
   obtain ⟨b,o,u,rfl,hbl,_,hu,hc⟩:=hrow.at_ hlt
   have hkl:k<nums.length:=by rw [HL1.out];exact hlt
   simp only [List.getElem?_map,List.getElem?_eq_getElem hkl,Option.map_some,Option.some.injEq] at hu
   subst hu
   have HN:=qH (Zft (kind-4) nums k hkl hno.out)
   have HS:=qH (Zfu (kind-4) nums (k+1))
   clear hrow
   generalize nums[k]=x at *
   by_cases hz:Zat (kind-4) x=0
   · go_wp2_with fail
     refine (Zcy _ _ _ (by omega) (by omega)).mono ?_
     rintro e w3 ⟨rfl,rfl⟩
     have hz':Zat (ZbA kind) x=0:=by rw [Zgo x (by omega)];exact hz
     have HZ:=qH hz
     clear hz
     go_wp2
     go_round
     case rel=>exact ⟨k+1,by omega,by go_num,qH (HN.out.trans HZ.out)⟩
     case measure=>simp [intOf];omega
   go_wp2_with fail
   refine (Zcy _ _ _ (by omega) (by omega)).mono ?_
   rintro e w3 ⟨rfl,rfl⟩
   have hb':=Zgo x (show 4<=kind by omega)
   have hz':(Zat (ZbA kind) x != 0)=true:=by rw [hb'];simpa using hz
   have HZ:=qH hz
   have HB:=qH hb'
   clear hz hb'
   go_wp2
   go_ret
   refine ⟨ZaS ?_,hsame⟩
   rw [<- HK.out,HB.out,HS.out (by rw [HN.out];exact HZ.out),HN.out]
 obtain rfl:k=n1:=by omega
 go_wp2
 go_ret
 refine ⟨ZaS ?_,hsame⟩
 rw [<- HK.out,<-hno.out,List.take_of_length_le (by rw [HL1.out];exact Nat.le_refl _)]
theorem ZcX (s t:ByteArray):s.toList=t.toList↔s=t:=by
 rw [ByteArray.toList_eq,ByteArray.toList_eq]
 constructor
 · intro h
   cases s;cases t
   congr 1
   exact Array.toList_inj.1 h
 rintro rfl;rfl
instance Zoh:DecidableEq ByteArray:=fun a b=>decidable_of_iff _ (ZcX a b)
theorem ZbF {F:Nat->Prop} {A:Option Addr} {n c:Nat} {bs:List UInt8} {w:World} (hb:Bytes w F A n c bs) :
 (convert 28 9 (.slice A n c)).run Tryz.prog w=.ok (.string ⟨bs.toArray⟩) w:=by
 have hl:=hb.len
 cases hA:A with
 | none =>
   have hc:=hb.nil hA
   have hle:=Row.le hb
   obtain rfl:n=0:=by omega
   obtain rfl:c=0:=by omega
   have:bs=[]:=List.eq_nil_of_length_eq_zero hl
   subst this
   exact run_convert_bytes_nil (P:=Tryz.prog) w 28 5 Tryz.underlying28 Tryz.underlying5 0 0 9 Tryz.underlying9
 | some a =>
   obtain ⟨h1,h2,h3,h4⟩:=Row.cell hb a hA
   obtain ⟨b,o,s⟩:=a
   subst h1
   have h:=run_convert_bytes_arg (P:=Tryz.prog) w 28 5 Tryz.underlying28 Tryz.underlying5 b o n c (bs.map fun x=>(x.toNat:Int)) (by simpa using hl) (fun i hi=>by
    have hil:i<bs.length:=by omega
    have:=h4 i (u8v bs[i]) (by simp [List.getElem?_eq_getElem hil])
    simp only at this
    rw [this]
    simp [u8v,List.getD,List.getElem?_eq_getElem hil]) 9 Tryz.underlying9
   rw [h]
   congr 2
   unfold strOfNums
   congr 2
   rw [List.map_map]
   conv=>rhs;rw [<- List.map_id bs]
   apply List.map_congr_left
   intro x _
   simp
theorem ZkZ (n:Nat) (h:n<18446744073709551616):wrap64 (n:Int)=i64 n:=by
 unfold wrap64 i64
 split <;> omega
theorem RS.num_short {l:List UInt8} {k:Nat} (hk:Zao k=true) (h:l.length<k):RS.num ⟨l,0⟩ k=(0,⟨[],10⟩):=by
 unfold RS.num
 rw [hk,RS.take_short h]
 rfl
theorem RS.num_ok {l:List UInt8} {k:Nat} (hk:Zao k=true) (h:k<=l.length):RS.num ⟨l,0⟩ k=(be (l.take k),⟨l.drop k,0⟩):=by
 unfold RS.num
 rw [hk,RS.take_ok h]
def ZcH (K:Int) (l:List UInt8) (n e:Int) (s':RS):Prop :=
 match pNum K l with
 | .error e0=>e=e0/\e≠0
 | .ok (m,r)=>e=0/\n=m/\s'=⟨r,0⟩
theorem Zgp {w:World} {F:Nat->Prop} {r:Nat} {l:List UInt8} (h:Rdr w F r ⟨l,0⟩) (hF:¬ F r) (kind:Int) (hk0:1<=kind) (hk:kind<=8) :
 Calls Tryz.prog 202 #[.pointer (some ⟨r,0,none⟩),.int .i64 kind] w fun e w'=>∃ (n er:Int) (s':RS),e=.returned (.tuple #[.int .i64 n,.int .i64 er])/\ZcH (ZbA kind) l n er s'/\Rdr w' F r s'/\Upd (fun b=>b=r) w w':=by
 have hb:=Zew kind
 have hcn:=fun (n:Int) (w:World)=>Zcy kind n w hk0 hk
 have HN:=qH (show ∀ (width:Nat),width=(if ZbA kind=1 then 1 else 8)->pNum (ZbA kind) l=if l.length<width then .error 10
  else if Zat (ZbA kind) (i64 (be (l.take width)))≠0 then .error (Zat (ZbA kind) (i64 (be (l.take width))))
  else .ok (i64 (be (l.take width)),l.drop width) from fun width hw=>by subst hw;rfl)
 generalize ZbA kind=K at hb hcn HN ⊢
 have HB:=qH hb
 have HCN:=qH hcn
 have HR:=qH h
 clear hb hcn h
 by_cases hK:K=1
 · subst hK
   have HWD':=qH (show 1=(if (1:Int)=1 then 1 else 8) from rfl)
   by_cases hs:l.length<1
   · have HP:=qH ((HN.out 1 HWD'.out).trans (if_pos hs))
     have hm:=Zbb HR.out hF 1
     have hx:=RS.num_short (l:=l) (k:=1) rfl hs
     rw [show ((1:Nat):Int)=1 from rfl] at hx
     rw [hx] at hm
     have HM:=qH hm
     clear hs hm hx
     go_enter Tryz.func202,Tryz.ntmps202
     go_wp2_with fail
     refine (HB.out _ (by omega) (by omega)).mono ?_
     rintro e w' ⟨rfl,rfl⟩
     go_wp2_with fail
     refine HM.out.mono ?_
     rintro e w1 ⟨rfl,hr,hu⟩
     have HR1:=qH hr
     have HU1:=qH hu
     clear hr hu
     go_wp2_with fail
     refine (Zbm HR1.out).mono ?_
     rintro e w2 ⟨rfl,rfl⟩
     go_wp2
     go_ret2
     exact ⟨_,_,_,rfl,by unfold ZcH;rw [HP.out];exact ⟨rfl,by decide⟩,HR1.out,HU1.out⟩
   have HP:=qH ((HN.out 1 HWD'.out).trans (if_neg hs))
   have hm:=Zbb HR.out hF 1
   have hx:=RS.num_ok (l:=l) (k:=1) rfl (by omega)
   rw [show ((1:Nat):Int)=1 from rfl] at hx
   rw [hx] at hm
   have HM:=qH hm
   have HLT:=qH (ZeV l 1 (by omega))
   clear hs hm hx
   generalize be (l.take 1)=N at *
   have HI:=qH (ZkZ N HLT.out)
   have HI2:=qH (Zgj N HLT.out)
   go_enter Tryz.func202,Tryz.ntmps202
   go_wp2_with fail
   refine (HB.out _ (by omega) (by omega)).mono ?_
   rintro e w' ⟨rfl,rfl⟩
   go_wp2_with fail
   refine HM.out.mono ?_
   rintro e w1 ⟨rfl,hr,hu⟩
   have HR1:=qH hr
   have HU1:=qH hu
   clear hr hu
   go_wp2_with fail
   refine (Zbm HR1.out).mono ?_
   rintro e w2 ⟨rfl,rfl⟩
   go_wp2_with fail
   rw [HI.out]
   refine (HCN.out _ _).mono ?_
   rintro e w3 ⟨rfl,rfl⟩
   have HP2:=HP
   generalize i64 N=m at *
   by_cases hz:Zat 1 m=0
   · have HZ:=qH hz
     go_wp2
     go_ret2
     refine ⟨_,_,_,rfl,?_,HR1.out,HU1.out⟩
     unfold ZcH
     rw [HP2.out,if_neg (fun h=>h HZ.out)]
     exact ⟨rfl,rfl,rfl⟩
   have HZ:=qH hz
   clear hz
   go_wp2
   go_ret2
   refine ⟨_,_,_,rfl,?_,HR1.out,HU1.out⟩
   unfold ZcH
   rw [HP2.out,if_pos HZ.out]
   exact ⟨rfl,HZ.out⟩
 have HWD:8=(if K=1 then 1 else 8):=by rw [if_neg hK]
 have HWD':=qH HWD
 have hK':(K==1)=false:=by simpa using hK
 have HK:=qH hK
 clear hK HWD
 by_cases hs:l.length<8
 · have HP:=qH ((HN.out 8 HWD'.out).trans (if_pos hs))
   have hm:=Zbb HR.out hF 8
   have hx:=RS.num_short (l:=l) (k:=8) rfl hs
   rw [show ((8:Nat):Int)=8 from rfl] at hx
   rw [hx] at hm
   have HM:=qH hm
   clear hs hm hx
   go_enter Tryz.func202,Tryz.ntmps202
   go_wp2_with fail
   refine (HB.out _ (by omega) (by omega)).mono ?_
   rintro e w' ⟨rfl,rfl⟩
   go_wp2_with fail
   refine HM.out.mono ?_
   rintro e w1 ⟨rfl,hr,hu⟩
   have HR1:=qH hr
   have HU1:=qH hu
   clear hr hu
   go_wp2_with fail
   refine (Zbm HR1.out).mono ?_
   rintro e w2 ⟨rfl,rfl⟩
   go_wp2
   go_ret2
   exact ⟨_,_,_,rfl,by unfold ZcH;rw [HP.out];exact ⟨rfl,by decide⟩,HR1.out,HU1.out⟩
 have HP:=qH ((HN.out 8 HWD'.out).trans (if_neg hs))
 have hm:=Zbb HR.out hF 8
 have hx:=RS.num_ok (l:=l) (k:=8) rfl (by omega)
 rw [show ((8:Nat):Int)=8 from rfl] at hx
 rw [hx] at hm
 have HM:=qH hm
 have HLT:=qH (ZeV l 8 (by omega))
 clear hs hm hx
 generalize be (l.take 8)=N at *
 have HI:=qH (ZkZ N HLT.out)
 have HI2:=qH (Zgj N HLT.out)
 go_enter Tryz.func202,Tryz.ntmps202
 go_wp2_with fail
 refine (HB.out _ (by omega) (by omega)).mono ?_
 rintro e w' ⟨rfl,rfl⟩
 go_wp2_with fail
 refine HM.out.mono ?_
 rintro e w1 ⟨rfl,hr,hu⟩
 have HR1:=qH hr
 have HU1:=qH hu
 clear hr hu
 go_wp2_with fail
 refine (Zbm HR1.out).mono ?_
 rintro e w2 ⟨rfl,rfl⟩
 go_wp2_with fail
 rw [HI.out]
 refine (HCN.out _ _).mono ?_
 rintro e w3 ⟨rfl,rfl⟩
 have HP2:=HP
 generalize i64 N=m at *
 by_cases hz:Zat K m=0
 · have HZ:=qH hz
   go_wp2
   go_ret2
   refine ⟨_,_,_,rfl,?_,HR1.out,HU1.out⟩
   unfold ZcH
   rw [HP2.out,if_neg (fun h=>h HZ.out)]
   exact ⟨rfl,rfl,rfl⟩
 have HZ:=qH hz
 clear hz
 go_wp2
 go_ret2
 refine ⟨_,_,_,rfl,?_,HR1.out,HU1.out⟩
 unfold ZcH
 rw [HP2.out,if_pos HZ.out]
 exact ⟨rfl,HZ.out⟩
def Zct (l:List UInt8) (s:ByteArray) (e:Int) (s':RS):Prop :=
 match ZbW l with
 | .error e0=>e=e0/\e≠0
 | .ok (t,r)=>e=0/\s=t/\s'=⟨r,0⟩
theorem ZjR (l:List UInt8):be (l.take 2)<=65535:=by
 have h:=Zeg (l.take 2)
 have h2:256 ^ (l.take 2).length<=256 ^ 2:=Nat.pow_le_pow_right (by omega) (by rw [List.length_take];omega)
 have h3:256 ^ 2=65536:=by decide
 omega
theorem Zfv {w:World} {F:Nat->Prop} {r:Nat} {l:List UInt8} (h:Rdr w F r ⟨l,0⟩) (hF:¬ F r) (hl:l.length<=140737488355328) :
 Calls Tryz.prog 201 #[.pointer (some ⟨r,0,none⟩)] w fun e w'=>∃ (s:ByteArray) (er:Int) (s':RS),e=.returned (.tuple #[.string s,.int .i64 er])/\Zct l s er s'/\Rdr w' F r s'/\Upd (fun b=>b=r) w w':=by
 have HP:=qH (show ZbW l=if l.length<2 then .error 10 else if 1000<be (l.take 2) then .error 44 else if (l.drop 2).length<be (l.take 2) then .error 10
  else .ok (⟨((l.drop 2).take (be (l.take 2))).toArray⟩,(l.drop 2).drop (be (l.take 2))) from rfl)
 have HR:=qH h
 clear h
 by_cases hs:l.length<2
 · have HP1:=qH (HP.out.trans (if_pos hs))
   have hm:=Zbb HR.out hF 2
   have hx:=RS.num_short (l:=l) (k:=2) rfl hs
   rw [show ((2:Nat):Int)=2 from rfl] at hx
   rw [hx] at hm
   have HM:=qH hm
   clear hs hm hx
   go_enter Tryz.func201,Tryz.ntmps201
   go_wp2_with fail
   refine HM.out.mono ?_
   rintro e w1 ⟨rfl,hr,hu⟩
   have HR1:=qH hr
   have HU1:=qH hu
   clear hr hu
   go_wp2_with fail
   refine (Zbm HR1.out).mono ?_
   rintro e w2 ⟨rfl,rfl⟩
   go_wp2
   go_ret2
   exact ⟨_,_,_,rfl,by unfold Zct;rw [HP1.out];exact ⟨rfl,by decide⟩,HR1.out,HU1.out⟩
 have HP1:=qH (HP.out.trans (if_neg hs))
 have hm:=Zbb HR.out hF 2
 have hx:=RS.num_ok (l:=l) (k:=2) rfl (by omega)
 rw [show ((2:Nat):Int)=2 from rfl] at hx
 rw [hx] at hm
 have HM:=qH hm
 have hlt:=ZjR l
 have hdl:(l.drop 2).length<=140737488355328:=by rw [List.length_drop];omega
 clear hs hm hx
 generalize be (l.take 2)=N at *
 by_cases hb:1000<N
 · have HP2:=qH (HP1.out.trans (if_pos hb))
   go_enter Tryz.func201,Tryz.ntmps201
   go_wp2_with fail
   refine HM.out.mono ?_
   rintro e w1 ⟨rfl,hr,hu⟩
   have HR1:=qH hr
   have HU1:=qH hu
   clear hr hu
   go_wp2_with fail
   refine (Zbm HR1.out).mono ?_
   rintro e w2 ⟨rfl,rfl⟩
   go_wp2
   go_ret2
   exact ⟨_,_,_,rfl,by unfold Zct;rw [HP2.out];exact ⟨rfl,by decide⟩,HR1.out,HU1.out⟩
 have HP2:=qH (HP1.out.trans (if_neg hb))
 by_cases hsh:(l.drop 2).length<N
 · have HP3:=qH (HP2.out.trans (if_pos hsh))
   have HT:=qH (RS.take_short hsh)
   clear hsh
   go_enter Tryz.func201,Tryz.ntmps201
   go_wp2_with fail
   refine HM.out.mono ?_
   rintro e w1 ⟨rfl,hr,hu⟩
   have hraw:=ZfZ hr hF hdl N
   rw [HT.out] at hraw
   have HRaw:=qH hraw
   have HR1:=qH hr
   have HU1:=qH hu
   clear hr hu hraw
   go_wp2_with fail
   refine (Zbm HR1.out).mono ?_
   rintro e w2 ⟨rfl,rfl⟩
   go_wp2_with fail
   refine HRaw.out.mono ?_
   rintro e w3 ⟨v,rfl,ho,hr2,hu2⟩
   obtain ⟨A,m,c,rfl⟩:=Zav ho
   have hconv:=ZbF (ZaG ho)
   have HR2:=qH hr2
   have HU2:=qH hu2
   clear ho hr2 hu2
   go_wp2_with fail
   refine (Zbm HR2.out).mono ?_
   rintro e w4 ⟨rfl,rfl⟩
   go_wp2
   go_ret2
   exact ⟨_,_,_,rfl,by unfold Zct;rw [HP3.out];exact ⟨rfl,by decide⟩,HR2.out,HU1.out.trans HU2.out fun _ _ hh=>hh⟩
 have HP3:=qH (HP2.out.trans (if_neg hsh))
 have HT:=qH (RS.take_ok (show N<=(l.drop 2).length by omega))
 clear hsh
 go_enter Tryz.func201,Tryz.ntmps201
 go_wp2_with fail
 refine HM.out.mono ?_
 rintro e w1 ⟨rfl,hr,hu⟩
 have hraw:=ZfZ hr hF hdl N
 rw [HT.out] at hraw
 have HRaw:=qH hraw
 have HR1:=qH hr
 have HU1:=qH hu
 clear hr hu hraw
 go_wp2_with fail
 refine (Zbm HR1.out).mono ?_
 rintro e w2 ⟨rfl,rfl⟩
 go_wp2_with fail
 refine HRaw.out.mono ?_
 rintro e w3 ⟨v,rfl,ho,hr2,hu2⟩
 obtain ⟨A,m,c,rfl⟩:=Zav ho
 have hconv:=ZbF (ZaG ho)
 have HR2:=qH hr2
 have HU2:=qH hu2
 clear ho hr2 hu2
 generalize (l.drop 2).take N=Y at *
 go_wp2_with fail
 refine (Zbm HR2.out).mono ?_
 rintro e w4 ⟨rfl,rfl⟩
 go_wp2
 go_ret2
 exact ⟨_,_,_,rfl,by unfold Zct;rw [HP3.out];exact ⟨rfl,rfl,rfl⟩,HR2.out,HU1.out.trans HU2.out fun _ _ hh=>hh⟩
theorem ZhY:(Tryz.prog.info? 2).map (fun i=>(i.zero,i.size,i.bytes))=some (some (.int .i64 0),1,8):=by kernel_rfl
theorem ZaA:(Tryz.prog.info? 9).map (fun i=>(i.zero,i.size,i.bytes))=some (some (.string ⟨#[]⟩),1,16):=by kernel_rfl
theorem ZmH {F:Nat->Prop} {A1 A2:Option Addr} {n1 c1 n2 c2:Nat} {g:GVal} (w:World) (h:Zcg w F A1 n1 c1 A2 n2 c2 g) (hs1:n1*8<=140737488355328) (hs2:n2*16<=140737488355328) :
 Calls Tryz.prog 55 #[g.val A1 n1 c1 A2 n2 c2] w fun e w'=>∃ v1 v2,e=.returned (.agg #[.int .i64 g.kind,.int .i64 g.num,.string g.text,v1,v2]) /\
  w'.ownsRow w.heap.size 2 1 v1 n1 (g.nums.map (Value.int .i64))/\w'.ownsRow w.heap.size 9 1 v2 n2 (g.texts.map Value.string)/\Same w w':=by
 obtain ⟨kind,num,text,nums,texts⟩:=g
 simp only [GVal.val]
 have HR:=qH h
 have HL1:=qH (show nums.length=n1 from h.len1)
 have HL2:=qH (show texts.length=n2 from h.len2)
 have hn1:n1<=9223372036854775807:=by omega
 have hn2:n2<=9223372036854775807:=by omega
 clear h
 go_enter Tryz.func55,Tryz.ntmps55
 go_wp2
 have hb0:=((Blk.new w 46 #[.int .i64 kind,.int .i64 num,.string text,.slice A1 n1 c1,.slice A2 n2 c2]).alloc (.cells #[.int .i64 0,.int .i64 0,.string ⟨#[]⟩,.slice none 0 0,.slice none 0 0] 46)).alloc (.cells #[.int .i64 kind,.int .i64 num,.string text,.slice none 0 0,.slice none 0 0] 46)
 have hb1:=(Blk.new (w.alloc (.cells #[.int .i64 kind,.int .i64 num,.string text,.slice A1 n1 c1,.slice A2 n2 c2] 46)) 46 #[.int .i64 0,.int .i64 0,.string ⟨#[]⟩,.slice none 0 0,.slice none 0 0]).alloc (.cells #[.int .i64 kind,.int .i64 num,.string text,.slice none 0 0,.slice none 0 0] 46)
 have hb2:=Blk.new ((w.alloc (.cells #[.int .i64 kind,.int .i64 num,.string text,.slice A1 n1 c1,.slice A2 n2 c2] 46)).alloc (.cells #[.int .i64 0,.int .i64 0,.string ⟨#[]⟩,.slice none 0 0,.slice none 0 0] 46)) 46 #[.int .i64 kind,.int .i64 num,.string text,.slice none 0 0,.slice none 0 0]
 have hs0:=(((Upd.refl (fun _=>False) w).alloc (.cells #[.int .i64 kind,.int .i64 num,.string text,.slice A1 n1 c1,.slice A2 n2 c2] 46)).alloc (.cells #[.int .i64 0,.int .i64 0,.string ⟨#[]⟩,.slice none 0 0,.slice none 0 0] 46)).alloc (.cells #[.int .i64 kind,.int .i64 num,.string text,.slice none 0 0,.slice none 0 0] 46)
 simp only [World.size_alloc] at hb1 hb2
 revert hb0 hb1 hb2 hs0
 generalize ((w.alloc (.cells #[.int .i64 kind,.int .i64 num,.string text,.slice A1 n1 c1,.slice A2 n2 c2] 46)).alloc (.cells #[.int .i64 0,.int .i64 0,.string ⟨#[]⟩,.slice none 0 0,.slice none 0 0] 46)).alloc (.cells #[.int .i64 kind,.int .i64 num,.string text,.slice none 0 0,.slice none 0 0] 46)=W
 intro hb0 hs0 hb1 hb2
 go_loopw [4] (fun i wr=>∃ (k:Nat) (v1:Value),k<=n1/\i=.int .i64 k/\Blk wr w.heap.size 46 #[.int .i64 kind,.int .i64 num,.string text,.slice A1 n1 c1,.slice A2 n2 c2] /\
  Blk wr (w.heap.size+1) 46 #[.int .i64 0,.int .i64 0,.string ⟨#[]⟩,.slice none 0 0,.slice none 0 0]/\Blk wr (w.heap.size+1+1) 46 #[.int .i64 kind,.int .i64 num,.string text,v1,.slice none 0 0] /\
  wr.ownsRow w.heap.size 2 1 v1 k ((nums.take k).map (Value.int .i64))/\Same w wr) (fun i _=>n1-(intOf i).toNat)
 case atStart=>exact ⟨0,_,Nat.zero_le _,rfl,hb0,hb1,hb2,World.ownsRow_nil _ _ _ _,hs0⟩
 obtain ⟨k,v1,hk,rfl,kb0,kb1,kb2,kown,ksame⟩:=hrel
 clear hb0 hb1 hb2 hs0
 have hlt0:=kb2.lt
 have e0:wr.cell? ⟨w.heap.size,3,none⟩=some (.slice A1 n1 c1):=kb0.cell 3
 by_cases hlt:k<n1
 · have hrow:=HR.out.nums.same ksame
   obtain ⟨b,o,u,rfl,hbl,_,hu,hc⟩:=hrow.at_ hlt
   have hkl:k<nums.length:=by rw [HL1.out];exact hlt
   simp only [List.getElem?_map,List.getElem?_eq_getElem hkl,Option.map_some,Option.some.injEq] at hu
   subst hu
   have HT:=qH (show (nums.take (k+1)).map (Value.int .i64)=(nums.take k).map (Value.int .i64)++[Value.int .i64 nums[k]] from by
    rw [List.take_succ_eq_append_getElem hkl,List.map_append];rfl)
   clear hrow
   generalize nums[k]=x at *
   obtain ⟨A,m,c,rfl⟩:=Zav kown
   have e2:wr.cell? ⟨w.heap.size+1+1,3,none⟩=some (.slice A m c):=kb2.cell 3
   have hne:(Value.slice A m c).ownBlock≠some (w.heap.size+1+1):=kb2.ne_own kown (by decide)
   go_upto_region 5 with fail
   go_region_law ((refine ZbP rfl (.tmp 21) (.tmp 27) _ _ rfl w.heap.size 2 1 8 _ Tryz.underlying44 ZhY rfl (.slice A m c) k _ rfl (kown.alloc _).drew rfl (Zal Tryz.underlying44 (Row.one _ _ _).drew (by simp [Value.oneCell'])) (by unfold maxLen;omega) (by omega) (by have:=ksame.size;simp;omega) ?_;intro v' w1 hg;obtain ⟨A',m',c',rfl⟩:=Zav hg.own;have s1:w1.cell? ⟨w.heap.size+1+1,3,none⟩=some (.slice A m c):=(hg.blk ((kb2.alloc _).drew) hne).cell 3;have s2:w1.frozen? ⟨w.heap.size+1+1,3,none⟩=false:=(hg.blk ((kb2.alloc _).drew) hne).frozen 3))
   all_goals
    obtain ⟨f1,f2,f3⟩:=Zco (i:=3) kb2 kown (by decide) (((Upd.refl _ wr).alloc _).drew) hg
    have HF1:=qH f1
    have HF2:=qH f2
    have HF3:=qH f3
    clear f1 f2 f3 hg
    go_wp2
    go_roundw
    case rel =>
     refine ⟨k+1,_,by omega,by go_num,kb0.upd HF3.out ?_,kb1.upd HF3.out ?_,HF1.out,?_,ksame.trans HF3.out ?_⟩
     · rintro (hh | hh)
       · omega
       exact kb0.ne_own kown (by decide) hh
     · rintro (hh | hh)
       · omega
       exact kb1.ne_own kown (by decide) hh
     · rw [HT.out];exact HF2.out
     rintro bb hbb (hh | hh)
     · omega
     have:=(kown.lt bb hh).1
     omega
    case measure=>simp [intOf];omega
 obtain rfl:k=n1:=by omega
 rw [List.take_of_length_le (by rw [HL1.out];exact Nat.le_refl _)] at kown
 have KO1:=qH kown
 clear kown
 go_wp2
 clear e0 hlt0
 go_loopw [5] (fun i wx=>∃ (j:Nat) (v2:Value),j<=n2/\i=.int .i64 j/\Blk wx w.heap.size 46 #[.int .i64 kind,.int .i64 num,.string text,.slice A1 k c1,.slice A2 n2 c2] /\
  Blk wx (w.heap.size+1) 46 #[.int .i64 0,.int .i64 0,.string ⟨#[]⟩,.slice none 0 0,.slice none 0 0]/\Blk wx (w.heap.size+1+1) 46 #[.int .i64 kind,.int .i64 num,.string text,v1,v2] /\
  wx.ownsRow w.heap.size 9 1 v2 j ((texts.take j).map Value.string)/\wx.ownsRow w.heap.size 2 1 v1 k (nums.map (Value.int .i64))/\Same w wx) (fun i _=>n2-(intOf i).toNat)
 case atStart=>exact ⟨0,_,Nat.zero_le _,rfl,kb0,kb1,kb2,World.ownsRow_nil _ _ _ _,KO1.out,ksame⟩
 obtain ⟨j,v2,hj,rfl,jb0,jb1,jb2,jown,jown1,jsame⟩:=hrel
 clear kb0 kb1 kb2 ksame KO1
 have hlt0:=jb2.lt
 have e0:wr.cell? ⟨w.heap.size,4,none⟩=some (.slice A2 n2 c2):=jb0.cell 4
 by_cases hlt:j<n2
 · have hrow:=HR.out.texts.same jsame
   obtain ⟨b,o,u,rfl,hbl,_,hu,hc⟩:=hrow.at_ hlt
   have hkl:j<texts.length:=by rw [HL2.out];exact hlt
   simp only [List.getElem?_map,List.getElem?_eq_getElem hkl,Option.map_some,Option.some.injEq] at hu
   subst hu
   have HT:=qH (show (texts.take (j+1)).map Value.string=(texts.take j).map Value.string++[Value.string texts[j]] from by
    rw [List.take_succ_eq_append_getElem hkl,List.map_append];rfl)
   clear hrow
   generalize texts[j]=x at *
   obtain ⟨A,m,c,rfl⟩:=Zav jown
   have e2:wr.cell? ⟨w.heap.size+1+1,4,none⟩=some (.slice A m c):=jb2.cell 4
   have hne:(Value.slice A m c).ownBlock≠some (w.heap.size+1+1):=jb2.ne_own jown (by decide)
   go_upto_region 9 with fail
   go_region_law ((refine ZbP rfl (.tmp 38) (.tmp 44) _ _ rfl w.heap.size 9 1 16 _ Tryz.underlying40 ZaA rfl (.slice A m c) j _ rfl (jown.alloc _).drew rfl (Zal Tryz.underlying40 (Row.one _ _ _).drew (by simp [Value.oneCell'])) (by unfold maxLen;omega) (by omega) (by have:=jsame.size;simp;omega) ?_;intro v' w1 hg;obtain ⟨A',m',c',rfl⟩:=Zav hg.own;have s1:w1.cell? ⟨w.heap.size+1+1,4,none⟩=some (.slice A m c):=(hg.blk ((jb2.alloc _).drew) hne).cell 4;have s2:w1.frozen? ⟨w.heap.size+1+1,4,none⟩=false:=(hg.blk ((jb2.alloc _).drew) hne).frozen 4))
   all_goals
    obtain ⟨f1,f2,f3⟩:=Zco (i:=4) jb2 jown (by decide) (((Upd.refl _ wr).alloc _).drew) hg
    have HF1:=qH f1
    have HF2:=qH f2
    have HF3:=qH f3
    clear f1 f2 f3 hg
    go_wp2
    go_roundw
    case rel =>
     refine ⟨j+1,_,by omega,by go_num,jb0.upd HF3.out ?_,jb1.upd HF3.out ?_,HF1.out,?_,Zam jown1 HF3.out ?_,jsame.trans HF3.out ?_⟩
     · rintro (hh | hh)
       · omega
       exact jb0.ne_own jown (by decide) hh
     · rintro (hh | hh)
       · omega
       exact jb1.ne_own jown (by decide) hh
     · rw [HT.out];exact HF2.out
     · rintro gg hgg (hh | hh)
       · exact jb2.ne_own jown1 (by decide) (hh ▸ hgg)
       exact ZlX jown1 jown (by decide) gg hgg hh
     rintro bb hbb (hh | hh)
     · omega
     have:=(jown.lt bb hh).1
     omega
    case measure=>simp [intOf];omega
 obtain rfl:j=n2:=by omega
 rw [List.take_of_length_le (by rw [HL2.out];exact Nat.le_refl _)] at jown
 obtain ⟨D1,p1,q1,rfl⟩:=Zav jown1
 obtain ⟨D2,p2,q2,rfl⟩:=Zav jown
 have JO2:=qH jown
 have JO1:=qH jown1
 have JN1:=qH (jb1.ne_own jown1 (by decide))
 have JN2:=qH (jb1.ne_own jown (by decide))
 clear jown jown1
 have d0:wr.cell? ⟨w.heap.size+1+1,0,none⟩=some (.int .i64 kind):=jb2.cell 0
 have d1:wr.cell? ⟨w.heap.size+1+1,1,none⟩=some (.int .i64 num):=jb2.cell 1
 have d2:wr.cell? ⟨w.heap.size+1+1,2,none⟩=some (.string text):=jb2.cell 2
 have d3:wr.cell? ⟨w.heap.size+1+1,3,none⟩=some (.slice D1 p1 q1):=jb2.cell 3
 have d4:wr.cell? ⟨w.heap.size+1+1,4,none⟩=some (.slice D2 p2 q2):=jb2.cell 4
 have b0:wr.cell? ⟨w.heap.size+1,0,none⟩=some (.int .i64 0):=jb1.cell 0
 have b1:wr.cell? ⟨w.heap.size+1,1,none⟩=some (.int .i64 0):=jb1.cell 1
 have b2:wr.cell? ⟨w.heap.size+1,2,none⟩=some (.string ⟨#[]⟩):=jb1.cell 2
 have b3:wr.cell? ⟨w.heap.size+1,3,none⟩=some (.slice none 0 0):=jb1.cell 3
 have b4:wr.cell? ⟨w.heap.size+1,4,none⟩=some (.slice none 0 0):=jb1.cell 4
 have z0:=jb1.frozen 0
 have z1:=jb1.frozen 1
 have z2:=jb1.frozen 2
 have z3:=jb1.frozen 3
 have z4:=jb1.frozen 4
 go_wp2
 have hB:=((((jb1.put 0 (.int .i64 kind)).put 1 (.int .i64 num)).put 2 (.string text)).put 3 (.slice D1 p1 q1)).put 4 (.slice D2 p2 q2)
 have r0:=hB.cell 0
 have r1:=hB.cell 1
 have r2:=hB.cell 2
 have r3:=hB.cell 3
 have r4:=hB.cell 4
 have hU:=(((((Upd.refl (fun b=>b=w.heap.size+1) wr).put1 (i:=0) (.int .i64 kind)).put1 (i:=1) (.int .i64 num)).put1 (i:=2) (.string text)).put1 (i:=3) (.slice D1 p1 q1)).put1 (i:=4) (.slice D2 p2 q2)
 simp at r0 r1 r2 r3 r4
 refine bodyPost_ret (v:=.agg #[.int .i64 kind,.int .i64 num,.string text,.slice D1 p1 q1,.slice D2 p2 q2]) (by simp [results,Tryz.results55,go_sem,r0,r1,r2,r3,r4]) rfl ⟨_,_,rfl,?_,?_,?_⟩
 · exact Zam JO1.out hU fun g hg hh=>JN1.out (hh ▸ hg)
 · exact Zam JO2.out hU fun g hg hh=>JN2.out (hh ▸ hg)
 exact jsame.trans hU fun b hb hh=>by omega
end Go.Proofs.YtkopcinhbjimiaaGreatDoor
