/- Texts that the claim leans on: walks and plain laws, function by function. -/
import Derived.Test.YtkopcinhbjimiaaGreatDoorK03
import Derived.Test.YtkopcinhbjimiaaGreatDoorK02
import Derived.Laws.BytesArg
import Derived.Deep.RegionLaw
import Derived.Deep.DeepCutAuto
import Derived.Test.YtkopcinhbjimiaaGreatDoorK01
set_option maxRecDepth 100000
set_option maxHeartbeats 16000000
namespace Go.Proofs.YtkopcinhbjimiaaGreatDoor
open Go.RowKit
theorem conv_bytes {F:Nat->Prop} {A:Option Addr} {n c:Nat} {bs:List UInt8} {w:World} (hb:Bytes w F A n c bs) :
 (convert 28 9 (.slice A n c)).run Tryz.prog w=.ok (.string ⟨bs.toArray⟩) w:=by
 have hl:=hb.len
 cases hA:A with
 | none =>
   have hc:=hb.nil hA
   have hle:=Row.le hb
   obtain rfl:n=0:=by omega
   obtain rfl:c=0:=by omega
   have:bs=[]:=List.eq_nil_of_length_eq_zero hl
   subst this
   exact run_convert_bytes_nil (P:=Tryz.prog) w 28 5 Tryz.underlying28 Tryz.underlying5 0 0 9 Tryz.underlying9
 | some a =>
   obtain ⟨h1,h2,h3,h4⟩:=Row.cell hb a hA
   obtain ⟨b,o,s⟩:=a
   subst h1
   have h:=run_convert_bytes_arg (P:=Tryz.prog) w 28 5 Tryz.underlying28 Tryz.underlying5 b o n c (bs.map fun x=>(x.toNat:Int)) (by simpa using hl) (fun i hi=>by
    have hil:i<bs.length:=by omega
    have:=h4 i (u8v bs[i]) (by simp [List.getElem?_eq_getElem hil])
    simp only at this
    rw [this]
    simp [u8v,List.getD,List.getElem?_eq_getElem hil]) 9 Tryz.underlying9
   rw [h]
   congr 2
   unfold strOfNums
   congr 2
   rw [List.map_map]
   conv=>rhs;rw [<- List.map_id bs]
   apply List.map_congr_left
   intro x _
   simp
theorem i64_wrap (n:Nat) (h:n<18446744073709551616):wrap64 (n:Int)=i64 n:=by
 unfold wrap64 i64
 split <;> omega
theorem RS.num_short {l:List UInt8} {k:Nat} (hk:isWidthB k=true) (h:l.length<k):RS.num ⟨l,0⟩ k=(0,⟨[],10⟩):=by
 unfold RS.num
 rw [hk,RS.take_short h]
 rfl
theorem RS.num_ok {l:List UInt8} {k:Nat} (hk:isWidthB k=true) (h:k<=l.length):RS.num ⟨l,0⟩ k=(be (l.take k),⟨l.drop k,0⟩):=by
 unfold RS.num
 rw [hk,RS.take_ok h]
def NumRes (K:Int) (l:List UInt8) (n e:Int) (s':RS):Prop :=
 match pNum K l with
 | .error e0=>e=e0/\e≠0
 | .ok (m,r)=>e=0/\n=m/\s'=⟨r,0⟩
theorem getNum_spec {w:World} {F:Nat->Prop} {r:Nat} {l:List UInt8} (h:Rdr w F r ⟨l,0⟩) (hF:¬ F r) (kind:Int) (hk0:1<=kind) (hk:kind<=8) :
 Calls Tryz.prog 202 #[.pointer (some ⟨r,0,none⟩),.int .i64 kind] w fun e w'=>∃ (n er:Int) (s':RS),e=.returned (.tuple #[.int .i64 n,.int .i64 er])/\NumRes (baseK kind) l n er s'/\Rdr w' F r s'/\Upd (fun b=>b=r) w w':=by
 have hb:=base_spec kind
 have hcn:=fun (n:Int) (w:World)=>checkNum_spec kind n w hk0 hk
 have HN:=qH (show ∀ (width:Nat),width=(if baseK kind=1 then 1 else 8)->pNum (baseK kind) l=if l.length<width then .error 10
  else if numErr (baseK kind) (i64 (be (l.take width)))≠0 then .error (numErr (baseK kind) (i64 (be (l.take width))))
  else .ok (i64 (be (l.take width)),l.drop width) from fun width hw=>by subst hw;rfl)
 generalize baseK kind=K at hb hcn HN ⊢
 have HB:=qH hb
 have HCN:=qH hcn
 have HR:=qH h
 clear hb hcn h
 by_cases hK:K=1
 · subst hK
   have HWD':=qH (show 1=(if (1:Int)=1 then 1 else 8) from rfl)
   by_cases hs:l.length<1
   · have HP:=qH ((HN.out 1 HWD'.out).trans (if_pos hs))
     have hm:=num_spec HR.out hF 1
     have hx:=RS.num_short (l:=l) (k:=1) rfl hs
     rw [show ((1:Nat):Int)=1 from rfl] at hx
     rw [hx] at hm
     have HM:=qH hm
     clear hs hm hx
     go_enter Tryz.func202,Tryz.ntmps202
     go_wp2_with fail
     refine (HB.out _ (by omega) (by omega)).mono ?_
     rintro e w' ⟨rfl,rfl⟩
     go_wp2_with fail
     refine HM.out.mono ?_
     rintro e w1 ⟨rfl,hr,hu⟩
     have HR1:=qH hr
     have HU1:=qH hu
     clear hr hu
     go_wp2_with fail
     refine (err_spec HR1.out).mono ?_
     rintro e w2 ⟨rfl,rfl⟩
     go_wp2
     go_ret2
     exact ⟨_,_,_,rfl,by unfold NumRes;rw [HP.out];exact ⟨rfl,by decide⟩,HR1.out,HU1.out⟩
   have HP:=qH ((HN.out 1 HWD'.out).trans (if_neg hs))
   have hm:=num_spec HR.out hF 1
   have hx:=RS.num_ok (l:=l) (k:=1) rfl (by omega)
   rw [show ((1:Nat):Int)=1 from rfl] at hx
   rw [hx] at hm
   have HM:=qH hm
   have HLT:=qH (be_take_lt l 1 (by omega))
   clear hs hm hx
   generalize be (l.take 1)=N at *
   have HI:=qH (i64_wrap N HLT.out)
   have HI2:=qH (i64_range N HLT.out)
   go_enter Tryz.func202,Tryz.ntmps202
   go_wp2_with fail
   refine (HB.out _ (by omega) (by omega)).mono ?_
   rintro e w' ⟨rfl,rfl⟩
   go_wp2_with fail
   refine HM.out.mono ?_
   rintro e w1 ⟨rfl,hr,hu⟩
   have HR1:=qH hr
   have HU1:=qH hu
   clear hr hu
   go_wp2_with fail
   refine (err_spec HR1.out).mono ?_
   rintro e w2 ⟨rfl,rfl⟩
   go_wp2_with fail
   rw [HI.out]
   refine (HCN.out _ _).mono ?_
   rintro e w3 ⟨rfl,rfl⟩
   have HP2:=HP
   generalize i64 N=m at *
   by_cases hz:numErr 1 m=0
   · have HZ:=qH hz
     go_wp2
     go_ret2
     refine ⟨_,_,_,rfl,?_,HR1.out,HU1.out⟩
     unfold NumRes
     rw [HP2.out,if_neg (fun h=>h HZ.out)]
     exact ⟨rfl,rfl,rfl⟩
   have HZ:=qH hz
   clear hz
   go_wp2
   go_ret2
   refine ⟨_,_,_,rfl,?_,HR1.out,HU1.out⟩
   unfold NumRes
   rw [HP2.out,if_pos HZ.out]
   exact ⟨rfl,HZ.out⟩
 have HWD:8=(if K=1 then 1 else 8):=by rw [if_neg hK]
 have HWD':=qH HWD
 have hK':(K==1)=false:=by simpa using hK
 have HK:=qH hK
 clear hK HWD
 by_cases hs:l.length<8
 · have HP:=qH ((HN.out 8 HWD'.out).trans (if_pos hs))
   have hm:=num_spec HR.out hF 8
   have hx:=RS.num_short (l:=l) (k:=8) rfl hs
   rw [show ((8:Nat):Int)=8 from rfl] at hx
   rw [hx] at hm
   have HM:=qH hm
   clear hs hm hx
   go_enter Tryz.func202,Tryz.ntmps202
   go_wp2_with fail
   refine (HB.out _ (by omega) (by omega)).mono ?_
   rintro e w' ⟨rfl,rfl⟩
   go_wp2_with fail
   refine HM.out.mono ?_
   rintro e w1 ⟨rfl,hr,hu⟩
   have HR1:=qH hr
   have HU1:=qH hu
   clear hr hu
   go_wp2_with fail
   refine (err_spec HR1.out).mono ?_
   rintro e w2 ⟨rfl,rfl⟩
   go_wp2
   go_ret2
   exact ⟨_,_,_,rfl,by unfold NumRes;rw [HP.out];exact ⟨rfl,by decide⟩,HR1.out,HU1.out⟩
 have HP:=qH ((HN.out 8 HWD'.out).trans (if_neg hs))
 have hm:=num_spec HR.out hF 8
 have hx:=RS.num_ok (l:=l) (k:=8) rfl (by omega)
 rw [show ((8:Nat):Int)=8 from rfl] at hx
 rw [hx] at hm
 have HM:=qH hm
 have HLT:=qH (be_take_lt l 8 (by omega))
 clear hs hm hx
 generalize be (l.take 8)=N at *
 have HI:=qH (i64_wrap N HLT.out)
 have HI2:=qH (i64_range N HLT.out)
 go_enter Tryz.func202,Tryz.ntmps202
 go_wp2_with fail
 refine (HB.out _ (by omega) (by omega)).mono ?_
 rintro e w' ⟨rfl,rfl⟩
 go_wp2_with fail
 refine HM.out.mono ?_
 rintro e w1 ⟨rfl,hr,hu⟩
 have HR1:=qH hr
 have HU1:=qH hu
 clear hr hu
 go_wp2_with fail
 refine (err_spec HR1.out).mono ?_
 rintro e w2 ⟨rfl,rfl⟩
 go_wp2_with fail
 rw [HI.out]
 refine (HCN.out _ _).mono ?_
 rintro e w3 ⟨rfl,rfl⟩
 have HP2:=HP
 generalize i64 N=m at *
 by_cases hz:numErr K m=0
 · have HZ:=qH hz
   go_wp2
   go_ret2
   refine ⟨_,_,_,rfl,?_,HR1.out,HU1.out⟩
   unfold NumRes
   rw [HP2.out,if_neg (fun h=>h HZ.out)]
   exact ⟨rfl,rfl,rfl⟩
 have HZ:=qH hz
 clear hz
 go_wp2
 go_ret2
 refine ⟨_,_,_,rfl,?_,HR1.out,HU1.out⟩
 unfold NumRes
 rw [HP2.out,if_pos HZ.out]
 exact ⟨rfl,HZ.out⟩
def TextRes (l:List UInt8) (s:ByteArray) (e:Int) (s':RS):Prop :=
 match pText l with
 | .error e0=>e=e0/\e≠0
 | .ok (t,r)=>e=0/\s=t/\s'=⟨r,0⟩
theorem be_take_lt2 (l:List UInt8):be (l.take 2)<=65535:=by
 have h:=be_lt (l.take 2)
 have h2:256 ^ (l.take 2).length<=256 ^ 2:=Nat.pow_le_pow_right (by omega) (by rw [List.length_take];omega)
 have h3:256 ^ 2=65536:=by decide
 omega
theorem getText_spec {w:World} {F:Nat->Prop} {r:Nat} {l:List UInt8} (h:Rdr w F r ⟨l,0⟩) (hF:¬ F r) (hl:l.length<=140737488355328) :
 Calls Tryz.prog 201 #[.pointer (some ⟨r,0,none⟩)] w fun e w'=>∃ (s:ByteArray) (er:Int) (s':RS),e=.returned (.tuple #[.string s,.int .i64 er])/\TextRes l s er s'/\Rdr w' F r s'/\Upd (fun b=>b=r) w w':=by
 have HP:=qH (show pText l=if l.length<2 then .error 10 else if 1000<be (l.take 2) then .error 44 else if (l.drop 2).length<be (l.take 2) then .error 10
  else .ok (⟨((l.drop 2).take (be (l.take 2))).toArray⟩,(l.drop 2).drop (be (l.take 2))) from rfl)
 have HR:=qH h
 clear h
 by_cases hs:l.length<2
 · have HP1:=qH (HP.out.trans (if_pos hs))
   have hm:=num_spec HR.out hF 2
   have hx:=RS.num_short (l:=l) (k:=2) rfl hs
   rw [show ((2:Nat):Int)=2 from rfl] at hx
   rw [hx] at hm
   have HM:=qH hm
   clear hs hm hx
   go_enter Tryz.func201,Tryz.ntmps201
   go_wp2_with fail
   refine HM.out.mono ?_
   rintro e w1 ⟨rfl,hr,hu⟩
   have HR1:=qH hr
   have HU1:=qH hu
   clear hr hu
   go_wp2_with fail
   refine (err_spec HR1.out).mono ?_
   rintro e w2 ⟨rfl,rfl⟩
   go_wp2
   go_ret2
   exact ⟨_,_,_,rfl,by unfold TextRes;rw [HP1.out];exact ⟨rfl,by decide⟩,HR1.out,HU1.out⟩
 have HP1:=qH (HP.out.trans (if_neg hs))
 have hm:=num_spec HR.out hF 2
 have hx:=RS.num_ok (l:=l) (k:=2) rfl (by omega)
 rw [show ((2:Nat):Int)=2 from rfl] at hx
 rw [hx] at hm
 have HM:=qH hm
 have hlt:=be_take_lt2 l
 have hdl:(l.drop 2).length<=140737488355328:=by rw [List.length_drop];omega
 clear hs hm hx
 generalize be (l.take 2)=N at *
 by_cases hb:1000<N
 · have HP2:=qH (HP1.out.trans (if_pos hb))
   go_enter Tryz.func201,Tryz.ntmps201
   go_wp2_with fail
   refine HM.out.mono ?_
   rintro e w1 ⟨rfl,hr,hu⟩
   have HR1:=qH hr
   have HU1:=qH hu
   clear hr hu
   go_wp2_with fail
   refine (err_spec HR1.out).mono ?_
   rintro e w2 ⟨rfl,rfl⟩
   go_wp2
   go_ret2
   exact ⟨_,_,_,rfl,by unfold TextRes;rw [HP2.out];exact ⟨rfl,by decide⟩,HR1.out,HU1.out⟩
 have HP2:=qH (HP1.out.trans (if_neg hb))
 by_cases hsh:(l.drop 2).length<N
 · have HP3:=qH (HP2.out.trans (if_pos hsh))
   have HT:=qH (RS.take_short hsh)
   clear hsh
   go_enter Tryz.func201,Tryz.ntmps201
   go_wp2_with fail
   refine HM.out.mono ?_
   rintro e w1 ⟨rfl,hr,hu⟩
   have hraw:=raw_spec hr hF hdl N
   rw [HT.out] at hraw
   have HRaw:=qH hraw
   have HR1:=qH hr
   have HU1:=qH hu
   clear hr hu hraw
   go_wp2_with fail
   refine (err_spec HR1.out).mono ?_
   rintro e w2 ⟨rfl,rfl⟩
   go_wp2_with fail
   refine HRaw.out.mono ?_
   rintro e w3 ⟨v,rfl,ho,hr2,hu2⟩
   obtain ⟨A,m,c,rfl⟩:=own_slice ho
   have hconv:=conv_bytes (own_bytes ho)
   have HR2:=qH hr2
   have HU2:=qH hu2
   clear ho hr2 hu2
   go_wp2_with fail
   refine (err_spec HR2.out).mono ?_
   rintro e w4 ⟨rfl,rfl⟩
   go_wp2
   go_ret2
   exact ⟨_,_,_,rfl,by unfold TextRes;rw [HP3.out];exact ⟨rfl,by decide⟩,HR2.out,HU1.out.trans HU2.out fun _ _ hh=>hh⟩
 have HP3:=qH (HP2.out.trans (if_neg hsh))
 have HT:=qH (RS.take_ok (show N<=(l.drop 2).length by omega))
 clear hsh
 go_enter Tryz.func201,Tryz.ntmps201
 go_wp2_with fail
 refine HM.out.mono ?_
 rintro e w1 ⟨rfl,hr,hu⟩
 have hraw:=raw_spec hr hF hdl N
 rw [HT.out] at hraw
 have HRaw:=qH hraw
 have HR1:=qH hr
 have HU1:=qH hu
 clear hr hu hraw
 go_wp2_with fail
 refine (err_spec HR1.out).mono ?_
 rintro e w2 ⟨rfl,rfl⟩
 go_wp2_with fail
 refine HRaw.out.mono ?_
 rintro e w3 ⟨v,rfl,ho,hr2,hu2⟩
 obtain ⟨A,m,c,rfl⟩:=own_slice ho
 have hconv:=conv_bytes (own_bytes ho)
 have HR2:=qH hr2
 have HU2:=qH hu2
 clear ho hr2 hu2
 generalize (l.drop 2).take N=Y at *
 go_wp2_with fail
 refine (err_spec HR2.out).mono ?_
 rintro e w4 ⟨rfl,rfl⟩
 go_wp2
 go_ret2
 exact ⟨_,_,_,rfl,by unfold TextRes;rw [HP3.out];exact ⟨rfl,rfl,rfl⟩,HR2.out,HU1.out.trans HU2.out fun _ _ hh=>hh⟩
theorem info_i64:(Tryz.prog.info? 2).map (fun i=>(i.zero,i.size,i.bytes))=some (some (.int .i64 0),1,8):=by kernel_rfl
theorem info_string:(Tryz.prog.info? 9).map (fun i=>(i.zero,i.size,i.bytes))=some (some (.string ⟨#[]⟩),1,16):=by kernel_rfl
theorem copy_spec {F:Nat->Prop} {A1 A2:Option Addr} {n1 c1 n2 c2:Nat} {g:GVal} (w:World) (h:RdVal w F A1 n1 c1 A2 n2 c2 g) (hs1:n1*8<=140737488355328) (hs2:n2*16<=140737488355328) :
 Calls Tryz.prog 55 #[g.val A1 n1 c1 A2 n2 c2] w fun e w'=>∃ v1 v2,e=.returned (.agg #[.int .i64 g.kind,.int .i64 g.num,.string g.text,v1,v2]) /\
  w'.ownsRow w.heap.size 2 1 v1 n1 (g.nums.map (Value.int .i64))/\w'.ownsRow w.heap.size 9 1 v2 n2 (g.texts.map Value.string)/\Same w w':=by
 obtain ⟨kind,num,text,nums,texts⟩:=g
 simp only [GVal.val]
 have HR:=qH h
 have HL1:=qH (show nums.length=n1 from h.len1)
 have HL2:=qH (show texts.length=n2 from h.len2)
 have hn1:n1<=9223372036854775807:=by omega
 have hn2:n2<=9223372036854775807:=by omega
 clear h
 go_enter Tryz.func55,Tryz.ntmps55
 go_wp2
 have hb0:=((Blk.new w 46 #[.int .i64 kind,.int .i64 num,.string text,.slice A1 n1 c1,.slice A2 n2 c2]).alloc (.cells #[.int .i64 0,.int .i64 0,.string ⟨#[]⟩,.slice none 0 0,.slice none 0 0] 46)).alloc (.cells #[.int .i64 kind,.int .i64 num,.string text,.slice none 0 0,.slice none 0 0] 46)
 have hb1:=(Blk.new (w.alloc (.cells #[.int .i64 kind,.int .i64 num,.string text,.slice A1 n1 c1,.slice A2 n2 c2] 46)) 46 #[.int .i64 0,.int .i64 0,.string ⟨#[]⟩,.slice none 0 0,.slice none 0 0]).alloc (.cells #[.int .i64 kind,.int .i64 num,.string text,.slice none 0 0,.slice none 0 0] 46)
 have hb2:=Blk.new ((w.alloc (.cells #[.int .i64 kind,.int .i64 num,.string text,.slice A1 n1 c1,.slice A2 n2 c2] 46)).alloc (.cells #[.int .i64 0,.int .i64 0,.string ⟨#[]⟩,.slice none 0 0,.slice none 0 0] 46)) 46 #[.int .i64 kind,.int .i64 num,.string text,.slice none 0 0,.slice none 0 0]
 have hs0:=(((Upd.refl (fun _=>False) w).alloc (.cells #[.int .i64 kind,.int .i64 num,.string text,.slice A1 n1 c1,.slice A2 n2 c2] 46)).alloc (.cells #[.int .i64 0,.int .i64 0,.string ⟨#[]⟩,.slice none 0 0,.slice none 0 0] 46)).alloc (.cells #[.int .i64 kind,.int .i64 num,.string text,.slice none 0 0,.slice none 0 0] 46)
 simp only [World.size_alloc] at hb1 hb2
 revert hb0 hb1 hb2 hs0
 generalize ((w.alloc (.cells #[.int .i64 kind,.int .i64 num,.string text,.slice A1 n1 c1,.slice A2 n2 c2] 46)).alloc (.cells #[.int .i64 0,.int .i64 0,.string ⟨#[]⟩,.slice none 0 0,.slice none 0 0] 46)).alloc (.cells #[.int .i64 kind,.int .i64 num,.string text,.slice none 0 0,.slice none 0 0] 46)=W
 intro hb0 hs0 hb1 hb2
 go_loopw [4] (fun i wr=>∃ (k:Nat) (v1:Value),k<=n1/\i=.int .i64 k/\Blk wr w.heap.size 46 #[.int .i64 kind,.int .i64 num,.string text,.slice A1 n1 c1,.slice A2 n2 c2] /\
  Blk wr (w.heap.size+1) 46 #[.int .i64 0,.int .i64 0,.string ⟨#[]⟩,.slice none 0 0,.slice none 0 0]/\Blk wr (w.heap.size+1+1) 46 #[.int .i64 kind,.int .i64 num,.string text,v1,.slice none 0 0] /\
  wr.ownsRow w.heap.size 2 1 v1 k ((nums.take k).map (Value.int .i64))/\Same w wr) (fun i _=>n1-(intOf i).toNat)
 case atStart=>exact ⟨0,_,Nat.zero_le _,rfl,hb0,hb1,hb2,World.ownsRow_nil _ _ _ _,hs0⟩
 obtain ⟨k,v1,hk,rfl,kb0,kb1,kb2,kown,ksame⟩:=hrel
 clear hb0 hb1 hb2 hs0
 have hlt0:=kb2.lt
 have e0:wr.cell? ⟨w.heap.size,3,none⟩=some (.slice A1 n1 c1):=kb0.cell 3
 by_cases hlt:k<n1
 · have hrow:=HR.out.nums.same ksame
   obtain ⟨b,o,u,rfl,hbl,_,hu,hc⟩:=hrow.at_ hlt
   have hkl:k<nums.length:=by rw [HL1.out];exact hlt
   simp only [List.getElem?_map,List.getElem?_eq_getElem hkl,Option.map_some,Option.some.injEq] at hu
   subst hu
   have HT:=qH (show (nums.take (k+1)).map (Value.int .i64)=(nums.take k).map (Value.int .i64)++[Value.int .i64 nums[k]] from by
    rw [List.take_succ_eq_append_getElem hkl,List.map_append];rfl)
   clear hrow
   generalize nums[k]=x at *
   obtain ⟨A,m,c,rfl⟩:=own_slice kown
   have e2:wr.cell? ⟨w.heap.size+1+1,3,none⟩=some (.slice A m c):=kb2.cell 3
   have hne:(Value.slice A m c).ownBlock≠some (w.heap.size+1+1):=kb2.ne_own kown (by decide)
   go_upto_region 5 with fail
   go_region_law ((refine step_app rfl (.tmp 21) (.tmp 27) _ _ rfl w.heap.size 2 1 8 _ Tryz.underlying44 info_i64 rfl (.slice A m c) k _ rfl (kown.alloc _).drew rfl (src_row Tryz.underlying44 (Row.one _ _ _).drew (by simp [Value.oneCell'])) (by unfold maxLen;omega) (by omega) (by have:=ksame.size;simp;omega) ?_;intro v' w1 hg;obtain ⟨A',m',c',rfl⟩:=own_slice hg.own;have s1:w1.cell? ⟨w.heap.size+1+1,3,none⟩=some (.slice A m c):=(hg.blk ((kb2.alloc _).drew) hne).cell 3;have s2:w1.frozen? ⟨w.heap.size+1+1,3,none⟩=false:=(hg.blk ((kb2.alloc _).drew) hne).frozen 3))
   all_goals
    obtain ⟨f1,f2,f3⟩:=field_app (i:=3) kb2 kown (by decide) (((Upd.refl _ wr).alloc _).drew) hg
    have HF1:=qH f1
    have HF2:=qH f2
    have HF3:=qH f3
    clear f1 f2 f3 hg
    go_wp2
    go_roundw
    case rel =>
     refine ⟨k+1,_,by omega,by go_num,kb0.upd HF3.out ?_,kb1.upd HF3.out ?_,HF1.out,?_,ksame.trans HF3.out ?_⟩
     · rintro (hh | hh)
       · omega
       exact kb0.ne_own kown (by decide) hh
     · rintro (hh | hh)
       · omega
       exact kb1.ne_own kown (by decide) hh
     · rw [HT.out];exact HF2.out
     rintro bb hbb (hh | hh)
     · omega
     have:=(kown.lt bb hh).1
     omega
    case measure=>simp [intOf];omega
 obtain rfl:k=n1:=by omega
 rw [List.take_of_length_le (by rw [HL1.out];exact Nat.le_refl _)] at kown
 have KO1:=qH kown
 clear kown
 go_wp2
 clear e0 hlt0
 go_loopw [5] (fun i wx=>∃ (j:Nat) (v2:Value),j<=n2/\i=.int .i64 j/\Blk wx w.heap.size 46 #[.int .i64 kind,.int .i64 num,.string text,.slice A1 k c1,.slice A2 n2 c2] /\
  Blk wx (w.heap.size+1) 46 #[.int .i64 0,.int .i64 0,.string ⟨#[]⟩,.slice none 0 0,.slice none 0 0]/\Blk wx (w.heap.size+1+1) 46 #[.int .i64 kind,.int .i64 num,.string text,v1,v2] /\
  wx.ownsRow w.heap.size 9 1 v2 j ((texts.take j).map Value.string)/\wx.ownsRow w.heap.size 2 1 v1 k (nums.map (Value.int .i64))/\Same w wx) (fun i _=>n2-(intOf i).toNat)
 case atStart=>exact ⟨0,_,Nat.zero_le _,rfl,kb0,kb1,kb2,World.ownsRow_nil _ _ _ _,KO1.out,ksame⟩
 obtain ⟨j,v2,hj,rfl,jb0,jb1,jb2,jown,jown1,jsame⟩:=hrel
 clear kb0 kb1 kb2 ksame KO1
 have hlt0:=jb2.lt
 have e0:wr.cell? ⟨w.heap.size,4,none⟩=some (.slice A2 n2 c2):=jb0.cell 4
 by_cases hlt:j<n2
 · have hrow:=HR.out.texts.same jsame
   obtain ⟨b,o,u,rfl,hbl,_,hu,hc⟩:=hrow.at_ hlt
   have hkl:j<texts.length:=by rw [HL2.out];exact hlt
   simp only [List.getElem?_map,List.getElem?_eq_getElem hkl,Option.map_some,Option.some.injEq] at hu
   subst hu
   have HT:=qH (show (texts.take (j+1)).map Value.string=(texts.take j).map Value.string++[Value.string texts[j]] from by
    rw [List.take_succ_eq_append_getElem hkl,List.map_append];rfl)
   clear hrow
   generalize texts[j]=x at *
   obtain ⟨A,m,c,rfl⟩:=own_slice jown
   have e2:wr.cell? ⟨w.heap.size+1+1,4,none⟩=some (.slice A m c):=jb2.cell 4
   have hne:(Value.slice A m c).ownBlock≠some (w.heap.size+1+1):=jb2.ne_own jown (by decide)
   go_upto_region 9 with fail
   go_region_law ((refine step_app rfl (.tmp 38) (.tmp 44) _ _ rfl w.heap.size 9 1 16 _ Tryz.underlying40 info_string rfl (.slice A m c) j _ rfl (jown.alloc _).drew rfl (src_row Tryz.underlying40 (Row.one _ _ _).drew (by simp [Value.oneCell'])) (by unfold maxLen;omega) (by omega) (by have:=jsame.size;simp;omega) ?_;intro v' w1 hg;obtain ⟨A',m',c',rfl⟩:=own_slice hg.own;have s1:w1.cell? ⟨w.heap.size+1+1,4,none⟩=some (.slice A m c):=(hg.blk ((jb2.alloc _).drew) hne).cell 4;have s2:w1.frozen? ⟨w.heap.size+1+1,4,none⟩=false:=(hg.blk ((jb2.alloc _).drew) hne).frozen 4))
   all_goals
    obtain ⟨f1,f2,f3⟩:=field_app (i:=4) jb2 jown (by decide) (((Upd.refl _ wr).alloc _).drew) hg
    have HF1:=qH f1
    have HF2:=qH f2
    have HF3:=qH f3
    clear f1 f2 f3 hg
    go_wp2
    go_roundw
    case rel =>
     refine ⟨j+1,_,by omega,by go_num,jb0.upd HF3.out ?_,jb1.upd HF3.out ?_,HF1.out,?_,own_upd jown1 HF3.out ?_,jsame.trans HF3.out ?_⟩
     · rintro (hh | hh)
       · omega
       exact jb0.ne_own jown (by decide) hh
     · rintro (hh | hh)
       · omega
       exact jb1.ne_own jown (by decide) hh
     · rw [HT.out];exact HF2.out
     · rintro gg hgg (hh | hh)
       · exact jb2.ne_own jown1 (by decide) (hh ▸ hgg)
       exact own_ne_own jown1 jown (by decide) gg hgg hh
     rintro bb hbb (hh | hh)
     · omega
     have:=(jown.lt bb hh).1
     omega
    case measure=>simp [intOf];omega
 obtain rfl:j=n2:=by omega
 rw [List.take_of_length_le (by rw [HL2.out];exact Nat.le_refl _)] at jown
 obtain ⟨D1,p1,q1,rfl⟩:=own_slice jown1
 obtain ⟨D2,p2,q2,rfl⟩:=own_slice jown
 have JO2:=qH jown
 have JO1:=qH jown1
 have JN1:=qH (jb1.ne_own jown1 (by decide))
 have JN2:=qH (jb1.ne_own jown (by decide))
 clear jown jown1
 have d0:wr.cell? ⟨w.heap.size+1+1,0,none⟩=some (.int .i64 kind):=jb2.cell 0
 have d1:wr.cell? ⟨w.heap.size+1+1,1,none⟩=some (.int .i64 num):=jb2.cell 1
 have d2:wr.cell? ⟨w.heap.size+1+1,2,none⟩=some (.string text):=jb2.cell 2
 have d3:wr.cell? ⟨w.heap.size+1+1,3,none⟩=some (.slice D1 p1 q1):=jb2.cell 3
 have d4:wr.cell? ⟨w.heap.size+1+1,4,none⟩=some (.slice D2 p2 q2):=jb2.cell 4
 have b0:wr.cell? ⟨w.heap.size+1,0,none⟩=some (.int .i64 0):=jb1.cell 0
 have b1:wr.cell? ⟨w.heap.size+1,1,none⟩=some (.int .i64 0):=jb1.cell 1
 have b2:wr.cell? ⟨w.heap.size+1,2,none⟩=some (.string ⟨#[]⟩):=jb1.cell 2
 have b3:wr.cell? ⟨w.heap.size+1,3,none⟩=some (.slice none 0 0):=jb1.cell 3
 have b4:wr.cell? ⟨w.heap.size+1,4,none⟩=some (.slice none 0 0):=jb1.cell 4
 have z0:=jb1.frozen 0
 have z1:=jb1.frozen 1
 have z2:=jb1.frozen 2
 have z3:=jb1.frozen 3
 have z4:=jb1.frozen 4
 go_wp2
 have hB:=((((jb1.put 0 (.int .i64 kind)).put 1 (.int .i64 num)).put 2 (.string text)).put 3 (.slice D1 p1 q1)).put 4 (.slice D2 p2 q2)
 have r0:=hB.cell 0
 have r1:=hB.cell 1
 have r2:=hB.cell 2
 have r3:=hB.cell 3
 have r4:=hB.cell 4
 have hU:=(((((Upd.refl (fun b=>b=w.heap.size+1) wr).put1 (i:=0) (.int .i64 kind)).put1 (i:=1) (.int .i64 num)).put1 (i:=2) (.string text)).put1 (i:=3) (.slice D1 p1 q1)).put1 (i:=4) (.slice D2 p2 q2)
 simp at r0 r1 r2 r3 r4
 refine bodyPost_ret (v:=.agg #[.int .i64 kind,.int .i64 num,.string text,.slice D1 p1 q1,.slice D2 p2 q2]) (by simp [results,Tryz.results55,go_sem,r0,r1,r2,r3,r4]) rfl ⟨_,_,rfl,?_,?_,?_⟩
 · exact own_upd JO1.out hU fun g hg hh=>JN1.out (hh ▸ hg)
 · exact own_upd JO2.out hU fun g hg hh=>JN2.out (hh ▸ hg)
 exact jsame.trans hU fun b hb hh=>by omega
structure Pre {α:Type} (p:List UInt8->Except Int (α×List UInt8)) (count:Nat) (l:List UInt8) (i:Nat) (xs:List α) (rest:List UInt8):Prop where
 le:i<=count
 len:xs.length=i
 short:rest.length<=l.length
 eq:pMany p count l=match pMany p (count-i) rest with
  | .error e=>.error e
  | .ok (ys,r')=>.ok (xs++ys,r')
section
variable {α:Type} {p:List UInt8->Except Int (α×List UInt8)} {count i:Nat} {l rest:List UInt8} {xs:List α}
theorem Pre.zero (p:List UInt8->Except Int (α×List UInt8)) (count:Nat) (l:List UInt8):Pre p count l 0 [] l:=by
 refine ⟨Nat.zero_le _,rfl,Nat.le_refl _,?_⟩
 rw [Nat.sub_zero]
 cases pMany p count l <;> rfl
theorem Pre.next (h:Pre p count l i xs rest) (hi:i<count) {x:α} {r2:List UInt8} (hp:p rest=.ok (x,r2)) (hs:r2.length<=rest.length):Pre p count l (i+1) (xs++[x]) r2:=by
 refine ⟨hi,by simp [h.len],Nat.le_trans hs h.short,?_⟩
 rw [h.eq,show count-i=(count-(i+1))+1 from by omega]
 simp only [pMany,hp]
 cases pMany p (count-(i+1)) r2 with
 | error e=>rfl
 | ok y=>obtain ⟨ys,r'⟩:=y;simp
theorem Pre.stop (h:Pre p count l i xs rest) (hi:i<count) {e:Int} (hp:p rest=.error e):pMany p count l=.error e:=by
 rw [h.eq,show count-i=(count-(i+1))+1 from by omega]
 simp only [pMany,hp]
theorem Pre.done (h:Pre p count l i xs rest) (hi:i=count):pMany p count l=.ok (xs,rest):=by
 rw [h.eq,hi,Nat.sub_self]
 simp [pMany]
end
theorem NumRes.ok {K:Int} {l:List UInt8} {n:Int} {s':RS} (h:NumRes K l n 0 s'):∃ r,pNum K l=.ok (n,r)/\s'=⟨r,0⟩:=by
 unfold NumRes at h
 split at h
 · exact absurd rfl h.2
 rename_i m r hp
 obtain ⟨_,rfl,rfl⟩:=h
 exact ⟨_,hp,rfl⟩
theorem NumRes.err {K:Int} {l:List UInt8} {n e:Int} {s':RS} (h:NumRes K l n e s') (he:e≠0):pNum K l=.error e:=by
 unfold NumRes at h
 split at h
 · rename_i e0 hp
   rw [hp,h.1]
 exact absurd h.1 he
theorem TextRes.ok {l:List UInt8} {s:ByteArray} {s':RS} (h:TextRes l s 0 s'):∃ r,pText l=.ok (s,r)/\s'=⟨r,0⟩:=by
 unfold TextRes at h
 split at h
 · exact absurd rfl h.2
 rename_i m r hp
 obtain ⟨_,rfl,rfl⟩:=h
 exact ⟨_,hp,rfl⟩
theorem TextRes.err {l:List UInt8} {s:ByteArray} {e:Int} {s':RS} (h:TextRes l s e s') (he:e≠0):pText l=.error e:=by
 unfold TextRes at h
 split at h
 · rename_i e0 hp
   rw [hp,h.1]
 exact absurd h.1 he
def ListRes (k:Int) (l:List UInt8) (B pv:Nat) (er:Int) (s':RS) (w':World):Prop :=
 match pList k l with
 | .error e0=>er=e0/\er≠0
 | .ok (g,r)=>er=0/\s'=⟨r,0⟩/\∃ v1 v2,Blk w' pv 46 #[.int .i64 k,.int .i64 0,.string ⟨#[]⟩,v1,v2] /\
    w'.ownsRow B 2 1 v1 g.nums.length (g.nums.map (Value.int .i64))/\w'.ownsRow B 9 1 v2 g.texts.length (g.texts.map Value.string)
theorem getList_spec {w:World} {F:Nat->Prop} {r pv:Nat} {l:List UInt8} (h:Rdr w F r ⟨l,0⟩) (hF:¬ F r) (hl:l.length<=140737488355328) (kind:Int) (hk5:4<kind) (hk:kind<=8)
 (hv:Blk w pv 46 #[.int .i64 kind,.int .i64 0,.string ⟨#[]⟩,.slice none 0 0,.slice none 0 0]) (hne:pv≠r) (hFp:¬ F pv) (hFB:∀ b,F b->b<w.heap.size) :
 Calls Tryz.prog 200 #[.pointer (some ⟨r,0,none⟩),.pointer (some ⟨pv,0,none⟩)] w fun e w'=>∃ (er:Int) (s':RS),e=.returned (.int .i64 er)/\ListRes kind l w.heap.size pv er s' w'/\Rdr w' F r s'/\Upd (fun b=>b=r\/b=pv) w w':=by
 have HR:=qH h
 clear h
 cases hlc:l with
 | nil =>
   subst hlc
   have HP:Hid (pList kind []=.error 10):=qH rfl
   have hm:=num_spec HR.out hF 1
   have hx:=RS.num_short (l:=[]) (k:=1) rfl (by simp)
   rw [show ((1:Nat):Int)=1 from rfl] at hx
   rw [hx] at hm
   have HM:=qH hm
   clear hm hx
   go_enter Tryz.func200,Tryz.ntmps200
   go_wp2_with fail
   refine HM.out.mono ?_
   rintro e w1 ⟨rfl,hr,hu⟩
   have HR1:=qH hr
   have HU1:=qH (hu.mono (S':=fun b=>b=r\/b=pv) fun _ _ hh=>.inl hh)
   clear hr hu
   go_wp2_with fail
   refine (err_spec HR1.out).mono ?_
   rintro e w2 ⟨rfl,rfl⟩
   go_wp2
   go_ret
   exact ⟨_,_,rfl,by unfold ListRes;rw [HP.out];exact ⟨rfl,by decide⟩,HR1.out,HU1.out⟩
 | cons c l =>
   subst hlc
   have HP:=qH (show pList kind (c::l)=if 40<c.toNat then .error 45
    else if kind=8 then match pMany pText c.toNat l with
     | .error e=>.error e
     | .ok (xs,r)=>.ok (⟨kind,0,⟨#[]⟩,[],xs⟩,r)
    else match pMany (pNum (kind-4)) c.toNat l with
     | .error e=>.error e
     | .ok (xs,r)=>.ok (⟨kind,0,⟨#[]⟩,xs,[]⟩,r) from rfl)
   have hm:=num_spec HR.out hF 1
   have hx:=RS.num_ok (l:=c::l) (k:=1) rfl (by simp)
   rw [show ((1:Nat):Int)=1 from rfl] at hx
   rw [hx] at hm
   have hbe:be ((c::l).take 1)=c.toNat:=by simp [be]
   rw [hbe] at hm
   have HM:=qH hm
   have hc:=c.toNat_lt
   have hl':l.length<=140737488355328:=by simp at hl;omega
   clear hm hx hbe hl
   generalize c.toNat=N at *
   by_cases hbig:40<N
   · have HP1:=qH (HP.out.trans (if_pos hbig))
     go_enter Tryz.func200,Tryz.ntmps200
     go_wp2_with fail
     refine HM.out.mono ?_
     rintro e w1 ⟨rfl,hr,hu⟩
     have HR1:=qH hr
     have HU1:=qH (hu.mono (S':=fun b=>b=r\/b=pv) fun _ _ hh=>.inl hh)
     clear hr hu
     go_wp2_with fail
     refine (err_spec HR1.out).mono ?_
     rintro e w2 ⟨rfl,rfl⟩
     go_wp2
     go_ret
     exact ⟨_,_,rfl,by unfold ListRes;rw [HP1.out];exact ⟨rfl,by decide⟩,HR1.out,HU1.out⟩
   have HP1:=qH (HP.out.trans (if_neg hbig))
   go_enter Tryz.func200,Tryz.ntmps200
   go_wp2_with fail
   refine HM.out.mono ?_
   rintro e w1 ⟨rfl,hr,hu⟩
   have HR1:=qH (show Rdr w1 F r ⟨l,0⟩ from hr)
   have HU1:=qH (hu.mono (S':=fun b=>b=r\/b=pv) fun _ _ hh=>.inl hh)
   have hv1:=hv.upd hu hne
   clear hr hu
   go_wp2_with fail
   refine (err_spec HR1.out).mono ?_
   rintro e w2 ⟨rfl,rfl⟩
   by_cases h8:kind=8
   · have HP2:=qH (HP1.out.trans (if_pos h8))
     have h8':(kind==8)=true:=by simpa using h8
     have H8:=qH h8
     have hrw:=HR1.out.lt
     have hsz:=HU1.out.size
     clear h8
     go_wp2
     go_loopw [22] (fun i wr=>∃ (i0:Nat) (xs:List ByteArray) (rest:List UInt8) (v:Value),i0<=N/\i=.int .i64 i0/\Hid (Pre pText N l i0 xs rest)/\Hid (Rdr wr F r ⟨rest,0⟩) /\
      Hid (Blk wr pv 46 #[.int .i64 kind,.int .i64 0,.string ⟨#[]⟩,.slice none 0 0,v])/\Hid (wr.ownsRow w.heap.size 9 1 v i0 (xs.map Value.string))/\Hid (Upd (fun b=>b=r\/b=pv) w wr)) (fun i _=>N-(intOf i).toNat)
     case atStart=>exact ⟨0,[],l,_,Nat.zero_le _,rfl,qH (Pre.zero _ _ _),HR1,qH hv1,qH (World.ownsRow_nil _ _ _ _),HU1⟩
     obtain ⟨i0,xs,rest,v,hi,rfl,JP,JR,JB,JO,JU⟩:=hrel
     clear hv1 HR1 HU1 hrw hsz
     have hrw:=JB.out.lt
     have hsz:=JU.out.size
     have e0:wr.cell? ⟨pv,0,none⟩=some (.int .i64 kind):=JB.out.cell 0
     by_cases hlt:i0<N
     · have HR2:=JR
       have hl2:rest.length<=140737488355328:=Nat.le_trans JP.out.short hl'
       go_wp2_with fail
       refine (getText_spec HR2.out hF hl2).mono ?_
       rintro e w3 ⟨x,er,s',rfl,hres,hr3,hu3⟩
       have HRes:=qH hres
       have HR3:=qH hr3
       have HU3:=qH hu3
       have hle3:=hu3.size
       clear hres hr3 hu3
       by_cases hz:er=0
       · subst hz
         have JB3:=qH (JB.out.upd HU3.out hne)
         have JO3:=qH (own_upd JO.out HU3.out fun g hg hh=>by
          obtain ⟨A,n,c,hb,_⟩:=JR.out
          exact hb.ne_own JO.out (by decide) (hh ▸ hg))
         obtain ⟨A,m,c,rfl⟩:=own_slice JO3.out
         have HNE:=qH (JB3.out.ne_own JO3.out (by decide))
         have b4:w3.cell? ⟨pv,4,none⟩=some (.slice A m c):=JB3.out.cell 4
         go_wp2_with (at_builtin;go_must (refine wpList_app rfl (.tmp 41) (.tmp 43) _ _ rfl w.heap.size 9 1 16 _ Tryz.underlying40 info_string rfl (.slice A m c) i0 _ rfl (JO3.out.alloc _) rfl (src_row Tryz.underlying40 (Row.one _ _ _) (by simp [Value.oneCell'])) (by unfold maxLen;omega) (by omega) (by simp;omega) ?_);intro v' w4 hg;obtain ⟨A',m',c',rfl⟩:=own_slice hg.own;have s1:w4.cell? ⟨pv,4,none⟩=some (.slice A m c):=(hg.blk (JB3.out.alloc _) HNE.out).cell 4;have s2:w4.frozen? ⟨pv,4,none⟩=false:=(hg.blk (JB3.out.alloc _) HNE.out).frozen 4;have HG:=qH hg;clear hg)
         go_roundw
         case rel =>
          obtain ⟨f1,f2,f3⟩:=field_app (i:=4) JB3.out JO3.out (by decide) ((Upd.refl _ w3).alloc _) HG.out
          obtain ⟨r2,hp,rfl⟩:=HRes.out.ok
          refine ⟨i0+1,xs++[x],r2,_,by omega,by go_num,qH (JP.out.next hlt hp (pText_short hp)),qH (HR3.out.upd f3 ?_ ?_),qH f1,qH (by rw [List.map_append];exact f2),qH ((JU.out.trans (HU3.out.mono (S':=fun b=>b=r\/b=pv) fun _ _ hh=>.inl hh) fun _ _ hh=>hh).trans f3 ?_)⟩
          · rintro (hh | hh)
            · exact hne hh.symm
            obtain ⟨A0,n0,c0,hb0,_⟩:=HR3.out
            exact hb0.ne_own JO3.out (by decide) hh
          · rintro b hb (hh | hh)
            · exact hFp (hh ▸ hb)
            have:=hFB b hb;have:=(JO3.out.lt b hh).1;omega
          rintro b hb (hh | hh)
          · exact .inr hh
          have:=(JO3.out.lt b hh).1
          omega
         case measure=>simp [intOf];omega
       have hz':(er != 0)=true:=by simpa using hz
       have HZ:=qH hz
       clear hz
       go_wp2
       go_ret
       refine ⟨er,s',rfl,?_,HR3.out,JU.out.trans (HU3.out.mono (S':=fun b=>b=r\/b=pv) fun _ _ hh=>.inl hh) fun _ _ hh=>hh⟩
       unfold ListRes
       rw [HP2.out,JP.out.stop hlt (HRes.out.err HZ.out)]
       exact ⟨rfl,HZ.out⟩
     have hiN:i0=N:=by omega
     have HD:=qH (JP.out.done hiN)
     clear hiN
     go_wp2
     go_ret
     refine ⟨0,_,rfl,?_,JR.out,JU.out⟩
     unfold ListRes
     rw [HP2.out,HD.out]
     exact ⟨rfl,rfl,⟨.slice none 0 0,_,JB.out,World.ownsRow_nil _ _ _ _,by have h1:=JO.out;rw [<- JP.out.len] at h1;exact h1⟩⟩
   have HP2:=qH (HP1.out.trans (if_neg h8))
   have h8':(kind==8)=false:=by simpa using h8
   have H8:=qH h8
   have HBK:=qH (show baseK kind=kind-4 from by unfold baseK;rw [if_pos hk5])
   have hrw:=HR1.out.lt
   have hsz:=HU1.out.size
   clear h8
   go_wp2
   go_loopw [22] (fun i wr=>∃ (i0:Nat) (xs:List Int) (rest:List UInt8) (v:Value),i0<=N/\i=.int .i64 i0/\Hid (Pre (pNum (kind-4)) N l i0 xs rest)/\Hid (Rdr wr F r ⟨rest,0⟩) /\
    Hid (Blk wr pv 46 #[.int .i64 kind,.int .i64 0,.string ⟨#[]⟩,v,.slice none 0 0])/\Hid (wr.ownsRow w.heap.size 2 1 v i0 (xs.map (Value.int .i64)))/\Hid (Upd (fun b=>b=r\/b=pv) w wr)) (fun i _=>N-(intOf i).toNat)
   case atStart=>exact ⟨0,[],l,_,Nat.zero_le _,rfl,qH (Pre.zero _ _ _),HR1,qH hv1,qH (World.ownsRow_nil _ _ _ _),HU1⟩
   obtain ⟨i0,xs,rest,v,hi,rfl,JP,JR,JB,JO,JU⟩:=hrel
   clear hv1 HR1 HU1 hrw hsz
   have hrw:=JB.out.lt
   have hsz:=JU.out.size
   have e0:wr.cell? ⟨pv,0,none⟩=some (.int .i64 kind):=JB.out.cell 0
   by_cases hlt:i0<N
   · have HR2:=JR
     have hl2:rest.length<=140737488355328:=Nat.le_trans JP.out.short hl'
     go_wp2_with fail
     refine (getNum_spec HR2.out hF kind (by omega) (by omega)).mono ?_
     rintro e w3 ⟨x,er,s',rfl,hres,hr3,hu3⟩
     rw [HBK.out] at hres
     have HRes:=qH hres
     have HR3:=qH hr3
     have HU3:=qH hu3
     have hle3:=hu3.size
     clear hres hr3 hu3
     by_cases hz:er=0
     · subst hz
       have JB3:=qH (JB.out.upd HU3.out hne)
       have JO3:=qH (own_upd JO.out HU3.out fun g hg hh=>by
        obtain ⟨A,n,c,hb,_⟩:=JR.out
        exact hb.ne_own JO.out (by decide) (hh ▸ hg))
       obtain ⟨A,m,c,rfl⟩:=own_slice JO3.out
       have HNE:=qH (JB3.out.ne_own JO3.out (by decide))
       have b3:w3.cell? ⟨pv,3,none⟩=some (.slice A m c):=JB3.out.cell 3
       go_wp2_with (at_builtin;go_must (refine wpList_app rfl (.tmp 63) (.tmp 65) _ _ rfl w.heap.size 2 1 8 _ Tryz.underlying44 info_i64 rfl (.slice A m c) i0 _ rfl (JO3.out.alloc _) rfl (src_row Tryz.underlying44 (Row.one _ _ _) (by simp [Value.oneCell'])) (by unfold maxLen;omega) (by omega) (by simp;omega) ?_);intro v' w4 hg;obtain ⟨A',m',c',rfl⟩:=own_slice hg.own;have s1:w4.cell? ⟨pv,3,none⟩=some (.slice A m c):=(hg.blk (JB3.out.alloc _) HNE.out).cell 3;have s2:w4.frozen? ⟨pv,3,none⟩=false:=(hg.blk (JB3.out.alloc _) HNE.out).frozen 3;have HG:=qH hg;clear hg)
       go_roundw
       case rel =>
        obtain ⟨f1,f2,f3⟩:=field_app (i:=3) JB3.out JO3.out (by decide) ((Upd.refl _ w3).alloc _) HG.out
        obtain ⟨r2,hp,rfl⟩:=HRes.out.ok
        refine ⟨i0+1,xs++[x],r2,_,by omega,by go_num,qH (JP.out.next hlt hp (pNum_short hp)),qH (HR3.out.upd f3 ?_ ?_),qH f1,qH (by rw [List.map_append];exact f2),qH ((JU.out.trans (HU3.out.mono (S':=fun b=>b=r\/b=pv) fun _ _ hh=>.inl hh) fun _ _ hh=>hh).trans f3 ?_)⟩
        · rintro (hh | hh)
          · exact hne hh.symm
          obtain ⟨A0,n0,c0,hb0,_⟩:=HR3.out
          exact hb0.ne_own JO3.out (by decide) hh
        · rintro b hb (hh | hh)
          · exact hFp (hh ▸ hb)
          have:=hFB b hb;have:=(JO3.out.lt b hh).1;omega
        rintro b hb (hh | hh)
        · exact .inr hh
        have:=(JO3.out.lt b hh).1
        omega
       case measure=>simp [intOf];omega
     have hz':(er != 0)=true:=by simpa using hz
     have HZ:=qH hz
     clear hz
     go_wp2
     go_ret
     refine ⟨er,s',rfl,?_,HR3.out,JU.out.trans (HU3.out.mono (S':=fun b=>b=r\/b=pv) fun _ _ hh=>.inl hh) fun _ _ hh=>hh⟩
     unfold ListRes
     rw [HP2.out,JP.out.stop hlt (HRes.out.err HZ.out)]
     exact ⟨rfl,HZ.out⟩
   have hiN:i0=N:=by omega
   have HD:=qH (JP.out.done hiN)
   clear hiN
   go_wp2
   go_ret
   refine ⟨0,_,rfl,?_,JR.out,JU.out⟩
   unfold ListRes
   rw [HP2.out,HD.out]
   exact ⟨rfl,rfl,⟨_,.slice none 0 0,JB.out,by have h1:=JO.out;rw [<- JP.out.len] at h1;exact h1,World.ownsRow_nil _ _ _ _⟩⟩
end Go.Proofs.YtkopcinhbjimiaaGreatDoor
