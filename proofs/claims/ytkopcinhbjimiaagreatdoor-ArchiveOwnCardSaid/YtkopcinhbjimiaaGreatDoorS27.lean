/- Texts that the claim leans on: walks and plain laws, function by function. -/
import Derived.Test.YtkopcinhbjimiaaGreatDoorS04
import Derived.Test.YtkopcinhbjimiaaGreatDoorS09
import Derived.Test.YtkopcinhbjimiaaGreatDoorS25
set_option maxRecDepth 100000
set_option maxHeartbeats 16000000
namespace Go.Proofs.YtkopcinhbjimiaaGreatDoor
theorem ZpR {l r:List UInt8} {f:GFr} (h:oneP l=.ok (some (f,r))):l=Zai f.type f.data++r:=by
 obtain ⟨hp,hr,_⟩:=ZeE h
 rw [hp,hr,List.take_append_drop]
theorem ZoY {l r:List UInt8} {f:GFr} (h:oneP l=.ok (some (f,r))) (c:List UInt8):oneP (l++c)=.ok (some (f,r++c)):=by
 obtain ⟨-,-,-,ht,hd⟩:=ZeE h
 rw [ZpR h,List.append_assoc]
 exact Zge ht hd
theorem ZkH (n:Nat):∀ (l c:List UInt8),l.length<=n->(Zae l).2.2=0->Zae (l++c)=((Zae l).1++(Zae ((Zae l).2.1++c)).1,(Zae ((Zae l).2.1++c)).2):=by
 induction n with
 | zero =>
   intro l c hl _
   obtain rfl:l=[]:=List.length_eq_zero_iff.1 (by omega)
   rw [ZbR]
   rfl
 | succ n ih =>
   intro l c hl h
   cases hx:oneP l with
   | error e =>
     rw [Zdh hx] at h
     simp only at h
     have:=Zkc hx
     omega
   | ok o =>
     cases o with
     | none=>rw [ZbS hx];rfl
     | some p =>
       obtain ⟨f,r⟩:=p
       have hr:=Zkb hx
       rw [Zbk hx] at h ⊢
       rw [Zbk (ZoY hx c),ih r c (by omega) h]
       rfl
theorem ZhS:∀ (fs gs:List GFr) (s:PSt),ZaI (fs++gs) s=(match ZaI fs s with | .error e=>.error e | .ok s'=>ZaI gs s')
 | [],_,_=>rfl
 | f::fs,gs,s=>by
   rw [List.cons_append]
   simp only [ZaI]
   cases Zby s f with
   | error e=>rfl
   | ok s1=>exact ZhS fs gs s1
theorem ZfK {l:List UInt8}:∀ (n:Nat),l.length<=n->(Zae l).2.2≠0->(Zae l).2.1≠[]:=by
 intro n
 induction n generalizing l with
 | zero =>
   intro hl h
   obtain rfl:l=[]:=List.length_eq_zero_iff.1 (by omega)
   rw [ZbR] at h
   exact absurd rfl h
 | succ n ih =>
   intro hl h
   cases hx:oneP l with
   | error e =>
     rw [Zdh hx]
     intro he
     subst he
     cases hx
   | ok o =>
     cases o with
     | none=>rw [ZbS hx] at h;exact absurd rfl h
     | some p =>
       obtain ⟨f,r⟩:=p
       have hr:=Zkb hx
       rw [Zbk hx] at h ⊢
       exact ih (by omega) h
def ZdX (s:PSt) (l:List UInt8):Except Int PSt :=
 match ZaI (Zae l).1 s with
 | .error e=>.error e
 | .ok s' =>
   if s'.state=3 then (if (Zae l).2.1≠[] then .error 11 else .ok s')
   else if (Zae l).2.2≠0 then .error (Zae l).2.2 else .ok s'
def ZcG (b:List UInt8):List UInt8:=(Zae (b.drop 8)).2.1
theorem ZnL {b:List UInt8} (h:b.length<=16777216) (h8:8<=b.length) (hm:b.take 8=Zas):fedP b=ZdX ⟨0,noG,Zas⟩ (b.drop 8):=by
 unfold fedP ZdX
 rw [if_neg (by omega),if_neg (by omega),if_neg (by simp [hm])]
 cases ZaI (Zae (b.drop 8)).1 ⟨0,noG,Zas⟩ <;> rfl
theorem ZdU {b:List UInt8} (h8:b.length<8):fedP b=.ok ⟨0,noG,b⟩:=by
 unfold fedP
 rw [if_neg (by omega),if_pos h8]
theorem Zfo {b:List UInt8} (h:b.length<=16777216) (h8:8<=b.length) (hm:b.take 8≠Zas):fedP b=.error 90:=by
 unfold fedP
 rw [if_neg (by omega),if_neg (by omega),if_pos hm]
theorem ZeN {b:List UInt8} (h:16777216<b.length):fedP b=.error 1:=by
 unfold fedP
 rw [if_pos h]
theorem Zeo {b:List UInt8} (h8:b.length<=8):ZcG b=[]:=by
 unfold ZcG
 rw [List.drop_of_length_le h8,ZbR]
theorem Zit {b:List UInt8} {s:PSt} (h:fedP b=.ok s) (h8:8<=b.length):b.length<=16777216/\b.take 8=Zas/\(Zae (b.drop 8)).2.2=0/\ZaI (Zae (b.drop 8)).1 ⟨0,noG,Zas⟩=.ok s/\(s.state=3->ZcG b=[]):=by
 have h1:b.length<=16777216:=by
  by_cases h1:b.length<=16777216
  · exact h1
  rw [ZeN (by omega)] at h;cases h
 have hm:b.take 8=Zas:=by
  by_cases hm:b.take 8=Zas
  · exact hm
  rw [Zfo h1 h8 hm] at h;cases h
 rw [ZnL h1 h8 hm] at h
 unfold ZdX at h
 cases hx:ZaI (Zae (b.drop 8)).1 ⟨0,noG,Zas⟩ with
 | error e=>rw [hx] at h;cases h
 | ok s' =>
   rw [hx] at h
   simp only at h
   by_cases hs:s'.state=3
   · rw [if_pos hs] at h
     by_cases hr:(Zae (b.drop 8)).2.1≠[]
     · rw [if_pos hr] at h;cases h
     rw [if_neg hr] at h
     injection h with h
     subst h
     refine ⟨h1,hm,?_,rfl,fun _=>Decidable.not_not.1 hr⟩
     by_cases h2:(Zae (b.drop 8)).2.2=0
     · exact h2
     exact absurd (Decidable.not_not.1 hr) (ZfK _ (Nat.le_refl _) h2)
   rw [if_neg hs] at h
   by_cases he:(Zae (b.drop 8)).2.2≠0
   · rw [if_pos he] at h;cases h
   rw [if_neg he] at h
   injection h with h
   subst h
   exact ⟨h1,hm,Decidable.not_not.1 he,rfl,fun h3=>absurd h3 hs⟩
theorem ZnM {b c:List UInt8} {s:PSt} (h:fedP b=.ok s) (h8:8<=b.length) (hl:(b++c).length<=16777216):fedP (b++c)=ZdX s (ZcG b++c)/\ZcG (b++c)=(Zae (ZcG b++c)).2.1:=by
 obtain ⟨h1,hm,he,ht,hr⟩:=Zit h h8
 have hd:(b++c).drop 8=b.drop 8++c:=List.drop_append_of_le_length h8
 have hf:=ZkH (b.drop 8).length (b.drop 8) c (Nat.le_refl _) he
 constructor
 · rw [ZnL hl (by rw [List.length_append];omega) (by rw [List.take_append_of_le_length h8];exact hm),hd]
   unfold ZdX
   rw [hf]
   simp only
   rw [ZhS,ht]
   rfl
 unfold ZcG
 rw [hd,hf]
theorem Ziu {b:List UInt8} {s:PSt} (h:fedP b=.ok s):s.all++ZcG b=b:=by
 by_cases h8:b.length<8
 · rw [ZdU h8] at h
   injection h with h
   rw [<- h,Zeo (by omega)]
   simp
 obtain ⟨h1,hm,he,ht,hr⟩:=Zit h (by omega)
 have hall:=ZhR _ _ _ ht
 have hfl:=ZfI (b.drop 8).length (b.drop 8) (Nat.le_refl _)
 unfold ZcG
 rw [hall,List.append_assoc,<-hfl]
 simp only
 rw [<- hm,List.take_append_drop]
end Go.Proofs.YtkopcinhbjimiaaGreatDoor
namespace Go.Proofs.YtkopcinhbjimiaaGreatDoor
open Go.RowKit
theorem RS.num_lt (s:RS) (k:Nat):(s.num k).1<256 ^ k:=by
 unfold RS.num
 simp only
 have h1:=Zeg (s.take (k:Int) (Zao k)).1
 have h2:(s.take (k:Int) (Zao k)).1.length<=k:=by
  unfold RS.take
  split
  · split
    · simp
    split
    · simp
    simp only [List.length_take]
    omega
  simp
 exact Nat.lt_of_lt_of_le h1 (Nat.pow_le_pow_right (by omega) h2)
theorem RS.num1_lt (s:RS):(s.num 1).1<256:=RS.num_lt s 1
theorem RS.num2_lt (s:RS):(s.num 2).1<65536:=RS.num_lt s 2
theorem RS.num4_lt (s:RS):(s.num 4).1<4294967296:=RS.num_lt s 4
theorem RS.take_left_le (s:RS) (n:Int) (b:Bool):(s.take n b).2.left.length<=s.left.length:=by
 unfold RS.take
 split
 · split
   · simp
   split
   · simp
   simp
 simp
theorem RS.num_left_le (s:RS) (n:Int):(s.num n).2.left.length<=s.left.length:=RS.take_left_le s n _
theorem RS.name_left_le (s:RS):s.name.2.left.length<=s.left.length:=Nat.le_trans (RS.take_left_le _ _ _) (RS.num_left_le s 1)
theorem RS.raw2_left_le (s:RS):s.raw2.2.left.length<=s.left.length:=Nat.le_trans (RS.take_left_le _ _ _) (RS.num_left_le s 2)
theorem ZdG {w:World} {F:Nat->Prop} {r:Nat} {s:RS} (h:Rdr w F r s) (hF:¬ F r) (hs:s.left.length<=140737488355328) :
 Calls Tryz.prog 164 #[.pointer (some ⟨r,0,none⟩)] w fun e w'=>e=.returned (.string s.name.1)/\Rdr w' F r s.name.2/\Upd (fun b=>b=r) w w':=by
 have HR:=qH h
 have HF:=qH hF
 have hlt:=RS.num1_lt s
 have hll:=RS.num_left_le s 1
 have HN:=qH (show s.name=(⟨((s.num 1).2.take ((s.num 1).1:Int) true).1.toArray⟩,((s.num 1).2.take ((s.num 1).1:Int) true).2) from rfl)
 generalize s.name=nm at HN ⊢
 clear h hF
 go_enter Tryz.func164,Tryz.ntmps164
 go_wp2_with fail
 refine (Zbb HR.out HF.out 1).mono ?_
 rintro e w1 ⟨rfl,hr1,hu1⟩
 have HR1:=qH hr1
 have HU1:=qH hu1
 clear hr1 hu1 HR
 generalize s.num 1=S1 at *
 obtain ⟨k,s1⟩:=S1
 simp only at hlt hll HN HR1 ⊢
 go_wp2_with fail
 refine (ZfZ HR1.out HF.out (by omega) (k:Int)).mono ?_
 rintro e w2 ⟨v2,rfl,hO,hr2,hu2⟩
 obtain ⟨A2,c2,rfl⟩:=Zac hO
 have hcv:=ZbF (ZaG hO)
 have HR2:=qH hr2
 have HU2:=qH (HU1.out.trans hu2 fun _ _ hh=>hh)
 clear hO hr2 hu2
 go_wp2
 go_ret
 refine ⟨?_,by rw [HN.out];exact HR2.out,HU2.out⟩
 rw [HN.out]
 rfl
theorem ZoZ {w:World} {F:Nat->Prop} {r:Nat} {s:RS} (h:Rdr w F r s) {E:Int} (hE:(if s.err=0/\s.left≠[] then 11 else s.err)=E) :
 Calls Tryz.prog 190 #[.pointer (some ⟨r,0,none⟩)] w fun e w'=>e=.returned (.int .i64 E)/\Same w w':=by
 obtain ⟨A,n,c,hb,hy⟩:=h
 have h0:=hb.cell 0
 have h1:=hb.cell 1
 have hl:=hy.len
 obtain ⟨left,err⟩:=s
 simp only [List.getElem?_toArray,List.getElem?_cons_succ,List.getElem?_cons_zero] at h0 h1 hl hE
 have HS:=qH (Upd.refl (fun _=>False) w)
 by_cases he:err=0
 · subst he
   by_cases hn:n=0
   · subst hn
     rw [if_neg (by simp [List.length_eq_zero_iff.1 hl])] at hE
     subst hE
     have hd:decide ((0:Int)<((0:Nat):Int))=false:=by decide
     have hd2:decide (0<0)=false:=by decide
     clear hl hb hy
     go_enter Tryz.func190,Tryz.ntmps190
     go_wp2
     go_ret
     exact ⟨rfl,HS.out⟩
   have hpos:0<n:=by omega
   rw [if_pos ⟨rfl,by intro e;rw [e] at hl;simp at hl;omega⟩] at hE
   subst hE
   have hposI:(0:Int)<(n:Int):=by omega
   clear hl hb hy
   go_enter Tryz.func190,Tryz.ntmps190
   go_wp2
   go_ret
   exact ⟨rfl,HS.out⟩
 rw [if_neg (by simp [he])] at hE
 subst hE
 have he':(err==0)=false:=by simpa using he
 clear hl hb hy
 go_enter Tryz.func190,Tryz.ntmps190
 go_wp2
 go_ret
 exact ⟨rfl,HS.out⟩
theorem ZpS {w:World} {F:Nat->Prop} {r:Nat} {s:RS} (h:Rdr w F r s):OfT w 235 r:=by
 obtain ⟨A,n,c,hb,_⟩:=h
 exact ⟨_,hb⟩
theorem Rdr.narrow {w:World} {F:Nat->Prop} {r:Nat} {s:RS} (h:Rdr w F r s):Rdr w (fun b=>F b/\b<w.heap.size) r s:=by
 obtain ⟨A,n,c,hb,hy⟩:=h
 exact ⟨A,n,c,hb,Row.mono hy fun b h1 h2=>⟨h2,h1⟩⟩
def Ziv (s:RS) (w:World) (v:Value) (ok:Bool) (w':World):Prop :=
 ∃ ps,ZbC w' w.heap.size v ps/\(ok=true->s.props=some (ps.map PR.dat))/\(ok=false->s.props=none)
theorem ZeO {w:World} {F:Nat->Prop} {r:Nat} {s:RS} (h:Rdr w F r s) (hF:¬ F r) (hs:s.left.length<=140737488355328) :
 Calls Tryz.prog 165 #[.pointer (some ⟨r,0,none⟩)] w fun e w'=>∃ v ok,e=.returned (.tuple #[v,.bool ok])/\Hid (Ziv s w v ok w')/\Upd (fun b=>b=r) w w':=by
 have HR:=qH h.narrow
 have HF:=qH (fun h:F r/\r<w.heap.size=>hF h.1)
 have hlt:=RS.num1_lt s
 have hll:=RS.num_left_le s 1
 have HrL:=qH h.lt
 have HP:=qH (show s.props=if (RS.prs (s.num 1).1 (s.num 1).2).2.err=0/\(RS.prs (s.num 1).1 (s.num 1).2).2.left=[] then (RS.prs (s.num 1).1 (s.num 1).2).1 else none from rfl)
 have HPR:=qH (show ∀ v ok w',Ziv s w v ok w'↔∃ ps,ZbC w' w.heap.size v ps/\(ok=true->s.props=some (ps.map PR.dat))/\(ok=false->s.props=none) from fun v ok w'=>Iff.rfl)
 generalize Ziv s w=PRes at HPR ⊢
 generalize s.props=prs at HP HPR
 clear h hF
 go_enter Tryz.func165,Tryz.ntmps165
 go_wp2_with fail
 refine (Zbb HR.out HF.out 1).mono ?_
 rintro e w1 ⟨rfl,hr1,hu1⟩
 have HR1:=qH hr1
 have HU1:=qH hu1
 clear hr1 hu1
 generalize s.num 1=S1 at *
 obtain ⟨n,s1⟩:=S1
 simp only at hlt hll HP HR1 ⊢
 go_wp2_with fail
 go_loopg [9,2] n (fun gh ix s2 wr=>∃ (k:Nat) (Ao:Option Addr) (co:Nat) (sk:RS) (ps:List PR),n-k=gh/\k<=n/\ix=.int .u64 k/\s2=.slice Ao k co/\Hid (ps.length=k)/\Hid (Rdr wr (fun b=>F b/\b<w.heap.size) r sk)/\Hid (sk.left.length<=140737488355328)/\Hid (ZbC wr w.heap.size (.slice Ao k co) ps)/\Hid (RS.prs n s1=((RS.prs (n-k) sk).1.map ((ps.map PR.dat)++·),(RS.prs (n-k) sk).2))/\Hid (Upd (fun b=>b=r) w wr))
 case atStart=>exact ⟨0,none,0,s1,[],rfl,Nat.zero_le _,rfl,rfl,qH rfl,HR1,qH (by omega),qH (ZbC.nil_ _ _),qH (by simp),HU1⟩
 obtain ⟨k,Ao,co,sk,ps,rfl,hk,rfl,rfl,KL,KR,KLn,KO,KP,KU⟩:=hrel
 by_cases hlk:k<n
 · have hnk:n-k=(n-(k+1))+1:=by omega
   have HK:=qH (show RS.prs n s1=(if (decA sk.name.2.raw2.1).2≠0 then (none,sk.name.2.raw2.2) else (((RS.prs (n-(k+1)) sk.name.2.raw2.2).1.map (⟨sk.name.1,(decA sk.name.2.raw2.1).1⟩::·)).map ((ps.map PR.dat)++·),(RS.prs (n-(k+1)) sk.name.2.raw2.2).2)) by
    rw [KP.out,hnk]
    simp only [RS.prs]
    split <;> rfl)
   have hnl:=RS.name_left_le sk
   have hrl:=RS.raw2_left_le sk.name.2
   have HKL:=KLn.out
   clear hnk
   go_wp2_with fail
   refine (ZdG KR.out HF.out KLn.out).mono ?_
   rintro e w2 ⟨rfl,hr2,hu2⟩
   have HR2:=qH hr2
   have HU2:=qH hu2
   have hlt2:=RS.num2_lt sk.name.2
   have hll2:=RS.num_left_le sk.name.2 2
   have HRW:=qH (show sk.name.2.raw2=(sk.name.2.num 2).2.take ((sk.name.2.num 2).1:Int) true from rfl)
   clear hr2 hu2
   generalize sk.name=NM at *
   obtain ⟨key,s2⟩:=NM
   simp only at hnl hrl hlt2 hll2 HK HR2 HRW ⊢
   go_wp2_with fail
   refine (Zbb HR2.out HF.out 2).mono ?_
   rintro e w3 ⟨rfl,hr3,hu3⟩
   have HR3:=qH hr3
   have HU3:=qH (HU2.out.trans hu3 fun _ _ hh=>hh)
   clear hr3 hu3
   generalize s2.num 2=S3 at *
   obtain ⟨m,s3⟩:=S3
   simp only at hlt2 hll2 HRW HR3 ⊢
   go_wp2_with fail
   refine (ZfZ HR3.out HF.out (by omega) (m:Int)).mono ?_
   rintro e w4 ⟨v4,rfl,hO,hr4,hu4⟩
   rw [<- HRW.out] at hO hr4
   generalize s2.raw2=S4 at *
   obtain ⟨bs,s4⟩:=S4
   simp only at hO hr4 hrl HK
   obtain ⟨A4,c4,rfl⟩:=Zac hO
   have HY4:=qH (ZaG hO)
   have HR4:=qH hr4
   have HU4:=qH (HU3.out.trans hu4 fun _ _ hh=>hh)
   clear hO hr4 hu4
   have HD:=qH (show decD bs.length (decP (bs.take 40082))=decA bs by rw [ZmR _ (Nat.le_refl _)];rfl)
   generalize hdv:decA bs=D at *
   obtain ⟨g,er⟩:=D
   simp only at HK
   have HDV:=qH hdv
   clear hdv
   go_wp2_with fail
   refine (ZjT w4 HY4.out (g,er) HD.out).mono ?_
   rintro e w5 ⟨v5,rfl,hN5,hs5⟩
   obtain ⟨A1,c1,A2,c2,rfl,-⟩:=(show ∃ A1 c1 A2 c2,v5=g.val A1 g.nums.length c1 A2 g.texts.length c2/\True from by
    obtain ⟨v1,v2,rfl,h1,h2⟩:=hN5
    obtain ⟨A1,c1,rfl⟩:=Zac h1
    obtain ⟨A2,c2,rfl⟩:=Zac h2
    exact ⟨A1,c1,A2,c2,rfl,trivial⟩)
   have HN5:=qH hN5
   have HR5:=qH (HR4.out.same hs5)
   have HU5:=qH (HU4.out.same hs5)
   have HO5:=qH (KO.out.type HU5.out (fun b _ hb=>by rw [hb];exact ZpS KR.out) (by decide) (by decide) (by decide))
   have HZ5:=qH (Nat.le_trans HU4.out.size (Nat.le_refl _))
   have HZw:=qH KU.out.size
   clear hN5 hs5 HY4 HR4 HR3 HU3 HR2 HU2 HU4 KR KO
   go_upto_region 5 with fail
   have hsa:=(Upd.refl (fun _=>False) w5).alloc (.cells #[.int .i64 g.kind,.int .i64 g.num,.string g.text,.slice A1 g.nums.length c1,.slice A2 g.texts.length c2] 46)
   have HB6:=qH (Blk.new w5 46 #[.int .i64 g.kind,.int .i64 g.num,.string g.text,.slice A1 g.nums.length c1,.slice A2 g.texts.length c2])
   have HR6:=qH (HR5.out.same hsa)
   have HU6:=qH (HU5.out.same hsa)
   have HO6:=qH (HO5.out.same hsa)
   have HN6:Hid (er=0->ZbI (w5.alloc (.cells #[.int .i64 g.kind,.int .i64 g.num,.string g.text,.slice A1 g.nums.length c1,.slice A2 g.texts.length c2] 46)) w.heap.size ⟨key,g,A1,g.nums.length,c1,A2,g.texts.length,c2⟩):=qH fun he=>by
    obtain ⟨v1,v2,hv,h1,h2⟩:=HN5.out
    injection hv with hv
    simp only [Array.mk.injEq,List.cons.injEq,and_true,true_and] at hv
    obtain ⟨rfl,rfl⟩:=hv
    have hf:=(ZiV (l:=bs) (by rw [HDV.out];exact he)).2.1
    rw [HDV.out] at hf
    have hz:w.heap.size<=w4.heap.size:=Nat.le_trans HZw.out HZ5.out
    exact ⟨Zaa (Zad h1 hz) hsa,Zaa (Zad h2 hz) hsa,⟨hf.kind,hf.num,hf.range⟩⟩
   clear hsa HN5 HR5 HU5 HO5
   generalize w5.alloc (.cells #[.int .i64 g.kind,.int .i64 g.num,.string g.text,.slice A1 g.nums.length c1,.slice A2 g.texts.length c2] 46)=w6 at *
   generalize w5.heap.size=g6 at *
   by_cases he:er=0
   · subst he
     have HX6:=qH (HN6.out rfl)
     have HK2:=qH (HK.out.trans (if_neg (by simp)))
     have p0:=HB6.out.cell 0
     have p1:=HB6.out.cell 1
     have p2:=HB6.out.cell 2
     have p3:=HB6.out.cell 3
     have p4:=HB6.out.cell 4
     simp only [List.getElem?_toArray,List.getElem?_cons_succ,List.getElem?_cons_zero] at p0 p1 p2 p3 p4
     obtain ⟨x,hx⟩:∃ x:PR,x=⟨key,g,A1,g.nums.length,c1,A2,g.texts.length,c2⟩:=⟨_,rfl⟩
     have hsa:=(Upd.refl (fun _=>False) w6).alloc (.cells x.cells.toArray 48)
     have HXd:=qH (show x.dat=⟨key,g⟩ by rw [hx];rfl)
     have HOa:=qH (HO6.out.same hsa)
     have HXa:=qH (show ZbI (w6.alloc (.cells x.cells.toArray 48)) w.heap.size x by rw [hx];exact (by have h1:=HX6.out.same hsa;rw [hx] at h1;exact h1))
     have HRa:=qH (HR6.out.same hsa)
     have HUa:=qH (HU6.out.same hsa)
     have hrow:(w6.alloc (.cells x.cells.toArray 48)).ownsRow w.heap.size 48 6 (.slice Ao k co) k (ps.flatMap PR.cells):=by have h1:=HOa.out.row;rw [KL.out] at h1;exact h1
     have HROW:=qH hrow
     have hxc:x.cells.toArray=#[.string key,.int .i64 g.kind,.int .i64 g.num,.string g.text,.slice A1 g.nums.length c1,.slice A2 g.texts.length c2]:=by rw [hx];rfl
     have HROW2:=HROW.out
     rw [hxc] at HROW2
     have HROW2:=qH HROW2
     have HSRC:=qH (Row.pr w6 x)
     have HXC:=qH hxc
     have hk255:k<255:=by omega
     have hzz:w.heap.size<=w6.heap.size:=Nat.le_trans HZw.out HU6.out.size
     clear hsa hrow hxc hx HN6 HK HDV
     go_wp2_with (at_builtin;go_must (refine Zag rfl (.tmp 24) (.tmp 28) _ _ rfl w.heap.size 48 6 96 _ Tryz.underlying41 Zgw rfl (.slice Ao k co) k _ rfl HROW2.out rfl (Zal Tryz.underlying41 (by have h1:=HSRC.out;rw [HXC.out] at h1;exact h1) (PR.one x)) (by unfold maxLen;omega) (by omega) (by simp;omega) ?_);intro v9 w9 hg;rw [<- HXC.out] at hg;have HG:=qH hg;clear hg)
     obtain ⟨A9,c9,rfl⟩:=Zac HG.out.own
     have HOn:=qH (HOa.out.snoc (x:=x) (by rw [KL.out];exact HG.out) HXa.out)
     have HRn:=qH (HRa.out.upd HG.out.upd (fun hh=>by
      have h1:=HROW.out.lt _ hh
      have h2:=HrL.out
      omega) (fun b hb hh=>by have:=(HROW.out.lt _ hh).1;omega))
     have HUn:=qH ((KU.out.trans HUa.out fun _ _ hh=>hh).trans HG.out.upd fun b hb hh=>by have:=(HROW.out.lt _ hh).1;omega)
     have HKn:Hid (RS.prs n s1=((RS.prs (n-(k+1)) s4).1.map (((ps++[x]).map PR.dat)++·),(RS.prs (n-(k+1)) s4).2)):=qH (by
      rw [HK2.out]
      simp only [Option.map_map,List.map_append,List.map_cons,List.map_nil,HXd.out]
      congr 2
      funext l
      simp)
     have hl4:s4.left.length<=140737488355328:=by omega
     go_wp2
     go_roundg (n-(k+1))
     case measure=>omega
     case rel=>exact ⟨k+1,A9,c9,s4,ps++[x],rfl,by omega,by go_num,rfl,qH (by simp [KL.out]),HRn,qH hl4,HOn,HKn,HUn⟩
   have hne:(er != 0)=true:=by rw [bne_iff_ne];exact he
   have HK2:=qH (HK.out.trans (if_pos he))
   go_wp2
   go_ret2
   refine ⟨_,_,rfl,qH ((HPR.out _ _ _).2 ⟨[],ZbC.nil_ _ _,(fun h=>by cases h),fun _=>?_⟩),KU.out.trans HU6.out fun _ _ hh=>hh⟩
   rw [HP.out,HK2.out]
   simp
 obtain rfl:k=n:=by omega
 obtain ⟨E,hE⟩:∃ E,(if sk.err=0/\sk.left≠[] then 11 else sk.err)=E:=⟨_,rfl⟩
 have HE:=qH hE
 have HK:=qH (show prs=if sk.err=0/\sk.left=[] then some (ps.map PR.dat) else none by
  rw [HP.out,KP.out,Nat.sub_self]
  simp [RS.prs])
 clear hE
 go_wp2_with fail
 refine (ZoZ KR.out HE.out).mono ?_
 rintro e w2 ⟨rfl,hs2⟩
 have HO2:=qH (KO.out.same hs2)
 have HU2:=qH (KU.out.same hs2)
 clear hs2
 by_cases he:E=0
 · subst he
   have HY:=qH (show prs=some (ps.map PR.dat) by
    rw [HK.out,if_pos]
    have h1:=HE.out
    by_cases h2:sk.err=0
    · refine ⟨h2,?_⟩
      by_cases h3:sk.left=[]
      · exact h3
      rw [if_pos ⟨h2,h3⟩] at h1;cases h1
    rw [if_neg (by simp [h2])] at h1;exact absurd h1 h2)
   go_wp2
   go_ret2
   exact ⟨_,_,rfl,qH ((HPR.out _ _ _).2 ⟨ps,HO2.out,(fun _=>HY.out),(fun h=>by cases h)⟩),HU2.out⟩
 have hne:(E==0)=false:=by simpa using he
 have HY:=qH (show prs=none by
  rw [HK.out,if_neg]
  rintro ⟨h2,h3⟩
  have h1:=HE.out
  rw [if_neg (by simp [h3]),h2] at h1
  exact he h1.symm)
 clear he
 go_wp2
 go_ret2
 exact ⟨_,_,rfl,qH ((HPR.out _ _ _).2 ⟨ps,HO2.out,(fun h=>by cases h),fun _=>HY.out⟩),HU2.out⟩
theorem Zpa {tmps:Array Value} {wE:World} {g:Nat} {a0 a1 a2 v0 v1 v2 v3:Value} {R:Ending->World->Prop} (h2:tmps.getD 2 undef=.pointer (some ⟨g,0,none⟩)) (h3:tmps.getD 3 undef=v3) (hb:Blk wE g 43 #[a0,a1,a2])
 (hR:R (.returned (.tuple #[.agg #[v0,v1,v2],v3])) (((wE.setCell ⟨g,0,none⟩ v0).setCell ⟨g,1,none⟩ v1).setCell ⟨g,2,none⟩ v2)) :
 bodyPost Tryz.prog Tryz.f130 R Exit.ret { tmps:=tmps,defers:=[] } (((wE.setCell ⟨g,0,none⟩ v0).setCell ⟨g,1,none⟩ v1).setCell ⟨g,2,none⟩ v2):=by
 have hb2:=((hb.put 0 v0).put 1 v1).put 2 v2
 have c0:=hb2.cell 0
 have c1:=hb2.cell 1
 have c2:=hb2.cell 2
 generalize ((wE.setCell ⟨g,0,none⟩ v0).setCell ⟨g,1,none⟩ v1).setCell ⟨g,2,none⟩ v2=W at *
 refine bodyPost_ret (v:=.tuple #[.agg #[v0,v1,v2],v3]) ?_ rfl hR
 simp only [Array.getD_eq_getD_getElem?] at h2 h3
 simp [results,Tryz.results130,go_sem,h2,h3,c0,c1,c2]
def ZkI (bs:List UInt8) (w:World) (e:Ending) (w':World):Prop :=
 ∃ (x:ND) (ok:Bool),e=.returned (.tuple #[.agg #[.int .i64 x.id,.slice x.AL x.nL x.cL,.slice x.AP x.nP x.cP],.bool ok])/\ZcY w' w.heap.size x/\(ok=true->pNd bs=some x.dat)/\(ok=false->pNd bs=none)/\Same w w'
theorem ZjA {F:Nat->Prop} {A:Option Addr} {n c:Nat} {bs:List UInt8} (w:World) (hb:Bytes w F A n c bs) (hn:n<=140737488355328) :
 Calls Tryz.prog 130 #[.slice A n c] w (ZkI bs w):=by
 have hL:=hb.len
 have hs0:=(Upd.refl (fun _=>False) w).alloc (.cells #[.int .i64 0,.slice none 0 0,.slice none 0 0] 43)
 have HB0:=qH (Blk.new w 43 #[.int .i64 0,.slice none 0 0,.slice none 0 0])
 have HY:=qH (hb.same hs0)
 have HS0:=qH hs0
 have HZ0:=qH (show w.heap.size<(w.alloc (.cells #[.int .i64 0,.slice none 0 0,.slice none 0 0] 43)).heap.size by rw [World.size_alloc];omega)
 have HP:=qH (show pNd bs=(RS.names ((RS.num ⟨bs,0⟩ 4).2.num 1).1 ((RS.num ⟨bs,0⟩ 4).2.num 1).2).2.props.map fun ps=>(⟨(((RS.num ⟨bs,0⟩ 4).1:Nat):Int),(RS.names ((RS.num ⟨bs,0⟩ 4).2.num 1).1 ((RS.num ⟨bs,0⟩ 4).2.num 1).2).1,ps⟩:ZaO) from rfl)
 have HNR:=qH (show ∀ e w',ZkI bs w e w'↔∃ (x:ND) (ok:Bool),e=.returned (.tuple #[.agg #[.int .i64 x.id,.slice x.AL x.nL x.cL,.slice x.AP x.nP x.cP],.bool ok])/\ZcY w' w.heap.size x/\(ok=true->pNd bs=some x.dat)/\(ok=false->pNd bs=none)/\Same w w' from fun e w'=>Iff.rfl)
 generalize ZkI bs w=NRes at HNR ⊢
 have hl1:=RS.num_left_le ⟨bs,0⟩ 4
 have hl2:=RS.num_left_le (RS.num ⟨bs,0⟩ 4).2 1
 have h32:=RS.num4_lt ⟨bs,0⟩
 have h8:=RS.num1_lt (RS.num ⟨bs,0⟩ 4).2
 simp only at hl1
 have hbn:bs.length<=140737488355328:=by omega
 clear hb hs0 hL
 go_enter Tryz.func130,Tryz.ntmps130
 go_wp2_with fail
 generalize w.alloc (.cells #[.int .i64 0,.slice none 0 0,.slice none 0 0] 43)=w1 at *
 obtain ⟨g,hg⟩:∃ g,w.heap.size=g:=⟨_,rfl⟩
 rw [hg] at HB0 HZ0 ⊢
 have HG:=qH hg
 clear hg
 refine (ZcM HY.out hn).mono ?_
 rintro e w2 ⟨r,rfl,hr1,hrd,hs2⟩
 have hgr:g≠r:=by have:=HZ0.out;omega
 have HR2:=qH hrd.narrow
 have HF2:=qH (show ¬ ((w1.heap.size<=r/\r≠r)/\r<w2.heap.size) from fun h=>h.1.2 rfl)
 have HrL:=qH hrd.lt
 have HB2:=qH (HB0.out.same hs2)
 have HS2:=qH (HS0.out.same hs2)
 have HZ2:=qH hs2.size
 clear hrd hs2 HB0 HS0 HY
 go_wp2_with fail
 refine (Zbb HR2.out HF2.out 4).mono ?_
 rintro e w3 ⟨rfl,hr3,hu3⟩
 have HR3:=qH hr3
 have HB3:=qH (HB2.out.upd hu3 hgr)
 have HU3:=qH hu3
 clear hr3 hu3 HR2 HB2
 generalize RS.num ⟨bs,0⟩ 4=S3 at *
 obtain ⟨id,s3⟩:=S3
 simp only at hl1 hl2 h32 h8 HP HR3 ⊢
 have c0:=HB3.out.cell 0
 have f0:=HB3.out.frozen 0
 simp only [List.getElem?_toArray,List.getElem?_cons_zero] at c0
 have hs4:=(Upd.refl (fun b=>b=g) w3).put1 (i:=0) (.int .i64 (id:Int))
 have HR4:=qH (HR3.out.upd hs4 (fun e=>hgr e.symm) (fun b hb e=>by have:=HZ0.out;have:=hb.1.1;omega))
 have HB4:Hid (Blk (w3.setCell ⟨g,0,none⟩ (.int .i64 (id:Int))) g 43 #[.int .i64 (id:Int),.slice none 0 0,.slice none 0 0]):=qH (HB3.out.put 0 _)
 have HU4:=qH ((HU3.out.mono (S':=fun b=>b=g\/b=r) fun k _ hk=>.inr hk).trans hs4 fun k _ hk=>.inl hk)
 clear hs4 HR3 HB3 HU3
 go_wp2_with fail
 clear c0 f0
 generalize w3.setCell ⟨g,0,none⟩ (.int .i64 (id:Int))=w4 at *
 refine (Zbb HR4.out HF2.out 1).mono ?_
 rintro e w5 ⟨rfl,hr5,hu5⟩
 have HR5:=qH hr5
 have HB5:=qH (HB4.out.upd hu5 hgr)
 have HU5:=qH (HU4.out.trans hu5 fun k _ hk=>.inr hk)
 clear hr5 hu5 HR4 HB4 HU4
 generalize s3.num 1=S5 at *
 obtain ⟨cnt,s5⟩:=S5
 simp only at hl2 h8 HP HR5 ⊢
 go_wp2_with fail
 go_loopg [13] cnt (fun gh ix wr=>∃ (k:Nat) (Ao:Option Addr) (co:Nat) (sk:RS) (ls:List ByteArray),cnt-k=gh/\k<=cnt/\ix=.int .u64 k/\Hid (ls.length=k)/\Hid (Rdr wr (fun b=>(w1.heap.size<=b/\b≠r)/\b<w2.heap.size) r sk)/\Hid (sk.left.length<=140737488355328)/\Hid (wr.ownsRow w2.heap.size 9 1 (.slice Ao k co) k (ls.map Value.string))/\Hid (Blk wr g 43 #[.int .i64 (id:Int),.slice Ao k co,.slice none 0 0])/\Hid (RS.names cnt s5=(ls++(RS.names (cnt-k) sk).1,(RS.names (cnt-k) sk).2))/\Hid (Upd (fun b=>b=g\/b=r) w2 wr))
 case atStart=>exact ⟨0,none,0,s5,[],rfl,Nat.zero_le _,rfl,qH rfl,HR5,qH (by omega),qH (World.ownsRow_nil _ _ _ _),HB5,qH (by simp),HU5⟩
 obtain ⟨k,Ao,co,sk,ls,rfl,hk,rfl,KL,KR,KLn,KO,KB,KP,KU⟩:=hrel
 by_cases hlk:k<cnt
 · have hnk:cnt-k=(cnt-(k+1))+1:=by omega
   have HK:=qH (show RS.names cnt s5=(ls++sk.name.1::(RS.names (cnt-(k+1)) sk.name.2).1,(RS.names (cnt-(k+1)) sk.name.2).2) by
    rw [KP.out,hnk]
    rfl)
   have hnl:=RS.name_left_le sk
   have HKL:=KLn.out
   have hzr:=KU.out.size
   clear hnk
   go_upto_region 5 with fail
   have s0:Same wr wr.drew:=(Upd.refl _ wr).drew
   refine ZaX 7 (fun wx=>wx.cell? ⟨g,1,none⟩=some (.slice Ao k co)) (by kernel_rfl) ((KB.out.same s0).cell 1) (fun hHeld=>?_)
   repeat
    first
     | refine ESt.take (i:=0) (v:=?_) (by decide +kernel) rfl (by decide +kernel) (fun _ _ _ h=>h) (Or.inl ⟨by rfl,?_⟩) (by assumption) ?_
     | refine ESt.take (i:=1) (v:=?_) (by decide +kernel) rfl (by decide +kernel) (fun _ _ _ h=>h) (Or.inl ⟨by rfl,?_⟩) (by assumption) ?_
     | refine ESt.take (i:=2) (v:=?_) (by decide +kernel) rfl (by decide +kernel) (fun _ _ _ h=>h) (Or.inl ⟨by rfl,?_⟩) (by assumption) ?_
     | refine ESt.take (i:=6) (v:=?_) (by decide +kernel) rfl (by decide +kernel) (fun _ _ _ h=>h) (Or.inl ⟨by rfl,?_⟩) (by assumption) ?_
    rotate_left
    · intro wx hSw;have h0:=hSw;go_simp;try with_reducible rfl
    simp only [Act.put,List.setIfInBounds_toArray]
   refine ESt.branch (rs:=[3]) (by decide +kernel) (by decide +kernel) ?_
   refine AllE.cons rfl (fun K hK=>?_) AllE.nil
   go_simp
   refine (ZdG (KR.out.same s0) HF2.out KLn.out).mono ?_
   rintro e w6 ⟨rfl,hr6,hu6⟩
   generalize sk.name=NM at *
   obtain ⟨nm,s6⟩:=NM
   simp only at hr6 hnl HK ⊢
   have HU6:=qH ((s0.mono (S':=fun b=>b=r) fun _ _ f=>f.elim).trans hu6 fun _ _ hh=>hh)
   have HB6:=qH (KB.out.upd HU6.out hgr)
   have HO6:=qH (Zam KO.out HU6.out fun b hb e=>by have:=(KO.out.lt b hb).1;have:=HrL.out;omega)
   have HR6:=qH hr6
   clear hr6 hu6 s0
   go_wp2_with fail
   refine hK.out _ _ (HB6.out.cell 1) (fun hHeld=>?_)
   clear hK K
   refine ESt.branch (rs:=[4]) (by decide +kernel) (by decide +kernel) ?_
   refine AllE.cons rfl (fun K hK=>?_) AllE.nil
   go_simp
   have sA:=(Upd.refl (fun _=>False) w6).alloc (.cells #[.string nm] 9)
   refine hK.out _ _ ((HB6.out.same sA).cell 1) (fun hHeld=>?_)
   clear hK K
   refine ESt.branch (rs:=[5]) (by decide +kernel) (by decide +kernel) ?_
   refine AllE.cons rfl (fun K hK=>?_) AllE.nil
   have hz6:=HU6.out.size
   have hrow:=Zaa HO6.out sA
   refine ZbP rfl (.tmp 16) (.tmp 19) _ _ rfl w2.heap.size 9 1 16 _ Tryz.underlying40 ZaA rfl (.slice Ao k co) k _ rfl hrow rfl (Zal Tryz.underlying40 (Row.one _ _ _) (by simp [Value.oneCell'])) (by unfold maxLen;omega) (by omega) (by have:=sA.size;omega) ?_
   intro v9 w9 hg9
   obtain ⟨f1,f2,f3⟩:=Zco (i:=1) HB6.out HO6.out (by decide) sA hg9
   obtain ⟨A9,c9,rfl⟩:=Zac hg9.own
   have q3:=(HB6.out.same sA).upd hg9.upd fun hh=>(HB6.out.same sA).ne_own hrow (by decide) hh
   have F1:=qH f1
   have F2:=qH f2
   have HRn:=qH (HR6.out.upd f3 (by
    rintro (e | e)
    · exact hgr e.symm
    · have:=(HO6.out.lt _ e).1
      have:=HrL.out
      omega) (by
    rintro b ⟨⟨h1,h2⟩,h3⟩ (e | e)
    · have:=HZ0.out;omega
    have:=(HO6.out.lt _ e).1;omega))
   have HUn:=qH ((KU.out.trans (HU6.out.mono (S':=fun b=>b=g\/b=r) fun _ _ hh=>.inr hh) fun _ _ hh=>hh).trans f3 (by
    rintro b hb (e | e)
    · exact .inl e
    have:=(HO6.out.lt _ e).1;omega))
   have Q3:=qH q3
   clear f1 f2 f3 hg9 hrow HR6
   refine hK.out _ _ (q3.cell 1) (fun hHeld=>?_)
   clear hK K q3
   simp only [Act.put]
   try (refine ESt.take (i:=6) (v:=?_) (by decide +kernel) rfl (by decide +kernel) (fun _ _ _ h=>h) (Or.inl ⟨by rfl,?_⟩) (by assumption) ?_
        rotate_left
        intro wx hSw;have h0:=hSw;go_simp;try with_reducible rfl)
   simp only [Act.put,List.setIfInBounds_toArray]
   refine ESt.last (by decide +kernel) (by decide +kernel) rfl (fun K hK=>?_) _
   have r3:=Q3.out.cell 1
   have z3:=Q3.out.frozen 1
   go_simp
   refine hK.out _ _ ?_
   clear hK K r3 z3 hHeld sA
   have HKn:Hid (RS.names cnt s5=((ls++[nm])++(RS.names (cnt-(k+1)) s6).1,(RS.names (cnt-(k+1)) s6).2)):=qH (by rw [HK.out];simp)
   have HOn:Hid ((w9.setCell ⟨g,1,none⟩ (.slice A9 (k+1) c9)).ownsRow w2.heap.size 9 1 (.slice A9 (k+1) c9) (k+1) ((ls++[nm]).map Value.string)):=qH (by rw [List.map_append];exact F2.out)
   have hl6:s6.left.length<=140737488355328:=by omega
   go_wp2
   go_roundg (cnt-(k+1))
   case measure=>omega
   case rel=>exact ⟨k+1,A9,c9,s6,ls++[nm],rfl,by omega,by go_num,qH (by simp [KL.out]),HRn,qH hl6,HOn,F1,HKn,HUn⟩
 obtain rfl:k=cnt:=by omega
 have HK:=qH (show pNd bs=sk.props.map fun ps=>(⟨(id:Int),ls,ps⟩:ZaO) by
  rw [HP.out,KP.out,Nat.sub_self]
  simp [RS.names])
 go_wp2_with fail
 refine (ZeO KR.out HF2.out KLn.out).mono ?_
 rintro e w6 ⟨v6,ok,rfl,HR6,hu6⟩
 obtain ⟨ps,ho,hok,hno⟩:=HR6.out
 obtain ⟨A6,c6,rfl⟩:=Zac ho.row
 have HPs:=qH ho
 have HOk:=qH (And.intro hok hno)
 have HB6:=qH (KB.out.upd hu6 hgr)
 have HU6:=qH (KU.out.trans hu6 fun k _ hk=>.inr hk)
 have HO6:=qH (Zam KO.out hu6 fun b hb e=>by have:=(KO.out.lt b hb).1;have:=HrL.out;omega)
 clear ho hok hno hu6 HR6 KR
 have c0:=HB6.out.cell 0
 have c1:=HB6.out.cell 1
 have c2:=HB6.out.cell 2
 have f0:=HB6.out.frozen 0
 have f1:=HB6.out.frozen 1
 have f2:=HB6.out.frozen 2
 simp only [List.getElem?_toArray,List.getElem?_cons_succ,List.getElem?_cons_zero] at c0 c1 c2
 have HZr:=qH KU.out.size
 go_wp2
 refine Zpa rfl rfl (HB6.out.put 2 _) ?_
 obtain ⟨W,hW⟩:∃ W,W=((((w6.setCell ⟨g,2,none⟩ (.slice A6 ps.length c6)).setCell ⟨g,0,none⟩ (.int .i64 (id:Int))).setCell ⟨g,1,none⟩ (.slice Ao k co)).setCell ⟨g,2,none⟩ (.slice A6 ps.length c6)):=⟨_,rfl⟩
 have hu:Upd (fun b=>b=g) w6 W:=by rw [hW];exact ((((Upd.refl (fun b=>b=g) w6).put1 _).put1 _).put1 _).put1 _
 rw [<- hW]
 refine (HNR.out _ _).2 ⟨⟨(id:Int),ls,Ao,k,co,ps,A6,ps.length,c6⟩,ok,rfl,⟨?_,?_,⟨by simp only;omega,by simp only;omega⟩⟩,?_,?_,?_⟩
 · exact Zad (Zam HO6.out hu fun b hb e=>by have:=(HO6.out.lt b hb).1;have:=HZ2.out;have:=HZ0.out;omega) (by have:=HS2.out.size;omega)
 · exact (HPs.out.type hu (fun b _ e=>by rw [e];exact ⟨_,HB6.out⟩) (by decide) (by decide) (by decide)).base (by have:=HS2.out.size;have:=HZr.out;omega)
 · intro h
   rw [HK.out,HOk.1 h]
   rfl
 · intro h
   rw [HK.out,HOk.2 h]
   rfl
 exact HS2.out.trans (HU6.out.trans hu (S:=fun b=>b=g\/b=r) fun b _ e=>.inl e) fun b hb e=>by
  have h1:=HG.out
  have h2:=HS2.out.size
  have h3:=HZ0.out
  rcases e with e | e
  · omega
  have:=hr1;omega
theorem ZpT {tmps:Array Value} {wE:World} {g:Nat} {a0 a1 a2 a3 a4 v0 v1 v2 v3 v4 v5:Value} {R:Ending->World->Prop} (h2:tmps.getD 2 undef=.pointer (some ⟨g,0,none⟩)) (h3:tmps.getD 3 undef=v5) (hb:Blk wE g 50 #[a0,a1,a2,a3,a4])
 (hR:R (.returned (.tuple #[.agg #[v0,v1,v2,v3,v4],v5])) (put5 wE g v0 v1 v2 v3 v4)) :
 bodyPost Tryz.prog Tryz.f131 R Exit.ret { tmps:=tmps,defers:=[] } (put5 wE g v0 v1 v2 v3 v4):=by
 obtain ⟨c0,c1,c2,c3,c4⟩:=(hb.put5 v0 v1 v2 v3 v4).five
 generalize put5 wE g v0 v1 v2 v3 v4=W at *
 refine bodyPost_ret (v:=.tuple #[.agg #[v0,v1,v2,v3,v4],v5]) ?_ rfl hR
 simp only [Array.getD_eq_getD_getElem?] at h2 h3
 simp [results,Tryz.results131,go_sem,h2,h3,c0,c1,c2,c3,c4]
def ZnN (bs:List UInt8) (w:World) (e:Ending) (w':World):Prop :=
 ∃ (x:RL) (ok:Bool),e=.returned (.tuple #[.agg #[.int .i64 x.id,.string x.type,.int .i64 x.src,.int .i64 x.dst,.slice x.AP x.nP x.cP],.bool ok])/\Zdr w' w.heap.size x/\(ok=true->pRl bs=some x.dat)/\(ok=false->pRl bs=none)/\Same w w'
theorem ZgX {F:Nat->Prop} {A:Option Addr} {n c:Nat} {bs:List UInt8} (w:World) (hb:Bytes w F A n c bs) (hn:n<=140737488355328) :
 Calls Tryz.prog 131 #[.slice A n c] w (ZnN bs w):=by
 have hL:=hb.len
 have hs0:=(Upd.refl (fun _=>False) w).alloc (.cells #[.int .i64 0,.string ⟨#[]⟩,.int .i64 0,.int .i64 0,.slice none 0 0] 50)
 have HB0:=qH (Blk.new w 50 #[.int .i64 0,.string ⟨#[]⟩,.int .i64 0,.int .i64 0,.slice none 0 0])
 have HY:=qH (hb.same hs0)
 have HS0:=qH hs0
 have HZ0:=qH (show w.heap.size<(w.alloc (.cells #[.int .i64 0,.string ⟨#[]⟩,.int .i64 0,.int .i64 0,.slice none 0 0] 50)).heap.size by rw [World.size_alloc];omega)
 obtain ⟨S1,hS1⟩:∃ S1,RS.num ⟨bs,0⟩ 4=S1:=⟨_,rfl⟩
 obtain ⟨S2,hS2⟩:∃ S2,S1.2.num 4=S2:=⟨_,rfl⟩
 obtain ⟨S3,hS3⟩:∃ S3,S2.2.num 4=S3:=⟨_,rfl⟩
 obtain ⟨S4,hS4⟩:∃ S4,S3.2.name=S4:=⟨_,rfl⟩
 have HP:=qH (show pRl bs=S4.2.props.map fun ps=>(⟨((S1.1:Nat):Int),S4.1,((S2.1:Nat):Int),((S3.1:Nat):Int),ps⟩:GRel) by
  rw [<- hS4,<-hS3,<-hS2,<-hS1]
  rfl)
 have HNR:=qH (show ∀ e w',ZnN bs w e w'↔∃ (x:RL) (ok:Bool),e=.returned (.tuple #[.agg #[.int .i64 x.id,.string x.type,.int .i64 x.src,.int .i64 x.dst,.slice x.AP x.nP x.cP],.bool ok])/\Zdr w' w.heap.size x/\(ok=true->pRl bs=some x.dat)/\(ok=false->pRl bs=none)/\Same w w' from fun e w'=>Iff.rfl)
 generalize ZnN bs w=NRes at HNR ⊢
 have hl1:=RS.num_left_le ⟨bs,0⟩ 4
 have hl2:=RS.num_left_le S1.2 4
 have hl3:=RS.num_left_le S2.2 4
 have hl4:=RS.name_left_le S3.2
 have h1:=RS.num4_lt ⟨bs,0⟩
 have h2:=RS.num4_lt S1.2
 have h3:=RS.num4_lt S2.2
 rw [hS1] at hl1 h1
 rw [hS2] at hl2 h2
 rw [hS3] at hl3 h3
 rw [hS4] at hl4
 have HS1:=qH hS1
 have HS2':=qH hS2
 have HS3:=qH hS3
 have HS4:=qH hS4
 obtain ⟨id,s1⟩:=S1
 obtain ⟨src,s2⟩:=S2
 obtain ⟨dst,s3⟩:=S3
 obtain ⟨ty,s4⟩:=S4
 simp only at hl1 hl2 hl3 hl4 h1 h2 h3 HP HS1 HS2' HS3 HS4
 have hbn:bs.length<=140737488355328:=by omega
 clear hb hs0 hL hS1 hS2 hS3 hS4
 go_enter Tryz.func131,Tryz.ntmps131
 go_wp2_with fail
 generalize w.alloc (.cells #[.int .i64 0,.string ⟨#[]⟩,.int .i64 0,.int .i64 0,.slice none 0 0] 50)=w1 at *
 obtain ⟨g,hg⟩:∃ g,w.heap.size=g:=⟨_,rfl⟩
 rw [hg] at HB0 HZ0 ⊢
 have HG:=qH hg
 clear hg
 refine (ZcM HY.out hn).mono ?_
 rintro e w2 ⟨r,rfl,hr1,hrd,hs2⟩
 have hgr:g≠r:=by have:=HZ0.out;omega
 have HR2:=qH hrd.narrow
 have HF2:=qH (show ¬ ((w1.heap.size<=r/\r≠r)/\r<w2.heap.size) from fun h=>h.1.2 rfl)
 have HrL:=qH hrd.lt
 have HB2:=qH (HB0.out.same hs2)
 have HS2:=qH (HS0.out.same hs2)
 have HZ2:=qH hs2.size
 clear hrd hs2 HB0 HS0 HY
 go_wp2_with fail
 refine (Zbb HR2.out HF2.out 4).mono ?_
 rintro e w3 ⟨rfl,hr3,hu3⟩
 rw [HS1.out] at hr3 ⊢
 have HR3:=qH hr3
 have HU3:=qH hu3
 clear hr3 hu3 HR2
 go_wp2_with fail
 refine (Zbb HR3.out HF2.out 4).mono ?_
 rintro e w4 ⟨rfl,hr4,hu4⟩
 rw [HS2'.out] at hr4 ⊢
 have HR4:=qH hr4
 have HU4:=qH (HU3.out.trans hu4 fun _ _ hh=>hh)
 clear hr4 hu4 HR3 HU3
 go_wp2_with fail
 refine (Zbb HR4.out HF2.out 4).mono ?_
 rintro e w5 ⟨rfl,hr5,hu5⟩
 rw [HS3.out] at hr5 ⊢
 have HR5:=qH hr5
 have HU5:=qH (HU4.out.trans hu5 fun _ _ hh=>hh)
 have HB5:=qH (HB2.out.upd HU5.out hgr)
 clear hr5 hu5 HR4 HU4 HB2
 simp only
 obtain ⟨c0,c1,c2,c3,c4⟩:=HB5.out.five
 obtain ⟨f0,f1,f2,f3,f4⟩:=HB5.out.five_free
 have hs6:=(((Upd.refl (fun b=>b=g) w5).put1 (i:=0) (.int .i64 (id:Int))).put1 (i:=2) (.int .i64 (src:Int))).put1 (i:=3) (.int .i64 (dst:Int))
 have HR6:=qH (HR5.out.upd hs6 (fun e=>hgr e.symm) (fun b hb e=>by have:=HZ0.out;have:=hb.1.1;omega))
 have HB6:Hid (Blk (((w5.setCell ⟨g,0,none⟩ (.int .i64 (id:Int))).setCell ⟨g,2,none⟩ (.int .i64 (src:Int))).setCell ⟨g,3,none⟩ (.int .i64 (dst:Int))) g 50 #[.int .i64 (id:Int),.string ⟨#[]⟩,.int .i64 (src:Int),.int .i64 (dst:Int),.slice none 0 0]):=qH (((HB5.out.put 0 _).put 2 _).put 3 _)
 have HU6:=qH ((HU5.out.mono (S':=fun b=>b=g\/b=r) fun k _ hk=>.inr hk).trans hs6 fun k _ hk=>.inl hk)
 clear hs6 HR5 HB5 HU5
 go_wp2_with fail
 clear c0 c1 c2 c3 c4 f0 f1 f2 f3 f4
 generalize ((w5.setCell ⟨g,0,none⟩ (.int .i64 (id:Int))).setCell ⟨g,2,none⟩ (.int .i64 (src:Int))).setCell ⟨g,3,none⟩ (.int .i64 (dst:Int))=w6 at *
 refine (ZdG HR6.out HF2.out (by omega)).mono ?_
 rintro e w7 ⟨rfl,hr7,hu7⟩
 rw [HS4.out] at hr7 ⊢
 have HR7:=qH hr7
 have HU7:=qH (HU6.out.trans hu7 fun k _ hk=>.inr hk)
 have HB7:=qH (HB6.out.upd hu7 hgr)
 clear hr7 hu7 HR6 HU6 HB6
 simp only
 obtain ⟨c0,c1,c2,c3,c4⟩:=HB7.out.five
 obtain ⟨f0,f1,f2,f3,f4⟩:=HB7.out.five_free
 have hs8:=(Upd.refl (fun b=>b=g) w7).put1 (i:=1) (.string ty)
 have HR8:=qH (HR7.out.upd hs8 (fun e=>hgr e.symm) (fun b hb e=>by have:=HZ0.out;have:=hb.1.1;omega))
 have HB8:Hid (Blk (w7.setCell ⟨g,1,none⟩ (.string ty)) g 50 #[.int .i64 (id:Int),.string ty,.int .i64 (src:Int),.int .i64 (dst:Int),.slice none 0 0]):=qH (HB7.out.put 1 _)
 have HU8:=qH (HU7.out.trans hs8 fun k _ hk=>.inl hk)
 clear hs8 HR7 HB7 HU7
 go_wp2_with fail
 clear c0 c1 c2 c3 c4 f0 f1 f2 f3 f4
 generalize w7.setCell ⟨g,1,none⟩ (.string ty)=w8 at *
 refine (ZeO HR8.out HF2.out (by omega)).mono ?_
 rintro e w9 ⟨v9,ok,rfl,HR9,hu9⟩
 obtain ⟨ps,ho,hok,hno⟩:=HR9.out
 obtain ⟨A9,c9,rfl⟩:=Zac ho.row
 have HPs:=qH ho
 have HOk:=qH (And.intro hok hno)
 have HB9:=qH (HB8.out.upd hu9 hgr)
 have HU9:=qH (HU8.out.trans hu9 fun k _ hk=>.inr hk)
 have HZ8:=qH HU8.out.size
 clear ho hok hno hu9 HR9 HR8 HU8 HB8
 obtain ⟨c0,c1,c2,c3,c4⟩:=HB9.out.five
 obtain ⟨f0,f1,f2,f3,f4⟩:=HB9.out.five_free
 go_wp2
 refine ZpT rfl rfl (HB9.out.put 4 _) ?_
 obtain ⟨W,hW⟩:∃ W,W=put5 (w9.setCell ⟨g,4,none⟩ (.slice A9 ps.length c9)) g (.int .i64 (id:Int)) (.string ty) (.int .i64 (src:Int)) (.int .i64 (dst:Int)) (.slice A9 ps.length c9):=⟨_,rfl⟩
 have hu:Upd (fun b=>b=g) w9 W:=by rw [hW];exact ((Upd.refl (fun b=>b=g) w9).put1 _).put5 _ _ _ _ _
 rw [<- hW]
 refine (HNR.out _ _).2 ⟨⟨(id:Int),ty,(src:Int),(dst:Int),ps,A9,ps.length,c9⟩,ok,rfl,⟨?_,⟨⟨by simp only;omega,by simp only;omega⟩,⟨by simp only;omega,by simp only;omega⟩,⟨by simp only;omega,by simp only;omega⟩⟩⟩,?_,?_,?_⟩
 · exact (HPs.out.type hu (fun b _ e=>by rw [e];exact ⟨_,HB9.out⟩) (by decide) (by decide) (by decide)).base (by have:=HS2.out.size;have:=HZ8.out;omega)
 · intro h
   rw [HP.out,HOk.1 h]
   rfl
 · intro h
   rw [HP.out,HOk.2 h]
   rfl
 exact HS2.out.trans (HU9.out.trans hu (S:=fun b=>b=g\/b=r) fun b _ e=>.inl e) fun b hb e=>by
  have h1:=HG.out
  have h2:=HS2.out.size
  have h3:=HZ0.out
  rcases e with e | e
  · omega
  have:=hr1;omega
end Go.Proofs.YtkopcinhbjimiaaGreatDoor
