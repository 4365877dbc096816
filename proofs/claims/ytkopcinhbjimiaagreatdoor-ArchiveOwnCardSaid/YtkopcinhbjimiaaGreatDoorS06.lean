/- Texts that the claim leans on: walks and plain laws, function by function. -/
import Derived.StillTailTactics
import Derived.Test.YtkopcinhbjimiaaGreatDoorS05
set_option maxRecDepth 100000
set_option maxHeartbeats 16000000
namespace Go.Proofs.YtkopcinhbjimiaaGreatDoor
open Go.RowKit
theorem ZcD (k n:Int):(ZaK k n).length<=8:=by unfold ZaK;split <;> simp [Zab]
theorem Zgr {w:World} {B r:Nat} {bs:List UInt8} (h:Wtr w B r bs) (kind n:Int) (hk0:1<=kind) (hk:kind<=8) (hl:bs.length+8<=140737488355328) :
 Calls Tryz.prog 171 #[.pointer (some ⟨r,0,none⟩),.int .i64 kind,.int .i64 n] w fun e w'=>e=.returned (.tuple #[])/\Wtr w' B r (bs++ZaK (ZbA kind) n)/\Upd (fun b=>B<=b) w w':=by
 have hb:=Zew kind
 have hU:=Zog n
 have HE:=qH (show ZaK (ZbA kind) n=if ZbA kind=1 then beb 1 (u64 n) else beb 8 (u64 n) from rfl)
 generalize ZaK (ZbA kind) n=E at HE ⊢
 generalize ZbA kind=K at hb HE
 have HB:=qH hb
 have HW:=qH h
 have HU:=qH hU
 clear hb h hU
 by_cases hK:K=1
 · subst hK
   have HF:=qH (HE.out.trans (if_pos rfl))
   go_enter Tryz.func171,Tryz.ntmps171
   go_wp2_with fail
   refine (HB.out _ (by omega) (by omega)).mono ?_
   rintro e w' ⟨rfl,rfl⟩
   go_wp2_with fail
   rw [HU.out]
   refine (Zdv HW.out _ _ rfl (by omega) hl).mono ?_
   rintro e w' ⟨rfl,hw,hu⟩
   go_wp2
   refine bodyPost_ret (results_none rfl _ _ _) rfl ⟨rfl,?_,hu⟩
   rw [HF.out];exact hw
 have hK':(K==1)=false:=by simpa using hK
 have HF:=qH (HE.out.trans (if_neg hK))
 clear hK
 go_enter Tryz.func171,Tryz.ntmps171
 go_wp2_with fail
 refine (HB.out _ (by omega) (by omega)).mono ?_
 rintro e w' ⟨rfl,rfl⟩
 go_wp2_with fail
 rw [HU.out]
 refine (Zdv HW.out _ _ rfl (by omega) hl).mono ?_
 rintro e w' ⟨rfl,hw,hu⟩
 go_wp2
 go_end0
 refine ⟨rfl,?_,hu⟩
 rw [HF.out];exact hw
theorem Zfw {w:World} {B r:Nat} {bs:List UInt8} (h:Wtr w B r bs) (s:ByteArray) (hs:s.size<=70368744177664) (hl:bs.length+8<=70368744177664) :
 Calls Tryz.prog 172 #[.pointer (some ⟨r,0,none⟩),.string s] w fun e w'=>e=.returned (.tuple #[])/\Wtr w' B r (bs++ZaL s)/\Upd (fun b=>B<=b) w w':=by
 have HW:=qH h
 clear h
 go_enter Tryz.func172,Tryz.ntmps172
 go_wp2_with fail
 refine (Zdv HW.out _ _ rfl ?_ ?_).mono ?_
 · omega
 · omega
 rintro e w1 ⟨rfl,hw,hu⟩
 go_wp2_with fail
 refine (ZmI hw s ?_).mono ?_
 · rw [List.length_append,Zab];simp;omega
 rintro e w2 ⟨rfl,hw2,hu2⟩
 go_wp2
 go_end0
 refine ⟨rfl,?_,hu.trans hu2 fun _ _ hh=>hh⟩
 rw [List.append_assoc] at hw2
 exact hw2
theorem Zch (s:ByteArray):(ZaL s).length=2+s.size:=by
 unfold ZaL
 rw [List.length_append,Zab,Zbd]
theorem ZdN {g:GVal} (h:chk g=0):1<=g.kind/\g.kind<=8/\ZbE g=false/\g.nums.length<=40/\g.texts.length<=40/\g.text.size<=1000/\(∀ s∈g.texts,s.size<=1000):=by
 unfold chk at h
 split at h
 · cases h
 rename_i h1
 split at h
 · cases h
 rename_i h2
 split at h
 · cases h
 rename_i h3
 split at h
 · cases h
 rename_i h4
 refine ⟨by omega,by omega,by simpa using h2,by omega,by omega,by omega,fun s hs=>?_⟩
 have h5:g.texts.any (fun s=>decide (1000<s.size))=false:=by
  cases hh:g.texts.any (fun s=>decide (1000<s.size)) with
  | false=>rfl
  | true=>exact absurd (.inr hh) h4
 have:=List.any_eq_false.1 h5 s hs
 simpa using this
theorem ZbG (k:Int) (l:List Int):(l.flatMap (ZaK k)).length<=8*l.length:=by
 induction l with
 | nil=>simp
 | cons x l ih =>
   rw [List.flatMap_cons,List.length_append,List.length_cons]
   have:=ZcD k x
   omega
theorem ZbL (l:List ByteArray) (h:∀ s∈l,s.size<=1000):(l.flatMap ZaL).length<=1002*l.length:=by
 induction l with
 | nil=>simp
 | cons x l ih =>
   rw [List.flatMap_cons,List.length_append,List.length_cons,Zch]
   have h1:=h x (by simp)
   have h2:=ih fun s hs=>h s (by simp [hs])
   omega
theorem ZaV {α:Type} (f:α->List UInt8) (l:List α) (k:Nat) (h:k<l.length):(l.take (k+1)).flatMap f=(l.take k).flatMap f++f l[k]:=by
 rw [List.take_succ_eq_append_getElem h,List.flatMap_append]
 simp
theorem Zgs {F:Nat->Prop} {A1 A2:Option Addr} {n1 c1 n2 c2:Nat} {g:GVal} (w:World) (h:Zcg w F A1 n1 c1 A2 n2 c2 g) (hx:g.text.size<=9223372036854775807) (hts:∀ s∈g.texts,s.size<=9223372036854775807) :
 Calls Tryz.prog 137 #[g.val A1 n1 c1 A2 n2 c2] w fun e w'=>∃ v,e=.returned (.tuple #[v,.int .i64 (chk g)])/\OwnB w' w.heap.size v (enc g)/\Same w w':=by
 have HC:=qH (Zhp (F:=F) (A1:=A1) (A2:=A2) (n1:=n1) (c1:=c1) (n2:=n2) (c2:=c2) (g:=g))
 have HZ:=qH (ZdN (g:=g))
 have HE:=qH (show enc g=if chk g=0 then beb 1 g.kind.toNat++Zbz g else [] from rfl)
 have HBd:=qH (show Zbz g=(if g.kind<4 then ZaK g.kind g.num else if g.kind=4 then ZaL g.text
  else beb 1 (g.nums.length+g.texts.length)++(g.nums.flatMap (ZaK (g.kind-4))++g.texts.flatMap ZaL)) from rfl)
 generalize enc g=E at HE ⊢
 generalize Zbz g=Bd at HE HBd
 generalize hc:chk g=C at HC HZ HE ⊢
 clear hc
 obtain ⟨kind,num,text,nums,texts⟩:=g
 simp only [GVal.val] at HC ⊢
 have HR:=qH h
 have HL1:=qH (show nums.length=n1 from h.len1)
 have HL2:=qH (show texts.length=n2 from h.len2)
 clear h
 have hs0:=(Upd.refl (fun _=>False) w).alloc (.cells #[.int .i64 kind,.int .i64 num,.string text,.slice A1 n1 c1,.slice A2 n2 c2] 46)
 have hb0:=Blk.new w 46 #[.int .i64 kind,.int .i64 num,.string text,.slice A1 n1 c1,.slice A2 n2 c2]
 have HCK:=qH (HC.out _ (HR.out.same hs0) hx hts)
 have HS0:=qH hs0
 by_cases hz:C=0
 case neg =>
  have hz':(C != 0)=true:=by simpa using hz
  have HF:=qH (HE.out.trans (if_neg hz))
  have HB0:=qH hb0
  clear hz hb0 hs0
  go_enter Tryz.func137,Tryz.ntmps137
  go_wp2_with fail
  refine HCK.out.mono ?_
  rintro e w1 ⟨rfl,hs1⟩
  go_wp2
  go_ret2
  exact ⟨_,rfl,by rw [HF.out];exact World.ownsRow_nil _ _ _ _,HS0.out.same hs1⟩
 subst hz
 have HF:=qH (HE.out.trans (if_pos rfl))
 obtain ⟨hk1,hk8,hfb,hl40,ht40,hxs,htsz⟩:=HZ.out rfl
 simp only at hk1 hk8 hxs
 go_enter Tryz.func137,Tryz.ntmps137
 go_wp2_with fail
 refine HCK.out.mono ?_
 rintro e w1 ⟨rfl,hs1⟩
 have hs2:=hs0.same hs1
 have hb1:=hb0.same hs1
 clear hs0 hb0 hs1
 go_wp2_with fail
 refine (ZbK _).mono ?_
 rintro e w2 ⟨r,rfl,hw,hs3⟩
 have HW:=qH hw
 have hs4:=hs2.same hs3
 have hb2:=hb1.same hs3
 have hB:w.heap.size<w1.heap.size:=hb1.lt
 have hle:=hs2.size
 have hr:=hw.lt
 have hBr:=hw.1
 clear hs2 hb1 hs3 hw
 have c0:w2.cell? ⟨w.heap.size,0,none⟩=some (.int .i64 kind):=hb2.cell 0
 go_wp2_with fail
 refine (Zdv HW.out _ _ rfl (by omega) (by simp)).mono ?_
 rintro e w3 ⟨rfl,hw3,hu3⟩
 have HW3:=qH (show Wtr w3 w1.heap.size r (beb 1 kind.toNat) from hw3)
 have hs5:Same w w3:=hs4.trans hu3 fun b hb hh=>by omega
 have hb3:=hb2.upd hu3 (by omega)
 clear hs4 hb2 hw3 c0 HW
 have c0:w3.cell? ⟨w.heap.size,0,none⟩=some (.int .i64 kind):=hb3.cell 0
 have c1':w3.cell? ⟨w.heap.size,1,none⟩=some (.int .i64 num):=hb3.cell 1
 have c2':w3.cell? ⟨w.heap.size,2,none⟩=some (.string text):=hb3.cell 2
 have c3:w3.cell? ⟨w.heap.size,3,none⟩=some (.slice A1 n1 c1):=hb3.cell 3
 have c4:w3.cell? ⟨w.heap.size,4,none⟩=some (.slice A2 n2 c2):=hb3.cell 4
 by_cases h4:kind<4
 · have HB4:=qH (HBd.out.trans (if_pos h4))
   go_wp2_with fail
   refine (Zgr HW3.out _ _ hk1 hk8 (by rw [Zab];omega)).mono ?_
   rintro e w4 ⟨rfl,hw4,hu4⟩
   have hs6:Same w w4:=hs5.trans hu4 fun b hb hh=>by omega
   clear hs5 hb3 hu3 hu4
   go_wp2_with fail
   refine (ZbB hw4 (by rw [List.length_append,Zab];have:=ZcD (ZbA kind) num;omega)).mono ?_
   rintro e w5 ⟨v,rfl,ho,hs7⟩
   go_wp2
   go_ret2
   refine ⟨v,rfl,?_,hs6.same hs7⟩
   rw [HF.out,HB4.out]
   rw [show ZbA kind=kind from by unfold ZbA;rw [if_neg (by omega)]] at ho
   exact Zad ho hs6.size
 have HB5:=qH (HBd.out.trans (if_neg h4))
 by_cases h44:kind=4
 · have HB4:=qH (HB5.out.trans (if_pos h44))
   subst h44
   go_wp2_with fail
   refine (Zfw HW3.out _ (by omega) (by rw [Zab];omega)).mono ?_
   rintro e w4 ⟨rfl,hw4,hu4⟩
   have hs6:Same w w4:=hs5.trans hu4 fun b hb hh=>by omega
   clear hs5 hb3 hu3 hu4
   go_wp2_with fail
   refine (ZbB hw4 (by rw [List.length_append,Zab,Zch];omega)).mono ?_
   rintro e w5 ⟨v,rfl,ho,hs7⟩
   go_wp2
   go_ret2
   refine ⟨v,rfl,?_,hs6.same hs7⟩
   rw [HF.out,HB4.out]
   exact Zad ho hs6.size
 have HB6:=qH (HB5.out.trans (if_neg h44))
 have h44':(kind==4)=false:=by simpa using h44
 have hk5:4<kind:=by omega
 have hn1:n1<=40:=by rw [<- HL1.out];exact hl40
 have hn2:n2<=40:=by rw [<- HL2.out];exact ht40
 have HTS:=qH htsz
 have hBK:=HL1.out
 have HBK:=qH (show ZbA kind=kind-4 from by unfold ZbA;rw [if_pos hk5])
 clear hBK htsz hl40 ht40 hts
 go_wp2_with fail
 refine (Zdv HW3.out _ _ rfl (by omega) (by rw [Zab];omega)).mono ?_
 rintro e w4 ⟨rfl,hw4,hu4⟩
 have HP:=qH (show (kind.toNat:Nat)=kind.toNat from rfl)
 have hs6:Same w w4:=hs5.trans hu4 fun b hb hh=>by omega
 have hb4:=hb3.upd hu4 (by omega)
 have HW4:=qH (show Wtr w4 w1.heap.size r (beb 1 kind.toNat++beb 1 (nums.length+texts.length)) from by
  rw [HL1.out,HL2.out]
  have:=hw4
  rwa [show ((n1:Int)+(n2:Int)).toNat=n1+n2 from by omega] at this)
 clear hs5 hb3 hu3 hu4 hw4 c0 c1' c2' c3 c4
 have c3:w4.cell? ⟨w.heap.size,3,none⟩=some (.slice A1 n1 c1):=hb4.cell 3
 go_wp2
 clear c3
 go_loopw [34] (fun i wr=>∃ k:Nat,k<=n1/\i=.int .i64 k/\Blk wr w.heap.size 46 #[.int .i64 kind,.int .i64 num,.string text,.slice A1 n1 c1,.slice A2 n2 c2] /\
  Hid (Wtr wr w1.heap.size r (beb 1 kind.toNat++beb 1 (nums.length+texts.length)++(nums.take k).flatMap (ZaK (kind-4))))/\Same w wr/\r<wr.heap.size) (fun i _=>n1-(intOf i).toNat)
 case atStart=>exact ⟨0,Nat.zero_le _,rfl,hb4,qH (by simpa using HW4.out),hs6,HW4.out.lt⟩
 obtain ⟨k,hk,rfl,kb,KW,ksame,hr'⟩:=hrel
 clear hb4 hs6 HW4
 by_cases hlt:k<n1
 · have hrow:=HR.out.nums.same ksame
   obtain ⟨b,o,u,rfl,hbl,_,hu,hc⟩:=hrow.at_ hlt
   have hkl:k<nums.length:=by rw [HL1.out];exact hlt
   simp only [List.getElem?_map,List.getElem?_eq_getElem hkl,Option.map_some,Option.some.injEq] at hu
   subst hu
   have HT:=qH (ZaV (ZaK (kind-4)) nums k hkl)
   have HLn:=qH (ZbG (kind-4) (nums.take k))
   clear hrow
   generalize nums[k]=x at *
   have e0:wr.cell? ⟨w.heap.size,0,none⟩=some (.int .i64 kind):=kb.cell 0
   go_wp2_with fail
   refine (Zgr KW.out _ _ hk1 hk8 (by
    rw [List.length_append,List.length_append,Zab,Zab]
    have:=HLn.out
    rw [List.length_take] at this
    omega)).mono ?_
   rintro e w5 ⟨rfl,hw5,hu5⟩
   have HW5:=qH hw5
   have HU5:=qH hu5
   clear hw5 hu5
   go_wp2
   go_roundw
   case rel =>
    refine ⟨k+1,by omega,by go_num,kb.upd HU5.out (by omega),qH ?_,ksame.trans HU5.out fun b hb hh=>by omega,by have:=HU5.out.size;omega⟩
    have h1:=HW5.out
    rw [HBK.out,List.append_assoc] at h1
    rw [HT.out]
    exact h1
   case measure=>simp [intOf];omega
 obtain rfl:k=n1:=by omega
 have KW1:=qH (show Wtr wr w1.heap.size r (beb 1 kind.toNat++beb 1 (nums.length+texts.length)++nums.flatMap (ZaK (kind-4))) from by
  have h1:=KW.out
  rwa [List.take_of_length_le (by rw [HL1.out];exact Nat.le_refl _)] at h1)
 have HLn:=qH (ZbG (kind-4) nums)
 clear KW
 have e4:wr.cell? ⟨w.heap.size,4,none⟩=some (.slice A2 n2 c2):=kb.cell 4
 go_wp2
 clear e4
 go_loopw [47] (fun i wx=>∃ j:Nat,j<=n2/\i=.int .i64 j/\Blk wx w.heap.size 46 #[.int .i64 kind,.int .i64 num,.string text,.slice A1 k c1,.slice A2 n2 c2] /\
  Hid (Wtr wx w1.heap.size r (beb 1 kind.toNat++beb 1 (nums.length+texts.length)++nums.flatMap (ZaK (kind-4))++(texts.take j).flatMap ZaL))/\Same w wx/\r<wx.heap.size) (fun i _=>n2-(intOf i).toNat)
 case atStart=>exact ⟨0,Nat.zero_le _,rfl,kb,qH (by simpa using KW1.out),ksame,hr'⟩
 obtain ⟨j,hj,rfl,jb,JW,jsame,hr2⟩:=hrel
 clear kb ksame KW1 hr'
 by_cases hlt:j<n2
 · have hrow:=HR.out.texts.same jsame
   obtain ⟨b,o,u,rfl,hbl,_,hu,hc⟩:=hrow.at_ hlt
   have hkl:j<texts.length:=by rw [HL2.out];exact hlt
   simp only [List.getElem?_map,List.getElem?_eq_getElem hkl,Option.map_some,Option.some.injEq] at hu
   subst hu
   have HT:=qH (ZaV ZaL texts j hkl)
   have HSz:=qH (HTS.out texts[j] (List.getElem_mem hkl))
   have HLt:=qH (ZbL (texts.take j) fun s hs=>HTS.out s (List.mem_of_mem_take hs))
   clear hrow
   generalize texts[j]=x at *
   go_wp2_with fail
   refine (Zfw JW.out _ (by have:=HSz.out;omega) (by
    rw [List.length_append,List.length_append,List.length_append,Zab,Zab]
    have h1:=HLt.out
    have h2:=HLn.out
    rw [List.length_take] at h1
    rw [HL1.out] at h2
    omega)).mono ?_
   rintro e w5 ⟨rfl,hw5,hu5⟩
   have HW5:=qH hw5
   have HU5:=qH hu5
   clear hw5 hu5
   go_wp2
   go_roundw
   case rel =>
    refine ⟨j+1,by omega,by go_num,jb.upd HU5.out (by omega),qH ?_,jsame.trans HU5.out fun b hb hh=>by omega,by have:=HU5.out.size;omega⟩
    have h1:=HW5.out
    rw [List.append_assoc] at h1
    rw [HT.out]
    exact h1
   case measure=>simp [intOf];omega
 obtain rfl:j=n2:=by omega
 have JW1:=qH (show Wtr wr w1.heap.size r (beb 1 kind.toNat++beb 1 (nums.length+texts.length)++nums.flatMap (ZaK (kind-4))++texts.flatMap ZaL) from by
  have h1:=JW.out
  rwa [List.take_of_length_le (by rw [HL2.out];exact Nat.le_refl _)] at h1)
 have HLt:=qH (ZbL texts fun s hs=>HTS.out s hs)
 clear JW
 go_wp2_with fail
 refine (ZbB JW1.out (by
  rw [List.length_append,List.length_append,List.length_append,Zab,Zab]
  have h1:=HLt.out
  have h2:=HLn.out
  rw [HL2.out] at h1
  rw [HL1.out] at h2
  omega)).mono ?_
 rintro e w5 ⟨v,rfl,ho,hs7⟩
 have HO:=qH ho
 clear ho
 go_wp2
 go_ret2
 refine ⟨v,rfl,?_,jsame.same hs7⟩
 rw [HF.out,HB6.out]
 have h1:=Zad HO.out jsame.size
 simp only [List.append_assoc] at h1 ⊢
 exact h1
theorem ZjU {F:Nat->Prop} {A1 A2:Option Addr} {n1 c1 n2 c2:Nat} {g:GVal} (w:World) (h:Zcg w F A1 n1 c1 A2 n2 c2 g) (hx:g.text.size<=9223372036854775807) (hts:∀ s∈g.texts,s.size<=9223372036854775807) :
 Calls Tryz.prog 104 #[g.val A1 n1 c1 A2 n2 c2] w fun e w'=>e=.returned (.int .i64 ((enc g).length:Int))/\Same w w':=by
 have HE:=qH (Zgs (F:=F) (A1:=A1) (A2:=A2) (n1:=n1) (c1:=c1) (n2:=n2) (c2:=c2) (g:=g))
 have HR:=qH h
 have HX:=qH hx
 have HT:=qH hts
 clear h hx hts
 generalize chk g=C at HE
 generalize enc g=E at HE ⊢
 obtain ⟨kind,num,text,nums,texts⟩:=g
 simp only [GVal.val] at HE ⊢
 have hs0:=(Upd.refl (fun _=>False) w).alloc (.cells #[.int .i64 kind,.int .i64 num,.string text,.slice A1 n1 c1,.slice A2 n2 c2] 46)
 have HS:=qH hs0
 clear hs0
 go_enter Tryz.func104,Tryz.ntmps104
 go_wp2_with fail
 refine (HE.out _ (HR.out.same HS.out) HX.out HT.out).mono ?_
 rintro e w1 ⟨v,rfl,ho,hs⟩
 obtain ⟨A,m,c,rfl⟩:=Zav ho
 have HM:=qH (show E.length=m from by
  rcases ho.2 with ⟨hv,hn⟩ | ⟨g,cap,cur,hv,_⟩
  · injection hv with _ h2 _
    rw [hn,h2]
  injection hv with _ h2 _
  exact h2.symm)
 clear ho
 go_wp2
 go_ret
 exact ⟨ZaS (by rw [HM.out]),HS.out.same hs⟩
theorem ZlY (n:Int) (w:World):Calls Tryz.prog 120 #[.int .i64 n] w fun e w'=>e=.returned (.bool (Zao n))/\w=w':=by
 by_cases h1:n=1
 · subst h1
   go_enter Tryz.func120,Tryz.ntmps120
   go_wp2
   go_ret
   exact ⟨rfl,rfl⟩
 by_cases h2:n=2
 · subst h2
   go_enter Tryz.func120,Tryz.ntmps120
   go_wp2
   go_ret
   exact ⟨rfl,rfl⟩
 by_cases h4:n=4
 · subst h4
   go_enter Tryz.func120,Tryz.ntmps120
   go_wp2
   go_ret
   exact ⟨rfl,rfl⟩
 have h1':(n==1)=false:=by simpa using h1
 have h2':(n==2)=false:=by simpa using h2
 have h4':(n==4)=false:=by simpa using h4
 have e:Zao n=(n==8):=by simp [Zao,h1',h2',h4']
 rw [e]
 clear e h1 h2 h4
 go_enter Tryz.func120,Tryz.ntmps120
 go_wp2
 go_ret
 exact ⟨rfl,rfl⟩
theorem ZjV (c:UInt8) (bs:List UInt8):be (c::bs)=c.toNat*256 ^ bs.length+be bs:=by
 suffices h:∀ (l:List UInt8) (n:Nat),l.foldl (fun n c=>n*256+c.toNat) n=n*256 ^ l.length+be l from by
  have:=h bs c.toNat
  unfold be at this ⊢
  simpa using this
 intro l
 induction l with
 | nil=>intro n;simp [be]
 | cons x l ih =>
   intro n
   have h1:=ih (n*256+x.toNat)
   have h2:=ih x.toNat
   unfold be at h1 h2 ⊢
   simp only [List.foldl_cons,List.length_cons,Nat.zero_mul,Nat.zero_add]
   rw [h1,h2,Nat.pow_succ]
   rw [Nat.add_mul]
   have:n*256*256 ^ l.length=n*(256 ^ l.length*256):=by rw [Nat.mul_assoc,Nat.mul_comm 256]
   omega
theorem ZiG (width n:Nat) (w:World) (hw:Zao width=true) (hn:n<18446744073709551616) :
 Calls Tryz.prog 83 #[.int .i64 width,.int .u64 n] w fun e w'=>∃ v,e=.returned v/\OwnB w' w.heap.size v (beb width n)/\Same w w':=by
 have hwid:1<=width/\width<=8:=by
  simp only [Zao,Bool.or_eq_true,beq_iff_eq] at hw
  omega
 have HW:=qH hw
 clear hw
 go_enter Tryz.func83,Tryz.ntmps83
 go_wp2_with fail
 refine (ZlY _ _).mono ?_
 rintro e w' ⟨rfl,rfl⟩
 rw [HW.out]
 go_wp2
 go_loopw [5,6] (fun v i wr=>∃ k:Nat,k<=width/\i=.int .i64 k/\wr.ownsRow w.heap.size 5 1 v k (List.replicate k (.int .u8 0))/\Same w wr) (fun _ i _=>width-(intOf i).toNat)
 case atStart=>exact ⟨0,Nat.zero_le _,rfl,World.ownsRow_made w #[] 0 (Nat.le_refl _) (Nat.zero_le _) rfl,(Upd.refl _ w).alloc _⟩
 obtain ⟨k,hk,rfl,kown,ksame⟩:=hrel
 by_cases hlt:k<width
 · go_wp2_with (at_builtin;go_must (refine Zag rfl (.tmp 18) (.tmp 19) _ _ rfl w.heap.size _ _ _ _ Tryz.underlying28 ZaR rfl u5 _ _ rfl (kown.alloc _) rfl (Zal Tryz.underlying28 (Row.one _ _ _) (by simp [Value.oneCell'])) (by unfold maxLen;omega) (by omega) (by have:=ksame.size;simp;omega) ?_);intro v' w1 hg)
   go_roundw
   case rel =>
    refine ⟨k+1,by omega,by go_num,?_,(ksame.alloc _).trans hg.upd fun b hb hv=>by have:=(kown.lt b hv).1;omega⟩
    have:=hg.own
    rwa [<- List.replicate_succ'] at this
   case measure=>simp [intOf];omega
 obtain rfl:k=width:=by omega
 have KO:=qH kown
 have KS:=qH ksame
 clear kown ksame
 obtain ⟨g,cap,rfl,hg1,hg2⟩:=KO.out.form (by omega)
 go_wp2
 go_loopw [1,7] (fun m i wx=>∃ j:Nat,j<=k/\i=.int .i64 ((k:Int)-1-j)/\(∃ q:Nat,m=.int .u64 (q:Int)/\Hid (q=n / 256 ^ j))/\Hid (wx.ownsRow w.heap.size 5 1 (.slice (some ⟨g,0,none⟩) k cap) k (List.replicate (k-j) (.int .u8 0)++(beb j n).map u8v))/\Hid (Same w wx)) (fun _ i _=>(intOf i+1).toNat)
 case atStart=>exact ⟨0,Nat.zero_le _,by go_num,⟨n,rfl,qH (by simp)⟩,qH (by simpa [beb] using KO.out),KS⟩
 obtain ⟨j,hj,rfl,⟨q,rfl,HQ⟩,JO,JS⟩:=hrel
 by_cases hlt2:j<k
 · have hlen:(List.replicate (k-j) (Value.int .u8 0)++(beb j n).map u8v).length=k:=by
    rw [List.length_append,List.length_replicate,List.length_map,Zab];omega
   have e1:wr.cell? ⟨g,k-1-j,none⟩=some (.int .u8 0):=by
    rw [JO.out.cellAt (k-1-j) (by omega)]
    rw [List.getElem?_append_left (by rw [List.length_replicate];omega)]
    rw [List.getElem?_replicate,if_pos (by omega)]
   have e2:wr.frozen? ⟨g,k-1-j,none⟩=false:=JO.out.frozenAt (k-1-j)
   have HI:=qH (show ((k:Int)-1-(j:Int)).toNat=k-1-j from by omega)
   go_wp2
   go_roundw
   case rel =>
    have hq:q<=n:=by rw [HQ.out];exact Nat.div_le_self _ _
    have e3:((q:Int) % 256)=((UInt8.ofNat q).toNat:Int):=by
     simp
    have e4:IntKind.u64.wrap ((q:Int) / 256)=((q / 256:Nat):Int):=by
     rw [IntWalk.u64_in _ ⟨by omega,by omega⟩]
     omega
    refine ⟨j+1,by omega,by go_num,⟨q / 256,by rw [e4],qH ?_⟩,qH ?_,qH ?_⟩
    · rw [HQ.out,Nat.div_div_eq_div_mul,Nat.pow_succ]
    · have h1:=(JO.out.stored (k-1-j) (.int .u8 ((q:Int) % 256))).1
      have h2:(List.replicate (k-j) (Value.int .u8 0)++(beb j n).map u8v).set (k-1-j) (.int .u8 ((q:Int) % 256))=List.replicate (k-(j+1)) (.int .u8 0)++(beb (j+1) n).map u8v:=by
       obtain ⟨d,hd⟩:∃ d,k-j=d+1:=⟨k-j-1,by omega⟩
       rw [hd,show k-1-j=d from by omega,show k-(j+1)=d from by omega,List.replicate_succ',List.append_assoc,List.set_append_right _ _ (by simp)]
       simp only [List.length_replicate,Nat.sub_self,List.singleton_append,List.set_cons_zero,beb,List.map_cons]
       rw [e3,HQ.out]
      rw [h2] at h1
      exact h1
    exact JS.out.trans ((Upd.refl (fun b=>b=g) wr).put1 _) fun b hb hh=>by omega
   case measure=>simp [intOf];omega
 obtain rfl:j=k:=by omega
 go_wp2
 go_ret
 refine ⟨_,rfl,?_,JS.out⟩
 have h1:=JO.out
 rw [Nat.sub_self,List.replicate_zero,List.nil_append] at h1
 unfold OwnB
 rwa [Zab]
theorem ZbY (xs:List UInt8) (k:Nat) (h:k<xs.length):(xs.take (k+1)).map u8v=(xs.take k).map u8v++[u8v xs[k]]:=by
 rw [List.take_succ_eq_append_getElem h,List.map_append]
 rfl
theorem Zfx {B:Nat} {v:Value} {bs:List UInt8} (w:World) (hv:OwnB w B v bs) (hB:B<=w.heap.size) (kind n:Int) (hl:bs.length+8<=140737488355328) :
 Calls Tryz.prog 156 #[v,.int .i64 kind,.int .i64 n] w fun e w'=>∃ v',e=.returned v'/\Zbw w B v (bs++ZaK kind n) v' w':=by
 have HU:=qH (Zog n)
 have HLt:=qH (ZkY n)
 have HV:=qH hv
 have HE:=qH (show ZaK kind n=if kind=1 then beb 1 (u64 n) else beb 8 (u64 n) from rfl)
 have HEL:=qH (ZcD kind n)
 generalize ZaK kind n=E at HE HEL ⊢
 clear hv
 go_enter Tryz.func156,Tryz.ntmps156
 go_wp2_with fail
 rw [HU.out]
 refine (ZiG 8 (u64 n) _ rfl HLt.out).mono ?_
 rintro e w1 ⟨x,rfl,ho,hs⟩
 obtain ⟨A,m,c,rfl⟩:=Zav ho
 have HO:=qH ho
 have HS:=qH hs
 have HB1:=qH hs.size
 clear ho hs
 have hm:m=8:=by
  have:=HO.out
  rcases this.2 with ⟨hv,hn⟩ | ⟨g,cap,cur,hv,_⟩
  · rw [Zab] at hn
    omega
  injection hv with _ h2 _
 subst hm
 have HR:=qH ((Row.of_own HO.out).mono (F':=fun b=>w.heap.size<=b) fun b _ hb=>hb.2)
 have hc8:=(Row.le HR.out:(beb 8 (u64 n)).length<=c)
 have hcm:=(Row.max HR.out:c<=maxLen)
 rw [Zab] at hc8
 unfold maxLen at hcm
 go_upto_if 13 with fail
 go_cut [7] from 9 (fun x wx=>wx=w1/\∃ A' m' c',x=.slice A' m' c'/\Hid (Bytes w1 (fun b=>w.heap.size<=b) A' m' c' E))
 case first =>
  by_cases hk:kind=1
  · subst hk
    have HE1:=qH (HE.out.trans (if_pos rfl))
    have HY:=qH (Bytes.rest (show Bytes w1 (fun b=>w.heap.size<=b) A 8 c (beb 8 (u64 n)) from HR.out) (show 7<=8 by omega))
    have h7:¬ c=7:=by omega
    go_wp2
    go_meet
    have hy:=HY.out
    rw [if_neg h7] at hy
    exact ⟨rfl,_,_,_,rfl,qH (by rw [HE1.out];exact hy)⟩
  have HE1:=qH (HE.out.trans (if_neg hk))
  have hk':(kind==1)=false:=by simpa using hk
  go_wp2
  go_meet
  case rel=>exact ⟨rfl,_,_,_,rfl,qH (by rw [HE1.out];exact HR.out)⟩
 obtain ⟨rfl,A',m',c',rfl,HX⟩:=hcut
 have HM:=qH (Bytes.len HX.out)
 have hm8:m'<=8:=by rw [<- HM.out];exact HEL.out
 have HV1:=qH (Zaa HV.out HS.out)
 have HF:=qH (show ∀ b,w.heap.size<=b->¬ v.ownBlock=some b from fun b hb hv=>by have:=(HV.out.lt b hv).2;omega)
 clear HR HO hc8 hcm
 go_wp2
 go_loopw [0,8] (fun y i wr=>∃ k:Nat,k<=m'/\i=.int .i64 k/\Hid (Grew wc B 5 1 v (bs.length+k) (bs.map u8v++(E.take k).map u8v) y wr)) (fun _ i _=>m'-(intOf i).toNat)
 case atStart=>exact ⟨0,Nat.zero_le _,rfl,qH (Grew.refl (by simpa using HV1.out))⟩
 obtain ⟨k,hk,rfl,KG⟩:=hrel
 by_cases hlt:k<m'
 · obtain ⟨b,o,rfl,hbl,hbF,hc⟩:=Bytes.at_ (HX.out.upd KG.out.upd HF.out) hlt
   have hkl:k<E.length:=by rw [HM.out];exact hlt
   have HT:=qH (ZbY E k hkl)
   generalize E[k]=z at *
   go_wp2_with (at_builtin;go_must (refine Zag rfl (.tmp 22) (.tmp 27) _ _ rfl B _ _ _ _ Tryz.underlying28 ZaR rfl u0 _ _ rfl (KG.out.own.alloc _) rfl (Zal Tryz.underlying28 (Row.one _ _ _) (by simp [Value.oneCell'])) (by unfold maxLen;omega) (by omega) (by have:=KG.out.size;have:=HB1.out;simp;omega) ?_);intro v' w2 hg;have HG:=qH hg;clear hg)
   go_roundw
   case rel =>
    refine ⟨k+1,by omega,by go_num,qH ?_⟩
    have h1:=(KG.out.alloc _).trans HG.out
    rw [HT.out,<-List.append_assoc,<-Nat.add_assoc]
    exact h1
   case measure=>simp [intOf];omega
 obtain rfl:k=m':=by omega
 go_wp2
 go_ret
 refine ⟨_,rfl,?_⟩
 have h0:Grew w B 5 1 v bs.length (bs.map u8v) v wc:=⟨HV1.out,HS.out.mono fun _ _ f=>f.elim,.inl rfl⟩
 have h1:=h0.trans KG.out
 rw [List.take_of_length_le (by rw [HM.out];exact Nat.le_refl _)] at h1
 unfold Zbw
 rw [List.length_append,HM.out,List.map_append]
 exact h1
theorem beb2 (n:Nat) (h:n<=65535):(beb 2 n).map u8v=[.int .u8 ((n:Int) / 256),.int .u8 ((n:Int) % 256)]:=by
 have e1:((UInt8.ofNat (n / 256)).toNat:Int)=(n:Int) / 256:=by
  rw [UInt8.toNat_ofNat']
  omega
 have e2:((UInt8.ofNat n).toNat:Int)=(n:Int) % 256:=by
  rw [UInt8.toNat_ofNat']
  omega
 simp only [beb,List.map_cons,List.map_nil,Nat.pow_zero,Nat.div_one,Nat.pow_one,u8v]
 rw [e1,e2]
theorem ZiH {B:Nat} {v:Value} {bs:List UInt8} (w:World) (hv:OwnB w B v bs) (hB:B<=w.heap.size) (s:ByteArray) (hs:s.size<=65535) (hl:bs.length<=70368744177664) :
 Calls Tryz.prog 157 #[v,.string s] w fun e w'=>∃ v',e=.returned v'/\Zbw w B v (bs++ZaL s) v' w':=by
 have HV:=qH hv
 clear hv
 go_enter Tryz.func157,Tryz.ntmps157
 go_wp2_with (at_builtin;go_must (refine Zag rfl (.tmp 6) (.tmp 15) _ _ rfl B _ _ _ _ Tryz.underlying28 ZaR rfl v _ _ rfl (HV.out.alloc _) rfl (Zal Tryz.underlying28 (Row.of_blk (k:=1) (n:=2) (Blk.new _ _ _) rfl (Nat.le_refl _) (by simp [maxLen])) (by simp [Value.oneCell'])) (by unfold maxLen;omega) (by omega) (by simp;omega) ?_);intro v' w1 hg;have HG:=qH hg;clear hg)
 have HG1:=qH (show Grew w B 5 1 v (bs.length+2) (bs.map u8v++(beb 2 s.size).map u8v) v' w1 from by
  have h0:=(Grew.refl HV.out).alloc (.cells #[.int .u8 ((s.size:Int) / 256),.int .u8 ((s.size:Int) % 256)] 5)
  have h1:=h0.trans HG.out
  rw [beb2 s.size (by omega)]
  exact h1)
 have hsz:s.size=s.data.toList.length:=(Zbd s).symm
 have HSZ:=qH hsz
 clear hsz HG
 go_loopw [0,5] (fun y i wr=>∃ k:Nat,k<=s.size/\i=.int .i64 k/\Hid (Grew w B 5 1 v (bs.length+2+k) (bs.map u8v++(beb 2 s.size).map u8v++(s.data.toList.take k).map u8v) y wr)) (fun _ i _=>s.size-(intOf i).toNat)
 case atStart=>exact ⟨0,Nat.zero_le _,rfl,qH (by simpa using HG1.out)⟩
 obtain ⟨k,hk,rfl,KG⟩:=hrel
 by_cases hlt:k<s.size
 · go_wp2_with (at_builtin;go_must (refine Zag rfl (.tmp 23) (.tmp 27) _ _ rfl B _ _ _ _ Tryz.underlying28 ZaR rfl u0 _ _ rfl (KG.out.own.alloc _) rfl (Zal Tryz.underlying28 (Row.one _ _ _) (by simp [Value.oneCell'])) (by unfold maxLen;omega) (by omega) (by have:=KG.out.size;simp;omega) ?_);intro v' w2 hg;have HG:=qH hg;clear hg)
   have HT:=qH (show (s.data.toList.take (k+1)).map u8v=(s.data.toList.take k).map u8v++[Value.int .u8 (s[k].toNat:Int)] from by
    rw [ZbY s.data.toList k (by rw [<- HSZ.out];exact hlt)]
    rfl)
   go_roundw
   case rel =>
    refine ⟨k+1,by omega,by go_num,qH ?_⟩
    have h1:=(KG.out.alloc _).trans HG.out
    rw [HT.out,<-List.append_assoc,<-Nat.add_assoc]
    exact h1
   case measure=>simp [intOf];omega
 obtain rfl:k=s.size:=by omega
 go_wp2
 go_ret
 refine ⟨_,rfl,?_⟩
 have h1:=KG.out
 rw [List.take_of_length_le (by rw [<- HSZ.out];exact Nat.le_refl _)] at h1
 unfold Zbw ZaL
 rw [List.length_append,List.length_append,Zab,<-HSZ.out,List.map_append,List.map_append,<-List.append_assoc,<-Nat.add_assoc]
 exact h1
theorem ZhZ {w w2 w3:World} {v1 v2:Value} {bs0 bs:List UInt8} (ho:Hid (OwnB w2 w.heap.size v1 bs0)) (hs:Same w w2) (hg:Zbw w2 w.heap.size v1 bs v2 w3):OwnB w3 w.heap.size v2 bs/\Same w w3 :=
 ⟨hg.own,hs.trans hg.upd fun b hb hv=>by have:=(ho.out.lt b hv).1;omega⟩
theorem Zlb {w w1 w2:World} {B k n:Nat} {e:TypeId} {v0 v1:Value} {xs0 xs:List Value} {o:Obj} {n0:Nat} (ho:w1.ownsRow w.heap.size e k v0 n0 xs0) (hs:Same w w1) (hg:Grew (w1.alloc o) B e k v0 n xs v1 w2):Same w w2 :=
 (hs.alloc _).trans hg.upd fun b hb hv=>by have:=(ho.lt b hv).1;omega
theorem Zfy {F:Nat->Prop} {A1 A2:Option Addr} {n1 c1 n2 c2:Nat} {g:GVal} (w:World) (h:Zcg w F A1 n1 c1 A2 n2 c2 g) (hx:g.text.size<=9223372036854775807) (hts:∀ s∈g.texts,s.size<=9223372036854775807) :
 Calls Tryz.prog 121 #[g.val A1 n1 c1 A2 n2 c2] w fun e w'=>∃ v,e=.returned v/\OwnB w' w.heap.size v (enc g)/\Same w w':=by
 have HC:=qH (Zgq (F:=F) (A1:=A1) (A2:=A2) (n1:=n1) (c1:=c1) (n2:=n2) (c2:=c2) (g:=g))
 have HZ:=qH (ZdN (g:=g))
 have HE:=qH (show enc g=if chk g=0 then beb 1 g.kind.toNat++Zbz g else [] from rfl)
 have HBd:=qH (show Zbz g=(if g.kind<4 then ZaK g.kind g.num else if g.kind=4 then ZaL g.text
  else beb 1 (g.nums.length+g.texts.length)++(g.nums.flatMap (ZaK (g.kind-4))++g.texts.flatMap ZaL)) from rfl)
 generalize enc g=E at HE ⊢
 generalize Zbz g=Bd at HE HBd
 generalize hc:chk g=C at HC HZ HE
 clear hc
 obtain ⟨kind,num,text,nums,texts⟩:=g
 simp only [GVal.val] at HC ⊢
 have HR:=qH h
 have HL1:=qH (show nums.length=n1 from h.len1)
 have HL2:=qH (show texts.length=n2 from h.len2)
 have hs0:=((Upd.refl (fun _=>False) w).alloc (.cells #[.int .i64 kind,.int .i64 num,.string text,.slice A1 n1 c1,.slice A2 n2 c2] 46)).alloc (.cells #[] 5)
 have hb0:=(Blk.new w 46 #[.int .i64 kind,.int .i64 num,.string text,.slice A1 n1 c1,.slice A2 n2 c2]).alloc (.cells #[] 5)
 have ho0:=World.ownsRow_made (base:=w.heap.size) (e:=5) (size:=1) (w.alloc (.cells #[.int .i64 kind,.int .i64 num,.string text,.slice A1 n1 c1,.slice A2 n2 c2] 46)) #[] 0 (by simp) (Nat.zero_le _) rfl
 rw [World.size_alloc] at ho0
 have HCK:=qH (HC.out _ (HR.out.same hs0) hx hts)
 clear h
 by_cases hz:C=0
 case neg =>
  have hz':(C != 0)=true:=by simpa using hz
  have HF:=qH (HE.out.trans (if_neg hz))
  have HB0:=qH ho0
  have HS0:=qH hs0
  clear hz hb0 hs0 ho0
  go_enter Tryz.func121,Tryz.ntmps121
  go_wp2_with fail
  refine HCK.out.mono ?_
  rintro e w1 ⟨rfl,hs1⟩
  go_wp2
  go_ret
  refine ⟨_,rfl,?_,HS0.out.same hs1⟩
  rw [HF.out]
  exact Zaa HB0.out hs1
 subst hz
 have HF:=qH (HE.out.trans (if_pos rfl))
 obtain ⟨hk1,hk8,hfb,hl40,ht40,hxs,htsz⟩:=HZ.out rfl
 simp only at hk1 hk8 hxs
 have HTS:=qH htsz
 have HTX:=qH hts
 clear htsz hts
 go_enter Tryz.func121,Tryz.ntmps121
 go_wp2_with fail
 refine HCK.out.mono ?_
 rintro e w1 ⟨rfl,hs1⟩
 have hs2:=hs0.same hs1
 have hb1:=hb0.same hs1
 have ho1:=Zaa ho0 hs1
 have hsz1:w.heap.size+1<w1.heap.size:=by have:=hs1.size;simp at this;omega
 clear hs0 hb0 hs1 ho0
 have c0:w1.cell? ⟨w.heap.size,0,none⟩=some (.int .i64 kind):=hb1.cell 0
 have c1':w1.cell? ⟨w.heap.size,1,none⟩=some (.int .i64 num):=hb1.cell 1
 have HO1:=qH ho1
 clear ho1
 have HK:=qH (show [Value.int .u8 (kind % 256)]=(beb 1 kind.toNat).map u8v/\[Value.int .u8 kind]=(beb 1 kind.toNat).map u8v from by
  have e1:((UInt8.ofNat kind.toNat).toNat:Int)=kind:=by
   rw [UInt8.toNat_ofNat']
   omega
  have e2:(beb 1 kind.toNat).map u8v=[Value.int .u8 kind]:=by
   simp only [beb,List.map_cons,List.map_nil,Nat.pow_zero,Nat.div_one,u8v]
   rw [e1]
  rw [e2,show kind % 256=kind from by omega]
  exact ⟨rfl,rfl⟩)
 by_cases h4:kind<4
 · have HB4:=qH (HBd.out.trans (if_pos h4))
   go_wp2_with (at_builtin;go_must (refine Zag rfl (.tmp 11) (.tmp 15) _ _ rfl w.heap.size _ _ _ _ Tryz.underlying28 ZaR rfl _ 0 [] rfl (HO1.out.alloc _) rfl (Zal Tryz.underlying28 (Row.one _ _ _) (by simp [Value.oneCell'])) (by simp [maxLen]) (by simp) (by simp;omega) ?_);intro v1 w2 hg;have hb2:=hg.blk (hb1.alloc _) (hb1.ne_own HO1.out (by decide));have e0:w2.cell? ⟨w.heap.size,0,none⟩=some (.int .i64 kind):=hb2.cell 0;have e1:w2.cell? ⟨w.heap.size,1,none⟩=some (.int .i64 num):=hb2.cell 1;have e2:w2.cell? ⟨w.heap.size,2,none⟩=some (.string text):=hb2.cell 2;have e3:w2.cell? ⟨w.heap.size,3,none⟩=some (.slice A1 n1 c1):=hb2.cell 3;have e4:w2.cell? ⟨w.heap.size,4,none⟩=some (.slice A2 n2 c2):=hb2.cell 4;have HG:=qH hg;clear hg)
   have HO2:=qH (show OwnB w2 w.heap.size v1 (beb 1 kind.toNat) from by
    have:=HG.out.own
    simp only [List.nil_append,Nat.zero_add] at this
    unfold OwnB
    rw [Zab,<-HK.2]
    exact this)
   have hs3:Same w w2:=(hs2.alloc _).trans HG.out.upd fun b hb hv=>by have:=(HO1.out.lt b hv).1;omega
   have HS3:=qH hs3
   clear hs2 hs3 hb1 hb2
   go_wp2_with fail
   refine (Zfx _ HO2.out (by have:=HS3.out.size;omega) _ _ (by rw [Zab];omega)).mono ?_
   rintro e w3 ⟨v2,rfl,hg3⟩
   have HG3:=qH hg3
   clear hg3
   go_wp2
   go_ret
   have hf:=ZhZ HO2 HS3.out HG3.out
   exact ⟨v2,rfl,by rw [HF.out,HB4.out];exact hf.1,hf.2⟩
 have HB5:=qH (HBd.out.trans (if_neg h4))
 by_cases h44:kind=4
 · have HB4:=qH (HB5.out.trans (if_pos h44))
   have h44':(kind==4)=true:=by simpa using h44
   clear h44
   go_wp2_with (at_builtin;go_must (refine Zag rfl (.tmp 11) (.tmp 15) _ _ rfl w.heap.size _ _ _ _ Tryz.underlying28 ZaR rfl _ 0 [] rfl (HO1.out.alloc _) rfl (Zal Tryz.underlying28 (Row.one _ _ _) (by simp [Value.oneCell'])) (by simp [maxLen]) (by simp) (by simp;omega) ?_);intro v1 w2 hg;have hb2:=hg.blk (hb1.alloc _) (hb1.ne_own HO1.out (by decide));have e0:w2.cell? ⟨w.heap.size,0,none⟩=some (.int .i64 kind):=hb2.cell 0;have e1:w2.cell? ⟨w.heap.size,1,none⟩=some (.int .i64 num):=hb2.cell 1;have e2:w2.cell? ⟨w.heap.size,2,none⟩=some (.string text):=hb2.cell 2;have e3:w2.cell? ⟨w.heap.size,3,none⟩=some (.slice A1 n1 c1):=hb2.cell 3;have e4:w2.cell? ⟨w.heap.size,4,none⟩=some (.slice A2 n2 c2):=hb2.cell 4;have HG:=qH hg;clear hg)
   have HO2:=qH (show OwnB w2 w.heap.size v1 (beb 1 kind.toNat) from by
    have:=HG.out.own
    simp only [List.nil_append,Nat.zero_add] at this
    unfold OwnB
    rw [Zab,<-HK.2]
    exact this)
   have hs3:Same w w2:=(hs2.alloc _).trans HG.out.upd fun b hb hv=>by have:=(HO1.out.lt b hv).1;omega
   have HS3:=qH hs3
   clear hs2 hs3 hb1 hb2
   go_wp2_with fail
   refine (ZiH _ HO2.out (by have:=HS3.out.size;omega) _ (by omega) (by rw [Zab];omega)).mono ?_
   rintro e w3 ⟨v2,rfl,hg3⟩
   have HG3:=qH hg3
   clear hg3
   go_wp2
   go_ret
   have hf:=ZhZ HO2 HS3.out HG3.out
   exact ⟨v2,rfl,by rw [HF.out,HB4.out];exact hf.1,hf.2⟩
 have HB6:=qH (HB5.out.trans (if_neg h44))
 have h44':(kind==4)=false:=by simpa using h44
 have hn1:n1<=40:=by rw [<- HL1.out];exact hl40
 have hn2:n2<=40:=by rw [<- HL2.out];exact ht40
 clear hl40 ht40
 go_upto_region 9 with (at_builtin;go_must (refine Zag rfl (.tmp 11) (.tmp 15) _ _ rfl w.heap.size _ _ _ _ Tryz.underlying28 ZaR rfl _ 0 [] rfl (HO1.out.alloc _) rfl (Zal Tryz.underlying28 (Row.one _ _ _) (by simp [Value.oneCell'])) (by simp [maxLen]) (by simp) (by simp;omega) ?_);intro v1 w2 hg;have hb2:=hg.blk (hb1.alloc _) (hb1.ne_own HO1.out (by decide));have e0:w2.cell? ⟨w.heap.size,0,none⟩=some (.int .i64 kind):=hb2.cell 0;have e1:w2.cell? ⟨w.heap.size,1,none⟩=some (.int .i64 num):=hb2.cell 1;have e2:w2.cell? ⟨w.heap.size,2,none⟩=some (.string text):=hb2.cell 2;have e3:w2.cell? ⟨w.heap.size,3,none⟩=some (.slice A1 n1 c1):=hb2.cell 3;have e4:w2.cell? ⟨w.heap.size,4,none⟩=some (.slice A2 n2 c2):=hb2.cell 4;have HG:=qH hg;  have hs3:=Zlb HO1.out hs2 hg;have hle:w1.heap.size+1<=w2.heap.size:=(by have:=hg.size;simpa using this);clear hg hs2 hb1)
 have HO2:=qH (show OwnB w2 w.heap.size v1 (beb 1 kind.toNat) from by
  have:=HG.out.own
  simp only [List.nil_append,Nat.zero_add] at this
  unfold OwnB
  rw [Zab,<-HK.2]
  exact this)
 have HO2':=qH (show w2.ownsRow w.heap.size 5 1 v1 1 ((beb 1 kind.toNat).map u8v) from by have:=HO2.out;unfold OwnB at this;rwa [Zab] at this)
 go_wp2_with (at_builtin;go_must (refine Zag rfl (.tmp 33) (.tmp 42) _ _ rfl w.heap.size _ _ _ _ Tryz.underlying28 ZaR rfl v1 1 _ rfl (HO2'.out.alloc _) rfl (Zal Tryz.underlying28 (Row.one _ _ _) (by simp [Value.oneCell'])) (by simp [maxLen]) (by simp) (by simp;omega) ?_);intro v3 w3 hg;have hb3:=hg.blk (hb2.alloc _) (hb2.ne_own HO2.out (by decide));have HG3:=qH hg;have hs4:=Zlb HO2.out hs3 hg;have hle3:w2.heap.size+1<=w3.heap.size:=(by have:=hg.size;simpa using this);clear hg hs3)
 have HO3:=qH (show OwnB w3 w.heap.size v3 (beb 1 kind.toNat++beb 1 (nums.length+texts.length)) from by
  have h1:=HG3.out.own
  have e1:((UInt8.ofNat (n1+n2)).toNat:Int)=(n1:Int)+(n2:Int):=by
   rw [UInt8.toNat_ofNat']
   omega
  have e2:(beb 1 (nums.length+texts.length)).map u8v=[Value.int .u8 ((n1:Int)+(n2:Int))]:=by
   simp only [beb,List.map_cons,List.map_nil,Nat.pow_zero,Nat.div_one,u8v]
   rw [HL1.out,HL2.out,e1]
  unfold OwnB
  rw [List.length_append,Zab,Zab,List.map_append,e2]
  exact h1)
 have HS4:=qH hs4
 have hszB:w.heap.size<w3.heap.size:=hb3.lt
 clear e0 e1 e2 e3 e4 hb2 hs4 c0 c1'
 go_wp2
 go_loopw [3,4] (fun y i wr=>∃ k:Nat,k<=n1/\i=.int .i64 k/\Hid (OwnB wr w.heap.size y (beb 1 kind.toNat++beb 1 (nums.length+texts.length)++(nums.take k).flatMap (ZaK (kind-4)))) /\
  Blk wr w.heap.size 46 #[.int .i64 kind,.int .i64 num,.string text,.slice A1 n1 c1,.slice A2 n2 c2]/\Hid (Same w wr)) (fun _ i _=>n1-(intOf i).toNat)
 case atStart=>exact ⟨0,Nat.zero_le _,rfl,qH (by simpa using HO3.out),hb3,HS4⟩
 obtain ⟨k,hk,rfl,KO,kb,KS⟩:=hrel
 clear hb3 HS4 HO3 hszB
 have hszB:=kb.lt
 have e3:wr.cell? ⟨w.heap.size,3,none⟩=some (.slice A1 n1 c1):=kb.cell 3
 have HLn:=qH (ZbG (kind-4) (nums.take k))
 by_cases hlt:k<n1
 · have hrow:=HR.out.nums.same KS.out
   obtain ⟨b,o,u,rfl,hbl,_,hu,hc⟩:=hrow.at_ hlt
   have hkl:k<nums.length:=by rw [HL1.out];exact hlt
   simp only [List.getElem?_map,List.getElem?_eq_getElem hkl,Option.map_some,Option.some.injEq] at hu
   subst hu
   have HT:=qH (ZaV (ZaK (kind-4)) nums k hkl)
   clear hrow
   generalize nums[k]=x at *
   have e0:wr.cell? ⟨w.heap.size,0,none⟩=some (.int .i64 kind):=kb.cell 0
   go_upto_region 13 with fail
   go_still_tail 9,(by kernel_rfl)
   change wpList _ _ _ _ _ wr.drew
   have kb':Blk wr.drew w.heap.size 46 #[.int .i64 kind,.int .i64 num,.string text,.slice (some ⟨b,o,none⟩) n1 c1,.slice A2 n2 c2]:=kb
   have KO':=qH (show OwnB wr.drew w.heap.size u3 _ from KO.out)
   have KS':=qH (KS.out.drew)
   have hszB':w.heap.size<wr.drew.heap.size:=hszB
   clear kb KO KS hszB e0 e3 hc
   generalize wr.drew=wd at *
   go_wp2_with fail
   refine (Zfx _ KO'.out (by omega) _ _ (by
    rw [List.length_append,List.length_append,Zab,Zab]
    have:=HLn.out
    rw [List.length_take] at this
    omega)).mono ?_
   rintro e w5 ⟨v5,rfl,hg5⟩
   have HG5:=qH hg5
   clear hg5
   go_wp2
   go_roundw
   case rel =>
    refine ⟨k+1,by omega,by go_num,qH ?_,HG5.out.blk kb' (kb'.ne_own KO'.out (by decide)),qH (ZhZ KO' KS'.out HG5.out).2⟩
    have h1:=HG5.out.own
    rw [List.append_assoc] at h1
    rw [HT.out]
    exact h1
   case measure=>simp [intOf];omega
 obtain rfl:k=n1:=by omega
 have KO1:=qH (show OwnB wr w.heap.size u3 (beb 1 kind.toNat++beb 1 (nums.length+texts.length)++nums.flatMap (ZaK (kind-4))) from by
  have h1:=KO.out
  rwa [List.take_of_length_le (by rw [HL1.out];exact Nat.le_refl _)] at h1)
 have HLn1:=qH (ZbG (kind-4) nums)
 clear KO HLn
 go_wp2
 clear e3
 go_loopw [3,5] (fun y i wx=>∃ j:Nat,j<=n2/\i=.int .i64 j/\Hid (OwnB wx w.heap.size y (beb 1 kind.toNat++beb 1 (nums.length+texts.length)++nums.flatMap (ZaK (kind-4))++(texts.take j).flatMap ZaL)) /\
  Blk wx w.heap.size 46 #[.int .i64 kind,.int .i64 num,.string text,.slice A1 k c1,.slice A2 n2 c2]/\Hid (Same w wx)) (fun _ i _=>n2-(intOf i).toNat)
 case atStart=>exact ⟨0,Nat.zero_le _,rfl,qH (by simpa using KO1.out),kb,KS⟩
 obtain ⟨j,hj,rfl,JO,jb,JS⟩:=hrel
 clear kb KS KO1 hszB
 have hszB:=jb.lt
 have e4:wr.cell? ⟨w.heap.size,4,none⟩=some (.slice A2 n2 c2):=jb.cell 4
 have HLt:=qH (ZbL (texts.take j) fun s hs=>HTS.out s (List.mem_of_mem_take hs))
 by_cases hlt:j<n2
 · have hrow:=HR.out.texts.same JS.out
   obtain ⟨b,o,u,rfl,hbl,_,hu,hc⟩:=hrow.at_ hlt
   have hkl:j<texts.length:=by rw [HL2.out];exact hlt
   simp only [List.getElem?_map,List.getElem?_eq_getElem hkl,Option.map_some,Option.some.injEq] at hu
   subst hu
   have HT:=qH (ZaV ZaL texts j hkl)
   have HSz:=qH (HTS.out texts[j] (List.getElem_mem hkl))
   clear hrow
   generalize texts[j]=x at *
   go_wp2_with fail
   refine (ZiH _ JO.out (by omega) _ (by have:=HSz.out;omega) (by
    rw [List.length_append,List.length_append,List.length_append,Zab,Zab]
    have h1:=HLt.out
    have h2:=HLn1.out
    rw [List.length_take] at h1
    rw [HL1.out] at h2
    omega)).mono ?_
   rintro e w5 ⟨v5,rfl,hg5⟩
   have HG5:=qH hg5
   clear hg5
   go_wp2
   go_roundw
   case rel =>
    refine ⟨j+1,by omega,by go_num,qH ?_,HG5.out.blk jb (jb.ne_own JO.out (by decide)),qH (ZhZ JO JS.out HG5.out).2⟩
    have h1:=HG5.out.own
    rw [List.append_assoc] at h1
    rw [HT.out]
    exact h1
   case measure=>simp [intOf];omega
 obtain rfl:j=n2:=by omega
 go_wp2
 go_ret
 refine ⟨_,rfl,?_,JS.out⟩
 have h1:=JO.out
 rw [List.take_of_length_le (by rw [HL2.out];exact Nat.le_refl _)] at h1
 rw [HF.out,HB6.out]
 simp only [List.append_assoc] at h1 ⊢
 exact h1
end Go.Proofs.YtkopcinhbjimiaaGreatDoor
namespace Go.Proofs.YtkopcinhbjimiaaGreatDoor
def step (K kk:Int) (l:List UInt8) (g:GVal):Except Int (GVal×List UInt8) :=
 if kk<4 then match pNum kk l with
  | .error e=>.error e
  | .ok (n,r)=>.ok (if 4<K then { g with nums:=g.nums++[n] } else { g with num:=n },r)
 else match ZbW l with
  | .error e=>.error e
  | .ok (s,r)=>.ok (if 4<K then { g with texts:=g.texts++[s] } else { g with text:=s },r)
def run (K kk:Int):Nat->List UInt8->GVal->Except Int (GVal×List UInt8)
 | 0,l,g=>.ok (g,l)
 | m+1,l,g=>match step K kk l g with
   | .error e=>.error e
   | .ok (g',r)=>run K kk m r g'
def g0 (N:Int):GVal:=⟨N,0,⟨#[]⟩,[],[]⟩
end Go.Proofs.YtkopcinhbjimiaaGreatDoor
