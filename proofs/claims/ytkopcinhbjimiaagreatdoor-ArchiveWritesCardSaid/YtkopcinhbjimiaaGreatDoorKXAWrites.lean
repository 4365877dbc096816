/- The claim: its walk and what it needs beyond the texts below. -/
import Derived.Deep.QuietTactic
import Derived.BigQuiet
import Derived.Deep.DeepCutAuto
import Derived.Deep.CutRange
import Derived.Laws.IdiomStrings
import Derived.Lib.SlBytesConst
import Derived.Test.YtkopcinhbjimiaaGreatDoorTie
import Derived.Test.YtkopcinhbjimiaaGreatDoorCards
import Derived.SevenTiedAt
import Derived.Test.YtkopcinhbjimiaaGreatDoorK01
import Derived.Test.YtkopcinhbjimiaaGreatDoorK02
import Derived.Test.YtkopcinhbjimiaaGreatDoorK03
import Derived.Test.YtkopcinhbjimiaaGreatDoorK04
import Derived.Test.YtkopcinhbjimiaaGreatDoorK05
import Derived.Test.YtkopcinhbjimiaaGreatDoorK06
import Derived.Test.YtkopcinhbjimiaaGreatDoorK07
import Derived.Test.YtkopcinhbjimiaaGreatDoorK08
import Derived.Test.YtkopcinhbjimiaaGreatDoorK09
import Derived.Test.YtkopcinhbjimiaaGreatDoorK10
import Derived.Test.YtkopcinhbjimiaaGreatDoorK11
import Derived.Test.YtkopcinhbjimiaaGreatDoorK12
import Derived.Test.YtkopcinhbjimiaaGreatDoorK13
import Derived.Test.YtkopcinhbjimiaaGreatDoorK14
import Derived.Test.YtkopcinhbjimiaaGreatDoorK15
import Derived.Test.YtkopcinhbjimiaaGreatDoorK16
import Derived.Test.YtkopcinhbjimiaaGreatDoorK17
import Derived.Test.YtkopcinhbjimiaaGreatDoorK18
import Derived.Test.YtkopcinhbjimiaaGreatDoorK19
import Derived.Test.YtkopcinhbjimiaaGreatDoorK20
import Derived.Test.YtkopcinhbjimiaaGreatDoorK21
import Derived.Test.YtkopcinhbjimiaaGreatDoorK22
import Derived.Test.YtkopcinhbjimiaaGreatDoorK23
import Derived.Test.YtkopcinhbjimiaaGreatDoorK24
import Derived.Test.YtkopcinhbjimiaaGreatDoorK25
import Derived.Test.YtkopcinhbjimiaaGreatDoorK26
import Derived.Test.YtkopcinhbjimiaaGreatDoorK27
import Derived.Test.YtkopcinhbjimiaaGreatDoorK28
import Derived.Test.YtkopcinhbjimiaaGreatDoorK29
import Derived.Test.YtkopcinhbjimiaaGreatDoorK30
import Derived.Test.YtkopcinhbjimiaaGreatDoorK31
import Derived.Test.YtkopcinhbjimiaaGreatDoorK32
import Derived.Test.YtkopcinhbjimiaaGreatDoorK33
import Derived.Test.YtkopcinhbjimiaaGreatDoorK34
import Derived.Test.YtkopcinhbjimiaaGreatDoorK35
import Derived.Test.YtkopcinhbjimiaaGreatDoorK36
import Derived.Test.YtkopcinhbjimiaaGreatDoorK37
import Derived.Test.YtkopcinhbjimiaaGreatDoorK38
import Derived.Test.YtkopcinhbjimiaaGreatDoorK39
import Derived.Test.YtkopcinhbjimiaaGreatDoorK40
import Derived.Test.YtkopcinhbjimiaaGreatDoorK41
set_option maxRecDepth 100000
set_option maxHeartbeats 16000000
namespace Go.Proofs.YtkopcinhbjimiaaGreatDoor
open Go.RowKit
instance byteArray_dec:DecidableEq ByteArray:=fun a b=>decidable_of_iff _ (str_eq_iff a b)
end Go.Proofs.YtkopcinhbjimiaaGreatDoor
namespace Go.Proofs.YtkopcinhbjimiaaGreatDoor
def turnB (v:BitVec 32):BitVec 32:=v.reverse
theorem turn_get (v:BitVec 32) (i:Nat) (h:i<32):(turnB v).getLsbD i=v.getLsbD (31-i):=by
 unfold turnB
 rw [BitVec.getLsbD_reverse,BitVec.getMsbD_eq_getLsbD]
 simp [h]
theorem turn_turn (v:BitVec 32):turnB (turnB v)=v:=by
 refine BitVec.eq_of_getLsbD_eq fun i hi=>?_
 rw [turn_get _ _ hi,turn_get _ _ (by omega),show 31-(31-i)=i by omega]
theorem turn_xor (a b:BitVec 32):turnB (a ^^^ b)=turnB a ^^^ turnB b:=by
 refine BitVec.eq_of_getLsbD_eq fun i hi=>?_
 rw [turn_get _ _ hi,BitVec.getLsbD_xor,BitVec.getLsbD_xor,turn_get _ _ hi,turn_get _ _ hi]
theorem turn_shl (r:BitVec 32):turnB (r <<< 1)=turnB r >>> 1:=by
 refine BitVec.eq_of_getLsbD_eq fun i hi=>?_
 rw [turn_get _ _ hi,BitVec.getLsbD_ushiftRight,BitVec.getLsbD_shiftLeft]
 by_cases h:i=31
 · subst h
   rw [BitVec.getLsbD_of_ge (turnB r) (1+31) (by omega)]
   simp
 rw [turn_get r (1+i) (by omega),show 31-(1+i)=31-i-1 by omega]
 rw [decide_eq_true (show 31-i<32 by omega),decide_eq_false (show ¬ 31-i<1 by omega)]
 rfl
theorem turn_D:turnB crcD=crcPoly:=by decide +kernel
theorem turn_zero:turnB 0#32=0#32:=by decide +kernel
theorem turn_dst (r:BitVec 32) (bit:Bool):turnB (dst r bit)=(turnB r >>> 1) ^^^ (if (turnB r).getLsbD 0 != bit then crcPoly else 0#32):=by
 unfold dst
 rw [turn_xor,turn_shl,turn_get _ 0 (by omega)]
 cases h:(r.getLsbD 31 != bit)
 · simp [turn_zero]
 simp [turn_D]
def dbits (r:BitVec 32) (x:UInt8) (n:Nat):Nat->BitVec 32
 | 0=>r
 | k+1=>dst (dbits r x n k) (x.toBitVec.getLsbD k)
theorem dbits_turn (r:BitVec 32) (x:UInt8) (n:Nat):∀ k,k<=8->turnB (dbits r x n k) ^^^ ((x.toBitVec.setWidth 32) >>> k)=bstN k (turnB r ^^^ x.toBitVec.setWidth 32)
 | 0,_=>by simp [dbits,bstN]
 | k+1,hk=>by
   have ih:=dbits_turn r x n k (by omega)
   simp only [dbits,bstN]
   rw [<- ih,turn_dst,bst_xor]
   generalize turnB (dbits r x n k)=c
   have h0:((x.toBitVec.setWidth 32) >>> k).getLsbD 0=x.toBitVec.getLsbD k:=by
    rw [BitVec.getLsbD_ushiftRight,BitVec.getLsbD_setWidth]
    simp [show k<32 by omega]
   unfold bst
   rw [h0,BitVec.shiftRight_add]
   generalize (x.toBitVec.setWidth 32) >>> k=y
   cases c.getLsbD 0 <;> cases x.toBitVec.getLsbD k <;> simp
   · rw [BitVec.xor_assoc,BitVec.xor_comm crcPoly]
   rw [BitVec.xor_comm (y >>> 1) crcPoly,BitVec.xor_assoc (c >>> 1) crcPoly,<-BitVec.xor_assoc crcPoly crcPoly,BitVec.xor_self,BitVec.zero_xor]
theorem dbits_byte (r:BitVec 32) (x:UInt8):turnB (dbits r x 0 8)=crcB (turnB r) x:=by
 have h:=dbits_turn r x 0 8 (Nat.le_refl _)
 have hz:(x.toBitVec.setWidth 32) >>> 8=0#32:=by
  refine BitVec.eq_of_getLsbD_eq fun i hi=>?_
  rw [BitVec.getLsbD_ushiftRight,BitVec.getLsbD_setWidth,BitVec.getLsbD_of_ge x.toBitVec (8+i) (by omega)]
  simp
 rw [hz,BitVec.xor_zero] at h
 rw [h]
 rfl
end Go.Proofs.YtkopcinhbjimiaaGreatDoor
namespace Go.Proofs.YtkopcinhbjimiaaGreatDoor
open Go.RowKit
def trnX (v:BitVec 32):Nat->BitVec 32
 | 0=>0#32
 | k+1=>(trnX v k <<< 1) ||| ((v >>> k) &&& 1#32)
theorem trnX_get (v:BitVec 32):∀ (k j:Nat),k<=32->j<32->(trnX v k).getLsbD j=(decide (j<k) && v.getLsbD (k-1-j))
 | 0,j,_,hj=>by simp [trnX]
 | k+1,j,hk,hj=>by
   unfold trnX
   rw [BitVec.getLsbD_or,BitVec.getLsbD_shiftLeft,BitVec.getLsbD_and,BitVec.getLsbD_ushiftRight]
   by_cases h0:j=0
   · subst h0
     have e:(1#32).getLsbD 0=true:=by decide
     rw [e]
     simp
   have e:(1#32).getLsbD j=false:=by
    rw [BitVec.getLsbD_ofNat]
    have:Nat.testBit 1 j=false:=Nat.testBit_lt_two_pow (Nat.lt_of_lt_of_le (by decide:1<2 ^ 1) (Nat.pow_le_pow_right (by omega) (by omega)))
    rw [this];simp
   rw [e,trnX_get v k (j-1) (by omega) (by omega)]
   by_cases hjk:j<k+1
   · rw [decide_eq_true hjk,decide_eq_true (show j-1<k by omega),decide_eq_true hj,decide_eq_false (show ¬ j<1 by omega),show k+1-1-j=k-1-(j-1) by omega]
     simp
   rw [decide_eq_false hjk,decide_eq_false (show ¬ j-1<k by omega)]
   simp
theorem trnX_all (v:BitVec 32):trnX v 32=turnB v:=by
 refine BitVec.eq_of_getLsbD_eq fun i hi=>?_
 rw [trnX_get v 32 i (by omega) hi,turn_get v i hi,decide_eq_true hi]
 rfl
theorem u32_shl1 (a:BitVec 32):((a.toNat:Int)*2) % 4294967296=((a <<< 1).toNat:Int):=by
 rw [BitVec.toNat_shiftLeft,Nat.shiftLeft_eq]
 omega
theorem u32_or (a b:BitVec 32):bits .or .u32 (a.toNat:Int) (b.toNat:Int)=((a ||| b).toNat:Int):=by
 show IntKind.u32.wrap ((BitVec.ofInt 32 (a.toNat:Int) ||| BitVec.ofInt 32 (b.toNat:Int)).toNat:Int)=_
 rw [u32_bv,u32_bv,u32_wrap]
theorem u32_shr1 (a:BitVec 32):(a.toNat:Int) / 2=((a >>> 1).toNat:Int):=by
 rw [BitVec.toNat_ushiftRight,Nat.shiftRight_eq_div_pow]
 rfl
theorem turned_spec (w:World) (v:BitVec 32):Calls Tryz.prog 158 #[.int .u32 (v.toNat:Int)] w fun e w'=>e=.returned (.int .u32 ((turnB v).toNat:Int))/\w=w':=by
 have HT:=qH (trnX_all v)
 generalize turnB v=tv at HT ⊢
 go_enter Tryz.func158,Tryz.ntmps158
 go_wp2_with fail
 go_loop [0,3,4] (fun s0 s3 s4=>∃ (k:Nat) (a x:BitVec 32),k<=32/\s4=.int .i64 k/\s0=.int .u32 (a.toNat:Int)/\s3=.int .u32 (x.toNat:Int)/\Hid (a=v >>> k/\x=trnX v k)) (fun _ _ i=>32-(intOf i).toNat)
 case atStart=>exact ⟨0,v,0#32,by omega,rfl,rfl,rfl,qH ⟨by simp,rfl⟩⟩
 obtain ⟨k,a,x,hk,rfl,rfl,rfl,HK⟩:=hrel
 by_cases hlt:k<32
 · obtain ⟨a',ha'⟩:∃ a',a >>> 1=a':=⟨_,rfl⟩
   obtain ⟨a1,ha1⟩:∃ a1,a &&& 1#32=a1:=⟨_,rfl⟩
   obtain ⟨x1,hx1⟩:∃ x1,x <<< 1=x1:=⟨_,rfl⟩
   obtain ⟨x',hx'⟩:∃ x',x1 ||| a1=x':=⟨_,rfl⟩
   have e1:(a.toNat:Int) / (2:Int)=(a'.toNat:Int):=by rw [<- ha'];exact u32_shr1 a
   have e2:((x.toNat:Int)*(2:Int)) % (4294967296:Int)=(x1.toNat:Int):=by rw [<- hx1];exact u32_shl1 x
   have e3:bits BinOp.and IntKind.u32 (a.toNat:Int) 1=(a1.toNat:Int):=by rw [<- ha1];exact u32_and a 1#32
   have e4:bits BinOp.or IntKind.u32 (x1.toNat:Int) (a1.toNat:Int)=(x'.toNat:Int):=by rw [<- hx'];exact u32_or x1 a1
   have HK1:Hid (a'=v >>> (k+1)/\x'=trnX v (k+1)):=qH (by
    obtain ⟨h1,h2⟩:=HK.out
    exact ⟨by rw [<- ha',h1,BitVec.shiftRight_add],by rw [<- hx',<-hx1,<-ha1,h1,h2];rfl⟩)
   clear ha' ha1 hx1 hx'
   go_wp2
   go_round
   case rel=>exact ⟨k+1,a',x',by omega,by go_num,rfl,rfl,HK1⟩
   case measure=>simp [intOf];omega
 obtain rfl:k=32:=by omega
 go_wp2
 go_ret
 exact ⟨by rw [HK.out.2,HT.out];rfl,rfl⟩
theorem u8_bit (x:UInt8) (k:Nat):bits BinOp.and IntKind.u32 (((x.toNat >>> k:Nat):Int) % 4294967296) 1=if x.toBitVec.getLsbD k then 1 else 0:=by
 have hx:=x.toNat_lt
 have h1:x.toNat >>> k<256:=Nat.lt_of_le_of_lt (by rw [Nat.shiftRight_eq_div_pow];exact Nat.div_le_self _ _) hx
 have e:(((x.toNat >>> k:Nat):Int) % 4294967296)=(((BitVec.ofNat 32 (x.toNat >>> k)).toNat:Nat):Int):=by
  rw [BitVec.toNat_ofNat]
  omega
 rw [e,show (1:Int)=((1#32).toNat:Int) from rfl,u32_and]
 have h2:(BitVec.ofNat 32 (x.toNat >>> k) &&& 1#32)=if x.toBitVec.getLsbD k then 1#32 else 0#32:=by
  refine BitVec.eq_of_getLsbD_eq fun i hi=>?_
  rw [BitVec.getLsbD_and,BitVec.getLsbD_ofNat]
  have ht:x.toBitVec.getLsbD k=x.toNat.testBit k:=rfl
  rw [ht]
  by_cases h0:i=0
  · subst h0
    rw [Nat.testBit_shiftRight]
    cases x.toNat.testBit k <;> simp
  have e:(1#32).getLsbD i=false:=by
   rw [BitVec.getLsbD_ofNat]
   have:Nat.testBit 1 i=false:=Nat.testBit_lt_two_pow (Nat.lt_of_lt_of_le (by decide:1<2 ^ 1) (Nat.pow_le_pow_right (by omega) (by omega)))
   rw [this];simp
  rw [e]
  cases x.toNat.testBit k <;> simp [e]
 rw [h2]
 cases x.toBitVec.getLsbD k <;> rfl
theorem u8_bit' (x:UInt8) (k:Nat):bits BinOp.and IntKind.u32 ((x.toNat:Int) / (2:Int) ^ k % (4294967296:Int)) 1=if x.toBitVec.getLsbD k then 1 else 0:=by
 have h:=u8_bit x k
 have e:((x.toNat >>> k:Nat):Int)=(x.toNat:Int) / (2:Int) ^ k:=by
  rw [Nat.shiftRight_eq_div_pow,Int.natCast_ediv,Int.natCast_pow]
  rfl
 rw [e] at h
 exact h
theorem u32_top (r:BitVec 32):(r.toNat:Int) / 2147483648=if r.getLsbD 31 then 1 else 0:=by
 have h:r.getLsbD 31=decide (2147483648<=r.toNat):=by
  have:=BitVec.msb_eq_decide r
  rw [BitVec.msb_eq_getLsbD_last] at this
  exact this
 rw [h]
 have hr:=r.isLt
 by_cases h2:2147483648<=r.toNat
 · rw [decide_eq_true h2]
   simp only [if_true]
   omega
 rw [decide_eq_false h2]
 simp only [Bool.false_eq_true,if_false]
 omega
theorem rcrcUpdate_spec {F:Nat->Prop} {A:Option Addr} {n c:Nat} {bs:List UInt8} (w:World) (hb:Bytes w F A n c bs) (r:BitVec 32) (hr : ~~~ crcU (~~~ 0#32) bs=r) :
 Calls Tryz.prog 122 #[.int .u32 0,.slice A n c] w fun e w'=>e=.returned (.int .u32 (r.toNat:Int))/\w=w':=by
 have HR:=qH hr
 have HL:=qH hb.len
 have HB:=qH hb
 have hnm:n<=9223372036854775807:=by have:=Row.max hb;have:=Row.le hb;unfold maxLen at *;omega
 clear hb hr
 obtain ⟨f,hf⟩:∃ f:BitVec 32,f = ~~~ 0#32:=⟨_,rfl⟩
 have e1:bits BinOp.xor IntKind.u32 0 4294967295=(f.toNat:Int):=by rw [hf];exact u32_xor 0#32 (~~~ 0#32)
 have HF:=qH hf
 clear hf
 obtain ⟨t0,ht0⟩:∃ t0,turnB f=t0:=⟨_,rfl⟩
 have HT0:=qH ht0
 go_enter Tryz.func122,Tryz.ntmps122
 go_wp2_with fail
 refine (turned_spec w f).mono ?_
 rintro e w' ⟨rfl,rfl⟩
 rw [ht0]
 clear ht0 e1
 go_wp2_with fail
 go_loop [5,6] (fun s5 s6=>∃ (k:Nat) (q:BitVec 32),k<=n/\s6=.int .i64 k/\s5=.int .u32 (q.toNat:Int)/\Hid (turnB q=crcU f (bs.take k))) (fun _ i=>n-(intOf i).toNat)
 case atStart=>exact ⟨0,t0,Nat.zero_le _,rfl,rfl,qH (by rw [<- HT0.out,turn_turn];rfl)⟩
 obtain ⟨k,q,hk,rfl,rfl,HQ⟩:=hrel
 by_cases hlt:k<n
 · obtain ⟨b,o,rfl,hbl,_,hc⟩:=HB.out.at_ hlt
   have hkl:k<bs.length:=by rw [HL.out];exact hlt
   obtain ⟨x,hx⟩:∃ x,bs[k]=x:=⟨_,rfl⟩
   rw [hx] at hc
   have HX:=qH hx
   clear hx
   have hk1:(0:Int)<=(k:Int):=by omega
   have hk2:(k:Int)<(n:Int):=by omega
   go_wp2_with fail
   go_loop [5,7] (fun s5 s7=>∃ (j:Nat) (p:BitVec 32),j<=8/\s7=.int .i64 j/\s5=.int .u32 (p.toNat:Int)/\Hid (p=dbits q x 0 j)) (fun _ i=>8-(intOf i).toNat)
   case atStart=>exact ⟨0,q,Nat.zero_le _,rfl,rfl,qH rfl⟩
   obtain ⟨j,p,hj,rfl,rfl,HP⟩:=hrel
   by_cases hj8:j<8
   · obtain ⟨p1,hp1⟩:∃ p1,p <<< 1=p1:=⟨_,rfl⟩
     obtain ⟨p2,hp2⟩:∃ p2,p1 ^^^ crcD=p2:=⟨_,rfl⟩
     obtain ⟨tp,htp⟩:∃ tp,p.getLsbD 31=tp:=⟨_,rfl⟩
     obtain ⟨bt,hbt⟩:∃ bt,x.toBitVec.getLsbD j=bt:=⟨_,rfl⟩
     have e5:=u8_bit' x j
     have e6:=u32_top p
     rw [hbt] at e5
     rw [htp] at e6
     have e7:((p.toNat:Int)*(2:Int)) % (4294967296:Int)=(p1.toNat:Int):=by rw [<- hp1];exact u32_shl1 p
     have e8:bits BinOp.xor IntKind.u32 (p1.toNat:Int) 79764919=(p2.toNat:Int):=by rw [<- hp2];exact u32_xor p1 crcD
     have HS:Hid (dbits q x 0 (j+1)=p1 ^^^ (if tp != bt then crcD else 0#32)):=qH (by
      have h1:=HP.out
      simp only [dbits,dst]
      rw [<- h1,htp,hbt,hp1])
     have HP2:=qH hp2
     have e7':tp=false->(p.toNat:Int)*(2:Int)=(p1.toNat:Int):=fun h=>by rw [h] at e6;simp only [Bool.false_eq_true,if_false] at e6;omega
     clear hp1 hp2 htp hbt
     cases tp <;> cases bt
     · have e7:=e7
       have HS':Hid (p1=dbits q x 0 (j+1)):=qH (by rw [HS.out];simp)
       simp only [Bool.false_eq_true,if_false] at e5 e6
       clear HS
       have e7:=e7' rfl
       go_wp2
       go_round
       case rel=>exact ⟨j+1,p1,by omega,by go_num,by first | rfl | rw [e7],HS'⟩
       case measure=>simp [intOf];omega
     · have HS':Hid (p2=dbits q x 0 (j+1)):=qH (by rw [HS.out,<-HP2.out];simp)
       simp only [Bool.false_eq_true,if_false,if_true] at e5 e6
       clear HS
       have e7:=e7' rfl
       go_wp2
       go_round
       case rel=>exact ⟨j+1,p2,by omega,by go_num,by first | rfl | rw [e7],HS'⟩
       case measure=>simp [intOf];omega
     · have HS':Hid (p2=dbits q x 0 (j+1)):=qH (by rw [HS.out,<-HP2.out];simp)
       simp only [Bool.false_eq_true,if_false,if_true] at e5 e6
       clear HS e7'
       go_wp2
       go_round
       case rel=>exact ⟨j+1,p2,by omega,by go_num,by first | rfl | rw [e7],HS'⟩
       case measure=>simp [intOf];omega
     have e7:=e7
     have HS':Hid (p1=dbits q x 0 (j+1)):=qH (by rw [HS.out];simp)
     simp only [if_true] at e5 e6
     clear HS e7'
     go_wp2
     go_round
     case rel=>exact ⟨j+1,p1,by omega,by go_num,by first | rfl | rw [e7],HS'⟩
     case measure=>simp [intOf];omega
   obtain rfl:j=8:=by omega
   have HQ1:Hid (turnB p=crcU f (bs.take (k+1))):=qH (by
    rw [HP.out,dbits_byte,HQ.out,take_snoc bs k hkl,crcU_app,HX.out]
    rfl)
   go_wp2
   go_round
   case rel=>exact ⟨k+1,p,by omega,by go_num,rfl,HQ1⟩
   case measure=>simp [intOf];omega
 obtain rfl:k=n:=by omega
 have h1:=HQ.out
 rw [List.take_of_length_le (by rw [HL.out];omega)] at h1
 have h2:=HR.out
 rw [<- HF.out,<-h1] at h2
 obtain ⟨tq,htq⟩:∃ tq,turnB q=tq:=⟨_,rfl⟩
 have HTQ:=qH htq
 rw [htq] at h2
 have e9:bits BinOp.xor IntKind.u32 (tq.toNat:Int) 4294967295=(r.toNat:Int):=by
  rw [<- h2]
  have h3:=u32_xor tq (~~~ 0#32)
  have h4:tq ^^^ ~~~ 0#32 = ~~~ tq:=by rw [BitVec.xor_comm];rfl
  rw [h4] at h3
  exact h3
 clear h1 h2 htq
 go_wp2_with fail
 refine (turned_spec w q).mono ?_
 rintro e w' ⟨rfl,rfl⟩
 rw [HTQ.out]
 go_wp2
 go_ret
 exact ⟨rfl,rfl⟩
theorem rcrcSum_spec {F:Nat->Prop} {A:Option Addr} {n c:Nat} {bs:List UInt8} (w:World) (hb:Bytes w F A n c bs) :
 Calls Tryz.prog 86 #[.slice A n c] w fun e w'=>e=.returned (.int .u32 ((crcS bs).toNat:Int))/\w=w':=by
 go_enter Tryz.func86,Tryz.ntmps86
 go_wp2_with fail
 refine (rcrcUpdate_spec w hb (crcS bs) rfl).mono ?_
 rintro e w' ⟨rfl,rfl⟩
 go_wp2
 go_ret
 exact ⟨rfl,rfl⟩
theorem room_short (A:Option Addr) (n c at_ width:Nat) (w:World) (hw:isWidthB width=true) (h:n<at_+width) (hn:n<=9223372036854775807) (ha:at_<=9223372036854775807) :
 Calls Tryz.prog 185 #[.slice A n c,.int .i64 at_,.int .i64 width] w fun e w'=>e=.returned (.int .i64 10)/\w=w':=by
 have hw8:width<=8:=by
  simp only [isWidthB,Bool.or_eq_true,beq_iff_eq] at hw
  omega
 have HW:=qH hw
 clear hw
 go_enter Tryz.func185,Tryz.ntmps185
 go_wp2_with fail
 refine (isWidth_spec _ _).mono ?_
 rintro e w' ⟨rfl,rfl⟩
 rw [HW.out]
 go_wp2
 go_ret
 exact ⟨rfl,rfl⟩
theorem put20_spec {B:Nat} {v:Value} {bs more:List UInt8} {F:Nat->Prop} {A:Option Addr} {m c:Nat} (w:World) (hv:OwnB w B v bs) (hB:B<=w.heap.size) (hm:Bytes w F A m c more) (hF:∀ b,F b->v.ownBlock≠some b) (hl:bs.length+m<=140737488355328) :
 Calls Tryz.prog 32 #[v,.slice A m c] w fun e w'=>∃ v',e=.returned v'/\GrewB w B v (bs++more) v' w':=by
 have HV:=qH hv
 have HX:=qH hm
 have HM:=qH hm.len
 have HF:=qH hF
 have hmx:=Row.max hm
 have hle:=Row.le hm
 unfold maxLen at hmx
 clear hv hm hF
 go_enter Tryz.func32,Tryz.ntmps32
 go_wp2
 go_loopw [0,5] (fun y i wr=>∃ k:Nat,k<=m/\i=.int .i64 k/\Hid (Grew w B 5 1 v (bs.length+k) (bs.map u8v++(more.take k).map u8v) y wr)) (fun _ i _=>m-(intOf i).toNat)
 case atStart=>exact ⟨0,Nat.zero_le _,rfl,qH (Grew.refl (by simpa using HV.out))⟩
 obtain ⟨k,hk,rfl,KG⟩:=hrel
 by_cases hlt:k<m
 · obtain ⟨b,o,rfl,hbl,hbF,hc⟩:=Bytes.at_ (HX.out.upd KG.out.upd fun b hb hs=>HF.out b hb hs) hlt
   have hkl:k<more.length:=by rw [HM.out];exact hlt
   have HT:=qH (take_map_succ more k hkl)
   generalize more[k]=z at *
   go_wp2_with (at_builtin;go_must (refine wpList_app rfl (.tmp 12) (.tmp 17) _ _ rfl B _ _ _ _ Tryz.underlying28 info_u8 rfl u0 _ _ rfl (KG.out.own.alloc _) rfl (src_row Tryz.underlying28 (Row.one _ _ _) (by simp [Value.oneCell'])) (by unfold maxLen;omega) (by omega) (by have:=KG.out.size;simp;omega) ?_);intro v' w2 hg;have HG:=qH hg;clear hg)
   go_roundw
   case rel =>
    refine ⟨k+1,by omega,by go_num,qH ?_⟩
    have h1:=(KG.out.alloc _).trans HG.out
    rw [HT.out,<-List.append_assoc,<-Nat.add_assoc]
    exact h1
   case measure=>simp [intOf];omega
 obtain rfl:k=m:=by omega
 go_wp2
 go_ret
 refine ⟨_,rfl,?_⟩
 have h1:=KG.out
 rw [List.take_of_length_le (by rw [HM.out];exact Nat.le_refl _)] at h1
 unfold GrewB
 rw [List.length_append,HM.out,List.map_append]
 exact h1
theorem beb_one' (t:Nat) (h:t<=255):(beb 1 t).map u8v=[.int .u8 (t:Int)]:=by
 simp [beb,u8v]
 omega
theorem rnum_on (width n:Nat) (w0 w:World) (hs:Same w0 w) (hw:isWidthB width=true) (hn:n<18446744073709551616) :
 Calls Tryz.prog 83 #[.int .i64 width,.int .u64 n] w fun e w'=>∃ A c,e=.returned (.slice A (beb width n).length c)/\Hid (OwnB w' w.heap.size (.slice A (beb width n).length c) (beb width n))/\Same w w'/\Same w0 w' :=
 (rnum_spec width n w hw hn).mono fun _ _ ⟨v,h1,h2,h3⟩=>by
   obtain ⟨A,c,rfl⟩:=own_form h2
   exact ⟨A,c,h1,qH h2,h3,hs.same h3⟩
theorem rnum4_on (n:Nat) (w0 w:World) (hs:Same w0 w) (hn:n<18446744073709551616) :
 Calls Tryz.prog 83 #[.int .i64 4,.int .u64 (n:Int)] w fun e w'=>∃ A c,e=.returned (.slice A 4 c)/\Hid (OwnB w' w.heap.size (.slice A 4 c) (beb 4 n))/\Same w w'/\Same w0 w':=rnum_on 4 n w0 w hs (by decide) hn
theorem own_one {w:World} {B g:Nat} {x:Value} (h:Blk w g 5 #[x]) (hB:B<=g):w.ownsRow B 5 1 (.slice (some ⟨g,0,none⟩) 1 1) 1 [x]:=by
 refine ⟨rfl,.inr ⟨g,1,#[x],rfl,hB,h,Nat.le_refl _,by simp [maxLen],rfl,rfl⟩⟩
theorem keepF {w1 wx:World} {g:Nat} {t:TypeId} {a0 a1:Value} (h2:Hid (Blk w1 g t #[a0,a1])) (hs:Same w1 wx) :
 Same w1 wx/\wx.cell? ⟨g,0,none⟩=some a0/\wx.cell? ⟨g,1,none⟩=some a1 :=
 ⟨hs,(h2.out.same hs).cell 0,(h2.out.same hs).cell 1⟩
theorem rpackF_spec {F:Nat->Prop} {A:Option Addr} {n c:Nat} {bs:List UInt8} (w:World) (t:Nat) (ht:t<=255) (hb:Bytes w F A n c bs) (hn:n<=1048576) :
 Calls Tryz.prog 82 #[.agg #[.int .i64 (t:Int),.slice A n c]] w fun e w'=>∃ v,e=.returned (.tuple #[v,.int .i64 0])/\Hid (OwnB w' w.heap.size v (packP t bs))/\Same w w':=by
 have hs1:=(Upd.refl (fun _=>False) w).alloc (.cells #[.int .i64 (t:Int),.slice A n c] 84)
 have HB1:=qH (Blk.new w 84 #[.int .i64 (t:Int),.slice A n c])
 have HL:=qH hb.len
 have HY:=qH ((hb.mono (F':=fun b=>b<w.heap.size) fun b h _=>h).same hs1)
 have HS1:=qH hs1
 have HZ:=qH (show w.heap.size<(w.alloc (.cells #[.int .i64 (t:Int),.slice A n c] 84)).heap.size by rw [World.size_alloc];omega)
 have ht0:(0:Int)<=(t:Int):=by omega
 have ht1:(t:Int)<=255:=by omega
 have HBT:=qH (beb_one' t ht)
 clear hb hs1
 go_enter Tryz.func82,Tryz.ntmps82
 go_upto_region 5 with fail
 generalize w.alloc (.cells #[.int .i64 (t:Int),.slice A n c] 84)=w1 at *
 have h00:Same w1 w1.drew:=(Upd.refl _ w1).drew
 have hz0:=HZ.out
 have hwt:IntKind.u8.wrap (t:Int)=(t:Int):=by rw [IntKind.wrap_u8];omega
 have hwn:IntKind.u64.wrap (n:Int)=(n:Int):=by rw [IntKind.wrap_u64];omega
 go_cut [4] from 22 to 31 (fun s4 wx=>∃ (A':Option Addr) (c':Nat),s4=.slice A' 5 c'/\Hid (wx.ownsRow w1.heap.size 5 1 (.slice A' 5 c') 5 ((beb 1 t++beb 4 n).map u8v))/\Hid (Same w1 wx))
 case first =>
  go_region_held3 (fun wx=>Same w1 wx/\wx.cell? ⟨w.heap.size,0,none⟩=some (.int .i64 (t:Int))/\wx.cell? ⟨w.heap.size,1,none⟩=some (.slice A n c)) (exact keepF HB1 (by repeat first | assumption | exact Upd.refl _ _ | refine Upd.drew ?_ | refine Upd.alloc ?_ _)) (first
   | (go_at_call 83;with_reducible refine (rnum4_on n w1 _ (by repeat first | assumption | exact Upd.refl _ _ | refine Upd.drew ?_ | refine Upd.alloc ?_ _) (by omega)).mono ?_;rintro e w2 ⟨A2,c2,rfl,HO,hs2,hsa2⟩;have hz2:=hsa2.size;(try (have qb:Blk w2 w1.heap.size 5 _:=Blk.same (by first | exact Blk.new _ _ _ | exact (Blk.new _ _ _).drew) hs2)))
   | (have HO':=HO;refine step_app rfl (.tmp 25) (.tmp 30) _ _ rfl w1.heap.size 5 1 1 _ Tryz.underlying28 info_u8 rfl _ 1 [.int .u8 (t:Int)] rfl (by first | exact own_one qb (Nat.le_refl _) | exact own_one (Blk.new _ _ _) (by omega)) rfl (src_row Tryz.underlying28 (Row.same (own_bytes HO.out) (by first | exact Upd.refl _ _ | exact (Upd.refl _ _).alloc _)) (u8_oneCell _)) (by simp [maxLen]) (by omega) (by first | omega | (simp;done) | (simp;omega)) ?_;intro v9 w9 hg;obtain ⟨A9,c9,rfl⟩:=own_form hg.own;(have hsa9:Same w1 w9:=(show Same w1 _ from (by repeat first | assumption | refine Upd.drew ?_ | refine Upd.alloc ?_ _)).trans hg.upd fun b hb hv=>by have:=Option.some.inj hv;simp only at this;omega);have HG9:=qH hg.own;clear hg))
  all_goals
   go_wp2
   go_meet
   exact ⟨A9,c9,rfl,qH (by rw [List.map_append,HBT.out];exact HG9.out),qH hsa9⟩
 obtain ⟨A',c',rfl,KO,KS⟩:=hcut
 obtain ⟨w2,rfl⟩:∃ w2:World,w2=wc:=⟨_,rfl⟩
 have HY2:=qH (HY.out.same KS.out)
 have HB2:=qH (HB1.out.same KS.out)
 have hz2:=KS.out.size
 clear hwn hwt h00
 have HP0:=qH (show (beb 1 t++beb 4 n).length=5 by simp [beb_len])
 go_wp2_with fail
 go_loopw [4,5] (fun y i wr=>∃ k:Nat,k<=n/\i=.int .i64 k/\Hid (Grew w2 w1.heap.size 5 1 (.slice A' 5 c') (5+k) ((beb 1 t++beb 4 n).map u8v++(bs.take k).map u8v) y wr)) (fun _ i _=>n-(intOf i).toNat)
 case atStart=>exact ⟨0,Nat.zero_le _,rfl,qH (Grew.refl (by simpa using KO.out))⟩
 obtain ⟨k,hk,rfl,KG⟩:=hrel
 have hzr:=KG.out.size
 have HBr:=qH (HB2.out.upd KG.out.upd fun hs=>by have:=(KO.out.lt _ hs).1;omega)
 have p1:wr.cell? ⟨w.heap.size,1,none⟩=some (.slice A n c):=HBr.out.cell 1
 by_cases hlt:k<n
 · obtain ⟨b,o,rfl,hbl,hbF,hc⟩:=Bytes.at_ (HY2.out.upd KG.out.upd fun b hb hs=>by have:=(KO.out.lt b hs).1;omega) hlt
   have hkl:k<bs.length:=by rw [HL.out];exact hlt
   have HT:=qH (take_map_succ bs k hkl)
   generalize bs[k]=z at *
   go_wp2_with (at_builtin;go_must (refine wpList_app rfl (.tmp 39) (.tmp 45) _ _ rfl w1.heap.size _ _ _ _ Tryz.underlying28 info_u8 rfl u4 _ _ rfl (KG.out.own.alloc _) rfl (src_row Tryz.underlying28 (Row.one _ _ _) (by simp [Value.oneCell'])) (by unfold maxLen;omega) (by omega) (by have:=KG.out.size;simp;omega) ?_);intro v' w3 hg;have HG:=qH hg;clear hg)
   go_roundw
   case rel =>
    refine ⟨k+1,by omega,by go_num,qH ?_⟩
    have h1:=(KG.out.alloc _).trans HG.out
    rw [HT.out,<-List.append_assoc,<-Nat.add_assoc]
    exact h1
   case measure=>simp [intOf];omega
 obtain rfl:k=n:=by omega
 obtain ⟨S,hS⟩:∃ S,crcS (packH t bs)=S:=⟨_,rfl⟩
 have HS:=qH hS
 have hS32:=S.isLt
 have HPK:=qH (show packH t bs=(beb 1 t++beb 4 k)++bs by unfold packH;rw [HL.out,List.append_assoc])
 have KG2:Hid (Grew w2 w1.heap.size 5 1 (.slice A' 5 c') (5+k) ((packH t bs).map u8v) u4 wr):=qH (by
  have h1:=KG.out
  rw [List.take_of_length_le (by rw [HL.out];exact Nat.le_refl _),<-List.map_append,<-HPK.out] at h1
  exact h1)
 have HPL:=qH (show (packH t bs).length=5+k by rw [HPK.out,List.length_append,HP0.out,HL.out])
 obtain ⟨A3,c3,rfl⟩:=own_form KG2.out.own
 have HO3:Hid (OwnB wr w1.heap.size (.slice A3 (5+k) c3) (packH t bs)):=qH (by unfold OwnB;rw [HPL.out];exact KG2.out.own)
 have HU3:=qH (KS.out.trans KG2.out.upd fun b hb hs=>by have:=(KO.out.lt b hs).1;omega)
 clear hS KG HY2 hlt hk HBr HPK
 go_wp2_with fail
 refine (rcrcSum_spec wr (own_bytes_n HPL.out HO3.out)).mono ?_
 rintro e w' ⟨rfl,rfl⟩
 rw [HS.out]
 have hwS:IntKind.u64.wrap (S.toNat:Int)=(S.toNat:Int):=by rw [IntKind.wrap_u64];omega
 go_wp2_with fail
 refine (rnum4_on S.toNat wr _ (Upd.refl _ _) (by omega)).mono ?_
 rintro e w4 ⟨A4,c4,rfl,HO4,hs4,_⟩
 have HO3':=qH (own_same HO3.out hs4)
 have HU4:=qH (HU3.out.same hs4)
 have HY4:=qH ((own_bytes_n (beb_len 4 _) HO4.out).mono (F':=fun b=>wr.heap.size<=b) fun b _ hb=>hb.2)
 have hle4:=Row.le HY4.out
 have hmx4:=Row.max HY4.out
 have hz4:=hs4.size
 have hsl:=fun b (hb:(Value.slice A3 (5+k) c3).ownBlock=some b)=>HO3.out.lt b hb
 have HSL:=qH hsl
 unfold maxLen at hmx4
 clear hs4 HO4 p1 hwS hsl
 obtain ⟨w5,rfl⟩:∃ w5:World,w5=w4:=⟨_,rfl⟩
 go_wp2_with fail
 go_loopw [4,7] (fun y i wr=>∃ j:Nat,j<=4/\i=.int .i64 j/\Hid (Grew w5 w1.heap.size 5 1 (.slice A3 (5+k) c3) (5+k+j) ((packH t bs).map u8v++((beb 4 S.toNat).take j).map u8v) y wr)) (fun _ i _=>4-(intOf i).toNat)
 case atStart=>exact ⟨0,Nat.zero_le _,rfl,qH (Grew.refl (by have h1:=HO3'.out;unfold OwnB at h1;rw [HPL.out] at h1;simpa using h1))⟩
 obtain ⟨j,hj,rfl,KG⟩:=hrel
 by_cases hlt:j<4
 · obtain ⟨b,o,rfl,hbl,hbF,hc⟩:=Bytes.at_ (HY4.out.upd KG.out.upd fun b hb hs=>by have:=(HSL.out b hs).2;omega) hlt
   have hkl:j<(beb 4 S.toNat).length:=by rw [beb_len];exact hlt
   have HT:=qH (take_map_succ (beb 4 S.toNat) j hkl)
   generalize (beb 4 S.toNat)[j]=z at *
   go_wp2_with (at_builtin;go_must (refine wpList_app rfl (.tmp 55) (.tmp 60) _ _ rfl w1.heap.size _ _ _ _ Tryz.underlying28 info_u8 rfl u4 _ _ rfl (KG.out.own.alloc _) rfl (src_row Tryz.underlying28 (Row.one _ _ _) (by simp [Value.oneCell'])) (by unfold maxLen;omega) (by omega) (by have:=KG.out.size;simp;omega) ?_);intro v' w3 hg;have HG:=qH hg;clear hg)
   go_roundw
   case rel =>
    refine ⟨j+1,by omega,by go_num,qH ?_⟩
    have h1:=(KG.out.alloc _).trans HG.out
    rw [HT.out,<-List.append_assoc,<-Nat.add_assoc]
    exact h1
   case measure=>simp [intOf];omega
 obtain rfl:j=4:=by omega
 go_wp2
 go_ret2
 refine ⟨_,rfl,qH ?_,?_⟩
 · have h1:=KG.out.own
   rw [List.take_of_length_le (by rw [beb_len];exact Nat.le_refl _),<-List.map_append] at h1
   have hpk:packP t bs=packH t bs++beb 4 S.toNat:=by unfold packP;rw [HS.out]
   unfold OwnB
   rw [hpk,List.length_append,HPL.out,beb_len]
   exact own_base h1 (by omega)
 exact HS1.out.trans (HU4.out.trans KG.out.upd fun b hb hs=>by have:=(HO3.out.lt b hs).1;omega) fun b hb hh=>hh.elim
theorem BS_one (l:List BS):∀ u∈l.map BS.cell,u.oneCell'=true:=by
 intro u hu
 obtain ⟨x,_,rfl⟩:=List.mem_map.1 hu
 rfl
section
variable {w w':World} {B B':Nat} {v:Value} {l:List BS} {x:BS}
end
theorem conv_str (w:World) (s:ByteArray) (hs:s.size<=140737488355328):∃ c w',(convert 9 28 (.string s)).run Tryz.prog w=.ok (.slice (some ⟨w.heap.size,0,none⟩) s.size c) w'/\Bytes w' (fun b=>b=w.heap.size) (some ⟨w.heap.size,0,none⟩) s.size c s.data.toList/\Same w w':=by
 refine ⟨_,_,run_bytes_of_string w 9 28 5 s Tryz.underlying9 Tryz.underlying28 Tryz.underlying5,?_,((Upd.refl _ w).drew).alloc _⟩
 have hmx:=grownCap_le_maxLen w s.size 0 5 (by unfold maxLen;omega)
 have hge:=grownCap_ge w s.size 0 5
 generalize grownCap w s.size 0 5=c at *
 refine ⟨by rw [List.length_map,toList_size];omega,hge,hmx,(by rintro ⟨⟩),?_⟩
 rintro a ha
 injection ha with ha
 subst ha
 refine ⟨rfl,by simp,rfl,fun i u hu=>?_⟩
 rw [List.getElem?_map] at hu
 obtain ⟨x,hx,rfl⟩:=Option.map_eq_some_iff.1 hu
 have hi:i<s.data.size:=by
  have:=(List.getElem?_eq_some_iff.1 hx).1
  simpa using this
 have hb:(w.drew.alloc (.cells (bytesRow s c) 5 ((bytesRow s c).size,(bytesRow s c).size+1))).heap[w.heap.size]?=some (.cells (bytesRow s c) 5 ((bytesRow s c).size,(bytesRow s c).size+1)):=heap_alloc_new w.drew _
 rw [cell_of_row _ _ _ _ _ _ hb]
 unfold bytesRow
 simp only [Nat.zero_add]
 rw [Array.getElem?_append_left (by simpa using hi),Array.getElem?_map]
 rw [<- Array.getElem?_toList,hx]
 rfl
theorem rname_spec {B:Nat} {v:Value} {bs:List UInt8} (w:World) (hv:OwnB w B v bs) (hB:B<=w.heap.size) (s:ByteArray) (hs:s.size<=255) (hl:bs.length<=70368744177664) :
 Calls Tryz.prog 84 #[v,.string s] w fun e w'=>∃ v',e=.returned v'/\GrewB w B v (bs++encName s) v' w':=by
 have HV:=qH hv
 have HBT:=qH (beb_one' s.size hs)
 clear hv
 go_enter Tryz.func84,Tryz.ntmps84
 go_wp2_with (at_builtin;go_must (refine wpList_app rfl (.tmp 5) (.tmp 9) _ _ rfl B _ _ _ _ Tryz.underlying28 info_u8 rfl v _ _ rfl (HV.out.alloc _) rfl (src_row Tryz.underlying28 (Row.one _ _ _) (by simp [Value.oneCell'])) (by unfold maxLen;omega) (by omega) (by simp;omega) ?_);intro v' w1 hg;have HG:=qH hg;clear hg;obtain ⟨c2,w2,hcv,hby,hsm⟩:=conv_str w1 s (by omega);have HY:=qH hby;have HSM:=qH hsm;clear hby hsm)
 have HG1:Hid (GrewB w B v (bs++beb 1 s.size) v' w2):=qH (by
  unfold GrewB
  rw [List.length_append,beb_len,List.map_append,HBT.out]
  exact (((Grew.refl HV.out).alloc _).trans HG.out).ext HSM.out)
 have HLt:=qH fun b (hb:v'.ownBlock=some b)=>(HG.out.own.lt b hb).2
 have hz:=HG1.out.size
 clear HG
 refine (put20_spec w2 HG1.out.own (by omega) HY.out (fun b hb e=>by have:=HLt.out b e;omega) (by rw [List.length_append,beb_len];omega)).mono ?_
 rintro e w3 ⟨v3,rfl,hg3⟩
 have HG3:=qH hg3
 clear hg3
 go_wp2
 go_ret
 refine ⟨_,rfl,?_⟩
 have h1:=HG1.out.next HG3.out
 unfold encName
 rw [List.append_assoc] at h1
 exact h1
theorem rnum2_on (n:Nat) (w0 w:World) (hs:Same w0 w) (hn:n<18446744073709551616) :
 Calls Tryz.prog 83 #[.int .i64 2,.int .u64 (n:Int)] w fun e w'=>∃ A c,e=.returned (.slice A 2 c)/\Hid (OwnB w' w.heap.size (.slice A 2 c) (beb 2 n))/\Same w w'/\Same w0 w':=rnum_on 2 n w0 w hs (by decide) hn
theorem rprops_spec {F:Nat->Prop} {B:Nat} {v:Value} {bs:List UInt8} {A:Option Addr} {n c:Nat} {ps:List PR} (w:World) (hv:OwnB w B v bs) (hB:B<=w.heap.size) (hp:RdPs w F A n c ps) (hF:∀ b,F b->b<B) (hx:∀ x∈ps,x.dat.Wr) (hf:PsFit ps) (hn:n<=255) (hl:bs.length+(encPs (ps.map PR.dat)).length<=70368744177664) :
 Calls Tryz.prog 85 #[v,.slice A n c] w fun e w'=>∃ v',e=.returned v'/\GrewB w B v (bs++encPs (ps.map PR.dat)) v' w':=by
 have HR:=qH hp
 have HX:=qH hx
 have HFi:=qH hf
 have HF:=qH hF
 have HL:=qH hp.len
 have hmx:=hp.row.max
 have hle:=hp.row.le
 have hl':bs.length+1+((ps.map PR.dat).flatMap encPr).length<=70368744177664:=by
  have e:(encPs (ps.map PR.dat)).length=1+((ps.map PR.dat).flatMap encPr).length:=by unfold encPs;rw [List.length_append,beb_len]
  omega
 have HLen:=qH hl'
 have HV:=qH hv
 have HBT:=qH (beb_one' n hn)
 have hb0:bs.length<=70368744177664:=by omega
 unfold maxLen at hmx
 clear hv hp hx hf hF hl hl'
 go_enter Tryz.func85,Tryz.ntmps85
 go_wp2_with (at_builtin;go_must (refine wpList_app rfl (.tmp 7) (.tmp 11) _ _ rfl B _ _ _ _ Tryz.underlying28 info_u8 rfl v _ _ rfl (HV.out.alloc _) rfl (src_row Tryz.underlying28 (Row.one _ _ _) (by simp [Value.oneCell'])) (by unfold maxLen;omega) (by omega) (by simp;omega) ?_);intro v' w1 hg;have HG:=qH hg;clear hg)
 have HG1:Hid (GrewB w B v (bs++beb 1 n) v' w1):=qH (by
  unfold GrewB
  rw [List.length_append,beb_len,List.map_append,HBT.out]
  exact ((Grew.refl HV.out).alloc _).trans HG.out)
 clear HG
 go_loopg [5,0] n (fun gh ix y wr=>∃ i:Nat,n-i=gh/\i<=n/\ix=.int .i64 i/\Hid (GrewB w B v (bs++beb 1 n++((ps.take i).map PR.dat).flatMap encPr) y wr))
 case atStart=>exact ⟨0,rfl,Nat.zero_le _,rfl,qH (by simpa using HG1.out)⟩
 obtain ⟨i,rfl,hi,rfl,KG⟩:=hrel
 by_cases hlt:i<n
 · have HUr:=qH (KG.out.upd.mono (S':=fun b=>B<=b) fun b _ hb=>(HV.out.lt b hb).1)
   have HRw:=qH (HR.out.upd HUr.out fun b hb hs=>by have:=HF.out b hb;omega)
   obtain ⟨b,o,x,rfl,hb,hbF,hxi,hxm,r0,r1,r2,r3,r4,r5⟩:=HRw.out.at_ hlt
   have HV0:=qH (HRw.out.val x hxm)
   have HX1:=qH (HFi.out x hxm).1
   have HX2:=qH (HFi.out x hxm).2
   have HWr:=qH (HX.out x hxm)
   have HT:=qH (flat_take_succ PR.dat encPr hxi)
   have HTl:=qH (map_take_le PR.dat encPr ps (i+1))
   obtain ⟨kx,⟨x0,x1,x2,x3,x4⟩,X1,a1,b1,X2,a2,b2⟩:=x
   simp only at r0 r1 r2 r3 r4 r5
   have hks:kx.size<=255:=HWr.out.1
   have hEl:(enc ⟨x0,x1,x2,x3,x4⟩).length<=65535:=HWr.out.2.2.2
   have hsz:=HUr.out.size
   have hbB:b<B:=HF.out b hbF
   obtain ⟨pre,hpre⟩:∃ pre,pre=bs++beb 1 n++((ps.take i).map PR.dat).flatMap encPr:=⟨_,rfl⟩
   have hpl:pre.length+(encPr (PR.dat ⟨kx,⟨x0,x1,x2,x3,x4⟩,X1,a1,b1,X2,a2,b2⟩)).length<=70368744177664:=by
    have h1:=HTl.out
    have h2:=HLen.out
    rw [HT.out,List.length_append] at h1
    rw [hpre,List.length_append,List.length_append,beb_len]
    omega
   have HPL:Hid (pre.length+(1+kx.size+(2+(enc ⟨x0,x1,x2,x3,x4⟩).length))<=70368744177664):=qH (by
    have e:(encPr (PR.dat ⟨kx,⟨x0,x1,x2,x3,x4⟩,X1,a1,b1,X2,a2,b2⟩)).length=1+kx.size+(2+(enc ⟨x0,x1,x2,x3,x4⟩).length):=by
     unfold encPr PR.dat
     rw [List.length_append,List.length_append,encName_len,beb_len]
    omega)
   rw [<- hpre] at KG
   have HE:Hid (pre++encName kx++beb 2 (enc ⟨x0,x1,x2,x3,x4⟩).length++enc ⟨x0,x1,x2,x3,x4⟩=bs++beb 1 n++((ps.take (i+1)).map PR.dat).flatMap encPr):=qH (by
    rw [HT.out,hpre]
    unfold encPr PR.dat
    simp only [List.append_assoc])
   have HLv:=qH KG.out.own.lt
   clear hpre hpl hxi hxm HRw
   go_wp2_with fail
   refine (rname_spec wr KG.out.own (by omega) kx hks (by have:=HPL.out;omega)).mono ?_
   rintro e w2 ⟨v2,rfl,hg2⟩
   have HG2:=qH (KG.out.next hg2)
   have hu2:Upd (fun b=>B<=b) wr w2:=hg2.upd.mono fun b _ hb=>(HLv.out b hb).1
   have q1:w2.cell? ⟨b,o+i*6+1,none⟩=some (.int .i64 x0):=(hu2.cell (p:=⟨b,o+i*6+1,none⟩) hb (by simp only;omega)).trans r1
   have q2:w2.cell? ⟨b,o+i*6+2,none⟩=some (.int .i64 x1):=(hu2.cell (p:=⟨b,o+i*6+2,none⟩) hb (by simp only;omega)).trans r2
   have q3:w2.cell? ⟨b,o+i*6+3,none⟩=some (.string x2):=(hu2.cell (p:=⟨b,o+i*6+3,none⟩) hb (by simp only;omega)).trans r3
   have q4:w2.cell? ⟨b,o+i*6+4,none⟩=some (.slice X1 a1 b1):=(hu2.cell (p:=⟨b,o+i*6+4,none⟩) hb (by simp only;omega)).trans r4
   have q5:w2.cell? ⟨b,o+i*6+5,none⟩=some (.slice X2 a2 b2):=(hu2.cell (p:=⟨b,o+i*6+5,none⟩) hb (by simp only;omega)).trans r5
   have HV2:=qH (HV0.out.upd hu2 fun b hb hs=>by have:=HF.out b hb;omega)
   clear hg2 hu2 r0 r1 r2 r3 r4 r5 HV0 KG HLv HUr
   go_wp2_with fail
   refine (rencode_spec w2 HV2.out HX1.out HX2.out).mono ?_
   rintro e w3 ⟨v3,rfl,hO3,hs3⟩
   clear q1 q2 q3 q4 q5 HV2
   obtain ⟨A3,c3,rfl⟩:=own_form hO3
   obtain ⟨E,hE⟩:∃ E,enc ⟨x0,x1,x2,x3,x4⟩=E:=⟨_,rfl⟩
   rw [hE] at hO3 HPL HE hEl ⊢
   have HY3:=qH ((own_bytes hO3).mono (F':=fun b=>w2.heap.size<=b/\b<w3.heap.size) fun b hb hh=>⟨hh.2,hb⟩)
   have HG3:=qH (HG2.out.ext hs3)
   have HLv:=qH fun g (hg:v2.ownBlock=some g)=>(HG2.out.own.lt g hg).2
   have hz3:=hs3.size
   have hz2:=HG2.out.size
   clear hO3 hs3 HG2 hE
   go_wp2_with fail
   refine (rnum2_on E.length w3 _ (Upd.refl _ _) (by omega)).mono ?_
   rintro e w4 ⟨A4,c4,rfl,HO4,hs4,_⟩
   have HG4:=qH (HG3.out.ext hs4)
   have HY4:=qH (HY3.out.same hs4)
   have hz4:=hs4.size
   clear hs4 HG3 HY3
   go_wp2_with fail
   refine (put20_spec w4 HG4.out.own (by omega) (own_bytes_n (beb_len 2 _) HO4.out) (fun b hb e=>by have:=HLv.out b e;have:=hb.2;omega) (by have:=HPL.out;rw [List.length_append,encName_len];omega)).mono ?_
   rintro e w5 ⟨v5,rfl,hg5⟩
   have HG5:=qH (HG4.out.next hg5)
   have HY5:=qH (HY4.out.upd hg5.upd fun b hb e=>by have:=HLv.out b e;omega)
   have HB5:=qH hg5.block
   have hz5:=hg5.size
   clear hg5 HG4 HY4 HO4
   go_wp2_with fail
   refine (put20_spec w5 HG5.out.own (by omega) HY5.out (fun b hb e=>by
    rcases HB5.out with h | ⟨g,h,h2⟩
    · rw [h] at e;have:=HLv.out b e;omega
    rw [h] at e;injection e with e;omega) (by have:=HPL.out;rw [List.length_append,List.length_append,encName_len,beb_len];omega)).mono ?_
   rintro e w6 ⟨v6,rfl,hg6⟩
   have HG6:=qH (HG5.out.next hg6)
   clear hg6 HG5 HY5
   go_wp2
   go_roundg (n-(i+1))
   case measure=>omega
   case rel=>exact ⟨i+1,rfl,by omega,by go_num,qH (by rw [<- HE.out];exact HG6.out)⟩
 obtain rfl:i=n:=by omega
 go_wp2
 go_ret
 refine ⟨_,rfl,?_⟩
 have h1:=KG.out
 rw [List.take_of_length_le (by rw [HL.out];exact Nat.le_refl _),List.append_assoc] at h1
 unfold encPs
 rw [List.length_map,HL.out]
 exact h1
theorem own_grown {w w1 w2:World} {B:Nat} {v1 v2:Value} {bs0 bs:List UInt8} (ho:OwnB w1 B v1 bs0) (hs:Same w w1) (hB:w.heap.size<=B) (hg:GrewB w1 B v1 bs v2 w2):OwnB w2 B v2 bs/\Same w w2 :=
 ⟨hg.own,hs.trans hg.upd fun b hb hh=>by have:=(ho.lt b hh).1;omega⟩
theorem rnodeData_spec {F:Nat->Prop} (w:World) (x:ND) (hlab:WRow w F 1 x.AL x.nL x.cL (x.labels.map Value.string)) (hp:RdPs w F x.AP x.nP x.cP x.props) (hw:x.dat.Wr) (hf:PsFit x.props) (hl:(encNd x.dat).length<=1048576) :
 Calls Tryz.prog 44 #[x.agg] w fun e w'=>∃ v,e=.returned v/\Hid (OwnB w' w.heap.size v (encNd x.dat))/\Same w w':=by
 obtain ⟨id,lab,AL,nL,cL,ps,AP,nP,cP⟩:=x
 simp only at hlab hp hf
 obtain ⟨m,rfl,hm,hm32⟩:=u64_id hw.id
 replace hm:u64 (m:Int)=m:=hm
 have hn1:lab.length=nL:=by have:=hlab.len;simpa using this
 have hn2:=hp.len
 have hLL:nL<=255:=by have:=hw.n;rw [<- hn1];exact this
 have hPP:nP<=255:=by have:=hw.np;rw [<- hn2];simpa [ND.dat] using this
 have HE:Hid (encNd (ND.dat ⟨(m:Int),lab,AL,nL,cL,ps,AP,nP,cP⟩)=beb 4 m++beb 1 nL++lab.flatMap encName++encPs (ps.map PR.dat)):=qH (by
  unfold encNd ND.dat
  simp only [hm,hn1,List.append_assoc])
 have HLab:=qH hw.lab
 have HPW:=qH (show ∀ y∈ps,y.dat.Wr from fun y hy=>hw.pr _ (List.mem_map_of_mem hy))
 rw [HE.out] at hl ⊢
 have HLen:Hid (5+(lab.flatMap encName).length+(encPs (ps.map PR.dat)).length<=1048576):=qH (by
  simp only [List.length_append,beb_len] at hl
  omega)
 have HN1:=qH hn1
 have hs0:=(Upd.refl (fun _=>False) w).alloc (.cells #[.int .i64 (m:Int),.slice AL nL cL,.slice AP nP cP] 43)
 have HB0:=qH (Blk.new w 43 #[.int .i64 (m:Int),.slice AL nL cL,.slice AP nP cP])
 have HR0:=qH ((hlab.mono (F':=fun b=>b<w.heap.size) fun b h _=>h).same hs0)
 have HP0:=qH ((hp.mono (F':=fun b=>b<w.heap.size) fun b h _=>h).same hs0)
 have HFi:=qH hf
 have HS0:=qH hs0
 have HZ0:=qH (show w.heap.size<(w.alloc (.cells #[.int .i64 (m:Int),.slice AL nL cL,.slice AP nP cP] 43)).heap.size by rw [World.size_alloc];omega)
 have HBT:=qH (beb_one' nL hLL)
 clear hlab hp hw hf hl hm hs0 hn1 hn2
 go_enter Tryz.func44,Tryz.ntmps44
 go_wp2_with fail
 generalize w.alloc (.cells #[.int .i64 (m:Int),.slice AL nL cL,.slice AP nP cP] 43)=w1 at *
 generalize hg:w.heap.size=g at *
 refine (rnum4_on m w1 _ (Upd.refl _ _) (by omega)).mono ?_
 rintro e w2 ⟨A2,c2,rfl,HO2,hs2,_⟩
 have HO2':Hid (OwnB w2 w1.heap.size (.slice A2 4 c2) (beb 4 m)):=HO2
 have HS2:=qH (HS0.out.same hs2)
 have HB2:=qH (HB0.out.same hs2)
 have HR2:=qH (HR0.out.same hs2)
 have HP2:=qH (HP0.out.same hs2)
 have HZ2:=qH hs2.size
 have HUB:=qH fun (bs:List UInt8) (v:Value) (wx:World) (h:GrewB w2 w1.heap.size (.slice A2 4 c2) bs v wx)=>HB2.out.upd h.upd (fun e=>by have:=(HO2'.out.lt _ e).1;have:=HZ0.out;omega)
 have HUL:=qH fun (bs:List UInt8) (v:Value) (wx:World) (h:GrewB w2 w1.heap.size (.slice A2 4 c2) bs v wx)=>(h.upd.mono (S':=fun b=>w1.heap.size<=b) fun b _ e=>(HO2'.out.lt _ e).1)
 clear hs2 HB0 HR0 HP0 HO2
 have c1:=HB2.out.cell 1
 simp only [List.getElem?_toArray,List.getElem?_cons_succ,List.getElem?_cons_zero] at c1
 have hz2:=HZ2.out
 go_wp2_with (at_builtin;go_must (refine wpList_app rfl (.tmp 9) (.tmp 14) _ _ rfl w1.heap.size _ _ _ _ Tryz.underlying28 info_u8 rfl (.slice A2 4 c2) _ _ rfl (by have h1:=HO2'.out;unfold OwnB at h1;rw [beb_len] at h1;exact h1.alloc _) rfl (src_row Tryz.underlying28 (Row.one _ _ _) (by simp [Value.oneCell'])) (by unfold maxLen;omega) (by omega) (by simp;omega) ?_);intro v' w3 hg;have HG:=qH hg;clear hg)
 have HG3:Hid (GrewB w2 w1.heap.size (.slice A2 4 c2) (beb 4 m++beb 1 nL) v' w3):=qH (by
  unfold GrewB
  rw [List.length_append,beb_len,beb_len,List.map_append,HBT.out]
  have h1:=HO2'.out
  unfold OwnB at h1
  rw [beb_len] at h1
  exact ((Grew.refl h1).alloc _).trans HG.out)
 clear HG c1
 have hmx:=HR2.out.max
 have hle:=HR2.out.le
 unfold maxLen at hmx
 go_loopg [4,3] nL (fun gh ix y wr=>∃ i:Nat,nL-i=gh/\i<=nL/\ix=.int .i64 i/\Hid (GrewB w2 w1.heap.size (.slice A2 4 c2) (beb 4 m++beb 1 nL++(lab.take i).flatMap encName) y wr))
 case atStart=>exact ⟨0,rfl,Nat.zero_le _,rfl,qH (by simpa using HG3.out)⟩
 obtain ⟨i,rfl,hi,rfl,KG⟩:=hrel
 have c1:=(HUB.out _ _ _ KG.out).cell 1
 simp only [List.getElem?_toArray,List.getElem?_cons_succ,List.getElem?_cons_zero] at c1
 have hzr:=KG.out.size
 by_cases hlt:i<nL
 · obtain ⟨b,o,u,rfl,hbl,hbF,hu,hc⟩:=(HR2.out.upd (HUL.out _ _ _ KG.out) fun b hb hs=>by have:=HZ0.out;omega).at_ hlt
   have hkl:i<lab.length:=by rw [HN1.out];exact hlt
   simp only [List.getElem?_map,List.getElem?_eq_getElem hkl,Option.map_some,Option.some.injEq] at hu
   subst hu
   have HT:=qH (flatMap_take_succ encName lab i hkl)
   have HSz:=qH (HLab.out lab[i] (List.getElem_mem hkl))
   have HLt:=qH (flat_take_le encName lab i)
   generalize lab[i]=s at *
   go_wp2_with fail
   refine (rname_spec wr KG.out.own (by omega) s HSz.out (by
    have h1:=HLt.out
    have h2:=HLen.out
    rw [List.length_append,List.length_append,beb_len,beb_len]
    omega)).mono ?_
   rintro e w5 ⟨v5,rfl,hg5⟩
   have HG5:=qH (KG.out.next hg5)
   clear hg5 c1
   go_wp2
   go_roundg (nL-(i+1))
   case measure=>omega
   case rel=>exact ⟨i+1,rfl,by omega,by go_num,qH (by rw [HT.out,<-List.append_assoc];exact HG5.out)⟩
 obtain rfl:i=nL:=by omega
 have HG5:Hid (GrewB w2 w1.heap.size (.slice A2 4 c2) (beb 4 m++beb 1 i++lab.flatMap encName) u3 wr):=qH (by
  have h1:=KG.out
  rwa [List.take_of_length_le (by rw [HN1.out];exact Nat.le_refl _)] at h1)
 have c2':=(HUB.out _ _ _ KG.out).cell 2
 simp only [List.getElem?_toArray,List.getElem?_cons_succ,List.getElem?_cons_zero] at c2'
 have HPr:=qH (HP2.out.upd (HUL.out _ _ _ KG.out) fun b hb hs=>by have:=HZ0.out;omega)
 clear KG
 go_wp2_with fail
 refine (rprops_spec wr HG5.out.own (by omega) HPr.out (fun b hb=>by have:=HZ0.out;omega) HPW.out HFi.out hPP (by
  have h2:=HLen.out
  rw [List.length_append,List.length_append,beb_len,beb_len]
  omega)).mono ?_
 rintro e w6 ⟨v6,rfl,hg6⟩
 have HG6:=qH (HG5.out.next hg6)
 clear c1 c2' hg6
 go_wp2
 go_ret
 have h1:=own_grown HO2'.out HS2.out (by rw [hg];have:=HZ0.out;omega) HG6.out
 exact ⟨_,rfl,qH (by rw [<- hg];exact own_base h1.1 (by rw [hg];have:=HZ0.out;omega)),h1.2⟩
theorem rrelData_spec {F:Nat->Prop} (w:World) (x:RL) (hp:RdPs w F x.AP x.nP x.cP x.props) (hw:x.dat.Wr) (hf:PsFit x.props) (hl:(encRl x.dat).length<=1048576) :
 Calls Tryz.prog 45 #[x.agg] w fun e w'=>∃ v,e=.returned v/\Hid (OwnB w' w.heap.size v (encRl x.dat))/\Same w w':=by
 obtain ⟨id,ty,src,dst,ps,AP,nP,cP⟩:=x
 simp only at hp hf
 obtain ⟨m,rfl,hm,hm32⟩:=u64_id hw.id
 obtain ⟨m1,rfl,hm1,hm132⟩:=u64_id (show Id32 src from hw.src)
 obtain ⟨m2,rfl,hm2,hm232⟩:=u64_id (show Id32 dst from hw.dst)
 have hn2:=hp.len
 replace hm:u64 (m:Int)=m:=hm
 have hPP:nP<=255:=by have:=hw.np;rw [<- hn2];simpa [RL.dat] using this
 have hty:ty.size<=255:=hw.type
 have HE:Hid (encRl (RL.dat ⟨(m:Int),ty,(m1:Int),(m2:Int),ps,AP,nP,cP⟩)=beb 4 m++beb 4 m1++beb 4 m2++encName ty++encPs (ps.map PR.dat)):=qH (by
  unfold encRl RL.dat
  simp only [hm,hm1,hm2,List.append_assoc])
 have HPW:=qH (show ∀ y∈ps,y.dat.Wr from fun y hy=>hw.pr _ (List.mem_map_of_mem hy))
 rw [HE.out] at hl ⊢
 have HLen:Hid (12+(encName ty).length+(encPs (ps.map PR.dat)).length<=1048576):=qH (by
  simp only [List.length_append,beb_len] at hl
  omega)
 have hs0:=(Upd.refl (fun _=>False) w).alloc (.cells #[.int .i64 (m:Int),.string ty,.int .i64 (m1:Int),.int .i64 (m2:Int),.slice AP nP cP] 50)
 have HB0:=qH (Blk.new w 50 #[.int .i64 (m:Int),.string ty,.int .i64 (m1:Int),.int .i64 (m2:Int),.slice AP nP cP])
 have HP0:=qH ((hp.mono (F':=fun b=>b<w.heap.size) fun b h _=>h).same hs0)
 have HFi:=qH hf
 have HS0:=qH hs0
 have HZ0:=qH (show w.heap.size<(w.alloc (.cells #[.int .i64 (m:Int),.string ty,.int .i64 (m1:Int),.int .i64 (m2:Int),.slice AP nP cP] 50)).heap.size by rw [World.size_alloc];omega)
 clear hp hw hf hl hm hm1 hm2 hs0 hn2
 go_enter Tryz.func45,Tryz.ntmps45
 go_wp2_with fail
 generalize w.alloc (.cells #[.int .i64 (m:Int),.string ty,.int .i64 (m1:Int),.int .i64 (m2:Int),.slice AP nP cP] 50)=w1 at *
 generalize hg:w.heap.size=g at *
 refine (rnum4_on m w1 _ (Upd.refl _ _) (by omega)).mono ?_
 rintro e w2 ⟨A2,c2,rfl,HO2,hs2,_⟩
 have HO2':Hid (OwnB w2 w1.heap.size (.slice A2 4 c2) (beb 4 m)):=HO2
 have HS2:=qH (HS0.out.same hs2)
 have HB2:=qH (HB0.out.same hs2)
 have HP2:=qH (HP0.out.same hs2)
 have HZ2:=qH hs2.size
 have HUB:=qH fun (bs:List UInt8) (v:Value) (wx:World) (h:GrewB w2 w1.heap.size (.slice A2 4 c2) bs v wx)=>HB2.out.upd h.upd (fun e=>by have:=(HO2'.out.lt _ e).1;have:=HZ0.out;omega)
 have HUL:=qH fun (bs:List UInt8) (v:Value) (wx:World) (h:GrewB w2 w1.heap.size (.slice A2 4 c2) bs v wx)=>(h.upd.mono (S':=fun b=>w1.heap.size<=b) fun b _ e=>(HO2'.out.lt _ e).1)
 have HG2:Hid (GrewB w2 w1.heap.size (.slice A2 4 c2) (beb 4 m) (.slice A2 4 c2) w2):=qH (Grew.refl HO2'.out)
 have hz2:=HZ2.out
 clear hs2 HB0 HP0 HO2
 have c2':=HB2.out.cell 2
 simp only [List.getElem?_toArray,List.getElem?_cons_succ,List.getElem?_cons_zero] at c2'
 go_wp2_with fail
 refine (rnum4_on m1 w2 _ (Upd.refl _ _) (by omega)).mono ?_
 rintro e w3 ⟨A3,c3,rfl,HO3,hs3,_⟩
 have HG3:=qH (HG2.out.ext hs3)
 have HL2:=qH fun g (hg:(Value.slice A2 4 c2).ownBlock=some g)=>(HO2'.out.lt g hg).2
 have hz3:=hs3.size
 clear hs3 c2' HG2
 go_wp2_with fail
 refine (put20_spec w3 HG3.out.own (by omega) (own_bytes_n (beb_len 4 _) HO3.out) (fun b hb e=>by have:=HL2.out b e;have:=hb.2;omega) (by simp [beb_len])).mono ?_
 rintro e w4 ⟨v4,rfl,hg4⟩
 have HG4:=qH (HG3.out.next hg4)
 have hz4:=hg4.size
 have HL4:=qH fun g (hg:v4.ownBlock=some g)=>(HG4.out.own.lt g hg).2
 have c3':=(HUB.out _ _ _ HG4.out).cell 3
 simp only [List.getElem?_toArray,List.getElem?_cons_succ,List.getElem?_cons_zero] at c3'
 clear hg4 HO3 HG3
 go_wp2_with fail
 refine (rnum4_on m2 w4 _ (Upd.refl _ _) (by omega)).mono ?_
 rintro e w5 ⟨A5,c5,rfl,HO5,hs5,_⟩
 have HG5:=qH (HG4.out.ext hs5)
 have hz5:=hs5.size
 clear hs5 c3' HG4
 go_wp2_with fail
 refine (put20_spec w5 HG5.out.own (by omega) (own_bytes_n (beb_len 4 _) HO5.out) (fun b hb e=>by have:=HL4.out b e;have:=hb.2;omega) (by simp [beb_len])).mono ?_
 rintro e w6 ⟨v6,rfl,hg6⟩
 have HG6:=qH (HG5.out.next hg6)
 have hz6:=hg6.size
 have c1':=(HUB.out _ _ _ HG6.out).cell 1
 simp only [List.getElem?_toArray,List.getElem?_cons_succ,List.getElem?_cons_zero] at c1'
 clear hg6 HO5 HG5
 go_wp2_with fail
 refine (rname_spec w6 HG6.out.own (by omega) ty hty (by simp [beb_len])).mono ?_
 rintro e w7 ⟨v7,rfl,hg7⟩
 have HG7:=qH (HG6.out.next hg7)
 have hz7:=hg7.size
 have c4':=(HUB.out _ _ _ HG7.out).cell 4
 simp only [List.getElem?_toArray,List.getElem?_cons_succ,List.getElem?_cons_zero] at c4'
 have HPr:=qH (HP2.out.upd (HUL.out _ _ _ HG7.out) fun b hb hs=>by have:=HZ0.out;omega)
 clear hg7 HG6 c1'
 go_wp2_with fail
 refine (rprops_spec w7 HG7.out.own (by omega) HPr.out (fun b hb=>by have:=HZ0.out;omega) HPW.out HFi.out hPP (by
  have h2:=HLen.out
  simp only [List.length_append,beb_len]
  omega)).mono ?_
 rintro e w8 ⟨v8,rfl,hg8⟩
 have HG8:=qH (HG7.out.next hg8)
 clear c4' hg8
 go_wp2
 go_ret
 have h1:=own_grown HO2'.out HS2.out (by rw [hg];have:=HZ0.out;omega) HG8.out
 exact ⟨_,rfl,qH (by rw [<- hg];exact own_base h1.1 (by rw [hg];have:=HZ0.out;omega)),h1.2⟩
theorem rtrail_spec {F:Nat->Prop} {A:Option Addr} {n c:Nat} {all:List UInt8} (w:World) (n1 n2 n3:Nat) (h1:n1<=4294967295) (h2:n2<=4294967295) (h3:n3<=4294967295) (hb:Bytes w F A n c all) :
 Calls Tryz.prog 46 #[.int .i64 (n1:Int),.int .i64 (n2:Int),.int .i64 (n3:Int),.slice A n c] w fun e w'=>∃ v,e=.returned v/\Hid (OwnB w' w.heap.size v (trailP n1 n2 n3 all))/\Same w w':=by
 have HY:=qH (hb.mono (F':=fun b=>b<w.heap.size) fun b h _=>h)
 obtain ⟨S,hS⟩:∃ S,crcS all=S:=⟨_,rfl⟩
 have HE:Hid (trailP n1 n2 n3 all=beb 4 n1++beb 4 n2++beb 4 n3++beb 4 S.toNat):=qH (by
  unfold trailP
  rw [hS]
  simp only [List.append_assoc])
 have HSS:=qH hS
 have hS32:=S.isLt
 clear hb hS
 go_enter Tryz.func46,Tryz.ntmps46
 go_wp2_with fail
 refine (rnum4_on n1 w _ (Upd.refl _ _) (by omega)).mono ?_
 rintro e w2 ⟨A2,c2,rfl,HO2,hs2,_⟩
 have HO2':Hid (OwnB w2 w.heap.size (.slice A2 4 c2) (beb 4 n1)):=HO2
 have HS2:=qH hs2
 have HG2:Hid (GrewB w2 w.heap.size (.slice A2 4 c2) (beb 4 n1) (.slice A2 4 c2) w2):=qH (Grew.refl HO2'.out)
 have HL2:=qH fun g (hg:(Value.slice A2 4 c2).ownBlock=some g)=>(HO2'.out.lt g hg).2
 have hz2:=hs2.size
 clear hs2 HO2
 go_wp2_with fail
 refine (rnum4_on n2 w2 _ (Upd.refl _ _) (by omega)).mono ?_
 rintro e w3 ⟨A3,c3,rfl,HO3,hs3,_⟩
 have HG3:=qH (HG2.out.ext hs3)
 have hz3:=hs3.size
 clear hs3 HG2
 go_wp2_with fail
 refine (put20_spec w3 HG3.out.own (by omega) (own_bytes_n (beb_len 4 _) HO3.out) (fun b hb e=>by have:=HL2.out b e;have:=hb.2;omega) (by simp [beb_len])).mono ?_
 rintro e w4 ⟨v4,rfl,hg4⟩
 have HG4:=qH (HG3.out.next hg4)
 have hz4:=hg4.size
 have HL4:=qH fun g (hg:v4.ownBlock=some g)=>(HG4.out.own.lt g hg).2
 clear hg4 HO3 HG3
 go_wp2_with fail
 refine (rnum4_on n3 w4 _ (Upd.refl _ _) (by omega)).mono ?_
 rintro e w5 ⟨A5,c5,rfl,HO5,hs5,_⟩
 have HG5:=qH (HG4.out.ext hs5)
 have hz5:=hs5.size
 clear hs5 HG4
 go_wp2_with fail
 refine (put20_spec w5 HG5.out.own (by omega) (own_bytes_n (beb_len 4 _) HO5.out) (fun b hb e=>by have:=HL4.out b e;have:=hb.2;omega) (by simp [beb_len])).mono ?_
 rintro e w6 ⟨v6,rfl,hg6⟩
 have HG6:=qH (HG5.out.next hg6)
 have hz6:=hg6.size
 have HY6:=qH ((HY.out.same HS2.out).upd HG6.out.upd fun b hb e=>by have:=(HO2'.out.lt b e).1;omega)
 have HL6:=qH fun g (hg:v6.ownBlock=some g)=>(HG6.out.own.lt g hg).2
 clear hg6 HO5 HG5
 go_wp2_with fail
 refine (rcrcSum_spec w6 HY6.out).mono ?_
 rintro e w' ⟨rfl,rfl⟩
 rw [HSS.out]
 go_wp2_with fail
 refine (rnum4_on S.toNat w6 _ (Upd.refl _ _) (by omega)).mono ?_
 rintro e w7 ⟨A7,c7,rfl,HO7,hs7,_⟩
 have HG7:=qH (HG6.out.ext hs7)
 have hz7:=hs7.size
 clear hs7 HG6
 go_wp2_with fail
 refine (put20_spec w7 HG7.out.own (by omega) (own_bytes_n (beb_len 4 _) HO7.out) (fun b hb e=>by have:=HL6.out b e;have:=hb.2;omega) (by simp [beb_len])).mono ?_
 rintro e w8 ⟨v8,rfl,hg8⟩
 have HG8:=qH (HG7.out.next hg8)
 clear hg8
 go_wp2
 go_ret
 have h1:=own_grown HO2'.out HS2.out (Nat.le_refl _) HG8.out
 exact ⟨_,rfl,qH (by rw [HE.out];exact h1.1),h1.2⟩
theorem rpacked_spec {F:Nat->Prop} {A:Option Addr} {n c:Nat} {bs:List UInt8} (w:World) (t:Nat) (ht:t<=255) (hb:Bytes w F A n c bs) (hn:n<=1048576) :
 Calls Tryz.prog 43 #[.int .i64 (t:Int),.slice A n c] w fun e w'=>∃ v,e=.returned v/\Hid (OwnB w' w.heap.size v (packP t bs))/\Same w w':=by
 have HY:=qH hb
 clear hb
 go_enter Tryz.func43,Tryz.ntmps43
 go_wp2_with fail
 refine (rpackF_spec w t ht HY.out hn).mono ?_
 rintro e w1 ⟨v1,rfl,HO1,hs1⟩
 have HS1:=qH hs1
 clear hs1
 go_wp2
 go_ret
 exact ⟨_,rfl,HO1,HS1.out⟩
theorem rweightD_on {F:Nat->Prop} (w0 w:World) (hs:Same w0 w) (g:GR) (h:RdG w0 F g) (hf:GFit g) {T:Nat} (hT:g.dat.wt=T) (hl:T<=16777216) :
 Calls Tryz.prog 47 #[g.agg] w fun e w'=>e=.returned (.int .i64 (T:Int))/\Same w w'/\Same w0 w':=by
 subst hT
 rw [wt_dat] at hl ⊢
 exact (rweight_spec w g (h.same hs) hf (by omega)).mono fun _ _ ⟨h1,h2⟩=>⟨h1,h2,hs.same h2⟩
theorem rtrail_on {F:Nat->Prop} {A:Option Addr} {n c:Nat} {all:List UInt8} (w0 w:World) (hs:Same w0 w) (n1 n2 n3:Nat) (h1:n1<=4294967295) (h2:n2<=4294967295) (h3:n3<=4294967295) (hb:Bytes w0 F A n c all) :
 Calls Tryz.prog 46 #[.int .i64 (n1:Int),.int .i64 (n2:Int),.int .i64 (n3:Int),.slice A n c] w fun e w'=>∃ A' c',e=.returned (.slice A' 16 c')/\Hid (OwnB w' w.heap.size (.slice A' 16 c') (trailP n1 n2 n3 all))/\Same w w'/\Same w0 w' :=
 (rtrail_spec w n1 n2 n3 h1 h2 h3 (hb.same hs)).mono fun _ _ ⟨v,h4,h5,h6⟩=>by
   obtain ⟨A',c',rfl⟩:=own_form h5.out
   rw [trailP_len] at h4 h5
   exact ⟨A',c',h4,h5,h6,hs.same h6⟩
def PcsRes (L:List (List UInt8)) (w:World) (e:Ending) (w':World):Prop :=
 ∃ (A:Option Addr) (c:Nat) (l:List BS),e=.returned (.slice A l.length c)/\OwnBs w' w.heap.size (.slice A l.length c) l/\l.map BS.data=L/\Same w w'
theorem pcs_take_succ {l:List BS} {i:Nat} {x:BS} (h:l[i]?=some x):((l.take (i+1)).map BS.data).flatten=((l.take i).map BS.data).flatten++x.data:=by
 rw [List.take_add_one,h]
 simp
theorem pcs_take_le (l:List BS) (i:Nat):((l.take i).map BS.data).flatten.length<=(l.map BS.data).flatten.length:=by
 have h:=congrArg (fun l=>(List.map BS.data l).flatten.length) (List.take_append_drop i l)
 simp only [List.map_append,List.flatten_append,List.length_append] at h
 omega
theorem rpieces_spec {F:Nat->Prop} (w:World) (g:GR) (h:RdG w F g) (hz:GSized g) :
 Calls Tryz.prog 19 #[g.agg] w (PcsRes (pcsP g.dat) w):=by
 obtain ⟨ns,AN,nN,cN,rs,AR,nR,cR⟩:=g
 have HNR:=qH (show ∀ e w',PcsRes (pcsP (GR.dat ⟨ns,AN,nN,cN,rs,AR,nR,cR⟩)) w e w'↔∃ (A:Option Addr) (c:Nat) (l:List BS),e=.returned (.slice A l.length c)/\OwnBs w' w.heap.size (.slice A l.length c) l/\l.map BS.data=pcsP (GR.dat ⟨ns,AN,nN,cN,rs,AR,nR,cR⟩)/\Same w w' from fun _ _=>Iff.rfl)
 generalize PcsRes (pcsP (GR.dat ⟨ns,AN,nN,cN,rs,AR,nR,cR⟩)) w=NRes at HNR ⊢
 have s1:=(Upd.refl (fun _=>False) w).alloc (.cells #[.slice AN nN cN,.slice AR nR cR] 26)
 have hk1:=Blk.new w 26 #[.slice AN nN cN,.slice AR nR cR]
 have s2:=s1.alloc (.cells #[] 28)
 have ho2:=OwnBs.empty (w.alloc (.cells #[.slice AN nN cN,.slice AR nR cR] 26)) (B:=w.heap.size) (by rw [World.size_alloc];omega)
 rw [World.size_alloc] at ho2
 have hlt:w.heap.size+1<((w.alloc (.cells #[.slice AN nN cN,.slice AR nR cR] 26)).alloc (.cells #[] 28)).heap.size:=by rw [World.size_alloc,World.size_alloc];omega
 have hk2:=hk1.same ((Upd.refl (fun _=>False) (w.alloc (.cells #[.slice AN nN cN,.slice AR nR cR] 26))).alloc (.cells #[] 28))
 have hr2:=h.same s2
 obtain ⟨e,at_,hE⟩:∃ e at_,chkP (GR.dat ⟨ns,AN,nN,cN,rs,AR,nR,cR⟩)=(e,at_):=⟨_,_,rfl⟩
 have HE:=qH hE
 have HCK:=qH (rcheckD_spec _ _ hr2 hz hE)
 have HK:=qH hk2
 have HO2:=qH ho2
 have HS2:=qH s2
 have HR2:=qH hr2
 have HZ:=qH hz
 have HRG:=qH h
 clear h hz s1 hk1 s2 ho2 hk2 hr2 hE
 go_enter Tryz.func19,Tryz.ntmps19
 go_upto_region 2 with fail
 generalize (w.alloc (.cells #[.slice AN nN cN,.slice AR nR cR] 26)).alloc (.cells #[] 28)=w1 at *
 have k0:w1.cell? ⟨w.heap.size,0,none⟩=some (.slice AN nN cN):=HK.out.cell 0
 have k1:w1.cell? ⟨w.heap.size,1,none⟩=some (.slice AR nR cR):=HK.out.cell 1
 generalize hg0:w.heap.size=g0 at *
 go_wp2_with fail
 refine HCK.out.mono ?_
 rintro x w2 ⟨rfl,hs2⟩
 have HS3:=qH hs2
 clear k0 k1
 by_cases he:e=0
 case neg =>
  have nz:(e != 0)=true:=by rw [bne_iff_ne];exact he
  have HP:Hid (pcsP (GR.dat ⟨ns,AN,nN,cN,rs,AR,nR,cR⟩)=[]):=qH (by unfold pcsP;rw [HE.out,if_neg he])
  have HO3:=qH (HO2.out.same hs2)
  clear he hs2
  go_wp2_with fail
  refine (HNR.out _ _).2 ⟨_,0,[],rfl,HO3.out,HP.out.symm,HS2.out.trans HS3.out fun _ _ f=>f⟩
 have nz:(e != 0)=false:=by rw [bne_eq_false_iff_eq];exact he
 have HC:Hid ((chkP (GR.dat ⟨ns,AN,nN,cN,rs,AR,nR,cR⟩)).1=0):=qH (by rw [HE.out];exact he)
 have HP:Hid (pcsP (GR.dat ⟨ns,AN,nN,cN,rs,AR,nR,cR⟩)=piecesP (GR.dat ⟨ns,AN,nN,cN,rs,AR,nR,cR⟩)):=qH (by unfold pcsP;rw [if_pos HC.out])
 have HRt:=qH (chkP_right HC.out (rd_fits HR2.out)).1
 have HK3:=qH (HK.out.same hs2)
 have HR3:=qH (HR2.out.same hs2)
 have HO3:=qH (HO2.out.same hs2)
 clear he hs2 HCK HE
 have kc:=fun (w:World) (C:Array Value) (n c:Nat)=>Lib.run_convert_bytes_const (P:=Tryz.prog) w 28 5 C n c Tryz.underlying28 Tryz.underlying5
 have sA:=(Upd.refl (fun _=>False) w2).alloc (.cells #[.int .u8 83,.int .u8 65,.int .u8 84,.int .u8 67,.int .u8 72,.int .u8 69,.int .u8 76,.int .u8 49] 5 (8,9))
 have hMg:OwnBs1 (w2.alloc (.cells #[.int .u8 83,.int .u8 65,.int .u8 84,.int .u8 67,.int .u8 72,.int .u8 69,.int .u8 76,.int .u8 49] 5 (8,9))) g0 ⟨magicP,some ⟨w2.heap.size,0,none⟩,8,8⟩ :=
  OwnBs1.lit w2 (by have:=HS3.out.size;omega) magicP rfl
 generalize hwA:w2.alloc (.cells #[.int .u8 83,.int .u8 65,.int .u8 84,.int .u8 67,.int .u8 72,.int .u8 69,.int .u8 76,.int .u8 49] 5 (8,9))=wA at *
 have hzA:wA.heap.size=w2.heap.size+1:=by rw [<- hwA,World.size_alloc]
 have sB:=(Upd.refl (fun _=>False) wA).alloc (.cells #[.int .u8 0,.int .u8 1] 5)
 have HVr:Hid (Bytes (wA.alloc (.cells #[.int .u8 0,.int .u8 1] 5)) (fun b=>b=wA.heap.size) (some ⟨w2.heap.size+1,0,none⟩) 2 2 [0,1]):=qH (by rw [<- hzA];exact Row.of_blk (Blk.new wA _ _) rfl (by omega) (by unfold maxLen;omega))
 have hzB:(wA.alloc (.cells #[.int .u8 0,.int .u8 1] 5)).heap.size=wA.heap.size+1:=World.size_alloc _ _
 have HMg:=qH hMg
 have HSA:=qH sA
 have HSB:=qH sB
 clear hMg sA sB
 go_wp2_with fail
 refine (rpacked_spec _ 1 (by omega) HVr.out (by omega)).mono ?_
 rintro x w4 ⟨v5,rfl,hO5,hs4⟩
 obtain ⟨A5,c5,rfl⟩:=own_form hO5.out
 have hz4:=hs4.size
 have HS4:Hid (Same w2 w4):=qH ((HSA.out.trans HSB.out fun _ _ f=>f).trans hs4 fun _ _ f=>f)
 have HM4:=qH (((HMg.out.same HSB.out).same hs4))
 have HP4:Hid (OwnBs1 w4 g0 ⟨packP 1 [0,1],A5,(packP 1 [0,1]).length,c5⟩):=qH ((OwnBs1.of hO5.out rfl).base (by have:=HS3.out.size;omega))
 have HO4:=qH (HO3.out.same HS4.out)
 have hbw:g0<=w4.heap.size:=by have:=HS4.out.size;have:=HS3.out.size;omega
 clear hO5 hs4 kc
 have hn8:(packP 1 [0,1]).length=11:=by rw [packP_len];rfl
 rw [hn8] at HP4 ⊢
 have s5:=(Upd.refl (fun _=>False) w4).alloc (.cells #[.slice (some ⟨w2.heap.size,0,none⟩) 8 8,.slice A5 11 c5] 28)
 have HROW:=qH (own_same HO4.out.row s5)
 have HSRC:Hid (Row (w4.alloc (.cells #[.slice (some ⟨w2.heap.size,0,none⟩) 8 8,.slice A5 11 c5] 28)) (fun b=>b=w4.heap.size) 1 (some ⟨w4.heap.size,0,none⟩) 2 2 ([(⟨magicP,some ⟨w2.heap.size,0,none⟩,8,8⟩:BS),⟨packP 1 [0,1],A5,11,c5⟩].map BS.cell)):=qH (Row.of_blk (Blk.new w4 28 #[.slice (some ⟨w2.heap.size,0,none⟩) 8 8,.slice A5 11 c5]) rfl (Nat.le_refl _) (by simp [maxLen]))
 have HS5:=qH s5
 clear s5
 go_upto_region 6 with (at_builtin;go_must (refine wpList_app rfl (.tmp 19) (.tmp 24) _ _ rfl g0 28 1 24 _ Tryz.underlying51 info_bytes rfl (.slice (some ⟨g0+1,0,none⟩) 0 0) 0 [] rfl HROW.out rfl (src_row Tryz.underlying51 HSRC.out (BS_one _)) (by unfold maxLen;omega) (by omega) (by simp;omega) ?_);intro v6 w6 hg;have HG:=qH hg;clear hg)
 have hg5:=HS5.out
 have hgr:Grew (w4.alloc (.cells #[.slice (some ⟨w2.heap.size,0,none⟩) 8 8,.slice A5 11 c5] 28)) g0 28 1 (.slice (some ⟨g0+1,0,none⟩) 0 0) (([]:List BS).length+[(⟨magicP,some ⟨w2.heap.size,0,none⟩,8,8⟩:BS),⟨packP 1 [0,1],A5,11,c5⟩].length) (([]:List BS).map BS.cell++[(⟨magicP,some ⟨w2.heap.size,0,none⟩,8,8⟩:BS),⟨packP 1 [0,1],A5,11,c5⟩].map BS.cell) v6 w6:=HG.out
 have hO6:=(HO4.out.same hg5).app hgr (fun x hx=>by
  rcases List.mem_cons.1 hx with rfl | hx
  · exact HM4.out.same hg5
  obtain rfl:x=⟨packP 1 [0,1],A5,11,c5⟩:=by simpa using hx
  exact HP4.out.same hg5)
 have hS6:Same w w6:=(((HS2.out.trans HS3.out fun _ _ f=>f).trans (HS4.out.trans hg5 fun _ _ f=>f) fun _ _ f=>f)).trans hgr.upd fun b hb e=>by have e2:g0+1=b:=(by injection e);omega
 have hK6:Blk w6 g0 26 #[.slice AN nN cN,.slice AR nR cR]:=((HK3.out.same HS4.out).same hg5).upd hgr.upd fun e=>by have e2:g0+1=g0:=(by injection e);omega
 obtain ⟨A6,c6,rfl⟩:=own_form hO6.row
 have HO6:Hid (OwnBs w6 g0 (.slice A6 2 c6) [(⟨magicP,some ⟨w2.heap.size,0,none⟩,8,8⟩:BS),⟨packP 1 [0,1],A5,11,c5⟩]):=qH hO6
 have HS6:=qH hS6
 have HK6:=qH hK6
 clear hgr hO6 hS6 hK6 hg5 HG
 have HRw:Hid (RdG w6 (fun b=>b<g0) ⟨ns,AN,nN,cN,rs,AR,nR,cR⟩):=qH (by rw [<- hg0];exact (HRG.out.mono fun b hb _=>hb).same HS6.out)
 have hnn:nN<=1024:=by have h1:=HRt.out.nN;have h2:ns.length=nN:=HRw.out.nodes.len;simp only [GR.dat,List.length_map] at h1;omega
 have hnr:nR<=2048:=by have h1:=HRt.out.nR;have h2:rs.length=nR:=HRw.out.rels.len;simp only [GR.dat,List.length_map] at h1;omega
 clear HO2 HO3 HO4 HM4 HP4 HSRC HROW HS5 HVr HMg HSA HSB
 generalize w6.heap.size=z6 at *
 go_wp2_with fail
 go_loopg [3,6] nN (fun gh s3 s6 wr=>∃ (i:Nat) (A:Option Addr) (c:Nat) (l:List BS),nN-i=gh/\i<=nN/\s6=.int .i64 (i:Int)/\s3=.slice A (2+i) c/\Hid (l.length=2+i)/\Hid (OwnBs wr g0 (.slice A (2+i) c) l)/\Hid (l.map BS.data=magicP::packP 1 [0,1]::((ns.take i).map fun x=>packP 2 (encNd x.dat)))/\Hid (Same w wr)/\Hid (Blk wr g0 26 #[.slice AN nN cN,.slice AR nR cR]))
 case atStart=>exact ⟨0,A6,c6,_,rfl,Nat.zero_le _,rfl,rfl,qH rfl,HO6,qH rfl,HS6,HK6⟩
 clear HO6 HS6 HK6 HRw
 obtain ⟨i,A,c,l,rfl,hi,rfl,rfl,KL,KO,KD,KS,KK⟩:=hrel
 have q0:wr.cell? ⟨g0,0,none⟩=some (.slice AN nN cN):=KK.out.cell 0
 have q1:wr.cell? ⟨g0,1,none⟩=some (.slice AR nR cR):=KK.out.cell 1
 have HRw:Hid (RdG wr (fun b=>b<g0) ⟨ns,AN,nN,cN,rs,AR,nR,cR⟩):=qH (by rw [<- hg0];exact (HRG.out.mono fun b hb _=>hb).same KS.out)
 by_cases hin:i<nN
 case pos =>
  have j1:(i:Int)<(nN:Int):=by omega
  have hwi:IntKind.i64.wrap ((i:Int)+1)=((i+1:Nat):Int):=by rw [IntKind.wrap_i64];omega
  obtain ⟨b,o,x,hA,hb,hF,hx,hm,x0,x1,x2⟩:=HRw.out.nodes.at_ hin
  simp only at hA
  subst hA
  have hwr:=HRt.out.nd (x:=x.dat) (List.mem_map_of_mem hm)
  have hzx:=HZ.out.ns x hm
  have HND:=qH (rnodeData_spec wr x (HRw.out.nodes.lab x hm) (HRw.out.nodes.pro x hm) hwr.1 hzx.pro.fit hwr.2)
  have HWR:=qH hwr.2
  have HX:=qH hx
  obtain ⟨xi,xl,xAL,xnL,xcL,xp,xAP,xnP,xcP⟩:=x
  simp only at x0 x1 x2
  clear hwr hzx hm hx
  go_wp2_with fail
  refine HND.out.mono ?_
  rintro e5 w5 ⟨v5,rfl,hO5,hs5⟩
  obtain ⟨A7,c7,rfl⟩:=own_form hO5.out
  have HO5:=qH hO5.out
  have HS5:=qH hs5
  clear hO5 hs5 x0 x1 x2 q0 q1
  obtain ⟨D,hD⟩:∃ D,encNd (ND.dat ⟨xi,xl,xAL,xnL,xcL,xp,xAP,xnP,xcP⟩)=D:=⟨_,rfl⟩
  have HD:=qH hD
  have HO5':Hid (OwnB w5 wr.heap.size (.slice A7 D.length c7) D):=qH (by rw [<- hD];exact HO5.out)
  have hdl:D.length<=1048576:=by rw [<- hD];exact HWR.out
  rw [hD]
  clear HO5 hD
  generalize hdn:D.length=dn at *
  have HDn:=qH hdn
  have HBy:=qH (own_bytes_n HDn.out (by have h9:=HO5'.out;exact h9))
  go_wp2_with fail
  refine (rpacked_spec w5 2 (by omega) HBy.out (by omega)).mono ?_
  rintro e7 w7 ⟨v7,rfl,hO7,hs7⟩
  obtain ⟨A8,c8,rfl⟩:=own_form hO7.out
  have hpn:(packP 2 D).length=dn+9:=by rw [packP_len,HDn.out]
  rw [hpn]
  have HS7:Hid (Same wr w7):=qH (HS5.out.trans hs7 fun _ _ f=>f)
  have hz7:=HS7.out.size
  have hzr:=KS.out.size
  have hgw:g0<=w5.heap.size:=by have:=HS5.out.size;omega
  have HP7:Hid (OwnBs1 w7 g0 ⟨packP 2 D,A8,dn+9,c8⟩):=qH (OwnBs1.base (OwnBs1.of (by have h9:=hO7.out;rw [hpn] at h9;exact h9) hpn) hgw)
  have s8:=(Upd.refl (fun _=>False) w7).alloc (.cells #[.slice A8 (dn+9) c8] 28)
  have HROW:Hid ((w7.alloc (.cells #[.slice A8 (dn+9) c8] 28)).ownsRow g0 28 1 (.slice A (2+i) c) (2+i) (l.map BS.cell)):=qH (by have h9:=own_same ((KO.out.same HS7.out).same s8).row (Upd.refl _ _);rw [KL.out] at h9;exact h9)
  have HSRC:Hid (Row (w7.alloc (.cells #[.slice A8 (dn+9) c8] 28)) (fun b=>b=w7.heap.size) 1 (some ⟨w7.heap.size,0,none⟩) 1 1 ([(⟨packP 2 D,A8,dn+9,c8⟩:BS)].map BS.cell)):=qH (Row.of_blk (Blk.new w7 28 #[.slice A8 (dn+9) c8]) rfl (Nat.le_refl _) (by simp [maxLen]))
  have HS8:=qH s8
  clear hO7 hs7 s8
  go_wp2_with (at_builtin;go_must (refine wpList_app rfl (.tmp 33) (.tmp 41) _ _ rfl g0 28 1 24 _ Tryz.underlying51 info_bytes rfl (.slice A (2+i) c) (2+i) (l.map BS.cell) rfl HROW.out rfl (src_row Tryz.underlying51 HSRC.out (BS_one _)) (by unfold maxLen;omega) (by omega) (by simp;omega) ?_);intro v9 w9 hg;have HG:=qH hg;clear hg)
  have hk8:=((KK.out.same HS7.out).same HS8.out)
  have hO9:=((KO.out.same HS7.out).same HS8.out).app (l2:=[(⟨packP 2 D,A8,dn+9,c8⟩:BS)]) (by rw [KL.out];exact HG.out) (fun x hx=>by
   obtain rfl:x=⟨packP 2 D,A8,dn+9,c8⟩:=by simpa using hx
   exact HP7.out.same HS8.out)
  have hS9:Same w w9:=(KS.out.trans (HS7.out.trans HS8.out fun _ _ f=>f) fun _ _ f=>f).trans HG.out.upd fun b hb e=>by have:=(Off.lt (Off.of HROW.out) _ e).1;omega
  have hK9:=hk8.upd HG.out.upd fun e=>hk8.ne_own HROW.out (by decide) e
  obtain ⟨A9,c9,rfl⟩:=own_form hO9.row
  have hl9:(l++[(⟨packP 2 D,A8,dn+9,c8⟩:BS)]).length=2+(i+1):=by rw [List.length_append,KL.out];rfl
  rw [hl9] at hO9 ⊢
  have hD9:(l++[(⟨packP 2 D,A8,dn+9,c8⟩:BS)]).map BS.data=magicP::packP 1 [0,1]::((ns.take (i+1)).map fun x=>packP 2 (encNd x.dat)):=by
   rw [List.map_append,KD.out,List.take_add_one,HX.out]
   simp [HD.out]
  have HO9:=qH hO9
  have HS9:=qH hS9
  have HK9:=qH hK9
  have HD9:=qH hD9
  have HL9:=qH hl9
  clear hk8 hO9 hS9 hK9 hD9 hl9 HG
  go_roundg (nN-(i+1))
  case measure=>omega
  case rel=>exact ⟨i+1,A9,c9,_,rfl,by omega,by go_num,rfl,HL9,HO9,HD9,HS9,HK9⟩
 obtain rfl:i=nN:=by omega
 have KD1:Hid (l.map BS.data=magicP::packP 1 [0,1]::((ns.map fun x=>packP 2 (encNd x.dat))++((rs.take 0).map fun x=>packP 3 (encRl x.dat)))):=qH (by
  have h1:ns.length=i:=HRw.out.nodes.len
  rw [KD.out,List.take_of_length_le (by omega)]
  simp)
 clear hin hi
 have jn:¬ (i:Int)<(i:Int):=by omega
 generalize i=nN at *
 go_wp2_with fail
 go_loopg [3,7] nR (fun gh s3 s7 wr=>∃ (i:Nat) (A:Option Addr) (c:Nat) (l:List BS),nR-i=gh/\i<=nR/\s7=.int .i64 (i:Int)/\s3=.slice A (2+nN+i) c/\Hid (l.length=2+nN+i)/\Hid (OwnBs wr g0 (.slice A (2+nN+i) c) l)/\Hid (l.map BS.data=magicP::packP 1 [0,1]::((ns.map fun x=>packP 2 (encNd x.dat))++((rs.take i).map fun x=>packP 3 (encRl x.dat))))/\Hid (Same w wr)/\Hid (Blk wr g0 26 #[.slice AN nN cN,.slice AR nR cR]))
 case atStart=>exact ⟨0,A,c,l,rfl,Nat.zero_le _,rfl,rfl,KL,KO,KD1,KS,KK⟩
 clear KO KS KK KD KL HRw
 obtain ⟨i,A,c,l,rfl,hi,rfl,rfl,KL,KO,KD,KS,KK⟩:=hrel
 have q0:wr.cell? ⟨g0,0,none⟩=some (.slice AN nN cN):=KK.out.cell 0
 have q1:wr.cell? ⟨g0,1,none⟩=some (.slice AR nR cR):=KK.out.cell 1
 have HRw:Hid (RdG wr (fun b=>b<g0) ⟨ns,AN,nN,cN,rs,AR,nR,cR⟩):=qH (by rw [<- hg0];exact (HRG.out.mono fun b hb _=>hb).same KS.out)
 by_cases hin:i<nR
 case pos =>
  have j1:(i:Int)<(nR:Int):=by omega
  have hwi:IntKind.i64.wrap ((i:Int)+1)=((i+1:Nat):Int):=by rw [IntKind.wrap_i64];omega
  obtain ⟨b,o,x,hA,hb,hF,hx,hm,x0,x1,x2,x3,x4⟩:=HRw.out.rels.at_ hin
  simp only at hA
  subst hA
  have hwr:=HRt.out.rl (x:=x.dat) (List.mem_map_of_mem hm)
  have hzx:=HZ.out.rs x hm
  have HND:=qH (rrelData_spec wr x (HRw.out.rels.pro x hm) hwr.1 hzx.pro.fit hwr.2)
  have HWR:=qH hwr.2
  have HX:=qH hx
  obtain ⟨xi,xt,xs,xd,xp,xAP,xnP,xcP⟩:=x
  simp only at x0 x1 x2 x3 x4
  clear hwr hzx hm hx
  go_wp2_with fail
  refine HND.out.mono ?_
  rintro e5 w5 ⟨v5,rfl,hO5,hs5⟩
  obtain ⟨A7,c7,rfl⟩:=own_form hO5.out
  have HO5:=qH hO5.out
  have HS5:=qH hs5
  clear hO5 hs5 x0 x1 x2 x3 x4 q0 q1
  obtain ⟨D,hD⟩:∃ D,encRl (RL.dat ⟨xi,xt,xs,xd,xp,xAP,xnP,xcP⟩)=D:=⟨_,rfl⟩
  have HD:=qH hD
  have HO5':Hid (OwnB w5 wr.heap.size (.slice A7 D.length c7) D):=qH (by rw [<- hD];exact HO5.out)
  have hdl:D.length<=1048576:=by rw [<- hD];exact HWR.out
  rw [hD]
  clear HO5 hD
  generalize hdn:D.length=dn at *
  have HDn:=qH hdn
  have HBy:=qH (own_bytes_n HDn.out (by have h9:=HO5'.out;exact h9))
  go_wp2_with fail
  refine (rpacked_spec w5 3 (by omega) HBy.out (by omega)).mono ?_
  rintro e7 w7 ⟨v7,rfl,hO7,hs7⟩
  obtain ⟨A8,c8,rfl⟩:=own_form hO7.out
  have hpn:(packP 3 D).length=dn+9:=by rw [packP_len,HDn.out]
  rw [hpn]
  have HS7:Hid (Same wr w7):=qH (HS5.out.trans hs7 fun _ _ f=>f)
  have hz7:=HS7.out.size
  have hzr:=KS.out.size
  have hgw:g0<=w5.heap.size:=by have:=HS5.out.size;omega
  have HP7:Hid (OwnBs1 w7 g0 ⟨packP 3 D,A8,dn+9,c8⟩):=qH (OwnBs1.base (OwnBs1.of (by have h9:=hO7.out;rw [hpn] at h9;exact h9) hpn) hgw)
  have s8:=(Upd.refl (fun _=>False) w7).alloc (.cells #[.slice A8 (dn+9) c8] 28)
  have HROW:Hid ((w7.alloc (.cells #[.slice A8 (dn+9) c8] 28)).ownsRow g0 28 1 (.slice A (2+nN+i) c) (2+nN+i) (l.map BS.cell)):=qH (by have h9:=own_same ((KO.out.same HS7.out).same s8).row (Upd.refl _ _);rw [KL.out] at h9;exact h9)
  have HSRC:Hid (Row (w7.alloc (.cells #[.slice A8 (dn+9) c8] 28)) (fun b=>b=w7.heap.size) 1 (some ⟨w7.heap.size,0,none⟩) 1 1 ([(⟨packP 3 D,A8,dn+9,c8⟩:BS)].map BS.cell)):=qH (Row.of_blk (Blk.new w7 28 #[.slice A8 (dn+9) c8]) rfl (Nat.le_refl _) (by simp [maxLen]))
  have HS8:=qH s8
  clear hO7 hs7 s8
  go_wp2_with (at_builtin;go_must (refine wpList_app rfl (.tmp 50) (.tmp 58) _ _ rfl g0 28 1 24 _ Tryz.underlying51 info_bytes rfl (.slice A (2+nN+i) c) (2+nN+i) (l.map BS.cell) rfl HROW.out rfl (src_row Tryz.underlying51 HSRC.out (BS_one _)) (by unfold maxLen;omega) (by omega) (by simp;omega) ?_);intro v9 w9 hg;have HG:=qH hg;clear hg)
  have hk8:=((KK.out.same HS7.out).same HS8.out)
  have hO9:=((KO.out.same HS7.out).same HS8.out).app (l2:=[(⟨packP 3 D,A8,dn+9,c8⟩:BS)]) (by rw [KL.out];exact HG.out) (fun x hx=>by
   obtain rfl:x=⟨packP 3 D,A8,dn+9,c8⟩:=by simpa using hx
   exact HP7.out.same HS8.out)
  have hS9:Same w w9:=(KS.out.trans (HS7.out.trans HS8.out fun _ _ f=>f) fun _ _ f=>f).trans HG.out.upd fun b hb e=>by have:=(Off.lt (Off.of HROW.out) _ e).1;omega
  have hK9:=hk8.upd HG.out.upd fun e=>hk8.ne_own HROW.out (by decide) e
  obtain ⟨A9,c9,rfl⟩:=own_form hO9.row
  have hl9:(l++[(⟨packP 3 D,A8,dn+9,c8⟩:BS)]).length=2+nN+(i+1):=by rw [List.length_append,KL.out];rfl
  rw [hl9] at hO9 ⊢
  have hD9:(l++[(⟨packP 3 D,A8,dn+9,c8⟩:BS)]).map BS.data=magicP::packP 1 [0,1]::((ns.map fun x=>packP 2 (encNd x.dat))++((rs.take (i+1)).map fun x=>packP 3 (encRl x.dat))):=by
   rw [List.map_append,KD.out,List.take_add_one,HX.out]
   simp [HD.out]
  have HO9:=qH hO9
  have HS9:=qH hS9
  have HK9:=qH hK9
  have HD9:=qH hD9
  have HL9:=qH hl9
  clear hk8 hO9 hS9 hK9 hD9 hl9 HG
  go_roundg (nR-(i+1))
  case measure=>omega
  case rel=>exact ⟨i+1,A9,c9,_,rfl,by omega,by go_num,rfl,HL9,HO9,HD9,HS9,HK9⟩
 obtain rfl:i=nR:=by omega
 have KD1:Hid (l.map BS.data=headP (GR.dat ⟨ns,AN,nN,cN,rs,AR,i,cR⟩)):=qH (by
  have h1:rs.length=i:=HRw.out.rels.len
  rw [KD.out,List.take_of_length_le (by omega)]
  simp [headP,GR.dat]
  rfl)
 clear hin hi KD
 have jn:¬ (i:Int)<(i:Int):=by omega
 generalize i=nR at *
 have HTot:Hid ((l.map BS.data).flatten.length<=2900025):=qH (by
  have h1:=HRt.out.arc_len
  rw [arcP_split,List.length_append,<-KD1.out] at h1
  omega)
 have hO0:OwnB (wr.alloc (.cells #[] 5)) wr.heap.size (.slice (some ⟨wr.heap.size,0,none⟩) 0 0) []:=World.ownsRow_made wr #[] 0 (Nat.le_refl _) (Nat.zero_le _) rfl
 have hs0:=(Upd.refl (fun _=>False) wr).alloc (.cells #[] 5)
 have HO0:=qH hO0
 have HS0:=qH hs0
 clear hO0 hs0
 have hNle:2+nN+nR<=3074:=by omega
 go_wp2_with fail
 generalize wr=wB at *
 generalize hN:2+nN+nR=N at *
 go_loopg [8,9] N (fun gh s8 s9 wx=>∃ (i:Nat),N-i=gh/\i<=N/\s9=.int .i64 (i:Int)/\Hid (OwnB wx wB.heap.size s8 ((l.take i).map BS.data).flatten)/\Hid (Same wB wx))
 case atStart=>exact ⟨0,rfl,Nat.zero_le _,rfl,HO0,HS0⟩
 obtain ⟨i,rfl,hi,rfl,LO,LS⟩:=hrel
 by_cases hin:i<N
 case pos =>
  have j1:(i:Int)<(N:Int):=by omega
  have hwi:IntKind.i64.wrap ((i:Int)+1)=((i+1:Nat):Int):=by rw [IntKind.wrap_i64];omega
  obtain ⟨b,o,x,hA,hb,hx,hxm,hc⟩:=(KO.out.same LS.out).at_ KL.out hin
  subst hA
  have HBy:Hid (Bytes wr (fun b=>TyB wB g0 b) x.A x.n x.c x.data):=qH (Row.same (KO.out.each x hxm) LS.out)
  have HT:=qH (pcs_take_succ hx)
  have HTl:=qH (pcs_take_le l (i+1))
  have HLv:=qH LO.out.lt
  have hzw:=LS.out.size
  have hxl:x.data.length=x.n:=Bytes.len HBy.out
  rw [HT.out,List.length_append,hxl] at HTl
  obtain ⟨xd,xA,xn,xc⟩:=x
  simp only at HBy HT HTl hxl hc
  clear hx hxm
  go_wp2_with fail
  refine (put20_spec wr LO.out hzw HBy.out (fun b hb e=>by have:=(HLv.out b e).1;have:=hb.2.1;omega) (by have:=HTl.out;have:=HTot.out;omega)).mono ?_
  rintro e w5 ⟨v5,rfl,hg5⟩
  have HS5:=qH (LS.out.trans (S':=fun b=>u8.ownBlock=some b) hg5.upd fun b hb e=>by have:=(HLv.out b e).1;omega)
  have HO5:Hid (OwnB w5 wB.heap.size v5 ((l.take (i+1)).map BS.data).flatten):=qH (by rw [HT.out];exact hg5.own)
  clear hg5 hc
  go_wp2_with fail
  go_roundg (N-(i+1))
  case measure=>omega
  case rel=>exact ⟨i+1,rfl,by omega,by go_num,HO5,HS5⟩
 obtain rfl:i=N:=by omega
 have LO1:Hid (OwnB wr wB.heap.size u8 (l.map BS.data).flatten):=qH (by
  have h1:=LO.out
  rwa [List.take_of_length_le (by rw [KL.out];exact Nat.le_refl _)] at h1)
 have s0:Same wr wr.drew:=(Upd.refl _ wr).drew
 have KKr:=qH (KK.out.same LS.out)
 have KOr:=qH (KO.out.same LS.out)
 have KSr:=qH (KS.out.trans LS.out fun _ _ f=>f)
 have HRr:Hid (RdG wr (fun b=>b<g0) ⟨ns,AN,nN,cN,rs,AR,nR,cR⟩):=qH (by rw [<- hg0];exact (HRG.out.mono fun b hb _=>hb).same KSr.out)
 have HLen:Hid ((GR.dat ⟨ns,AN,nN,cN,rs,AR,nR,cR⟩).nodes.length=nN/\(GR.dat ⟨ns,AN,nN,cN,rs,AR,nR,cR⟩).rels.length=nR):=qH ⟨by simp only [GR.dat,List.length_map];exact HRr.out.nodes.len,by simp only [GR.dat,List.length_map];exact HRr.out.rels.len⟩
 obtain ⟨all,hall⟩:∃ all,(l.map BS.data).flatten=all:=⟨_,rfl⟩
 have HT:Hid (packP 4 (trailP nN nR (GR.dat ⟨ns,AN,nN,cN,rs,AR,nR,cR⟩).wt all)=tailP (GR.dat ⟨ns,AN,nN,cN,rs,AR,nR,cR⟩)):=qH (by
  unfold tailP
  rw [HLen.out.1,HLen.out.2,<-KD1.out,hall])
 rw [hall] at LO1
 have hal:all.length<=2900025:=by rw [<- hall];exact HTot.out
 obtain ⟨A7,c7,hv7⟩:=own_form LO1.out
 subst hv7
 have HBA:=qH (own_bytes LO1.out)
 have HWG:=qH (rweightD_on wr _ s0 ⟨ns,AN,nN,cN,rs,AR,nR,cR⟩ HRr.out HZ.out.fit rfl (by have:=HRt.out.wt;omega))
 have hwt:=HRt.out.wt
 have hKeep:Hid (∀ wx,Same wr wx->wx.cell? ⟨g0,0,none⟩=some (.slice AN nN cN)/\wx.cell? ⟨g0,1,none⟩=some (.slice AR nR cR)):=qH fun wx hs=>⟨(KKr.out.same hs).cell 0,(KKr.out.same hs).cell 1⟩
 have hzg:g0<=wr.heap.size:=by have:=KSr.out.size;omega
 clear hall LO KO KK KS LS HO0 HS0
 generalize (GR.dat ⟨ns,AN,nN,cN,rs,AR,nR,cR⟩).wt=wt at *
 generalize all.length=an at *
 go_upto_region 19 with fail
 refine wp_region_E 14 (fun wx=>wx.cell? ⟨g0,0,none⟩=some (.slice AN nN cN)/\wx.cell? ⟨g0,1,none⟩=some (.slice AR nR cR)) (by kernel_rfl) (hKeep.out _ s0) (fun hHeld=>?_)
 refine ESt.take (i:=0) (v:=?_) (by decide +kernel) rfl (by decide +kernel) (fun _ _ _ h=>h) (Or.inl ⟨by rfl,?_⟩) (by assumption) ?_
 rotate_left
 · intro wx hSw
   obtain ⟨h0,h1⟩:=hSw
   go_simp
   try with_reducible rfl
 simp only [Act.put]
 refine ESt.take (i:=1) (v:=?_) (by decide +kernel) rfl (by decide +kernel) (fun _ _ _ h=>h) (Or.inl ⟨by rfl,?_⟩) (by assumption) ?_
 rotate_left
 · intro wx hSw
   obtain ⟨h0,h1⟩:=hSw
   go_simp
   try with_reducible rfl
 simp only [Act.put]
 refine ESt.take (i:=2) (v:=?_) (by decide +kernel) rfl (by decide +kernel) (fun _ _ _ h=>h) (Or.inl ⟨by rfl,?_⟩) (by assumption) ?_
 rotate_left
 · intro wx hSw
   obtain ⟨h0,h1⟩:=hSw
   go_simp
   try with_reducible rfl
 simp only [Act.put]
 refine ESt.take (i:=3) (v:=?_) (by decide +kernel) rfl (by decide +kernel) (fun _ _ _ h=>h) (Or.inl ⟨by rfl,?_⟩) (by assumption) ?_
 rotate_left
 · intro wx hSw
   obtain ⟨h0,h1⟩:=hSw
   go_simp
   try with_reducible rfl
 simp only [Act.put]
 refine ESt.take (i:=4) (v:=?_) (by decide +kernel) rfl (by decide +kernel) (fun _ _ _ h=>h) (Or.inl ⟨by rfl,?_⟩) (by assumption) ?_
 rotate_left
 · intro wx hSw
   obtain ⟨h0,h1⟩:=hSw
   go_simp
   try with_reducible rfl
 simp only [Act.put]
 refine ESt.take (i:=5) (v:=?_) (by decide +kernel) rfl (by decide +kernel) (fun _ _ _ h=>h) (Or.inl ⟨by rfl,?_⟩) (by assumption) ?_
 rotate_left
 · intro wx hSw
   obtain ⟨h0,h1⟩:=hSw
   go_simp
   try with_reducible rfl
 simp only [Act.put]
 refine ESt.take (i:=6) (v:=?_) (by decide +kernel) rfl (by decide +kernel) (fun _ _ _ h=>h) (Or.inl ⟨by rfl,?_⟩) (by assumption) ?_
 rotate_left
 · intro wx hSw
   obtain ⟨h0,h1⟩:=hSw
   go_simp
   try with_reducible rfl
 simp only [Act.put]
 refine ESt.take (i:=7) (v:=?_) (by decide +kernel) rfl (by decide +kernel) (fun _ _ _ h=>h) (Or.inl ⟨by rfl,?_⟩) (by assumption) ?_
 rotate_left
 · intro wx hSw
   obtain ⟨h0,h1⟩:=hSw
   go_simp
   try with_reducible rfl
 simp only [Act.put]
 refine ESt.take (i:=9) (v:=?_) (by decide +kernel) rfl (by decide +kernel) (fun _ _ _ h=>h) (Or.inl ⟨by rfl,?_⟩) (by assumption) ?_
 rotate_left
 · intro wx hSw
   obtain ⟨h0,h1⟩:=hSw
   go_simp
   try with_reducible rfl
 simp only [Act.put]
 refine ESt.branch (rs:=[8]) (by decide +kernel) (by decide +kernel) ?_
 refine AllE.cons rfl (fun K hK=>?_) AllE.nil
 go_simp
 refine HWG.out.mono ?_
 rintro e wa ⟨rfl,-,hs1⟩
 have HS1:=qH hs1
 clear hs1
 go_wp2_with fail
 refine hK.out _ _ (hKeep.out _ HS1.out) (fun hHeld=>?_)
 clear hK K
 refine ESt.branch (rs:=[10]) (by decide +kernel) (by decide +kernel) ?_
 refine AllE.cons rfl (fun K hK=>?_) AllE.nil
 go_simp
 refine (rtrail_on wr wa HS1.out nN nR wt (by omega) (by omega) (by omega) HBA.out).mono ?_
 rintro e wb ⟨A2,c2,rfl,HO2,-,hs2⟩
 have HS2x:=qH hs2
 clear hs2
 go_wp2_with fail
 refine hK.out _ _ (hKeep.out _ HS2x.out) (fun hHeld=>?_)
 clear hK K
 refine ESt.branch (rs:=[11]) (by decide +kernel) (by decide +kernel) ?_
 refine AllE.cons rfl (fun K hK=>?_) AllE.nil
 go_simp
 refine (rpacked_spec wb 4 (by omega) (own_bytes_n (trailP_len _ _ _ _) HO2.out) (by omega)).mono ?_
 rintro e wc ⟨v3,rfl,HO3,hs3⟩
 obtain ⟨A3,c3,rfl⟩:=own_form HO3.out
 have HS3x:=qH (HS2x.out.trans hs3 fun _ _ f=>f)
 have hzc:=HS2x.out.size
 clear hs3
 rw [show (packP 4 (trailP nN nR wt all)).length=25 by rw [packP_len,trailP_len]] at HO3 ⊢
 go_wp2_with fail
 refine hK.out _ _ (hKeep.out _ HS3x.out) (fun hHeld=>?_)
 clear hK K
 have HT3:Hid (OwnBs1 wc g0 ⟨tailP (GR.dat ⟨ns,AN,nN,cN,rs,AR,nR,cR⟩),A3,25,c3⟩):=qH (OwnBs1.base (OwnBs1.of (by rw [<- HT.out];exact HO3.out) (tailP_len _)) (by omega))
 refine ESt.branch (rs:=[12]) (by decide +kernel) (by decide +kernel) ?_
 refine AllE.cons rfl (fun K hK=>?_) AllE.nil
 go_simp
 have sD:=(Upd.refl (fun _=>False) wc).alloc (.cells #[.slice A3 25 c3] 28)
 have sE:Same wr (wc.alloc (.cells #[.slice A3 25 c3] 28)):=HS3x.out.trans sD fun _ _ f=>f
 refine hK.out _ _ (hKeep.out _ sE) (fun hHeld=>?_)
 clear hK K
 refine ESt.branch (rs:=[13]) (by decide +kernel) (by decide +kernel) ?_
 refine AllE.cons rfl (fun K hK=>?_) AllE.nil
 have hrow:=own_same KOr.out.row sE
 rw [KL.out] at hrow
 have hsrc:Row (wc.alloc (.cells #[.slice A3 25 c3] 28)) (fun b=>b=wc.heap.size) 1 (some ⟨wc.heap.size,0,none⟩) 1 1 ([(⟨tailP (GR.dat ⟨ns,AN,nN,cN,rs,AR,nR,cR⟩),A3,25,c3⟩:BS)].map BS.cell):=Row.of_blk (Blk.new wc 28 #[.slice A3 25 c3]) rfl (Nat.le_refl _) (by simp [maxLen])
 have hze:=sE.size
 refine step_app rfl (.tmp 73) (.tmp 85) _ _ rfl g0 28 1 24 _ Tryz.underlying51 info_bytes rfl (.slice A i c) i (l.map BS.cell) rfl hrow rfl (src_row Tryz.underlying51 hsrc (BS_one _)) (by unfold maxLen;omega) (by omega) (by omega) ?_
 intro v9 w9 hg9
 have hO9:=(KOr.out.same sE).app (l2:=[(⟨tailP (GR.dat ⟨ns,AN,nN,cN,rs,AR,nR,cR⟩),A3,25,c3⟩:BS)]) (by rw [KL.out];exact hg9) (fun x hx=>by
  obtain rfl:x=⟨tailP (GR.dat ⟨ns,AN,nN,cN,rs,AR,nR,cR⟩),A3,25,c3⟩:=by simpa using hx
  exact HT3.out.same sD)
 have hS9:Same w w9:=(KSr.out.trans sE fun _ _ f=>f).trans hg9.upd fun b hb e=>by have:=(Off.lt (Off.of hrow) _ e).1;omega
 obtain ⟨A9,c9,rfl⟩:=own_form hO9.row
 have hK9:=((KKr.out.same sE).upd hg9.upd fun e=>(KKr.out.same sE).ne_own hrow (by decide) e)
 have HO9:=qH hO9
 have HS9:=qH hS9
 have hln:(l++[(⟨tailP (GR.dat ⟨ns,AN,nN,cN,rs,AR,nR,cR⟩),A3,25,c3⟩:BS)]).length=i+1:=by rw [List.length_append,KL.out];rfl
 have HLn:=qH hln
 rw [hln]
 refine hK.out _ _ ⟨hK9.cell 0,hK9.cell 1⟩ (fun hHeld=>?_)
 clear hK K hg9 hO9 hS9 hK9 hrow hsrc hln
 simp only [Act.put]
 refine ESt.last (by decide +kernel) (by decide +kernel) rfl (fun K hK=>?_) _
 go_simp
 refine hK.out _ _ ?_
 clear hK K hHeld
 go_wp2
 refine (HNR.out _ _).2 ⟨A9,c9,_,by rw [HLn.out];rfl,HO9.out,?_,HS9.out⟩
 rw [HP.out,List.map_append,KD1.out]
 rfl
def RwrRes (G:GGraph) (w:World) (e:Ending) (w':World):Prop :=
 ∃ v,e=.returned (.tuple #[v,.int .i64 (chkP G).1])/\OwnB w' w.heap.size v (pcsP G).flatten/\Same w w'
theorem rwrite_spec {F:Nat->Prop} (w:World) (g:GR) (h:RdG w F g) (hz:GSized g):Calls Tryz.prog 15 #[g.agg] w (RwrRes g.dat w):=by
 obtain ⟨e,at_,hE⟩:∃ e at_,chkP g.dat=(e,at_):=⟨_,_,rfl⟩
 have he1:(chkP g.dat).1=e:=by rw [hE]
 obtain ⟨L,hL⟩:∃ L,pcsP g.dat=L:=⟨_,rfl⟩
 have hLl:L.length<=100000/\L.flatten.length<=2900025:=by
  rw [<- hL]
  unfold pcsP
  split
  · rename_i h0
    have h1:=(chkP_right h0 (rd_fits h)).1
    refine ⟨?_,h1.arc_len⟩
    have h2:=h1.nN
    have h3:=h1.nR
    unfold piecesP headP
    simp
    omega
  simp
 have HNR:=qH (show ∀ x w',RwrRes g.dat w x w'↔∃ v,x=.returned (.tuple #[v,.int .i64 e])/\OwnB w' w.heap.size v L.flatten/\Same w w' from fun _ _=>by unfold RwrRes;rw [he1,hL])
 generalize RwrRes g.dat w=NRes at HNR ⊢
 have s1:=(Upd.refl (fun _=>False) w).alloc (.cells #[.slice g.AN g.nN g.cN,.slice g.AR g.nR g.cR] 26)
 have HB1:=qH (Blk.new w 26 #[.slice g.AN g.nN g.cN,.slice g.AR g.nR g.cR])
 have HS1:=qH s1
 have HRG:=qH (h.same s1)
 have HC:=qH (rcheckD_spec _ g (h.same s1) hz hE)
 have HL:=qH hL
 have HZ:=qH hz
 have HLl:=qH hLl
 clear h hz hE he1 s1 hL hLl
 obtain ⟨ns,AN,nN,cN,rs,AR,nR,cR⟩:=g
 simp only at HB1 HS1 HRG HC
 go_enter Tryz.func15,Tryz.ntmps15
 go_upto_region 1 with fail
 generalize w.alloc (.cells #[.slice AN nN cN,.slice AR nR cR] 26)=w1 at *
 generalize hg0:w.heap.size=g0 at *
 have c0:w1.cell? ⟨g0,0,none⟩=some (.slice AN nN cN):=HB1.out.cell 0
 have c1:w1.cell? ⟨g0,1,none⟩=some (.slice AR nR cR):=HB1.out.cell 1
 go_wp2_with fail
 refine HC.out.mono ?_
 rintro x w2 ⟨rfl,hs2⟩
 have hs3:=hs2.alloc (.cells #[] 5)
 have HO3:Hid (OwnB (w2.alloc (.cells #[] 5)) w2.heap.size (.slice (some ⟨w2.heap.size,0,none⟩) 0 0) []):=qH (World.ownsRow_made w2 #[] 0 (Nat.le_refl _) (Nat.zero_le _) rfl)
 have HS3:=qH hs3
 have HB3:=qH (HB1.out.same hs3)
 have hz2:=hs2.size
 have hz1:=HS1.out.size
 clear c0 c1 hs2 hs3
 go_upto_region 3 with fail
 generalize hw3:w2.alloc (.cells #[] 5)=w3 at *
 have hz3:w3.heap.size=w2.heap.size+1:=by rw [<- hw3,World.size_alloc]
 have c0:w3.cell? ⟨g0,0,none⟩=some (.slice AN nN cN):=HB3.out.cell 0
 have c1:w3.cell? ⟨g0,1,none⟩=some (.slice AR nR cR):=HB3.out.cell 1
 clear hw3
 go_wp2_with fail
 refine (rpieces_spec w3 ⟨ns,AN,nN,cN,rs,AR,nR,cR⟩ (HRG.out.same HS3.out) HZ.out).mono ?_
 rintro x w4 ⟨A,c,l,rfl,hO4,hD4,hs4⟩
 rw [HL.out] at hD4
 have hll:l.length<=100000:=by have h1:=HLl.out.1;rw [<- hD4,List.length_map] at h1;exact h1
 have HT:=qH (show (l.map BS.data).flatten.length<=2900025 by rw [hD4];exact HLl.out.2)
 have HD4:=qH hD4
 have HO4:=qH hO4
 have HS4:=qH hs4
 have HX4:Hid (OwnB w4 w2.heap.size (.slice (some ⟨w2.heap.size,0,none⟩) 0 0) []):=qH (own_same HO3.out hs4)
 have hz4:=hs4.size
 clear hD4 hO4 hs4 c0 c1 HL HLl HC
 generalize hN:l.length=N at *
 have HN:=qH hN
 clear hN
 go_wp2_with fail
 go_loopg [6,8] N (fun gh s6 s8 wx=>∃ (i:Nat),N-i=gh/\i<=N/\s8=.int .i64 (i:Int)/\Hid (GrewB w4 w2.heap.size (.slice (some ⟨w2.heap.size,0,none⟩) 0 0) ((l.take i).map BS.data).flatten s6 wx))
 case atStart=>exact ⟨0,rfl,Nat.zero_le _,rfl,qH (Grew.refl HX4.out)⟩
 obtain ⟨i,rfl,hi,rfl,LG⟩:=hrel
 have LU:Hid (Upd (fun b=>b=w2.heap.size) w4 wr):=qH (LG.out.upd.mono fun b _ e=>by injection e with e;exact e.symm)
 have hO:Hid (OwnBs wr w3.heap.size (.slice A N c) l):=qH ⟨own_upd HO4.out.row LU.out fun b hb e=>by have:=(HO4.out.row.lt b hb).1;omega,fun x hx=>(HO4.out.each x hx).upd LU.out fun b hb e=>by have:=hb.1;omega⟩
 by_cases hin:i<N
 case pos =>
  have j1:(i:Int)<(N:Int):=by omega
  have hwi:IntKind.i64.wrap ((i:Int)+1)=((i+1:Nat):Int):=by rw [IntKind.wrap_i64];omega
  obtain ⟨b,o,x,hA,hb,hx,hxm,hc⟩:=hO.out.at_ HN.out hin
  subst hA
  have HBy:Hid (Bytes wr (fun b=>TyB w4 w3.heap.size b) x.A x.n x.c x.data):=qH (Row.upd (HO4.out.each x hxm) LU.out fun b hb e=>by have:=hb.1;omega)
  have HTS:=qH (pcs_take_succ hx)
  have HTl:=qH (pcs_take_le l (i+1))
  have HLv:=qH LG.out.own.lt
  have HLb:=qH LG.out.block
  have hzw:=LU.out.size
  have hxl:x.data.length=x.n:=Bytes.len HBy.out
  rw [HTS.out,List.length_append,hxl] at HTl
  obtain ⟨xd,xA,xn,xc⟩:=x
  simp only at HBy HTS HTl hxl hc
  clear hx hxm
  go_wp2_with fail
  refine (put20_spec wr LG.out.own (by omega) HBy.out (fun b hb e=>by
   have h1:=hb.1
   have h2:=hb.2.1
   rcases HLb.out with h3 | ⟨g,h3,h4⟩
   · rw [h3] at e;injection e with e;have e2:w2.heap.size=b:=e;omega
   rw [h3] at e;injection e with e;omega) (by have:=HTl.out;have:=HT.out;omega)).mono ?_
  rintro x w5 ⟨v5,rfl,hg5⟩
  have HG5:Hid (GrewB w4 w2.heap.size (.slice (some ⟨w2.heap.size,0,none⟩) 0 0) ((l.take (i+1)).map BS.data).flatten v5 w5):=qH (by rw [HTS.out];exact LG.out.next hg5)
  clear hg5 hc
  go_wp2_with fail
  go_roundg (N-(i+1))
  case measure=>omega
  case rel=>exact ⟨i+1,rfl,by omega,by go_num,HG5⟩
 obtain rfl:i=N:=by omega
 have LO1:Hid (OwnB wr w2.heap.size u6 L.flatten):=qH (by
  have h1:=LG.out.own
  rwa [List.take_of_length_le (by rw [HN.out];exact Nat.le_refl _),HD4.out] at h1)
 have hS:Same w wr:=((HS1.out.trans HS3.out fun _ _ f=>f).trans HS4.out fun _ _ f=>f).trans LU.out fun b hb e=>by omega
 have hSw:=qH hS
 clear hS LG
 go_wp2
 exact (HNR.out _ _).2 ⟨_,rfl,own_base LO1.out (by omega),hSw.out⟩
end Go.Proofs.YtkopcinhbjimiaaGreatDoor
namespace Go.Proofs.YtkopcinhbjimiaaGreatDoor
open Go.ChangeShapes Go.WideShapes Go.ChangeAt Go.RowKit
theorem archiveWrites_walk {F:Nat->Prop} (w:World) (hN:Nib w) {g:GR} (h:RdG w F g) (hz:GSized g) :
 Calls Tryz.prog 4 #[g.agg] w fun e w'=>e=.returned (.bool true)/\Same w w':=by
 have s1:=(Upd.refl (fun _=>False) w).alloc (.cells #[.slice g.AN g.nN g.cN,.slice g.AR g.nR g.cR] 26)
 have HB1:=qH (Blk.new w 26 #[.slice g.AN g.nN g.cN,.slice g.AR g.nR g.cR])
 have HS1:=qH s1
 have HRG:=qH (h.same s1)
 have HZ:=qH hz
 have HN:=qH (hN.same s1)
 obtain ⟨G,hG⟩:∃ G,g.dat=G:=⟨_,rfl⟩
 have HG:=qH hG
 have HRt:=qH fun (h0:(chkP G).1=0)=>(chkP_right h0 (hG ▸ rd_fits h)).1
 clear h hz s1 hN hG
 obtain ⟨ns,AN,nN,cN,rs,AR,nR,cR⟩:=g
 simp only at HB1 HS1 HRG
 go_enter Tryz.func4,Tryz.ntmps4
 go_upto_region 1 with fail
 generalize w.alloc (.cells #[.slice AN nN cN,.slice AR nR cR] 26)=w1 at *
 generalize hg0:w.heap.size=g0 at *
 go_wp2_with fail
 refine (speaksA_spec w1 HN.out).mono ?_
 rintro e w2 ⟨rfl,hs2⟩
 have HS2:=qH hs2
 have HB2:=qH (HB1.out.same hs2)
 have c0:w2.cell? ⟨g0,0,none⟩=some (.slice AN nN cN):=HB2.out.cell 0
 have c1:w2.cell? ⟨g0,1,none⟩=some (.slice AR nR cR):=HB2.out.cell 1
 clear hs2
 go_wp2_with fail
 refine (copyG_spec w2 ⟨ns,AN,nN,cN,rs,AR,nR,cR⟩ (HRG.out.same HS2.out) HZ.out).mono ?_
 rintro e w3 ⟨⟨ns',AN',nN',cN',rs',AR',nR',cR'⟩,rfl,HD,HO,hs3⟩
 have hs4:=hs3.alloc (.cells #[.slice AN' nN' cN',.slice AR' nR' cR'] 26)
 have HB4:=qH (Blk.new w3 26 #[.slice AN' nN' cN',.slice AR' nR' cR'])
 have HB14:=qH (HB2.out.same hs4)
 have HO4:=qH (HO.out.same ((Upd.refl _ w3).alloc (.cells #[.slice AN' nN' cN',.slice AR' nR' cR'] 26)))
 have HS4:=qH (HS2.out.trans hs4 fun _ _ f=>f)
 have HZ':=qH (gsized_dat HRG.out HO.out.rd HZ.out HD.out)
 clear c0 c1 hs3 hs4 HO
 go_upto_region 4 with fail
 generalize w3.alloc (.cells #[.slice AN' nN' cN',.slice AR' nR' cR'] 26)=w4 at *
 generalize w3.heap.size=g3 at *
 have c0:w4.cell? ⟨g3,0,none⟩=some (.slice AN' nN' cN'):=HB4.out.cell 0
 have c1:w4.cell? ⟨g3,1,none⟩=some (.slice AR' nR' cR'):=HB4.out.cell 1
 go_wp2_with fail
 refine (writeF_spec w4 ⟨ns',AN',nN',cN',rs',AR',nR',cR'⟩ HO4.out.rd HZ'.out (HN.out.same HS4.out)).mono ?_
 rintro e w5 ⟨v5,rfl,hs5,h51,h52⟩
 rw [HD.out,HG.out] at h51 h52 ⊢
 obtain ⟨A5,n5,c5,rfl,hb5⟩:=awr_bytes h51 h52
 have HB5:=qH hb5
 have HS5:=qH (HS4.out.trans hs5 fun _ _ f=>f)
 have HBa:=qH (HB14.out.same hs5)
 have HBb:=qH (HB4.out.same hs5)
 have HO5:=qH (HO4.out.same hs5)
 have d0:w5.cell? ⟨g0,0,none⟩=some (.slice AN nN cN):=HBa.out.cell 0
 have d1:w5.cell? ⟨g0,1,none⟩=some (.slice AR nR cR):=HBa.out.cell 1
 clear c0 c1 hs5 h51 h52 hb5
 go_wp2_with fail
 refine (rwrite_spec w5 ⟨ns,AN,nN,cN,rs,AR,nR,cR⟩ (HRG.out.same HS5.out) HZ.out).mono ?_
 rintro e w6 ⟨v6,rfl,hO6,hs6⟩
 rw [HG.out] at hO6 ⊢
 obtain ⟨A6,c6,rfl⟩:=own_form hO6
 have HO6:=qH hO6
 have HS6:=qH (HS5.out.trans hs6 fun _ _ f=>f)
 have HB6:=qH (HB5.out.same hs6)
 have HBc:=qH (HBa.out.same hs6)
 have HBd:=qH (HBb.out.same hs6)
 have HO7:=qH (HO5.out.same hs6)
 have d0:w6.cell? ⟨g0,0,none⟩=some (.slice AN nN cN):=HBc.out.cell 0
 have d1:w6.cell? ⟨g0,1,none⟩=some (.slice AR nR cR):=HBc.out.cell 1
 have c0:w6.cell? ⟨g3,0,none⟩=some (.slice AN' nN' cN'):=HBd.out.cell 0
 have c1:w6.cell? ⟨g3,1,none⟩=some (.slice AR' nR' cR'):=HBd.out.cell 1
 have HSM:=qH (same20_spec w6 HB6.out (own_bytes hO6) (decide_eq_true rfl))
 have HSG:=qH (rsameG_spec w6 ⟨ns',AN',nN',cN',rs',AR',nR',cR'⟩ ⟨ns,AN,nN,cN,rs,AR,nR,cR⟩ HO7.out.rd (HRG.out.same HS6.out) ((sameG_iff _ _).2 HD.out))
 generalize (chkP G).1=er at *
 generalize (pcsP G).flatten.length=pl at *
 clear hO6 hs6
 go_wp2_with fail
 refine HSM.out.mono ?_
 rintro e w7 ⟨rfl,rfl⟩
 go_wp2_with fail
 refine HSG.out.mono ?_
 rintro e w8 ⟨rfl,hs8⟩
 have HS8:=qH (HS6.out.trans hs8 fun _ _ f=>f)
 clear hs8
 go_wp2
 go_ret
 exact ⟨rfl,HS1.out.trans HS8.out fun _ _ f=>f⟩
theorem archiveWrites_lifted (os:Os) (started:os.Started) (H:Type) (enc:TypeId×Value->H) :
 ReturnsInHanded {} Tryz.checked os 4 .any (fun w args=>(Rows.archiveWritesSpec.pre enc Tryz.prog Tryz.f4 [] false w args/\laidMetH Tryz.prog laidT w)/\sizedMet enc Tryz.prog Tryz.f4 (OpenSpec.ofChange Rows.archiveWritesSpec) false w args)
  (Rows.archiveWritesSpec.post enc Tryz.prog Tryz.f4 false true false false):=by
 refine returnsInHanded_of_change_and (C:=Tryz.checked) (X:=fun w _=>laidMetH Tryz.prog laidT w) (fun _ _ _ hh h=>h.of_heap hh) ownTry started (by kernel_rfl) Tryz.func4
  (ChangeSpec.witness_shaped (enc:=enc) (C:=Tryz.checked) (os:=os) (X:=fun w _=>laidMetH Tryz.prog laidT w) false (World.doorLaid Tryz.prog 400 os) #[.agg #[.slice none 0 0,.slice none 0 0]] 8 rfl (World.shaped_of_RefB (by kernel_rfl) (by kernel_rfl)) (by kernel_rfl) (by kernel_rfl) (by kernel_rfl) (door_met os _)) ?_
 intro W base args ds gs before hval hW _ hsz hL _
 obtain ⟨p,hA⟩:=whole_args (P:=Tryz.prog) (ts:=[26]) (by rw [Tryz.params4]) hW
 obtain ⟨v0,d0,rfl,rfl,h0⟩:=trodAll_one hA
 obtain ⟨g0,rfl,hr0,z0⟩:=open_graph (hval 0 26 v0 (by rw [Tryz.params4];rfl) rfl) h0 (weights_of hsz (j:=0) (by rw [Tryz.params4];rfl) rfl)
 refine (archiveWrites_walk W (nib_of_laid hL) hr0 z0).mono ?_
 rintro e W' ⟨rfl,hs⟩
 exact ⟨_,rfl,law_post laidTry (ts:=[26]) (by rw [Tryz.params4]) (tb:=4) (by kernel_rfl) Tryz.underlying4 (by kernel_rfl) rfl (by rintro rfl;exact ⟨rfl,rfl,rfl⟩) hW hs.below⟩
theorem archiveWrites_said:Rows.ArchiveWritesSaid :=
 OpenClaim.holds_of_wide 4 Tryz.f4 rfl rfl rfl rfl rfl rfl rfl ⟨rfl,rfl,rfl,rfl,rfl⟩ rfl rfl rfl rfl rfl (by kernel_rfl) Tryz.func4 (by kernel_rfl)
  (of_decide_eq_true (by kernel_rfl)) (by unfold Func.isWrapper;first | (rw [if_pos (by decide +kernel)];kernel_rfl) | (rw [if_neg (by decide +kernel)];exact ⟨rfl,rfl⟩))
  (fun os started H enc _=>archiveWrites_lifted os started H enc)
theorem archiveWrites_holds:Rows.ArchiveWritesCardSaid :=
 Claim7.holds_tied_plain_at .later [] [.data] true (true, "4982e14d7e6b816143ef947475410f28ce78841f78923bc3c4f68e82710c8bf7") false
  archiveWrites_said (fun _ h=>by cases h) (by kernel_rfl) (fun _ h=>by cases h) archiveWrites_row_tie rfl ⟨rfl,rfl⟩ (by kernel_rfl) rfl
  (fun f fn hf hfn=>by
    obtain rfl:f=4:=Option.some.inj ((show Tryz.prog.funcNamed "satchel/satchellaw20.ArchiveWrites" = some 4 by kernel_rfl).symm.trans hf) |>.symm
    obtain rfl:fn=Tryz.f4:=(Option.some.inj (Tryz.func4.symm.trans hfn)).symm
    exact ⟨by kernel_rfl,fun j t ht=>by
     rw [Tryz.params4] at ht
     have hm:t∈[26]:=by simpa using Array.mem_of_getElem? ht
     have hall:([26].all fun u=>!Tryz.prog.wantsStandIn u)=true:=by kernel_rfl
     exact (show Tryz.prog.wantsStandIn t=false by simpa using List.all_eq_true.1 hall t hm)⟩)
  (by kernel_rfl)
end Go.Proofs.YtkopcinhbjimiaaGreatDoor
