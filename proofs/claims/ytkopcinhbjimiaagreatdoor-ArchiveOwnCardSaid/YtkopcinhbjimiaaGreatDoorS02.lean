/- Texts that the claim leans on: walks and plain laws, function by function. -/
import Derived.Test.YtkopcinhbjimiaaGreatDoorProg
import Derived.Lib.Hide
import Derived.WalkLawsBesides
import Derived.Test.YtkopcinhbjimiaaGreatDoorS01
set_option maxRecDepth 100000
set_option maxHeartbeats 16000000
namespace Go.Proofs.YtkopcinhbjimiaaGreatDoor
open Go.RowKit
abbrev OwnB (w:World) (B:Nat) (v:Value) (bs:List UInt8):Prop:=w.ownsRow B 5 1 v bs.length (bs.map u8v)
abbrev Zbw (w:World) (B:Nat) (v:Value) (bs:List UInt8) (v':Value) (w':World):Prop:=Grew w B 5 1 v bs.length (bs.map u8v) v' w'
theorem ZaG {w:World} {B:Nat} {A:Option Addr} {m c:Nat} {bs:List UInt8} (h:OwnB w B (.slice A m c) bs):Bytes w (fun b=>A=some ⟨b,0,none⟩/\B<=b) A m c bs:=by
 obtain ⟨A',c',hv⟩:=Zac h
 injection hv with h1 h2 h3
 subst h1
 subst h2
 subst h3
 exact Row.of_own h
def Zao (n:Int):Bool:=n==1 || n==2 || n==4 || n==8
theorem Zcp (n:Int) (w:World):Calls Tryz.prog 117 #[.int .i64 n] w fun e w'=>e=.returned (.bool (Zao n))/\w=w':=by
 by_cases h1:n=1
 · subst h1
   go_enter Tryz.func117,Tryz.ntmps117
   go_wp2
   go_ret
   exact ⟨rfl,rfl⟩
 by_cases h2:n=2
 · subst h2
   go_enter Tryz.func117,Tryz.ntmps117
   go_wp2
   go_ret
   exact ⟨rfl,rfl⟩
 by_cases h4:n=4
 · subst h4
   go_enter Tryz.func117,Tryz.ntmps117
   go_wp2
   go_ret
   exact ⟨rfl,rfl⟩
 by_cases h8:n=8
 · subst h8
   go_enter Tryz.func117,Tryz.ntmps117
   go_wp2
   go_ret
   exact ⟨rfl,rfl⟩
 have e:Zao n=false:=by simp [Zao,h1,h2,h4,h8]
 go_enter Tryz.func117,Tryz.ntmps117
 go_wp2
 go_ret
 exact ⟨by simp [e],rfl⟩
theorem Zpl (bs:List UInt8) (c:UInt8):be (bs++[c])=be bs*256+c.toNat:=by simp [be]
theorem Zeg (bs:List UInt8):be bs<256 ^ bs.length:=by
 suffices h:∀ (l:List UInt8) (n k:Nat),n<256 ^ k->l.foldl (fun n c=>n*256+c.toNat) n<256 ^ (k+l.length) from by
  have:=h bs 0 0 (by simp)
  simpa [be] using this
 intro l
 induction l with
 | nil=>intro n k h;simpa using h
 | cons c l ih =>
   intro n k h
   rw [List.foldl_cons,List.length_cons,show k+(l.length+1)=(k+1)+l.length from by omega]
   refine ih _ _ ?_
   rw [Nat.pow_succ]
   have:=c.toNat_lt
   omega
theorem Zev (bs:List UInt8) (k:Nat) (h:k<bs.length):bs.take (k+1)=bs.take k++[bs[k]]:=List.take_succ_eq_append_getElem h
theorem Zpm (x c:Nat) (hc:c<256) (h:x*256+c<=18446744073709551615) :
 bits BinOp.or IntKind.u64 (IntKind.u64.wrap ((x:Int)*256)) (IntKind.u64.wrap (c:Int))=((x*256+c:Nat):Int):=by
 have e1:IntKind.u64.wrap ((x:Int)*256)=((x*256:Nat):Int):=by
  rw [IntWalk.u64_in _ ⟨by omega,by omega⟩];omega
 have e2:IntKind.u64.wrap (c:Int)=(c:Int):=IntWalk.u64_in _ ⟨by omega,by omega⟩
 rw [e1,e2]
 rw [u64_or_nat (x*256) c (show x*256<18446744073709551616 from by omega) (show c<18446744073709551616 from by omega)]
 have h1:c<2 ^ 8:=hc
 have h2:=Nat.two_pow_add_eq_or_of_lt h1 x
 rw [show 2 ^ 8*x=x*256 from by omega] at h2
 rw [h2]
theorem Zgi {F:Nat->Prop} {A:Option Addr} {n c:Nat} {bs:List UInt8} (w:World) (hb:Bytes w F A n c bs) (h8:n<=8) :
 Calls Tryz.prog 186 #[.slice A n c] w fun e w'=>e=.returned (.int .u64 (be bs:Int))/\w=w':=by
 have HL:=qH hb.len
 go_enter Tryz.func186,Tryz.ntmps186
 go_wp2
 go_loop [2,7] (fun v i=>∃ k:Nat,k<=n/\i=.int .i64 k/\v=.int .u64 (be (bs.take k):Int)) (fun _ i=>n-(intOf i).toNat)
 case atStart=>exact ⟨0,Nat.zero_le _,rfl,rfl⟩
 obtain ⟨k,hk,rfl,rfl⟩:=hrel
 by_cases hlt:k<n
 · obtain ⟨b,o,rfl,hbl,_,hc⟩:=hb.at_ hlt
   have hkl:k<bs.length:=by rw [HL.out];exact hlt
   go_wp2
   go_round
   case rel =>
    refine ⟨k+1,by omega,by go_num,?_⟩
    have h1:=Zeg (bs.take k)
    have h2:(bs.take k).length=k:=by simp;omega
    rw [h2] at h1
    have h3:256 ^ k<=256 ^ 7:=Nat.pow_le_pow_right (by omega) (by omega)
    have h4:=(bs[k]'hkl).toNat_lt
    rw [Zev bs k hkl,Zpl,Zpm _ _ (by omega) (by omega)]
   case measure=>simp [intOf];omega
 have hkn:k=n:=by omega
 go_wp2
 go_ret
 refine ⟨?_,rfl⟩
 rw [List.take_of_length_le (by rw [HL.out];omega)]
 simp
theorem ZaR:(Tryz.prog.info? 5).map (fun i=>(i.zero,i.size,i.bytes))=some (some (.int .u8 0),1,1):=by kernel_rfl
theorem ZhX (w:World) (a:Option Addr) (n c:Nat):(binOp .eql 28 (.slice a n c) (.slice none 0 0)).run Tryz.prog w=.ok (.bool a.isNone) w :=
 Lib.run_eql_slice_nil (P:=Tryz.prog) w 28 5 a n c 0 0 Tryz.underlying28
theorem ZdM {F:Nat->Prop} {A:Option Addr} {n c:Nat} {bs:List UInt8} (w:World) (hb:Bytes w F A n c bs) (hn:n<=140737488355328) :
 Calls Tryz.prog 119 #[.slice A n c] w fun e w'=>∃ v',e=.returned v'/\OwnB w' w.heap.size v' bs/\Same w w':=by
 have HL:=qH hb.len
 have heq:=ZhX
 cases A with
 | none =>
   have hc:=hb.nil rfl
   have hle:=Row.le hb
   obtain rfl:n=0:=by omega
   obtain rfl:c=0:=by omega
   have hbs:bs=[]:=List.eq_nil_of_length_eq_zero hb.len
   subst hbs
   clear hc
   go_enter Tryz.func119,Tryz.ntmps119
   go_wp2
   go_ret
   exact ⟨_,rfl,World.ownsRow_nil _ _ _ _,Upd.refl _ _⟩
 | some a =>
   have hmax:n<=maxLen:=by have:=Row.le hb;have:=Row.max hb;omega
   go_enter Tryz.func119,Tryz.ntmps119
   go_wp2_with (at_builtin;go_must (refine Zag rfl (.tmp 5) (.tmp 6) _ _ rfl w.heap.size _ _ _ _ Tryz.underlying28 ZaR rfl _ 0 [] rfl (World.ownsRow_made w #[] 0 (Nat.le_refl _) (Nat.zero_le _) rfl) rfl (Zal Tryz.underlying28 (Row.same hb ((Upd.refl _ w).alloc _)) (ZcC bs)) (by omega) (by omega) (by simp) ?_);intro v' w' happ)
   go_ret
   refine ⟨v',rfl,?_,?_⟩
   · have:=happ.own
     unfold OwnB
     rw [HL.out]
     simpa using this
   exact ((Upd.refl _ w).alloc _).trans happ.upd fun b hb hv=>by
    have:=Option.some.inj hv
    simp only at this
    omega
def ZbA (k:Int):Int:=if 4<k then k-4 else k
theorem Zew (n:Int) (w:World) (h0 : -9223372036854775808<=n) (h1:n<=9223372036854775807) :
 Calls Tryz.prog 191 #[.int .i64 n] w fun e w'=>e=.returned (.int .i64 (ZbA n))/\w=w':=by
 unfold ZbA
 by_cases h:4<n
 · go_enter Tryz.func191,Tryz.ntmps191
   go_wp2
   go_ret
   exact ⟨rfl,rfl⟩
 go_enter Tryz.func191,Tryz.ntmps191
 go_wp2
 go_ret
 exact ⟨rfl,rfl⟩
theorem Zog (n:Int):IntKind.u64.wrap n=(u64 n:Int):=by
 rw [IntKind.wrap_u64]
 unfold u64
 omega
theorem ZkY (n:Int):u64 n<18446744073709551616:=by
 unfold u64
 omega
theorem Zpn (n:Int):Zat 3 n=if bits BinOp.and IntKind.u64 (IntKind.u64.wrap n / 4503599627370496) 2047=2047/\¬ IntKind.u64.wrap (IntKind.u64.wrap n*4096)=0/\(IntKind.u64.wrap n != 9221120237041090560)=true then 43 else 0:=by
 rw [Zog n]
 have hlt:=ZkY n
 have e1:((u64 n:Int) / 4503599627370496)=((u64 n / 4503599627370496:Nat):Int):=by omega
 have e2:bits BinOp.and IntKind.u64 ((u64 n:Int) / 4503599627370496) 2047=((u64 n / 4503599627370496 % 2048:Nat):Int):=by
  rw [e1]
  have h:=u64_and_nat (u64 n / 4503599627370496) 2047 (by omega) (by decide)
  rw [show ((2047:Nat):Int)=2047 from rfl] at h
  rw [h]
  have h2:=Nat.and_two_pow_sub_one_eq_mod (u64 n / 4503599627370496) 11
  rw [show 2 ^ 11-1=2047 from rfl,show 2 ^ 11=2048 from rfl] at h2
  rw [h2]
 have e3:IntKind.u64.wrap ((u64 n:Int)*4096)=((u64 n % 4503599627370496*4096:Nat):Int):=by
  rw [IntKind.wrap_u64]
  omega
 rw [e2,e3]
 unfold Zat nanB
 generalize u64 n=U at *
 simp only [Bool.and_eq_true,beq_iff_eq,bne_iff_ne,ne_eq]
 by_cases h1:U / 4503599627370496 % 2048=2047
 · by_cases h2:U % 4503599627370496=0
   · simp [h1,h2]
   by_cases h3:U=9221120237041090560
   · rw [if_neg (by omega),if_neg (by omega),if_neg (by omega)]
   rw [if_neg (by omega),if_pos ⟨trivial,⟨h1,h2⟩,h3⟩,if_pos ⟨by omega,by omega,by omega⟩]
 rw [if_neg (by omega),if_neg (fun h=>h1 h.2.1.1),if_neg (fun h=>h1 (by omega))]
theorem Zcy (k n:Int) (w:World) (h0:1<=k) (h1:k<=8) :
 Calls Tryz.prog 169 #[.int .i64 k,.int .i64 n] w fun e w'=>e=.returned (.int .i64 (Zat (ZbA k) n))/\w=w':=by
 have hb:=Zew k
 generalize ZbA k=K at hb ⊢
 have HB:=qH hb
 clear hb
 by_cases hk:K=1
 · subst hk
   go_enter Tryz.func169,Tryz.ntmps169
   go_wp2_with fail
   refine (HB.out _ (by omega) (by omega)).mono ?_
   rintro e w' ⟨rfl,rfl⟩
   go_wp2
   all_goals
    go_ret
    refine ⟨?_,rfl⟩
    clear HB
   · rename_i h
     simp [Zat,h]
   · rename_i _ h
     simp only [bne_iff_ne] at h
     simp [Zat,h.1,h.2]
   rename_i _ h
   simp only [bne_eq_false_iff_eq] at h
   rcases h with h | h <;> simp [Zat,h]
 by_cases hk3:K=3
 · subst hk3
   go_enter Tryz.func169,Tryz.ntmps169
   go_wp2_with fail
   refine (HB.out _ (by omega) (by omega)).mono ?_
   rintro e w' ⟨rfl,rfl⟩
   go_wp2
   all_goals
    go_ret
    refine ⟨?_,rfl⟩
    rw [Zpn]
    clear HB
   · rename_i h1 h2
     rw [if_neg (fun h=>h.2.1 h2)]
     rfl
   · rename_i h1 h2 h3
     rw [if_pos ⟨h1,h2,h3.2⟩]
     rfl
   · rename_i h1 h2 h3
     rw [if_neg (fun h=>by rcases h3 with h3 | h3;exact absurd h3 (by simpa using h2);rw [h.2.2] at h3;cases h3)]
     rfl
   rename_i h1
   rw [if_neg (fun h=>h1 h.1)]
   rfl
 have hz:Zat K n=0:=by simp [Zat,hk,hk3]
 rw [hz]
 clear hz
 go_enter Tryz.func169,Tryz.ntmps169
 go_wp2_with fail
 refine (HB.out _ (by omega) (by omega)).mono ?_
 rintro e w' ⟨rfl,rfl⟩
 go_wp2
 go_ret
 exact ⟨rfl,rfl⟩
structure Zcg (w:World) (F:Nat->Prop) (A1:Option Addr) (n1 c1:Nat) (A2:Option Addr) (n2 c2:Nat) (g:GVal):Prop where
 nums:WRow w F 1 A1 n1 c1 (g.nums.map (Value.int .i64))
 texts:WRow w F 1 A2 n2 c2 (g.texts.map Value.string)
 kind : -9223372036854775808<=g.kind/\g.kind<=9223372036854775807
 num : -9223372036854775808<=g.num/\g.num<=9223372036854775807
 range:∀ n∈g.nums,-9223372036854775808<=n/\n<=9223372036854775807
section
variable {w w':World} {F F':Nat->Prop} {A1 A2:Option Addr} {n1 c1 n2 c2:Nat} {g:GVal}
theorem Zcg.upd {S:Nat->Prop} (h:Zcg w F A1 n1 c1 A2 n2 c2 g) (hu:Upd S w w') (hs:∀ b,F b->¬ S b):Zcg w' F A1 n1 c1 A2 n2 c2 g :=
 ⟨h.nums.upd hu hs,h.texts.upd hu hs,h.kind,h.num,h.range⟩
theorem Zcg.same (h:Zcg w F A1 n1 c1 A2 n2 c2 g) (hu:Same w w'):Zcg w' F A1 n1 c1 A2 n2 c2 g:=h.upd hu fun _ _ f=>f
theorem Zcg.mono (h:Zcg w F A1 n1 c1 A2 n2 c2 g) (hf:∀ b,b<w.heap.size->F b->F' b):Zcg w F' A1 n1 c1 A2 n2 c2 g :=
 ⟨h.nums.mono hf,h.texts.mono hf,h.kind,h.num,h.range⟩
theorem Zcg.len1 (h:Zcg w F A1 n1 c1 A2 n2 c2 g):g.nums.length=n1:=by have:=h.nums.len;simpa using this
theorem Zcg.len2 (h:Zcg w F A1 n1 c1 A2 n2 c2 g):g.texts.length=n2:=by have:=h.texts.len;simpa using this
end
abbrev GVal.val (g:GVal) (A1:Option Addr) (n1 c1:Nat) (A2:Option Addr) (n2 c2:Nat):Value :=
 .agg #[.int .i64 g.kind,.int .i64 g.num,.string g.text,.slice A1 n1 c1,.slice A2 n2 c2]
theorem Zex (s:ByteArray):(s.size != 0)=!s.toList.isEmpty:=by
 rw [ByteArray.toList_eq]
 have:s.data.toList.length=s.size:=by
  rw [Array.length_toList]
  rfl
 rw [<- this]
 cases s.data.toList <;> simp
theorem Zbl {a b:Bool} (h:a=b):Ending.returned (.bool a)=.returned (.bool b):=by rw [h]
theorem ZaS {k:IntKind} {a b:Int} (h:a=b):Ending.returned (.int k a)=.returned (.int k b):=by rw [h]
def badB (kind:Int) (num:Int) (text n1 n2:Nat):Bool :=
 (num != 0 && decide (3<kind)) || (text != 0 && kind != 4) || (n1 != 0 && (decide (kind<5) || kind==8)) || (n2 != 0 && kind != 8)
theorem ZjP {A1 A2:Option Addr} {n1 c1 n2 c2:Nat} {kind num:Int} {text:ByteArray} (w:World) (h0:1<=kind) (h1:kind<=8) :
 Calls Tryz.prog 166 #[.agg #[.int .i64 kind,.int .i64 num,.string text,.slice A1 n1 c1,.slice A2 n2 c2]] w fun e w' =>
  e=.returned (.bool (badB kind num text.size n1 n2))/\Same w w':=by
 have hb:=Zew kind
 by_cases h8:kind=8
 · subst h8
   rw [show ZbA 8=4 from rfl] at hb
   have HS:=qH hb
   clear hb
   go_enter Tryz.func166,Tryz.ntmps166
   go_wp2_with fail
   refine (HS.out _ (by omega) (by omega)).mono ?_
   rintro e w' ⟨rfl,rfl⟩
   go_wp2
   all_goals
    go_ret
    refine ⟨Zbl ?_,(Upd.refl _ _).alloc _⟩
    clear HS
    unfold badB
    rw [Zex]
    simp [*]
 by_cases h4:kind=4
 · subst h4
   rw [show ZbA 4=4 from rfl] at hb
   have HS:=qH hb
   clear hb h8
   go_enter Tryz.func166,Tryz.ntmps166
   go_wp2_with fail
   refine (HS.out _ (by omega) (by omega)).mono ?_
   rintro e w' ⟨rfl,rfl⟩
   go_wp2
   all_goals
    go_ret
    refine ⟨Zbl ?_,(Upd.refl _ _).alloc _⟩
    clear HS
    unfold badB
    rw [Zex]
    simp [*]
 have hK:(ZbA kind==4)=false:=by unfold ZbA;split <;> simp <;> omega
 generalize ZbA kind=K at hb hK
 have HS:=qH hb
 clear hb
 by_cases hl:4<kind
 · have e1:¬ kind<5:=by omega
   have e2:3<kind:=by omega
   go_enter Tryz.func166,Tryz.ntmps166
   go_wp2_with fail
   refine (HS.out _ (by omega) (by omega)).mono ?_
   rintro e w' ⟨rfl,rfl⟩
   go_wp2
   all_goals
    go_ret
    refine ⟨Zbl ?_,(Upd.refl _ _).alloc _⟩
    clear HS
    unfold badB
    rw [Zex]
    simp [*]
 have e1:kind<5:=by omega
 have e2:¬ 3<kind:=by omega
 go_enter Tryz.func166,Tryz.ntmps166
 go_wp2_with fail
 refine (HS.out _ (by omega) (by omega)).mono ?_
 rintro e w' ⟨rfl,rfl⟩
 go_wp2
 all_goals
  go_ret
  refine ⟨Zbl ?_,(Upd.refl _ _).alloc _⟩
  clear HS
  unfold badB
  rw [Zex]
  simp [*]
def ZiB (w:World) (B:Nat) (v:Value) (g:GVal):Prop :=
 ∃ v1 v2,v=.agg #[.int .i64 g.kind,.int .i64 g.num,.string g.text,v1,v2] /\
  w.ownsRow B 2 1 v1 g.nums.length (g.nums.map (Value.int .i64))/\w.ownsRow B 9 1 v2 g.texts.length (g.texts.map Value.string)
theorem ZeV (l:List UInt8) (k:Nat) (hk:k<=8):be (l.take k)<18446744073709551616:=by
 have h:=Zeg (l.take k)
 have h2:256 ^ (l.take k).length<=256 ^ 8:=Nat.pow_le_pow_right (by omega) (by rw [List.length_take];omega)
 have h3:256 ^ 8=18446744073709551616:=by decide
 omega
theorem Zgj (n:Nat) (h:n<18446744073709551616) : -9223372036854775808<=i64 n/\i64 n<=9223372036854775807:=by
 unfold i64
 split <;> omega
theorem ZeW {k:Int} {l r:List UInt8} {n:Int} (h:pNum k l=.ok (n,r)):r.length<=l.length:=by
 unfold pNum at h
 simp only at h
 generalize (if k=1 then 1 else 8)=W at h
 split at h
 · cases h
 split at h
 · cases h
 injection h with h
 injection h with _ h
 rw [<- h,List.length_drop]
 omega
theorem Zeh {l r:List UInt8} {s:ByteArray} (h:ZbW l=.ok (s,r)):r.length<=l.length:=by
 unfold ZbW at h
 split at h
 · cases h
 split at h
 · cases h
 split at h
 · cases h
 injection h with h
 injection h with _ h
 rw [<- h,List.length_drop,List.length_drop]
 omega
theorem ZjQ {k:Int} {l r:List UInt8} {g:GVal} (h:Zeu k l=.ok (g,r)):g.kind=k/\g.num=0/\g.text=⟨#[]⟩:=by
 unfold Zeu at h
 split at h
 · cases h
 split at h
 · cases h
 split at h
 · split at h
   · cases h
   injection h with h
   injection h with h _
   subst h
   exact ⟨rfl,rfl,rfl⟩
 split at h
 · cases h
 injection h with h
 injection h with h _
 subst h
 exact ⟨rfl,rfl,rfl⟩
theorem Zgk {α:Type} {p:List UInt8->Except Int (α×List UInt8)} (hp:∀ l x r,p l=.ok (x,r)->r.length<=l.length):∀ (n:Nat) (l:List UInt8) (xs:List α) (r:List UInt8),Zbu p n l=.ok (xs,r)->r.length<=l.length:=by
 intro n
 induction n with
 | zero =>
   intro l xs r h
   simp only [Zbu] at h
   injection h with h
   injection h with _ h
   rw [h];exact Nat.le_refl _
 | succ n ih =>
   intro l xs r h
   simp only [Zbu] at h
   split at h
   · cases h
   rename_i x r1 h1
   split at h
   · cases h
   rename_i ys r2 h2
   injection h with h
   injection h with _ h
   subst h
   exact Nat.le_trans (ih _ _ _ h2) (hp _ _ _ h1)
theorem Zho {l r:List UInt8} {g:GVal} (h:pVal l=.ok (g,r)):r.length<=l.length:=by
 unfold pVal at h
 split at h
 · cases h
 rename_i c l0
 have hl:l0.length<=(c::l0).length:=by simp
 split at h
 · cases h
 split at h
 · unfold Zeu at h
   split at h
   · cases h
   rename_i c2 l2
   have hl2:l2.length<=(c::c2::l2).length:=by simp;omega
   split at h
   · cases h
   split at h
   · split at h
     · cases h
     rename_i xs r2 h2
     injection h with h
     injection h with _ h
     subst h
     exact Nat.le_trans (Zgk (fun _ _ _ hh=>Zeh hh) _ _ _ _ h2) hl2
   split at h
   · cases h
   rename_i xs r2 h2
   injection h with h
   injection h with _ h
   subst h
   exact Nat.le_trans (Zgk (fun _ _ _ hh=>ZeW hh) _ _ _ _ h2) hl2
 split at h
 · split at h
   · cases h
   rename_i t r2 h2
   injection h with h
   injection h with _ h
   subst h
   exact Nat.le_trans (Zeh h2) hl
 split at h
 · cases h
 rename_i t r2 h2
 injection h with h
 injection h with _ h
 subst h
 exact Nat.le_trans (ZeW h2) hl
theorem Zey {l:List UInt8} {e:Int} (h:pVal l=.error e):decP l=(Zof,0,e):=by unfold decP;rw [h]
theorem Zgl {l r:List UInt8} {g:GVal} (h:pVal l=.ok (g,r)):decP l=(g,l.length-r.length,0):=by unfold decP;rw [h]
section
variable {w w0:World} {g:Nat} {t:TypeId} {a0 a1 a2 a3 a4:Value}
theorem Blk.five (h:Blk w g t #[a0,a1,a2,a3,a4]):w.cell? ⟨g,0,none⟩=some a0/\w.cell? ⟨g,1,none⟩=some a1/\w.cell? ⟨g,2,none⟩=some a2/\w.cell? ⟨g,3,none⟩=some a3/\w.cell? ⟨g,4,none⟩=some a4 :=
 ⟨h.cell 0,h.cell 1,h.cell 2,h.cell 3,h.cell 4⟩
theorem Blk.five_free (h:Blk w g t #[a0,a1,a2,a3,a4]):w.frozen? ⟨g,0,none⟩=false/\w.frozen? ⟨g,1,none⟩=false/\w.frozen? ⟨g,2,none⟩=false/\w.frozen? ⟨g,3,none⟩=false/\w.frozen? ⟨g,4,none⟩=false :=
 ⟨h.frozen 0,h.frozen 1,h.frozen 2,h.frozen 3,h.frozen 4⟩
abbrev put5 (w:World) (g:Nat) (u0 u1 u2 u3 u4:Value):World :=
 ((((w.setCell ⟨g,0,none⟩ u0).setCell ⟨g,1,none⟩ u1).setCell ⟨g,2,none⟩ u2).setCell ⟨g,3,none⟩ u3).setCell ⟨g,4,none⟩ u4
theorem Blk.put5 (h:Blk w g t #[a0,a1,a2,a3,a4]) (u0 u1 u2 u3 u4:Value):Blk (put5 w g u0 u1 u2 u3 u4) g t #[u0,u1,u2,u3,u4] :=
 ((((h.put 0 u0).put 1 u1).put 2 u2).put 3 u3).put 4 u4
theorem Upd.put5 (h:Upd (fun b=>b=g) w0 w) (u0 u1 u2 u3 u4:Value):Upd (fun b=>b=g) w0 (put5 w g u0 u1 u2 u3 u4) :=
 ((((h.put1 u0).put1 u1).put1 u2).put1 u3).put1 u4
end
def decD (n:Nat) (P:GVal×Nat×Int):GVal×Int:=if P.2.2=0/\P.2.1<n then (Zof,11) else (P.1,P.2.2)
structure GVal.Fits (g:GVal):Prop where
 kind : -9223372036854775808<=g.kind/\g.kind<=9223372036854775807
 num : -9223372036854775808<=g.num/\g.num<=9223372036854775807
 range:∀ n∈g.nums,-9223372036854775808<=n/\n<=9223372036854775807
section
variable {α:Type} {f:α->List Value} {k:Nat}
theorem ZbX (hf:∀ x,(f x).length=k) (l:List α):(l.flatMap f).length=l.length*k:=by
 induction l with
 | nil=>simp
 | cons x l ih=>rw [List.flatMap_cons,List.length_append,ih,hf,List.length_cons,Nat.succ_mul];omega
theorem Zgm (hf:∀ x,(f x).length=k):∀ (l:List α) (i j:Nat) (h:i<l.length),j<k->(l.flatMap f)[i*k+j]?=(f l[i])[j]?:=by
 intro l
 induction l with
 | nil=>intro i j h;simp at h
 | cons x l ih =>
   intro i j h hj
   rw [List.flatMap_cons]
   cases i with
   | zero =>
     rw [List.getElem?_append_left (by rw [hf];omega)]
     simp
   | succ i =>
     have e:(i+1)*k+j-(f x).length=i*k+j:=by rw [hf,Nat.succ_mul];omega
     rw [List.getElem?_append_right (by rw [hf,Nat.succ_mul];omega),e,ih i j (by simpa using h) hj]
     rfl
theorem WRow.atF {w:World} {F:Nat->Prop} {A:Option Addr} {n c:Nat} {l:List α} (h:WRow w F k A n c (l.flatMap f)) (hf:∀ x,(f x).length=k) (hk:0<k) {i:Nat} (hi:i<n) :
 ∃ b o x,A=some ⟨b,o,none⟩/\b<w.heap.size/\F b/\l[i]?=some x/\x∈l/\∀ j u,(f x)[j]?=some u->w.cell? ⟨b,o+i*k+j,none⟩=some u:=by
 have hl:l.length=n:=by
  have h1:=h.len
  rw [ZbX hf] at h1
  exact Nat.eq_of_mul_eq_mul_right hk h1
 have hil:i<l.length:=by omega
 obtain ⟨b,o,hA,hb,hF,hc⟩:=(h.row (by omega)).atK hi
 refine ⟨b,o,l[i],hA,hb,hF,List.getElem?_eq_getElem hil,List.getElem_mem hil,fun j u hu=>?_⟩
 have hj:j<k:=by
  have:=(List.getElem?_eq_some_iff.1 hu).1
  rw [hf] at this
  exact this
 obtain ⟨v,h1,h2⟩:=hc j hj
 rw [Zgm hf l i j hil hj,hu] at h1
 cases h1
 rw [Nat.add_assoc]
 exact h2
theorem WRow.lenF {w:World} {F:Nat->Prop} {A:Option Addr} {n c:Nat} {l:List α} (h:WRow w F k A n c (l.flatMap f)) (hf:∀ x,(f x).length=k) (hk:0<k):l.length=n:=by
 have h1:=h.len
 rw [ZbX hf] at h1
 exact Nat.eq_of_mul_eq_mul_right hk h1
end
structure GPr where
 key:ByteArray
 val:GVal
structure PR where
 key:ByteArray
 g:GVal
 A1:Option Addr
 n1:Nat
 c1:Nat
 A2:Option Addr
 n2:Nat
 c2:Nat
def PR.cells (x:PR):List Value:=[.string x.key,.int .i64 x.g.kind,.int .i64 x.g.num,.string x.g.text,.slice x.A1 x.n1 x.c1,.slice x.A2 x.n2 x.c2]
def PR.dat (x:PR):GPr:=⟨x.key,x.g⟩
theorem PR.six (x:PR):x.cells.length=6:=rfl
structure ZaO where
 id:Int
 labels:List ByteArray
 props:List GPr
structure ND where
 id:Int
 labels:List ByteArray
 AL:Option Addr
 nL:Nat
 cL:Nat
 props:List PR
 AP:Option Addr
 nP:Nat
 cP:Nat
def ND.cells (x:ND):List Value:=[.int .i64 x.id,.slice x.AL x.nL x.cL,.slice x.AP x.nP x.cP]
def ND.dat (x:ND):ZaO:=⟨x.id,x.labels,x.props.map PR.dat⟩
theorem ND.three (x:ND):x.cells.length=3:=rfl
structure GRel where
 id:Int
 type:ByteArray
 src:Int
 dst:Int
 props:List GPr
structure RL where
 id:Int
 type:ByteArray
 src:Int
 dst:Int
 props:List PR
 AP:Option Addr
 nP:Nat
 cP:Nat
def RL.cells (x:RL):List Value:=[.int .i64 x.id,.string x.type,.int .i64 x.src,.int .i64 x.dst,.slice x.AP x.nP x.cP]
def RL.dat (x:RL):GRel:=⟨x.id,x.type,x.src,x.dst,x.props.map PR.dat⟩
theorem RL.five (x:RL):x.cells.length=5:=rfl
abbrev ZfT (n:Int):Prop := -9223372036854775808<=n/\n<=9223372036854775807
structure RdPs (w:World) (F:Nat->Prop) (A:Option Addr) (n c:Nat) (ps:List PR):Prop where
 row:WRow w F 6 A n c (ps.flatMap PR.cells)
 val:∀ x∈ps,Zcg w F x.A1 x.n1 x.c1 x.A2 x.n2 x.c2 x.g
structure RdNs (w:World) (F:Nat->Prop) (A:Option Addr) (n c:Nat) (ns:List ND):Prop where
 row:WRow w F 3 A n c (ns.flatMap ND.cells)
 lab:∀ x∈ns,WRow w F 1 x.AL x.nL x.cL (x.labels.map Value.string)
 pro:∀ x∈ns,RdPs w F x.AP x.nP x.cP x.props
 id:∀ x∈ns,ZfT x.id
structure RdRs (w:World) (F:Nat->Prop) (A:Option Addr) (n c:Nat) (rs:List RL):Prop where
 row:WRow w F 5 A n c (rs.flatMap RL.cells)
 pro:∀ x∈rs,RdPs w F x.AP x.nP x.cP x.props
 id:∀ x∈rs,ZfT x.id/\ZfT x.src/\ZfT x.dst
section
variable {w w':World} {F F':Nat->Prop} {A:Option Addr} {n c:Nat} {ps:List PR} {ns:List ND} {rs:List RL}
theorem RdPs.len (h:RdPs w F A n c ps):ps.length=n:=h.row.lenF PR.six (by omega)
theorem RdPs.upd {S:Nat->Prop} (h:RdPs w F A n c ps) (hu:Upd S w w') (hs:∀ b,F b->¬ S b):RdPs w' F A n c ps:=⟨h.row.upd hu hs,fun x hx=>(h.val x hx).upd hu hs⟩
theorem RdPs.same (h:RdPs w F A n c ps) (hu:Same w w'):RdPs w' F A n c ps:=h.upd hu fun _ _ f=>f
theorem RdPs.mono (h:RdPs w F A n c ps) (hf:∀ b,b<w.heap.size->F b->F' b):RdPs w F' A n c ps:=⟨h.row.mono hf,fun x hx=>(h.val x hx).mono hf⟩
theorem RdNs.len (h:RdNs w F A n c ns):ns.length=n:=h.row.lenF ND.three (by omega)
theorem RdNs.upd {S:Nat->Prop} (h:RdNs w F A n c ns) (hu:Upd S w w') (hs:∀ b,F b->¬ S b):RdNs w' F A n c ns:=⟨h.row.upd hu hs,fun x hx=>(h.lab x hx).upd hu hs,fun x hx=>(h.pro x hx).upd hu hs,h.id⟩
theorem RdNs.same (h:RdNs w F A n c ns) (hu:Same w w'):RdNs w' F A n c ns:=h.upd hu fun _ _ f=>f
theorem RdNs.mono (h:RdNs w F A n c ns) (hf:∀ b,b<w.heap.size->F b->F' b):RdNs w F' A n c ns:=⟨h.row.mono hf,fun x hx=>(h.lab x hx).mono hf,fun x hx=>(h.pro x hx).mono hf,h.id⟩
theorem RdRs.len (h:RdRs w F A n c rs):rs.length=n:=h.row.lenF RL.five (by omega)
theorem RdRs.upd {S:Nat->Prop} (h:RdRs w F A n c rs) (hu:Upd S w w') (hs:∀ b,F b->¬ S b):RdRs w' F A n c rs:=⟨h.row.upd hu hs,fun x hx=>(h.pro x hx).upd hu hs,h.id⟩
theorem RdRs.same (h:RdRs w F A n c rs) (hu:Same w w'):RdRs w' F A n c rs:=h.upd hu fun _ _ f=>f
theorem RdRs.mono (h:RdRs w F A n c rs) (hf:∀ b,b<w.heap.size->F b->F' b):RdRs w F' A n c rs:=⟨h.row.mono hf,fun x hx=>(h.pro x hx).mono hf,h.id⟩
theorem RdPs.at_ (h:RdPs w F A n c ps) {i:Nat} (hi:i<n):∃ b o x,A=some ⟨b,o,none⟩/\b<w.heap.size/\F b/\ps[i]?=some x/\x∈ps /\
 w.cell? ⟨b,o+i*6,none⟩=some (.string x.key)/\w.cell? ⟨b,o+i*6+1,none⟩=some (.int .i64 x.g.kind)/\w.cell? ⟨b,o+i*6+2,none⟩=some (.int .i64 x.g.num)/\w.cell? ⟨b,o+i*6+3,none⟩=some (.string x.g.text) /\
 w.cell? ⟨b,o+i*6+4,none⟩=some (.slice x.A1 x.n1 x.c1)/\w.cell? ⟨b,o+i*6+5,none⟩=some (.slice x.A2 x.n2 x.c2):=by
 obtain ⟨b,o,x,hA,hb,hF,hx,hm,hc⟩:=h.row.atF PR.six (by omega) hi
 exact ⟨b,o,x,hA,hb,hF,hx,hm,hc 0 _ rfl,hc 1 _ rfl,hc 2 _ rfl,hc 3 _ rfl,hc 4 _ rfl,hc 5 _ rfl⟩
theorem RdNs.at_ (h:RdNs w F A n c ns) {i:Nat} (hi:i<n):∃ b o x,A=some ⟨b,o,none⟩/\b<w.heap.size/\F b/\ns[i]?=some x/\x∈ns /\
 w.cell? ⟨b,o+i*3,none⟩=some (.int .i64 x.id)/\w.cell? ⟨b,o+i*3+1,none⟩=some (.slice x.AL x.nL x.cL)/\w.cell? ⟨b,o+i*3+2,none⟩=some (.slice x.AP x.nP x.cP):=by
 obtain ⟨b,o,x,hA,hb,hF,hx,hm,hc⟩:=h.row.atF ND.three (by omega) hi
 exact ⟨b,o,x,hA,hb,hF,hx,hm,hc 0 _ rfl,hc 1 _ rfl,hc 2 _ rfl⟩
theorem RdRs.at_ (h:RdRs w F A n c rs) {i:Nat} (hi:i<n):∃ b o x,A=some ⟨b,o,none⟩/\b<w.heap.size/\F b/\rs[i]?=some x/\x∈rs /\
 w.cell? ⟨b,o+i*5,none⟩=some (.int .i64 x.id)/\w.cell? ⟨b,o+i*5+1,none⟩=some (.string x.type)/\w.cell? ⟨b,o+i*5+2,none⟩=some (.int .i64 x.src)/\w.cell? ⟨b,o+i*5+3,none⟩=some (.int .i64 x.dst)/\w.cell? ⟨b,o+i*5+4,none⟩=some (.slice x.AP x.nP x.cP):=by
 obtain ⟨b,o,x,hA,hb,hF,hx,hm,hc⟩:=h.row.atF RL.five (by omega) hi
 exact ⟨b,o,x,hA,hb,hF,hx,hm,hc 0 _ rfl,hc 1 _ rfl,hc 2 _ rfl,hc 3 _ rfl,hc 4 _ rfl⟩
end
structure RS where
 left:List UInt8
 err:Int
def RS.take (s:RS) (n:Int) (right:Bool):List UInt8×RS :=
 if s.err=0 then
  if right=false\/n<0 then ([],⟨[],2⟩)
  else if (s.left.length:Int)<n then ([],⟨[],10⟩)
  else (s.left.take n.toNat,⟨s.left.drop n.toNat,0⟩)
 else ([],s)
theorem RS.take_short {left:List UInt8} {k:Nat} (h:left.length<k):RS.take ⟨left,0⟩ k true=([],⟨[],10⟩):=by
 have h1:¬ ((k:Int)<0):=by omega
 simp [RS.take,h1,h]
theorem RS.take_ok {left:List UInt8} {k:Nat} (h:k<=left.length):RS.take ⟨left,0⟩ k true=(left.take k,⟨left.drop k,0⟩):=by
 have h1:¬ ((k:Int)<0):=by omega
 have h2:¬ (left.length<k):=by omega
 simp [RS.take,h1,h2]
theorem RS.take_err {s:RS} (h:s.err≠0) (n:Int) (right:Bool):s.take n right=([],s):=by simp [RS.take,h]
def Rdr (w:World) (F:Nat->Prop) (r:Nat) (s:RS):Prop :=
 ∃ A n c,Blk w r 235 #[.slice A n c,.int .i64 s.err]/\Bytes w F A n c s.left
theorem Rdr.upd {w w':World} {F S:Nat->Prop} {r:Nat} {s:RS} (h:Rdr w F r s) (hu:Upd S w w') (hr:¬ S r) (hf:∀ b,F b->¬ S b):Rdr w' F r s:=by
 obtain ⟨A,n,c,hb,hy⟩:=h
 exact ⟨A,n,c,hb.upd hu hr,hy.upd hu hf⟩
theorem Rdr.same {w w':World} {F:Nat->Prop} {r:Nat} {s:RS} (h:Rdr w F r s) (hu:Same w w'):Rdr w' F r s:=h.upd hu (fun f=>f) fun _ _ f=>f
theorem Rdr.lt {w:World} {F:Nat->Prop} {r:Nat} {s:RS} (h:Rdr w F r s):r<w.heap.size:=by
 obtain ⟨A,n,c,hb,hy⟩:=h
 exact hb.lt
theorem Zbm {w:World} {F:Nat->Prop} {r:Nat} {s:RS} (h:Rdr w F r s) :
 Calls Tryz.prog 199 #[.pointer (some ⟨r,0,none⟩)] w fun e w'=>e=.returned (.int .i64 s.err)/\w=w':=by
 obtain ⟨A,n,c,hb,hy⟩:=h
 have h1:=hb.cell 1
 simp only [List.getElem?_toArray,List.getElem?_cons_succ,List.getElem?_cons_zero] at h1
 go_enter Tryz.func199,Tryz.ntmps199
 go_wp2
 go_ret
 exact ⟨rfl,rfl⟩
theorem ZiC {w:World} {F:Nat->Prop} {r:Nat} {s:RS} (h:Rdr w F r s) :
 Calls Tryz.prog 203 #[.pointer (some ⟨r,0,none⟩)] w fun e w'=>e=.returned (.int .i64 s.left.length)/\w=w':=by
 obtain ⟨A,n,c,hb,hy⟩:=h
 have h1:=hb.cell 0
 simp only [List.getElem?_toArray,List.getElem?_cons_zero] at h1
 have HL:=qH hy.len
 go_enter Tryz.func203,Tryz.ntmps203
 go_wp2
 go_ret
 exact ⟨by rw [HL.out];rfl,rfl⟩
theorem ZiD {w:World} {F:Nat->Prop} {r:Nat} {s:RS} (h:Rdr w F r s) (hF:¬ F r) (n:Int) (right:Bool) :
 Calls Tryz.prog 187 #[.pointer (some ⟨r,0,none⟩),.int .i64 n,.bool right] w fun e w' =>
  ∃ A' n' c',e=.returned (.slice A' n' c')/\Bytes w' F A' n' c' (s.take n right).1/\Rdr w' F r (s.take n right).2/\Upd (fun b=>b=r) w w':=by
 have hrdr:=h
 obtain ⟨A,m,c,hb,hy⟩:=h
 have h0:=hb.cell 0
 simp only [List.getElem?_toArray,List.getElem?_cons_zero] at h0
 have h1:=hb.cell 1
 simp only [List.getElem?_toArray,List.getElem?_cons_succ,List.getElem?_cons_zero] at h1
 have f0:=hb.frozen 0
 have f1:=hb.frozen 1
 have HL:=qH hy.len
 by_cases he:s.err=0
 · obtain ⟨left,err⟩:=s
   obtain rfl:err=0:=he
   simp only at h1 HL
   by_cases ha:right=false\/n<0
   · have e1:RS.take ⟨left,0⟩ n right=([],⟨[],2⟩):=by simp [RS.take,ha]
     rw [e1]
     have hr:right=false\/(right=true/\n<0):=by
      rcases ha with ha | ha
      · exact .inl ha
      cases right
      · exact .inl rfl
      exact .inr ⟨rfl,ha⟩
     clear ha e1
     rcases hr with rfl | ⟨rfl,hn⟩
     all_goals
      go_enter Tryz.func187,Tryz.ntmps187
      go_wp2
      go_ret
      exact ⟨none,0,0,rfl,Bytes.nil_ _ _,⟨none,0,0,(hb.put 1 _).put 0 _,Bytes.nil_ _ _⟩,((Upd.refl _ w).put1 _).put1 _⟩
   have hr:right=true:=by cases right <;> simp_all
   subst hr
   have hn:¬ n<0:=fun hh=>ha (.inr hh)
   obtain ⟨k,rfl⟩:∃ k:Nat,n=k:=⟨n.toNat,by omega⟩
   clear ha
   by_cases hk:m<k
   · have e1:RS.take ⟨left,0⟩ k true=([],⟨[],10⟩):=by
      exact RS.take_short (by rw [HL.out];exact hk)
     rw [e1]
     clear e1
     go_enter Tryz.func187,Tryz.ntmps187
     go_wp2
     go_ret
     exact ⟨none,0,0,rfl,Bytes.nil_ _ _,⟨none,0,0,(hb.put 1 _).put 0 _,Bytes.nil_ _ _⟩,((Upd.refl _ w).put1 _).put1 _⟩
   have e1:RS.take ⟨left,0⟩ k true=(left.take k,⟨left.drop k,0⟩):=by
    exact RS.take_ok (by rw [HL.out];omega)
   rw [e1]
   clear e1
   have hkm:k<=m:=by omega
   have hle:=Row.le hy
   have hmx:=Row.max hy
   unfold maxLen at hmx
   have hhead:=hy.head hkm
   have hrest:=hy.rest hkm
   by_cases hck:c=k
   · rw [if_pos hck] at hrest
     obtain rfl:m=k:=by omega
     obtain rfl:=hck
     simp only [Nat.sub_self] at hrest
     have HR:=qH hrest
     clear hrest
     go_enter Tryz.func187,Tryz.ntmps187
     go_wp2
     go_ret
     refine ⟨_,_,_,rfl,hhead.upd ((Upd.refl _ w).put1 _) (fun b hb h=>hF (h ▸ hb)),⟨_,_,_,hb.put 0 _,?_⟩,(Upd.refl _ w).put1 _⟩
     exact HR.out.upd ((Upd.refl _ w).put1 _) (fun b hb h=>hF (h ▸ hb))
   rw [if_neg hck] at hrest
   have HR:=qH hrest
   clear hrest
   go_enter Tryz.func187,Tryz.ntmps187
   go_wp2
   go_ret
   exact ⟨_,_,_,rfl,hhead.upd ((Upd.refl _ w).put1 _) (fun b hb h=>hF (h ▸ hb)),⟨_,_,_,hb.put 0 _,HR.out.upd ((Upd.refl _ w).put1 _) (fun b hb h=>hF (h ▸ hb))⟩,(Upd.refl _ w).put1 _⟩
 have e1:RS.take s n right=([],s):=by simp [RS.take,he]
 rw [e1]
 clear e1
 have he':(s.err != 0)=true:=by simpa using he
 go_enter Tryz.func187,Tryz.ntmps187
 go_wp2
 go_ret
 exact ⟨none,0,0,rfl,Bytes.nil_ _ _,hrdr,Upd.refl _ _⟩
def RS.num (s:RS) (width:Int):Nat×RS:=(be (s.take width (Zao width)).1,(s.take width (Zao width)).2)
theorem RS.take_len (s:RS) (width:Int):(s.take width (Zao width)).1.length<=8:=by
 unfold RS.take
 split
 · split
   · simp
   split
   · simp
   rename_i h1 h2
   have h3:Zao width=true:=by cases h:Zao width <;> simp_all
   simp only [Zao,Bool.or_eq_true,beq_iff_eq] at h3
   simp only [List.length_take]
   omega
 simp
theorem Zbb {w:World} {F:Nat->Prop} {r:Nat} {s:RS} (h:Rdr w F r s) (hF:¬ F r) (width:Int) :
 Calls Tryz.prog 163 #[.pointer (some ⟨r,0,none⟩),.int .i64 width] w fun e w' =>
  e=.returned (.int .u64 ((s.num width).1:Int))/\Rdr w' F r (s.num width).2/\Upd (fun b=>b=r) w w':=by
 go_enter Tryz.func163,Tryz.ntmps163
 go_wp2_with fail
 refine (Zcp _ _).mono ?_
 rintro e w' ⟨rfl,rfl⟩
 go_wp2_with fail
 refine (ZiD h hF _ _).mono ?_
 rintro e w1 ⟨A',n',c',rfl,hb,hr,hu⟩
 go_wp2_with fail
 refine (Zgi _ hb (by rw [<- hb.len];exact RS.take_len s width)).mono ?_
 rintro e w' ⟨rfl,rfl⟩
 go_wp2_with fail
 go_ret
 exact ⟨rfl,hr,hu⟩
theorem ZfZ {w:World} {F:Nat->Prop} {r:Nat} {s:RS} (h:Rdr w F r s) (hF:¬ F r) (hs:s.left.length<=140737488355328) (n:Int) :
 Calls Tryz.prog 188 #[.pointer (some ⟨r,0,none⟩),.int .i64 n] w fun e w' =>
  ∃ v,e=.returned v/\OwnB w' w.heap.size v (s.take n true).1/\Rdr w' F r (s.take n true).2/\Upd (fun b=>b=r) w w':=by
 have hlen:(s.take n true).1.length<=140737488355328:=by
  unfold RS.take
  split
  · split
    · simp
    split
    · simp
    simp only [List.length_take];omega
  simp
 go_enter Tryz.func188,Tryz.ntmps188
 go_wp2_with fail
 refine (ZiD h hF _ _).mono ?_
 rintro e w1 ⟨A',n',c',rfl,hb,hr,hu⟩
 go_wp2_with fail
 refine (ZdM _ hb (by rw [<- hb.len];exact hlen)).mono ?_
 rintro e w2 ⟨v,rfl,ho,hs⟩
 go_wp2_with fail
 go_ret
 exact ⟨v,rfl,Zad ho hu.size,hr.same hs,hu.same hs⟩
theorem ZcM {w:World} {F:Nat->Prop} {A:Option Addr} {n c:Nat} {bs:List UInt8} (hb:Bytes w F A n c bs) (hn:n<=140737488355328) :
 Calls Tryz.prog 162 #[.slice A n c] w fun e w'=>∃ r,e=.returned (.pointer (some ⟨r,0,none⟩))/\w.heap.size<=r/\Rdr w' (fun b=>w.heap.size<=b/\b≠r) r ⟨bs,0⟩/\Same w w':=by
 go_enter Tryz.func162,Tryz.ntmps162
 go_wp2_with fail
 refine (ZdM _ hb hn).mono ?_
 rintro e w1 ⟨v,rfl,ho,hs⟩
 obtain ⟨A',c',rfl⟩:=Zac ho
 go_wp2
 go_ret
 refine ⟨w1.heap.size,rfl,hs.size,⟨A',_,c',Blk.new _ _ _,?_⟩,hs.alloc _⟩
 have hrow:=Row.of_own ho
 exact (hrow.mono (F':=fun b=>w.heap.size<=b/\b≠w1.heap.size) (fun b hlt hb=>⟨hb.2,by omega⟩)).same ((Upd.refl _ w1).alloc _)
end Go.Proofs.YtkopcinhbjimiaaGreatDoor
