/- Texts that the claim leans on: walks and plain laws, function by function. -/
import Derived.WalkKit
import Derived.Test.YtkopcinhbjimiaaGreatDoorProg
import Derived.Test.YtkopcinhbjimiaaGreatDoorK01
import Derived.Lib.Hide
import Derived.WalkLawsBesides
set_option maxRecDepth 100000
set_option maxHeartbeats 16000000
namespace Go.Proofs.YtkopcinhbjimiaaGreatDoor
structure GVal where
 kind:Int
 num:Int
 text:ByteArray
 nums:List Int
 texts:List ByteArray
def u64 (n:Int):Nat:=(n % 18446744073709551616).toNat
def nanB (n:Int):Bool:=u64 n / 4503599627370496 % 2048==2047 && u64 n % 4503599627370496 != 0 && u64 n != 9221120237041090560
def numErr (k n:Int):Int:=if k=1/\n≠0/\n≠1 then 42 else if k=3/\nanB n=true then 43 else 0
def fieldBad (g:GVal):Bool :=
 (g.num != 0 && decide (3<g.kind)) || (g.text.size != 0 && g.kind != 4) || (g.nums.length != 0 && (decide (g.kind<5) || g.kind==8)) || (g.texts.length != 0 && g.kind != 8)
def numsErr (k:Int):List Int->Int
 | []=>0
 | n::l=>if numErr k n≠0 then numErr k n else numsErr k l
def chk (g:GVal):Int :=
 if g.kind<1\/8<g.kind then 40
 else if fieldBad g=true then 41
 else if 40<g.nums.length\/40<g.texts.length then 45
 else if 1000<g.text.size\/g.texts.any (fun s=>decide (1000<s.size))=true then 44
 else if g.kind<4 then numErr g.kind g.num
 else numsErr (g.kind-4) g.nums
def beb:Nat->Nat->List UInt8
 | 0,_=>[]
 | k+1,n=>UInt8.ofNat (n / 256 ^ k)::beb k n
def encNum (k n:Int):List UInt8:=if k=1 then beb 1 (u64 n) else beb 8 (u64 n)
def encText (s:ByteArray):List UInt8:=beb 2 s.size++s.data.toList
def encBody (g:GVal):List UInt8 :=
 if g.kind<4 then encNum g.kind g.num
 else if g.kind=4 then encText g.text
 else beb 1 (g.nums.length+g.texts.length)++(g.nums.flatMap (encNum (g.kind-4))++g.texts.flatMap encText)
def enc (g:GVal):List UInt8:=if chk g=0 then beb 1 g.kind.toNat++encBody g else []
def be (bs:List UInt8):Nat:=bs.foldl (fun n c=>n*256+c.toNat) 0
def i64 (n:Nat):Int:=if n<9223372036854775808 then n else (n:Int)-18446744073709551616
def pNum (k:Int) (l:List UInt8):Except Int (Int×List UInt8) :=
 let width:=if k=1 then 1 else 8
 if l.length<width then .error 10
 else if numErr k (i64 (be (l.take width)))≠0 then .error (numErr k (i64 (be (l.take width))))
 else .ok (i64 (be (l.take width)),l.drop width)
def pText (l:List UInt8):Except Int (ByteArray×List UInt8) :=
 if l.length<2 then .error 10
 else if 1000<be (l.take 2) then .error 44
 else if (l.drop 2).length<be (l.take 2) then .error 10
 else .ok (⟨((l.drop 2).take (be (l.take 2))).toArray⟩,(l.drop 2).drop (be (l.take 2)))
def pMany {α:Type} (p:List UInt8->Except Int (α×List UInt8)):Nat->List UInt8->Except Int (List α×List UInt8)
 | 0,l=>.ok ([],l)
 | n+1,l=>match p l with
   | .error e=>.error e
   | .ok (x,r)=>match pMany p n r with
     | .error e=>.error e
     | .ok (xs,r')=>.ok (x::xs,r')
def pList (k:Int) (l:List UInt8):Except Int (GVal×List UInt8) :=
 match l with
 | []=>.error 10
 | c::l =>
   if 40<c.toNat then .error 45
   else if k=8 then match pMany pText c.toNat l with
    | .error e=>.error e
    | .ok (xs,r)=>.ok (⟨k,0,⟨#[]⟩,[],xs⟩,r)
   else match pMany (pNum (k-4)) c.toNat l with
    | .error e=>.error e
    | .ok (xs,r)=>.ok (⟨k,0,⟨#[]⟩,xs,[]⟩,r)
def pVal (l:List UInt8):Except Int (GVal×List UInt8) :=
 match l with
 | []=>.error 10
 | c::l =>
   if c.toNat<1\/8<c.toNat then .error 40
   else if 4<c.toNat then pList c.toNat l
   else if c.toNat=4 then match pText l with
    | .error e=>.error e
    | .ok (s,r)=>.ok (⟨4,0,s,[],[]⟩,r)
   else match pNum c.toNat l with
    | .error e=>.error e
    | .ok (n,r)=>.ok (⟨c.toNat,n,⟨#[]⟩,[],[]⟩,r)
def noVal:GVal:=⟨0,0,⟨#[]⟩,[],[]⟩
def decP (l:List UInt8):GVal×Nat×Int :=
 match pVal l with
 | .error e=>(noVal,0,e)
 | .ok (g,r)=>(g,l.length-r.length,0)
end Go.Proofs.YtkopcinhbjimiaaGreatDoor
namespace Go.Proofs.YtkopcinhbjimiaaGreatDoor
open Go.RowKit
abbrev OwnB (w:World) (B:Nat) (v:Value) (bs:List UInt8):Prop:=w.ownsRow B 5 1 v bs.length (bs.map u8v)
abbrev GrewB (w:World) (B:Nat) (v:Value) (bs:List UInt8) (v':Value) (w':World):Prop:=Grew w B 5 1 v bs.length (bs.map u8v) v' w'
theorem own_bytes {w:World} {B:Nat} {A:Option Addr} {m c:Nat} {bs:List UInt8} (h:OwnB w B (.slice A m c) bs):Bytes w (fun b=>A=some ⟨b,0,none⟩/\B<=b) A m c bs:=by
 obtain ⟨A',c',hv⟩:=own_form h
 injection hv with h1 h2 h3
 subst h1
 subst h2
 subst h3
 exact Row.of_own h
def isWidthB (n:Int):Bool:=n==1 || n==2 || n==4 || n==8
theorem isWidth_spec (n:Int) (w:World):Calls Tryz.prog 117 #[.int .i64 n] w fun e w'=>e=.returned (.bool (isWidthB n))/\w=w':=by
 by_cases h1:n=1
 · subst h1
   go_enter Tryz.func117,Tryz.ntmps117
   go_wp2
   go_ret
   exact ⟨rfl,rfl⟩
 by_cases h2:n=2
 · subst h2
   go_enter Tryz.func117,Tryz.ntmps117
   go_wp2
   go_ret
   exact ⟨rfl,rfl⟩
 by_cases h4:n=4
 · subst h4
   go_enter Tryz.func117,Tryz.ntmps117
   go_wp2
   go_ret
   exact ⟨rfl,rfl⟩
 by_cases h8:n=8
 · subst h8
   go_enter Tryz.func117,Tryz.ntmps117
   go_wp2
   go_ret
   exact ⟨rfl,rfl⟩
 have e:isWidthB n=false:=by simp [isWidthB,h1,h2,h4,h8]
 go_enter Tryz.func117,Tryz.ntmps117
 go_wp2
 go_ret
 exact ⟨by simp [e],rfl⟩
theorem be_snoc (bs:List UInt8) (c:UInt8):be (bs++[c])=be bs*256+c.toNat:=by simp [be]
theorem be_lt (bs:List UInt8):be bs<256 ^ bs.length:=by
 suffices h:∀ (l:List UInt8) (n k:Nat),n<256 ^ k->l.foldl (fun n c=>n*256+c.toNat) n<256 ^ (k+l.length) from by
  have:=h bs 0 0 (by simp)
  simpa [be] using this
 intro l
 induction l with
 | nil=>intro n k h;simpa using h
 | cons c l ih =>
   intro n k h
   rw [List.foldl_cons,List.length_cons,show k+(l.length+1)=(k+1)+l.length from by omega]
   refine ih _ _ ?_
   rw [Nat.pow_succ]
   have:=c.toNat_lt
   omega
theorem take_snoc (bs:List UInt8) (k:Nat) (h:k<bs.length):bs.take (k+1)=bs.take k++[bs[k]]:=List.take_succ_eq_append_getElem h
theorem shl8_or (x c:Nat) (hc:c<256) (h:x*256+c<=18446744073709551615) :
 bits BinOp.or IntKind.u64 (IntKind.u64.wrap ((x:Int)*256)) (IntKind.u64.wrap (c:Int))=((x*256+c:Nat):Int):=by
 have e1:IntKind.u64.wrap ((x:Int)*256)=((x*256:Nat):Int):=by
  rw [IntWalk.u64_in _ ⟨by omega,by omega⟩];omega
 have e2:IntKind.u64.wrap (c:Int)=(c:Int):=IntWalk.u64_in _ ⟨by omega,by omega⟩
 rw [e1,e2]
 rw [u64_or_nat (x*256) c (show x*256<18446744073709551616 from by omega) (show c<18446744073709551616 from by omega)]
 have h1:c<2 ^ 8:=hc
 have h2:=Nat.two_pow_add_eq_or_of_lt h1 x
 rw [show 2 ^ 8*x=x*256 from by omega] at h2
 rw [h2]
theorem number_spec {F:Nat->Prop} {A:Option Addr} {n c:Nat} {bs:List UInt8} (w:World) (hb:Bytes w F A n c bs) (h8:n<=8) :
 Calls Tryz.prog 186 #[.slice A n c] w fun e w'=>e=.returned (.int .u64 (be bs:Int))/\w=w':=by
 have HL:=qH hb.len
 go_enter Tryz.func186,Tryz.ntmps186
 go_wp2
 go_loop [2,7] (fun v i=>∃ k:Nat,k<=n/\i=.int .i64 k/\v=.int .u64 (be (bs.take k):Int)) (fun _ i=>n-(intOf i).toNat)
 case atStart=>exact ⟨0,Nat.zero_le _,rfl,rfl⟩
 obtain ⟨k,hk,rfl,rfl⟩:=hrel
 by_cases hlt:k<n
 · obtain ⟨b,o,rfl,hbl,_,hc⟩:=hb.at_ hlt
   have hkl:k<bs.length:=by rw [HL.out];exact hlt
   go_wp2
   go_round
   case rel =>
    refine ⟨k+1,by omega,by go_num,?_⟩
    have h1:=be_lt (bs.take k)
    have h2:(bs.take k).length=k:=by simp;omega
    rw [h2] at h1
    have h3:256 ^ k<=256 ^ 7:=Nat.pow_le_pow_right (by omega) (by omega)
    have h4:=(bs[k]'hkl).toNat_lt
    rw [take_snoc bs k hkl,be_snoc,shl8_or _ _ (by omega) (by omega)]
   case measure=>simp [intOf];omega
 have hkn:k=n:=by omega
 go_wp2
 go_ret
 refine ⟨?_,rfl⟩
 rw [List.take_of_length_le (by rw [HL.out];omega)]
 simp
theorem info_u8:(Tryz.prog.info? 5).map (fun i=>(i.zero,i.size,i.bytes))=some (some (.int .u8 0),1,1):=by kernel_rfl
theorem bytes_eql_nil (w:World) (a:Option Addr) (n c:Nat):(binOp .eql 28 (.slice a n c) (.slice none 0 0)).run Tryz.prog w=.ok (.bool a.isNone) w :=
 Lib.run_eql_slice_nil (P:=Tryz.prog) w 28 5 a n c 0 0 Tryz.underlying28
theorem clone_spec {F:Nat->Prop} {A:Option Addr} {n c:Nat} {bs:List UInt8} (w:World) (hb:Bytes w F A n c bs) (hn:n<=140737488355328) :
 Calls Tryz.prog 119 #[.slice A n c] w fun e w'=>∃ v',e=.returned v'/\OwnB w' w.heap.size v' bs/\Same w w':=by
 have HL:=qH hb.len
 have heq:=bytes_eql_nil
 cases A with
 | none =>
   have hc:=hb.nil rfl
   have hle:=Row.le hb
   obtain rfl:n=0:=by omega
   obtain rfl:c=0:=by omega
   have hbs:bs=[]:=List.eq_nil_of_length_eq_zero hb.len
   subst hbs
   clear hc
   go_enter Tryz.func119,Tryz.ntmps119
   go_wp2
   go_ret
   exact ⟨_,rfl,World.ownsRow_nil _ _ _ _,Upd.refl _ _⟩
 | some a =>
   have hmax:n<=maxLen:=by have:=Row.le hb;have:=Row.max hb;omega
   go_enter Tryz.func119,Tryz.ntmps119
   go_wp2_with (at_builtin;go_must (refine wpList_app rfl (.tmp 5) (.tmp 6) _ _ rfl w.heap.size _ _ _ _ Tryz.underlying28 info_u8 rfl _ 0 [] rfl (World.ownsRow_made w #[] 0 (Nat.le_refl _) (Nat.zero_le _) rfl) rfl (src_row Tryz.underlying28 (Row.same hb ((Upd.refl _ w).alloc _)) (u8_oneCell bs)) (by omega) (by omega) (by simp) ?_);intro v' w' happ)
   go_ret
   refine ⟨v',rfl,?_,?_⟩
   · have:=happ.own
     unfold OwnB
     rw [HL.out]
     simpa using this
   exact ((Upd.refl _ w).alloc _).trans happ.upd fun b hb hv=>by
    have:=Option.some.inj hv
    simp only at this
    omega
end Go.Proofs.YtkopcinhbjimiaaGreatDoor
namespace Go.Proofs.YtkopcinhbjimiaaGreatDoor
open Go.RowKit
def baseK (k:Int):Int:=if 4<k then k-4 else k
theorem base_spec (n:Int) (w:World) (h0 : -9223372036854775808<=n) (h1:n<=9223372036854775807) :
 Calls Tryz.prog 191 #[.int .i64 n] w fun e w'=>e=.returned (.int .i64 (baseK n))/\w=w':=by
 unfold baseK
 by_cases h:4<n
 · go_enter Tryz.func191,Tryz.ntmps191
   go_wp2
   go_ret
   exact ⟨rfl,rfl⟩
 go_enter Tryz.func191,Tryz.ntmps191
 go_wp2
 go_ret
 exact ⟨rfl,rfl⟩
theorem wrapU (n:Int):IntKind.u64.wrap n=(u64 n:Int):=by
 rw [IntKind.wrap_u64]
 unfold u64
 omega
theorem u64_lt (n:Int):u64 n<18446744073709551616:=by
 unfold u64
 omega
theorem numErr3 (n:Int):numErr 3 n=if bits BinOp.and IntKind.u64 (IntKind.u64.wrap n / 4503599627370496) 2047=2047/\¬ IntKind.u64.wrap (IntKind.u64.wrap n*4096)=0/\(IntKind.u64.wrap n != 9221120237041090560)=true then 43 else 0:=by
 rw [wrapU n]
 have hlt:=u64_lt n
 have e1:((u64 n:Int) / 4503599627370496)=((u64 n / 4503599627370496:Nat):Int):=by omega
 have e2:bits BinOp.and IntKind.u64 ((u64 n:Int) / 4503599627370496) 2047=((u64 n / 4503599627370496 % 2048:Nat):Int):=by
  rw [e1]
  have h:=u64_and_nat (u64 n / 4503599627370496) 2047 (by omega) (by decide)
  rw [show ((2047:Nat):Int)=2047 from rfl] at h
  rw [h]
  have h2:=Nat.and_two_pow_sub_one_eq_mod (u64 n / 4503599627370496) 11
  rw [show 2 ^ 11-1=2047 from rfl,show 2 ^ 11=2048 from rfl] at h2
  rw [h2]
 have e3:IntKind.u64.wrap ((u64 n:Int)*4096)=((u64 n % 4503599627370496*4096:Nat):Int):=by
  rw [IntKind.wrap_u64]
  omega
 rw [e2,e3]
 unfold numErr nanB
 generalize u64 n=U at *
 simp only [Bool.and_eq_true,beq_iff_eq,bne_iff_ne,ne_eq]
 by_cases h1:U / 4503599627370496 % 2048=2047
 · by_cases h2:U % 4503599627370496=0
   · simp [h1,h2]
   by_cases h3:U=9221120237041090560
   · rw [if_neg (by omega),if_neg (by omega),if_neg (by omega)]
   rw [if_neg (by omega),if_pos ⟨trivial,⟨h1,h2⟩,h3⟩,if_pos ⟨by omega,by omega,by omega⟩]
 rw [if_neg (by omega),if_neg (fun h=>h1 h.2.1.1),if_neg (fun h=>h1 (by omega))]
theorem checkNum_spec (k n:Int) (w:World) (h0:1<=k) (h1:k<=8) :
 Calls Tryz.prog 169 #[.int .i64 k,.int .i64 n] w fun e w'=>e=.returned (.int .i64 (numErr (baseK k) n))/\w=w':=by
 have hb:=base_spec k
 generalize baseK k=K at hb ⊢
 have HB:=qH hb
 clear hb
 by_cases hk:K=1
 · subst hk
   go_enter Tryz.func169,Tryz.ntmps169
   go_wp2_with fail
   refine (HB.out _ (by omega) (by omega)).mono ?_
   rintro e w' ⟨rfl,rfl⟩
   go_wp2
   all_goals
    go_ret
    refine ⟨?_,rfl⟩
    clear HB
   · rename_i h
     simp [numErr,h]
   · rename_i _ h
     simp only [bne_iff_ne] at h
     simp [numErr,h.1,h.2]
   rename_i _ h
   simp only [bne_eq_false_iff_eq] at h
   rcases h with h | h <;> simp [numErr,h]
 by_cases hk3:K=3
 · subst hk3
   go_enter Tryz.func169,Tryz.ntmps169
   go_wp2_with fail
   refine (HB.out _ (by omega) (by omega)).mono ?_
   rintro e w' ⟨rfl,rfl⟩
   go_wp2
   all_goals
    go_ret
    refine ⟨?_,rfl⟩
    rw [numErr3]
    clear HB
   · rename_i h1 h2
     rw [if_neg (fun h=>h.2.1 h2)]
     rfl
   · rename_i h1 h2 h3
     rw [if_pos ⟨h1,h2,h3.2⟩]
     rfl
   · rename_i h1 h2 h3
     rw [if_neg (fun h=>by rcases h3 with h3 | h3;exact absurd h3 (by simpa using h2);rw [h.2.2] at h3;cases h3)]
     rfl
   rename_i h1
   rw [if_neg (fun h=>h1 h.1)]
   rfl
 have hz:numErr K n=0:=by simp [numErr,hk,hk3]
 rw [hz]
 clear hz
 go_enter Tryz.func169,Tryz.ntmps169
 go_wp2_with fail
 refine (HB.out _ (by omega) (by omega)).mono ?_
 rintro e w' ⟨rfl,rfl⟩
 go_wp2
 go_ret
 exact ⟨rfl,rfl⟩
structure RdVal (w:World) (F:Nat->Prop) (A1:Option Addr) (n1 c1:Nat) (A2:Option Addr) (n2 c2:Nat) (g:GVal):Prop where
 nums:WRow w F 1 A1 n1 c1 (g.nums.map (Value.int .i64))
 texts:WRow w F 1 A2 n2 c2 (g.texts.map Value.string)
 kind : -9223372036854775808<=g.kind/\g.kind<=9223372036854775807
 num : -9223372036854775808<=g.num/\g.num<=9223372036854775807
 range:∀ n∈g.nums,-9223372036854775808<=n/\n<=9223372036854775807
section
variable {w w':World} {F F':Nat->Prop} {A1 A2:Option Addr} {n1 c1 n2 c2:Nat} {g:GVal}
theorem RdVal.upd {S:Nat->Prop} (h:RdVal w F A1 n1 c1 A2 n2 c2 g) (hu:Upd S w w') (hs:∀ b,F b->¬ S b):RdVal w' F A1 n1 c1 A2 n2 c2 g :=
 ⟨h.nums.upd hu hs,h.texts.upd hu hs,h.kind,h.num,h.range⟩
theorem RdVal.same (h:RdVal w F A1 n1 c1 A2 n2 c2 g) (hu:Same w w'):RdVal w' F A1 n1 c1 A2 n2 c2 g:=h.upd hu fun _ _ f=>f
theorem RdVal.mono (h:RdVal w F A1 n1 c1 A2 n2 c2 g) (hf:∀ b,b<w.heap.size->F b->F' b):RdVal w F' A1 n1 c1 A2 n2 c2 g :=
 ⟨h.nums.mono hf,h.texts.mono hf,h.kind,h.num,h.range⟩
theorem RdVal.len1 (h:RdVal w F A1 n1 c1 A2 n2 c2 g):g.nums.length=n1:=by have:=h.nums.len;simpa using this
theorem RdVal.len2 (h:RdVal w F A1 n1 c1 A2 n2 c2 g):g.texts.length=n2:=by have:=h.texts.len;simpa using this
end
abbrev GVal.val (g:GVal) (A1:Option Addr) (n1 c1:Nat) (A2:Option Addr) (n2 c2:Nat):Value :=
 .agg #[.int .i64 g.kind,.int .i64 g.num,.string g.text,.slice A1 n1 c1,.slice A2 n2 c2]
theorem str_size (s:ByteArray):(s.size != 0)=!s.toList.isEmpty:=by
 rw [ByteArray.toList_eq]
 have:s.data.toList.length=s.size:=by
  rw [Array.length_toList]
  rfl
 rw [<- this]
 cases s.data.toList <;> simp
theorem ret_bool {a b:Bool} (h:a=b):Ending.returned (.bool a)=.returned (.bool b):=by rw [h]
theorem ret_int {k:IntKind} {a b:Int} (h:a=b):Ending.returned (.int k a)=.returned (.int k b):=by rw [h]
def badB (kind:Int) (num:Int) (text n1 n2:Nat):Bool :=
 (num != 0 && decide (3<kind)) || (text != 0 && kind != 4) || (n1 != 0 && (decide (kind<5) || kind==8)) || (n2 != 0 && kind != 8)
theorem unused_spec {A1 A2:Option Addr} {n1 c1 n2 c2:Nat} {kind num:Int} {text:ByteArray} (w:World) (h0:1<=kind) (h1:kind<=8) :
 Calls Tryz.prog 166 #[.agg #[.int .i64 kind,.int .i64 num,.string text,.slice A1 n1 c1,.slice A2 n2 c2]] w fun e w' =>
  e=.returned (.bool (badB kind num text.size n1 n2))/\Same w w':=by
 have hb:=base_spec kind
 by_cases h8:kind=8
 · subst h8
   rw [show baseK 8=4 from rfl] at hb
   have HS:=qH hb
   clear hb
   go_enter Tryz.func166,Tryz.ntmps166
   go_wp2_with fail
   refine (HS.out _ (by omega) (by omega)).mono ?_
   rintro e w' ⟨rfl,rfl⟩
   go_wp2
   all_goals
    go_ret
    refine ⟨ret_bool ?_,(Upd.refl _ _).alloc _⟩
    clear HS
    unfold badB
    rw [str_size]
    simp [*]
 by_cases h4:kind=4
 · subst h4
   rw [show baseK 4=4 from rfl] at hb
   have HS:=qH hb
   clear hb h8
   go_enter Tryz.func166,Tryz.ntmps166
   go_wp2_with fail
   refine (HS.out _ (by omega) (by omega)).mono ?_
   rintro e w' ⟨rfl,rfl⟩
   go_wp2
   all_goals
    go_ret
    refine ⟨ret_bool ?_,(Upd.refl _ _).alloc _⟩
    clear HS
    unfold badB
    rw [str_size]
    simp [*]
 have hK:(baseK kind==4)=false:=by unfold baseK;split <;> simp <;> omega
 generalize baseK kind=K at hb hK
 have HS:=qH hb
 clear hb
 by_cases hl:4<kind
 · have e1:¬ kind<5:=by omega
   have e2:3<kind:=by omega
   go_enter Tryz.func166,Tryz.ntmps166
   go_wp2_with fail
   refine (HS.out _ (by omega) (by omega)).mono ?_
   rintro e w' ⟨rfl,rfl⟩
   go_wp2
   all_goals
    go_ret
    refine ⟨ret_bool ?_,(Upd.refl _ _).alloc _⟩
    clear HS
    unfold badB
    rw [str_size]
    simp [*]
 have e1:kind<5:=by omega
 have e2:¬ 3<kind:=by omega
 go_enter Tryz.func166,Tryz.ntmps166
 go_wp2_with fail
 refine (HS.out _ (by omega) (by omega)).mono ?_
 rintro e w' ⟨rfl,rfl⟩
 go_wp2
 all_goals
  go_ret
  refine ⟨ret_bool ?_,(Upd.refl _ _).alloc _⟩
  clear HS
  unfold badB
  rw [str_size]
  simp [*]
def NewVal (w:World) (B:Nat) (v:Value) (g:GVal):Prop :=
 ∃ v1 v2,v=.agg #[.int .i64 g.kind,.int .i64 g.num,.string g.text,v1,v2] /\
  w.ownsRow B 2 1 v1 g.nums.length (g.nums.map (Value.int .i64))/\w.ownsRow B 9 1 v2 g.texts.length (g.texts.map Value.string)
end Go.Proofs.YtkopcinhbjimiaaGreatDoor
namespace Go.Proofs.YtkopcinhbjimiaaGreatDoor
open Go.RowKit
theorem be_take_lt (l:List UInt8) (k:Nat) (hk:k<=8):be (l.take k)<18446744073709551616:=by
 have h:=be_lt (l.take k)
 have h2:256 ^ (l.take k).length<=256 ^ 8:=Nat.pow_le_pow_right (by omega) (by rw [List.length_take];omega)
 have h3:256 ^ 8=18446744073709551616:=by decide
 omega
theorem i64_range (n:Nat) (h:n<18446744073709551616) : -9223372036854775808<=i64 n/\i64 n<=9223372036854775807:=by
 unfold i64
 split <;> omega
theorem pNum_short {k:Int} {l r:List UInt8} {n:Int} (h:pNum k l=.ok (n,r)):r.length<=l.length:=by
 unfold pNum at h
 simp only at h
 generalize (if k=1 then 1 else 8)=W at h
 split at h
 · cases h
 split at h
 · cases h
 injection h with h
 injection h with _ h
 rw [<- h,List.length_drop]
 omega
theorem pText_short {l r:List UInt8} {s:ByteArray} (h:pText l=.ok (s,r)):r.length<=l.length:=by
 unfold pText at h
 split at h
 · cases h
 split at h
 · cases h
 split at h
 · cases h
 injection h with h
 injection h with _ h
 rw [<- h,List.length_drop,List.length_drop]
 omega
theorem pList_shape {k:Int} {l r:List UInt8} {g:GVal} (h:pList k l=.ok (g,r)):g.kind=k/\g.num=0/\g.text=⟨#[]⟩:=by
 unfold pList at h
 split at h
 · cases h
 split at h
 · cases h
 split at h
 · split at h
   · cases h
   injection h with h
   injection h with h _
   subst h
   exact ⟨rfl,rfl,rfl⟩
 split at h
 · cases h
 injection h with h
 injection h with h _
 subst h
 exact ⟨rfl,rfl,rfl⟩
theorem pMany_short {α:Type} {p:List UInt8->Except Int (α×List UInt8)} (hp:∀ l x r,p l=.ok (x,r)->r.length<=l.length):∀ (n:Nat) (l:List UInt8) (xs:List α) (r:List UInt8),pMany p n l=.ok (xs,r)->r.length<=l.length:=by
 intro n
 induction n with
 | zero =>
   intro l xs r h
   simp only [pMany] at h
   injection h with h
   injection h with _ h
   rw [h];exact Nat.le_refl _
 | succ n ih =>
   intro l xs r h
   simp only [pMany] at h
   split at h
   · cases h
   rename_i x r1 h1
   split at h
   · cases h
   rename_i ys r2 h2
   injection h with h
   injection h with _ h
   subst h
   exact Nat.le_trans (ih _ _ _ h2) (hp _ _ _ h1)
theorem pVal_short {l r:List UInt8} {g:GVal} (h:pVal l=.ok (g,r)):r.length<=l.length:=by
 unfold pVal at h
 split at h
 · cases h
 rename_i c l0
 have hl:l0.length<=(c::l0).length:=by simp
 split at h
 · cases h
 split at h
 · unfold pList at h
   split at h
   · cases h
   rename_i c2 l2
   have hl2:l2.length<=(c::c2::l2).length:=by simp;omega
   split at h
   · cases h
   split at h
   · split at h
     · cases h
     rename_i xs r2 h2
     injection h with h
     injection h with _ h
     subst h
     exact Nat.le_trans (pMany_short (fun _ _ _ hh=>pText_short hh) _ _ _ _ h2) hl2
   split at h
   · cases h
   rename_i xs r2 h2
   injection h with h
   injection h with _ h
   subst h
   exact Nat.le_trans (pMany_short (fun _ _ _ hh=>pNum_short hh) _ _ _ _ h2) hl2
 split at h
 · split at h
   · cases h
   rename_i t r2 h2
   injection h with h
   injection h with _ h
   subst h
   exact Nat.le_trans (pText_short h2) hl
 split at h
 · cases h
 rename_i t r2 h2
 injection h with h
 injection h with _ h
 subst h
 exact Nat.le_trans (pNum_short h2) hl
theorem decP_err {l:List UInt8} {e:Int} (h:pVal l=.error e):decP l=(noVal,0,e):=by unfold decP;rw [h]
theorem decP_ok {l r:List UInt8} {g:GVal} (h:pVal l=.ok (g,r)):decP l=(g,l.length-r.length,0):=by unfold decP;rw [h]
section
variable {w w0:World} {g:Nat} {t:TypeId} {a0 a1 a2 a3 a4:Value}
theorem Blk.five (h:Blk w g t #[a0,a1,a2,a3,a4]):w.cell? ⟨g,0,none⟩=some a0/\w.cell? ⟨g,1,none⟩=some a1/\w.cell? ⟨g,2,none⟩=some a2/\w.cell? ⟨g,3,none⟩=some a3/\w.cell? ⟨g,4,none⟩=some a4 :=
 ⟨h.cell 0,h.cell 1,h.cell 2,h.cell 3,h.cell 4⟩
theorem Blk.five_free (h:Blk w g t #[a0,a1,a2,a3,a4]):w.frozen? ⟨g,0,none⟩=false/\w.frozen? ⟨g,1,none⟩=false/\w.frozen? ⟨g,2,none⟩=false/\w.frozen? ⟨g,3,none⟩=false/\w.frozen? ⟨g,4,none⟩=false :=
 ⟨h.frozen 0,h.frozen 1,h.frozen 2,h.frozen 3,h.frozen 4⟩
abbrev put5 (w:World) (g:Nat) (u0 u1 u2 u3 u4:Value):World :=
 ((((w.setCell ⟨g,0,none⟩ u0).setCell ⟨g,1,none⟩ u1).setCell ⟨g,2,none⟩ u2).setCell ⟨g,3,none⟩ u3).setCell ⟨g,4,none⟩ u4
theorem Blk.put5 (h:Blk w g t #[a0,a1,a2,a3,a4]) (u0 u1 u2 u3 u4:Value):Blk (put5 w g u0 u1 u2 u3 u4) g t #[u0,u1,u2,u3,u4] :=
 ((((h.put 0 u0).put 1 u1).put 2 u2).put 3 u3).put 4 u4
theorem Upd.put5 (h:Upd (fun b=>b=g) w0 w) (u0 u1 u2 u3 u4:Value):Upd (fun b=>b=g) w0 (put5 w g u0 u1 u2 u3 u4) :=
 ((((h.put1 u0).put1 u1).put1 u2).put1 u3).put1 u4
end
def decD (n:Nat) (P:GVal×Nat×Int):GVal×Int:=if P.2.2=0/\P.2.1<n then (noVal,11) else (P.1,P.2.2)
structure GVal.Fits (g:GVal):Prop where
 kind : -9223372036854775808<=g.kind/\g.kind<=9223372036854775807
 num : -9223372036854775808<=g.num/\g.num<=9223372036854775807
 range:∀ n∈g.nums,-9223372036854775808<=n/\n<=9223372036854775807
theorem own_row {w:World} {B:Nat} {t:TypeId} {v:Value} {n:Nat} {xs:List Value} (h:w.ownsRow B t 1 v n xs):∃ A c,v=.slice A n c/\Row w (fun b=>B<=b) 1 A n c xs:=by
 obtain ⟨A,c,rfl⟩:=own_form h
 exact ⟨A,c,rfl,(Row.of_own h).mono fun b _ hb=>hb.2⟩
theorem NewVal.rd {w:World} {B:Nat} {v:Value} {g:GVal} (h:NewVal w B v g) (hf:g.Fits):∃ A1 n1 c1 A2 n2 c2,v=g.val A1 n1 c1 A2 n2 c2/\RdVal w (fun b=>B<=b) A1 n1 c1 A2 n2 c2 g:=by
 obtain ⟨v1,v2,rfl,h1,h2⟩:=h
 obtain ⟨A1,c1,rfl,r1⟩:=own_row h1
 obtain ⟨A2,c2,rfl,r2⟩:=own_row h2
 exact ⟨A1,_,c1,A2,_,c2,rfl,r1.weak,r2.weak,hf.kind,hf.num,hf.range⟩
theorem RdVal.empty (w:World) (k n:Int) (s:ByteArray) (hk : -9223372036854775808<=k/\k<=9223372036854775807) (hn : -9223372036854775808<=n/\n<=9223372036854775807):RdVal w (fun _=>False) none 0 0 none 0 0 ⟨k,n,s,[],[]⟩ :=
 ⟨(Row.nil_ _ _ _).weak,(Row.nil_ _ _ _).weak,hk,hn,by simp⟩
end Go.Proofs.YtkopcinhbjimiaaGreatDoor
namespace Go.Proofs.YtkopcinhbjimiaaGreatDoor
open Go.RowKit
section
variable {α:Type} {f:α->List Value} {k:Nat}
theorem flatK_len (hf:∀ x,(f x).length=k) (l:List α):(l.flatMap f).length=l.length*k:=by
 induction l with
 | nil=>simp
 | cons x l ih=>rw [List.flatMap_cons,List.length_append,ih,hf,List.length_cons,Nat.succ_mul];omega
theorem flatK_get (hf:∀ x,(f x).length=k):∀ (l:List α) (i j:Nat) (h:i<l.length),j<k->(l.flatMap f)[i*k+j]?=(f l[i])[j]?:=by
 intro l
 induction l with
 | nil=>intro i j h;simp at h
 | cons x l ih =>
   intro i j h hj
   rw [List.flatMap_cons]
   cases i with
   | zero =>
     rw [List.getElem?_append_left (by rw [hf];omega)]
     simp
   | succ i =>
     have e:(i+1)*k+j-(f x).length=i*k+j:=by rw [hf,Nat.succ_mul];omega
     rw [List.getElem?_append_right (by rw [hf,Nat.succ_mul];omega),e,ih i j (by simpa using h) hj]
     rfl
theorem WRow.atF {w:World} {F:Nat->Prop} {A:Option Addr} {n c:Nat} {l:List α} (h:WRow w F k A n c (l.flatMap f)) (hf:∀ x,(f x).length=k) (hk:0<k) {i:Nat} (hi:i<n) :
 ∃ b o x,A=some ⟨b,o,none⟩/\b<w.heap.size/\F b/\l[i]?=some x/\x∈l/\∀ j u,(f x)[j]?=some u->w.cell? ⟨b,o+i*k+j,none⟩=some u:=by
 have hl:l.length=n:=by
  have h1:=h.len
  rw [flatK_len hf] at h1
  exact Nat.eq_of_mul_eq_mul_right hk h1
 have hil:i<l.length:=by omega
 obtain ⟨b,o,hA,hb,hF,hc⟩:=(h.row (by omega)).atK hi
 refine ⟨b,o,l[i],hA,hb,hF,List.getElem?_eq_getElem hil,List.getElem_mem hil,fun j u hu=>?_⟩
 have hj:j<k:=by
  have:=(List.getElem?_eq_some_iff.1 hu).1
  rw [hf] at this
  exact this
 obtain ⟨v,h1,h2⟩:=hc j hj
 rw [flatK_get hf l i j hil hj,hu] at h1
 cases h1
 rw [Nat.add_assoc]
 exact h2
theorem WRow.lenF {w:World} {F:Nat->Prop} {A:Option Addr} {n c:Nat} {l:List α} (h:WRow w F k A n c (l.flatMap f)) (hf:∀ x,(f x).length=k) (hk:0<k):l.length=n:=by
 have h1:=h.len
 rw [flatK_len hf] at h1
 exact Nat.eq_of_mul_eq_mul_right hk h1
end
structure GPr where
 key:ByteArray
 val:GVal
structure PR where
 key:ByteArray
 g:GVal
 A1:Option Addr
 n1:Nat
 c1:Nat
 A2:Option Addr
 n2:Nat
 c2:Nat
def PR.cells (x:PR):List Value:=[.string x.key,.int .i64 x.g.kind,.int .i64 x.g.num,.string x.g.text,.slice x.A1 x.n1 x.c1,.slice x.A2 x.n2 x.c2]
def PR.dat (x:PR):GPr:=⟨x.key,x.g⟩
theorem PR.six (x:PR):x.cells.length=6:=rfl
structure GNode where
 id:Int
 labels:List ByteArray
 props:List GPr
structure ND where
 id:Int
 labels:List ByteArray
 AL:Option Addr
 nL:Nat
 cL:Nat
 props:List PR
 AP:Option Addr
 nP:Nat
 cP:Nat
def ND.cells (x:ND):List Value:=[.int .i64 x.id,.slice x.AL x.nL x.cL,.slice x.AP x.nP x.cP]
def ND.dat (x:ND):GNode:=⟨x.id,x.labels,x.props.map PR.dat⟩
theorem ND.three (x:ND):x.cells.length=3:=rfl
structure GRel where
 id:Int
 type:ByteArray
 src:Int
 dst:Int
 props:List GPr
structure RL where
 id:Int
 type:ByteArray
 src:Int
 dst:Int
 props:List PR
 AP:Option Addr
 nP:Nat
 cP:Nat
def RL.cells (x:RL):List Value:=[.int .i64 x.id,.string x.type,.int .i64 x.src,.int .i64 x.dst,.slice x.AP x.nP x.cP]
def RL.dat (x:RL):GRel:=⟨x.id,x.type,x.src,x.dst,x.props.map PR.dat⟩
theorem RL.five (x:RL):x.cells.length=5:=rfl
abbrev Fit64 (n:Int):Prop := -9223372036854775808<=n/\n<=9223372036854775807
structure RdPs (w:World) (F:Nat->Prop) (A:Option Addr) (n c:Nat) (ps:List PR):Prop where
 row:WRow w F 6 A n c (ps.flatMap PR.cells)
 val:∀ x∈ps,RdVal w F x.A1 x.n1 x.c1 x.A2 x.n2 x.c2 x.g
structure RdNs (w:World) (F:Nat->Prop) (A:Option Addr) (n c:Nat) (ns:List ND):Prop where
 row:WRow w F 3 A n c (ns.flatMap ND.cells)
 lab:∀ x∈ns,WRow w F 1 x.AL x.nL x.cL (x.labels.map Value.string)
 pro:∀ x∈ns,RdPs w F x.AP x.nP x.cP x.props
 id:∀ x∈ns,Fit64 x.id
structure RdRs (w:World) (F:Nat->Prop) (A:Option Addr) (n c:Nat) (rs:List RL):Prop where
 row:WRow w F 5 A n c (rs.flatMap RL.cells)
 pro:∀ x∈rs,RdPs w F x.AP x.nP x.cP x.props
 id:∀ x∈rs,Fit64 x.id/\Fit64 x.src/\Fit64 x.dst
section
variable {w w':World} {F F':Nat->Prop} {A:Option Addr} {n c:Nat} {ps:List PR} {ns:List ND} {rs:List RL}
theorem RdPs.len (h:RdPs w F A n c ps):ps.length=n:=h.row.lenF PR.six (by omega)
theorem RdPs.upd {S:Nat->Prop} (h:RdPs w F A n c ps) (hu:Upd S w w') (hs:∀ b,F b->¬ S b):RdPs w' F A n c ps:=⟨h.row.upd hu hs,fun x hx=>(h.val x hx).upd hu hs⟩
theorem RdPs.same (h:RdPs w F A n c ps) (hu:Same w w'):RdPs w' F A n c ps:=h.upd hu fun _ _ f=>f
theorem RdPs.mono (h:RdPs w F A n c ps) (hf:∀ b,b<w.heap.size->F b->F' b):RdPs w F' A n c ps:=⟨h.row.mono hf,fun x hx=>(h.val x hx).mono hf⟩
theorem RdNs.len (h:RdNs w F A n c ns):ns.length=n:=h.row.lenF ND.three (by omega)
theorem RdNs.upd {S:Nat->Prop} (h:RdNs w F A n c ns) (hu:Upd S w w') (hs:∀ b,F b->¬ S b):RdNs w' F A n c ns:=⟨h.row.upd hu hs,fun x hx=>(h.lab x hx).upd hu hs,fun x hx=>(h.pro x hx).upd hu hs,h.id⟩
theorem RdNs.same (h:RdNs w F A n c ns) (hu:Same w w'):RdNs w' F A n c ns:=h.upd hu fun _ _ f=>f
theorem RdNs.mono (h:RdNs w F A n c ns) (hf:∀ b,b<w.heap.size->F b->F' b):RdNs w F' A n c ns:=⟨h.row.mono hf,fun x hx=>(h.lab x hx).mono hf,fun x hx=>(h.pro x hx).mono hf,h.id⟩
theorem RdRs.len (h:RdRs w F A n c rs):rs.length=n:=h.row.lenF RL.five (by omega)
theorem RdRs.upd {S:Nat->Prop} (h:RdRs w F A n c rs) (hu:Upd S w w') (hs:∀ b,F b->¬ S b):RdRs w' F A n c rs:=⟨h.row.upd hu hs,fun x hx=>(h.pro x hx).upd hu hs,h.id⟩
theorem RdRs.same (h:RdRs w F A n c rs) (hu:Same w w'):RdRs w' F A n c rs:=h.upd hu fun _ _ f=>f
theorem RdRs.mono (h:RdRs w F A n c rs) (hf:∀ b,b<w.heap.size->F b->F' b):RdRs w F' A n c rs:=⟨h.row.mono hf,fun x hx=>(h.pro x hx).mono hf,h.id⟩
theorem RdPs.at_ (h:RdPs w F A n c ps) {i:Nat} (hi:i<n):∃ b o x,A=some ⟨b,o,none⟩/\b<w.heap.size/\F b/\ps[i]?=some x/\x∈ps /\
 w.cell? ⟨b,o+i*6,none⟩=some (.string x.key)/\w.cell? ⟨b,o+i*6+1,none⟩=some (.int .i64 x.g.kind)/\w.cell? ⟨b,o+i*6+2,none⟩=some (.int .i64 x.g.num)/\w.cell? ⟨b,o+i*6+3,none⟩=some (.string x.g.text) /\
 w.cell? ⟨b,o+i*6+4,none⟩=some (.slice x.A1 x.n1 x.c1)/\w.cell? ⟨b,o+i*6+5,none⟩=some (.slice x.A2 x.n2 x.c2):=by
 obtain ⟨b,o,x,hA,hb,hF,hx,hm,hc⟩:=h.row.atF PR.six (by omega) hi
 exact ⟨b,o,x,hA,hb,hF,hx,hm,hc 0 _ rfl,hc 1 _ rfl,hc 2 _ rfl,hc 3 _ rfl,hc 4 _ rfl,hc 5 _ rfl⟩
theorem RdNs.at_ (h:RdNs w F A n c ns) {i:Nat} (hi:i<n):∃ b o x,A=some ⟨b,o,none⟩/\b<w.heap.size/\F b/\ns[i]?=some x/\x∈ns /\
 w.cell? ⟨b,o+i*3,none⟩=some (.int .i64 x.id)/\w.cell? ⟨b,o+i*3+1,none⟩=some (.slice x.AL x.nL x.cL)/\w.cell? ⟨b,o+i*3+2,none⟩=some (.slice x.AP x.nP x.cP):=by
 obtain ⟨b,o,x,hA,hb,hF,hx,hm,hc⟩:=h.row.atF ND.three (by omega) hi
 exact ⟨b,o,x,hA,hb,hF,hx,hm,hc 0 _ rfl,hc 1 _ rfl,hc 2 _ rfl⟩
theorem RdRs.at_ (h:RdRs w F A n c rs) {i:Nat} (hi:i<n):∃ b o x,A=some ⟨b,o,none⟩/\b<w.heap.size/\F b/\rs[i]?=some x/\x∈rs /\
 w.cell? ⟨b,o+i*5,none⟩=some (.int .i64 x.id)/\w.cell? ⟨b,o+i*5+1,none⟩=some (.string x.type)/\w.cell? ⟨b,o+i*5+2,none⟩=some (.int .i64 x.src)/\w.cell? ⟨b,o+i*5+3,none⟩=some (.int .i64 x.dst)/\w.cell? ⟨b,o+i*5+4,none⟩=some (.slice x.AP x.nP x.cP):=by
 obtain ⟨b,o,x,hA,hb,hF,hx,hm,hc⟩:=h.row.atF RL.five (by omega) hi
 exact ⟨b,o,x,hA,hb,hF,hx,hm,hc 0 _ rfl,hc 1 _ rfl,hc 2 _ rfl,hc 3 _ rfl,hc 4 _ rfl⟩
end
end Go.Proofs.YtkopcinhbjimiaaGreatDoor
