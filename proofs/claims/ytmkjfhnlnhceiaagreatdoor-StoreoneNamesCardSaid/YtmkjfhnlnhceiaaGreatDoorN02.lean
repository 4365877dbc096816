/- Texts that the claim leans on: walks and plain laws, function by function. -/
import Derived.Test.YtmkjfhnlnhceiaaGreatDoorProg
import Derived.Lib.Hide
import Derived.WalkLawsBesides
import Derived.Deep.QuietTactic
import Derived.BigQuiet
import Derived.Test.YtmkjfhnlnhceiaaGreatDoorN01
set_option maxRecDepth 100000
set_option maxHeartbeats 16000000
namespace Go.Proofs.YtmkjfhnlnhceiaaGreatDoor
open Go.RowKit
abbrev OwnB (w:World) (B:Nat) (v:Value) (bs:List UInt8):Prop:=w.ownsRow B 5 1 v bs.length (bs.map u8v)
abbrev Zvf (w:World) (B:Nat) (v:Value) (bs:List UInt8) (v':Value) (w':World):Prop:=Grew w B 5 1 v bs.length (bs.map u8v) v' w'
theorem Zir {w:World} {B:Nat} {A:Option Addr} {m c:Nat} {bs:List UInt8} (h:OwnB w B (.slice A m c) bs):Zag w (fun b=>A=some ⟨b,0,none⟩/\B<=b) A m c bs:=by
 obtain ⟨d,e,a⟩:=Zad h;injection a with h1 h2 h3
 subst h1;subst h2;subst h3;exact Yca h
def ZaK (n:Int):Bool:=n==1 || n==2 || n==4 || n==8
theorem ZeB (n:Int) (w:World):Calls Tryz.prog 157 #[.int .i64 n] w fun e w'=>e=.returned (.bool (ZaK n))/\w=w':=by
 by_cases a:n=1
 · subst a;go_enter Tryz.func157,Tryz.ntmps157;go_wp2;go_ret;exact ⟨rfl,rfl⟩
 by_cases b:n=2
 · subst b;go_enter Tryz.func157,Tryz.ntmps157;go_wp2;go_ret;exact ⟨rfl,rfl⟩
 by_cases c:n=4
 · subst c;go_enter Tryz.func157,Tryz.ntmps157;go_wp2;go_ret;exact ⟨rfl,rfl⟩
 by_cases d:n=8
 · subst d;go_enter Tryz.func157,Tryz.ntmps157;go_wp2;go_ret;exact ⟨rfl,rfl⟩
 have e:ZaK n=false:=by simp [ZaK,a,b,c,d]
 go_enter Tryz.func157,Tryz.ntmps157;go_wp2;go_ret;exact ⟨by simp [e],rfl⟩
theorem Zuc (bs:List UInt8) (c:UInt8):be (bs++[c])=be bs*256+c.toNat:=by simp [be]
theorem Zgc (bs:List UInt8):be bs<256 ^ bs.length:=by
 suffices h:∀ (l:List UInt8) (n k:Nat),n<256 ^ k->l.foldl (fun n c=>n*256+c.toNat) n<256 ^ (k+l.length) from by have:=h bs 0 0 (by simp);simpa [be] using this
 intro l
 induction l with
 | nil=>intro n k h;simpa using h
 | cons c l ih =>
   intro n k h;rw [Yei,Yao,show k+(l.length+1)=(k+1)+l.length from qO];refine ih _ _ ?_;rw [Nat.pow_succ];have:=c.toNat_lt;omega
theorem Zis (bs:List UInt8) (k:Nat) (h:k<bs.length):bs.take (k+1)=bs.take k++[bs[k]]:=YdQ h
theorem Zud (x c:Nat) (hc:c<256) (h:x*256+c<=18446744073709551615) :
 bits BinOp.or IntKind.u64 (IntKind.u64.wrap ((x:Int)*256)) (IntKind.u64.wrap (c:Int))=((x*256+c:Nat):Int):=by
 have b:IntKind.u64.wrap ((x:Int)*256)=((x*256:Nat):Int):=by rw [IntWalk.u64_in _ ⟨qO,qO⟩];omega
 have d:IntKind.u64.wrap (c:Int)=(c:Int):=IntWalk.u64_in _ ⟨qO,qO⟩;rw [b,d];rw [u64_or_nat (x*256) c (show x*256<18446744073709551616 from qO) (show c<18446744073709551616 from qO)];have e:c<2 ^ 8:=hc;have a:=Nat.two_pow_add_eq_or_of_lt e x;rw [show 2 ^ 8*x=x*256 from qO] at a;rw [a]
theorem Znk {F:Nat->Prop} {A:Option Addr} {n c:Nat} {bs:List UInt8} (w:World) (hb:Zag w F A n c bs) (h8:n<=8) :
 Calls Tryz.prog 193 #[.slice A n c] w fun e w'=>e=.returned (.int .u64 (be bs:Int))/\w=w':=by
 have f:=qH hb.len;go_enter Tryz.func193,Tryz.ntmps193;go_wp2
 go_loop [2,7] (fun v i=>∃ k:Nat,k<=n/\i=.int .i64 k/\v=.int .u64 (be (bs.take k):Int)) (fun _ i=>n-(intOf i).toNat)
 case atStart=>exact ⟨0,Yah _,rfl,rfl⟩
 obtain ⟨k,q,rfl,rfl⟩:=hrel;by_cases a:k<n
 · obtain ⟨b,o,rfl,l,_,r⟩:=hb.at_ a;have d:k<bs.length:=by rw [f.out];exact a
   go_wp2
   go_round
   case rel =>
    refine ⟨k+1,qO,by go_num,?_⟩;have g:=Zgc (bs.take k);have h:(bs.take k).length=k:=by simp;omega
    rw [h] at g;have m:256 ^ k<=256 ^ 7:=YdR qO qO;have p:=(bs[k]'d).toNat_lt;rw [Zis bs k d,Zuc,Zud _ _ qO qO]
   case measure=>simp [intOf];omega
 have j:k=n:=qO;go_wp2;go_ret;refine ⟨?_,rfl⟩;rw [YaB (by rw [f.out];omega)];simp
theorem ZdY:(Tryz.prog.info? 5).map (fun i=>(i.zero,i.size,i.bytes))=some (some (.int .u8 0),1,1):=by kernel_rfl
theorem ZkC (w:World) (a:Option Addr) (n c:Nat):(binOp .eql 39 (.slice a n c) (.slice none 0 0)).run Tryz.prog w=.ok (.bool a.isNone) w :=
 YcR (P:=Tryz.prog) w 39 5 a n c 0 0 Tryz.underlying39
theorem Zcv {F:Nat->Prop} {A:Option Addr} {n c:Nat} {bs:List UInt8} (w:World) (hb:Zag w F A n c bs) (hn:n<=140737488355328) :
 Calls Tryz.prog 106 #[.slice A n c] w fun e w'=>∃ v',e=.returned v'/\OwnB w' w.heap.size v' bs/\Same w w':=by
 have h:=qH hb.len;have i:=ZkC;cases A with
 | none =>
   have j:=hb.nil rfl;have k:=Row.le hb;obtain rfl:n=0:=qO;obtain rfl:c=0:=qO;have f:bs=[]:=Yco hb.len;subst f;clear j;go_enter Tryz.func106,Tryz.ntmps106;go_wp2;go_ret;exact ⟨_,rfl,YaQ _ _ _ _,Yaa _ _⟩
 | some a =>
   have g:n<=maxLen:=by have:=Row.le hb;have:=Row.max hb;omega
   go_enter Tryz.func106,Tryz.ntmps106;go_wp2_with (at_builtin;go_must (refine Zat rfl (.tmp 5) (.tmp 6) _ _ rfl w.heap.size _ _ _ _ Tryz.underlying39 ZdY rfl _ 0 [] rfl (YdS w #[] 0 (Yae _) (Yah _) rfl) rfl (Zbg Tryz.underlying39 (Row.same hb ((Yaa _ w).alloc _)) (ZgX bs)) qO qO (by simp) ?_);intro v' w' d);go_ret;refine ⟨v',rfl,?_,?_⟩
   · have:=d.own;unfold OwnB;rw [h.out];simpa using this
   exact ((Yaa _ w).alloc _).trans d.upd fun b hb l=>by have:=Yax l;simp only at this;omega
def ZbM (k:Int):Int:=if 4<k then k-4 else k
theorem Zgd (n:Int) (w:World) (h0 : -9223372036854775808<=n) (h1:n<=9223372036854775807) :
 Calls Tryz.prog 189 #[.int .i64 n] w fun e w'=>e=.returned (.int .i64 (ZbM n))/\w=w':=by
 unfold ZbM;by_cases h:4<n
 · go_enter Tryz.func189,Tryz.ntmps189;go_wp2;go_ret;exact ⟨rfl,rfl⟩
 go_enter Tryz.func189,Tryz.ntmps189;go_wp2;go_ret;exact ⟨rfl,rfl⟩
theorem Zvg (n:Int):IntKind.u64.wrap n=(u64 n:Int):=by rw [YfH];unfold u64;omega
theorem ZtT (n:Int):u64 n<18446744073709551616:=by unfold u64;omega
theorem Zue (n:Int):ZaM 3 n=if bits BinOp.and IntKind.u64 (IntKind.u64.wrap n / 4503599627370496) 2047=2047/\¬ IntKind.u64.wrap (IntKind.u64.wrap n*4096)=0/\(IntKind.u64.wrap n != 9221120237041090560)=true then 43 else 0:=by
 rw [Zvg n];have c:=ZtT n;have d:((u64 n:Int) / 4503599627370496)=((u64 n / 4503599627370496:Nat):Int):=qO;have e:bits BinOp.and IntKind.u64 ((u64 n:Int) / 4503599627370496) 2047=((u64 n / 4503599627370496 % 2048:Nat):Int):=by rw [d];have h:=u64_and_nat (u64 n / 4503599627370496) 2047 qO qD;rw [show ((2047:Nat):Int)=2047 from rfl] at h;rw [h];have a:=Nat.and_two_pow_sub_one_eq_mod (u64 n / 4503599627370496) 11;rw [show 2 ^ 11-1=2047 from rfl,show 2 ^ 11=2048 from rfl] at a;rw [a]
 have f:IntKind.u64.wrap ((u64 n:Int)*4096)=((u64 n % 4503599627370496*4096:Nat):Int):=by rw [YfH];omega
 rw [e,f];unfold ZaM nanB;generalize u64 n=U at *;simp only [Yay,YbE,Ybh,ne_eq];by_cases b:U / 4503599627370496 % 2048=2047
 · by_cases a:U % 4503599627370496=0
   · simp [b,a]
   by_cases g:U=9221120237041090560
   · rw [Yab qO,Yab qO,Yab qO]
   rw [Yab qO,Yac ⟨trivial,⟨b,a⟩,g⟩,Yac ⟨qO,qO,qO⟩]
 rw [Yab qO,Yab (fun h=>b h.2.1.1),Yab (fun h=>b qO)]
theorem ZcW (k n:Int) (w:World) (h0:1<=k) (h1:k<=8) :
 Calls Tryz.prog 185 #[.int .i64 k,.int .i64 n] w fun e w'=>e=.returned (.int .i64 (ZaM (ZbM k) n))/\w=w':=by
 have f:=Zgd k;generalize ZbM k=K at f ⊢;have b:=qH f;clear f;by_cases g:K=1
 · subst g;go_enter Tryz.func185,Tryz.ntmps185;go_wp2_with fail;refine (b.out _ qO qO).mono ?_;rintro e w' ⟨rfl,rfl⟩;go_wp2
   all_goals
    go_ret;refine ⟨?_,rfl⟩;clear b
   · rename_i h;simp [ZaM,h]
   · rename_i _ h;simp only [Ybh] at h;simp [ZaM,h.1,h.2]
   rename_i _ h;simp only [YfI] at h;rcases h with h | h <;> simp [ZaM,h]
 by_cases c:K=3
 · subst c;go_enter Tryz.func185,Tryz.ntmps185;go_wp2_with fail;refine (b.out _ qO qO).mono ?_;rintro e w' ⟨rfl,rfl⟩;go_wp2
   all_goals
    go_ret;refine ⟨?_,rfl⟩;rw [Zue];clear b
   · rename_i h1 d;rw [Yab (fun h=>h.2.1 d)];rfl
   · rename_i h1 d a;rw [Yac ⟨h1,d,a.2⟩];rfl
   · rename_i h1 d a;rw [Yab (fun h=>by rcases a with a | a;exact absurd a (by simpa using d);rw [h.2.2] at a;cases a)];rfl
   rename_i h1;rw [Yab (fun h=>h1 h.1)];rfl
 have i:ZaM K n=0:=by simp [ZaM,g,c]
 rw [i];clear i;go_enter Tryz.func185,Tryz.ntmps185;go_wp2_with fail;refine (b.out _ qO qO).mono ?_;rintro e w' ⟨rfl,rfl⟩;go_wp2;go_ret;exact ⟨rfl,rfl⟩
structure Zdu (w:World) (F:Nat->Prop) (A1:Option Addr) (n1 c1:Nat) (A2:Option Addr) (n2 c2:Nat) (g:GVal):Prop where
 nums:WRow w F 1 A1 n1 c1 (g.nums.map (Value.int .i64))
 texts:WRow w F 1 A2 n2 c2 (g.texts.map Value.string)
 kind : -9223372036854775808<=g.kind/\g.kind<=9223372036854775807
 num : -9223372036854775808<=g.num/\g.num<=9223372036854775807
 range:∀ n∈g.nums,-9223372036854775808<=n/\n<=9223372036854775807
section
variable {w w':World} {F F':Nat->Prop} {A1 A2:Option Addr} {n1 c1 n2 c2:Nat} {g:GVal}
theorem Zdu.upd {S:Nat->Prop} (h:Zdu w F A1 n1 c1 A2 n2 c2 g) (hu:Upd S w w') (hs:∀ b,F b->¬ S b):Zdu w' F A1 n1 c1 A2 n2 c2 g :=
 ⟨h.nums.upd hu hs,h.texts.upd hu hs,h.kind,h.num,h.range⟩
theorem Zdu.same (h:Zdu w F A1 n1 c1 A2 n2 c2 g) (hu:Same w w'):Zdu w' F A1 n1 c1 A2 n2 c2 g:=h.upd hu fun _ _ f=>f
theorem Zdu.mono (h:Zdu w F A1 n1 c1 A2 n2 c2 g) (hf:∀ b,b<w.heap.size->F b->F' b):Zdu w F' A1 n1 c1 A2 n2 c2 g :=
 ⟨h.nums.mono hf,h.texts.mono hf,h.kind,h.num,h.range⟩
theorem Zdu.len1 (h:Zdu w F A1 n1 c1 A2 n2 c2 g):g.nums.length=n1:=by have:=h.nums.len;simpa using this
theorem Zdu.len2 (h:Zdu w F A1 n1 c1 A2 n2 c2 g):g.texts.length=n2:=by have:=h.texts.len;simpa using this
end
abbrev GVal.val (g:GVal) (A1:Option Addr) (n1 c1:Nat) (A2:Option Addr) (n2 c2:Nat):Value :=
 .agg #[.int .i64 g.kind,.int .i64 g.num,.string g.text,.slice A1 n1 c1,.slice A2 n2 c2]
theorem Zge (s:ByteArray):(s.size != 0)=!s.toList.isEmpty:=by
 rw [Ydz];have:s.data.toList.length=s.size:=by rw [Ycf];rfl
 rw [<- this];cases s.data.toList <;> simp
theorem Zbh {a b:Bool} (h:a=b):Ending.returned (.bool a)=.returned (.bool b):=by rw [h]
theorem ZdZ {k:IntKind} {a b:Int} (h:a=b):Ending.returned (.int k a)=.returned (.int k b):=by rw [h]
def badB (kind:Int) (num:Int) (text n1 n2:Nat):Bool :=
 (num != 0 && decide (3<kind)) || (text != 0 && kind != 4) || (n1 != 0 && (decide (kind<5) || kind==8)) || (n2 != 0 && kind != 8)
theorem Znl {A1 A2:Option Addr} {n1 c1 n2 c2:Nat} {kind num:Int} {text:ByteArray} (w:World) (h0:1<=kind) (h1:kind<=8) :
 Calls Tryz.prog 182 #[.agg #[.int .i64 kind,.int .i64 num,.string text,.slice A1 n1 c1,.slice A2 n2 c2]] w fun e w' =>
  e=.returned (.bool (badB kind num text.size n1 n2))/\Same w w':=by
 have b:=Zgd kind;by_cases c:kind=8
 · subst c;rw [show ZbM 8=4 from rfl] at b;have a:=qH b;clear b;go_enter Tryz.func182,Tryz.ntmps182;go_wp2_with fail;refine (a.out _ qO qO).mono ?_;rintro e w' ⟨rfl,rfl⟩;go_wp2
   all_goals
    go_ret;refine ⟨Zbh ?_,(Yaa _ _).alloc _⟩;clear a;unfold badB;rw [Zge];simp [*]
 by_cases d:kind=4
 · subst d;rw [show ZbM 4=4 from rfl] at b;have a:=qH b;clear b c;go_enter Tryz.func182,Tryz.ntmps182;go_wp2_with fail;refine (a.out _ qO qO).mono ?_;rintro e w' ⟨rfl,rfl⟩;go_wp2
   all_goals
    go_ret;refine ⟨Zbh ?_,(Yaa _ _).alloc _⟩;clear a;unfold badB;rw [Zge];simp [*]
 have f:(ZbM kind==4)=false:=by unfold ZbM;split <;> simp <;> omega
 generalize ZbM kind=K at b f;have a:=qH b;clear b;by_cases i:4<kind
 · have g:¬ kind<5:=qO;have h:3<kind:=qO;go_enter Tryz.func182,Tryz.ntmps182;go_wp2_with fail;refine (a.out _ qO qO).mono ?_;rintro e w' ⟨rfl,rfl⟩;go_wp2
   all_goals
    go_ret;refine ⟨Zbh ?_,(Yaa _ _).alloc _⟩;clear a;unfold badB;rw [Zge];simp [*]
 have g:kind<5:=qO;have h:¬ 3<kind:=qO;go_enter Tryz.func182,Tryz.ntmps182;go_wp2_with fail;refine (a.out _ qO qO).mono ?_;rintro e w' ⟨rfl,rfl⟩;go_wp2
 all_goals
  go_ret;refine ⟨Zbh ?_,(Yaa _ _).alloc _⟩;clear a;unfold badB;rw [Zge];simp [*]
def Zgf (w:World) (B:Nat) (v:Value) (g:GVal):Prop :=
 ∃ v1 v2,v=.agg #[.int .i64 g.kind,.int .i64 g.num,.string g.text,v1,v2] /\
  w.ownsRow B 2 1 v1 g.nums.length (g.nums.map (Value.int .i64))/\w.ownsRow B 9 1 v2 g.texts.length (g.texts.map Value.string)
theorem Zfn (l:List UInt8) (k:Nat) (hk:k<=8):be (l.take k)<18446744073709551616:=by have h:=Zgc (l.take k);have a:256 ^ (l.take k).length<=256 ^ 8:=YdR qO (by rw [YaJ];omega);have b:256 ^ 8=18446744073709551616:=qD;omega
theorem Zgg (n:Nat) (h:n<18446744073709551616) : -9223372036854775808<=i64 n/\i64 n<=9223372036854775807:=by unfold i64;split <;> omega
theorem ZgY {k:Int} {l r:List UInt8} {n:Int} (h:pNum k l=.ok (n,r)):r.length<=l.length:=by
 unfold pNum at h;simp only at h;generalize (if k=1 then 1 else 8)=W at h;split at h
 · cases h
 split at h
 · cases h
 injection h with h
 injection h with _ h
 rw [<- h,Yas];omega
theorem ZfO {l r:List UInt8} {s:ByteArray} (h:Zci l=.ok (s,r)):r.length<=l.length:=by
 unfold Zci at h;split at h
 · cases h
 split at h
 · cases h
 split at h
 · cases h
 injection h with h
 injection h with _ h
 rw [<- h,Yas,Yas];omega
theorem Znm {k:Int} {l r:List UInt8} {g:GVal} (h:Zgb k l=.ok (g,r)):g.kind=k/\g.num=0/\g.text=⟨#[]⟩:=by
 unfold Zgb at h;split at h
 · cases h
 split at h
 · cases h
 split at h
 · split at h
   · cases h
   injection h with h
   injection h with h _
   subst h;exact ⟨rfl,rfl,rfl⟩
 split at h
 · cases h
 injection h with h
 injection h with h _
 subst h;exact ⟨rfl,rfl,rfl⟩
theorem Zit {α:Type} {p:List UInt8->Except Int (α×List UInt8)} (hp:∀ l x r,p l=.ok (x,r)->r.length<=l.length):∀ (n:Nat) (l:List UInt8) (xs:List α) (r:List UInt8),ZbI p n l=.ok (xs,r)->r.length<=l.length:=by
 intro n
 induction n with
 | zero =>
   intro l xs r h;simp only [ZbI] at h;injection h with h
   injection h with _ h
   rw [h];exact Yae _
 | succ n ih =>
   intro l xs r h;simp only [ZbI] at h;split at h
   · cases h
   rename_i x c a;split at h
   · cases h
   rename_i d e b;injection h with h
   injection h with _ h
   subst h;exact Yaj (ih _ _ _ b) (hp _ _ _ a)
theorem ZjR {l r:List UInt8} {g:GVal} (h:pVal l=.ok (g,r)):r.length<=l.length:=by
 unfold pVal at h;split at h
 · cases h
 rename_i c i;have f:i.length<=(c::i).length:=by simp
 split at h
 · cases h
 split at h
 · unfold Zgb at h;split at h
   · cases h
   rename_i k j;have b:j.length<=(c::k::j).length:=by simp;omega
   split at h
   · cases h
   split at h
   · split at h
     · cases h
     rename_i m d a;injection h with h
     injection h with _ h
     subst h;exact Yaj (Zit (fun _ _ _ e=>ZfO e) _ _ _ _ a) b
   split at h
   · cases h
   rename_i m d a;injection h with h
   injection h with _ h
   subst h;exact Yaj (Zit (fun _ _ _ e=>ZgY e) _ _ _ _ a) b
 split at h
 · split at h
   · cases h
   rename_i t d a;injection h with h
   injection h with _ h
   subst h;exact Yaj (ZfO a) f
 split at h
 · cases h
 rename_i t d a;injection h with h
 injection h with _ h
 subst h;exact Yaj (ZgY a) f
theorem Zgh {l:List UInt8} {e:Int} (h:pVal l=.error e):decP l=(ZsE,0,e):=by unfold decP;rw [h]
theorem Ziu {l r:List UInt8} {g:GVal} (h:pVal l=.ok (g,r)):decP l=(g,l.length-r.length,0):=by unfold decP;rw [h]
section
variable {w w0:World} {g:Nat} {t:TypeId} {a0 a1 a2 a3 a4:Value}
theorem Blk.five (h:Blk w g t #[a0,a1,a2,a3,a4]):w.cell? ⟨g,0,none⟩=some a0/\w.cell? ⟨g,1,none⟩=some a1/\w.cell? ⟨g,2,none⟩=some a2/\w.cell? ⟨g,3,none⟩=some a3/\w.cell? ⟨g,4,none⟩=some a4 :=
 ⟨h.cell 0,h.cell 1,h.cell 2,h.cell 3,h.cell 4⟩
theorem Blk.five_free (h:Blk w g t #[a0,a1,a2,a3,a4]):w.frozen? ⟨g,0,none⟩=false/\w.frozen? ⟨g,1,none⟩=false/\w.frozen? ⟨g,2,none⟩=false/\w.frozen? ⟨g,3,none⟩=false/\w.frozen? ⟨g,4,none⟩=false :=
 ⟨h.frozen 0,h.frozen 1,h.frozen 2,h.frozen 3,h.frozen 4⟩
abbrev put5 (w:World) (g:Nat) (u0 u1 u2 u3 u4:Value):World :=
 ((((w.setCell ⟨g,0,none⟩ u0).setCell ⟨g,1,none⟩ u1).setCell ⟨g,2,none⟩ u2).setCell ⟨g,3,none⟩ u3).setCell ⟨g,4,none⟩ u4
theorem Blk.put5 (h:Blk w g t #[a0,a1,a2,a3,a4]) (u0 u1 u2 u3 u4:Value):Blk (put5 w g u0 u1 u2 u3 u4) g t #[u0,u1,u2,u3,u4] :=
 ((((h.put 0 u0).put 1 u1).put 2 u2).put 3 u3).put 4 u4
theorem Upd.put5 (h:Upd (fun b=>b=g) w0 w) (u0 u1 u2 u3 u4:Value):Upd (fun b=>b=g) w0 (put5 w g u0 u1 u2 u3 u4) :=
 ((((h.put1 u0).put1 u1).put1 u2).put1 u3).put1 u4
end
def decD (n:Nat) (P:GVal×Nat×Int):GVal×Int:=if P.2.2=0/\P.2.1<n then (ZsE,11) else (P.1,P.2.2)
structure GVal.Fits (g:GVal):Prop where
 kind : -9223372036854775808<=g.kind/\g.kind<=9223372036854775807
 num : -9223372036854775808<=g.num/\g.num<=9223372036854775807
 range:∀ n∈g.nums,-9223372036854775808<=n/\n<=9223372036854775807
def ZcP (ts:List ByteArray):Bool:=ts.any fun s=>decide (1000<s.size)
theorem Ziv (s:ByteArray) (w:World) (h:s.size<=9223372036854775807):Calls Tryz.prog 184 #[.string s] w fun e w'=>e=.returned (.bool (decide (1000<s.size)))/\w=w':=by go_enter Tryz.func184,Tryz.ntmps184;go_wp2;go_ret;exact ⟨Zbh (decide_eq_decide.2 qO),rfl⟩
theorem ZjF {F:Nat->Prop} {A:Option Addr} {n c:Nat} {ts:List ByteArray} (w:World) (h:WRow w F 1 A n c (ts.map Value.string)) (hts:∀ s∈ts,s.size<=9223372036854775807) :
 Calls Tryz.prog 215 #[.slice A n c,.func (.func 184) #[] #[]] w fun e w'=>∃ r:Int,e=.returned (.int .i64 r)/\(ZcP ts=decide (0<=r))/\w=w':=by
 have t:=qH (show ts.length=n from by simpa using h.len);have g:=h.max;have l:=h.le;unfold maxLen at g;have G:n<=9223372036854775807:=qO;clear g l;go_enter Tryz.func215,Tryz.ntmps215;go_wp2
 go_loop [8] (fun i=>∃ k:Nat,k<=n/\i=.int .i64 k/\ZcP (ts.take k)=false) (fun i=>n-(intOf i).toNat)
 case atStart=>exact ⟨0,Yah _,rfl,rfl⟩
 obtain ⟨k,H,rfl,a⟩:=hrel;by_cases j:k<n
 · obtain ⟨b,o,u,rfl,D,_,p,I⟩:=h.at_ j;have d:k<ts.length:=by rw [t.out];exact j
   rw [Yau,Yar d] at p;obtain rfl:Value.string ts[k]=u:=by simpa using p
   have v:=qH (hts ts[k] (YdA d));have m:=qH a;have y:=qH (show ZcP (ts.take (k+1))=(ZcP (ts.take k) || decide (1000<ts[k].size)) from by rw [YdQ d];unfold ZcP;rw [YfJ,List.any_cons,List.any_nil,Bool.or_false])
   clear p a hts;generalize ts[k]=s at *;by_cases z:1000<s.size
   · go_wp2_with fail;refine (Ziv _ _ v).mono ?_;rintro e w' ⟨rfl,rfl⟩;go_wp2;go_ret;refine ⟨k,rfl,?_,rfl⟩;have f:=y.out;rw [YaV z,Bool.or_true] at f;have B:ZcP ts=true:=by unfold ZcP at f ⊢;obtain ⟨x,E,q⟩:=Yck.1 f;exact Yck.2 ⟨x,Yfh E,q⟩
     rw [B];simp
   go_wp2_with fail;refine (Ziv _ _ v).mono ?_;rintro e w' ⟨rfl,rfl⟩;go_wp2
   go_round
   case rel =>
    refine ⟨k+1,qO,by go_num,?_⟩;rw [y.out,m.out,YaM z];rfl
   case measure=>simp [intOf];omega
 have C:k=n:=qO;have m:=qH a;clear a;go_wp2;go_ret;refine ⟨-1,rfl,?_,rfl⟩;have f:=m.out;rw [YaB (by rw [t.out];omega)] at f;rw [f];rfl
theorem ZdL {F:Nat->Prop} {A:Option Addr} {n c:Nat} {ts:List ByteArray} (w:World) (h:WRow w F 1 A n c (ts.map Value.string)) (hts:∀ s∈ts,s.size<=9223372036854775807) {r:Bool} (hr:ZcP ts=r) :
 Calls Tryz.prog 183 #[.slice A n c,.func (.func 184) #[] #[]] w fun e w'=>e=.returned (.bool r)/\w=w':=by
 subst hr;go_enter Tryz.func183,Tryz.ntmps183;go_wp2_with fail;refine (ZjF _ h hts).mono ?_;rintro e w' ⟨r,rfl,hr,rfl⟩;have a:=qH hr;clear hr;go_wp2;go_ret;exact ⟨Zbh a.symm,rfl⟩
theorem Ziw {kind:Int} (x:Int) (h:4<=kind):ZaM (ZbM kind) x=ZaM (kind-4) x:=by
 unfold ZbM;split
 · rfl
 obtain rfl:kind=4:=qO;simp [ZaM]
theorem ZlA (k:Int) (l:List Int) (i:Nat) (hi:i<l.length) (h:ZbH k (l.take i)=0):ZbH k (l.take (i+1))=ZaM k l[i]:=by
 induction l generalizing i with
 | nil=>simp at hi
 | cons x l ih =>
   cases i with
   | zero=>by_cases a:ZaM k x=0 <;> simp [ZbH,a]
   | succ i =>
     simp only [YeN,ZbH,Yaw] at h ⊢;split at h
     · exact absurd h qA
     rename_i a;rw [Yab a];exact ih i (by simpa using hi) h
theorem ZlB (k:Int) (l:List Int) (i:Nat) (h:ZbH k (l.take i)≠0):ZbH k l=ZbH k (l.take i):=by
 induction l generalizing i with
 | nil=>simp
 | cons x l ih =>
   cases i with
   | zero=>simp [ZbH] at h
   | succ i =>
     simp only [YeN,ZbH] at h ⊢;split
     · rfl
     rename_i a;rw [Yab a] at h;exact ih i h
theorem ZgZ {F:Nat->Prop} {A1 A2:Option Addr} {n1 c1 n2 c2:Nat} {g:GVal} (w:World) (h:Zdu w F A1 n1 c1 A2 n2 c2 g) (hx:g.text.size<=9223372036854775807) (hts:∀ s∈g.texts,s.size<=9223372036854775807) :
 Calls Tryz.prog 139 #[g.val A1 n1 c1 A2 n2 c2] w fun e w'=>e=.returned (.int .i64 (chk g))/\Same w w':=by
 obtain ⟨kind,num,text,a,texts⟩:=g;simp only [GVal.val];simp only at hx hts;have hk:=h.kind;simp only at hk;have l:=h.len1;have m:=h.len2;simp only at l m;have U:=h.nums.max;have V:=h.texts.max;have a2:=h.nums.le;have a3:=h.texts.le;unfold maxLen at U V;by_cases j:kind<1\/8<kind
 · have G:chk ⟨kind,num,text,a,texts⟩=40:=by unfold chk;rw [Yac j]
   rw [G];clear G l m;rcases j with hr | hr
   · go_enter Tryz.func139,Tryz.ntmps139;go_wp2;go_ret;exact ⟨rfl,(Yaa _ w).alloc _⟩
   have a4:¬ kind<1:=qO;go_enter Tryz.func139,Tryz.ntmps139;go_wp2;go_ret;exact ⟨rfl,(Yaa _ w).alloc _⟩
 have a5:¬ kind<1:=qO;have a6:¬ 8<kind:=qO;have v:=Znl (A1:=A1) (A2:=A2) (n1:=n1) (c1:=c1) (n2:=n2) (c2:=c2) (kind:=kind) (num:=num) (text:=text) (w.alloc (.cells #[.int .i64 kind,.int .i64 num,.string text,.slice A1 n1 c1,.slice A2 n2 c2] 51)) qO qO;have y:ZcV ⟨kind,num,text,a,texts⟩=badB kind num text.size n1 n2:=by simp only [ZcV,badB,l,m]
 by_cases H:badB kind num text.size n1 n2=true
 · have G:chk ⟨kind,num,text,a,texts⟩=41:=by unfold chk;rw [Yab j,Yac (by rw [y];exact H)]
   rw [G];rw [H] at v;have A:=qH v;clear G l m H v y;go_enter Tryz.func139,Tryz.ntmps139;go_wp2_with fail;refine A.mono ?_;rintro e R ⟨rfl,q⟩;go_wp2;go_ret;exact ⟨rfl,((Yaa _ w).alloc _).same q⟩
 have C:badB kind num text.size n1 n2=false:=by simpa using H
 rw [C] at v;have A:=qH v;have HC:=qH (show chk ⟨kind,num,text,a,texts⟩=(if 40<a.length\/40<texts.length then 45
  else if 1000<text.size\/ZcP texts=true then 44
  else if kind<4 then ZaM kind num else ZbH (kind-4) a) from by
  unfold chk;rw [Yab j,Yab (by rw [y,C];simp)];rfl)
 clear v y H C;have W:=qH h;have I:=qH l;have a7:=qH m;by_cases d:40<a.length\/40<texts.length
 · have n:=qH (HC.trans (Yac d));rw [l,m] at d;clear h l m;rcases d with M | M
   · go_enter Tryz.func139,Tryz.ntmps139;go_wp2_with fail;refine A.mono ?_;rintro e R ⟨rfl,q⟩;have p:=(Yad w 51 #[.int .i64 kind,.int .i64 num,.string text,.slice A1 n1 c1,.slice A2 n2 c2]).same q;have L:=p.c3;go_wp2;go_ret;exact ⟨ZdZ n.symm,((Yaa _ w).alloc _).same q⟩
   by_cases X:40<n1
   · go_enter Tryz.func139,Tryz.ntmps139;go_wp2_with fail;refine A.mono ?_;rintro e R ⟨rfl,q⟩;have p:=(Yad w 51 #[.int .i64 kind,.int .i64 num,.string text,.slice A1 n1 c1,.slice A2 n2 c2]).same q;have L:=p.c3;go_wp2;go_ret;exact ⟨ZdZ n.symm,((Yaa _ w).alloc _).same q⟩
   go_enter Tryz.func139,Tryz.ntmps139;go_wp2_with fail;refine A.mono ?_;rintro e R ⟨rfl,q⟩;have p:=(Yad w 51 #[.int .i64 kind,.int .i64 num,.string text,.slice A1 n1 c1,.slice A2 n2 c2]).same q;have L:=p.c3;have Y:=p.c4;go_wp2;go_ret;exact ⟨ZdZ n.symm,((Yaa _ w).alloc _).same q⟩
 have n:=qH (HC.trans (Yab d));rw [l,m] at d;have M:n1<=40:=qO;have X:n2<=40:=qO;clear h l m d;by_cases t:1000<text.size
 · have Z:=qH (n.trans (Yac (.inl t)));go_enter Tryz.func139,Tryz.ntmps139;go_wp2_with fail;refine A.mono ?_;rintro e R ⟨rfl,q⟩;have p:=(Yad w 51 #[.int .i64 kind,.int .i64 num,.string text,.slice A1 n1 c1,.slice A2 n2 c2]).same q;have N:=p.c2;have L:=p.c3;have Y:=p.c4;go_wp2;go_ret;exact ⟨ZdZ Z.symm,((Yaa _ w).alloc _).same q⟩
 have HT:=qH (show (1000<text.size\/ZcP texts=true)↔ZcP texts=true from ⟨fun h=>h.resolve_left t,.inr⟩);go_enter Tryz.func139,Tryz.ntmps139;go_wp2_with fail;refine A.mono ?_;rintro e R ⟨rfl,q⟩;have p:=(Yad w 51 #[.int .i64 kind,.int .i64 num,.string text,.slice A1 n1 c1,.slice A2 n2 c2]).same q;have c:=((Yaa (fun _=>False) w).alloc (.cells #[.int .i64 kind,.int .i64 num,.string text,.slice A1 n1 c1,.slice A2 n2 c2] 51)).same q;have c0:=p.c0;have a0:=p.c1;have N:=p.c2;have L:=p.c3;have Y:=p.c4;clear p;generalize hB:w.heap.size=B at c0 a0 N L Y;clear hB q;go_wp2_with fail;by_cases f:ZcP texts=true
 · refine (ZdL _ (W.texts.same c) hts f).mono ?_;rintro e w2 ⟨rfl,rfl⟩;have T:=qH f;clear f;go_wp2;go_ret;refine ⟨ZdZ ?_,c⟩;exact (n.trans (Yac (.inr T))).symm
 refine (ZdL _ (W.texts.same c) hts (r:=false) (by simpa using f)).mono ?_;rintro e w2 ⟨rfl,rfl⟩;have T:=qH (fun hh=>f (HT.1 hh));clear f;by_cases h4:kind<4
 · go_wp2_with fail;refine (ZcW _ _ _ qO qO).mono ?_;rintro e w3 ⟨rfl,rfl⟩;go_wp2;go_ret;refine ⟨ZdZ ?_,c⟩;rw [n.out,Yab T.out,Yac h4];rw [show ZbM kind=kind from by unfold ZbM;rw [Yab qO]]
 go_wp2
 go_loop [51] (fun i=>∃ k:Nat,k<=n1/\i=.int .i64 k/\Hid (ZbH (kind-4) (a.take k)=0)) (fun i=>n1-(intOf i).toNat)
 case atStart=>exact ⟨0,Yah _,rfl,qH rfl⟩
 obtain ⟨k,hk,rfl,S⟩:=hrel;have HK:=qH (show ZbH (kind-4) a=chk ⟨kind,num,text,a,texts⟩ from by rw [n.out,Yab T.out,Yab qO])
 by_cases O:k<n1
 · have z:=W.nums.same c;obtain ⟨b,o,u,rfl,a8,_,v,hc⟩:=z.at_ O;have P:k<a.length:=by rw [I.out];exact O
   simp only [Yau,Yar P,Ybw,Yce] at v;subst v;have HN:=qH (ZlA (kind-4) a k P S);have HS:=qH (ZlB (kind-4) a (k+1));clear z;generalize a[k]=x at *;by_cases E:ZaM (kind-4) x=0
   · go_wp2_with fail;refine (ZcW _ _ _ qO qO).mono ?_;rintro e w3 ⟨rfl,rfl⟩;have a1:ZaM (ZbM kind) x=0:=by rw [Ziw x qO];exact E
     have HZ:=qH E;clear E;go_wp2
     go_round
     case rel=>exact ⟨k+1,qO,by go_num,qH (HN.trans HZ)⟩
     case measure=>simp [intOf];omega
   go_wp2_with fail;refine (ZcW _ _ _ qO qO).mono ?_;rintro e w3 ⟨rfl,rfl⟩;have D:=Ziw x (show 4<=kind by omega);have a1:(ZaM (ZbM kind) x != 0)=true:=by rw [D];simpa using E
   have HZ:=qH E;have HB:=qH D;clear E D;go_wp2;go_ret;refine ⟨ZdZ ?_,c⟩;rw [<- HK.out,HB.out,HS.out (by rw [HN.out];exact HZ),HN.out]
 obtain rfl:k=n1:=qO;go_wp2;go_ret;refine ⟨ZdZ ?_,c⟩;rw [<- HK.out,<-S.out,YaB (by rw [I.out];exact Yae _)]
theorem ZhE {α:Type} {l m:List α} {k:Nat} (h1:k<l.length) (h2:k<m.length) (h:l.take k=m.take k) (he:l[k]=m[k]):l.take (k+1)=m.take (k+1):=by rw [YdQ h1,YdQ h2,h,he]
theorem Zov {α:Type} {l m:List α} {k:Nat} (h1:k<l.length) (h2:k<m.length) (he:l[k]≠m[k]):l≠m:=by rintro rfl;exact he rfl
theorem Zbi (s t:ByteArray):s.toList=t.toList↔s=t:=by
 rw [Ydz,Ydz];constructor
 · intro h;cases s;cases t;congr 1;exact YfK.1 h
 rintro rfl;rfl
instance ZsF:DecidableEq ByteArray:=fun a b=>decidable_of_iff _ (Zbi a b)
def Zgi (g h:GVal):Bool:=g.kind==h.kind && (g.num==h.num && (g.text.toList==h.text.toList && (decide (g.nums=h.nums) && decide (g.texts=h.texts))))
theorem ZqF (g h:GVal):Zgi g h=true↔g=h:=by unfold Zgi;simp only [Yay,YbE,Ybc,Zbi];cases g;cases h;simp
theorem Zps {F F':Nat->Prop} {A1 A2 B1 B2:Option Addr} {n1 c1 n2 c2 m1 d1 m2 d2:Nat} {g h:GVal} (w:World) (hg:Zdu w F A1 n1 c1 A2 n2 c2 g) (hh:Zdu w F' B1 m1 d1 B2 m2 d2 h) :
 Calls Tryz.prog 80 #[g.val A1 n1 c1 A2 n2 c2,h.val B1 m1 d1 B2 m2 d2] w fun e w'=>e=.returned (.bool (Zgi g h))/\Same w w':=by
 obtain ⟨c,m,p,n,f⟩:=g;obtain ⟨s,t,l,j,a⟩:=h;simp only [GVal.val];have H1:=qH hg;have H2:=qH hh;have G:=qH (show n.length=n1 from hg.len1);have H:=qH (show f.length=n2 from hg.len2);have I:=qH (show j.length=m1 from hh.len1);have L:=qH (show a.length=m2 from hh.len2);have a8:n1<=9223372036854775807:=by have:=hg.nums.le;have:=hg.nums.max;unfold maxLen at this;omega
 have a9:n2<=9223372036854775807:=by have:=hg.texts.le;have:=hg.texts.max;unfold maxLen at this;omega
 have aa:m1<=9223372036854775807:=by have:=hh.nums.le;have:=hh.nums.max;unfold maxLen at this;omega
 have ab:m2<=9223372036854775807:=by have:=hh.texts.le;have:=hh.texts.max;unfold maxLen at this;omega
 clear hg hh;by_cases hk:c=s
 case neg =>
  have ac:(c != s)=true:=by simpa using hk
  have B:=qH (show Zgi ⟨c,m,p,n,f⟩ ⟨s,t,l,j,a⟩=false from by
   have:(c==s)=false:=by simpa using hk
   simp only [Zgi,this,YbN])
  go_enter Tryz.func80,Tryz.ntmps80;go_wp2;go_ret;exact ⟨Zbh B.symm,((Yaa _ w).alloc _).alloc _⟩
 subst hk;by_cases hn:m=t
 case neg =>
  have ad:(m != t)=true:=by simpa using hn
  have B:=qH (show Zgi ⟨c,m,p,n,f⟩ ⟨c,t,l,j,a⟩=false from by
   have:(m==t)=false:=by simpa using hn
   simp only [Zgi,this,YbN,YcS])
  go_enter Tryz.func80,Tryz.ntmps80;go_wp2;go_ret;exact ⟨Zbh B.symm,((Yaa _ w).alloc _).alloc _⟩
 subst hn;by_cases ht:(p.toList==l.toList)=true
 case neg =>
  have a2:(p.toList==l.toList)=false:=by simpa using ht
  have B:=qH (show Zgi ⟨c,m,p,n,f⟩ ⟨c,m,l,j,a⟩=false from by simp only [Zgi,a2,YbN,YcS])
  go_enter Tryz.func80,Tryz.ntmps80;go_wp2;go_ret;exact ⟨Zbh B.symm,((Yaa _ w).alloc _).alloc _⟩
 have B:=qH (show Zgi ⟨c,m,p,n,f⟩ ⟨c,m,l,j,a⟩=(decide (n=j) && decide (f=a)) from by simp [Zgi,ht])
 by_cases U:n1=m1
 case neg =>
  have a6:((n1:Int) != (m1:Int))=true:=by rw [Ybh];omega
  have M:n≠j:=by rintro rfl;exact U (G.symm.trans I)
  go_enter Tryz.func80,Tryz.ntmps80;go_wp2;go_ret;exact ⟨Zbh (by rw [B.out,YaM M];rfl),((Yaa _ w).alloc _).alloc _⟩
 subst U;by_cases V:n2=m2
 case neg =>
  have a7:((n2:Int) != (m2:Int))=true:=by rw [Ybh];omega
  have M:f≠a:=by rintro rfl;exact V (H.symm.trans L)
  go_enter Tryz.func80,Tryz.ntmps80;go_wp2;go_ret;exact ⟨Zbh (by rw [B.out,YaM M,YcS]),((Yaa _ w).alloc _).alloc _⟩
 subst V;go_enter Tryz.func80,Tryz.ntmps80;go_wp2;have A:=((Yaa (fun _=>False) w).alloc (.cells #[.int .i64 c,.int .i64 m,.string p,.slice A1 n1 c1,.slice A2 n2 c2] 51)).alloc (.cells #[.int .i64 c,.int .i64 m,.string l,.slice B1 n1 d1,.slice B2 n2 d2] 51);have N:Blk _ w.heap.size _ _:=(Yad w 51 #[.int .i64 c,.int .i64 m,.string p,.slice A1 n1 c1,.slice A2 n2 c2]).alloc (.cells #[.int .i64 c,.int .i64 m,.string l,.slice B1 n1 d1,.slice B2 n2 d2] 51);have E:=Yad (w.alloc (.cells #[.int .i64 c,.int .i64 m,.string p,.slice A1 n1 c1,.slice A2 n2 c2] 51)) 51 #[.int .i64 c,.int .i64 m,.string l,.slice B1 n1 d1,.slice B2 n2 d2];rw [Yav] at E;have O:=N.cell 3;have P:=N.cell 4;have R:=E.cell 3;have S:=E.cell 4;simp only [Ybj,Ybd,YaW] at O P R S;clear N E;revert A O P R S;generalize (w.alloc (.cells #[.int .i64 c,.int .i64 m,.string p,.slice A1 n1 c1,.slice A2 n2 c2] 51)).alloc (.cells #[.int .i64 c,.int .i64 m,.string l,.slice B1 n1 d1,.slice B2 n2 d2] 51)=W;intro A O P R S;have X:=qH (H1.same A);have Y:=qH (H2.same A);have HS:=qH A;clear A
 go_loopw [5] (fun i wr=>∃ k d:Nat,k<=n1/\i=.int .i64 k/\wr=W.drewN d/\Hid (n.take k=j.take k)) (fun i _=>n1-(intOf i).toNat)
 case atStart=>exact ⟨0,0,Yah _,rfl,rfl,qH rfl⟩
 obtain ⟨k,d,hk,rfl,rfl,HP⟩:=hrel;by_cases r:k<n1
 · obtain ⟨b,o,u,rfl,a4,_,hu,hc⟩:=X.nums.at_ r;obtain ⟨b',o',u',rfl,a0,_,D,a5⟩:=Y.nums.at_ r;have v:k<n.length:=by rw [G.out];exact r
   have q:k<j.length:=by rw [I.out];exact r
   simp only [Yau,Yar v,Yar q,Ybw,Yce] at hu D;subst hu;subst D;have HT:=qH (ZhE v q HP);have HN:=qH (Zov v q);generalize n[k]=x at *;generalize j[k]=y at *;by_cases z:x=y
   · subst z;go_wp2_with fail;go_quiet (fail);go_wp2
     go_roundw
     case rel=>exact ⟨k+1,_,qO,by go_num,rfl,qH (HT.out (by first | rfl | trivial))⟩
     case measure=>simp [intOf];omega
   have Z:(x != y)=true:=by simpa using z
   go_wp2_with fail;go_quiet (fail);go_wp2;go_ret;refine ⟨Zbh ?_,(HS.drewN _).drewN _⟩;rw [B.out,YaM (HN.out z)];rfl
 obtain rfl:k=n1:=qO;have HE:=qH (show n=j from by have C:=HP.out;rwa [YaB (by rw [G.out];exact Yae _),YaB (by rw [I.out];exact Yae _)] at C)
 go_wp2
 go_loopw [6] (fun i wr=>∃ k d:Nat,k<=n2/\i=.int .i64 k/\wr=W.drewN d/\Hid (f.take k=a.take k)) (fun i _=>n2-(intOf i).toNat)
 case atStart=>exact ⟨0,d,Yah _,rfl,rfl,qH rfl⟩
 obtain ⟨T,d2,ae,rfl,rfl,a1⟩:=hrel;by_cases r:T<n2
 · obtain ⟨b,o,u,rfl,a4,_,hu,hc⟩:=X.texts.at_ r;obtain ⟨b',o',u',rfl,a0,_,D,a5⟩:=Y.texts.at_ r;have v:T<f.length:=by rw [H.out];exact r
   have q:T<a.length:=by rw [L.out];exact r
   simp only [Yau,Yar v,Yar q,Ybw,Yce] at hu D;subst hu;subst D;have HT:=qH (ZhE v q a1);have HN:=qH (Zov v q);generalize f[T]=x at *;generalize a[T]=y at *;by_cases z:x=y
   · subst z;go_wp2_with fail;go_quiet (fail);go_wp2
     go_roundw
     case rel=>exact ⟨T+1,_,qO,by go_num,rfl,qH (HT.out (by first | rfl | trivial))⟩
     case measure=>simp [intOf];omega
   have Z:(x.toList==y.toList)=false:=by rw [Ybn];exact fun hh=>z ((Zbi x y).1 hh)
   go_wp2_with fail;go_quiet (fail);go_wp2;go_ret;refine ⟨Zbh ?_,(HS.drewN _).drewN _⟩;rw [B.out,YaM (HN.out z),YcS]
 obtain rfl:T=n2:=qO;have a3:=qH (show f=a from by have C:=a1.out;rwa [YaB (by rw [H.out];exact Yae _),YaB (by rw [L.out];exact Yae _)] at C)
 go_wp2;go_ret;refine ⟨Zbh ?_,HS.drewN _⟩;rw [B.out,YaV HE.out,YaV a3.out];rfl
end Go.Proofs.YtmkjfhnlnhceiaaGreatDoor
