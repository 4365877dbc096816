/- Lemmas: walks and plain laws. -/
import Derived.Deep.QuietTactic
import Derived.BigQuiet
import Derived.Deep.DeepCutAuto
import Derived.StillTailTactics
import Derived.Test.YtmkjfhnlnhceiaaGreatDoorF01
set_option maxRecDepth 100000
set_option maxHeartbeats 16000000
namespace Go.Proofs.YtmkjfhnlnhceiaaGreatDoor
variable {F F':Nat->Prop} {A A1 A2 A' B1 B2:Option Addr} {n c r n1 c1 n2 c2 k n' c' m1 d1 m2 d2 B:Nat} {ts:List ByteArray} {bs:List UInt8} {w:World}
open Go.RowKit
def bH (ts:List ByteArray):Bool:=ts.any fun s=>decide (1000<s.size)
theorem uV (s:ByteArray) (w:World) (h:s.size<=9223372036854775807):Calls Tryz.prog 184 #[.string s] w fun e w'=>e=.returned (.bool (decide (1000<s.size)))/\w=w':=by go_enter Tryz.func184,Tryz.ntmps184;go_wp2;go_ret;exact ⟨kD (decide_eq_decide.2 qO),rfl⟩
theorem ZjS (w:World) (h:WRow w F 1 A n c (ts.map Value.string)) (L:∀ s∈ts,s.size<=9223372036854775807):
 Calls Tryz.prog 215 #[.slice A n c,.func (.func 184) #[] #[]] w fun e w'=>∃ r:Int,e=.returned (.int .i64 r)/\(bH ts=decide (0<=r))/\w=w':=by
 have t:=qH (show ts.length=n from by simpa using h.len);have g:=h.max;have l:=h.le;unfold maxLen at g;have G:n<=9223372036854775807:=qO;clear g l;go_enter Tryz.func215,Tryz.ntmps215;go_wp2
 go_loop [8] (fun i=>∃ k:Nat,k<=n/\i=.int .i64 k/\bH (ts.take k)=false) (fun i=>n-(intOf i).toNat)
 case atStart=>exact ⟨0,oA _,rfl,rfl⟩
 obtain ⟨k,H,rfl,a⟩:=hrel;by_cases j:k<n
 · obtain ⟨b,o,u,rfl,D,_,p,I⟩:=h.at_ j;have d:k<ts.length:=by rw [t.out];exact j
   rw [MA,FA d] at p;obtain rfl:Value.string ts[k]=u:=by simpa using p
   have v:=qH (L ts[k] (CJ d));have m:=qH a;have y:=qH (show bH (ts.take (k+1))=(bH (ts.take k) || decide (1000<ts[k].size)) from by rw [AJ d];unfold bH;rw [oR,List.any_cons,List.any_nil,Bool.or_false])
   clear p a L;generalize ts[k]=s at *;by_cases z:1000<s.size
   · go_wp2_with fail;refine (uV _ _ v).mono ?_;rintro e w' ⟨rfl,rfl⟩;go_wp2;go_ret;refine ⟨k,rfl,?_,rfl⟩;have f:=y.out;rw [kC z,Bool.or_true] at f;have B:bH ts=true:=by unfold bH at f ⊢;obtain ⟨x,E,q⟩:=iG.1 f;exact iG.2 ⟨x,MM E,q⟩
     rw [B];simp
   go_wp2_with fail;refine (uV _ _ v).mono ?_;rintro e w' ⟨rfl,rfl⟩;go_wp2
   go_round
   case rel =>
    refine ⟨k+1,qO,qN,?_⟩;rw [y.out,m.out,LB z];rfl
   case measure=>simp [intOf];omega
 have C:k=n:=qO;have m:=qH a;clear a;go_wp2;go_ret;refine ⟨-1,rfl,?_,rfl⟩;have f:=m.out;rw [cB (by rw [t.out];omega)] at f;rw [f];rfl
theorem vV (w:World) (h:WRow w F 1 A n c (ts.map Value.string)) (b:∀ s∈ts,s.size<=9223372036854775807) {r:Bool} (hr:bH ts=r):
 Calls Tryz.prog 183 #[.slice A n c,.func (.func 184) #[] #[]] w fun e w'=>e=.returned (.bool r)/\w=w':=by
 subst hr;go_enter Tryz.func183,Tryz.ntmps183;go_wp2_with fail;refine (ZjS _ h b).mono ?_;rintro e w' ⟨r,rfl,hr,rfl⟩;have a:=qH hr;clear hr;go_wp2;go_ret;exact ⟨kD a.symm,rfl⟩
theorem wV {kind:Int} (x:Int) (h:4<=kind):oC (DC kind) x=oC (kind-4) x:=by
 unfold DC;split
 · rfl
 obtain rfl:kind=4:=qO;simp [oC]
theorem ZlV (k:Int) (l:List Int) (i:Nat) (hi:i<l.length) (h:lF k (l.take i)=0):lF k (l.take (i+1))=oC k l[i]:=by
 induction l generalizing i with
 | nil=>simp at hi
 | cons x l ih =>
   cases i with
   | zero=>by_cases a:oC k x=0 <;> simp [lF,a]
   | succ i =>
     simp only [pL,lF,iB] at h ⊢;split at h
     · exact absurd h qA
     rename_i a;rw [aA a];exact ih i (by simpa using hi) h
theorem ZlW (k:Int) (l:List Int) (i:Nat) (h:lF k (l.take i)≠0):lF k l=lF k (l.take i):=by
 induction l generalizing i with
 | nil=>simp
 | cons x l ih =>
   cases i with
   | zero=>simp [lF] at h
   | succ i =>
     simp only [pL,lF] at h ⊢;split
     · rfl
     rename_i a;rw [aA a] at h;exact ih i h
theorem yS {g:GVal} (w:World) (h:pD w F A1 n1 c1 A2 n2 c2 g) (hx:g.text.size<=9223372036854775807) (a8:∀ s∈g.texts,s.size<=9223372036854775807):
 Calls Tryz.prog 139 #[g.val A1 n1 c1 A2 n2 c2] w fun e w'=>e=.returned (.int .i64 (chk g))/\Same w w':=by
 obtain ⟨kind,num,text,a,texts⟩:=g;simp only [GVal.val];simp only at hx a8;have hk:=h.kind;simp only at hk;have l:=h.len1;have m:=h.len2;simp only at l m;have U:=h.nums.max;have V:=h.texts.max;have a2:=h.nums.le;have a3:=h.texts.le;unfold maxLen at U V;by_cases j:kind<1\/8<kind
 · have G:chk ⟨kind,num,text,a,texts⟩=40:=by unfold chk;rw [gA j]
   rw [G];clear G l m;rcases j with hr | hr
   · go_enter DJ,EJ;go_wp2;go_ret;exact ⟨rfl,(eA _ w).alloc _⟩
   have a4:¬ kind<1:=qO;go_enter DJ,EJ;go_wp2;go_ret;exact ⟨rfl,(eA _ w).alloc _⟩
 have a5:¬ kind<1:=qO;have a6:¬ 8<kind:=qO;have v:=ZnO (A1:=A1) (A2:=A2) (n1:=n1) (c1:=c1) (n2:=n2) (c2:=c2) (kind:=kind) (num:=num) (text:=text) (w.alloc (.cells #[.int .i64 kind,.int .i64 num,.string text,.slice A1 n1 c1,.slice A2 n2 c2] 51)) qO qO;have y:YI ⟨kind,num,text,a,texts⟩=badB kind num text.size n1 n2:=by simp only [YI,badB,l,m]
 by_cases H:badB kind num text.size n1 n2=true
 · have G:chk ⟨kind,num,text,a,texts⟩=41:=by unfold chk;rw [aA j,gA (by rw [y];exact H)]
   rw [G];rw [H] at v;have A:=qH v;clear G l m H v y;go_enter DJ,EJ;go_wp2_with fail;refine A.mono ?_;rintro e R ⟨rfl,q⟩;go_wp2;go_ret;exact ⟨rfl,((eA _ w).alloc _).same q⟩
 have C:badB kind num text.size n1 n2=false:=by simpa using H
 rw [C] at v;have A:=qH v;have HC:=qH (show chk ⟨kind,num,text,a,texts⟩=(if 40<a.length\/40<texts.length then 45
  else if 1000<text.size\/bH texts=true then 44
  else if kind<4 then oC kind num else lF (kind-4) a) from by
  unfold chk;rw [aA j,aA (by rw [y,C];simp)];rfl)
 clear v y H C;have W:=qH h;have I:=qH l;by_cases d:40<a.length\/40<texts.length
 · have n:=qH (HC.trans (gA d));rw [l,m] at d;clear h l m;rcases d with M | M
   · go_enter DJ,EJ;go_wp2_with fail;refine A.mono ?_;rintro e R ⟨rfl,q⟩;have p:=(jA w 51 #[.int .i64 kind,.int .i64 num,.string text,.slice A1 n1 c1,.slice A2 n2 c2]).same q;have L:=p.c3;go_wp2;go_ret;exact ⟨bJ n.symm,((eA _ w).alloc _).same q⟩
   by_cases X:40<n1
   · go_enter DJ,EJ;go_wp2_with fail;refine A.mono ?_;rintro e R ⟨rfl,q⟩;have p:=(jA w 51 #[.int .i64 kind,.int .i64 num,.string text,.slice A1 n1 c1,.slice A2 n2 c2]).same q;have L:=p.c3;go_wp2;go_ret;exact ⟨bJ n.symm,((eA _ w).alloc _).same q⟩
   go_enter DJ,EJ;go_wp2_with fail;refine A.mono ?_;rintro e R ⟨rfl,q⟩;have p:=(jA w 51 #[.int .i64 kind,.int .i64 num,.string text,.slice A1 n1 c1,.slice A2 n2 c2]).same q;have L:=p.c3;have Y:=p.c4;go_wp2;go_ret;exact ⟨bJ n.symm,((eA _ w).alloc _).same q⟩
 have n:=qH (HC.trans (aA d));rw [l,m] at d;have M:n1<=40:=qO;have X:n2<=40:=qO;clear h l m d;by_cases t:1000<text.size
 · have Z:=qH (n.trans (gA (.inl t)));go_enter DJ,EJ;go_wp2_with fail;refine A.mono ?_;rintro e R ⟨rfl,q⟩;have p:=(jA w 51 #[.int .i64 kind,.int .i64 num,.string text,.slice A1 n1 c1,.slice A2 n2 c2]).same q;have N:=p.c2;have L:=p.c3;have Y:=p.c4;go_wp2;go_ret;exact ⟨bJ Z.symm,((eA _ w).alloc _).same q⟩
 have HT:=qH (show (1000<text.size\/bH texts=true)↔bH texts=true from ⟨fun h=>h.resolve_left t,.inr⟩);go_enter DJ,EJ;go_wp2_with fail;refine A.mono ?_;rintro e R ⟨rfl,q⟩;have p:=(jA w 51 #[.int .i64 kind,.int .i64 num,.string text,.slice A1 n1 c1,.slice A2 n2 c2]).same q;have c:=((iA w).alloc (.cells #[.int .i64 kind,.int .i64 num,.string text,.slice A1 n1 c1,.slice A2 n2 c2] 51)).same q;have c0:=p.c0;have a0:=p.c1;have N:=p.c2;have L:=p.c3;have Y:=p.c4;clear p;generalize hB:w.heap.size=B at c0 a0 N L Y;clear hB q;go_wp2_with fail;by_cases f:bH texts=true
 · refine (vV _ (W.texts.same c) a8 f).mono ?_;rintro e w2 ⟨rfl,rfl⟩;have T:=qH f;clear f;go_wp2;go_ret;refine ⟨bJ ?_,c⟩;exact (n.trans (gA (.inr T))).symm
 refine (vV _ (W.texts.same c) a8 (r:=false) (by simpa using f)).mono ?_;rintro e w2 ⟨rfl,rfl⟩;have T:=qH (fun hh=>f (HT.1 hh));clear f;by_cases h4:kind<4
 · go_wp2_with fail;refine (MP _ _ _ qO qO).mono ?_;rintro e w3 ⟨rfl,rfl⟩;go_wp2;go_ret;refine ⟨bJ ?_,c⟩;rw [n.out,aA T.out,gA h4];rw [show DC kind=kind from by unfold DC;rw [aA qO]]
 go_wp2
 go_loop [51] (fun i=>∃ k:Nat,k<=n1/\i=.int .i64 k/\Hid (lF (kind-4) (a.take k)=0)) (fun i=>n1-(intOf i).toNat)
 case atStart=>exact ⟨0,oA _,rfl,qH rfl⟩
 obtain ⟨k,hk,rfl,S⟩:=hrel;have HK:=qH (show lF (kind-4) a=chk ⟨kind,num,text,a,texts⟩ from by rw [n.out,aA T.out,aA qO])
 by_cases O:k<n1
 · have z:=W.nums.same c;obtain ⟨b,o,u,rfl,a7,_,v,hc⟩:=z.at_ O;have P:k<a.length:=by rw [I.out];exact O
   simp only [MA,FA P,VC,SE] at v;subst v;have HN:=qH (ZlV (kind-4) a k P S);have HS:=qH (ZlW (kind-4) a (k+1));clear z;generalize a[k]=x at *;by_cases E:oC (kind-4) x=0
   · go_wp2_with fail;refine (MP _ _ _ qO qO).mono ?_;rintro e w3 ⟨rfl,rfl⟩;have a1:oC (DC kind) x=0:=by rw [wV x qO];exact E
     have HZ:=qH E;clear E;go_wp2
     go_round
     case rel=>exact ⟨k+1,qO,qN,qH (HN.trans HZ)⟩
     case measure=>simp [intOf];omega
   go_wp2_with fail;refine (MP _ _ _ qO qO).mono ?_;rintro e w3 ⟨rfl,rfl⟩;have D:=wV x (show 4<=kind by omega);have a1:(oC (DC kind) x != 0)=true:=by rw [D];simpa using E
   have HZ:=qH E;have HB:=qH D;clear E D;go_wp2;go_ret;refine ⟨bJ ?_,c⟩;rw [<- HK.out,HB.out,HS.out (by rw [HN.out];exact HZ),HN.out]
 obtain rfl:k=n1:=qO;go_wp2;go_ret;refine ⟨bJ ?_,c⟩;rw [<- HK.out,<-S.out,cB (by rw [I.out];exact lA _)]
theorem PP {α:Type} {l m:List α} (h1:k<l.length) (h2:k<m.length) (h:l.take k=m.take k) (he:l[k]=m[k]):l.take (k+1)=m.take (k+1):=by rw [AJ h1,AJ h2,h,he]
theorem QP {α:Type} {l m:List α} (h1:k<l.length) (h2:k<m.length) (he:l[k]≠m[k]):l≠m:=by rintro rfl;exact he rfl
theorem IG (s t:ByteArray):s.toList=t.toList↔s=t:=by
 rw [BJ,BJ];constructor
 · intro h;cases s;cases t;congr 1;exact pR.1 h
 rintro rfl;rfl
instance Ztv:DecidableEq ByteArray:=fun a b=>decidable_of_iff _ (IG a b)
theorem RP (w:World) (n:Nat):Same w (w.drewN n):=(eA _ w).drewN n
theorem xV {xs ys:List Int} (w:World) (h:WRow w F 1 A n c (xs.map (Value.int .i64))) (h':WRow w F' 1 A' n' c' (ys.map (Value.int .i64))) {r:Bool} (hr:decide (xs=ys)=r):
 Calls Tryz.prog 187 #[.slice A n c,.slice A' n' c'] w fun e w'=>e=.returned (.bool r)/\Same w w':=by
 subst hr;have B:=qH (show xs.length=n from by simpa using h.len);have m:=qH (show ys.length=n' from by simpa using h'.len);have s:=h.max;have C:=h.le;have g:=h'.max;have t:=h'.le;unfold maxLen at s g;have R:n<=9223372036854775807:=qO;have L:n'<=9223372036854775807:=qO;clear s C g t;by_cases v:n=n'
 · subst v;go_enter Tryz.func187,Tryz.ntmps187;go_wp2
   go_loopw [13] (fun i wr=>∃ k d:Nat,k<=n/\i=.int .i64 k/\wr=w.drewN d/\xs.take k=ys.take k) (fun i _=>n-(intOf i).toNat)
   case atStart=>exact ⟨0,0,oA _,rfl,rfl,rfl⟩
   obtain ⟨k,d,S,rfl,rfl,l⟩:=hrel;have D:=qH l;clear l;by_cases f:k<n
   · obtain ⟨b,o,u,rfl,O,_,H,T⟩:=h.at_ f;obtain ⟨U,V,W,rfl,I,_,z,P⟩:=h'.at_ f;have p:k<xs.length:=by rw [B.out];exact f
     have a:k<ys.length:=by rw [m.out];exact f
     simp only [MA,FA p,FA a,VC,SE] at H z;subst H;subst z;have M:=qH (PP p a D);have N:=qH (QP p a);generalize xs[k]=x at *;generalize ys[k]=y at *;by_cases q:x=y
     · subst q;go_wp2_with fail;go_quiet (fail);go_wp2
       go_roundw
       case rel=>exact ⟨k+1,_,qO,qN,rfl,M.out (by first | rfl | trivial)⟩
       case measure=>simp [intOf];omega
     have E:(x != y)=true:=by simpa using q
     go_wp2_with fail;go_quiet (fail);go_wp2;go_ret;refine ⟨kD ?_,(RP w d).drewN _⟩;rw [LB (N.out q)]
   obtain rfl:k=n:=qO;go_wp2;go_ret;refine ⟨kD ?_,RP w d⟩;have j:=D.out;rw [cB (by rw [B.out];exact lA _),cB (by rw [m.out];exact lA _)] at j;rw [kC j]
 have G:((n:Int) != (n':Int))=true:=by rw [qC];omega
 go_enter Tryz.func187,Tryz.ntmps187;go_wp2;go_ret;refine ⟨kD ?_,eA _ _⟩;rw [LB (by rintro rfl;exact v (B.symm.trans m))]
theorem ZkU {xs ys:List ByteArray} (w:World) (h:WRow w F 1 A n c (xs.map Value.string)) (h':WRow w F' 1 A' n' c' (ys.map Value.string)) {r:Bool} (hr:decide (xs=ys)=r):
 Calls Tryz.prog 88 #[.slice A n c,.slice A' n' c'] w fun e w'=>e=.returned (.bool r)/\Same w w':=by
 subst hr;have B:=qH (show xs.length=n from by simpa using h.len);have m:=qH (show ys.length=n' from by simpa using h'.len);have s:=h.max;have C:=h.le;have g:=h'.max;have t:=h'.le;unfold maxLen at s g;have S:n<=9223372036854775807:=qO;have L:n'<=9223372036854775807:=qO;clear s C g t;by_cases v:n=n'
 · subst v;go_enter FO,GO;go_wp2
   go_loopw [13] (fun i wr=>∃ k d:Nat,k<=n/\i=.int .i64 k/\wr=w.drewN d/\xs.take k=ys.take k) (fun i _=>n-(intOf i).toNat)
   case atStart=>exact ⟨0,0,oA _,rfl,rfl,rfl⟩
   obtain ⟨k,d,T,rfl,rfl,l⟩:=hrel;have D:=qH l;clear l;by_cases f:k<n
   · obtain ⟨b,o,u,rfl,O,_,H,U⟩:=h.at_ f;obtain ⟨V,W,X,rfl,I,_,z,P⟩:=h'.at_ f;have p:k<xs.length:=by rw [B.out];exact f
     have a:k<ys.length:=by rw [m.out];exact f
     simp only [MA,FA p,FA a,VC,SE] at H z;subst H;subst z;have M:=qH (PP p a D);have N:=qH (QP p a);generalize xs[k]=x at *;generalize ys[k]=y at *;by_cases q:x=y
     · subst q;go_wp2_with fail;go_quiet (fail);go_wp2
       go_roundw
       case rel=>exact ⟨k+1,_,qO,qN,rfl,M.out (by first | rfl | trivial)⟩
       case measure=>simp [intOf];omega
     have E:(x.toList==y.toList)=false:=by rw [WC];exact fun R=>q ((IG x y).1 R)
     go_wp2_with fail;go_quiet (fail);go_wp2;go_ret;refine ⟨kD ?_,(RP w d).drewN _⟩;rw [LB (N.out q)]
   obtain rfl:k=n:=qO;go_wp2;go_ret;refine ⟨kD ?_,RP w d⟩;have j:=D.out;rw [cB (by rw [B.out];exact lA _),cB (by rw [m.out];exact lA _)] at j;rw [kC j]
 have G:((n:Int) != (n':Int))=true:=by rw [qC];omega
 go_enter FO,GO;go_wp2;go_ret;refine ⟨kD ?_,eA _ _⟩;rw [LB (by rintro rfl;exact v (B.symm.trans m))]
def ID (g h:GVal):Bool:=g.kind==h.kind && (g.num==h.num && (g.text.toList==h.text.toList && (decide (g.nums=h.nums) && decide (g.texts=h.texts))))
theorem Zrs (g h:GVal):ID g h=true↔g=h:=by unfold ID;simp only [kB,jE,NC,IG];cases g;cases h;simp
theorem ZpX {g h:GVal} (w:World) (hg:pD w F A1 n1 c1 A2 n2 c2 g) (hh:pD w F' B1 m1 d1 B2 m2 d2 h):
 Calls Tryz.prog 145 #[g.val A1 n1 c1 A2 n2 c2,h.val B1 m1 d1 B2 m2 d2] w fun e w'=>e=.returned (.bool (ID g h))/\Same w w':=by
 obtain ⟨b,j,c,l,k⟩:=g;obtain ⟨f,m,a,i,d⟩:=h;simp only [GVal.val];have y:=qH hg;have z:=qH hh;clear hg hh;by_cases u:b=f
 · by_cases v:j=m
   · by_cases E:(c.toList==a.toList)=true
     · have s:=qH (show ID ⟨b,j,c,l,k⟩ ⟨f,m,a,i,d⟩=(decide (l=i) && decide (k=d)) from by simp [ID,u,v,E])
       subst u;subst v;go_enter LO,MO;go_wp2_with fail;have n:=((iA w).alloc (.cells #[.int .i64 b,.int .i64 j,.string c,.slice A1 n1 c1,.slice A2 n2 c2] 51)).alloc (.cells #[.int .i64 b,.int .i64 j,.string a,.slice B1 m1 d1,.slice B2 m2 d2] 51);have t:Blk _ w.heap.size _ _:=(jA w 51 #[.int .i64 b,.int .i64 j,.string c,.slice A1 n1 c1,.slice A2 n2 c2]).alloc (.cells #[.int .i64 b,.int .i64 j,.string a,.slice B1 m1 d1,.slice B2 m2 d2] 51);have q:=jA (w.alloc (.cells #[.int .i64 b,.int .i64 j,.string c,.slice A1 n1 c1,.slice A2 n2 c2] 51)) 51 #[.int .i64 b,.int .i64 j,.string a,.slice B1 m1 d1,.slice B2 m2 d2];rw [aB] at q;by_cases x:l=i
       · refine (xV _ (y.nums.same n) (z.nums.same n) (r:=true) (by simpa using x)).mono ?_;rintro e I ⟨rfl,o⟩;have G:=(t.same o).c4;have H:=(q.same o).c4;have p:=n.same o;clear n o t q;go_wp2_with fail;refine (ZkU _ (y.texts.same p) (z.texts.same p) rfl).mono ?_;rintro e L ⟨rfl,D⟩;go_wp2;go_ret;exact ⟨kD (by rw [s.out];simp [x]),p.same D⟩
       refine (xV _ (y.nums.same n) (z.nums.same n) (r:=false) (by simpa using x)).mono ?_;rintro e I ⟨rfl,o⟩;have p:=n.same o;clear n o t q;go_wp2;go_ret;exact ⟨kD (by rw [s.out];simp [x]),p⟩
     have A:(c.toList==a.toList)=false:=by simpa using E
     have s:=qH (show ID ⟨b,j,c,l,k⟩ ⟨f,m,a,i,d⟩=false from by simp only [ID,A,cD,UG])
     subst u;subst v;go_enter LO,MO;go_wp2;go_ret;exact ⟨kD s.symm,((eA _ w).alloc _).alloc _⟩
   have B:(j==m)=false:=by simpa using v
   have s:=qH (show ID ⟨b,j,c,l,k⟩ ⟨f,m,a,i,d⟩=false from by simp only [ID,B,cD,UG])
   subst u;go_enter LO,MO;go_wp2;go_ret;exact ⟨kD s.symm,((eA _ w).alloc _).alloc _⟩
 have C:(b==f)=false:=by simpa using u
 have s:=qH (show ID ⟨b,j,c,l,k⟩ ⟨f,m,a,i,d⟩=false from by simp only [ID,C,cD])
 go_enter LO,MO;go_wp2;go_ret;exact ⟨kD s.symm,((eA _ w).alloc _).alloc _⟩
theorem ZpY {g h:GVal} (w:World) (hg:pD w F A1 n1 c1 A2 n2 c2 g) (hh:pD w F' B1 m1 d1 B2 m2 d2 h):
 Calls Tryz.prog 80 #[g.val A1 n1 c1 A2 n2 c2,h.val B1 m1 d1 B2 m2 d2] w fun e w'=>e=.returned (.bool (ID g h))/\Same w w':=by
 obtain ⟨c,m,p,n,f⟩:=g;obtain ⟨s,t,l,j,a⟩:=h;simp only [GVal.val];have H1:=qH hg;have H2:=qH hh;have G:=qH (show n.length=n1 from hg.len1);have H:=qH (show f.length=n2 from hg.len2);have I:=qH (show j.length=m1 from hh.len1);have L:=qH (show a.length=m2 from hh.len2);have a8:n1<=9223372036854775807:=by have:=hg.nums.le;have:=hg.nums.max;unfold maxLen at this;omega
 have a9:n2<=9223372036854775807:=by have:=hg.texts.le;have:=hg.texts.max;unfold maxLen at this;omega
 have aa:m1<=9223372036854775807:=by have:=hh.nums.le;have:=hh.nums.max;unfold maxLen at this;omega
 have ab:m2<=9223372036854775807:=by have:=hh.texts.le;have:=hh.texts.max;unfold maxLen at this;omega
 clear hg hh;by_cases hk:c=s
 case neg =>
  have ac:(c != s)=true:=by simpa using hk
  have B:=qH (show ID ⟨c,m,p,n,f⟩ ⟨s,t,l,j,a⟩=false from by
   have:(c==s)=false:=by simpa using hk
   simp only [ID,this,cD])
  go_enter qL,sL;go_wp2;go_ret;exact ⟨kD B.symm,((eA _ w).alloc _).alloc _⟩
 subst hk;by_cases hn:m=t
 case neg =>
  have ad:(m != t)=true:=by simpa using hn
  have B:=qH (show ID ⟨c,m,p,n,f⟩ ⟨c,t,l,j,a⟩=false from by
   have:(m==t)=false:=by simpa using hn
   simp only [ID,this,cD,UG])
  go_enter qL,sL;go_wp2;go_ret;exact ⟨kD B.symm,((eA _ w).alloc _).alloc _⟩
 subst hn;by_cases ht:(p.toList==l.toList)=true
 case neg =>
  have a2:(p.toList==l.toList)=false:=by simpa using ht
  have B:=qH (show ID ⟨c,m,p,n,f⟩ ⟨c,m,l,j,a⟩=false from by simp only [ID,a2,cD,UG])
  go_enter qL,sL;go_wp2;go_ret;exact ⟨kD B.symm,((eA _ w).alloc _).alloc _⟩
 have B:=qH (show ID ⟨c,m,p,n,f⟩ ⟨c,m,l,j,a⟩=(decide (n=j) && decide (f=a)) from by simp [ID,ht])
 by_cases U:n1=m1
 case neg =>
  have a6:((n1:Int) != (m1:Int))=true:=by rw [qC];omega
  have M:n≠j:=by rintro rfl;exact U (G.symm.trans I)
  go_enter qL,sL;go_wp2;go_ret;exact ⟨kD (by rw [B.out,LB M];rfl),((eA _ w).alloc _).alloc _⟩
 subst U;by_cases V:n2=m2
 case neg =>
  have a7:((n2:Int) != (m2:Int))=true:=by rw [qC];omega
  have M:f≠a:=by rintro rfl;exact V (H.symm.trans L)
  go_enter qL,sL;go_wp2;go_ret;exact ⟨kD (by rw [B.out,LB M,UG]),((eA _ w).alloc _).alloc _⟩
 subst V;go_enter qL,sL;go_wp2;have A:=((iA w).alloc (.cells #[.int .i64 c,.int .i64 m,.string p,.slice A1 n1 c1,.slice A2 n2 c2] 51)).alloc (.cells #[.int .i64 c,.int .i64 m,.string l,.slice B1 n1 d1,.slice B2 n2 d2] 51);have N:Blk _ w.heap.size _ _:=(jA w 51 #[.int .i64 c,.int .i64 m,.string p,.slice A1 n1 c1,.slice A2 n2 c2]).alloc (.cells #[.int .i64 c,.int .i64 m,.string l,.slice B1 n1 d1,.slice B2 n2 d2] 51);have E:=jA (w.alloc (.cells #[.int .i64 c,.int .i64 m,.string p,.slice A1 n1 c1,.slice A2 n2 c2] 51)) 51 #[.int .i64 c,.int .i64 m,.string l,.slice B1 n1 d1,.slice B2 n2 d2];rw [aB] at E;have O:=N.cell 3;have P:=N.cell 4;have R:=E.cell 3;have S:=E.cell 4;simp only [YC,LC,rC] at O P R S;clear N E;revert A O P R S;generalize (w.alloc (.cells #[.int .i64 c,.int .i64 m,.string p,.slice A1 n1 c1,.slice A2 n2 c2] 51)).alloc (.cells #[.int .i64 c,.int .i64 m,.string l,.slice B1 n1 d1,.slice B2 n2 d2] 51)=W;intro A O P R S;have X:=qH (H1.same A);have Y:=qH (H2.same A);have HS:=qH A;clear A
 go_loopw [5] (fun i wr=>∃ k d:Nat,k<=n1/\i=.int .i64 k/\wr=W.drewN d/\Hid (n.take k=j.take k)) (fun i _=>n1-(intOf i).toNat)
 case atStart=>exact ⟨0,0,oA _,rfl,rfl,qH rfl⟩
 obtain ⟨k,d,hk,rfl,rfl,HP⟩:=hrel;by_cases r:k<n1
 · obtain ⟨b,o,u,rfl,a4,_,hu,hc⟩:=X.nums.at_ r;obtain ⟨b',o',u',rfl,a0,_,D,a5⟩:=Y.nums.at_ r;have v:k<n.length:=by rw [G.out];exact r
   have q:k<j.length:=by rw [I.out];exact r
   simp only [MA,FA v,FA q,VC,SE] at hu D;subst hu;subst D;have HT:=qH (PP v q HP);have HN:=qH (QP v q);generalize n[k]=x at *;generalize j[k]=y at *;by_cases z:x=y
   · subst z;go_wp2_with fail;go_quiet (fail);go_wp2
     go_roundw
     case rel=>exact ⟨k+1,_,qO,qN,rfl,qH (HT.out (by first | rfl | trivial))⟩
     case measure=>simp [intOf];omega
   have Z:(x != y)=true:=by simpa using z
   go_wp2_with fail;go_quiet (fail);go_wp2;go_ret;refine ⟨kD ?_,(HS.drewN _).drewN _⟩;rw [B.out,LB (HN.out z)];rfl
 obtain rfl:k=n1:=qO;have HE:=qH (show n=j from by have C:=HP.out;rwa [cB (by rw [G.out];exact lA _),cB (by rw [I.out];exact lA _)] at C)
 go_wp2
 go_loopw [6] (fun i wr=>∃ k d:Nat,k<=n2/\i=.int .i64 k/\wr=W.drewN d/\Hid (f.take k=a.take k)) (fun i _=>n2-(intOf i).toNat)
 case atStart=>exact ⟨0,d,oA _,rfl,rfl,qH rfl⟩
 obtain ⟨T,d2,ae,rfl,rfl,a1⟩:=hrel;by_cases r:T<n2
 · obtain ⟨b,o,u,rfl,a4,_,hu,hc⟩:=X.texts.at_ r;obtain ⟨b',o',u',rfl,a0,_,D,a5⟩:=Y.texts.at_ r;have v:T<f.length:=by rw [H.out];exact r
   have q:T<a.length:=by rw [L.out];exact r
   simp only [MA,FA v,FA q,VC,SE] at hu D;subst hu;subst D;have HT:=qH (PP v q a1);have HN:=qH (QP v q);generalize f[T]=x at *;generalize a[T]=y at *;by_cases z:x=y
   · subst z;go_wp2_with fail;go_quiet (fail);go_wp2
     go_roundw
     case rel=>exact ⟨T+1,_,qO,qN,rfl,qH (HT.out (by first | rfl | trivial))⟩
     case measure=>simp [intOf];omega
   have Z:(x.toList==y.toList)=false:=by rw [WC];exact fun hh=>z ((IG x y).1 hh)
   go_wp2_with fail;go_quiet (fail);go_wp2;go_ret;refine ⟨kD ?_,(HS.drewN _).drewN _⟩;rw [B.out,LB (HN.out z),UG]
 obtain rfl:T=n2:=qO;have a3:=qH (show f=a from by have C:=a1.out;rwa [cB (by rw [H.out];exact lA _),cB (by rw [L.out];exact lA _)] at C)
 go_wp2;go_ret;refine ⟨kD ?_,HS.drewN _⟩;rw [B.out,kC HE.out,kC a3.out];rfl
theorem rA (k n:Nat):(beb k n).length=k:=by
 induction k with
 | zero=>rfl
 | succ k ih=>simp [beb,ih]
theorem Zwo:∀ (k n j:Nat) (h:j<k),(beb k n)[j]'(by rw [rA];exact h)=UInt8.ofNat (n / 256 ^ (k-1-j)):=by
 intro k
 induction k with
 | zero=>intro n j h;omega
 | succ k ih =>
   intro n j h;cases j with
   | zero=>simp [beb]
   | succ j =>
     have a:=ih n j qO;simp only [beb,iB];rw [a];congr 3;omega
theorem Ztw (n s:Nat):IntKind.u8.wrap ((n:Int) / 2 ^ (8*s))=(((UInt8.ofNat (n / 256 ^ s)).toNat:Nat):Int):=by
 rw [IntKind.wrap_u8'];have:(256:Nat) ^ s=2 ^ (8*s):=by rw [Nat.pow_mul]
 simp [this]
theorem yV {v:Value} (w:World) (hv:OwnB w B v bs) (hB:B<=w.heap.size) (width n:Nat) (hw:1<=width/\width<=8) (hx:bs.length+8<=140737488355328):
 Calls Tryz.prog 158 #[v,.int .i64 width,.int .u64 n] w fun e w' =>
  ∃ v',e=.returned v'/\pV w B v (bs++beb width n) v' w':=by
 go_enter Tryz.func158,Tryz.ntmps158;go_wp2
 go_loopw [0,7] (fun u i wr=>∃ k:Nat,k<=width/\i=.int .i64 (8*((width:Int)-1)-8*k)/\Grew w B 5 1 v (bs.length+k) (bs.map u8v++((beb width n).take k).map u8v) u wr) (fun _ i _=>(intOf i+8).toNat)
 case atStart=>exact ⟨0,qO,qN,Grew.refl (by simpa using hv)⟩
 obtain ⟨k,j,rfl,d⟩:=hrel;have a:=d.own;by_cases b:k<width
 · go_wp2_with (at_builtin;go_must (refine XD rfl (.tmp 15) (.tmp 20) _ _ rfl B _ _ _ _ yD uI rfl u0 _ _ rfl (a.alloc _) rfl (GD yD (tI _ _ _) (by simp [Value.oneCell'])) qM qO (by have:=d.size;simp;omega) ?_);intro v' l c)
   go_roundw
   case rel =>
    refine ⟨k+1,qO,qN,?_⟩;have g:=(d.alloc _).trans c;have h:(beb width n).take (k+1)=(beb width n).take k++[UInt8.ofNat (n / 256 ^ (width-1-k))]:=by rw [vS _ k (by rw [rA];exact b),Zwo width n k b]
    have f:=Ztw n (width-1-k);rw [IntKind.wrap_u8',show 8*(width-1-k)=8*(width-1)-8*k from qO] at f;rw [h,DB,sR,<-vA,<-vK];rwa [f] at g
   case measure=>simp [intOf];omega
 obtain rfl:k=width:=qO;go_wp2;go_ret;refine ⟨_,rfl,?_⟩;rw [cB (by rw [rA];exact lA _)] at d;unfold pV;rwa [kA,rA,DB]
def Wtr (w:World) (B r:Nat) (bs:List UInt8):Prop :=
 B<=r/\∃ v,Blk w r 244 #[v]/\OwnB w B v bs
theorem Wtr.same {w':World} (h:Wtr w B r bs) (hu:Same w w'):Wtr w' B r bs:=by obtain ⟨a,v,b,c⟩:=h;exact ⟨a,v,b.same hu,mA c hu⟩
theorem Wtr.lt (h:Wtr w B r bs):r<w.heap.size:=by obtain ⟨b,v,a,c⟩:=h;exact a.lt
theorem VL (w:World):Calls Tryz.prog 109 #[] w fun e w'=>∃ r,e=.returned (.pointer (some ⟨r,0,none⟩))/\Wtr w' w.heap.size r []/\Same w w':=by go_enter Tryz.func109,Tryz.ntmps109;go_wp2;go_ret;exact ⟨w.heap.size,rfl,⟨lA _,_,jA _ _ _,iC _ _ _ _⟩,(eA _ w).alloc _⟩
theorem zV (h:Wtr w B r bs) (width n:Nat) (hw:MD width=true) (hl:bs.length+8<=140737488355328):
 Calls Tryz.prog 111 #[.pointer (some ⟨r,0,none⟩),.int .i64 width,.int .u64 n] w fun e w'=>e=.returned (.tuple #[])/\Wtr w' B r (bs++beb width n)/\Upd (fun b=>B<=b) w w':=by
 obtain ⟨q,v,j,l⟩:=h;have s:=j.lt;have k:v.ownBlock≠some r:=j.ne_own l qD;have t:=j.cell 0;simp only [YC,rC] at t;have d:1<=width/\width<=8:=by simp only [MD,CH,jE] at hw;omega
 have u:=qH hw;clear hw;go_enter Tryz.func111,Tryz.ntmps111;go_wp2_with fail;refine (uS _ _).mono ?_;rintro e w' ⟨rfl,rfl⟩;rw [u.out];go_wp2_with fail;refine (yV _ l qO width n d hl).mono ?_;rintro e y ⟨D,rfl,i⟩;have a:=i.blk j k;have C:=a.frozen 0;have x:=a.cell 0;simp only [YC,rC] at x;obtain ⟨A,m,c,rfl⟩:=DE i.own;go_wp2;go_end0;have f:(Value.slice A m c).ownBlock≠some r:=a.ne_own i.own qD;refine ⟨rfl,⟨q,_,a.put 0 _,?_⟩,(i.upd.mono fun b _ z=>(l.lt b z).1).put q _⟩;exact GA i.own ((eA (fun b=>b=r) y).put1 _) fun g o p=>f (p ▸ o)
theorem IN (h:Wtr w B r bs) (width n:Int) (hw:MD width=true) (hn:0<=n) (hl:bs.length+8<=140737488355328):
 Calls Tryz.prog 111 #[.pointer (some ⟨r,0,none⟩),.int .i64 width,.int .u64 n] w fun e w'=>e=.returned (.tuple #[])/\Wtr w' B r (bs++beb width.toNat n.toNat)/\Upd (fun b=>B<=b) w w':=by
 have a:0<=width:=by simp only [MD,CH,jE] at hw;omega
 obtain ⟨k,rfl⟩:=tL a;obtain ⟨m,rfl⟩:=tL hn;exact zV h k m hw hl
theorem WL (s:ByteArray):s.data.toList.length=s.size:=by rw [UF];rfl
theorem AV (h:Wtr w B r bs) (s:ByteArray) (hl:bs.length+s.size<=140737488355328):
 Calls Tryz.prog 110 #[.pointer (some ⟨r,0,none⟩),.string s] w fun e w'=>e=.returned (.tuple #[])/\Wtr w' B r (bs++s.data.toList)/\Upd (fun b=>B<=b) w w':=by
 obtain ⟨q,v,f,l⟩:=h;have t:=f.lt;have a:v.ownBlock≠some r:=f.ne_own l qD;have u:=f.cell 0;simp only [YC,rC] at u;go_enter Tryz.func110,Tryz.ntmps110;go_wp2_with (at_builtin;go_must (refine XD rfl (.tmp 8) (.tmp 9) _ _ rfl B _ _ _ _ yD uI rfl v _ _ rfl l rfl (Src.ofString w DH s) qM qO qO ?_);intro D n d;obtain ⟨A,m,c,rfl⟩:=DE d.own;have z:n.frozen? ⟨r,0,none⟩=false:=(d.blk f a).frozen 0;have C:n.cell? ⟨r,0,none⟩=some v:=(d.blk f a).cell 0);go_end0;have j:=d.blk f a;have k:(Value.slice A m c).ownBlock≠some r:=j.ne_own d.own qD;refine ⟨rfl,⟨q,_,j.put 0 _,?_⟩,(d.upd.mono fun b _ y=>(l.lt b y).1).put q _⟩;have x:=GA d.own ((eA (fun b=>b=r) n).put1 (i:=0) (.slice A m c)) fun g o p=>k (p ▸ o);unfold OwnB;rw [kA,WL,DB];exact x
theorem dJ (h:Wtr w B r bs) (hl:bs.length<=140737488355328):
 Calls Tryz.prog 113 #[.pointer (some ⟨r,0,none⟩)] w fun e w'=>∃ v,e=.returned v/\OwnB w' w.heap.size v bs/\Same w w':=by
 obtain ⟨k,v,g,f⟩:=h;have d:=g.cell 0;simp only [YC,rC] at d;obtain ⟨A,c,rfl⟩:=WA f;have a:=xF f;generalize bs.length=m at d a hl;go_enter Tryz.func113,Tryz.ntmps113;go_wp2_with fail;refine (JK _ a hl).mono ?_;rintro e l ⟨i,rfl,b,j⟩;go_wp2;go_ret;exact ⟨i,rfl,b,j⟩
theorem XL (k n:Int):(AD k n).length<=8:=by unfold AD;split <;> simp [rA]
theorem DV (h:Wtr w B r bs) (kind n:Int) (p:1<=kind) (hk:kind<=8) (hl:bs.length+8<=140737488355328):
 Calls Tryz.prog 148 #[.pointer (some ⟨r,0,none⟩),.int .i64 kind,.int .i64 n] w fun e w'=>e=.returned (.tuple #[])/\Wtr w' B r (bs++AD (DC kind) n)/\Upd (fun b=>B<=b) w w':=by
 have d:=LP kind;have j:=qV n;have a:=qH (show AD (DC kind) n=if DC kind=1 then beb 1 (u64 n) else beb 8 (u64 n) from rfl);generalize AD (DC kind) n=E at a ⊢;generalize DC kind=K at d a;have k:=qH d;have l:=qH h;have m:=qH j;clear d h j;by_cases c:K=1
 · subst c;have f:=qH (a.trans (gA rfl));go_enter Tryz.func148,Tryz.ntmps148;go_wp2_with fail;refine (k.out _ qO qO).mono ?_;rintro e w' ⟨rfl,rfl⟩;go_wp2_with fail;rw [m.out];refine (IN l _ _ rfl qO hl).mono ?_;rintro e w' ⟨rfl,g,i⟩;go_wp2;refine LD (DG rfl _ _ _) rfl ⟨rfl,?_,i⟩;rw [f.out];exact g
 have o:(K==1)=false:=by simpa using c
 have f:=qH (a.trans (aA c));clear c;go_enter Tryz.func148,Tryz.ntmps148;go_wp2_with fail;refine (k.out _ qO qO).mono ?_;rintro e w' ⟨rfl,rfl⟩;go_wp2_with fail;rw [m.out];refine (IN l _ _ rfl qO hl).mono ?_;rintro e w' ⟨rfl,g,i⟩;go_wp2;go_end0;refine ⟨rfl,?_,i⟩;rw [f.out];exact g
theorem EV (h:Wtr w B r bs) (s:ByteArray) (hs:s.size<=70368744177664) (hl:bs.length+8<=70368744177664):
 Calls Tryz.prog 149 #[.pointer (some ⟨r,0,none⟩),.string s] w fun e w'=>e=.returned (.tuple #[])/\Wtr w' B r (bs++BE s)/\Upd (fun b=>B<=b) w w':=by
 have d:=qH h;clear h;go_enter Tryz.func149,Tryz.ntmps149;go_wp2_with fail;refine (IN d _ _ rfl ?_ ?_).mono ?_
 · omega
 · omega
 rintro e j ⟨rfl,f,g⟩;go_wp2_with fail;refine (AV f s ?_).mono ?_
 · rw [kA,rA];simp;omega
 rintro e k ⟨rfl,a,c⟩;go_wp2;go_end0;refine ⟨rfl,?_,g.trans c fun _ _ i=>i⟩;rw [vA] at a;exact a
theorem KK (s:ByteArray):(BE s).length=2+s.size:=by unfold BE;rw [kA,rA,WL]
theorem QJ {g:GVal} (h:chk g=0):1<=g.kind/\g.kind<=8/\YI g=false/\g.nums.length<=40/\g.texts.length<=40/\g.text.size<=1000/\(∀ s∈g.texts,s.size<=1000):=by
 unfold chk at h;split at h
 · cases h
 rename_i e;split at h
 · cases h
 rename_i b;split at h
 · cases h
 rename_i f;split at h
 · cases h
 rename_i c;refine ⟨qO,qO,by simpa using b,qO,qO,qO,fun s d=>?_⟩;have a:g.texts.any (fun s=>decide (1000<s.size))=false:=by
  cases hh:g.texts.any (fun s=>decide (1000<s.size)) with
  | false=>rfl
  | true=>exact absurd (.inr hh) c
 have:=uL.1 a s d;simpa using this
theorem JN (k:Int) (l:List Int):(l.flatMap (AD k)).length<=8*l.length:=by
 induction l with
 | nil=>simp
 | cons x l ih =>
   rw [iD,kA,BA];have:=XL k x;omega
theorem LN (l:List ByteArray) (h:∀ s∈l,s.size<=1000):(l.flatMap BE).length<=1002*l.length:=by
 induction l with
 | nil=>simp
 | cons x l ih =>
   rw [iD,kA,BA,KK];have b:=h x qS;have c:=ih fun s a=>h s (by simp [a]);omega
theorem FV {α:Type} (f:α->List UInt8) (l:List α) (k:Nat) (h:k<l.length):(l.take (k+1)).flatMap f=(l.take k).flatMap f++f l[k]:=by rw [AJ h,jF];simp
theorem GV {g:GVal} (w:World) (h:pD w F A1 n1 c1 A2 n2 c2 g) (hx:g.text.size<=9223372036854775807) (b3:∀ s∈g.texts,s.size<=9223372036854775807):
 Calls Tryz.prog 100 #[g.val A1 n1 c1 A2 n2 c2] w fun e w'=>∃ v,e=.returned (.tuple #[v,.int .i64 (chk g)])/\OwnB w' w.heap.size v (enc g)/\Same w w':=by
 have HC:=qH (yS (F:=F) (A1:=A1) (A2:=A2) (n1:=n1) (c1:=c1) (n2:=n2) (c2:=c2) (g:=g));have HZ:=qH (QJ (g:=g));have HE:=qH (show enc g=if chk g=0 then beb 1 g.kind.toNat++nG g else [] from rfl);have X:=qH (show nG g=(if g.kind<4 then AD g.kind g.num else if g.kind=4 then BE g.text
  else beb 1 (g.nums.length+g.texts.length)++(g.nums.flatMap (AD (g.kind-4))++g.texts.flatMap BE)) from rfl)
 generalize enc g=E at HE ⊢;generalize nG g=Bd at HE X;generalize hc:chk g=C at HC HZ HE ⊢;clear hc;obtain ⟨a,I,text,c,texts⟩:=g;simp only [GVal.val] at HC ⊢;have HR:=qH h;have t:=qH (show c.length=n1 from h.len1);have D:=qH (show texts.length=n2 from h.len2);clear h;have G:=(iA w).alloc (.cells #[.int .i64 a,.int .i64 I,.string text,.slice A1 n1 c1,.slice A2 n2 c2] 51);have Y:=jA w 51 #[.int .i64 a,.int .i64 I,.string text,.slice A1 n1 c1,.slice A2 n2 c2];have ac:=qH (HC.out _ (HR.same G) hx b3);have ai:=qH G;by_cases hz:C=0
 case neg =>
  have aw:(C != 0)=true:=by simpa using hz
  have HF:=qH (HE.trans (aA hz));clear hz Y G;go_enter Tryz.func100,Tryz.ntmps100;go_wp2_with fail;refine ac.mono ?_;rintro e T ⟨rfl,L⟩;go_wp2
  go_ret2
  exact ⟨_,rfl,by rw [HF.out];exact iC _ _ _ _,ai.same L⟩
 subst hz;have HF:=qH (HE.trans (gA rfl));obtain ⟨a9,aa,b1,U,V,ar,W⟩:=HZ.out rfl;simp only at a9 aa ar;go_enter Tryz.func100,Tryz.ntmps100;go_wp2_with fail;refine ac.mono ?_;rintro e T ⟨rfl,L⟩;have Z:=G.same L;have a0:=Y.same L;clear G Y L;go_wp2_with fail;refine (VL _).mono ?_;rintro e w2 ⟨r,rfl,hw,ab⟩;have HW:=qH hw;have ad:=Z.same ab;have a1:=a0.same ab;have hB:w.heap.size<T.heap.size:=a0.lt;have ax:=Z.size;have hr:=hw.lt;have ay:=hw.1;clear Z a0 ab hw;have c0:=a1.c0;go_wp2_with fail;refine (IN HW _ _ rfl qO qS).mono ?_;rintro e w3 ⟨rfl,ag,M⟩;have a2:=qH (show Wtr w3 T.heap.size r (beb 1 a.toNat) from ag);have z:Same w w3:=ad.trans M fun b hb hh=>qO;have d:=a1.upd M qO;clear ad a1 ag c0 HW;have c0:=d.c0;have aj:=d.c1;have ak:=d.c2;have c3:=d.c3;have c4:=d.c4;by_cases h4:a<4
 · have a3:=qH (X.trans (gA h4));go_wp2_with fail;refine (DV a2 _ _ a9 aa (by rw [rA];omega)).mono ?_;rintro e w4 ⟨rfl,B,f⟩;have n:Same w w4:=z.trans f fun b hb hh=>qO;clear z d M f;go_wp2_with fail;refine (dJ B (by rw [kA,rA];have:=XL (DC a) I;omega)).mono ?_;rintro e w5 ⟨v,rfl,ho,N⟩;go_wp2
   go_ret2
   refine ⟨v,rfl,?_,n.same N⟩;rw [HF.out,a3.out];rw [show DC a=a from by unfold DC;rw [aA qO]] at ho;exact RA ho n.size
 have ae:=qH (X.trans (aA h4));by_cases R:a=4
 · have a3:=qH (ae.trans (gA R));subst R;go_wp2_with fail;refine (EV a2 _ qO (by rw [rA];omega)).mono ?_;rintro e w4 ⟨rfl,B,f⟩;have n:Same w w4:=z.trans f fun b hb hh=>qO;clear z d M f;go_wp2_with fail;refine (dJ B (by rw [kA,rA,KK];omega)).mono ?_;rintro e w5 ⟨v,rfl,ho,N⟩;go_wp2
   go_ret2
   refine ⟨v,rfl,?_,n.same N⟩;rw [HF.out,a3.out];exact RA ho n.size
 have al:=qH (ae.trans (aA R));have av:(a==4)=false:=by simpa using R
 have am:4<a:=qO;have az:n1<=40:=by rw [<- t.out];exact U
 have b0:n2<=40:=by rw [<- D.out];exact V
 have a4:=qH W;have an:=t.out;have ao:=qH (show DC a=a-4 from by unfold DC;rw [gA am]);clear an W U V b3;go_wp2_with fail;refine (IN a2 _ _ rfl qO (by rw [rA];omega)).mono ?_;rintro e w4 ⟨rfl,B,f⟩;have n:Same w w4:=z.trans f fun b hb hh=>qO;have a5:=d.upd f qO;have a6:=qH (show Wtr w4 T.heap.size r (beb 1 a.toNat++beb 1 (c.length+texts.length)) from by rw [t.out,D.out];have:=B;rwa [show ((n1:Int)+(n2:Int)).toNat=n1+n2 from qO] at this)
 clear z d M f B c0 aj ak c3 c4;have c3:=a5.c3;go_wp2;clear c3
 go_loopw [34] (fun i wr=>∃ k:Nat,k<=n1/\i=.int .i64 k/\Blk wr w.heap.size 51 #[.int .i64 a,.int .i64 I,.string text,.slice A1 n1 c1,.slice A2 n2 c2] /\
  Hid (Wtr wr T.heap.size r (beb 1 a.toNat++beb 1 (c.length+texts.length)++(c.take k).flatMap (AD (a-4))))/\Same w wr/\r<wr.heap.size) (fun i _=>n1-(intOf i).toNat)
 case atStart=>exact ⟨0,oA _,rfl,a5,qH (by simpa using a6.out),n,a6.lt⟩
 obtain ⟨k,hk,rfl,kb,KW,l,ah⟩:=hrel;clear a5 n a6;by_cases H:k<n1
 · have p:=HR.nums.same l;obtain ⟨b,o,u,rfl,au,_,hu,hc⟩:=p.at_ H;have A:k<c.length:=by rw [t.out];exact H
   simp only [MA,FA A,VC,SE] at hu;subst hu;have HT:=qH (FV (AD (a-4)) c k A);have S:=qH (JN (a-4) (c.take k));clear p;generalize c[k]=x at *;have e0:=kb.c0;go_wp2_with fail;refine (DV KW _ _ a9 aa (by rw [kA,kA,rA,rA];have:=S.out;rw [RB] at this;omega)).mono ?_
   rintro e w5 ⟨rfl,O,P⟩;have a7:=qH O;have y:=qH P;clear O P;go_wp2
   go_roundw
   case rel =>
    refine ⟨k+1,qO,qN,kb.upd y.out qO,qH ?_,l.trans y.out fun b hb hh=>qO,qt y.size⟩;have q:=a7.out;rw [ao.out,vA] at q;rw [HT.out];exact q
   case measure=>simp [intOf];omega
 obtain rfl:k=n1:=qO;have af:=qH (show Wtr wr T.heap.size r (beb 1 a.toNat++beb 1 (c.length+texts.length)++c.flatMap (AD (a-4))) from by have q:=KW.out;rwa [cB (by rw [t.out];exact lA _)] at q)
 have S:=qH (JN (a-4) c);clear KW;have e4:=kb.c4;go_wp2;clear e4
 go_loopw [47] (fun i wx=>∃ j:Nat,j<=n2/\i=.int .i64 j/\Blk wx w.heap.size 51 #[.int .i64 a,.int .i64 I,.string text,.slice A1 k c1,.slice A2 n2 c2] /\
  Hid (Wtr wx T.heap.size r (beb 1 a.toNat++beb 1 (c.length+texts.length)++c.flatMap (AD (a-4))++(texts.take j).flatMap BE))/\Same w wx/\r<wx.heap.size) (fun i _=>n2-(intOf i).toNat)
 case atStart=>exact ⟨0,oA _,rfl,kb,qH (by simpa using af.out),l,ah⟩
 obtain ⟨j,hj,rfl,jb,JW,m,b2⟩:=hrel;clear kb l af ah;by_cases H:j<n2
 · have p:=HR.texts.same m;obtain ⟨b,o,u,rfl,au,_,hu,hc⟩:=p.at_ H;have A:j<texts.length:=by rw [D.out];exact H
   simp only [MA,FA A,VC,SE] at hu;subst hu;have HT:=qH (FV BE texts j A);have ap:=qH (a4.out texts[j] (CJ A));have a8:=qH (LN (texts.take j) fun s hs=>a4.out s (MM hs));clear p;generalize texts[j]=x at *;go_wp2_with fail;refine (EV JW _ (qh ap) (by rw [kA,kA,kA,rA,rA];have q:=a8.out;have h2:=S.out;rw [RB] at q;rw [t.out] at h2;omega)).mono ?_
   rintro e w5 ⟨rfl,O,P⟩;have a7:=qH O;have y:=qH P;clear O P;go_wp2
   go_roundw
   case rel =>
    refine ⟨j+1,qO,qN,jb.upd y.out qO,qH ?_,m.trans y.out fun b hb hh=>qO,qt y.size⟩;have q:=a7.out;rw [vA] at q;rw [HT.out];exact q
   case measure=>simp [intOf];omega
 obtain rfl:j=n2:=qO;have aq:=qH (show Wtr wr T.heap.size r (beb 1 a.toNat++beb 1 (c.length+texts.length)++c.flatMap (AD (a-4))++texts.flatMap BE) from by have q:=JW.out;rwa [cB (by rw [D.out];exact lA _)] at q)
 have a8:=qH (LN texts fun s hs=>a4.out s hs);clear JW;go_wp2_with fail;refine (dJ aq (by rw [kA,kA,kA,rA,rA];have q:=a8.out;have h2:=S.out;rw [D.out] at q;rw [t.out] at h2;omega)).mono ?_
 rintro e w5 ⟨v,rfl,ho,N⟩;have HO:=qH ho;clear ho;go_wp2
 go_ret2
 refine ⟨v,rfl,?_,m.same N⟩;rw [HF.out,al.out];have q:=RA HO.out m.size;simp only [vA] at q ⊢;exact q
theorem ZnQ {g:GVal} (w:World) (h:pD w F A1 n1 c1 A2 n2 c2 g) (hx:g.text.size<=9223372036854775807) (z:∀ s∈g.texts,s.size<=9223372036854775807):
 Calls Tryz.prog 87 #[g.val A1 n1 c1 A2 n2 c2] w fun e w'=>e=.returned (.int .i64 ((enc g).length:Int))/\Same w w':=by
 have d:=qH (GV (F:=F) (A1:=A1) (A2:=A2) (n1:=n1) (c1:=c1) (n2:=n2) (c2:=c2) (g:=g));have n:=qH h;have o:=qH hx;have p:=qH z;clear h hx z;generalize chk g=C at d;generalize enc g=E at d ⊢;obtain ⟨b,f,text,l,texts⟩:=g;simp only [GVal.val] at d ⊢;have a:=(iA w).alloc (.cells #[.int .i64 b,.int .i64 f,.string text,.slice A1 n1 c1,.slice A2 n2 c2] 51);have k:=qH a;clear a;go_enter Tryz.func87,Tryz.ntmps87;go_wp2_with fail;refine (d.out _ (n.same k) o p).mono ?_;rintro e y ⟨v,rfl,i,r⟩;obtain ⟨A,m,c,rfl⟩:=DE i;have q:=qH (show E.length=m from by
  rcases i.2 with ⟨j,t⟩ | ⟨g,u,x,j,_⟩
  · injection j with _ h2 _
    rw [t,h2]
  injection j with _ h2 _
  exact h2.symm)
 clear i;go_wp2;go_ret;exact ⟨bJ (by rw [q.out]),k.same r⟩
theorem zS (c:UInt8) (bs:List UInt8):be (c::bs)=c.toNat*256 ^ bs.length+be bs:=by
 suffices h:∀ (l:List UInt8) (n:Nat),l.foldl (fun n c=>n*256+c.toNat) n=n*256 ^ l.length+be l from by have:=h bs c.toNat;unfold be at this ⊢;simpa using this
 intro l
 induction l with
 | nil=>intro n;simp [be]
 | cons x l ih =>
   intro n;have a:=ih (n*256+x.toNat);have b:=ih x.toNat;unfold be at a b ⊢;simp only [mL,BA,Nat.zero_mul,AE];rw [a,b,Nat.pow_succ];rw [CO];have:n*256*256 ^ l.length=n*(256 ^ l.length*256):=by rw [Nat.mul_assoc,xK 256]
   omega
end Go.Proofs.YtmkjfhnlnhceiaaGreatDoor
