/- Lemmas: walks and plain laws. -/
import Derived.Test.YtmkjfhnlnhceiaaGreatDoorF03
set_option maxRecDepth 100000
set_option maxHeartbeats 16000000
namespace Go.Proofs.YtmkjfhnlnhceiaaGreatDoor
variable {r:Bool} {i n' c' B k f g b vs z:Nat} {F F' S:Nat->Prop} {A':Option Addr} {w w':World} {e e':TypeId} {xs:List Value} {v':Value} {bs:List UInt8}
open Go.RowKit
section
variable {w0 wx:World} {g1 g2:Nat} {t1 t2:TypeId} {a0 a1 a2 a3 a4 b0 b1 b2 b3 b4:Value}
end
theorem Zvi {w0:World} {E:Ending->Prop} {n:Nat} {args:Array Value} (h:∀ wx,Same w0 wx->Calls Tryz.prog n args wx fun x w'=>E x/\Same wx w'):
 ∀ wx,Same w0 wx->Calls Tryz.prog n args wx fun x w'=>E x/\Same w0 w':=fun wx a=>(h wx a).mono fun _ _ ⟨b,c⟩=>⟨b,a.same c⟩
theorem Zvj {A1 A2 B1 B2:Option Addr} {n1 c1 n2 c2 m1 d1 m2 d2:Nat} {g h:GVal} (w0 w:World) (hr:ID g h=r) (hs:Same w0 w) (hg:pD w (fun _=>True) A1 n1 c1 A2 n2 c2 g) (hh:pD w (fun _=>True) B1 m1 d1 B2 m2 d2 h):
 Calls Tryz.prog 145 #[g.val A1 n1 c1 A2 n2 c2,h.val B1 m1 d1 B2 m2 d2] w fun e w'=>e=.returned (.bool r)/\Same w w'/\Same w0 w':=by
 subst hr;exact (ZpX w hg hh).mono fun _ _ ⟨b,a⟩=>⟨b,a,hs.same a⟩
def xB {α β:Type} (f:α->β->Bool):List α->List β->Bool
 | [],[]=>true
 | x::l,y::m=>f x y && xB f l m
 | _,_=>false
def eqS (s t:ByteArray):Bool:=s.toList==t.toList
def YD (p q:GPr):Bool:=eqS p.key q.key && ID p.val q.val
def ZF (p q:NA):Bool:=decide (p.id=q.id) && xB eqS p.labels q.labels && xB YD p.props q.props
def NF (p q:GRel):Bool:=decide (p.id=q.id) && eqS p.type q.type && decide (p.src=q.src) && decide (p.dst=q.dst) && xB YD p.props q.props
theorem iJ {α β:Type} {f:α->β->Bool}:∀ {l:List α} {m:List β},l.length≠m.length->xB f l m=false
 | [],[],h=>absurd rfl h
 | [],_::_,_=>rfl
 | _::_,[],_=>rfl
 | x::l,y::m,h=>by simp only [xB];rw [iJ (f:=f) (l:=l) (m:=m) (by intro e;exact h (by simp [e]))];simp
theorem SJ {α β:Type} {f:α->β->Bool} {l:List α} {m:List β} {x:α} {y:β} (hx:l[i]?=some x) (hy:m[i]?=some y):xB f (l.drop i) (m.drop i)=(f x y && xB f (l.drop (i+1)) (m.drop (i+1))):=by obtain ⟨a,rfl⟩:=IA.1 hx;obtain ⟨b,rfl⟩:=IA.1 hy;rw [kE a,kE b];rfl
theorem YL {α:Type} {f:α->α->Bool} (hf:∀ x y,f x y=true↔x=y):∀ (l m:List α),xB f l m=true↔l=m
 | [],[]=>by simp [xB]
 | [],_::_=>by simp [xB]
 | _::_,[]=>by simp [xB]
 | x::l,y::m=>by simp [xB,hf,YL hf l m]
theorem US (s t:ByteArray):eqS s t=true↔s=t:=by unfold eqS;rw [jE];exact IG s t
theorem lW (p q:GPr):YD p q=true↔p=q:=by obtain ⟨k,g⟩:=p;obtain ⟨a,b⟩:=q;simp [YD,US,Zrs]
theorem Zqf (p q:NA):ZF p q=true↔p=q:=by obtain ⟨a,b,c⟩:=p;obtain ⟨d,e,f⟩:=q;simp [ZF,YL US,YL lW,and_assoc]
theorem Zqg (p q:GRel):NF p q=true↔p=q:=by obtain ⟨a,b,c,d,e⟩:=p;obtain ⟨f,g,h,i,j⟩:=q;simp [NF,US,YL lW,and_assoc]
abbrev PR.agg (x:PR):Value:=.agg #[.string x.key,.int .i64 x.g.kind,.int .i64 x.g.num,.string x.g.text,.slice x.A1 x.n1 x.c1,.slice x.A2 x.n2 x.c2]
theorem ZjV (w:World) (x y:PR) (hx:pD w F x.A1 x.n1 x.c1 x.A2 x.n2 x.c2 x.g) (hy:pD w F y.A1 y.n1 y.c1 y.A2 y.n2 y.c2 y.g) (hr:YD x.dat y.dat=r):
 Calls Tryz.prog 144 #[x.agg,y.agg] w fun e w'=>e=.returned (.bool r)/\Same w w':=by
 obtain ⟨f,⟨j,k,l,s,t⟩,u,v,z,A,B,C⟩:=x;obtain ⟨h,⟨m,n,o,D,E⟩,G,c1,H,I,c2,L⟩:=y;replace hr:(f.toList==h.toList && ID ⟨j,k,l,s,t⟩ ⟨m,n,o,D,E⟩)=r:=hr;have b:=((iA w).alloc (.cells #[.string f,.int .i64 j,.int .i64 k,.string l,.slice u v z,.slice A B C] 53)).alloc (.cells #[.string h,.int .i64 m,.int .i64 n,.string o,.slice G c1 H,.slice I c2 L] 53);have p:=qH ((hx.same b).mono (F':=fun _=>True) fun _ _ _=>trivial);have q:=qH ((hy.same b).mono (F':=fun _=>True) fun _ _ _=>trivial);have i:=qH b;clear hx hy b;cases hk:(f.toList==h.toList) with
 | false =>
   rw [hk] at hr;simp only [cD] at hr;subst hr;go_enter Tryz.func144,Tryz.ntmps144;go_wp2;go_ret;exact ⟨rfl,i⟩
 | true =>
   rw [hk] at hr;simp only [zD] at hr;have c:=qH hr;clear hr;go_enter Tryz.func144,Tryz.ntmps144;go_wp2_with fail;refine (Zvj _ _ c (eA _ _) p q).mono ?_;rintro e M ⟨rfl,a,_⟩;have d:=qH (i.same a);clear a;go_wp2;go_ret;exact ⟨rfl,d⟩
theorem Zmi {A:Option Addr} {n c:Nat} {ps qs:List PR} (w:World) (h:RdPs w F A n c ps) (h':RdPs w F' A' n' c' qs) (hr:xB YD (ps.map PR.dat) (qs.map PR.dat)=r):
 Calls Tryz.prog 143 #[.slice A n c,.slice A' n' c',.func (.func 144) #[] #[]] w fun e w'=>e=.returned (.bool r)/\Same w w':=by
 have hl:=h.len;have v:=h'.len;have N:=h.row.max;have a3:=h.row.le;have z:=h'.row.max;have a0:=h'.row.le;unfold maxLen at N z;have HL:=qH hl;have B:=qH v;have HA:=qH h;have HB:=qH h';have k:=qH hr;clear h h' hl v hr;by_cases C:n=n'
 · subst C;go_enter Tryz.func143,Tryz.ntmps143;go_wp2_with fail;go_loopg [17] n (fun gh ix wr=>∃ i:Nat,n-i=gh/\i<=n/\ix=.int .i64 i/\Hid (Same w wr)/\Hid (xB YD ((ps.map PR.dat).drop i) ((qs.map PR.dat).drop i)=r))
   case atStart=>exact ⟨0,rfl,oA _,rfl,qH (eA _ _),k⟩
   obtain ⟨i,rfl,hi,rfl,G,M⟩:=hrel;by_cases D:i<n
   · have l:=qH (HA.same G);have m:=qH (HB.same G);obtain ⟨b,o,x,rfl,hb,_,hx,H,r0,r1,r2,r3,r4,r5⟩:=l.at_ D;obtain ⟨t,u,y,rfl,d,_,hy,I,V,W,X,Y,Z,q5⟩:=m.at_ D;have HX:=qH (l.val x H);have HY:=qH (m.val y I);have q:=M.out;rw [SJ (f:=YD) (x:=x.dat) (y:=y.dat) (by rw [MA,hx];rfl) (by rw [MA,hy];rfl)] at q;have O:=qH q;clear hx hy H I q l m;obtain ⟨kx,⟨x0,x1,x2,x3,x4⟩,X1,a1,b1,X2,a2,b2⟩:=x;obtain ⟨ky,⟨y0,y1,y2,y3,y4⟩,Y1,c1,d1,Y2,c2,d2⟩:=y;simp only at r0 r1 r2 r3 r4 r5 V W X Y Z q5;have a:=(iA wr).alloc (.cells #[.string kx,.int .i64 x0,.int .i64 x1,.string x2,.slice X1 a1 b1,.slice X2 a2 b2] 53);have j:=a.alloc (.cells #[.string ky,.int .i64 y0,.int .i64 y1,.string y2,.slice Y1 c1 d1,.slice Y2 c2 d2] 53);have a4:=(a.cell (p:=⟨t,u+i*6,none⟩) d fun f=>f).trans V;have a5:=(a.cell (p:=⟨t,u+i*6+1,none⟩) d fun f=>f).trans W;have a6:=(a.cell (p:=⟨t,u+i*6+2,none⟩) d fun f=>f).trans X;have a7:=(a.cell (p:=⟨t,u+i*6+3,none⟩) d fun f=>f).trans Y;have a8:=(a.cell (p:=⟨t,u+i*6+4,none⟩) d fun f=>f).trans Z;have a9:=(a.cell (p:=⟨t,u+i*6+5,none⟩) d fun f=>f).trans q5;have P:=qH (((HX.same j).mono (F':=fun _=>True) fun _ _ _=>trivial));have R:=qH (((HY.same j).mono (F':=fun _=>True) fun _ _ _=>trivial));have S:=qH (G.same j);clear a j HX HY G M V W X Y Z q5;obtain ⟨s,hs⟩:=qx (YD (PR.dat ⟨kx,⟨x0,x1,x2,x3,x4⟩,X1,a1,b1,X2,a2,b2⟩) (PR.dat ⟨ky,⟨y0,y1,y2,y3,y4⟩,Y1,c1,d1,Y2,c2,d2⟩));have T:=qH hs;rw [hs] at O;clear hs;go_wp2_with fail;refine (ZjV _ ⟨kx,⟨x0,x1,x2,x3,x4⟩,X1,a1,b1,X2,a2,b2⟩ ⟨ky,⟨y0,y1,y2,y3,y4⟩,Y1,c1,d1,Y2,c2,d2⟩ P R T).mono ?_;rintro e w3 ⟨rfl,L⟩;have E:=qH (S.same L);clear L;have g:=O.out;cases s with
     | false =>
       rw [cD] at g;subst g;go_wp2;go_ret;exact ⟨rfl,E⟩
     | true =>
       rw [zD] at g;have U:=qH g;clear g O;go_wp2;go_roundg (n-(i+1))
       case measure=>omega
       case rel=>exact ⟨i+1,rfl,qO,qN,E,U⟩
   have g:=M.out;rw [BC (by rw [nA,HL.out];omega),BC (by rw [nA,B.out];omega)] at g;obtain rfl:true=r:=g;clear M k;go_wp2;go_ret;exact ⟨rfl,G⟩
 have g:=k.out;rw [iJ (by rw [nA,nA,HL.out,B.out];exact C)] at g;subst g;have aa:((n:Int) != (n':Int))=true:=by rw [qC];omega
 go_enter Tryz.func143,Tryz.ntmps143;go_wp2;go_ret;exact ⟨rfl,eA _ _⟩
theorem ZnU {A:Option Addr} {n c:Nat} {ps qs:List ByteArray} (w:World) (h:WRow w F 1 A n c (ps.map Value.string)) (h':WRow w F' 1 A' n' c' (qs.map Value.string)) (hr:xB eqS ps qs=r):
 Calls Tryz.prog 88 #[.slice A n c,.slice A' n' c'] w fun e w'=>e=.returned (.bool r)/\Same w w':=by
 have R:ps.length=n:=by have:=h.len;simpa using this
 have q:qs.length=n':=by have:=h'.len;simpa using this
 have E:=h.max;have T:=h.le;have t:=h'.max;have S:=h'.le;unfold maxLen at E t;have G:=qH R;have k:=qH q;have U:=qH h;have V:=qH h';have l:=qH hr;clear h h' R q hr;by_cases v:n=n'
 · subst v;go_enter FO,GO;go_wp2_with fail;go_loopg [13] n (fun X Y wr=>∃ i:Nat,n-i=X/\i<=n/\Y=.int .i64 i/\Hid (Same w wr)/\Hid (xB eqS (ps.drop i) (qs.drop i)=r))
   case atStart=>exact ⟨0,rfl,oA _,rfl,qH (eA _ _),l⟩
   obtain ⟨i,rfl,hi,rfl,C,N⟩:=hrel;by_cases f:i<n
   · have z:i<ps.length:=by rw [G.out];exact f
     have j:i<qs.length:=by rw [k.out];exact f
     obtain ⟨b,o,u,rfl,hb,_,D,Z⟩:=(U.same C).at_ f;obtain ⟨b',o',u',rfl,a0,_,g,q0⟩:=(V.same C).at_ f;have H:ps[i]?=some ps[i]:=FA z;have I:qs[i]?=some qs[i]:=FA j;rw [MA,H] at D;rw [MA,I] at g;injection D with D
     injection g with g
     subst D g;have m:=N.out;rw [SJ H I] at m;generalize ps[i]=x at *;generalize qs[i]=y at *;have L:=qH m;clear H I m z j;obtain ⟨s,O⟩:=qx (eqS x y);rw [O] at L;have p:(x.toList==y.toList)=s:=O;clear O;go_upto_region 6 with fail;go_cut [24] from 16 to 24 (fun P wx=>P=.bool (!s)/\∃ d,wx=wr.drewN d)
     case first =>
      go_quiet (fail);go_wp2;go_meet
      case rel=>exact ⟨by first | rfl | rw [p] | simp [p],_,rfl⟩
     obtain ⟨rfl,d,rfl⟩:=hcut;have B:=qH (C.same ((eA _ wr).drewN d));clear Z q0 p;have a:=L.out;cases s with
     | false =>
       rw [cD] at a;subst a;go_wp2;go_ret;exact ⟨rfl,B⟩
     | true =>
       rw [zD] at a;have M:=qH a;clear a L;go_wp2;go_roundg (n-(i+1))
       case measure=>omega
       case rel=>exact ⟨i+1,rfl,qO,qN,B,M⟩
   have a:=N.out;rw [BC (by rw [G.out];omega),BC (by rw [k.out];omega)] at a;obtain rfl:true=r:=a;clear N l;go_wp2;go_ret;exact ⟨rfl,C⟩
 have a:=l.out;rw [iJ (by rw [G.out,k.out];exact v)] at a;subst a;have W:((n:Int) != (n':Int))=true:=by rw [qC];omega
 go_enter FO,GO;go_wp2;go_ret;exact ⟨rfl,eA _ _⟩
theorem mW {A:Option Addr} {n c:Nat} {ps qs:List PR} (w:World) (h:RdPs w F A n c ps) (h':RdPs w F' A' n' c' qs) (hr:xB YD (ps.map PR.dat) (qs.map PR.dat)=r):
 Calls Tryz.prog 89 #[.slice A n c,.slice A' n' c'] w fun e w'=>e=.returned (.bool r)/\Same w w':=by
 go_enter Tryz.func89,Tryz.ntmps89;go_wp2_with fail;refine (Zmi _ h h' hr).mono ?_;rintro e b ⟨rfl,a⟩;go_wp2;go_ret;exact ⟨rfl,a⟩
abbrev ND.agg (x:ND):Value:=.agg #[.int .i64 x.id,.slice x.AL x.nL x.cL,.slice x.AP x.nP x.cP]
abbrev RL.agg (x:RL):Value:=.agg #[.int .i64 x.id,.string x.type,.int .i64 x.src,.int .i64 x.dst,.slice x.AP x.nP x.cP]
theorem Zlb (w:World) (x y:ND) (X:WRow w F 1 x.AL x.nL x.cL (x.labels.map Value.string)) (Y:RdPs w F x.AP x.nP x.cP x.props) (Z:WRow w F' 1 y.AL y.nL y.cL (y.labels.map Value.string)) (a0:RdPs w F' y.AP y.nP y.cP y.props) (hr:ZF x.dat y.dat=r):
 Calls Tryz.prog 42 #[x.agg,y.agg] w fun e w'=>e=.returned (.bool r)/\Same w w':=by
 obtain ⟨j,M,AL,nL,cL,R,AP,nP,cP⟩:=x;obtain ⟨k,N,c,d,f,S,g,h,i⟩:=y;replace hr:(decide (j=k) && xB eqS M N && xB YD (R.map PR.dat) (S.map PR.dat))=r:=hr;have l:=(iA w).alloc (.cells #[.int .i64 j,.slice AL nL cL,.slice AP nP cP] 56);have a:=l.alloc (.cells #[.int .i64 k,.slice c d f,.slice g h i] 56);have m:=(jA w 56 #[.int .i64 j,.slice AL nL cL,.slice AP nP cP]).alloc (.cells #[.int .i64 k,.slice c d f,.slice g h i] 56);have b:=jA (w.alloc (.cells #[.int .i64 j,.slice AL nL cL,.slice AP nP cP] 56)) 56 #[.int .i64 k,.slice c d f,.slice g h i];rw [aB] at b;have n:=qH m;have o:=qH b;have z:=qH (X.same a);have A:=qH (Y.same a);have B:=qH (Z.same a);have C:=qH (a0.same a);have D:=qH a;clear X Y Z a0 l a m b;by_cases E:j=k
 · subst E;rw [kC rfl,zD] at hr;obtain ⟨s,L⟩:=qx (xB eqS M N);rw [L] at hr;have G:=qH hr;have H:=qH L;clear hr L;go_enter Tryz.func42,Tryz.ntmps42;go_wp2_with fail;refine (ZnU _ z B H).mono ?_;rintro e V ⟨rfl,a⟩;have p:=qH (D.same a);have q:=qH (A.same a);have t:=qH (C.same a);have T:=(n.same a).c2;have U:=(o.same a).c2;clear a D n o;have u:=G.out;cases s with
   | false =>
     rw [cD] at u;subst u;go_wp2;go_ret;exact ⟨rfl,p⟩
   | true =>
     rw [zD] at u;have O:=qH u;clear u;go_wp2_with fail;refine (mW _ q t O).mono ?_;rintro e W ⟨rfl,v⟩;have I:=qH (p.same v);clear v;go_wp2;go_ret;exact ⟨rfl,I⟩
 rw [LB E,cD,cD] at hr;subst hr;have P:(j==k)=false:=by rw [WC];exact E
 go_enter Tryz.func42,Tryz.ntmps42;go_wp2;go_ret;exact ⟨rfl,D⟩
theorem Zmj (w:World) (x y:RL) (P:RdPs w F x.AP x.nP x.cP x.props) (R:RdPs w F' y.AP y.nP y.cP y.props) (hr:NF x.dat y.dat=r):
 Calls Tryz.prog 44 #[x.agg,y.agg] w fun e w'=>e=.returned (.bool r)/\Same w w':=by
 obtain ⟨l,m,n,o,p,AP,nP,cP⟩:=x;obtain ⟨q,s,t,u,v,z,A,B⟩:=y;replace hr:(decide (l=q) && eqS m s && decide (n=t) && decide (o=u) && xB YD (p.map PR.dat) (v.map PR.dat))=r:=hr;have d:=(iA w).alloc (.cells #[.int .i64 l,.string m,.int .i64 n,.int .i64 o,.slice AP nP cP] 60);have c:=d.alloc (.cells #[.int .i64 q,.string s,.int .i64 t,.int .i64 u,.slice z A B] 60);have i:=qH (P.same c);have j:=qH (R.same c);have f:=qH c;clear P R d c;obtain ⟨C,I⟩:∃ b,(l==q)=b:=⟨_,rfl⟩
 obtain ⟨D,L⟩:∃ b,(m.toList==s.toList)=b:=⟨_,rfl⟩
 obtain ⟨E,M⟩:∃ b,(n==t)=b:=⟨_,rfl⟩
 obtain ⟨G,N⟩:∃ b,(o==u)=b:=⟨_,rfl⟩
 have g:(C && D && E && G && xB YD (p.map PR.dat) (v.map PR.dat))=r:=by rw [<- hr,<-I,<-L,<-M,<-N];rfl
 have a:=qH g;clear hr g;cases C with
 | false =>
   obtain rfl:false=r:=a.out;go_enter PM,QM;go_wp2;go_ret;exact ⟨rfl,f⟩
 | true=>cases D with
   | false =>
     obtain rfl:false=r:=a.out;go_enter PM,QM;go_wp2;go_ret;exact ⟨rfl,f⟩
   | true=>cases E with
     | false =>
       obtain rfl:false=r:=a.out;go_enter PM,QM;go_wp2;go_ret;exact ⟨rfl,f⟩
     | true=>cases G with
       | false =>
         obtain rfl:false=r:=a.out;go_enter PM,QM;go_wp2;go_ret;exact ⟨rfl,f⟩
       | true =>
         have H:=qH (show xB YD (p.map PR.dat) (v.map PR.dat)=r from a);go_enter PM,QM;go_wp2_with fail;refine (mW _ i j H).mono ?_;rintro e O ⟨rfl,h⟩;have k:=qH (f.same h);clear h;go_wp2;go_ret;exact ⟨rfl,k⟩
theorem Zmk {A:Option Addr} {n c:Nat} {ps qs:List ND} (w:World) (h:RdNs w F A n c ps) (h':RdNs w F' A' n' c' qs) (hr:xB ZF (ps.map ND.dat) (qs.map ND.dat)=r):
 Calls Tryz.prog 41 #[.slice A n c,.slice A' n' c',.func (.func 42) #[] #[]] w fun e w'=>e=.returned (.bool r)/\Same w w':=by
 have hl:=h.len;have G:=h'.len;have V:=h.row.max;have a5:=h.row.le;have H:=h'.row.max;have a4:=h'.row.le;unfold maxLen at V H;have HL:=qH hl;have I:=qH G;have HA:=qH h;have HB:=qH h';have l:=qH hr;clear h h' hl G hr;by_cases L:n=n'
 · subst L;go_enter Tryz.func41,Tryz.ntmps41;go_wp2_with fail;go_loopg [17] n (fun gh R wr=>∃ i:Nat,n-i=gh/\i<=n/\R=.int .i64 i/\Hid (Same w wr)/\Hid (xB ZF ((ps.map ND.dat).drop i) ((qs.map ND.dat).drop i)=r))
   case atStart=>exact ⟨0,rfl,oA _,rfl,qH (eA _ _),l⟩
   obtain ⟨i,rfl,hi,rfl,S,U⟩:=hrel;by_cases M:i<n
   · have j:=qH (HA.same S);have k:=qH (HB.same S);obtain ⟨b,o,x,rfl,hb,_,hx,q,r0,r1,r2⟩:=j.at_ M;obtain ⟨b',o',y,rfl,t,_,hy,u,q0,q1,q2⟩:=k.at_ M;have HX:=qH (j.pro x q);have HY:=qH (k.pro y u);have W:=qH (j.lab x q);have X:=qH (k.lab y u);have m:=U.out;rw [SJ (f:=ZF) (x:=x.dat) (y:=y.dat) (by rw [MA,hx];rfl) (by rw [MA,hy];rfl)] at m;have Y:=qH m;clear hx hy q u m j k;obtain ⟨R,lx,AL,nL,cL,px,AP,nP,cP⟩:=x;obtain ⟨iy,ly,v,z,B,py,C,D,E⟩:=y;simp only at r0 r1 r2 q0 q1 q2;have d:=(iA wr).alloc (.cells #[.int .i64 R,.slice AL nL cL,.slice AP nP cP] 56);have a:=d.alloc (.cells #[.int .i64 iy,.slice v z B,.slice C D E] 56);have a6:=(d.cell (p:=⟨b',o'+i*3,none⟩) t fun f=>f).trans q0;have a7:=(d.cell (p:=⟨b',o'+i*3+1,none⟩) t fun f=>f).trans q1;have a8:=(d.cell (p:=⟨b',o'+i*3+2,none⟩) t fun f=>f).trans q2;have Z:=qH (((HX.same a).mono (F':=fun _=>True) fun _ _ _=>trivial));have a0:=qH (((HY.same a).mono (F':=fun _=>True) fun _ _ _=>trivial));have N:=qH ((W.same a).mono (F':=fun _=>True) fun _ _ _=>trivial);have O:=qH ((X.same a).mono (F':=fun _=>True) fun _ _ _=>trivial);have a1:=qH (S.same a);clear d a HX HY S U q0 q1 q2;obtain ⟨s,hs⟩:=qx (ZF (ND.dat ⟨R,lx,AL,nL,cL,px,AP,nP,cP⟩) (ND.dat ⟨iy,ly,v,z,B,py,C,D,E⟩));have a2:=qH hs;rw [hs] at Y;clear hs;go_wp2_with fail;refine (Zlb _ ⟨R,lx,AL,nL,cL,px,AP,nP,cP⟩ ⟨iy,ly,v,z,B,py,C,D,E⟩ N Z O a0 a2).mono ?_;rintro e w3 ⟨rfl,T⟩;have P:=qH (a1.same T);clear T;have g:=Y.out;cases s with
     | false =>
       rw [cD] at g;subst g;go_wp2;go_ret;exact ⟨rfl,P⟩
     | true =>
       rw [zD] at g;have a3:=qH g;clear g Y;go_wp2;go_roundg (n-(i+1))
       case measure=>omega
       case rel=>exact ⟨i+1,rfl,qO,qN,P,a3⟩
   have g:=U.out;rw [BC (by rw [nA,HL.out];omega),BC (by rw [nA,I.out];omega)] at g;obtain rfl:true=r:=g;clear U l;go_wp2;go_ret;exact ⟨rfl,S⟩
 have g:=l.out;rw [iJ (by rw [nA,nA,HL.out,I.out];exact L)] at g;subst g;have a9:((n:Int) != (n':Int))=true:=by rw [qC];omega
 go_enter Tryz.func41,Tryz.ntmps41;go_wp2;go_ret;exact ⟨rfl,eA _ _⟩
theorem ZnV {A:Option Addr} {n c:Nat} {ps qs:List RL} (w:World) (h:RdRs w F A n c ps) (h':RdRs w F' A' n' c' qs) (hr:xB NF (ps.map RL.dat) (qs.map RL.dat)=r):
 Calls Tryz.prog 43 #[.slice A n c,.slice A' n' c',.func (.func 44) #[] #[]] w fun e w'=>e=.returned (.bool r)/\Same w w':=by
 have hl:=h.len;have z:=h'.len;have S:=h.row.max;have a1:=h.row.le;have B:=h'.row.max;have a0:=h'.row.le;unfold maxLen at S B;have HL:=qH hl;have C:=qH z;have HA:=qH h;have HB:=qH h';have k:=qH hr;clear h h' hl z hr;by_cases D:n=n'
 · subst D;go_enter Tryz.func43,Tryz.ntmps43;go_wp2_with fail;go_loopg [17] n (fun gh H wr=>∃ i:Nat,n-i=gh/\i<=n/\H=.int .i64 i/\Hid (Same w wr)/\Hid (xB NF ((ps.map RL.dat).drop i) ((qs.map RL.dat).drop i)=r))
   case atStart=>exact ⟨0,rfl,oA _,rfl,qH (eA _ _),k⟩
   obtain ⟨i,rfl,hi,rfl,I,R⟩:=hrel;by_cases E:i<n
   · have l:=qH (HA.same I);have m:=qH (HB.same I);obtain ⟨b,o,x,rfl,hb,_,hx,L,r0,r1,r2,r3,r4⟩:=l.at_ E;obtain ⟨M,N,y,rfl,g,_,hy,O,Z,q1,q2,q3,q4⟩:=m.at_ E;have HX:=qH (l.pro x L);have HY:=qH (m.pro y O);have q:=R.out;rw [SJ (f:=NF) (x:=x.dat) (y:=y.dat) (by rw [MA,hx];rfl) (by rw [MA,hy];rfl)] at q;have T:=qH q;clear hx hy L O q l m;obtain ⟨H,tx,sx,dx,px,AP,nP,cP⟩:=x;obtain ⟨iy,ty,sy,dy,py,t,u,v⟩:=y;simp only at r0 r1 r2 r3 r4 Z q1 q2 q3 q4;have a:=(iA wr).alloc (.cells #[.int .i64 H,.string tx,.int .i64 sx,.int .i64 dx,.slice AP nP cP] 60);have j:=a.alloc (.cells #[.int .i64 iy,.string ty,.int .i64 sy,.int .i64 dy,.slice t u v] 60);have a2:=(a.cell (p:=⟨M,N+i*5,none⟩) g fun f=>f).trans Z;have a3:=(a.cell (p:=⟨M,N+i*5+1,none⟩) g fun f=>f).trans q1;have a4:=(a.cell (p:=⟨M,N+i*5+2,none⟩) g fun f=>f).trans q2;have a5:=(a.cell (p:=⟨M,N+i*5+3,none⟩) g fun f=>f).trans q3;have a6:=(a.cell (p:=⟨M,N+i*5+4,none⟩) g fun f=>f).trans q4;have U:=qH (((HX.same j).mono (F':=fun _=>True) fun _ _ _=>trivial));have V:=qH (((HY.same j).mono (F':=fun _=>True) fun _ _ _=>trivial));have W:=qH (I.same j);clear a j HX HY I R Z q1 q2 q3 q4;obtain ⟨s,hs⟩:=qx (NF (RL.dat ⟨H,tx,sx,dx,px,AP,nP,cP⟩) (RL.dat ⟨iy,ty,sy,dy,py,t,u,v⟩));have X:=qH hs;rw [hs] at T;clear hs;go_wp2_with fail;refine (Zmj _ ⟨H,tx,sx,dx,px,AP,nP,cP⟩ ⟨iy,ty,sy,dy,py,t,u,v⟩ U V X).mono ?_;rintro e w3 ⟨rfl,P⟩;have G:=qH (W.same P);clear P;have d:=T.out;cases s with
     | false =>
       rw [cD] at d;subst d;go_wp2;go_ret;exact ⟨rfl,G⟩
     | true =>
       rw [zD] at d;have Y:=qH d;clear d T;go_wp2;go_roundg (n-(i+1))
       case measure=>omega
       case rel=>exact ⟨i+1,rfl,qO,qN,G,Y⟩
   have d:=R.out;rw [BC (by rw [nA,HL.out];omega),BC (by rw [nA,C.out];omega)] at d;obtain rfl:true=r:=d;clear R k;go_wp2;go_ret;exact ⟨rfl,I⟩
 have d:=k.out;rw [iJ (by rw [nA,nA,HL.out,C.out];exact D)] at d;subst d;have a7:((n:Int) != (n':Int))=true:=by rw [qC];omega
 go_enter Tryz.func43,Tryz.ntmps43;go_wp2;go_ret;exact ⟨rfl,eA _ _⟩
structure WB where
 nodes:List NA
 rels:List GRel
structure GR where
 ns:List ND
 AN:Option Addr
 nN:Nat
 cN:Nat
 rs:List RL
 AR:Option Addr
 nR:Nat
 cR:Nat
abbrev GR.agg (g:GR):Value:=.agg #[.slice g.AN g.nN g.cN,.slice g.AR g.nR g.cR]
def GR.dat (g:GR):WB:=⟨g.ns.map ND.dat,g.rs.map RL.dat⟩
structure RdG (w:World) (F:Nat->Prop) (g:GR):Prop where
 nodes:RdNs w F g.AN g.nN g.cN g.ns
 rels:RdRs w F g.AR g.nR g.cR g.rs
theorem RdG.upd {g:GR} (h:RdG w F g) (hu:Upd S w w') (hs:∀ b,F b->¬ S b):RdG w' F g:=⟨h.nodes.upd hu hs,h.rels.upd hu hs⟩
theorem RdG.same {g:GR} (h:RdG w F g) (hu:Same w w'):RdG w' F g:=h.upd hu qf
theorem RdG.mono {g:GR} (h:RdG w F g) (hf:∀ b,b<w.heap.size->F b->F' b):RdG w F' g:=⟨h.nodes.mono hf,h.rels.mono hf⟩
def QN (a b:WB):Bool:=xB ZF a.nodes b.nodes && xB NF a.rels b.rels
theorem nW (a b:WB):QN a b=true↔a=b:=by obtain ⟨n,r⟩:=a;obtain ⟨c,d⟩:=b;simp [QN,YL Zqf,YL Zqg]
theorem Zqh (w:World) (g g':GR) (h:RdG w F g) (h':RdG w F' g') (hr:QN g.dat g'.dat=r):
 Calls Tryz.prog 17 #[g.agg,g'.agg] w fun e w'=>e=.returned (.bool r)/\Same w w':=by
 obtain ⟨O,C,D,E,R,G,H,I⟩:=g;obtain ⟨u,d,f,i,L,j,k,l⟩:=g';replace hr:(xB ZF (O.map ND.dat) (u.map ND.dat) && xB NF (R.map RL.dat) (L.map RL.dat))=r:=hr;have m:=(iA w).alloc (.cells #[.slice C D E,.slice G H I] 26);have a:=m.alloc (.cells #[.slice d f i,.slice j k l] 26);have n:=qH ((jA w 26 #[.slice C D E,.slice G H I]).alloc (.cells #[.slice d f i,.slice j k l] 26));have b:=jA (w.alloc (.cells #[.slice C D E,.slice G H I] 26)) 26 #[.slice d f i,.slice j k l];rw [aB] at b;have o:=qH b;have x:=qH (h.same a);have c:=qH (h'.same a);have N:=qH a;clear h h' m a b;obtain ⟨s,M⟩:=qx (xB ZF (O.map ND.dat) (u.map ND.dat));rw [M] at hr;have y:=qH hr;have z:=qH M;clear hr M;go_enter Tryz.func17,Tryz.ntmps17;go_wp2_with fail;refine (Zmk _ x.nodes c.nodes z).mono ?_;rintro e U ⟨rfl,a⟩;have p:=qH (N.same a);have A:=qH (x.same a);have q:=qH (c.same a);have S:=(n.same a).c1;have T:=(o.same a).c1;clear a N x c n o;have t:=y.out;cases s with
 | false =>
   rw [cD] at t;subst t;go_wp2;go_ret;exact ⟨rfl,p⟩
 | true =>
   rw [zD] at t;have P:=qH t;clear t;go_wp2_with fail;refine (ZnV _ A.rels q.rels P).mono ?_;rintro e V ⟨rfl,v⟩;have B:=qH (p.same v);clear v;go_wp2;go_ret;exact ⟨rfl,B⟩
theorem EE {n c:Nat} {A:Option Addr} (h:w.ownsRow B e 1 (.slice A n c) n xs) (hi:i<n):
 ∃ g u,A=some ⟨g,0,none⟩/\B<=g/\g<w.heap.size/\xs[i]?=some u/\w.cell? ⟨g,i,none⟩=some u/\w.frozen? ⟨g,i,none⟩=false/\∀ u',(w.setCell ⟨g,i,none⟩ u').ownsRow B e 1 (.slice A n c) n (xs.set i u'):=by
 have q:=h.1;rcases h.2 with ⟨m,x⟩ | ⟨g,s,a,m,o,f,l,t,v,p⟩
 · omega
 injection m with h1 k h3
 subst h1 h3;have j:g<w.heap.size:=(sC.1 f).1;have d:i<xs.length:=qO;have r:i<a.size:=qO;have b:a[i]?=some xs[i]:=by
  rw [<- xL];have k:(a.toList.take (n*1))[i]?=some xs[i]:=by rw [p];exact FA d
  rw [lL,gA qO] at k;exact k
 refine ⟨g,xs[i],rfl,o,j,FA d,?_,?_,fun u'=>?_⟩
 · rw [cell_of_row w g i a e (0,0) f];exact b
 · simp [World.frozen?,f]
 refine ⟨by rw [VF];exact q,.inr ⟨g,c,a.setIfInBounds i u',rfl,o,?_,l,t,by simpa using v,?_⟩⟩
 · simp [World.setCell,uK,f]
 rw [RO,List.take_set,p]
theorem jJ {n c:Nat} {A:Option Addr} (h:w.ownsRow B e k (.slice A n c) n xs) (hi:i<n*k):
 ∃ g u,A=some ⟨g,0,none⟩/\B<=g/\g<w.heap.size/\xs[i]?=some u/\w.cell? ⟨g,i,none⟩=some u/\w.frozen? ⟨g,i,none⟩=false/\∀ u',(w.setCell ⟨g,i,none⟩ u').ownsRow B e k (.slice A n c) n (xs.set i u'):=by
 have r:=h.1;rcases h.2 with ⟨o,v⟩ | ⟨g,x,a,o,p,j,f,y,z,q⟩
 · subst v;omega
 injection o with h1 m h3
 subst h1 h3;have l:g<w.heap.size:=(sC.1 j).1;have d:i<xs.length:=qO;have s:n*k<=c*k:=gG k f;have t:i<a.size:=qO;have b:a[i]?=some xs[i]:=by
  rw [<- xL];have m:(a.toList.take (n*k))[i]?=some xs[i]:=by rw [q];exact FA d
  rw [lL,gA hi] at m;exact m
 refine ⟨g,xs[i],rfl,p,l,FA d,?_,?_,fun u'=>?_⟩
 · rw [cell_of_row w g i a e (0,0) j];exact b
 · simp [World.frozen?,j]
 refine ⟨by rw [VF];exact r,.inr ⟨g,c,a.setIfInBounds i u',rfl,p,?_,f,y,by simpa using z,?_⟩⟩
 · simp [World.setCell,uK,j]
 rw [RO,List.take_set,q]
theorem oW:(Tryz.prog.info? 56).map (fun i=>(i.zero,i.size,i.bytes))=some (some (.agg #[.int .i64 0,.slice none 0 0,.slice none 0 0]),3,56):=qK
theorem Zwq (l:List ND):∀ u∈l.flatMap ND.cells,u.oneCell'=true:=by
 intro u b;obtain ⟨x,_,a⟩:=ED.1 b;simp only [ND.cells,TA,XG,WF] at a;rcases a with rfl | rfl | rfl
 all_goals rfl
theorem pW:(Tryz.prog.info? 60).map (fun i=>(i.zero,i.size,i.bytes))=some (some (.agg #[.int .i64 0,.string ⟨#[]⟩,.int .i64 0,.int .i64 0,.slice none 0 0]),5,64):=qK
theorem Zwr (l:List RL):∀ u∈l.flatMap RL.cells,u.oneCell'=true:=by
 intro u b;obtain ⟨x,_,a⟩:=ED.1 b;simp only [RL.cells,TA,XG,WF] at a;rcases a with rfl | rfl | rfl | rfl | rfl
 all_goals rfl
theorem PR.one (x:PR):∀ u∈x.cells,u.oneCell'=true:=by intro u a;simp only [PR.cells,TA,XG,WF] at a;rcases a with rfl | rfl | rfl | rfl | rfl | rfl <;> rfl
theorem ND.one (x:ND):∀ u∈x.cells,u.oneCell'=true:=by intro u a;simp only [ND.cells,TA,XG,WF] at a;rcases a with rfl | rfl | rfl <;> rfl
theorem RL.one (x:RL):∀ u∈x.cells,u.oneCell'=true:=by intro u a;simp only [RL.cells,TA,XG,WF] at a;rcases a with rfl | rfl | rfl | rfl | rfl <;> rfl
theorem qW:(Tryz.prog.info? 53).map (fun i=>(i.zero,i.size,i.bytes))=some (some (.agg #[.string ⟨#[]⟩,.int .i64 0,.int .i64 0,.string ⟨#[]⟩,.slice none 0 0,.slice none 0 0]),6,96):=qK
theorem Zws (l:List PR):∀ u∈l.flatMap PR.cells,u.oneCell'=true:=by intro u a;obtain ⟨x,_,b⟩:=ED.1 a;exact x.one u b
theorem Row.pr (w:World) (x:PR):Row (w.alloc (.cells x.cells.toArray 53)) (fun b=>b=w.heap.size) 6 (some ⟨w.heap.size,0,none⟩) 1 1 x.cells :=
 XF (jA w _ x.cells.toArray) rfl (lA _) (by simp [maxLen])
theorem Row.nd (w:World) (x:ND):Row (w.alloc (.cells x.cells.toArray 56)) (fun b=>b=w.heap.size) 3 (some ⟨w.heap.size,0,none⟩) 1 1 x.cells :=
 XF (jA w _ x.cells.toArray) rfl (lA _) (by simp [maxLen])
theorem Row.rl (w:World) (x:RL):Row (w.alloc (.cells x.cells.toArray 60)) (fun b=>b=w.heap.size) 5 (some ⟨w.heap.size,0,none⟩) 1 1 x.cells :=
 XF (jA w _ x.cells.toArray) rfl (lA _) (by simp [maxLen])
structure FE (w:World) (B:Nat) (x:PR):Prop where
 nums:w.ownsRow B 2 1 (.slice x.A1 x.n1 x.c1) x.n1 (x.g.nums.map (Value.int .i64))
 texts:w.ownsRow B 9 1 (.slice x.A2 x.n2 x.c2) x.n2 (x.g.texts.map Value.string)
 fits:x.g.Fits
structure xC (w:World) (B:Nat) (v:Value) (ps:List PR):Prop where
 row:w.ownsRow B 53 6 v ps.length (ps.flatMap PR.cells)
 each:∀ x∈ps,FE w B x
structure WE (w:World) (B:Nat) (x:ND):Prop where
 lab:w.ownsRow B 9 1 (.slice x.AL x.nL x.cL) x.nL (x.labels.map Value.string)
 pro:xC w B (.slice x.AP x.nP x.cP) x.props
 id:gJ x.id
structure yF (w:World) (B:Nat) (x:RL):Prop where
 pro:xC w B (.slice x.AP x.nP x.cP) x.props
 id:gJ x.id/\gJ x.src/\gJ x.dst
structure XE (w:World) (B:Nat) (v:Value) (ns:List ND):Prop where
 row:w.ownsRow B 56 3 v ns.length (ns.flatMap ND.cells)
 each:∀ x∈ns,WE w B x
structure YE (w:World) (B:Nat) (v:Value) (rs:List RL):Prop where
 row:w.ownsRow B 60 5 v rs.length (rs.flatMap RL.cells)
 each:∀ x∈rs,yF w B x
section
variable {w w':World} {B B':Nat} {v:Value} {ps:List PR} {ns:List ND} {rs:List RL}
theorem FE.upd {x:PR} (h:FE w B x) (hu:Upd S w w') (h1:∀ g,S g->(Value.slice x.A1 x.n1 x.c1).ownBlock≠some g) (h2:∀ g,S g->(Value.slice x.A2 x.n2 x.c2).ownBlock≠some g):FE w' B x :=
 ⟨GA h.nums hu fun g a b=>h1 g b a,GA h.texts hu fun g a b=>h2 g b a,h.fits⟩
theorem FE.same {x:PR} (h:FE w B x) (hu:Same w w'):FE w' B x:=h.upd hu (fun _ f=>f.elim) (fun _ f=>f.elim)
theorem FE.base {x:PR} (h:FE w B x) (hB:B'<=B):FE w B' x:=⟨RA h.nums hB,RA h.texts hB,h.fits⟩
theorem xC.nil_ (w:World) (B:Nat):xC w B (.slice none 0 0) []:=⟨iC _ _ _ _,qS⟩
theorem xC.same (h:xC w B v ps) (hu:Same w w'):xC w' B v ps:=⟨mA h.row hu,fun x a=>(h.each x a).same hu⟩
theorem xC.base (h:xC w B v ps) (hB:B'<=B):xC w B' v ps:=⟨RA h.row hB,fun x a=>(h.each x a).base hB⟩
theorem WE.same {x:ND} (h:WE w B x) (hu:Same w w'):WE w' B x:=⟨mA h.lab hu,h.pro.same hu,h.id⟩
theorem WE.base {x:ND} (h:WE w B x) (hB:B'<=B):WE w B' x:=⟨RA h.lab hB,h.pro.base hB,h.id⟩
theorem yF.same {x:RL} (h:yF w B x) (hu:Same w w'):yF w' B x:=⟨h.pro.same hu,h.id⟩
theorem yF.base {x:RL} (h:yF w B x) (hB:B'<=B):yF w B' x:=⟨h.pro.base hB,h.id⟩
theorem XE.nil_ (w:World) (B:Nat):XE w B (.slice none 0 0) []:=⟨iC _ _ _ _,qS⟩
theorem YE.nil_ (w:World) (B:Nat):YE w B (.slice none 0 0) []:=⟨iC _ _ _ _,qS⟩
theorem XE.same (h:XE w B v ns) (hu:Same w w'):XE w' B v ns:=⟨mA h.row hu,fun x a=>(h.each x a).same hu⟩
theorem XE.base (h:XE w B v ns) (hB:B'<=B):XE w B' v ns:=⟨RA h.row hB,fun x a=>(h.each x a).base hB⟩
theorem YE.same (h:YE w B v rs) (hu:Same w w'):YE w' B v rs:=⟨mA h.row hu,fun x a=>(h.each x a).same hu⟩
theorem YE.base (h:YE w B v rs) (hB:B'<=B):YE w B' v rs:=⟨RA h.row hB,fun x a=>(h.each x a).base hB⟩
def OfT (w:World) (e:TypeId) (g:Nat):Prop:=∃ cs,Blk w g e cs
theorem LA {n:Nat} (h:w.ownsRow f e k v n xs) (hg:v.ownBlock=some g):OfT w e g:=by
 rcases h.2 with ⟨rfl,_⟩ | ⟨b,c,a,rfl,_,d,_⟩
 · simp [Value.ownBlock] at hg
 obtain rfl:b=g:=by simpa [Value.ownBlock] using hg
 exact ⟨a,d⟩
theorem OfT.ne (h:OfT w e g) (h':OfT w e' g):e=e':=by
 obtain ⟨c,b⟩:=h;obtain ⟨d,a⟩:=h';unfold Blk at b a;rw [b] at a;injection a with a
 injection a
theorem ZE {n:Nat} (h:w.ownsRow f e k v n xs) (hu:Upd S w w') (hS:∀ g,g<w.heap.size->S g->OfT w e' g) (i:e≠e'):w'.ownsRow f e k v n xs :=
 GA h hu fun g a b=>i ((LA h a).ne (hS g (by obtain ⟨c,d⟩:=LA h a;exact d.lt) b))
theorem FE.type {x:PR} (h:FE w B x) (hu:Upd S w w') (hS:∀ g,g<w.heap.size->S g->OfT w e' g) (h1:2≠e') (h2:9≠e'):FE w' B x :=
 ⟨ZE h.nums hu hS h1,ZE h.texts hu hS h2,h.fits⟩
theorem xC.type (h:xC w B v ps) (hu:Upd S w w') (hS:∀ g,g<w.heap.size->S g->OfT w e' g) (h0:53≠e') (h1:2≠e') (h2:9≠e'):xC w' B v ps :=
 ⟨ZE h.row hu hS h0,fun x a=>(h.each x a).type hu hS h1 h2⟩
theorem WE.type {x:ND} (h:WE w B x) (hu:Upd S w w') (hS:∀ g,g<w.heap.size->S g->OfT w e' g) (h0:53≠e') (h1:2≠e') (h2:9≠e'):WE w' B x :=
 ⟨ZE h.lab hu hS h2,h.pro.type hu hS h0 h1 h2,h.id⟩
theorem yF.type {x:RL} (h:yF w B x) (hu:Upd S w w') (hS:∀ g,g<w.heap.size->S g->OfT w e' g) (h0:53≠e') (h1:2≠e') (h2:9≠e'):yF w' B x :=
 ⟨h.pro.type hu hS h0 h1 h2,h.id⟩
theorem XE.type (h:XE w B v ns) (hu:Upd S w w') (hS:∀ g,g<w.heap.size->S g->OfT w e' g) (hn:56≠e') (h0:53≠e') (h1:2≠e') (h2:9≠e'):XE w' B v ns :=
 ⟨ZE h.row hu hS hn,fun x a=>(h.each x a).type hu hS h0 h1 h2⟩
theorem YE.type (h:YE w B v rs) (hu:Upd S w w') (hS:∀ g,g<w.heap.size->S g->OfT w e' g) (hn:60≠e') (h0:53≠e') (h1:2≠e') (h2:9≠e'):YE w' B v rs :=
 ⟨ZE h.row hu hS hn,fun x a=>(h.each x a).type hu hS h0 h1 h2⟩
theorem xC.snoc {x:PR} (h:xC w B v ps) (hg:Grew w B 53 6 v (ps.length+1) (ps.flatMap PR.cells++x.cells) v' w') (hx:FE w B x):xC w' B v' (ps++[x]):=by
 have b:∀ g,g<w.heap.size->v.ownBlock=some g->OfT w 53 g:=fun g _ hg=>LA h.row hg;refine ⟨?_,fun y a=>?_⟩
 · rw [kA,jF];simpa using hg.own
 rcases YB.1 a with a | a
 · exact (h.each y a).type hg.upd b qD qD
 obtain rfl:y=x:=by simpa using a
 exact hx.type hg.upd b qD qD
theorem XE.snoc {x:ND} (h:XE w B v ns) (hg:Grew w B 56 3 v (ns.length+1) (ns.flatMap ND.cells++x.cells) v' w') (hx:WE w B x):XE w' B v' (ns++[x]):=by
 have b:∀ g,g<w.heap.size->v.ownBlock=some g->OfT w 56 g:=fun g _ hg=>LA h.row hg;refine ⟨?_,fun y a=>?_⟩
 · rw [kA,jF];simpa using hg.own
 rcases YB.1 a with a | a
 · exact (h.each y a).type hg.upd b qD qD qD
 obtain rfl:y=x:=by simpa using a
 exact hx.type hg.upd b qD qD qD
theorem YE.snoc {x:RL} (h:YE w B v rs) (hg:Grew w B 60 5 v (rs.length+1) (rs.flatMap RL.cells++x.cells) v' w') (hx:yF w B x):YE w' B v' (rs++[x]):=by
 have b:∀ g,g<w.heap.size->v.ownBlock=some g->OfT w 60 g:=fun g _ hg=>LA h.row hg;refine ⟨?_,fun y a=>?_⟩
 · rw [kA,jF];simpa using hg.own
 rcases YB.1 a with a | a
 · exact (h.each y a).type hg.upd b qD qD qD
 obtain rfl:y=x:=by simpa using a
 exact hx.type hg.upd b qD qD qD
theorem kJ {n c:Nat} {A:Option Addr} (h:w.ownsRow f e k (.slice A n c) n xs):WRow w (fun b=>f<=b/\b<w.heap.size) k A n c xs :=
 (TL (xF h) fun _ a d=>⟨d.2,a⟩).weak
theorem FE.rd {x:PR} (h:FE w B x):pD w (fun b=>B<=b/\b<w.heap.size) x.A1 x.n1 x.c1 x.A2 x.n2 x.c2 x.g :=
 ⟨kJ h.nums,kJ h.texts,h.fits.kind,h.fits.num,h.fits.range⟩
theorem xC.rd {A:Option Addr} {n c:Nat} (h:xC w B (.slice A n c) ps):RdPs w (fun b=>B<=b/\b<w.heap.size) A n c ps:=by
 have a:=h.row;obtain ⟨f,g,e⟩:=WA a;injection e with e1 e2 e3
 subst e1 e3;rw [<- e2] at a;exact ⟨kJ a,fun x d=>(h.each x d).rd⟩
theorem XE.rd {A:Option Addr} {n c:Nat} (h:XE w B (.slice A n c) ns):RdNs w (fun b=>B<=b/\b<w.heap.size) A n c ns:=by
 have d:=h.row;obtain ⟨f,g,e⟩:=WA d;injection e with e1 e2 e3
 subst e1 e3;rw [<- e2] at d;exact ⟨kJ d,fun x a=>kJ (h.each x a).lab,fun x a=>(h.each x a).pro.rd,fun x a=>(h.each x a).id⟩
theorem YE.rd {A:Option Addr} {n c:Nat} (h:YE w B (.slice A n c) rs):RdRs w (fun b=>B<=b/\b<w.heap.size) A n c rs:=by
 have a:=h.row;obtain ⟨f,g,e⟩:=WA a;injection e with e1 e2 e3
 subst e1 e3;rw [<- e2] at a;exact ⟨kJ a,fun x d=>(h.each x d).pro.rd,fun x d=>(h.each x d).id⟩
end
structure OwnG (w:World) (B:Nat) (g:GR):Prop where
 nodes:XE w B (.slice g.AN g.nN g.cN) g.ns
 rels:YE w B (.slice g.AR g.nR g.cR) g.rs
section
variable {w w':World} {B B':Nat} {g:GR}
theorem OwnG.same (h:OwnG w B g) (hu:Same w w'):OwnG w' B g:=⟨h.nodes.same hu,h.rels.same hu⟩
theorem OwnG.base (h:OwnG w B g) (hB:B'<=B):OwnG w B' g:=⟨h.nodes.base hB,h.rels.base hB⟩
theorem OwnG.rd (h:OwnG w B g):RdG w (fun b=>B<=b/\b<w.heap.size) g:=⟨h.nodes.rd,h.rels.rd⟩
end
theorem ZL {P:Program} {tx:TypeId} (ht:P.underlying tx=some (.slice e)) {A:Option Addr} {m c:Nat} {g:List Value} (h:WRow w F k A m c g) (i:∀ u∈g,u.oneCell'=true):
 Src P k tx (.slice A m c) m g w:=by
 by_cases b:0<m
 · exact GD ht (h.row b) i
 obtain rfl:m=0:=qO;have d:g=[]:=CG (by simpa using h.len);subst d;cases A with
 | none =>
   have f:=h.nil rfl;subst f;exact Src.ofNil w ht 0
 | some a=>exact Src.ofSlice w ht a 0 c [] qS qS qS
theorem VS {n c:Nat} {A:Option Addr} (_:bs.length=n) (h:OwnB w B (.slice A n c) bs):pA w (fun b=>A=some ⟨b,0,none⟩/\B<=b) A n c bs:=tS h
structure BS where
 data:List UInt8
 A:Option Addr
 n:Nat
 c:Nat
def BS.cell (x:BS):Value:=.slice x.A x.n x.c
def TyB (w:World) (B b:Nat):Prop:=B<=b/\b<w.heap.size/\∃ cs fr,w.heap[b]?=some (.cells cs 5 fr)
theorem TyB.upd (h:TyB w B b) (hu:Upd S w w') (hs:¬ S b):TyB w' B b :=
 ⟨h.1,by have:=hu.size;have:=h.2.1;omega,by rw [hu.block b h.2.1 hs];exact h.2.2⟩
theorem TyB.base {B':Nat} (h:TyB w B b) (hB:B'<=B):TyB w B' b:=⟨tA hB h.1,h.2⟩
theorem TyB.ne (h:TyB w B b) (h':OfT w e b):5=e:=by
 obtain ⟨_,_,f,g,c⟩:=h;obtain ⟨d,a⟩:=h';unfold Blk at a;rw [c] at a;injection a with a
 injection a
abbrev MK:=@TyB.ne
def IB (w:World) (B:Nat) (x:BS):Prop:=pA w (TyB w B) x.A x.n x.c x.data
structure OD (w:World) (B:Nat) (v:Value) (l:List BS):Prop where
 row:w.ownsRow B 39 1 v l.length (l.map BS.cell)
 each:∀ x∈l,IB w B x
theorem aQ:(Tryz.prog.info? 39).map (fun i=>(i.zero,i.size,i.bytes))=some (some (.slice none 0 0),1,24):=qK
section
variable {w w':World} {B B':Nat} {v:Value} {l:List BS} {x:BS}
theorem IB.upd (h:IB w B x) (hu:Upd S w w') (hs:∀ b,TyB w B b->¬ S b):IB w' B x:=(SL h hu hs).mono fun b _ a=>a.upd hu (hs b a)
theorem IB.same (h:IB w B x) (hu:Same w w'):IB w' B x:=h.upd hu qf
theorem IB.base (h:IB w B x) (hB:B'<=B):IB w B' x:=TL h fun _ _ a=>a.base hB
theorem IB.type (h:IB w B x) (hu:Upd S w w') (hS:∀ g,g<w.heap.size->S g->OfT w e' g) (d:5≠e'):IB w' B x:=h.upd hu fun b a c=>d (a.ne (hS b a.2.1 c))
theorem IB.of {A:Option Addr} {n c:Nat} (h:OwnB w B (.slice A n c) bs) (hn:bs.length=n):IB w B ⟨bs,A,n,c⟩:=by
 refine TL (VS hn h) fun b e a=>⟨a.2,e,?_⟩
 obtain ⟨f,i⟩:=LA h (g:=b) (by have d:A=some ⟨b,0,none⟩:=a.1;rw [d];rfl);exact ⟨f,_,i⟩
theorem OD.nil_ (w:World) (B:Nat):OD w B (.slice none 0 0) []:=⟨iC _ _ _ _,qS⟩
theorem OD.same (h:OD w B v l) (hu:Same w w'):OD w' B v l:=⟨mA h.row hu,fun x a=>(h.each x a).same hu⟩
theorem OD.base (h:OD w B v l) (hB:B'<=B):OD w B' v l:=⟨RA h.row hB,fun x a=>(h.each x a).base hB⟩
theorem OD.type (h:OD w B v l) (hu:Upd S w w') (hS:∀ g,g<w.heap.size->S g->OfT w e' g) (h1:5≠e') (h2:39≠e'):OD w' B v l :=
 ⟨ZE h.row hu hS h2,fun x a=>(h.each x a).type hu hS h1⟩
theorem OD.at_ {A:Option Addr} {n c:Nat} (h:OD w B (.slice A n c) l) (hl:l.length=n) (hi:i<n):∃ b o x,A=some ⟨b,o,none⟩/\b<w.heap.size/\l[i]?=some x/\x∈l/\w.cell? ⟨b,o+i,none⟩=some (.slice x.A x.n x.c):=by
 have f:=h.row;rw [hl] at f;have d:=xF f;obtain ⟨x,e⟩:∃ x,l[i]?=some x:=⟨_,FA qO⟩
 cases hA:A with
 | none =>
   have:=d.nil hA;have:=d.le;omega
 | some a =>
   obtain ⟨b,o,p⟩:=a;obtain ⟨g,j,_,k⟩:=d.cell _ hA;simp only at j g k;subst g;refine ⟨b,o,x,rfl,j,e,OC e,?_⟩;have:=k i x.cell (by rw [MA,e];rfl);exact this
end
def BS.rc (x:BS):Option (List UInt8):=match x.A with | none=>none | some _=>some x.data
structure PF (w:World) (B f:Nat) (k vs z:Nat) (v:Value) (l:List BS) (low:Nat):Prop where
 base:B<=f
 blk:Blk w f 171 #[.int .i64 (k:Int),.int .i64 (vs:Int),.int .i64 (z:Int),v,.int .i64 (((l.filter fun x=>x.A.isSome).length:Nat):Int),.int .i64 (low:Int)]
 own:OD w B v l
 size:2<=z/\z<=255
 recs:∀ x∈l,x.A≠none->x.data.length+1=z
 len:l.length<=65536
 low:∀ i,i<low->∃ x,l[i]?=some x/\x.A≠none
def filD (k vs z:Nat) (l:List BS):YA:=⟨k,vs,z,l.map BS.rc⟩
theorem PF.same {low:Nat} {v:Value} {l:List BS} (h:PF w B f k vs z v l low) (hu:Same w w'):PF w' B f k vs z v l low :=
 ⟨h.base,h.blk.same hu,h.own.same hu,h.size,h.recs,h.len,h.low⟩
theorem aM {l:List BS}:(filD k vs z l).used i=true↔∃ x,l[i]?=some x/\x.A≠none:=by
 unfold YA.used filD;simp only [MA];cases hl:l[i]? with
 | none=>simp
 | some x =>
   simp only [VC,SE,exists_eq_left'];unfold BS.rc;cases x.A <;> simp
theorem RN (w:World) (k vs z:Nat) (hk:k<=255) (hv:vs<=255) (hz:2<=z/\z<=255):Calls Tryz.prog 52 #[.int .i64 (k:Int),.int .i64 (vs:Int),.int .i64 (z:Int)] w fun e w' =>
 e=.returned (.tuple #[.pointer (some ⟨w.heap.size,0,none⟩),.int .i64 0])/\PF w' w.heap.size w.heap.size k vs z (.slice none 0 0) [] 0/\Same w w':=by
 have a:¬ (k:Int)<0:=qO;have b:(k:Int)<=255:=qO;have c:¬ (vs:Int)<0:=qO;have d:(vs:Int)<=255:=qO;have f:¬ (z:Int)<2:=qO;have g:(z:Int)<=255:=qO;go_enter Tryz.func52,Tryz.ntmps52;go_wp2
 go_ret2
 exact ⟨rfl,⟨lA _,jA w _ _,OD.nil_ _ _,hz,qS,qS,qS⟩,(eA _ w).alloc _⟩
section
variable {B f k vs z low:Nat} {v:Value} {l:List BS}
theorem rW (w:World) (h:PF w B f k vs z v l low):Calls Tryz.prog 117 #[.pointer (some ⟨f,0,none⟩)] w fun e w'=>e=.returned (.int .i64 (k:Int))/\w=w':=by have a:=h.blk.c0;clear h;go_enter Tryz.func117,Tryz.ntmps117;go_wp2;go_ret;exact ⟨rfl,rfl⟩
theorem sW (w:World) (h:PF w B f k vs z v l low):Calls Tryz.prog 119 #[.pointer (some ⟨f,0,none⟩)] w fun e w'=>e=.returned (.int .i64 (vs:Int))/\w=w':=by have a:=h.blk.c1;clear h;go_enter Tryz.func119,Tryz.ntmps119;go_wp2;go_ret;exact ⟨rfl,rfl⟩
theorem SN (w:World) (h:PF w B f k vs z v l low):Calls Tryz.prog 118 #[.pointer (some ⟨f,0,none⟩)] w fun e w'=>e=.returned (.int .i64 (z:Int))/\w=w':=by have a:=h.blk.c2;clear h;go_enter Tryz.func118,Tryz.ntmps118;go_wp2;go_ret;exact ⟨rfl,rfl⟩
theorem WS (w:World) (h:PF w B f k vs z v l low):Calls Tryz.prog 78 #[.pointer (some ⟨f,0,none⟩)] w fun e w'=>e=.returned (.int .i64 (((l.filter fun x=>x.A.isSome).length:Nat):Int))/\w=w':=by have a:=h.blk.c4;clear h;go_enter Tryz.func78,Tryz.ntmps78;go_wp2;go_ret;exact ⟨rfl,rfl⟩
theorem TJ (w:World) (h:PF w B f k vs z v l low):Calls Tryz.prog 70 #[.pointer (some ⟨f,0,none⟩)] w fun e w'=>e=.returned (.int .i64 (l.length:Int))/\w=w':=by obtain ⟨A,c,rfl⟩:=WA h.own.row;have a:=h.blk.c3;clear h;go_enter Tryz.func70,Tryz.ntmps70;go_wp2;go_ret;exact ⟨rfl,rfl⟩
theorem Zlc (w:World) (h:PF w B f k vs z v l low) (i:Int):Calls Tryz.prog 195 #[.pointer (some ⟨f,0,none⟩),.int .i64 i] w fun e w'=>e=.returned (.bool (decide (0<=i) && (filD k vs z l).used i.toNat))/\w=w':=by
 obtain ⟨A,c,rfl⟩:=WA h.own.row;have D:=h.blk.c3;by_cases s:0<=i
 · obtain ⟨n,rfl⟩:∃ n:Nat,i=(n:Int):=⟨i.toNat,qO⟩
   by_cases r:n<l.length
   · have t:(n:Int)<(l.length:Int):=qO;obtain ⟨b,o,x,rfl,G,d,j,p⟩:=h.own.at_ rfl r;cases hA:x.A with
     | none =>
       have g:(filD k vs z l).used n=false:=by
        cases hq:(filD k vs z l).used n with
        | false=>rfl
        | true =>
          obtain ⟨y,m,q⟩:=aM.1 hq;rw [d] at m;injection m with m
          subst m;exact absurd hA q
       have u:w.cell? ⟨b,o+n,none⟩=some (.slice none 0 0):=by have C:=Row.nil (h.own.each x j) hA;have E:=Row.le (h.own.each x j);rw [p,hA,C,show x.n=0 by omega]
       clear h p d j;go_enter SO,TO;go_wp2;go_ret;exact ⟨by simp [g],rfl⟩
     | some a =>
       have g:(filD k vs z l).used n=true:=aM.2 ⟨x,d,by rw [hA];simp⟩;rw [hA] at p;clear h d j;go_enter SO,TO;go_wp2;go_ret;exact ⟨by simp [g],rfl⟩
   have t:¬ (n:Int)<(l.length:Int):=qO;have g:(filD k vs z l).used n=false:=by
    cases hq:(filD k vs z l).used n with
    | false=>rfl
    | true =>
      obtain ⟨x,d,_⟩:=aM.1 hq;exact absurd (IA.1 d).1 r
   clear h;go_enter SO,TO;go_wp2;go_ret;exact ⟨rfl,rfl⟩
 have F:¬ (0<=i):=s;clear h;go_enter SO,TO;go_wp2;go_ret;exact ⟨by rw [LB (show ¬ 0<=i by omega)];rfl,rfl⟩
theorem XS (w:World) (h:PF w B f k vs z v l low) (i:Int):Calls Tryz.prog 168 #[.pointer (some ⟨f,0,none⟩),.int .i64 i] w fun e w' =>
 (VE (filD k vs z l) i=false/\e=.returned (.tuple #[.slice none 0 0,.int .i64 3])/\w=w') \/
 (∃ x v',l[i.toNat]?=some x/\x.A≠none/\0<=i/\e=.returned (.tuple #[v',.int .i64 0])/\OwnB w' w.heap.size v' x.data/\Same w w'):=by
 have m:=qH (Zlc w h i);obtain ⟨A,c,rfl⟩:=WA h.own.row;have L:=h.blk.c3;by_cases d:VE (filD k vs z l) i=true
 · have a:=d;unfold VE at a;rw [a] at m;simp only [kB,NC] at a;obtain ⟨R,r⟩:=a;obtain ⟨n,rfl⟩:∃ n:Nat,i=(n:Int):=⟨i.toNat,qO⟩
   rw [XB] at r;obtain ⟨y,j,g⟩:=aM.1 r;have q:=(IA.1 j).1;obtain ⟨b,o,x,rfl,S,s,p,T⟩:=h.own.at_ rfl q;rw [s] at j;injection j with j
   subst j;have t:=qH (h.own.each x p);have u:x.n<=140737488355328:=by have M:=ZG (h.own.each x p);have N:=h.recs x p g;have O:=h.size;omega
   have C:=qH s;have D:=qH g;have P:(n:Int)<(l.length:Int):=qO;clear h s g p d r;go_enter Tryz.func168,Tryz.ntmps168;go_wp2_with fail;refine m.mono ?_;rintro e F ⟨rfl,rfl⟩;go_wp2_with fail;refine (JK w t u).mono ?_;rintro e U ⟨G,rfl,H,I⟩;go_wp2
   go_ret2
   exact .inr ⟨x,G,by rw [XB];exact C,D,qO,rfl,H,I⟩
 have d:VE (filD k vs z l) i=false:=by simpa using d
 have a:=d;unfold VE at a;rw [a] at m;have E:=qH d;clear h d a;go_enter Tryz.func168,Tryz.ntmps168;go_wp2_with fail;refine m.mono ?_;rintro e F ⟨rfl,rfl⟩;go_wp2
 go_ret2
 exact .inl ⟨E,rfl,rfl⟩
end
end Go.Proofs.YtmkjfhnlnhceiaaGreatDoor
