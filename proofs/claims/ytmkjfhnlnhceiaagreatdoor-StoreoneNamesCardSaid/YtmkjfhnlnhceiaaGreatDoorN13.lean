/- Texts that the claim leans on: walks and plain laws, function by function. -/
import Derived.Test.YtmkjfhnlnhceiaaGreatDoorN10
import Derived.Test.YtmkjfhnlnhceiaaGreatDoorN12
set_option maxRecDepth 100000
set_option maxHeartbeats 16000000
namespace Go.Proofs.YtmkjfhnlnhceiaaGreatDoor
section
open Go.RowKit
abbrev OwnR (w:World) (B g n c:Nat) (l:List RL):Prop:=w.ownsRow B 60 5 (.slice (some ⟨g,0,none⟩) n c) n (l.flatMap RL.cells)
abbrev AtR (w:World) (g i:Nat) (x:RL):Prop:=w.cell? ⟨g,i*5,none⟩=some (.int .i64 x.id)/\w.cell? ⟨g,i*5+1,none⟩=some (.string x.type)/\w.cell? ⟨g,i*5+2,none⟩=some (.int .i64 x.src)/\w.cell? ⟨g,i*5+3,none⟩=some (.int .i64 x.dst)/\w.cell? ⟨g,i*5+4,none⟩=some (.slice x.AP x.nP x.cP)
abbrev FrR (w:World) (g i:Nat):Prop:=w.frozen? ⟨g,i*5,none⟩=false/\w.frozen? ⟨g,i*5+1,none⟩=false/\w.frozen? ⟨g,i*5+2,none⟩=false/\w.frozen? ⟨g,i*5+3,none⟩=false/\w.frozen? ⟨g,i*5+4,none⟩=false
theorem OwnR.at_ {w:World} {B g n c i:Nat} {l:List RL} {x:RL} (h:OwnR w B g n c l) (hx:l[i]?=some x):i<n/\g<w.heap.size/\AtR w g i x/\FrR w g i:=by obtain ⟨d,e,a,b⟩:=Zij h YdI qO hx;exact ⟨d,e,⟨a 0 _ rfl,a 1 _ rfl,a 2 _ rfl,a 3 _ rfl,a 4 _ rfl⟩,b _,b _,b _,b _,b _⟩
theorem OwnR.len {w:World} {B g n c:Nat} {l:List RL} (h:OwnR w B g n c l):l.length=n:=Zcz h YdI qO
theorem Zim {w wx:World} {g i j:Nat} {x y:RL} (h:Hid (AtR w g i x)) (h':Hid (AtR w g j y)) (hg:g<w.heap.size) (hs:Same w wx):Same w wx/\AtR wx g i x/\AtR wx g j y:=by have a:∀ o,wx.cell? ⟨g,o,none⟩=w.cell? ⟨g,o,none⟩:=fun o=>hs.cell (p:=⟨g,o,none⟩) hg fun f=>f;obtain ⟨b,c,d,e,k⟩:=h.out;obtain ⟨l,m,n,q,r⟩:=h'.out;exact ⟨hs,⟨(a _).trans b,(a _).trans c,(a _).trans d,(a _).trans e,(a _).trans k⟩,(a _).trans l,(a _).trans m,(a _).trans n,(a _).trans q,(a _).trans r⟩
theorem OwnR.same {w w':World} {B g n c:Nat} {l:List RL} (h:OwnR w B g n c l) (hs:Same w w'):OwnR w' B g n c l:=Zaa h hs
theorem twoR {w wr:World} {B g n c:Nat} {l:List RL} (h:OwnR w B g n c l) (hs:Zap (fun a b:Int=>a<b) RL.id l) (hS:Same w wr) {i j:Nat} (hij:i<j) (hj:j<n) :
 ∃ (x y:RL) (cc:Int),g<wr.heap.size/\Hid (AtR wr g i x)/\Hid (AtR wr g j y)/\Hid (cmpI (RL.id y) (RL.id x)=cc)/\decide (cc<0)=false:=by
 have p:=h.len;have d:=h.same hS;obtain ⟨x,e⟩:∃ x,l[i]?=some x:=⟨_,Yar qO⟩
 obtain ⟨y,f⟩:∃ y,l[j]?=some y:=⟨_,Yar qO⟩
 obtain ⟨_,k,m,_⟩:=d.at_ e;obtain ⟨_,_,o,_⟩:=d.at_ f;exact ⟨x,y,_,k,qH m,qH o,qH rfl,YaM (mt (ZoP _ _).1 (hs.at2 hij e f))⟩
theorem insR {B n c g a b:Nat} {l:List RL} (w:World) (h:OwnR w B g n c l) (hn:n<=35184372088832) (hs:Zap (fun a b:Int=>a<b) RL.id l) (hab:a<=b) (hb:b<=n) :
 Calls Tryz.prog 213 #[.slice (some ⟨g,0,none⟩) n c,.int .i64 a,.int .i64 b,.func (.func 138) #[] #[]] w fun e w'=>e=.returned (.tuple #[])/\Same w w':=by
 have o:=qH (And.intro h hs);clear h hs;go_enter Tryz.func213,Tryz.ntmps213;go_wp2_with fail;go_loopg [8] (b-a) (fun m D wr=>∃ i:Nat,a+1<=i/\b+1-i=m/\(i=a+1\/i<=b)/\D=.int .i64 i/\Hid (Same w wr))
 case atStart=>exact ⟨a+1,Yae _,qO,.inl rfl,rfl,qH (Yaa _ _)⟩
 obtain ⟨i,f,rfl,j,rfl,d⟩:=hrel;by_cases p:i<b
 · clear j;go_wp2_with fail;go_loopg [9] i (fun m E k=>i=m/\E=.int .i64 i/\Hid (Same w k))
   case atStart=>exact ⟨rfl,rfl,d⟩
   clear d;obtain ⟨rfl,rfl,d⟩:=hrel;obtain ⟨r,F⟩:∃ r,r+1=i:=⟨i-1,qO⟩
   obtain ⟨x,y,N,G,H,I,L,M⟩:=twoR o.1 o.2 d.out (show r<i by omega) qO;have q:IntKind.i64.wrap ((i:Int)-1)=(r:Int):=qw;have s:(0:Int)<=(i:Int):=qO;have t:(i:Int)<(n:Int):=qO;have u:(0:Int)<=(r:Int):=qO;have v:(r:Int)<(n:Int):=qO;have z:decide (a<i)=true:=YaV qO;have A:=qH f;clear F f;go_upto_region 4 with fail;have C:Same wr wr.drew:=(Yaa _ wr).drew;go_region_held3 (fun k=>Same wr k/\AtR k g r x/\AtR k g i y) (exact Zim H I G qA) (first
    | (go_at_call 138;refine (Zgt _ _ _ _ _ _ _ _ _ _ wr _ L qA).mono ?_;rintro e w' ⟨rfl,hs⟩))
   all_goals
    go_wp2;go_roundg (b+1-(i+1))
    case measure=>omega
    case rel=>exact ⟨i+1,qh A,rfl,.inr qO,by go_num,qH (d.same hs)⟩
 clear j;go_wp2;go_end0;exact ⟨rfl,d⟩
theorem smgR {B n c g:Nat} {l:List RL} (hn:n<=35184372088832) (hs:Zap (fun a b:Int=>a<b) RL.id l):∀ (N:Nat) {a d b:Nat} (w:World),b-a<=N->a<d->d<b->b<=n->OwnR w B g n c l ->
 Calls Tryz.prog 214 #[.slice (some ⟨g,0,none⟩) n c,.int .i64 a,.int .i64 d,.int .i64 b,.func (.func 138) #[] #[]] w fun e w'=>e=.returned (.tuple #[])/\Same w w':=by
 intro N
 induction N with
 | zero=>intro a d b w hN R S;omega
 | succ N ih =>
   intro a d b w hN R S ad h;have L:=qH (And.intro h hs);clear h;by_cases h1:d=a+1
   · have z:IntKind.i64.wrap ((d:Int)-(a:Int))=1:=qw;have A:(d:Int)-(a:Int)=1:=qO;have C:IntKind.i64.wrap ((d:Int)-1)=(a:Int):=qw;have D:(d:Int)-1=(a:Int):=qO;clear h1 hs ih;go_enter Tryz.func214,Tryz.ntmps214;go_wp2_with fail;clear z A;go_loopg [10,11] (b-d) (fun H s1 s2 wr=>∃ j:Nat,j-d=H/\d<=j/\j<=b/\s1=.int .i64 d/\s2=.int .i64 j/\Hid (Same w wr))
     case atStart=>exact ⟨b,rfl,qO,Yae _,rfl,rfl,qH (Yaa _ _)⟩
     obtain ⟨j,rfl,an,ao,rfl,rfl,o⟩:=hrel;by_cases U:d<j
     · obtain ⟨m,q⟩:∃ m,m=(d+j) / 2:=⟨_,rfl⟩
       obtain ⟨x,y,cc,hg,HX,HY,HC,a5⟩:=twoR L.1 L.2 o.out (show a<m by omega) qO;have E:((d:Int)+(j:Int)) / 2=(m:Int):=qO;have F:(0:Int)<=(d:Int)+(j:Int):=qO;have V:(0:Int)<=(m:Int):=qO;have W:(m:Int)<(n:Int):=qO;have X:(0:Int)<=(a:Int):=qO;have Y:(a:Int)<(n:Int):=qO;have Z:d<=m:=qO;have a0:m<j:=qO;clear q;go_upto_region 5 with fail;have a1:Same wr wr.drew:=(Yaa _ wr).drew;go_region_held3 (fun t=>Same wr t/\AtR t g a x/\AtR t g m y) (exact Zim HX HY hg qA) (first
        | (go_at_call 138;refine (Zgt _ _ _ _ _ _ _ _ _ _ wr _ HC qA).mono ?_;rintro e w' ⟨rfl,hs⟩))
       all_goals
        go_wp2;go_roundg (m-d)
        case measure=>omega
        case rel=>exact ⟨m,rfl,qO,qO,rfl,rfl,qH (o.same hs)⟩
     obtain rfl:j=d:=qO;go_wp2_with fail;go_loopg [13] 1 (fun H s3 t=>1=H/\s3=.int .i64 a/\Hid (Same w t))
     case atStart=>exact ⟨rfl,rfl,o⟩
     clear o;obtain ⟨rfl,rfl,o⟩:=hrel;go_wp2;refine YbB (Ycp rfl _ _ _) rfl ?_;exact ⟨rfl,o⟩
   have v:((d:Int)-(a:Int)==1)=false:=by simp;omega
   obtain ⟨ll,a6⟩:∃ ll,ll=d-a:=⟨_,rfl⟩
   have z:IntKind.i64.wrap ((d:Int)-(a:Int))=(ll:Int):=qw;have A:(d:Int)-(a:Int)=(ll:Int):=qO;have v:((ll:Int)==1)=false:=by simp;omega
   by_cases h2:b=d+1
   · have C:IntKind.i64.wrap ((b:Int)-(d:Int))=1:=qw;have D:(b:Int)-(d:Int)=1:=qO;clear h1 h2 hs ih a6;go_enter Tryz.func214,Tryz.ntmps214;go_wp2_with fail;clear z A C D v;go_loopg [14,15] (d-a) (fun H s1 s2 wr=>∃ i:Nat,d-i=H/\a<=i/\i<=d/\s1=.int .i64 i/\s2=.int .i64 d/\Hid (Same w wr))
     case atStart=>exact ⟨a,rfl,Yae _,qO,rfl,rfl,qH (Yaa _ _)⟩
     obtain ⟨i,rfl,ap,hid,rfl,rfl,o⟩:=hrel;by_cases U:i<d
     · obtain ⟨m,q⟩:∃ m,m=(i+d) / 2:=⟨_,rfl⟩
       obtain ⟨x,y,cc,hg,HX,HY,HC,a5⟩:=twoR L.1 L.2 o.out (show m<d by omega) qO;have E:((i:Int)+(d:Int)) / 2=(m:Int):=qO;have F:(0:Int)<=(i:Int)+(d:Int):=qO;have V:(0:Int)<=(m:Int):=qO;have W:(m:Int)<(n:Int):=qO;have X:(0:Int)<=(d:Int):=qO;have Y:(d:Int)<(n:Int):=qO;have Z:i<=m:=qO;have a0:m<d:=qO;clear q;go_upto_region 17 with fail;have a1:Same wr wr.drew:=(Yaa _ wr).drew;go_region_held3 (fun t=>Same wr t/\AtR t g m x/\AtR t g d y) (exact Zim HX HY hg qA) (first
        | (go_at_call 138;refine (Zgt _ _ _ _ _ _ _ _ _ _ wr _ HC qA).mono ?_;rintro e w' ⟨rfl,hs⟩))
       all_goals
        go_wp2;go_roundg (d-(m+1))
        case measure=>omega
        case rel=>exact ⟨m+1,rfl,qO,qO,by go_num,rfl,qH (o.same hs)⟩
     obtain rfl:i=d:=qO;go_wp2_with fail;go_loopg [17] 1 (fun H s3 t=>1=H/\s3=.int .i64 i/\Hid (Same w t))
     case atStart=>exact ⟨rfl,rfl,o⟩
     clear o;obtain ⟨rfl,rfl,o⟩:=hrel;go_wp2;refine YbB (Ycp rfl _ _ _) rfl ?_;exact ⟨rfl,o⟩
   obtain ⟨rl,ae⟩:∃ rl,rl=b-d:=⟨_,rfl⟩
   obtain ⟨f,a7⟩:∃ f,f=(a+b) / 2:=⟨_,rfl⟩
   obtain ⟨p,af⟩:∃ p,p=f+d:=⟨_,rfl⟩
   obtain ⟨M,ag⟩:∃ M,M+1=p:=⟨p-1,qO⟩
   obtain ⟨u,r,I⟩:∃ u r,(f<d->u+b=p/\r=f)/\(¬ f<d->u=a/\r=d):=by
    by_cases q:f<d
    · exact ⟨p-b,f,fun _=>⟨qO,rfl⟩,fun h=>absurd q h⟩
    exact ⟨a,d,fun h=>absurd h q,fun _=>⟨rfl,rfl⟩⟩
   have a8:a<=u/\u<=r/\r<=d/\d+r<=p/\p<=b+u:=by
    by_cases q:f<d
    · have:=I.1 q;omega
    have:=I.2 q;omega
   obtain ⟨aq,ah,ar,au,av⟩:=a8;have C:IntKind.i64.wrap ((b:Int)-(d:Int))=(rl:Int):=qw;have D:(b:Int)-(d:Int)=(rl:Int):=qO;have a2:((rl:Int)==1)=false:=by simp;omega
   have E:((a:Int)+(b:Int)) / 2=(f:Int):=qO;have F:(0:Int)<=(a:Int)+(b:Int):=qO;have a9:IntKind.i64.wrap ((f:Int)+(d:Int))=(p:Int):=qw;have aa:(f:Int)+(d:Int)=(p:Int):=qO;have ab:IntKind.i64.wrap ((p:Int)-1)=(M:Int):=qw;have ac:(p:Int)-1=(M:Int):=qO;have a3:a<f:=qO;have al:f<b:=qO;have am:p<=2*n:=qO;have G:=qH I;have k:=qH (show p=f+d/\M+1=p/\f-a<=N/\b-f<=N by omega);clear h1 h2 a6 ae a7 af ag I hs;go_enter Tryz.func214,Tryz.ntmps214;go_upto_if 140 with fail;go_cut [20,21] (fun ai aj t=>ai=.int .i64 u/\aj=.int .i64 r/\t=w)
   case first =>
    by_cases q:f<d
    · have h9:=G.1 q;have O:IntKind.i64.wrap ((p:Int)-(b:Int))=(u:Int):=qw;have a4:(p:Int)-(b:Int)=(u:Int):=qO;obtain rfl:r=f:=h9.2;clear h9;go_wp2;go_meet;exact ⟨rfl,rfl,rfl⟩
    have h9:=G.2 q;obtain ⟨rfl,rfl⟩:=h9;go_wp2;go_meet;exact ⟨rfl,rfl,rfl⟩
   obtain ⟨rfl,rfl,rfl⟩:=hcut;clear z A v C D a2 E F a9 aa;obtain ⟨w1,rfl⟩:∃ w1:World,w1=wc:=⟨_,rfl⟩
   go_wp2_with fail;clear ab ac;go_loopg [20,21] (r-u) (fun H s1 s2 wr=>∃ s:Nat,r-s=H/\u<=s/\s<=r/\s1=.int .i64 s/\s2=.int .i64 r/\Hid (Same w1 wr))
   case atStart=>exact ⟨u,rfl,Yae _,ah,rfl,rfl,qH (Yaa _ _)⟩
   obtain ⟨s,rfl,aw,ax,rfl,rfl,o⟩:=hrel;by_cases U:s<r
   · obtain ⟨m,q⟩:∃ m,m=(s+r) / 2:=⟨_,rfl⟩
     obtain ⟨T,ak⟩:∃ T,T+m=M:=⟨M-m,qh k⟩
     obtain ⟨x,y,cc,hg,HX,HY,HC,a5⟩:=twoR L.1 L.2 o.out (show m<T by have:=k.out;omega) (qh k);have E:((s:Int)+(r:Int)) / 2=(m:Int):=qO;have F:(0:Int)<=(s:Int)+(r:Int):=qO;have V:(0:Int)<=(m:Int):=qO;have W:(m:Int)<(n:Int):=qO;have O:IntKind.i64.wrap ((M:Int)-(m:Int))=(T:Int):=by rw [YbO _ ⟨qO,qh k⟩];omega
     have X:(0:Int)<=(T:Int):=qO;have Y:(T:Int)<(n:Int):=qh k;have Z:s<=m:=qO;have a0:m<r:=qO;clear q ak;go_upto_region 35 with fail;have a1:Same wr wr.drew:=(Yaa _ wr).drew;go_region_held3 (fun t=>Same wr t/\AtR t g m x/\AtR t g T y) (exact Zim HX HY hg qA) (first
      | (go_at_call 138;refine (Zgt _ _ _ _ _ _ _ _ _ _ wr _ HC qA).mono ?_;rintro e w' ⟨rfl,hs⟩))
     all_goals
      go_wp2;go_roundg (r-(m+1))
      case measure=>omega
      case rel=>exact ⟨m+1,rfl,qO,qO,by go_num,rfl,qH (o.same hs)⟩
   obtain rfl:s=r:=qO;by_cases q:f<d
   · obtain rfl:s=f:=(G.1 q).2;have O:IntKind.i64.wrap ((p:Int)-(s:Int))=(d:Int):=by have:=k.out;rw [YbO _ ⟨qO,qO⟩];omega
     have a4:(p:Int)-(s:Int)=(d:Int):=qh k;have d1:decide (s<d)=true:=YaV q;have d2:decide (a<s)=true:=YaV a3;have d3:decide (d<b)=true:=YaV S;go_wp2_with fail;refine (ih _ k.2.2.2 q S ad (L.1.same o)).mono ?_;rintro e w5 ⟨rfl,h5⟩;have H5:=qH (o.same h5);clear h5;go_wp2;go_end0;exact ⟨rfl,H5⟩
   obtain rfl:s=d:=(G.2 q).2;have O:IntKind.i64.wrap ((p:Int)-(s:Int))=(f:Int):=by have:=k.out;rw [YbO _ ⟨qO,qO⟩];omega
   have a4:(p:Int)-(s:Int)=(f:Int):=qh k;have d1:decide (a<s)=true:=YaV R;by_cases P:s<f
   · have d2:decide (s<f)=true:=YaV P;go_wp2_with fail;refine (ih _ k.2.2.1 R P qO (L.1.same o)).mono ?_;rintro e w5 ⟨rfl,h5⟩;have H5:=qH (o.same h5);clear h5;go_wp2;go_end0;exact ⟨rfl,H5⟩
   have d2:decide (s<f)=false:=YaM P;go_wp2;go_end0;exact ⟨rfl,o⟩
theorem stcR {B n c g:Nat} {l:List RL} (w:World) (h:OwnR w B g n c l) (hn:n<=35184372088832) (hs:Zap (fun a b:Int=>a<b) RL.id l) :
 Calls Tryz.prog 181 #[.slice (some ⟨g,0,none⟩) n c,.int .i64 n,.func (.func 138) #[] #[]] w fun e w'=>e=.returned (.tuple #[])/\Same w w':=by
 have E:=qH h;have F:=qH hs;clear h hs;go_enter Tryz.func181,Tryz.ntmps181;go_wp2_with fail;go_loopg [7,8] n (fun v H I wr=>∃ a b:Nat,n-a=v/\a<=n/\b=a+20/\H=.int .i64 a/\I=.int .i64 b/\Hid (Same w wr))
 case atStart=>exact ⟨0,20,rfl,Yah _,rfl,rfl,rfl,qH (Yaa _ _)⟩
 obtain ⟨a,b,rfl,y,z,rfl,rfl,j⟩:=hrel;obtain ⟨i,k⟩:∃ i,i=b+20:=⟨_,rfl⟩
 have r:IntKind.i64.wrap ((b:Int)+20)=(i:Int):=qw;have s:(b:Int)+20=(i:Int):=qO;have q:=qH (And.intro z k);have t:a<=b:=qO;have L:b<i:=qO;clear z k;by_cases o:b<=n
 · go_wp2_with fail;refine (insR _ (E.same j) hn F t o).mono ?_;rintro x w2 ⟨rfl,A⟩;have G:=qH (j.same A);clear A;go_wp2;go_roundg (n-b)
   case measure=>have:=q.out;omega
   case rel=>exact ⟨b,i,rfl,o,qh q,rfl,by first | rfl | go_num,G⟩
 go_wp2_with fail;refine (insR _ (E.same j) hn F y (Yae _)).mono ?_;rintro x w2 ⟨rfl,A⟩;have G:=qH (j.same A);clear A r s t L j q o;go_wp2_with fail;go_loopg [6,7,8,9] (n-20) (fun v s6 H I s9 P=>∃ f:Nat,n-f=v/\0<f/\f<=2*n+20/\s6=.int .i64 f/\Hid (Same w P))
 case atStart=>exact ⟨20,rfl,qO,qO,rfl,G⟩
 clear G;obtain ⟨f,rfl,a3,U,rfl,R⟩:=hrel;by_cases o:f<n
 · obtain ⟨V,rfl⟩:∃ V:World,V=wr:=⟨_,rfl⟩
   obtain ⟨d,C⟩:∃ d,d=2*f:=⟨_,rfl⟩
   have r:IntKind.i64.wrap (2*(f:Int))=(d:Int):=qw;have s:2*(f:Int)=(d:Int):=qO;have W:IntKind.i64.wrap ((f:Int)*2)=(d:Int):=qw;have X:(f:Int)*2=(d:Int):=qO;have Y:=qH C;have S:f<d:=qO;have T:d<=2*n:=qO;clear C;go_wp2_with fail;go_loopg [7,8] n (fun v H I P=>∃ a b:Nat,n-a=v/\a<=n/\b=a+d/\H=.int .i64 a/\I=.int .i64 b/\Hid (Same w P))
   case atStart=>exact ⟨0,d,rfl,Yah _,qO,rfl,rfl,R⟩
   clear R;obtain ⟨a,b,rfl,y,z,rfl,rfl,j⟩:=hrel;obtain ⟨i,k⟩:∃ i,i=b+d:=⟨_,rfl⟩
   obtain ⟨m,O⟩:∃ m,m=a+f:=⟨_,rfl⟩
   have Z:IntKind.i64.wrap ((b:Int)+(d:Int))=(i:Int):=qw;have a0:(b:Int)+(d:Int)=(i:Int):=qO;have a1:IntKind.i64.wrap ((a:Int)+(f:Int))=(m:Int):=qw;have a2:(a:Int)+(f:Int)=(m:Int):=qO;have u:a<m:=qO;have M:m<b:=qO;have q:=qH (And.intro z k);clear z k O;by_cases p:b<=n
   · go_wp2_with fail;refine (smgR hn F _ _ (Yae _) u M p (E.same j)).mono ?_;rintro x w3 ⟨rfl,D⟩;have N:=qH (j.same D);clear D;go_wp2;go_roundg (n-b)
     case measure=>have:=q.out;omega
     case rel=>exact ⟨b,i,rfl,p,qh q,rfl,by first | rfl | go_num,N⟩
   by_cases O:m<n
   · go_wp2_with fail;refine (smgR hn F _ _ (Yae _) u O (Yae _) (E.same j)).mono ?_;rintro x w3 ⟨rfl,D⟩;have N:=qH (j.same D);clear D;go_wp2;go_roundg (n-d)
     case measure=>omega
     case rel=>exact ⟨d,rfl,qO,qO,by first | rfl | go_num,N⟩
   go_wp2;go_roundg (n-d)
   case measure=>omega
   case rel=>exact ⟨d,rfl,qO,qO,by first | rfl | go_num,j⟩
 go_wp2;go_end0;exact ⟨rfl,R⟩
theorem Zuw {B n c:Nat} {A:Option Addr} {l:List RL} (w:World) (h:w.ownsRow B 60 5 (.slice A n c) n (l.flatMap RL.cells)) (hn:n<=35184372088832) (hs:Zap (fun a b:Int=>a<b) RL.id l) :
 Calls Tryz.prog 137 #[.slice A n c,.func (.func 138) #[] #[]] w fun e w'=>e=.returned (.tuple #[])/\Same w w':=by
 rcases h.2 with ⟨f,o⟩ | ⟨g,k,m,f,_⟩
 · refine (Znw w A n c _ qO).mono ?_;rintro e w' ⟨rfl,rfl⟩;exact ⟨rfl,Yaa _ _⟩
 injection f with d h2 h3
 subst d h3;have i:=qH h;have j:=qH hs;clear h hs;go_enter Tryz.func137,Tryz.ntmps137;go_wp2_with fail;refine (stcR _ i hn j).mono ?_;rintro e p ⟨rfl,d⟩;have H:=qH d;clear d;go_wp2;go_end0;exact ⟨rfl,H⟩
end
section
def ZkU (l:L1) (node v:Int):L1:=if l.src=node then { l with snext:=v } else { l with dnext:=v }
def getL (M:List L1) (i:Nat):L1:=(M[i]?).getD ⟨false,0,0,0,0,0,0⟩
theorem ZfU {M:List L1} {i:Nat} {l:L1} (h:M[i]?=some l):getL M i=l:=by unfold getL;rw [h];rfl
theorem Znz {M:List L1} {i j:Nat} {l:L1} (h:i≠j):getL (M.set i l) j=getL M j:=by unfold getL;rw [YcV h]
theorem Zux {M:List L1} {i:Nat} {l:L1} (h:i<M.length):getL (M.set i l) i=l:=ZfU (by rw [Ycr h])
theorem ZpK (l:L1) (node p q v:Int):ZkU (ZbV l node p q) node v=ZbV l node p v:=by
 unfold ZbV;split
 · split
   · unfold ZkU;simp only;rename_i a b;rw [Yac a]
   unfold ZkU;simp only;rename_i a b;rw [Yac a]
 unfold ZkU;simp only;rename_i a;rw [Yab a]
theorem ZiU (node:Int):∀ (ids:List Nat) (p:Int) (L:List L1),(Zan node p ids L).length=L.length
 | [],p,L=>rfl
 | i::ids,p,L=>by
   rw [Zan,ZiU node ids];cases L[i]? with
   | none=>rfl
   | some l=>simp
theorem ZcA {node p:Int} {i:Nat} {L:List L1} (hi:i<L.length) (ids:List Nat):Zan node p (i::ids) L=Zan node i ids (L.set i (ZbV (getL L i) node p (Zdx ids))):=by have h:=Yar hi;rw [Zan,h,ZfU h]
def fixT (node:Int) (z x:Nat) (M:List L1):List L1:=(M.set x (ZbV (getL M x) node z (-1))).set z (ZkU (getL M z) node x)
theorem ZiV {node:Int} {x:Nat}:∀ (d:List Nat) (y:Nat) (p:Int) (L:List L1),(y::d++[x]).Nodup->(∀ i∈y::d++[x],i<L.length)->Zan node p (y::d++[x]) L=fixT node ((y::d).getLast (by simp)) x (Zan node p (y::d) L)
 | [],y,p,L,hd,hr=>by
   have b:=hr y (by simp);have c:=hr x (by simp);have a:y≠x:=by have:=YbG.1 hd;intro e;exact this.1 (by simp [e])
   rw [YaE,YaK,ZcA b,ZcA (by simpa using c),ZcA b];simp only [Zan,Zdx,List.getLast_singleton];unfold fixT;rw [Znz a,Znz a,Zux b,ZpK];rw [List.set_comm _ _ a.symm,YeV]
 | z::d,y,p,L,hd,hr=>by have b:=hr y (by simp);rw [YaE,ZcA b,ZcA b];have f:=ZiV (node:=node) d z y (L.set y (ZbV (getL L y) node p (Zdx (z::d++[x])))) (YbG.1 hd).2 (fun i g=>by rw [Ycg];exact hr i (YcZ y g));rw [f];rfl
def Zvs (l l':L1):Prop:=l'.live=l.live/\l'.src=l.src/\l'.dst=l.dst
theorem ZpL (l:L1) (node p q:Int):Zvs l (ZbV l node p q):=by
 unfold ZbV;split
 · split <;> exact ⟨rfl,rfl,rfl⟩
 exact ⟨rfl,rfl,rfl⟩
theorem ZpM {M:List L1} {i:Nat} {l:L1} {node:Int} {k:Nat} (h:Zvs (getL M i) l):ZaJ (M.set i l) node (k:Int)=ZaJ M node (k:Int):=by
 unfold ZaJ;rw [Yab qO,Yab qO,YaN];by_cases e:i=k
 · subst e;rcases Yfy i M.length with a | a
   · rw [Ycr a];have b:=Yar a;rw [ZfU b] at h;rw [b];simp only [h.1,h.2.1,h.2.2]
   rw [List.set_eq_of_length_le a]
 rw [YcV e]
variable {node:Int}
theorem Zgu:∀ (ids:List Nat) (prev:Int) (L:List L1) (i:Nat),i ∉ ids->(Zan node prev ids L)[i]?=L[i]?
 | [],_,_,_,_=>rfl
 | j::ids,prev,L,i,h=>by
   rw [Zan,Zgu ids _ _ i (fun a=>h (by simp [a]))];cases hj:L[j]? with
   | none=>rfl
   | some l =>
     simp only;rw [YcV (fun e=>h (by simp [e]))]
theorem ZdS (l:L1) (p n:Int):(ZbV l node p n).live=l.live/\(ZbV l node p n).src=l.src/\(ZbV l node p n).dst=l.dst:=by
 unfold ZbV;split
 · split <;> exact ⟨rfl,rfl,rfl⟩
 exact ⟨rfl,rfl,rfl⟩
theorem ZpN (l:L1) (p n:Int):Zgs (ZbV l node p n) node=p/\ZiR (ZbV l node p n) node=n:=by
 unfold Zgs ZiR;rw [(ZdS l p n).2.1];unfold ZbV;by_cases h:l.src=node
 · by_cases a:l.dst=node <;> simp [h,a]
 simp [h]
theorem ZpO {l:L1} {p n:Int} (ht:l.src=node\/l.dst=node):ZcS (ZbV l node p n)=false:=by
 obtain ⟨_,c,d⟩:=ZdS (node:=node) l p n;unfold ZcS;rw [c,d];by_cases h:l.src=l.dst
 · have a:l.src=node:=by rcases ht with e | e <;> omega
   have b:l.dst=node:=qO;unfold ZbV;rw [Yac a,Yac b];simp
 have:(l.src==l.dst)=false:=by simpa using h
 rw [this];rfl
def Zgv (L:List L1) (node:Int) (i:Nat):Prop:=∃ l,L[i]?=some l/\l.live=true/\(l.src=node\/l.dst=node)
theorem Zcd {L:List L1} {i:Nat}:ZaJ L node (i:Int)=0↔Zgv L node i:=by
 unfold ZaJ Zgv;rw [Yab qO,YaN];cases L[i]? with
 | none=>simp
 | some l =>
   simp only [Yce,exists_eq_left'];cases hl:l.live with
   | false=>simp
   | true =>
     simp only [YdV,if_false,YcW];by_cases a:l.src=node
     · simp [a]
     by_cases b:l.dst=node
     · simp [b]
     simp [a,b]
theorem ZiW:∀ (ids:List Nat) (prev:Int) (L:List L1) (k:Nat),ids.Nodup->(∀ i∈ids,Zgv L node i)->ids.length<=k ->
 ZbU (Zan node prev ids L) node k prev (Zdx ids)=.ok (ids.map fun (i:Nat)=>(i:Int))
 | [],prev,L,k,_,_,_=>by cases k <;> simp [ZbU,Zdx]
 | i::ids,prev,L,k,hd,ht,hk=>by
   obtain ⟨k,rfl⟩:∃ m,k=m+1:=⟨k-1,by simp only [Yao] at hk;omega⟩
   obtain ⟨h,p⟩:=YbG.1 hd;obtain ⟨l,d,f,a⟩:=ht i (by simp);have b:=(Yaq.1 d).1;have g:(Zan node prev (i::ids) L)[i]?=some (ZbV l node prev (Zdx ids)):=by rw [Zan,d,Zgu ids _ _ i h];simp only;rw [Ycr b]
   obtain ⟨q,r,s⟩:=ZdS (node:=node) l prev (Zdx ids);obtain ⟨t,u⟩:=ZpN (node:=node) l prev (Zdx ids);have o:ZaJ (Zan node prev (i::ids) L) node (i:Int)=0:=Zcd.2 ⟨_,g,by rw [q];exact f,by rw [r,s];exact a⟩;have ih:=ZiW ids (i:Int) (L.set i (ZbV l node prev (Zdx ids))) k p (fun j n=>by obtain ⟨m,v,w,x⟩:=ht j (by simp [n]);refine ⟨m,?_,w,x⟩;rw [YcV (fun e:i=j=>h (e ▸ n))];exact v) (by simp only [Yao] at hk;omega)
   have c:Zan node prev (i::ids) L=Zan node (i:Int) ids (L.set i (ZbV l node prev (Zdx ids))):=by rw [Zan,d]
   rw [show Zdx (i::ids)=(i:Int) from rfl,ZbU,Yab qO,Yab (by rw [o];simp),YaN,g];simp only;rw [Yab (by rw [t,ZpO a];simp),u,c,ih];rfl
end
section
open Go.RowKit
attribute [local go_sem] Ybq
def ZjL (B:Nat) (W:World) (ds:List Deferred):Prop:=∃ Ds:List Nat,ds=Ds.map (fun D=>{ target:=.collected D,args:=#[] })/\Ds.Nodup/\∀ D∈Ds,B<=D/\W.heap[D]?=some (.deferred (some []))
theorem ZjL.nil (B:Nat) (W:World):ZjL B W []:=⟨[],rfl,Yex,fun _ h=>by cases h⟩
theorem ZjL.cons {B D:Nat} {W:World} {ds:List Deferred} (h:ZjL B W ds) {B':Nat} (hlt:∀ D',W.heap[D']?=some (.deferred (some []))->{ target:=.collected D',args:=#[] }∈ds->D'<B') (hD:B'<=D) (hB:B<=D) (hk:W.heap[D]?=some (.deferred (some []))):ZjL B W ({ target:=.collected D,args:=#[] }::ds):=by
 obtain ⟨e,b,f,c⟩:=h;refine ⟨D::e,by rw [b];rfl,YbG.2 ⟨fun d=>?_,f⟩,fun D' a=>?_⟩
 · have g:=hlt D (c D d).2 (by rw [b];exact Yba.2 ⟨D,d,rfl⟩);omega
 rcases Yat.1 a with rfl | a
 · exact ⟨hB,hk⟩
 exact c D' a
end
section
open Go.RowKit
attribute [local go_sem] Ybq
theorem ZhK {F:Fence} {nF:Nat} {P:Program} {w:World} {ops:Array Oper} {rest:List Oper} {o:Oper} {a:Act} {Q:Exit->Act->World->Prop} (hgd:o.guard=none) (s x:Operand) (t tx:TypeId)
 (ho:o.op=.call { callee:=.builtin .append,args:=#[s,x],argTypes:=#[t,tx] })
 (base:Nat) (e:TypeId) (k bytes:Nat) (z:Value) (ht:P.underlying t=some (.slice e)) (hi:(P.info? e).map (fun i=>(i.zero,i.size,i.bytes))=some (some z,k,bytes))
 (hzs:z.cells.size=k)
 (v:Value) (n:Nat) (xs:List Value) (hs:a.eval s=v) (hown:w.ownsRow base e k v n xs)
 {xv:Value} {m:Nat} {news:List Value} (hx:a.eval x=xv) (hsrc:Src P k tx xv m news w)
 (h63:n+m<=maxLen) (hbytes:(n+m+1000)*bytes<=211106232532992) (hbase:base<=w.heap.size)
 (h:∀ v' w',Grew w base e k v (n+m) (xs++news) v' w'->wpListIn F nF P ops Q rest (a.put o.dst v') w'):wpListIn F nF P ops Q (o::rest) a w:=by
 refine wpListIn_plain hgd fun K b=>?_;obtain ⟨i,d,j,l,f⟩:=info_parts hi;clear hi;subst l;subst f;obtain ⟨v',w',p,q⟩:=Ziq (P:=P) w t tx o.type base e i z ht d j hzs v n xs hown xv m news hsrc h63 hbytes hbase;unfold Oper.wpIn;refine ⟨?_,?_⟩
 · simp [Oper.about,ho,resolve,Target.leads,Sem.run_pure]
 rw [Oper.semAt_plain F _ _ (by rw [ho];intro c g;cases g)];simp [execOp,ho,resolve,invoke,builtin,hs,hx,p,Result.andThen];exact b _ _ (h v' w' q)
end
section
open Go.RowKit
theorem i64w {n:Nat} (h:n<18446744073709551616):IntKind.i64.wrap (n:Int)=i64 n:=by rw [YbQ];unfold i64;split <;> omega
theorem Zte {w:World} {F:Nat->Prop} {c r g:Nat} {l:List UInt8} (h:CR w F c r l false) (hl:l.length=19) (hp:Blk w g 145 #[.int .i64 0,.int .i64 0,.int .i64 0,.int .i64 (-1),.int .i64 0,.int .i64 0]) (hFp:¬ F g) (hFn:∀ b,w.heap.size<=b->¬ F b) :
 Calls Tryz.prog 127 #[.pointer (some ⟨c,0,none⟩),.pointer (some ⟨g,0,none⟩)] w fun e w'=>e=.returned (.tuple #[]) /\
  ∃ rest,CR w' F c r rest (getP l).isNone/\(∀ x,getP l=some x->Blk w' g 145 x.cells)/\(∃ cs,Blk w' g 145 cs)/\Upd (fun b=>b=c\/b=r\/b=g) w w':=by
 have o:145≠237/\145≠285:=qD;have HH:=qH h;have HP:=qH hp;clear h hp;go_enter Tryz.func127,Tryz.ntmps127;go_wp2_with fail;refine (Zrh (po:=0) HH qO HP.out rfl o hFp (V:=(atP l 0 2:Int)) rfl).mono ?_;rintro e w1 ⟨rfl,h1,p1,u1⟩;simp only [Yal,Yam] at p1;have H1:=qH h1;have P1:=qH p1;have U1:=qH u1;clear h1 p1 u1;go_wp2_with fail;refine (ZeO (po:=1) H1 1 rfl qO (by simp only [Yas];omega) P1.out rfl o hFp 1 9 0 qO (V:=(atP l 2 1:Int)) (by unfold atP;simp)).mono ?_;rintro e j ⟨rfl,h2,Z,u2⟩;simp only [Yal,Yap,Yam] at Z;have f:=qH h2;have v:=qH Z;have U2:=qH (U1.trans u2 fun _ _ h=>h);have q1:=Z.c1;clear h2 Z u2;have hv:=v.cell 3;obtain ⟨m,C⟩:∃ m,(false || outB (atP l 0 2:Int) 0 200 || outB (atP l 2 1:Int) 1 9)=m:=⟨_,rfl⟩
 have I:=qH C;rw [C,Ybm] at f;simp only [Nat.reduceAdd] at f;clear C H1 P1 U1 HH HP;have q3:=v.c3;have c1:=f.cod.c1;have c2:=f.cod.c2;have f2:=f.cod.frozen 2;have y:=f.ne;have z:c≠g:=fun e=>by subst e;exact absurd rfl (Blk.ne f.cod v (YbY o.1))
 by_cases W:(atP l 2 1:Int)<4
 · have k1:(atP l 2 1:Int)<=3:=qO;have uA:Upd (fun b=>b=c) j (j.setCell ⟨c,2,none⟩ (.bool m)):=(Yaa _ j).put1 _;have hA:CR (j.setCell ⟨c,2,none⟩ (.bool m)) F c r (l.drop 3) m:=⟨f.cod.put 2 _,f.rdr.upd uA (YbY y) fun b d h=>f.fc (h ▸ d),f.fr,f.fc⟩
   have k:=qH hA;have A:=qH (v.far (p:=⟨c,2,none⟩) (YbY z) (.bool m));have X:=qH (U2.trans uA fun _ _ h=>.inl h);clear hA uA;have cA:=k.cod.c1;go_upto_region 3 with fail;go_cut [] from 20 to 33 (fun wx=>wx=j.setCell ⟨c,2,none⟩ (.bool m))
   case first =>
    cases m
    · go_wp2;go_meet;rfl
    go_wp2;go_meet;rfl
   case rest =>
   subst hcut;generalize j.setCell ⟨c,2,none⟩ (.bool m)=w3 at *;go_wp2_with fail;refine (Zcb k.rdr k.fr 8).mono ?_;rintro e n ⟨rfl,H,u4⟩;have L:RS.num ⟨l.drop 3,0⟩ (8:Int)=(atP l 3 8,⟨l.drop 11,0⟩):=by unfold RS.num;rw [show ZaK 8=true from rfl,show (8:Int)=((8:Nat):Int) from rfl,YdL (by rw [Yas];omega)];simp only [Ybm];rfl
   rw [L] at H ⊢;have w8:IntKind.i64.wrap ((atP l 3 8:Nat):Int)=i64 (atP l 3 8):=i64w (Zri (l:=l) (i:=3) (w:=8) qO);have u:=qH (A.upd u4 (by obtain ⟨_,_,_,d,_⟩:=k.rdr;exact A.ne d o.2))
   have M:g≠r:=by obtain ⟨_,_,_,d,_⟩:=k.rdr;exact A.ne d o.2
   have C4:=qH (k.cod.upd u4 y);have R4:=qH H;have U4:=qH (X.trans u4 fun _ _ h=>.inr (.inl h));have q4:=u.c2;have z4:=u.frozen 2;clear H u4;generalize hN:i64 (atP l 3 8)=N at *;go_upto_region 11 with fail;have uB:Upd (fun b=>b=g) n (n.setCell ⟨g,2,none⟩ (.int .i64 N)):=(Yaa _ n).put1 _;have HB:=qH (show CR (n.setCell ⟨g,2,none⟩ (.int .i64 N)) F c r (l.drop 11) m from ⟨C4.far z _,R4.upd uB (YbY M) fun b d h=>hFp (h ▸ d),k.fr,k.fc⟩);have pB:=u.put 2 (.int .i64 N);simp only [Yal,Yap,Yam] at pB;have PB:=qH pB;have UB:=qH (U4.trans uB fun _ _ h=>.inr (.inr h));clear uB pB C4 R4 u q4 z4;generalize n.setCell ⟨g,2,none⟩ (.int .i64 N)=w5 at *;go_wp2_with fail;refine (Zdi (po:=4) HB (by simp only [Yas];omega) PB.out rfl o hFp 65536 (V:=(atP l 11 4:Int)-1) (by unfold atP;first | rfl | rw [Ybm])).mono ?_;rintro e w8 ⟨rfl,U,D,u8⟩;simp only [Yal,Yap,Yam] at D;have H8:=qH U;have P8:=qH D;have U8:=qH (UB.trans u8 fun _ _ h=>h);clear U D u8;go_wp2_with fail;refine (Zdi (po:=5) H8 (by simp only [Yas];omega) P8.out rfl o hFp 65536 (V:=(atP l 15 4:Int)-1) (by unfold atP;simp only [Ybm])).mono ?_;rintro e w9 ⟨rfl,q,E,u9⟩;simp only [Yal,Yap,Yam] at E;have H9:=qH q;have O:=qH E;have U9:=qH (U8.trans u9 fun _ _ h=>h);clear q E u9;go_wp2;go_end0;have P:Zey l=⟨atP l 0 2,atP l 2 1,N,-1,(atP l 11 4:Int)-1,(atP l 15 4:Int)-1⟩:=by unfold Zey;rw [Yac W,Yac W,hN]
   have R:getP l=if ZbN (Zey l)=true then some (Zey l) else none:=by rw [Zrk hl];simp only [W,true_or,and_true]
   have d:(m || outB ((atP l 11 4:Int)-1) (-1) 65536 || outB ((atP l 15 4:Int)-1) (-1) 65536)=(getP l).isNone:=by rw [R,<-I.out,P];unfold ZbN;simp only [Zgr,W,YcD];generalize inP (atP l 0 2:Int) 0 200=x1;generalize inP (atP l 2 1:Int) 1 9=x2;generalize inP ((atP l 11 4:Int)-1) (-1) 65536=x3;generalize inP ((atP l 15 4:Int)-1) (-1) 65536=x4;cases x1 <;> cases x2 <;> cases x3 <;> cases x4 <;> rfl
   have q:=H9.out;rw [d] at q;refine ⟨rfl,_,q,fun x a=>?_,⟨_,O⟩,U9⟩;rw [R] at a;split at a
   · rw [<- Yax a,P];simp only [P1.cells];exact O
   cases a
 have k1:¬ (atP l 2 1:Int)<=3:=qO;have q2:=v.c2;have T:Hid (c<j.heap.size/\g<j.heap.size/\r<j.heap.size/\w.heap.size<=j.heap.size):=qH ⟨f.cod.lt,v.lt,f.rdr.lt,U2.size⟩;go_upto_region 8 with fail;have Y:=(Yaa (fun _=>False) j).alloc (.cells #[.int .i64 0] 3);have k:=qH (f.same Y);have A:=qH (v.same Y);have ZA:=qH (Yad j 3 #[.int .i64 0]);have X:=qH (U2.same Y);have a0:¬ F j.heap.size:=hFn _ T.2.2.2;clear Y q1 q2 q3 c1 c2 f2 hv;generalize a3:j.heap.size=zb at *;generalize j.alloc (.cells #[.int .i64 0] 3)=w3 at *;go_wp2_with fail;refine (ZeO (po:=0) k 4 rfl qO (by simp only [Yas];omega) ZA.out rfl qD a0 0 1 0 qO (V:=(atP l 3 4:Int)) (by unfold atP;simp)).mono ?_;rintro e n ⟨rfl,H,_,u4⟩;have a2:=T.out;have s:=qH H;have u:=qH (A.upd u4 (by
  have M:g≠r:=by obtain ⟨_,_,_,d,_⟩:=k.rdr;exact A.ne d o.2
  omega))
 have U4:=qH (X.trans u4 (S:=fun b=>b=c\/b=r\/b=g) fun b d h=>qO);obtain ⟨t,G⟩:∃ t,(m || outB (atP l 3 4:Int) 0 1)=t:=⟨_,rfl⟩
 have a1:=qH G;rw [G,Ybm] at s;simp only [Nat.reduceAdd] at s;clear H u4 G k A X ZA;have q2:=u.c2;have c2:=s.cod.c2;have f2:=s.cod.frozen 2;have uC:Upd (fun b=>b=c) n (n.setCell ⟨c,2,none⟩ (.bool t)):=(Yaa _ n).put1 _;have HC:=qH (show CR (n.setCell ⟨c,2,none⟩ (.bool t)) F c r (l.drop 7) t from ⟨s.cod.put 2 _,s.rdr.upd uC (YbY y) fun b d h=>s.fc (h ▸ d),s.fr,s.fc⟩);have PC:=qH (u.far (p:=⟨c,2,none⟩) (YbY z) (.bool t));have UC:=qH (U4.trans uC fun _ _ h=>.inl h);clear uC;go_upto_region 9 with fail;go_cut [] from 64 to 77 (fun wx=>wx=n.setCell ⟨c,2,none⟩ (.bool t))
 case first =>
  cases t
  · go_wp2;go_meet;rfl
  go_wp2;go_meet;rfl
 case rest =>
 subst hcut;generalize n.setCell ⟨c,2,none⟩ (.bool t)=w5 at *;go_wp2_with fail;refine (ZeO (po:=3) HC 4 rfl qO (by simp only [Yas];omega) PC.out rfl o hFp 0 65536 1 qO (V:=(atP l 7 4:Int)-1) rfl).mono ?_;rintro e w6 ⟨rfl,h6,p6,u6⟩;simp only [Yal,Yap,Yam] at p6;have HB:=qH h6;have PB:=qH p6;have UB:=qH (UC.trans u6 fun _ _ h=>h);clear h6 p6 u6 s u q2 c2 f2;go_wp2_with fail;refine (Zdi (po:=4) HB (by simp only [Yas];omega) PB.out rfl o hFp 65536 (V:=(atP l 11 4:Int)-1) (by unfold atP;first | rfl | rw [Ybm])).mono ?_;rintro e w8 ⟨rfl,U,D,u8⟩;simp only [Yal,Yap,Yam] at D;have H8:=qH U;have P8:=qH D;have U8:=qH (UB.trans u8 fun _ _ h=>h);clear U D u8;go_wp2_with fail;refine (Zdi (po:=5) H8 (by simp only [Yas];omega) P8.out rfl o hFp 65536 (V:=(atP l 15 4:Int)-1) (by unfold atP;simp only [Ybm])).mono ?_;rintro e w9 ⟨rfl,q,E,u9⟩;simp only [Yal,Yap,Yam] at E;have H9:=qH q;have O:=qH E;have U9:=qH (U8.trans u9 fun _ _ h=>h);clear q E u9;go_wp2;go_end0;have P:Zey l=⟨atP l 0 2,atP l 2 1,0,(atP l 7 4:Int)-1,(atP l 11 4:Int)-1,(atP l 15 4:Int)-1⟩:=by unfold Zey;rw [Yab qO,Yab qO]
 have R:getP l=if ZbN (Zey l)=true/\atP l 3 4=0 then some (Zey l) else none:=by rw [Zrk hl];simp only [show ¬ (atP l 2 1:Int)<4 by omega,false_or]
 have d:(t || outB ((atP l 7 4:Int)-1) 0 65536 || outB ((atP l 11 4:Int)-1) (-1) 65536 || outB ((atP l 15 4:Int)-1) (-1) 65536)=(getP l).isNone:=by
  have B:outB (atP l 3 4:Int) 0 1=!decide (atP l 3 4=0):=by
   unfold outB;by_cases B:atP l 3 4=0
   · simp [B]
   simp [B];omega
  rw [R,<-a1.out,<-I.out,P,B];unfold ZbN;simp only [Zgr,show ¬ (atP l 2 1:Int)<4 by omega,if_false];generalize inP (atP l 0 2:Int) 0 200=x1;generalize inP (atP l 2 1:Int) 1 9=x2;generalize inP ((atP l 11 4:Int)-1) (-1) 65536=x3;generalize inP ((atP l 15 4:Int)-1) (-1) 65536=x4;generalize inP ((atP l 7 4:Int)-1) 0 65536=x5;by_cases B:atP l 3 4=0
  · simp only [B,decide_true,and_true];cases x1 <;> cases x2 <;> cases x3 <;> cases x4 <;> cases x5 <;> rfl
  simp [B]
 have q:=H9.out;rw [d] at q;refine ⟨rfl,_,q,fun x a=>?_,⟨_,O⟩,U9⟩;rw [R] at a;split at a
 · rw [<- Yax a,P];simp only [P1.cells];exact O
 cases a
end
end Go.Proofs.YtmkjfhnlnhceiaaGreatDoor
