/- Lemmas: walks and plain laws. -/
import Derived.Deep.CutRange
import Derived.Deep.RegionHeld3
import Derived.IntWalk
import Derived.BigRegion
import Derived.Test.YtmkjfhnlnhceiaaGreatDoorF09
set_option maxRecDepth 100000
set_option maxHeartbeats 16000000
namespace Go.Proofs.YtmkjfhnlnhceiaaGreatDoor
variable {w wx w' wr:World} {B g n c i j:Nat} {A:Option Addr} {node p:Int}
section
open Go.RowKit
abbrev OwnP (w:World) (B g n c:Nat) (l:List PR):Prop:=w.ownsRow B 53 6 (.slice (some ⟨g,0,none⟩) n c) n (l.flatMap PR.cells)
abbrev AtP (w:World) (g i:Nat) (x:PR):Prop:=w.cell? ⟨g,i*6,none⟩=some (.string x.key)/\w.cell? ⟨g,i*6+1,none⟩=some (.int .i64 x.g.kind)/\w.cell? ⟨g,i*6+2,none⟩=some (.int .i64 x.g.num)/\w.cell? ⟨g,i*6+3,none⟩=some (.string x.g.text)/\w.cell? ⟨g,i*6+4,none⟩=some (.slice x.A1 x.n1 x.c1)/\w.cell? ⟨g,i*6+5,none⟩=some (.slice x.A2 x.n2 x.c2)
abbrev FrP (w:World) (g i:Nat):Prop:=w.frozen? ⟨g,i*6,none⟩=false/\w.frozen? ⟨g,i*6+1,none⟩=false/\w.frozen? ⟨g,i*6+2,none⟩=false/\w.frozen? ⟨g,i*6+3,none⟩=false/\w.frozen? ⟨g,i*6+4,none⟩=false/\w.frozen? ⟨g,i*6+5,none⟩=false
abbrev putP (w:World) (g i:Nat) (x:PR):World:=((((((w.setCell ⟨g,i*6,none⟩ (.string x.key)).setCell ⟨g,i*6+1,none⟩ (.int .i64 x.g.kind)).setCell ⟨g,i*6+2,none⟩ (.int .i64 x.g.num)).setCell ⟨g,i*6+3,none⟩ (.string x.g.text)).setCell ⟨g,i*6+4,none⟩ (.slice x.A1 x.n1 x.c1)).setCell ⟨g,i*6+5,none⟩ (.slice x.A2 x.n2 x.c2))
theorem OwnP.at_ {l:List PR} {x:PR} (h:OwnP w B g n c l) (hx:l[i]?=some x):i<n/\g<w.heap.size/\AtP w g i x/\FrP w g i:=by obtain ⟨d,e,a,b⟩:=mQ h yI qO hx;exact ⟨d,e,⟨a 0 _ rfl,a 1 _ rfl,a 2 _ rfl,a 3 _ rfl,a 4 _ rfl,a 5 _ rfl⟩,b _,b _,b _,b _,b _,b _⟩
theorem OwnP.len {l:List PR} (h:OwnP w B g n c l):l.length=n:=QG h yI qO
theorem OwnP.put2 {l l':List PR} (h:OwnP w B g n c l) (hi:i<n) (hj:j<n) (x y:PR) (he:(l.set i x).set j y=l'):
 OwnP (putP (putP w g i x) g j y).drew B g n c l'/\Upd (fun b=>b=g) w (putP (putP w g i x) g j y).drew:=ZtU h yI qO hi hj x y he
theorem xT {x y:PR} (h:Hid (AtP w g i x)) (h':Hid (AtP w g j y)) (hg:g<w.heap.size) (hs:Same w wx):Same w wx/\AtP wx g i x/\AtP wx g j y:=by have a:∀ o,wx.cell? ⟨g,o,none⟩=w.cell? ⟨g,o,none⟩:=fun o=>hs.cell (p:=⟨g,o,none⟩) hg fun f=>f;obtain ⟨b,c,d,e,k,l⟩:=h.out;obtain ⟨m,n,q,r,s,t⟩:=h'.out;exact ⟨hs,⟨(a _).trans b,(a _).trans c,(a _).trans d,(a _).trans e,(a _).trans k,(a _).trans l⟩,(a _).trans m,(a _).trans n,(a _).trans q,(a _).trans r,(a _).trans s,(a _).trans t⟩
theorem vX (h:Hid (FrP w g i)) (hg:g<w.heap.size) (hs:Same w wx):FrP wx g i:=by have a:∀ o,wx.frozen? ⟨g,o,none⟩=w.frozen? ⟨g,o,none⟩:=fun o=>hs.frozen (p:=⟨g,o,none⟩) hg fun f=>f;obtain ⟨b,c,d,e,j,k⟩:=h.out;exact ⟨(a _).trans b,(a _).trans c,(a _).trans d,(a _).trans e,(a _).trans j,(a _).trans k⟩
theorem OwnP.same {l:List PR} (h:OwnP w B g n c l) (hs:Same w w'):OwnP w' B g n c l:=mA h hs
def bO (B g n c:Nat) (p s q:List PR) (w w':World):Prop :=
 ∃ s':List PR,OwnP w' B g n c (p++(s'++q))/\XA ltS PR.key s'/\zB PR.key s' s/\Upd (fun b=>b=g) w w'
theorem insP {a b:Nat} {p s q:List PR} (w:World) (h:OwnP w B g n c (p++(s++q))) (hn:n<=35184372088832) (ha:p.length=a) (hb:a+s.length=b):
 Calls Tryz.prog 228 #[.slice (some ⟨g,0,none⟩) n c,.int .i64 a,.int .i64 b,.func (.func 177) #[] #[]] w fun e w'=>e=.returned (.tuple #[])/\bO B g n c p s q w w':=by
 have N:=h.len;have af:b<=n:=by rw [<- N];simp;omega
 have ag:a<=b:=qO;have HO:=qH h;have L:=qH (And.intro ha hb);clear h N ha hb;go_enter Tryz.func228,Tryz.ntmps228;go_wp2_with fail;go_loopg [8] (b-a) (fun gh s8 wr=>∃ (i:Nat) (I:List PR),a+1<=i/\b+1-i=gh/\(i=a+1\/i<=b)/\s8=.int .i64 i/\Hid (OwnP wr B g n c (p++(I++(s.drop (i-a)++q))))/\Hid (XA ltS PR.key I)/\Hid (zB PR.key I (s.take (i-a)))/\Hid (Upd (fun b=>b=g) w wr))
 case atStart =>
  refine ⟨a+1,s.take 1,lA _,qO,.inl rfl,rfl,qH ?_,qH ?_,qH ?_,qH (eA _ _)⟩
  · rw [IL,<-vA (s.take 1),tF];exact HO
  · cases s with
    | nil=>exact XA.nil
    | cons x l=>exact XA.one x
  rw [IL];exact pJ _
 obtain ⟨i,I,bd,rfl,ac,rfl,KO,KS,KM,KU⟩:=hrel;by_cases ah:i<b
 · obtain ⟨wo,rfl⟩:=qy wr;obtain ⟨x,hx⟩:∃ x,s[i-a]?=some x:=⟨_,FA (qt L.2)⟩
   have O:s.drop (i-a)=x::s.drop (i+1-a):=by obtain ⟨f,M⟩:=IA.1 hx;rw [kE f,M];congr 2;omega
   have R:s.take (i+1-a)=s.take (i-a)++[x]:=by rw [show i+1-a=i-a+1 from qO,eD,hx];rfl
   have S:=qH (And.intro O R);have T:I.length=i-a:=by have f:=KM.length;have M:=L.2;rw [RB] at f;omega
   have U:=qH T;clear hx O R T;go_wp2_with fail;go_loopg [9] i (fun gh s9 v=>∃ (j:Nat) (P1 o:List PR),a<=j/\j<=i/\j=gh/\s9=.int .i64 j/\Hid (a+P1.length=j/\P1.length+o.length=i-a)/\Hid (OwnP v B g n c ((p++P1)++x::(o++(s.drop (i+1-a)++q))))/\Hid (XA ltS PR.key (P1++o))/\Hid (∀ y∈o,ltS (PR.key x) (PR.key y))/\Hid (zB PR.key (P1++o) (s.take (i-a)))/\Hid (Upd (fun b=>b=g) w v))
   case atStart =>
    refine ⟨i,I,[],qO,lA _,rfl,rfl,qH ⟨qh U,by have:=U.out;simp;omega⟩,qH ?_,qH (by rw [ZC];exact KS),qH qS,qH (by rw [ZC];exact KM),KU⟩;have f:=KO.out;rw [S.1] at f;simpa only [vA,SB,EB] using f
   obtain ⟨j,P1,o,bf,bg,rfl,rfl,JL,JO,JS,JG,JM,JU⟩:=hrel;have t:(∀ y∈P1,Nlt ltS (PR.key x) (PR.key y))->XA ltS PR.key (P1++x::o)/\zB PR.key (P1++x::o) (s.take (i+1-a)):=fun hh=>by rw [S.2];exact ZwA QD JS JM hh JG
   have V:=qH t;clear t;by_cases a6:j=a
   · subst a6;have ai:decide (j<j)=false:=LB qO;go_upto_region 4 with fail;go_quiet (fail);go_wp2;go_roundg (b+1-(i+1))
     case measure=>omega
     have hP:P1=[]:=CG (qh JL);obtain ⟨Y,Z⟩:=V.out (by rw [hP];simp);refine ⟨i+1,P1++x::o,qO,rfl,.inr qO,qN,qH ?_,qH Y,qH Z,qH (JU.drewN _)⟩;have f:=fun m=>JO.same ((iA _).drewN m);simpa only [vA,EB] using f _
   obtain ⟨r,hr⟩:∃ r,r+1=j:=⟨j-1,qO⟩
   obtain ⟨P,y,rfl⟩:∃ P y,P1=P++[y]:=by have f:=JL.1;exact ⟨P1.dropLast,P1.getLast (by rintro rfl;simp at f;omega),(List.dropLast_concat_getLast _).symm⟩
   have hO:OwnP wr B g n c ((p++P)++y::([]++x::(o++(s.drop (i+1-a)++q)))):=by have f:=JO.out;simpa only [vA,EB,SB] using f
   have A:(p++P).length=r:=by have f:=JL.1;have M:=L.1;simp at f ⊢;omega
   have D:r+1+([]:List PR).length=j:=by simpa using hr
   obtain ⟨ad,hg,a0,a1⟩:=hO.at_ (aO _ _ _ A);obtain ⟨ae,_,a2,a3⟩:=hO.at_ (Zwz _ _ _ _ _ A D);have aj:IntKind.i64.wrap ((j:Int)-1)=(r:Int):=qw;have ak:(0:Int)<=(j:Int):=qO;have al:(j:Int)<(n:Int):=qO;have am:(0:Int)<=(r:Int):=qO;have an:(r:Int)<(n:Int):=qO;have ao:decide (a<j)=true:=kC qO;have HO:=qH hO;have E:=qH (And.intro A D);have F:=qH a2;have G:=qH a0;have a7:=qH a3;have a8:=qH a1;have d:=qH hr;clear a2 a0 a3 a1 hO A D hr;obtain ⟨cc,u⟩:=qx (cmpS (PR.key x) (PR.key y));have HC:=qH u;by_cases k:ltS (PR.key x) (PR.key y)
   · have H:=qH k;have a9:decide (cc<0)=true:=kC (by rw [<- u];exact (tX _ _).2 k);clear u k;go_upto_region 4 with fail;have aa:Same wr wr.drew:=(eA _ wr).drew;go_region_held3 (fun v=>Same wr v/\AtP v g j x/\AtP v g r y) (exact xT F G hg qA) (first
      | (go_at_call 177;refine (uX _ _ _ _ _ _ _ _ _ _ _ _ wr _ HC qA).mono ?_;rintro e w' ⟨rfl,C⟩))
     all_goals
      obtain ⟨_,a4,a5⟩:=xT F G hg C;have W:=vX a7 hg C;have X:=vX a8 hg C;go_upto_region 6 with fail;have ap:¬ r*6=j*6+1:=qh d;have aq:¬ r*6+1=j*6:=qh d;have ar:¬ j*6=r*6+1:=qh d;have au:¬ j*6+1=r*6:=qh d;have av:¬ r*6=j*6+2:=qh d;have aw:¬ r*6+2=j*6:=qh d;have ax:¬ j*6=r*6+2:=qh d;have ay:¬ j*6+2=r*6:=qh d;have az:¬ r*6=j*6+3:=qh d;have b0:¬ r*6+3=j*6:=qh d;have b1:¬ j*6=r*6+3:=qh d;have b2:¬ j*6+3=r*6:=qh d;have b3:¬ r*6=j*6+4:=qh d;have b4:¬ r*6+4=j*6:=qh d;have b5:¬ j*6=r*6+4:=qh d;have b6:¬ j*6+4=r*6:=qh d;have b7:¬ r*6=j*6+5:=qh d;have b8:¬ r*6+5=j*6:=qh d;have b9:¬ j*6=r*6+5:=qh d;have ba:¬ j*6+5=r*6:=qh d;have bb:¬ r=j:=qh d;have bc:¬ j=r:=qh d;obtain ⟨c0,c1,c2,c3,c4,c5⟩:=a4;obtain ⟨d0,Y,Z,d3,d4,d5⟩:=a5;obtain ⟨f0,f1,f2,f3,f4,f5⟩:=W;obtain ⟨e0,e1,e2,e3,e4,e5⟩:=X
      go_big_region
      all_goals
       clear c0 c1 c2 c3 c4 c5 d0 Y Z d3 d4 d5 f0 f1 f2 f3 f4 f5 e0 e1 e2 e3 e4 e5;go_wp2;go_roundg r
       case measure=>have:=d.out;omega
       have f:=HO.same C;obtain ⟨s1,s2⟩:=f.put2 ae ad y x (ZtT _ _ _ _ _ E.1 E.2);have h3:=JL.out;refine ⟨r,P,y::o,qh d,qh d,rfl,rfl,qH ⟨by have h5:=E.1;have h6:=L.1;rw [kA] at h5;omega,by simp at h3 ⊢;omega⟩,qH ?_,qH (by have:=JS.out;rwa [vA] at this),qH ?_,qH (by have:=JM.out;rwa [vA] at this),qH ((JU.same C).trans s2 qf)⟩
       · simpa only [vA,SB,EB] using s1
       intro z hz;rcases TA.1 hz with rfl | hz
       · exact H
       exact JG z hz
   have H:=qH (show Nlt ltS (PR.key x) (PR.key y) from k);have a9:decide (cc<0)=false:=LB (by rw [<- u];exact fun h=>k ((tX _ _).1 h));clear u k;go_upto_region 4 with fail;have aa:Same wr wr.drew:=(eA _ wr).drew;go_region_held3 (fun v=>Same wr v/\AtP v g j x/\AtP v g r y) (exact xT F G hg qA) (first
    | (go_at_call 177;refine (uX _ _ _ _ _ _ _ _ _ _ _ _ wr _ HC qA).mono ?_;rintro e w' ⟨rfl,C⟩))
   all_goals
    go_wp2;go_roundg (b+1-(i+1))
    case measure=>omega
    obtain ⟨Y,Z⟩:=V.out (fun z hz=>by have h4:=JS.of_app.1.last_le QD z hz;exact QD.le_tr h4 H.out)
    refine ⟨i+1,(P++[y])++x::o,qO,rfl,.inr qO,qN,qH ?_,qH Y,qH Z,qH (JU.same C)⟩;have f:=JO.same C;simpa only [vA,EB] using f
 have HF:Hid (bO B g n c p s q w wr):=qH (by have hd:s.drop (i-a)=[]:=BC (qt L.2);have ab:s.take (i-a)=s:=cB (qt L.2);have f:=KO.out;have M:=KM.out;rw [hd,SB] at f;rw [ab] at M;exact ⟨I,f,KS,M,KU⟩)
 clear ac;go_wp2;go_end0;exact ⟨rfl,HF⟩
theorem stcP {l:List PR} (w:World) (h:OwnP w B g n c l) (hn:n<20):
 Calls Tryz.prog 209 #[.slice (some ⟨g,0,none⟩) n c,.int .i64 n,.func (.func 177) #[] #[]] w fun e w'=>e=.returned (.tuple #[])/\bO B g n c [] l [] w w':=by
 have t:=qH h.len;have u:=qH h;have v:¬ (20:Int)<=(n:Int):=qO;have y:¬ (20:Int)<(n:Int):=qO;clear h;go_enter Tryz.func209,Tryz.ntmps209;go_wp2_with fail;go_loopg [7,8] 1 (fun f i j wr=>1=f/\i=.int .i64 ((0:Nat):Int)/\j=.int .i64 20/\Hid (OwnP wr B g n c ([]++(l++[])))/\Hid (Upd (fun b=>b=g) w wr))
 case atStart=>exact ⟨rfl,rfl,rfl,qH (by rw [ZC];exact u),qH (eA _ _)⟩
 obtain ⟨_,rfl,rfl,z,A⟩:=hrel;go_wp2_with fail;refine (insP (a:=0) (p:=[]) (s:=l) (q:=[]) _ z qO rfl (by rw [t.out];omega)).mono ?_;rintro x C ⟨rfl,D,k,m,o,r⟩;have d:Hid (bO B g n c [] l [] w C):=qH ⟨D,k,m,o,A.trans r qf⟩;clear k m o r;go_wp2_with fail;go_loopg [6,7,8,9] 1 (fun f E i j G F=>1=f/\E=.int .i64 20/\Hid (bO B g n c [] l [] w F))
 case atStart=>exact ⟨rfl,rfl,d⟩
 clear d;obtain ⟨_,rfl,d⟩:=hrel;go_wp2;go_end0;exact ⟨rfl,d⟩
theorem Zvw {l:List PR} (w:World) (h:w.ownsRow B 53 6 (.slice A n c) n (l.flatMap PR.cells)) (hn:n<20):
 Calls Tryz.prog 176 #[.slice A n c,.func (.func 177) #[] #[]] w fun e w'=>e=.returned (.tuple #[]) /\
  ∃ s:List PR,w'.ownsRow B 53 6 (.slice A n c) n (s.flatMap PR.cells)/\XA ltS PR.key s/\zB PR.key s l/\Upd (fun b=>(Value.slice A n c).ownBlock=some b) w w':=by
 rcases h.2 with ⟨j,o⟩ | ⟨g,p,q,j,_⟩
 · refine (Zmu w A n c _ qO).mono ?_;rintro e w' ⟨rfl,rfl⟩;have i:=QG h yI qO;rw [o] at i;exact ⟨rfl,l,h,by rw [CG i];exact XA.nil,pJ _,eA _ _⟩
 injection j with a f d
 subst a d;have m:=qH h;clear h;go_enter Tryz.func176,Tryz.ntmps176;go_wp2_with fail;refine (stcP _ m hn).mono ?_;rintro e t ⟨rfl,s,a,f,d,k⟩;rw [SB,ZC] at a;have H:=qH (And.intro a (And.intro f (And.intro d (k.mono (S':=fun b=>(Value.slice (some ⟨g,0,none⟩) n c).ownBlock=some b) fun b _ r=>by rw [r];rfl))));clear a f d k;go_wp2;go_end0;exact ⟨rfl,s,H⟩
theorem XA.at2 {α κ:Type} {lt:κ->κ->Prop} {key:α->κ} {l:List α} (h:XA lt key l) {x y:α} (c:i<j) (hx:l[i]?=some x) (hy:l[j]?=some y):¬ lt (key y) (key x):=by obtain ⟨a,rfl⟩:=IA.1 hx;obtain ⟨b,rfl⟩:=IA.1 hy;exact WM.1 h i j a b c
abbrev OwnN (w:World) (B g n c:Nat) (l:List ND):Prop:=w.ownsRow B 56 3 (.slice (some ⟨g,0,none⟩) n c) n (l.flatMap ND.cells)
abbrev AtN (w:World) (g i:Nat) (x:ND):Prop:=w.cell? ⟨g,i*3,none⟩=some (.int .i64 x.id)/\w.cell? ⟨g,i*3+1,none⟩=some (.slice x.AL x.nL x.cL)/\w.cell? ⟨g,i*3+2,none⟩=some (.slice x.AP x.nP x.cP)
abbrev FrN (w:World) (g i:Nat):Prop:=w.frozen? ⟨g,i*3,none⟩=false/\w.frozen? ⟨g,i*3+1,none⟩=false/\w.frozen? ⟨g,i*3+2,none⟩=false
theorem OwnN.at_ {l:List ND} {x:ND} (h:OwnN w B g n c l) (hx:l[i]?=some x):i<n/\g<w.heap.size/\AtN w g i x/\FrN w g i:=by obtain ⟨d,e,a,b⟩:=mQ h RJ qO hx;exact ⟨d,e,⟨a 0 _ rfl,a 1 _ rfl,a 2 _ rfl⟩,b _,b _,b _⟩
theorem OwnN.len {l:List ND} (h:OwnN w B g n c l):l.length=n:=QG h RJ qO
theorem qQ {x y:ND} (h:Hid (AtN w g i x)) (h':Hid (AtN w g j y)) (hg:g<w.heap.size) (hs:Same w wx):Same w wx/\AtN wx g i x/\AtN wx g j y:=by have a:∀ o,wx.cell? ⟨g,o,none⟩=w.cell? ⟨g,o,none⟩:=fun o=>hs.cell (p:=⟨g,o,none⟩) hg fun f=>f;obtain ⟨b,c,d⟩:=h.out;obtain ⟨e,k,l⟩:=h'.out;exact ⟨hs,⟨(a _).trans b,(a _).trans c,(a _).trans d⟩,(a _).trans e,(a _).trans k,(a _).trans l⟩
theorem OwnN.same {l:List ND} (h:OwnN w B g n c l) (hs:Same w w'):OwnN w' B g n c l:=mA h hs
theorem twoN {l:List ND} (h:OwnN w B g n c l) (hs:XA (fun a b:Int=>a<b) ND.id l) (hS:Same w wr) (q:i<j) (hj:j<n):
 ∃ (x y:ND) (cc:Int),g<wr.heap.size/\Hid (AtN wr g i x)/\Hid (AtN wr g j y)/\Hid (cmpI (ND.id y) (ND.id x)=cc)/\decide (cc<0)=false:=by
 have p:=h.len;have d:=h.same hS;obtain ⟨x,e⟩:∃ x,l[i]?=some x:=⟨_,FA qO⟩
 obtain ⟨y,f⟩:∃ y,l[j]?=some y:=⟨_,FA qO⟩
 obtain ⟨_,k,m,_⟩:=d.at_ e;obtain ⟨_,_,o,_⟩:=d.at_ f;exact ⟨x,y,_,k,qH m,qH o,qH rfl,LB (mt (qX _ _).1 (hs.at2 q e f))⟩
theorem insN {a b:Nat} {l:List ND} (w:World) (h:OwnN w B g n c l) (hn:n<=35184372088832) (hs:XA (fun a b:Int=>a<b) ND.id l) (O:a<=b) (hb:b<=n):
 Calls Tryz.prog 211 #[.slice (some ⟨g,0,none⟩) n c,.int .i64 a,.int .i64 b,.func (.func 135) #[] #[]] w fun e w'=>e=.returned (.tuple #[])/\Same w w':=by
 have o:=qH (And.intro h hs);clear h hs;go_enter Tryz.func211,Tryz.ntmps211;go_wp2_with fail;go_loopg [8] (b-a) (fun m D wr=>∃ i:Nat,a+1<=i/\b+1-i=m/\(i=a+1\/i<=b)/\D=.int .i64 i/\Hid (Same w wr))
 case atStart=>exact ⟨a+1,lA _,qO,.inl rfl,rfl,qH (eA _ _)⟩
 obtain ⟨i,f,rfl,j,rfl,d⟩:=hrel;by_cases p:i<b
 · clear j;go_wp2_with fail;go_loopg [9] i (fun m E k=>i=m/\E=.int .i64 i/\Hid (Same w k))
   case atStart=>exact ⟨rfl,rfl,d⟩
   clear d;obtain ⟨rfl,rfl,d⟩:=hrel;obtain ⟨r,F⟩:∃ r,r+1=i:=⟨i-1,qO⟩
   obtain ⟨x,y,N,G,H,I,L,M⟩:=twoN o.1 o.2 d.out (show r<i by omega) qO;have q:IntKind.i64.wrap ((i:Int)-1)=(r:Int):=qw;have s:(0:Int)<=(i:Int):=qO;have t:(i:Int)<(n:Int):=qO;have u:(0:Int)<=(r:Int):=qO;have v:(r:Int)<(n:Int):=qO;have z:decide (a<i)=true:=kC qO;have A:=qH f;clear F f;go_upto_region 4 with fail;have C:Same wr wr.drew:=(eA _ wr).drew;go_region_held3 (fun k=>Same wr k/\AtN k g r x/\AtN k g i y) (exact qQ H I G qA) (first
    | (go_at_call 135;refine (oQ _ _ _ _ _ _ wr _ L qA).mono ?_;rintro e w' ⟨rfl,hs⟩))
   all_goals
    go_wp2;go_roundg (b+1-(i+1))
    case measure=>omega
    case rel=>exact ⟨i+1,qh A,rfl,.inr qO,qN,qH (d.same hs)⟩
 clear j;go_wp2;go_end0;exact ⟨rfl,d⟩
theorem smgN {l:List ND} (hn:n<=35184372088832) (hs:XA (fun a b:Int=>a<b) ND.id l):∀ (N:Nat) {a d b:Nat} (w:World),b-a<=N->a<d->d<b->b<=n->OwnN w B g n c l ->
 Calls Tryz.prog 212 #[.slice (some ⟨g,0,none⟩) n c,.int .i64 a,.int .i64 d,.int .i64 b,.func (.func 135) #[] #[]] w fun e w'=>e=.returned (.tuple #[])/\Same w w':=by
 intro N
 induction N with
 | zero=>intro a d b w hN R S;omega
 | succ N ih =>
   intro a d b w hN R S ad h;have L:=qH (And.intro h hs);clear h;by_cases h1:d=a+1
   · have z:IntKind.i64.wrap ((d:Int)-(a:Int))=1:=qw;have A:(d:Int)-(a:Int)=1:=qO;have C:IntKind.i64.wrap ((d:Int)-1)=(a:Int):=qw;have D:(d:Int)-1=(a:Int):=qO;clear h1 hs ih;go_enter Tryz.func212,Tryz.ntmps212;go_wp2_with fail;clear z A;go_loopg [10,11] (b-d) (fun H s1 s2 wr=>∃ j:Nat,j-d=H/\d<=j/\j<=b/\s1=.int .i64 d/\s2=.int .i64 j/\Hid (Same w wr))
     case atStart=>exact ⟨b,rfl,qO,lA _,rfl,rfl,qH (eA _ _)⟩
     obtain ⟨j,rfl,an,ao,rfl,rfl,o⟩:=hrel;by_cases U:d<j
     · obtain ⟨m,p⟩:=qy ((d+j) / 2);obtain ⟨x,y,cc,hg,HX,HY,HC,a5⟩:=twoN L.1 L.2 o.out (show a<m by omega) qO;have E:((d:Int)+(j:Int)) / 2=(m:Int):=qO;have F:(0:Int)<=(d:Int)+(j:Int):=qO;have V:(0:Int)<=(m:Int):=qO;have W:(m:Int)<(n:Int):=qO;have X:(0:Int)<=(a:Int):=qO;have Y:(a:Int)<(n:Int):=qO;have Z:d<=m:=qO;have a0:m<j:=qO;clear p;go_upto_region 5 with fail;have a1:Same wr wr.drew:=(eA _ wr).drew;go_region_held3 (fun t=>Same wr t/\AtN t g a x/\AtN t g m y) (exact qQ HX HY hg qA) (first
        | (go_at_call 135;refine (oQ _ _ _ _ _ _ wr _ HC qA).mono ?_;rintro e w' ⟨rfl,hs⟩))
       all_goals
        go_wp2;go_roundg (m-d)
        case measure=>omega
        case rel=>exact ⟨m,rfl,qO,qO,rfl,rfl,qH (o.same hs)⟩
     obtain rfl:j=d:=qO;go_wp2_with fail;go_loopg [13] 1 (fun H s3 t=>1=H/\s3=.int .i64 a/\Hid (Same w t))
     case atStart=>exact ⟨rfl,rfl,o⟩
     clear o;obtain ⟨rfl,rfl,o⟩:=hrel;go_wp2;refine LD (DG rfl _ _ _) rfl ?_;exact ⟨rfl,o⟩
   have v:((d:Int)-(a:Int)==1)=false:=qP;obtain ⟨ll,a6⟩:=qy (d-a);have z:IntKind.i64.wrap ((d:Int)-(a:Int))=(ll:Int):=qw;have A:(d:Int)-(a:Int)=(ll:Int):=qO;have v:((ll:Int)==1)=false:=qP;by_cases h2:b=d+1
   · have C:IntKind.i64.wrap ((b:Int)-(d:Int))=1:=qw;have D:(b:Int)-(d:Int)=1:=qO;clear h1 h2 hs ih a6;go_enter Tryz.func212,Tryz.ntmps212;go_wp2_with fail;clear z A C D v;go_loopg [14,15] (d-a) (fun H s1 s2 wr=>∃ i:Nat,d-i=H/\a<=i/\i<=d/\s1=.int .i64 i/\s2=.int .i64 d/\Hid (Same w wr))
     case atStart=>exact ⟨a,rfl,lA _,qO,rfl,rfl,qH (eA _ _)⟩
     obtain ⟨i,rfl,ap,hid,rfl,rfl,o⟩:=hrel;by_cases U:i<d
     · obtain ⟨m,p⟩:=qy ((i+d) / 2);obtain ⟨x,y,cc,hg,HX,HY,HC,a5⟩:=twoN L.1 L.2 o.out (show m<d by omega) qO;have E:((i:Int)+(d:Int)) / 2=(m:Int):=qO;have F:(0:Int)<=(i:Int)+(d:Int):=qO;have V:(0:Int)<=(m:Int):=qO;have W:(m:Int)<(n:Int):=qO;have X:(0:Int)<=(d:Int):=qO;have Y:(d:Int)<(n:Int):=qO;have Z:i<=m:=qO;have a0:m<d:=qO;clear p;go_upto_region 17 with fail;have a1:Same wr wr.drew:=(eA _ wr).drew;go_region_held3 (fun t=>Same wr t/\AtN t g m x/\AtN t g d y) (exact qQ HX HY hg qA) (first
        | (go_at_call 135;refine (oQ _ _ _ _ _ _ wr _ HC qA).mono ?_;rintro e w' ⟨rfl,hs⟩))
       all_goals
        go_wp2;go_roundg (d-(m+1))
        case measure=>omega
        case rel=>exact ⟨m+1,rfl,qO,qO,qN,rfl,qH (o.same hs)⟩
     obtain rfl:i=d:=qO;go_wp2_with fail;go_loopg [17] 1 (fun H s3 t=>1=H/\s3=.int .i64 i/\Hid (Same w t))
     case atStart=>exact ⟨rfl,rfl,o⟩
     clear o;obtain ⟨rfl,rfl,o⟩:=hrel;go_wp2;refine LD (DG rfl _ _ _) rfl ?_;exact ⟨rfl,o⟩
   obtain ⟨rl,ae⟩:=qy (b-d);obtain ⟨f,a7⟩:=qy ((a+b) / 2);obtain ⟨q,af⟩:=qy (f+d);obtain ⟨M,ag⟩:∃ M,M+1=q:=⟨q-1,qO⟩
   obtain ⟨u,r,I⟩:∃ u r,(f<d->u+b=q/\r=f)/\(¬ f<d->u=a/\r=d):=by
    by_cases p:f<d
    · exact ⟨q-b,f,fun _=>⟨qO,rfl⟩,fun h=>absurd p h⟩
    exact ⟨a,d,fun h=>absurd h p,fun _=>⟨rfl,rfl⟩⟩
   have a8:a<=u/\u<=r/\r<=d/\d+r<=q/\q<=b+u:=by
    by_cases p:f<d
    · have:=I.1 p;omega
    have:=I.2 p;omega
   obtain ⟨aq,ah,ar,au,av⟩:=a8;have C:IntKind.i64.wrap ((b:Int)-(d:Int))=(rl:Int):=qw;have D:(b:Int)-(d:Int)=(rl:Int):=qO;have a2:((rl:Int)==1)=false:=qP;have E:((a:Int)+(b:Int)) / 2=(f:Int):=qO;have F:(0:Int)<=(a:Int)+(b:Int):=qO;have a9:IntKind.i64.wrap ((f:Int)+(d:Int))=(q:Int):=qw;have aa:(f:Int)+(d:Int)=(q:Int):=qO;have ab:IntKind.i64.wrap ((q:Int)-1)=(M:Int):=qw;have ac:(q:Int)-1=(M:Int):=qO;have a3:a<f:=qO;have al:f<b:=qO;have am:q<=2*n:=qO;have G:=qH I;have k:=qH (show q=f+d/\M+1=q/\f-a<=N/\b-f<=N by omega);clear h1 h2 a6 ae a7 af ag I hs;go_enter Tryz.func212,Tryz.ntmps212;go_upto_if 140 with fail;go_cut [20,21] (fun ai aj t=>ai=.int .i64 u/\aj=.int .i64 r/\t=w)
   case first =>
    by_cases p:f<d
    · have h9:=G.1 p;have O:IntKind.i64.wrap ((q:Int)-(b:Int))=(u:Int):=qw;have a4:(q:Int)-(b:Int)=(u:Int):=qO;obtain rfl:r=f:=h9.2;clear h9;go_wp2;go_meet;exact ⟨rfl,rfl,rfl⟩
    have h9:=G.2 p;obtain ⟨rfl,rfl⟩:=h9;go_wp2;go_meet;exact ⟨rfl,rfl,rfl⟩
   obtain ⟨rfl,rfl,rfl⟩:=hcut;clear z A v C D a2 E F a9 aa;obtain ⟨w1,rfl⟩:=qy wc;go_wp2_with fail;clear ab ac;go_loopg [20,21] (r-u) (fun H s1 s2 wr=>∃ s:Nat,r-s=H/\u<=s/\s<=r/\s1=.int .i64 s/\s2=.int .i64 r/\Hid (Same w1 wr))
   case atStart=>exact ⟨u,rfl,lA _,ah,rfl,rfl,qH (eA _ _)⟩
   obtain ⟨s,rfl,aw,ax,rfl,rfl,o⟩:=hrel;by_cases U:s<r
   · obtain ⟨m,p⟩:=qy ((s+r) / 2);obtain ⟨T,ak⟩:∃ T,T+m=M:=⟨M-m,qh k⟩
     obtain ⟨x,y,cc,hg,HX,HY,HC,a5⟩:=twoN L.1 L.2 o.out (show m<T by have:=k.out;omega) (qh k);have E:((s:Int)+(r:Int)) / 2=(m:Int):=qO;have F:(0:Int)<=(s:Int)+(r:Int):=qO;have V:(0:Int)<=(m:Int):=qO;have W:(m:Int)<(n:Int):=qO;have O:IntKind.i64.wrap ((M:Int)-(m:Int))=(T:Int):=by rw [kF _ ⟨qO,qh k⟩];omega
     have X:(0:Int)<=(T:Int):=qO;have Y:(T:Int)<(n:Int):=qh k;have Z:s<=m:=qO;have a0:m<r:=qO;clear p ak;go_upto_region 35 with fail;have a1:Same wr wr.drew:=(eA _ wr).drew;go_region_held3 (fun t=>Same wr t/\AtN t g m x/\AtN t g T y) (exact qQ HX HY hg qA) (first
      | (go_at_call 135;refine (oQ _ _ _ _ _ _ wr _ HC qA).mono ?_;rintro e w' ⟨rfl,hs⟩))
     all_goals
      go_wp2;go_roundg (r-(m+1))
      case measure=>omega
      case rel=>exact ⟨m+1,rfl,qO,qO,qN,rfl,qH (o.same hs)⟩
   obtain rfl:s=r:=qO;by_cases p:f<d
   · obtain rfl:s=f:=(G.1 p).2;have O:IntKind.i64.wrap ((q:Int)-(s:Int))=(d:Int):=by have:=k.out;rw [kF _ ⟨qO,qO⟩];omega
     have a4:(q:Int)-(s:Int)=(d:Int):=qh k;have d1:decide (s<d)=true:=kC p;have d2:decide (a<s)=true:=kC a3;have d3:decide (d<b)=true:=kC S;go_wp2_with fail;refine (ih _ k.2.2.2 p S ad (L.1.same o)).mono ?_;rintro e w5 ⟨rfl,h5⟩;have H5:=qH (o.same h5);clear h5;go_wp2;go_end0;exact ⟨rfl,H5⟩
   obtain rfl:s=d:=(G.2 p).2;have O:IntKind.i64.wrap ((q:Int)-(s:Int))=(f:Int):=by have:=k.out;rw [kF _ ⟨qO,qO⟩];omega
   have a4:(q:Int)-(s:Int)=(f:Int):=qh k;have d1:decide (a<s)=true:=kC R;by_cases P:s<f
   · have d2:decide (s<f)=true:=kC P;go_wp2_with fail;refine (ih _ k.2.2.1 R P qO (L.1.same o)).mono ?_;rintro e w5 ⟨rfl,h5⟩;have H5:=qH (o.same h5);clear h5;go_wp2;go_end0;exact ⟨rfl,H5⟩
   have d2:decide (s<f)=false:=LB P;go_wp2;go_end0;exact ⟨rfl,o⟩
theorem stcN {l:List ND} (w:World) (h:OwnN w B g n c l) (hn:n<=35184372088832) (hs:XA (fun a b:Int=>a<b) ND.id l):
 Calls Tryz.prog 179 #[.slice (some ⟨g,0,none⟩) n c,.int .i64 n,.func (.func 135) #[] #[]] w fun e w'=>e=.returned (.tuple #[])/\Same w w':=by
 have D:=qH h;have E:=qH hs;clear h hs;go_enter Tryz.func179,Tryz.ntmps179;go_wp2_with fail;go_loopg [7,8] n (fun v G H wr=>∃ a b:Nat,n-a=v/\a<=n/\b=a+20/\G=.int .i64 a/\H=.int .i64 b/\Hid (Same w wr))
 case atStart=>exact ⟨0,20,rfl,oA _,rfl,rfl,rfl,qH (eA _ _)⟩
 obtain ⟨a,b,rfl,y,z,rfl,rfl,i⟩:=hrel;obtain ⟨p,j⟩:=qy (b+20);have r:IntKind.i64.wrap ((b:Int)+20)=(p:Int):=qw;have s:(b:Int)+20=(p:Int):=qO;have q:=qH (And.intro z j);have t:a<=b:=qO;have I:b<p:=qO;clear z j;by_cases k:b<=n
 · go_wp2_with fail;refine (insN _ (D.same i) hn E t k).mono ?_;rintro x w2 ⟨rfl,A⟩;have F:=qH (i.same A);clear A;go_wp2;go_roundg (n-b)
   case measure=>have:=q.out;omega
   case rel=>exact ⟨b,p,rfl,k,qh q,rfl,by first | rfl | go_num,F⟩
 go_wp2_with fail;refine (insN _ (D.same i) hn E y (lA _)).mono ?_;rintro x w2 ⟨rfl,A⟩;have F:=qH (i.same A);clear A r s t I i q k;go_wp2_with fail;go_loopg [6,7,8,9] (n-20) (fun v s6 G H s9 O=>∃ d:Nat,n-d=v/\0<d/\d<=2*n+20/\s6=.int .i64 d/\Hid (Same w O))
 case atStart=>exact ⟨20,rfl,qO,qO,rfl,F⟩
 clear F;obtain ⟨d,rfl,a1,U,rfl,P⟩:=hrel;by_cases k:d<n
 · obtain ⟨wo,rfl⟩:=qy wr;obtain ⟨f,R⟩:=qy (2*d);have r:IntKind.i64.wrap (2*(d:Int))=(f:Int):=qw;have s:2*(d:Int)=(f:Int):=qO;have V:IntKind.i64.wrap ((d:Int)*2)=(f:Int):=qw;have W:(d:Int)*2=(f:Int):=qO;have S:d<f:=qO;have T:f<=2*n:=qO;clear R;go_wp2_with fail;go_loopg [7,8] n (fun v G H O=>∃ a b:Nat,n-a=v/\a<=n/\b=a+f/\G=.int .i64 a/\H=.int .i64 b/\Hid (Same w O))
   case atStart=>exact ⟨0,f,rfl,oA _,qO,rfl,rfl,P⟩
   clear P;obtain ⟨a,b,rfl,y,z,rfl,rfl,i⟩:=hrel;obtain ⟨p,j⟩:=qy (b+f);obtain ⟨m,N⟩:=qy (a+d);have X:IntKind.i64.wrap ((b:Int)+(f:Int))=(p:Int):=qw;have Y:(b:Int)+(f:Int)=(p:Int):=qO;have Z:IntKind.i64.wrap ((a:Int)+(d:Int))=(m:Int):=qw;have a0:(a:Int)+(d:Int)=(m:Int):=qO;have u:a<m:=qO;have L:m<b:=qO;have q:=qH (And.intro z j);clear z j N;by_cases o:b<=n
   · go_wp2_with fail;refine (smgN hn E _ _ (lA _) u L o (D.same i)).mono ?_;rintro x w3 ⟨rfl,C⟩;have M:=qH (i.same C);clear C;go_wp2;go_roundg (n-b)
     case measure=>have:=q.out;omega
     case rel=>exact ⟨b,p,rfl,o,qh q,rfl,by first | rfl | go_num,M⟩
   by_cases N:m<n
   · go_wp2_with fail;refine (smgN hn E _ _ (lA _) u N (lA _) (D.same i)).mono ?_;rintro x w3 ⟨rfl,C⟩;have M:=qH (i.same C);clear C;go_wp2;go_roundg (n-f)
     case measure=>omega
     case rel=>exact ⟨f,rfl,qO,qO,by first | rfl | go_num,M⟩
   go_wp2;go_roundg (n-f)
   case measure=>omega
   case rel=>exact ⟨f,rfl,qO,qO,by first | rfl | go_num,i⟩
 go_wp2;go_end0;exact ⟨rfl,P⟩
theorem Zvx {l:List ND} (w:World) (h:w.ownsRow B 56 3 (.slice A n c) n (l.flatMap ND.cells)) (hn:n<=35184372088832) (hs:XA (fun a b:Int=>a<b) ND.id l):
 Calls Tryz.prog 134 #[.slice A n c,.func (.func 135) #[] #[]] w fun e w'=>e=.returned (.tuple #[])/\Same w w':=by
 rcases h.2 with ⟨f,o⟩ | ⟨g,k,m,f,_⟩
 · refine (Zmt w A n c _ qO).mono ?_;rintro e w' ⟨rfl,rfl⟩;exact ⟨rfl,eA _ _⟩
 injection f with d h2 h3
 subst d h3;have i:=qH h;have j:=qH hs;clear h hs;go_enter Tryz.func134,Tryz.ntmps134;go_wp2_with fail;refine (stcN _ i hn j).mono ?_;rintro e p ⟨rfl,d⟩;have H:=qH d;clear d;go_wp2;go_end0;exact ⟨rfl,H⟩
abbrev OwnR (w:World) (B g n c:Nat) (l:List RL):Prop:=w.ownsRow B 60 5 (.slice (some ⟨g,0,none⟩) n c) n (l.flatMap RL.cells)
abbrev AtR (w:World) (g i:Nat) (x:RL):Prop:=w.cell? ⟨g,i*5,none⟩=some (.int .i64 x.id)/\w.cell? ⟨g,i*5+1,none⟩=some (.string x.type)/\w.cell? ⟨g,i*5+2,none⟩=some (.int .i64 x.src)/\w.cell? ⟨g,i*5+3,none⟩=some (.int .i64 x.dst)/\w.cell? ⟨g,i*5+4,none⟩=some (.slice x.AP x.nP x.cP)
abbrev FrR (w:World) (g i:Nat):Prop:=w.frozen? ⟨g,i*5,none⟩=false/\w.frozen? ⟨g,i*5+1,none⟩=false/\w.frozen? ⟨g,i*5+2,none⟩=false/\w.frozen? ⟨g,i*5+3,none⟩=false/\w.frozen? ⟨g,i*5+4,none⟩=false
theorem OwnR.at_ {l:List RL} {x:RL} (h:OwnR w B g n c l) (hx:l[i]?=some x):i<n/\g<w.heap.size/\AtR w g i x/\FrR w g i:=by obtain ⟨d,e,a,b⟩:=mQ h LK qO hx;exact ⟨d,e,⟨a 0 _ rfl,a 1 _ rfl,a 2 _ rfl,a 3 _ rfl,a 4 _ rfl⟩,b _,b _,b _,b _,b _⟩
theorem OwnR.len {l:List RL} (h:OwnR w B g n c l):l.length=n:=QG h LK qO
theorem rQ {x y:RL} (h:Hid (AtR w g i x)) (h':Hid (AtR w g j y)) (hg:g<w.heap.size) (hs:Same w wx):Same w wx/\AtR wx g i x/\AtR wx g j y:=by have a:∀ o,wx.cell? ⟨g,o,none⟩=w.cell? ⟨g,o,none⟩:=fun o=>hs.cell (p:=⟨g,o,none⟩) hg fun f=>f;obtain ⟨b,c,d,e,k⟩:=h.out;obtain ⟨l,m,n,q,r⟩:=h'.out;exact ⟨hs,⟨(a _).trans b,(a _).trans c,(a _).trans d,(a _).trans e,(a _).trans k⟩,(a _).trans l,(a _).trans m,(a _).trans n,(a _).trans q,(a _).trans r⟩
theorem OwnR.same {l:List RL} (h:OwnR w B g n c l) (hs:Same w w'):OwnR w' B g n c l:=mA h hs
theorem twoR {l:List RL} (h:OwnR w B g n c l) (hs:XA (fun a b:Int=>a<b) RL.id l) (hS:Same w wr) (q:i<j) (hj:j<n):
 ∃ (x y:RL) (cc:Int),g<wr.heap.size/\Hid (AtR wr g i x)/\Hid (AtR wr g j y)/\Hid (cmpI (RL.id y) (RL.id x)=cc)/\decide (cc<0)=false:=by
 have p:=h.len;have d:=h.same hS;obtain ⟨x,e⟩:∃ x,l[i]?=some x:=⟨_,FA qO⟩
 obtain ⟨y,f⟩:∃ y,l[j]?=some y:=⟨_,FA qO⟩
 obtain ⟨_,k,m,_⟩:=d.at_ e;obtain ⟨_,_,o,_⟩:=d.at_ f;exact ⟨x,y,_,k,qH m,qH o,qH rfl,LB (mt (qX _ _).1 (hs.at2 q e f))⟩
theorem insR {a b:Nat} {l:List RL} (w:World) (h:OwnR w B g n c l) (hn:n<=35184372088832) (hs:XA (fun a b:Int=>a<b) RL.id l) (O:a<=b) (hb:b<=n):
 Calls Tryz.prog 213 #[.slice (some ⟨g,0,none⟩) n c,.int .i64 a,.int .i64 b,.func (.func 138) #[] #[]] w fun e w'=>e=.returned (.tuple #[])/\Same w w':=by
 have o:=qH (And.intro h hs);clear h hs;go_enter Tryz.func213,Tryz.ntmps213;go_wp2_with fail;go_loopg [8] (b-a) (fun m D wr=>∃ i:Nat,a+1<=i/\b+1-i=m/\(i=a+1\/i<=b)/\D=.int .i64 i/\Hid (Same w wr))
 case atStart=>exact ⟨a+1,lA _,qO,.inl rfl,rfl,qH (eA _ _)⟩
 obtain ⟨i,f,rfl,j,rfl,d⟩:=hrel;by_cases p:i<b
 · clear j;go_wp2_with fail;go_loopg [9] i (fun m E k=>i=m/\E=.int .i64 i/\Hid (Same w k))
   case atStart=>exact ⟨rfl,rfl,d⟩
   clear d;obtain ⟨rfl,rfl,d⟩:=hrel;obtain ⟨r,F⟩:∃ r,r+1=i:=⟨i-1,qO⟩
   obtain ⟨x,y,N,G,H,I,L,M⟩:=twoR o.1 o.2 d.out (show r<i by omega) qO;have q:IntKind.i64.wrap ((i:Int)-1)=(r:Int):=qw;have s:(0:Int)<=(i:Int):=qO;have t:(i:Int)<(n:Int):=qO;have u:(0:Int)<=(r:Int):=qO;have v:(r:Int)<(n:Int):=qO;have z:decide (a<i)=true:=kC qO;have A:=qH f;clear F f;go_upto_region 4 with fail;have C:Same wr wr.drew:=(eA _ wr).drew;go_region_held3 (fun k=>Same wr k/\AtR k g r x/\AtR k g i y) (exact rQ H I G qA) (first
    | (go_at_call 138;refine (pQ _ _ _ _ _ _ _ _ _ _ wr _ L qA).mono ?_;rintro e w' ⟨rfl,hs⟩))
   all_goals
    go_wp2;go_roundg (b+1-(i+1))
    case measure=>omega
    case rel=>exact ⟨i+1,qh A,rfl,.inr qO,qN,qH (d.same hs)⟩
 clear j;go_wp2;go_end0;exact ⟨rfl,d⟩
theorem smgR {l:List RL} (hn:n<=35184372088832) (hs:XA (fun a b:Int=>a<b) RL.id l):∀ (N:Nat) {a d b:Nat} (w:World),b-a<=N->a<d->d<b->b<=n->OwnR w B g n c l ->
 Calls Tryz.prog 214 #[.slice (some ⟨g,0,none⟩) n c,.int .i64 a,.int .i64 d,.int .i64 b,.func (.func 138) #[] #[]] w fun e w'=>e=.returned (.tuple #[])/\Same w w':=by
 intro N
 induction N with
 | zero=>intro a d b w hN R S;omega
 | succ N ih =>
   intro a d b w hN R S ad h;have L:=qH (And.intro h hs);clear h;by_cases h1:d=a+1
   · have z:IntKind.i64.wrap ((d:Int)-(a:Int))=1:=qw;have A:(d:Int)-(a:Int)=1:=qO;have C:IntKind.i64.wrap ((d:Int)-1)=(a:Int):=qw;have D:(d:Int)-1=(a:Int):=qO;clear h1 hs ih;go_enter Tryz.func214,Tryz.ntmps214;go_wp2_with fail;clear z A;go_loopg [10,11] (b-d) (fun H s1 s2 wr=>∃ j:Nat,j-d=H/\d<=j/\j<=b/\s1=.int .i64 d/\s2=.int .i64 j/\Hid (Same w wr))
     case atStart=>exact ⟨b,rfl,qO,lA _,rfl,rfl,qH (eA _ _)⟩
     obtain ⟨j,rfl,an,ao,rfl,rfl,o⟩:=hrel;by_cases U:d<j
     · obtain ⟨m,p⟩:=qy ((d+j) / 2);obtain ⟨x,y,cc,hg,HX,HY,HC,a5⟩:=twoR L.1 L.2 o.out (show a<m by omega) qO;have E:((d:Int)+(j:Int)) / 2=(m:Int):=qO;have F:(0:Int)<=(d:Int)+(j:Int):=qO;have V:(0:Int)<=(m:Int):=qO;have W:(m:Int)<(n:Int):=qO;have X:(0:Int)<=(a:Int):=qO;have Y:(a:Int)<(n:Int):=qO;have Z:d<=m:=qO;have a0:m<j:=qO;clear p;go_upto_region 5 with fail;have a1:Same wr wr.drew:=(eA _ wr).drew;go_region_held3 (fun t=>Same wr t/\AtR t g a x/\AtR t g m y) (exact rQ HX HY hg qA) (first
        | (go_at_call 138;refine (pQ _ _ _ _ _ _ _ _ _ _ wr _ HC qA).mono ?_;rintro e w' ⟨rfl,hs⟩))
       all_goals
        go_wp2;go_roundg (m-d)
        case measure=>omega
        case rel=>exact ⟨m,rfl,qO,qO,rfl,rfl,qH (o.same hs)⟩
     obtain rfl:j=d:=qO;go_wp2_with fail;go_loopg [13] 1 (fun H s3 t=>1=H/\s3=.int .i64 a/\Hid (Same w t))
     case atStart=>exact ⟨rfl,rfl,o⟩
     clear o;obtain ⟨rfl,rfl,o⟩:=hrel;go_wp2;refine LD (DG rfl _ _ _) rfl ?_;exact ⟨rfl,o⟩
   have v:((d:Int)-(a:Int)==1)=false:=qP;obtain ⟨ll,a6⟩:=qy (d-a);have z:IntKind.i64.wrap ((d:Int)-(a:Int))=(ll:Int):=qw;have A:(d:Int)-(a:Int)=(ll:Int):=qO;have v:((ll:Int)==1)=false:=qP;by_cases h2:b=d+1
   · have C:IntKind.i64.wrap ((b:Int)-(d:Int))=1:=qw;have D:(b:Int)-(d:Int)=1:=qO;clear h1 h2 hs ih a6;go_enter Tryz.func214,Tryz.ntmps214;go_wp2_with fail;clear z A C D v;go_loopg [14,15] (d-a) (fun H s1 s2 wr=>∃ i:Nat,d-i=H/\a<=i/\i<=d/\s1=.int .i64 i/\s2=.int .i64 d/\Hid (Same w wr))
     case atStart=>exact ⟨a,rfl,lA _,qO,rfl,rfl,qH (eA _ _)⟩
     obtain ⟨i,rfl,ap,hid,rfl,rfl,o⟩:=hrel;by_cases U:i<d
     · obtain ⟨m,p⟩:=qy ((i+d) / 2);obtain ⟨x,y,cc,hg,HX,HY,HC,a5⟩:=twoR L.1 L.2 o.out (show m<d by omega) qO;have E:((i:Int)+(d:Int)) / 2=(m:Int):=qO;have F:(0:Int)<=(i:Int)+(d:Int):=qO;have V:(0:Int)<=(m:Int):=qO;have W:(m:Int)<(n:Int):=qO;have X:(0:Int)<=(d:Int):=qO;have Y:(d:Int)<(n:Int):=qO;have Z:i<=m:=qO;have a0:m<d:=qO;clear p;go_upto_region 17 with fail;have a1:Same wr wr.drew:=(eA _ wr).drew;go_region_held3 (fun t=>Same wr t/\AtR t g m x/\AtR t g d y) (exact rQ HX HY hg qA) (first
        | (go_at_call 138;refine (pQ _ _ _ _ _ _ _ _ _ _ wr _ HC qA).mono ?_;rintro e w' ⟨rfl,hs⟩))
       all_goals
        go_wp2;go_roundg (d-(m+1))
        case measure=>omega
        case rel=>exact ⟨m+1,rfl,qO,qO,qN,rfl,qH (o.same hs)⟩
     obtain rfl:i=d:=qO;go_wp2_with fail;go_loopg [17] 1 (fun H s3 t=>1=H/\s3=.int .i64 i/\Hid (Same w t))
     case atStart=>exact ⟨rfl,rfl,o⟩
     clear o;obtain ⟨rfl,rfl,o⟩:=hrel;go_wp2;refine LD (DG rfl _ _ _) rfl ?_;exact ⟨rfl,o⟩
   obtain ⟨rl,ae⟩:=qy (b-d);obtain ⟨f,a7⟩:=qy ((a+b) / 2);obtain ⟨q,af⟩:=qy (f+d);obtain ⟨M,ag⟩:∃ M,M+1=q:=⟨q-1,qO⟩
   obtain ⟨u,r,I⟩:∃ u r,(f<d->u+b=q/\r=f)/\(¬ f<d->u=a/\r=d):=by
    by_cases p:f<d
    · exact ⟨q-b,f,fun _=>⟨qO,rfl⟩,fun h=>absurd p h⟩
    exact ⟨a,d,fun h=>absurd h p,fun _=>⟨rfl,rfl⟩⟩
   have a8:a<=u/\u<=r/\r<=d/\d+r<=q/\q<=b+u:=by
    by_cases p:f<d
    · have:=I.1 p;omega
    have:=I.2 p;omega
   obtain ⟨aq,ah,ar,au,av⟩:=a8;have C:IntKind.i64.wrap ((b:Int)-(d:Int))=(rl:Int):=qw;have D:(b:Int)-(d:Int)=(rl:Int):=qO;have a2:((rl:Int)==1)=false:=qP;have E:((a:Int)+(b:Int)) / 2=(f:Int):=qO;have F:(0:Int)<=(a:Int)+(b:Int):=qO;have a9:IntKind.i64.wrap ((f:Int)+(d:Int))=(q:Int):=qw;have aa:(f:Int)+(d:Int)=(q:Int):=qO;have ab:IntKind.i64.wrap ((q:Int)-1)=(M:Int):=qw;have ac:(q:Int)-1=(M:Int):=qO;have a3:a<f:=qO;have al:f<b:=qO;have am:q<=2*n:=qO;have G:=qH I;have k:=qH (show q=f+d/\M+1=q/\f-a<=N/\b-f<=N by omega);clear h1 h2 a6 ae a7 af ag I hs;go_enter Tryz.func214,Tryz.ntmps214;go_upto_if 140 with fail;go_cut [20,21] (fun ai aj t=>ai=.int .i64 u/\aj=.int .i64 r/\t=w)
   case first =>
    by_cases p:f<d
    · have h9:=G.1 p;have O:IntKind.i64.wrap ((q:Int)-(b:Int))=(u:Int):=qw;have a4:(q:Int)-(b:Int)=(u:Int):=qO;obtain rfl:r=f:=h9.2;clear h9;go_wp2;go_meet;exact ⟨rfl,rfl,rfl⟩
    have h9:=G.2 p;obtain ⟨rfl,rfl⟩:=h9;go_wp2;go_meet;exact ⟨rfl,rfl,rfl⟩
   obtain ⟨rfl,rfl,rfl⟩:=hcut;clear z A v C D a2 E F a9 aa;obtain ⟨w1,rfl⟩:=qy wc;go_wp2_with fail;clear ab ac;go_loopg [20,21] (r-u) (fun H s1 s2 wr=>∃ s:Nat,r-s=H/\u<=s/\s<=r/\s1=.int .i64 s/\s2=.int .i64 r/\Hid (Same w1 wr))
   case atStart=>exact ⟨u,rfl,lA _,ah,rfl,rfl,qH (eA _ _)⟩
   obtain ⟨s,rfl,aw,ax,rfl,rfl,o⟩:=hrel;by_cases U:s<r
   · obtain ⟨m,p⟩:=qy ((s+r) / 2);obtain ⟨T,ak⟩:∃ T,T+m=M:=⟨M-m,qh k⟩
     obtain ⟨x,y,cc,hg,HX,HY,HC,a5⟩:=twoR L.1 L.2 o.out (show m<T by have:=k.out;omega) (qh k);have E:((s:Int)+(r:Int)) / 2=(m:Int):=qO;have F:(0:Int)<=(s:Int)+(r:Int):=qO;have V:(0:Int)<=(m:Int):=qO;have W:(m:Int)<(n:Int):=qO;have O:IntKind.i64.wrap ((M:Int)-(m:Int))=(T:Int):=by rw [kF _ ⟨qO,qh k⟩];omega
     have X:(0:Int)<=(T:Int):=qO;have Y:(T:Int)<(n:Int):=qh k;have Z:s<=m:=qO;have a0:m<r:=qO;clear p ak;go_upto_region 35 with fail;have a1:Same wr wr.drew:=(eA _ wr).drew;go_region_held3 (fun t=>Same wr t/\AtR t g m x/\AtR t g T y) (exact rQ HX HY hg qA) (first
      | (go_at_call 138;refine (pQ _ _ _ _ _ _ _ _ _ _ wr _ HC qA).mono ?_;rintro e w' ⟨rfl,hs⟩))
     all_goals
      go_wp2;go_roundg (r-(m+1))
      case measure=>omega
      case rel=>exact ⟨m+1,rfl,qO,qO,qN,rfl,qH (o.same hs)⟩
   obtain rfl:s=r:=qO;by_cases p:f<d
   · obtain rfl:s=f:=(G.1 p).2;have O:IntKind.i64.wrap ((q:Int)-(s:Int))=(d:Int):=by have:=k.out;rw [kF _ ⟨qO,qO⟩];omega
     have a4:(q:Int)-(s:Int)=(d:Int):=qh k;have d1:decide (s<d)=true:=kC p;have d2:decide (a<s)=true:=kC a3;have d3:decide (d<b)=true:=kC S;go_wp2_with fail;refine (ih _ k.2.2.2 p S ad (L.1.same o)).mono ?_;rintro e w5 ⟨rfl,h5⟩;have H5:=qH (o.same h5);clear h5;go_wp2;go_end0;exact ⟨rfl,H5⟩
   obtain rfl:s=d:=(G.2 p).2;have O:IntKind.i64.wrap ((q:Int)-(s:Int))=(f:Int):=by have:=k.out;rw [kF _ ⟨qO,qO⟩];omega
   have a4:(q:Int)-(s:Int)=(f:Int):=qh k;have d1:decide (a<s)=true:=kC R;by_cases P:s<f
   · have d2:decide (s<f)=true:=kC P;go_wp2_with fail;refine (ih _ k.2.2.1 R P qO (L.1.same o)).mono ?_;rintro e w5 ⟨rfl,h5⟩;have H5:=qH (o.same h5);clear h5;go_wp2;go_end0;exact ⟨rfl,H5⟩
   have d2:decide (s<f)=false:=LB P;go_wp2;go_end0;exact ⟨rfl,o⟩
theorem stcR {l:List RL} (w:World) (h:OwnR w B g n c l) (hn:n<=35184372088832) (hs:XA (fun a b:Int=>a<b) RL.id l):
 Calls Tryz.prog 181 #[.slice (some ⟨g,0,none⟩) n c,.int .i64 n,.func (.func 138) #[] #[]] w fun e w'=>e=.returned (.tuple #[])/\Same w w':=by
 have D:=qH h;have E:=qH hs;clear h hs;go_enter Tryz.func181,Tryz.ntmps181;go_wp2_with fail;go_loopg [7,8] n (fun v G H wr=>∃ a b:Nat,n-a=v/\a<=n/\b=a+20/\G=.int .i64 a/\H=.int .i64 b/\Hid (Same w wr))
 case atStart=>exact ⟨0,20,rfl,oA _,rfl,rfl,rfl,qH (eA _ _)⟩
 obtain ⟨a,b,rfl,y,z,rfl,rfl,i⟩:=hrel;obtain ⟨p,j⟩:=qy (b+20);have r:IntKind.i64.wrap ((b:Int)+20)=(p:Int):=qw;have s:(b:Int)+20=(p:Int):=qO;have q:=qH (And.intro z j);have t:a<=b:=qO;have I:b<p:=qO;clear z j;by_cases k:b<=n
 · go_wp2_with fail;refine (insR _ (D.same i) hn E t k).mono ?_;rintro x w2 ⟨rfl,A⟩;have F:=qH (i.same A);clear A;go_wp2;go_roundg (n-b)
   case measure=>have:=q.out;omega
   case rel=>exact ⟨b,p,rfl,k,qh q,rfl,by first | rfl | go_num,F⟩
 go_wp2_with fail;refine (insR _ (D.same i) hn E y (lA _)).mono ?_;rintro x w2 ⟨rfl,A⟩;have F:=qH (i.same A);clear A r s t I i q k;go_wp2_with fail;go_loopg [6,7,8,9] (n-20) (fun v s6 G H s9 O=>∃ d:Nat,n-d=v/\0<d/\d<=2*n+20/\s6=.int .i64 d/\Hid (Same w O))
 case atStart=>exact ⟨20,rfl,qO,qO,rfl,F⟩
 clear F;obtain ⟨d,rfl,a1,U,rfl,P⟩:=hrel;by_cases k:d<n
 · obtain ⟨wo,rfl⟩:=qy wr;obtain ⟨f,R⟩:=qy (2*d);have r:IntKind.i64.wrap (2*(d:Int))=(f:Int):=qw;have s:2*(d:Int)=(f:Int):=qO;have V:IntKind.i64.wrap ((d:Int)*2)=(f:Int):=qw;have W:(d:Int)*2=(f:Int):=qO;have S:d<f:=qO;have T:f<=2*n:=qO;clear R;go_wp2_with fail;go_loopg [7,8] n (fun v G H O=>∃ a b:Nat,n-a=v/\a<=n/\b=a+f/\G=.int .i64 a/\H=.int .i64 b/\Hid (Same w O))
   case atStart=>exact ⟨0,f,rfl,oA _,qO,rfl,rfl,P⟩
   clear P;obtain ⟨a,b,rfl,y,z,rfl,rfl,i⟩:=hrel;obtain ⟨p,j⟩:=qy (b+f);obtain ⟨m,N⟩:=qy (a+d);have X:IntKind.i64.wrap ((b:Int)+(f:Int))=(p:Int):=qw;have Y:(b:Int)+(f:Int)=(p:Int):=qO;have Z:IntKind.i64.wrap ((a:Int)+(d:Int))=(m:Int):=qw;have a0:(a:Int)+(d:Int)=(m:Int):=qO;have u:a<m:=qO;have L:m<b:=qO;have q:=qH (And.intro z j);clear z j N;by_cases o:b<=n
   · go_wp2_with fail;refine (smgR hn E _ _ (lA _) u L o (D.same i)).mono ?_;rintro x w3 ⟨rfl,C⟩;have M:=qH (i.same C);clear C;go_wp2;go_roundg (n-b)
     case measure=>have:=q.out;omega
     case rel=>exact ⟨b,p,rfl,o,qh q,rfl,by first | rfl | go_num,M⟩
   by_cases N:m<n
   · go_wp2_with fail;refine (smgR hn E _ _ (lA _) u N (lA _) (D.same i)).mono ?_;rintro x w3 ⟨rfl,C⟩;have M:=qH (i.same C);clear C;go_wp2;go_roundg (n-f)
     case measure=>omega
     case rel=>exact ⟨f,rfl,qO,qO,by first | rfl | go_num,M⟩
   go_wp2;go_roundg (n-f)
   case measure=>omega
   case rel=>exact ⟨f,rfl,qO,qO,by first | rfl | go_num,i⟩
 go_wp2;go_end0;exact ⟨rfl,P⟩
theorem Zvy {l:List RL} (w:World) (h:w.ownsRow B 60 5 (.slice A n c) n (l.flatMap RL.cells)) (hn:n<=35184372088832) (hs:XA (fun a b:Int=>a<b) RL.id l):
 Calls Tryz.prog 137 #[.slice A n c,.func (.func 138) #[] #[]] w fun e w'=>e=.returned (.tuple #[])/\Same w w':=by
 rcases h.2 with ⟨f,o⟩ | ⟨g,k,m,f,_⟩
 · refine (Zob w A n c _ qO).mono ?_;rintro e w' ⟨rfl,rfl⟩;exact ⟨rfl,eA _ _⟩
 injection f with d h2 h3
 subst d h3;have i:=qH h;have j:=qH hs;clear h hs;go_enter Tryz.func137,Tryz.ntmps137;go_wp2_with fail;refine (stcR _ i hn j).mono ?_;rintro e p ⟨rfl,d⟩;have H:=qH d;clear d;go_wp2;go_end0;exact ⟨rfl,H⟩
end
section
def qJ (l:L1) (node v:Int):L1:=if l.src=node then { l with snext:=v } else { l with dnext:=v }
def getL (M:List L1) (i:Nat):L1:=(M[i]?).getD ⟨false,0,0,0,0,0,0⟩
theorem SK {M:List L1} {l:L1} (h:M[i]?=some l):getL M i=l:=by unfold getL;rw [h];rfl
theorem yT {M:List L1} {l:L1} (h:i≠j):getL (M.set i l) j=getL M j:=by unfold getL;rw [iI h]
theorem Zvz {M:List L1} {l:L1} (h:i<M.length):getL (M.set i l) i=l:=SK (by rw [FG h])
theorem Zqr (l:L1) (node p q v:Int):qJ (RC l node p q) node v=RC l node p v:=by
 unfold RC;split
 · split
   · unfold qJ;simp only;rename_i a b;rw [gA a]
   unfold qJ;simp only;rename_i a b;rw [gA a]
 unfold qJ;simp only;rename_i a;rw [aA a]
theorem wX (node:Int):∀ (ids:List Nat) (p:Int) (L:List L1),(pC node p ids L).length=L.length
 | [],p,L=>rfl
 | i::ids,p,L=>by
   rw [pC,wX node ids];cases L[i]? with
   | none=>rfl
   | some l=>simp
theorem lM {L:List L1} (hi:i<L.length) (ids:List Nat):pC node p (i::ids) L=pC node i ids (L.set i (RC (getL L i) node p (dE ids))):=by have h:=FA hi;rw [pC,h,SK h]
def fixT (node:Int) (z x:Nat) (M:List L1):List L1:=(M.set x (RC (getL M x) node z (-1))).set z (qJ (getL M z) node x)
theorem xX {node:Int} {x:Nat}:∀ (d:List Nat) (y:Nat) (p:Int) (L:List L1),(y::d++[x]).Nodup->(∀ i∈y::d++[x],i<L.length)->pC node p (y::d++[x]) L=fixT node ((y::d).getLast (by simp)) x (pC node p (y::d) L)
 | [],y,p,L,hd,hr=>by
   have b:=hr y (by simp);have c:=hr x (by simp);have a:y≠x:=by have:=lE.1 hd;intro e;exact this.1 (by simp [e])
   rw [EB,SB,lM b,lM (by simpa using c),lM b];simp only [pC,dE,List.getLast_singleton];unfold fixT;rw [yT a,yT a,Zvz b,Zqr];rw [List.set_comm _ _ a.symm,YM]
 | z::d,y,p,L,hd,hr=>by have b:=hr y (by simp);rw [EB,lM b,lM b];have f:=xX (node:=node) d z y (L.set y (RC (getL L y) node p (dE (z::d++[x])))) (lE.1 hd).2 (fun i g=>by rw [VF];exact hr i (IH y g));rw [f];rfl
def yX (l l':L1):Prop:=l'.live=l.live/\l'.src=l.src/\l'.dst=l.dst
theorem Zqs (l:L1) (node p q:Int):yX l (RC l node p q):=by
 unfold RC;split
 · split <;> exact ⟨rfl,rfl,rfl⟩
 exact ⟨rfl,rfl,rfl⟩
theorem Zqt {M:List L1} {l:L1} {k:Nat} (h:yX (getL M i) l):lC (M.set i l) node (k:Int)=lC M node (k:Int):=by
 unfold lC;rw [aA qO,aA qO,XB];by_cases e:i=k
 · subst e;rcases wP i M.length with a | a
   · rw [FG a];have b:=FA a;rw [SK b] at h;rw [b];simp only [h.1,h.2.1,h.2.2]
   rw [List.set_eq_of_length_le a]
 rw [iI e]
variable {node:Int}
theorem zX:∀ (ids:List Nat) (b:Int) (L:List L1) (i:Nat),i ∉ ids->(pC node b ids L)[i]?=L[i]?
 | [],_,_,_,_=>rfl
 | j::ids,b,L,i,h=>by
   rw [pC,zX ids _ _ i (fun a=>h (by simp [a]))];cases hj:L[j]? with
   | none=>rfl
   | some l =>
     simp only;rw [iI (fun e=>h (by simp [e]))]
theorem cO (l:L1) (p n:Int):(RC l node p n).live=l.live/\(RC l node p n).src=l.src/\(RC l node p n).dst=l.dst:=by
 unfold RC;split
 · split <;> exact ⟨rfl,rfl,rfl⟩
 exact ⟨rfl,rfl,rfl⟩
theorem Zqu (l:L1) (p n:Int):sG (RC l node p n) node=p/\SH (RC l node p n) node=n:=by
 unfold sG SH;rw [(cO l p n).2.1];unfold RC;by_cases h:l.src=node
 · by_cases a:l.dst=node <;> simp [h,a]
 simp [h]
theorem Zqv {l:L1} {n:Int} (ht:l.src=node\/l.dst=node):lH (RC l node p n)=false:=by
 obtain ⟨_,c,d⟩:=cO (node:=node) l p n;unfold lH;rw [c,d];by_cases h:l.src=l.dst
 · have a:l.src=node:=by rcases ht with e | e <;> omega
   have b:l.dst=node:=qO;unfold RC;rw [gA a,gA b];simp
 have:(l.src==l.dst)=false:=by simpa using h
 rw [this];rfl
def rJ (L:List L1) (node:Int) (i:Nat):Prop:=∃ l,L[i]?=some l/\l.live=true/\(l.src=node\/l.dst=node)
theorem TK {L:List L1}:lC L node (i:Int)=0↔rJ L node i:=by
 unfold lC rJ;rw [aA qO,XB];cases L[i]? with
 | none=>simp
 | some l =>
   simp only [SE,exists_eq_left'];cases hl:l.live with
   | false=>simp
   | true =>
     simp only [AK,if_false,jI];by_cases a:l.src=node
     · simp [a]
     by_cases b:l.dst=node
     · simp [b]
     simp [a,b]
theorem AX:∀ (ids:List Nat) (y:Int) (L:List L1) (k:Nat),ids.Nodup->(∀ i∈ids,rJ L node i)->ids.length<=k ->
 QC (pC node y ids L) node k y (dE ids)=.ok (ids.map fun (i:Nat)=>(i:Int))
 | [],y,L,k,_,_,_=>by cases k <;> simp [QC,dE]
 | i::ids,y,L,k,hd,ht,hk=>by
   obtain ⟨k,rfl⟩:∃ m,k=m+1:=⟨k-1,by simp only [BA] at hk;omega⟩
   obtain ⟨h,p⟩:=lE.1 hd;obtain ⟨l,d,f,a⟩:=ht i qS;have b:=(IA.1 d).1;have g:(pC node y (i::ids) L)[i]?=some (RC l node y (dE ids)):=by rw [pC,d,zX ids _ _ i h];simp only;rw [FG b]
   obtain ⟨q,r,s⟩:=cO (node:=node) l y (dE ids);obtain ⟨t,u⟩:=Zqu (node:=node) l y (dE ids);have o:lC (pC node y (i::ids) L) node (i:Int)=0:=TK.2 ⟨_,g,by rw [q];exact f,by rw [r,s];exact a⟩;have ih:=AX ids (i:Int) (L.set i (RC l node y (dE ids))) k p (fun j n=>by obtain ⟨m,v,w,x⟩:=ht j (by simp [n]);refine ⟨m,?_,w,x⟩;rw [iI (fun e:i=j=>h (e ▸ n))];exact v) (by simp only [BA] at hk;omega)
   have c:pC node y (i::ids) L=pC node (i:Int) ids (L.set i (RC l node y (dE ids))):=by rw [pC,d]
   rw [show dE (i::ids)=(i:Int) from rfl,QC,aA qO,aA (by rw [o];simp),XB,g];simp only;rw [aA (by rw [t,Zqv a];simp),u,c,ih];rfl
end
end Go.Proofs.YtmkjfhnlnhceiaaGreatDoor
