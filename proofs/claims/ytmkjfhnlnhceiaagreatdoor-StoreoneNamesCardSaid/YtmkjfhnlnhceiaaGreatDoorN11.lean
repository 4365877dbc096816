/- Texts that the claim leans on: walks and plain laws, function by function. -/
import Derived.Sort.Walk0
import Derived.Maps.Own
import Derived.Maps.OwnSet
import Derived.Maps.OwnOps
import Derived.Maps.Views
import Derived.RangeFuncNested
import Derived.RangeFuncBound
import Derived.RangeFuncCalls
import Derived.RangeFuncLeaves
import Derived.RangeFuncBox
import Derived.Shelf.Abstract
import Derived.Shelf.RegionOpen
import Derived.OwnWalkIn
import Derived.TacticsInMore
import Derived.LoopNIn
import Derived.LoopIn
import Derived.Laws.BytesArg
import Derived.Shelf.Small.Strs
import Derived.Test.YtmkjfhnlnhceiaaGreatDoorN05
set_option maxRecDepth 100000
set_option maxHeartbeats 16000000
namespace Go.Proofs.YtmkjfhnlnhceiaaGreatDoor
section
structure Lin {κ:Type} (lt:κ->κ->Prop):Prop where
 irr:∀ a,¬ lt a a
 tr:∀ {a b c},lt a b->lt b c->lt a c
 tot:∀ a b,lt a b\/a=b\/lt b a
section
variable {α κ:Type} {lt:κ->κ->Prop} {key:α->κ}
theorem Lin.asym (L:Lin lt) {a b:κ} (h:lt a b):¬ lt b a:=fun c=>L.irr _ (L.tr h c)
theorem Lin.le_tr (L:Lin lt) {a b c:κ} (h:¬ lt b a) (h':¬ lt c b):¬ lt c a:=fun f=>by
 rcases L.tot a b with d | rfl | e
 · exact h' (L.tr f d)
 · exact h' f
 exact h e
theorem Lin.lt_le (L:Lin lt) {a b c:κ} (h:lt a b) (h':¬ lt c b):lt a c:=by
 rcases L.tot b c with d | rfl | e
 · exact L.tr h d
 · exact h
 exact absurd e h'
theorem Lin.le_lt (L:Lin lt) {a b c:κ} (h:¬ lt b a) (h':lt b c):lt a c:=by
 rcases L.tot a b with d | rfl | e
 · exact L.tr d h'
 · exact h'
 exact absurd e h
def Zap (lt:κ->κ->Prop) (key:α->κ) (l:List α):Prop:=l.Pairwise fun a b=>¬ lt (key b) (key a)
theorem Zap.of_app {u v:List α} (h:Zap lt key (u++v)):Zap lt key u/\Zap lt key v/\∀ x∈u,∀ y∈v,¬ lt (key y) (key x):=Yfu.1 h
theorem Zap.app {u v:List α} (h1:Zap lt key u) (h2:Zap lt key v) (h3:∀ x∈u,∀ y∈v,¬ lt (key y) (key x)):Zap lt key (u++v):=Yfu.2 ⟨h1,h2,h3⟩
theorem Zap.nil:Zap lt key ([]:List α):=List.Pairwise.nil
theorem Zap.one (x:α):Zap lt key [x]:=List.pairwise_singleton _ _
theorem Zap.ins {P1 P2:List α} {x:α} (hs:Zap lt key (P1++P2)) (h1:∀ y∈P1,¬ lt (key x) (key y)) (h2:∀ y∈P2,¬ lt (key y) (key x)):Zap lt key (P1++x::P2):=by
 obtain ⟨a,b,c⟩:=hs.of_app;refine a.app (YbK.2 ⟨h2,b⟩) fun y e z d=>?_;rcases Yat.1 d with rfl | d
 · exact h1 y e
 exact c y e z d
theorem Zap.last_le {P:List α} {y:α} (L:Lin lt) (hs:Zap lt key (P++[y])):∀ z∈P++[y],¬ lt (key y) (key z):=by
 intro z a;rcases YaR.1 a with a | a
 · exact hs.of_app.2.2 z a y (by simp)
 obtain rfl:z=y:=by simpa using a
 exact L.irr _
variable [DecidableEq κ]
def ZaH (key:α->κ) (l m:List α):Prop:=∀ k:κ,(l.filter fun x=>decide (key x=k))=m.filter fun x=>decide (key x=k)
theorem ZaH.refl (l:List α):ZaH key l l:=fun _=>rfl
abbrev Ydj:=@ZaH.refl
theorem ZaH.symm {l m:List α} (h:ZaH key l m):ZaH key m l:=fun k=>(h k).symm
theorem ZaH.trans {l m n:List α} (h:ZaH key l m) (h':ZaH key m n):ZaH key l n:=fun k=>(h k).trans (h' k)
theorem ZaH.app {l m l' m':List α} (h:ZaH key l m) (h':ZaH key l' m'):ZaH key (l++l') (m++m'):=fun k=>by rw [YcX,YcX,h k,h' k]
theorem ZaH.mem {l m:List α} (h:ZaH key l m) {x:α} (hx:x∈l):x∈m:=by have a:x∈l.filter fun y=>decide (key y=key x):=YdE.2 ⟨hx,by simp⟩;rw [h] at a;exact (YdE.1 a).1
theorem ZaH.swap {u v:List α} (h:∀ x∈u,∀ y∈v,key x≠key y):ZaH key (u++v) (v++u):=fun k=>by
 rw [YcX,YcX];by_cases c:∃ x∈u,key x=k
 · obtain ⟨x,d,rfl⟩:=c;have a:(v.filter fun y=>decide (key y=key x))=[]:=Yfv.2 fun y b=>by have:=h x d y b;simp only [Ybc];exact fun e=>this e.symm
   rw [a,Ybl,YaK]
 have a:(u.filter fun y=>decide (key y=k))=[]:=Yfv.2 fun y b=>by simp only [Ybc];exact fun e=>c ⟨y,b,e⟩
 rw [a,Ybl,YaK]
theorem ZaH.uncons {x:α} {l m:List α} (h:ZaH key (x::l) m):∃ m1 m2,m=m1++x::m2/\(∀ y∈m1,key y≠key x)/\ZaH key l (m1++m2):=by
 have d:=h (key x);rw [Ygh (by simp)] at d;obtain ⟨m1,m2,rfl,i,_,_⟩:=List.filter_eq_cons_iff.1 d.symm;have f:∀ y∈m1,key y≠key x:=fun y c e=>i y c (by simpa using e);refine ⟨m1,m2,rfl,f,fun k=>?_⟩;have g:=(ZaH.swap (key:=key) (u:=m1) (v:=[x]) fun y c z j=>by
  obtain rfl:z=x:=by simpa using j
  exact f y c).app (Ydj m2)
 rw [Yak,Yak] at g;have a:=(h.trans g) k;simp only [YaE,YaK] at a;by_cases b:key x=k
 · rw [Ygh (by simpa using b),Ygh (by simpa using b)] at a;exact (YcY a).2
 rw [List.filter_cons_of_neg (by simpa using b),List.filter_cons_of_neg (by simpa using b)] at a;exact a
theorem ZaH.perm:∀ {l m:List α},ZaH key l m->l.Perm m
 | [],m,h=>by
   cases m with
   | nil=>exact Yew _
   | cons y m=>have:=h.symm.mem (x:=y) (by simp);simp at this
 | x::l,m,h=>by obtain ⟨b,c,rfl,_,a⟩:=h.uncons;exact (List.Perm.cons x a.perm).trans List.perm_middle.symm
theorem ZaH.length {l m:List α} (h:ZaH key l m):l.length=m.length:=h.perm.length_eq
theorem Zap.unique (L:Lin lt):∀ {l m:List α},Zap lt key l->Zap lt key m->ZaH key l m->l=m
 | [],m,_,_,h=>by have:=h.length;simp only [YaS] at this;exact (YcI.1 this.symm).symm
 | x::l,m,hl,hm,h=>by
   obtain ⟨b,j,rfl,i,c⟩:=h.uncons;have a:=YbK.1 hl;cases b with
   | nil=>exact YaC _ (Zap.unique L a.2 (YbK.1 hm).2 c)
   | cons y b =>
     exfalso;have d:=i y (by simp);have e:y∈l:=c.symm.mem (by simp);have f:=a.1 y e;have g:=(YbK.1 hm).1 x (by simp);rcases L.tot (key x) (key y) with h | h | h
     · exact g h
     · exact d h.symm
     exact f h
theorem ZaH.back (L:Lin lt) (P1 P2:List α) (x:α) (h:∀ y∈P2,lt (key x) (key y)):ZaH key (P1++x::P2) (P1++P2++[x]):=by
 have a:ZaH key ([x]++P2) (P2++[x]):=ZaH.swap fun z c y d e=>by
  obtain rfl:z=x:=by simpa using c
  have:=h y d;rw [e] at this;exact L.irr _ this
 have b:=(Ydj P1).app a;simpa only [Yak,YaE,YaK] using b
theorem ZaH.forth (L:Lin lt) (P1 P2:List α) (x:α) (h:∀ y∈P1,lt (key y) (key x)):ZaH key (P1++x::P2) (x::(P1++P2)):=by
 have a:ZaH key (P1++[x]) ([x]++P1):=ZaH.swap fun y c z d e=>by
  obtain rfl:z=x:=by simpa using d
  have:=h y c;rw [e] at this;exact L.irr _ this
 have b:=a.app (Ydj P2);simpa only [Yak,YaE,YaK] using b
end
theorem ZeQ:Lin (fun a b:Int=>a<b):=⟨fun _=>qO,fun h c=>qO,fun _ _=>qO⟩
def ltS (a b:ByteArray):Prop:=a.data.toList<b.data.toList
theorem ZlS {x y:ByteArray} (h:x.data.toList=y.data.toList):x=y:=by cases x;cases y;simp only at h;congr 1;exact YfK.1 h
theorem Zbd:Lin ltS:=⟨fun a=>List.lt_irrefl _,fun h c=>List.lt_trans h c,fun a b=>by
 unfold ltS;rcases Classical.em (a.data.toList<b.data.toList) with h | h
 · exact .inl h
 rcases Classical.em (b.data.toList<a.data.toList) with c | c
 · exact .inr (.inr c)
 exact .inr (.inl (ZlS (List.le_antisymm (List.not_lt.1 c) (List.not_lt.1 h))))⟩
theorem ZsZ (a b:ByteArray):Op.bytesLess a.toList b.toList=true↔ltS a b:=by rw [Go.Proofs.bytesLess_eq,Ybc,Ydz,Ydz];exact Iff.rfl
theorem Zur (a b:ByteArray):(a.toList==b.toList)=true↔a=b:=by rw [YbE,Ydz,Ydz];exact ⟨ZlS,fun h=>by rw [h]⟩
theorem Zus (a b:ByteArray):(Op.bytesLess a.toList b.toList || a.toList==b.toList)=true↔¬ ltS b a:=by
 rw [YcH,ZsZ,Zur];constructor
 · rintro (h | rfl)
   · exact Zbd.asym h
   exact Zbd.irr _
 intro h;rcases Zbd.tot a b with c | c | c
 · exact .inl c
 · exact .inr c
 exact absurd c h
structure Srt (l m:List ByteArray):Prop where
 sorted:m.Pairwise ltS
 mem:∀ x,x∈m↔x∈l
end
section
open Go.RowKit
def wsum (ps:List PR):Nat:=(ps.map fun x=>(enc x.g).length).sum
theorem ZoN (a b:List PR):wsum (a++b)=wsum a+wsum b:=by simp [wsum,Ygi]
end
section
open Go.RowKit Go.Shelf
attribute [local go_sem] Ybq
theorem ZtW {S:Nat->Prop} {A B C:World} (h:Upd S A B) (k:Upd S B C):Upd S A C:=h.trans k fun _ _ h=>h
theorem ZtX {S:Nat->Prop} {w:World} (hS:∀ k,w.heap.size<=k->S k) (W:World) (l:Nat) (o o':Obj) (hl:w.heap.size<=l) (_:W.heap[l]?=some o) (_:o.isCells=false) (_:o.isWalk=false):Upd S W (W.putObj l o') :=
 (Yaa S W).grown (grownBy_putObj' W l o') fun k e=>.inl (by injection e with e;subst e;exact hS _ hl)
end
section
open Go.RowKit
theorem Zrn (w:World) (A:Option Addr) (n c:Nat) (fv:Value) (hn:n<=1):Calls Tryz.prog 211 #[.slice A n c,.int .i64 0,.int .i64 n,fv] w fun e w'=>e=.returned (.tuple #[])/\w'=w:=by
 go_enter Tryz.func211,Tryz.ntmps211;go_wp2_with fail;go_loopg [8] 0 (fun d a wr=>a=.int .i64 1/\wr=w)
 case atStart=>exact ⟨rfl,rfl⟩
 obtain ⟨rfl,rfl⟩:=hrel;have b:¬ (1:Int)<n:=qO;go_wp2;go_end0;exact ⟨rfl,rfl⟩
theorem ZpH (w:World) (A:Option Addr) (n c:Nat) (fv:Value) (hn:n<=1):Calls Tryz.prog 179 #[.slice A n c,.int .i64 n,fv] w fun e w'=>e=.returned (.tuple #[])/\w'=w:=by
 have d:¬ (20:Int)<=(n:Int):=qO;have f:¬ (20:Int)<(n:Int):=qO;go_enter Tryz.func179,Tryz.ntmps179;go_wp2_with fail;go_loopg [7,8] 0 (fun g a b wr=>a=.int .i64 0/\b=.int .i64 20/\wr=w)
 case atStart=>exact ⟨rfl,rfl,rfl⟩
 obtain ⟨rfl,rfl,rfl⟩:=hrel;go_wp2_with fail;refine (Zrn _ A n c fv hn).mono ?_;rintro e h ⟨rfl,rfl⟩;go_wp2_with fail;go_loopg [6,7,8,9] 0 (fun g i a b j wr=>i=.int .i64 20/\wr=h)
 case atStart=>exact ⟨rfl,rfl⟩
 obtain ⟨rfl,rfl⟩:=hrel;go_wp2;go_end0;exact ⟨rfl,rfl⟩
theorem ZlT (w:World) (A:Option Addr) (n c:Nat) (fv:Value) (hn:n<=1):Calls Tryz.prog 134 #[.slice A n c,fv] w fun e w'=>e=.returned (.tuple #[])/\w'=w:=by go_enter Tryz.func134,Tryz.ntmps134;go_wp2_with fail;refine (ZpH _ A n c fv hn).mono ?_;rintro e a ⟨rfl,rfl⟩;go_wp2;go_end0;exact ⟨rfl,rfl⟩
theorem Zta (w:World) (A:Option Addr) (n c:Nat) (fv:Value) (hn:n<=1):Calls Tryz.prog 213 #[.slice A n c,.int .i64 0,.int .i64 n,fv] w fun e w'=>e=.returned (.tuple #[])/\w'=w:=by
 go_enter Tryz.func213,Tryz.ntmps213;go_wp2_with fail;go_loopg [8] 0 (fun d a wr=>a=.int .i64 1/\wr=w)
 case atStart=>exact ⟨rfl,rfl⟩
 obtain ⟨rfl,rfl⟩:=hrel;have b:¬ (1:Int)<n:=qO;go_wp2;go_end0;exact ⟨rfl,rfl⟩
theorem Zro (w:World) (A:Option Addr) (n c:Nat) (fv:Value) (hn:n<=1):Calls Tryz.prog 181 #[.slice A n c,.int .i64 n,fv] w fun e w'=>e=.returned (.tuple #[])/\w'=w:=by
 have d:¬ (20:Int)<=(n:Int):=qO;have f:¬ (20:Int)<(n:Int):=qO;go_enter Tryz.func181,Tryz.ntmps181;go_wp2_with fail;go_loopg [7,8] 0 (fun g a b wr=>a=.int .i64 0/\b=.int .i64 20/\wr=w)
 case atStart=>exact ⟨rfl,rfl,rfl⟩
 obtain ⟨rfl,rfl,rfl⟩:=hrel;go_wp2_with fail;refine (Zta _ A n c fv hn).mono ?_;rintro e h ⟨rfl,rfl⟩;go_wp2_with fail;go_loopg [6,7,8,9] 0 (fun g i a b j wr=>i=.int .i64 20/\wr=h)
 case atStart=>exact ⟨rfl,rfl⟩
 obtain ⟨rfl,rfl⟩:=hrel;go_wp2;go_end0;exact ⟨rfl,rfl⟩
theorem Znw (w:World) (A:Option Addr) (n c:Nat) (fv:Value) (hn:n<=1):Calls Tryz.prog 137 #[.slice A n c,fv] w fun e w'=>e=.returned (.tuple #[])/\w'=w:=by go_enter Tryz.func137,Tryz.ntmps137;go_wp2_with fail;refine (Zro _ A n c fv hn).mono ?_;rintro e a ⟨rfl,rfl⟩;go_wp2;go_end0;exact ⟨rfl,rfl⟩
theorem Zrp (w:World) (A:Option Addr) (n c:Nat) (fv:Value) (hn:n<=1):Calls Tryz.prog 228 #[.slice A n c,.int .i64 0,.int .i64 n,fv] w fun e w'=>e=.returned (.tuple #[])/\w'=w:=by
 go_enter Tryz.func228,Tryz.ntmps228;go_wp2_with fail;go_loopg [8] 0 (fun d a wr=>a=.int .i64 1/\wr=w)
 case atStart=>exact ⟨rfl,rfl⟩
 obtain ⟨rfl,rfl⟩:=hrel;have b:¬ (1:Int)<n:=qO;go_wp2;go_end0;exact ⟨rfl,rfl⟩
theorem ZpI (w:World) (A:Option Addr) (n c:Nat) (fv:Value) (hn:n<=1):Calls Tryz.prog 209 #[.slice A n c,.int .i64 n,fv] w fun e w'=>e=.returned (.tuple #[])/\w'=w:=by
 have d:¬ (20:Int)<=(n:Int):=qO;have f:¬ (20:Int)<(n:Int):=qO;go_enter Tryz.func209,Tryz.ntmps209;go_wp2_with fail;go_loopg [7,8] 0 (fun g a b wr=>a=.int .i64 0/\b=.int .i64 20/\wr=w)
 case atStart=>exact ⟨rfl,rfl,rfl⟩
 obtain ⟨rfl,rfl,rfl⟩:=hrel;go_wp2_with fail;refine (Zrp _ A n c fv hn).mono ?_;rintro e h ⟨rfl,rfl⟩;go_wp2_with fail;go_loopg [6,7,8,9] 0 (fun g i a b j wr=>i=.int .i64 20/\wr=h)
 case atStart=>exact ⟨rfl,rfl⟩
 obtain ⟨rfl,rfl⟩:=hrel;go_wp2;go_end0;exact ⟨rfl,rfl⟩
theorem ZlU (w:World) (A:Option Addr) (n c:Nat) (fv:Value) (hn:n<=1):Calls Tryz.prog 176 #[.slice A n c,fv] w fun e w'=>e=.returned (.tuple #[])/\w'=w:=by go_enter Tryz.func176,Tryz.ntmps176;go_wp2_with fail;refine (ZpI _ A n c fv hn).mono ?_;rintro e a ⟨rfl,rfl⟩;go_wp2;go_end0;exact ⟨rfl,rfl⟩
end
section
def decA (l:List UInt8):GVal×Int:=decD l.length (decP l)
def psW (ps:List GPr):Nat:=(ps.map fun p=>(enc p.val).length).sum
def ZaN.wt (g:ZaN):Nat:=psW (g.nodes.flatMap Zaw.props)+psW (g.rels.flatMap GRel.props)
theorem Ztb {g:GVal} (h:chk g=0) (hf:g.Fits):decA (enc g)=(g,0):=ZsL h hf
theorem ZlV {l:List UInt8} (h:(decA l).2=0):chk (decA l).1=0/\(decA l).1.Fits/\enc (decA l).1=l:=ZqR (Prod.ext rfl h)
end
section
open Go.RowKit
section
variable {α κ:Type} {lt:κ->κ->Prop} {key:α->κ}
def Nlt (lt:κ->κ->Prop) (a b:κ):Prop:=¬ lt a b
theorem cross {l r:List α} {i j:Nat} (L:Lin lt) (hl:Zap lt key l) (hr:Zap lt key r) (hi:i<=l.length) (hj:j<=r.length) (c1:∀ y z,0<i->l[i-1]?=some y->r[j]?=some z->¬ lt (key z) (key y)) (c2:∀ y z,0<j->l[i]?=some y->r[j-1]?=some z->lt (key z) (key y)) :
 (∀ x∈l.take i,∀ y∈r.drop j,¬ lt (key y) (key x))/\∀ x∈l.drop i,∀ y∈r.take j,lt (key y) (key x):=by
 have o:=YeT.1 hl;have p:=YeT.1 hr;have m:∀ (a b:Nat) (c:a<l.length) (d:b<l.length),a<=b->¬ lt (key l[b]) (key l[a]):=fun a b c d h=>by
  by_cases e:a=b
  · subst e;exact L.irr _
  exact o a b c d qO
 have n:∀ (a b:Nat) (c:a<r.length) (d:b<r.length),a<=b->¬ lt (key r[b]) (key r[a]):=fun a b c d h=>by
  by_cases e:a=b
  · subst e;exact L.irr _
  exact p a b c d qO
 constructor
 · intro x g y k;obtain ⟨a,c,rfl⟩:=YeU g;obtain ⟨b,d,rfl⟩:=YeU k;rw [YaJ] at c;rw [Yas] at d;rw [Ygj,List.getElem_drop];have f:=c1 (l[i-1]'(qO)) (r[j]'(qO)) qO (Yar qO) (Yar qO);exact L.le_tr (L.le_tr (m a (i-1) qO qO qO) f) (n j (j+b) qO qO qO)
 intro x g y k;obtain ⟨a,c,rfl⟩:=YeU g;obtain ⟨b,d,rfl⟩:=YeU k;rw [Yas] at c;rw [YaJ] at d;rw [Ygj,List.getElem_drop];have f:=c2 (l[i]'(qO)) (r[j-1]'(qO)) qO (Yar qO) (Yar qO);exact L.lt_le (L.le_lt (n b (j-1) qO qO qO) f) (m i (i+a) qO qO qO)
theorem Zrq {α:Type} (P Q:List α) (x:α) {j:Nat} (h:P.length=j):(P++x::Q)[j]?=some x:=by rw [YcA qO,h,YbC];rfl
theorem ZtY {α:Type} (P Q:List α) (x y:α) {j:Nat} (h:P.length=j):(P++x::Q).set j y=P++y::Q:=by rw [YcU _ _ qO,h,YbC];rfl
theorem Zut {α:Type} (P M Q:List α) (x y:α) {i j:Nat} (hi:P.length=i) (hj:i+1+M.length=j):((P++x::(M++y::Q)).set i y).set j x=P++y::(M++x::Q):=by
 rw [ZtY P _ x y hi];have e:P++y::(M++y::Q)=(P++y::M)++y::Q:=by simp
 rw [e,ZtY (P++y::M) Q y x (by simp;omega)];simp
theorem Ztc {α:Type} (P M Q:List α) (x y:α) {i j:Nat} (hi:P.length=i) (hj:i+1+M.length=j):((P++x::(M++y::Q)).set j x).set i y=P++y::(M++x::Q):=by rw [List.set_comm _ _ qO];exact Zut P M Q x y hi hj
theorem Zvq {α:Type} (P M Q:List α) (x y:α) {i j:Nat} (hi:P.length=i) (hj:i+1+M.length=j):(P++x::(M++y::Q))[j]?=some y:=by
 have e:P++x::(M++y::Q)=(P++x::M)++y::Q:=by simp
 rw [e];exact Zrq _ _ _ (by simp;omega)
theorem Zvr {S1 P1 P2:List α} {x:α} (L:Lin lt) [DecidableEq κ] (hs:Zap lt key (P1++P2)) (hm:ZaH key (P1++P2) S1) (h1:∀ y∈P1,¬ lt (key x) (key y)) (h2:∀ y∈P2,lt (key x) (key y)) :
 Zap lt key (P1++x::P2)/\ZaH key (P1++x::P2) (S1++[x]) :=
 ⟨hs.ins h1 fun y a=>L.asym (h2 y a),(ZaH.back L P1 P2 x h2).trans (hm.app (Ydj _))⟩
end
section
variable {α:Type} {f:α->List Value} {k:Nat}
theorem Zrr (hf:∀ x,(f x).length=k):∀ (l:List α) (i:Nat) (x:α) (_:i<l.length),((l.set i x).flatMap f)=(l.flatMap f).take (i*k)++(f x++(l.flatMap f).drop (i*k+k)):=by
 intro l
 induction l with
 | nil=>intro i x h;simp at h
 | cons y l ih =>
   intro i x h;cases i with
   | zero =>
     simp only [Yam,Ybs,Nat.zero_mul,List.take_zero,YaK,YbJ];rw [List.drop_left' (hf y)]
   | succ i =>
     rw [Yap,Ybs,Ybs,ih i x (by simpa using h)];have a:(f y++l.flatMap f).take ((i+1)*k)=f y++(l.flatMap f).take (i*k):=by rw [Yfw,hf,Ycn,YaB (by rw [hf];omega)];congr 2;omega
     have b:(f y++l.flatMap f).drop ((i+1)*k+k)=(l.flatMap f).drop (i*k+k):=by rw [Yfq,hf,Ycn,Ybt (by rw [hf];omega),YaK];congr 1;omega
     rw [a,b,Yak]
theorem Zcz {w:World} {B n c:Nat} {T:TypeId} {A:Option Addr} {l:List α} (h:w.ownsRow B T k (.slice A n c) n (l.flatMap f)) (hf:∀ x,(f x).length=k) (hk:0<k):l.length=n:=by have a:=h.1;rw [ZbY hf] at a;exact YfS hk a
theorem Zrs {w:World} {B n c g:Nat} {e:TypeId} {k:Nat} {xs:List Value} (h:w.ownsRow B e k (.slice (some ⟨g,0,none⟩) n c) n xs) :
 ∃ cur,B<=g/\Blk w g e cur/\n<=c/\c<=maxLen/\cur.size=c*k/\cur.toList.take (n*k)=xs:=by
 rcases h.2 with ⟨a,_⟩ | ⟨o,d,cur,a,f,i,b,j,l,m⟩
 · cases a
 injection a with h1 h2 h3
 injection h1 with h1
 injection h1 with h1 _ _
 subst h1 h3;exact ⟨cur,f,i,b,j,l,m⟩
theorem Zij {w:World} {B n c g i:Nat} {T:TypeId} {l:List α} {x:α} (h:w.ownsRow B T k (.slice (some ⟨g,0,none⟩) n c) n (l.flatMap f)) (hf:∀ x,(f x).length=k) (hk:0<k) (hx:l[i]?=some x) :
 i<n/\g<w.heap.size/\(∀ j u,(f x)[j]?=some u->w.cell? ⟨g,i*k+j,none⟩=some u)/\∀ j,w.frozen? ⟨g,j,none⟩=false:=by
 have r:=Zcz h hf hk;obtain ⟨b,d⟩:=Yaq.1 hx;obtain ⟨p,_,e,_,_,_,q⟩:=Zrs h;refine ⟨qO,e.lt,fun j u m=>?_,e.frozen⟩;have o:j<k:=by have:=(Yaq.1 m).1;rw [hf] at this;exact this
 have a:=Zgn hf l i j b o;rw [d,m,<-q,Yeh] at a;split at a
 · rw [e.cell,<-Yen];exact a
 cases a
def putL (w:World) (g p:Nat):List Value->World
 | []=>w
 | u::us=>putL (w.setCell ⟨g,p,none⟩ u) g (p+1) us
theorem ZoO:∀ (us:List Value) {w:World} {g p:Nat} {T:TypeId} {cur:Array Value},Blk w g T cur->p+us.length<=cur.size->∃ cur',Blk (putL w g p us) g T cur'/\cur'.toList=cur.toList.take p++(us++cur.toList.drop (p+us.length))
 | [],w,g,p,T,cur,h,_=>⟨cur,h,by simp⟩
 | u::us,w,g,p,T,cur,h,hp=>by
   rw [Yao] at hp;obtain ⟨cur',d,e⟩:=ZoO us (h.put p u) (p:=p+1) (by rw [YdC];omega);refine ⟨cur',d,?_⟩;rw [e,Yfk];have a:p<cur.toList.length:=by rw [Ycf];omega
   have b:(cur.toList.set p u).take (p+1)=cur.toList.take p++[u]:=by rw [Ygy,Yac a,Yfw,YaJ,YdD (Nat.le_of_lt a),YaB (by rw [YaJ];omega),Yeu];rfl
   have c:(cur.toList.set p u).drop (p+1+us.length)=cur.toList.drop (p+(us.length+1)):=by rw [List.drop_set_of_lt qO];congr 1;omega
   rw [b,c,Yak,Yao];rfl
theorem Zik:∀ (us:List Value) (w:World) (g p:Nat),Upd (fun b=>b=g) w (putL w g p us)
 | [],_,_,_=>Yaa _ _
 | u::us,w,g,p=>((Yaa (fun b=>b=g) w).put1 (i:=p) u).trans (Zik us _ g (p+1)) fun _ _ h=>h
theorem Znx {w:World} {B n c g i:Nat} {T:TypeId} {l:List α} (h:w.ownsRow B T k (.slice (some ⟨g,0,none⟩) n c) n (l.flatMap f)) (hf:∀ x,(f x).length=k) (hk:0<k) (hi:i<n) (x:α) :
 (putL w g (i*k) (f x)).ownsRow B T k (.slice (some ⟨g,0,none⟩) n c) n ((l.set i x).flatMap f):=by
 have q:=Zcz h hf hk;obtain ⟨a,z,A,e,C,D,E⟩:=Zrs h;have r:i*k+k<=n*k:=by have:=Ycy k (show i+1<=n from hi);rw [Ycn] at this;exact this
 have s:n*k<=c*k:=Ycy k e;obtain ⟨b,F,o⟩:=ZoO (f x) A (p:=i*k) (by rw [hf];omega);have d:a.toList.length=c*k:=by rw [Ycf];exact D
 have j:b.size=c*k:=by rw [<- Ycf,o,Yaf,Yaf,YaJ,Yas,hf,d];omega
 have m:((l.set i x).flatMap f).length=n*k:=by rw [ZbY hf,Ycg,q]
 refine ⟨m,.inr ⟨g,c,b,rfl,z,F,e,C,j,?_⟩⟩;rw [Zrr hf l i x qO,o,<-E,hf];have t:(a.toList.take (n*k)).take (i*k)=a.toList.take (i*k):=by rw [List.take_take,YdD qO]
 have u:(a.toList.take (n*k)).drop (i*k+k)=(a.toList.drop (i*k+k)).take (n*k-(i*k+k)):=by rw [List.drop_take]
 rw [t,u];have v:(a.toList.take (i*k)).length=i*k:=by rw [YaJ,d];omega
 have y:=hf x;generalize a.toList.take (i*k)=X at *;generalize f x=Y at *;generalize a.toList.drop (i*k+k)=Z at *;generalize i*k=G at *;generalize n*k=H at *;rw [Yfw,v,YaB qO,Yfw,y,YaB qO];congr 3;omega
theorem Ztd {w:World} {B n c g i j:Nat} {T:TypeId} {l l':List α} (h:w.ownsRow B T k (.slice (some ⟨g,0,none⟩) n c) n (l.flatMap f)) (hf:∀ x,(f x).length=k) (hk:0<k) (hi:i<n) (hj:j<n) (x y:α) (he:(l.set i x).set j y=l') :
 (putL (putL w g (i*k) (f x)) g (j*k) (f y)).drew.ownsRow B T k (.slice (some ⟨g,0,none⟩) n c) n (l'.flatMap f)/\Upd (fun b=>b=g) w (putL (putL w g (i*k) (f x)) g (j*k) (f y)).drew:=by
 subst he;exact ⟨Znx (Znx h hf hk hi x) hf hk hj y,((Zik _ w g _).trans (Zik _ _ g _) fun _ _ h=>h).drew⟩
end
section
variable {α β κ:Type} {lt:κ->κ->Prop} [DecidableRel lt] {key:α->κ}
def insB (lt:κ->κ->Prop) [DecidableRel lt] (key:α->κ) (x:α):List α->List α
 | []=>[x]
 | y::l=>if lt (key y) (key x) then y::insB lt key x l else x::y::l
def ZdF (lt:κ->κ->Prop) [DecidableRel lt] (key:α->κ):List α->List α
 | []=>[]
 | x::l=>insB lt key x (ZdF lt key l)
theorem Zhi (L:Lin lt) (x:α):∀ l:List α,Zap lt key l->∃ P1 P2,l=P1++P2/\insB lt key x l=P1++x::P2/\(∀ y∈P1,lt (key y) (key x))/\∀ y∈P2,¬ lt (key y) (key x)
 | [],_=>⟨[],[],rfl,rfl,by simp,by simp⟩
 | y::l,h=>by
   obtain ⟨d,e⟩:=YbK.1 h;unfold insB;by_cases b:lt (key y) (key x)
   · obtain ⟨P1,P2,f,g,i,j⟩:=Zhi L x l e;rw [Yac b,g];refine ⟨y::P1,P2,by rw [f];rfl,rfl,fun z a=>?_,j⟩;rcases Yat.1 a with rfl | a
     · exact b
     exact i z a
   rw [Yab b];refine ⟨[],y::l,rfl,rfl,by simp,fun z a=>?_⟩;rcases Yat.1 a with rfl | a
   · exact b
   exact fun c=>b (L.le_lt (d z a) c)
theorem Zhj (L:Lin lt):∀ l:List α,Zap lt key (ZdF lt key l)
 | []=>Zap.nil
 | x::l=>by have ih:=Zhj L l;obtain ⟨P1,f,a,b,c,d⟩:=Zhi L x _ ih;unfold ZdF;rw [b];rw [a] at ih;exact ih.ins (fun y e=>L.asym (c y e)) d
theorem Zkc [DecidableEq κ] (L:Lin lt):∀ l:List α,ZaH key (ZdF lt key l) l
 | []=>Ydj _
 | x::l=>by have ih:=Zkc L l;obtain ⟨P1,a,b,c,d,e⟩:=Zhi (key:=key) L x _ (Zhj L l);unfold ZdF;rw [c];rw [b] at ih;exact (ZaH.forth L P1 a x d).trans ((Ydj [x]).app ih)
theorem ZkS [DecidableEq κ] (L:Lin lt) {s l:List α} (h1:Zap lt key s) (h2:ZaH key s l):s=ZdF lt key l :=
 Zap.unique L h1 (Zhj L l) (h2.trans (Zkc L l).symm)
theorem Zef [DecidableEq κ] (L:Lin lt) {l:List α} (h:Zap lt key l):ZdF lt key l=l:=(ZkS L h (Ydj _)).symm
end
section
variable {α β κ:Type} {lt:κ->κ->Prop} {key:α->κ}
theorem Zap.map {key':β->κ} {f:α->β} (hk:∀ x,key' (f x)=key x) {l:List α} (h:Zap lt key l):Zap lt key' (l.map f):=by unfold Zap at h ⊢;rw [Ydo];exact h.imp fun {a b} h=>by rw [hk,hk];exact h
theorem ZaH.map [DecidableEq κ] {key':β->κ} {f:α->β} (hk:∀ x,key' (f x)=key x) {l m:List α} (h:ZaH key l m):ZaH key' (l.map f) (m.map f):=fun k=>by
 have e:∀ l:List α,(l.map f).filter (fun x=>decide (key' x=k))=(l.filter fun x=>decide (key x=k)).map f:=fun l=>by rw [Ygk];congr 1;exact Yfx fun x _=>by simp only [Function.comp,hk]
 rw [e,e,h k]
theorem ZaH.of_perm [DecidableEq α] {l m:List α} (h:l.Perm m):ZaH (fun x:α=>x) l m:=fun k=>by
 have e:∀ l:List α,(l.filter fun x=>decide (x=k))=List.replicate (l.filter fun x=>decide (x=k)).length k:=fun l=>by rw [List.eq_replicate_iff];exact ⟨rfl,fun b a=>by simpa using (YdE.1 a).2⟩
 rw [e l,e m,(h.filter _).length_eq]
end
theorem ZpJ {α κ:Type} {key:α->κ} {i1 i2:DecidableEq κ} {l m:List α} (h:@ZaH α κ i1 key l m):@ZaH α κ i2 key l m:=by have e:i1=i2:=Subsingleton.elim _ _;subst e;exact h
instance ltS_dec:DecidableRel ltS:=fun a b=>inferInstanceAs (Decidable (a.data.toList<b.data.toList))
instance ltI_dec:DecidableRel (fun a b:Int=>a<b):=fun a b=>inferInstanceAs (Decidable (a<b))
abbrev Zic (l:List ByteArray):List ByteArray:=ZdF ltS (fun x=>x) l
def canN (x:Zaw):Zaw:=⟨x.id,Zic x.labels,ZdF ltS GPr.key x.props⟩
def canR (x:GRel):GRel:=⟨x.id,x.type,x.src,x.dst,ZdF ltS GPr.key x.props⟩
def Zcg (g:ZaN):ZaN:=⟨ZdF (fun a b:Int=>a<b) Zaw.id (g.nodes.map canN),ZdF (fun a b:Int=>a<b) GRel.id (g.rels.map canR)⟩
theorem Zny (ss:List (List UInt8)):((ss.mergeSort fun x y=>decide (x<=y)).map fun l=>(⟨l.toArray⟩:ByteArray))=Zic (ss.map fun l=>(⟨l.toArray⟩:ByteArray)):=by refine ZkS Zbd ?_ ((ZaH.of_perm ((List.mergeSort_perm ss _).map _)));unfold Zap;rw [Ydo];have d:=List.pairwise_mergeSort (le:=fun x y:List UInt8=>decide (x<=y)) (fun a b c d e=>by simp only [Ybc] at *;exact List.le_trans d e) (fun a b=>by simp only [YcH,Ybc];exact List.le_total a b) ss;refine d.imp fun {a b} h=>?_;simp only [Ybc] at h;exact List.not_lt.2 h
def cmpI (a b:Int):Int:=if a<b then -1 else if b<a then 1 else 0
theorem ZoP (a b:Int):cmpI a b<0↔a<b:=by
 unfold cmpI;by_cases h:a<b
 · rw [Yac h];simp [h]
 rw [Yab h];constructor
 · intro c;split at c <;> omega
 intro c;omega
theorem Zhk (a:Int) (w:World):Calls Tryz.prog 180 #[.int .i64 a] w fun e w'=>e=.returned (.bool false)/\w=w':=by go_enter Tryz.func180,Tryz.ntmps180;go_wp2;go_ret;exact ⟨Zbh (by simp),rfl⟩
theorem ZhJ (a b:Int) (w:World):Calls Tryz.prog 136 #[.int .i64 a,.int .i64 b] w fun e w'=>e=.returned (.int .i64 (cmpI a b))/\w=w':=by
 by_cases d:a<b
 · have c:=qH (show cmpI a b = -1 from Yac d);go_enter Tryz.func136,Tryz.ntmps136;go_wp2_with (go_at_call 180;refine (Zhk _ _).mono ?_;rintro e w' ⟨rfl,rfl⟩);go_ret;exact ⟨by rw [c.out];rfl,rfl⟩
 by_cases f:b<a
 · have c:=qH (show cmpI a b=1 from by unfold cmpI;rw [Yab d,Yac f]);go_enter Tryz.func136,Tryz.ntmps136;go_wp2_with (go_at_call 180;refine (Zhk _ _).mono ?_;rintro e w' ⟨rfl,rfl⟩);go_ret;exact ⟨by rw [c.out];rfl,rfl⟩
 have c:=qH (show cmpI a b=0 from by unfold cmpI;rw [Yab d,Yab f]);go_enter Tryz.func136,Tryz.ntmps136;go_wp2_with (go_at_call 180;refine (Zhk _ _).mono ?_;rintro e w' ⟨rfl,rfl⟩);go_ret;exact ⟨by rw [c.out];rfl,rfl⟩
def cmpS (a b:ByteArray):Int:=Lib.compareBytes a.data.toList b.data.toList
theorem ZoQ:∀ a b:List UInt8,Lib.compareBytes a b<0↔a<b
 | [],[]=>by simp [Lib.compareBytes]
 | [],_::_=>by simp [Lib.compareBytes]
 | _::_,[]=>by simp [Lib.compareBytes]
 | a::l,b::m=>by
   unfold Lib.compareBytes;rw [List.cons_lt_cons_iff];by_cases c:a<b
   · simp [c]
   rw [Yab c];by_cases d:b<a
   · have e:a≠b:=by rintro rfl;exact c d
     simp [c,d,e]
   have e:a=b:=UInt8.le_antisymm (UInt8.not_lt.1 d) (UInt8.not_lt.1 c);rw [Yab d,ZoQ l m];simp [e]
theorem ZoR (a b:ByteArray):cmpS a b<0↔ltS a b:=ZoQ _ _
theorem ZjK (a b:ByteArray) (w:World):Calls Tryz.prog 210 #[.string a,.string b] w fun e w'=>e=.returned (.int .i64 (cmpS a b))/\w=w':=by go_enter Tryz.func210,Tryz.ntmps210;go_wp2;rw [run_callFunc_extern Tryz.func230 (by kernel_rfl) (by kernel_rfl) (by kernel_rfl) (e:=Extern.BytealgCompare.compare) (by kernel_rfl),Lib.run_compareString];simp only [Result.andThen];rw [Oper.upon_value];go_wp2;go_ret;exact ⟨rfl,rfl⟩
theorem ZiS (a b:ByteArray) (w:World):Calls Tryz.prog 178 #[.string a,.string b] w fun e w'=>e=.returned (.int .i64 (cmpS a b))/\w=w':=by go_enter Tryz.func178,Tryz.ntmps178;go_wp2_with fail;refine (ZjK _ _ _).mono ?_;rintro e w' ⟨rfl,rfl⟩;go_wp2;go_ret;exact ⟨rfl,rfl⟩
theorem Zkd {c:Int} (k l:ByteArray) (a1 a2 a3 a4 a5 b1 b2 b3 b4 b5:Value) (w0 w:World) (hc:cmpS k l=c) (hs:Same w0 w) :
 Calls Tryz.prog 177 #[.agg #[.string k,a1,a2,a3,a4,a5],.agg #[.string l,b1,b2,b3,b4,b5]] w fun e w'=>e=.returned (.int .i64 c)/\Same w0 w':=by
 subst hc;go_enter Tryz.func177,Tryz.ntmps177;go_wp2_with fail;refine (ZiS _ _ _).mono ?_;rintro e w' ⟨rfl,rfl⟩;go_wp2;go_ret;exact ⟨rfl,hs.same (((Yaa _ w).alloc _).alloc _)⟩
theorem Zfx {c:Int} (k l:Int) (a1 a2 b1 b2:Value) (w0 w:World) (hc:cmpI k l=c) (hs:Same w0 w) :
 Calls Tryz.prog 135 #[.agg #[.int .i64 k,a1,a2],.agg #[.int .i64 l,b1,b2]] w fun e w'=>e=.returned (.int .i64 c)/\Same w0 w':=by
 subst hc;go_enter Tryz.func135,Tryz.ntmps135;go_wp2_with fail;refine (ZhJ _ _ _).mono ?_;rintro e w' ⟨rfl,rfl⟩;go_wp2;go_ret;exact ⟨rfl,hs.same (((Yaa _ w).alloc _).alloc _)⟩
theorem Zgt {c:Int} (k l:Int) (a1 a2 a3 a4 b1 b2 b3 b4:Value) (w0 w:World) (hc:cmpI k l=c) (hs:Same w0 w) :
 Calls Tryz.prog 138 #[.agg #[.int .i64 k,a1,a2,a3,a4],.agg #[.int .i64 l,b1,b2,b3,b4]] w fun e w'=>e=.returned (.int .i64 c)/\Same w0 w':=by
 subst hc;go_enter Tryz.func138,Tryz.ntmps138;go_wp2_with fail;refine (ZhJ _ _ _).mono ?_;rintro e w' ⟨rfl,rfl⟩;go_wp2;go_ret;exact ⟨rfl,hs.same (((Yaa _ w).alloc _).alloc _)⟩
end
end Go.Proofs.YtmkjfhnlnhceiaaGreatDoor
