/- Lemmas: walks and plain laws. -/
import Derived.Deep.LoopGhost
import Derived.Deep.RegionLaw
import Derived.Test.YtmkjfhnlnhceiaaGreatDoorF02
set_option maxRecDepth 100000
set_option maxHeartbeats 16000000
namespace Go.Proofs.YtmkjfhnlnhceiaaGreatDoor
variable {l r:List UInt8} {k n e:Int} {m N c i:Nat} {s:ByteArray} {w:World} {F S:Nat->Prop} {A:Option Addr}
section
theorem LH (n:Nat):∀ k,be (beb k n)=n % 256 ^ k:=by
 intro k
 induction k with
 | zero=>simp [beb,be,yK]
 | succ k ih =>
   rw [beb,zS,rA,ih,Nat.pow_succ,Nat.mod_mul];simp only [UInt8.toNat_ofNat'];rw [xK,NM]
theorem Zwp:∀ (l m:List UInt8),l.length=m.length->be l=be m->l=m:=by
 intro l
 induction l with
 | nil=>intro m h _;exact (CG h.symm).symm
 | cons c l ih =>
   intro m h b;cases m with
   | nil=>cases h
   | cons d m =>
     have a:l.length=m.length:=by simpa using h
     rw [zS,zS,a] at b;have e:=pG l;have i:=pG m;rw [a] at e;generalize 256 ^ m.length=P at *;have f:0<P:=qO;have g:c.toNat=d.toNat:=by
      have j:(c.toNat*P+be l) / P=c.toNat:=by rw [xK,Nat.mul_add_div f,NO e,IF]
      have k:(d.toNat*P+be m) / P=d.toNat:=by rw [xK,Nat.mul_add_div f,NO i,IF]
      rw [<- j,<-k,b]
     rw [vL.1 g,ih m a (by rw [g] at b;omega)]
theorem SP {k n:Nat} (hl:l.length=k) (hn:n % 256 ^ k=be l):beb k n=l :=
 Zwp _ _ (by rw [rA,hl]) (by rw [LH,hn])
theorem IV (h : -9223372036854775808<=n/\n<=9223372036854775807):i64 (u64 n)=n:=by unfold i64 u64;split <;> omega
theorem LV (h:m<18446744073709551616):u64 (i64 m)=m:=by unfold i64 u64;split <;> omega
def wid (k:Int):Nat:=if k=1 then 1 else 8
theorem AS (k n:Int):(AD k n).length=wid k:=by unfold AD wid;split <;> simp [rA]
theorem ZpZ (h:oC 1 n=0):n=0\/n=1:=by
 unfold oC at h;by_cases a:n=0
 · exact .inl a
 by_cases b:n=1
 · exact .inr b
 rw [gA ⟨rfl,a,b⟩] at h;cases h
theorem Zqa (k n:Int):oC k n≠10:=by
 unfold oC;split
 · decide
 split <;> decide
theorem MN (k:Int) (l:List UInt8):pNum k l=if l.length<wid k then .error 10 else if oC k (i64 (be (l.take (wid k))))≠0 then .error (oC k (i64 (be (l.take (wid k))))) else .ok (i64 (be (l.take (wid k))),l.drop (wid k)):=rfl
theorem Zrv (he:oC k n=0) (hr : -9223372036854775808<=n/\n<=9223372036854775807):i64 (be (AD k n))=n:=by
 unfold AD;by_cases a:k=1
 · subst a;rw [gA rfl,LH];rcases ZpZ he with rfl | rfl <;> decide
 rw [aA a,LH,OI (by have:=rV n;have:256 ^ 8=18446744073709551616:=(qD);omega),IV hr]
theorem CS (he:oC k n=0) (hr : -9223372036854775808<=n/\n<=9223372036854775807) (t:List UInt8):pNum k (AD k n++t)=.ok (n,t):=by rw [MN,aA (by rw [kA,AS];omega),List.take_left' (AS k n),List.drop_left' (AS k n),Zrv he hr,aA (by simpa using he)]
theorem MV (k:Int):wid k<=8:=by unfold wid;split <;> omega
theorem TP (h:pNum k l=.ok (n,r)):AD k n++r=l/\oC k n=0 /\ -9223372036854775808<=n/\n<=9223372036854775807:=by
 rw [MN] at h;split at h
 · cases h
 rename_i e;split at h
 · cases h
 rename_i d;injection h with h
 injection h with h3 h4
 have b:=NP l (wid k) (MV k);have a:(l.take (wid k)).length=wid k:=by rw [RB];omega
 refine ⟨?_,?_,?_⟩
 · have:AD k n=l.take (wid k):=by
    rw [<- h3];unfold AD;rw [LV b];unfold wid at a ⊢;split
    · rename_i c;rw [gA c] at a;exact SP a (OI (by have:=pG (l.take 1);rwa [a] at this))
    rename_i c;rw [aA c] at a;exact SP a (OI (by have:=pG (l.take 8);rwa [a] at this))
   rw [this,<-h4,tF]
 · rw [<- h3];exact uF.1 d
 rw [<- h3];exact OP _ b
theorem DS (hs:s.size<=1000) (t:List UInt8):jD (BE s++t)=.ok (s,t):=by
 have a:be ((BE s++t).take 2)=s.size:=by unfold BE;rw [vA,List.take_left' (rA 2 _),LH,OI (by have:256 ^ 2=65536:=(qD);omega)]
 have b:(BE s++t).drop 2=s.data.toList++t:=by unfold BE;rw [vA,List.drop_left' (rA 2 _)]
 unfold jD;rw [a,b,aA (by rw [kA,KK];omega),aA qO,aA (by rw [kA,WL];omega),List.take_left' (WL s),List.drop_left' (WL s)]
theorem UP (h:jD l=.ok (s,r)):BE s++r=l/\s.size<=1000:=by
 unfold jD at h;split at h
 · cases h
 rename_i d;split at h
 · cases h
 rename_i e;split at h
 · cases h
 rename_i f;injection h with h
 injection h with h4 h5
 have a:s.size=be (l.take 2):=by rw [<- h4];show ((l.drop 2).take (be (l.take 2))).toArray.size=_;rw [GF,RB];omega
 refine ⟨?_,qO⟩;have c:beb 2 s.size=l.take 2:=by
  have b:(l.take 2).length=2:=by rw [RB];omega
  exact SP b (by rw [a];exact OI (by have:=pG (l.take 2);rwa [b] at this))
 unfold BE;rw [c,<-h5,<-h4,vA];show l.take 2++(((l.drop 2).take (be (l.take 2))).toArray.toList++_)=l;rw [tF,tF]
section many
variable {α:Type} {p:List UInt8->Except Int (α×List UInt8)} {e:α->List UInt8}
theorem NV (t:List UInt8):∀ xs:List α,(∀ x∈xs,∀ t,p (e x++t)=.ok (x,t))->wC p xs.length (xs.flatMap e++t)=.ok (xs,t):=by
 intro xs
 induction xs with
 | nil=>intro _;simp [wC]
 | cons x xs ih =>
   intro h;simp only [BA,wC,iD,vA];rw [h x qS];simp only;rw [ih fun y a=>h y (by simp [a])]
theorem OV {Q:α->Prop} (hp:∀ l x r,p l=.ok (x,r)->e x++r=l/\Q x):∀ (n:Nat) (l:List UInt8) (xs:List α) (r:List UInt8),wC p n l=.ok (xs,r)->xs.flatMap e++r=l/\xs.length=n/\∀ x∈xs,Q x:=by
 intro n
 induction n with
 | zero =>
   intro l xs r h;simp only [wC] at h;injection h with h
   injection h with a b
   subst a b;simp
 | succ n ih =>
   intro l xs r h;simp only [wC] at h;split at h
   · cases h
   rename_i x k a;split at h
   · cases h
   rename_i m o b;injection h with h
   injection h with h3 h4
   subst h3 h4;obtain ⟨d,f,g⟩:=ih _ _ _ b;obtain ⟨i,j⟩:=hp _ _ _ a;refine ⟨by rw [iD,vA,d,i],by simp [f],?_⟩;intro y c;rcases TA.1 c with rfl | c
   · exact j
   exact g y c
theorem PV {B:Nat} (hp:∀ l,p l=.error 10->l.length<B) (hq:∀ l x r,p l=.ok (x,r)->l.length<=r.length+B):∀ (n:Nat) (l:List UInt8),wC p n l=.error 10->l.length<n*B:=by
 intro n
 induction n with
 | zero=>intro l h;simp only [wC] at h;cases h
 | succ n ih =>
   intro l h;simp only [wC] at h;rw [BG];split at h
   · rename_i c a;injection h with h
     subst h;have:=hp _ a;omega
   rename_i x d a;split at h
   · rename_i e b;injection h with h
     subst h;have:=ih _ b;have:=hq _ _ _ a;omega
   cases h
theorem QV (hs:∀ l e,p l=.error e->e≠10->∀ t,p (l++t)=.error e) (hq:∀ l x r,p l=.ok (x,r)->∀ t,p (l++t)=.ok (x,r++t)):∀ (n:Nat) (l:List UInt8) (e:Int),wC p n l=.error e->e≠10->∀ t,wC p n (l++t)=.error e:=by
 intro n
 induction n with
 | zero=>intro l e h;simp only [wC] at h;cases h
 | succ n ih =>
   intro l e h b t;simp only [wC] at h ⊢;split at h
   · rename_i d a;injection h with h
     subst h;rw [hs _ _ a b]
   rename_i x f a;rw [hq _ _ _ a];simp only;split at h
   · rename_i g c;injection h with h
     subst h;rw [ih _ _ c b]
   cases h
end many
theorem RV (h:pNum k l=.error e) (he:e≠10) (t:List UInt8):pNum k (l++t)=.error e:=by
 rw [MN] at h ⊢;split at h
 · injection h with h;omega
 rename_i b;rw [aA (by rw [kA];omega),tR qO];split at h
 · rename_i a;rw [gA a,h]
 cases h
theorem SV (h:jD l=.error e) (he:e≠10) (t:List UInt8):jD (l++t)=.error e:=by
 unfold jD at h ⊢;split at h
 · injection h with h;omega
 rename_i b;rw [aA (by rw [kA];omega),tR qO];split at h
 · rename_i a;rw [gA a,h]
 split at h
 · injection h with h;omega
 cases h
theorem Zvg (h:pNum k l=.ok (n,r)) (t:List UInt8):pNum k (l++t)=.ok (n,r++t):=by obtain ⟨a,b,c⟩:=TP h;rw [<- a,vA,CS b c]
theorem Ztx (h:jD l=.ok (s,r)) (t:List UInt8):jD (l++t)=.ok (s,r++t):=by obtain ⟨a,b⟩:=UP h;rw [<- a,vA,DS b]
theorem TV (h:pNum k l=.error 10):l.length<8:=by
 rw [MN] at h;split at h
 · have:=MV k;omega
 split at h
 · injection h with h
   exact absurd h (Zqa _ _)
 cases h
theorem UV (h:jD l=.error 10):l.length<1002:=by
 unfold jD at h;split at h
 · omega
 split at h
 · injection h with h;omega
 split at h
 · rename_i a;rw [QA] at a;omega
 cases h
inductive MH:GVal->Prop
 | num (k n:Int) (h1:1<=k) (h3:k<=3) (he:oC k n=0):MH ⟨k,n,⟨#[]⟩,[],[]⟩
 | text (s:ByteArray) (hs:s.size<=1000):MH ⟨4,0,s,[],[]⟩
 | nums (k:Int) (xs:List Int) (h1:1<=k) (h3:k<=3) (hl:xs.length<=40) (he:∀ x∈xs,oC k x=0):MH ⟨k+4,0,⟨#[]⟩,xs,[]⟩
 | texts (xs:List ByteArray) (hl:xs.length<=40) (hs:∀ s∈xs,s.size<=1000):MH ⟨8,0,⟨#[]⟩,[],xs⟩
theorem ES:∀ {l:List Int},lF k l=0↔∀ x∈l,oC k x=0
 | []=>by simp [lF]
 | x::l=>by
   simp only [lF,TA,forall_eq_or_imp];split
   · rename_i h;exact ⟨fun a=>absurd a h,fun a=>a.1⟩
   rename_i h;rw [ES];exact ⟨fun a=>⟨uF.1 h,a⟩,fun a=>a.2⟩
theorem Zrw (h:s.size=0):s=⟨#[]⟩:=by obtain ⟨a⟩:=s;have:a=#[]:=iV h;rw [this]
theorem FS {g:GVal} (h:chk g=0):MH g:=by
 obtain ⟨v,x,o,m,n,w,e⟩:=QJ h;obtain ⟨a,f,d,b,c⟩:=g;simp only at v x m n w e;have p:=o;unfold YI at o;simp only [uR,Bool.and_eq_false_iff,kR,decide_eq_false_iff_not,WC,uR] at o;obtain ⟨⟨⟨z,A⟩,B⟩,C⟩:=o;have j:chk ⟨a,f,d,b,c⟩=if a<4 then oC a f else lF (a-4) b:=by
  unfold chk;rw [aA (by simp only;omega),aA (by rw [p];simp),aA (by simp only;omega),aA];intro i;rcases i with i | i
  · simp only at i;omega
  obtain ⟨s,y,i⟩:=iG.1 i;have:=e s y;simp at i;omega
 rw [j] at h;have t:a≠4->d=⟨#[]⟩:=fun k=>Zrw qO;have q:a<5\/a=8->b=[]:=fun k=>CG qO;have r:a≠8->c=[]:=fun k=>CG qO;by_cases k:a<4
 · rw [gA k] at h;rw [t qO,q qO,r qO];exact .num _ _ v qO h
 rw [aA k] at h;obtain rfl:f=0:=qO;by_cases u:a=4
 · subst u;rw [q qO,r qO];exact .text _ w
 rw [t u];by_cases l:a=8
 · subst l;rw [q qO];exact .texts _ n e
 rw [r l];have:=MH.nums (a-4) b qO qO m (ES.1 h);rwa [show a-4+4=a by omega] at this
theorem GS:(⟨#[]⟩:ByteArray)=ByteArray.empty:=rfl
theorem VV {g:GVal} (h:MH g):chk g=0:=by
 cases h with
 | num k n h1 h3 he =>
   have b:¬ (3:Int)<k:=qO;unfold chk;rw [aA (by simp only;omega),aA (by simp [YI,b,GS]),aA qS,aA (by simp;decide),gA (by simp only;omega)];exact he
 | text s hs =>
   unfold chk;rw [aA (by simp only;omega),aA (by simp [YI]),aA qS,aA qP,aA (by simp only;omega)];rfl
 | nums k xs h1 h3 hl he =>
   have b:¬ k+4<5:=qO;have d:¬ k+4=8:=qO;unfold chk;rw [aA (by simp only;omega),aA (by simp [YI,b,d,GS]),aA qP,aA (by simp;decide),aA (by simp only;omega)];simp only [show k+4-4=k by omega];exact ES.2 he
 | texts xs hl hs =>
   unfold chk;rw [aA (by simp only;omega),aA (by simp [YI,GS]),aA qP,aA,aA (by simp only;omega)]
   · rfl
   intro a;rcases a with a | a
   · simp at a;revert a;decide
   obtain ⟨s,c,a⟩:=iG.1 a;have:=hs s c;simp at a;omega
theorem WP (n:Nat):beb 1 n=[UInt8.ofNat n]:=by simp [beb]
def encR (g:GVal):List UInt8:=UInt8.ofNat g.kind.toNat::nG g
theorem IS {g:GVal} (h:chk g=0):enc g=encR g:=by unfold enc encR;rw [gA h,WP];rfl
theorem MS (k n:Int) (h:k<=3):nG ⟨k,n,⟨#[]⟩,[],[]⟩=AD k n:=gA (by simp only;omega)
theorem NS (s:ByteArray):nG ⟨4,0,s,[],[]⟩=BE s:=by unfold nG;simp only;rw [aA qO,gA trivial]
theorem OS (k:Int) (xs:List Int) (h1:1<=k):nG ⟨k+4,0,⟨#[]⟩,xs,[]⟩=UInt8.ofNat xs.length::xs.flatMap (AD k):=by unfold nG;simp only [mC,IF,OO,ZC];rw [aA qO,aA qO,WP,show k+4-4=k by omega];rfl
theorem QS (xs:List ByteArray):nG ⟨8,0,⟨#[]⟩,[],xs⟩=UInt8.ofNat xs.length::xs.flatMap BE:=by unfold nG;simp only [mC,AE,OO,SB];rw [aA qO,aA qO,WP];rfl
theorem Zqb (h:N<=255):(UInt8.ofNat ((N:Int)).toNat).toNat=N:=by rw [UInt8.toNat_ofNat',XB];omega
theorem ZnS (h:N<=200):(UInt8.ofNat ((N:Int)+4).toNat).toNat=N+4:=by rw [UInt8.toNat_ofNat'];omega
theorem WV {n:Nat} (h:n<=255):(UInt8.ofNat n).toNat=n:=by rw [UInt8.toNat_ofNat'];omega
theorem Zty (N:Nat) (h1:1<=N) (h3:N<=3) (l:List UInt8):pVal (UInt8.ofNat ((N:Int)).toNat::l)=match pNum N l with
 | .error e=>.error e
 | .ok (n,r)=>.ok (⟨N,n,⟨#[]⟩,[],[]⟩,r):=by
 unfold pVal;simp only;rw [Zqb qO,aA qO,aA qO,aA qO];cases pNum N l <;> rfl
theorem Zrx (l:List UInt8):pVal (UInt8.ofNat (4:Int).toNat::l)=match jD l with
 | .error e=>.error e
 | .ok (s,r)=>.ok (⟨4,0,s,[],[]⟩,r):=by
 unfold pVal;simp only;rw [show (UInt8.ofNat (4:Int).toNat).toNat=4 from rfl,aA qO,aA qO,gA qO];cases jD l <;> rfl
theorem Zry (N:Nat) (h1:1<=N) (h3:N<=3) (n:Nat) (hn:n<=40) (l:List UInt8):pVal (UInt8.ofNat ((N:Int)+4).toNat::UInt8.ofNat n::l)=match wC (pNum N) n l with
 | .error e=>.error e
 | .ok (xs,r)=>.ok (⟨(N:Int)+4,0,⟨#[]⟩,xs,[]⟩,r):=by
 unfold pVal;simp only;rw [ZnS qO,aA qO,gA qO];unfold oG;simp only;rw [WV qO,aA qO,aA qO,show ((N+4:Nat):Int)-4=(N:Int) by omega,show ((N+4:Nat):Int)=(N:Int)+4 by omega];cases wC (pNum N) n l <;> rfl
theorem Zqc (n:Nat) (hn:n<=40) (l:List UInt8):pVal (UInt8.ofNat (8:Int).toNat::UInt8.ofNat n::l)=match wC jD n l with
 | .error e=>.error e
 | .ok (xs,r)=>.ok (⟨8,0,⟨#[]⟩,[],xs⟩,r):=by
 unfold pVal;simp only;rw [show (UInt8.ofNat (8:Int).toNat).toNat=8 from rfl,aA qO,gA qO];unfold oG;simp only;rw [WV qO,aA qO,gA qR];cases wC jD n l <;> rfl
theorem XV {g:GVal} (hg:MH g) (hf:g.Fits) (t:List UInt8):pVal (encR g++t)=.ok (g,t):=by
 have b:=hf.num;have c:=hf.range;unfold encR;cases hg with
 | num k n h1 h3 he =>
   obtain ⟨N,rfl⟩:=tL (show 0<=k by omega);rw [MS _ _ h3,EB,Zty N qO qO,CS he b]
 | text s hs=>rw [NS,EB,Zrx,DS hs]
 | nums k xs h1 h3 hl he =>
   obtain ⟨N,rfl⟩:=tL (show 0<=k by omega);rw [OS _ _ h1,EB,EB,Zry N qO qO _ hl,NV t xs fun x a t=>CS (he x a) (c x a) t]
 | texts xs hl hs=>rw [QS,EB,EB,Zqc _ hl,NV t xs fun x a t=>DS (hs x a) t]
theorem YV {g:GVal} (h:pVal l=.ok (g,r)):MH g/\g.Fits/\encR g++r=l:=by
 unfold pVal at h;split at h
 · cases h
 rename_i c z;have v:=c.toNat_lt;split at h
 · cases h
 rename_i A;have a:UInt8.ofNat ((c.toNat:Int)).toNat=c:=by rw [XB];exact UInt8.ofNat_toNat
 split at h
 · rename_i w;unfold oG at h;split at h
   · cases h
   rename_i d B;have k:UInt8.ofNat d.toNat=d:=UInt8.ofNat_toNat;split at h
   · cases h
   rename_i y;split at h
   · rename_i u;split at h
     · cases h
     rename_i o p b;injection h with h
     injection h with h3 h5
     obtain ⟨f,i,j⟩:=OV (fun _ _ _ q=>UP q) _ _ _ _ b;rw [u] at h3 a;subst h3 h5;refine ⟨.texts o qO j,⟨⟨qS,qS⟩,⟨qS,qS⟩,qS⟩,?_⟩;unfold encR;rw [QS,i,k,EB,EB,f];exact tB (·::_) a
   rename_i u;split at h
   · cases h
   rename_i o p b;injection h with h
   injection h with h3 h5
   obtain ⟨f,i,j⟩:=OV (e:=AD (c.toNat-4)) (Q:=fun x=>oC (c.toNat-4) x=0 /\ -9223372036854775808<=x/\x<=9223372036854775807) (fun _ _ _ q=>TP q) _ _ _ _ b;subst h3 h5;refine ⟨?_,⟨by simp only;omega,qS,fun x t=>(j x t).2⟩,?_⟩
   · have:=MH.nums ((c.toNat:Int)-4) o qO qO qO fun x t=>(j x t).1;rwa [show (c.toNat:Int)-4+4=c.toNat by omega] at this
   have:=OS ((c.toNat:Int)-4) o qO;rw [show (c.toNat:Int)-4+4=c.toNat by omega] at this;unfold encR;rw [this,i,k,EB,EB,f,a]
 rename_i w;split at h
 · rename_i m;split at h
   · cases h
   rename_i s p b;injection h with h
   injection h with h3 h5
   obtain ⟨f,i⟩:=UP b;subst h3 h5;refine ⟨.text s i,⟨⟨qS,qS⟩,⟨qS,qS⟩,qS⟩,?_⟩;unfold encR;rw [NS,EB,f];rw [m] at a;exact tB (·::_) a
 rename_i m;split at h
 · cases h
 rename_i n p b;injection h with h
 injection h with h3 h5
 obtain ⟨f,i,j⟩:=TP b;subst h3 h5;refine ⟨.num _ n qO qO i,⟨by simp only;omega,j,qS⟩,?_⟩;unfold encR;rw [MS _ _ qO,EB,f,a]
theorem Zrz (h:pVal l=.error e) (he:e≠10) (t:List UInt8):pVal (l++t)=.error e:=by
 unfold pVal at h ⊢;split at h
 · injection h with h;omega
 rename_i c o;simp only [EB];split at h
 · rename_i i;rw [gA i,h]
 rename_i i;rw [aA i];split at h
 · rename_i j;rw [gA j];unfold oG at h ⊢;split at h
   · injection h with h;omega
   rename_i d p;simp only [EB];split at h
   · rename_i a;rw [gA a,h]
   rename_i a;rw [aA a];split at h
   · rename_i k;rw [gA k];split at h
     · rename_i m b;injection h with h
       subst h;rw [QV (fun _ _ f n=>SV f n) (fun _ _ _ f=>Ztx f) _ _ _ b he]
     cases h
   rename_i k;rw [aA k];split at h
   · rename_i m b;injection h with h
     subst h;rw [QV (fun _ _ f n=>RV f n) (fun _ _ _ f=>Zvg f) _ _ _ b he]
   cases h
 rename_i j;rw [aA j];split at h
 · rename_i g;rw [gA g];split at h
   · rename_i m b;injection h with h
     subst h;rw [SV b he]
   cases h
 rename_i g;rw [aA g];split at h
 · rename_i m b;injection h with h
   subst h;rw [RV b he]
 cases h
theorem ZrA (h:pNum k l=.ok (n,r)):l.length<=r.length+8:=by obtain ⟨a,_⟩:=TP h;rw [<- a,kA];have:=XL k n;omega
theorem Zqd (h:jD l=.ok (s,r)):l.length<=r.length+1002:=by obtain ⟨a,b⟩:=UP h;rw [<- a,kA,KK];omega
theorem Ztz (h:pVal l=.error 10):l.length<40082:=by
 unfold pVal at h;split at h
 · simp
 rename_i c j;rw [BA];split at h
 · injection h with h;omega
 split at h
 · unfold oG at h;split at h
   · simp
   rename_i d k;rw [BA];split at h
   · injection h with h;omega
   rename_i i;split at h
   · split at h
     · rename_i e a;injection h with h
       subst h;have f:=PV (B:=1002) (fun _ b=>UV b) (fun _ _ _ b=>Zqd b) _ _ a;have g:d.toNat*1002<=40*1002:=gG _ qO;omega
     cases h
   split at h
   · rename_i e a;injection h with h
     subst h;have f:=PV (B:=8) (fun _ b=>TV b) (fun _ _ _ b=>ZrA b) _ _ a;have g:d.toNat*8<=40*8:=gG _ qO;omega
   cases h
 split at h
 · split at h
   · rename_i e a;injection h with h
     subst h;have:=UV a;omega
   cases h
 split at h
 · rename_i e a;injection h with h
   subst h;have:=TV a;omega
 cases h
theorem ZrB {g:GVal} (h:MH g):(encR g).length<=40082:=by
 unfold encR;rw [BA];cases h with
 | num k n h1 h3 he =>
   rw [MS _ _ h3];have:=XL k n;omega
 | text s hs =>
   rw [NS,KK];omega
 | nums k xs h1 h3 hl he =>
   rw [OS _ _ h1,BA];have:=JN k xs;omega
 | texts xs hl hs =>
   rw [QS,BA];have:=LN xs hs;omega
theorem ZrC (l:List UInt8) (hm:40082<=m):decP (l.take m)=decP l:=by
 by_cases a:l.length<=m
 · rw [cB a]
 have c:(l.take m).length=m:=by rw [RB];omega
 cases h:pVal (l.take m) with
 | error e =>
   have d:e≠10:=by rintro rfl;have:=Ztz h;omega
   have b:=Zrz h d (l.drop m);rw [tF] at b;rw [FN h,FN b]
 | ok x =>
   obtain ⟨g,r⟩:=x;obtain ⟨i,b,j⟩:=YV h;have f:pVal l=.ok (g,r++l.drop m):=by have:=XV i b (r++l.drop m);rwa [<- vA,j,tF] at this
   rw [GN h,GN f,c,kA,QA];congr 2;omega
theorem ZtA {g:GVal} (h:chk g=0) (hf:g.Fits) (t:List UInt8):decP (enc g++t)=(g,(enc g).length,0):=by rw [IS h];rw [GN (XV (FS h) hf t),kA];congr 2;omega
theorem ZtB {g:GVal} (h:chk g=0) (hf:g.Fits):decD (enc g).length (decP (enc g))=(g,0):=by have:=ZtA h hf [];rw [ZC] at this;rw [this];unfold decD;rw [aA qS]
theorem ZV:¬ pNum k l=.error 0:=by
 intro h;rw [MN] at h;split at h
 · cases h
 split at h
 · rename_i a;injection h with h
   exact a h
 cases h
theorem aW:¬ jD l=.error 0:=by
 intro h;unfold jD at h;split at h
 · cases h
 split at h
 · cases h
 split at h
 · cases h
 cases h
theorem bW {α:Type} {p:List UInt8->Except Int (α×List UInt8)} (hp:∀ l,¬ p l=.error 0):∀ (n:Nat) (l:List UInt8),¬ wC p n l=.error 0:=by
 intro n
 induction n with
 | zero=>intro l h;simp only [wC] at h;cases h
 | succ n ih =>
   intro l h;simp only [wC] at h;split at h
   · rename_i c a;injection h with h
     subst h;exact hp _ a
   split at h
   · rename_i d b;injection h with h
     subst h;exact ih _ b
   cases h
theorem ZrD:¬ pVal l=.error 0:=by
 intro a;unfold pVal at a;split at a
 · cases a
 split at a
 · cases a
 split at a
 · unfold oG at a;split at a
   · cases a
   split at a
   · cases a
   split at a
   · split at a
     · rename_i c b;injection a with a
       subst a;exact bW (fun _ d=>aW d) _ _ b
     cases a
   split at a
   · rename_i c b;injection a with a
     subst a;exact bW (fun _ d=>ZV d) _ _ b
   cases a
 split at a
 · split at a
   · rename_i c b;injection a with a
     subst a;exact aW b
   cases a
 split at a
 · rename_i c b;injection a with a
   subst a;exact ZV b
 cases a
theorem ZrE {g:GVal} (h:decD l.length (decP l)=(g,0)):chk g=0/\g.Fits/\enc g=l:=by
 cases hv:pVal l with
 | error e =>
   rw [FN hv] at h;have f:e=0:=by
    unfold decD at h;split at h
    · injection h with _ h
      cases h
    injection h with _ h
   subst f;exact absurd hv ZrD
 | ok x =>
   obtain ⟨j,r⟩:=x;obtain ⟨d,k,b⟩:=YV hv;rw [GN hv] at h;unfold decD at h;split at h
   · injection h with _ h
     cases h
   rename_i m;injection h with a _
   subst a;have i:r=[]:=by
    have a:=tV hv;have c:=tB List.length b;rw [kA] at c;have n:(encR j).length>=1:=by unfold encR;simp
    cases r with
    | nil=>rfl
    | cons x r=>exact absurd ⟨rfl,by show l.length-(x::r).length<l.length;rw [BA] at c a ⊢;omega⟩ m
   subst i;rw [ZC] at b;exact ⟨VV d,k,by rw [IS (VV d),b]⟩
abbrev cW:BitVec 32:=0xedb88320#32
def bst (c:BitVec 32):BitVec 32:=(c >>> 1) ^^^ (if c.getLsbD 0 then cW else 0#32)
def crcB (c:BitVec 32) (x:UInt8):BitVec 32:=bst (bst (bst (bst (bst (bst (bst (bst (c ^^^ x.toBitVec.setWidth 32))))))))
def crcU (c:BitVec 32) (bs:List UInt8):BitVec 32:=bs.foldl crcB c
def crcS (bs:List UInt8):BitVec 32 := ~~~ (crcU (~~~ 0#32) bs)
theorem Zvh (a b:BitVec 32):bst (a ^^^ b)=bst a ^^^ bst b:=by
 unfold bst;rw [BitVec.ushiftRight_xor_distrib,BitVec.getLsbD_xor];cases a.getLsbD 0 <;> cases b.getLsbD 0 <;> simp [BitVec.xor_assoc]
 · rw [BitVec.xor_comm (b >>> 1)]
 rw [BitVec.xor_comm cW,BitVec.xor_assoc,BitVec.xor_self,BitVec.xor_zero]
theorem ZtC (c:BitVec 32) (a b:List UInt8):crcU c (a++b)=crcU (crcU c a) b:=by simp [crcU]
def crcT:Array (BitVec 32):=#[0x00000000#32,0x1db71064#32,0x3b6e20c8#32,0x26d930ac#32,0x76dc4190#32,0x6b6b51f4#32,0x4db26158#32,0x5005713c#32,0xedb88320#32,0xf00f9344#32,0xd6d6a3e8#32,0xcb61b38c#32,0x9b64c2b0#32,0x86d3d2d4#32,0xa00ae278#32,0xbdbdf21c#32]
theorem ZtD:∀ k:Fin 16,crcT[k.val]?=some (bst (bst (bst (bst (BitVec.ofNat 32 k.val))))):=qD
theorem XP {c:BitVec 32} (h:c.getLsbD 0=false):bst c=c >>> 1:=by unfold bst;rw [h];simp
theorem bst4 (c:BitVec 32):bst (bst (bst (bst c)))=bst (bst (bst (bst (c &&& 15#32)))) ^^^ (c >>> 4):=by
 have e:c=(c &&& 15#32) ^^^ (c &&& ~~~15#32):=by refine BitVec.eq_of_getLsbD_eq fun i d=>?_;simp only [BitVec.getLsbD_xor,wR,xR];cases c.getLsbD i <;> cases (15#32).getLsbD i <;> simp [d]
 have f:bst (bst (bst (bst (c &&& ~~~15#32))))=c >>> 4:=by
  have a:∀ j,j<4->(c &&& ~~~15#32).getLsbD j=false:=by
   intro j h;rw [wR,xR];have:(15#32).getLsbD j=true:=by rcases (by omega:j=0\/j=1\/j=2\/j=3) with rfl | rfl | rfl | rfl <;> decide
   rw [this];simp
  generalize g:c &&& ~~~15#32=m at a;rw [XP (a 0 qO)];rw [XP (c:=m >>> 1) (by rw [OM];exact a 1 qO),<-yR];rw [XP (c:=m >>> (1+1)) (by rw [OM];exact a 2 qO),<-yR];rw [XP (c:=m >>> (1+1+1)) (by rw [OM];exact a 3 qO),<-yR];rw [<- g];refine BitVec.eq_of_getLsbD_eq fun i d=>?_;rw [OM,OM,wR,xR];by_cases b:4+i<32
  · have:(15#32).getLsbD (4+i)=false:=by rw [BitVec.getLsbD_ofNat];have:Nat.testBit 15 (4+i)=false:=Nat.testBit_lt_two_pow (RF (by decide:15<2 ^ 4) (wK qO qO));rw [this];simp
    rw [this];simp [b]
  rw [BitVec.getLsbD_of_ge c _ qO];simp
 conv=>lhs;rw [e]
 simp only [Zvh];rw [f]
theorem ZrG (c:BitVec 32):∃ t,crcT[(c &&& 15#32).toNat]?=some t/\t ^^^ (c >>> 4)=bst (bst (bst (bst c)))/\(c &&& 15#32).toNat<16:=by
 have a:(c &&& 15#32).toNat<16:=by rw [BitVec.toNat_and];exact Nat.lt_of_le_of_lt Nat.and_le_right qD
 have h:=ZtD ⟨_,a⟩;refine ⟨_,h,?_,a⟩;rw [BitVec.ofNat_toNat,BitVec.setWidth_eq];exact (bst4 c).symm
abbrev crcD:BitVec 32:=0x04c11db7#32
def dst (r:BitVec 32) (bit:Bool):BitVec 32:=(r <<< 1) ^^^ (if r.getLsbD 31 != bit then crcD else 0#32)
structure YA where
 kind:Nat
 version:Nat
 size:Nat
 recs:List (Option (List UInt8))
def vI:List UInt8:=[83,82,69,67]
def YA.Ok (f:YA):Prop:=∀ d,some d∈f.recs->d.length+1=f.size
def YA.live (f:YA):Nat:=(f.recs.filter Option.isSome).length
def YA.used (f:YA) (i:Nat):Bool:=match f.recs[i]? with | some (some _)=>true | _=>false
def VE (f:YA) (i:Int):Bool:=decide (0<=i) && f.used i.toNat
def TB (n:Nat):List UInt8:=List.replicate n 0
def recB (size:Nat):Option (List UInt8)->List UInt8
 | none=>TB size
 | some d=>1::d
def mE (f:YA):List UInt8:=vI++(beb 1 f.kind++(beb 1 f.version++(beb 2 f.size++beb 4 f.recs.length)))
def BB (f:YA):List UInt8:=mE f++(beb 4 (crcS (mE f)).toNat++f.recs.flatMap (recB f.size))
def recP:List UInt8->Except Int (Option (List UInt8))
 | []=>.error 94
 | x::l=>if 1<x.toNat then .error 93 else if x.toNat=1 then .ok (some l) else if l.all (·==0) then .ok none else .error 94
def YF (size:Nat):Nat->List UInt8->Except Int (List (Option (List UInt8)))
 | 0,_=>.ok []
 | n+1,b=>match recP (b.take size) with
   | .error e=>.error e
   | .ok r=>match YF size n (b.drop size) with
     | .error e=>.error e
     | .ok rs=>.ok (r::rs)
def wI (b:List UInt8):Except Int YA :=
 if b.length<16 then .error 10
 else if b.take 4≠vI then .error 90
 else if be ((b.drop 12).take 4)≠(crcS (b.take 12)).toNat then .error 91
 else if be ((b.drop 6).take 2)<2\/255<be ((b.drop 6).take 2) then .error 4
 else if 65536<be ((b.drop 8).take 4)\/b.length≠16+be ((b.drop 8).take 4)*be ((b.drop 6).take 2) then .error 92
 else match YF (be ((b.drop 6).take 2)) (be ((b.drop 8).take 4)) (b.drop 16) with
  | .error e=>.error e
  | .ok rs=>.ok ⟨be ((b.drop 4).take 1),be ((b.drop 5).take 1),be ((b.drop 6).take 2),rs⟩
theorem dW {size:Nat} {r:Option (List UInt8)} (h:∀ d,r=some d->d.length+1=size):(recB size r).length=size:=by
 cases r with
 | none=>simp [recB,TB]
 | some d=>simp [recB,h d rfl]
theorem SS {size:Nat} (hs:0<size):∀ {rs:List (Option (List UInt8))},(∀ d,some d∈rs->d.length+1=size)->(rs.flatMap (recB size)).length=rs.length*size
 | [],_=>qS
 | r::rs,h=>by rw [iD,kA,dW fun d a=>h d (by simp [a]),SS hs fun d a=>h d (by simp [a]),BA,BG,NM]
theorem ZrH {size:Nat} {r:Option (List UInt8)} (hs:0<size):recP (recB size r)=.ok r:=by
 cases r with
 | none =>
   obtain ⟨n,rfl⟩:∃ n,size=n+1:=⟨size-1,qO⟩
   simp [recB,TB,recP,VG]
 | some d=>simp [recB,recP]
theorem eW {size:Nat} (hs:0<size):∀ {rs:List (Option (List UInt8))},(∀ d,some d∈rs->d.length+1=size)->YF size rs.length (rs.flatMap (recB size))=.ok rs
 | [],_=>rfl
 | r::rs,h=>by have b:=dW (size:=size) (r:=r) fun d a=>h d (by simp [a]);rw [BA,YF,iD,List.take_left' b,List.drop_left' b,ZrH hs,eW hs fun d a=>h d (by simp [a])]
theorem YP (f:YA):(mE f).length=12:=by simp [mE,vI,rA]
theorem fW {f:YA} (hk:f.Ok) (h1:f.kind<=255) (h2:f.version<=255) (h3:2<=f.size) (h4:f.size<=255) (h5:f.recs.length<=65536):wI (BB f)=.ok f:=by
 obtain ⟨k,v,z,a⟩:=f;simp only at h1 h2 h3 h4 h5;have n:=SS (size:=z) qO hk;have w:(crcS (mE ⟨k,v,z,a⟩)).toNat<4294967296:=(crcS (mE ⟨k,v,z,a⟩)).isLt;have c:=YP ⟨k,v,z,a⟩;have o:(BB ⟨k,v,z,a⟩).length=16+a.length*z:=by simp only [BB,kA,c,rA,n];omega
 have d:(BB ⟨k,v,z,a⟩).take 12=mE ⟨k,v,z,a⟩:=List.take_left' c;have b:(BB ⟨k,v,z,a⟩).drop 12=beb 4 (crcS (mE ⟨k,v,z,a⟩)).toNat++a.flatMap (recB z):=List.drop_left' c;have i:BB ⟨k,v,z,a⟩=vI++(beb 1 k++(beb 1 v++(beb 2 z++(beb 4 a.length++(beb 4 (crcS (mE ⟨k,v,z,a⟩)).toNat++a.flatMap (recB z)))))):=by simp [BB,mE]
 have j:(BB ⟨k,v,z,a⟩).drop 4=beb 1 k++(beb 1 v++(beb 2 z++(beb 4 a.length++(beb 4 (crcS (mE ⟨k,v,z,a⟩)).toNat++a.flatMap (recB z))))):=by rw [i];exact List.drop_left' rfl
 have l:(BB ⟨k,v,z,a⟩).drop 5=beb 1 v++(beb 2 z++(beb 4 a.length++(beb 4 (crcS (mE ⟨k,v,z,a⟩)).toNat++a.flatMap (recB z)))):=by rw [show 5=4+1 from rfl,<-dD,j];exact List.drop_left' (rA _ _)
 have m:(BB ⟨k,v,z,a⟩).drop 6=beb 2 z++(beb 4 a.length++(beb 4 (crcS (mE ⟨k,v,z,a⟩)).toNat++a.flatMap (recB z))):=by rw [show 6=5+1 from rfl,<-dD,l];exact List.drop_left' (rA _ _)
 have p:(BB ⟨k,v,z,a⟩).drop 8=beb 4 a.length++(beb 4 (crcS (mE ⟨k,v,z,a⟩)).toNat++a.flatMap (recB z)):=by rw [show 8=6+2 from rfl,<-dD,m];exact List.drop_left' (rA _ _)
 have e:(BB ⟨k,v,z,a⟩).drop 16=a.flatMap (recB z):=by rw [show 16=12+4 from rfl,<-dD,b];exact List.drop_left' (rA _ _)
 have q:be (((BB ⟨k,v,z,a⟩).drop 4).take 1)=k:=by rw [j,List.take_left' (rA _ _),LH];omega
 have r:be (((BB ⟨k,v,z,a⟩).drop 5).take 1)=v:=by rw [l,List.take_left' (rA _ _),LH];omega
 have s:be (((BB ⟨k,v,z,a⟩).drop 6).take 2)=z:=by rw [m,List.take_left' (rA _ _),LH];omega
 have t:be (((BB ⟨k,v,z,a⟩).drop 8).take 4)=a.length:=by rw [p,List.take_left' (rA _ _),LH];omega
 have g:be (((BB ⟨k,v,z,a⟩).drop 12).take 4)=(crcS (mE ⟨k,v,z,a⟩)).toNat:=by rw [b,List.take_left' (rA _ _),LH];omega
 have u:(BB ⟨k,v,z,a⟩).take 4=vI:=by rw [i];exact List.take_left' rfl
 unfold wI;rw [q,r,s,t,g,d,u,e,o,aA qO,aA qS,aA qS,aA qO,aA (by rintro (h | h);exact absurd h (Nat.not_lt.2 h5);exact h rfl),eW (show 0<z by omega) hk]
end
section
open Go.RowKit
def NH (c:UInt8):Bool:=(decide (97<=c.toNat) && decide (c.toNat<=122)) || (decide (65<=c.toNat) && decide (c.toNat<=90)) || (decide (48<=c.toNat) && decide (c.toNat<=57)) || decide (c.toNat=95)
def ZP (c:UInt8):Bool:=decide (48<=c.toNat) && decide (c.toNat<=57)
def NN:List UInt8->Bool
 | []=>false
 | c::_=>!ZP c
def OH (l:List UInt8):Bool:=decide (l.length<=40) && NN l && l.all NH
def VB (s:ByteArray):Bool:=OH s.data.toList
theorem eJ (s:ByteArray):s.data.toList.length=s.size:=by rw [UF];rfl
theorem gW (s:ByteArray) {k:Nat} (h:k<s.size):s.data.toList[k]'(by rw [eJ];exact h)=s[k]:=by rw [Array.getElem_toList];rfl
theorem iW (s:ByteArray):s.toList=[]↔s.size=0:=by rw [BJ,<-eJ,EH]
theorem ZrJ (h:0<s.size):NN s.data.toList=!ZP s[0]:=by
 have a:0<s.data.toList.length:=by rw [eJ];exact h
 have b:s.data.toList[0]'a=s[0]:=gW s h;cases hl:s.data.toList with
 | nil=>rw [hl] at a;simp at a
 | cons c l=>simp only [hl,oB] at b;simp only [NN];rw [b]
theorem ZtE {k:Nat} (h:k<l.length):(l.take (k+1)).all NH=((l.take k).all NH && NH l[k]):=by rw [eD,FA h,wL,zR];simp
theorem ZrK {k:Nat} (h:k<l.length) (hc:NH l[k]=false):l.all NH=false:=by rw [List.all_eq_false];exact ⟨l[k],CJ h,by rw [hc];simp⟩
theorem ZrL {c:UInt8} (h:(97<=c.toNat/\c.toNat<=122)\/(65<=c.toNat/\c.toNat<=90)\/(48<=c.toNat/\c.toNat<=57)\/c.toNat=95):NH c=true:=by unfold NH;simp only [CH,kB,NC];omega
theorem ZtF {c:UInt8} (h:¬ ((97<=c.toNat/\c.toNat<=122)\/(65<=c.toNat/\c.toNat<=90)\/(48<=c.toNat/\c.toNat<=57)\/c.toNat=95)):NH c=false:=by rw [Bool.eq_false_iff];intro a;unfold NH at a;simp only [CH,kB,NC] at a;omega
theorem fJ (s:ByteArray) (w:World):Calls Tryz.prog 83 #[.string s] w fun e w'=>e=.returned (.bool (VB s))/\w=w':=by
 by_cases l:s.size=0
 · have m:s.toList=[]:=(iW s).2 l;have b:=qH (show VB s=false from by unfold VB OH;have:s.data.toList=[]:=EH.1 (by rw [eJ];exact l);rw [this];rfl)
   go_enter PO,QO;go_wp2
   all_goals first
    | (go_ret;exact ⟨by rw [b.out];rfl,rfl⟩)
    | (exfalso;simp_all)
 have u:0<s.size:=qO;have m:¬ s.toList=[]:=fun h=>l ((iW s).1 h);have n:s.toList.isEmpty=false:=by simpa using m
 by_cases v:40<s.size
 · have b:=qH (show VB s=false from by unfold VB OH;rw [eJ,LB qO];rfl)
   go_enter PO,QO;go_wp2;go_ret;exact ⟨by rw [b.out];rfl,rfl⟩
 have p:=qH (ZrJ u);have x:¬ (s.size:Int)<=0:=qO;have q:¬ (40:Int)<s.size:=qO;by_cases r:48<=s[0].toNat/\s[0].toNat<=57
 · obtain ⟨i,B⟩:=r;have b:=qH (show VB s=false from by unfold VB OH;rw [p.out];simp [ZP,i,B])
   go_enter PO,QO;go_wp2
   all_goals first
    | (go_ret;exact ⟨by rw [b.out];rfl,rfl⟩)
    | (exfalso;simp_all;done)
    | (exfalso;omega)
 have y:=qH (show NN s.data.toList=true from by
  rw [p.out];simp only [ZP];by_cases i:48<=s[0].toNat
  · rw [kC i,LB qO];rfl
  rw [LB i];rfl)
 go_enter PO,QO;go_upto_region 1 with fail;go_cut [21] from 5 to 21 (fun o C=>o=.bool false/\C=w)
 case first =>
  go_wp2
  all_goals go_meet
  all_goals first
   | exact ⟨rfl,rfl⟩
   | (exfalso;omega)
   | (refine ⟨?_,rfl⟩;congr 1;simp_all;omega)
 obtain ⟨rfl,rfl⟩:=hcut;go_wp2_with fail;clear m n r;go_loopg [24] s.size (fun D E wr=>∃ k:Nat,s.size-k=D/\k<=s.size/\E=.int .i64 k/\wr=wc/\Hid ((s.data.toList.take k).all NH=true))
 case atStart=>exact ⟨0,rfl,oA _,rfl,rfl,qH rfl⟩
 obtain ⟨k,rfl,F,rfl,rfl,t⟩:=hrel;by_cases c:k<s.size
 · have d:k<s.data.toList.length:=by rw [eJ];exact c
   have f:=qH (ZtE d);have g:=qH (fun h=>ZrK d h);have a:=qH (gW s c);go_wp2
   all_goals first
    | (go_roundg (s.size-(k+1))
       case measure=>omega
       refine ⟨k+1,rfl,qO,qN,rfl,qH ?_⟩;rw [f.out,t.out,a.out,ZrL (by first | omega | (simp only [jE] at *;omega))];rfl)
    | (have z:=qH (show VB s=false from by
        have j:=g.out (by rw [a.out];exact ZtF (by first | omega | (simp only [WC,ne_eq] at *;omega)));unfold VB OH;rw [j,UG])
       go_ret;exact ⟨by rw [z.out];rfl,rfl⟩)
 have A:k=s.size:=qO;have b:=qH (show VB s=true from by unfold VB OH;have j:=t.out;rw [cB (by rw [eJ];omega)] at j;rw [y.out,j,eJ,kC qO];rfl)
 go_wp2;go_ret;exact ⟨by rw [b.out];rfl,rfl⟩
end
section
def noText:ByteArray:=⟨#[]⟩
def FB (l:List ByteArray) (i:Int):ByteArray:=if i<0 then noText else match l[i.toNat]? with | some s=>s | none=>noText
def tokD (s:ByteArray):List UInt8:=UInt8.ofNat s.size::(s.data.toList++TB (40-s.size))
def MF (d:List UInt8):Option ByteArray :=
 if 40<(d.headD 0).toNat then none else if (d.drop (1+(d.headD 0).toNat)).all (·==0)=false then none
 else if OH ((d.drop 1).take (d.headD 0).toNat)=true then some ⟨((d.drop 1).take (d.headD 0).toNat).toArray⟩ else none
def cH:List ByteArray->List (Option (List UInt8))->Except Int (List ByteArray)
 | acc,[]=>.ok acc
 | acc,none::rs=>cH (acc++[noText]) rs
 | acc,some d::rs=>match MF d with
   | none=>.error 110
   | some s=>if acc.any (fun t=>decide (t=s))=true then .error 7 else cH (acc++[s]) rs
def tabP (b:List UInt8) (kind version:Nat):Except Int (List ByteArray):=match wI b with
 | .error e=>.error e
 | .ok f=>if f.kind≠kind\/f.size≠42 then .error 111 else if f.version≠version then .error 8 else if 200<f.recs.length then .error 66 else cH [] f.recs
def tabF (kind version:Nat) (names:List ByteArray):YA:=⟨kind,version,42,names.map fun s=>if s.size=0 then none else some (tokD s)⟩
theorem xI (h:VB s=true):0<s.size/\s.size<=40:=by
 unfold VB OH at h;simp only [kB,NC] at h;have e:s.data.toList.length=s.size:=UF;rw [e] at h;refine ⟨?_,h.1.1⟩;cases hl:s.data.toList with
 | nil =>
   rw [hl] at h;have:=h.1.2;simp [NN] at this
 | cons c l=>rw [<- e,hl];simp
theorem Zqe (h:VB s=true):MF (tokD s)=some s:=by
 obtain ⟨g,i⟩:=xI h;have a:(UInt8.ofNat s.size).toNat=s.size:=by rw [UInt8.toNat_ofNat'];omega
 have e:s.data.toList.length=s.size:=UF;have t:(s.data.toList++TB (40-s.size)).take s.size=s.data.toList:=List.take_left' e;have d:(s.data.toList++TB (40-s.size)).drop s.size=TB (40-s.size):=List.drop_left' e;have b:(tokD s).drop (1+s.size)=TB (40-s.size):=by rw [<- dD];exact d
 have c:((tokD s).drop 1).take s.size=s.data.toList:=t;have f:((tokD s).headD 0).toNat=s.size:=a;unfold MF;rw [f,b,c,aA qO,aA (by simp [TB]),gA (show OH s.data.toList=true from h)]
theorem TS (h:s.size<=40):(tokD s).length=41:=by have e:s.data.toList.length=s.size:=UF;simp only [tokD,TB,BA,kA,aD,e];omega
theorem jW:∀ {names acc:List ByteArray},(∀ s∈names,VB s=true)->(acc++names).Nodup->cH acc (names.map fun s=>if s.size=0 then none else some (tokD s))=.ok (acc++names)
 | [],acc,_,_=>by rw [ZC];rfl
 | s::names,acc,h,hd=>by
   have b:=h s qS;have f:=(xI b).1;rw [CB,aA qO,cH,Zqe b];have a:¬ acc.any (fun t=>decide (t=s))=true:=fun a=>by obtain ⟨t,c,e⟩:=iG.1 a;exact (zK.1 hd).2.2 t c s qS (by simpa using e)
   simp only;rw [aA a,jW (fun x d=>h x (by simp [d])) (by simpa using hd)];simp
theorem ZrM {kind:Nat} {names:List ByteArray} (h1:kind<=255) (h2:c<=255) (hg:∀ s∈names,VB s=true) (hd:names.Nodup) (hl:names.length<=200):tabP (BB (tabF kind c names)) kind c=.ok names:=by
 have a:(tabF kind c names).Ok:=fun d hd=>by
  obtain ⟨s,b,e⟩:=fC.1 hd;split at e
  · cases e
  injection e with e
  subst e;rw [TS (xI (hg s b)).2];rfl
 unfold tabP;rw [fW a h1 h2 (by simp [tabF]) (by simp [tabF]) (by simp only [tabF,nA];omega)];simp only;rw [aA (by simp [tabF]),aA (by simp [tabF]),aA (by simp only [tabF,nA];omega)];exact jW (acc:=[]) hg (by simpa using hd)
end
section
open Go.RowKit
section
variable {α:Type} {f:α->List Value} {k:Nat}
theorem KG (hf:∀ x,(f x).length=k) (l:List α):(l.flatMap f).length=l.length*k:=by
 induction l with
 | nil=>simp
 | cons x l ih=>rw [iD,kA,ih,hf,BA,BG];omega
theorem ON (hf:∀ x,(f x).length=k):∀ (l:List α) (i j:Nat) (h:i<l.length),j<k->(l.flatMap f)[i*k+j]?=(f l[i])[j]?:=by
 intro l
 induction l with
 | nil=>intro i j h;simp at h
 | cons x l ih =>
   intro i j h a;rw [iD];cases i with
   | zero =>
     rw [PI (by rw [hf];omega)];simp
   | succ i =>
     have e:(i+1)*k+j-(f x).length=i*k+j:=by rw [hf,BG];omega
     rw [WG (by rw [hf,BG];omega),e,ih i j (by simpa using h) a];rfl
theorem WRow.atF {n:Nat} {l:List α} (h:WRow w F k A n c (l.flatMap f)) (hf:∀ x,(f x).length=k) (hk:0<k) (hi:i<n):
 ∃ b o x,A=some ⟨b,o,none⟩/\b<w.heap.size/\F b/\l[i]?=some x/\x∈l/\∀ j u,(f x)[j]?=some u->w.cell? ⟨b,o+i*k+j,none⟩=some u:=by
 have t:l.length=n:=by have d:=h.len;rw [KG hf] at d;exact BR hk d
 have a:i<l.length:=qO;obtain ⟨b,o,m,p,q,r⟩:=(h.row qO).atK hi;refine ⟨b,o,l[i],m,p,q,FA a,CJ a,fun j u g=>?_⟩;have e:j<k:=by have:=(IA.1 g).1;rw [hf] at this;exact this
 obtain ⟨v,d,s⟩:=r j e;rw [ON hf l i j a e,g] at d;cases d;rw [vK];exact s
theorem WRow.lenF {n:Nat} {l:List α} (h:WRow w F k A n c (l.flatMap f)) (hf:∀ x,(f x).length=k) (hk:0<k):l.length=n:=by have a:=h.len;rw [KG hf] at a;exact BR hk a
end
structure GPr where
 key:ByteArray
 val:GVal
structure PR where
 key:ByteArray
 g:GVal
 A1:Option Addr
 n1:Nat
 c1:Nat
 A2:Option Addr
 n2:Nat
 c2:Nat
def PR.cells (x:PR):List Value:=[.string x.key,.int .i64 x.g.kind,.int .i64 x.g.num,.string x.g.text,.slice x.A1 x.n1 x.c1,.slice x.A2 x.n2 x.c2]
def PR.dat (x:PR):GPr:=⟨x.key,x.g⟩
theorem PR.six (x:PR):x.cells.length=6:=rfl
abbrev yI:=@PR.six
structure NA where
 id:Int
 labels:List ByteArray
 props:List GPr
structure ND where
 id:Int
 labels:List ByteArray
 AL:Option Addr
 nL:Nat
 cL:Nat
 props:List PR
 AP:Option Addr
 nP:Nat
 cP:Nat
def ND.cells (x:ND):List Value:=[.int .i64 x.id,.slice x.AL x.nL x.cL,.slice x.AP x.nP x.cP]
def ND.dat (x:ND):NA:=⟨x.id,x.labels,x.props.map PR.dat⟩
theorem ND.three (x:ND):x.cells.length=3:=rfl
abbrev RJ:=@ND.three
structure GRel where
 id:Int
 type:ByteArray
 src:Int
 dst:Int
 props:List GPr
structure RL where
 id:Int
 type:ByteArray
 src:Int
 dst:Int
 props:List PR
 AP:Option Addr
 nP:Nat
 cP:Nat
def RL.cells (x:RL):List Value:=[.int .i64 x.id,.string x.type,.int .i64 x.src,.int .i64 x.dst,.slice x.AP x.nP x.cP]
def RL.dat (x:RL):GRel:=⟨x.id,x.type,x.src,x.dst,x.props.map PR.dat⟩
theorem RL.five (x:RL):x.cells.length=5:=rfl
abbrev LK:=@RL.five
abbrev gJ (n:Int):Prop := -9223372036854775808<=n/\n<=9223372036854775807
structure RdPs (w:World) (F:Nat->Prop) (A:Option Addr) (n c:Nat) (ps:List PR):Prop where
 row:WRow w F 6 A n c (ps.flatMap PR.cells)
 val:∀ x∈ps,pD w F x.A1 x.n1 x.c1 x.A2 x.n2 x.c2 x.g
structure RdNs (w:World) (F:Nat->Prop) (A:Option Addr) (n c:Nat) (ns:List ND):Prop where
 row:WRow w F 3 A n c (ns.flatMap ND.cells)
 lab:∀ x∈ns,WRow w F 1 x.AL x.nL x.cL (x.labels.map Value.string)
 pro:∀ x∈ns,RdPs w F x.AP x.nP x.cP x.props
 id:∀ x∈ns,gJ x.id
structure RdRs (w:World) (F:Nat->Prop) (A:Option Addr) (n c:Nat) (rs:List RL):Prop where
 row:WRow w F 5 A n c (rs.flatMap RL.cells)
 pro:∀ x∈rs,RdPs w F x.AP x.nP x.cP x.props
 id:∀ x∈rs,gJ x.id/\gJ x.src/\gJ x.dst
section
variable {w w':World} {F F':Nat->Prop} {A:Option Addr} {n c:Nat} {ps:List PR} {ns:List ND} {rs:List RL}
theorem RdPs.len (h:RdPs w F A n c ps):ps.length=n:=h.row.lenF yI qO
theorem RdPs.upd (h:RdPs w F A n c ps) (hu:Upd S w w') (hs:∀ b,F b->¬ S b):RdPs w' F A n c ps:=⟨h.row.upd hu hs,fun x a=>(h.val x a).upd hu hs⟩
theorem RdPs.same (h:RdPs w F A n c ps) (hu:Same w w'):RdPs w' F A n c ps:=h.upd hu qf
theorem RdPs.mono (h:RdPs w F A n c ps) (hf:∀ b,b<w.heap.size->F b->F' b):RdPs w F' A n c ps:=⟨h.row.mono hf,fun x a=>(h.val x a).mono hf⟩
theorem RdNs.len (h:RdNs w F A n c ns):ns.length=n:=h.row.lenF RJ qO
theorem RdNs.upd (h:RdNs w F A n c ns) (hu:Upd S w w') (hs:∀ b,F b->¬ S b):RdNs w' F A n c ns:=⟨h.row.upd hu hs,fun x a=>(h.lab x a).upd hu hs,fun x a=>(h.pro x a).upd hu hs,h.id⟩
theorem RdNs.same (h:RdNs w F A n c ns) (hu:Same w w'):RdNs w' F A n c ns:=h.upd hu qf
theorem RdNs.mono (h:RdNs w F A n c ns) (hf:∀ b,b<w.heap.size->F b->F' b):RdNs w F' A n c ns:=⟨h.row.mono hf,fun x a=>(h.lab x a).mono hf,fun x a=>(h.pro x a).mono hf,h.id⟩
theorem RdRs.len (h:RdRs w F A n c rs):rs.length=n:=h.row.lenF LK qO
theorem RdRs.upd (h:RdRs w F A n c rs) (hu:Upd S w w') (hs:∀ b,F b->¬ S b):RdRs w' F A n c rs:=⟨h.row.upd hu hs,fun x a=>(h.pro x a).upd hu hs,h.id⟩
theorem RdRs.same (h:RdRs w F A n c rs) (hu:Same w w'):RdRs w' F A n c rs:=h.upd hu qf
theorem RdRs.mono (h:RdRs w F A n c rs) (hf:∀ b,b<w.heap.size->F b->F' b):RdRs w F' A n c rs:=⟨h.row.mono hf,fun x a=>(h.pro x a).mono hf,h.id⟩
theorem RdPs.at_ (h:RdPs w F A n c ps) (hi:i<n):∃ b o x,A=some ⟨b,o,none⟩/\b<w.heap.size/\F b/\ps[i]?=some x/\x∈ps /\
 w.cell? ⟨b,o+i*6,none⟩=some (.string x.key)/\w.cell? ⟨b,o+i*6+1,none⟩=some (.int .i64 x.g.kind)/\w.cell? ⟨b,o+i*6+2,none⟩=some (.int .i64 x.g.num)/\w.cell? ⟨b,o+i*6+3,none⟩=some (.string x.g.text) /\
 w.cell? ⟨b,o+i*6+4,none⟩=some (.slice x.A1 x.n1 x.c1)/\w.cell? ⟨b,o+i*6+5,none⟩=some (.slice x.A2 x.n2 x.c2):=by
 obtain ⟨b,o,x,d,e,f,j,k,a⟩:=h.row.atF yI qO hi;exact ⟨b,o,x,d,e,f,j,k,a 0 _ rfl,a 1 _ rfl,a 2 _ rfl,a 3 _ rfl,a 4 _ rfl,a 5 _ rfl⟩
theorem RdNs.at_ (h:RdNs w F A n c ns) (hi:i<n):∃ b o x,A=some ⟨b,o,none⟩/\b<w.heap.size/\F b/\ns[i]?=some x/\x∈ns /\
 w.cell? ⟨b,o+i*3,none⟩=some (.int .i64 x.id)/\w.cell? ⟨b,o+i*3+1,none⟩=some (.slice x.AL x.nL x.cL)/\w.cell? ⟨b,o+i*3+2,none⟩=some (.slice x.AP x.nP x.cP):=by
 obtain ⟨b,o,x,d,e,f,g,j,a⟩:=h.row.atF RJ qO hi;exact ⟨b,o,x,d,e,f,g,j,a 0 _ rfl,a 1 _ rfl,a 2 _ rfl⟩
theorem RdRs.at_ (h:RdRs w F A n c rs) (hi:i<n):∃ b o x,A=some ⟨b,o,none⟩/\b<w.heap.size/\F b/\rs[i]?=some x/\x∈rs /\
 w.cell? ⟨b,o+i*5,none⟩=some (.int .i64 x.id)/\w.cell? ⟨b,o+i*5+1,none⟩=some (.string x.type)/\w.cell? ⟨b,o+i*5+2,none⟩=some (.int .i64 x.src)/\w.cell? ⟨b,o+i*5+3,none⟩=some (.int .i64 x.dst)/\w.cell? ⟨b,o+i*5+4,none⟩=some (.slice x.AP x.nP x.cP):=by
 obtain ⟨b,o,x,d,e,f,g,j,a⟩:=h.row.atF LK qO hi;exact ⟨b,o,x,d,e,f,g,j,a 0 _ rfl,a 1 _ rfl,a 2 _ rfl,a 3 _ rfl,a 4 _ rfl⟩
end
theorem kW:(Tryz.prog.info? 2).map (fun i=>(i.zero,i.size,i.bytes))=some (some (.int .i64 0),1,8):=qK
theorem PN:(Tryz.prog.info? 9).map (fun i=>(i.zero,i.size,i.bytes))=some (some (.string ⟨#[]⟩),1,16):=qK
end
end Go.Proofs.YtmkjfhnlnhceiaaGreatDoor
