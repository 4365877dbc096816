/- Texts that the claim leans on: walks and plain laws, function by function. -/
import Derived.Deep.LoopGhost
import Derived.Test.YtmkjfhnlnhceiaaGreatDoorN03
set_option maxRecDepth 100000
set_option maxHeartbeats 16000000
namespace Go.Proofs.YtmkjfhnlnhceiaaGreatDoor
section
theorem ZeD (n:Nat):∀ k,be (beb k n)=n % 256 ^ k:=by
 intro k
 induction k with
 | zero=>simp [beb,be,YdT]
 | succ k ih =>
   rw [beb,Zno,Zab,ih,Nat.pow_succ,Nat.mod_mul];simp only [UInt8.toNat_ofNat'];rw [YeO,YeP]
theorem Zvi:∀ (l m:List UInt8),l.length=m.length->be l=be m->l=m:=by
 intro l
 induction l with
 | nil=>intro m h _;exact (Yco h.symm).symm
 | cons c l ih =>
   intro m h b;cases m with
   | nil=>cases h
   | cons d m =>
     have a:l.length=m.length:=by simpa using h
     rw [Zno,Zno,a] at b;have e:=Zgc l;have i:=Zgc m;rw [a] at e;generalize 256 ^ m.length=P at *;have f:0<P:=qO;have g:c.toNat=d.toNat:=by
      have j:(c.toNat*P+be l) / P=c.toNat:=by rw [YeO,Nat.mul_add_div f,Yfi e,YbW]
      have k:(d.toNat*P+be m) / P=d.toNat:=by rw [YeO,Nat.mul_add_div f,Yfi i,YbW]
      rw [<- j,<-k,b]
     rw [Yel.1 g,ih m a (by rw [g] at b;omega)]
theorem Zoy {l:List UInt8} {k n:Nat} (hl:l.length=k) (hn:n % 256 ^ k=be l):beb k n=l :=
 Zvi _ _ (by rw [Zab,hl]) (by rw [ZeD,hn])
theorem ZqG {n:Int} (h : -9223372036854775808<=n/\n<=9223372036854775807):i64 (u64 n)=n:=by unfold i64 u64;split <;> omega
theorem ZqH {m:Nat} (h:m<18446744073709551616):u64 (i64 m)=m:=by unfold i64 u64;split <;> omega
def wid (k:Int):Nat:=if k=1 then 1 else 8
theorem Zha (k n:Int):(Zbw k n).length=wid k:=by unfold Zbw wid;split <;> simp [Zab]
theorem Zpt {n:Int} (h:ZaM 1 n=0):n=0\/n=1:=by
 unfold ZaM at h;by_cases a:n=0
 · exact .inl a
 by_cases b:n=1
 · exact .inr b
 rw [Yac ⟨rfl,a,b⟩] at h;cases h
theorem Zpu (k n:Int):ZaM k n≠10:=by
 unfold ZaM;split
 · decide
 split <;> decide
theorem Zgj (k:Int) (l:List UInt8):pNum k l=if l.length<wid k then .error 10 else if ZaM k (i64 (be (l.take (wid k))))≠0 then .error (ZaM k (i64 (be (l.take (wid k))))) else .ok (i64 (be (l.take (wid k))),l.drop (wid k)):=rfl
theorem ZqI {k n:Int} (he:ZaM k n=0) (hr : -9223372036854775808<=n/\n<=9223372036854775807):i64 (be (Zbw k n))=n:=by
 unfold Zbw;by_cases a:k=1
 · subst a;rw [Yac rfl,ZeD];rcases Zpt he with rfl | rfl <;> decide
 rw [Yab a,ZeD,Ydk (by have:=ZtT n;have:256 ^ 8=18446744073709551616:=(qD);omega),ZqG hr]
theorem ZkD {k n:Int} (he:ZaM k n=0) (hr : -9223372036854775808<=n/\n<=9223372036854775807) (t:List UInt8):pNum k (Zbw k n++t)=.ok (n,t):=by rw [Zgj,Yab (by rw [Yaf,Zha];omega),List.take_left' (Zha k n),List.drop_left' (Zha k n),ZqI he hr,Yab (by simpa using he)]
theorem ZtU (k:Int):wid k<=8:=by unfold wid;split <;> omega
theorem Zgk {k n:Int} {l r:List UInt8} (h:pNum k l=.ok (n,r)):Zbw k n++r=l/\ZaM k n=0 /\ -9223372036854775808<=n/\n<=9223372036854775807:=by
 rw [Zgj] at h;split at h
 · cases h
 rename_i e;split at h
 · cases h
 rename_i d;injection h with h
 injection h with h3 h4
 have b:=Zfn l (wid k) (ZtU k);have a:(l.take (wid k)).length=wid k:=by rw [YaJ];omega
 refine ⟨?_,?_,?_⟩
 · have:Zbw k n=l.take (wid k):=by
    rw [<- h3];unfold Zbw;rw [ZqH b];unfold wid at a ⊢;split
    · rename_i c;rw [Yac c] at a;exact Zoy a (Ydk (by have:=Zgc (l.take 1);rwa [a] at this))
    rename_i c;rw [Yab c] at a;exact Zoy a (Ydk (by have:=Zgc (l.take 8);rwa [a] at this))
   rw [this,<-h4,YbT]
 · rw [<- h3];exact YbX.1 d
 rw [<- h3];exact Zgg _ b
theorem Ziz {s:ByteArray} (hs:s.size<=1000) (t:List UInt8):Zci (Zbs s++t)=.ok (s,t):=by
 have a:be ((Zbs s++t).take 2)=s.size:=by unfold Zbs;rw [Yak,List.take_left' (Zab 2 _),ZeD,Ydk (by have:256 ^ 2=65536:=(qD);omega)]
 have b:(Zbs s++t).drop 2=s.data.toList++t:=by unfold Zbs;rw [Yak,List.drop_left' (Zab 2 _)]
 unfold Zci;rw [a,b,Yab (by rw [Yaf,Zcw];omega),Yab qO,Yab (by rw [Yaf,Zdd];omega),List.take_left' (Zdd s),List.drop_left' (Zdd s)]
theorem Zfp {s:ByteArray} {l r:List UInt8} (h:Zci l=.ok (s,r)):Zbs s++r=l/\s.size<=1000:=by
 unfold Zci at h;split at h
 · cases h
 rename_i d;split at h
 · cases h
 rename_i e;split at h
 · cases h
 rename_i f;injection h with h
 injection h with h4 h5
 have a:s.size=be (l.take 2):=by rw [<- h4];show ((l.drop 2).take (be (l.take 2))).toArray.size=_;rw [YbV,YaJ];omega
 refine ⟨?_,qO⟩;have c:beb 2 s.size=l.take 2:=by
  have b:(l.take 2).length=2:=by rw [YaJ];omega
  exact Zoy b (by rw [a];exact Ydk (by have:=Zgc (l.take 2);rwa [b] at this))
 unfold Zbs;rw [c,<-h5,<-h4,Yak];show l.take 2++(((l.drop 2).take (be (l.take 2))).toArray.toList++_)=l;rw [YbT,YbT]
section many
variable {α:Type} {p:List UInt8->Except Int (α×List UInt8)} {e:α->List UInt8}
theorem ZlD (t:List UInt8):∀ xs:List α,(∀ x∈xs,∀ t,p (e x++t)=.ok (x,t))->ZbI p xs.length (xs.flatMap e++t)=.ok (xs,t):=by
 intro xs
 induction xs with
 | nil=>intro _;simp [ZbI]
 | cons x xs ih =>
   intro h;simp only [Yao,ZbI,Ybs,Yak];rw [h x (by simp)];simp only;rw [ih fun y a=>h y (by simp [a])]
theorem ZjS {Q:α->Prop} (hp:∀ l x r,p l=.ok (x,r)->e x++r=l/\Q x):∀ (n:Nat) (l:List UInt8) (xs:List α) (r:List UInt8),ZbI p n l=.ok (xs,r)->xs.flatMap e++r=l/\xs.length=n/\∀ x∈xs,Q x:=by
 intro n
 induction n with
 | zero =>
   intro l xs r h;simp only [ZbI] at h;injection h with h
   injection h with a b
   subst a b;simp
 | succ n ih =>
   intro l xs r h;simp only [ZbI] at h;split at h
   · cases h
   rename_i x k a;split at h
   · cases h
   rename_i m o b;injection h with h
   injection h with h3 h4
   subst h3 h4;obtain ⟨d,f,g⟩:=ih _ _ _ b;obtain ⟨i,j⟩:=hp _ _ _ a;refine ⟨by rw [Ybs,Yak,d,i],by simp [f],?_⟩;intro y c;rcases Yat.1 c with rfl | c
   · exact j
   exact g y c
theorem Zgl {B:Nat} (hp:∀ l,p l=.error 10->l.length<B) (hq:∀ l x r,p l=.ok (x,r)->l.length<=r.length+B):∀ (n:Nat) (l:List UInt8),ZbI p n l=.error 10->l.length<n*B:=by
 intro n
 induction n with
 | zero=>intro l h;simp only [ZbI] at h;cases h
 | succ n ih =>
   intro l h;simp only [ZbI] at h;rw [Ycn];split at h
   · rename_i c a;injection h with h
     subst h;have:=hp _ a;omega
   rename_i x d a;split at h
   · rename_i e b;injection h with h
     subst h;have:=ih _ b;have:=hq _ _ _ a;omega
   cases h
theorem ZjT (hs:∀ l e,p l=.error e->e≠10->∀ t,p (l++t)=.error e) (hq:∀ l x r,p l=.ok (x,r)->∀ t,p (l++t)=.ok (x,r++t)):∀ (n:Nat) (l:List UInt8) (e:Int),ZbI p n l=.error e->e≠10->∀ t,ZbI p n (l++t)=.error e:=by
 intro n
 induction n with
 | zero=>intro l e h;simp only [ZbI] at h;cases h
 | succ n ih =>
   intro l e h b t;simp only [ZbI] at h ⊢;split at h
   · rename_i d a;injection h with h
     subst h;rw [hs _ _ a b]
   rename_i x f a;rw [hq _ _ _ a];simp only;split at h
   · rename_i g c;injection h with h
     subst h;rw [ih _ _ c b]
   cases h
end many
theorem ZlE {k e:Int} {l:List UInt8} (h:pNum k l=.error e) (he:e≠10) (t:List UInt8):pNum k (l++t)=.error e:=by
 rw [Zgj] at h ⊢;split at h
 · injection h with h;omega
 rename_i b;rw [Yab (by rw [Yaf];omega),YfM qO];split at h
 · rename_i a;rw [Yac a,h]
 cases h
theorem ZjU {e:Int} {l:List UInt8} (h:Zci l=.error e) (he:e≠10) (t:List UInt8):Zci (l++t)=.error e:=by
 unfold Zci at h ⊢;split at h
 · injection h with h;omega
 rename_i b;rw [Yab (by rw [Yaf];omega),YfM qO];split at h
 · rename_i a;rw [Yac a,h]
 split at h
 · injection h with h;omega
 cases h
theorem Zuf {k n:Int} {l r:List UInt8} (h:pNum k l=.ok (n,r)) (t:List UInt8):pNum k (l++t)=.ok (n,r++t):=by obtain ⟨a,b,c⟩:=Zgk h;rw [<- a,Yak,ZkD b c]
theorem ZsH {s:ByteArray} {l r:List UInt8} (h:Zci l=.ok (s,r)) (t:List UInt8):Zci (l++t)=.ok (s,r++t):=by obtain ⟨a,b⟩:=Zfp h;rw [<- a,Yak,Ziz b]
theorem Zoz {k:Int} {l:List UInt8} (h:pNum k l=.error 10):l.length<8:=by
 rw [Zgj] at h;split at h
 · have:=ZtU k;omega
 split at h
 · injection h with h
   exact absurd h (Zpu _ _)
 cases h
theorem ZlF {l:List UInt8} (h:Zci l=.error 10):l.length<1002:=by
 unfold Zci at h;split at h
 · omega
 split at h
 · injection h with h;omega
 split at h
 · rename_i a;rw [Yas] at a;omega
 cases h
inductive ZiA:GVal->Prop
 | num (k n:Int) (h1:1<=k) (h3:k<=3) (he:ZaM k n=0):ZiA ⟨k,n,⟨#[]⟩,[],[]⟩
 | text (s:ByteArray) (hs:s.size<=1000):ZiA ⟨4,0,s,[],[]⟩
 | nums (k:Int) (xs:List Int) (h1:1<=k) (h3:k<=3) (hl:xs.length<=40) (he:∀ x∈xs,ZaM k x=0):ZiA ⟨k+4,0,⟨#[]⟩,xs,[]⟩
 | texts (xs:List ByteArray) (hl:xs.length<=40) (hs:∀ s∈xs,s.size<=1000):ZiA ⟨8,0,⟨#[]⟩,[],xs⟩
theorem ZeE {k:Int}:∀ {l:List Int},ZbH k l=0↔∀ x∈l,ZaM k x=0
 | []=>by simp [ZbH]
 | x::l=>by
   simp only [ZbH,Yat,forall_eq_or_imp];split
   · rename_i h;exact ⟨fun a=>absurd a h,fun a=>a.1⟩
   rename_i h;rw [ZeE];exact ⟨fun a=>⟨YbX.1 h,a⟩,fun a=>a.2⟩
theorem ZqJ {s:ByteArray} (h:s.size=0):s=⟨#[]⟩:=by obtain ⟨a⟩:=s;have:a=#[]:=Ygw h;rw [this]
theorem ZiB {g:GVal} (h:chk g=0):ZiA g:=by
 obtain ⟨v,x,o,m,n,w,e⟩:=Zfo h;obtain ⟨a,f,d,b,c⟩:=g;simp only at v x m n w e;have p:=o;unfold ZcV at o;simp only [YfN,Bool.and_eq_false_iff,YfI,decide_eq_false_iff_not,Ybn,YfN] at o;obtain ⟨⟨⟨z,A⟩,B⟩,C⟩:=o;have j:chk ⟨a,f,d,b,c⟩=if a<4 then ZaM a f else ZbH (a-4) b:=by
  unfold chk;rw [Yab (by simp only;omega),Yab (by rw [p];simp),Yab (by simp only;omega),Yab];intro i;rcases i with i | i
  · simp only at i;omega
  obtain ⟨s,y,i⟩:=Yck.1 i;have:=e s y;simp at i;omega
 rw [j] at h;have t:a≠4->d=⟨#[]⟩:=fun k=>ZqJ qO;have q:a<5\/a=8->b=[]:=fun k=>Yco qO;have r:a≠8->c=[]:=fun k=>Yco qO;by_cases k:a<4
 · rw [Yac k] at h;rw [t qO,q qO,r qO];exact .num _ _ v qO h
 rw [Yab k] at h;obtain rfl:f=0:=qO;by_cases u:a=4
 · subst u;rw [q qO,r qO];exact .text _ w
 rw [t u];by_cases l:a=8
 · subst l;rw [q qO];exact .texts _ n e
 rw [r l];have:=ZiA.nums (a-4) b qO qO m (ZeE.1 h);rwa [show a-4+4=a by omega] at this
theorem Zhb:(⟨#[]⟩:ByteArray)=ByteArray.empty:=rfl
theorem ZlG {g:GVal} (h:ZiA g):chk g=0:=by
 cases h with
 | num k n h1 h3 he =>
   have b:¬ (3:Int)<k:=qO;unfold chk;rw [Yab (by simp only;omega),Yab (by simp [ZcV,b,Zhb]),Yab (by simp),Yab (by simp;decide),Yac (by simp only;omega)];exact he
 | text s hs =>
   unfold chk;rw [Yab (by simp only;omega),Yab (by simp [ZcV]),Yab (by simp),Yab (by simp;omega),Yab (by simp only;omega)];rfl
 | nums k xs h1 h3 hl he =>
   have b:¬ k+4<5:=qO;have d:¬ k+4=8:=qO;unfold chk;rw [Yab (by simp only;omega),Yab (by simp [ZcV,b,d,Zhb]),Yab (by simp;omega),Yab (by simp;decide),Yab (by simp only;omega)];simp only [show k+4-4=k by omega];exact ZeE.2 he
 | texts xs hl hs =>
   unfold chk;rw [Yab (by simp only;omega),Yab (by simp [ZcV,Zhb]),Yab (by simp;omega),Yab,Yab (by simp only;omega)]
   · rfl
   intro a;rcases a with a | a
   · simp at a;revert a;decide
   obtain ⟨s,c,a⟩:=Yck.1 a;have:=hs s c;simp at a;omega
theorem ZkE (n:Nat):beb 1 n=[UInt8.ofNat n]:=by simp [beb]
def encR (g:GVal):List UInt8:=UInt8.ofNat g.kind.toNat::Zcu g
theorem ZiC {g:GVal} (h:chk g=0):enc g=encR g:=by unfold enc encR;rw [Yac h,ZkE];rfl
theorem ZkF (k n:Int) (h:k<=3):Zcu ⟨k,n,⟨#[]⟩,[],[]⟩=Zbw k n:=Yac (by simp only;omega)
theorem ZiD (s:ByteArray):Zcu ⟨4,0,s,[],[]⟩=Zbs s:=by unfold Zcu;simp only;rw [Yab qO,Yac trivial]
theorem ZiE (k:Int) (xs:List Int) (h1:1<=k):Zcu ⟨k+4,0,⟨#[]⟩,xs,[]⟩=UInt8.ofNat xs.length::xs.flatMap (Zbw k):=by unfold Zcu;simp only [YaS,YbW,Yfj,Ybl];rw [Yab qO,Yab qO,ZkE,show k+4-4=k by omega];rfl
theorem Zhc (xs:List ByteArray):Zcu ⟨8,0,⟨#[]⟩,[],xs⟩=UInt8.ofNat xs.length::xs.flatMap Zbs:=by unfold Zcu;simp only [YaS,YbJ,Yfj,YaK];rw [Yab qO,Yab qO,ZkE];rfl
theorem Zpv {N:Nat} (h:N<=255):(UInt8.ofNat ((N:Int)).toNat).toNat=N:=by rw [UInt8.toNat_ofNat',YaN];omega
theorem Znp {N:Nat} (h:N<=200):(UInt8.ofNat ((N:Int)+4).toNat).toNat=N+4:=by rw [UInt8.toNat_ofNat'];omega
theorem ZlH {n:Nat} (h:n<=255):(UInt8.ofNat n).toNat=n:=by rw [UInt8.toNat_ofNat'];omega
theorem ZsI (N:Nat) (h1:1<=N) (h3:N<=3) (l:List UInt8):pVal (UInt8.ofNat ((N:Int)).toNat::l)=match pNum N l with
 | .error e=>.error e
 | .ok (n,r)=>.ok (⟨N,n,⟨#[]⟩,[],[]⟩,r):=by
 unfold pVal;simp only;rw [Zpv qO,Yab qO,Yab qO,Yab qO];cases pNum N l <;> rfl
theorem ZqK (l:List UInt8):pVal (UInt8.ofNat (4:Int).toNat::l)=match Zci l with
 | .error e=>.error e
 | .ok (s,r)=>.ok (⟨4,0,s,[],[]⟩,r):=by
 unfold pVal;simp only;rw [show (UInt8.ofNat (4:Int).toNat).toNat=4 from rfl,Yab qO,Yab qO,Yac qO];cases Zci l <;> rfl
theorem ZqL (N:Nat) (h1:1<=N) (h3:N<=3) (n:Nat) (hn:n<=40) (l:List UInt8):pVal (UInt8.ofNat ((N:Int)+4).toNat::UInt8.ofNat n::l)=match ZbI (pNum N) n l with
 | .error e=>.error e
 | .ok (xs,r)=>.ok (⟨(N:Int)+4,0,⟨#[]⟩,xs,[]⟩,r):=by
 unfold pVal;simp only;rw [Znp qO,Yab qO,Yac qO];unfold Zgb;simp only;rw [ZlH qO,Yab qO,Yab qO,show ((N+4:Nat):Int)-4=(N:Int) by omega,show ((N+4:Nat):Int)=(N:Int)+4 by omega];cases ZbI (pNum N) n l <;> rfl
theorem Zpw (n:Nat) (hn:n<=40) (l:List UInt8):pVal (UInt8.ofNat (8:Int).toNat::UInt8.ofNat n::l)=match ZbI Zci n l with
 | .error e=>.error e
 | .ok (xs,r)=>.ok (⟨8,0,⟨#[]⟩,[],xs⟩,r):=by
 unfold pVal;simp only;rw [show (UInt8.ofNat (8:Int).toNat).toNat=8 from rfl,Yab qO,Yac qO];unfold Zgb;simp only;rw [ZlH qO,Yab qO,Yac (by rfl)];cases ZbI Zci n l <;> rfl
theorem ZoA {g:GVal} (hg:ZiA g) (hf:g.Fits) (t:List UInt8):pVal (encR g++t)=.ok (g,t):=by
 have b:=hf.num;have c:=hf.range;unfold encR;cases hg with
 | num k n h1 h3 he =>
   obtain ⟨N,rfl⟩:=Yej (show 0<=k by omega);rw [ZkF _ _ h3,YaE,ZsI N qO qO,ZkD he b]
 | text s hs=>rw [ZiD,YaE,ZqK,Ziz hs]
 | nums k xs h1 h3 hl he =>
   obtain ⟨N,rfl⟩:=Yej (show 0<=k by omega);rw [ZiE _ _ h1,YaE,YaE,ZqL N qO qO _ hl,ZlD t xs fun x a t=>ZkD (he x a) (c x a) t]
 | texts xs hl hs=>rw [Zhc,YaE,YaE,Zpw _ hl,ZlD t xs fun x a t=>Ziz (hs x a) t]
theorem ZlI {g:GVal} {l r:List UInt8} (h:pVal l=.ok (g,r)):ZiA g/\g.Fits/\encR g++r=l:=by
 unfold pVal at h;split at h
 · cases h
 rename_i c z;have v:=c.toNat_lt;split at h
 · cases h
 rename_i A;have a:UInt8.ofNat ((c.toNat:Int)).toNat=c:=by rw [YaN];exact UInt8.ofNat_toNat
 split at h
 · rename_i w;unfold Zgb at h;split at h
   · cases h
   rename_i d B;have k:UInt8.ofNat d.toNat=d:=UInt8.ofNat_toNat;split at h
   · cases h
   rename_i y;split at h
   · rename_i u;split at h
     · cases h
     rename_i o p b;injection h with h
     injection h with h3 h5
     obtain ⟨f,i,j⟩:=ZjS (fun _ _ _ q=>Zfp q) _ _ _ _ b;rw [u] at h3 a;subst h3 h5;refine ⟨.texts o qO j,⟨⟨by simp,by simp⟩,⟨by simp,by simp⟩,by simp⟩,?_⟩;unfold encR;rw [Zhc,i,k,YaE,YaE,f];exact YaC (·::_) a
   rename_i u;split at h
   · cases h
   rename_i o p b;injection h with h
   injection h with h3 h5
   obtain ⟨f,i,j⟩:=ZjS (e:=Zbw (c.toNat-4)) (Q:=fun x=>ZaM (c.toNat-4) x=0 /\ -9223372036854775808<=x/\x<=9223372036854775807) (fun _ _ _ q=>Zgk q) _ _ _ _ b;subst h3 h5;refine ⟨?_,⟨by simp only;omega,by simp,fun x t=>(j x t).2⟩,?_⟩
   · have:=ZiA.nums ((c.toNat:Int)-4) o qO qO qO fun x t=>(j x t).1;rwa [show (c.toNat:Int)-4+4=c.toNat by omega] at this
   have:=ZiE ((c.toNat:Int)-4) o qO;rw [show (c.toNat:Int)-4+4=c.toNat by omega] at this;unfold encR;rw [this,i,k,YaE,YaE,f,a]
 rename_i w;split at h
 · rename_i m;split at h
   · cases h
   rename_i s p b;injection h with h
   injection h with h3 h5
   obtain ⟨f,i⟩:=Zfp b;subst h3 h5;refine ⟨.text s i,⟨⟨by simp,by simp⟩,⟨by simp,by simp⟩,by simp⟩,?_⟩;unfold encR;rw [ZiD,YaE,f];rw [m] at a;exact YaC (·::_) a
 rename_i m;split at h
 · cases h
 rename_i n p b;injection h with h
 injection h with h3 h5
 obtain ⟨f,i,j⟩:=Zgk b;subst h3 h5;refine ⟨.num _ n qO qO i,⟨by simp only;omega,j,by simp⟩,?_⟩;unfold encR;rw [ZkF _ _ qO,YaE,f,a]
theorem ZqM {e:Int} {l:List UInt8} (h:pVal l=.error e) (he:e≠10) (t:List UInt8):pVal (l++t)=.error e:=by
 unfold pVal at h ⊢;split at h
 · injection h with h;omega
 rename_i c o;simp only [YaE];split at h
 · rename_i i;rw [Yac i,h]
 rename_i i;rw [Yab i];split at h
 · rename_i j;rw [Yac j];unfold Zgb at h ⊢;split at h
   · injection h with h;omega
   rename_i d p;simp only [YaE];split at h
   · rename_i a;rw [Yac a,h]
   rename_i a;rw [Yab a];split at h
   · rename_i k;rw [Yac k];split at h
     · rename_i m b;injection h with h
       subst h;rw [ZjT (fun _ _ f n=>ZjU f n) (fun _ _ _ f=>ZsH f) _ _ _ b he]
     cases h
   rename_i k;rw [Yab k];split at h
   · rename_i m b;injection h with h
     subst h;rw [ZjT (fun _ _ f n=>ZlE f n) (fun _ _ _ f=>Zuf f) _ _ _ b he]
   cases h
 rename_i j;rw [Yab j];split at h
 · rename_i g;rw [Yac g];split at h
   · rename_i m b;injection h with h
     subst h;rw [ZjU b he]
   cases h
 rename_i g;rw [Yab g];split at h
 · rename_i m b;injection h with h
   subst h;rw [ZlE b he]
 cases h
theorem ZqN {k n:Int} {l r:List UInt8} (h:pNum k l=.ok (n,r)):l.length<=r.length+8:=by obtain ⟨a,_⟩:=Zgk h;rw [<- a,Yaf];have:=ZdM k n;omega
theorem Zpx {s:ByteArray} {l r:List UInt8} (h:Zci l=.ok (s,r)):l.length<=r.length+1002:=by obtain ⟨a,b⟩:=Zfp h;rw [<- a,Yaf,Zcw];omega
theorem ZsJ {l:List UInt8} (h:pVal l=.error 10):l.length<40082:=by
 unfold pVal at h;split at h
 · simp
 rename_i c j;rw [Yao];split at h
 · injection h with h;omega
 split at h
 · unfold Zgb at h;split at h
   · simp
   rename_i d k;rw [Yao];split at h
   · injection h with h;omega
   rename_i i;split at h
   · split at h
     · rename_i e a;injection h with h
       subst h;have f:=Zgl (B:=1002) (fun _ b=>ZlF b) (fun _ _ _ b=>Zpx b) _ _ a;have g:d.toNat*1002<=40*1002:=Ycy _ qO;omega
     cases h
   split at h
   · rename_i e a;injection h with h
     subst h;have f:=Zgl (B:=8) (fun _ b=>Zoz b) (fun _ _ _ b=>ZqN b) _ _ a;have g:d.toNat*8<=40*8:=Ycy _ qO;omega
   cases h
 split at h
 · split at h
   · rename_i e a;injection h with h
     subst h;have:=ZlF a;omega
   cases h
 split at h
 · rename_i e a;injection h with h
   subst h;have:=Zoz a;omega
 cases h
theorem ZqO {g:GVal} (h:ZiA g):(encR g).length<=40082:=by
 unfold encR;rw [Yao];cases h with
 | num k n h1 h3 he =>
   rw [ZkF _ _ h3];have:=ZdM k n;omega
 | text s hs =>
   rw [ZiD,Zcw];omega
 | nums k xs h1 h3 hl he =>
   rw [ZiE _ _ h1,Yao];have:=ZcX k xs;omega
 | texts xs hl hs =>
   rw [Zhc,Yao];have:=ZcI xs hs;omega
theorem ZqP (l:List UInt8) {m:Nat} (hm:40082<=m):decP (l.take m)=decP l:=by
 by_cases a:l.length<=m
 · rw [YaB a]
 have c:(l.take m).length=m:=by rw [YaJ];omega
 cases h:pVal (l.take m) with
 | error e =>
   have d:e≠10:=by rintro rfl;have:=ZsJ h;omega
   have b:=ZqM h d (l.drop m);rw [YbT] at b;rw [Zgh h,Zgh b]
 | ok x =>
   obtain ⟨g,r⟩:=x;obtain ⟨i,b,j⟩:=ZlI h;have f:pVal l=.ok (g,r++l.drop m):=by have:=ZoA i b (r++l.drop m);rwa [<- Yak,j,YbT] at this
   rw [Ziu h,Ziu f,c,Yaf,Yas];congr 2;omega
theorem ZsK {g:GVal} (h:chk g=0) (hf:g.Fits) (t:List UInt8):decP (enc g++t)=(g,(enc g).length,0):=by rw [ZiC h];rw [Ziu (ZoA (ZiB h) hf t),Yaf];congr 2;omega
theorem ZsL {g:GVal} (h:chk g=0) (hf:g.Fits):decD (enc g).length (decP (enc g))=(g,0):=by have:=ZsK h hf [];rw [Ybl] at this;rw [this];unfold decD;rw [Yab (by simp)]
theorem ZlJ {k:Int} {l:List UInt8}:¬ pNum k l=.error 0:=by
 intro h;rw [Zgj] at h;split at h
 · cases h
 split at h
 · rename_i a;injection h with h
   exact a h
 cases h
theorem ZjV {l:List UInt8}:¬ Zci l=.error 0:=by
 intro h;unfold Zci at h;split at h
 · cases h
 split at h
 · cases h
 split at h
 · cases h
 cases h
theorem ZjW {α:Type} {p:List UInt8->Except Int (α×List UInt8)} (hp:∀ l,¬ p l=.error 0):∀ (n:Nat) (l:List UInt8),¬ ZbI p n l=.error 0:=by
 intro n
 induction n with
 | zero=>intro l h;simp only [ZbI] at h;cases h
 | succ n ih =>
   intro l h;simp only [ZbI] at h;split at h
   · rename_i c a;injection h with h
     subst h;exact hp _ a
   split at h
   · rename_i d b;injection h with h
     subst h;exact ih _ b
   cases h
theorem ZqQ {l:List UInt8}:¬ pVal l=.error 0:=by
 intro a;unfold pVal at a;split at a
 · cases a
 split at a
 · cases a
 split at a
 · unfold Zgb at a;split at a
   · cases a
   split at a
   · cases a
   split at a
   · split at a
     · rename_i c b;injection a with a
       subst a;exact ZjW (fun _ d=>ZjV d) _ _ b
     cases a
   split at a
   · rename_i c b;injection a with a
     subst a;exact ZjW (fun _ d=>ZlJ d) _ _ b
   cases a
 split at a
 · split at a
   · rename_i c b;injection a with a
     subst a;exact ZjV b
   cases a
 split at a
 · rename_i c b;injection a with a
   subst a;exact ZlJ b
 cases a
theorem ZqR {g:GVal} {l:List UInt8} (h:decD l.length (decP l)=(g,0)):chk g=0/\g.Fits/\enc g=l:=by
 cases hv:pVal l with
 | error e =>
   rw [Zgh hv] at h;have f:e=0:=by
    unfold decD at h;split at h
    · injection h with _ h
      cases h
    injection h with _ h
   subst f;exact absurd hv ZqQ
 | ok x =>
   obtain ⟨j,r⟩:=x;obtain ⟨d,k,b⟩:=ZlI hv;rw [Ziu hv] at h;unfold decD at h;split at h
   · injection h with _ h
     cases h
   rename_i m;injection h with a _
   subst a;have i:r=[]:=by
    have a:=ZjR hv;have c:=YaC List.length b;rw [Yaf] at c;have n:(encR j).length>=1:=by unfold encR;simp
    cases r with
    | nil=>rfl
    | cons x r=>exact absurd ⟨rfl,by show l.length-(x::r).length<l.length;rw [Yao] at c a ⊢;omega⟩ m
   subst i;rw [Ybl] at b;exact ⟨ZlG d,k,by rw [ZiC (ZlG d),b]⟩
abbrev ZqS:BitVec 32:=0xedb88320#32
def bst (c:BitVec 32):BitVec 32:=(c >>> 1) ^^^ (if c.getLsbD 0 then ZqS else 0#32)
def crcB (c:BitVec 32) (x:UInt8):BitVec 32:=bst (bst (bst (bst (bst (bst (bst (bst (c ^^^ x.toBitVec.setWidth 32))))))))
def crcU (c:BitVec 32) (bs:List UInt8):BitVec 32:=bs.foldl crcB c
def crcS (bs:List UInt8):BitVec 32 := ~~~ (crcU (~~~ 0#32) bs)
theorem Zug (a b:BitVec 32):bst (a ^^^ b)=bst a ^^^ bst b:=by
 unfold bst;rw [BitVec.ushiftRight_xor_distrib,BitVec.getLsbD_xor];cases a.getLsbD 0 <;> cases b.getLsbD 0 <;> simp [BitVec.xor_assoc]
 · rw [BitVec.xor_comm (b >>> 1)]
 rw [BitVec.xor_comm ZqS,BitVec.xor_assoc,BitVec.xor_self,BitVec.xor_zero]
theorem ZsM (c:BitVec 32) (a b:List UInt8):crcU c (a++b)=crcU (crcU c a) b:=by simp [crcU]
def crcT:Array (BitVec 32):=#[0x00000000#32,0x1db71064#32,0x3b6e20c8#32,0x26d930ac#32,0x76dc4190#32,0x6b6b51f4#32,0x4db26158#32,0x5005713c#32,0xedb88320#32,0xf00f9344#32,0xd6d6a3e8#32,0xcb61b38c#32,0x9b64c2b0#32,0x86d3d2d4#32,0xa00ae278#32,0xbdbdf21c#32]
theorem ZsN:∀ k:Fin 16,crcT[k.val]?=some (bst (bst (bst (bst (BitVec.ofNat 32 k.val))))):=qD
theorem Zii {c:BitVec 32} (h:c.getLsbD 0=false):bst c=c >>> 1:=by unfold bst;rw [h];simp
theorem bst4 (c:BitVec 32):bst (bst (bst (bst c)))=bst (bst (bst (bst (c &&& 15#32)))) ^^^ (c >>> 4):=by
 have e:c=(c &&& 15#32) ^^^ (c &&& ~~~15#32):=by refine BitVec.eq_of_getLsbD_eq fun i d=>?_;simp only [BitVec.getLsbD_xor,YfO,YfP];cases c.getLsbD i <;> cases (15#32).getLsbD i <;> simp [d]
 have f:bst (bst (bst (bst (c &&& ~~~15#32))))=c >>> 4:=by
  have a:∀ j,j<4->(c &&& ~~~15#32).getLsbD j=false:=by
   intro j h;rw [YfO,YfP];have:(15#32).getLsbD j=true:=by rcases (by omega:j=0\/j=1\/j=2\/j=3) with rfl | rfl | rfl | rfl <;> decide
   rw [this];simp
  generalize g:c &&& ~~~15#32=m at a;rw [Zii (a 0 qO)];rw [Zii (c:=m >>> 1) (by rw [YeQ];exact a 1 qO),<-YfQ];rw [Zii (c:=m >>> (1+1)) (by rw [YeQ];exact a 2 qO),<-YfQ];rw [Zii (c:=m >>> (1+1+1)) (by rw [YeQ];exact a 3 qO),<-YfQ];rw [<- g];refine BitVec.eq_of_getLsbD_eq fun i d=>?_;rw [YeQ,YeQ,YfO,YfP];by_cases b:4+i<32
  · have:(15#32).getLsbD (4+i)=false:=by rw [BitVec.getLsbD_ofNat];have:Nat.testBit 15 (4+i)=false:=Nat.testBit_lt_two_pow (Ycd (by decide:15<2 ^ 4) (YdR qO qO));rw [this];simp
    rw [this];simp [b]
  rw [BitVec.getLsbD_of_ge c _ qO];simp
 conv=>lhs;rw [e]
 simp only [Zug];rw [f]
theorem ZqT (c:BitVec 32):∃ t,crcT[(c &&& 15#32).toNat]?=some t/\t ^^^ (c >>> 4)=bst (bst (bst (bst c)))/\(c &&& 15#32).toNat<16:=by
 have a:(c &&& 15#32).toNat<16:=by rw [BitVec.toNat_and];exact Nat.lt_of_le_of_lt Nat.and_le_right qD
 have h:=ZsN ⟨_,a⟩;refine ⟨_,h,?_,a⟩;rw [BitVec.ofNat_toNat,BitVec.setWidth_eq];exact (bst4 c).symm
abbrev crcD:BitVec 32:=0x04c11db7#32
def dst (r:BitVec 32) (bit:Bool):BitVec 32:=(r <<< 1) ^^^ (if r.getLsbD 31 != bit then crcD else 0#32)
structure Zaz where
 kind:Nat
 version:Nat
 size:Nat
 recs:List (Option (List UInt8))
def ZjG:List UInt8:=[83,82,69,67]
def Zaz.Ok (f:Zaz):Prop:=∀ d,some d∈f.recs->d.length+1=f.size
def Zaz.live (f:Zaz):Nat:=(f.recs.filter Option.isSome).length
def Zaz.used (f:Zaz) (i:Nat):Bool:=match f.recs[i]? with | some (some _)=>true | _=>false
def Zea (f:Zaz) (i:Int):Bool:=decide (0<=i) && f.used i.toNat
def ZaB (n:Nat):List UInt8:=List.replicate n 0
def recB (size:Nat):Option (List UInt8)->List UInt8
 | none=>ZaB size
 | some d=>1::d
def ZdC (f:Zaz):List UInt8:=ZjG++(beb 1 f.kind++(beb 1 f.version++(beb 2 f.size++beb 4 f.recs.length)))
def ZaS (f:Zaz):List UInt8:=ZdC f++(beb 4 (crcS (ZdC f)).toNat++f.recs.flatMap (recB f.size))
def recP:List UInt8->Except Int (Option (List UInt8))
 | []=>.error 94
 | x::l=>if 1<x.toNat then .error 93 else if x.toNat=1 then .ok (some l) else if l.all (·==0) then .ok none else .error 94
def ZfP (size:Nat):Nat->List UInt8->Except Int (List (Option (List UInt8)))
 | 0,_=>.ok []
 | n+1,b=>match recP (b.take size) with
   | .error e=>.error e
   | .ok r=>match ZfP size n (b.drop size) with
     | .error e=>.error e
     | .ok rs=>.ok (r::rs)
def ZjH (b:List UInt8):Except Int Zaz :=
 if b.length<16 then .error 10
 else if b.take 4≠ZjG then .error 90
 else if be ((b.drop 12).take 4)≠(crcS (b.take 12)).toNat then .error 91
 else if be ((b.drop 6).take 2)<2\/255<be ((b.drop 6).take 2) then .error 4
 else if 65536<be ((b.drop 8).take 4)\/b.length≠16+be ((b.drop 8).take 4)*be ((b.drop 6).take 2) then .error 92
 else match ZfP (be ((b.drop 6).take 2)) (be ((b.drop 8).take 4)) (b.drop 16) with
  | .error e=>.error e
  | .ok rs=>.ok ⟨be ((b.drop 4).take 1),be ((b.drop 5).take 1),be ((b.drop 6).take 2),rs⟩
theorem ZoB {size:Nat} {r:Option (List UInt8)} (h:∀ d,r=some d->d.length+1=size):(recB size r).length=size:=by
 cases r with
 | none=>simp [recB,ZaB]
 | some d=>simp [recB,h d rfl]
theorem ZkG {size:Nat} (hs:0<size):∀ {rs:List (Option (List UInt8))},(∀ d,some d∈rs->d.length+1=size)->(rs.flatMap (recB size)).length=rs.length*size
 | [],_=>by simp
 | r::rs,h=>by rw [Ybs,Yaf,ZoB fun d a=>h d (by simp [a]),ZkG hs fun d a=>h d (by simp [a]),Yao,Ycn,YeP]
theorem ZqU {size:Nat} {r:Option (List UInt8)} (hs:0<size):recP (recB size r)=.ok r:=by
 cases r with
 | none =>
   obtain ⟨n,rfl⟩:∃ n,size=n+1:=⟨size-1,qO⟩
   simp [recB,ZaB,recP,Ycz]
 | some d=>simp [recB,recP]
theorem ZjX {size:Nat} (hs:0<size):∀ {rs:List (Option (List UInt8))},(∀ d,some d∈rs->d.length+1=size)->ZfP size rs.length (rs.flatMap (recB size))=.ok rs
 | [],_=>rfl
 | r::rs,h=>by have b:=ZoB (size:=size) (r:=r) fun d a=>h d (by simp [a]);rw [Yao,ZfP,Ybs,List.take_left' b,List.drop_left' b,ZqU hs,ZjX hs fun d a=>h d (by simp [a])]
theorem Zgm (f:Zaz):(ZdC f).length=12:=by simp [ZdC,ZjG,Zab]
theorem ZiF {f:Zaz} (hk:f.Ok) (h1:f.kind<=255) (h2:f.version<=255) (h3:2<=f.size) (h4:f.size<=255) (h5:f.recs.length<=65536):ZjH (ZaS f)=.ok f:=by
 obtain ⟨k,v,z,a⟩:=f;simp only at h1 h2 h3 h4 h5;have n:=ZkG (size:=z) qO hk;have w:(crcS (ZdC ⟨k,v,z,a⟩)).toNat<4294967296:=(crcS (ZdC ⟨k,v,z,a⟩)).isLt;have c:=Zgm ⟨k,v,z,a⟩;have o:(ZaS ⟨k,v,z,a⟩).length=16+a.length*z:=by simp only [ZaS,Yaf,c,Zab,n];omega
 have d:(ZaS ⟨k,v,z,a⟩).take 12=ZdC ⟨k,v,z,a⟩:=List.take_left' c;have b:(ZaS ⟨k,v,z,a⟩).drop 12=beb 4 (crcS (ZdC ⟨k,v,z,a⟩)).toNat++a.flatMap (recB z):=List.drop_left' c;have i:ZaS ⟨k,v,z,a⟩=ZjG++(beb 1 k++(beb 1 v++(beb 2 z++(beb 4 a.length++(beb 4 (crcS (ZdC ⟨k,v,z,a⟩)).toNat++a.flatMap (recB z)))))):=by simp [ZaS,ZdC,Yak]
 have j:(ZaS ⟨k,v,z,a⟩).drop 4=beb 1 k++(beb 1 v++(beb 2 z++(beb 4 a.length++(beb 4 (crcS (ZdC ⟨k,v,z,a⟩)).toNat++a.flatMap (recB z))))):=by rw [i];exact List.drop_left' rfl
 have l:(ZaS ⟨k,v,z,a⟩).drop 5=beb 1 v++(beb 2 z++(beb 4 a.length++(beb 4 (crcS (ZdC ⟨k,v,z,a⟩)).toNat++a.flatMap (recB z)))):=by rw [show 5=4+1 from rfl,<-Ybm,j];exact List.drop_left' (Zab _ _)
 have m:(ZaS ⟨k,v,z,a⟩).drop 6=beb 2 z++(beb 4 a.length++(beb 4 (crcS (ZdC ⟨k,v,z,a⟩)).toNat++a.flatMap (recB z))):=by rw [show 6=5+1 from rfl,<-Ybm,l];exact List.drop_left' (Zab _ _)
 have p:(ZaS ⟨k,v,z,a⟩).drop 8=beb 4 a.length++(beb 4 (crcS (ZdC ⟨k,v,z,a⟩)).toNat++a.flatMap (recB z)):=by rw [show 8=6+2 from rfl,<-Ybm,m];exact List.drop_left' (Zab _ _)
 have e:(ZaS ⟨k,v,z,a⟩).drop 16=a.flatMap (recB z):=by rw [show 16=12+4 from rfl,<-Ybm,b];exact List.drop_left' (Zab _ _)
 have q:be (((ZaS ⟨k,v,z,a⟩).drop 4).take 1)=k:=by rw [j,List.take_left' (Zab _ _),ZeD];omega
 have r:be (((ZaS ⟨k,v,z,a⟩).drop 5).take 1)=v:=by rw [l,List.take_left' (Zab _ _),ZeD];omega
 have s:be (((ZaS ⟨k,v,z,a⟩).drop 6).take 2)=z:=by rw [m,List.take_left' (Zab _ _),ZeD];omega
 have t:be (((ZaS ⟨k,v,z,a⟩).drop 8).take 4)=a.length:=by rw [p,List.take_left' (Zab _ _),ZeD];omega
 have g:be (((ZaS ⟨k,v,z,a⟩).drop 12).take 4)=(crcS (ZdC ⟨k,v,z,a⟩)).toNat:=by rw [b,List.take_left' (Zab _ _),ZeD];omega
 have u:(ZaS ⟨k,v,z,a⟩).take 4=ZjG:=by rw [i];exact List.take_left' rfl
 unfold ZjH;rw [q,r,s,t,g,d,u,e,o,Yab qO,Yab (by simp),Yab (by simp),Yab qO,Yab (by rintro (h | h);exact absurd h (Nat.not_lt.2 h5);exact h rfl),ZjX (show 0<z by omega) hk]
end
section
open Go.RowKit
def ZiG (c:UInt8):Bool:=(decide (97<=c.toNat) && decide (c.toNat<=122)) || (decide (65<=c.toNat) && decide (c.toNat<=90)) || (decide (48<=c.toNat) && decide (c.toNat<=57)) || decide (c.toNat=95)
def ZoC (c:UInt8):Bool:=decide (48<=c.toNat) && decide (c.toNat<=57)
def ZqV:List UInt8->Bool
 | []=>false
 | c::_=>!ZoC c
def ZiH (l:List UInt8):Bool:=decide (l.length<=40) && ZqV l && l.all ZiG
def Zbj (s:ByteArray):Bool:=ZiH s.data.toList
theorem Zcj (s:ByteArray):s.data.toList.length=s.size:=by rw [Ycf];rfl
theorem ZlK (s:ByteArray) {k:Nat} (h:k<s.size):s.data.toList[k]'(by rw [Zcj];exact h)=s[k]:=by rw [Array.getElem_toList];rfl
theorem ZiI (s:ByteArray):s.toList=[]↔s.size=0:=by rw [Ydz,<-Zcj,YcI]
theorem ZqW {s:ByteArray} (h:0<s.size):ZqV s.data.toList=!ZoC s[0]:=by
 have a:0<s.data.toList.length:=by rw [Zcj];exact h
 have b:s.data.toList[0]'a=s[0]:=ZlK s h;cases hl:s.data.toList with
 | nil=>rw [hl] at a;simp at a
 | cons c l=>simp only [hl,Yaz] at b;simp only [ZqV];rw [b]
theorem ZsO {l:List UInt8} {k:Nat} (h:k<l.length):(l.take (k+1)).all ZiG=((l.take k).all ZiG && ZiG l[k]):=by rw [Ybo,Yar h,Yem,YfR];simp
theorem ZqX {l:List UInt8} {k:Nat} (h:k<l.length) (hc:ZiG l[k]=false):l.all ZiG=false:=by rw [List.all_eq_false];exact ⟨l[k],YdA h,by rw [hc];simp⟩
theorem ZqY {c:UInt8} (h:(97<=c.toNat/\c.toNat<=122)\/(65<=c.toNat/\c.toNat<=90)\/(48<=c.toNat/\c.toNat<=57)\/c.toNat=95):ZiG c=true:=by unfold ZiG;simp only [YcH,Yay,Ybc];omega
theorem ZsP {c:UInt8} (h:¬ ((97<=c.toNat/\c.toNat<=122)\/(65<=c.toNat/\c.toNat<=90)\/(48<=c.toNat/\c.toNat<=57)\/c.toNat=95)):ZiG c=false:=by rw [Bool.eq_false_iff];intro a;unfold ZiG at a;simp only [YcH,Yay,Ybc] at a;omega
theorem Zbb (s:ByteArray) (w:World):Calls Tryz.prog 83 #[.string s] w fun e w'=>e=.returned (.bool (Zbj s))/\w=w':=by
 have F:=qH (ZiI s);by_cases l:s.size=0
 · have m:s.toList=[]:=(ZiI s).2 l;have b:=qH (show Zbj s=false from by unfold Zbj ZiH;have:s.data.toList=[]:=YcI.1 (by rw [Zcj];exact l);rw [this];rfl)
   go_enter Tryz.func83,Tryz.ntmps83;go_wp2
   all_goals first
    | (go_ret;exact ⟨by rw [b.out];rfl,rfl⟩)
    | (exfalso;simp_all)
 have u:0<s.size:=qO;have m:¬ s.toList=[]:=fun h=>l ((ZiI s).1 h);have n:s.toList.isEmpty=false:=by simpa using m
 by_cases v:40<s.size
 · have b:=qH (show Zbj s=false from by unfold Zbj ZiH;rw [Zcj,YaM qO];rfl)
   go_enter Tryz.func83,Tryz.ntmps83;go_wp2;go_ret;exact ⟨by rw [b.out];rfl,rfl⟩
 have p:=qH (ZqW u);have x:¬ (s.size:Int)<=0:=qO;have q:¬ (40:Int)<s.size:=qO;by_cases r:48<=s[0].toNat/\s[0].toNat<=57
 · obtain ⟨i,B⟩:=r;have b:=qH (show Zbj s=false from by unfold Zbj ZiH;rw [p.out];simp [ZoC,i,B])
   go_enter Tryz.func83,Tryz.ntmps83;go_wp2
   all_goals first
    | (go_ret;exact ⟨by rw [b.out];rfl,rfl⟩)
    | (exfalso;simp_all;done)
    | (exfalso;omega)
 have y:=qH (show ZqV s.data.toList=true from by
  rw [p.out];simp only [ZoC];by_cases i:48<=s[0].toNat
  · rw [YaV i,YaM qO];rfl
  rw [YaM i];rfl)
 go_enter Tryz.func83,Tryz.ntmps83;go_upto_region 1 with fail;go_cut [21] from 5 to 21 (fun o C=>o=.bool false/\C=w)
 case first =>
  go_wp2
  all_goals go_meet
  all_goals first
   | exact ⟨rfl,rfl⟩
   | (exfalso;omega)
   | (refine ⟨?_,rfl⟩;congr 1;simp_all;omega)
 obtain ⟨rfl,rfl⟩:=hcut;go_wp2_with fail;clear m n r;go_loopg [24] s.size (fun D E wr=>∃ k:Nat,s.size-k=D/\k<=s.size/\E=.int .i64 k/\wr=wc/\Hid ((s.data.toList.take k).all ZiG=true))
 case atStart=>exact ⟨0,rfl,Yah _,rfl,rfl,qH rfl⟩
 obtain ⟨k,rfl,G,rfl,rfl,t⟩:=hrel;by_cases c:k<s.size
 · have d:k<s.data.toList.length:=by rw [Zcj];exact c
   have f:=qH (ZsO d);have g:=qH (fun h=>ZqX d h);have a:=qH (ZlK s c);go_wp2
   all_goals first
    | (go_roundg (s.size-(k+1))
       case measure=>omega
       refine ⟨k+1,rfl,qO,by go_num,rfl,qH ?_⟩;rw [f.out,t.out,a.out,ZqY (by first | omega | (simp only [YbE] at *;omega))];rfl)
    | (have z:=qH (show Zbj s=false from by
        have j:=g.out (by rw [a.out];exact ZsP (by first | omega | (simp only [Ybn,ne_eq] at *;omega)));unfold Zbj ZiH;rw [j,YcS])
       go_ret;exact ⟨by rw [z.out];rfl,rfl⟩)
 have A:k=s.size:=qO;have b:=qH (show Zbj s=true from by unfold Zbj ZiH;have j:=t.out;rw [YaB (by rw [Zcj];omega)] at j;rw [y.out,j,Zcj,YaV qO];rfl)
 go_wp2;go_ret;exact ⟨by rw [b.out];rfl,rfl⟩
end
end Go.Proofs.YtmkjfhnlnhceiaaGreatDoor
