/- Texts that the claim leans on: walks and plain laws, function by function. -/
import Derived.Deep.LoopGhost
import Derived.Deep.CutBlock
import Derived.Test.YtkopcinhbjimiaaGreatDoorQ06
set_option maxRecDepth 100000
set_option maxHeartbeats 16000000
namespace Go.Proofs.YtkopcinhbjimiaaGreatDoor
theorem Zej (n:Nat):∀ k,be (beb k n)=n % 256 ^ k:=by
 intro k
 induction k with
 | zero=>simp [beb,be,Nat.mod_one]
 | succ k ih =>
   rw [beb,Zic,Zac,ih,Nat.pow_succ,Nat.mod_mul]
   simp only [UInt8.toNat_ofNat']
   rw [Nat.mul_comm,Nat.add_comm]
theorem Zqp:∀ (l m:List UInt8),l.length=m.length->be l=be m->l=m:=by
 intro l
 induction l with
 | nil=>intro m h _;exact (List.eq_nil_of_length_eq_zero h.symm).symm
 | cons c l ih =>
   intro m h he
   cases m with
   | nil=>cases h
   | cons d m =>
     have hl:l.length=m.length:=by simpa using h
     rw [Zic,Zic,hl] at he
     have h1:=Zdp l
     have h2:=Zdp m
     rw [hl] at h1
     generalize 256 ^ m.length=P at *
     have hP:0<P:=by omega
     have hc:c.toNat=d.toNat:=by
      have e1:(c.toNat*P+be l) / P=c.toNat:=by rw [Nat.mul_comm,Nat.mul_add_div hP,Nat.div_eq_of_lt h1,Nat.add_zero]
      have e2:(d.toNat*P+be m) / P=d.toNat:=by rw [Nat.mul_comm,Nat.mul_add_div hP,Nat.div_eq_of_lt h2,Nat.add_zero]
      rw [<- e1,<-e2,he]
     rw [UInt8.toNat_inj.1 hc,ih m hl (by rw [hc] at he;omega)]
theorem ZgA {l:List UInt8} {k n:Nat} (hl:l.length=k) (hn:n % 256 ^ k=be l):beb k n=l :=
 Zqp _ _ (by rw [Zac,hl]) (by rw [Zej,hn])
theorem Zpu {n:Int} (h : -9223372036854775808<=n/\n<=9223372036854775807):i64 (u64 n)=n:=by
 unfold i64 u64
 split <;> omega
theorem Zpv {m:Nat} (h:m<18446744073709551616):u64 (i64 m)=m:=by
 unfold i64 u64
 split <;> omega
def wid (k:Int):Nat:=if k=1 then 1 else 8
theorem Zff (k n:Int):(ZaK k n).length=wid k:=by unfold ZaK wid;split <;> simp [Zac]
theorem Zme {n:Int} (h:Zaq 1 n=0):n=0\/n=1:=by
 unfold Zaq at h
 by_cases h0:n=0
 · exact .inl h0
 by_cases h1:n=1
 · exact .inr h1
 rw [if_pos ⟨rfl,h0,h1⟩] at h
 cases h
theorem Zmf (k n:Int):Zaq k n≠10:=by
 unfold Zaq
 split
 · decide
 split <;> decide
theorem ZeH (k:Int) (l:List UInt8):pNum k l=if l.length<wid k then .error 10 else if Zaq k (i64 (be (l.take (wid k))))≠0 then .error (Zaq k (i64 (be (l.take (wid k))))) else .ok (i64 (be (l.take (wid k))),l.drop (wid k)):=rfl
theorem ZmN {k n:Int} (he:Zaq k n=0) (hr : -9223372036854775808<=n/\n<=9223372036854775807):i64 (be (ZaK k n))=n:=by
 unfold ZaK
 by_cases h1:k=1
 · subst h1
   rw [if_pos rfl,Zej]
   rcases Zme he with rfl | rfl <;> decide
 rw [if_neg h1,Zej,Nat.mod_eq_of_lt (by have:=Zll n;have:256 ^ 8=18446744073709551616:=(by decide);omega),Zpu hr]
theorem Zif {k n:Int} (he:Zaq k n=0) (hr : -9223372036854775808<=n/\n<=9223372036854775807) (t:List UInt8):pNum k (ZaK k n++t)=.ok (n,t):=by
 rw [ZeH,if_neg (by rw [List.length_append,Zff];omega),List.take_left' (Zff k n),List.drop_left' (Zff k n),ZmN he hr,if_neg (by simpa using he)]
theorem Zpj (k:Int):wid k<=8:=by unfold wid;split <;> omega
theorem ZeI {k n:Int} {l r:List UInt8} (h:pNum k l=.ok (n,r)):ZaK k n++r=l/\Zaq k n=0 /\ -9223372036854775808<=n/\n<=9223372036854775807:=by
 rw [ZeH] at h
 split at h
 · cases h
 rename_i h1
 split at h
 · cases h
 rename_i h2
 injection h with h
 injection h with h3 h4
 have hlt:=ZdQ l (wid k) (Zpj k)
 have hlen:(l.take (wid k)).length=wid k:=by rw [List.length_take];omega
 refine ⟨?_,?_,?_⟩
 · have:ZaK k n=l.take (wid k):=by
    rw [<- h3]
    unfold ZaK
    rw [Zpv hlt]
    unfold wid at hlen ⊢
    split
    · rename_i hk
      rw [if_pos hk] at hlen
      exact ZgA hlen (Nat.mod_eq_of_lt (by have:=Zdp (l.take 1);rwa [hlen] at this))
    rename_i hk
    rw [if_neg hk] at hlen
    exact ZgA hlen (Nat.mod_eq_of_lt (by have:=Zdp (l.take 8);rwa [hlen] at this))
   rw [this,<-h4,List.take_append_drop]
 · rw [<- h3]
   exact Decidable.not_not.1 h2
 rw [<- h3]
 exact Zgp _ hlt
theorem ZgB {s:ByteArray} (hs:s.size<=1000) (t:List UInt8):Zbn (ZaL s++t)=.ok (s,t):=by
 have hb:be ((ZaL s++t).take 2)=s.size:=by
  unfold ZaL
  rw [List.append_assoc,List.take_left' (Zac 2 _),Zej,Nat.mod_eq_of_lt (by have:256 ^ 2=65536:=(by decide);omega)]
 have hd:(ZaL s++t).drop 2=s.data.toList++t:=by
  unfold ZaL
  rw [List.append_assoc,List.drop_left' (Zac 2 _)]
 unfold Zbn
 rw [hb,hd,if_neg (by rw [List.length_append,Zce];omega),if_neg (by omega),if_neg (by rw [List.length_append,Zbr];omega),List.take_left' (Zbr s),List.drop_left' (Zbr s)]
theorem ZdT {s:ByteArray} {l r:List UInt8} (h:Zbn l=.ok (s,r)):ZaL s++r=l/\s.size<=1000:=by
 unfold Zbn at h
 split at h
 · cases h
 rename_i h1
 split at h
 · cases h
 rename_i h2
 split at h
 · cases h
 rename_i h3
 injection h with h
 injection h with h4 h5
 have hsz:s.size=be (l.take 2):=by
  rw [<- h4]
  show ((l.drop 2).take (be (l.take 2))).toArray.size=_
  rw [List.size_toArray,List.length_take]
  omega
 refine ⟨?_,by omega⟩
 have h6:beb 2 s.size=l.take 2:=by
  have hl:(l.take 2).length=2:=by rw [List.length_take];omega
  exact ZgA hl (by rw [hsz];exact Nat.mod_eq_of_lt (by have:=Zdp (l.take 2);rwa [hl] at this))
 unfold ZaL
 rw [h6,<-h5,<-h4,List.append_assoc]
 show l.take 2++(((l.drop 2).take (be (l.take 2))).toArray.toList++_)=l
 rw [List.take_append_drop,List.take_append_drop]
section many
variable {α:Type} {p:List UInt8->Except Int (α×List UInt8)} {e:α->List UInt8}
theorem ZiN (t:List UInt8):∀ xs:List α,(∀ x∈xs,∀ t,p (e x++t)=.ok (x,t))->ZaW p xs.length (xs.flatMap e++t)=.ok (xs,t):=by
 intro xs
 induction xs with
 | nil=>intro _;simp [ZaW]
 | cons x xs ih =>
   intro h
   simp only [List.length_cons,ZaW,List.flatMap_cons,List.append_assoc]
   rw [h x (by simp)]
   simp only
   rw [ih fun y hy=>h y (by simp [hy])]
theorem Zhv {Q:α->Prop} (hp:∀ l x r,p l=.ok (x,r)->e x++r=l/\Q x):∀ (n:Nat) (l:List UInt8) (xs:List α) (r:List UInt8),ZaW p n l=.ok (xs,r)->xs.flatMap e++r=l/\xs.length=n/\∀ x∈xs,Q x:=by
 intro n
 induction n with
 | zero =>
   intro l xs r h
   simp only [ZaW] at h
   injection h with h
   injection h with h1 h2
   subst h1 h2
   simp
 | succ n ih =>
   intro l xs r h
   simp only [ZaW] at h
   split at h
   · cases h
   rename_i x r1 h1
   split at h
   · cases h
   rename_i ys r2 h2
   injection h with h
   injection h with h3 h4
   subst h3 h4
   obtain ⟨i1,i2,i3⟩:=ih _ _ _ h2
   obtain ⟨j1,j2⟩:=hp _ _ _ h1
   refine ⟨by rw [List.flatMap_cons,List.append_assoc,i1,j1],by simp [i2],?_⟩
   intro y hy
   rcases List.mem_cons.1 hy with rfl | hy
   · exact j2
   exact i3 y hy
theorem ZeJ {B:Nat} (hp:∀ l,p l=.error 10->l.length<B) (hq:∀ l x r,p l=.ok (x,r)->l.length<=r.length+B):∀ (n:Nat) (l:List UInt8),ZaW p n l=.error 10->l.length<n*B:=by
 intro n
 induction n with
 | zero=>intro l h;simp only [ZaW] at h;cases h
 | succ n ih =>
   intro l h
   simp only [ZaW] at h
   rw [Nat.succ_mul]
   split at h
   · rename_i e1 h1
     injection h with h
     subst h
     have:=hp _ h1
     omega
   rename_i x r1 h1
   split at h
   · rename_i e2 h2
     injection h with h
     subst h
     have:=ih _ h2
     have:=hq _ _ _ h1
     omega
   cases h
theorem Zhw (hs:∀ l e,p l=.error e->e≠10->∀ t,p (l++t)=.error e) (hq:∀ l x r,p l=.ok (x,r)->∀ t,p (l++t)=.ok (x,r++t)):∀ (n:Nat) (l:List UInt8) (e:Int),ZaW p n l=.error e->e≠10->∀ t,ZaW p n (l++t)=.error e:=by
 intro n
 induction n with
 | zero=>intro l e h;simp only [ZaW] at h;cases h
 | succ n ih =>
   intro l e h he t
   simp only [ZaW] at h ⊢
   split at h
   · rename_i e1 h1
     injection h with h
     subst h
     rw [hs _ _ h1 he]
   rename_i x r1 h1
   rw [hq _ _ _ h1]
   simp only
   split at h
   · rename_i e2 h2
     injection h with h
     subst h
     rw [ih _ _ h2 he]
   cases h
end many
theorem ZiO {k e:Int} {l:List UInt8} (h:pNum k l=.error e) (he:e≠10) (t:List UInt8):pNum k (l++t)=.error e:=by
 rw [ZeH] at h ⊢
 split at h
 · injection h with h;omega
 rename_i h1
 rw [if_neg (by rw [List.length_append];omega),List.take_append_of_le_length (by omega)]
 split at h
 · rename_i h2
   rw [if_pos h2,h]
 cases h
theorem Zhx {e:Int} {l:List UInt8} (h:Zbn l=.error e) (he:e≠10) (t:List UInt8):Zbn (l++t)=.error e:=by
 unfold Zbn at h ⊢
 split at h
 · injection h with h;omega
 rename_i h1
 rw [if_neg (by rw [List.length_append];omega),List.take_append_of_le_length (by omega)]
 split at h
 · rename_i h2
   rw [if_pos h2,h]
 split at h
 · injection h with h;omega
 cases h
theorem Zpw {k n:Int} {l r:List UInt8} (h:pNum k l=.ok (n,r)) (t:List UInt8):pNum k (l++t)=.ok (n,r++t):=by
 obtain ⟨h1,h2,h3⟩:=ZeI h
 rw [<- h1,List.append_assoc,Zif h2 h3]
theorem Zoo {s:ByteArray} {l r:List UInt8} (h:Zbn l=.ok (s,r)) (t:List UInt8):Zbn (l++t)=.ok (s,r++t):=by
 obtain ⟨h1,h2⟩:=ZdT h
 rw [<- h1,List.append_assoc,ZgB h2]
theorem Zlp {k:Int} {l:List UInt8} (h:pNum k l=.error 10):l.length<8:=by
 rw [ZeH] at h
 split at h
 · have:=Zpj k;omega
 split at h
 · injection h with h
   exact absurd h (Zmf _ _)
 cases h
theorem ZiP {l:List UInt8} (h:Zbn l=.error 10):l.length<1002:=by
 unfold Zbn at h
 split at h
 · omega
 split at h
 · injection h with h;omega
 split at h
 · rename_i h3
   rw [List.length_drop] at h3
   omega
 cases h
inductive Zhl:GVal->Prop
 | num (k n:Int) (h1:1<=k) (h3:k<=3) (he:Zaq k n=0):Zhl ⟨k,n,⟨#[]⟩,[],[]⟩
 | text (s:ByteArray) (hs:s.size<=1000):Zhl ⟨4,0,s,[],[]⟩
 | nums (k:Int) (xs:List Int) (h1:1<=k) (h3:k<=3) (hl:xs.length<=40) (he:∀ x∈xs,Zaq k x=0):Zhl ⟨k+4,0,⟨#[]⟩,xs,[]⟩
 | texts (xs:List ByteArray) (hl:xs.length<=40) (hs:∀ s∈xs,s.size<=1000):Zhl ⟨8,0,⟨#[]⟩,[],xs⟩
theorem Zdw {k:Int}:∀ {l:List Int},ZaJ k l=0↔∀ x∈l,Zaq k x=0
 | []=>by simp [ZaJ]
 | x::l=>by
   simp only [ZaJ,List.mem_cons,forall_eq_or_imp]
   split
   · rename_i h
     exact ⟨fun hh=>absurd hh h,fun hh=>hh.1⟩
   rename_i h
   rw [Zdw]
   exact ⟨fun hh=>⟨Decidable.not_not.1 h,hh⟩,fun hh=>hh.2⟩
theorem ZmO {s:ByteArray} (h:s.size=0):s=⟨#[]⟩:=by
 obtain ⟨a⟩:=s
 have:a=#[]:=Array.eq_empty_of_size_eq_zero h
 rw [this]
theorem ZmP {g:GVal} (h:chk g=0):Zhl g:=by
 obtain ⟨h1,h8,hf,hl1,hl2,hx,hts⟩:=ZdS h
 obtain ⟨kind,num,text,nums,texts⟩:=g
 simp only at h1 h8 hl1 hl2 hx hts
 have hf':=hf
 unfold ZbG at hf
 simp only [Bool.or_eq_false_iff,Bool.and_eq_false_iff,bne_eq_false_iff_eq,decide_eq_false_iff_not,beq_eq_false_iff_ne,Bool.or_eq_false_iff] at hf
 obtain ⟨⟨⟨f1,f2⟩,f3⟩,f4⟩:=hf
 have hbig:chk ⟨kind,num,text,nums,texts⟩=if kind<4 then Zaq kind num else ZaJ (kind-4) nums:=by
  unfold chk
  rw [if_neg (by simp only;omega),if_neg (by rw [hf'];simp),if_neg (by simp only;omega),if_neg]
  intro hh
  rcases hh with hh | hh
  · simp only at hh;omega
  obtain ⟨s,hs,hh⟩:=List.any_eq_true.1 hh
  have:=hts s hs
  simp at hh
  omega
 rw [hbig] at h
 have t0:kind≠4->text=⟨#[]⟩:=fun hk=>ZmO (by omega)
 have n0:kind<5\/kind=8->nums=[]:=fun hk=>List.eq_nil_of_length_eq_zero (by omega)
 have x0:kind≠8->texts=[]:=fun hk=>List.eq_nil_of_length_eq_zero (by omega)
 by_cases hk:kind<4
 · rw [if_pos hk] at h
   rw [t0 (by omega),n0 (by omega),x0 (by omega)]
   exact .num _ _ h1 (by omega) h
 rw [if_neg hk] at h
 obtain rfl:num=0:=by omega
 by_cases h4:kind=4
 · subst h4
   rw [n0 (by omega),x0 (by omega)]
   exact .text _ hx
 rw [t0 h4]
 by_cases hk8:kind=8
 · subst hk8
   rw [n0 (by omega)]
   exact .texts _ hl2 hts
 rw [x0 hk8]
 have:=Zhl.nums (kind-4) nums (by omega) (by omega) hl1 (Zdw.1 h)
 rwa [show kind-4+4=kind by omega] at this
theorem Zfg:(⟨#[]⟩:ByteArray)=ByteArray.empty:=rfl
theorem ZiQ {g:GVal} (h:Zhl g):chk g=0:=by
 cases h with
 | num k n h1 h3 he =>
   have h5:¬ (3:Int)<k:=by omega
   unfold chk
   rw [if_neg (by simp only;omega),if_neg (by simp [ZbG,h5,Zfg]),if_neg (by simp),if_neg (by simp;decide),if_pos (by simp only;omega)]
   exact he
 | text s hs =>
   unfold chk
   rw [if_neg (by simp only;omega),if_neg (by simp [ZbG]),if_neg (by simp),if_neg (by simp;omega),if_neg (by simp only;omega)]
   rfl
 | nums k xs h1 h3 hl he =>
   have h5:¬ k+4<5:=by omega
   have h8:¬ k+4=8:=by omega
   unfold chk
   rw [if_neg (by simp only;omega),if_neg (by simp [ZbG,h5,h8,Zfg]),if_neg (by simp;omega),if_neg (by simp;decide),if_neg (by simp only;omega)]
   simp only [show k+4-4=k by omega]
   exact Zdw.2 he
 | texts xs hl hs =>
   unfold chk
   rw [if_neg (by simp only;omega),if_neg (by simp [ZbG,Zfg]),if_neg (by simp;omega),if_neg,if_neg (by simp only;omega)]
   · rfl
   intro hh
   rcases hh with hh | hh
   · simp at hh
     revert hh
     decide
   obtain ⟨s,hs',hh⟩:=List.any_eq_true.1 hh
   have:=hs s hs'
   simp at hh
   omega
theorem Zkc (n:Nat):beb 1 n=[UInt8.ofNat n]:=by simp [beb]
def encR (g:GVal):List UInt8:=UInt8.ofNat g.kind.toNat::ZbD g
theorem ZiR {g:GVal} (h:chk g=0):enc g=encR g:=by
 unfold enc encR
 rw [if_pos h,Zkc]
 rfl
theorem Zlq (k n:Int) (h:k<=3):ZbD ⟨k,n,⟨#[]⟩,[],[]⟩=ZaK k n:=if_pos (by simp only;omega)
theorem ZiS (s:ByteArray):ZbD ⟨4,0,s,[],[]⟩=ZaL s:=by
 unfold ZbD
 simp only
 rw [if_neg (by omega),if_pos trivial]
theorem ZiT (k:Int) (xs:List Int) (h1:1<=k):ZbD ⟨k+4,0,⟨#[]⟩,xs,[]⟩=UInt8.ofNat xs.length::xs.flatMap (ZaK k):=by
 unfold ZbD
 simp only [List.length_nil,Nat.add_zero,List.flatMap_nil,List.append_nil]
 rw [if_neg (by omega),if_neg (by omega),Zkc,show k+4-4=k by omega]
 rfl
theorem Zhy (xs:List ByteArray):ZbD ⟨8,0,⟨#[]⟩,[],xs⟩=UInt8.ofNat xs.length::xs.flatMap ZaL:=by
 unfold ZbD
 simp only [List.length_nil,Nat.zero_add,List.flatMap_nil,List.nil_append]
 rw [if_neg (by omega),if_neg (by omega),Zkc]
 rfl
theorem Zmg {N:Nat} (h:N<=255):(UInt8.ofNat ((N:Int)).toNat).toNat=N:=by rw [UInt8.toNat_ofNat',Int.toNat_natCast];omega
theorem Zkd {N:Nat} (h:N<=200):(UInt8.ofNat ((N:Int)+4).toNat).toNat=N+4:=by rw [UInt8.toNat_ofNat'];omega
theorem ZiU {n:Nat} (h:n<=255):(UInt8.ofNat n).toNat=n:=by rw [UInt8.toNat_ofNat'];omega
theorem Zop (N:Nat) (h1:1<=N) (h3:N<=3) (l:List UInt8):pVal (UInt8.ofNat ((N:Int)).toNat::l)=match pNum N l with
 | .error e=>.error e
 | .ok (n,r)=>.ok (⟨N,n,⟨#[]⟩,[],[]⟩,r):=by
 unfold pVal
 simp only
 rw [Zmg (by omega),if_neg (by omega),if_neg (by omega),if_neg (by omega)]
 cases pNum N l <;> rfl
theorem ZmQ (l:List UInt8):pVal (UInt8.ofNat (4:Int).toNat::l)=match Zbn l with
 | .error e=>.error e
 | .ok (s,r)=>.ok (⟨4,0,s,[],[]⟩,r):=by
 unfold pVal
 simp only
 rw [show (UInt8.ofNat (4:Int).toNat).toNat=4 from rfl,if_neg (by omega),if_neg (by omega),if_pos (by omega)]
 cases Zbn l <;> rfl
theorem ZmR (N:Nat) (h1:1<=N) (h3:N<=3) (n:Nat) (hn:n<=40) (l:List UInt8):pVal (UInt8.ofNat ((N:Int)+4).toNat::UInt8.ofNat n::l)=match ZaW (pNum N) n l with
 | .error e=>.error e
 | .ok (xs,r)=>.ok (⟨(N:Int)+4,0,⟨#[]⟩,xs,[]⟩,r):=by
 unfold pVal
 simp only
 rw [Zkd (by omega),if_neg (by omega),if_pos (by omega)]
 unfold Zeo
 simp only
 rw [ZiU (by omega),if_neg (by omega),if_neg (by omega),show ((N+4:Nat):Int)-4=(N:Int) by omega,show ((N+4:Nat):Int)=(N:Int)+4 by omega]
 cases ZaW (pNum N) n l <;> rfl
theorem Zmh (n:Nat) (hn:n<=40) (l:List UInt8):pVal (UInt8.ofNat (8:Int).toNat::UInt8.ofNat n::l)=match ZaW Zbn n l with
 | .error e=>.error e
 | .ok (xs,r)=>.ok (⟨8,0,⟨#[]⟩,[],xs⟩,r):=by
 unfold pVal
 simp only
 rw [show (UInt8.ofNat (8:Int).toNat).toNat=8 from rfl,if_neg (by omega),if_pos (by omega)]
 unfold Zeo
 simp only
 rw [ZiU (by omega),if_neg (by omega),if_pos (by rfl)]
 cases ZaW Zbn n l <;> rfl
theorem Zlr {g:GVal} (hg:Zhl g) (hf:g.Fits) (t:List UInt8):pVal (encR g++t)=.ok (g,t):=by
 have hk:=hf.num
 have hr:=hf.range
 unfold encR
 cases hg with
 | num k n h1 h3 he =>
   obtain ⟨N,rfl⟩:=Int.eq_ofNat_of_zero_le (show 0<=k by omega)
   rw [Zlq _ _ h3,List.cons_append,Zop N (by omega) (by omega),Zif he hk]
 | text s hs=>rw [ZiS,List.cons_append,ZmQ,ZgB hs]
 | nums k xs h1 h3 hl he =>
   obtain ⟨N,rfl⟩:=Int.eq_ofNat_of_zero_le (show 0<=k by omega)
   rw [ZiT _ _ h1,List.cons_append,List.cons_append,ZmR N (by omega) (by omega) _ hl,ZiN t xs fun x hx t=>Zif (he x hx) (hr x hx) t]
 | texts xs hl hs=>rw [Zhy,List.cons_append,List.cons_append,Zmh _ hl,ZiN t xs fun x hx t=>ZgB (hs x hx) t]
theorem ZiV {g:GVal} {l r:List UInt8} (h:pVal l=.ok (g,r)):Zhl g/\g.Fits/\encR g++r=l:=by
 unfold pVal at h
 split at h
 · cases h
 rename_i c l0
 have hcc:=c.toNat_lt
 split at h
 · cases h
 rename_i h1
 have hco:UInt8.ofNat ((c.toNat:Int)).toNat=c:=by rw [Int.toNat_natCast];exact UInt8.ofNat_toNat
 split at h
 · rename_i h4
   unfold Zeo at h
   split at h
   · cases h
   rename_i d l1
   have hdo:UInt8.ofNat d.toNat=d:=UInt8.ofNat_toNat
   split at h
   · cases h
   rename_i h40
   split at h
   · rename_i h8
     split at h
     · cases h
     rename_i xs r1 h2
     injection h with h
     injection h with h3 h5
     obtain ⟨i1,i2,i3⟩:=Zhv (fun _ _ _ hh=>ZdT hh) _ _ _ _ h2
     rw [h8] at h3 hco
     subst h3 h5
     refine ⟨.texts xs (by omega) i3,⟨⟨by simp,by simp⟩,⟨by simp,by simp⟩,by simp⟩,?_⟩
     unfold encR
     rw [Zhy,i2,hdo,List.cons_append,List.cons_append,i1]
     exact congrArg (·::_) hco
   rename_i h8
   split at h
   · cases h
   rename_i xs r1 h2
   injection h with h
   injection h with h3 h5
   obtain ⟨i1,i2,i3⟩:=Zhv (e:=ZaK (c.toNat-4)) (Q:=fun x=>Zaq (c.toNat-4) x=0 /\ -9223372036854775808<=x/\x<=9223372036854775807) (fun _ _ _ hh=>ZeI hh) _ _ _ _ h2
   subst h3 h5
   refine ⟨?_,⟨by simp only;omega,by simp,fun x hx=>(i3 x hx).2⟩,?_⟩
   · have:=Zhl.nums ((c.toNat:Int)-4) xs (by omega) (by omega) (by omega) fun x hx=>(i3 x hx).1
     rwa [show (c.toNat:Int)-4+4=c.toNat by omega] at this
   have:=ZiT ((c.toNat:Int)-4) xs (by omega)
   rw [show (c.toNat:Int)-4+4=c.toNat by omega] at this
   unfold encR
   rw [this,i2,hdo,List.cons_append,List.cons_append,i1,hco]
 rename_i h4
 split at h
 · rename_i h44
   split at h
   · cases h
   rename_i s r1 h2
   injection h with h
   injection h with h3 h5
   obtain ⟨i1,i2⟩:=ZdT h2
   subst h3 h5
   refine ⟨.text s i2,⟨⟨by simp,by simp⟩,⟨by simp,by simp⟩,by simp⟩,?_⟩
   unfold encR
   rw [ZiS,List.cons_append,i1]
   rw [h44] at hco
   exact congrArg (·::_) hco
 rename_i h44
 split at h
 · cases h
 rename_i n r1 h2
 injection h with h
 injection h with h3 h5
 obtain ⟨i1,i2,i3⟩:=ZeI h2
 subst h3 h5
 refine ⟨.num _ n (by omega) (by omega) i2,⟨by simp only;omega,i3,by simp⟩,?_⟩
 unfold encR
 rw [Zlq _ _ (by omega),List.cons_append,i1,hco]
theorem ZmS {e:Int} {l:List UInt8} (h:pVal l=.error e) (he:e≠10) (t:List UInt8):pVal (l++t)=.error e:=by
 unfold pVal at h ⊢
 split at h
 · injection h with h;omega
 rename_i c l0
 simp only [List.cons_append]
 split at h
 · rename_i h1
   rw [if_pos h1,h]
 rename_i h1
 rw [if_neg h1]
 split at h
 · rename_i h4
   rw [if_pos h4]
   unfold Zeo at h ⊢
   split at h
   · injection h with h;omega
   rename_i d l1
   simp only [List.cons_append]
   split at h
   · rename_i h40
     rw [if_pos h40,h]
   rename_i h40
   rw [if_neg h40]
   split at h
   · rename_i h8
     rw [if_pos h8]
     split at h
     · rename_i e1 h2
       injection h with h
       subst h
       rw [Zhw (fun _ _ hh hn=>Zhx hh hn) (fun _ _ _ hh=>Zoo hh) _ _ _ h2 he]
     cases h
   rename_i h8
   rw [if_neg h8]
   split at h
   · rename_i e1 h2
     injection h with h
     subst h
     rw [Zhw (fun _ _ hh hn=>ZiO hh hn) (fun _ _ _ hh=>Zpw hh) _ _ _ h2 he]
   cases h
 rename_i h4
 rw [if_neg h4]
 split at h
 · rename_i h44
   rw [if_pos h44]
   split at h
   · rename_i e1 h2
     injection h with h
     subst h
     rw [Zhx h2 he]
   cases h
 rename_i h44
 rw [if_neg h44]
 split at h
 · rename_i e1 h2
   injection h with h
   subst h
   rw [ZiO h2 he]
 cases h
theorem ZmT {k n:Int} {l r:List UInt8} (h:pNum k l=.ok (n,r)):l.length<=r.length+8:=by
 obtain ⟨h1,_⟩:=ZeI h
 rw [<- h1,List.length_append]
 have:=Zcx k n
 omega
theorem Zmi {s:ByteArray} {l r:List UInt8} (h:Zbn l=.ok (s,r)):l.length<=r.length+1002:=by
 obtain ⟨h1,h2⟩:=ZdT h
 rw [<- h1,List.length_append,Zce]
 omega
theorem Zoq {l:List UInt8} (h:pVal l=.error 10):l.length<40082:=by
 unfold pVal at h
 split at h
 · simp
 rename_i c l0
 rw [List.length_cons]
 split at h
 · injection h with h;omega
 split at h
 · unfold Zeo at h
   split at h
   · simp
   rename_i d l1
   rw [List.length_cons]
   split at h
   · injection h with h;omega
   rename_i h40
   split at h
   · split at h
     · rename_i e1 h2
       injection h with h
       subst h
       have h3:=ZeJ (B:=1002) (fun _ hh=>ZiP hh) (fun _ _ _ hh=>Zmi hh) _ _ h2
       have h5:d.toNat*1002<=40*1002:=Nat.mul_le_mul_right _ (by omega)
       omega
     cases h
   split at h
   · rename_i e1 h2
     injection h with h
     subst h
     have h3:=ZeJ (B:=8) (fun _ hh=>Zlp hh) (fun _ _ _ hh=>ZmT hh) _ _ h2
     have h5:d.toNat*8<=40*8:=Nat.mul_le_mul_right _ (by omega)
     omega
   cases h
 split at h
 · split at h
   · rename_i e1 h2
     injection h with h
     subst h
     have:=ZiP h2
     omega
   cases h
 split at h
 · rename_i e1 h2
   injection h with h
   subst h
   have:=Zlp h2
   omega
 cases h
theorem ZmU (l:List UInt8) {m:Nat} (hm:40082<=m):decP (l.take m)=decP l:=by
 by_cases hlen:l.length<=m
 · rw [List.take_of_length_le hlen]
 have hl:(l.take m).length=m:=by rw [List.length_take];omega
 cases h:pVal (l.take m) with
 | error e =>
   have he:e≠10:=by
    rintro rfl
    have:=Zoq h
    omega
   have h2:=ZmS h he (l.drop m)
   rw [List.take_append_drop] at h2
   rw [ZdR h,ZdR h2]
 | ok x =>
   obtain ⟨g,r⟩:=x
   obtain ⟨h1,h2,h3⟩:=ZiV h
   have h4:pVal l=.ok (g,r++l.drop m):=by
    have:=Zlr h1 h2 (r++l.drop m)
    rwa [<- List.append_assoc,h3,List.take_append_drop] at this
   rw [Zfc h,Zfc h4,hl,List.length_append,List.length_drop]
   congr 2
   omega
theorem Zor {g:GVal} (h:chk g=0) (hf:g.Fits) (t:List UInt8):decP (enc g++t)=(g,(enc g).length,0):=by
 rw [ZiR h]
 rw [Zfc (Zlr (ZmP h) hf t),List.length_append]
 congr 2
 omega
theorem Zos {g:GVal} (h:chk g=0) (hf:g.Fits):decD (enc g).length (decP (enc g))=(g,0):=by
 have:=Zor h hf []
 rw [List.append_nil] at this
 rw [this]
 unfold decD
 rw [if_neg (by simp)]
theorem ZiW {k:Int} {l:List UInt8}:¬ pNum k l=.error 0:=by
 intro h
 rw [ZeH] at h
 split at h
 · cases h
 split at h
 · rename_i h2
   injection h with h
   exact h2 h
 cases h
theorem Zhz {l:List UInt8}:¬ Zbn l=.error 0:=by
 intro h
 unfold Zbn at h
 split at h
 · cases h
 split at h
 · cases h
 split at h
 · cases h
 cases h
theorem ZhA {α:Type} {p:List UInt8->Except Int (α×List UInt8)} (hp:∀ l,¬ p l=.error 0):∀ (n:Nat) (l:List UInt8),¬ ZaW p n l=.error 0:=by
 intro n
 induction n with
 | zero=>intro l h;simp only [ZaW] at h;cases h
 | succ n ih =>
   intro l h
   simp only [ZaW] at h
   split at h
   · rename_i e1 h1
     injection h with h
     subst h
     exact hp _ h1
   split at h
   · rename_i e2 h2
     injection h with h
     subst h
     exact ih _ h2
   cases h
theorem ZmV {l:List UInt8}:¬ pVal l=.error 0:=by
 intro hv
 unfold pVal at hv
 split at hv
 · cases hv
 split at hv
 · cases hv
 split at hv
 · unfold Zeo at hv
   split at hv
   · cases hv
   split at hv
   · cases hv
   split at hv
   · split at hv
     · rename_i e1 h3
       injection hv with hv
       subst hv
       exact ZhA (fun _ hh=>Zhz hh) _ _ h3
     cases hv
   split at hv
   · rename_i e1 h3
     injection hv with hv
     subst hv
     exact ZhA (fun _ hh=>ZiW hh) _ _ h3
   cases hv
 split at hv
 · split at hv
   · rename_i e1 h3
     injection hv with hv
     subst hv
     exact Zhz h3
   cases hv
 split at hv
 · rename_i e1 h3
   injection hv with hv
   subst hv
   exact ZiW h3
 cases hv
theorem ZmW {g:GVal} {l:List UInt8} (h:decD l.length (decP l)=(g,0)):chk g=0/\g.Fits/\enc g=l:=by
 cases hv:pVal l with
 | error e =>
   rw [ZdR hv] at h
   have he:e=0:=by
    unfold decD at h
    split at h
    · injection h with _ h
      cases h
    injection h with _ h
   subst he
   exact absurd hv ZmV
 | ok x =>
   obtain ⟨g',r⟩:=x
   obtain ⟨h1,h2,h3⟩:=ZiV hv
   rw [Zfc hv] at h
   unfold decD at h
   split at h
   · injection h with _ h
     cases h
   rename_i h4
   injection h with h5 _
   subst h5
   have hr:r=[]:=by
    have h5:=Zhs hv
    have h6:=congrArg List.length h3
    rw [List.length_append] at h6
    have h7:(encR g').length>=1:=by unfold encR;simp
    cases r with
    | nil=>rfl
    | cons x r=>exact absurd ⟨rfl,by show l.length-(x::r).length<l.length;rw [List.length_cons] at h6 h5 ⊢;omega⟩ h4
   subst hr
   rw [List.append_nil] at h3
   exact ⟨ZiQ h1,h2,by rw [ZiR (ZiQ h1),h3]⟩
end Go.Proofs.YtkopcinhbjimiaaGreatDoor
namespace Go.Proofs.YtkopcinhbjimiaaGreatDoor
open Go.RowKit
section
variable {w0 wx:World} {g1 g2:Nat} {t1 t2:TypeId} {a0 a1 a2 a3 a4 b0 b1 b2 b3 b4:Value}
end
theorem Zpx {w0:World} {E:Ending->Prop} {n:Nat} {args:Array Value} (h:∀ wx,Same w0 wx->Calls Tryz.prog n args wx fun x w'=>E x/\Same wx w') :
 ∀ wx,Same w0 wx->Calls Tryz.prog n args wx fun x w'=>E x/\Same w0 w':=fun wx hs=>(h wx hs).mono fun _ _ ⟨h1,h2⟩=>⟨h1,hs.same h2⟩
def Zbw {α β:Type} (f:α->β->Bool):List α->List β->Bool
 | [],[]=>true
 | x::l,y::m=>f x y && Zbw f l m
 | _,_=>false
def eqS (s t:ByteArray):Bool:=s.toList==t.toList
def Zdk (p q:GPr):Bool:=eqS p.key q.key && ZeG p.val q.val
def ZfM (p q:ZaP):Bool:=decide (p.id=q.id) && Zbw eqS p.labels q.labels && Zbw Zdk p.props q.props
def Zek (p q:GRel):Bool:=decide (p.id=q.id) && eqS p.type q.type && decide (p.src=q.src) && decide (p.dst=q.dst) && Zbw Zdk p.props q.props
theorem Zdx {α β:Type} {f:α->β->Bool}:∀ {l:List α} {m:List β},l.length≠m.length->Zbw f l m=false
 | [],[],h=>absurd rfl h
 | [],_::_,_=>rfl
 | _::_,[],_=>rfl
 | x::l,y::m,h=>by simp only [Zbw];rw [Zdx (f:=f) (l:=l) (m:=m) (by intro e;exact h (by simp [e]))];simp
theorem ZdU {α β:Type} {f:α->β->Bool} {l:List α} {m:List β} {i:Nat} {x:α} {y:β} (hx:l[i]?=some x) (hy:m[i]?=some y):Zbw f (l.drop i) (m.drop i)=(f x y && Zbw f (l.drop (i+1)) (m.drop (i+1))):=by
 obtain ⟨hi,rfl⟩:=List.getElem?_eq_some_iff.1 hx
 obtain ⟨hj,rfl⟩:=List.getElem?_eq_some_iff.1 hy
 rw [List.drop_eq_getElem_cons hi,List.drop_eq_getElem_cons hj]
 rfl
theorem ZcS {α:Type} {f:α->α->Bool} (hf:∀ x y,f x y=true↔x=y):∀ (l m:List α),Zbw f l m=true↔l=m
 | [],[]=>by simp [Zbw]
 | [],_::_=>by simp [Zbw]
 | _::_,[]=>by simp [Zbw]
 | x::l,y::m=>by simp [Zbw,hf,ZcS hf l m]
theorem Zke (s t:ByteArray):eqS s t=true↔s=t:=by
 unfold eqS
 rw [beq_iff_eq]
 exact Zcw s t
theorem ZhB (p q:GPr):Zdk p q=true↔p=q:=by
 obtain ⟨k,g⟩:=p
 obtain ⟨k',g'⟩:=q
 simp [Zdk,Zke,ZmJ]
theorem Zmj (p q:ZaP):ZfM p q=true↔p=q:=by
 obtain ⟨a,b,c⟩:=p
 obtain ⟨a',b',c'⟩:=q
 simp [ZfM,ZcS Zke,ZcS ZhB,and_assoc]
theorem Zmk (p q:GRel):Zek p q=true↔p=q:=by
 obtain ⟨a,b,c,d,e⟩:=p
 obtain ⟨a',b',c',d',e'⟩:=q
 simp [Zek,Zke,ZcS ZhB,and_assoc]
abbrev PR.agg (x:PR):Value:=.agg #[.string x.key,.int .i64 x.g.kind,.int .i64 x.g.num,.string x.g.text,.slice x.A1 x.n1 x.c1,.slice x.A2 x.n2 x.c2]
abbrev ND.agg (x:ND):Value:=.agg #[.int .i64 x.id,.slice x.AL x.nL x.cL,.slice x.AP x.nP x.cP]
abbrev RL.agg (x:RL):Value:=.agg #[.int .i64 x.id,.string x.type,.int .i64 x.src,.int .i64 x.dst,.slice x.AP x.nP x.cP]
structure Zak where
 nodes:List ZaP
 rels:List GRel
structure GR where
 ns:List ND
 AN:Option Addr
 nN:Nat
 cN:Nat
 rs:List RL
 AR:Option Addr
 nR:Nat
 cR:Nat
abbrev GR.agg (g:GR):Value:=.agg #[.slice g.AN g.nN g.cN,.slice g.AR g.nR g.cR]
def GR.dat (g:GR):Zak:=⟨g.ns.map ND.dat,g.rs.map RL.dat⟩
structure RdG (w:World) (F:Nat->Prop) (g:GR):Prop where
 nodes:RdNs w F g.AN g.nN g.cN g.ns
 rels:RdRs w F g.AR g.nR g.cR g.rs
theorem RdG.upd {w w':World} {F S:Nat->Prop} {g:GR} (h:RdG w F g) (hu:Upd S w w') (hs:∀ b,F b->¬ S b):RdG w' F g:=⟨h.nodes.upd hu hs,h.rels.upd hu hs⟩
theorem RdG.same {w w':World} {F:Nat->Prop} {g:GR} (h:RdG w F g) (hu:Same w w'):RdG w' F g:=h.upd hu fun _ _ f=>f
theorem RdG.mono {w:World} {F F':Nat->Prop} {g:GR} (h:RdG w F g) (hf:∀ b,b<w.heap.size->F b->F' b):RdG w F' g:=⟨h.nodes.mono hf,h.rels.mono hf⟩
def Zpy (a b:Zak):Bool:=Zbw ZfM a.nodes b.nodes && Zbw Zek a.rels b.rels
theorem ZgC (a b:Zak):Zpy a b=true↔a=b:=by
 obtain ⟨n,r⟩:=a
 obtain ⟨n',r'⟩:=b
 simp [Zpy,ZcS Zmj,ZcS Zmk]
theorem Zls {w:World} {B n c i:Nat} {e:TypeId} {A:Option Addr} {xs:List Value} (h:w.ownsRow B e 1 (.slice A n c) n xs) (hi:i<n) :
 ∃ g u,A=some ⟨g,0,none⟩/\B<=g/\g<w.heap.size/\xs[i]?=some u/\w.cell? ⟨g,i,none⟩=some u/\w.frozen? ⟨g,i,none⟩=false/\∀ u',(w.setCell ⟨g,i,none⟩ u').ownsRow B e 1 (.slice A n c) n (xs.set i u'):=by
 have hl:=h.1
 rcases h.2 with ⟨hv,hn⟩ | ⟨g,cap,cur,hv,hb,hg,hle,hm,hs,ht⟩
 · omega
 injection hv with h1 h2 h3
 subst h1 h3
 have hlt:g<w.heap.size:=(Array.getElem?_eq_some_iff.1 hg).1
 have hix:i<xs.length:=by omega
 have hic:i<cur.size:=by omega
 have hcell:cur[i]?=some xs[i]:=by
  rw [<- Array.getElem?_toList]
  have h2:(cur.toList.take (n*1))[i]?=some xs[i]:=by rw [ht];exact List.getElem?_eq_getElem hix
  rw [List.getElem?_take,if_pos (by omega)] at h2
  exact h2
 refine ⟨g,xs[i],rfl,hb,hlt,List.getElem?_eq_getElem hix,?_,?_,fun u'=>?_⟩
 · rw [cell_of_row w g i cur e (0,0) hg]
   exact hcell
 · simp [World.frozen?,hg]
 refine ⟨by rw [List.length_set];exact hl,.inr ⟨g,c,cur.setIfInBounds i u',rfl,hb,?_,hle,hm,by simpa using hs,?_⟩⟩
 · simp [World.setCell,Array.getElem?_modify,hg]
 rw [Array.toList_setIfInBounds,List.take_set,ht]
theorem Zdy {w:World} {B n c k i:Nat} {e:TypeId} {A:Option Addr} {xs:List Value} (h:w.ownsRow B e k (.slice A n c) n xs) (hi:i<n*k) :
 ∃ g u,A=some ⟨g,0,none⟩/\B<=g/\g<w.heap.size/\xs[i]?=some u/\w.cell? ⟨g,i,none⟩=some u/\w.frozen? ⟨g,i,none⟩=false/\∀ u',(w.setCell ⟨g,i,none⟩ u').ownsRow B e k (.slice A n c) n (xs.set i u'):=by
 have hl:=h.1
 rcases h.2 with ⟨hv,hn⟩ | ⟨g,cap,cur,hv,hb,hg,hle,hm,hs,ht⟩
 · subst hn;omega
 injection hv with h1 h2 h3
 subst h1 h3
 have hlt:g<w.heap.size:=(Array.getElem?_eq_some_iff.1 hg).1
 have hix:i<xs.length:=by omega
 have hck:n*k<=c*k:=Nat.mul_le_mul_right k hle
 have hic:i<cur.size:=by omega
 have hcell:cur[i]?=some xs[i]:=by
  rw [<- Array.getElem?_toList]
  have h2:(cur.toList.take (n*k))[i]?=some xs[i]:=by rw [ht];exact List.getElem?_eq_getElem hix
  rw [List.getElem?_take,if_pos hi] at h2
  exact h2
 refine ⟨g,xs[i],rfl,hb,hlt,List.getElem?_eq_getElem hix,?_,?_,fun u'=>?_⟩
 · rw [cell_of_row w g i cur e (0,0) hg]
   exact hcell
 · simp [World.frozen?,hg]
 refine ⟨by rw [List.length_set];exact hl,.inr ⟨g,c,cur.setIfInBounds i u',rfl,hb,?_,hle,hm,by simpa using hs,?_⟩⟩
 · simp [World.setCell,Array.getElem?_modify,hg]
 rw [Array.toList_setIfInBounds,List.take_set,ht]
theorem ZgD:(Tryz.prog.info? 43).map (fun i=>(i.zero,i.size,i.bytes))=some (some (.agg #[.int .i64 0,.slice none 0 0,.slice none 0 0]),3,56):=by kernel_rfl
theorem Zqq (l:List ND):∀ u∈l.flatMap ND.cells,u.oneCell'=true:=by
 intro u hu
 obtain ⟨x,_,hx⟩:=List.mem_flatMap.1 hu
 simp only [ND.cells,List.mem_cons,List.not_mem_nil,or_false] at hx
 rcases hx with rfl | rfl | rfl
 all_goals rfl
theorem Zgh:(Tryz.prog.info? 50).map (fun i=>(i.zero,i.size,i.bytes))=some (some (.agg #[.int .i64 0,.string ⟨#[]⟩,.int .i64 0,.int .i64 0,.slice none 0 0]),5,64):=by kernel_rfl
theorem Zqr (l:List RL):∀ u∈l.flatMap RL.cells,u.oneCell'=true:=by
 intro u hu
 obtain ⟨x,_,hx⟩:=List.mem_flatMap.1 hu
 simp only [RL.cells,List.mem_cons,List.not_mem_nil,or_false] at hx
 rcases hx with rfl | rfl | rfl | rfl | rfl
 all_goals rfl
theorem PR.one (x:PR):∀ u∈x.cells,u.oneCell'=true:=by
 intro u hu
 simp only [PR.cells,List.mem_cons,List.not_mem_nil,or_false] at hu
 rcases hu with rfl | rfl | rfl | rfl | rfl | rfl <;> rfl
theorem ND.one (x:ND):∀ u∈x.cells,u.oneCell'=true:=by
 intro u hu
 simp only [ND.cells,List.mem_cons,List.not_mem_nil,or_false] at hu
 rcases hu with rfl | rfl | rfl <;> rfl
theorem RL.one (x:RL):∀ u∈x.cells,u.oneCell'=true:=by
 intro u hu
 simp only [RL.cells,List.mem_cons,List.not_mem_nil,or_false] at hu
 rcases hu with rfl | rfl | rfl | rfl | rfl <;> rfl
theorem ZgE:(Tryz.prog.info? 48).map (fun i=>(i.zero,i.size,i.bytes))=some (some (.agg #[.string ⟨#[]⟩,.int .i64 0,.int .i64 0,.string ⟨#[]⟩,.slice none 0 0,.slice none 0 0]),6,96):=by kernel_rfl
theorem Zqs (l:List PR):∀ u∈l.flatMap PR.cells,u.oneCell'=true:=by
 intro u hu
 obtain ⟨x,_,hx⟩:=List.mem_flatMap.1 hu
 exact x.one u hx
theorem Row.pr (w:World) (x:PR):Row (w.alloc (.cells x.cells.toArray 48)) (fun b=>b=w.heap.size) 6 (some ⟨w.heap.size,0,none⟩) 1 1 x.cells :=
 Row.of_blk (Blk.new w _ x.cells.toArray) rfl (Nat.le_refl _) (by simp [maxLen])
theorem Row.nd (w:World) (x:ND):Row (w.alloc (.cells x.cells.toArray 43)) (fun b=>b=w.heap.size) 3 (some ⟨w.heap.size,0,none⟩) 1 1 x.cells :=
 Row.of_blk (Blk.new w _ x.cells.toArray) rfl (Nat.le_refl _) (by simp [maxLen])
theorem Row.rl (w:World) (x:RL):Row (w.alloc (.cells x.cells.toArray 50)) (fun b=>b=w.heap.size) 5 (some ⟨w.heap.size,0,none⟩) 1 1 x.cells :=
 Row.of_blk (Blk.new w _ x.cells.toArray) rfl (Nat.le_refl _) (by simp [maxLen])
structure ZbC (w:World) (B:Nat) (x:PR):Prop where
 nums:w.ownsRow B 2 1 (.slice x.A1 x.n1 x.c1) x.n1 (x.g.nums.map (Value.int .i64))
 texts:w.ownsRow B 9 1 (.slice x.A2 x.n2 x.c2) x.n2 (x.g.texts.map Value.string)
 fits:x.g.Fits
structure ZbJ (w:World) (B:Nat) (v:Value) (ps:List PR):Prop where
 row:w.ownsRow B 48 6 v ps.length (ps.flatMap PR.cells)
 each:∀ x∈ps,ZbC w B x
structure ZcJ (w:World) (B:Nat) (x:ND):Prop where
 lab:w.ownsRow B 9 1 (.slice x.AL x.nL x.cL) x.nL (x.labels.map Value.string)
 pro:ZbJ w B (.slice x.AP x.nP x.cP) x.props
 id:ZiD x.id
structure Zdd (w:World) (B:Nat) (x:RL):Prop where
 pro:ZbJ w B (.slice x.AP x.nP x.cP) x.props
 id:ZiD x.id/\ZiD x.src/\ZiD x.dst
structure Zdq (w:World) (B:Nat) (v:Value) (ns:List ND):Prop where
 row:w.ownsRow B 43 3 v ns.length (ns.flatMap ND.cells)
 each:∀ x∈ns,ZcJ w B x
structure Zdr (w:World) (B:Nat) (v:Value) (rs:List RL):Prop where
 row:w.ownsRow B 50 5 v rs.length (rs.flatMap RL.cells)
 each:∀ x∈rs,Zdd w B x
section
variable {w w':World} {B B':Nat} {v:Value} {ps:List PR} {ns:List ND} {rs:List RL}
theorem ZbC.upd {S:Nat->Prop} {x:PR} (h:ZbC w B x) (hu:Upd S w w') (h1:∀ g,S g->(Value.slice x.A1 x.n1 x.c1).ownBlock≠some g) (h2:∀ g,S g->(Value.slice x.A2 x.n2 x.c2).ownBlock≠some g):ZbC w' B x :=
 ⟨Zai h.nums hu fun g hg hs=>h1 g hs hg,Zai h.texts hu fun g hg hs=>h2 g hs hg,h.fits⟩
theorem ZbC.same {x:PR} (h:ZbC w B x) (hu:Same w w'):ZbC w' B x:=h.upd hu (fun _ f=>f.elim) (fun _ f=>f.elim)
theorem ZbC.base {x:PR} (h:ZbC w B x) (hB:B'<=B):ZbC w B' x:=⟨Zae h.nums hB,Zae h.texts hB,h.fits⟩
theorem ZbJ.nil_ (w:World) (B:Nat):ZbJ w B (.slice none 0 0) []:=⟨World.ownsRow_nil _ _ _ _,by simp⟩
theorem ZbJ.same (h:ZbJ w B v ps) (hu:Same w w'):ZbJ w' B v ps:=⟨Zaa h.row hu,fun x hx=>(h.each x hx).same hu⟩
theorem ZbJ.base (h:ZbJ w B v ps) (hB:B'<=B):ZbJ w B' v ps:=⟨Zae h.row hB,fun x hx=>(h.each x hx).base hB⟩
theorem ZcJ.same {x:ND} (h:ZcJ w B x) (hu:Same w w'):ZcJ w' B x:=⟨Zaa h.lab hu,h.pro.same hu,h.id⟩
theorem ZcJ.base {x:ND} (h:ZcJ w B x) (hB:B'<=B):ZcJ w B' x:=⟨Zae h.lab hB,h.pro.base hB,h.id⟩
theorem Zdd.same {x:RL} (h:Zdd w B x) (hu:Same w w'):Zdd w' B x:=⟨h.pro.same hu,h.id⟩
theorem Zdd.base {x:RL} (h:Zdd w B x) (hB:B'<=B):Zdd w B' x:=⟨h.pro.base hB,h.id⟩
theorem Zdq.nil_ (w:World) (B:Nat):Zdq w B (.slice none 0 0) []:=⟨World.ownsRow_nil _ _ _ _,by simp⟩
theorem Zdr.nil_ (w:World) (B:Nat):Zdr w B (.slice none 0 0) []:=⟨World.ownsRow_nil _ _ _ _,by simp⟩
theorem Zdq.same (h:Zdq w B v ns) (hu:Same w w'):Zdq w' B v ns:=⟨Zaa h.row hu,fun x hx=>(h.each x hx).same hu⟩
theorem Zdq.base (h:Zdq w B v ns) (hB:B'<=B):Zdq w B' v ns:=⟨Zae h.row hB,fun x hx=>(h.each x hx).base hB⟩
theorem Zdr.same (h:Zdr w B v rs) (hu:Same w w'):Zdr w' B v rs:=⟨Zaa h.row hu,fun x hx=>(h.each x hx).same hu⟩
theorem Zdr.base (h:Zdr w B v rs) (hB:B'<=B):Zdr w B' v rs:=⟨Zae h.row hB,fun x hx=>(h.each x hx).base hB⟩
def OfT (w:World) (e:TypeId) (g:Nat):Prop:=∃ cs,Blk w g e cs
theorem Zap {base k n:Nat} {e:TypeId} {xs:List Value} (h:w.ownsRow base e k v n xs) {g:Nat} (hg:v.ownBlock=some g):OfT w e g:=by
 rcases h.2 with ⟨rfl,_⟩ | ⟨b,cap,cur,rfl,_,hh,_⟩
 · simp [Value.ownBlock] at hg
 obtain rfl:b=g:=by simpa [Value.ownBlock] using hg
 exact ⟨cur,hh⟩
theorem OfT.ne {e e':TypeId} {g:Nat} (h:OfT w e g) (h':OfT w e' g):e=e':=by
 obtain ⟨c,h1⟩:=h
 obtain ⟨c',h2⟩:=h'
 unfold Blk at h1 h2
 rw [h1] at h2
 injection h2 with h2
 injection h2
theorem ZaY {S:Nat->Prop} {e e':TypeId} {base k n:Nat} {xs:List Value} (h:w.ownsRow base e k v n xs) (hu:Upd S w w') (hS:∀ g,g<w.heap.size->S g->OfT w e' g) (hne:e≠e'):w'.ownsRow base e k v n xs :=
 Zai h hu fun g hg hs=>hne ((Zap h hg).ne (hS g (by obtain ⟨c,hc⟩:=Zap h hg;exact hc.lt) hs))
theorem ZbC.type {S:Nat->Prop} {e':TypeId} {x:PR} (h:ZbC w B x) (hu:Upd S w w') (hS:∀ g,g<w.heap.size->S g->OfT w e' g) (h1:2≠e') (h2:9≠e'):ZbC w' B x :=
 ⟨ZaY h.nums hu hS h1,ZaY h.texts hu hS h2,h.fits⟩
theorem ZbJ.type {S:Nat->Prop} {e':TypeId} (h:ZbJ w B v ps) (hu:Upd S w w') (hS:∀ g,g<w.heap.size->S g->OfT w e' g) (h0:48≠e') (h1:2≠e') (h2:9≠e'):ZbJ w' B v ps :=
 ⟨ZaY h.row hu hS h0,fun x hx=>(h.each x hx).type hu hS h1 h2⟩
theorem ZcJ.type {S:Nat->Prop} {e':TypeId} {x:ND} (h:ZcJ w B x) (hu:Upd S w w') (hS:∀ g,g<w.heap.size->S g->OfT w e' g) (h0:48≠e') (h1:2≠e') (h2:9≠e'):ZcJ w' B x :=
 ⟨ZaY h.lab hu hS h2,h.pro.type hu hS h0 h1 h2,h.id⟩
theorem Zdd.type {S:Nat->Prop} {e':TypeId} {x:RL} (h:Zdd w B x) (hu:Upd S w w') (hS:∀ g,g<w.heap.size->S g->OfT w e' g) (h0:48≠e') (h1:2≠e') (h2:9≠e'):Zdd w' B x :=
 ⟨h.pro.type hu hS h0 h1 h2,h.id⟩
theorem Zdq.type {S:Nat->Prop} {e':TypeId} (h:Zdq w B v ns) (hu:Upd S w w') (hS:∀ g,g<w.heap.size->S g->OfT w e' g) (hn:43≠e') (h0:48≠e') (h1:2≠e') (h2:9≠e'):Zdq w' B v ns :=
 ⟨ZaY h.row hu hS hn,fun x hx=>(h.each x hx).type hu hS h0 h1 h2⟩
theorem Zdr.type {S:Nat->Prop} {e':TypeId} (h:Zdr w B v rs) (hu:Upd S w w') (hS:∀ g,g<w.heap.size->S g->OfT w e' g) (hn:50≠e') (h0:48≠e') (h1:2≠e') (h2:9≠e'):Zdr w' B v rs :=
 ⟨ZaY h.row hu hS hn,fun x hx=>(h.each x hx).type hu hS h0 h1 h2⟩
theorem ZbJ.snoc {v':Value} {x:PR} (h:ZbJ w B v ps) (hg:Grew w B 48 6 v (ps.length+1) (ps.flatMap PR.cells++x.cells) v' w') (hx:ZbC w B x):ZbJ w' B v' (ps++[x]):=by
 have hS:∀ g,g<w.heap.size->v.ownBlock=some g->OfT w 48 g:=fun g _ hg=>Zap h.row hg
 refine ⟨?_,fun y hy=>?_⟩
 · rw [List.length_append,List.flatMap_append]
   simpa using hg.own
 rcases List.mem_append.1 hy with hy | hy
 · exact (h.each y hy).type hg.upd hS (by decide) (by decide)
 obtain rfl:y=x:=by simpa using hy
 exact hx.type hg.upd hS (by decide) (by decide)
theorem Zdq.snoc {v':Value} {x:ND} (h:Zdq w B v ns) (hg:Grew w B 43 3 v (ns.length+1) (ns.flatMap ND.cells++x.cells) v' w') (hx:ZcJ w B x):Zdq w' B v' (ns++[x]):=by
 have hS:∀ g,g<w.heap.size->v.ownBlock=some g->OfT w 43 g:=fun g _ hg=>Zap h.row hg
 refine ⟨?_,fun y hy=>?_⟩
 · rw [List.length_append,List.flatMap_append]
   simpa using hg.own
 rcases List.mem_append.1 hy with hy | hy
 · exact (h.each y hy).type hg.upd hS (by decide) (by decide) (by decide)
 obtain rfl:y=x:=by simpa using hy
 exact hx.type hg.upd hS (by decide) (by decide) (by decide)
theorem Zdr.snoc {v':Value} {x:RL} (h:Zdr w B v rs) (hg:Grew w B 50 5 v (rs.length+1) (rs.flatMap RL.cells++x.cells) v' w') (hx:Zdd w B x):Zdr w' B v' (rs++[x]):=by
 have hS:∀ g,g<w.heap.size->v.ownBlock=some g->OfT w 50 g:=fun g _ hg=>Zap h.row hg
 refine ⟨?_,fun y hy=>?_⟩
 · rw [List.length_append,List.flatMap_append]
   simpa using hg.own
 rcases List.mem_append.1 hy with hy | hy
 · exact (h.each y hy).type hg.upd hS (by decide) (by decide) (by decide)
 obtain rfl:y=x:=by simpa using hy
 exact hx.type hg.upd hS (by decide) (by decide) (by decide)
theorem ZbK {base k n c:Nat} {A:Option Addr} {e:TypeId} {xs:List Value} (h:w.ownsRow base e k (.slice A n c) n xs):WRow w (fun b=>base<=b/\b<w.heap.size) k A n c xs :=
 (Row.mono (Row.of_own h) fun _ hb hh=>⟨hh.2,hb⟩).weak
theorem ZbC.rd {x:PR} (h:ZbC w B x):Zcz w (fun b=>B<=b/\b<w.heap.size) x.A1 x.n1 x.c1 x.A2 x.n2 x.c2 x.g :=
 ⟨ZbK h.nums,ZbK h.texts,h.fits.kind,h.fits.num,h.fits.range⟩
theorem ZbJ.rd {A:Option Addr} {n c:Nat} (h:ZbJ w B (.slice A n c) ps):RdPs w (fun b=>B<=b/\b<w.heap.size) A n c ps:=by
 have h1:=h.row
 obtain ⟨A',c',e⟩:=Zad h1
 injection e with e1 e2 e3
 subst e1 e3
 rw [<- e2] at h1
 exact ⟨ZbK h1,fun x hx=>(h.each x hx).rd⟩
theorem Zdq.rd {A:Option Addr} {n c:Nat} (h:Zdq w B (.slice A n c) ns):RdNs w (fun b=>B<=b/\b<w.heap.size) A n c ns:=by
 have h1:=h.row
 obtain ⟨A',c',e⟩:=Zad h1
 injection e with e1 e2 e3
 subst e1 e3
 rw [<- e2] at h1
 exact ⟨ZbK h1,fun x hx=>ZbK (h.each x hx).lab,fun x hx=>(h.each x hx).pro.rd,fun x hx=>(h.each x hx).id⟩
theorem Zdr.rd {A:Option Addr} {n c:Nat} (h:Zdr w B (.slice A n c) rs):RdRs w (fun b=>B<=b/\b<w.heap.size) A n c rs:=by
 have h1:=h.row
 obtain ⟨A',c',e⟩:=Zad h1
 injection e with e1 e2 e3
 subst e1 e3
 rw [<- e2] at h1
 exact ⟨ZbK h1,fun x hx=>(h.each x hx).pro.rd,fun x hx=>(h.each x hx).id⟩
end
structure OwnG (w:World) (B:Nat) (g:GR):Prop where
 nodes:Zdq w B (.slice g.AN g.nN g.cN) g.ns
 rels:Zdr w B (.slice g.AR g.nR g.cR) g.rs
section
variable {w w':World} {B B':Nat} {g:GR}
theorem OwnG.same (h:OwnG w B g) (hu:Same w w'):OwnG w' B g:=⟨h.nodes.same hu,h.rels.same hu⟩
theorem OwnG.base (h:OwnG w B g) (hB:B'<=B):OwnG w B' g:=⟨h.nodes.base hB,h.rels.base hB⟩
theorem OwnG.rd (h:OwnG w B g):RdG w (fun b=>B<=b/\b<w.heap.size) g:=⟨h.nodes.rd,h.rels.rd⟩
end
theorem ZcE {P:Program} {w:World} {F:Nat->Prop} {k:Nat} {tx e:TypeId} (ht:P.underlying tx=some (.slice e)) {A:Option Addr} {m c:Nat} {news:List Value} (h:WRow w F k A m c news) (hone:∀ u∈news,u.oneCell'=true) :
 Src P k tx (.slice A m c) m news w:=by
 by_cases h0:0<m
 · exact Zan ht (h.row h0) hone
 obtain rfl:m=0:=by omega
 have hn:news=[]:=List.eq_nil_of_length_eq_zero (by simpa using h.len)
 subst hn
 cases A with
 | none =>
   have hc:=h.nil rfl
   subst hc
   exact Src.ofNil w ht 0
 | some a=>exact Src.ofSlice w ht a 0 c [] (by simp) (by simp) (by simp)
end Go.Proofs.YtkopcinhbjimiaaGreatDoor
