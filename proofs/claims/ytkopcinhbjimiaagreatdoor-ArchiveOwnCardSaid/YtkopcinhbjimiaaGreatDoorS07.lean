/- Texts that the claim leans on: walks and plain laws, function by function. -/
import Derived.Deep.LoopGhost
import Derived.Deep.CutBlock
import Derived.Test.YtkopcinhbjimiaaGreatDoorS06
set_option maxRecDepth 100000
set_option maxHeartbeats 16000000
namespace Go.Proofs.YtkopcinhbjimiaaGreatDoor
theorem ZdZ (n:Nat):∀ k,be (beb k n)=n % 256 ^ k:=by
 intro k
 induction k with
 | zero=>simp [beb,be,Nat.mod_one]
 | succ k ih =>
   rw [beb,ZjV,Zab,ih,Nat.pow_succ,Nat.mod_mul]
   simp only [UInt8.toNat_ofNat']
   rw [Nat.mul_comm,Nat.add_comm]
theorem Zqf:∀ (l m:List UInt8),l.length=m.length->be l=be m->l=m:=by
 intro l
 induction l with
 | nil=>intro m h _;exact (List.eq_nil_of_length_eq_zero h.symm).symm
 | cons c l ih =>
   intro m h he
   cases m with
   | nil=>cases h
   | cons d m =>
     have hl:l.length=m.length:=by simpa using h
     rw [ZjV,ZjV,hl] at he
     have h1:=Zeg l
     have h2:=Zeg m
     rw [hl] at h1
     generalize 256 ^ m.length=P at *
     have hP:0<P:=by omega
     have hc:c.toNat=d.toNat:=by
      have e1:(c.toNat*P+be l) / P=c.toNat:=by rw [Nat.mul_comm,Nat.mul_add_div hP,Nat.div_eq_of_lt h1,Nat.add_zero]
      have e2:(d.toNat*P+be m) / P=d.toNat:=by rw [Nat.mul_comm,Nat.mul_add_div hP,Nat.div_eq_of_lt h2,Nat.add_zero]
      rw [<- e1,<-e2,he]
     rw [UInt8.toNat_inj.1 hc,ih m hl (by rw [hc] at he;omega)]
theorem Zgt {l:List UInt8} {k n:Nat} (hl:l.length=k) (hn:n % 256 ^ k=be l):beb k n=l :=
 Zqf _ _ (by rw [Zab,hl]) (by rw [ZdZ,hn])
theorem Zpo {n:Int} (h : -9223372036854775808<=n/\n<=9223372036854775807):i64 (u64 n)=n:=by
 unfold i64 u64
 split <;> omega
theorem Zpp {m:Nat} (h:m<18446744073709551616):u64 (i64 m)=m:=by
 unfold i64 u64
 split <;> omega
def wid (k:Int):Nat:=if k=1 then 1 else 8
theorem ZeZ (k n:Int):(ZaK k n).length=wid k:=by unfold ZaK wid;split <;> simp [Zab]
theorem ZlZ {n:Int} (h:Zat 1 n=0):n=0\/n=1:=by
 unfold Zat at h
 by_cases h0:n=0
 · exact .inl h0
 by_cases h1:n=1
 · exact .inr h1
 rw [if_pos ⟨rfl,h0,h1⟩] at h
 cases h
theorem Zma (k n:Int):Zat k n≠10:=by
 unfold Zat
 split
 · decide
 split <;> decide
theorem ZeA (k:Int) (l:List UInt8):pNum k l=if l.length<wid k then .error 10 else if Zat k (i64 (be (l.take (wid k))))≠0 then .error (Zat k (i64 (be (l.take (wid k))))) else .ok (i64 (be (l.take (wid k))),l.drop (wid k)):=rfl
theorem ZmK {k n:Int} (he:Zat k n=0) (hr : -9223372036854775808<=n/\n<=9223372036854775807):i64 (be (ZaK k n))=n:=by
 unfold ZaK
 by_cases h1:k=1
 · subst h1
   rw [if_pos rfl,ZdZ]
   rcases ZlZ he with rfl | rfl <;> decide
 rw [if_neg h1,ZdZ,Nat.mod_eq_of_lt (by have:=ZkY n;have:256 ^ 8=18446744073709551616:=(by decide);omega),Zpo hr]
theorem Zia {k n:Int} (he:Zat k n=0) (hr : -9223372036854775808<=n/\n<=9223372036854775807) (t:List UInt8):pNum k (ZaK k n++t)=.ok (n,t):=by
 rw [ZeA,if_neg (by rw [List.length_append,ZeZ];omega),List.take_left' (ZeZ k n),List.drop_left' (ZeZ k n),ZmK he hr,if_neg (by simpa using he)]
theorem Zpf (k:Int):wid k<=8:=by unfold wid;split <;> omega
theorem ZeB {k n:Int} {l r:List UInt8} (h:pNum k l=.ok (n,r)):ZaK k n++r=l/\Zat k n=0 /\ -9223372036854775808<=n/\n<=9223372036854775807:=by
 rw [ZeA] at h
 split at h
 · cases h
 rename_i h1
 split at h
 · cases h
 rename_i h2
 injection h with h
 injection h with h3 h4
 have hlt:=ZeV l (wid k) (Zpf k)
 have hlen:(l.take (wid k)).length=wid k:=by rw [List.length_take];omega
 refine ⟨?_,?_,?_⟩
 · have:ZaK k n=l.take (wid k):=by
    rw [<- h3]
    unfold ZaK
    rw [Zpp hlt]
    unfold wid at hlen ⊢
    split
    · rename_i hk
      rw [if_pos hk] at hlen
      exact Zgt hlen (Nat.mod_eq_of_lt (by have:=Zeg (l.take 1);rwa [hlen] at this))
    rename_i hk
    rw [if_neg hk] at hlen
    exact Zgt hlen (Nat.mod_eq_of_lt (by have:=Zeg (l.take 8);rwa [hlen] at this))
   rw [this,<-h4,List.take_append_drop]
 · rw [<- h3]
   exact Decidable.not_not.1 h2
 rw [<- h3]
 exact Zgj _ hlt
theorem Zgu {s:ByteArray} (hs:s.size<=1000) (t:List UInt8):ZbW (ZaL s++t)=.ok (s,t):=by
 have hb:be ((ZaL s++t).take 2)=s.size:=by
  unfold ZaL
  rw [List.append_assoc,List.take_left' (Zab 2 _),ZdZ,Nat.mod_eq_of_lt (by have:256 ^ 2=65536:=(by decide);omega)]
 have hd:(ZaL s++t).drop 2=s.data.toList++t:=by
  unfold ZaL
  rw [List.append_assoc,List.drop_left' (Zab 2 _)]
 unfold ZbW
 rw [hb,hd,if_neg (by rw [List.length_append,Zch];omega),if_neg (by omega),if_neg (by rw [List.length_append,Zbd];omega),List.take_left' (Zbd s),List.drop_left' (Zbd s)]
theorem ZdO {s:ByteArray} {l r:List UInt8} (h:ZbW l=.ok (s,r)):ZaL s++r=l/\s.size<=1000:=by
 unfold ZbW at h
 split at h
 · cases h
 rename_i h1
 split at h
 · cases h
 rename_i h2
 split at h
 · cases h
 rename_i h3
 injection h with h
 injection h with h4 h5
 have hsz:s.size=be (l.take 2):=by
  rw [<- h4]
  show ((l.drop 2).take (be (l.take 2))).toArray.size=_
  rw [List.size_toArray,List.length_take]
  omega
 refine ⟨?_,by omega⟩
 have h6:beb 2 s.size=l.take 2:=by
  have hl:(l.take 2).length=2:=by rw [List.length_take];omega
  exact Zgt hl (by rw [hsz];exact Nat.mod_eq_of_lt (by have:=Zeg (l.take 2);rwa [hl] at this))
 unfold ZaL
 rw [h6,<-h5,<-h4,List.append_assoc]
 show l.take 2++(((l.drop 2).take (be (l.take 2))).toArray.toList++_)=l
 rw [List.take_append_drop,List.take_append_drop]
section many
variable {α:Type} {p:List UInt8->Except Int (α×List UInt8)} {e:α->List UInt8}
theorem ZiI (t:List UInt8):∀ xs:List α,(∀ x∈xs,∀ t,p (e x++t)=.ok (x,t))->Zbu p xs.length (xs.flatMap e++t)=.ok (xs,t):=by
 intro xs
 induction xs with
 | nil=>intro _;simp [Zbu]
 | cons x xs ih =>
   intro h
   simp only [List.length_cons,Zbu,List.flatMap_cons,List.append_assoc]
   rw [h x (by simp)]
   simp only
   rw [ih fun y hy=>h y (by simp [hy])]
theorem Zhq {Q:α->Prop} (hp:∀ l x r,p l=.ok (x,r)->e x++r=l/\Q x):∀ (n:Nat) (l:List UInt8) (xs:List α) (r:List UInt8),Zbu p n l=.ok (xs,r)->xs.flatMap e++r=l/\xs.length=n/\∀ x∈xs,Q x:=by
 intro n
 induction n with
 | zero =>
   intro l xs r h
   simp only [Zbu] at h
   injection h with h
   injection h with h1 h2
   subst h1 h2
   simp
 | succ n ih =>
   intro l xs r h
   simp only [Zbu] at h
   split at h
   · cases h
   rename_i x r1 h1
   split at h
   · cases h
   rename_i ys r2 h2
   injection h with h
   injection h with h3 h4
   subst h3 h4
   obtain ⟨i1,i2,i3⟩:=ih _ _ _ h2
   obtain ⟨j1,j2⟩:=hp _ _ _ h1
   refine ⟨by rw [List.flatMap_cons,List.append_assoc,i1,j1],by simp [i2],?_⟩
   intro y hy
   rcases List.mem_cons.1 hy with rfl | hy
   · exact j2
   exact i3 y hy
theorem ZeC {B:Nat} (hp:∀ l,p l=.error 10->l.length<B) (hq:∀ l x r,p l=.ok (x,r)->l.length<=r.length+B):∀ (n:Nat) (l:List UInt8),Zbu p n l=.error 10->l.length<n*B:=by
 intro n
 induction n with
 | zero=>intro l h;simp only [Zbu] at h;cases h
 | succ n ih =>
   intro l h
   simp only [Zbu] at h
   rw [Nat.succ_mul]
   split at h
   · rename_i e1 h1
     injection h with h
     subst h
     have:=hp _ h1
     omega
   rename_i x r1 h1
   split at h
   · rename_i e2 h2
     injection h with h
     subst h
     have:=ih _ h2
     have:=hq _ _ _ h1
     omega
   cases h
theorem Zhr (hs:∀ l e,p l=.error e->e≠10->∀ t,p (l++t)=.error e) (hq:∀ l x r,p l=.ok (x,r)->∀ t,p (l++t)=.ok (x,r++t)):∀ (n:Nat) (l:List UInt8) (e:Int),Zbu p n l=.error e->e≠10->∀ t,Zbu p n (l++t)=.error e:=by
 intro n
 induction n with
 | zero=>intro l e h;simp only [Zbu] at h;cases h
 | succ n ih =>
   intro l e h he t
   simp only [Zbu] at h ⊢
   split at h
   · rename_i e1 h1
     injection h with h
     subst h
     rw [hs _ _ h1 he]
   rename_i x r1 h1
   rw [hq _ _ _ h1]
   simp only
   split at h
   · rename_i e2 h2
     injection h with h
     subst h
     rw [ih _ _ h2 he]
   cases h
end many
theorem ZiJ {k e:Int} {l:List UInt8} (h:pNum k l=.error e) (he:e≠10) (t:List UInt8):pNum k (l++t)=.error e:=by
 rw [ZeA] at h ⊢
 split at h
 · injection h with h;omega
 rename_i h1
 rw [if_neg (by rw [List.length_append];omega),List.take_append_of_le_length (by omega)]
 split at h
 · rename_i h2
   rw [if_pos h2,h]
 cases h
theorem Zhs {e:Int} {l:List UInt8} (h:ZbW l=.error e) (he:e≠10) (t:List UInt8):ZbW (l++t)=.error e:=by
 unfold ZbW at h ⊢
 split at h
 · injection h with h;omega
 rename_i h1
 rw [if_neg (by rw [List.length_append];omega),List.take_append_of_le_length (by omega)]
 split at h
 · rename_i h2
   rw [if_pos h2,h]
 split at h
 · injection h with h;omega
 cases h
theorem Zpq {k n:Int} {l r:List UInt8} (h:pNum k l=.ok (n,r)) (t:List UInt8):pNum k (l++t)=.ok (n,r++t):=by
 obtain ⟨h1,h2,h3⟩:=ZeB h
 rw [<- h1,List.append_assoc,Zia h2 h3]
theorem Zok {s:ByteArray} {l r:List UInt8} (h:ZbW l=.ok (s,r)) (t:List UInt8):ZbW (l++t)=.ok (s,r++t):=by
 obtain ⟨h1,h2⟩:=ZdO h
 rw [<- h1,List.append_assoc,Zgu h2]
theorem Zlc {k:Int} {l:List UInt8} (h:pNum k l=.error 10):l.length<8:=by
 rw [ZeA] at h
 split at h
 · have:=Zpf k;omega
 split at h
 · injection h with h
   exact absurd h (Zma _ _)
 cases h
theorem ZiK {l:List UInt8} (h:ZbW l=.error 10):l.length<1002:=by
 unfold ZbW at h
 split at h
 · omega
 split at h
 · injection h with h;omega
 split at h
 · rename_i h3
   rw [List.length_drop] at h3
   omega
 cases h
inductive Zhg:GVal->Prop
 | num (k n:Int) (h1:1<=k) (h3:k<=3) (he:Zat k n=0):Zhg ⟨k,n,⟨#[]⟩,[],[]⟩
 | text (s:ByteArray) (hs:s.size<=1000):Zhg ⟨4,0,s,[],[]⟩
 | nums (k:Int) (xs:List Int) (h1:1<=k) (h3:k<=3) (hl:xs.length<=40) (he:∀ x∈xs,Zat k x=0):Zhg ⟨k+4,0,⟨#[]⟩,xs,[]⟩
 | texts (xs:List ByteArray) (hl:xs.length<=40) (hs:∀ s∈xs,s.size<=1000):Zhg ⟨8,0,⟨#[]⟩,[],xs⟩
theorem Zdw {k:Int}:∀ {l:List Int},ZaJ k l=0↔∀ x∈l,Zat k x=0
 | []=>by simp [ZaJ]
 | x::l=>by
   simp only [ZaJ,List.mem_cons,forall_eq_or_imp]
   split
   · rename_i h
     exact ⟨fun hh=>absurd hh h,fun hh=>hh.1⟩
   rename_i h
   rw [Zdw]
   exact ⟨fun hh=>⟨Decidable.not_not.1 h,hh⟩,fun hh=>hh.2⟩
theorem ZmL {s:ByteArray} (h:s.size=0):s=⟨#[]⟩:=by
 obtain ⟨a⟩:=s
 have:a=#[]:=Array.eq_empty_of_size_eq_zero h
 rw [this]
theorem ZmM {g:GVal} (h:chk g=0):Zhg g:=by
 obtain ⟨h1,h8,hf,hl1,hl2,hx,hts⟩:=ZdN h
 obtain ⟨kind,num,text,nums,texts⟩:=g
 simp only at h1 h8 hl1 hl2 hx hts
 have hf':=hf
 unfold ZbE at hf
 simp only [Bool.or_eq_false_iff,Bool.and_eq_false_iff,bne_eq_false_iff_eq,decide_eq_false_iff_not,beq_eq_false_iff_ne,Bool.or_eq_false_iff] at hf
 obtain ⟨⟨⟨f1,f2⟩,f3⟩,f4⟩:=hf
 have hbig:chk ⟨kind,num,text,nums,texts⟩=if kind<4 then Zat kind num else ZaJ (kind-4) nums:=by
  unfold chk
  rw [if_neg (by simp only;omega),if_neg (by rw [hf'];simp),if_neg (by simp only;omega),if_neg]
  intro hh
  rcases hh with hh | hh
  · simp only at hh;omega
  obtain ⟨s,hs,hh⟩:=List.any_eq_true.1 hh
  have:=hts s hs
  simp at hh
  omega
 rw [hbig] at h
 have t0:kind≠4->text=⟨#[]⟩:=fun hk=>ZmL (by omega)
 have n0:kind<5\/kind=8->nums=[]:=fun hk=>List.eq_nil_of_length_eq_zero (by omega)
 have x0:kind≠8->texts=[]:=fun hk=>List.eq_nil_of_length_eq_zero (by omega)
 by_cases hk:kind<4
 · rw [if_pos hk] at h
   rw [t0 (by omega),n0 (by omega),x0 (by omega)]
   exact .num _ _ h1 (by omega) h
 rw [if_neg hk] at h
 obtain rfl:num=0:=by omega
 by_cases h4:kind=4
 · subst h4
   rw [n0 (by omega),x0 (by omega)]
   exact .text _ hx
 rw [t0 h4]
 by_cases hk8:kind=8
 · subst hk8
   rw [n0 (by omega)]
   exact .texts _ hl2 hts
 rw [x0 hk8]
 have:=Zhg.nums (kind-4) nums (by omega) (by omega) hl1 (Zdw.1 h)
 rwa [show kind-4+4=kind by omega] at this
theorem Zfa:(⟨#[]⟩:ByteArray)=ByteArray.empty:=rfl
theorem ZiL {g:GVal} (h:Zhg g):chk g=0:=by
 cases h with
 | num k n h1 h3 he =>
   have h5:¬ (3:Int)<k:=by omega
   unfold chk
   rw [if_neg (by simp only;omega),if_neg (by simp [ZbE,h5,Zfa]),if_neg (by simp),if_neg (by simp;decide),if_pos (by simp only;omega)]
   exact he
 | text s hs =>
   unfold chk
   rw [if_neg (by simp only;omega),if_neg (by simp [ZbE]),if_neg (by simp),if_neg (by simp;omega),if_neg (by simp only;omega)]
   rfl
 | nums k xs h1 h3 hl he =>
   have h5:¬ k+4<5:=by omega
   have h8:¬ k+4=8:=by omega
   unfold chk
   rw [if_neg (by simp only;omega),if_neg (by simp [ZbE,h5,h8,Zfa]),if_neg (by simp;omega),if_neg (by simp;decide),if_neg (by simp only;omega)]
   simp only [show k+4-4=k by omega]
   exact Zdw.2 he
 | texts xs hl hs =>
   unfold chk
   rw [if_neg (by simp only;omega),if_neg (by simp [ZbE,Zfa]),if_neg (by simp;omega),if_neg,if_neg (by simp only;omega)]
   · rfl
   intro hh
   rcases hh with hh | hh
   · simp at hh
     revert hh
     decide
   obtain ⟨s,hs',hh⟩:=List.any_eq_true.1 hh
   have:=hs s hs'
   simp at hh
   omega
theorem ZjW (n:Nat):beb 1 n=[UInt8.ofNat n]:=by simp [beb]
def encR (g:GVal):List UInt8:=UInt8.ofNat g.kind.toNat::Zbz g
theorem ZiM {g:GVal} (h:chk g=0):enc g=encR g:=by
 unfold enc encR
 rw [if_pos h,ZjW]
 rfl
theorem Zld (k n:Int) (h:k<=3):Zbz ⟨k,n,⟨#[]⟩,[],[]⟩=ZaK k n:=if_pos (by simp only;omega)
theorem ZiN (s:ByteArray):Zbz ⟨4,0,s,[],[]⟩=ZaL s:=by
 unfold Zbz
 simp only
 rw [if_neg (by omega),if_pos trivial]
theorem ZiO (k:Int) (xs:List Int) (h1:1<=k):Zbz ⟨k+4,0,⟨#[]⟩,xs,[]⟩=UInt8.ofNat xs.length::xs.flatMap (ZaK k):=by
 unfold Zbz
 simp only [List.length_nil,Nat.add_zero,List.flatMap_nil,List.append_nil]
 rw [if_neg (by omega),if_neg (by omega),ZjW,show k+4-4=k by omega]
 rfl
theorem Zht (xs:List ByteArray):Zbz ⟨8,0,⟨#[]⟩,[],xs⟩=UInt8.ofNat xs.length::xs.flatMap ZaL:=by
 unfold Zbz
 simp only [List.length_nil,Nat.zero_add,List.flatMap_nil,List.nil_append]
 rw [if_neg (by omega),if_neg (by omega),ZjW]
 rfl
theorem Zmb {N:Nat} (h:N<=255):(UInt8.ofNat ((N:Int)).toNat).toNat=N:=by rw [UInt8.toNat_ofNat',Int.toNat_natCast];omega
theorem ZjX {N:Nat} (h:N<=200):(UInt8.ofNat ((N:Int)+4).toNat).toNat=N+4:=by rw [UInt8.toNat_ofNat'];omega
theorem ZiP {n:Nat} (h:n<=255):(UInt8.ofNat n).toNat=n:=by rw [UInt8.toNat_ofNat'];omega
theorem Zol (N:Nat) (h1:1<=N) (h3:N<=3) (l:List UInt8):pVal (UInt8.ofNat ((N:Int)).toNat::l)=match pNum N l with
 | .error e=>.error e
 | .ok (n,r)=>.ok (⟨N,n,⟨#[]⟩,[],[]⟩,r):=by
 unfold pVal
 simp only
 rw [Zmb (by omega),if_neg (by omega),if_neg (by omega),if_neg (by omega)]
 cases pNum N l <;> rfl
theorem ZmN (l:List UInt8):pVal (UInt8.ofNat (4:Int).toNat::l)=match ZbW l with
 | .error e=>.error e
 | .ok (s,r)=>.ok (⟨4,0,s,[],[]⟩,r):=by
 unfold pVal
 simp only
 rw [show (UInt8.ofNat (4:Int).toNat).toNat=4 from rfl,if_neg (by omega),if_neg (by omega),if_pos (by omega)]
 cases ZbW l <;> rfl
theorem ZmO (N:Nat) (h1:1<=N) (h3:N<=3) (n:Nat) (hn:n<=40) (l:List UInt8):pVal (UInt8.ofNat ((N:Int)+4).toNat::UInt8.ofNat n::l)=match Zbu (pNum N) n l with
 | .error e=>.error e
 | .ok (xs,r)=>.ok (⟨(N:Int)+4,0,⟨#[]⟩,xs,[]⟩,r):=by
 unfold pVal
 simp only
 rw [ZjX (by omega),if_neg (by omega),if_pos (by omega)]
 unfold Zeu
 simp only
 rw [ZiP (by omega),if_neg (by omega),if_neg (by omega),show ((N+4:Nat):Int)-4=(N:Int) by omega,show ((N+4:Nat):Int)=(N:Int)+4 by omega]
 cases Zbu (pNum N) n l <;> rfl
theorem Zmc (n:Nat) (hn:n<=40) (l:List UInt8):pVal (UInt8.ofNat (8:Int).toNat::UInt8.ofNat n::l)=match Zbu ZbW n l with
 | .error e=>.error e
 | .ok (xs,r)=>.ok (⟨8,0,⟨#[]⟩,[],xs⟩,r):=by
 unfold pVal
 simp only
 rw [show (UInt8.ofNat (8:Int).toNat).toNat=8 from rfl,if_neg (by omega),if_pos (by omega)]
 unfold Zeu
 simp only
 rw [ZiP (by omega),if_neg (by omega),if_pos (by rfl)]
 cases Zbu ZbW n l <;> rfl
theorem Zle {g:GVal} (hg:Zhg g) (hf:g.Fits) (t:List UInt8):pVal (encR g++t)=.ok (g,t):=by
 have hk:=hf.num
 have hr:=hf.range
 unfold encR
 cases hg with
 | num k n h1 h3 he =>
   obtain ⟨N,rfl⟩:=Int.eq_ofNat_of_zero_le (show 0<=k by omega)
   rw [Zld _ _ h3,List.cons_append,Zol N (by omega) (by omega),Zia he hk]
 | text s hs=>rw [ZiN,List.cons_append,ZmN,Zgu hs]
 | nums k xs h1 h3 hl he =>
   obtain ⟨N,rfl⟩:=Int.eq_ofNat_of_zero_le (show 0<=k by omega)
   rw [ZiO _ _ h1,List.cons_append,List.cons_append,ZmO N (by omega) (by omega) _ hl,ZiI t xs fun x hx t=>Zia (he x hx) (hr x hx) t]
 | texts xs hl hs=>rw [Zht,List.cons_append,List.cons_append,Zmc _ hl,ZiI t xs fun x hx t=>Zgu (hs x hx) t]
theorem ZiQ {g:GVal} {l r:List UInt8} (h:pVal l=.ok (g,r)):Zhg g/\g.Fits/\encR g++r=l:=by
 unfold pVal at h
 split at h
 · cases h
 rename_i c l0
 have hcc:=c.toNat_lt
 split at h
 · cases h
 rename_i h1
 have hco:UInt8.ofNat ((c.toNat:Int)).toNat=c:=by rw [Int.toNat_natCast];exact UInt8.ofNat_toNat
 split at h
 · rename_i h4
   unfold Zeu at h
   split at h
   · cases h
   rename_i d l1
   have hdo:UInt8.ofNat d.toNat=d:=UInt8.ofNat_toNat
   split at h
   · cases h
   rename_i h40
   split at h
   · rename_i h8
     split at h
     · cases h
     rename_i xs r1 h2
     injection h with h
     injection h with h3 h5
     obtain ⟨i1,i2,i3⟩:=Zhq (fun _ _ _ hh=>ZdO hh) _ _ _ _ h2
     rw [h8] at h3 hco
     subst h3 h5
     refine ⟨.texts xs (by omega) i3,⟨⟨by simp,by simp⟩,⟨by simp,by simp⟩,by simp⟩,?_⟩
     unfold encR
     rw [Zht,i2,hdo,List.cons_append,List.cons_append,i1]
     exact congrArg (·::_) hco
   rename_i h8
   split at h
   · cases h
   rename_i xs r1 h2
   injection h with h
   injection h with h3 h5
   obtain ⟨i1,i2,i3⟩:=Zhq (e:=ZaK (c.toNat-4)) (Q:=fun x=>Zat (c.toNat-4) x=0 /\ -9223372036854775808<=x/\x<=9223372036854775807) (fun _ _ _ hh=>ZeB hh) _ _ _ _ h2
   subst h3 h5
   refine ⟨?_,⟨by simp only;omega,by simp,fun x hx=>(i3 x hx).2⟩,?_⟩
   · have:=Zhg.nums ((c.toNat:Int)-4) xs (by omega) (by omega) (by omega) fun x hx=>(i3 x hx).1
     rwa [show (c.toNat:Int)-4+4=c.toNat by omega] at this
   have:=ZiO ((c.toNat:Int)-4) xs (by omega)
   rw [show (c.toNat:Int)-4+4=c.toNat by omega] at this
   unfold encR
   rw [this,i2,hdo,List.cons_append,List.cons_append,i1,hco]
 rename_i h4
 split at h
 · rename_i h44
   split at h
   · cases h
   rename_i s r1 h2
   injection h with h
   injection h with h3 h5
   obtain ⟨i1,i2⟩:=ZdO h2
   subst h3 h5
   refine ⟨.text s i2,⟨⟨by simp,by simp⟩,⟨by simp,by simp⟩,by simp⟩,?_⟩
   unfold encR
   rw [ZiN,List.cons_append,i1]
   rw [h44] at hco
   exact congrArg (·::_) hco
 rename_i h44
 split at h
 · cases h
 rename_i n r1 h2
 injection h with h
 injection h with h3 h5
 obtain ⟨i1,i2,i3⟩:=ZeB h2
 subst h3 h5
 refine ⟨.num _ n (by omega) (by omega) i2,⟨by simp only;omega,i3,by simp⟩,?_⟩
 unfold encR
 rw [Zld _ _ (by omega),List.cons_append,i1,hco]
theorem ZmP {e:Int} {l:List UInt8} (h:pVal l=.error e) (he:e≠10) (t:List UInt8):pVal (l++t)=.error e:=by
 unfold pVal at h ⊢
 split at h
 · injection h with h;omega
 rename_i c l0
 simp only [List.cons_append]
 split at h
 · rename_i h1
   rw [if_pos h1,h]
 rename_i h1
 rw [if_neg h1]
 split at h
 · rename_i h4
   rw [if_pos h4]
   unfold Zeu at h ⊢
   split at h
   · injection h with h;omega
   rename_i d l1
   simp only [List.cons_append]
   split at h
   · rename_i h40
     rw [if_pos h40,h]
   rename_i h40
   rw [if_neg h40]
   split at h
   · rename_i h8
     rw [if_pos h8]
     split at h
     · rename_i e1 h2
       injection h with h
       subst h
       rw [Zhr (fun _ _ hh hn=>Zhs hh hn) (fun _ _ _ hh=>Zok hh) _ _ _ h2 he]
     cases h
   rename_i h8
   rw [if_neg h8]
   split at h
   · rename_i e1 h2
     injection h with h
     subst h
     rw [Zhr (fun _ _ hh hn=>ZiJ hh hn) (fun _ _ _ hh=>Zpq hh) _ _ _ h2 he]
   cases h
 rename_i h4
 rw [if_neg h4]
 split at h
 · rename_i h44
   rw [if_pos h44]
   split at h
   · rename_i e1 h2
     injection h with h
     subst h
     rw [Zhs h2 he]
   cases h
 rename_i h44
 rw [if_neg h44]
 split at h
 · rename_i e1 h2
   injection h with h
   subst h
   rw [ZiJ h2 he]
 cases h
theorem ZmQ {k n:Int} {l r:List UInt8} (h:pNum k l=.ok (n,r)):l.length<=r.length+8:=by
 obtain ⟨h1,_⟩:=ZeB h
 rw [<- h1,List.length_append]
 have:=ZcD k n
 omega
theorem Zmd {s:ByteArray} {l r:List UInt8} (h:ZbW l=.ok (s,r)):l.length<=r.length+1002:=by
 obtain ⟨h1,h2⟩:=ZdO h
 rw [<- h1,List.length_append,Zch]
 omega
theorem Zom {l:List UInt8} (h:pVal l=.error 10):l.length<40082:=by
 unfold pVal at h
 split at h
 · simp
 rename_i c l0
 rw [List.length_cons]
 split at h
 · injection h with h;omega
 split at h
 · unfold Zeu at h
   split at h
   · simp
   rename_i d l1
   rw [List.length_cons]
   split at h
   · injection h with h;omega
   rename_i h40
   split at h
   · split at h
     · rename_i e1 h2
       injection h with h
       subst h
       have h3:=ZeC (B:=1002) (fun _ hh=>ZiK hh) (fun _ _ _ hh=>Zmd hh) _ _ h2
       have h5:d.toNat*1002<=40*1002:=Nat.mul_le_mul_right _ (by omega)
       omega
     cases h
   split at h
   · rename_i e1 h2
     injection h with h
     subst h
     have h3:=ZeC (B:=8) (fun _ hh=>Zlc hh) (fun _ _ _ hh=>ZmQ hh) _ _ h2
     have h5:d.toNat*8<=40*8:=Nat.mul_le_mul_right _ (by omega)
     omega
   cases h
 split at h
 · split at h
   · rename_i e1 h2
     injection h with h
     subst h
     have:=ZiK h2
     omega
   cases h
 split at h
 · rename_i e1 h2
   injection h with h
   subst h
   have:=Zlc h2
   omega
 cases h
theorem ZmR (l:List UInt8) {m:Nat} (hm:40082<=m):decP (l.take m)=decP l:=by
 by_cases hlen:l.length<=m
 · rw [List.take_of_length_le hlen]
 have hl:(l.take m).length=m:=by rw [List.length_take];omega
 cases h:pVal (l.take m) with
 | error e =>
   have he:e≠10:=by
    rintro rfl
    have:=Zom h
    omega
   have h2:=ZmP h he (l.drop m)
   rw [List.take_append_drop] at h2
   rw [Zey h,Zey h2]
 | ok x =>
   obtain ⟨g,r⟩:=x
   obtain ⟨h1,h2,h3⟩:=ZiQ h
   have h4:pVal l=.ok (g,r++l.drop m):=by
    have:=Zle h1 h2 (r++l.drop m)
    rwa [<- List.append_assoc,h3,List.take_append_drop] at this
   rw [Zgl h,Zgl h4,hl,List.length_append,List.length_drop]
   congr 2
   omega
theorem Zon {g:GVal} (h:chk g=0) (hf:g.Fits) (t:List UInt8):decP (enc g++t)=(g,(enc g).length,0):=by
 rw [ZiM h]
 rw [Zgl (Zle (ZmM h) hf t),List.length_append]
 congr 2
 omega
theorem Zoo {g:GVal} (h:chk g=0) (hf:g.Fits):decD (enc g).length (decP (enc g))=(g,0):=by
 have:=Zon h hf []
 rw [List.append_nil] at this
 rw [this]
 unfold decD
 rw [if_neg (by simp)]
theorem ZiR {k:Int} {l:List UInt8}:¬ pNum k l=.error 0:=by
 intro h
 rw [ZeA] at h
 split at h
 · cases h
 split at h
 · rename_i h2
   injection h with h
   exact h2 h
 cases h
theorem Zhu {l:List UInt8}:¬ ZbW l=.error 0:=by
 intro h
 unfold ZbW at h
 split at h
 · cases h
 split at h
 · cases h
 split at h
 · cases h
 cases h
theorem Zhv {α:Type} {p:List UInt8->Except Int (α×List UInt8)} (hp:∀ l,¬ p l=.error 0):∀ (n:Nat) (l:List UInt8),¬ Zbu p n l=.error 0:=by
 intro n
 induction n with
 | zero=>intro l h;simp only [Zbu] at h;cases h
 | succ n ih =>
   intro l h
   simp only [Zbu] at h
   split at h
   · rename_i e1 h1
     injection h with h
     subst h
     exact hp _ h1
   split at h
   · rename_i e2 h2
     injection h with h
     subst h
     exact ih _ h2
   cases h
theorem ZmS {l:List UInt8}:¬ pVal l=.error 0:=by
 intro hv
 unfold pVal at hv
 split at hv
 · cases hv
 split at hv
 · cases hv
 split at hv
 · unfold Zeu at hv
   split at hv
   · cases hv
   split at hv
   · cases hv
   split at hv
   · split at hv
     · rename_i e1 h3
       injection hv with hv
       subst hv
       exact Zhv (fun _ hh=>Zhu hh) _ _ h3
     cases hv
   split at hv
   · rename_i e1 h3
     injection hv with hv
     subst hv
     exact Zhv (fun _ hh=>ZiR hh) _ _ h3
   cases hv
 split at hv
 · split at hv
   · rename_i e1 h3
     injection hv with hv
     subst hv
     exact Zhu h3
   cases hv
 split at hv
 · rename_i e1 h3
   injection hv with hv
   subst hv
   exact ZiR h3
 cases hv
theorem ZmT {g:GVal} {l:List UInt8} (h:decD l.length (decP l)=(g,0)):chk g=0/\g.Fits/\enc g=l:=by
 cases hv:pVal l with
 | error e =>
   rw [Zey hv] at h
   have he:e=0:=by
    unfold decD at h
    split at h
    · injection h with _ h
      cases h
    injection h with _ h
   subst he
   exact absurd hv ZmS
 | ok x =>
   obtain ⟨g',r⟩:=x
   obtain ⟨h1,h2,h3⟩:=ZiQ hv
   rw [Zgl hv] at h
   unfold decD at h
   split at h
   · injection h with _ h
     cases h
   rename_i h4
   injection h with h5 _
   subst h5
   have hr:r=[]:=by
    have h5:=Zho hv
    have h6:=congrArg List.length h3
    rw [List.length_append] at h6
    have h7:(encR g').length>=1:=by unfold encR;simp
    cases r with
    | nil=>rfl
    | cons x r=>exact absurd ⟨rfl,by show l.length-(x::r).length<l.length;rw [List.length_cons] at h6 h5 ⊢;omega⟩ h4
   subst hr
   rw [List.append_nil] at h3
   exact ⟨ZiL h1,h2,by rw [ZiM (ZiL h1),h3]⟩
end Go.Proofs.YtkopcinhbjimiaaGreatDoor
namespace Go.Proofs.YtkopcinhbjimiaaGreatDoor
open Go.RowKit
section
variable {w0 wx:World} {g1 g2:Nat} {t1 t2:TypeId} {a0 a1 a2 a3 a4 b0 b1 b2 b3 b4:Value}
end
abbrev PR.agg (x:PR):Value:=.agg #[.string x.key,.int .i64 x.g.kind,.int .i64 x.g.num,.string x.g.text,.slice x.A1 x.n1 x.c1,.slice x.A2 x.n2 x.c2]
abbrev ND.agg (x:ND):Value:=.agg #[.int .i64 x.id,.slice x.AL x.nL x.cL,.slice x.AP x.nP x.cP]
abbrev RL.agg (x:RL):Value:=.agg #[.int .i64 x.id,.string x.type,.int .i64 x.src,.int .i64 x.dst,.slice x.AP x.nP x.cP]
structure Zak where
 nodes:List ZaO
 rels:List GRel
structure GR where
 ns:List ND
 AN:Option Addr
 nN:Nat
 cN:Nat
 rs:List RL
 AR:Option Addr
 nR:Nat
 cR:Nat
abbrev GR.agg (g:GR):Value:=.agg #[.slice g.AN g.nN g.cN,.slice g.AR g.nR g.cR]
def GR.dat (g:GR):Zak:=⟨g.ns.map ND.dat,g.rs.map RL.dat⟩
structure RdG (w:World) (F:Nat->Prop) (g:GR):Prop where
 nodes:RdNs w F g.AN g.nN g.cN g.ns
 rels:RdRs w F g.AR g.nR g.cR g.rs
theorem RdG.upd {w w':World} {F S:Nat->Prop} {g:GR} (h:RdG w F g) (hu:Upd S w w') (hs:∀ b,F b->¬ S b):RdG w' F g:=⟨h.nodes.upd hu hs,h.rels.upd hu hs⟩
theorem RdG.same {w w':World} {F:Nat->Prop} {g:GR} (h:RdG w F g) (hu:Same w w'):RdG w' F g:=h.upd hu fun _ _ f=>f
theorem RdG.mono {w:World} {F F':Nat->Prop} {g:GR} (h:RdG w F g) (hf:∀ b,b<w.heap.size->F b->F' b):RdG w F' g:=⟨h.nodes.mono hf,h.rels.mono hf⟩
theorem Zlf {w:World} {B n c i:Nat} {e:TypeId} {A:Option Addr} {xs:List Value} (h:w.ownsRow B e 1 (.slice A n c) n xs) (hi:i<n) :
 ∃ g u,A=some ⟨g,0,none⟩/\B<=g/\g<w.heap.size/\xs[i]?=some u/\w.cell? ⟨g,i,none⟩=some u/\w.frozen? ⟨g,i,none⟩=false/\∀ u',(w.setCell ⟨g,i,none⟩ u').ownsRow B e 1 (.slice A n c) n (xs.set i u'):=by
 have hl:=h.1
 rcases h.2 with ⟨hv,hn⟩ | ⟨g,cap,cur,hv,hb,hg,hle,hm,hs,ht⟩
 · omega
 injection hv with h1 h2 h3
 subst h1 h3
 have hlt:g<w.heap.size:=(Array.getElem?_eq_some_iff.1 hg).1
 have hix:i<xs.length:=by omega
 have hic:i<cur.size:=by omega
 have hcell:cur[i]?=some xs[i]:=by
  rw [<- Array.getElem?_toList]
  have h2:(cur.toList.take (n*1))[i]?=some xs[i]:=by rw [ht];exact List.getElem?_eq_getElem hix
  rw [List.getElem?_take,if_pos (by omega)] at h2
  exact h2
 refine ⟨g,xs[i],rfl,hb,hlt,List.getElem?_eq_getElem hix,?_,?_,fun u'=>?_⟩
 · rw [cell_of_row w g i cur e (0,0) hg]
   exact hcell
 · simp [World.frozen?,hg]
 refine ⟨by rw [List.length_set];exact hl,.inr ⟨g,c,cur.setIfInBounds i u',rfl,hb,?_,hle,hm,by simpa using hs,?_⟩⟩
 · simp [World.setCell,Array.getElem?_modify,hg]
 rw [Array.toList_setIfInBounds,List.take_set,ht]
theorem Zdx {w:World} {B n c k i:Nat} {e:TypeId} {A:Option Addr} {xs:List Value} (h:w.ownsRow B e k (.slice A n c) n xs) (hi:i<n*k) :
 ∃ g u,A=some ⟨g,0,none⟩/\B<=g/\g<w.heap.size/\xs[i]?=some u/\w.cell? ⟨g,i,none⟩=some u/\w.frozen? ⟨g,i,none⟩=false/\∀ u',(w.setCell ⟨g,i,none⟩ u').ownsRow B e k (.slice A n c) n (xs.set i u'):=by
 have hl:=h.1
 rcases h.2 with ⟨hv,hn⟩ | ⟨g,cap,cur,hv,hb,hg,hle,hm,hs,ht⟩
 · subst hn;omega
 injection hv with h1 h2 h3
 subst h1 h3
 have hlt:g<w.heap.size:=(Array.getElem?_eq_some_iff.1 hg).1
 have hix:i<xs.length:=by omega
 have hck:n*k<=c*k:=Nat.mul_le_mul_right k hle
 have hic:i<cur.size:=by omega
 have hcell:cur[i]?=some xs[i]:=by
  rw [<- Array.getElem?_toList]
  have h2:(cur.toList.take (n*k))[i]?=some xs[i]:=by rw [ht];exact List.getElem?_eq_getElem hix
  rw [List.getElem?_take,if_pos hi] at h2
  exact h2
 refine ⟨g,xs[i],rfl,hb,hlt,List.getElem?_eq_getElem hix,?_,?_,fun u'=>?_⟩
 · rw [cell_of_row w g i cur e (0,0) hg]
   exact hcell
 · simp [World.frozen?,hg]
 refine ⟨by rw [List.length_set];exact hl,.inr ⟨g,c,cur.setIfInBounds i u',rfl,hb,?_,hle,hm,by simpa using hs,?_⟩⟩
 · simp [World.setCell,Array.getElem?_modify,hg]
 rw [Array.toList_setIfInBounds,List.take_set,ht]
theorem Zgv:(Tryz.prog.info? 43).map (fun i=>(i.zero,i.size,i.bytes))=some (some (.agg #[.int .i64 0,.slice none 0 0,.slice none 0 0]),3,56):=by kernel_rfl
theorem Zqg (l:List ND):∀ u∈l.flatMap ND.cells,u.oneCell'=true:=by
 intro u hu
 obtain ⟨x,_,hx⟩:=List.mem_flatMap.1 hu
 simp only [ND.cells,List.mem_cons,List.not_mem_nil,or_false] at hx
 rcases hx with rfl | rfl | rfl
 all_goals rfl
theorem Zgb:(Tryz.prog.info? 50).map (fun i=>(i.zero,i.size,i.bytes))=some (some (.agg #[.int .i64 0,.string ⟨#[]⟩,.int .i64 0,.int .i64 0,.slice none 0 0]),5,64):=by kernel_rfl
theorem Zqh (l:List RL):∀ u∈l.flatMap RL.cells,u.oneCell'=true:=by
 intro u hu
 obtain ⟨x,_,hx⟩:=List.mem_flatMap.1 hu
 simp only [RL.cells,List.mem_cons,List.not_mem_nil,or_false] at hx
 rcases hx with rfl | rfl | rfl | rfl | rfl
 all_goals rfl
theorem PR.one (x:PR):∀ u∈x.cells,u.oneCell'=true:=by
 intro u hu
 simp only [PR.cells,List.mem_cons,List.not_mem_nil,or_false] at hu
 rcases hu with rfl | rfl | rfl | rfl | rfl | rfl <;> rfl
theorem ND.one (x:ND):∀ u∈x.cells,u.oneCell'=true:=by
 intro u hu
 simp only [ND.cells,List.mem_cons,List.not_mem_nil,or_false] at hu
 rcases hu with rfl | rfl | rfl <;> rfl
theorem RL.one (x:RL):∀ u∈x.cells,u.oneCell'=true:=by
 intro u hu
 simp only [RL.cells,List.mem_cons,List.not_mem_nil,or_false] at hu
 rcases hu with rfl | rfl | rfl | rfl | rfl <;> rfl
theorem Zgw:(Tryz.prog.info? 48).map (fun i=>(i.zero,i.size,i.bytes))=some (some (.agg #[.string ⟨#[]⟩,.int .i64 0,.int .i64 0,.string ⟨#[]⟩,.slice none 0 0,.slice none 0 0]),6,96):=by kernel_rfl
theorem Zqi (l:List PR):∀ u∈l.flatMap PR.cells,u.oneCell'=true:=by
 intro u hu
 obtain ⟨x,_,hx⟩:=List.mem_flatMap.1 hu
 exact x.one u hx
theorem Row.pr (w:World) (x:PR):Row (w.alloc (.cells x.cells.toArray 48)) (fun b=>b=w.heap.size) 6 (some ⟨w.heap.size,0,none⟩) 1 1 x.cells :=
 Row.of_blk (Blk.new w _ x.cells.toArray) rfl (Nat.le_refl _) (by simp [maxLen])
theorem Row.nd (w:World) (x:ND):Row (w.alloc (.cells x.cells.toArray 43)) (fun b=>b=w.heap.size) 3 (some ⟨w.heap.size,0,none⟩) 1 1 x.cells :=
 Row.of_blk (Blk.new w _ x.cells.toArray) rfl (Nat.le_refl _) (by simp [maxLen])
theorem Row.rl (w:World) (x:RL):Row (w.alloc (.cells x.cells.toArray 50)) (fun b=>b=w.heap.size) 5 (some ⟨w.heap.size,0,none⟩) 1 1 x.cells :=
 Row.of_blk (Blk.new w _ x.cells.toArray) rfl (Nat.le_refl _) (by simp [maxLen])
structure ZbI (w:World) (B:Nat) (x:PR):Prop where
 nums:w.ownsRow B 2 1 (.slice x.A1 x.n1 x.c1) x.n1 (x.g.nums.map (Value.int .i64))
 texts:w.ownsRow B 9 1 (.slice x.A2 x.n2 x.c2) x.n2 (x.g.texts.map Value.string)
 fits:x.g.Fits
structure ZbC (w:World) (B:Nat) (v:Value) (ps:List PR):Prop where
 row:w.ownsRow B 48 6 v ps.length (ps.flatMap PR.cells)
 each:∀ x∈ps,ZbI w B x
structure ZcY (w:World) (B:Nat) (x:ND):Prop where
 lab:w.ownsRow B 9 1 (.slice x.AL x.nL x.cL) x.nL (x.labels.map Value.string)
 pro:ZbC w B (.slice x.AP x.nP x.cP) x.props
 id:ZfT x.id
structure Zdr (w:World) (B:Nat) (x:RL):Prop where
 pro:ZbC w B (.slice x.AP x.nP x.cP) x.props
 id:ZfT x.id/\ZfT x.src/\ZfT x.dst
structure ZcN (w:World) (B:Nat) (v:Value) (ns:List ND):Prop where
 row:w.ownsRow B 43 3 v ns.length (ns.flatMap ND.cells)
 each:∀ x∈ns,ZcY w B x
structure ZcZ (w:World) (B:Nat) (v:Value) (rs:List RL):Prop where
 row:w.ownsRow B 50 5 v rs.length (rs.flatMap RL.cells)
 each:∀ x∈rs,Zdr w B x
section
variable {w w':World} {B B':Nat} {v:Value} {ps:List PR} {ns:List ND} {rs:List RL}
theorem ZbI.upd {S:Nat->Prop} {x:PR} (h:ZbI w B x) (hu:Upd S w w') (h1:∀ g,S g->(Value.slice x.A1 x.n1 x.c1).ownBlock≠some g) (h2:∀ g,S g->(Value.slice x.A2 x.n2 x.c2).ownBlock≠some g):ZbI w' B x :=
 ⟨Zam h.nums hu fun g hg hs=>h1 g hs hg,Zam h.texts hu fun g hg hs=>h2 g hs hg,h.fits⟩
theorem ZbI.same {x:PR} (h:ZbI w B x) (hu:Same w w'):ZbI w' B x:=h.upd hu (fun _ f=>f.elim) (fun _ f=>f.elim)
theorem ZbI.base {x:PR} (h:ZbI w B x) (hB:B'<=B):ZbI w B' x:=⟨Zad h.nums hB,Zad h.texts hB,h.fits⟩
theorem ZbC.nil_ (w:World) (B:Nat):ZbC w B (.slice none 0 0) []:=⟨World.ownsRow_nil _ _ _ _,by simp⟩
theorem ZbC.same (h:ZbC w B v ps) (hu:Same w w'):ZbC w' B v ps:=⟨Zaa h.row hu,fun x hx=>(h.each x hx).same hu⟩
theorem ZbC.base (h:ZbC w B v ps) (hB:B'<=B):ZbC w B' v ps:=⟨Zad h.row hB,fun x hx=>(h.each x hx).base hB⟩
theorem ZcY.same {x:ND} (h:ZcY w B x) (hu:Same w w'):ZcY w' B x:=⟨Zaa h.lab hu,h.pro.same hu,h.id⟩
theorem ZcY.base {x:ND} (h:ZcY w B x) (hB:B'<=B):ZcY w B' x:=⟨Zad h.lab hB,h.pro.base hB,h.id⟩
theorem Zdr.same {x:RL} (h:Zdr w B x) (hu:Same w w'):Zdr w' B x:=⟨h.pro.same hu,h.id⟩
theorem Zdr.base {x:RL} (h:Zdr w B x) (hB:B'<=B):Zdr w B' x:=⟨h.pro.base hB,h.id⟩
theorem ZcN.nil_ (w:World) (B:Nat):ZcN w B (.slice none 0 0) []:=⟨World.ownsRow_nil _ _ _ _,by simp⟩
theorem ZcZ.nil_ (w:World) (B:Nat):ZcZ w B (.slice none 0 0) []:=⟨World.ownsRow_nil _ _ _ _,by simp⟩
theorem ZcN.same (h:ZcN w B v ns) (hu:Same w w'):ZcN w' B v ns:=⟨Zaa h.row hu,fun x hx=>(h.each x hx).same hu⟩
theorem ZcN.base (h:ZcN w B v ns) (hB:B'<=B):ZcN w B' v ns:=⟨Zad h.row hB,fun x hx=>(h.each x hx).base hB⟩
theorem ZcZ.same (h:ZcZ w B v rs) (hu:Same w w'):ZcZ w' B v rs:=⟨Zaa h.row hu,fun x hx=>(h.each x hx).same hu⟩
theorem ZcZ.base (h:ZcZ w B v rs) (hB:B'<=B):ZcZ w B' v rs:=⟨Zad h.row hB,fun x hx=>(h.each x hx).base hB⟩
def OfT (w:World) (e:TypeId) (g:Nat):Prop:=∃ cs,Blk w g e cs
theorem Zaq {base k n:Nat} {e:TypeId} {xs:List Value} (h:w.ownsRow base e k v n xs) {g:Nat} (hg:v.ownBlock=some g):OfT w e g:=by
 rcases h.2 with ⟨rfl,_⟩ | ⟨b,cap,cur,rfl,_,hh,_⟩
 · simp [Value.ownBlock] at hg
 obtain rfl:b=g:=by simpa [Value.ownBlock] using hg
 exact ⟨cur,hh⟩
theorem OfT.ne {e e':TypeId} {g:Nat} (h:OfT w e g) (h':OfT w e' g):e=e':=by
 obtain ⟨c,h1⟩:=h
 obtain ⟨c',h2⟩:=h'
 unfold Blk at h1 h2
 rw [h1] at h2
 injection h2 with h2
 injection h2
theorem ZaT {S:Nat->Prop} {e e':TypeId} {base k n:Nat} {xs:List Value} (h:w.ownsRow base e k v n xs) (hu:Upd S w w') (hS:∀ g,g<w.heap.size->S g->OfT w e' g) (hne:e≠e'):w'.ownsRow base e k v n xs :=
 Zam h hu fun g hg hs=>hne ((Zaq h hg).ne (hS g (by obtain ⟨c,hc⟩:=Zaq h hg;exact hc.lt) hs))
theorem ZbI.type {S:Nat->Prop} {e':TypeId} {x:PR} (h:ZbI w B x) (hu:Upd S w w') (hS:∀ g,g<w.heap.size->S g->OfT w e' g) (h1:2≠e') (h2:9≠e'):ZbI w' B x :=
 ⟨ZaT h.nums hu hS h1,ZaT h.texts hu hS h2,h.fits⟩
theorem ZbC.type {S:Nat->Prop} {e':TypeId} (h:ZbC w B v ps) (hu:Upd S w w') (hS:∀ g,g<w.heap.size->S g->OfT w e' g) (h0:48≠e') (h1:2≠e') (h2:9≠e'):ZbC w' B v ps :=
 ⟨ZaT h.row hu hS h0,fun x hx=>(h.each x hx).type hu hS h1 h2⟩
theorem ZcY.type {S:Nat->Prop} {e':TypeId} {x:ND} (h:ZcY w B x) (hu:Upd S w w') (hS:∀ g,g<w.heap.size->S g->OfT w e' g) (h0:48≠e') (h1:2≠e') (h2:9≠e'):ZcY w' B x :=
 ⟨ZaT h.lab hu hS h2,h.pro.type hu hS h0 h1 h2,h.id⟩
theorem Zdr.type {S:Nat->Prop} {e':TypeId} {x:RL} (h:Zdr w B x) (hu:Upd S w w') (hS:∀ g,g<w.heap.size->S g->OfT w e' g) (h0:48≠e') (h1:2≠e') (h2:9≠e'):Zdr w' B x :=
 ⟨h.pro.type hu hS h0 h1 h2,h.id⟩
theorem ZcN.type {S:Nat->Prop} {e':TypeId} (h:ZcN w B v ns) (hu:Upd S w w') (hS:∀ g,g<w.heap.size->S g->OfT w e' g) (hn:43≠e') (h0:48≠e') (h1:2≠e') (h2:9≠e'):ZcN w' B v ns :=
 ⟨ZaT h.row hu hS hn,fun x hx=>(h.each x hx).type hu hS h0 h1 h2⟩
theorem ZcZ.type {S:Nat->Prop} {e':TypeId} (h:ZcZ w B v rs) (hu:Upd S w w') (hS:∀ g,g<w.heap.size->S g->OfT w e' g) (hn:50≠e') (h0:48≠e') (h1:2≠e') (h2:9≠e'):ZcZ w' B v rs :=
 ⟨ZaT h.row hu hS hn,fun x hx=>(h.each x hx).type hu hS h0 h1 h2⟩
theorem ZbC.snoc {v':Value} {x:PR} (h:ZbC w B v ps) (hg:Grew w B 48 6 v (ps.length+1) (ps.flatMap PR.cells++x.cells) v' w') (hx:ZbI w B x):ZbC w' B v' (ps++[x]):=by
 have hS:∀ g,g<w.heap.size->v.ownBlock=some g->OfT w 48 g:=fun g _ hg=>Zaq h.row hg
 refine ⟨?_,fun y hy=>?_⟩
 · rw [List.length_append,List.flatMap_append]
   simpa using hg.own
 rcases List.mem_append.1 hy with hy | hy
 · exact (h.each y hy).type hg.upd hS (by decide) (by decide)
 obtain rfl:y=x:=by simpa using hy
 exact hx.type hg.upd hS (by decide) (by decide)
theorem ZcN.snoc {v':Value} {x:ND} (h:ZcN w B v ns) (hg:Grew w B 43 3 v (ns.length+1) (ns.flatMap ND.cells++x.cells) v' w') (hx:ZcY w B x):ZcN w' B v' (ns++[x]):=by
 have hS:∀ g,g<w.heap.size->v.ownBlock=some g->OfT w 43 g:=fun g _ hg=>Zaq h.row hg
 refine ⟨?_,fun y hy=>?_⟩
 · rw [List.length_append,List.flatMap_append]
   simpa using hg.own
 rcases List.mem_append.1 hy with hy | hy
 · exact (h.each y hy).type hg.upd hS (by decide) (by decide) (by decide)
 obtain rfl:y=x:=by simpa using hy
 exact hx.type hg.upd hS (by decide) (by decide) (by decide)
theorem ZcZ.snoc {v':Value} {x:RL} (h:ZcZ w B v rs) (hg:Grew w B 50 5 v (rs.length+1) (rs.flatMap RL.cells++x.cells) v' w') (hx:Zdr w B x):ZcZ w' B v' (rs++[x]):=by
 have hS:∀ g,g<w.heap.size->v.ownBlock=some g->OfT w 50 g:=fun g _ hg=>Zaq h.row hg
 refine ⟨?_,fun y hy=>?_⟩
 · rw [List.length_append,List.flatMap_append]
   simpa using hg.own
 rcases List.mem_append.1 hy with hy | hy
 · exact (h.each y hy).type hg.upd hS (by decide) (by decide) (by decide)
 obtain rfl:y=x:=by simpa using hy
 exact hx.type hg.upd hS (by decide) (by decide) (by decide)
theorem Zci {base k n c:Nat} {A:Option Addr} {e:TypeId} {xs:List Value} (h:w.ownsRow base e k (.slice A n c) n xs):WRow w (fun b=>base<=b/\b<w.heap.size) k A n c xs :=
 (Row.mono (Row.of_own h) fun _ hb hh=>⟨hh.2,hb⟩).weak
theorem ZbI.rd {x:PR} (h:ZbI w B x):Zcg w (fun b=>B<=b/\b<w.heap.size) x.A1 x.n1 x.c1 x.A2 x.n2 x.c2 x.g :=
 ⟨Zci h.nums,Zci h.texts,h.fits.kind,h.fits.num,h.fits.range⟩
theorem ZbC.rd {A:Option Addr} {n c:Nat} (h:ZbC w B (.slice A n c) ps):RdPs w (fun b=>B<=b/\b<w.heap.size) A n c ps:=by
 have h1:=h.row
 obtain ⟨A',c',e⟩:=Zac h1
 injection e with e1 e2 e3
 subst e1 e3
 rw [<- e2] at h1
 exact ⟨Zci h1,fun x hx=>(h.each x hx).rd⟩
theorem ZcN.rd {A:Option Addr} {n c:Nat} (h:ZcN w B (.slice A n c) ns):RdNs w (fun b=>B<=b/\b<w.heap.size) A n c ns:=by
 have h1:=h.row
 obtain ⟨A',c',e⟩:=Zac h1
 injection e with e1 e2 e3
 subst e1 e3
 rw [<- e2] at h1
 exact ⟨Zci h1,fun x hx=>Zci (h.each x hx).lab,fun x hx=>(h.each x hx).pro.rd,fun x hx=>(h.each x hx).id⟩
theorem ZcZ.rd {A:Option Addr} {n c:Nat} (h:ZcZ w B (.slice A n c) rs):RdRs w (fun b=>B<=b/\b<w.heap.size) A n c rs:=by
 have h1:=h.row
 obtain ⟨A',c',e⟩:=Zac h1
 injection e with e1 e2 e3
 subst e1 e3
 rw [<- e2] at h1
 exact ⟨Zci h1,fun x hx=>(h.each x hx).pro.rd,fun x hx=>(h.each x hx).id⟩
end
structure OwnG (w:World) (B:Nat) (g:GR):Prop where
 nodes:ZcN w B (.slice g.AN g.nN g.cN) g.ns
 rels:ZcZ w B (.slice g.AR g.nR g.cR) g.rs
section
variable {w w':World} {B B':Nat} {g:GR}
theorem OwnG.same (h:OwnG w B g) (hu:Same w w'):OwnG w' B g:=⟨h.nodes.same hu,h.rels.same hu⟩
theorem OwnG.base (h:OwnG w B g) (hB:B'<=B):OwnG w B' g:=⟨h.nodes.base hB,h.rels.base hB⟩
theorem OwnG.rd (h:OwnG w B g):RdG w (fun b=>B<=b/\b<w.heap.size) g:=⟨h.nodes.rd,h.rels.rd⟩
end
theorem Zcz {P:Program} {w:World} {F:Nat->Prop} {k:Nat} {tx e:TypeId} (ht:P.underlying tx=some (.slice e)) {A:Option Addr} {m c:Nat} {news:List Value} (h:WRow w F k A m c news) (hone:∀ u∈news,u.oneCell'=true) :
 Src P k tx (.slice A m c) m news w:=by
 by_cases h0:0<m
 · exact Zal ht (h.row h0) hone
 obtain rfl:m=0:=by omega
 have hn:news=[]:=List.eq_nil_of_length_eq_zero (by simpa using h.len)
 subst hn
 cases A with
 | none =>
   have hc:=h.nil rfl
   subst hc
   exact Src.ofNil w ht 0
 | some a=>exact Src.ofSlice w ht a 0 c [] (by simp) (by simp) (by simp)
theorem Zlg {w wr w':World} {g:Nat} {v:Value} (hs:Same w wr) (hu:Upd (fun b=>b=g\/v.ownBlock=some b) wr w') (hg:w.heap.size<=g) (hv:∀ b,v.ownBlock=some b->w.heap.size<=b):Same w w' :=
 hs.trans hu fun b hb hh=>by
  rcases hh with hh | hh
  · omega
  have:=hv b hh
  omega
end Go.Proofs.YtkopcinhbjimiaaGreatDoor
