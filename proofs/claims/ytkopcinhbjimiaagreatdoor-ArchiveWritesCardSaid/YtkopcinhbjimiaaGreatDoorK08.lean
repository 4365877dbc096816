/- Texts that the claim leans on: walks and plain laws, function by function. -/
import Derived.Test.YtkopcinhbjimiaaGreatDoorK02
import Derived.Test.YtkopcinhbjimiaaGreatDoorK05
import Derived.Test.YtkopcinhbjimiaaGreatDoorK07
import Derived.Deep.QuietTactic
import Derived.BigQuiet
import Derived.Deep.DeepCutAuto
import Derived.Deep.CutBlock
import Derived.Test.YtkopcinhbjimiaaGreatDoorK04
import Derived.Test.YtkopcinhbjimiaaGreatDoorK03
import Derived.Test.YtkopcinhbjimiaaGreatDoorK06
import Derived.Deep.LoopGhost
import Derived.Test.YtkopcinhbjimiaaGreatDoorK01
set_option maxRecDepth 100000
set_option maxHeartbeats 16000000
namespace Go.Proofs.YtkopcinhbjimiaaGreatDoor
def step (K kk:Int) (l:List UInt8) (g:GVal):Except Int (GVal×List UInt8) :=
 if kk<4 then match pNum kk l with
  | .error e=>.error e
  | .ok (n,r)=>.ok (if 4<K then { g with nums:=g.nums++[n] } else { g with num:=n },r)
 else match pText l with
  | .error e=>.error e
  | .ok (s,r)=>.ok (if 4<K then { g with texts:=g.texts++[s] } else { g with text:=s },r)
def run (K kk:Int):Nat->List UInt8->GVal->Except Int (GVal×List UInt8)
 | 0,l,g=>.ok (g,l)
 | m+1,l,g=>match step K kk l g with
   | .error e=>.error e
   | .ok (g',r)=>run K kk m r g'
def g0 (N:Int):GVal:=⟨N,0,⟨#[]⟩,[],[]⟩
end Go.Proofs.YtkopcinhbjimiaaGreatDoor
namespace Go.Proofs.YtkopcinhbjimiaaGreatDoor
open Go.RowKit
end Go.Proofs.YtkopcinhbjimiaaGreatDoor
namespace Go.Proofs.YtkopcinhbjimiaaGreatDoor
theorem be_beb (n:Nat):∀ k,be (beb k n)=n % 256 ^ k:=by
 intro k
 induction k with
 | zero=>simp [beb,be,Nat.mod_one]
 | succ k ih =>
   rw [beb,be_cons,beb_len,ih,Nat.pow_succ,Nat.mod_mul]
   simp only [UInt8.toNat_ofNat']
   rw [Nat.mul_comm,Nat.add_comm]
theorem be_inj:∀ (l m:List UInt8),l.length=m.length->be l=be m->l=m:=by
 intro l
 induction l with
 | nil=>intro m h _;exact (List.eq_nil_of_length_eq_zero h.symm).symm
 | cons c l ih =>
   intro m h he
   cases m with
   | nil=>cases h
   | cons d m =>
     have hl:l.length=m.length:=by simpa using h
     rw [be_cons,be_cons,hl] at he
     have h1:=be_lt l
     have h2:=be_lt m
     rw [hl] at h1
     generalize 256 ^ m.length=P at *
     have hP:0<P:=by omega
     have hc:c.toNat=d.toNat:=by
      have e1:(c.toNat*P+be l) / P=c.toNat:=by rw [Nat.mul_comm,Nat.mul_add_div hP,Nat.div_eq_of_lt h1,Nat.add_zero]
      have e2:(d.toNat*P+be m) / P=d.toNat:=by rw [Nat.mul_comm,Nat.mul_add_div hP,Nat.div_eq_of_lt h2,Nat.add_zero]
      rw [<- e1,<-e2,he]
     rw [UInt8.toNat_inj.1 hc,ih m hl (by rw [hc] at he;omega)]
theorem beb_be {l:List UInt8} {k n:Nat} (hl:l.length=k) (hn:n % 256 ^ k=be l):beb k n=l :=
 be_inj _ _ (by rw [beb_len,hl]) (by rw [be_beb,hn])
theorem i64_u64 {n:Int} (h : -9223372036854775808<=n/\n<=9223372036854775807):i64 (u64 n)=n:=by
 unfold i64 u64
 split <;> omega
theorem u64_i64 {m:Nat} (h:m<18446744073709551616):u64 (i64 m)=m:=by
 unfold i64 u64
 split <;> omega
def wid (k:Int):Nat:=if k=1 then 1 else 8
theorem encNum_wid (k n:Int):(encNum k n).length=wid k:=by unfold encNum wid;split <;> simp [beb_len]
theorem numErr_one {n:Int} (h:numErr 1 n=0):n=0\/n=1:=by
 unfold numErr at h
 by_cases h0:n=0
 · exact .inl h0
 by_cases h1:n=1
 · exact .inr h1
 rw [if_pos ⟨rfl,h0,h1⟩] at h
 cases h
theorem numErr_ten (k n:Int):numErr k n≠10:=by
 unfold numErr
 split
 · decide
 split <;> decide
theorem pNum_wid (k:Int) (l:List UInt8):pNum k l=if l.length<wid k then .error 10 else if numErr k (i64 (be (l.take (wid k))))≠0 then .error (numErr k (i64 (be (l.take (wid k))))) else .ok (i64 (be (l.take (wid k))),l.drop (wid k)):=rfl
theorem be_encNum {k n:Int} (he:numErr k n=0) (hr : -9223372036854775808<=n/\n<=9223372036854775807):i64 (be (encNum k n))=n:=by
 unfold encNum
 by_cases h1:k=1
 · subst h1
   rw [if_pos rfl,be_beb]
   rcases numErr_one he with rfl | rfl <;> decide
 rw [if_neg h1,be_beb,Nat.mod_eq_of_lt (by have:=u64_lt n;have:256 ^ 8=18446744073709551616:=(by decide);omega),i64_u64 hr]
theorem pNum_enc {k n:Int} (he:numErr k n=0) (hr : -9223372036854775808<=n/\n<=9223372036854775807) (t:List UInt8):pNum k (encNum k n++t)=.ok (n,t):=by
 rw [pNum_wid,if_neg (by rw [List.length_append,encNum_wid];omega),List.take_left' (encNum_wid k n),List.drop_left' (encNum_wid k n),be_encNum he hr,if_neg (by simpa using he)]
theorem wid_le (k:Int):wid k<=8:=by unfold wid;split <;> omega
theorem pNum_back {k n:Int} {l r:List UInt8} (h:pNum k l=.ok (n,r)):encNum k n++r=l/\numErr k n=0 /\ -9223372036854775808<=n/\n<=9223372036854775807:=by
 rw [pNum_wid] at h
 split at h
 · cases h
 rename_i h1
 split at h
 · cases h
 rename_i h2
 injection h with h
 injection h with h3 h4
 have hlt:=be_take_lt l (wid k) (wid_le k)
 have hlen:(l.take (wid k)).length=wid k:=by rw [List.length_take];omega
 refine ⟨?_,?_,?_⟩
 · have:encNum k n=l.take (wid k):=by
    rw [<- h3]
    unfold encNum
    rw [u64_i64 hlt]
    unfold wid at hlen ⊢
    split
    · rename_i hk
      rw [if_pos hk] at hlen
      exact beb_be hlen (Nat.mod_eq_of_lt (by have:=be_lt (l.take 1);rwa [hlen] at this))
    rename_i hk
    rw [if_neg hk] at hlen
    exact beb_be hlen (Nat.mod_eq_of_lt (by have:=be_lt (l.take 8);rwa [hlen] at this))
   rw [this,<-h4,List.take_append_drop]
 · rw [<- h3]
   exact Decidable.not_not.1 h2
 rw [<- h3]
 exact i64_range _ hlt
theorem pText_enc {s:ByteArray} (hs:s.size<=1000) (t:List UInt8):pText (encText s++t)=.ok (s,t):=by
 have hb:be ((encText s++t).take 2)=s.size:=by
  unfold encText
  rw [List.append_assoc,List.take_left' (beb_len 2 _),be_beb,Nat.mod_eq_of_lt (by have:256 ^ 2=65536:=(by decide);omega)]
 have hd:(encText s++t).drop 2=s.data.toList++t:=by
  unfold encText
  rw [List.append_assoc,List.drop_left' (beb_len 2 _)]
 unfold pText
 rw [hb,hd,if_neg (by rw [List.length_append,encText_len];omega),if_neg (by omega),if_neg (by rw [List.length_append,toList_size];omega),List.take_left' (toList_size s),List.drop_left' (toList_size s)]
theorem pText_back {s:ByteArray} {l r:List UInt8} (h:pText l=.ok (s,r)):encText s++r=l/\s.size<=1000:=by
 unfold pText at h
 split at h
 · cases h
 rename_i h1
 split at h
 · cases h
 rename_i h2
 split at h
 · cases h
 rename_i h3
 injection h with h
 injection h with h4 h5
 have hsz:s.size=be (l.take 2):=by
  rw [<- h4]
  show ((l.drop 2).take (be (l.take 2))).toArray.size=_
  rw [List.size_toArray,List.length_take]
  omega
 refine ⟨?_,by omega⟩
 have h6:beb 2 s.size=l.take 2:=by
  have hl:(l.take 2).length=2:=by rw [List.length_take];omega
  exact beb_be hl (by rw [hsz];exact Nat.mod_eq_of_lt (by have:=be_lt (l.take 2);rwa [hl] at this))
 unfold encText
 rw [h6,<-h5,<-h4,List.append_assoc]
 show l.take 2++(((l.drop 2).take (be (l.take 2))).toArray.toList++_)=l
 rw [List.take_append_drop,List.take_append_drop]
section many
variable {α:Type} {p:List UInt8->Except Int (α×List UInt8)} {e:α->List UInt8}
theorem pMany_enc (t:List UInt8):∀ xs:List α,(∀ x∈xs,∀ t,p (e x++t)=.ok (x,t))->pMany p xs.length (xs.flatMap e++t)=.ok (xs,t):=by
 intro xs
 induction xs with
 | nil=>intro _;simp [pMany]
 | cons x xs ih =>
   intro h
   simp only [List.length_cons,pMany,List.flatMap_cons,List.append_assoc]
   rw [h x (by simp)]
   simp only
   rw [ih fun y hy=>h y (by simp [hy])]
theorem pMany_back {Q:α->Prop} (hp:∀ l x r,p l=.ok (x,r)->e x++r=l/\Q x):∀ (n:Nat) (l:List UInt8) (xs:List α) (r:List UInt8),pMany p n l=.ok (xs,r)->xs.flatMap e++r=l/\xs.length=n/\∀ x∈xs,Q x:=by
 intro n
 induction n with
 | zero =>
   intro l xs r h
   simp only [pMany] at h
   injection h with h
   injection h with h1 h2
   subst h1 h2
   simp
 | succ n ih =>
   intro l xs r h
   simp only [pMany] at h
   split at h
   · cases h
   rename_i x r1 h1
   split at h
   · cases h
   rename_i ys r2 h2
   injection h with h
   injection h with h3 h4
   subst h3 h4
   obtain ⟨i1,i2,i3⟩:=ih _ _ _ h2
   obtain ⟨j1,j2⟩:=hp _ _ _ h1
   refine ⟨by rw [List.flatMap_cons,List.append_assoc,i1,j1],by simp [i2],?_⟩
   intro y hy
   rcases List.mem_cons.1 hy with rfl | hy
   · exact j2
   exact i3 y hy
theorem pMany_short10 {B:Nat} (hp:∀ l,p l=.error 10->l.length<B) (hq:∀ l x r,p l=.ok (x,r)->l.length<=r.length+B):∀ (n:Nat) (l:List UInt8),pMany p n l=.error 10->l.length<n*B:=by
 intro n
 induction n with
 | zero=>intro l h;simp only [pMany] at h;cases h
 | succ n ih =>
   intro l h
   simp only [pMany] at h
   rw [Nat.succ_mul]
   split at h
   · rename_i e1 h1
     injection h with h
     subst h
     have:=hp _ h1
     omega
   rename_i x r1 h1
   split at h
   · rename_i e2 h2
     injection h with h
     subst h
     have:=ih _ h2
     have:=hq _ _ _ h1
     omega
   cases h
theorem pMany_stay (hs:∀ l e,p l=.error e->e≠10->∀ t,p (l++t)=.error e) (hq:∀ l x r,p l=.ok (x,r)->∀ t,p (l++t)=.ok (x,r++t)):∀ (n:Nat) (l:List UInt8) (e:Int),pMany p n l=.error e->e≠10->∀ t,pMany p n (l++t)=.error e:=by
 intro n
 induction n with
 | zero=>intro l e h;simp only [pMany] at h;cases h
 | succ n ih =>
   intro l e h he t
   simp only [pMany] at h ⊢
   split at h
   · rename_i e1 h1
     injection h with h
     subst h
     rw [hs _ _ h1 he]
   rename_i x r1 h1
   rw [hq _ _ _ h1]
   simp only
   split at h
   · rename_i e2 h2
     injection h with h
     subst h
     rw [ih _ _ h2 he]
   cases h
end many
theorem pNum_stay {k e:Int} {l:List UInt8} (h:pNum k l=.error e) (he:e≠10) (t:List UInt8):pNum k (l++t)=.error e:=by
 rw [pNum_wid] at h ⊢
 split at h
 · injection h with h;omega
 rename_i h1
 rw [if_neg (by rw [List.length_append];omega),List.take_append_of_le_length (by omega)]
 split at h
 · rename_i h2
   rw [if_pos h2,h]
 cases h
theorem pText_stay {e:Int} {l:List UInt8} (h:pText l=.error e) (he:e≠10) (t:List UInt8):pText (l++t)=.error e:=by
 unfold pText at h ⊢
 split at h
 · injection h with h;omega
 rename_i h1
 rw [if_neg (by rw [List.length_append];omega),List.take_append_of_le_length (by omega)]
 split at h
 · rename_i h2
   rw [if_pos h2,h]
 split at h
 · injection h with h;omega
 cases h
theorem pNum_on {k n:Int} {l r:List UInt8} (h:pNum k l=.ok (n,r)) (t:List UInt8):pNum k (l++t)=.ok (n,r++t):=by
 obtain ⟨h1,h2,h3⟩:=pNum_back h
 rw [<- h1,List.append_assoc,pNum_enc h2 h3]
theorem pText_on {s:ByteArray} {l r:List UInt8} (h:pText l=.ok (s,r)) (t:List UInt8):pText (l++t)=.ok (s,r++t):=by
 obtain ⟨h1,h2⟩:=pText_back h
 rw [<- h1,List.append_assoc,pText_enc h2]
theorem pNum_ten {k:Int} {l:List UInt8} (h:pNum k l=.error 10):l.length<8:=by
 rw [pNum_wid] at h
 split at h
 · have:=wid_le k;omega
 split at h
 · injection h with h
   exact absurd h (numErr_ten _ _)
 cases h
theorem pText_ten {l:List UInt8} (h:pText l=.error 10):l.length<1002:=by
 unfold pText at h
 split at h
 · omega
 split at h
 · injection h with h;omega
 split at h
 · rename_i h3
   rw [List.length_drop] at h3
   omega
 cases h
inductive Right:GVal->Prop
 | num (k n:Int) (h1:1<=k) (h3:k<=3) (he:numErr k n=0):Right ⟨k,n,⟨#[]⟩,[],[]⟩
 | text (s:ByteArray) (hs:s.size<=1000):Right ⟨4,0,s,[],[]⟩
 | nums (k:Int) (xs:List Int) (h1:1<=k) (h3:k<=3) (hl:xs.length<=40) (he:∀ x∈xs,numErr k x=0):Right ⟨k+4,0,⟨#[]⟩,xs,[]⟩
 | texts (xs:List ByteArray) (hl:xs.length<=40) (hs:∀ s∈xs,s.size<=1000):Right ⟨8,0,⟨#[]⟩,[],xs⟩
theorem numsErr_zero {k:Int}:∀ {l:List Int},numsErr k l=0↔∀ x∈l,numErr k x=0
 | []=>by simp [numsErr]
 | x::l=>by
   simp only [numsErr,List.mem_cons,forall_eq_or_imp]
   split
   · rename_i h
     exact ⟨fun hh=>absurd hh h,fun hh=>hh.1⟩
   rename_i h
   rw [numsErr_zero]
   exact ⟨fun hh=>⟨Decidable.not_not.1 h,hh⟩,fun hh=>hh.2⟩
theorem size_zero {s:ByteArray} (h:s.size=0):s=⟨#[]⟩:=by
 obtain ⟨a⟩:=s
 have:a=#[]:=Array.eq_empty_of_size_eq_zero h
 rw [this]
theorem chk_right {g:GVal} (h:chk g=0):Right g:=by
 obtain ⟨h1,h8,hf,hl1,hl2,hx,hts⟩:=chk_zero h
 obtain ⟨kind,num,text,nums,texts⟩:=g
 simp only at h1 h8 hl1 hl2 hx hts
 have hf':=hf
 unfold fieldBad at hf
 simp only [Bool.or_eq_false_iff,Bool.and_eq_false_iff,bne_eq_false_iff_eq,decide_eq_false_iff_not,beq_eq_false_iff_ne,Bool.or_eq_false_iff] at hf
 obtain ⟨⟨⟨f1,f2⟩,f3⟩,f4⟩:=hf
 have hbig:chk ⟨kind,num,text,nums,texts⟩=if kind<4 then numErr kind num else numsErr (kind-4) nums:=by
  unfold chk
  rw [if_neg (by simp only;omega),if_neg (by rw [hf'];simp),if_neg (by simp only;omega),if_neg]
  intro hh
  rcases hh with hh | hh
  · simp only at hh;omega
  obtain ⟨s,hs,hh⟩:=List.any_eq_true.1 hh
  have:=hts s hs
  simp at hh
  omega
 rw [hbig] at h
 have t0:kind≠4->text=⟨#[]⟩:=fun hk=>size_zero (by omega)
 have n0:kind<5\/kind=8->nums=[]:=fun hk=>List.eq_nil_of_length_eq_zero (by omega)
 have x0:kind≠8->texts=[]:=fun hk=>List.eq_nil_of_length_eq_zero (by omega)
 by_cases hk:kind<4
 · rw [if_pos hk] at h
   rw [t0 (by omega),n0 (by omega),x0 (by omega)]
   exact .num _ _ h1 (by omega) h
 rw [if_neg hk] at h
 obtain rfl:num=0:=by omega
 by_cases h4:kind=4
 · subst h4
   rw [n0 (by omega),x0 (by omega)]
   exact .text _ hx
 rw [t0 h4]
 by_cases hk8:kind=8
 · subst hk8
   rw [n0 (by omega)]
   exact .texts _ hl2 hts
 rw [x0 hk8]
 have:=Right.nums (kind-4) nums (by omega) (by omega) hl1 (numsErr_zero.1 h)
 rwa [show kind-4+4=kind by omega] at this
theorem empty_size:(⟨#[]⟩:ByteArray)=ByteArray.empty:=rfl
theorem right_chk {g:GVal} (h:Right g):chk g=0:=by
 cases h with
 | num k n h1 h3 he =>
   have h5:¬ (3:Int)<k:=by omega
   unfold chk
   rw [if_neg (by simp only;omega),if_neg (by simp [fieldBad,h5,empty_size]),if_neg (by simp),if_neg (by simp;decide),if_pos (by simp only;omega)]
   exact he
 | text s hs =>
   unfold chk
   rw [if_neg (by simp only;omega),if_neg (by simp [fieldBad]),if_neg (by simp),if_neg (by simp;omega),if_neg (by simp only;omega)]
   rfl
 | nums k xs h1 h3 hl he =>
   have h5:¬ k+4<5:=by omega
   have h8:¬ k+4=8:=by omega
   unfold chk
   rw [if_neg (by simp only;omega),if_neg (by simp [fieldBad,h5,h8,empty_size]),if_neg (by simp;omega),if_neg (by simp;decide),if_neg (by simp only;omega)]
   simp only [show k+4-4=k by omega]
   exact numsErr_zero.2 he
 | texts xs hl hs =>
   unfold chk
   rw [if_neg (by simp only;omega),if_neg (by simp [fieldBad,empty_size]),if_neg (by simp;omega),if_neg,if_neg (by simp only;omega)]
   · rfl
   intro hh
   rcases hh with hh | hh
   · simp at hh
     revert hh
     decide
   obtain ⟨s,hs',hh⟩:=List.any_eq_true.1 hh
   have:=hs s hs'
   simp at hh
   omega
theorem beb_one (n:Nat):beb 1 n=[UInt8.ofNat n]:=by simp [beb]
def encR (g:GVal):List UInt8:=UInt8.ofNat g.kind.toNat::encBody g
theorem enc_right {g:GVal} (h:chk g=0):enc g=encR g:=by
 unfold enc encR
 rw [if_pos h,beb_one]
 rfl
theorem body_num (k n:Int) (h:k<=3):encBody ⟨k,n,⟨#[]⟩,[],[]⟩=encNum k n:=if_pos (by simp only;omega)
theorem body_text (s:ByteArray):encBody ⟨4,0,s,[],[]⟩=encText s:=by
 unfold encBody
 simp only
 rw [if_neg (by omega),if_pos trivial]
theorem body_nums (k:Int) (xs:List Int) (h1:1<=k):encBody ⟨k+4,0,⟨#[]⟩,xs,[]⟩=UInt8.ofNat xs.length::xs.flatMap (encNum k):=by
 unfold encBody
 simp only [List.length_nil,Nat.add_zero,List.flatMap_nil,List.append_nil]
 rw [if_neg (by omega),if_neg (by omega),beb_one,show k+4-4=k by omega]
 rfl
theorem body_texts (xs:List ByteArray):encBody ⟨8,0,⟨#[]⟩,[],xs⟩=UInt8.ofNat xs.length::xs.flatMap encText:=by
 unfold encBody
 simp only [List.length_nil,Nat.zero_add,List.flatMap_nil,List.nil_append]
 rw [if_neg (by omega),if_neg (by omega),beb_one]
 rfl
theorem ofNat_kind {N:Nat} (h:N<=255):(UInt8.ofNat ((N:Int)).toNat).toNat=N:=by rw [UInt8.toNat_ofNat',Int.toNat_natCast];omega
theorem ofNat_kind4 {N:Nat} (h:N<=200):(UInt8.ofNat ((N:Int)+4).toNat).toNat=N+4:=by rw [UInt8.toNat_ofNat'];omega
theorem ofNat_len {n:Nat} (h:n<=255):(UInt8.ofNat n).toNat=n:=by rw [UInt8.toNat_ofNat'];omega
theorem pVal_num (N:Nat) (h1:1<=N) (h3:N<=3) (l:List UInt8):pVal (UInt8.ofNat ((N:Int)).toNat::l)=match pNum N l with
 | .error e=>.error e
 | .ok (n,r)=>.ok (⟨N,n,⟨#[]⟩,[],[]⟩,r):=by
 unfold pVal
 simp only
 rw [ofNat_kind (by omega),if_neg (by omega),if_neg (by omega),if_neg (by omega)]
 cases pNum N l <;> rfl
theorem pVal_text (l:List UInt8):pVal (UInt8.ofNat (4:Int).toNat::l)=match pText l with
 | .error e=>.error e
 | .ok (s,r)=>.ok (⟨4,0,s,[],[]⟩,r):=by
 unfold pVal
 simp only
 rw [show (UInt8.ofNat (4:Int).toNat).toNat=4 from rfl,if_neg (by omega),if_neg (by omega),if_pos (by omega)]
 cases pText l <;> rfl
theorem pVal_nums (N:Nat) (h1:1<=N) (h3:N<=3) (n:Nat) (hn:n<=40) (l:List UInt8):pVal (UInt8.ofNat ((N:Int)+4).toNat::UInt8.ofNat n::l)=match pMany (pNum N) n l with
 | .error e=>.error e
 | .ok (xs,r)=>.ok (⟨(N:Int)+4,0,⟨#[]⟩,xs,[]⟩,r):=by
 unfold pVal
 simp only
 rw [ofNat_kind4 (by omega),if_neg (by omega),if_pos (by omega)]
 unfold pList
 simp only
 rw [ofNat_len (by omega),if_neg (by omega),if_neg (by omega),show ((N+4:Nat):Int)-4=(N:Int) by omega,show ((N+4:Nat):Int)=(N:Int)+4 by omega]
 cases pMany (pNum N) n l <;> rfl
theorem pVal_texts (n:Nat) (hn:n<=40) (l:List UInt8):pVal (UInt8.ofNat (8:Int).toNat::UInt8.ofNat n::l)=match pMany pText n l with
 | .error e=>.error e
 | .ok (xs,r)=>.ok (⟨8,0,⟨#[]⟩,[],xs⟩,r):=by
 unfold pVal
 simp only
 rw [show (UInt8.ofNat (8:Int).toNat).toNat=8 from rfl,if_neg (by omega),if_pos (by omega)]
 unfold pList
 simp only
 rw [ofNat_len (by omega),if_neg (by omega),if_pos (by rfl)]
 cases pMany pText n l <;> rfl
theorem pVal_enc {g:GVal} (hg:Right g) (hf:g.Fits) (t:List UInt8):pVal (encR g++t)=.ok (g,t):=by
 have hk:=hf.num
 have hr:=hf.range
 unfold encR
 cases hg with
 | num k n h1 h3 he =>
   obtain ⟨N,rfl⟩:=Int.eq_ofNat_of_zero_le (show 0<=k by omega)
   rw [body_num _ _ h3,List.cons_append,pVal_num N (by omega) (by omega),pNum_enc he hk]
 | text s hs=>rw [body_text,List.cons_append,pVal_text,pText_enc hs]
 | nums k xs h1 h3 hl he =>
   obtain ⟨N,rfl⟩:=Int.eq_ofNat_of_zero_le (show 0<=k by omega)
   rw [body_nums _ _ h1,List.cons_append,List.cons_append,pVal_nums N (by omega) (by omega) _ hl,pMany_enc t xs fun x hx t=>pNum_enc (he x hx) (hr x hx) t]
 | texts xs hl hs=>rw [body_texts,List.cons_append,List.cons_append,pVal_texts _ hl,pMany_enc t xs fun x hx t=>pText_enc (hs x hx) t]
theorem pVal_back {g:GVal} {l r:List UInt8} (h:pVal l=.ok (g,r)):Right g/\g.Fits/\encR g++r=l:=by
 unfold pVal at h
 split at h
 · cases h
 rename_i c l0
 have hcc:=c.toNat_lt
 split at h
 · cases h
 rename_i h1
 have hco:UInt8.ofNat ((c.toNat:Int)).toNat=c:=by rw [Int.toNat_natCast];exact UInt8.ofNat_toNat
 split at h
 · rename_i h4
   unfold pList at h
   split at h
   · cases h
   rename_i d l1
   have hdo:UInt8.ofNat d.toNat=d:=UInt8.ofNat_toNat
   split at h
   · cases h
   rename_i h40
   split at h
   · rename_i h8
     split at h
     · cases h
     rename_i xs r1 h2
     injection h with h
     injection h with h3 h5
     obtain ⟨i1,i2,i3⟩:=pMany_back (fun _ _ _ hh=>pText_back hh) _ _ _ _ h2
     rw [h8] at h3 hco
     subst h3 h5
     refine ⟨.texts xs (by omega) i3,⟨⟨by simp,by simp⟩,⟨by simp,by simp⟩,by simp⟩,?_⟩
     unfold encR
     rw [body_texts,i2,hdo,List.cons_append,List.cons_append,i1]
     exact congrArg (·::_) hco
   rename_i h8
   split at h
   · cases h
   rename_i xs r1 h2
   injection h with h
   injection h with h3 h5
   obtain ⟨i1,i2,i3⟩:=pMany_back (e:=encNum (c.toNat-4)) (Q:=fun x=>numErr (c.toNat-4) x=0 /\ -9223372036854775808<=x/\x<=9223372036854775807) (fun _ _ _ hh=>pNum_back hh) _ _ _ _ h2
   subst h3 h5
   refine ⟨?_,⟨by simp only;omega,by simp,fun x hx=>(i3 x hx).2⟩,?_⟩
   · have:=Right.nums ((c.toNat:Int)-4) xs (by omega) (by omega) (by omega) fun x hx=>(i3 x hx).1
     rwa [show (c.toNat:Int)-4+4=c.toNat by omega] at this
   have:=body_nums ((c.toNat:Int)-4) xs (by omega)
   rw [show (c.toNat:Int)-4+4=c.toNat by omega] at this
   unfold encR
   rw [this,i2,hdo,List.cons_append,List.cons_append,i1,hco]
 rename_i h4
 split at h
 · rename_i h44
   split at h
   · cases h
   rename_i s r1 h2
   injection h with h
   injection h with h3 h5
   obtain ⟨i1,i2⟩:=pText_back h2
   subst h3 h5
   refine ⟨.text s i2,⟨⟨by simp,by simp⟩,⟨by simp,by simp⟩,by simp⟩,?_⟩
   unfold encR
   rw [body_text,List.cons_append,i1]
   rw [h44] at hco
   exact congrArg (·::_) hco
 rename_i h44
 split at h
 · cases h
 rename_i n r1 h2
 injection h with h
 injection h with h3 h5
 obtain ⟨i1,i2,i3⟩:=pNum_back h2
 subst h3 h5
 refine ⟨.num _ n (by omega) (by omega) i2,⟨by simp only;omega,i3,by simp⟩,?_⟩
 unfold encR
 rw [body_num _ _ (by omega),List.cons_append,i1,hco]
theorem pVal_stay {e:Int} {l:List UInt8} (h:pVal l=.error e) (he:e≠10) (t:List UInt8):pVal (l++t)=.error e:=by
 unfold pVal at h ⊢
 split at h
 · injection h with h;omega
 rename_i c l0
 simp only [List.cons_append]
 split at h
 · rename_i h1
   rw [if_pos h1,h]
 rename_i h1
 rw [if_neg h1]
 split at h
 · rename_i h4
   rw [if_pos h4]
   unfold pList at h ⊢
   split at h
   · injection h with h;omega
   rename_i d l1
   simp only [List.cons_append]
   split at h
   · rename_i h40
     rw [if_pos h40,h]
   rename_i h40
   rw [if_neg h40]
   split at h
   · rename_i h8
     rw [if_pos h8]
     split at h
     · rename_i e1 h2
       injection h with h
       subst h
       rw [pMany_stay (fun _ _ hh hn=>pText_stay hh hn) (fun _ _ _ hh=>pText_on hh) _ _ _ h2 he]
     cases h
   rename_i h8
   rw [if_neg h8]
   split at h
   · rename_i e1 h2
     injection h with h
     subst h
     rw [pMany_stay (fun _ _ hh hn=>pNum_stay hh hn) (fun _ _ _ hh=>pNum_on hh) _ _ _ h2 he]
   cases h
 rename_i h4
 rw [if_neg h4]
 split at h
 · rename_i h44
   rw [if_pos h44]
   split at h
   · rename_i e1 h2
     injection h with h
     subst h
     rw [pText_stay h2 he]
   cases h
 rename_i h44
 rw [if_neg h44]
 split at h
 · rename_i e1 h2
   injection h with h
   subst h
   rw [pNum_stay h2 he]
 cases h
theorem pNum_step {k n:Int} {l r:List UInt8} (h:pNum k l=.ok (n,r)):l.length<=r.length+8:=by
 obtain ⟨h1,_⟩:=pNum_back h
 rw [<- h1,List.length_append]
 have:=encNum_len k n
 omega
theorem pText_step {s:ByteArray} {l r:List UInt8} (h:pText l=.ok (s,r)):l.length<=r.length+1002:=by
 obtain ⟨h1,h2⟩:=pText_back h
 rw [<- h1,List.length_append,encText_len]
 omega
theorem pVal_ten {l:List UInt8} (h:pVal l=.error 10):l.length<40082:=by
 unfold pVal at h
 split at h
 · simp
 rename_i c l0
 rw [List.length_cons]
 split at h
 · injection h with h;omega
 split at h
 · unfold pList at h
   split at h
   · simp
   rename_i d l1
   rw [List.length_cons]
   split at h
   · injection h with h;omega
   rename_i h40
   split at h
   · split at h
     · rename_i e1 h2
       injection h with h
       subst h
       have h3:=pMany_short10 (B:=1002) (fun _ hh=>pText_ten hh) (fun _ _ _ hh=>pText_step hh) _ _ h2
       have h5:d.toNat*1002<=40*1002:=Nat.mul_le_mul_right _ (by omega)
       omega
     cases h
   split at h
   · rename_i e1 h2
     injection h with h
     subst h
     have h3:=pMany_short10 (B:=8) (fun _ hh=>pNum_ten hh) (fun _ _ _ hh=>pNum_step hh) _ _ h2
     have h5:d.toNat*8<=40*8:=Nat.mul_le_mul_right _ (by omega)
     omega
   cases h
 split at h
 · split at h
   · rename_i e1 h2
     injection h with h
     subst h
     have:=pText_ten h2
     omega
   cases h
 split at h
 · rename_i e1 h2
   injection h with h
   subst h
   have:=pNum_ten h2
   omega
 cases h
theorem decP_take (l:List UInt8) {m:Nat} (hm:40082<=m):decP (l.take m)=decP l:=by
 by_cases hlen:l.length<=m
 · rw [List.take_of_length_le hlen]
 have hl:(l.take m).length=m:=by rw [List.length_take];omega
 cases h:pVal (l.take m) with
 | error e =>
   have he:e≠10:=by
    rintro rfl
    have:=pVal_ten h
    omega
   have h2:=pVal_stay h he (l.drop m)
   rw [List.take_append_drop] at h2
   rw [decP_err h,decP_err h2]
 | ok x =>
   obtain ⟨g,r⟩:=x
   obtain ⟨h1,h2,h3⟩:=pVal_back h
   have h4:pVal l=.ok (g,r++l.drop m):=by
    have:=pVal_enc h1 h2 (r++l.drop m)
    rwa [<- List.append_assoc,h3,List.take_append_drop] at this
   rw [decP_ok h,decP_ok h4,hl,List.length_append,List.length_drop]
   congr 2
   omega
theorem decP_enc {g:GVal} (h:chk g=0) (hf:g.Fits) (t:List UInt8):decP (enc g++t)=(g,(enc g).length,0):=by
 rw [enc_right h]
 rw [decP_ok (pVal_enc (chk_right h) hf t),List.length_append]
 congr 2
 omega
theorem decD_enc {g:GVal} (h:chk g=0) (hf:g.Fits):decD (enc g).length (decP (enc g))=(g,0):=by
 have:=decP_enc h hf []
 rw [List.append_nil] at this
 rw [this]
 unfold decD
 rw [if_neg (by simp)]
theorem pNum_zero {k:Int} {l:List UInt8}:¬ pNum k l=.error 0:=by
 intro h
 rw [pNum_wid] at h
 split at h
 · cases h
 split at h
 · rename_i h2
   injection h with h
   exact h2 h
 cases h
theorem pText_zero {l:List UInt8}:¬ pText l=.error 0:=by
 intro h
 unfold pText at h
 split at h
 · cases h
 split at h
 · cases h
 split at h
 · cases h
 cases h
theorem pMany_zero {α:Type} {p:List UInt8->Except Int (α×List UInt8)} (hp:∀ l,¬ p l=.error 0):∀ (n:Nat) (l:List UInt8),¬ pMany p n l=.error 0:=by
 intro n
 induction n with
 | zero=>intro l h;simp only [pMany] at h;cases h
 | succ n ih =>
   intro l h
   simp only [pMany] at h
   split at h
   · rename_i e1 h1
     injection h with h
     subst h
     exact hp _ h1
   split at h
   · rename_i e2 h2
     injection h with h
     subst h
     exact ih _ h2
   cases h
theorem pVal_zero {l:List UInt8}:¬ pVal l=.error 0:=by
 intro hv
 unfold pVal at hv
 split at hv
 · cases hv
 split at hv
 · cases hv
 split at hv
 · unfold pList at hv
   split at hv
   · cases hv
   split at hv
   · cases hv
   split at hv
   · split at hv
     · rename_i e1 h3
       injection hv with hv
       subst hv
       exact pMany_zero (fun _ hh=>pText_zero hh) _ _ h3
     cases hv
   split at hv
   · rename_i e1 h3
     injection hv with hv
     subst hv
     exact pMany_zero (fun _ hh=>pNum_zero hh) _ _ h3
   cases hv
 split at hv
 · split at hv
   · rename_i e1 h3
     injection hv with hv
     subst hv
     exact pText_zero h3
   cases hv
 split at hv
 · rename_i e1 h3
   injection hv with hv
   subst hv
   exact pNum_zero h3
 cases hv
theorem decD_back {g:GVal} {l:List UInt8} (h:decD l.length (decP l)=(g,0)):chk g=0/\g.Fits/\enc g=l:=by
 cases hv:pVal l with
 | error e =>
   rw [decP_err hv] at h
   have he:e=0:=by
    unfold decD at h
    split at h
    · injection h with _ h
      cases h
    injection h with _ h
   subst he
   exact absurd hv pVal_zero
 | ok x =>
   obtain ⟨g',r⟩:=x
   obtain ⟨h1,h2,h3⟩:=pVal_back hv
   rw [decP_ok hv] at h
   unfold decD at h
   split at h
   · injection h with _ h
     cases h
   rename_i h4
   injection h with h5 _
   subst h5
   have hr:r=[]:=by
    have h5:=pVal_short hv
    have h6:=congrArg List.length h3
    rw [List.length_append] at h6
    have h7:(encR g').length>=1:=by unfold encR;simp
    cases r with
    | nil=>rfl
    | cons x r=>exact absurd ⟨rfl,by show l.length-(x::r).length<l.length;rw [List.length_cons] at h6 h5 ⊢;omega⟩ h4
   subst hr
   rw [List.append_nil] at h3
   exact ⟨right_chk h1,h2,by rw [enc_right (right_chk h1),h3]⟩
end Go.Proofs.YtkopcinhbjimiaaGreatDoor
namespace Go.Proofs.YtkopcinhbjimiaaGreatDoor
open Go.RowKit
section
variable {w0 wx:World} {g1 g2:Nat} {t1 t2:TypeId} {a0 a1 a2 a3 a4 b0 b1 b2 b3 b4:Value}
end
theorem on_same {w0:World} {E:Ending->Prop} {n:Nat} {args:Array Value} (h:∀ wx,Same w0 wx->Calls Tryz.prog n args wx fun x w'=>E x/\Same wx w') :
 ∀ wx,Same w0 wx->Calls Tryz.prog n args wx fun x w'=>E x/\Same w0 w':=fun wx hs=>(h wx hs).mono fun _ _ ⟨h1,h2⟩=>⟨h1,hs.same h2⟩
end Go.Proofs.YtkopcinhbjimiaaGreatDoor
namespace Go.Proofs.YtkopcinhbjimiaaGreatDoor
open Go.RowKit
def eqAll {α β:Type} (f:α->β->Bool):List α->List β->Bool
 | [],[]=>true
 | x::l,y::m=>f x y && eqAll f l m
 | _,_=>false
def eqS (s t:ByteArray):Bool:=s.toList==t.toList
def samePr (p q:GPr):Bool:=eqS p.key q.key && sameB p.val q.val
def sameNo (p q:GNode):Bool:=decide (p.id=q.id) && eqAll eqS p.labels q.labels && eqAll samePr p.props q.props
def sameRe (p q:GRel):Bool:=decide (p.id=q.id) && eqS p.type q.type && decide (p.src=q.src) && decide (p.dst=q.dst) && eqAll samePr p.props q.props
theorem eqAll_len {α β:Type} {f:α->β->Bool}:∀ {l:List α} {m:List β},l.length≠m.length->eqAll f l m=false
 | [],[],h=>absurd rfl h
 | [],_::_,_=>rfl
 | _::_,[],_=>rfl
 | x::l,y::m,h=>by simp only [eqAll];rw [eqAll_len (f:=f) (l:=l) (m:=m) (by intro e;exact h (by simp [e]))];simp
theorem eqAll_drop {α β:Type} {f:α->β->Bool} {l:List α} {m:List β} {i:Nat} {x:α} {y:β} (hx:l[i]?=some x) (hy:m[i]?=some y):eqAll f (l.drop i) (m.drop i)=(f x y && eqAll f (l.drop (i+1)) (m.drop (i+1))):=by
 obtain ⟨hi,rfl⟩:=List.getElem?_eq_some_iff.1 hx
 obtain ⟨hj,rfl⟩:=List.getElem?_eq_some_iff.1 hy
 rw [List.drop_eq_getElem_cons hi,List.drop_eq_getElem_cons hj]
 rfl
theorem eqAll_iff {α:Type} {f:α->α->Bool} (hf:∀ x y,f x y=true↔x=y):∀ (l m:List α),eqAll f l m=true↔l=m
 | [],[]=>by simp [eqAll]
 | [],_::_=>by simp [eqAll]
 | _::_,[]=>by simp [eqAll]
 | x::l,y::m=>by simp [eqAll,hf,eqAll_iff hf l m]
theorem eqS_iff (s t:ByteArray):eqS s t=true↔s=t:=by
 unfold eqS
 rw [beq_iff_eq]
 exact str_eq_iff s t
theorem samePr_iff (p q:GPr):samePr p q=true↔p=q:=by
 obtain ⟨k,g⟩:=p
 obtain ⟨k',g'⟩:=q
 simp [samePr,eqS_iff,sameB_iff]
theorem sameNo_iff (p q:GNode):sameNo p q=true↔p=q:=by
 obtain ⟨a,b,c⟩:=p
 obtain ⟨a',b',c'⟩:=q
 simp [sameNo,eqAll_iff eqS_iff,eqAll_iff samePr_iff,and_assoc]
theorem sameRe_iff (p q:GRel):sameRe p q=true↔p=q:=by
 obtain ⟨a,b,c,d,e⟩:=p
 obtain ⟨a',b',c',d',e'⟩:=q
 simp [sameRe,eqS_iff,eqAll_iff samePr_iff,and_assoc]
abbrev PR.agg (x:PR):Value:=.agg #[.string x.key,.int .i64 x.g.kind,.int .i64 x.g.num,.string x.g.text,.slice x.A1 x.n1 x.c1,.slice x.A2 x.n2 x.c2]
abbrev ND.agg (x:ND):Value:=.agg #[.int .i64 x.id,.slice x.AL x.nL x.cL,.slice x.AP x.nP x.cP]
abbrev RL.agg (x:RL):Value:=.agg #[.int .i64 x.id,.string x.type,.int .i64 x.src,.int .i64 x.dst,.slice x.AP x.nP x.cP]
structure GGraph where
 nodes:List GNode
 rels:List GRel
structure GR where
 ns:List ND
 AN:Option Addr
 nN:Nat
 cN:Nat
 rs:List RL
 AR:Option Addr
 nR:Nat
 cR:Nat
abbrev GR.agg (g:GR):Value:=.agg #[.slice g.AN g.nN g.cN,.slice g.AR g.nR g.cR]
def GR.dat (g:GR):GGraph:=⟨g.ns.map ND.dat,g.rs.map RL.dat⟩
structure RdG (w:World) (F:Nat->Prop) (g:GR):Prop where
 nodes:RdNs w F g.AN g.nN g.cN g.ns
 rels:RdRs w F g.AR g.nR g.cR g.rs
theorem RdG.upd {w w':World} {F S:Nat->Prop} {g:GR} (h:RdG w F g) (hu:Upd S w w') (hs:∀ b,F b->¬ S b):RdG w' F g:=⟨h.nodes.upd hu hs,h.rels.upd hu hs⟩
theorem RdG.same {w w':World} {F:Nat->Prop} {g:GR} (h:RdG w F g) (hu:Same w w'):RdG w' F g:=h.upd hu fun _ _ f=>f
theorem RdG.mono {w:World} {F F':Nat->Prop} {g:GR} (h:RdG w F g) (hf:∀ b,b<w.heap.size->F b->F' b):RdG w F' g:=⟨h.nodes.mono hf,h.rels.mono hf⟩
def sameG (a b:GGraph):Bool:=eqAll sameNo a.nodes b.nodes && eqAll sameRe a.rels b.rels
theorem sameG_iff (a b:GGraph):sameG a b=true↔a=b:=by
 obtain ⟨n,r⟩:=a
 obtain ⟨n',r'⟩:=b
 simp [sameG,eqAll_iff sameNo_iff,eqAll_iff sameRe_iff]
end Go.Proofs.YtkopcinhbjimiaaGreatDoor
