/- Texts that the claim leans on: walks and plain laws, function by function. -/
import Derived.Shelf.Small.Strs
import Derived.Test.YtkopcinhbjimiaaGreatDoorS12
set_option maxRecDepth 100000
set_option maxHeartbeats 16000000
namespace Go.Proofs.YtkopcinhbjimiaaGreatDoor
open Go.RowKit
section
variable {α κ:Type} {lt:κ->κ->Prop} {key:α->κ}
def Nlt (lt:κ->κ->Prop) (a b:κ):Prop:=¬ lt a b
inductive Ck (lt:κ->κ->Prop) (key:α->κ) (bs:Nat):List α->Prop
 | last (c:List α):c.length<=bs->Zaj lt key c->Ck lt key bs c
 | cons (c l:List α):c.length=bs->Zaj lt key c->Ck lt key bs l->Ck lt key bs (c++l)
inductive Cf (lt:κ->κ->Prop) (key:α->κ) (bs:Nat):List α->Prop
 | nil:Cf lt key bs []
 | snoc (l c:List α):Cf lt key bs l->c.length=bs->Zaj lt key c->Cf lt key bs (l++c)
theorem Cf.ck {bs:Nat} {d:List α} (h:Cf lt key bs d):∀ {r:List α},Ck lt key bs r->Ck lt key bs (d++r):=by
 induction h with
 | nil=>intro r hr;exact hr
 | snoc l c _ hc hs ih =>
   intro r hr
   rw [List.append_assoc]
   exact ih (.cons c r hc hs hr)
theorem Ck.two {bs:Nat} {r:List α} (h:Ck lt key bs r) (hb:0<bs) (hr:2*bs<=r.length):∃ c1 c2 r',r=c1++(c2++r')/\c1.length=bs/\c2.length=bs/\Zaj lt key c1/\Zaj lt key c2/\Ck lt key bs r':=by
 cases h with
 | last _ hl _=>omega
 | cons c l hc hs hl =>
   rw [List.length_append] at hr
   cases hl with
   | last _ hl2 hs2=>exact ⟨c,l,[],by simp,hc,by omega,hs,hs2,.last _ (by simp) Zaj.nil⟩
   | cons c2 l2 hc2 hs2 hl2=>exact ⟨c,c2,l2,rfl,hc,hc2,hs,hs2,hl2⟩
theorem Ck.half {bs:Nat} {r:List α} (h:Ck lt key bs r) (h1:bs<r.length) (h2:r.length<2*bs):∃ c1 c2,r=c1++c2/\c1.length=bs/\Zaj lt key c1/\Zaj lt key c2:=by
 cases h with
 | last _ hl _=>omega
 | cons c l hc hs hl =>
   rw [List.length_append] at h1 h2
   cases hl with
   | last _ hl2 hs2=>exact ⟨c,l,rfl,hc,hs,hs2⟩
   | cons c2 l2 hc2 hs2 hl2=>rw [List.length_append] at h1 h2;omega
theorem Ck.one {bs:Nat} {r:List α} (h:Ck lt key bs r) (h1:r.length<=bs):Zaj lt key r:=by
 cases h with
 | last _ _ hs=>exact hs
 | cons c l hc hs hl =>
   rw [List.length_append] at h1
   have:l=[]:=List.eq_nil_of_length_eq_zero (by omega)
   subst this
   rw [List.append_nil]
   exact hs
theorem ZoT {l r:List α} {i j:Nat} (L:Lin lt) (hl:Zaj lt key l) (hr:Zaj lt key r) (hi:i<=l.length) (hj:j<=r.length) (c1:∀ y z,0<i->l[i-1]?=some y->r[j]?=some z->¬ lt (key z) (key y)) (c2:∀ y z,0<j->l[i]?=some y->r[j-1]?=some z->lt (key z) (key y)) :
 (∀ x∈l.take i,∀ y∈r.drop j,¬ lt (key y) (key x))/\∀ x∈l.drop i,∀ y∈r.take j,lt (key y) (key x):=by
 have sl:=List.pairwise_iff_getElem.1 hl
 have sr:=List.pairwise_iff_getElem.1 hr
 have rl:∀ (a b:Nat) (ha:a<l.length) (hb:b<l.length),a<=b->¬ lt (key l[b]) (key l[a]):=fun a b ha hb h=>by
  by_cases e:a=b
  · subst e;exact L.irr _
  exact sl a b ha hb (by omega)
 have rr:∀ (a b:Nat) (ha:a<r.length) (hb:b<r.length),a<=b->¬ lt (key r[b]) (key r[a]):=fun a b ha hb h=>by
  by_cases e:a=b
  · subst e;exact L.irr _
  exact sr a b ha hb (by omega)
 constructor
 · intro x hx y hy
   obtain ⟨a,ha,rfl⟩:=List.getElem_of_mem hx
   obtain ⟨b,hb,rfl⟩:=List.getElem_of_mem hy
   rw [List.length_take] at ha
   rw [List.length_drop] at hb
   rw [List.getElem_take,List.getElem_drop]
   have h1:=c1 (l[i-1]'(by omega)) (r[j]'(by omega)) (by omega) (List.getElem?_eq_getElem (by omega)) (List.getElem?_eq_getElem (by omega))
   exact L.le_tr (L.le_tr (rl a (i-1) (by omega) (by omega) (by omega)) h1) (rr j (j+b) (by omega) (by omega) (by omega))
 intro x hx y hy
 obtain ⟨a,ha,rfl⟩:=List.getElem_of_mem hx
 obtain ⟨b,hb,rfl⟩:=List.getElem_of_mem hy
 rw [List.length_drop] at ha
 rw [List.length_take] at hb
 rw [List.getElem_take,List.getElem_drop]
 have h1:=c2 (l[i]'(by omega)) (r[j-1]'(by omega)) (by omega) (List.getElem?_eq_getElem (by omega)) (List.getElem?_eq_getElem (by omega))
 exact L.lt_le (L.le_lt (rr b (j-1) (by omega) (by omega) (by omega)) h1) (rl i (i+a) (by omega) (by omega) (by omega))
theorem ZcF {α:Type} (P Q:List α) (x:α) {j:Nat} (h:P.length=j):(P++x::Q)[j]?=some x:=by
 rw [List.getElem?_append_right (by omega),h,Nat.sub_self]
 rfl
theorem Zpj {α:Type} (P Q:List α) (x y:α) {j:Nat} (h:P.length=j):(P++x::Q).set j y=P++y::Q:=by
 rw [List.set_append_right _ _ (by omega),h,Nat.sub_self]
 rfl
theorem Zem {α:Type} (P M Q:List α) (x y:α) {i j:Nat} (hi:P.length=i) (hj:i+1+M.length=j):((P++x::(M++y::Q)).set i y).set j x=P++y::(M++x::Q):=by
 rw [Zpj P _ x y hi]
 have e:P++y::(M++y::Q)=(P++y::M)++y::Q:=by simp
 rw [e,Zpj (P++y::M) Q y x (by simp;omega)]
 simp
theorem ZdS {α:Type} (P M Q:List α) (x y:α) {i j:Nat} (hi:P.length=i) (hj:i+1+M.length=j):((P++x::(M++y::Q)).set j x).set i y=P++y::(M++x::Q):=by
 rw [List.set_comm _ _ (by omega)]
 exact Zem P M Q x y hi hj
theorem Zdp {α:Type} (P M Q:List α) (x y:α) {i j:Nat} (hi:P.length=i) (hj:i+1+M.length=j):(P++x::(M++y::Q))[j]?=some y:=by
 have e:P++x::(M++y::Q)=(P++x::M)++y::Q:=by simp
 rw [e]
 exact ZcF _ _ _ (by simp;omega)
theorem ZnC {S1 P1 P2:List α} {x:α} (L:Lin lt) [DecidableEq κ] (hs:Zaj lt key (P1++P2)) (hm:Zah key (P1++P2) S1) (h1:∀ y∈P1,¬ lt (key x) (key y)) (h2:∀ y∈P2,lt (key x) (key y)) :
 Zaj lt key (P1++x::P2)/\Zah key (P1++x::P2) (S1++[x]) :=
 ⟨hs.ins h1 fun y hy=>L.asym (h2 y hy),(Zah.back L P1 P2 x h2).trans (hm.app (Zah.refl _))⟩
end
section
variable {α:Type} {f:α->List Value} {k:Nat}
theorem ZnD (hf:∀ x,(f x).length=k):∀ (l:List α) (i:Nat) (x:α) (_:i<l.length),((l.set i x).flatMap f)=(l.flatMap f).take (i*k)++(f x++(l.flatMap f).drop (i*k+k)):=by
 intro l
 induction l with
 | nil=>intro i x h;simp at h
 | cons y l ih =>
   intro i x h
   cases i with
   | zero =>
     simp only [List.set_cons_zero,List.flatMap_cons,Nat.zero_mul,List.take_zero,List.nil_append,Nat.zero_add]
     rw [List.drop_left' (hf y)]
   | succ i =>
     rw [List.set_cons_succ,List.flatMap_cons,List.flatMap_cons,ih i x (by simpa using h)]
     have e1:(f y++l.flatMap f).take ((i+1)*k)=f y++(l.flatMap f).take (i*k):=by
      rw [List.take_append,hf,Nat.succ_mul,List.take_of_length_le (by rw [hf];omega)]
      congr 2
      omega
     have e2:(f y++l.flatMap f).drop ((i+1)*k+k)=(l.flatMap f).drop (i*k+k):=by
      rw [List.drop_append,hf,Nat.succ_mul,List.drop_of_length_le (by rw [hf];omega),List.nil_append]
      congr 1
      omega
     rw [e1,e2,List.append_assoc]
theorem Zca {w:World} {B n c:Nat} {T:TypeId} {A:Option Addr} {l:List α} (h:w.ownsRow B T k (.slice A n c) n (l.flatMap f)) (hf:∀ x,(f x).length=k) (hk:0<k):l.length=n:=by
 have h1:=h.1
 rw [ZbX hf] at h1
 exact Nat.eq_of_mul_eq_mul_right hk h1
theorem ZnE {w:World} {B n c g:Nat} {e:TypeId} {k:Nat} {xs:List Value} (h:w.ownsRow B e k (.slice (some ⟨g,0,none⟩) n c) n xs) :
 ∃ cur,B<=g/\Blk w g e cur/\n<=c/\c<=maxLen/\cur.size=c*k/\cur.toList.take (n*k)=xs:=by
 rcases h.2 with ⟨hv,_⟩ | ⟨g',cap,cur,hv,hb,hg,hle,hm,hs,ht⟩
 · cases hv
 injection hv with h1 h2 h3
 injection h1 with h1
 injection h1 with h1 _ _
 subst h1 h3
 exact ⟨cur,hb,hg,hle,hm,hs,ht⟩
theorem Zik {w:World} {B n c g i:Nat} {T:TypeId} {l:List α} {x:α} (h:w.ownsRow B T k (.slice (some ⟨g,0,none⟩) n c) n (l.flatMap f)) (hf:∀ x,(f x).length=k) (hk:0<k) (hx:l[i]?=some x) :
 i<n/\g<w.heap.size/\(∀ j u,(f x)[j]?=some u->w.cell? ⟨g,i*k+j,none⟩=some u)/\∀ j,w.frozen? ⟨g,j,none⟩=false:=by
 have hl:=Zca h hf hk
 obtain ⟨hil,hxe⟩:=List.getElem?_eq_some_iff.1 hx
 obtain ⟨cur,_,hb,_,_,_,ht⟩:=ZnE h
 refine ⟨by omega,hb.lt,fun j u hu=>?_,hb.frozen⟩
 have hj:j<k:=by
  have:=(List.getElem?_eq_some_iff.1 hu).1
  rw [hf] at this
  exact this
 have h5:=Zgm hf l i j hil hj
 rw [hxe,hu,<-ht,List.getElem?_take] at h5
 split at h5
 · rw [hb.cell,<-Array.getElem?_toList]
   exact h5
 cases h5
def putL (w:World) (g p:Nat):List Value->World
 | []=>w
 | u::us=>putL (w.setCell ⟨g,p,none⟩ u) g (p+1) us
theorem ZlC:∀ (us:List Value) {w:World} {g p:Nat} {T:TypeId} {cur:Array Value},Blk w g T cur->p+us.length<=cur.size->∃ cur',Blk (putL w g p us) g T cur'/\cur'.toList=cur.toList.take p++(us++cur.toList.drop (p+us.length))
 | [],w,g,p,T,cur,h,_=>⟨cur,h,by simp⟩
 | u::us,w,g,p,T,cur,h,hp=>by
   rw [List.length_cons] at hp
   obtain ⟨cur',h1,h2⟩:=ZlC us (h.put p u) (p:=p+1) (by rw [Array.size_setIfInBounds];omega)
   refine ⟨cur',h1,?_⟩
   rw [h2,Array.toList_setIfInBounds]
   have hpl:p<cur.toList.length:=by rw [Array.length_toList];omega
   have e1:(cur.toList.set p u).take (p+1)=cur.toList.take p++[u]:=by
    rw [List.set_eq_take_append_cons_drop,if_pos hpl,List.take_append,List.length_take,Nat.min_eq_left (Nat.le_of_lt hpl),List.take_of_length_le (by rw [List.length_take];omega),Nat.add_sub_cancel_left]
    rfl
   have e2:(cur.toList.set p u).drop (p+1+us.length)=cur.toList.drop (p+(us.length+1)):=by
    rw [List.drop_set_of_lt (by omega)]
    congr 1
    omega
   rw [e1,e2,List.append_assoc,List.length_cons]
   rfl
theorem Zil:∀ (us:List Value) (w:World) (g p:Nat),Upd (fun b=>b=g) w (putL w g p us)
 | [],_,_,_=>Upd.refl _ _
 | u::us,w,g,p=>((Upd.refl (fun b=>b=g) w).put1 (i:=p) u).trans (Zil us _ g (p+1)) fun _ _ h=>h
theorem ZnF {w:World} {B n c g i:Nat} {T:TypeId} {l:List α} (h:w.ownsRow B T k (.slice (some ⟨g,0,none⟩) n c) n (l.flatMap f)) (hf:∀ x,(f x).length=k) (hk:0<k) (hi:i<n) (x:α) :
 (putL w g (i*k) (f x)).ownsRow B T k (.slice (some ⟨g,0,none⟩) n c) n ((l.set i x).flatMap f):=by
 have hl:=Zca h hf hk
 obtain ⟨cur,hB,hb,hle,hm,hs,ht⟩:=ZnE h
 have hin:i*k+k<=n*k:=by
  have:=Nat.mul_le_mul_right k (show i+1<=n from hi)
  rw [Nat.succ_mul] at this
  exact this
 have hnc:n*k<=c*k:=Nat.mul_le_mul_right k hle
 obtain ⟨cur',h1,h2⟩:=ZlC (f x) hb (p:=i*k) (by rw [hf];omega)
 have hcl:cur.toList.length=c*k:=by rw [Array.length_toList];exact hs
 have hsz:cur'.size=c*k:=by
  rw [<- Array.length_toList,h2,List.length_append,List.length_append,List.length_take,List.length_drop,hf,hcl]
  omega
 have hfl:((l.set i x).flatMap f).length=n*k:=by rw [ZbX hf,List.length_set,hl]
 refine ⟨hfl,.inr ⟨g,c,cur',rfl,hB,h1,hle,hm,hsz,?_⟩⟩
 rw [ZnD hf l i x (by omega),h2,<-ht,hf]
 have e1:(cur.toList.take (n*k)).take (i*k)=cur.toList.take (i*k):=by rw [List.take_take,Nat.min_eq_left (by omega)]
 have e2:(cur.toList.take (n*k)).drop (i*k+k)=(cur.toList.drop (i*k+k)).take (n*k-(i*k+k)):=by rw [List.drop_take]
 rw [e1,e2]
 have l1:(cur.toList.take (i*k)).length=i*k:=by rw [List.length_take,hcl];omega
 have l2:=hf x
 generalize cur.toList.take (i*k)=X at *
 generalize f x=Y at *
 generalize cur.toList.drop (i*k+k)=Z at *
 generalize i*k=ik at *
 generalize n*k=nk at *
 rw [List.take_append,l1,List.take_of_length_le (by omega),List.take_append,l2,List.take_of_length_le (by omega)]
 congr 3
 omega
theorem Zim {w:World} {B n c g i j:Nat} {T:TypeId} {l l':List α} (h:w.ownsRow B T k (.slice (some ⟨g,0,none⟩) n c) n (l.flatMap f)) (hf:∀ x,(f x).length=k) (hk:0<k) (hi:i<n) (hj:j<n) (x y:α) (he:(l.set i x).set j y=l') :
 (putL (putL w g (i*k) (f x)) g (j*k) (f y)).drew.ownsRow B T k (.slice (some ⟨g,0,none⟩) n c) n (l'.flatMap f)/\Upd (fun b=>b=g) w (putL (putL w g (i*k) (f x)) g (j*k) (f y)).drew:=by
 subst he
 exact ⟨ZnF (ZnF h hf hk hi x) hf hk hj y,((Zil _ w g _).trans (Zil _ _ g _) fun _ _ h=>h).drew⟩
end
theorem ZeJ {α:Type} {a b:List α} (h:a.length=0\/b.length=0):a=[]\/b=[]:=h.imp List.eq_nil_of_length_eq_zero List.eq_nil_of_length_eq_zero
theorem ZcB {P:Prop} (h:P):Hid (true=true↔P):=qH ⟨fun _=>h,fun _=>rfl⟩
theorem Zbv {P:Prop} (h:¬ P):Hid (false=true↔P):=qH ⟨fun k=>absurd k (by decide),fun k=>absurd k h⟩
theorem Zin {α:Type} {a b r:List α} (h:a=[]\/b=[]):a++(b++r)=b++(a++r):=by
 rcases h with rfl | rfl <;> simp
theorem ZdT {α κ:Type} {lt:κ->κ->Prop} {key:α->κ} {a b:List α} (h1:Zaj lt key a) (h2:Zaj lt key b) (h:a=[]\/b=[]):Zaj lt key (a++b):=by
 rcases h with rfl | rfl
 · simpa using h2
 simpa using h1
section
variable {α β κ:Type} {lt:κ->κ->Prop} [DecidableRel lt] {key:α->κ}
def insB (lt:κ->κ->Prop) [DecidableRel lt] (key:α->κ) (x:α):List α->List α
 | []=>[x]
 | y::l=>if lt (key y) (key x) then y::insB lt key x l else x::y::l
def Zdt (lt:κ->κ->Prop) [DecidableRel lt] (key:α->κ):List α->List α
 | []=>[]
 | x::l=>insB lt key x (Zdt lt key l)
theorem Zfg (L:Lin lt) (x:α):∀ l:List α,Zaj lt key l->∃ P1 P2,l=P1++P2/\insB lt key x l=P1++x::P2/\(∀ y∈P1,lt (key y) (key x))/\∀ y∈P2,¬ lt (key y) (key x)
 | [],_=>⟨[],[],rfl,rfl,by simp,by simp⟩
 | y::l,h=>by
   obtain ⟨h1,h2⟩:=List.pairwise_cons.1 h
   unfold insB
   by_cases hy:lt (key y) (key x)
   · obtain ⟨P1,P2,e1,e2,e3,e4⟩:=Zfg L x l h2
     rw [if_pos hy,e2]
     refine ⟨y::P1,P2,by rw [e1];rfl,rfl,fun z hz=>?_,e4⟩
     rcases List.mem_cons.1 hz with rfl | hz
     · exact hy
     exact e3 z hz
   rw [if_neg hy]
   refine ⟨[],y::l,rfl,rfl,by simp,fun z hz=>?_⟩
   rcases List.mem_cons.1 hz with rfl | hz
   · exact hy
   exact fun hz'=>hy (L.le_lt (h1 z hz) hz')
theorem Zfh (L:Lin lt):∀ l:List α,Zaj lt key (Zdt lt key l)
 | []=>Zaj.nil
 | x::l=>by
   have ih:=Zfh L l
   obtain ⟨P1,P2,e1,e2,e3,e4⟩:=Zfg L x _ ih
   unfold Zdt
   rw [e2]
   rw [e1] at ih
   exact ih.ins (fun y hy=>L.asym (e3 y hy)) e4
theorem ZhM [DecidableEq κ] (L:Lin lt):∀ l:List α,Zah key (Zdt lt key l) l
 | []=>Zah.refl _
 | x::l=>by
   have ih:=ZhM L l
   obtain ⟨P1,P2,e1,e2,e3,e4⟩:=Zfg (key:=key) L x _ (Zfh L l)
   unfold Zdt
   rw [e2]
   rw [e1] at ih
   exact (Zah.forth L P1 P2 x e3).trans ((Zah.refl [x]).app ih)
theorem ZeK [DecidableEq κ] (L:Lin lt) {s l:List α} (h1:Zaj lt key s) (h2:Zah key s l):s=Zdt lt key l :=
 Zaj.unique L h1 (Zfh L l) (h2.trans (ZhM L l).symm)
theorem ZeL [DecidableEq κ] (L:Lin lt) {l:List α} (h:Zaj lt key l):Zdt lt key l=l:=(ZeK L h (Zah.refl _)).symm
end
section
variable {α β κ:Type} {lt:κ->κ->Prop} {key:α->κ}
theorem Zaj.map {key':β->κ} {f:α->β} (hk:∀ x,key' (f x)=key x) {l:List α} (h:Zaj lt key l):Zaj lt key' (l.map f):=by
 unfold Zaj at h ⊢
 rw [List.pairwise_map]
 exact h.imp fun {a b} h=>by rw [hk,hk];exact h
theorem Zah.map [DecidableEq κ] {key':β->κ} {f:α->β} (hk:∀ x,key' (f x)=key x) {l m:List α} (h:Zah key l m):Zah key' (l.map f) (m.map f):=fun k=>by
 have e:∀ l:List α,(l.map f).filter (fun x=>decide (key' x=k))=(l.filter fun x=>decide (key x=k)).map f:=fun l=>by
  rw [List.filter_map]
  congr 1
  exact List.filter_congr fun x _=>by simp only [Function.comp,hk]
 rw [e,e,h k]
theorem Zah.of_perm [DecidableEq α] {l m:List α} (h:l.Perm m):Zah (fun x:α=>x) l m:=fun k=>by
 have e:∀ l:List α,(l.filter fun x=>decide (x=k))=List.replicate (l.filter fun x=>decide (x=k)).length k:=fun l=>by
  rw [List.eq_replicate_iff]
  exact ⟨rfl,fun b hb=>by simpa using (List.mem_filter.1 hb).2⟩
 rw [e l,e m,(h.filter _).length_eq]
end
theorem Zfi {α κ:Type} {key:α->κ} {i1 i2:DecidableEq κ} {l m:List α} (h:@Zah α κ i1 key l m):@Zah α κ i2 key l m:=by
 have e:i1=i2:=Subsingleton.elim _ _
 subst e
 exact h
instance ltS_dec:DecidableRel ltS:=fun a b=>inferInstanceAs (Decidable (a.data.toList<b.data.toList))
instance ltI_dec:DecidableRel (fun a b:Int=>a<b):=fun a b=>inferInstanceAs (Decidable (a<b))
abbrev ZgM (l:List ByteArray):List ByteArray:=Zdt ltS (fun x=>x) l
def canN (x:ZaO):ZaO:=⟨x.id,ZgM x.labels,Zdt ltS GPr.key x.props⟩
def canR (x:GRel):GRel:=⟨x.id,x.type,x.src,x.dst,Zdt ltS GPr.key x.props⟩
def ZdD (g:Zak):Zak:=⟨Zdt (fun a b:Int=>a<b) ZaO.id (g.nodes.map canN),Zdt (fun a b:Int=>a<b) GRel.id (g.rels.map canR)⟩
theorem Zkv (ss:List (List UInt8)):((ss.mergeSort fun x y=>decide (x<=y)).map fun l=>(⟨l.toArray⟩:ByteArray))=ZgM (ss.map fun l=>(⟨l.toArray⟩:ByteArray)):=by
 refine ZeK Zay ?_ ((Zah.of_perm ((List.mergeSort_perm ss _).map _)))
 unfold Zaj
 rw [List.pairwise_map]
 have h1:=List.pairwise_mergeSort (le:=fun x y:List UInt8=>decide (x<=y)) (fun a b c h1 h2=>by simp only [decide_eq_true_eq] at *;exact List.le_trans h1 h2) (fun a b=>by simp only [Bool.or_eq_true,decide_eq_true_eq];exact List.le_total a b) ss
 refine h1.imp fun {a b} h=>?_
 simp only [decide_eq_true_eq] at h
 exact List.not_lt.2 h
theorem ZoU (l:List ByteArray):∀ u∈l.map Value.string,u.oneCell'=true:=by
 intro u hu
 obtain ⟨_,_,rfl⟩:=List.mem_map.1 hu
 rfl
theorem ZpD (l:List Int):∀ u∈l.map (Value.int .i64),u.oneCell'=true:=by
 intro u hu
 obtain ⟨_,_,rfl⟩:=List.mem_map.1 hu
 rfl
theorem Zkw {F:Nat->Prop} {A:Option Addr} {n c:Nat} {l:List ND} (w:World) (h:WRow w F 3 A n c (l.flatMap ND.cells)) (hn:n*56<=140737488355328) :
 Calls Tryz.prog 63 #[.slice A n c] w fun e w'=>∃ A' c',e=.returned (.slice A' n c')/\Hid (w'.ownsRow w.heap.size 43 3 (.slice A' n c') n (l.flatMap ND.cells))/\Same w w':=by
 have heq:=fun (w:World) (a:Option Addr) (n c:Nat)=>Lib.run_eql_slice_nil (P:=Tryz.prog) w 23 43 a n c 0 0 Tryz.underlying23
 have hmx:=h.max
 have hle:=h.le
 cases A with
 | none =>
   have hc:=h.nil rfl
   obtain rfl:c=0:=hc
   obtain rfl:n=0:=by omega
   have hl:l.flatMap ND.cells=[]:=List.length_eq_zero_iff.1 (by rw [h.len])
   rw [hl]
   go_enter Tryz.func63,Tryz.ntmps63
   go_wp2
   go_ret
   exact ⟨none,0,rfl,qH (World.ownsRow_nil _ _ _ _),Upd.refl _ _⟩
 | some a =>
   have hw0:n<=maxLen:=by unfold maxLen;omega
   go_enter Tryz.func63,Tryz.ntmps63
   go_wp2_with (at_builtin;go_must (refine Zag rfl (.tmp 5) (.tmp 6) _ _ rfl w.heap.size _ _ _ _ Tryz.underlying23 Zgv rfl _ 0 [] rfl (World.ownsRow_made w #[] 0 (Nat.le_refl _) (Nat.zero_le _) rfl) rfl (Zcz Tryz.underlying23 (WRow.same h ((Upd.refl _ w).alloc _)) (Zqg l)) (by omega) (by omega) (by simp) ?_);intro v' w' happ)
   go_ret
   have ho:=happ.own
   rw [Nat.zero_add,List.nil_append] at ho
   obtain ⟨A',c',rfl⟩:=Zac ho
   refine ⟨A',c',rfl,qH ho,?_⟩
   exact ((Upd.refl _ w).alloc _).trans happ.upd fun b hb hv=>by
    have:=Option.some.inj hv
    simp only at this
    omega
theorem Zmt {F:Nat->Prop} {A:Option Addr} {n c:Nat} {l:List RL} (w:World) (h:WRow w F 5 A n c (l.flatMap RL.cells)) (hn:n*64<=140737488355328) :
 Calls Tryz.prog 64 #[.slice A n c] w fun e w'=>∃ A' c',e=.returned (.slice A' n c')/\Hid (w'.ownsRow w.heap.size 50 5 (.slice A' n c') n (l.flatMap RL.cells))/\Same w w':=by
 have heq:=fun (w:World) (a:Option Addr) (n c:Nat)=>Lib.run_eql_slice_nil (P:=Tryz.prog) w 24 50 a n c 0 0 Tryz.underlying24
 have hmx:=h.max
 have hle:=h.le
 cases A with
 | none =>
   have hc:=h.nil rfl
   obtain rfl:c=0:=hc
   obtain rfl:n=0:=by omega
   have hl:l.flatMap RL.cells=[]:=List.length_eq_zero_iff.1 (by rw [h.len])
   rw [hl]
   go_enter Tryz.func64,Tryz.ntmps64
   go_wp2
   go_ret
   exact ⟨none,0,rfl,qH (World.ownsRow_nil _ _ _ _),Upd.refl _ _⟩
 | some a =>
   have hw0:n<=maxLen:=by unfold maxLen;omega
   go_enter Tryz.func64,Tryz.ntmps64
   go_wp2_with (at_builtin;go_must (refine Zag rfl (.tmp 5) (.tmp 6) _ _ rfl w.heap.size _ _ _ _ Tryz.underlying24 Zgb rfl _ 0 [] rfl (World.ownsRow_made w #[] 0 (Nat.le_refl _) (Nat.zero_le _) rfl) rfl (Zcz Tryz.underlying24 (WRow.same h ((Upd.refl _ w).alloc _)) (Zqh l)) (by omega) (by omega) (by simp) ?_);intro v' w' happ)
   go_ret
   have ho:=happ.own
   rw [Nat.zero_add,List.nil_append] at ho
   obtain ⟨A',c',rfl⟩:=Zac ho
   refine ⟨A',c',rfl,qH ho,?_⟩
   exact ((Upd.refl _ w).alloc _).trans happ.upd fun b hb hv=>by
    have:=Option.some.inj hv
    simp only at this
    omega
theorem Zkx {F:Nat->Prop} {A:Option Addr} {n c:Nat} {l:List PR} (w:World) (h:WRow w F 6 A n c (l.flatMap PR.cells)) (hn:n*96<=140737488355328) :
 Calls Tryz.prog 107 #[.slice A n c] w fun e w'=>∃ A' c',e=.returned (.slice A' n c')/\Hid (w'.ownsRow w.heap.size 48 6 (.slice A' n c') n (l.flatMap PR.cells))/\Same w w':=by
 have heq:=fun (w:World) (a:Option Addr) (n c:Nat)=>Lib.run_eql_slice_nil (P:=Tryz.prog) w 41 48 a n c 0 0 Tryz.underlying41
 have hmx:=h.max
 have hle:=h.le
 cases A with
 | none =>
   have hc:=h.nil rfl
   obtain rfl:c=0:=hc
   obtain rfl:n=0:=by omega
   have hl:l.flatMap PR.cells=[]:=List.length_eq_zero_iff.1 (by rw [h.len])
   rw [hl]
   go_enter Tryz.func107,Tryz.ntmps107
   go_wp2
   go_ret
   exact ⟨none,0,rfl,qH (World.ownsRow_nil _ _ _ _),Upd.refl _ _⟩
 | some a =>
   have hw0:n<=maxLen:=by unfold maxLen;omega
   go_enter Tryz.func107,Tryz.ntmps107
   go_wp2_with (at_builtin;go_must (refine Zag rfl (.tmp 5) (.tmp 6) _ _ rfl w.heap.size _ _ _ _ Tryz.underlying41 Zgw rfl _ 0 [] rfl (World.ownsRow_made w #[] 0 (Nat.le_refl _) (Nat.zero_le _) rfl) rfl (Zcz Tryz.underlying41 (WRow.same h ((Upd.refl _ w).alloc _)) (Zqi l)) (by omega) (by omega) (by simp) ?_);intro v' w' happ)
   go_ret
   have ho:=happ.own
   rw [Nat.zero_add,List.nil_append] at ho
   obtain ⟨A',c',rfl⟩:=Zac ho
   refine ⟨A',c',rfl,qH ho,?_⟩
   exact ((Upd.refl _ w).alloc _).trans happ.upd fun b hb hv=>by
    have:=Option.some.inj hv
    simp only at this
    omega
theorem Zmu {F:Nat->Prop} {A:Option Addr} {n c:Nat} {l:List Int} (w:World) (h:WRow w F 1 A n c (l.map (Value.int .i64))) (hn:n*8<=140737488355328) :
 Calls Tryz.prog 108 #[.slice A n c] w fun e w'=>∃ A' c',e=.returned (.slice A' n c')/\Hid (w'.ownsRow w.heap.size 2 1 (.slice A' n c') n (l.map (Value.int .i64)))/\Same w w':=by
 have heq:=fun (w:World) (a:Option Addr) (n c:Nat)=>Lib.run_eql_slice_nil (P:=Tryz.prog) w 44 2 a n c 0 0 Tryz.underlying44
 have hmx:=h.max
 have hle:=h.le
 cases A with
 | none =>
   have hc:=h.nil rfl
   obtain rfl:c=0:=hc
   obtain rfl:n=0:=by omega
   have hl:l.map (Value.int .i64)=[]:=List.length_eq_zero_iff.1 (by rw [h.len])
   rw [hl]
   go_enter Tryz.func108,Tryz.ntmps108
   go_wp2
   go_ret
   exact ⟨none,0,rfl,qH (World.ownsRow_nil _ _ _ _),Upd.refl _ _⟩
 | some a =>
   have hw0:n<=maxLen:=by unfold maxLen;omega
   go_enter Tryz.func108,Tryz.ntmps108
   go_wp2_with (at_builtin;go_must (refine Zag rfl (.tmp 5) (.tmp 6) _ _ rfl w.heap.size _ _ _ _ Tryz.underlying44 ZhY rfl _ 0 [] rfl (World.ownsRow_made w #[] 0 (Nat.le_refl _) (Nat.zero_le _) rfl) rfl (Zcz Tryz.underlying44 (WRow.same h ((Upd.refl _ w).alloc _)) (ZpD l)) (by omega) (by omega) (by simp) ?_);intro v' w' happ)
   go_ret
   have ho:=happ.own
   rw [Nat.zero_add,List.nil_append] at ho
   obtain ⟨A',c',rfl⟩:=Zac ho
   refine ⟨A',c',rfl,qH ho,?_⟩
   exact ((Upd.refl _ w).alloc _).trans happ.upd fun b hb hv=>by
    have:=Option.some.inj hv
    simp only at this
    omega
theorem ZhN {F:Nat->Prop} {A:Option Addr} {n c:Nat} {l:List ByteArray} (w:World) (h:WRow w F 1 A n c (l.map Value.string)) (hn:n*16<=140737488355328) :
 Calls Tryz.prog 65 #[.slice A n c] w fun e w'=>∃ A' c',e=.returned (.slice A' n c')/\Hid (w'.ownsRow w.heap.size 9 1 (.slice A' n c') n (l.map Value.string))/\Same w w':=by
 have heq:=fun (w:World) (a:Option Addr) (n c:Nat)=>Lib.run_eql_slice_nil (P:=Tryz.prog) w 40 9 a n c 0 0 Tryz.underlying40
 have hmx:=h.max
 have hle:=h.le
 cases A with
 | none =>
   have hc:=h.nil rfl
   obtain rfl:c=0:=hc
   obtain rfl:n=0:=by omega
   have hl:l.map Value.string=[]:=List.length_eq_zero_iff.1 (by rw [h.len])
   rw [hl]
   go_enter Tryz.func65,Tryz.ntmps65
   go_wp2
   go_ret
   exact ⟨none,0,rfl,qH (World.ownsRow_nil _ _ _ _),Upd.refl _ _⟩
 | some a =>
   have hw0:n<=maxLen:=by unfold maxLen;omega
   go_enter Tryz.func65,Tryz.ntmps65
   go_wp2_with (at_builtin;go_must (refine Zag rfl (.tmp 5) (.tmp 6) _ _ rfl w.heap.size _ _ _ _ Tryz.underlying40 ZaA rfl _ 0 [] rfl (World.ownsRow_made w #[] 0 (Nat.le_refl _) (Nat.zero_le _) rfl) rfl (Zcz Tryz.underlying40 (WRow.same h ((Upd.refl _ w).alloc _)) (ZoU l)) (by omega) (by omega) (by simp) ?_);intro v' w' happ)
   go_ret
   have ho:=happ.own
   rw [Nat.zero_add,List.nil_append] at ho
   obtain ⟨A',c',rfl⟩:=Zac ho
   refine ⟨A',c',rfl,qH ho,?_⟩
   exact ((Upd.refl _ w).alloc _).trans happ.upd fun b hb hv=>by
    have:=Option.some.inj hv
    simp only at this
    omega
theorem ZnG (l:List ByteArray):l.map Value.string=(l.map fun x=>x.data.toList).map encStr:=by
 rw [List.map_map]
 exact List.map_congr_left fun x _=>by cases x;rfl
theorem Zmv (l:List ByteArray):((l.map fun x=>x.data.toList).map fun y=>(⟨y.toArray⟩:ByteArray))=l:=by
 rw [List.map_map]
 conv=>rhs;rw [<- List.map_id l]
 exact List.map_congr_left fun x _=>by cases x;rfl
theorem Zjq {B n c:Nat} {A:Option Addr} {l:List ByteArray} (w:World) (h:w.ownsRow B 9 1 (.slice A n c) n (l.map Value.string)) (hn:n*16<=140737488355328) :
 Calls Tryz.prog 66 #[.slice A n c] w fun e w'=>e=.returned (.tuple #[])/\w'.ownsRow B 9 1 (.slice A n c) n ((ZgM l).map Value.string)/\Upd (fun b=>(Value.slice A n c).ownBlock=some b) w w':=by
 have hll:l.length=n:=by have:=h.1;simpa using this
 rcases h.2 with ⟨hv,h0⟩ | ⟨g,cap,cur,hv,hb,hg,hle,hm,hs,ht⟩
 · subst h0
   have hl:l=[]:=List.eq_nil_of_length_eq_zero hll
   subst hl
   refine (Znj A c w).mono ?_
   rintro e w' ⟨rfl,rfl⟩
   exact ⟨rfl,h,Upd.refl _ _⟩
 injection hv with h1 h2 h3
 subst h1 h3
 obtain ⟨ss,hss⟩:∃ ss,ss=l.map fun x=>x.data.toList:=⟨_,rfl⟩
 have hsl:ss.length=n:=by rw [hss,List.length_map,hll]
 have hbl:Blk w g 9 cur:=hg
 have hcs:cur.size=c:=by simpa using hs
 have hcell:∀ j,j<n->cur[j]?=some (encStr (ss[j]?.getD [])):=fun j hj=>by
  rw [<- Array.getElem?_toList]
  have h5:(cur.toList.take (n*1))[j]?=(l.map Value.string)[j]?:=by rw [ht]
  rw [List.getElem?_take,if_pos (by omega),ZnG,<-hss,List.getElem?_map,List.getElem?_eq_getElem (l:=ss) (i:=j) (by omega)] at h5
  rw [h5,List.getElem?_eq_getElem (l:=ss) (i:=j) (by omega)]
  rfl
 have hH:Go.Sort.Holds encStr w g 0 ss.toArray:=fun j hj=>by
  have hj':j<n:=by simpa [hsl] using hj
  refine ⟨?_,hbl.frozen _⟩
  rw [Nat.zero_add,hbl.cell,hcell j hj']
  simp [hj',hsl]
 have hc:=AnyM.slices_Sort_string sortL g 0 c ss w hH hbl.lt (by omega)
 rw [hsl] at hc
 refine Calls.mono hc ?_
 rintro e w' ⟨rfl,k,os,rfl⟩
 obtain ⟨d,hd⟩:∃ d,d=ss.mergeSort fun x y=>decide (x<=y):=⟨_,rfl⟩
 rw [<- hd]
 have hdl:d.length=n:=by rw [hd,List.length_mergeSort,hsl]
 have hmap:d.map encStr=(ZgM l).map Value.string:=by
  have h1:=Zkv ss
  rw [<- hd,hss,Zmv] at h1
  rw [<- h1,List.map_map]
  rfl
 have hblk:∀ i,i<w.heap.size->(Go.Sort.grow (Go.Sort.putRow encStr (Go.Sort.ahead w k) g 0 d.toArray) os).heap[i]?=(Go.Sort.putRow encStr (Go.Sort.ahead w k) g 0 d.toArray).heap[i]?:=fun i hi=>by
  unfold Go.Sort.grow
  rw [Array.getElem?_append_left]
  simpa [Go.Sort.putRow,Go.Sort.mapBlock,Go.Sort.ahead] using hi
 refine ⟨rfl,⟨by rw [List.length_map,<-List.length_map (f:=Value.string),<-hmap,List.length_map,hdl];omega,.inr ⟨g,c,Go.Sort.putCells encStr 0 d.toArray cur,rfl,hb,?_,hle,hm,by simpa [Go.Sort.putCells] using hs,?_⟩⟩,?_⟩
 · rw [hblk g hbl.lt]
   simp [Go.Sort.putRow,Go.Sort.mapBlock,Go.Sort.ahead,Go.Sort.onCells,Array.getElem?_modify,hg]
 · rw [<- hmap,Nat.mul_one]
   apply List.ext_getElem?
   intro i
   by_cases hi:i<n
   · rw [List.getElem?_take,if_pos hi,Array.getElem?_toList,Go.Sort.putCells,Array.getElem?_mapIdx,List.getElem?_map,hcell i hi,Option.map_some,if_pos ⟨Nat.zero_le _,by simp [hdl,hi]⟩,List.getElem?_eq_getElem (by omega)]
     simp [hdl,hi]
   rw [List.getElem?_eq_none (by rw [List.length_take];omega),List.getElem?_eq_none (by rw [List.length_map];omega)]
 refine ⟨rfl,rfl,rfl,?_,fun i hi hne=>?_⟩
 · simp [Go.Sort.grow,Go.Sort.putRow,Go.Sort.mapBlock,Go.Sort.ahead]
 rw [hblk i hi]
 have hgi:g≠i:=fun e=>hne (by rw [e];rfl)
 simp [Go.Sort.putRow,Go.Sort.mapBlock,Go.Sort.ahead,Array.getElem?_modify,hgi]
def cmpI (a b:Int):Int:=if a<b then -1 else if b<a then 1 else 0
theorem Zbh (a b:Int):cmpI a b<0↔a<b:=by
 unfold cmpI
 by_cases h:a<b
 · rw [if_pos h];simp [h]
 rw [if_neg h]
 constructor
 · intro h';split at h' <;> omega
 intro h';omega
theorem Zfj (a:Int) (w:World):Calls Tryz.prog 113 #[.int .i64 a] w fun e w'=>e=.returned (.bool false)/\w=w':=by
 go_enter Tryz.func113,Tryz.ntmps113
 go_wp2
 go_ret
 exact ⟨Zbl (by simp),rfl⟩
theorem ZfF (a b:Int) (w:World):Calls Tryz.prog 70 #[.int .i64 a,.int .i64 b] w fun e w'=>e=.returned (.int .i64 (cmpI a b))/\w=w':=by
 by_cases h1:a<b
 · have HC:=qH (show cmpI a b = -1 from if_pos h1)
   go_enter Tryz.func70,Tryz.ntmps70
   go_wp2_with (go_at_call 113;refine (Zfj _ _).mono ?_;rintro e w' ⟨rfl,rfl⟩)
   go_ret
   exact ⟨by rw [HC.out];rfl,rfl⟩
 by_cases h2:b<a
 · have HC:=qH (show cmpI a b=1 from by unfold cmpI;rw [if_neg h1,if_pos h2])
   go_enter Tryz.func70,Tryz.ntmps70
   go_wp2_with (go_at_call 113;refine (Zfj _ _).mono ?_;rintro e w' ⟨rfl,rfl⟩)
   go_ret
   exact ⟨by rw [HC.out];rfl,rfl⟩
 have HC:=qH (show cmpI a b=0 from by unfold cmpI;rw [if_neg h1,if_neg h2])
 go_enter Tryz.func70,Tryz.ntmps70
 go_wp2_with (go_at_call 113;refine (Zfj _ _).mono ?_;rintro e w' ⟨rfl,rfl⟩)
 go_ret
 exact ⟨by rw [HC.out];rfl,rfl⟩
def cmpS (a b:ByteArray):Int:=Lib.compareBytes a.data.toList b.data.toList
theorem ZlD:∀ a b:List UInt8,Lib.compareBytes a b<0↔a<b
 | [],[]=>by simp [Lib.compareBytes]
 | [],_::_=>by simp [Lib.compareBytes]
 | _::_,[]=>by simp [Lib.compareBytes]
 | a::l,b::m=>by
   unfold Lib.compareBytes
   rw [List.cons_lt_cons_iff]
   by_cases h1:a<b
   · simp [h1]
   rw [if_neg h1]
   by_cases h2:b<a
   · have h3:a≠b:=by rintro rfl;exact h1 h2
     simp [h1,h2,h3]
   have h3:a=b:=UInt8.le_antisymm (UInt8.not_lt.1 h2) (UInt8.not_lt.1 h1)
   rw [if_neg h2,ZlD l m]
   simp [h3]
theorem ZcJ (a b:ByteArray):cmpS a b<0↔ltS a b:=ZlD _ _
theorem Zhk (a b:ByteArray) (w:World):Calls Tryz.prog 150 #[.string a,.string b] w fun e w'=>e=.returned (.int .i64 (cmpS a b))/\w=w':=by
 go_enter Tryz.func150,Tryz.ntmps150
 go_wp2
 rw [run_callFunc_extern Tryz.func181 (by kernel_rfl) (by kernel_rfl) (by kernel_rfl) (e:=Extern.BytealgCompare.compare) (by kernel_rfl),Lib.run_compareString]
 simp only [Result.andThen]
 rw [Oper.upon_value]
 go_wp2
 go_ret
 exact ⟨rfl,rfl⟩
theorem ZgN (a b:ByteArray) (w:World):Calls Tryz.prog 111 #[.string a,.string b] w fun e w'=>e=.returned (.int .i64 (cmpS a b))/\w=w':=by
 go_enter Tryz.func111,Tryz.ntmps111
 go_wp2_with fail
 refine (Zhk _ _ _).mono ?_
 rintro e w' ⟨rfl,rfl⟩
 go_wp2
 go_ret
 exact ⟨rfl,rfl⟩
theorem ZbU {c:Int} (k l:ByteArray) (a1 a2 a3 a4 a5 b1 b2 b3 b4 b5:Value) (w0 w:World) (hc:cmpS k l=c) (hs:Same w0 w) :
 Calls Tryz.prog 110 #[.agg #[.string k,a1,a2,a3,a4,a5],.agg #[.string l,b1,b2,b3,b4,b5]] w fun e w'=>e=.returned (.int .i64 c)/\Same w0 w':=by
 subst hc
 go_enter Tryz.func110,Tryz.ntmps110
 go_wp2_with fail
 refine (ZgN _ _ _).mono ?_
 rintro e w' ⟨rfl,rfl⟩
 go_wp2
 go_ret
 exact ⟨rfl,hs.same (((Upd.refl _ w).alloc _).alloc _)⟩
theorem ZbV {c:Int} (k l:Int) (a1 a2 b1 b2:Value) (w0 w:World) (hc:cmpI k l=c) (hs:Same w0 w) :
 Calls Tryz.prog 69 #[.agg #[.int .i64 k,a1,a2],.agg #[.int .i64 l,b1,b2]] w fun e w'=>e=.returned (.int .i64 c)/\Same w0 w':=by
 subst hc
 go_enter Tryz.func69,Tryz.ntmps69
 go_wp2_with fail
 refine (ZfF _ _ _).mono ?_
 rintro e w' ⟨rfl,rfl⟩
 go_wp2
 go_ret
 exact ⟨rfl,hs.same (((Upd.refl _ w).alloc _).alloc _)⟩
theorem Zcq {c:Int} (k l:Int) (a1 a2 a3 a4 b1 b2 b3 b4:Value) (w0 w:World) (hc:cmpI k l=c) (hs:Same w0 w) :
 Calls Tryz.prog 72 #[.agg #[.int .i64 k,a1,a2,a3,a4],.agg #[.int .i64 l,b1,b2,b3,b4]] w fun e w'=>e=.returned (.int .i64 c)/\Same w0 w':=by
 subst hc
 go_enter Tryz.func72,Tryz.ntmps72
 go_wp2_with fail
 refine (ZfF _ _ _).mono ?_
 rintro e w' ⟨rfl,rfl⟩
 go_wp2
 go_ret
 exact ⟨rfl,hs.same (((Upd.refl _ w).alloc _).alloc _)⟩
end Go.Proofs.YtkopcinhbjimiaaGreatDoor
