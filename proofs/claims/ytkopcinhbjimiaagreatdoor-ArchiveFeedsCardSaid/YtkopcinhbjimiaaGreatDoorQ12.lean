/- Texts that the claim leans on: walks and plain laws, function by function. -/
import Derived.Sort.Walk0
import Derived.Deep.LoopGhost
import Derived.Deep.QuietTactic
import Derived.Deep.DeepCutAuto
import Derived.Test.YtkopcinhbjimiaaGreatDoorProg
import Derived.Lib.Hide
import Derived.WalkLawsBesides
import Derived.Test.YtkopcinhbjimiaaGreatDoorQ01
set_option maxRecDepth 100000
set_option maxHeartbeats 16000000
namespace Go.Proofs.YtkopcinhbjimiaaGreatDoor
structure Lin {κ:Type} (lt:κ->κ->Prop):Prop where
 irr:∀ a,¬ lt a a
 tr:∀ {a b c},lt a b->lt b c->lt a c
 tot:∀ a b,lt a b\/a=b\/lt b a
section
variable {α κ:Type} {lt:κ->κ->Prop} {key:α->κ}
theorem Lin.asym (L:Lin lt) {a b:κ} (h:lt a b):¬ lt b a:=fun h'=>L.irr _ (L.tr h h')
theorem Lin.le_tr (L:Lin lt) {a b c:κ} (h:¬ lt b a) (h':¬ lt c b):¬ lt c a:=fun hc=>by
 rcases L.tot a b with hab | rfl | hba
 · exact h' (L.tr hc hab)
 · exact h' hc
 exact h hba
theorem Lin.lt_le (L:Lin lt) {a b c:κ} (h:lt a b) (h':¬ lt c b):lt a c:=by
 rcases L.tot b c with hbc | rfl | hcb
 · exact L.tr h hbc
 · exact h
 exact absurd hcb h'
theorem Lin.le_lt (L:Lin lt) {a b c:κ} (h:¬ lt b a) (h':lt b c):lt a c:=by
 rcases L.tot a b with hab | rfl | hba
 · exact L.tr hab h'
 · exact h'
 exact absurd hba h
def Zaj (lt:κ->κ->Prop) (key:α->κ) (l:List α):Prop:=l.Pairwise fun a b=>¬ lt (key b) (key a)
theorem Zaj.of_app {u v:List α} (h:Zaj lt key (u++v)):Zaj lt key u/\Zaj lt key v/\∀ x∈u,∀ y∈v,¬ lt (key y) (key x):=List.pairwise_append.1 h
theorem Zaj.app {u v:List α} (h1:Zaj lt key u) (h2:Zaj lt key v) (h3:∀ x∈u,∀ y∈v,¬ lt (key y) (key x)):Zaj lt key (u++v):=List.pairwise_append.2 ⟨h1,h2,h3⟩
theorem Zaj.nil:Zaj lt key ([]:List α):=List.Pairwise.nil
theorem Zaj.one (x:α):Zaj lt key [x]:=List.pairwise_singleton _ _
theorem Zaj.ins {P1 P2:List α} {x:α} (hs:Zaj lt key (P1++P2)) (h1:∀ y∈P1,¬ lt (key x) (key y)) (h2:∀ y∈P2,¬ lt (key y) (key x)):Zaj lt key (P1++x::P2):=by
 obtain ⟨a,b,c⟩:=hs.of_app
 refine a.app (List.pairwise_cons.2 ⟨h2,b⟩) fun y hy z hz=>?_
 rcases List.mem_cons.1 hz with rfl | hz
 · exact h1 y hy
 exact c y hy z hz
theorem Zaj.last_le {P:List α} {y:α} (L:Lin lt) (hs:Zaj lt key (P++[y])):∀ z∈P++[y],¬ lt (key y) (key z):=by
 intro z hz
 rcases List.mem_append.1 hz with hz | hz
 · exact hs.of_app.2.2 z hz y (by simp)
 obtain rfl:z=y:=by simpa using hz
 exact L.irr _
theorem Zaj.cut_lt {v:List α} {i:Nat} {x:κ} (L:Lin lt) (hs:Zaj lt key v) (hi:i<=v.length) (h1:∀ y,0<i->v[i-1]?=some y->lt (key y) x) (h2:∀ y,v[i]?=some y->¬ lt (key y) x) :
 (∀ y∈v.take i,lt (key y) x)/\∀ y∈v.drop i,¬ lt (key y) x:=by
 constructor
 · intro y hy
   obtain ⟨j,hj,rfl⟩:=List.getElem_of_mem hy
   have hj':j<i/\j<v.length:=by rw [List.length_take] at hj;omega
   rw [List.getElem_take]
   have h3:=h1 (v[i-1]'(by omega)) (by omega) (List.getElem?_eq_getElem (by omega))
   by_cases he:j=i-1
   · subst he;exact h3
   exact L.le_lt (List.pairwise_iff_getElem.1 hs j (i-1) (by omega) (by omega) (by omega)) h3
 intro y hy
 obtain ⟨j,hj,rfl⟩:=List.getElem_of_mem hy
 have hj':i+j<v.length:=by rw [List.length_drop] at hj;omega
 rw [List.getElem_drop]
 have h3:=h2 (v[i]'(by omega)) (List.getElem?_eq_getElem (by omega))
 by_cases he:j=0
 · subst he;exact h3
 exact L.le_tr h3 (List.pairwise_iff_getElem.1 hs i (i+j) (by omega) (by omega) (by omega))
theorem Zaj.cut_le {v:List α} {i:Nat} {x:κ} (L:Lin lt) (hs:Zaj lt key v) (hi:i<=v.length) (h1:∀ y,0<i->v[i-1]?=some y->¬ lt x (key y)) (h2:∀ y,v[i]?=some y->lt x (key y)) :
 (∀ y∈v.take i,¬ lt x (key y))/\∀ y∈v.drop i,lt x (key y):=by
 constructor
 · intro y hy
   obtain ⟨j,hj,rfl⟩:=List.getElem_of_mem hy
   have hj':j<i/\j<v.length:=by rw [List.length_take] at hj;omega
   rw [List.getElem_take]
   have h3:=h1 (v[i-1]'(by omega)) (by omega) (List.getElem?_eq_getElem (by omega))
   by_cases he:j=i-1
   · subst he;exact h3
   exact L.le_tr (List.pairwise_iff_getElem.1 hs j (i-1) (by omega) (by omega) (by omega)) h3
 intro y hy
 obtain ⟨j,hj,rfl⟩:=List.getElem_of_mem hy
 have hj':i+j<v.length:=by rw [List.length_drop] at hj;omega
 rw [List.getElem_drop]
 have h3:=h2 (v[i]'(by omega)) (List.getElem?_eq_getElem (by omega))
 by_cases he:j=0
 · subst he;exact h3
 exact L.lt_le h3 (List.pairwise_iff_getElem.1 hs i (i+j) (by omega) (by omega) (by omega))
variable [DecidableEq κ]
def Zah (key:α->κ) (l m:List α):Prop:=∀ k:κ,(l.filter fun x=>decide (key x=k))=m.filter fun x=>decide (key x=k)
theorem Zah.refl (l:List α):Zah key l l:=fun _=>rfl
theorem Zah.symm {l m:List α} (h:Zah key l m):Zah key m l:=fun k=>(h k).symm
theorem Zah.trans {l m n:List α} (h:Zah key l m) (h':Zah key m n):Zah key l n:=fun k=>(h k).trans (h' k)
theorem Zah.app {l m l' m':List α} (h:Zah key l m) (h':Zah key l' m'):Zah key (l++l') (m++m'):=fun k=>by
 rw [List.filter_append,List.filter_append,h k,h' k]
theorem Zah.mem {l m:List α} (h:Zah key l m) {x:α} (hx:x∈l):x∈m:=by
 have h1:x∈l.filter fun y=>decide (key y=key x):=List.mem_filter.2 ⟨hx,by simp⟩
 rw [h] at h1
 exact (List.mem_filter.1 h1).1
theorem Zah.swap {u v:List α} (h:∀ x∈u,∀ y∈v,key x≠key y):Zah key (u++v) (v++u):=fun k=>by
 rw [List.filter_append,List.filter_append]
 by_cases hk:∃ x∈u,key x=k
 · obtain ⟨x,hx,rfl⟩:=hk
   have h2:(v.filter fun y=>decide (key y=key x))=[]:=List.filter_eq_nil_iff.2 fun y hy=>by
    have:=h x hx y hy
    simp only [decide_eq_true_eq]
    exact fun e=>this e.symm
   rw [h2,List.append_nil,List.nil_append]
 have h2:(u.filter fun y=>decide (key y=k))=[]:=List.filter_eq_nil_iff.2 fun y hy=>by
  simp only [decide_eq_true_eq]
  exact fun e=>hk ⟨y,hy,e⟩
 rw [h2,List.append_nil,List.nil_append]
theorem Zah.uncons {x:α} {l m:List α} (h:Zah key (x::l) m):∃ m1 m2,m=m1++x::m2/\(∀ y∈m1,key y≠key x)/\Zah key l (m1++m2):=by
 have h1:=h (key x)
 rw [List.filter_cons_of_pos (by simp)] at h1
 obtain ⟨m1,m2,rfl,h2,_,_⟩:=List.filter_eq_cons_iff.1 h1.symm
 have h3:∀ y∈m1,key y≠key x:=fun y hy e=>h2 y hy (by simpa using e)
 refine ⟨m1,m2,rfl,h3,fun k=>?_⟩
 have h4:=(Zah.swap (key:=key) (u:=m1) (v:=[x]) fun y hy z hz=>by
  obtain rfl:z=x:=by simpa using hz
  exact h3 y hy).app (Zah.refl m2)
 rw [List.append_assoc,List.append_assoc] at h4
 have h5:=(h.trans h4) k
 simp only [List.cons_append,List.nil_append] at h5
 by_cases hk:key x=k
 · rw [List.filter_cons_of_pos (by simpa using hk),List.filter_cons_of_pos (by simpa using hk)] at h5
   exact (List.cons.inj h5).2
 rw [List.filter_cons_of_neg (by simpa using hk),List.filter_cons_of_neg (by simpa using hk)] at h5
 exact h5
theorem Zah.perm:∀ {l m:List α},Zah key l m->l.Perm m
 | [],m,h=>by
   cases m with
   | nil=>exact List.Perm.refl _
   | cons y m=>have:=h.symm.mem (x:=y) (by simp);simp at this
 | x::l,m,h=>by
   obtain ⟨m1,m2,rfl,_,h2⟩:=h.uncons
   exact (List.Perm.cons x h2.perm).trans List.perm_middle.symm
theorem Zah.length {l m:List α} (h:Zah key l m):l.length=m.length:=h.perm.length_eq
theorem Zaj.unique (L:Lin lt):∀ {l m:List α},Zaj lt key l->Zaj lt key m->Zah key l m->l=m
 | [],m,_,_,h=>by
   have:=h.length
   simp only [List.length_nil] at this
   exact (List.length_eq_zero_iff.1 this.symm).symm
 | x::l,m,hl,hm,h=>by
   obtain ⟨m1,m2,rfl,h1,h2⟩:=h.uncons
   have hx:=List.pairwise_cons.1 hl
   cases m1 with
   | nil=>exact congrArg _ (Zaj.unique L hx.2 (List.pairwise_cons.1 hm).2 h2)
   | cons y m1 =>
     exfalso
     have h3:=h1 y (by simp)
     have hy:y∈l:=h2.symm.mem (by simp)
     have h4:=hx.1 y hy
     have h5:=(List.pairwise_cons.1 hm).1 x (by simp)
     rcases L.tot (key x) (key y) with h | h | h
     · exact h5 h
     · exact h3 h.symm
     exact h4 h
theorem Zfl {u1 u2 v1 v2 w1 w2:List α} (L:Lin lt) (hu:Zaj lt key (u1++u2)) (hv:Zaj lt key (v1++v2)) (h1:∀ x∈u1,∀ y∈v2,¬ lt (key y) (key x)) (h2:∀ x∈u2,∀ y∈v1,lt (key y) (key x))
 (s1:Zaj lt key w1) (m1:Zah key w1 (u1++v1)) (s2:Zaj lt key w2) (m2:Zah key w2 (u2++v2)):Zaj lt key (w1++w2)/\Zah key (w1++w2) ((u1++u2)++(v1++v2)):=by
 obtain ⟨_,_,hu3⟩:=hu.of_app
 obtain ⟨_,_,hv3⟩:=hv.of_app
 constructor
 · refine s1.app s2 fun x hx y hy=>?_
   rcases List.mem_append.1 (m1.mem hx) with hx | hx <;> rcases List.mem_append.1 (m2.mem hy) with hy | hy
   · exact hu3 x hx y hy
   · exact h1 x hx y hy
   · exact L.asym (h2 y hy x hx)
   exact hv3 x hx y hy
 refine (m1.app m2).trans ?_
 have h4:Zah key (v1++u2) (u2++v1):=Zah.swap fun x hx y hy e=>by
  have:=h2 y hy x hx
  rw [e] at this
  exact L.irr _ this
 have h5:=(((Zah.refl u1).app h4).app (Zah.refl v2))
 simpa only [List.append_assoc] using h5
theorem Zah.back (L:Lin lt) (P1 P2:List α) (x:α) (h:∀ y∈P2,lt (key x) (key y)):Zah key (P1++x::P2) (P1++P2++[x]):=by
 have h1:Zah key ([x]++P2) (P2++[x]):=Zah.swap fun z hz y hy e=>by
  obtain rfl:z=x:=by simpa using hz
  have:=h y hy
  rw [e] at this
  exact L.irr _ this
 have h2:=(Zah.refl P1).app h1
 simpa only [List.append_assoc,List.cons_append,List.nil_append] using h2
theorem Zah.forth (L:Lin lt) (P1 P2:List α) (x:α) (h:∀ y∈P1,lt (key y) (key x)):Zah key (P1++x::P2) (x::(P1++P2)):=by
 have h1:Zah key (P1++[x]) ([x]++P1):=Zah.swap fun y hy z hz e=>by
  obtain rfl:z=x:=by simpa using hz
  have:=h y hy
  rw [e] at this
  exact L.irr _ this
 have h2:=h1.app (Zah.refl P2)
 simpa only [List.append_assoc,List.cons_append,List.nil_append] using h2
end
theorem ZaD:Lin (fun a b:Int=>a<b):=⟨fun _=>by omega,fun h h'=>by omega,fun _ _=>by omega⟩
def ltS (a b:ByteArray):Prop:=a.data.toList<b.data.toList
theorem Zjd {x y:ByteArray} (h:x.data.toList=y.data.toList):x=y:=by
 cases x;cases y
 simp only at h
 congr 1
 exact Array.toList_inj.1 h
theorem Zaz:Lin ltS:=⟨fun a=>List.lt_irrefl _,fun h h'=>List.lt_trans h h',fun a b=>by
 unfold ltS
 rcases Classical.em (a.data.toList<b.data.toList) with h | h
 · exact .inl h
 rcases Classical.em (b.data.toList<a.data.toList) with h' | h'
 · exact .inr (.inr h')
 exact .inr (.inl (Zjd (List.le_antisymm (List.not_lt.1 h') (List.not_lt.1 h))))⟩
theorem ZoK (a b:ByteArray):Op.bytesLess a.toList b.toList=true↔ltS a b:=by
 rw [Go.Proofs.bytesLess_eq,decide_eq_true_eq,ByteArray.toList_eq,ByteArray.toList_eq]
 exact Iff.rfl
theorem ZgK (a b:ByteArray):(a.toList==b.toList)=true↔a=b:=by
 rw [beq_iff_eq,ByteArray.toList_eq,ByteArray.toList_eq]
 exact ⟨Zjd,fun h=>by rw [h]⟩
theorem Zkn (a b:ByteArray):(Op.bytesLess a.toList b.toList || a.toList==b.toList)=true↔¬ ltS b a:=by
 rw [Bool.or_eq_true,ZoK,ZgK]
 constructor
 · rintro (h | rfl)
   · exact Zaz.asym h
   exact Zaz.irr _
 intro h
 rcases Zaz.tot a b with h1 | h1 | h1
 · exact .inl h1
 · exact .inr h1
 exact absurd h1 h
structure Srt (l m:List ByteArray):Prop where
 sorted:m.Pairwise ltS
 mem:∀ x,x∈m↔x∈l
structure MInv (a b:List ByteArray) (i j:Nat) (out:List ByteArray):Prop where
 sorted:out.Pairwise ltS
 mem:∀ x,x∈out↔x∈a.take i\/x∈b.take j
 le:∀ x∈out,∀ y,y∈a.drop i\/y∈b.drop j->¬ ltS y x
structure Pick (a b:List ByteArray) (i j:Nat) (x:ByteArray) (i' j':Nat):Prop where
 least:∀ y,y∈a.drop i\/y∈b.drop j->¬ ltS y x
 take:∀ y,(y∈a.take i'\/y∈b.take j')↔((y∈a.take i\/y∈b.take j)\/y=x)
 sub:∀ y,y∈a.drop i'\/y∈b.drop j'->y∈a.drop i\/y∈b.drop j
 here:x∈a.drop i\/x∈b.drop j
theorem MInv.start (a b:List ByteArray):MInv a b 0 0 []:=⟨List.Pairwise.nil,by simp,by simp⟩
theorem Zly {a:List ByteArray} (h:a.Pairwise ltS) {i:Nat} {x:ByteArray} (hx:a[i]?=some x):∀ y∈a.drop i,¬ ltS y x:=by
 intro y hy
 obtain ⟨hi,rfl⟩:=List.getElem?_eq_some_iff.1 hx
 rw [List.drop_eq_getElem_cons hi] at hy
 have h1:(a.drop i).Pairwise ltS:=h.sublist (List.drop_sublist _ _)
 rw [List.drop_eq_getElem_cons hi] at h1
 rcases List.mem_cons.1 hy with rfl | hy
 · exact Zaz.irr _
 exact Zaz.asym ((List.pairwise_cons.1 h1).1 y hy)
theorem Zik {a:List ByteArray} {i:Nat} {x:ByteArray} (hx:a[i]?=some x) (y:ByteArray):y∈a.take (i+1)↔y∈a.take i\/y=x:=by
 rw [List.take_add_one,hx]
 simp
theorem Zil {a:List ByteArray} {i:Nat} (y:ByteArray) (h:y∈a.drop (i+1)):y∈a.drop i:=by
 rw [<- List.drop_drop] at h
 exact List.mem_of_mem_drop h
theorem Zko {a:List ByteArray} {i:Nat} {x:ByteArray} (hx:a[i]?=some x):x∈a.drop i:=by
 obtain ⟨hi,rfl⟩:=List.getElem?_eq_some_iff.1 hx
 rw [List.drop_eq_getElem_cons hi]
 exact List.mem_cons_self ..
theorem Pick.left {a b:List ByteArray} {i j:Nat} {x:ByteArray} (ha:a.Pairwise ltS) (hb:b.Pairwise ltS) (hx:a[i]?=some x) (h:∀ y,b[j]?=some y->¬ ltS y x):Pick a b i j x (i+1) j:=by
 refine ⟨fun y hy=>?_,fun y=>?_,fun y hy=>?_,.inl (Zko hx)⟩
 · rcases hy with hy | hy
   · exact Zly ha hx y hy
   cases hb':b[j]? with
   | none =>
     rw [List.drop_of_length_le (List.getElem?_eq_none_iff.1 hb')] at hy
     cases hy
   | some z=>exact Zaz.le_tr (h z hb') (Zly hb hb' y hy)
 · rw [Zik hx]
   constructor
   · rintro ((h | h) | h)
     · exact .inl (.inl h)
     · exact .inr h
     exact .inl (.inr h)
   rintro ((h | h) | h)
   · exact .inl (.inl h)
   · exact .inr h
   exact .inl (.inr h)
 exact hy.imp (Zil y) id
theorem Pick.right {a b:List ByteArray} {i j:Nat} {x:ByteArray} (ha:a.Pairwise ltS) (hb:b.Pairwise ltS) (hx:b[j]?=some x) (h:∀ y,a[i]?=some y->¬ ltS y x):Pick a b i j x i (j+1):=by
 have h1:=Pick.left hb ha hx h
 exact ⟨fun y hy=>h1.least y hy.symm,fun y=>by rw [or_comm,h1.take,or_comm (a:=y∈b.take j)],fun y hy=>(h1.sub y hy.symm).symm,h1.here.symm⟩
theorem MInv.skip {a b:List ByteArray} {i j i' j':Nat} {x:ByteArray} {out:List ByteArray} (h:MInv a b i j out) (hp:Pick a b i j x i' j') (hx:x∈out):MInv a b i' j' out :=
 ⟨h.sorted,fun y=>by
  rw [hp.take,<-h.mem]
  exact ⟨.inl,fun hh=>by rcases hh with hh | rfl;· exact hh
                         exact hx⟩,fun y hy z hz=>h.le y hy z (hp.sub z hz)⟩
theorem MInv.snoc {a b:List ByteArray} {i j i' j':Nat} {x:ByteArray} {out:List ByteArray} (h:MInv a b i j out) (hp:Pick a b i j x i' j') (hx:x ∉ out):MInv a b i' j' (out++[x]):=by
 refine ⟨List.pairwise_append.2 ⟨h.sorted,List.pairwise_singleton _ _,fun y hy z hz=>?_⟩,fun y=>?_,fun y hy z hz=>?_⟩
 · obtain rfl:z=x:=by simpa using hz
   have h1:=h.le y hy z hp.here
   rcases Zaz.tot y z with h2 | h2 | h2
   · exact h2
   · exact absurd (h2 ▸ hy) hx
   exact absurd h2 h1
 · rw [hp.take,<-h.mem]
   simp
 rcases List.mem_append.1 hy with hy | hy
 · exact h.le y hy z (hp.sub z hz)
 obtain rfl:y=x:=by simpa using hy
 exact hp.least z (hp.sub z hz)
theorem MInv.fresh {a b:List ByteArray} {i j i' j':Nat} {x y:ByteArray} {out:List ByteArray} (h:MInv a b i j (out++[y])) (hp:Pick a b i j x i' j') (hne:x≠y):x ∉ out++[y]:=by
 intro hx
 rcases List.mem_append.1 hx with hx | hx
 · have h1:=(List.pairwise_append.1 h.sorted).2.2 x hx y (by simp)
   exact h.le y (by simp) x hp.here h1
 exact hne (by simpa using hx)
theorem MInv.done {a b la lb:List ByteArray} {i j:Nat} {out:List ByteArray} (h:MInv a b i j out) (hi:a.length<=i) (hj:b.length<=j) (ha:Srt la a) (hb:Srt lb b):Srt (la++lb) out :=
 ⟨h.sorted,fun x=>by rw [h.mem,List.take_of_length_le hi,List.take_of_length_le hj,ha.mem,hb.mem,List.mem_append]⟩
end Go.Proofs.YtkopcinhbjimiaaGreatDoor
namespace Go.Proofs.YtkopcinhbjimiaaGreatDoor
open Go.RowKit
def Zet (c:UInt8):Bool:=(decide (97<=c.toNat) && decide (c.toNat<=122)) || (decide (65<=c.toNat) && decide (c.toNat<=90)) || (decide (48<=c.toNat) && decide (c.toNat<=57)) || decide (c.toNat=95)
def ZeM (c:UInt8):Bool:=decide (48<=c.toNat) && decide (c.toNat<=57)
def ZoL:List UInt8->Bool
 | []=>false
 | c::_=>!ZeM c
def ZfY (l:List UInt8):Bool:=decide (l.length<=40) && ZoL l && l.all Zet
def Zba (s:ByteArray):Bool:=ZfY s.data.toList
theorem ZaX (s:ByteArray):s.data.toList.length=s.size:=by rw [Array.length_toList];rfl
theorem ZeN (s:ByteArray) {k:Nat} (h:k<s.size):s.data.toList[k]'(by rw [ZaX];exact h)=s[k]:=by
 rw [Array.getElem_toList];rfl
theorem ZgL (s:ByteArray):s.toList=[]↔s.size=0:=by
 rw [ByteArray.toList_eq,<-ZaX,List.length_eq_zero_iff]
theorem ZgM {s:ByteArray} (h:0<s.size):ZoL s.data.toList=!ZeM s[0]:=by
 have h1:0<s.data.toList.length:=by rw [ZaX];exact h
 have h2:s.data.toList[0]'h1=s[0]:=ZeN s h
 cases hl:s.data.toList with
 | nil=>rw [hl] at h1;simp at h1
 | cons c l=>simp only [hl,List.getElem_cons_zero] at h2;simp only [ZoL];rw [h2]
theorem Zlz {l:List UInt8} {k:Nat} (h:k<l.length):(l.take (k+1)).all Zet=((l.take k).all Zet && Zet l[k]):=by
 rw [List.take_add_one,List.getElem?_eq_getElem h,Option.toList_some,List.all_append]
 simp
theorem Zje {l:List UInt8} {k:Nat} (h:k<l.length) (hc:Zet l[k]=false):l.all Zet=false:=by
 rw [List.all_eq_false]
 exact ⟨l[k],List.getElem_mem h,by rw [hc];simp⟩
theorem Zjf {c:UInt8} (h:(97<=c.toNat/\c.toNat<=122)\/(65<=c.toNat/\c.toNat<=90)\/(48<=c.toNat/\c.toNat<=57)\/c.toNat=95):Zet c=true:=by
 unfold Zet
 simp only [Bool.or_eq_true,Bool.and_eq_true,decide_eq_true_eq]
 omega
theorem ZlA {c:UInt8} (h:¬ ((97<=c.toNat/\c.toNat<=122)\/(65<=c.toNat/\c.toNat<=90)\/(48<=c.toNat/\c.toNat<=57)\/c.toNat=95)):Zet c=false:=by
 rw [Bool.eq_false_iff]
 intro h2
 unfold Zet at h2
 simp only [Bool.or_eq_true,Bool.and_eq_true,decide_eq_true_eq] at h2
 omega
theorem Zbt (s:ByteArray) (w:World):Calls Tryz.prog 100 #[.string s] w fun e w'=>e=.returned (.bool (Zba s))/\w=w':=by
 have HE:=qH (ZgL s)
 by_cases h0:s.size=0
 · have he:s.toList=[]:=(ZgL s).2 h0
   have HG:=qH (show Zba s=false from by
    unfold Zba ZfY
    have:s.data.toList=[]:=List.length_eq_zero_iff.1 (by rw [ZaX];exact h0)
    rw [this];rfl)
   go_enter Tryz.func100,Tryz.ntmps100
   go_wp2
   all_goals first
    | (go_ret;exact ⟨by rw [HG.out];rfl,rfl⟩)
    | (exfalso;simp_all)
 have hp:0<s.size:=by omega
 have he:¬ s.toList=[]:=fun h=>h0 ((ZgL s).1 h)
 have he2:s.toList.isEmpty=false:=by simpa using he
 by_cases h40:40<s.size
 · have HG:=qH (show Zba s=false from by
    unfold Zba ZfY
    rw [ZaX,decide_eq_false (by omega)];rfl)
   go_enter Tryz.func100,Tryz.ntmps100
   go_wp2
   go_ret
   exact ⟨by rw [HG.out];rfl,rfl⟩
 have HH:=qH (ZgM hp)
 have hge:¬ (s.size:Int)<=0:=by omega
 have h40i:¬ (40:Int)<s.size:=by omega
 by_cases hd:48<=s[0].toNat/\s[0].toNat<=57
 · obtain ⟨d1,d2⟩:=hd
   have HG:=qH (show Zba s=false from by
    unfold Zba ZfY
    rw [HH.out]
    simp [ZeM,d1,d2])
   go_enter Tryz.func100,Tryz.ntmps100
   go_wp2
   all_goals first
    | (go_ret;exact ⟨by rw [HG.out];rfl,rfl⟩)
    | (exfalso;simp_all;done)
    | (exfalso;omega)
 have HD:=qH (show ZoL s.data.toList=true from by
  rw [HH.out]
  simp only [ZeM]
  by_cases d1:48<=s[0].toNat
  · rw [decide_eq_true d1,decide_eq_false (by omega)];rfl
  rw [decide_eq_false d1];rfl)
 go_enter Tryz.func100,Tryz.ntmps100
 go_upto_region 1 with fail
 go_cut [21] from 5 to 21 (fun s21 wx=>s21=.bool false/\wx=w)
 case first =>
  go_wp2
  all_goals go_meet
  all_goals first
   | exact ⟨rfl,rfl⟩
   | (exfalso;omega)
   | (refine ⟨?_,rfl⟩;congr 1;simp_all;omega)
 obtain ⟨rfl,rfl⟩:=hcut
 go_wp2_with fail
 clear he he2 hd
 go_loopg [24] s.size (fun gh ix wr=>∃ k:Nat,s.size-k=gh/\k<=s.size/\ix=.int .i64 k/\wr=wc/\Hid ((s.data.toList.take k).all Zet=true))
 case atStart=>exact ⟨0,rfl,Nat.zero_le _,rfl,rfl,qH rfl⟩
 obtain ⟨k,rfl,hk,rfl,rfl,KA⟩:=hrel
 by_cases hlt:k<s.size
 · have hkl:k<s.data.toList.length:=by rw [ZaX];exact hlt
   have HAll:=qH (Zlz hkl)
   have HFal:=qH (fun h=>Zje hkl h)
   have HGet:=qH (ZeN s hlt)
   go_wp2
   all_goals first
    | (go_roundg (s.size-(k+1))
       case measure=>omega
       refine ⟨k+1,rfl,by omega,by go_num,rfl,qH ?_⟩
       rw [HAll.out,KA.out,HGet.out,Zjf (by first | omega | (simp only [beq_iff_eq] at *;omega))]
       rfl)
    | (have HF:=qH (show Zba s=false from by
        have h1:=HFal.out (by rw [HGet.out];exact ZlA (by first | omega | (simp only [beq_eq_false_iff_ne,ne_eq] at *;omega)))
        unfold Zba ZfY
        rw [h1,Bool.and_false])
       go_ret
       exact ⟨by rw [HF.out];rfl,rfl⟩)
 have hks:k=s.size:=by omega
 have HG:=qH (show Zba s=true from by
  unfold Zba ZfY
  have h1:=KA.out
  rw [List.take_of_length_le (by rw [ZaX];omega)] at h1
  rw [HD.out,h1,ZaX,decide_eq_true (by omega)]
  rfl)
 go_wp2
 go_ret
 exact ⟨by rw [HG.out];rfl,rfl⟩
end Go.Proofs.YtkopcinhbjimiaaGreatDoor
