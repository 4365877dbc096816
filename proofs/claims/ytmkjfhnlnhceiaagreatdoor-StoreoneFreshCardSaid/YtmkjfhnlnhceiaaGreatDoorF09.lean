/- Lemmas: walks and plain laws. -/
import Derived.Sort.Walk0
import Derived.Maps.Own
import Derived.Maps.OwnOps
import Derived.Maps.Views
import Derived.Shelf.Small.Strs
import Derived.Test.YtmkjfhnlnhceiaaGreatDoorF05
import Derived.Test.YtmkjfhnlnhceiaaGreatDoorF07
set_option maxRecDepth 100000
set_option maxHeartbeats 16000000
namespace Go.Proofs.YtmkjfhnlnhceiaaGreatDoor
variable {T:TypeId} {z:Code} {Q:Exit->Act->World->Prop} {a:Act} {w w0:World} {gf g k B i j c:Nat} {lb:Array Value} {F:Fence} {U:List Nat} {S:Nat->Prop}
section
open Go.RowKit
variable {n:Nat} {P:Program}
theorem ZiY {α:Type} {G:FuncId->Prop} (hG:∀ x,G x->∃ fn,P.funcs[x]?=some fn) {T:TypeId->Prop} {g:Operand} {ps:Array Tmp} {E:Code} 
 (hg:a.eval g=.func (.func gf) #[] lb) (eg:∀ args w,(callFunc gf args).run P w=.ok (.enter gf args) w)
 {y:α->Array Value} {Kp:World->World->Prop} {R:List α->α->World->Prop} {S Sp:List α->Prop} (H:SeqP T Fence.wide n P gf lb y (fun _=>Kp) R S Sp w0)
 (L:∀ A,Kp A A) (M:∀ {A B C:World},Kp A B->Kp B C->Kp A C) (N:∀ (W:World) (l:Nat) (o o':Obj),w.heap.size<=l->W.heap[l]?=some o->o.isCells=false->Kp W (W.putObj l o'))
 (hR:∀ (u:List α) (x:α) (W:World) (l:Nat) (o o':Obj),w.heap.size<=l->W.heap[l]?=some o->o.isCells=false->R u x W->R u x (W.putObj l o'))
 (O:Below w0.heap.size w0 w) (U:∀ x,(y x).size=ps.size)
 (I:List α->World->Prop) (Ix:Code->List α->World->Prop) (Ip:List PanicEntry->List α->World->Prop) (hI:AbR T w.heap.size I) (V:∀ c,AbR T w.heap.size (Ix c)) (X:∀ ch,AbR T w.heap.size (Ip ch)) (h0:I [] w)
 (F:α->Array Value)
 (Y:∀ (l:Nat) (x:α) (W:World) (K:Act->World->Prop),K { tmps:=F x,defers:=[] } W ->
   z.wpIn (Fence.wide.inRound l) (n-1) P (Exit.then K (fun _ _ _=>False)) { tmps:=(ps.zip (y x)).foldl (fun t (p,v)=>t.setIfInBounds p v) a.tmps,defers:=[] } W)
 (Z:∀ (l:Nat) (u:List α) (x:α) (W:World),w.heap.size<=l->(∃ r,W.heap[l]?=some (.loop r))->I u W->R u x W->E.wpIn (Fence.wide.inRound l) (n-1) P (vW w.heap.size Kp I Ix Ip (u++[x]) W) { tmps:=F x,defers:=[] } W)
 (a0:∀ (D:Nat) (xs:List α) (W:World),w.heap.size<=D->S xs->I xs W->W.heap[D]?=some (.deferred (some []))->Q .normal { a with defers:={ target:=.collected D,args:=#[] }::a.defers } W)
 (a1:∀ (D:Nat) (c:Code) (u:List α) (W:World),w.heap.size<=D->Sp u->Ix c u W->W.heap[D]?=some (.deferred (some []))->wp2 G P c Q { a with defers:={ target:=.collected D,args:=#[] }::a.defers } W)
 (a2:∀ (D:Nat) (ch:List PanicEntry) (u:List α) (W:World),w.heap.size<=D->Sp u->Ip ch u W->W.heap[D]?=some (.deferred (some []))->Q (.panic ch) { a with defers:={ target:=.collected D,args:=#[] }::a.defers } W):
 wp2 G P (Code.rangeFunc g ps z E) Q a w :=
 ZiT hG hg eg H (fun h k=>M h k) (fun _ W l o o' b d e=>N W l o o' b d e) O U I Ix Ip hI V X h0
  (fun u x f W=>f={ tmps:=F x,defers:=[] }/\R u x W) (fun u x f W l o o' b d e ⟨i,j⟩=>⟨i,hR u x W l o o' b d e j⟩)
  (fun l u x W K m q s=>Y l x W K (s _ _ ⟨lA _,fun _ _ _ h _=>h⟩ (L W) m ⟨rfl,q⟩))
  (fun l u x f W b d e ⟨i,j⟩=>by subst i;exact Z l u x W b d e j) a0 a1 a2
theorem SeqP.toR {α:Type} {T:TypeId->Prop} {C:α->Array Value} {Kp:α->World->World->Prop} {R:List α->α->World->Prop} {S Sp:List α->Prop} (h:SeqP T F n P g lb C Kp R S Sp w):SeqR T F n P g lb C Kp R S Sp w :=
 fun l J m W o p f q r=>(h l J m (fun _ _ _=>False) W o p f (fun _ _ _ _ i _=>i.elim) (fun b x s t u=>by obtain ⟨v,c,a,d,y,z⟩:=q b x s t u;exact ⟨v,c,a,d,y,z.mono fun e A ⟨k,j⟩=>⟨k,j.elim .inl fun h=>.inr (.inl h)⟩⟩) r).mono fun e A j=>j.elim id fun ⟨B,b,_,_,i⟩=>i.elim
theorem mT {α:Type} {T:TypeId->Prop} {g:Operand} {ps:Array Tmp} {y:Code} 
 (E:F.round=none) (h1:1<=n) (hg:a.eval g=.func (.func gf) #[] lb) (G:F.fn gf) (eg:∀ args w,(callFunc gf args).run P w=.ok (.enter gf args) w)
 {u:α->Array Value} {Kp:World->World->Prop} {R:List α->α->World->Prop} {S Sp:List α->Prop} (H:SeqP T F (n-1) P gf lb u (fun _=>Kp) R S Sp w0)
 (L:∀ A,Kp A A) (M:∀ {A B C:World},Kp A B->Kp B C->Kp A C) (N:∀ (W:World) (l:Nat) (o o':Obj),w.heap.size<=l->W.heap[l]?=some o->o.isCells=false->Kp W (W.putObj l o'))
 (hR:∀ (s:List α) (x:α) (W:World) (l:Nat) (o o':Obj),w.heap.size<=l->W.heap[l]?=some o->o.isCells=false->R s x W->R s x (W.putObj l o'))
 (O:Below w0.heap.size w0 w) (U:∀ x,(u x).size=ps.size)
 (I:List α->World->Prop) (Ix:Code->List α->World->Prop) (hI:AbR T w.heap.size I) (V:∀ c,AbR T w.heap.size (Ix c)) (h0:I [] w)
 (F_:α->Array Value)
 (X:∀ (l:Nat) (x:α) (W:World) (K:Act->World->Prop),K { tmps:=F_ x,defers:=[] } W ->
   y.wpIn (F.inRound l) (n-1-1) P (Exit.then K (fun _ _ _=>False)) { tmps:=(ps.zip (u x)).foldl (fun t (p,v)=>t.setIfInBounds p v) a.tmps,defers:=[] } W)
 (Y:∀ (l:Nat) (s:List α) (x:α) (W:World),w.heap.size<=l->(∃ r,W.heap[l]?=some (.loop r))->I s W->R s x W->z.wpIn (F.inRound l) (n-1-1) P (ownPostG w.heap.size Kp I Ix (s++[x]) W) { tmps:=F_ x,defers:=[] } W)
 (Z:∀ (D:Nat) (xs:List α) (W:World),w.heap.size<=D->S xs->I xs W->W.heap[D]?=some (.deferred (some []))->Q .normal { a with defers:={ target:=.collected D,args:=#[] }::a.defers } W)
 (a0:∀ (D:Nat) (c:Code) (s:List α) (W:World),w.heap.size<=D->Sp s->Ix c s W->W.heap[D]?=some (.deferred (some []))->c.wpIn F n P Q { a with defers:={ target:=.collected D,args:=#[] }::a.defers } W):
 (Code.rangeFunc g ps y z).wpIn F n P Q a w :=
 tW E h1 hg G eg H.toR (fun h j=>M h j) (fun _ W l o o' h1 b d=>N W l o o' h1 b d) O U I Ix hI V h0
  (fun s x e W=>e={ tmps:=F_ x,defers:=[] }/\R s x W) (fun s x e W l o o' h1 b d ⟨f,i⟩=>⟨f,hR s x W l o o' h1 b d i⟩)
  (fun l s x W K k m q=>X l x W K (q _ _ ⟨lA _,fun _ _ _ h _=>h⟩ (L W) k ⟨rfl,m⟩))
  (fun l s x e W h1 b d ⟨f,i⟩=>by subst f;exact Y l s x W h1 b d i) Z a0
end
section
section
variable (nx:Nat->Option Nat)
def aC:Nat->Nat->List Nat
 | 0,i=>[i]
 | k+1,i=>i::match nx i with | none=>[] | some j=>aC k j
def rE:Nat->Nat->Bool
 | 0,i=>(nx i).isNone
 | k+1,i=>match nx i with | none=>true | some j=>rE k j
variable {nx}
theorem iQ:∀ (k i:Nat),aC nx (k+1) i=i::(aC nx k i).filterMap nx
 | 0,i=>by simp only [aC,jP,List.filterMap_nil];cases nx i <;> rfl
 | k+1,i=>by
   rw [aC];cases h:nx i with
   | none=>simp [aC,h]
   | some j =>
     simp only;rw [iQ k j]
     conv=>rhs;rw [aC]
     simp [h]
theorem jQ:∀ {k i:Nat},rE nx k i=true->aC nx (k+1) i=aC nx k i
 | 0,i,h=>by simp only [rE,Option.isNone_iff_eq_none] at h;simp [aC,h]
 | k+1,i,h=>by
   rw [rE] at h;rw [aC,aC];cases h2:nx i with
   | none=>rfl
   | some j =>
     rw [h2] at h;simp only at h ⊢;rw [jQ h]
theorem ZW:∀ {k i:Nat},rE nx k i=false->(aC nx k i).length=k+1
 | 0,i,_=>rfl
 | k+1,i,h=>by
   rw [rE] at h;rw [aC];cases h2:nx i with
   | none=>rw [h2] at h;cases h
   | some j =>
     rw [h2] at h;simp only at h ⊢;rw [BA,ZW h]
theorem nT (hU:∀ i∈U,∀ j,nx i=some j->j∈U):∀ {k i:Nat},i∈U->∀ x∈aC nx k i,x∈U
 | 0,i,hi,x,a=>by simp only [aC,QB] at a;exact a ▸ hi
 | k+1,i,hi,x,a=>by
   rw [aC] at a;rcases TA.1 a with rfl | a
   · exact hi
   cases h2:nx i with
   | none=>rw [h2] at a;cases a
   | some j =>
     rw [h2] at a;exact nT hU (hU i hi j h2) x a
def allL (nx:Nat->Option Nat) (S:List Nat) (k:Nat):List Nat:=S.flatMap (aC nx k)
theorem oT (S:List Nat) (k:Nat):(allL nx S (k+1)).Perm (S++(allL nx S k).filterMap nx):=by
 induction S with
 | nil=>exact ML _
 | cons s S ih =>
   simp only [allL,iD] at ih ⊢;rw [iQ,List.filterMap_append,EB,EB];refine List.Perm.cons s ?_;refine (List.Perm.append_left _ ih).trans ?_;rw [<- vA,<-vA];exact List.Perm.append_right _ List.perm_append_comm
theorem aX {f:Nat->Option Nat} {c:Nat}:∀ {A U:List Nat},A.Nodup->(∀ x∈A,x∈U)->(A.filterMap f).count c<=(U.filterMap f).count c
 | [],_,_,_=>by simp
 | a::A,U,hd,hs=>by
   obtain ⟨i,j⟩:=lE.1 hd;have g:=aX (f:=f) (c:=c) j (U:=U.erase a) fun x d=>(WR (fun e:x=a=>i (e ▸ d))).2 (hs x (by simp [d]));have h:=((List.perm_cons_erase (hs a (by simp))).filterMap f).count_eq c;rw [h];cases h5:f a with
   | none=>simpa [h5] using g
   | some b =>
     simp only [jP,h5,List.count_cons];omega
theorem oJ {A:List Nat} (hd:A.Nodup) (hs:∀ x∈A,x∈U):A.length<=U.length:=by
 have b:∀ {A U:List Nat},A.Nodup->(∀ x∈A,x∈U)->A.length<=U.length:=fun {A}=>by
  induction A with
  | nil=>intro U _ _;exact oA _
  | cons a A ih =>
    intro U hd hs;obtain ⟨b,f⟩:=lE.1 hd;have d:=ih (U:=U.erase a) f fun x c=>(WR (fun e:x=a=>b (e ▸ c))).2 (hs x (by simp [c]));rw [List.length_erase_of_mem (hs a qS)] at d;have:0<U.length:=List.length_pos_of_mem (hs a qS);simp only [BA];omega
 exact b hd hs
theorem pT:∀ {A U:List Nat},A.Nodup->(∀ x∈A,x∈U)->U.length<=A.length->A.Perm U
 | [],U,_,_,h=>by have:U=[]:=EH.1 (by simpa using h);subst this;exact ML _
 | a::A,U,hd,hs,h=>by obtain ⟨d,f⟩:=lE.1 hd;have c:=List.perm_cons_erase (hs a qS);refine (List.Perm.cons a (pT f (U:=U.erase a) (fun x b=>(WR (fun e:x=a=>d (e ▸ b))).2 (hs x (by simp [b]))) ?_)).trans c.symm;rw [List.length_erase_of_mem (hs a qS)];simp only [BA] at h;omega
def kH (nx:Nat->Option Nat) (S U:List Nat) (c:Nat):Nat:=S.count c+(U.filterMap nx).count c
variable {S U:List Nat}
theorem qT (hn:∀ c∈U,kH nx S U c<=1) (hS:∀ s∈S,s∈U) (hU:∀ i∈U,∀ j,nx i=some j->j∈U):∀ k,(allL nx S k).Nodup/\∀ x∈allL nx S k,x∈U:=by
 have a:∀ k,∀ x∈allL nx S k,x∈U:=fun k x g=>by obtain ⟨s,l,g⟩:=ED.1 g;exact nT hU (hS s l) x g
 have d:S.Nodup:=kP.2 fun c=>by
  by_cases b:c∈S
  · have:=hn c (hS c b);unfold kH at this;omega
  rw [jV b];exact oA _
 intro k
 induction k with
 | zero =>
   have e:allL nx S 0=S:=by simp only [allL,aC];exact List.flatMap_singleton' S
   rw [e];exact ⟨d,hS⟩
 | succ k ih =>
   refine ⟨kP.2 fun c=>?_,a _⟩;by_cases b:c∈allL nx S (k+1)
   · have h:=hn c (a _ c b);rw [(oT S k).count_eq c,EL];have m:=aX (f:=nx) (c:=c) ih.1 ih.2;unfold kH at h;omega
   rw [jV b];exact oA _
theorem ZrZ (k i:Nat):i∈aC nx k i:=by cases k <;> simp [aC]
theorem bX (hn:∀ c∈U,kH nx S U c<=1) (hS:∀ s∈S,s∈U) (hU:∀ i∈U,∀ j,nx i=some j->j∈U) (hk:U.length<=k):∀ s∈S,rE nx k s=true:=fun s b=>by
 obtain ⟨f,g⟩:=qT hn hS hU k;cases h3:rE nx k s with
 | true=>rfl
 | false =>
   have l:=ZW h3;have d:(aC nx k s).Nodup:=by obtain ⟨m,n,e⟩:=XR b;have a:(allL nx S k).Nodup:=f;rw [allL,e,jF,iD] at a;exact (zK.1 (zK.1 a).2.1).1
   have a:=oJ d (U:=U) fun x h=>g x (ED.2 ⟨s,b,h⟩);omega
theorem rT:∀ {S:List Nat},(∀ s∈S,rE nx k s=true)->allL nx S (k+1)=allL nx S k
 | [],_=>rfl
 | s::S,h=>by simp only [allL,iD];have a:allL nx S (k+1)=allL nx S k:=rT fun x b=>h x (by simp [b]);unfold allL at a;rw [a,jQ (h s qS)]
theorem Zqn (hS:∀ s∈S,s∈U) (hU:∀ i∈U,∀ j,nx i=some j->j∈U) (hd:U.Nodup) (hk:U.length<=k):
 ((∀ c∈U,kH nx S U c<=1)/\(allL nx S k).length=U.length)↔((∀ s∈S,rE nx k s=true)/\(allL nx S k).Nodup/\∀ c∈U,c∈allL nx S k):=by
 constructor
 · rintro ⟨h,o⟩;obtain ⟨a,d⟩:=qT h hS hU k;refine ⟨bX h hS hU hk,a,fun c l=>?_⟩;exact (pT a d qO).mem_iff.2 l
 rintro ⟨m,a,d⟩;have b:∀ x∈allL nx S k,x∈U:=fun x e=>by obtain ⟨s,n,e⟩:=ED.1 e;exact nT hU (hS s n) x e
 have f:(allL nx S k).Perm U:=pT a b (oJ hd d);refine ⟨fun c l=>?_,f.length_eq⟩;have g:=(oT (nx:=nx) S k).count_eq c;rw [rT m,EL,(f.filterMap nx).count_eq c] at g;unfold kH;rw [<- g];exact kP.1 a c
end
def lC (L:List L1) (node id:Int):Int :=
 if id<0 then 3 else match L[id.toNat]? with
 | none=>3
 | some l=>if l.live=false then 3 else if l.src≠node/\l.dst≠node then 65 else 0
def sG (l:L1) (node:Int):Int:=if l.src=node then l.sprev else l.dprev
def SH (l:L1) (node:Int):Int:=if l.src=node then l.snext else l.dnext
def lH (l:L1):Bool:=l.src==l.dst && (l.dprev != -1 || l.dnext != -1)
def QC (L:List L1) (node:Int):Nat->Int->Int->Except Int (List Int)
 | 0,_,id=>if id = -1 then .ok [] else if lC L node id≠0 then .error (lC L node id) else .error 101
 | k+1,last,id=>if id = -1 then .ok [] else if lC L node id≠0 then .error (lC L node id) else match L[id.toNat]? with
   | none=>.error 3
   | some l=>if sG l node≠last\/lH l=true then .error 101 else match QC L node k id (SH l node) with
     | .error e=>.error e
     | .ok ids=>.ok (id::ids)
def CV (L:List L1) (node:Int):List Int->Prop
 | []=>True
 | x::v=>0<=x/\(∃ l,L[x.toNat]?=some l/\sG l node=v.headD (-1))/\CV L node v
variable {L:List L1} {node:Int}
theorem CV.suffix:∀ {a b:List Int},CV L node (a++b)->CV L node b
 | [],_,h=>h
 | _::a,_,h=>CV.suffix (a:=a) h.2.2
theorem CV.fresh:∀ {v:List Int} {x:Int},CV L node (x::v)->x ∉ v
 | [],_,_,h=>by cases h
 | y::v,x,h,hm=>by
   obtain ⟨a,b,e⟩:=XR hm;have i:CV L node (x::b):=CV.suffix (a:=a) (e ▸ h.2.2);obtain ⟨_,⟨l,j,k⟩,g⟩:=h;obtain ⟨_,⟨m,d,c⟩,n⟩:=i;rw [j] at d;injection d with d
   subst d;rw [k] at c;simp only [GL] at c;cases b with
   | nil =>
     simp only [List.headD_nil] at c;have:=g.1;omega
   | cons z b =>
     simp only [GL] at c;subst c;have f:=CV.fresh g;cases a with
     | nil =>
       injection e with e1 e2
       subst e2;exact f qS
     | cons w a =>
       injection e with e1 e2
       subst e2;exact f qS
theorem CV.nodup:∀ {v:List Int},CV L node v->v.Nodup
 | [],_=>NL
 | _::_,h=>lE.2 ⟨CV.fresh h,CV.nodup h.2.2⟩
theorem CV.mem:∀ {v:List Int},CV L node v->∀ x∈v,0<=x/\x.toNat<L.length
 | y::v,h,x,a=>by
   rcases TA.1 a with rfl | a
   · obtain ⟨b,⟨l,c,_⟩,_⟩:=h;exact ⟨b,(IA.1 c).1⟩
   exact CV.mem h.2.2 x a
theorem cX:∀ {v:List Int},v.Nodup->(∀ x∈v,0<=x)->(v.map Int.toNat).Nodup
 | [],_,_=>NL
 | x::v,hd,h0=>by obtain ⟨b,c⟩:=lE.1 hd;rw [CB];refine lE.2 ⟨fun d=>?_,cX c fun y a=>h0 y (by simp [a])⟩;obtain ⟨y,a,e⟩:=fC.1 d;have f:=h0 x qS;have g:=h0 y (by simp [a]);have:x=y:=qO;subst this;exact b a
theorem CV.len {v:List Int} (h:CV L node v):v.length<=L.length:=by
 have b:=oJ (U:=List.range L.length) (cX (CV.nodup h) fun x a=>(CV.mem h x a).1) fun x a=>by obtain ⟨y,c,rfl⟩:=fC.1 a;exact vF.2 (CV.mem h y c).2
 simpa using b
def OB (L:List L1) (node:Int):List Nat:=(List.range L.length).filter fun i=>lC L node i==0
def RC (l:L1) (node prev next:Int):L1 :=
 if l.src=node then (if l.dst=node then { l with sprev:=prev,snext:=next,dprev := -1,dnext := -1 } else { l with sprev:=prev,snext:=next }) else { l with dprev:=prev,dnext:=next }
def dE:List Nat->Int
 | [] => -1
 | i::_=>i
def pC (node:Int):Int->List Nat->List L1->List L1
 | _,[],L=>L
 | prev,i::ids,L=>pC node i ids (match L[i]? with | none=>L | some l=>L.set i (RC l node prev (dE ids)))
structure Lin {κ:Type} (lt:κ->κ->Prop):Prop where
 irr:∀ a,¬ lt a a
 tr:∀ {a b c},lt a b->lt b c->lt a c
 tot:∀ a b,lt a b\/a=b\/lt b a
section
variable {α κ:Type} {lt:κ->κ->Prop} {key:α->κ}
theorem Lin.asym (L:Lin lt) {a b:κ} (h:lt a b):¬ lt b a:=fun c=>L.irr _ (L.tr h c)
theorem Lin.le_tr (L:Lin lt) {a b c:κ} (h:¬ lt b a) (h':¬ lt c b):¬ lt c a:=fun f=>by
 rcases L.tot a b with d | rfl | e
 · exact h' (L.tr f d)
 · exact h' f
 exact h e
theorem Lin.lt_le (L:Lin lt) {a b c:κ} (h:lt a b) (h':¬ lt c b):lt a c:=by
 rcases L.tot b c with d | rfl | e
 · exact L.tr h d
 · exact h
 exact absurd e h'
theorem Lin.le_lt (L:Lin lt) {a b c:κ} (h:¬ lt b a) (h':lt b c):lt a c:=by
 rcases L.tot a b with d | rfl | e
 · exact L.tr d h'
 · exact h'
 exact absurd e h
def XA (lt:κ->κ->Prop) (key:α->κ) (l:List α):Prop:=l.Pairwise fun a b=>¬ lt (key b) (key a)
theorem XA.of_app {u v:List α} (h:XA lt key (u++v)):XA lt key u/\XA lt key v/\∀ x∈u,∀ y∈v,¬ lt (key y) (key x):=oP.1 h
theorem XA.app {u v:List α} (h1:XA lt key u) (h2:XA lt key v) (h3:∀ x∈u,∀ y∈v,¬ lt (key y) (key x)):XA lt key (u++v):=oP.2 ⟨h1,h2,h3⟩
theorem XA.nil:XA lt key ([]:List α):=List.Pairwise.nil
theorem XA.one (x:α):XA lt key [x]:=List.pairwise_singleton _ _
theorem XA.ins {P1 P2:List α} {x:α} (hs:XA lt key (P1++P2)) (h1:∀ y∈P1,¬ lt (key x) (key y)) (h2:∀ y∈P2,¬ lt (key y) (key x)):XA lt key (P1++x::P2):=by
 obtain ⟨a,b,c⟩:=hs.of_app;refine a.app (TE.2 ⟨h2,b⟩) fun y e z d=>?_;rcases TA.1 d with rfl | d
 · exact h1 y e
 exact c y e z d
theorem XA.last_le {P:List α} {y:α} (L:Lin lt) (hs:XA lt key (P++[y])):∀ z∈P++[y],¬ lt (key y) (key z):=by
 intro z a;rcases YB.1 a with a | a
 · exact hs.of_app.2.2 z a y qS
 obtain rfl:z=y:=by simpa using a
 exact L.irr _
variable [DecidableEq κ]
def zB (key:α->κ) (l m:List α):Prop:=∀ k:κ,(l.filter fun x=>decide (key x=k))=m.filter fun x=>decide (key x=k)
theorem zB.refl (l:List α):zB key l l:=fun _=>rfl
abbrev pJ:=@zB.refl
theorem zB.symm {l m:List α} (h:zB key l m):zB key m l:=fun k=>(h k).symm
theorem zB.trans {l m n:List α} (h:zB key l m) (h':zB key m n):zB key l n:=fun k=>(h k).trans (h' k)
theorem zB.app {l m l' m':List α} (h:zB key l m) (h':zB key l' m'):zB key (l++l') (m++m'):=fun k=>by rw [kI,kI,h k,h' k]
theorem zB.mem {l m:List α} (h:zB key l m) {x:α} (hx:x∈l):x∈m:=by have a:x∈l.filter fun y=>decide (key y=key x):=JJ.2 ⟨hx,qS⟩;rw [h] at a;exact (JJ.1 a).1
theorem zB.swap {u v:List α} (h:∀ x∈u,∀ y∈v,key x≠key y):zB key (u++v) (v++u):=fun k=>by
 rw [kI,kI];by_cases c:∃ x∈u,key x=k
 · obtain ⟨x,d,rfl⟩:=c;have a:(v.filter fun y=>decide (key y=key x))=[]:=pP.2 fun y b=>by have:=h x d y b;simp only [NC];exact fun e=>this e.symm
   rw [a,ZC,SB]
 have a:(u.filter fun y=>decide (key y=k))=[]:=pP.2 fun y b=>by simp only [NC];exact fun e=>c ⟨y,b,e⟩
 rw [a,ZC,SB]
theorem zB.uncons {x:α} {l m:List α} (h:zB key (x::l) m):∃ m1 m2,m=m1++x::m2/\(∀ y∈m1,key y≠key x)/\zB key l (m1++m2):=by
 have d:=h (key x);rw [YR qS] at d;obtain ⟨m1,m2,rfl,i,_,_⟩:=List.filter_eq_cons_iff.1 d.symm;have f:∀ y∈m1,key y≠key x:=fun y c e=>i y c (by simpa using e);refine ⟨m1,m2,rfl,f,fun k=>?_⟩;have g:=(zB.swap (key:=key) (u:=m1) (v:=[x]) fun y c z j=>by
  obtain rfl:z=x:=by simpa using j
  exact f y c).app (pJ m2)
 rw [vA,vA] at g;have a:=(h.trans g) k;simp only [EB,SB] at a;by_cases b:key x=k
 · rw [YR (by simpa using b),YR (by simpa using b)] at a;exact (lI a).2
 rw [List.filter_cons_of_neg (by simpa using b),List.filter_cons_of_neg (by simpa using b)] at a;exact a
theorem zB.perm:∀ {l m:List α},zB key l m->l.Perm m
 | [],m,h=>by
   cases m with
   | nil=>exact ML _
   | cons y m=>have:=h.symm.mem (x:=y) qS;simp at this
 | x::l,m,h=>by obtain ⟨b,c,rfl,_,a⟩:=h.uncons;exact (List.Perm.cons x a.perm).trans List.perm_middle.symm
theorem zB.length {l m:List α} (h:zB key l m):l.length=m.length:=h.perm.length_eq
theorem XA.unique (L:Lin lt):∀ {l m:List α},XA lt key l->XA lt key m->zB key l m->l=m
 | [],m,_,_,h=>by have:=h.length;simp only [mC] at this;exact (EH.1 this.symm).symm
 | x::l,m,hl,hm,h=>by
   obtain ⟨b,j,rfl,i,c⟩:=h.uncons;have a:=TE.1 hl;cases b with
   | nil=>exact tB _ (XA.unique L a.2 (TE.1 hm).2 c)
   | cons y b =>
     exfalso;have d:=i y qS;have e:y∈l:=c.symm.mem qS;have f:=a.1 y e;have g:=(TE.1 hm).1 x qS;rcases L.tot (key x) (key y) with h | h | h
     · exact g h
     · exact d h.symm
     exact f h
theorem zB.back (L:Lin lt) (P1 P2:List α) (x:α) (h:∀ y∈P2,lt (key x) (key y)):zB key (P1++x::P2) (P1++P2++[x]):=by
 have a:zB key ([x]++P2) (P2++[x]):=zB.swap fun z c y d e=>by
  obtain rfl:z=x:=by simpa using c
  have:=h y d;rw [e] at this;exact L.irr _ this
 have b:=(pJ P1).app a;simpa only [vA,EB,SB] using b
theorem zB.forth (L:Lin lt) (P1 P2:List α) (x:α) (h:∀ y∈P1,lt (key y) (key x)):zB key (P1++x::P2) (x::(P1++P2)):=by
 have a:zB key (P1++[x]) ([x]++P1):=zB.swap fun y c z d e=>by
  obtain rfl:z=x:=by simpa using d
  have:=h y c;rw [e] at this;exact L.irr _ this
 have b:=a.app (pJ P2);simpa only [vA,EB,SB] using b
end
theorem XJ:Lin (fun a b:Int=>a<b):=⟨fun _=>qO,fun h c=>qO,fun _ _=>qO⟩
def ltS (a b:ByteArray):Prop:=a.data.toList<b.data.toList
theorem dX {x y:ByteArray} (h:x.data.toList=y.data.toList):x=y:=by cases x;cases y;simp only at h;congr 1;exact pR.1 h
theorem QD:Lin ltS:=⟨fun a=>List.lt_irrefl _,fun h c=>List.lt_trans h c,fun a b=>by
 unfold ltS;rcases Classical.em (a.data.toList<b.data.toList) with h | h
 · exact .inl h
 rcases Classical.em (b.data.toList<a.data.toList) with c | c
 · exact .inr (.inr c)
 exact .inr (.inl (dX (List.le_antisymm (List.not_lt.1 c) (List.not_lt.1 h))))⟩
theorem ZtO (a b:ByteArray):Op.bytesLess a.toList b.toList=true↔ltS a b:=by rw [Go.Proofs.bytesLess_eq,NC,BJ,BJ];exact Iff.rfl
theorem Zvt (a b:ByteArray):(a.toList==b.toList)=true↔a=b:=by rw [jE,BJ,BJ];exact ⟨dX,fun h=>by rw [h]⟩
theorem Zvu (a b:ByteArray):(Op.bytesLess a.toList b.toList || a.toList==b.toList)=true↔¬ ltS b a:=by
 rw [CH,ZtO,Zvt];constructor
 · rintro (h | rfl)
   · exact QD.asym h
   exact QD.irr _
 intro h;rcases QD.tot a b with c | c | c
 · exact .inl c
 · exact .inr c
 exact absurd c h
structure Srt (l m:List ByteArray):Prop where
 sorted:m.Pairwise ltS
 mem:∀ x,x∈m↔x∈l
end
section
open Go.RowKit
def wsum (ps:List PR):Nat:=(ps.map fun x=>(enc x.g).length).sum
theorem eX (a b:List PR):wsum (a++b)=wsum a+wsum b:=by simp [wsum]
end
section
open Go.RowKit Go.Shelf
attribute [local go_sem] oD
theorem fX {A B C:World} (h:Upd S A B) (k:Upd S B C):Upd S A C:=h.trans k qf
theorem iX (hS:∀ k,w.heap.size<=k->S k) (W:World) (l:Nat) (o o':Obj) (hl:w.heap.size<=l) (_:W.heap[l]?=some o) (_:o.isCells=false) (_:o.isWalk=false):Upd S W (W.putObj l o') :=
 (eA S W).grown (grownBy_putObj' W l o') fun k e=>.inl (by injection e with e;subst e;exact hS _ hl)
end
section
open Go.RowKit
theorem Zsa (w:World) (A:Option Addr) (n c:Nat) (fv:Value) (hn:n<=1):Calls Tryz.prog 211 #[.slice A n c,.int .i64 0,.int .i64 n,fv] w fun e w'=>e=.returned (.tuple #[])/\w'=w:=by
 go_enter Tryz.func211,Tryz.ntmps211;go_wp2_with fail;go_loopg [8] 0 (fun d a wr=>a=.int .i64 1/\wr=w)
 case atStart=>exact ⟨rfl,rfl⟩
 obtain ⟨rfl,rfl⟩:=hrel;have b:¬ (1:Int)<n:=qO;go_wp2;go_end0;exact ⟨rfl,rfl⟩
theorem Zqo (w:World) (A:Option Addr) (n c:Nat) (fv:Value) (hn:n<=1):Calls Tryz.prog 179 #[.slice A n c,.int .i64 n,fv] w fun e w'=>e=.returned (.tuple #[])/\w'=w:=by
 have d:¬ (20:Int)<=(n:Int):=qO;have f:¬ (20:Int)<(n:Int):=qO;go_enter Tryz.func179,Tryz.ntmps179;go_wp2_with fail;go_loopg [7,8] 0 (fun g a b wr=>a=.int .i64 0/\b=.int .i64 20/\wr=w)
 case atStart=>exact ⟨rfl,rfl,rfl⟩
 obtain ⟨rfl,rfl,rfl⟩:=hrel;go_wp2_with fail;refine (Zsa _ A n c fv hn).mono ?_;rintro e h ⟨rfl,rfl⟩;go_wp2_with fail;go_loopg [6,7,8,9] 0 (fun g i a b j wr=>i=.int .i64 20/\wr=h)
 case atStart=>exact ⟨rfl,rfl⟩
 obtain ⟨rfl,rfl⟩:=hrel;go_wp2;go_end0;exact ⟨rfl,rfl⟩
theorem Zmt (w:World) (A:Option Addr) (n c:Nat) (fv:Value) (hn:n<=1):Calls Tryz.prog 134 #[.slice A n c,fv] w fun e w'=>e=.returned (.tuple #[])/\w'=w:=by go_enter Tryz.func134,Tryz.ntmps134;go_wp2_with fail;refine (Zqo _ A n c fv hn).mono ?_;rintro e a ⟨rfl,rfl⟩;go_wp2;go_end0;exact ⟨rfl,rfl⟩
theorem ZtP (w:World) (A:Option Addr) (n c:Nat) (fv:Value) (hn:n<=1):Calls Tryz.prog 213 #[.slice A n c,.int .i64 0,.int .i64 n,fv] w fun e w'=>e=.returned (.tuple #[])/\w'=w:=by
 go_enter Tryz.func213,Tryz.ntmps213;go_wp2_with fail;go_loopg [8] 0 (fun d a wr=>a=.int .i64 1/\wr=w)
 case atStart=>exact ⟨rfl,rfl⟩
 obtain ⟨rfl,rfl⟩:=hrel;have b:¬ (1:Int)<n:=qO;go_wp2;go_end0;exact ⟨rfl,rfl⟩
theorem Zsb (w:World) (A:Option Addr) (n c:Nat) (fv:Value) (hn:n<=1):Calls Tryz.prog 181 #[.slice A n c,.int .i64 n,fv] w fun e w'=>e=.returned (.tuple #[])/\w'=w:=by
 have d:¬ (20:Int)<=(n:Int):=qO;have f:¬ (20:Int)<(n:Int):=qO;go_enter Tryz.func181,Tryz.ntmps181;go_wp2_with fail;go_loopg [7,8] 0 (fun g a b wr=>a=.int .i64 0/\b=.int .i64 20/\wr=w)
 case atStart=>exact ⟨rfl,rfl,rfl⟩
 obtain ⟨rfl,rfl,rfl⟩:=hrel;go_wp2_with fail;refine (ZtP _ A n c fv hn).mono ?_;rintro e h ⟨rfl,rfl⟩;go_wp2_with fail;go_loopg [6,7,8,9] 0 (fun g i a b j wr=>i=.int .i64 20/\wr=h)
 case atStart=>exact ⟨rfl,rfl⟩
 obtain ⟨rfl,rfl⟩:=hrel;go_wp2;go_end0;exact ⟨rfl,rfl⟩
theorem Zob (w:World) (A:Option Addr) (n c:Nat) (fv:Value) (hn:n<=1):Calls Tryz.prog 137 #[.slice A n c,fv] w fun e w'=>e=.returned (.tuple #[])/\w'=w:=by go_enter Tryz.func137,Tryz.ntmps137;go_wp2_with fail;refine (Zsb _ A n c fv hn).mono ?_;rintro e a ⟨rfl,rfl⟩;go_wp2;go_end0;exact ⟨rfl,rfl⟩
theorem Zsc (w:World) (A:Option Addr) (n c:Nat) (fv:Value) (hn:n<=1):Calls Tryz.prog 228 #[.slice A n c,.int .i64 0,.int .i64 n,fv] w fun e w'=>e=.returned (.tuple #[])/\w'=w:=by
 go_enter Tryz.func228,Tryz.ntmps228;go_wp2_with fail;go_loopg [8] 0 (fun d a wr=>a=.int .i64 1/\wr=w)
 case atStart=>exact ⟨rfl,rfl⟩
 obtain ⟨rfl,rfl⟩:=hrel;have b:¬ (1:Int)<n:=qO;go_wp2;go_end0;exact ⟨rfl,rfl⟩
theorem Zqp (w:World) (A:Option Addr) (n c:Nat) (fv:Value) (hn:n<=1):Calls Tryz.prog 209 #[.slice A n c,.int .i64 n,fv] w fun e w'=>e=.returned (.tuple #[])/\w'=w:=by
 have d:¬ (20:Int)<=(n:Int):=qO;have f:¬ (20:Int)<(n:Int):=qO;go_enter Tryz.func209,Tryz.ntmps209;go_wp2_with fail;go_loopg [7,8] 0 (fun g a b wr=>a=.int .i64 0/\b=.int .i64 20/\wr=w)
 case atStart=>exact ⟨rfl,rfl,rfl⟩
 obtain ⟨rfl,rfl,rfl⟩:=hrel;go_wp2_with fail;refine (Zsc _ A n c fv hn).mono ?_;rintro e h ⟨rfl,rfl⟩;go_wp2_with fail;go_loopg [6,7,8,9] 0 (fun g i a b j wr=>i=.int .i64 20/\wr=h)
 case atStart=>exact ⟨rfl,rfl⟩
 obtain ⟨rfl,rfl⟩:=hrel;go_wp2;go_end0;exact ⟨rfl,rfl⟩
theorem Zmu (w:World) (A:Option Addr) (n c:Nat) (fv:Value) (hn:n<=1):Calls Tryz.prog 176 #[.slice A n c,fv] w fun e w'=>e=.returned (.tuple #[])/\w'=w:=by go_enter Tryz.func176,Tryz.ntmps176;go_wp2_with fail;refine (Zqp _ A n c fv hn).mono ?_;rintro e a ⟨rfl,rfl⟩;go_wp2;go_end0;exact ⟨rfl,rfl⟩
end
section
def kM (s:ByteArray):List UInt8:=beb 1 s.size++s.data.toList
def kQ (p:GPr):List UInt8:=kM p.key++(beb 2 (enc p.val).length++enc p.val)
def lQ (ps:List GPr):List UInt8:=beb 1 ps.length++ps.flatMap kQ
def jX (x:NA):List UInt8:=beb 4 (u64 x.id)++(beb 1 x.labels.length++(x.labels.flatMap kM++lQ x.props))
def kX (x:GRel):List UInt8:=beb 4 (u64 x.id)++(beb 4 (u64 x.src)++(beb 4 (u64 x.dst)++(kM x.type++lQ x.props)))
def decA (l:List UInt8):GVal×Int:=decD l.length (decP l)
def psW (ps:List GPr):Nat:=(ps.map fun p=>(enc p.val).length).sum
def WB.wt (g:WB):Nat:=psW (g.nodes.flatMap NA.props)+psW (g.rels.flatMap GRel.props)
theorem ZtS {g:GVal} (h:chk g=0) (hf:g.Fits):decA (enc g)=(g,0):=ZtB h hf
theorem lX {l:List UInt8} (h:(decA l).2=0):chk (decA l).1=0/\(decA l).1.Fits/\enc (decA l).1=l:=ZrE (Prod.ext rfl h)
section rs
variable {s:RS} {t l:List UInt8}
def GPr.Wr (p:GPr):Prop:=p.key.size<=255/\chk p.val=0/\p.val.Fits/\(enc p.val).length<=65535
end rs
def Id32 (n:Int):Prop:=0<=n/\n<4294967296
structure NA.Wr (x:NA):Prop where
 id:Id32 x.id
 n:x.labels.length<=255
 lab:∀ l∈x.labels,l.size<=255
 np:x.props.length<=255
 pr:∀ p∈x.props,p.Wr
structure GRel.Wr (x:GRel):Prop where
 id:Id32 x.id
 src:Id32 x.src
 dst:Id32 x.dst
 type:x.type.size<=255
 np:x.props.length<=255
 pr:∀ p∈x.props,p.Wr
end
section
open Go.RowKit
section
variable {α κ:Type} {lt:κ->κ->Prop} {key:α->κ}
def Nlt (lt:κ->κ->Prop) (a b:κ):Prop:=¬ lt a b
theorem cross {l r:List α} (L:Lin lt) (hl:XA lt key l) (hr:XA lt key r) (hi:i<=l.length) (hj:j<=r.length) (c1:∀ y z,0<i->l[i-1]?=some y->r[j]?=some z->¬ lt (key z) (key y)) (c2:∀ y z,0<j->l[i]?=some y->r[j-1]?=some z->lt (key z) (key y)):
 (∀ x∈l.take i,∀ y∈r.drop j,¬ lt (key y) (key x))/\∀ x∈l.drop i,∀ y∈r.take j,lt (key y) (key x):=by
 have o:=WM.1 hl;have p:=WM.1 hr;have m:∀ (a b:Nat) (c:a<l.length) (d:b<l.length),a<=b->¬ lt (key l[b]) (key l[a]):=fun a b c d h=>by
  by_cases e:a=b
  · subst e;exact L.irr _
  exact o a b c d qO
 have n:∀ (a b:Nat) (c:a<r.length) (d:b<r.length),a<=b->¬ lt (key r[b]) (key r[a]):=fun a b c d h=>by
  by_cases e:a=b
  · subst e;exact L.irr _
  exact p a b c d qO
 constructor
 · intro x g y k;obtain ⟨a,c,rfl⟩:=XM g;obtain ⟨b,d,rfl⟩:=XM k;rw [RB] at c;rw [QA] at d;rw [sP,List.getElem_drop];have f:=c1 (l[i-1]'(qO)) (r[j]'(qO)) qO (FA qO) (FA qO);exact L.le_tr (L.le_tr (m a (i-1) qO qO qO) f) (n j (j+b) qO qO qO)
 intro x g y k;obtain ⟨a,c,rfl⟩:=XM g;obtain ⟨b,d,rfl⟩:=XM k;rw [QA] at c;rw [RB] at d;rw [sP,List.getElem_drop];have f:=c2 (l[i]'(qO)) (r[j-1]'(qO)) qO (FA qO) (FA qO);exact L.lt_le (L.le_lt (n b (j-1) qO qO qO) f) (m i (i+a) qO qO qO)
theorem aO {α:Type} (P Q:List α) (x:α) (h:P.length=j):(P++x::Q)[j]?=some x:=by rw [WG qO,h,SD];rfl
theorem mX {α:Type} (P Q:List α) (x y:α) (h:P.length=j):(P++x::Q).set j y=P++y::Q:=by rw [fI _ _ qO,h,SD];rfl
theorem Zvv {α:Type} (P M Q:List α) (x y:α) (hi:P.length=i) (hj:i+1+M.length=j):((P++x::(M++y::Q)).set i y).set j x=P++y::(M++x::Q):=by rw [mX P _ x y hi];have e:P++y::(M++y::Q)=(P++y::M)++y::Q:=qS;rw [e,mX (P++y::M) Q y x qP];simp
theorem ZtT {α:Type} (P M Q:List α) (x y:α) (hi:P.length=i) (hj:i+1+M.length=j):((P++x::(M++y::Q)).set j x).set i y=P++y::(M++x::Q):=by rw [List.set_comm _ _ qO];exact Zvv P M Q x y hi hj
theorem Zwz {α:Type} (P M Q:List α) (x y:α) (hi:P.length=i) (hj:i+1+M.length=j):(P++x::(M++y::Q))[j]?=some y:=by have e:P++x::(M++y::Q)=(P++x::M)++y::Q:=qS;rw [e];exact aO _ _ _ qP
theorem ZwA {S1 P1 P2:List α} {x:α} (L:Lin lt) [DecidableEq κ] (hs:XA lt key (P1++P2)) (hm:zB key (P1++P2) S1) (h1:∀ y∈P1,¬ lt (key x) (key y)) (h2:∀ y∈P2,lt (key x) (key y)):
 XA lt key (P1++x::P2)/\zB key (P1++x::P2) (S1++[x]) :=
 ⟨hs.ins h1 fun y a=>L.asym (h2 y a),(zB.back L P1 P2 x h2).trans (hm.app (pJ _))⟩
end
section
variable {α:Type} {f:α->List Value} {k:Nat}
theorem Zse (hf:∀ x,(f x).length=k):∀ (l:List α) (i:Nat) (x:α) (_:i<l.length),((l.set i x).flatMap f)=(l.flatMap f).take (i*k)++(f x++(l.flatMap f).drop (i*k+k)):=by
 intro l
 induction l with
 | nil=>intro i x h;simp at h
 | cons y l ih =>
   intro i x h;cases i with
   | zero =>
     simp only [CA,iD,Nat.zero_mul,List.take_zero,SB,AE];rw [List.drop_left' (hf y)]
   | succ i =>
     rw [JA,iD,iD,ih i x (by simpa using h)];have a:(f y++l.flatMap f).take ((i+1)*k)=f y++(l.flatMap f).take (i*k):=by rw [tP,hf,BG,cB (by rw [hf];omega)];congr 2;omega
     have b:(f y++l.flatMap f).drop ((i+1)*k+k)=(l.flatMap f).drop (i*k+k):=by rw [gP,hf,BG,BC (by rw [hf];omega),SB];congr 1;omega
     rw [a,b,vA]
theorem QG {n:Nat} {A:Option Addr} {l:List α} (h:w.ownsRow B T k (.slice A n c) n (l.flatMap f)) (hf:∀ x,(f x).length=k) (hk:0<k):l.length=n:=by have a:=h.1;rw [KG hf] at a;exact BR hk a
theorem nX {n:Nat} {e:TypeId} {k:Nat} {xs:List Value} (h:w.ownsRow B e k (.slice (some ⟨g,0,none⟩) n c) n xs):
 ∃ cur,B<=g/\Blk w g e cur/\n<=c/\c<=maxLen/\cur.size=c*k/\cur.toList.take (n*k)=xs:=by
 rcases h.2 with ⟨a,_⟩ | ⟨o,d,cur,a,f,i,b,j,l,m⟩
 · cases a
 injection a with h1 h2 h3
 injection h1 with h1
 injection h1 with h1 _ _
 subst h1 h3;exact ⟨cur,f,i,b,j,l,m⟩
theorem mQ {n:Nat} {l:List α} {x:α} (h:w.ownsRow B T k (.slice (some ⟨g,0,none⟩) n c) n (l.flatMap f)) (hf:∀ x,(f x).length=k) (hk:0<k) (hx:l[i]?=some x):
 i<n/\g<w.heap.size/\(∀ j u,(f x)[j]?=some u->w.cell? ⟨g,i*k+j,none⟩=some u)/\∀ j,w.frozen? ⟨g,j,none⟩=false:=by
 have r:=QG h hf hk;obtain ⟨b,d⟩:=IA.1 hx;obtain ⟨p,_,e,_,_,_,q⟩:=nX h;refine ⟨qO,e.lt,fun j u m=>?_,e.frozen⟩;have o:j<k:=by have:=(IA.1 m).1;rw [hf] at this;exact this
 have a:=ON hf l i j b o;rw [d,m,<-q,lL] at a;split at a
 · rw [e.cell,<-xL];exact a
 cases a
def putL (w:World) (g p:Nat):List Value->World
 | []=>w
 | u::us=>putL (w.setCell ⟨g,p,none⟩ u) g (p+1) us
theorem oX:∀ (us:List Value) {w:World} {g p:Nat} {T:TypeId} {f:Array Value},Blk w g T f->p+us.length<=f.size->∃ cur',Blk (putL w g p us) g T cur'/\cur'.toList=f.toList.take p++(us++f.toList.drop (p+us.length))
 | [],w,g,p,T,f,h,_=>⟨f,h,qS⟩
 | u::us,w,g,p,T,f,h,hp=>by
   rw [BA] at hp;obtain ⟨cur',d,e⟩:=oX us (h.put p u) (p:=p+1) (by rw [GJ];omega);refine ⟨cur',d,?_⟩;rw [e,RO];have a:p<f.toList.length:=by rw [UF];omega
   have b:(f.toList.set p u).take (p+1)=f.toList.take p++[u]:=by rw [kV,gA a,tP,RB,IJ (Nat.le_of_lt a),cB (by rw [RB];omega),IL];rfl
   have c:(f.toList.set p u).drop (p+1+us.length)=f.toList.drop (p+(us.length+1)):=by rw [List.drop_set_of_lt qO];congr 1;omega
   rw [b,c,vA,BA];rfl
theorem nQ:∀ (us:List Value) (w:World) (g p:Nat),Upd (fun b=>b=g) w (putL w g p us)
 | [],_,_,_=>eA _ _
 | u::us,w,g,p=>((eA (fun b=>b=g) w).put1 (i:=p) u).trans (nQ us _ g (p+1)) qf
theorem sT {n:Nat} {l:List α} (h:w.ownsRow B T k (.slice (some ⟨g,0,none⟩) n c) n (l.flatMap f)) (hf:∀ x,(f x).length=k) (hk:0<k) (hi:i<n) (x:α):
 (putL w g (i*k) (f x)).ownsRow B T k (.slice (some ⟨g,0,none⟩) n c) n ((l.set i x).flatMap f):=by
 have q:=QG h hf hk;obtain ⟨a,z,A,e,C,D,E⟩:=nX h;have r:i*k+k<=n*k:=by have:=gG k (show i+1<=n from hi);rw [BG] at this;exact this
 have s:n*k<=c*k:=gG k e;obtain ⟨b,F,o⟩:=oX (f x) A (p:=i*k) (by rw [hf];omega);have d:a.toList.length=c*k:=by rw [UF];exact D
 have j:b.size=c*k:=by rw [<- UF,o,kA,kA,RB,QA,hf,d];omega
 have m:((l.set i x).flatMap f).length=n*k:=by rw [KG hf,VF,q]
 refine ⟨m,.inr ⟨g,c,b,rfl,z,F,e,C,j,?_⟩⟩;rw [Zse hf l i x qO,o,<-E,hf];have t:(a.toList.take (n*k)).take (i*k)=a.toList.take (i*k):=by rw [List.take_take,IJ qO]
 have u:(a.toList.take (n*k)).drop (i*k+k)=(a.toList.drop (i*k+k)).take (n*k-(i*k+k)):=by rw [List.drop_take]
 rw [t,u];have v:(a.toList.take (i*k)).length=i*k:=by rw [RB,d];omega
 have y:=hf x;generalize a.toList.take (i*k)=X at *;generalize f x=Y at *;generalize a.toList.drop (i*k+k)=Z at *;generalize i*k=G at *;generalize n*k=H at *;rw [tP,v,cB qO,tP,y,cB qO];congr 3;omega
theorem ZtU {n:Nat} {l l':List α} (h:w.ownsRow B T k (.slice (some ⟨g,0,none⟩) n c) n (l.flatMap f)) (hf:∀ x,(f x).length=k) (hk:0<k) (hi:i<n) (hj:j<n) (x y:α) (he:(l.set i x).set j y=l'):
 (putL (putL w g (i*k) (f x)) g (j*k) (f y)).drew.ownsRow B T k (.slice (some ⟨g,0,none⟩) n c) n (l'.flatMap f)/\Upd (fun b=>b=g) w (putL (putL w g (i*k) (f x)) g (j*k) (f y)).drew:=by
 subst he;exact ⟨sT (sT h hf hk hi x) hf hk hj y,((nQ _ w g _).trans (nQ _ _ g _) qf).drew⟩
end
section
variable {α β κ:Type} {lt:κ->κ->Prop} [DecidableRel lt] {key:α->κ}
def insB (lt:κ->κ->Prop) [DecidableRel lt] (key:α->κ) (x:α):List α->List α
 | []=>[x]
 | y::l=>if lt (key y) (key x) then y::insB lt key x l else x::y::l
def sE (lt:κ->κ->Prop) [DecidableRel lt] (key:α->κ):List α->List α
 | []=>[]
 | x::l=>insB lt key x (sE lt key l)
theorem tT (L:Lin lt) (x:α):∀ l:List α,XA lt key l->∃ P1 P2,l=P1++P2/\insB lt key x l=P1++x::P2/\(∀ y∈P1,lt (key y) (key x))/\∀ y∈P2,¬ lt (key y) (key x)
 | [],_=>⟨[],[],rfl,rfl,qS,qS⟩
 | y::l,h=>by
   obtain ⟨d,e⟩:=TE.1 h;unfold insB;by_cases b:lt (key y) (key x)
   · obtain ⟨P1,P2,f,g,i,j⟩:=tT L x l e;rw [gA b,g];refine ⟨y::P1,P2,by rw [f];rfl,rfl,fun z a=>?_,j⟩;rcases TA.1 a with rfl | a
     · exact b
     exact i z a
   rw [aA b];refine ⟨[],y::l,rfl,rfl,qS,fun z a=>?_⟩;rcases TA.1 a with rfl | a
   · exact b
   exact fun c=>b (L.le_lt (d z a) c)
theorem uT (L:Lin lt):∀ l:List α,XA lt key (sE lt key l)
 | []=>XA.nil
 | x::l=>by have ih:=uT L l;obtain ⟨P1,f,a,b,c,d⟩:=tT L x _ ih;unfold sE;rw [b];rw [a] at ih;exact ih.ins (fun y e=>L.asym (c y e)) d
theorem pX [DecidableEq κ] (L:Lin lt):∀ l:List α,zB key (sE lt key l) l
 | []=>pJ _
 | x::l=>by have ih:=pX L l;obtain ⟨P1,a,b,c,d,e⟩:=tT (key:=key) L x _ (uT L l);unfold sE;rw [c];rw [b] at ih;exact (zB.forth L P1 a x d).trans ((pJ [x]).app ih)
theorem vT [DecidableEq κ] (L:Lin lt) {s l:List α} (h1:XA lt key s) (h2:zB key s l):s=sE lt key l :=
 XA.unique L h1 (uT L l) (h2.trans (pX L l).symm)
theorem RK [DecidableEq κ] (L:Lin lt) {l:List α} (h:XA lt key l):sE lt key l=l:=(vT L h (pJ _)).symm
end
section
variable {α β κ:Type} {lt:κ->κ->Prop} {key:α->κ}
theorem XA.map {c:β->κ} {f:α->β} (hk:∀ x,c (f x)=key x) {l:List α} (h:XA lt key l):XA lt c (l.map f):=by unfold XA at h ⊢;rw [SI];exact h.imp fun {a b} h=>by rw [hk,hk];exact h
theorem zB.map [DecidableEq κ] {a:β->κ} {f:α->β} (hk:∀ x,a (f x)=key x) {l m:List α} (h:zB key l m):zB a (l.map f) (m.map f):=fun k=>by
 have e:∀ l:List α,(l.map f).filter (fun x=>decide (a x=k))=(l.filter fun x=>decide (key x=k)).map f:=fun l=>by rw [aS];congr 1;exact uP fun x _=>by simp only [Function.comp,hk]
 rw [e,e,h k]
theorem zB.of_perm [DecidableEq α] {l m:List α} (h:l.Perm m):zB (fun x:α=>x) l m:=fun k=>by
 have e:∀ l:List α,(l.filter fun x=>decide (x=k))=List.replicate (l.filter fun x=>decide (x=k)).length k:=fun l=>by rw [List.eq_replicate_iff];exact ⟨rfl,fun b a=>by simpa using (JJ.1 a).2⟩
 rw [e l,e m,(h.filter _).length_eq]
end
theorem Zqq {α κ:Type} {key:α->κ} {i1 i2:DecidableEq κ} {l m:List α} (h:@zB α κ i1 key l m):@zB α κ i2 key l m:=by have e:i1=i2:=Subsingleton.elim _ _;subst e;exact h
instance ltS_dec:DecidableRel ltS:=fun a b=>inferInstanceAs (Decidable (a.data.toList<b.data.toList))
instance ltI_dec:DecidableRel (fun a b:Int=>a<b):=fun a b=>inferInstanceAs (Decidable (a<b))
abbrev nH (l:List ByteArray):List ByteArray:=sE ltS (fun x=>x) l
def canN (x:NA):NA:=⟨x.id,nH x.labels,sE ltS GPr.key x.props⟩
def canR (x:GRel):GRel:=⟨x.id,x.type,x.src,x.dst,sE ltS GPr.key x.props⟩
def tE (g:WB):WB:=⟨sE (fun a b:Int=>a<b) NA.id (g.nodes.map canN),sE (fun a b:Int=>a<b) GRel.id (g.rels.map canR)⟩
theorem Zod (ss:List (List UInt8)):((ss.mergeSort fun x y=>decide (x<=y)).map fun l=>(⟨l.toArray⟩:ByteArray))=nH (ss.map fun l=>(⟨l.toArray⟩:ByteArray)):=by refine vT QD ?_ ((zB.of_perm ((List.mergeSort_perm ss _).map _)));unfold XA;rw [SI];have d:=List.pairwise_mergeSort (le:=fun x y:List UInt8=>decide (x<=y)) (fun a b c d e=>by simp only [NC] at *;exact List.le_trans d e) (fun a b=>by simp only [CH,NC];exact List.le_total a b) ss;refine d.imp fun {a b} h=>?_;simp only [NC] at h;exact List.not_lt.2 h
def cmpI (a b:Int):Int:=if a<b then -1 else if b<a then 1 else 0
theorem qX (a b:Int):cmpI a b<0↔a<b:=by
 unfold cmpI;by_cases h:a<b
 · rw [gA h];simp [h]
 rw [aA h];constructor
 · intro c;split at c <;> omega
 intro c;omega
theorem wT (a:Int) (w:World):Calls Tryz.prog 180 #[.int .i64 a] w fun e w'=>e=.returned (.bool false)/\w=w':=by go_enter Tryz.func180,Tryz.ntmps180;go_wp2;go_ret;exact ⟨kD qS,rfl⟩
theorem rX (a b:Int) (w:World):Calls Tryz.prog 136 #[.int .i64 a,.int .i64 b] w fun e w'=>e=.returned (.int .i64 (cmpI a b))/\w=w':=by
 by_cases d:a<b
 · have c:=qH (show cmpI a b = -1 from gA d);go_enter Tryz.func136,Tryz.ntmps136;go_wp2_with (go_at_call 180;refine (wT _ _).mono ?_;rintro e w' ⟨rfl,rfl⟩);go_ret;exact ⟨by rw [c.out];rfl,rfl⟩
 by_cases f:b<a
 · have c:=qH (show cmpI a b=1 from by unfold cmpI;rw [aA d,gA f]);go_enter Tryz.func136,Tryz.ntmps136;go_wp2_with (go_at_call 180;refine (wT _ _).mono ?_;rintro e w' ⟨rfl,rfl⟩);go_ret;exact ⟨by rw [c.out];rfl,rfl⟩
 have c:=qH (show cmpI a b=0 from by unfold cmpI;rw [aA d,aA f]);go_enter Tryz.func136,Tryz.ntmps136;go_wp2_with (go_at_call 180;refine (wT _ _).mono ?_;rintro e w' ⟨rfl,rfl⟩);go_ret;exact ⟨by rw [c.out];rfl,rfl⟩
def cmpS (a b:ByteArray):Int:=Lib.compareBytes a.data.toList b.data.toList
theorem sX:∀ a b:List UInt8,Lib.compareBytes a b<0↔a<b
 | [],[]=>by simp [Lib.compareBytes]
 | [],_::_=>by simp [Lib.compareBytes]
 | _::_,[]=>by simp [Lib.compareBytes]
 | a::l,b::m=>by
   unfold Lib.compareBytes;rw [List.cons_lt_cons_iff];by_cases c:a<b
   · simp [c]
   rw [aA c];by_cases d:b<a
   · have e:a≠b:=by rintro rfl;exact c d
     simp [c,d,e]
   have e:a=b:=UInt8.le_antisymm (UInt8.not_lt.1 d) (UInt8.not_lt.1 c);rw [aA d,sX l m];simp [e]
theorem tX (a b:ByteArray):cmpS a b<0↔ltS a b:=sX _ _
theorem ZjY (a b:ByteArray) (w:World):Calls Tryz.prog 210 #[.string a,.string b] w fun e w'=>e=.returned (.int .i64 (cmpS a b))/\w=w':=by go_enter Tryz.func210,Tryz.ntmps210;go_wp2;rw [run_callFunc_extern Tryz.func230 qK qK qK (e:=Extern.BytealgCompare.compare) qK,Lib.run_compareString];simp only [Result.andThen];rw [Oper.upon_value];go_wp2;go_ret;exact ⟨rfl,rfl⟩
theorem Zjc (a b:ByteArray) (w:World):Calls Tryz.prog 178 #[.string a,.string b] w fun e w'=>e=.returned (.int .i64 (cmpS a b))/\w=w':=by go_enter Tryz.func178,Tryz.ntmps178;go_wp2_with fail;refine (ZjY _ _ _).mono ?_;rintro e w' ⟨rfl,rfl⟩;go_wp2;go_ret;exact ⟨rfl,rfl⟩
theorem uX {c:Int} (k l:ByteArray) (a1 a2 a3 a4 a5 b1 b2 b3 b4 b5:Value) (w0 w:World) (hc:cmpS k l=c) (hs:Same w0 w):
 Calls Tryz.prog 177 #[.agg #[.string k,a1,a2,a3,a4,a5],.agg #[.string l,b1,b2,b3,b4,b5]] w fun e w'=>e=.returned (.int .i64 c)/\Same w0 w':=by
 subst hc;go_enter Tryz.func177,Tryz.ntmps177;go_wp2_with fail;refine (Zjc _ _ _).mono ?_;rintro e w' ⟨rfl,rfl⟩;go_wp2;go_ret;exact ⟨rfl,hs.same (((eA _ w).alloc _).alloc _)⟩
theorem oQ {c:Int} (k l:Int) (a1 a2 b1 b2:Value) (w0 w:World) (hc:cmpI k l=c) (hs:Same w0 w):
 Calls Tryz.prog 135 #[.agg #[.int .i64 k,a1,a2],.agg #[.int .i64 l,b1,b2]] w fun e w'=>e=.returned (.int .i64 c)/\Same w0 w':=by
 subst hc;go_enter Tryz.func135,Tryz.ntmps135;go_wp2_with fail;refine (rX _ _ _).mono ?_;rintro e w' ⟨rfl,rfl⟩;go_wp2;go_ret;exact ⟨rfl,hs.same (((eA _ w).alloc _).alloc _)⟩
theorem pQ {c:Int} (k l:Int) (a1 a2 a3 a4 b1 b2 b3 b4:Value) (w0 w:World) (hc:cmpI k l=c) (hs:Same w0 w):
 Calls Tryz.prog 138 #[.agg #[.int .i64 k,a1,a2,a3,a4],.agg #[.int .i64 l,b1,b2,b3,b4]] w fun e w'=>e=.returned (.int .i64 c)/\Same w0 w':=by
 subst hc;go_enter Tryz.func138,Tryz.ntmps138;go_wp2_with fail;refine (rX _ _ _).mono ?_;rintro e w' ⟨rfl,rfl⟩;go_wp2;go_ret;exact ⟨rfl,hs.same (((eA _ w).alloc _).alloc _)⟩
end
end Go.Proofs.YtmkjfhnlnhceiaaGreatDoor
