/- Lemmas: walks and plain laws. -/
import Derived.RangeFuncNested
import Derived.RangeFuncBound
import Derived.RangeFuncCalls
import Derived.RangeFuncLeaves
import Derived.RangeFuncBox
import Derived.Shelf.Abstract
import Derived.Shelf.RegionOpen
import Derived.OwnWalkIn
import Derived.TacticsInMore
import Derived.LoopNIn
import Derived.LoopIn
import Derived.Maps.OwnSet
import Derived.Test.YtmkjfhnlnhceiaaGreatDoorF04
set_option maxRecDepth 100000
set_option maxHeartbeats 16000000
namespace Go.Proofs.YtmkjfhnlnhceiaaGreatDoor
variable {T U:TypeId->Prop} {B B' k g vs low:Nat} {W W' w:World} {o:Obj} {cs:Array Value} {t e:TypeId} {v z key:Value} {S:Nat->Prop} {R:Ending->World->Prop} {i:Int} {s:ByteArray}
section
open Go.RowKit
def yB (T:TypeId->Prop) (B:Nat) (W:World) (k:Nat):Prop:=B<=k/\∃ o,W.heap[k]?=some o/\(o.isCells=false\/∃ cs t fr,o=.cells cs t fr/\T t)
def AbR {β:Type} (T:TypeId->Prop) (B:Nat) (J:β->World->Prop):Prop:=∀ s W W',J s W->Upd (yB T B W) W W'->J s W'
theorem yB.mono {T':TypeId->Prop} (h:yB T B W k) (hB:B'<=B) (hT:∀ t,T t->T' t):yB T' B' W k:=by obtain ⟨g,o,a,b⟩:=h;exact ⟨qO,o,a,b.imp id fun ⟨c,t,d,e,f⟩=>⟨c,t,d,e,hT _ f⟩⟩
theorem yB.nc (h:W.heap[k]?=some o) (ho:o.isCells=false) (hB:B<=k):yB T B W k:=⟨hB,o,h,.inl ho⟩
abbrev GE:=@yB.nc
theorem yB.trans {A C:World} (h:Upd (yB T B A) A W) (k:Upd (yB T B W) W C):Upd (yB T B A) A C :=
 ⟨k.os.trans h.os,k.tape.trans h.tape,k.output.trans h.output,tA h.size k.size,fun b c d=>by have a:=h.block b c d;refine (k.block b (RF c h.size) fun e=>d ?_).trans a;obtain ⟨f,o,g,i⟩:=e;exact ⟨f,o,by rw [<- a];exact g,i⟩⟩
abbrev bM:=@yB.trans
def SeqR {α:Type} (T:TypeId->Prop) (F:Fence) (n:Nat) (P:Program) (g:Nat) (lb:Array Value) (encs:α->Array Value) (Kp:α->World->World->Prop) (R:List α->α->World->Prop) (S Sp:List α->Prop) (w:World):Prop :=
 ∀ (l:Nat) (J Jx:List α->World->Prop) (W:World),Below w.heap.size w W->AbR T W.heap.size J->AbR T W.heap.size Jx ->
  (∀ pre x W1,J pre W1->R pre x W1->YieldAt F (n-1) P l (encs x) W1 fun e W'=>KeepsFrom W.heap.size W1 W' /\
    ((e=.returned (.bool true)/\J (pre++[x]) W'/\Kp x W1 W')\/(e=.returned (.bool false)/\Jx (pre++[x]) W'))) ->
  J [] W ->
  CallsIn F n P g (#[.func (.yield l) #[] #[]]++lb) W fun e W'=>(∃ v,e=.returned v)/\((∃ xs,S xs/\J xs W')\/(∃ pre,Sp pre/\Jx pre W'))
variable {F:Fence} {n:Nat} {P:Program}
theorem tW {α:Type} {T:TypeId->Prop} {g:Operand} {ps:Array Tmp} {assign body:Code} {Q:Exit->Act->World->Prop} {a:Act} {w:World}
 (hro:F.round=none) (h1:1<=n) {gf:Nat} {lb:Array Value} (hg:a.eval g=.func (.func gf) #[] lb) (hFg:F.fn gf) (eg:∀ args w,(callFunc gf args).run P w=.ok (.enter gf args) w)
 {encs:α->Array Value} {Kp:α->World->World->Prop} {R:List α->α->World->Prop} {S Sp:List α->Prop} {w0:World} (hseq:SeqR T F (n-1) P gf lb encs Kp R S Sp w0)
 (hKt:∀ {x:α} {A B C:World},Kp x A B->Kp x B C->Kp x A C) (hKb:∀ (x:α) (W:World) (l:Nat) (o o':Obj),w.heap.size<=l->W.heap[l]?=some o->o.isCells=false->Kp x W (W.putObj l o'))
 (hb0:Below w0.heap.size w0 w) (hps:∀ x,(encs x).size=ps.size)
 (I:List α->World->Prop) (Ix:Code->List α->World->Prop) (hI:AbR T w.heap.size I) (hIx:∀ c,AbR T w.heap.size (Ix c)) (h0:I [] w)
 (Ax:List α->α->Act->World->Prop) (hAx:∀ (pre:List α) (x:α) (a':Act) (W:World) (l:Nat) (o o':Obj),w.heap.size<=l->W.heap[l]?=some o->o.isCells=false->Ax pre x a' W->Ax pre x a' (W.putObj l o'))
 (hassign:∀ (l:Nat) (pre:List α) (x:α) (W:World) (K:Act->World->Prop),I pre W->R pre x W->(∀ a' W',KeepsFrom w.heap.size W W'->Kp x W W'->I pre W'->Ax pre x a' W'->K a' W') ->
   assign.wpIn (F.inRound l) (n-1-1) P (Exit.then K (fun _ _ _=>False)) { tmps:=(ps.zip (encs x)).foldl (fun t (p,v)=>t.setIfInBounds p v) a.tmps,defers:=[] } W)
 (hbody:∀ (l:Nat) (pre:List α) (x:α) (a':Act) (W:World),w.heap.size<=l->(∃ r,W.heap[l]?=some (.loop r))->I pre W->Ax pre x a' W->body.wpIn (F.inRound l) (n-1-1) P (ownPostG w.heap.size (Kp x) I Ix (pre++[x]) W) a' W)
 (hdone:∀ (D:Nat) (xs:List α) (W:World),w.heap.size<=D->S xs->I xs W->W.heap[D]?=some (.deferred (some []))->Q .normal { a with defers:={ target:=.collected D,args:=#[] }::a.defers } W)
 (hstop:∀ (D:Nat) (c:Code) (pre:List α) (W:World),w.heap.size<=D->Sp pre->Ix c pre W->W.heap[D]?=some (.deferred (some []))->c.wpIn F n P Q { a with defers:={ target:=.collected D,args:=#[] }::a.defers } W) :
 (Code.rangeFunc g ps assign body).wpIn F n P Q a w:=by
 refine wpIn_rangeFunc fun fn af=>?_;rw [hro];obtain ⟨b,i⟩:∃ b:LoopState->Option Code->Loop,b=fun st pe=>{ state:=st,pending:=pe,fn,tmps:=a.tmps,params:=ps,assign,body,defers:=w.heap.size }:=⟨_,rfl⟩
 obtain ⟨m,hm⟩:∃ m,w.heap.size=m:=⟨_,rfl⟩
 obtain ⟨z,L⟩:∃ z,(w.alloc (.deferred (some []))).alloc (.loop (b .ready none))=z:=⟨_,rfl⟩
 have a0:z.heap.size=m+2:=by rw [<- L,aB,aB,hm]
 have a1:Upd (fun _=>False) w z:=by rw [<- L];exact ((eA _ w).alloc _).alloc _
 have a8:z.heap[m+1]?=some (.loop (b .ready none)):=by have h2:=World.alloc_heap_new (w.alloc (.deferred (some []))) (.loop (b .ready none));rwa [aB,L,hm] at h2
 have a9:z.heap[m]?=some (.deferred (some [])):=by rw [<- L,<-hm];exact (FM _ _ _ (by simp)).trans (World.alloc_heap_new w _)
 have aa:I [] z:=hI _ _ _ h0 (a1.mono fun _ _ f=>f.elim);have ab:Below w0.heap.size w0 z:=hb0.trans ((Same.below a1).mono hb0.size);refine ⟨m+1,[{ target:=.collected m,args:=#[] }],z,{ target:=.fn (.func gf) lb,args:=#[.func (.yield (m+1)) #[] #[]] },z,gf,
  #[.func (.yield (m+1)) #[] #[]]++lb,z,?_,?_,?_,?_,fun _=>h1,?_⟩
 · rw [<- L,i,<-hm];exact run_enterLoop_outer _ _ _ _ _
 · simp only [resolve,hg];simp [go_sem]
 · intro f' a5;simp [Target.leads] at a5;subst a5;exact hFg
 · simp [invoke,go_sem,eg]
 rw [hm] at hI hIx hKb hAx hassign hbody hdone hstop;have up:∀ {A B:World},Upd (yB T z.heap.size A) A B->Upd (yB T m A) A B:=fun M=>M.mono fun k _ h=>h.mono (by omega) fun _ h=>h;have E:∀ {A B:World} {k:Nat} {o:Obj},Upd (yB T z.heap.size A) A B->k<m+2->A.heap[k]?=some o->B.heap[k]?=some o:=fun M H ho =>
  (M.block _ (sC.1 ho).1 fun h=>by have:=h.1;omega).trans ho
 refine (hseq (m+1) (fun pre W=>I pre W/\W.heap[m+1]?=some (.loop (b .ready none))/\W.heap[m]?=some (.deferred (some [])))
  (fun pre W=>∃ c,Ix c pre W/\W.heap[m+1]?=some (.loop (b .done (some c)))/\W.heap[m]?=some (.deferred (some []))) z ab
  (fun s A B hs M=>⟨hI s A B hs.1 (up M),E M (by omega) hs.2.1,E M (by omega) hs.2.2⟩)
  (fun s A B ⟨c,hc,y,H⟩ M=>⟨c,hIx c s A B hc (up M),E M (by omega) y,E M (by omega) H⟩)
  ?_ ⟨aa,a8,a9⟩).mono ?_
 · rintro pre x W ⟨hi,y,H⟩ hr;have hy:=run_yield (P:=P) (args:=encs x) y (by rw [i];exact hps x);rw [i] at hy;refine ⟨fn,_,assign,body,hy,roundIn_of_wpIn af (hassign _ pre x W _ hi hr ?_)⟩;clear hy;have pt:∀ {V:World} {o:Obj} (o':Obj),V.heap[m+1]?=some o->o.isCells=false->Upd (yB T m V) V (V.putObj (m+1) o'):=fun o' hV hc =>
    (eA _ _).grown (grownBy_putObj' _ (m+1) o') fun k e=>by cases e;exact .inl (GE hV hc (by omega))
   have kp:∀ {V:World} (o':Obj),KeepsFrom (m+2) V (V.putObj (m+1) o'):=fun {V} o'=>⟨(grownBy_putObj' V (m+1) o').size,fun k o H ho _=>(World.putObj_heap_other (by omega)).trans ho⟩
   have km:∀ {A B:World},KeepsFrom m A B->KeepsFrom (m+2) A B:=fun h=>⟨h.size,fun k o H=>h.same k o (by omega)⟩
   intro a' Wa G a6 ag ah;replace y:=G.same _ _ (by omega) y rfl;replace H:=G.same _ _ (lA _) H rfl;clear hi hr;have ac:m+1<Wa.heap.size:=(sC.1 y).1;refine ⟨_,run_beginRound y (by rw [i]),?_⟩;have a2:(Wa.putObj (m+1) (.loop { b .ready none with state:=.busy })).heap[m+1]?=some (.loop { b .ready none with state:=.busy }):=World.putObj_heap_same ac;have ad:(Wa.putObj (m+1) (.loop { b .ready none with state:=.busy })).heap[m]?=some (.deferred (some [])):=(World.putObj_heap_other (by omega)).trans H;refine wpIn_mono (hbody _ pre x a' _ (by omega) ⟨_,a2⟩ (hI _ _ _ ag (pt _ y rfl)) (hAx _ _ _ _ _ _ _ (by omega) y rfl ah)) ?_;have ae:=hKb x Wa (m+1) _ (.loop { b .ready none with state:=.busy }) (by omega) y rfl;have a4:∀ (d:Option Code) (q:World),KeepsFrom m (Wa.putObj (m+1) (.loop { b .ready none with state:=.busy })) q ->
    (Instr.endRound (m+1) d).run P q=.ok (.bool d.isNone) (q.putObj (m+1) (.loop (b (if d.isNone then .ready else .done) d))) /\
    q.heap[m+1]?=some (.loop { b .ready none with state:=.busy }) /\
    (q.putObj (m+1) (.loop (b (if d.isNone then .ready else .done) d))).heap[m+1]?=some (.loop (b (if d.isNone then .ready else .done) d)) /\
    (q.putObj (m+1) (.loop (b (if d.isNone then .ready else .done) d))).heap[m]?=some (.deferred (some [])):=fun d q u=>by
    have j:=u.same _ _ (by omega) a2 rfl;have h4:=run_endRound (P:=P) d j;rw [i] at h4 j ⊢;exact ⟨h4,j,World.putObj_heap_same (sC.1 j).1,(World.putObj_heap_other (by omega)).trans (u.same _ _ (lA _) ad rfl)⟩
   have O:∀ (c:Code) (q:World),KeepsFrom m (Wa.putObj (m+1) (.loop { b .ready none with state:=.busy })) q->Ix c (pre++[x]) q ->
    ∃ v W4,(Instr.endRound (m+1) (some c)).run P q=.ok v W4/\KeepsFrom z.heap.size W W4/\((Ending.returned v=.returned (.bool true)/\(I (pre++[x]) W4/\W4.heap[m+1]?=some (.loop (b .ready none))/\W4.heap[m]?=some (.deferred (some [])))/\Kp x W W4) \/
     (Ending.returned v=.returned (.bool false)/\∃ c,Ix c (pre++[x]) W4/\W4.heap[m+1]?=some (.loop (b .done (some c)))/\W4.heap[m]?=some (.deferred (some [])))):=fun c q u U=>by
    obtain ⟨X,j,Y,Z⟩:=a4 (some c) q u;exact ⟨_,_,X,by rw [a0];exact (((km G).trans (kp _)).trans (km u)).trans (kp _),.inr ⟨rfl,c,hIx c _ _ _ U (pt _ j rfl),Y,Z⟩⟩
   rintro e a3 q N;cases e with
   | normal =>
     obtain ⟨u,a7,U⟩:=N;obtain ⟨X,j,Y,Z⟩:=a4 none q u;exact ⟨_,_,X,by rw [a0];exact (((km G).trans (kp _)).trans (km u)).trans (kp _),.inl ⟨rfl,⟨hI _ _ _ U (pt _ j rfl),Y,Z⟩,hKt a6 (hKt (hKt ae a7) (hKb x _ _ _ _ (by omega) j rfl))⟩⟩
   | ret=>exact O .ret q N.1 N.2
   | exit id=>exact O (.exit id) q N.1 N.2
   | goto t=>exact O (.goto t) q N.1 N.2
   | panic ch=>exact N.elim
   | outgrown=>exact N.elim
 have pt:∀ {V:World} {o:Obj} (o':Obj),V.heap[m+1]?=some o->o.isCells=false->Upd (yB T m V) V (V.putObj (m+1) o'):=fun o' hV hc =>
  (eA _ _).grown (grownBy_putObj' _ (m+1) o') fun k e=>by cases e;exact .inl (GE hV hc (by omega))
 rintro e W2 ⟨⟨v,rfl⟩,(⟨xs,hS,hi,y,H⟩ | ⟨pre,ai,c,hi,y,H⟩)⟩
 · exact ⟨none,_,by have h3:=run_endLoop (P:=P) y (by rw [i];simp);rw [i] at h3;exact h3,hdone _ xs _ (lA _) hS (hI _ _ _ hi (pt _ y rfl)) ((World.putObj_heap_other (by omega)).trans H)⟩
 exact ⟨some c,_,by have h3:=run_endLoop (P:=P) y (by rw [i];simp);rw [i] at h3;exact h3,hstop _ c pre _ (lA _) ai (hIx c _ _ _ hi (pt _ y rfl)) ((World.putObj_heap_other (by omega)).trans H)⟩
theorem yB.cells {fr:Nat×Nat} (h:yB T B W k) (hk:W.heap[k]?=some (.cells cs t fr)):T t:=by
 obtain ⟨_,o,a,b⟩:=h;rw [hk] at a;injection a with a
 subst a;rcases b with b | ⟨d,g,e,c,f⟩
 · cases b
 injection c with _ c
 subst c;exact f
theorem Blk.it (h:Blk W g t cs) (hu:Upd (yB U B W) W W') (ht:¬ U t):Blk W' g t cs :=
 h.upd hu fun a=>ht (a.cells h)
theorem IB.it {x:BS} (h:IB W B x) (hu:Upd (yB T B' W) W W') (ht:¬ T 5):IB W' B x :=
 h.upd hu fun _ ⟨_,_,_,_,a⟩ b=>ht (b.cells a)
theorem cM {n:Nat} {xs:List Value} (h:W.ownsRow g e k v n xs) (hu:Upd (yB T B' W) W W') (ht:¬ T e):W'.ownsRow g e k v n xs :=
 GA h hu fun b a c=>by obtain ⟨f,d⟩:=LA h a;exact ht (c.cells d)
theorem OD.it {l:List BS} (h:OD W B v l) (hu:Upd (yB T B' W) W W') (ht:¬ T 5) (b:¬ T 39):OD W' B v l :=
 ⟨cM h.row hu b,fun x a=>(h.each x a).it hu ht⟩
theorem ZD (hu:Upd S W W') (h:∀ k,S k->B<=k->∀ o,W.heap[k]?=some o->o.isCells=true):KeepsFrom B W W' :=
 ⟨hu.size,fun k o d a c=>by
  by_cases b:S k
  · rw [h k b d o a] at c;cases c
  exact (hu.block k (sC.1 a).1 b).trans a⟩
theorem OfT.cells (h:OfT w e g) (ho:w.heap[g]?=some o):o.isCells=true:=by
 obtain ⟨b,a⟩:=h;unfold Blk at a;rw [ho] at a;injection a with a
 subst a;rfl
abbrev TN:=@OfT.cells
theorem OfT.itSet (h:OfT w e g) (hB:B<=g) (ht:T e):yB T B w g:=by obtain ⟨b,a⟩:=h;exact ⟨hB,_,a,.inr ⟨_,_,_,rfl,ht⟩⟩
abbrev dH:=@OfT.itSet
theorem Same.it (h:Same w W) (hu:Upd (yB T B W) W W') (hB:w.heap.size<=B):Same w W' :=
 h.trans hu fun b c a=>qt a.1
theorem OwnB.tyb {n c:Nat} {A:Option Addr} {bs:List UInt8} (hn:bs.length=n) (h:OwnB w B (.slice A n c) bs):pA w (TyB w 0) A n c bs :=
 TL (VS hn h) fun b d e=>⟨oA _,d,by obtain ⟨f,i⟩:=LA h (g:=b) (by have a:A=some ⟨b,0,none⟩:=e.1;rw [a];rfl);exact ⟨f,_,i⟩⟩
abbrev NK:=@OwnB.tyb
theorem Zvk {α β:Type} {f:α->β} {L:List β} {a:List α} {x:α} (h:a.map f=L.take k) (hx:L[k]?=some (f x)):(a++[x]).map f=L.take (k+1):=by rw [DB,h,eD,hx];rfl
theorem Zvl {α β:Type} {f:α->β} {L:List β} {b:List α} (h:b.map f=L.take k) (hk:k<=L.length):b.length=k:=by have a:=tB List.length h;rw [nA,RB] at a;omega
variable {F:Fence} {n:Nat} {P:Program}
def Zqi (P:Program) (l:Nat) (R:Ending->World->Prop):Exit->Act->World->Prop
 | .panic ch,a,w=>a.defers=[]/\R (.panicked ch) w
 | e,a,w=>roundPost P l R e a w
theorem ZrO {l:Nat} {f:FuncId} {tmps:Array Value} {M L:Code} (hF:F.fn f) (hx:∃ fn,P.funcs[f]?=some fn)
 (h:M.wpIn (F.inRound l) n P (Exit.then (fun a₁ w₁=>∃ w₂,(Instr.beginRound l).run P w₁=.ok () w₂/\L.wpIn (F.inRound l) n P (Zqi P l R) a₁ w₂) (fun _ _ _=>False))
   { tmps:=tmps,defers:=[] } w):
 RoundIn F n P l f tmps M L w R:=by
 refine ⟨hF,fun c u G=>?_⟩
 let b:Frame:={ (default:Frame) with fn:=f,kind:=.normal,roundOf:=some l }
 have A:Frame.round l f tmps M L .normal=b.atR { tmps:=tmps,defers:=[] } [.code M,.beginRound,.code L]:=by simp [Frame.round,Frame.atR,b]
 have i:(F.inRound l).room ((c::u).length+1+n):=G;have j:(F.inRound l).fn b.fn:=hF;obtain ⟨e,a₁,w₁,r,g⟩:=h b [.beginRound,.code L] (c::u) rfl j i;rw [<- A] at g;cases e with
 | normal =>
   obtain ⟨w₂,B,o⟩:=r;have s:StepsIn (Machine.fenced P (F.inRound l)) P (lone (b.atR a₁ [.beginRound,.code L]) (c::u) w₁) (lone (b.atR a₁ [.code L]) (c::u) w₂) :=
    .one (RM (fr:=b.atR a₁ [.beginRound,.code L]) j i rfl) (stepR_beginRound rfl B)
   obtain ⟨H,x,E,k,a⟩:=o b [] (c::u) rfl j i;cases H with
   | normal =>
     obtain ⟨v,p,d,m⟩:=k;exact ⟨.returned v,p,m,(jG g s).trans (jG a (.one (RM (fr:=b.atR x []) j i rfl) (stepR_round_end rfl rfl d)))⟩
   | ret =>
     obtain ⟨v,p,d,m⟩:=k;obtain ⟨y,q⟩:=a.2 rfl;exact ⟨.returned v,p,m,(jG g s).trans (jG q (.one (RM (fr:=b.atR x (.code .ret::y)) j i rfl) (stepR_round_ret rfl rfl d)))⟩
   | exit id =>
     obtain ⟨v,p,d,m⟩:=k;obtain ⟨y,C,q⟩:=a.2 rfl rfl;exact ⟨.returned v,p,m,(jG g s).trans (jG q (.one (RM (fr:=b.atR x (.code (.exit id)::y)) j i rfl) (stepR_round_exit rfl rfl C d)))⟩
   | goto t =>
     obtain ⟨v,p,d,m⟩:=k;obtain ⟨y,C,q⟩:=a.2 rfl rfl;exact ⟨.returned v,p,m,(jG g s).trans (jG q (.one (RM (fr:=b.atR x (.code (.goto t)::y)) j i rfl) (stepR_round_goto rfl rfl C d)))⟩
   | panic ch =>
     obtain ⟨I,m⟩:=k;obtain ⟨z,q⟩:=a;have D:({ b.atR x z with mode:=.panicking ch }:Frame).leaving P E (.panicked ch):=⟨rfl,I,hx⟩
     refine ⟨.panicked ch,E,m,(jG g s).trans (jG q (.one ?_ (step_leave_panicked D)))⟩;exact fenced_leaving j i D
   | outgrown=>exact k.elim
 | exit id=>exact r.elim
 | goto t=>exact r.elim
 | ret=>exact r.elim
 | panic chain=>exact r.elim
 | outgrown=>exact r.elim
def wp2 (G:FuncId->Prop) (P:Program) (c:Code) (Q:Exit->Act->World->Prop) (a:Act) (w:World):Prop :=
 ∀ (b:Frame) (k:List Item) (cs:List Frame),b.roundOf=none->G b.fn ->
  ∃ e a' w',Q e a' w'/\ArrivesIn (Machine.fenced P Fence.wide) P (lone (b.atR a (.code c::k)) cs w) b k cs e a' w'
section
variable {G:FuncId->Prop} {Q:Exit->Act->World->Prop} {a:Act} {w:World}
theorem eH {c:Code} (h:c.wp P Q a w):wp2 G P c Q a w:=fun b k e d _=>(eI (n:=0)).2 h b k e d trivial (room_wide _)
theorem PH {x y:Code} (h:wp2 G P x (Exit.then (wp2 G P y Q) Q) a w):wp2 G P (Code.seq x y) Q a w:=by
 intro b k n i p;have f:(lone (b.atR a (.code (.seq x y)::k)) n w).fenced P Fence.wide:=FJ _ _;obtain ⟨e,j,m,g,c⟩:=h b (.code y::k) n i p;cases e with
 | normal =>
   obtain ⟨q,r,s,o,d⟩:=g b k n i p;exact ⟨q,r,s,o,.of_steps (.head f yL c) d⟩
 | exit id=>exact ⟨_,j,m,g,.of_steps (.one f yL) (.pass (x:=.code y) rfl (fun _ _=>.inl qS) c)⟩
 | goto l=>exact ⟨_,j,m,g,.of_steps (.one f yL) (.pass (x:=.code y) rfl (fun _ _=>.inl qS) c)⟩
 | ret=>exact ⟨_,j,m,g,.of_steps (.one f yL) (.pass (x:=.code y) rfl (fun _ _=>.inl qS) c)⟩
 | panic ch=>exact ⟨_,j,m,g,.of_steps (.one f yL) (.pass (x:=.code y) rfl (fun _ _=>.inl qS) c)⟩
 | outgrown=>exact ⟨_,j,m,g,.of_steps (.one f yL) (.pass (x:=.code y) rfl (fun _ _=>.inl qS) c)⟩
def Zqj (G:FuncId->Prop) (P:Program) (l:Nat) (Q:Exit->Act->World->Prop) (a':Act):Ending->World->Prop
 | .returned _,w₃=>∃ jump w₄,(Instr.endLoop l).run P w₃=.ok jump w₄ /\
    (match jump with
     | none=>Q .normal a' w₄
     | some c=>wp2 G P c Q a' w₄)
 | .panicked chain,w₃=>Q (.panic chain) a' w₃
 | .outgrown,_=>LetsOut Q
theorem Zld {g:Operand} {ps:Array Tmp} {U V:Code} {n:Nat}
 (h:∀ fn,G fn->∃ (l:Nat) (mark:List Deferred) (w₁:World) (d:Deferred) (W:World) (f:FuncId) (args:Array Value) (w₂:World),
   (Instr.enterLoop fn a.tmps ps U V none).run P w=.ok (l,mark) w₁ /\
   (resolve a.eval (rangeCall g l) 0).run P w₁=.ok d W /\
   (invoke d.target d.args).run P W=.ok (.enter f args) w₂ /\
   CallsIn Fence.wide n P f args w₂ (Zqj G P l Q { a with defers:=mark++a.defers })):
 wp2 G P (Code.rangeFunc g ps U V) Q a w:=by
 intro b k cs r E;obtain ⟨l,mark,w₁,d,W,f,args,w₂,F,s,t,T,q⟩:=h b.fn E;rw [<- r] at F;have D:(lone (b.atR a (.code (.rangeFunc g ps U V)::k)) cs w).fenced P Fence.wide:=FJ _ _;have i:=stepR_rangeFunc (P:=P) (b:=b) (a:=a) (k:=k) (cs:=cs) (w:=w) F s t;obtain ⟨e,z,H,A,j,M,m⟩:=q (b.atR { a with defers:=mark++a.defers } (.inRangeFunc l::k)::cs) (room_wide _);cases e with
 | outgrown =>
   obtain ⟨N,O,B⟩:=A;exact ⟨.outgrown,N,O,B,.inr (Outgrown.of_steps (.one i) j)⟩
 | returned v =>
   have y:(lone H (b.atR { a with defers:=mark++a.defers } (.inRangeFunc l::k)::cs) z).fenced P Fence.wide:=FJ _ _;obtain ⟨p,I,u,L⟩:=A;have o:StepsIn (Machine.fenced P Fence.wide) P (lone (b.atR a (.code (.rangeFunc g ps U V)::k)) cs w) (lone (b.atR { a with defers:=mark++a.defers } ((p.map Item.code).toList++k)) cs I):=by refine .head D i (jG j (.head y ?_ (.one (FJ _ _) (stepR_endRangeFunc u))));rw [<- finish_atR_inRangeFunc l v];exact step_leave_returned m
   cases p with
   | none=>exact ⟨.normal,_,I,L,o⟩
   | some c =>
     obtain ⟨R,C,S,B,x⟩:=L b k cs r E;exact ⟨R,C,S,B,.of_steps o x⟩
 | panicked chain =>
   have y:(lone H (b.atR { a with defers:=mark++a.defers } (.inRangeFunc l::k)::cs) z).fenced P Fence.wide:=FJ _ _;refine ⟨.panic chain,_,z,A,.inRangeFunc l::k,.head D i (jG j (.one y ?_))⟩;rw [<- Frame.raise_atR];exact step_leave_panicked m
theorem uW {f:FuncId} {fn:Func} {c:Code} {args:Array Value} {w:World} 
 (hf:P.funcs[f]?=some fn) (hb:fn.body=some c)
 (h:wp2 (fun x=>∃ fn',P.funcs[x]?=some fn') P c (bodyPostM Fence.wide 0 P fn R) { tmps:=args++Array.replicate (fn.ntmps-args.size) undef,defers:=[] } w):Calls P f args w R:=by
 refine (ZB (n:=0)).1 ⟨trivial,fun u y=>?_⟩
 let b:Frame:={ (default:Frame) with fn:=f,kind:=.normal,roundOf:=none }
 have k:Frame.enter P f args .normal =
  b.atR { tmps:=args++Array.replicate (fn.ntmps-args.size) undef,defers:=[] } [.code c]:=by
  simp [Frame.enter,Frame.atR,hf,hb,b]
 obtain ⟨e,o,v,p,a⟩:=h b [] u rfl ⟨fn,hf⟩;rw [<- k] at a;cases e with
 | normal =>
   obtain ⟨q,d,g,r,s,i,t⟩:=leaves_stepsInM o.defers .returning v { b.atR o [] with mode:=.returning } u rfl rfl rfl hf rfl trivial y p;exact ⟨q,d,g,r,DR (jG a (.one (FJ _ _) (stepR_end rfl))) s,i,t⟩
 | ret =>
   obtain ⟨j,m⟩:=a.1 rfl;obtain ⟨q,d,g,r,s,i,t⟩:=leaves_stepsInM o.defers .returning v { b.atR o j with mode:=.returning } u rfl rfl rfl hf rfl trivial y p;exact ⟨q,d,g,r,DR m s,i,t⟩
 | panic chain =>
   obtain ⟨j,m⟩:=a;obtain ⟨q,d,g,r,s,i,t⟩:=leaves_stepsInM o.defers (.panicking chain) v { b.atR o j with mode:=.panicking chain } u rfl rfl rfl hf rfl trivial y p;exact ⟨q,d,g,r,DR m s,i,t⟩
 | exit id=>exact p.elim
 | goto l=>exact p.elim
 | outgrown=>exact ⟨.outgrown,v,b,p,a.resolve_left (by simp [b]),rfl,trivial⟩
end
def vW {α:Type} (B:Nat) (Kp:World->World->Prop) (I:List α->World->Prop) (Ix:Code->List α->World->Prop) (Ip:List PanicEntry->List α->World->Prop) (xs:List α) (W:World):Exit->Act->World->Prop
 | .panic ch,a,W'=>a.defers=[]/\KeepsFrom B W W'/\Ip ch xs W'
 | e,a,W'=>ownPostG B Kp I Ix xs W e a W'
def SeqP {α:Type} (T:TypeId->Prop) (F:Fence) (n:Nat) (P:Program) (g:Nat) (lb:Array Value) (encs:α->Array Value) (Kp:α->World->World->Prop) (R:List α->α->World->Prop) (S Sp:List α->Prop) (w:World):Prop :=
 ∀ (l:Nat) (J Jx:List α->World->Prop) (Jp:List PanicEntry->List α->World->Prop) (W:World),Below w.heap.size w W->AbR T W.heap.size J->AbR T W.heap.size Jx->(∀ ch,AbR T W.heap.size (Jp ch)) ->
  (∀ pre x W1,J pre W1->R pre x W1->YieldAt F (n-1) P l (encs x) W1 fun e W'=>KeepsFrom W.heap.size W1 W' /\
    ((e=.returned (.bool true)/\J (pre++[x]) W'/\Kp x W1 W')\/(e=.returned (.bool false)/\Jx (pre++[x]) W')\/(∃ ch,e=.panicked ch/\Jp ch (pre++[x]) W'))) ->
  J [] W ->
  CallsIn F n P g (#[.func (.yield l) #[] #[]]++lb) W fun e W'=>((∃ v,e=.returned v)/\((∃ xs,S xs/\J xs W')\/(∃ pre,Sp pre/\Jx pre W')))\/(∃ ch pre,e=.panicked ch/\Sp pre/\Jp ch pre W')
theorem ZiT {α:Type} {G:FuncId->Prop} (hG:∀ x,G x->∃ fn,P.funcs[x]?=some fn) {T:TypeId->Prop} {g:Operand} {ps:Array Tmp} {assign body:Code} {Q:Exit->Act->World->Prop} {a:Act} {w:World}
 {gf:Nat} {lb:Array Value} (hg:a.eval g=.func (.func gf) #[] lb) (eg:∀ args w,(callFunc gf args).run P w=.ok (.enter gf args) w)
 {encs:α->Array Value} {Kp:α->World->World->Prop} {R:List α->α->World->Prop} {S Sp:List α->Prop} {w0:World} (hseq:SeqP T Fence.wide n P gf lb encs Kp R S Sp w0)
 (hKt:∀ {x:α} {A B C:World},Kp x A B->Kp x B C->Kp x A C) (hKb:∀ (x:α) (W:World) (l:Nat) (o o':Obj),w.heap.size<=l->W.heap[l]?=some o->o.isCells=false->Kp x W (W.putObj l o'))
 (hb0:Below w0.heap.size w0 w) (hps:∀ x,(encs x).size=ps.size)
 (I:List α->World->Prop) (Ix:Code->List α->World->Prop) (Ip:List PanicEntry->List α->World->Prop) (hI:AbR T w.heap.size I) (hIx:∀ c,AbR T w.heap.size (Ix c)) (hIp:∀ ch,AbR T w.heap.size (Ip ch)) (h0:I [] w)
 (Ax:List α->α->Act->World->Prop) (hAx:∀ (pre:List α) (x:α) (a':Act) (W:World) (l:Nat) (o o':Obj),w.heap.size<=l->W.heap[l]?=some o->o.isCells=false->Ax pre x a' W->Ax pre x a' (W.putObj l o'))
 (hassign:∀ (l:Nat) (pre:List α) (x:α) (W:World) (K:Act->World->Prop),I pre W->R pre x W->(∀ a' W',KeepsFrom w.heap.size W W'->Kp x W W'->I pre W'->Ax pre x a' W'->K a' W') ->
   assign.wpIn (Fence.wide.inRound l) (n-1) P (Exit.then K (fun _ _ _=>False)) { tmps:=(ps.zip (encs x)).foldl (fun t (p,v)=>t.setIfInBounds p v) a.tmps,defers:=[] } W)
 (hbody:∀ (l:Nat) (pre:List α) (x:α) (a':Act) (W:World),w.heap.size<=l->(∃ r,W.heap[l]?=some (.loop r))->I pre W->Ax pre x a' W->body.wpIn (Fence.wide.inRound l) (n-1) P (vW w.heap.size (Kp x) I Ix Ip (pre++[x]) W) a' W)
 (hdone:∀ (D:Nat) (xs:List α) (W:World),w.heap.size<=D->S xs->I xs W->W.heap[D]?=some (.deferred (some []))->Q .normal { a with defers:={ target:=.collected D,args:=#[] }::a.defers } W)
 (hstop:∀ (D:Nat) (c:Code) (pre:List α) (W:World),w.heap.size<=D->Sp pre->Ix c pre W->W.heap[D]?=some (.deferred (some []))->wp2 G P c Q { a with defers:={ target:=.collected D,args:=#[] }::a.defers } W)
 (hpanic:∀ (D:Nat) (ch:List PanicEntry) (pre:List α) (W:World),w.heap.size<=D->Sp pre->Ip ch pre W->W.heap[D]?=some (.deferred (some []))->Q (.panic ch) { a with defers:={ target:=.collected D,args:=#[] }::a.defers } W) :
 wp2 G P (Code.rangeFunc g ps assign body) Q a w:=by
 refine Zld (n:=n) fun fn ag=>?_;obtain ⟨b,i⟩:∃ b:LoopState->Option Code->Loop,b=fun st pe=>{ state:=st,pending:=pe,fn,tmps:=a.tmps,params:=ps,assign,body,defers:=w.heap.size }:=⟨_,rfl⟩
 obtain ⟨m,hm⟩:∃ m,w.heap.size=m:=⟨_,rfl⟩
 obtain ⟨F,N⟩:∃ F,(w.alloc (.deferred (some []))).alloc (.loop (b .ready none))=F:=⟨_,rfl⟩
 have U:F.heap.size=m+2:=by rw [<- N,aB,aB,hm]
 have a4:Upd (fun _=>False) w F:=by rw [<- N];exact ((eA _ w).alloc _).alloc _
 have aa:F.heap[m+1]?=some (.loop (b .ready none)):=by have h2:=World.alloc_heap_new (w.alloc (.deferred (some []))) (.loop (b .ready none));rwa [aB,N,hm] at h2
 have ab:F.heap[m]?=some (.deferred (some [])):=by rw [<- N,<-hm];exact (FM _ _ _ (by simp)).trans (World.alloc_heap_new w _)
 have ac:I [] F:=hI _ _ _ h0 (a4.mono fun _ _ f=>f.elim);have ad:Below w0.heap.size w0 F:=hb0.trans ((Same.below a4).mono hb0.size);refine ⟨m+1,[{ target:=.collected m,args:=#[] }],F,{ target:=.fn (.func gf) lb,args:=#[.func (.yield (m+1)) #[] #[]] },F,gf,
  #[.func (.yield (m+1)) #[] #[]]++lb,F,?_,?_,?_,?_⟩
 · rw [<- N,i,<-hm];exact run_enterLoop_outer _ _ _ _ _
 · simp only [resolve,hg];simp [go_sem]
 · simp [invoke,go_sem,eg]
 rw [hm] at hI hIx hIp hKb hAx hassign hbody hdone hstop hpanic;have up:∀ {A B:World},Upd (yB T F.heap.size A) A B->Upd (yB T m A) A B:=fun H=>H.mono fun k _ h=>h.mono (by omega) fun _ h=>h;have u:∀ {A B:World} {k:Nat} {o:Obj},Upd (yB T F.heap.size A) A B->k<m+2->A.heap[k]?=some o->B.heap[k]?=some o:=fun H L ho =>
  (H.block _ (sC.1 ho).1 fun h=>by have:=h.1;omega).trans ho
 refine (hseq (m+1) (fun pre W=>I pre W/\W.heap[m+1]?=some (.loop (b .ready none))/\W.heap[m]?=some (.deferred (some [])))
  (fun pre W=>∃ c,Ix c pre W/\W.heap[m+1]?=some (.loop (b .done (some c)))/\W.heap[m]?=some (.deferred (some [])))
  (fun ch pre W=>Ip ch pre W/\W.heap[m]?=some (.deferred (some []))) F ad
  (fun s A B hs H=>⟨hI s A B hs.1 (up H),u H (by omega) hs.2.1,u H (by omega) hs.2.2⟩)
  (fun s A B ⟨c,hc,E,L⟩ H=>⟨c,hIx c s A B hc (up H),u H (by omega) E,u H (by omega) L⟩)
  (fun ch s A B hs H=>⟨hIp ch s A B hs.1 (up H),u H (by omega) hs.2⟩)
  ?_ ⟨ac,aa,ab⟩).mono ?_
 · rintro pre x W ⟨O,E,L⟩ hr;have hy:=run_yield (P:=P) (args:=encs x) E (by rw [i];exact hps x);rw [i] at hy;refine ⟨fn,_,assign,body,hy,ZrO trivial (hG _ ag) (hassign _ pre x W _ O hr ?_)⟩;clear hy;have pt:∀ {V:World} {o:Obj} (o':Obj),V.heap[m+1]?=some o->o.isCells=false->Upd (yB T m V) V (V.putObj (m+1) o'):=fun o' hV hc =>
    (eA _ _).grown (grownBy_putObj' _ (m+1) o') fun k e=>by cases e;exact .inl (GE hV hc (by omega))
   have kp:∀ {V:World} (o':Obj),KeepsFrom (m+2) V (V.putObj (m+1) o'):=fun {V} o'=>⟨(grownBy_putObj' V (m+1) o').size,fun k o L ho _=>(World.putObj_heap_other (by omega)).trans ho⟩
   have km:∀ {A B:World},KeepsFrom m A B->KeepsFrom (m+2) A B:=fun h=>⟨h.size,fun k o L=>h.same k o (by omega)⟩
   intro a' Wa y a8 ah ai;replace E:=y.same _ _ (by omega) E rfl;replace L:=y.same _ _ (lA _) L rfl;clear O hr;have ae:m+1<Wa.heap.size:=(sC.1 E).1;refine ⟨_,run_beginRound E (by rw [i]),?_⟩;have a5:(Wa.putObj (m+1) (.loop { b .ready none with state:=.busy })).heap[m+1]?=some (.loop { b .ready none with state:=.busy }):=World.putObj_heap_same ae;have a6:(Wa.putObj (m+1) (.loop { b .ready none with state:=.busy })).heap[m]?=some (.deferred (some [])):=(World.putObj_heap_other (by omega)).trans L;refine wpIn_mono (hbody _ pre x a' _ (by omega) ⟨_,a5⟩ (hI _ _ _ ah (pt _ E rfl)) (hAx _ _ _ _ _ _ _ (by omega) E rfl ai)) ?_;have af:=hKb x Wa (m+1) _ (.loop { b .ready none with state:=.busy }) (by omega) E rfl;have a7:∀ (d:Option Code) (q:World),KeepsFrom m (Wa.putObj (m+1) (.loop { b .ready none with state:=.busy })) q ->
    (Instr.endRound (m+1) d).run P q=.ok (.bool d.isNone) (q.putObj (m+1) (.loop (b (if d.isNone then .ready else .done) d))) /\
    q.heap[m+1]?=some (.loop { b .ready none with state:=.busy }) /\
    (q.putObj (m+1) (.loop (b (if d.isNone then .ready else .done) d))).heap[m+1]?=some (.loop (b (if d.isNone then .ready else .done) d)) /\
    (q.putObj (m+1) (.loop (b (if d.isNone then .ready else .done) d))).heap[m]?=some (.deferred (some [])):=fun d q z=>by
    have j:=z.same _ _ (by omega) a5 rfl;have h4:=run_endRound (P:=P) d j;rw [i] at h4 j ⊢;exact ⟨h4,j,World.putObj_heap_same (sC.1 j).1,(World.putObj_heap_other (by omega)).trans (z.same _ _ (lA _) a6 rfl)⟩
   have X:∀ (c:Code) (q:World),KeepsFrom m (Wa.putObj (m+1) (.loop { b .ready none with state:=.busy })) q->Ix c (pre++[x]) q ->
    ∃ v W4,(Instr.endRound (m+1) (some c)).run P q=.ok v W4/\KeepsFrom F.heap.size W W4/\((Ending.returned v=.returned (.bool true)/\(I (pre++[x]) W4/\W4.heap[m+1]?=some (.loop (b .ready none))/\W4.heap[m]?=some (.deferred (some [])))/\Kp x W W4) \/
     (Ending.returned v=.returned (.bool false)/\∃ c,Ix c (pre++[x]) W4/\W4.heap[m+1]?=some (.loop (b .done (some c)))/\W4.heap[m]?=some (.deferred (some [])))\/(∃ ch,Ending.returned v=.panicked ch/\Ip ch (pre++[x]) W4/\W4.heap[m]?=some (.deferred (some [])))):=fun c q z Y=>by
    obtain ⟨Z,j,a0,a1⟩:=a7 (some c) q z;exact ⟨_,_,Z,by rw [U];exact (((km y).trans (kp _)).trans (km z)).trans (kp _),.inr (.inl ⟨rfl,c,hIx c _ _ _ Y (pt _ j rfl),a0,a1⟩)⟩
   rintro e a3 q M;cases e with
   | normal =>
     obtain ⟨z,a9,Y⟩:=M;obtain ⟨Z,j,a0,a1⟩:=a7 none q z;exact ⟨_,_,Z,by rw [U];exact (((km y).trans (kp _)).trans (km z)).trans (kp _),.inl ⟨rfl,⟨hI _ _ _ Y (pt _ j rfl),a0,a1⟩,hKt a8 (hKt (hKt af a9) (hKb x _ _ _ _ (by omega) j rfl))⟩⟩
   | ret=>exact X .ret q M.1 M.2
   | exit id=>exact X (.exit id) q M.1 M.2
   | goto t=>exact X (.goto t) q M.1 M.2
   | panic ch=>exact ⟨M.1,by rw [U];exact ((km y).trans (kp _)).trans (km M.2.1),.inr (.inr ⟨ch,rfl,M.2.2,M.2.1.same _ _ (lA _) a6 rfl⟩)⟩
   | outgrown=>exact M.elim
 have pt:∀ {V:World} {o:Obj} (o':Obj),V.heap[m+1]?=some o->o.isCells=false->Upd (yB T m V) V (V.putObj (m+1) o'):=fun o' hV hc =>
  (eA _ _).grown (grownBy_putObj' _ (m+1) o') fun k e=>by cases e;exact .inl (GE hV hc (by omega))
 rintro e W2 (⟨⟨v,rfl⟩,(⟨xs,hS,O,E,L⟩ | ⟨pre,a2,c,O,E,L⟩)⟩ | ⟨ch,pre,rfl,a2,O,L⟩)
 · exact ⟨none,_,by have h3:=run_endLoop (P:=P) E (by rw [i];simp);rw [i] at h3;exact h3,hdone _ xs _ (lA _) hS (hI _ _ _ O (pt _ E rfl)) ((World.putObj_heap_other (by omega)).trans L)⟩
 · exact ⟨some c,_,by have h3:=run_endLoop (P:=P) E (by rw [i];simp);rw [i] at h3;exact h3,hstop _ c pre _ (lA _) a2 (hIx c _ _ _ O (pt _ E rfl)) ((World.putObj_heap_other (by omega)).trans L)⟩
 exact hpanic _ ch pre _ (lA _) a2 O L
attribute [local go_sem] oD
def DA:Nat->List BS->List (Nat×List UInt8)
 | _,[]=>[]
 | i,x::l=>match x.A with | none=>DA (i+1) l | some _=>(i,x.data)::DA (i+1) l
theorem UN:∀ (a b:List BS) (i:Nat),DA i (a++b)=DA i a++DA (i+a.length) b
 | [],b,i=>by simp [DA]
 | x::a,b,i=>by have e:i+1+a.length=i+(a.length+1):=qO;rw [EB,DA,DA,UN a b,BA,e];cases x.A <;> rfl
structure RE where
 id:Nat
 data:List UInt8
 A:Option Addr
 n:Nat
 c:Nat
def RE.args (x:RE):Array Value:=#[.int .i64 (x.id:Int),.slice x.A x.n x.c]
def RE.dat (x:RE):Nat×List UInt8:=(x.id,x.data)
structure ReR (L:List (Nat×List UInt8)) (pre:List RE) (x:RE) (W:World):Prop where
 at_:L[pre.length]?=some x.dat
 row:pA W (TyB W 0) x.A x.n x.c x.data
structure FlU (U:TypeId->Prop):Prop where
 f:¬ U 171
 p:¬ U 67
 r:¬ U 39
 b:¬ U 5
theorem PF.it (hU:FlU U) {m f z:Nat} {l:List BS} (h:PF W B f k vs z v l low) (hu:Upd (yB U m W) W W'):PF W' B f k vs z v l low :=
 ⟨h.base,h.blk.it hu hU.f,h.own.it hu hU.b hU.r,h.size,h.recs,h.len,h.low⟩
theorem bQ (hU:FlU U) (n:Nat) (ar:1<=n) (w:World) {f z fB:Nat} {l:List BS} (h:PF w B f k vs z v l low) (hb:Blk w fB 67 #[.pointer (some ⟨f,0,none⟩)]):
 SeqP (fun _=>False) Fence.wide n Tryz.prog 122 #[.pointer (some ⟨fB,0,none⟩)] RE.args (fun _ W W'=>Upd (yB U 0 W) W W') (ReR (DA 0 l))
  (fun xs=>xs.map RE.dat=DA 0 l) (fun pre=>∃ k,pre.map RE.dat=(DA 0 l).take k) w:=fun lp J Jx Jp W hW hJ aj ak hY h0=>by
 have t:Same w W:=JP hW;obtain ⟨A,c,rfl⟩:=WA h.own.row;obtain ⟨d,j⟩:=qx l.length;have u:=qH j;have am:d<=65536:=by rw [<- j];exact h.len
 rw [j] at h;obtain ⟨L,hL⟩:=qx (DA 0 l);rw [hL] at hY ⊢;have HL:=qH hL;have HU:=qH hU;have H0:=qH (h.same t);have M:=qH (hb.same t);have HJ:=qH hJ;have HY:=qH hY;have R:=qH h0;clear h hb hU t hW hJ aj ak hY h0 j hL;refine ZB.2 ?_;go_enter SM,Tryz.ntmps122;go_wp2_with fail;go_loopg [3] d (fun gh s wr=>∃ (i:Nat) (pre:List RE),d-i=gh/\i<=d/\s=.int .i64 (i:Int)/\Hid (pre.map RE.dat=DA 0 (l.take i))/\Hid (J pre wr)/\Hid (PF wr B f k vs z (.slice A d c) l low)/\Hid (Blk wr fB 67 #[.pointer (some ⟨f,0,none⟩)])/\Hid (W.heap.size<=wr.heap.size))
 case atStart=>exact ⟨0,[],rfl,oA _,rfl,qH rfl,R,H0,M,qH (lA _)⟩
 clear R H0 M;obtain ⟨i,pre,rfl,hi,rfl,KP,KJ,G,M,KW⟩:=hrel;have q0:=M.c0;have q3:=G.blk.c3;by_cases aa:i<d
 · have an:=fun (w:World) (a:Option Addr) (n c:Nat)=>run_neq_slice_nil_any (P:=Tryz.prog) w 39 5 a n c 0 0 yD;have j1:(i:Int)<(d:Int):=qO;have ao:IntKind.i64.wrap ((i:Int)+1)=((i+1:Nat):Int):=by rw [rF];omega
   obtain ⟨b,o,x,rfl,aq,hx,H,hc⟩:=G.own.at_ u.out aa;have S:l.take (i+1)=l.take i++[x]:=by rw [eD,hx];rfl
   have T:=qH S;have V:l=l.take i++x::l.drop (i+1):=by obtain ⟨N,h2⟩:=IA.1 hx;have h3:=tF i l;rw [kE N,h2] at h3;exact h3.symm
   have ab:=qH V;have X:=qH (show (l.take i).length=i by rw [RB,u.out];omega);have g:=qH (G.own.each x H);have Y:=qH H;clear hx H S V;cases hxA:x.A with
   | none =>
     have h5:=Row.nil g.out hxA;have h6:=Row.le g.out;rw [hxA,h5,show x.n=0 by omega] at hc;have C:=qH (show pre.map RE.dat=DA 0 (l.take (i+1)) by rw [T.out,UN,<-KP.out];simp [DA,hxA])
     go_wp2;go_roundg (d-(i+1))
     case measure=>omega
     case rel=>exact ⟨i+1,pre,rfl,qO,qN,C,KJ,G,M,KW⟩
   | some a =>
     have Z:x.n<=140737488355328:=by have h2:=ZG g.out;have h3:=G.recs x Y.out (by rw [hxA];simp);have h4:=G.size;omega
     have D:=qH (JK wr g Z);have a0:Hid (L[pre.length]?=some (i,x.data)):=qH (by have N:=tB List.length KP.out;rw [nA] at N;rw [<- HL.out,ab.out,UN,X.out,AE,DA,hxA,WG qO,N,SD];rfl)
     have E:Hid (∀ y:RE,y.dat=(i,x.data)->(pre++[y]).map RE.dat=DA 0 (l.take (i+1))):=qH fun y O=>by rw [T.out,UN,<-KP.out,X.out,DB,AE,DA,hxA];simp [DA,O]
     have F:Hid (∀ y:RE,y.dat=(i,x.data)->∃ k,(pre++[y]).map RE.dat=L.take k):=qH fun y O=>⟨(DA 0 (l.take (i+1))).length,by
      have N:DA 0 (l.take (i+1))++DA (0+(l.take (i+1)).length) (l.drop (i+1))=L:=by rw [<- HL.out,<-UN,tF]
      rw [E.out y O,<-N,List.take_left]⟩
     generalize ap:x.data=xd at D a0 E F;rw [hxA] at D;clear Z Y;refine (eI (n:=n)).1 ?_;gi_wp2_with (refine ⟨trivial,?_⟩;gi_at_call 106;refine (ZB.2 D).mono ?_;rintro e5 w5 ⟨v5,rfl,I,m⟩;obtain ⟨A7,c7,rfl⟩:=WA I;have a1:=qH I;have a2:=qH m;have a3:=qH (G.same m);have a4:=qH (M.same m);clear I m;obtain ⟨fn,a5,q,a6,O,hR⟩:=HY.out pre ⟨i,xd,A7,xd.length,c7⟩ w5 (HJ.out _ _ _ KJ (a2.mono qe)) ⟨a0,NK rfl a1⟩;have ac:(Instr.yield lp #[.int .i64 (i:Int),.slice A7 xd.length c7]).run Tryz.prog w5=.ok (.round lp fn a5 q a6) w5:=O;clear O);refine hR.mono ?_;clear ac hR;rintro e W2 ⟨al,h⟩;rcases h with ⟨rfl,a7,r⟩ | ⟨rfl,a8⟩ | ⟨ch,rfl,a9⟩
     case inr.inl =>
      gi_wp2;go_wp2_with fail;refine LD (DG rfl _ _ _) rfl ?_;exact .inl ⟨⟨_,rfl⟩,.inr ⟨_,F.out _ rfl,a8⟩⟩
     case inr.inr =>
      gi_wp2;exact ⟨rfl,.inr ⟨ch,_,rfl,F.out _ rfl,a9⟩⟩
     have ad:=qH (E.out ⟨i,xd,A7,xd.length,c7⟩ rfl);have ae:=qH a7;have af:=qH (a3.it HU r);have ag:=qH (a4.it r HU.p);have ah:=qH (tA KW (tA a2.size r.size));clear a7 r al a3 a4 a1;gi_wp2;go_wp2_with fail;go_roundg (d-(i+1))
     case measure=>omega
     case rel=>exact ⟨i+1,_,rfl,qO,qN,ad,ae,af,ag,ah⟩
 have j1:¬ ((i:Int)<(d:Int)):=qO;have ai:i=d:=qO;have C:=qH (show pre.map RE.dat=L by rw [<- HL.out,KP.out,ai,cB (by rw [u.out];exact lA _)]);go_wp2;go_end0;exact .inl ⟨⟨_,rfl⟩,.inl ⟨pre,C,KJ⟩⟩
end
section
open Go.RowKit Go.Maps
def asIs (v:Value):Option (DataW Value×List MemPlace):=some (.held v,[])
def MpK (w:World) (k:TypeId) (b n:Nat) (f:Lit->Option Value):Prop :=
 ∃ D:DataW Value,w.ownsMap Tryz.prog k asIs b n D/\Maps.size D=n/\∀ x,WideAt.IsKeyLit x->Maps.has D x=(f x).isSome/\∀ z,D.atKey x z=match f x with | some v=>.held v | none=>z
def MpK.put (f:Lit->Option Value) (x:Lit) (v:Value):Lit->Option Value:=fun y=>if y.sameKey x=true then some v else f y
section
variable {w w':World} {k t e:TypeId} {b n:Nat} {f:Lit->Option Value}
theorem MpK.made (w:World) (k:TypeId):MpK (w.alloc (.map #[] 0)) k w.heap.size 0 (fun _=>none):=⟨DataW.map [],ER _ _ _ _,rfl,fun _ _=>⟨rfl,fun _=>rfl⟩⟩
theorem MpK.lt (h:MpK w k b n f):b<w.heap.size:=by obtain ⟨D,a,_⟩:=h;exact a.lt
theorem MpK.obj (h:MpK w k b n f):∃ es c,w.heap[b]?=some (.map es c):=by obtain ⟨D,⟨es,c,a,_⟩,_⟩:=h;exact ⟨es,c,a⟩
theorem MpK.upd (h:MpK w k b n f) (hu:Upd S w w') (hs:¬ S b):MpK w' k b n f:=by obtain ⟨D,⟨d,c,a,r⟩,e⟩:=h;exact ⟨D,⟨d,c,(hu.block b (sC.1 a).1 hs).trans a,r⟩,e⟩
theorem MpK.same (h:MpK w k b n f) (hu:Same w w'):MpK w' k b n f:=h.upd hu fun f=>f
theorem MpK.ne {t:TypeId} (h:MpK w k b n f) (hb:Blk w g t cs):b≠g:=by rintro rfl;obtain ⟨d,c,a⟩:=h.obj;unfold Blk at hb;rw [a] at hb;cases hb
theorem MpK.congr {g:Lit->Option Value} (h:MpK w k b n f) (hg:∀ x,WideAt.IsKeyLit x->f x=g x):MpK w k b n g:=by obtain ⟨D,c,d,e⟩:=h;exact ⟨D,c,d,fun x a=>by rw [<- hg x a];exact e x a⟩
theorem MpK.look (h:MpK w k b n f) (K:Keyed Tryz.prog k) (ht:Tryz.prog.underlying t=some (.map k e)) (hz:(zeroValue e).run Tryz.prog w=.ok z w) {x:Lit} (o:keyOf Tryz.prog k key=some x) (hx:WideAt.IsKeyLit x):
 (Instr.lookup t (.map (some b)) key true).run Tryz.prog w=.ok (.tuple #[(f x).getD z,.bool (f x).isSome]) w/\(Instr.lookup t (.map (some b)) key false).run Tryz.prog w=.ok ((f x).getD z) w:=by
 obtain ⟨D,g,m,i⟩:=h;obtain ⟨j,l⟩:=i x hx;have e:∀ v c,asIs v=some (D.atKey x (.held z),c)->v=(f x).getD z:=fun v c a=>by
  rw [l] at a;unfold asIs at a;cases hf:f x with
  | none=>rw [hf] at a;simp only [SE,QI,DataW.held.injEq] at a;exact a.1
  | some u=>rw [hf] at a;simp only [SE,QI,DataW.held.injEq] at a;exact a.1
 refine ⟨?_,?_⟩
 · obtain ⟨v,c,d,a⟩:=g.look_ok K ht hz (zd:=.held z) (zp:=[]) rfl o;rw [d,e v c a,j]
 obtain ⟨v,c,d,a⟩:=g.lookup K ht hz (zd:=.held z) (zp:=[]) rfl o;rw [d,e v c a]
theorem MpK.store (h:MpK w k b n f) (K:Keyed Tryz.prog k) (ht:Tryz.prog.underlying t=some (.map k e)) (hn:n<maxLen) {x:Lit} (G:keyOf Tryz.prog k key=some x) (hx:WideAt.IsKeyLit x) (v:Value):
 ∃ w',(Instr.mapUpdate t (.map (some b)) key v).run Tryz.prog w=.ok () w'/\MpK w' k b (if (f x).isSome then n else n+1) (MpK.put f x v)/\Upd (fun y=>y=b) w w':=by
 obtain ⟨D,l,r,m⟩:=h;obtain ⟨w',s,u,A⟩:=l.update (val:=v) (d:=.held v) (ps:=[]) K ht hn G rfl;have a:Maps.size (D.put x (.held v))=if (f x).isSome then n else n+1:=by rw [Maps.size_put (l.tidy K),(m x hx).1,r]
 refine ⟨w',s,⟨D.put x (.held v),?_,a,fun y g=>?_⟩,(eA _ w).grown A fun j B=>by cases B;exact .inl rfl⟩
 · obtain ⟨o,c,C,F,E,p⟩:=u;refine ⟨o,c,C,F,?_,p⟩;have q:Maps.size (D.put x (.held v))=o.size:=by rw [p];simp [Maps.size,length_sorted]
   rw [<- a,q];exact lA _
 unfold MpK.put;by_cases i:y=x
 · subst i;rw [gA (UO g)];exact ⟨Maps.has_put_same l.isMap g _,fun z=>Maps.atKey_put_same l.isMap g _ _⟩
 rw [aA (by rw [FR i];simp),Maps.has_put_other i];exact ⟨(m y g).1,fun z=>by rw [Maps.atKey_put_other i];exact (m y g).2 z⟩
theorem MpK.block (h:MpK w k b n f) (hb:w'.heap[b]?=w.heap[b]?):MpK w' k b n f:=by obtain ⟨D,⟨a,c,d,r⟩,e⟩:=h;exact ⟨D,⟨a,c,hb.trans d,r⟩,e⟩
theorem MpK.entry (h:MpK w k b n f) (K:Keyed Tryz.prog k) (ht:Tryz.prog.underlying t=some (.map k e)) (hn:n<maxLen) (hz:(zeroValue e).run Tryz.prog w=.ok z w) {x:Lit} (T:keyOf Tryz.prog k key=some x) (hx:WideAt.IsKeyLit x) (hf:f x=none) (v:Value):
 ∃ (w1:World) (st:Value),(Instr.mapEntry t (.map (some b)) key).run Tryz.prog w=.ok (.tuple #[z,st]) w1/\Upd (fun y=>y=b) w w1 /\
  ∀ W,W.heap[b]?=w1.heap[b]?->∃ W',(Instr.entryStore t (.map (some b)) st v).run Tryz.prog W=.ok () W'/\MpK W' k b (n+1) (MpK.put f x v)/\Upd (fun y=>y=b) W W':=by
 obtain ⟨N,G,C,_⟩:=h.store K ht hn T hx v;have q:=(h.look K ht hz T hx).1;rw [hf] at q C;obtain ⟨D,⟨a,c,g,F,O,P⟩,H,A⟩:=h;rcases K.find w T a.toList F.keys with ⟨p,I⟩ | ⟨j,L,p,R,S⟩
 · have r:=F.stamped;have l:(Instr.mapUpdate t (.map (some b)) key v).run Tryz.prog w=.ok () (ChangeMaps.setBlock w b (.map (a.push ⟨key,v,c⟩) (c+1))):=by simp [Instr.mapUpdate,sF ht,VO g,K.check w false T,p,IR _ g,Result.andThen,ChangeMaps.setBlock]
   rw [G] at l;injection l with _ l
   subst l;have u:∀ (W:World) (a:Array MapEntry) (c:Nat) (o:Obj),W.heap[b]?=some (.map a c)->Upd (fun y=>y=b) W (ChangeMaps.setBlock W b o):=fun W a c o B=>⟨rfl,rfl,rfl,by simp [ChangeMaps.setBlock],fun i _ m=>ChangeMaps.heap_setBlock_other B o m⟩
   refine ⟨ChangeMaps.setBlock w b (.map (a.push ⟨key,z,c⟩) (c+1)),goInt c,?_,u _ _ _ _ g,fun W B=>?_⟩
   · simp [Instr.mapEntry,sF ht,VO g,K.check w false T,p,hz,IR _ g,Result.andThen,ChangeMaps.setBlock]
   have d:W.heap[b]?=some (.map (a.push ⟨key,z,c⟩) (c+1)):=B.trans (LR g _);have s:(a.push ⟨key,z,c⟩).findIdx? (fun e=>(e.born:Int)==(c:Int))=some a.size:=by rw [Array.findIdx?_eq_some_iff_getElem];refine ⟨qS,qS,fun i m=>?_⟩;have M:=r.1 _ (by rw [Array.mem_toList_iff];exact Array.getElem_mem m);rw [MR m];simp;omega
   refine ⟨ChangeMaps.setBlock W b (.map (a.push ⟨key,v,c⟩) (c+1)),?_,C.block ((LR d _).trans (LR g _).symm),u _ _ _ _ d⟩;have E:(a.push ⟨key,z,c⟩).modify a.size (fun e=>{ e with val:=v })=a.push ⟨key,v,c⟩:=by
    apply Array.ext
    · simp
    intro i p H;rw [Array.getElem_modify];by_cases m:a.size=i
    · subst m;simp
    have A:i<a.size:=by simp at p;omega
    rw [aA m,MR A,MR A]
   simp [Instr.entryStore,VO d,goInt,asInt,asIntOf,s,IR _ d,Result.andThen,ChangeMaps.setBlock,E]
 exfalso;have l:(Instr.lookup t (.map (some b)) key true).run Tryz.prog w=.ok (.tuple #[L.val,.bool true]) w:=by simp [Instr.lookup,sF ht,VO g,K.check w _ T,p,Result.andThen]
 rw [q] at l;simp at l
theorem MpK.len (h:MpK w k b n f) (ht:Tryz.prog.underlying t=some (.map k e)) (ty:TypeId):(Builtin.len_ #[t] ty #[.map (some b)]).run Tryz.prog w=.ok (.int .i64 n) w:=by obtain ⟨D,a,c,_⟩:=h;rw [a.len ht ty,c]
end
def mpLI (f:Int->Option Value):Lit->Option Value
 | .int .i64 i=>f i
 | _=>none
def MpI (w:World) (b n:Nat) (f:Int->Option Value):Prop:=MpK w 3 b n (mpLI f)
def mpPI (f:Int->Option Value) (i:Int) (v:Value):Int->Option Value:=fun j=>if j=i then some v else f j
theorem intK:Keyed Tryz.prog 3:=int_keyed FH
section
variable {w w':World} {t e:TypeId} {b n:Nat} {f:Int->Option Value}
theorem MpI.made (w:World):MpI (w.alloc (.map #[] 0)) w.heap.size 0 (fun _=>none):=(MpK.made w _).congr fun x _=>by unfold mpLI;split <;> rfl
abbrev WN:=@MpI.made
theorem MpI.lt (h:MpI w b n f):b<w.heap.size:=MpK.lt h
theorem MpI.upd (h:MpI w b n f) (hu:Upd S w w') (hs:¬ S b):MpI w' b n f:=MpK.upd h hu hs
theorem MpI.same (h:MpI w b n f) (hu:Same w w'):MpI w' b n f:=MpK.same h hu
theorem MpI.ne {t:TypeId} (h:MpI w b n f) (hb:Blk w g t cs):b≠g:=MpK.ne h hb
theorem MpI.look (h:MpI w b n f) (ht:Tryz.prog.underlying t=some (.map 3 e)) (hz:(zeroValue e).run Tryz.prog w=.ok z w) (hi : -9223372036854775808<=i/\i<=9223372036854775807):
 (Instr.lookup t (.map (some b)) (.int .i64 i) true).run Tryz.prog w=.ok (.tuple #[(f i).getD z,.bool (f i).isSome]) w/\(Instr.lookup t (.map (some b)) (.int .i64 i) false).run Tryz.prog w=.ok ((f i).getD z) w :=
 MpK.look h intK ht hz (keyOf_int_mk FH (WalkArith.wf_i64 hi)) trivial
theorem MpI.store (h:MpI w b n f) (ht:Tryz.prog.underlying t=some (.map 3 e)) (hn:n<maxLen) (hi : -9223372036854775808<=i/\i<=9223372036854775807) (v:Value):
 ∃ w',(Instr.mapUpdate t (.map (some b)) (.int .i64 i) v).run Tryz.prog w=.ok () w'/\MpI w' b (if (f i).isSome then n else n+1) (mpPI f i v)/\Upd (fun y=>y=b) w w':=by
 obtain ⟨w',c,d,g⟩:=MpK.store h intK ht hn (keyOf_int_mk FH (WalkArith.wf_i64 hi)) trivial v;refine ⟨w',c,d.congr fun x j=>?_,g⟩;unfold MpK.put;by_cases a:x=.int .i64 i
 · subst a;rw [gA (UO j)];simp [mpLI,mpPI]
 rw [aA (by rw [FR a];simp)];unfold mpLI;split
 · unfold mpPI;rw [aA (fun k=>a (by rw [k]))]
 rfl
theorem MpI.len (h:MpI w b n f) (ht:Tryz.prog.underlying t=some (.map 3 e)) (ty:TypeId):(Builtin.len_ #[t] ty #[.map (some b)]).run Tryz.prog w=.ok (.int .i64 n) w:=MpK.len h ht ty
end
def mpLS (f:ByteArray->Option Value):Lit->Option Value
 | .string l=>f ⟨l.toArray⟩
 | _=>none
def MpS (w:World) (b n:Nat) (f:ByteArray->Option Value):Prop:=MpK w 9 b n (mpLS f)
def mpPS (f:ByteArray->Option Value) (s:ByteArray) (v:Value):ByteArray->Option Value:=fun t=>if t=s then some v else f t
theorem strK:Keyed Tryz.prog 9:=string_keyed DH
section
variable {w w':World} {t e:TypeId} {b n:Nat} {f:ByteArray->Option Value}
theorem MpS.made (w:World):MpS (w.alloc (.map #[] 0)) w.heap.size 0 (fun _=>none):=(MpK.made w _).congr fun x _=>by unfold mpLS;split <;> rfl
theorem MpS.lt (h:MpS w b n f):b<w.heap.size:=MpK.lt h
theorem MpS.upd (h:MpS w b n f) (hu:Upd S w w') (hs:¬ S b):MpS w' b n f:=MpK.upd h hu hs
theorem MpS.same (h:MpS w b n f) (hu:Same w w'):MpS w' b n f:=MpK.same h hu
theorem MpS.ne {t:TypeId} (h:MpS w b n f) (hb:Blk w g t cs):b≠g:=MpK.ne h hb
theorem MpS.look (h:MpS w b n f) (ht:Tryz.prog.underlying t=some (.map 9 e)) (hz:(zeroValue e).run Tryz.prog w=.ok z w) (hs:s.size<=maxLen):
 (Instr.lookup t (.map (some b)) (.string s) true).run Tryz.prog w=.ok (.tuple #[(f s).getD z,.bool (f s).isSome]) w/\(Instr.lookup t (.map (some b)) (.string s) false).run Tryz.prog w=.ok ((f s).getD z) w :=
 MpK.look h strK ht hz (WO DH hs) trivial
theorem Zvm (x:Lit) (hx:WideAt.IsKeyLit x):MpK.put (mpLS f) (.string s.data.toList) v x=mpLS (mpPS f s v) x:=by
 unfold MpK.put;by_cases a:x=.string s.data.toList
 · subst a;rw [gA (UO hx)];simp [mpLS,mpPS]
 rw [aA (by rw [FR a];simp)];unfold mpLS;split
 · unfold mpPS;rw [aA (fun b=>a (by rw [<- b]))]
 rfl
theorem MpS.entry (h:MpS w b n f) (ht:Tryz.prog.underlying t=some (.map 9 e)) (hn:n<maxLen) (hz:(zeroValue e).run Tryz.prog w=.ok z w) (hs:s.size<=maxLen) (hf:f s=none) (v:Value):
 ∃ (w1:World) (st:Value),(Instr.mapEntry t (.map (some b)) (.string s)).run Tryz.prog w=.ok (.tuple #[z,st]) w1/\Upd (fun y=>y=b) w w1 /\
  ∀ W,W.heap[b]?=w1.heap[b]?->∃ W',(Instr.entryStore t (.map (some b)) st v).run Tryz.prog W=.ok () W'/\MpS W' b (n+1) (mpPS f s v)/\Upd (fun y=>y=b) W W':=by
 obtain ⟨w1,st,a,c,d⟩:=MpK.entry h strK ht hn hz (WO DH hs) trivial hf v;refine ⟨w1,st,a,c,fun W g=>?_⟩;obtain ⟨W',i,j,k⟩:=d W g;refine ⟨W',i,j.congr fun x l=>Zvm x l,k⟩
theorem MpS.len (h:MpS w b n f) (ht:Tryz.prog.underlying t=some (.map 9 e)) (ty:TypeId):(Builtin.len_ #[t] ty #[.map (some b)]).run Tryz.prog w=.ok (.int .i64 n) w:=MpK.len h ht ty
end
end
end Go.Proofs.YtmkjfhnlnhceiaaGreatDoor
