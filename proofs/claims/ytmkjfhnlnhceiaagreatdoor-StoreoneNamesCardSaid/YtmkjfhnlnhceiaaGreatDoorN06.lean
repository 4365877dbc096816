/- Texts that the claim leans on: walks and plain laws, function by function. -/
import Derived.RangeFuncNested
import Derived.RangeFuncBound
import Derived.RangeFuncCalls
import Derived.RangeFuncLeaves
import Derived.RangeFuncBox
import Derived.Shelf.Abstract
import Derived.Shelf.RegionOpen
import Derived.OwnWalkIn
import Derived.TacticsInMore
import Derived.LoopNIn
import Derived.LoopIn
import Derived.Test.YtmkjfhnlnhceiaaGreatDoorN05
set_option maxRecDepth 100000
set_option maxHeartbeats 16000000
namespace Go.Proofs.YtmkjfhnlnhceiaaGreatDoor
open Go.RowKit
def Zao (T:TypeId->Prop) (B:Nat) (W:World) (k:Nat):Prop:=B<=k/\∃ o,W.heap[k]?=some o/\(o.isCells=false\/∃ cs t fr,o=.cells cs t fr/\T t)
def AbR {β:Type} (T:TypeId->Prop) (B:Nat) (J:β->World->Prop):Prop:=∀ s W W',J s W->Upd (Zao T B W) W W'->J s W'
theorem Zao.mono {T T':TypeId->Prop} {B B':Nat} {W:World} {k:Nat} (h:Zao T B W k) (hB:B'<=B) (hT:∀ t,T t->T' t):Zao T' B' W k:=by obtain ⟨g,o,a,b⟩:=h;exact ⟨qO,o,a,b.imp id fun ⟨c,t,d,e,f⟩=>⟨c,t,d,e,hT _ f⟩⟩
theorem Zao.nc {T:TypeId->Prop} {B:Nat} {W:World} {k:Nat} {o:Obj} (h:W.heap[k]?=some o) (ho:o.isCells=false) (hB:B<=k):Zao T B W k:=⟨hB,o,h,.inl ho⟩
abbrev YbI:=@Zao.nc
theorem Zao.trans {T:TypeId->Prop} {B:Nat} {A W C:World} (h:Upd (Zao T B A) A W) (k:Upd (Zao T B W) W C):Upd (Zao T B A) A C :=
 ⟨k.os.trans h.os,k.tape.trans h.tape,k.output.trans h.output,Yaj h.size k.size,fun b c d=>by have a:=h.block b c d;refine (k.block b (Ycd c h.size) fun e=>d ?_).trans a;obtain ⟨f,o,g,i⟩:=e;exact ⟨f,o,by rw [<- a];exact g,i⟩⟩
abbrev Yed:=@Zao.trans
def SeqR {α:Type} (T:TypeId->Prop) (F:Fence) (n:Nat) (P:Program) (g:Nat) (lb:Array Value) (encs:α->Array Value) (Kp:α->World->World->Prop) (R:List α->α->World->Prop) (S Sp:List α->Prop) (w:World):Prop :=
 ∀ (l:Nat) (J Jx:List α->World->Prop) (W:World),Below w.heap.size w W->AbR T W.heap.size J->AbR T W.heap.size Jx ->
  (∀ pre x W1,J pre W1->R pre x W1->YieldAt F (n-1) P l (encs x) W1 fun e W'=>KeepsFrom W.heap.size W1 W' /\
    ((e=.returned (.bool true)/\J (pre++[x]) W'/\Kp x W1 W')\/(e=.returned (.bool false)/\Jx (pre++[x]) W'))) ->
  J [] W ->
  CallsIn F n P g (#[.func (.yield l) #[] #[]]++lb) W fun e W'=>(∃ v,e=.returned v)/\((∃ xs,S xs/\J xs W')\/(∃ pre,Sp pre/\Jx pre W'))
variable {F:Fence} {n:Nat} {P:Program}
theorem Zer {α:Type} {T:TypeId->Prop} {g:Operand} {ps:Array Tmp} {assign body:Code} {Q:Exit->Act->World->Prop} {a:Act} {w:World}
 (hro:F.round=none) (h1:1<=n) {gf:Nat} {lb:Array Value} (hg:a.eval g=.func (.func gf) #[] lb) (hFg:F.fn gf) (eg:∀ args w,(callFunc gf args).run P w=.ok (.enter gf args) w)
 {encs:α->Array Value} {Kp:α->World->World->Prop} {R:List α->α->World->Prop} {S Sp:List α->Prop} {w0:World} (hseq:SeqR T F (n-1) P gf lb encs Kp R S Sp w0)
 (hKt:∀ {x:α} {A B C:World},Kp x A B->Kp x B C->Kp x A C) (hKb:∀ (x:α) (W:World) (l:Nat) (o o':Obj),w.heap.size<=l->W.heap[l]?=some o->o.isCells=false->Kp x W (W.putObj l o'))
 (hb0:Below w0.heap.size w0 w) (hps:∀ x,(encs x).size=ps.size)
 (I:List α->World->Prop) (Ix:Code->List α->World->Prop) (hI:AbR T w.heap.size I) (hIx:∀ c,AbR T w.heap.size (Ix c)) (h0:I [] w)
 (Ax:List α->α->Act->World->Prop) (hAx:∀ (pre:List α) (x:α) (a':Act) (W:World) (l:Nat) (o o':Obj),w.heap.size<=l->W.heap[l]?=some o->o.isCells=false->Ax pre x a' W->Ax pre x a' (W.putObj l o'))
 (hassign:∀ (l:Nat) (pre:List α) (x:α) (W:World) (K:Act->World->Prop),I pre W->R pre x W->(∀ a' W',KeepsFrom w.heap.size W W'->Kp x W W'->I pre W'->Ax pre x a' W'->K a' W') ->
   assign.wpIn (F.inRound l) (n-1-1) P (Exit.then K (fun _ _ _=>False)) { tmps:=(ps.zip (encs x)).foldl (fun t (p,v)=>t.setIfInBounds p v) a.tmps,defers:=[] } W)
 (hbody:∀ (l:Nat) (pre:List α) (x:α) (a':Act) (W:World),w.heap.size<=l->(∃ r,W.heap[l]?=some (.loop r))->I pre W->Ax pre x a' W->body.wpIn (F.inRound l) (n-1-1) P (ownPostG w.heap.size (Kp x) I Ix (pre++[x]) W) a' W)
 (hdone:∀ (D:Nat) (xs:List α) (W:World),w.heap.size<=D->S xs->I xs W->W.heap[D]?=some (.deferred (some []))->Q .normal { a with defers:={ target:=.collected D,args:=#[] }::a.defers } W)
 (hstop:∀ (D:Nat) (c:Code) (pre:List α) (W:World),w.heap.size<=D->Sp pre->Ix c pre W->W.heap[D]?=some (.deferred (some []))->c.wpIn F n P Q { a with defers:={ target:=.collected D,args:=#[] }::a.defers } W) :
 (Code.rangeFunc g ps assign body).wpIn F n P Q a w:=by
 refine wpIn_rangeFunc fun fn af=>?_;rw [hro];obtain ⟨b,i⟩:∃ b:LoopState->Option Code->Loop,b=fun st pe=>{ state:=st,pending:=pe,fn,tmps:=a.tmps,params:=ps,assign,body,defers:=w.heap.size }:=⟨_,rfl⟩
 obtain ⟨m,hm⟩:∃ m,w.heap.size=m:=⟨_,rfl⟩
 obtain ⟨z,L⟩:∃ z,(w.alloc (.deferred (some []))).alloc (.loop (b .ready none))=z:=⟨_,rfl⟩
 have a0:z.heap.size=m+2:=by rw [<- L,Yav,Yav,hm]
 have a1:Upd (fun _=>False) w z:=by rw [<- L];exact ((Yaa _ w).alloc _).alloc _
 have a8:z.heap[m+1]?=some (.loop (b .ready none)):=by have h2:=World.alloc_heap_new (w.alloc (.deferred (some []))) (.loop (b .ready none));rwa [Yav,L,hm] at h2
 have a9:z.heap[m]?=some (.deferred (some [])):=by rw [<- L,<-hm];exact (YeL _ _ _ (by simp)).trans (World.alloc_heap_new w _)
 have aa:I [] z:=hI _ _ _ h0 (a1.mono fun _ _ f=>f.elim);have ab:Below w0.heap.size w0 z:=hb0.trans ((Same.below a1).mono hb0.size);refine ⟨m+1,[{ target:=.collected m,args:=#[] }],z,{ target:=.fn (.func gf) lb,args:=#[.func (.yield (m+1)) #[] #[]] },z,gf,
  #[.func (.yield (m+1)) #[] #[]]++lb,z,?_,?_,?_,?_,fun _=>h1,?_⟩
 · rw [<- L,i,<-hm];exact run_enterLoop_outer _ _ _ _ _
 · simp only [resolve,hg];simp [go_sem]
 · intro f' a5;simp [Target.leads] at a5;subst a5;exact hFg
 · simp [invoke,go_sem,eg]
 rw [hm] at hI hIx hKb hAx hassign hbody hdone hstop;have up:∀ {A B:World},Upd (Zao T z.heap.size A) A B->Upd (Zao T m A) A B:=fun M=>M.mono fun k _ h=>h.mono qO fun _ h=>h;have E:∀ {A B:World} {k:Nat} {o:Obj},Upd (Zao T z.heap.size A) A B->k<m+2->A.heap[k]?=some o->B.heap[k]?=some o:=fun M H ho =>
  (M.block _ (YaX.1 ho).1 fun h=>qt h.1).trans ho
 refine (hseq (m+1) (fun pre W=>I pre W/\W.heap[m+1]?=some (.loop (b .ready none))/\W.heap[m]?=some (.deferred (some [])))
  (fun pre W=>∃ c,Ix c pre W/\W.heap[m+1]?=some (.loop (b .done (some c)))/\W.heap[m]?=some (.deferred (some []))) z ab
  (fun s A B hs M=>⟨hI s A B hs.1 (up M),E M qO hs.2.1,E M qO hs.2.2⟩)
  (fun s A B ⟨c,hc,y,H⟩ M=>⟨c,hIx c s A B hc (up M),E M qO y,E M qO H⟩)
  ?_ ⟨aa,a8,a9⟩).mono ?_
 · rintro pre x W ⟨hi,y,H⟩ hr;have hy:=run_yield (P:=P) (args:=encs x) y (by rw [i];exact hps x);rw [i] at hy;refine ⟨fn,_,assign,body,hy,roundIn_of_wpIn af (hassign _ pre x W _ hi hr ?_)⟩;clear hy;have pt:∀ {V:World} {o:Obj} (o':Obj),V.heap[m+1]?=some o->o.isCells=false->Upd (Zao T m V) V (V.putObj (m+1) o'):=fun o' hV hc =>
    (Yaa _ _).grown (grownBy_putObj' _ (m+1) o') fun k e=>by cases e;exact .inl (YbI hV hc qO)
   have kp:∀ {V:World} (o':Obj),KeepsFrom (m+2) V (V.putObj (m+1) o'):=fun {V} o'=>⟨(grownBy_putObj' V (m+1) o').size,fun k o H ho _=>(World.putObj_heap_other qO).trans ho⟩
   have km:∀ {A B:World},KeepsFrom m A B->KeepsFrom (m+2) A B:=fun h=>⟨h.size,fun k o H=>h.same k o qO⟩
   intro a' Wa G a6 ag ah;replace y:=G.same _ _ qO y rfl;replace H:=G.same _ _ (Yae _) H rfl;clear hi hr;have ac:m+1<Wa.heap.size:=(YaX.1 y).1;refine ⟨_,run_beginRound y (by rw [i]),?_⟩;have a2:(Wa.putObj (m+1) (.loop { b .ready none with state:=.busy })).heap[m+1]?=some (.loop { b .ready none with state:=.busy }):=World.putObj_heap_same ac;have ad:(Wa.putObj (m+1) (.loop { b .ready none with state:=.busy })).heap[m]?=some (.deferred (some [])):=(World.putObj_heap_other qO).trans H;refine wpIn_mono (hbody _ pre x a' _ qO ⟨_,a2⟩ (hI _ _ _ ag (pt _ y rfl)) (hAx _ _ _ _ _ _ _ qO y rfl ah)) ?_;have ae:=hKb x Wa (m+1) _ (.loop { b .ready none with state:=.busy }) qO y rfl;have a4:∀ (d:Option Code) (q:World),KeepsFrom m (Wa.putObj (m+1) (.loop { b .ready none with state:=.busy })) q ->
    (Instr.endRound (m+1) d).run P q=.ok (.bool d.isNone) (q.putObj (m+1) (.loop (b (if d.isNone then .ready else .done) d))) /\
    q.heap[m+1]?=some (.loop { b .ready none with state:=.busy }) /\
    (q.putObj (m+1) (.loop (b (if d.isNone then .ready else .done) d))).heap[m+1]?=some (.loop (b (if d.isNone then .ready else .done) d)) /\
    (q.putObj (m+1) (.loop (b (if d.isNone then .ready else .done) d))).heap[m]?=some (.deferred (some [])):=fun d q u=>by
    have j:=u.same _ _ qO a2 rfl;have h4:=run_endRound (P:=P) d j;rw [i] at h4 j ⊢;exact ⟨h4,j,World.putObj_heap_same (YaX.1 j).1,(World.putObj_heap_other qO).trans (u.same _ _ (Yae _) ad rfl)⟩
   have O:∀ (c:Code) (q:World),KeepsFrom m (Wa.putObj (m+1) (.loop { b .ready none with state:=.busy })) q->Ix c (pre++[x]) q ->
    ∃ v W4,(Instr.endRound (m+1) (some c)).run P q=.ok v W4/\KeepsFrom z.heap.size W W4/\((Ending.returned v=.returned (.bool true)/\(I (pre++[x]) W4/\W4.heap[m+1]?=some (.loop (b .ready none))/\W4.heap[m]?=some (.deferred (some [])))/\Kp x W W4) \/
     (Ending.returned v=.returned (.bool false)/\∃ c,Ix c (pre++[x]) W4/\W4.heap[m+1]?=some (.loop (b .done (some c)))/\W4.heap[m]?=some (.deferred (some [])))):=fun c q u U=>by
    obtain ⟨X,j,Y,Z⟩:=a4 (some c) q u;exact ⟨_,_,X,by rw [a0];exact (((km G).trans (kp _)).trans (km u)).trans (kp _),.inr ⟨rfl,c,hIx c _ _ _ U (pt _ j rfl),Y,Z⟩⟩
   rintro e a3 q N;cases e with
   | normal =>
     obtain ⟨u,a7,U⟩:=N;obtain ⟨X,j,Y,Z⟩:=a4 none q u;exact ⟨_,_,X,by rw [a0];exact (((km G).trans (kp _)).trans (km u)).trans (kp _),.inl ⟨rfl,⟨hI _ _ _ U (pt _ j rfl),Y,Z⟩,hKt a6 (hKt (hKt ae a7) (hKb x _ _ _ _ qO j rfl))⟩⟩
   | ret=>exact O .ret q N.1 N.2
   | exit id=>exact O (.exit id) q N.1 N.2
   | goto t=>exact O (.goto t) q N.1 N.2
   | panic ch=>exact N.elim
   | outgrown=>exact N.elim
 have pt:∀ {V:World} {o:Obj} (o':Obj),V.heap[m+1]?=some o->o.isCells=false->Upd (Zao T m V) V (V.putObj (m+1) o'):=fun o' hV hc =>
  (Yaa _ _).grown (grownBy_putObj' _ (m+1) o') fun k e=>by cases e;exact .inl (YbI hV hc qO)
 rintro e W2 ⟨⟨v,rfl⟩,(⟨xs,hS,hi,y,H⟩ | ⟨pre,ai,c,hi,y,H⟩)⟩
 · exact ⟨none,_,by have h3:=run_endLoop (P:=P) y (by rw [i];simp);rw [i] at h3;exact h3,hdone _ xs _ (Yae _) hS (hI _ _ _ hi (pt _ y rfl)) ((World.putObj_heap_other qO).trans H)⟩
 exact ⟨some c,_,by have h3:=run_endLoop (P:=P) y (by rw [i];simp);rw [i] at h3;exact h3,hstop _ c pre _ (Yae _) ai (hIx c _ _ _ hi (pt _ y rfl)) ((World.putObj_heap_other qO).trans H)⟩
theorem Zao.cells {T:TypeId->Prop} {B k:Nat} {W:World} {cs:Array Value} {t:TypeId} {fr:Nat×Nat} (h:Zao T B W k) (hk:W.heap[k]?=some (.cells cs t fr)):T t:=by
 obtain ⟨_,o,a,b⟩:=h;rw [hk] at a;injection a with a
 subst a;rcases b with b | ⟨d,g,e,c,f⟩
 · cases b
 injection c with _ c
 subst c;exact f
theorem Blk.it {U:TypeId->Prop} {B g:Nat} {t:TypeId} {cs:Array Value} {W W':World} (h:Blk W g t cs) (hu:Upd (Zao U B W) W W') (ht:¬ U t):Blk W' g t cs :=
 h.upd hu fun a=>ht (a.cells h)
theorem Zau.it {T:TypeId->Prop} {B B':Nat} {W W':World} {x:BS} (h:Zau W B x) (hu:Upd (Zao T B' W) W W') (ht:¬ T 5):Zau W' B x :=
 h.upd hu fun _ ⟨_,_,_,_,a⟩ b=>ht (b.cells a)
theorem ZjZ {T:TypeId->Prop} {base B':Nat} {e:TypeId} {k n:Nat} {v:Value} {xs:List Value} {W W':World} (h:W.ownsRow base e k v n xs) (hu:Upd (Zao T B' W) W W') (ht:¬ T e):W'.ownsRow base e k v n xs :=
 Zae h hu fun b a c=>by obtain ⟨f,d⟩:=Zaf h a;exact ht (c.cells d)
theorem ZcY.it {T:TypeId->Prop} {B B':Nat} {W W':World} {v:Value} {l:List BS} (h:ZcY W B v l) (hu:Upd (Zao T B' W) W W') (ht:¬ T 5) (ht':¬ T 39):ZcY W' B v l :=
 ⟨ZjZ h.row hu ht',fun x a=>(h.each x a).it hu ht⟩
theorem Zah {S:Nat->Prop} {B:Nat} {W W':World} (hu:Upd S W W') (h:∀ k,S k->B<=k->∀ o,W.heap[k]?=some o->o.isCells=true):KeepsFrom B W W' :=
 ⟨hu.size,fun k o d a c=>by
  by_cases b:S k
  · rw [h k b d o a] at c;cases c
  exact (hu.block k (YaX.1 a).1 b).trans a⟩
theorem OfT.cells {w:World} {e:TypeId} {g:Nat} (h:OfT w e g) {o:Obj} (ho:w.heap[g]?=some o):o.isCells=true:=by
 obtain ⟨b,a⟩:=h;unfold Blk at a;rw [ho] at a;injection a with a
 subst a;rfl
abbrev YeD:=@OfT.cells
theorem OfT.itSet {w:World} {e:TypeId} {g B:Nat} {T:TypeId->Prop} (h:OfT w e g) (hB:B<=g) (ht:T e):Zao T B w g:=by obtain ⟨b,a⟩:=h;exact ⟨hB,_,a,.inr ⟨_,_,_,rfl,ht⟩⟩
abbrev Ycu:=@OfT.itSet
theorem Same.it {T:TypeId->Prop} {B:Nat} {w W W':World} (h:Same w W) (hu:Upd (Zao T B W) W W') (hB:w.heap.size<=B):Same w W' :=
 h.trans hu fun b c a=>qt a.1
theorem OwnB.tyb {w:World} {B n c:Nat} {A:Option Addr} {bs:List UInt8} (hn:bs.length=n) (h:OwnB w B (.slice A n c) bs):Zag w (TyB w 0) A n c bs :=
 Yea (ZfQ hn h) fun b d e=>⟨Yah _,d,by obtain ⟨f,i⟩:=Zaf h (g:=b) (by have a:A=some ⟨b,0,none⟩:=e.1;rw [a];rfl);exact ⟨f,_,i⟩⟩
abbrev YdK:=@OwnB.tyb
theorem Zui {α β:Type} {f:α->β} {L:List β} {pre:List α} {k:Nat} {x:α} (h:pre.map f=L.take k) (hx:L[k]?=some (f x)):(pre++[x]).map f=L.take (k+1):=by rw [YaG,h,Ybo,hx];rfl
theorem Zuj {α β:Type} {f:α->β} {L:List β} {pre:List α} {k:Nat} (h:pre.map f=L.take k) (hk:k<=L.length):pre.length=k:=by have a:=YaC List.length h;rw [Yag,YaJ] at a;omega
variable {F:Fence} {n:Nat} {P:Program}
def ZpB (P:Program) (l:Nat) (R:Ending->World->Prop):Exit->Act->World->Prop
 | .panic ch,a,w=>a.defers=[]/\R (.panicked ch) w
 | e,a,w=>roundPost P l R e a w
theorem Zrb {l:Nat} {f:FuncId} {tmps:Array Value} {assign body:Code} {w:World} {R:Ending->World->Prop} (hF:F.fn f) (hx:∃ fn,P.funcs[f]?=some fn)
 (h:assign.wpIn (F.inRound l) n P (Exit.then (fun a₁ w₁=>∃ w₂,(Instr.beginRound l).run P w₁=.ok () w₂/\body.wpIn (F.inRound l) n P (ZpB P l R) a₁ w₂) (fun _ _ _=>False))
   { tmps:=tmps,defers:=[] } w) :
 RoundIn F n P l f tmps assign body w R:=by
 refine ⟨hF,fun c u G=>?_⟩
 let b:Frame:={ (default:Frame) with fn:=f,kind:=.normal,roundOf:=some l }
 have A:Frame.round l f tmps assign body .normal=b.atR { tmps:=tmps,defers:=[] } [.code assign,.beginRound,.code body]:=by simp [Frame.round,Frame.atR,b]
 have i:(F.inRound l).room ((c::u).length+1+n):=G;have j:(F.inRound l).fn b.fn:=hF;obtain ⟨e,a₁,w₁,r,g⟩:=h b [.beginRound,.code body] (c::u) rfl j i;rw [<- A] at g;cases e with
 | normal =>
   obtain ⟨w₂,B,o⟩:=r;have s:StepsIn (Machine.fenced P (F.inRound l)) P (lone (b.atR a₁ [.beginRound,.code body]) (c::u) w₁) (lone (b.atR a₁ [.code body]) (c::u) w₂) :=
    .one (YeR (fr:=b.atR a₁ [.beginRound,.code body]) j i rfl) (stepR_beginRound rfl B)
   obtain ⟨H,x,E,k,a⟩:=o b [] (c::u) rfl j i;cases H with
   | normal =>
     obtain ⟨v,p,d,m⟩:=k;exact ⟨.returned v,p,m,(Ycl g s).trans (Ycl a (.one (YeR (fr:=b.atR x []) j i rfl) (stepR_round_end rfl rfl d)))⟩
   | ret =>
     obtain ⟨v,p,d,m⟩:=k;obtain ⟨y,q⟩:=a.2 rfl;exact ⟨.returned v,p,m,(Ycl g s).trans (Ycl q (.one (YeR (fr:=b.atR x (.code .ret::y)) j i rfl) (stepR_round_ret rfl rfl d)))⟩
   | exit id =>
     obtain ⟨v,p,d,m⟩:=k;obtain ⟨y,C,q⟩:=a.2 rfl rfl;exact ⟨.returned v,p,m,(Ycl g s).trans (Ycl q (.one (YeR (fr:=b.atR x (.code (.exit id)::y)) j i rfl) (stepR_round_exit rfl rfl C d)))⟩
   | goto t =>
     obtain ⟨v,p,d,m⟩:=k;obtain ⟨y,C,q⟩:=a.2 rfl rfl;exact ⟨.returned v,p,m,(Ycl g s).trans (Ycl q (.one (YeR (fr:=b.atR x (.code (.goto t)::y)) j i rfl) (stepR_round_goto rfl rfl C d)))⟩
   | panic ch =>
     obtain ⟨I,m⟩:=k;obtain ⟨z,q⟩:=a;have D:({ b.atR x z with mode:=.panicking ch }:Frame).leaving P E (.panicked ch):=⟨rfl,I,hx⟩
     refine ⟨.panicked ch,E,m,(Ycl g s).trans (Ycl q (.one ?_ (step_leave_panicked D)))⟩;exact fenced_leaving j i D
   | outgrown=>exact k.elim
 | exit id=>exact r.elim
 | goto t=>exact r.elim
 | ret=>exact r.elim
 | panic chain=>exact r.elim
 | outgrown=>exact r.elim
def wp2 (G:FuncId->Prop) (P:Program) (c:Code) (Q:Exit->Act->World->Prop) (a:Act) (w:World):Prop :=
 ∀ (b:Frame) (k:List Item) (cs:List Frame),b.roundOf=none->G b.fn ->
  ∃ e a' w',Q e a' w'/\ArrivesIn (Machine.fenced P Fence.wide) P (lone (b.atR a (.code c::k)) cs w) b k cs e a' w'
section
variable {G:FuncId->Prop} {Q:Exit->Act->World->Prop} {a:Act} {w:World}
theorem Zes {c:Code} (h:c.wp P Q a w):wp2 G P c Q a w:=fun b k e d _=>(YcT (n:=0)).2 h b k e d trivial (room_wide _)
theorem Zdg {x y:Code} (h:wp2 G P x (Exit.then (wp2 G P y Q) Q) a w):wp2 G P (Code.seq x y) Q a w:=by
 intro b k n i p;have f:(lone (b.atR a (.code (.seq x y)::k)) n w).fenced P Fence.wide:=YdB _ _;obtain ⟨e,j,m,g,c⟩:=h b (.code y::k) n i p;cases e with
 | normal =>
   obtain ⟨q,r,s,o,d⟩:=g b k n i p;exact ⟨q,r,s,o,.of_steps (.head f Yeo c) d⟩
 | exit id=>exact ⟨_,j,m,g,.of_steps (.one f Yeo) (.pass (x:=.code y) rfl (fun _ _=>.inl (by simp)) c)⟩
 | goto l=>exact ⟨_,j,m,g,.of_steps (.one f Yeo) (.pass (x:=.code y) rfl (fun _ _=>.inl (by simp)) c)⟩
 | ret=>exact ⟨_,j,m,g,.of_steps (.one f Yeo) (.pass (x:=.code y) rfl (fun _ _=>.inl (by simp)) c)⟩
 | panic ch=>exact ⟨_,j,m,g,.of_steps (.one f Yeo) (.pass (x:=.code y) rfl (fun _ _=>.inl (by simp)) c)⟩
 | outgrown=>exact ⟨_,j,m,g,.of_steps (.one f Yeo) (.pass (x:=.code y) rfl (fun _ _=>.inl (by simp)) c)⟩
def ZpC (G:FuncId->Prop) (P:Program) (l:Nat) (Q:Exit->Act->World->Prop) (a':Act):Ending->World->Prop
 | .returned _,w₃=>∃ jump w₄,(Instr.endLoop l).run P w₃=.ok jump w₄ /\
    (match jump with
     | none=>Q .normal a' w₄
     | some c=>wp2 G P c Q a' w₄)
 | .panicked chain,w₃=>Q (.panic chain) a' w₃
 | .outgrown,_=>LetsOut Q
theorem ZkK {g:Operand} {ps:Array Tmp} {assign body:Code} {n:Nat}
 (h:∀ fn,G fn->∃ (l:Nat) (mark:List Deferred) (w₁:World) (d:Deferred) (w₁':World) (f:FuncId) (args:Array Value) (w₂:World),
   (Instr.enterLoop fn a.tmps ps assign body none).run P w=.ok (l,mark) w₁ /\
   (resolve a.eval (rangeCall g l) 0).run P w₁=.ok d w₁' /\
   (invoke d.target d.args).run P w₁'=.ok (.enter f args) w₂ /\
   CallsIn Fence.wide n P f args w₂ (ZpC G P l Q { a with defers:=mark++a.defers })) :
 wp2 G P (Code.rangeFunc g ps assign body) Q a w:=by
 intro b k cs r E;obtain ⟨l,mark,w₁,d,w₁',f,args,w₂,F,s,t,T,q⟩:=h b.fn E;rw [<- r] at F;have D:(lone (b.atR a (.code (.rangeFunc g ps assign body)::k)) cs w).fenced P Fence.wide:=YdB _ _;have i:=stepR_rangeFunc (P:=P) (b:=b) (a:=a) (k:=k) (cs:=cs) (w:=w) F s t;obtain ⟨e,z,H,A,j,M,m⟩:=q (b.atR { a with defers:=mark++a.defers } (.inRangeFunc l::k)::cs) (room_wide _);cases e with
 | outgrown =>
   obtain ⟨N,O,B⟩:=A;exact ⟨.outgrown,N,O,B,.inr (Outgrown.of_steps (.one i) j)⟩
 | returned v =>
   have y:(lone H (b.atR { a with defers:=mark++a.defers } (.inRangeFunc l::k)::cs) z).fenced P Fence.wide:=YdB _ _;obtain ⟨p,I,u,L⟩:=A;have o:StepsIn (Machine.fenced P Fence.wide) P (lone (b.atR a (.code (.rangeFunc g ps assign body)::k)) cs w) (lone (b.atR { a with defers:=mark++a.defers } ((p.map Item.code).toList++k)) cs I):=by refine .head D i (Ycl j (.head y ?_ (.one (YdB _ _) (stepR_endRangeFunc u))));rw [<- finish_atR_inRangeFunc l v];exact step_leave_returned m
   cases p with
   | none=>exact ⟨.normal,_,I,L,o⟩
   | some c =>
     obtain ⟨R,C,S,B,x⟩:=L b k cs r E;exact ⟨R,C,S,B,.of_steps o x⟩
 | panicked chain =>
   have y:(lone H (b.atR { a with defers:=mark++a.defers } (.inRangeFunc l::k)::cs) z).fenced P Fence.wide:=YdB _ _;refine ⟨.panic chain,_,z,A,.inRangeFunc l::k,.head D i (Ycl j (.one y ?_))⟩;rw [<- Frame.raise_atR];exact step_leave_panicked m
theorem ZfJ {f:FuncId} {fn:Func} {c:Code} {args:Array Value} {w:World} {R:Ending->World->Prop}
 (hf:P.funcs[f]?=some fn) (hb:fn.body=some c)
 (h:wp2 (fun x=>∃ fn',P.funcs[x]?=some fn') P c (bodyPostM Fence.wide 0 P fn R) { tmps:=args++Array.replicate (fn.ntmps-args.size) undef,defers:=[] } w):Calls P f args w R:=by
 refine (YaO (n:=0)).1 ⟨trivial,fun u y=>?_⟩
 let b:Frame:={ (default:Frame) with fn:=f,kind:=.normal,roundOf:=none }
 have k:Frame.enter P f args .normal =
  b.atR { tmps:=args++Array.replicate (fn.ntmps-args.size) undef,defers:=[] } [.code c]:=by
  simp [Frame.enter,Frame.atR,hf,hb,b]
 obtain ⟨e,o,v,p,a⟩:=h b [] u rfl ⟨fn,hf⟩;rw [<- k] at a;cases e with
 | normal =>
   obtain ⟨q,d,g,r,s,i,t⟩:=leaves_stepsInM o.defers .returning v { b.atR o [] with mode:=.returning } u rfl rfl rfl hf rfl trivial y p;exact ⟨q,d,g,r,YfT (Ycl a (.one (YdB _ _) (stepR_end rfl))) s,i,t⟩
 | ret =>
   obtain ⟨j,m⟩:=a.1 rfl;obtain ⟨q,d,g,r,s,i,t⟩:=leaves_stepsInM o.defers .returning v { b.atR o j with mode:=.returning } u rfl rfl rfl hf rfl trivial y p;exact ⟨q,d,g,r,YfT m s,i,t⟩
 | panic chain =>
   obtain ⟨j,m⟩:=a;obtain ⟨q,d,g,r,s,i,t⟩:=leaves_stepsInM o.defers (.panicking chain) v { b.atR o j with mode:=.panicking chain } u rfl rfl rfl hf rfl trivial y p;exact ⟨q,d,g,r,YfT m s,i,t⟩
 | exit id=>exact p.elim
 | goto l=>exact p.elim
 | outgrown=>exact ⟨.outgrown,v,b,p,a.resolve_left (by simp [b]),rfl,trivial⟩
end
def ZoF {α:Type} (B:Nat) (Kp:World->World->Prop) (I:List α->World->Prop) (Ix:Code->List α->World->Prop) (Ip:List PanicEntry->List α->World->Prop) (xs:List α) (W:World):Exit->Act->World->Prop
 | .panic ch,a,W'=>a.defers=[]/\KeepsFrom B W W'/\Ip ch xs W'
 | e,a,W'=>ownPostG B Kp I Ix xs W e a W'
def SeqP {α:Type} (T:TypeId->Prop) (F:Fence) (n:Nat) (P:Program) (g:Nat) (lb:Array Value) (encs:α->Array Value) (Kp:α->World->World->Prop) (R:List α->α->World->Prop) (S Sp:List α->Prop) (w:World):Prop :=
 ∀ (l:Nat) (J Jx:List α->World->Prop) (Jp:List PanicEntry->List α->World->Prop) (W:World),Below w.heap.size w W->AbR T W.heap.size J->AbR T W.heap.size Jx->(∀ ch,AbR T W.heap.size (Jp ch)) ->
  (∀ pre x W1,J pre W1->R pre x W1->YieldAt F (n-1) P l (encs x) W1 fun e W'=>KeepsFrom W.heap.size W1 W' /\
    ((e=.returned (.bool true)/\J (pre++[x]) W'/\Kp x W1 W')\/(e=.returned (.bool false)/\Jx (pre++[x]) W')\/(∃ ch,e=.panicked ch/\Jp ch (pre++[x]) W'))) ->
  J [] W ->
  CallsIn F n P g (#[.func (.yield l) #[] #[]]++lb) W fun e W'=>((∃ v,e=.returned v)/\((∃ xs,S xs/\J xs W')\/(∃ pre,Sp pre/\Jx pre W')))\/(∃ ch pre,e=.panicked ch/\Sp pre/\Jp ch pre W')
theorem ZiJ {α:Type} {G:FuncId->Prop} (hG:∀ x,G x->∃ fn,P.funcs[x]?=some fn) {T:TypeId->Prop} {g:Operand} {ps:Array Tmp} {assign body:Code} {Q:Exit->Act->World->Prop} {a:Act} {w:World}
 {gf:Nat} {lb:Array Value} (hg:a.eval g=.func (.func gf) #[] lb) (eg:∀ args w,(callFunc gf args).run P w=.ok (.enter gf args) w)
 {encs:α->Array Value} {Kp:α->World->World->Prop} {R:List α->α->World->Prop} {S Sp:List α->Prop} {w0:World} (hseq:SeqP T Fence.wide n P gf lb encs Kp R S Sp w0)
 (hKt:∀ {x:α} {A B C:World},Kp x A B->Kp x B C->Kp x A C) (hKb:∀ (x:α) (W:World) (l:Nat) (o o':Obj),w.heap.size<=l->W.heap[l]?=some o->o.isCells=false->Kp x W (W.putObj l o'))
 (hb0:Below w0.heap.size w0 w) (hps:∀ x,(encs x).size=ps.size)
 (I:List α->World->Prop) (Ix:Code->List α->World->Prop) (Ip:List PanicEntry->List α->World->Prop) (hI:AbR T w.heap.size I) (hIx:∀ c,AbR T w.heap.size (Ix c)) (hIp:∀ ch,AbR T w.heap.size (Ip ch)) (h0:I [] w)
 (Ax:List α->α->Act->World->Prop) (hAx:∀ (pre:List α) (x:α) (a':Act) (W:World) (l:Nat) (o o':Obj),w.heap.size<=l->W.heap[l]?=some o->o.isCells=false->Ax pre x a' W->Ax pre x a' (W.putObj l o'))
 (hassign:∀ (l:Nat) (pre:List α) (x:α) (W:World) (K:Act->World->Prop),I pre W->R pre x W->(∀ a' W',KeepsFrom w.heap.size W W'->Kp x W W'->I pre W'->Ax pre x a' W'->K a' W') ->
   assign.wpIn (Fence.wide.inRound l) (n-1) P (Exit.then K (fun _ _ _=>False)) { tmps:=(ps.zip (encs x)).foldl (fun t (p,v)=>t.setIfInBounds p v) a.tmps,defers:=[] } W)
 (hbody:∀ (l:Nat) (pre:List α) (x:α) (a':Act) (W:World),w.heap.size<=l->(∃ r,W.heap[l]?=some (.loop r))->I pre W->Ax pre x a' W->body.wpIn (Fence.wide.inRound l) (n-1) P (ZoF w.heap.size (Kp x) I Ix Ip (pre++[x]) W) a' W)
 (hdone:∀ (D:Nat) (xs:List α) (W:World),w.heap.size<=D->S xs->I xs W->W.heap[D]?=some (.deferred (some []))->Q .normal { a with defers:={ target:=.collected D,args:=#[] }::a.defers } W)
 (hstop:∀ (D:Nat) (c:Code) (pre:List α) (W:World),w.heap.size<=D->Sp pre->Ix c pre W->W.heap[D]?=some (.deferred (some []))->wp2 G P c Q { a with defers:={ target:=.collected D,args:=#[] }::a.defers } W)
 (hpanic:∀ (D:Nat) (ch:List PanicEntry) (pre:List α) (W:World),w.heap.size<=D->Sp pre->Ip ch pre W->W.heap[D]?=some (.deferred (some []))->Q (.panic ch) { a with defers:={ target:=.collected D,args:=#[] }::a.defers } W) :
 wp2 G P (Code.rangeFunc g ps assign body) Q a w:=by
 refine ZkK (n:=n) fun fn ag=>?_;obtain ⟨b,i⟩:∃ b:LoopState->Option Code->Loop,b=fun st pe=>{ state:=st,pending:=pe,fn,tmps:=a.tmps,params:=ps,assign,body,defers:=w.heap.size }:=⟨_,rfl⟩
 obtain ⟨m,hm⟩:∃ m,w.heap.size=m:=⟨_,rfl⟩
 obtain ⟨F,N⟩:∃ F,(w.alloc (.deferred (some []))).alloc (.loop (b .ready none))=F:=⟨_,rfl⟩
 have U:F.heap.size=m+2:=by rw [<- N,Yav,Yav,hm]
 have a4:Upd (fun _=>False) w F:=by rw [<- N];exact ((Yaa _ w).alloc _).alloc _
 have aa:F.heap[m+1]?=some (.loop (b .ready none)):=by have h2:=World.alloc_heap_new (w.alloc (.deferred (some []))) (.loop (b .ready none));rwa [Yav,N,hm] at h2
 have ab:F.heap[m]?=some (.deferred (some [])):=by rw [<- N,<-hm];exact (YeL _ _ _ (by simp)).trans (World.alloc_heap_new w _)
 have ac:I [] F:=hI _ _ _ h0 (a4.mono fun _ _ f=>f.elim);have ad:Below w0.heap.size w0 F:=hb0.trans ((Same.below a4).mono hb0.size);refine ⟨m+1,[{ target:=.collected m,args:=#[] }],F,{ target:=.fn (.func gf) lb,args:=#[.func (.yield (m+1)) #[] #[]] },F,gf,
  #[.func (.yield (m+1)) #[] #[]]++lb,F,?_,?_,?_,?_⟩
 · rw [<- N,i,<-hm];exact run_enterLoop_outer _ _ _ _ _
 · simp only [resolve,hg];simp [go_sem]
 · simp [invoke,go_sem,eg]
 rw [hm] at hI hIx hIp hKb hAx hassign hbody hdone hstop hpanic;have up:∀ {A B:World},Upd (Zao T F.heap.size A) A B->Upd (Zao T m A) A B:=fun H=>H.mono fun k _ h=>h.mono qO fun _ h=>h;have u:∀ {A B:World} {k:Nat} {o:Obj},Upd (Zao T F.heap.size A) A B->k<m+2->A.heap[k]?=some o->B.heap[k]?=some o:=fun H L ho =>
  (H.block _ (YaX.1 ho).1 fun h=>qt h.1).trans ho
 refine (hseq (m+1) (fun pre W=>I pre W/\W.heap[m+1]?=some (.loop (b .ready none))/\W.heap[m]?=some (.deferred (some [])))
  (fun pre W=>∃ c,Ix c pre W/\W.heap[m+1]?=some (.loop (b .done (some c)))/\W.heap[m]?=some (.deferred (some [])))
  (fun ch pre W=>Ip ch pre W/\W.heap[m]?=some (.deferred (some []))) F ad
  (fun s A B hs H=>⟨hI s A B hs.1 (up H),u H qO hs.2.1,u H qO hs.2.2⟩)
  (fun s A B ⟨c,hc,E,L⟩ H=>⟨c,hIx c s A B hc (up H),u H qO E,u H qO L⟩)
  (fun ch s A B hs H=>⟨hIp ch s A B hs.1 (up H),u H qO hs.2⟩)
  ?_ ⟨ac,aa,ab⟩).mono ?_
 · rintro pre x W ⟨O,E,L⟩ hr;have hy:=run_yield (P:=P) (args:=encs x) E (by rw [i];exact hps x);rw [i] at hy;refine ⟨fn,_,assign,body,hy,Zrb trivial (hG _ ag) (hassign _ pre x W _ O hr ?_)⟩;clear hy;have pt:∀ {V:World} {o:Obj} (o':Obj),V.heap[m+1]?=some o->o.isCells=false->Upd (Zao T m V) V (V.putObj (m+1) o'):=fun o' hV hc =>
    (Yaa _ _).grown (grownBy_putObj' _ (m+1) o') fun k e=>by cases e;exact .inl (YbI hV hc qO)
   have kp:∀ {V:World} (o':Obj),KeepsFrom (m+2) V (V.putObj (m+1) o'):=fun {V} o'=>⟨(grownBy_putObj' V (m+1) o').size,fun k o L ho _=>(World.putObj_heap_other qO).trans ho⟩
   have km:∀ {A B:World},KeepsFrom m A B->KeepsFrom (m+2) A B:=fun h=>⟨h.size,fun k o L=>h.same k o qO⟩
   intro a' Wa y a8 ah ai;replace E:=y.same _ _ qO E rfl;replace L:=y.same _ _ (Yae _) L rfl;clear O hr;have ae:m+1<Wa.heap.size:=(YaX.1 E).1;refine ⟨_,run_beginRound E (by rw [i]),?_⟩;have a5:(Wa.putObj (m+1) (.loop { b .ready none with state:=.busy })).heap[m+1]?=some (.loop { b .ready none with state:=.busy }):=World.putObj_heap_same ae;have a6:(Wa.putObj (m+1) (.loop { b .ready none with state:=.busy })).heap[m]?=some (.deferred (some [])):=(World.putObj_heap_other qO).trans L;refine wpIn_mono (hbody _ pre x a' _ qO ⟨_,a5⟩ (hI _ _ _ ah (pt _ E rfl)) (hAx _ _ _ _ _ _ _ qO E rfl ai)) ?_;have af:=hKb x Wa (m+1) _ (.loop { b .ready none with state:=.busy }) qO E rfl;have a7:∀ (d:Option Code) (q:World),KeepsFrom m (Wa.putObj (m+1) (.loop { b .ready none with state:=.busy })) q ->
    (Instr.endRound (m+1) d).run P q=.ok (.bool d.isNone) (q.putObj (m+1) (.loop (b (if d.isNone then .ready else .done) d))) /\
    q.heap[m+1]?=some (.loop { b .ready none with state:=.busy }) /\
    (q.putObj (m+1) (.loop (b (if d.isNone then .ready else .done) d))).heap[m+1]?=some (.loop (b (if d.isNone then .ready else .done) d)) /\
    (q.putObj (m+1) (.loop (b (if d.isNone then .ready else .done) d))).heap[m]?=some (.deferred (some [])):=fun d q z=>by
    have j:=z.same _ _ qO a5 rfl;have h4:=run_endRound (P:=P) d j;rw [i] at h4 j ⊢;exact ⟨h4,j,World.putObj_heap_same (YaX.1 j).1,(World.putObj_heap_other qO).trans (z.same _ _ (Yae _) a6 rfl)⟩
   have X:∀ (c:Code) (q:World),KeepsFrom m (Wa.putObj (m+1) (.loop { b .ready none with state:=.busy })) q->Ix c (pre++[x]) q ->
    ∃ v W4,(Instr.endRound (m+1) (some c)).run P q=.ok v W4/\KeepsFrom F.heap.size W W4/\((Ending.returned v=.returned (.bool true)/\(I (pre++[x]) W4/\W4.heap[m+1]?=some (.loop (b .ready none))/\W4.heap[m]?=some (.deferred (some [])))/\Kp x W W4) \/
     (Ending.returned v=.returned (.bool false)/\∃ c,Ix c (pre++[x]) W4/\W4.heap[m+1]?=some (.loop (b .done (some c)))/\W4.heap[m]?=some (.deferred (some [])))\/(∃ ch,Ending.returned v=.panicked ch/\Ip ch (pre++[x]) W4/\W4.heap[m]?=some (.deferred (some [])))):=fun c q z Y=>by
    obtain ⟨Z,j,a0,a1⟩:=a7 (some c) q z;exact ⟨_,_,Z,by rw [U];exact (((km y).trans (kp _)).trans (km z)).trans (kp _),.inr (.inl ⟨rfl,c,hIx c _ _ _ Y (pt _ j rfl),a0,a1⟩)⟩
   rintro e a3 q M;cases e with
   | normal =>
     obtain ⟨z,a9,Y⟩:=M;obtain ⟨Z,j,a0,a1⟩:=a7 none q z;exact ⟨_,_,Z,by rw [U];exact (((km y).trans (kp _)).trans (km z)).trans (kp _),.inl ⟨rfl,⟨hI _ _ _ Y (pt _ j rfl),a0,a1⟩,hKt a8 (hKt (hKt af a9) (hKb x _ _ _ _ qO j rfl))⟩⟩
   | ret=>exact X .ret q M.1 M.2
   | exit id=>exact X (.exit id) q M.1 M.2
   | goto t=>exact X (.goto t) q M.1 M.2
   | panic ch=>exact ⟨M.1,by rw [U];exact ((km y).trans (kp _)).trans (km M.2.1),.inr (.inr ⟨ch,rfl,M.2.2,M.2.1.same _ _ (Yae _) a6 rfl⟩)⟩
   | outgrown=>exact M.elim
 have pt:∀ {V:World} {o:Obj} (o':Obj),V.heap[m+1]?=some o->o.isCells=false->Upd (Zao T m V) V (V.putObj (m+1) o'):=fun o' hV hc =>
  (Yaa _ _).grown (grownBy_putObj' _ (m+1) o') fun k e=>by cases e;exact .inl (YbI hV hc qO)
 rintro e W2 (⟨⟨v,rfl⟩,(⟨xs,hS,O,E,L⟩ | ⟨pre,a2,c,O,E,L⟩)⟩ | ⟨ch,pre,rfl,a2,O,L⟩)
 · exact ⟨none,_,by have h3:=run_endLoop (P:=P) E (by rw [i];simp);rw [i] at h3;exact h3,hdone _ xs _ (Yae _) hS (hI _ _ _ O (pt _ E rfl)) ((World.putObj_heap_other qO).trans L)⟩
 · exact ⟨some c,_,by have h3:=run_endLoop (P:=P) E (by rw [i];simp);rw [i] at h3;exact h3,hstop _ c pre _ (Yae _) a2 (hIx c _ _ _ O (pt _ E rfl)) ((World.putObj_heap_other qO).trans L)⟩
 exact hpanic _ ch pre _ (Yae _) a2 O L
attribute [local go_sem] Ybq
def Zak:Nat->List BS->List (Nat×List UInt8)
 | _,[]=>[]
 | i,x::l=>match x.A with | none=>Zak (i+1) l | some _=>(i,x.data)::Zak (i+1) l
theorem ZeK:∀ (a b:List BS) (i:Nat),Zak i (a++b)=Zak i a++Zak (i+a.length) b
 | [],b,i=>by simp [Zak]
 | x::a,b,i=>by have e:i+1+a.length=i+(a.length+1):=qO;rw [YaE,Zak,Zak,ZeK a b,Yao,e];cases x.A <;> rfl
structure RE where
 id:Nat
 data:List UInt8
 A:Option Addr
 n:Nat
 c:Nat
def RE.args (x:RE):Array Value:=#[.int .i64 (x.id:Int),.slice x.A x.n x.c]
def RE.dat (x:RE):Nat×List UInt8:=(x.id,x.data)
structure ReR (L:List (Nat×List UInt8)) (pre:List RE) (x:RE) (W:World):Prop where
 at_:L[pre.length]?=some x.dat
 row:Zag W (TyB W 0) x.A x.n x.c x.data
structure FlU (U:TypeId->Prop):Prop where
 f:¬ U 171
 p:¬ U 67
 r:¬ U 39
 b:¬ U 5
theorem PF.it {U:TypeId->Prop} (hU:FlU U) {W W':World} {B m f k vs z low:Nat} {v:Value} {l:List BS} (h:PF W B f k vs z v l low) (hu:Upd (Zao U m W) W W'):PF W' B f k vs z v l low :=
 ⟨h.base,h.blk.it hu hU.f,h.own.it hu hU.b hU.r,h.size,h.recs,h.len,h.low⟩
theorem ZkL {U:TypeId->Prop} (hU:FlU U) (n:Nat) (hn1:1<=n) (w:World) {B f k vs z low fB:Nat} {v:Value} {l:List BS} (h:PF w B f k vs z v l low) (hb:Blk w fB 67 #[.pointer (some ⟨f,0,none⟩)]) :
 SeqP (fun _=>False) Fence.wide n Tryz.prog 122 #[.pointer (some ⟨fB,0,none⟩)] RE.args (fun _ W W'=>Upd (Zao U 0 W) W W') (ReR (Zak 0 l))
  (fun xs=>xs.map RE.dat=Zak 0 l) (fun pre=>∃ k,pre.map RE.dat=(Zak 0 l).take k) w:=fun lp J Jx Jp W hW hJ aj ak hY h0=>by
 have t:Same w W:=Yfe hW;obtain ⟨A,c,rfl⟩:=Zad h.own.row;obtain ⟨d,j⟩:∃ d,l.length=d:=⟨_,rfl⟩
 have u:=qH j;have am:d<=65536:=by rw [<- j];exact h.len
 rw [j] at h;obtain ⟨L,hL⟩:∃ L,Zak 0 l=L:=⟨_,rfl⟩
 rw [hL] at hY ⊢;have HL:=qH hL;have HU:=qH hU;have H0:=qH (h.same t);have M:=qH (hb.same t);have HJ:=qH hJ;have HY:=qH hY;have R:=qH h0;clear h hb hU t hW hJ aj ak hY h0 j hL;refine YaO.2 ?_;go_enter Tryz.func122,Tryz.ntmps122;go_wp2_with fail;go_loopg [3] d (fun gh s wr=>∃ (i:Nat) (pre:List RE),d-i=gh/\i<=d/\s=.int .i64 (i:Int)/\Hid (pre.map RE.dat=Zak 0 (l.take i))/\Hid (J pre wr)/\Hid (PF wr B f k vs z (.slice A d c) l low)/\Hid (Blk wr fB 67 #[.pointer (some ⟨f,0,none⟩)])/\Hid (W.heap.size<=wr.heap.size))
 case atStart=>exact ⟨0,[],rfl,Yah _,rfl,qH rfl,R,H0,M,qH (Yae _)⟩
 clear R H0 M;obtain ⟨i,pre,rfl,hi,rfl,KP,KJ,G,M,KW⟩:=hrel;have q0:=M.c0;have q3:=G.blk.c3;by_cases aa:i<d
 · have an:=fun (w:World) (a:Option Addr) (n c:Nat)=>run_neq_slice_nil_any (P:=Tryz.prog) w 39 5 a n c 0 0 Tryz.underlying39;have j1:(i:Int)<(d:Int):=qO;have ao:IntKind.i64.wrap ((i:Int)+1)=((i+1:Nat):Int):=by rw [YbQ];omega
   obtain ⟨b,o,x,rfl,aq,hx,H,hc⟩:=G.own.at_ u.out aa;have S:l.take (i+1)=l.take i++[x]:=by rw [Ybo,hx];rfl
   have T:=qH S;have V:l=l.take i++x::l.drop (i+1):=by obtain ⟨N,h2⟩:=Yaq.1 hx;have h3:=YbT i l;rw [YbF N,h2] at h3;exact h3.symm
   have ab:=qH V;have X:=qH (show (l.take i).length=i by rw [YaJ,u.out];omega);have g:=qH (G.own.each x H);have Y:=qH H;clear hx H S V;cases hxA:x.A with
   | none =>
     have h5:=Row.nil g.out hxA;have h6:=Row.le g.out;rw [hxA,h5,show x.n=0 by omega] at hc;have C:=qH (show pre.map RE.dat=Zak 0 (l.take (i+1)) by rw [T.out,ZeK,<-KP.out];simp [Zak,hxA])
     go_wp2;go_roundg (d-(i+1))
     case measure=>omega
     case rel=>exact ⟨i+1,pre,rfl,qO,by go_num,C,KJ,G,M,KW⟩
   | some a =>
     have Z:x.n<=140737488355328:=by have h2:=Yct g.out;have h3:=G.recs x Y.out (by rw [hxA];simp);have h4:=G.size;omega
     have D:=qH (Zcv wr g Z);have a0:Hid (L[pre.length]?=some (i,x.data)):=qH (by have N:=YaC List.length KP.out;rw [Yag] at N;rw [<- HL.out,ab.out,ZeK,X.out,YbJ,Zak,hxA,YcA qO,N,YbC];rfl)
     have E:Hid (∀ y:RE,y.dat=(i,x.data)->(pre++[y]).map RE.dat=Zak 0 (l.take (i+1))):=qH fun y O=>by rw [T.out,ZeK,<-KP.out,X.out,YaG,YbJ,Zak,hxA];simp [Zak,O]
     have F:Hid (∀ y:RE,y.dat=(i,x.data)->∃ k,(pre++[y]).map RE.dat=L.take k):=qH fun y O=>⟨(Zak 0 (l.take (i+1))).length,by
      have N:Zak 0 (l.take (i+1))++Zak (0+(l.take (i+1)).length) (l.drop (i+1))=L:=by rw [<- HL.out,<-ZeK,YbT]
      rw [E.out y O,<-N,List.take_left]⟩
     generalize ap:x.data=xd at D a0 E F;rw [hxA] at D;clear Z Y;refine (YcT (n:=n)).1 ?_;gi_wp2_with (refine ⟨trivial,?_⟩;gi_at_call 106;refine (YaO.2 D).mono ?_;rintro e5 w5 ⟨v5,rfl,I,m⟩;obtain ⟨A7,c7,rfl⟩:=Zad I;have a1:=qH I;have a2:=qH m;have a3:=qH (G.same m);have a4:=qH (M.same m);clear I m;obtain ⟨fn,a5,q,a6,O,hR⟩:=HY.out pre ⟨i,xd,A7,xd.length,c7⟩ w5 (HJ.out _ _ _ KJ (a2.mono fun _ _ f=>f.elim)) ⟨a0,YdK rfl a1⟩;have ac:(Instr.yield lp #[.int .i64 (i:Int),.slice A7 xd.length c7]).run Tryz.prog w5=.ok (.round lp fn a5 q a6) w5:=O;clear O);refine hR.mono ?_;clear ac hR;rintro e W2 ⟨al,h⟩;rcases h with ⟨rfl,a7,r⟩ | ⟨rfl,a8⟩ | ⟨ch,rfl,a9⟩
     case inr.inl =>
      gi_wp2;go_wp2_with fail;refine YbB (Ycp rfl _ _ _) rfl ?_;exact .inl ⟨⟨_,rfl⟩,.inr ⟨_,F.out _ rfl,a8⟩⟩
     case inr.inr =>
      gi_wp2;exact ⟨rfl,.inr ⟨ch,_,rfl,F.out _ rfl,a9⟩⟩
     have ad:=qH (E.out ⟨i,xd,A7,xd.length,c7⟩ rfl);have ae:=qH a7;have af:=qH (a3.it HU r);have ag:=qH (a4.it r HU.p);have ah:=qH (Yaj KW (Yaj a2.size r.size));clear a7 r al a3 a4 a1;gi_wp2;go_wp2_with fail;go_roundg (d-(i+1))
     case measure=>omega
     case rel=>exact ⟨i+1,_,rfl,qO,by go_num,ad,ae,af,ag,ah⟩
 have j1:¬ ((i:Int)<(d:Int)):=qO;have ai:i=d:=qO;have C:=qH (show pre.map RE.dat=L by rw [<- HL.out,KP.out,ai,YaB (by rw [u.out];exact Yae _)]);go_wp2;go_end0;exact .inl ⟨⟨_,rfl⟩,.inl ⟨pre,C,KJ⟩⟩
end Go.Proofs.YtmkjfhnlnhceiaaGreatDoor
