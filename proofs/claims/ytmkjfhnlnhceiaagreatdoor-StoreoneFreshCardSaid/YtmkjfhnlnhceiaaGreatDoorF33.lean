/- Lemmas: walks and plain laws. -/
import Derived.Test.YtmkjfhnlnhceiaaGreatDoorF32
set_option maxRecDepth 100000
set_option maxHeartbeats 16000000
namespace Go.Proofs.YtmkjfhnlnhceiaaGreatDoor
variable {g0 B id:Nat} {A w W:World} {S:Nat->Prop} {Q:Exit->Act->World->Prop} {a:Act} {z v:Value} {P:Program} {tmps:Array Value} {R:Ending->World->Prop} {t e:TypeId} {d:List UInt8}
section
open Go.RowKit
attribute [local go_sem] oD
theorem Ztd:∀ (l:List BS) (i:Nat),DA i l=GB i (l.map BS.rc)
 | [],_=>rfl
 | x::l,i=>by rw [DA,CB,Ztd l (i+1)];unfold BS.rc;cases x.A <;> rfl
def DcU (t:TypeId):Prop:=t≠171/\t≠67/\t≠39/\t≠5
theorem dcU:FlU DcU:=⟨fun h=>h.1 rfl,fun h=>h.2.1 rfl,fun h=>h.2.2.1 rfl,fun h=>h.2.2.2 rfl⟩
def MvD (g0:Nat) (W W':World):Prop:=KeepsFrom g0 W W'/\Upd (yB DcU 0 W) W W'
theorem MvD.trans {B C:World} (h:MvD g0 A B) (h':MvD g0 B C):MvD g0 A C:=⟨⟨tA h.1.1 h'.1.1,fun k o a c b=>h'.1.2 k o a (h.1.2 k o a c b) b⟩,bM h.2 h'.2⟩
theorem MvD.same {B:World} (h:Same A B):MvD g0 A B:=⟨ZD h fun _ f=>f.elim,h.mono qe⟩
abbrev AM:=@MvD.same
theorem MvD.set {B:World} (h:Upd S A B) (hS:∀ b,S b->(b<g0/\∃ o,A.heap[b]?=some o/\o.isCells=false)\/∃ t,DcU t/\OfT A t b):MvD g0 A B :=
 ⟨ZD h fun k d g o e=>by
  rcases hS k d with ⟨c,_⟩ | ⟨t,_,a⟩
  · omega
  · exact a.cells e,h.mono fun b _ f=>by
  rcases hS b f with ⟨_,o,c,a⟩ | ⟨t,c,a⟩
  · exact GE c a (oA _)
  exact a.itSet (oA _) c⟩
abbrev gL:=@MvD.set
def SU (er:Int):List PanicEntry:=[{ v:=.iface 99 (.agg #[.int .i64 er]),recovered:=false }]
def RndQ (g0:Nat) (W:World) (Jn:World->Prop) (Er:Int->Prop) (Bd:World->Prop):Exit->Act->World->Prop
 | .normal,_,W'=>MvD g0 W W'/\Jn W'
 | .panic ch,a,W'=>a.defers=[]/\KeepsFrom g0 W W'/\∃ er,ch=SU er/\Er er/\Bd W'
 | _,_,_=>False
abbrev goodF (x:FuncId):Prop:=∃ fn,Tryz.prog.funcs[x]?=some fn
theorem iL {ps:Array Tmp} {g:Operand} {a1 a2:Code} {f k vs z low fB:Nat} {l:List BS}
 (hP:PF w B f k vs z v l low) (hb:Blk w fB 67 #[.pointer (some ⟨f,0,none⟩)]) (hg:a.eval g=.func (.func 122) #[] #[.pointer (some ⟨fB,0,none⟩)]) (a4:ps.size=2)
 (J:List (Nat×List UInt8)->World->Prop) (Er:Int->Prop) (Bd:World->Prop) (h0:J [] w)
 (hJ:∀ a0 W W',J a0 W->Upd (yB (fun _=>False) w.heap.size W) W W'->J a0 W')
 (hB:∀ W W',Bd W->Upd (yB (fun _=>False) w.heap.size W) W W'->Bd W')
 (F_:RE->Array Value)
 (a5:∀ (lp:Nat) (x:RE) (W:World) (K:Act->World->Prop),K { tmps:=F_ x,defers:=[] } W ->
   a1.wpIn (Fence.wide.inRound lp) 1 Tryz.prog (Exit.then K (fun _ _ _=>False)) { tmps:=(ps.zip (RE.args x)).foldl (fun t (p,v)=>t.setIfInBounds p v) a.tmps,defers:=[] } W)
 (a6:∀ (lp:Nat) (a0:List (Nat×List UInt8)) (x:RE) (W:World),J a0 W->a0=(GB 0 (l.map BS.rc)).take a0.length->(GB 0 (l.map BS.rc))[a0.length]?=some (x.id,x.data)->x.id<l.length->x.data.length+1=z->pA W (TyB W 0) x.A x.n x.c x.data ->
   a2.wpIn (Fence.wide.inRound lp) 1 Tryz.prog (RndQ w.heap.size W (J (a0++[(x.id,x.data)])) Er Bd) { tmps:=F_ x,defers:=[] } W)
 (a3:∀ (D:Nat) (W:World),w.heap.size<=D->J (GB 0 (l.map BS.rc)) W->W.heap[D]?=some (.deferred (some []))->Q .normal { a with defers:={ target:=.collected D,args:=#[] }::a.defers } W)
 (a7:∀ (D:Nat) (er:Int) (W:World),w.heap.size<=D->Er er->Bd W->W.heap[D]?=some (.deferred (some []))->Q (.panic (SU er)) { a with defers:={ target:=.collected D,args:=#[] }::a.defers } W):
 wp2 goodF Tryz.prog (Code.rangeFunc g ps a1 a2) Q a w:=by
 have E:=Ztd l 0;refine ZiY (n:=2) (fun _ h=>h) (T:=fun _=>False) hg (enters_of SM qK rfl) (bQ dcU 2 qO w hP hb)
  (fun A=>eA _ A) (fun u b=>bM u b) (fun W lp o L X M N=>(eA _ W).grown (grownBy_putObj' W lp L) fun k e=>.inl (by cases e;exact GE M N (oA _))) (fun a0 x W lp o L X M N h=>h.obj M N L) (CK _ _) (fun _=>a4.symm)
  (fun a0 W=>J (a0.map RE.dat) W/\a0.map RE.dat=(DA 0 l).take a0.length) (fun _ _ _=>False) (fun F a0 W=>∃ er,F=SU er/\Er er/\Bd W)
  (fun a0 W W' h G=>⟨hJ _ _ _ h.1 G,h.2⟩) (fun c a0 W W' h G=>h) (fun F a0 W W' ⟨er,u,b,s⟩ G=>⟨er,u,b,hB _ _ s G⟩) ⟨h0,rfl⟩ F_ a5 ?_ ?_ (fun _ _ _ _ _ _ h=>h.elim) ?_
 · intro lp a0 x W Y _ ⟨Z,m⟩ V;have q:=V.at_;have d:(a0.map RE.dat).length=a0.length:=nA ..;have j:=OC q;have r:=j;rw [E] at r;obtain ⟨y,C,O,P⟩:∃ y,l[x.id]?=some y/\y.A≠none/\y.data=x.data:=by
    have u:∀ (l:List BS) (i:Nat) (p:Nat×List UInt8),p∈DA i l->i<=p.1/\∃ y,l[p.1-i]?=some y/\y.A≠none/\y.data=p.2:=by
     intro l
     induction l with
     | nil=>intro i p h;cases h
     | cons z l ih =>
       intro i p h;rw [DA] at h;have step:p∈DA (i+1) l->i<=p.1/\∃ y,(z::l)[p.1-i]?=some y/\y.A≠none/\y.data=p.2:=fun h=>by obtain ⟨u,y,b,s⟩:=ih (i+1) p h;refine ⟨qO,y,?_,s⟩;rw [show p.1-i=(p.1-(i+1))+1 by omega,LC];exact b
       cases hz:z.A with
       | none=>rw [hz] at h;exact step h
       | some a =>
         rw [hz] at h;rcases TA.1 h with rfl | h
         · exact ⟨lA _,z,by rw [SD];rfl,by rw [hz];simp,rfl⟩
         exact step h
    obtain ⟨_,y,b,s,h4⟩:=u l 0 _ j;exact ⟨y,b,s,h4⟩
   have H:=a6 lp (a0.map RE.dat) x W Z (by rw [d,<-E];exact m) (by rw [d,<-E];exact q) (IA.1 C).1 (by rw [<- P];exact hP.recs y (OC C) O) V.row;refine wpIn_mono H fun e a' W' h=>?_;have I:(a0++[x]).map RE.dat=(DA 0 l).take (a0++[x]).length:=by rw [kA,GG,DB,m,eD,q];simp
   cases e with
   | normal =>
     refine ⟨h.1.1,h.1.2,?_,I⟩;rw [DB];exact h.2
   | panic F=>exact h
   | ret=>exact h.elim
   | exit id=>exact h.elim
   | goto l=>exact h.elim
   | outgrown=>exact h.elim
 · intro D xs W R S hI U;rw [<- E,<-S] at a3;exact a3 D W R hI.1 U
 rintro D F a0 W R _ ⟨er,rfl,b,s⟩ U;exact a7 D er W R b s U
theorem jL {G:FuncId->Prop} {c:Code} (h:wp2 G P c (Exit.inBlock id Q) a w):wp2 G P (Code.block id c) Q a w:=by
 intro b k r p s;have f:(lone (b.atR a (.code (.block id c)::k)) r w).fenced P Fence.wide:=FJ _ _;obtain ⟨e,i,j,g,d⟩:=h b (.inBlock id::k) r p s;cases e with
 | normal=>exact ⟨.normal,i,j,g,.head f XI (jG d (.one (FJ _ _) stepR_inBlock))⟩
 | exit id' =>
   by_cases hid:id'=id
   · simp only [Exit.inBlock,hid,lG] at g;exact ⟨.normal,i,j,g,.head f XI (d.1 k (by simp [exitTo,hid]))⟩
   simp only [Exit.inBlock,hid,if_false] at g;have this:(id==id')=false:=by simp;exact fun h=>hid h.symm
   have o:exitTo id' (.inBlock id::k)=exitTo id' k:=by simp [exitTo,this]
   exact ⟨.exit id',i,j,g,fun q m=>.head f XI (d.1 q (by rw [o];exact m)),
    fun n m=>let ⟨k₁,h1,h2⟩:=d.2 n (by rw [o];exact m);⟨k₁,h1,.head f XI h2⟩⟩
 | goto l =>
   have o:gotoIn l (.inBlock id::k)=gotoIn l k:=by simp [gotoIn]
   exact ⟨_,i,j,g,fun q m=>.head f XI (d.1 q (by rw [o];exact m)),
    fun n m=>let ⟨k₁,h1,h2⟩:=d.2 n (by rw [o];exact m);⟨k₁,h1,.head f XI h2⟩⟩
 | ret=>exact ⟨_,i,j,g,.of_steps (.one f XI) d⟩
 | panic ch=>exact ⟨_,i,j,g,.of_steps (.one f XI) d⟩
 | outgrown=>exact ⟨_,i,j,g,.of_steps (.one f XI) d⟩
def TC (B M:Nat) (W:World) (ds:List Deferred):Prop:=∃ Ds:List Nat,ds=Ds.map (fun D=>{ target:=.collected D,args:=#[] })/\Ds.Nodup/\∀ D∈Ds,B<=D/\D<M/\W.heap[D]?=some (.deferred (some []))
section
variable {B M:Nat} {W W':World} {ds:List Deferred}
theorem TC.nil (B M:Nat) (W:World):TC B M W []:=⟨[],rfl,NL,fun _ h=>by cases h⟩
theorem TC.upd (h:TC B M W ds) (hu:Upd S W W') (hS:∀ D,S D->D<M->W.heap[D]?≠some (.deferred (some []))):TC B M W' ds:=by obtain ⟨c,d,e,f⟩:=h;refine ⟨c,d,e,fun D g=>?_⟩;obtain ⟨i,b,a⟩:=f D g;exact ⟨i,b,(hu.block D (sC.1 a).1 fun j=>hS D j b a).trans a⟩
theorem TC.same (h:TC B M W ds) (hu:Same W W'):TC B M W' ds:=h.upd hu fun _ f=>f.elim
theorem TC.cons (h:TC B M W ds) {D:Nat} (hB:B<=M) (hD:M<=D) (hk:W.heap[D]?=some (.deferred (some []))):TC B (D+1) W ({ target:=.collected D,args:=#[] }::ds):=by
 obtain ⟨c,d,e,b⟩:=h;refine ⟨D::c,by rw [d];rfl,lE.2 ⟨fun f=>by have:=(b D f).2.1;omega,e⟩,fun g a=>?_⟩;rcases TA.1 a with rfl | a
 · exact ⟨qO,qO,hk⟩
 have:=b g a;exact ⟨this.1,qO,this.2.2⟩
theorem TC.marks (h:TC B M W ds):BI B W ds:=by obtain ⟨c,d,e,a⟩:=h;exact ⟨c,d,e,fun D b=>⟨(a D b).1,(a D b).2.2⟩⟩
end
theorem ZuH (h:Q .normal a w):Exit.inBlock id Q .normal a w:=h
theorem Same.up {W':World} (h:Same W W'):Upd S W W':=h.mono qe
abbrev iE:=@Same.up
theorem BM {K:Act->World->Prop} (h:K a w):Exit.inBlock id (Exit.then K Q) .normal a w:=h
theorem TU {F:Fence} {n:Nat} {fn:Func} {u:FrameMode} (hu:u=.returning\/∃ ch,u=.panicking ch):∀ (Ds:List Nat) (W:World),Ds.Nodup->(∀ D∈Ds,W.heap[D]?=some (.deferred (some []))) ->
 (∀ W',Upd (fun k=>k∈Ds) W W'->LeavesInM F n P fn tmps R [] u W')->LeavesInM F n P fn tmps R (Ds.map (fun D=>{ target:=.collected D,args:=#[] })) u W
 | [],W,_,_,h=>h W (eA _ _)
 | D::Ds,W,hn,hd,h=>by obtain ⟨d,f⟩:=lE.1 hn;have b:=(eA (fun k=>k=D) W).grown (grownBy_putObj' W D (.deferred none)) fun k a=>.inl (by injection a with a;exact a.symm);refine ⟨by rcases hu with rfl | ⟨ch,rfl⟩ <;> simp,.inl ⟨_,_,rfl,run_takeDeferred (hd D qS),?_⟩⟩;refine TU hu Ds _ f (fun i c=>?_) fun W' hu=>h W' ((b.mono (S':=fun k=>k∈D::Ds) fun k _ a=>by subst a;simp).trans hu fun k _ a=>by simp [a]);have g:=hd i (by simp [c]);exact (b.block i (sC.1 g).1 fun e=>d (e ▸ c)).trans g
theorem yJ {fn:Func} {ch:List PanicEntry} {ds:List Deferred} (hm:BI B W ds)
 (h:∀ W':World,Upd (fun k=>B<=k/\W.heap[k]?=some (.deferred (some []))) W W'->R (.panicked ch) W'):bodyPostM Fence.wide 0 P fn R (.panic ch) ⟨tmps,ds⟩ W:=by
 obtain ⟨b,rfl,c,a⟩:=hm;unfold bodyPostM;refine TU (.inr ⟨ch,rfl⟩) b W c (fun D d=>(a D d).2) fun W' e=>?_;exact h W' (e.mono fun k _ f=>a k f)
theorem Zih {fn:Func} (hm:BI B W a.defers)
 (h:∀ W':World,Upd (fun k=>B<=k/\W.heap[k]?=some (.deferred (some []))) W W'->LeavesIn Fence.wide 0 P fn a.tmps R [] .returning W'):bodyPostM Fence.wide 0 P fn R .normal a W:=by
 obtain ⟨c,d,e,b⟩:=hm;unfold bodyPostM;simp only;rw [d];exact TU (.inl rfl) c W e (fun D f=>(b D f).2) fun W' g=>h W' (g.mono fun k _ i=>b k i)
end
section
open Go.RowKit
theorem UU:∀ (rs:List (Option (List UInt8))) (i:Nat) (p:Nat×List UInt8),p∈GB i rs↔i<=p.1/\rs[p.1-i]?=some (some p.2)
 | [],i,p=>by simp [GB]
 | r::rs,i,p=>by
   have ih:=UU rs (i+1) p;by_cases e:p.1=i
   · have g:¬ i+1<=p.1:=qO;have f:p ∉ GB (i+1) rs:=fun h=>g (ih.1 h).1;rw [e,SD,rC];cases r with
     | none =>
       rw [GB];simp [f]
     | some d =>
       rw [GB,TA];obtain ⟨a,b⟩:=p;simp only at e;subst e;simp only [lA,jI,SE];constructor
       · rintro (h | h)
         · exact (Prod.mk.inj h).2.symm
         exact absurd h f
       rintro rfl;exact .inl rfl
   have j:p∈GB i (r::rs)↔p∈GB (i+1) rs:=by
    cases r with
    | none=>rw [GB]
    | some d =>
      rw [GB,TA];exact ⟨fun h=>h.elim (fun h=>absurd (by rw [h]) e) id,.inr⟩
   rw [j,ih];constructor
   · rintro ⟨k,c⟩;refine ⟨qO,?_⟩;rw [show p.1-i=(p.1-(i+1))+1 by omega,LC];exact c
   rintro ⟨k,c⟩;refine ⟨qO,?_⟩;rw [show p.1-i=(p.1-(i+1))+1 by omega,LC] at c;exact c
theorem kL {f:YA} {p:Nat×List UInt8}:p∈GB 0 f.recs↔f.at_ p.1=some p.2:=by
 rw [UU];unfold YA.at_;simp only [oA,jI,BH];constructor
 · intro h;rw [h]
 intro h;split at h
 · rename_i d a;rw [a,<-h]
 cases h
theorem zJ:∀ (rs:List (Option (List UInt8))) (i:Nat),(GB i rs).length<=rs.length
 | [],_=>lA _
 | none::rs,i=>Nat.le_succ_of_le (zJ rs (i+1))
 | some _::rs,i=>Nat.succ_le_succ (zJ rs (i+1))
theorem VU:∀ (rs:List (Option (List UInt8))) (i:Nat),(GB i rs).Pairwise fun a b=>a.1<b.1
 | [],_=>List.Pairwise.nil
 | none::rs,i=>VU rs (i+1)
 | some d::rs,i=>TE.2 ⟨fun p c=>by have:=((UU rs (i+1) p).1 c).1;simp only;omega,VU rs (i+1)⟩
theorem WU {rs:List (Option (List UInt8))} {a:List (Nat×List UInt8)} {x:Nat×List UInt8} (h:a=(GB 0 rs).take a.length) (hx:(GB 0 rs)[a.length]?=some x):∀ y∈a,y.1≠x.1:=fun y d=>by have c:=(WQ h hx).1;have b:=VU rs 0;rw [c] at b;have e:=(oP.1 b).2.2 y d x qS;omega
def RecM (w:World) (m:Nat) (U:List (Nat×List UInt8)) (V:World->Nat×List UInt8->Value->Prop):Prop :=
 ∃ f,MpI w m U.length f/\(∀ x∈U,∃ v,f (x.1:Int)=some v/\V w x v)/\∀ i:Int,(∀ x∈U,(x.1:Int)≠i)->f i=none
section
variable {w w':World} {m:Nat} {U:List (Nat×List UInt8)} {V:World->Nat×List UInt8->Value->Prop}
theorem RecM.made (w:World):RecM (w.alloc (.map #[] 0)) w.heap.size [] V:=⟨_,WN w,(fun _ h=>by cases h),fun _ _=>rfl⟩
theorem RecM.lt (h:RecM w m U V):m<w.heap.size:=by obtain ⟨f,a,_⟩:=h;exact a.lt
theorem RecM.ne {g:Nat} {cs:Array Value} (h:RecM w m U V) (hb:Blk w g t cs):m≠g:=by obtain ⟨f,a,_⟩:=h;exact a.ne hb
theorem RecM.obj (h:RecM w m U V):∃ o,w.heap[m]?=some o/\o.isCells=false:=by obtain ⟨f,a,_⟩:=h;obtain ⟨d,c,b⟩:=MpK.obj a;exact ⟨_,b,rfl⟩
theorem RecM.upd (h:RecM w m U V) (hu:Upd S w w') (hs:¬ S m) (hV:∀ x v,V w x v->V w' x v):RecM w' m U V:=by obtain ⟨f,a,b,c⟩:=h;refine ⟨f,a.upd hu hs,fun x d=>?_,c⟩;obtain ⟨v,e,g⟩:=b x d;exact ⟨v,e,hV x v g⟩
theorem RecM.snoc (h:RecM w m U V) (ht:Tryz.prog.underlying t=some (.map 3 e)) (hU:U.length<=65536) {x:Nat×List UInt8} (hx:∀ y∈U,y.1≠x.1) (z:x.1<=65536) (v:Value):
 ∃ w',(Instr.mapUpdate t (.map (some m)) (.int .i64 (x.1:Int)) v).run Tryz.prog w=.ok () w'/\Upd (fun b=>b=m) w w'/\((∀ y u,V w y u->V w' y u)->V w' x v->RecM w' m (U++[x]) V):=by
 obtain ⟨f,k,l,c⟩:=h;obtain ⟨w',n,d,o⟩:=k.store ht qM (i:=(x.1:Int)) qO v;have j:f (x.1:Int)=none:=c _ fun y a e=>hx y a qO;rw [j] at d;refine ⟨w',n,o,fun p q=>⟨_,by rw [kA];exact d,fun y a=>?_,fun i g=>?_⟩⟩
 · unfold mpPI;rcases YB.1 a with a | a
   · obtain ⟨u,r,s⟩:=l y a;exact ⟨u,by rw [aA (by have:=hx y a;omega)];exact r,p _ _ s⟩
   rw [QB.1 a];exact ⟨v,gA rfl,q⟩
 unfold mpPI;rw [aA (fun e=>g x qS e.symm)];exact c i fun y a=>g y (by simp [a])
theorem RecM.at_ (h:RecM w m U V) (ht:Tryz.prog.underlying t=some (.map 3 e)) (hz:∀ w,(zeroValue e).run Tryz.prog w=.ok z w) {x:Nat×List UInt8} (hx:x∈U) (l:x.1<=65536):
 ∃ v,V w x v/\∀ wx,Same w wx->(Instr.lookup t (.map (some m)) (.int .i64 (x.1:Int)) true).run Tryz.prog wx=.ok (.tuple #[v,.bool true]) wx/\(Instr.lookup t (.map (some m)) (.int .i64 (x.1:Int)) false).run Tryz.prog wx=.ok v wx:=by
 obtain ⟨f,b,c,k⟩:=h;obtain ⟨v,d,g⟩:=c x hx;refine ⟨v,g,fun wx j=>?_⟩;have a:=(b.same j).look ht (hz wx) (i:=(x.1:Int)) qO;rw [d] at a;exact a
theorem RecM.no (h:RecM w m U V) (ht:Tryz.prog.underlying t=some (.map 3 e)) (hz:∀ w,(zeroValue e).run Tryz.prog w=.ok z w) {i:Int} (hi:∀ x∈U,(x.1:Int)≠i) (g : -9223372036854775808<=i/\i<=9223372036854775807) (wx:World) (hs:Same w wx):
 (Instr.lookup t (.map (some m)) (.int .i64 i) true).run Tryz.prog wx=.ok (.tuple #[z,.bool false]) wx:=by
 obtain ⟨f,b,d,c⟩:=h;have a:=((b.same hs).look ht (hz wx) g).1;rw [c i hi] at a;exact a
end
def VN (B:Nat) (w:World) (x:Nat×List UInt8) (v:Value):Prop:=∃ n A c,getN x.2=some n/\v=.agg (n.cellsV (.slice A n.labels.length c))/\w.ownsRow B 3 1 (.slice A n.labels.length c) n.labels.length (n.labels.map (Value.int .i64))
def VR (_:World) (x:Nat×List UInt8) (v:Value):Prop:=∃ r,getR x.2=some r/\v=.agg r.cells
def VP (_:World) (x:Nat×List UInt8) (v:Value):Prop:=∃ r,getP x.2=some r/\v=.agg r.cells
theorem AO:Tryz.prog.underlying 80=some (.map 3 115):=Tryz.underlying80
theorem Ztf:Tryz.prog.underlying 81=some (.map 3 124):=Tryz.underlying81
theorem ZQ (w:World):(zeroValue 115).run Tryz.prog w=.ok (.agg #[.int .i64 0,.int .i64 0,.slice none 0 0]) w:=qK
theorem ZwU (w:World):(zeroValue 124).run Tryz.prog w=.ok (.agg #[.bool false,.int .i64 0,.int .i64 0,.int .i64 0,.int .i64 0,.int .i64 0,.int .i64 0,.int .i64 0,.int .i64 0]) w:=qK
theorem VN.upd {w':World} {x:Nat×List UInt8} (h:VN B w x v) (hu:Upd S w w') (hS:∀ b,S b->∀ cs,Blk w b 3 cs->False):VN B w' x v:=by obtain ⟨n,A,c,d,e,a⟩:=h;exact ⟨n,A,c,d,e,GA a hu fun g f i=>by obtain ⟨cs,j⟩:=LA a f;exact hS g i _ j⟩
theorem RecM.prM {m:Nat} {s:St1} (h:RecM w m (GB 0 s.props.recs) VP):PrM w m s:=by
 obtain ⟨f,j,k,c⟩:=h;refine ⟨_,f,j,fun i=>?_⟩;unfold LI;by_cases b:i<0
 · rw [gA b,c i fun x _ e=>qO];rfl
 rw [aA b];cases hd:s.props.at_ i.toNat with
 | none =>
   rw [c i fun x l e=>by have a:=kL.1 l;rw [show x.1=i.toNat by omega,hd] at a;cases a]
   rfl
 | some d =>
   obtain ⟨v,a,r,g,rfl⟩:=k (i.toNat,d) (kL.2 hd);simp only at a g;rw [show i=(i.toNat:Int) by omega,a];simp only [g];rfl
def chL (N:Nat) (U:List (Nat×List UInt8)):List L1:=U.foldl (fun L x=>L.set x.1 (uG (some x.2))) (List.replicate N dC)
theorem ZuI (N:Nat) (U:List (Nat×List UInt8)) (x:Nat×List UInt8):chL N (U++[x])=(chL N U).set x.1 (uG (some x.2)):=by unfold chL;rw [List.foldl_append];rfl
theorem XU:∀ (rs:List (Option (List UInt8))) (P:List L1) (i:Nat),P.length=i->(GB i rs).foldl (fun L x=>L.set x.1 (uG (some x.2))) (P++List.replicate rs.length dC)=P++rs.map uG
 | [],P,i,_=>by simp [GB]
 | none::rs,P,i,h=>by have a:=XU rs (P++[dC]) (i+1) (by simp [h]);rw [GB,BA,VG,CB];simp only [vA,List.singleton_append] at a;exact a
 | some d::rs,P,i,h=>by have a:=XU rs (P++[uG (some d)]) (i+1) (by simp [h]);rw [GB,BA,VG,CB,mL];simp only [vA,List.singleton_append] at a;rw [<- a];congr 1;rw [fI _ _ qO,h,SD];rfl
theorem ZvX (rs:List (Option (List UInt8))):chL rs.length (GB 0 rs)=rs.map uG:=XU rs [] 0 rfl
theorem ZuJ (N:Nat):madeCells #[Value.bool false,.int .i64 0,.int .i64 0,.int .i64 0,.int .i64 0,.int .i64 0,.int .i64 0] (N*7)=((List.replicate N dC).flatMap L1.cells).toArray:=by
 have a:((List.replicate N dC).flatMap L1.cells).length=N*7:=by rw [KG OF,aD]
 apply Array.ext
 · rw [size_madeCells,GF,a]
 intro t d h;rw [size_madeCells] at d;have b:=ON OF (List.replicate N dC) (t / 7) (t % 7) (by rw [aD];omega) (Nat.mod_lt _ qO);rw [show t / 7*7+t % 7=t by omega,List.getElem_replicate] at b;have g:t % 7<7:=Nat.mod_lt _ qO;have c:((List.replicate N dC).flatMap L1.cells)[t]?=some (((List.replicate N dC).flatMap L1.cells).toArray[t]):=by rw [qB];exact FA (by rw [a];exact d)
 rw [b] at c;have e:(madeCells #[Value.bool false,.int .i64 0,.int .i64 0,.int .i64 0,.int .i64 0,.int .i64 0,.int .i64 0] (N*7))[t]=#[Value.bool false,.int .i64 0,.int .i64 0,.int .i64 0,.int .i64 0,.int .i64 0,.int .i64 0][t % 7]!:=by simp [madeCells]
 rw [e];generalize t % 7=j at *;have f:j=0\/j=1\/j=2\/j=3\/j=4\/j=5\/j=6:=qO;rcases f with rfl | rfl | rfl | rfl | rfl | rfl | rfl <;> exact eB c
theorem ZuK (w:World) (N:Nat) (hN:N<=65536):(Instr.makeSlice 70 (.int .i64 (N:Int)) (.int .i64 (N:Int))).run Tryz.prog w=.ok (.slice (some ⟨w.heap.size,0,none⟩) N N) (w.alloc (.cells ((List.replicate N dC).flatMap L1.cells).toArray 109)):=by obtain ⟨i,c,a⟩:=GH.1 dU;simp only [QI] at a;obtain ⟨d,e,f⟩:=a;have b:=run_make (P:=Tryz.prog) w 70 109 i _ QL c d .i64 .i64 (N:Int) (N:Int) qO (FP _) (by rw [f];omega) qO;simp only [XB,e,Value.cells] at b;rw [b,<-ZuJ]
theorem ZwV (w:World) {N:Nat} (hB:B<=w.heap.size) (hN:N<=65536):(w.alloc (.cells ((List.replicate N dC).flatMap L1.cells).toArray 109)).ownsRow B 109 7 (.slice (some ⟨w.heap.size,0,none⟩) N N) N ((List.replicate N dC).flatMap L1.cells):=by
 have a:((List.replicate N dC).flatMap L1.cells).length=N*7:=by rw [KG OF,aD]
 refine ⟨a,.inr ⟨w.heap.size,N,_,rfl,hB,World.alloc_heap_new w _,lA _,qM,by simpa using a,?_⟩⟩;rw [<- a,List.take_length]
theorem YU {x:N1} (h:getN d=some x):bE x=true:=by
 unfold getN at h;split at h
 · rename_i a;cases h;exact a.1
 cases h
theorem Zth {x:R1} (h:getR d=some x):cE x=true:=by
 unfold getR at h;split at h
 · rename_i a;cases h;exact a.1
 cases h
theorem Zrk {x:R1} (h:getR d=some x):uG (some d)=x.link:=by unfold uG;simp only [h]
end
end Go.Proofs.YtmkjfhnlnhceiaaGreatDoor
