/- Texts that the claim leans on: walks and plain laws, function by function. -/
import Derived.Test.YtmkjfhnlnhceiaaGreatDoorN25
set_option maxRecDepth 100000
set_option maxHeartbeats 16000000
namespace Go.Proofs.YtmkjfhnlnhceiaaGreatDoor
section
abbrev UL:=List (Nat×List UInt8)
def stL (L:UL):List Nat:=(L.filter fun p=>Zav p.2==1).map Prod.fst
def nmL (L:UL) (c:Nat):Nat:=(stL L).count c+(L.filterMap fun p=>ZbJ p.2).count c
theorem ZrK (L:UL) (i:Nat) (d:List UInt8):stL (L++[(i,d)])=stL L++if Zav d=1 then [i] else []:=by
 unfold stL;rw [YcX,YaG];congr 1;by_cases h:Zav d=1
 · simp [h]
 simp [h]
theorem ZuI (L:UL) (i:Nat) (d:List UInt8) (c:Nat):nmL (L++[(i,d)]) c=nmL L c+((if ZbJ d=some c then 1 else 0)+if Zav d=1/\i=c then 1 else 0):=by
 unfold nmL;rw [ZrK,Yer,List.filterMap_append,Yer];have b:(if Zav d=1 then [i] else []).count c=if Zav d=1/\i=c then 1 else 0:=by
  by_cases h:Zav d=1
  · by_cases a:i=c
    · simp [h,a]
    simp [h,a]
  simp [h]
 have e:(([(i,d)]:UL).filterMap fun p=>ZbJ p.2).count c=if ZbJ d=some c then 1 else 0:=by
  cases h:ZbJ d with
  | none=>simp [h]
  | some j =>
    by_cases a:j=c
    · simp [h,a]
    simp [h,a]
 rw [b,e];omega
theorem ZvC (L:UL) (c:Nat):nmL L c<=2*L.length:=by unfold nmL stL;have a:((L.filter fun p=>Zav p.2==1).map Prod.fst).count c<=L.length:=Yaj (Yfo) (by rw [Yag];exact Yez _ _);have b:(L.filterMap fun p=>ZbJ p.2).count c<=L.length:=Yaj (Yfo) (List.length_filterMap_le _ _);omega
section
variable {k vs z:Nat} {l:List BS}
theorem at_L {p:Nat×List UInt8} (h:p∈Zak 0 l):(filD k vs z l).at_ p.1=some p.2:=by
 obtain ⟨_,y,b,c,d⟩:=ZcK h;rw [YcF] at b;unfold Zaz.at_ filD;simp only [Yau,b,Ybw];unfold BS.rc;cases hA:y.A with
 | none=>exact absurd hA c
 | some a=>simp [d]
theorem Zkp (F:Nat->Bool):∀ (l:List BS) (i:Nat),(∀ j y,l[j]?=some y->F (i+j)=y.A.isSome)->(List.range' i l.length).filter F=(Zak i l).map Prod.fst
 | [],i,_=>by simp [Zak]
 | x::l,i,h=>by
   have a:=h 0 x (by simp);rw [YbW] at a;have b:=Zkp F l (i+1) fun j y c=>by have:=h (j+1) y (by simpa using c);rw [<- this];congr 1;omega
   rw [Yao,List.range'_succ,YdW,a,Zak,b];cases x.A <;> simp
theorem Zdb:Zct (filD k vs z l)=(Zak 0 l).map Prod.fst:=by
 unfold Zct;have e:(filD k vs z l).recs.length=l.length:=by simp [filD]
 rw [e,List.range_eq_range'];refine Zkp _ l 0 fun j y a=>?_;rw [YbJ];unfold Zaz.used filD;simp only [Yau,a,Ybw];unfold BS.rc;cases y.A <;> rfl
theorem ZgG:Zca (filD k vs z l)=stL (Zak 0 l):=by unfold Zca stL;rw [Zdb,Ygk];congr 1;refine Yfx fun p a=>?_;simp only [Function.comp];rw [at_L a]
theorem Zpd {α β:Type} {f g:α->Option β}:∀ {l:List α},(∀ x∈l,f x=g x)->l.filterMap f=l.filterMap g
 | [],_=>rfl
 | x::l,h=>by rw [Yfs,Yfs,h x (by simp),Zpd fun y a=>h y (YcZ _ a)]
theorem ZvD:(Zct (filD k vs z l)).filterMap (bnx (filD k vs z l))=(Zak 0 l).filterMap fun p=>ZbJ p.2:=by rw [Zdb,List.filterMap_map];refine Zpd fun p a=>?_;simp only [Function.comp];unfold bnx;rw [at_L a]
theorem Zlg (c:Nat):Zib (bnx (filD k vs z l)) (Zca (filD k vs z l)) (Zct (filD k vs z l)) c=nmL (Zak 0 l) c:=by unfold Zib nmL;rw [ZvD,ZgG]
theorem ZvE:(Zct (filD k vs z l)).any (fun i=>match (filD k vs z l).at_ i with | some d=>!ZaV (filD k vs z l) d | none=>false)=(Zak 0 l).any fun p=>!ZaV (filD k vs z l) p.2:=by
 rw [Zdb,List.any_map];rw [Bool.eq_iff_iff,Yck,Yck];constructor
 · rintro ⟨p,a,h⟩;simp only [Function.comp] at h;rw [at_L a] at h;exact ⟨p,a,h⟩
 rintro ⟨p,a,h⟩;refine ⟨p,a,?_⟩;simp only [Function.comp];rw [at_L a];exact h
theorem ZrL:∀ (l:List BS) (i:Nat),(Zak i l).length=(l.filter fun x=>x.A.isSome).length
 | [],i=>rfl
 | x::l,i=>by rw [Zak,YdW];cases x.A <;> simp [ZrL l]
theorem ZrM:Zet (filD k vs z l)=if z≠32 then 4 else if (Zak 0 l).any (fun p=>!ZaV (filD k vs z l) p.2)=true then 100 else
 if (∀ p∈Zak 0 l,nmL (Zak 0 l) p.1<=1)/\(allL (bnx (filD k vs z l)) (stL (Zak 0 l)) l.length).length=(Zak 0 l).length then 0 else 101:=by
 unfold Zet;have e:(filD k vs z l).recs.length=l.length:=by simp [filD]
 have b:(∀ c∈Zct (filD k vs z l),Zib (bnx (filD k vs z l)) (Zca (filD k vs z l)) (Zct (filD k vs z l)) c<=1)↔∀ p∈Zak 0 l,nmL (Zak 0 l) p.1<=1:=by
  rw [Zdb];constructor
  · intro h p a;rw [<- Zlg (k:=k) (vs:=vs) (z:=z),Zdb];exact h p.1 (Yba.2 ⟨p,a,rfl⟩)
  intro h c j;obtain ⟨p,a,rfl⟩:=Yba.1 j;have:=h p a;rwa [<- Zlg (k:=k) (vs:=vs) (z:=z),Zdb] at this
 change (if _ then _ else if ((Zct (filD k vs z l)).any fun i=>match (filD k vs z l).at_ i with | some d=>!ZaV (filD k vs z l) d | none=>false)=true then _ else _)=_;rw [ZvE,e,ZgG];have f:(Zct (filD k vs z l)).length=(Zak 0 l).length:=by rw [Zdb,Yag]
 rw [f];have g:(filD k vs z l).size=z:=rfl;rw [g];simp only [<- ZgG (k:=k) (vs:=vs) (z:=z),b]
end
end
section
open Go.RowKit
attribute [local go_sem] Ybq
structure CkP where
 w:World
 B:Nat
 f:Nat
 k:Nat
 vs:Nat
 v:Value
 l:List BS
 low:Nat
 gN:Nat
 gX:Nat
 N:Nat
 b1:Nat
 b2:Nat
 b3:Nat
 b4:Nat
 b5:Nat
def ZdJ (N:Nat) (nm:Nat->Nat):List Value:=(List.range N).map fun c=>Value.int .i64 (nm c:Int)
structure CkS (P:CkP) (nm:Nat->Nat) (xs:List Int) (st:List Nat) (W:World):Prop where
 file:PF W P.B P.f P.k P.vs 32 P.v P.l P.low
 b1:Blk W P.b1 67 #[.pointer (some ⟨P.f,0,none⟩)]
 b2:Blk W P.b2 30 #[.int .i64 0]
 b3:Blk W P.b3 110 #[.slice (some ⟨P.gN,0,none⟩) P.N P.N]
 b5:Blk W P.b5 110 #[.slice (some ⟨P.gX,0,none⟩) P.N P.N]
 rn:W.ownsRow P.w.heap.size 3 1 (.slice (some ⟨P.gN,0,none⟩) P.N P.N) P.N (ZdJ P.N nm)
 rx:W.ownsRow P.w.heap.size 3 1 (.slice (some ⟨P.gX,0,none⟩) P.N P.N) P.N (xs.map (Value.int .i64))
 st:∃ sv,Blk W P.b4 110 #[sv]/\W.ownsRow P.w.heap.size 3 1 sv st.length (st.map fun (i:Nat)=>Value.int .i64 (i:Int))/\sv.ownBlock≠some P.gN/\sv.ownBlock≠some P.gX
 ne:P.gN≠P.gX/\P.b3≠P.b4/\P.b4≠P.b5
 lo:P.w.heap.size<=P.b4
 same:Same P.w W
section
variable {P:CkP} {nm:Nat->Nat} {xs:List Int} {st:List Nat} {W W':World}
theorem CkS.it {g0:Nat} (h:CkS P nm xs st W) (hw:P.w.heap.size<=g0) (hu:Upd (Zao (fun _=>False) g0 W) W W'):CkS P nm xs st W':=by obtain ⟨a,b,c,d⟩:=h.st;exact ⟨h.file.it ⟨id,id,id,id⟩ hu,h.b1.it hu id,h.b2.it hu id,h.b3.it hu id,h.b5.it hu id,ZjZ h.rn hu id,ZjZ h.rx hu id,⟨a,b.it hu id,ZjZ c hu id,d⟩,h.ne,h.lo,h.same.it hu hw⟩
theorem CkS.keep (h:CkS P nm xs st W) (hu:Same W W'):CkS P nm xs st W':=by obtain ⟨a,b,c,d⟩:=h.st;exact ⟨h.file.same hu,h.b1.same hu,h.b2.same hu,h.b3.same hu,h.b5.same hu,Zaa h.rn hu,Zaa h.rx hu,⟨a,b.same hu,Zaa c hu,d⟩,h.ne,h.lo,h.same.trans hu fun _ _ f=>f⟩
theorem flI:FlU (fun t=>t=3):=⟨qD,qD,qD,qD⟩
theorem CkS.setX (h:CkS P nm xs st W) {i:Nat} (hi:i<P.N) (u:Int):(∃ q,W.cell? ⟨P.gX,i,none⟩=some q)/\W.frozen? ⟨P.gX,i,none⟩=false/\CkS P nm (xs.set i u) st (W.setCell ⟨P.gX,i,none⟩ (.int .i64 u)):=by
 obtain ⟨g,q,e,y,z,_,s,v,f⟩:=ZaW h.rx hi;cases e;have a:=(Yaa (fun b=>b=P.gX) W).put1 (i:=i) (.int .i64 u);have n:=Zaf h.rx (g:=P.gX) rfl;have d:∀ {b:Nat} {t:TypeId} {cs:Array Value},Blk W b t cs->3≠t->b≠P.gX:=fun j k e=>by
  obtain ⟨w,c⟩:=n;subst e;unfold Blk at j c;rw [j] at c;injection c with c
  injection c with _ c
  exact k c.symm
 obtain ⟨x,j,k,c,p⟩:=h.st;refine ⟨⟨q,s⟩,v,h.file.it flI (m:=0) (a.mono fun b _ r=>by rw [r];exact Ycu n (Yah _) rfl),h.b1.upd a (d h.b1 qD),h.b2.upd a (d h.b2 qD),h.b3.upd a (d h.b3 qD),h.b5.upd a (d h.b5 qD),
  Zae h.rn a fun g l e=>h.ne.1 ((Yax l).trans e),?_,⟨x,j.upd a (d j qD),Zae k a fun g l e=>p (e ▸ l),c,p⟩,h.ne,h.lo,h.same.trans a fun b r e=>qO⟩
 have o:=f (.int .i64 u);rw [<- YeX] at o;exact o
theorem CkS.setN (h:CkS P nm xs st W) {i:Nat} (hi:i<P.N) (u:Nat):W.cell? ⟨P.gN,i,none⟩=some (.int .i64 (nm i:Int))/\W.frozen? ⟨P.gN,i,none⟩=false/\CkS P (fun c=>if c=i then u else nm c) xs st (W.setCell ⟨P.gN,i,none⟩ (.int .i64 (u:Int))):=by
 obtain ⟨g,q,e,F,G,p,A,B,l⟩:=ZaW h.rn hi;cases e;have d:=(Yaa (fun b=>b=P.gN) W).put1 (i:=i) (.int .i64 (u:Int));have v:=Zaf h.rn (g:=P.gN) rfl;have k:∀ {b:Nat} {t:TypeId} {cs:Array Value},Blk W b t cs->3≠t->b≠P.gN:=fun n r e=>by
  obtain ⟨C,a⟩:=v;subst e;unfold Blk at n a;rw [n] at a;injection a with a
  injection a with _ a
  exact r a.symm
 have o:q=.int .i64 (nm i:Int):=by unfold ZdJ at p;rw [Yau,YfE hi] at p;exact (Yax p).symm
 obtain ⟨D,n,r,a,E⟩:=h.st;refine ⟨by rw [A,o],B,h.file.it flI (m:=0) (d.mono fun b _ x=>by rw [x];exact Ycu v (Yah _) rfl),h.b1.upd d (k h.b1 qD),h.b2.upd d (k h.b2 qD),h.b3.upd d (k h.b3 qD),h.b5.upd d (k h.b5 qD),
  ?_,Zae h.rx d fun g s e=>h.ne.1 (e.symm.trans (Yax s).symm),⟨D,n.upd d (k n qD),Zae r d fun g s e=>a (e ▸ s),a,E⟩,h.ne,h.lo,h.same.trans d fun b x e=>qO⟩
 have w:=l (.int .i64 (u:Int));have y:(ZdJ P.N nm).set i (.int .i64 (u:Int))=ZdJ P.N fun c=>if c=i then u else nm c:=by
  unfold ZdJ;refine Ygp fun j=>?_;rcases Yfy j P.N with f | f
  · by_cases e:i=j
    · subst e;rw [Ycr (by simpa using f),Yau,YfE f];simp
    rw [YcV e,Yau,Yau,YfE f];have z:¬ j=i:=fun h=>e h.symm;simp [z]
  rw [Ydp (by simpa using f),Ydp (by simpa using f)]
 rw [y] at w;exact w
theorem CkS.getX (h:CkS P nm xs st W) {i:Nat} {u:Int} (hu:xs[i]?=some u) (hN:xs.length=P.N):W.cell? ⟨P.gX,i,none⟩=some (.int .i64 u):=by obtain ⟨d,b⟩:=Yaq.1 hu;obtain ⟨g,q,e,_,_,a,c,_,_⟩:=ZaW h.rx (show i<P.N by omega);cases e;rw [Yau,hu] at a;rw [c,<-Yax a]
theorem CkS.app (h:CkS P nm xs st W) {sv:Value} (hb:Blk W P.b4 110 #[sv]) (hr:W.ownsRow P.w.heap.size 3 1 sv st.length (st.map fun (i:Nat)=>Value.int .i64 (i:Int))) (hn:sv.ownBlock≠some P.gN/\sv.ownBlock≠some P.gX) {wa w1:World} (hu:Same W wa) {i:Nat} {sv':Value}
 (hg:Grew wa P.w.heap.size 3 1 sv (st.length+1) ((st.map fun (i:Nat)=>Value.int .i64 (i:Int))++[.int .i64 (i:Int)]) sv' w1):CkS P nm xs (st++[i]) (w1.setCell ⟨P.b4,0,none⟩ sv'):=by
 obtain ⟨k,l,d⟩:=ZbC (i:=0) hb hr qD hu hg;have x:∀ g,sv.ownBlock=some g->OfT W 3 g:=fun g hg=>Zaf hr hg;have o:∀ {b:Nat} {t:TypeId} {p:Array Value},Blk W b t p->3≠t->b≠P.b4->¬ (b=P.b4\/sv.ownBlock=some b):=fun k l d f=>f.elim d fun f=>k.ne_own hr l f;have j:∀ {b:Nat} {t:TypeId} {p:Array Value},Blk W b t p->t≠110->b≠P.b4:=fun k l e=>by
  subst e;unfold Blk at k hb;rw [k] at hb;injection hb with hb
  injection hb with _ hb
  exact l hb
 have v:∀ {g:Nat} {n c:Nat} {ys:List Value},W.ownsRow P.w.heap.size 3 1 (.slice (some ⟨g,0,none⟩) n c) n ys->sv.ownBlock≠some g->∀ b,(Value.slice (some ⟨g,0,none⟩) n c).ownBlock=some b->¬ (b=P.b4\/sv.ownBlock=some b):=fun q r b a f=>by
  have e:=Yax a;simp only at e;subst e;rcases f with f | f
  · obtain ⟨p,y⟩:=Zaf q rfl;exact j y qD f
  exact r f
 refine ⟨h.file.it (U:=fun t=>t=3\/t=110) ⟨qD,qD,qD,qD⟩ (m:=0) (d.mono fun b _ a=>?_),h.b1.upd d (o h.b1 qD (j h.b1 qD)),h.b2.upd d (o h.b2 qD (j h.b2 qD)),h.b3.upd d (o h.b3 qD h.ne.2.1),h.b5.upd d (o h.b5 qD h.ne.2.2.symm),
  Zae h.rn d (v h.rn hn.1),Zae h.rx d (v h.rx hn.2),⟨sv',?_,?_,?_,?_⟩,h.ne,h.lo,h.same.trans d fun b a e=>?_⟩
 · rcases a with rfl | a
   · exact Ycu ⟨_,hb⟩ (Yah _) (.inr rfl)
   exact Ycu (x b a) (Yah _) (.inl rfl)
 · simpa using k
 · rw [Yaf,YaG];exact l
 · rcases hg.block with e | ⟨g,e,s⟩
   · rw [e];exact hn.1
   rw [e];intro u;have:=Yax u;have:=(h.rn.lt P.gN rfl).2;have:=hu.size;omega
 · rcases hg.block with e | ⟨g,e,s⟩
   · rw [e];exact hn.2
   rw [e];intro u;have:=Yax u;have:=(h.rx.lt P.gX rfl).2;have:=hu.size;omega
 rcases e with e | e
 · have:=h.lo;omega
 have:=(hr.lt b e).1;omega
def CkU (t:TypeId):Prop:=t=3\/t=110\/t=30
theorem ckU:FlU CkU:=⟨by unfold CkU;decide,by unfold CkU;decide,by unfold CkU;decide,by unfold CkU;decide⟩
def Mv (g0:Nat) (W W':World):Prop:=KeepsFrom g0 W W'/\Upd (Zao CkU 0 W) W W'
theorem Mv.trans {g0:Nat} {A B C:World} (h:Mv g0 A B) (h':Mv g0 B C):Mv g0 A C:=⟨⟨Yaj h.1.1 h'.1.1,fun k o a c b=>h'.1.2 k o a (h.1.2 k o a c b) b⟩,Yed h.2 h'.2⟩
theorem Mv.same {g0:Nat} {A B:World} (h:Same A B):Mv g0 A B:=⟨Zah h fun _ f=>f.elim,h.mono fun _ _ f=>f.elim⟩
theorem Mv.set {g0:Nat} {S:Nat->Prop} {A B:World} (h:Upd S A B) (hS:∀ b,S b->∃ t,CkU t/\OfT A t b):Mv g0 A B:=⟨Zah h fun k c _ o d=>by
 obtain ⟨t,_,a⟩:=hS k c;exact a.cells d,h.mono fun b _ e=>by
 obtain ⟨t,f,a⟩:=hS b e;exact a.itSet (Yah _) f⟩
theorem CkS.mvX (h:CkS P nm xs st W) {i:Nat} (u:Value) (g0:Nat):Mv g0 W (W.setCell ⟨P.gX,i,none⟩ u):=Mv.set ((Yaa (fun b=>b=P.gX) W).put1 u) fun _ a=>⟨_,.inl rfl,a ▸ Zaf h.rx rfl⟩
theorem CkS.mvN (h:CkS P nm xs st W) {i:Nat} (u:Value) (g0:Nat):Mv g0 W (W.setCell ⟨P.gN,i,none⟩ u):=Mv.set ((Yaa (fun b=>b=P.gN) W).put1 u) fun _ a=>⟨_,.inl rfl,a ▸ Zaf h.rn rfl⟩
theorem CkS.mvE (h:CkS P nm xs st W) (u:Value) (g0:Nat):Mv g0 W (W.setCell ⟨P.b2,0,none⟩ u):=Mv.set ((Yaa (fun b=>b=P.b2) W).put1 u) fun _ a=>⟨_,.inr (.inr rfl),a ▸ ⟨_,h.b2⟩⟩
theorem mvA {sv:Value} (hb:Blk W P.b4 110 #[sv]) (hr:W.ownsRow P.w.heap.size 3 1 sv st.length (st.map fun (i:Nat)=>Value.int .i64 (i:Int))) {wa w1:World} (hu:Same W wa) {i:Nat} {sv':Value}
 (hg:Grew wa P.w.heap.size 3 1 sv (st.length+1) ((st.map fun (i:Nat)=>Value.int .i64 (i:Int))++[.int .i64 (i:Int)]) sv' w1) (g0:Nat):Mv g0 W (w1.setCell ⟨P.b4,0,none⟩ sv'):=by
 obtain ⟨_,_,c⟩:=ZbC (i:=0) hb hr qD hu hg;exact Mv.set c fun b a=>a.elim (fun e=>⟨_,.inr (.inl rfl),e ▸ ⟨_,hb⟩⟩) fun e=>⟨_,.inl rfl,Zaf hr e⟩
structure CkK (P:CkP) (L:UL) (xs:List Int) (D:Nat) (pre:List RE) (W:World):Prop where
 st:CkS P (nmL L) xs (stL L) W
 mark:W.heap[D]?=some (.deferred (some []))
 ok:∀ p∈pre.map RE.dat,nmL L p.1<=1
theorem Zlh {T:TypeId->Prop} {g D:Nat} {o:Obj} (h:W.heap[D]?=some o) (hD:D<g) (hu:Upd (Zao T g W) W W'):W'.heap[D]?=some o:=(hu.block D (YaX.1 h).1 fun e=>qt e.1).trans h
theorem CkK.it {g0:Nat} {L:UL} {D:Nat} {pre:List RE} (h:CkK P L xs D pre W) (hw:P.w.heap.size<=g0) (hD:D<g0) (hu:Upd (Zao (fun _=>False) g0 W) W W'):CkK P L xs D pre W':=⟨h.st.it hw hu,Zlh h.mark hD hu,h.ok⟩
structure CkJ (P:CkP) (L:UL) (pre:List RE) (W:World):Prop where
 st:∃ xs,CkS P (nmL (pre.map RE.dat)) xs (stL (pre.map RE.dat)) W/\xs.length=P.N/\∀ p∈pre.map RE.dat,xs[p.1]?=some (Zcq p.2)
 ok:∀ p∈pre.map RE.dat,ZaV (filD P.k P.vs 32 P.l) p.2=true
 sub:pre.map RE.dat=L.take pre.length
theorem CkJ.it {g0:Nat} {L:UL} {pre:List RE} (h:CkJ P L pre W) (hw:P.w.heap.size<=g0) (hu:Upd (Zao (fun _=>False) g0 W) W W'):CkJ P L pre W':=by obtain ⟨a,b,c⟩:=h.st;exact ⟨⟨a,b.it hw hu,c⟩,h.ok,h.sub⟩
theorem CkJ.step {L:UL} {pre:List RE} {x:RE} (hL:L.Pairwise fun a b=>a.1<b.1) (h:CkJ P L pre W) (hx:L[pre.length]?=some x.dat) {xs:List Int} (h2:xs.length=P.N) (h3:∀ p∈pre.map RE.dat,xs[p.1]?=some (Zcq p.2)) (hi:x.id<P.N) (hs:ZaV (filD P.k P.vs 32 P.l) x.data=true)
 {nm':Nat->Nat} {st':List Nat} (hst:st'=stL (pre.map RE.dat)++if Zav x.data=1 then [x.id] else [])
 (hnm:∀ c,nm' c=nmL (pre.map RE.dat) c+((if ZbJ x.data=some c then 1 else 0)+if Zav x.data=1/\x.id=c then 1 else 0)) (h1:CkS P nm' (xs.set x.id (Zcq x.data)) st' W'):CkJ P L (pre++[x]) W':=by
 have f:(pre++[x]).map RE.dat=pre.map RE.dat++[(x.id,x.data)]:=by simp [RE.dat]
 have g:=(Yaq.1 hx).1;have e:(pre++[x]).map RE.dat=L.take (pre++[x]).length:=by rw [YaG,h.sub,Yaf,Ycs,Ybo,hx];rfl
 refine ⟨⟨xs.set x.id (Zcq x.data),?_,by rw [Ycg];exact h2,fun p d=>?_⟩,fun p d=>?_,e⟩
 · rw [f,ZrK,<-hst,show nmL (pre.map RE.dat++[(x.id,x.data)])=nm' from funext fun c=>by rw [ZuI,hnm]];exact h1
 · rw [f] at d;rcases YaR.1 d with d | d
   · have j:=YeT.1 hL;obtain ⟨q,n,rfl⟩:=YeU (h.sub ▸ d);have i:q<pre.length:=by rw [YaJ] at n;omega
     have m:(L.take pre.length)[q].1<x.id:=by rw [Ygj];have:=j q pre.length qO g i;rwa [(Yaq.1 hx).2] at this
     rw [YcV qO];exact h3 _ d
   obtain rfl:=YaH.1 d;rw [Ycr (by rw [h2];exact hi)]
 rw [f] at d;rcases YaR.1 d with d | d
 · exact h.ok p d
 obtain rfl:=YaH.1 d;exact hs
end
end
section
structure ChN (nx:Nat->Option Nat) (S U:List Nat) (n:Nat):Prop where
 hS:∀ s∈S,s∈U
 hU:∀ i∈U,∀ j,nx i=some j->j∈U
 ends:∀ s∈S,ZbZ nx n s=true
 len:∀ q,(allL nx (S.take q) n).length<=n
theorem Zqe {nx:Nat->Option Nat}:∀ {m j:Nat},ZbZ nx m j=true->(nx j=none/\(ZaD nx m j).length=1)\/∃ j' m',nx j=some j'/\ZbZ nx m' j'=true/\(ZaD nx m j).length=(ZaD nx m' j').length+1
 | 0,j,h=>by simp only [ZbZ,Option.isNone_iff_eq_none] at h;exact .inl ⟨h,rfl⟩
 | m+1,j,h=>by
   rw [ZbZ] at h;rw [ZaD];cases h2:nx j with
   | none=>exact .inl ⟨rfl,rfl⟩
   | some j' =>
     rw [h2] at h;exact .inr ⟨j',m,rfl,h,by simp⟩
theorem Zmx {nx:Nat->Option Nat} {S:List Nat} {q s n:Nat} (h:S[q]?=some s):(allL nx (S.take (q+1)) n).length=(allL nx (S.take q) n).length+(ZaD nx n s).length:=by unfold allL;rw [Ybo,h,YbS,Yaf];simp
section
variable {k vs:Nat} {l:List BS}
theorem ZvF {j:Nat} (h:(filD k vs 32 l).used j=true):j∈(Zak 0 l).map Prod.fst:=by rw [<- Zdb (k:=k) (vs:=vs) (z:=32)];unfold Zct;rw [YdE,Ycm];exact ⟨Zek h,h⟩
theorem chN (hok:∀ p∈Zak 0 l,ZaV (filD k vs 32 l) p.2=true) (hnm:∀ p∈Zak 0 l,nmL (Zak 0 l) p.1<=1):ChN (bnx (filD k vs 32 l)) (stL (Zak 0 l)) ((Zak 0 l).map Prod.fst) l.length:=by
 have f:∀ s∈stL (Zak 0 l),s∈(Zak 0 l).map Prod.fst:=fun s m=>by unfold stL at m;obtain ⟨p,b,rfl⟩:=Yba.1 m;exact Yba.2 ⟨p,(YdE.1 b).1,rfl⟩
 have g:∀ i∈(Zak 0 l).map Prod.fst,∀ j,bnx (filD k vs 32 l) i=some j->j∈(Zak 0 l).map Prod.fst:=fun i n j e=>by obtain ⟨p,b,rfl⟩:=Yba.1 n;unfold bnx at e;rw [at_L b] at e;simp only at e;have a:=hok p b;unfold ZaV at a;rw [e] at a;simp only [Yay] at a;exact ZvF a.2.2.2.2
 have h:∀ c∈(Zak 0 l).map Prod.fst,Zib (bnx (filD k vs 32 l)) (stL (Zak 0 l)) ((Zak 0 l).map Prod.fst) c<=1:=fun c o=>by obtain ⟨p,b,rfl⟩:=Yba.1 o;have a:=Zlg (k:=k) (vs:=vs) (z:=32) (l:=l) p.1;rw [ZgG,Zdb] at a;rw [a];exact hnm p b
 have d:((Zak 0 l).map Prod.fst).length<=l.length:=by rw [Yag];exact ZdP l 0
 refine ⟨f,g,ZlR h f g d,fun q=>?_⟩;obtain ⟨a,r⟩:=Zhh h f g l.length;have t:=Zcl a r;have u:(allL (bnx (filD k vs 32 l)) ((stL (Zak 0 l)).take q) l.length).length<=(allL (bnx (filD k vs 32 l)) (stL (Zak 0 l)) l.length).length:=by
  unfold allL
  conv=>rhs;rw [<- YbT q (stL (Zak 0 l))]
  rw [YbS,Yaf];omega
 omega
theorem chX {xs:List Int} (hx:∀ p∈Zak 0 l,xs[p.1]?=some (Zcq p.2)):∀ j∈(Zak 0 l).map Prod.fst,(bnx (filD k vs 32 l) j=none/\xs[j]?=some (-1))\/∃ j':Nat,bnx (filD k vs 32 l) j=some j'/\xs[j]?=some (j':Int):=fun j c=>by
 obtain ⟨p,b,rfl⟩:=Yba.1 c;have a:=hx p b;unfold bnx;rw [at_L b];simp only;cases hb:ZbJ p.2 with
 | none=>exact .inl ⟨rfl,by rw [a,Zel.2 hb]⟩
 | some j'=>exact .inr ⟨j',rfl,by rw [a,Zem hb]⟩
end
end
end Go.Proofs.YtmkjfhnlnhceiaaGreatDoor
