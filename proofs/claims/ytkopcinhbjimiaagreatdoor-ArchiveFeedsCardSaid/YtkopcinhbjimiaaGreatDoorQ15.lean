/- Texts that the claim leans on: walks and plain laws, function by function. -/
import Derived.Test.YtkopcinhbjimiaaGreatDoorRows
import Derived.ProofKit
import Derived.SizedLaws
import Derived.SliceStrings
import Derived.Deep.Fields
import Derived.Carry
import Derived.OpenShut
import Derived.Deep.Slices
import Derived.OrdersHeld
import Derived.StillTail
import Derived.Deep.RegionHeld3
import Derived.Deep.RegionHeldLaw
import Derived.Test.YtkopcinhbjimiaaGreatDoorQ14
set_option maxRecDepth 100000
set_option maxHeartbeats 16000000
namespace Go.Proofs.YtkopcinhbjimiaaGreatDoor
open Go.ChangeShapes Go.WideShapes Go.ChangeAt Go.RowKit
theorem Zpm:ownKnob Tryz.prog.godebug=none:=by kernel_rfl
theorem Znn:laidOutB Tryz.prog=true:=by kernel_rfl
section
variable {H:Type} {enc:TypeId×Value->H} {P:Program} {W W':World}
theorem Zji (hl:laidOutB P=true) (hb:Below W.heap.size W W'):∀ {ts:List TypeId} {vs:List Value} {ds:List (DataW H)} {p:List MemPlace},
 (∀ t∈ts,P.readableRec t=true/\t<P.types.size)->DataW.TrodAll enc P W 0 (fun _=>true) true ts vs ds p->(∀ x∈p,x.block<W.heap.size) ->
 DataW.TrodAll enc P W' 0 (fun b=>decide (b<W.heap.size)) true ts vs ds p
 | [],[],[],_,_,h,_=>h
 | t::ts,_::_,_::_,_,hr,⟨p,q,h1,h2,e⟩,hlt =>
   ⟨p,q,Below.trod hl (hr t (List.mem_cons_self ..)).1 (hr t (List.mem_cons_self ..)).2 h1 hb (fun x hx=>hlt x (by rw [e];exact List.mem_append_left _ hx)),
    Zji hl hb (fun t' ht'=>hr t' (List.mem_cons_of_mem _ ht')) h2 (fun x hx=>hlt x (by rw [e];exact List.mem_append_right _ hx)),e⟩
theorem ZhH {f:Func} {vars:List String} {ts:List TypeId} {args:Array Value} {ds gs:List (DataW H)} {before:List MemPlace} (hp:f.params.toList=ts)
 (hW:DataW.Whole enc P f.params.toList vars false W args.toList ds gs before):∃ p,DataW.TrodAll enc P W 0 (fun _=>true) true ts args.toList ds p:=by
 obtain ⟨p,_,h,_⟩:=hW
 rw [hp] at h
 exact ⟨p,h⟩
theorem ZlC {f:Func} {s:ChangeSpec} {tb:TypeId} {ts:List TypeId} {args:Array Value} {ds gs:List (DataW H)} {before:List MemPlace} (hl:laidOutB P=true)
 (hp:f.params.toList=ts) (hr:f.resultTypes=#[tb]) (ht:P.underlying tb=some .bool) (hread:ts.all (fun t=>P.readableRec t && decide (t<P.types.size))=true) (hv:s.vars=[])
 (hfn:gs=[]->(s.fn H (ds++gs)).results=[.lit (.bool true)]/\(s.fn H (ds++gs)).args=ds/\(s.fn H (ds++gs)).vars=[])
 (hW:DataW.Whole enc P f.params.toList s.vars false W args.toList ds gs before) (hb:Below W.heap.size W W') :
 s.post enc P f false true false false W args (.bool true) W':=by
 have hlt:∀ x∈before,x.block<W.heap.size:=fun x hx=>by simpa using hW.lt x hx
 obtain ⟨p,q,hA,hV,hpq,hz⟩:=id hW
 rw [hv] at hV
 obtain ⟨rfl,rfl⟩:=trodVars_none hV
 rw [List.append_nil] at hpq
 subst hpq
 obtain ⟨e1,e2,e3⟩:=hfn rfl
 refine ⟨ds,[],before,[],before,[],hW,?_,?_,?_,hb.frame _,fun h=>by cases h⟩
 · rw [e1,hr]
   exact trodAll_cons_mk (shut_bool ht _) trodAll_mk0
 · rw [e2]
   rw [hp] at hA ⊢
   exact Zji hl hb (fun t ht=>by
    have:=List.all_eq_true.1 hread t ht
    simpa using this) hA hlt
 rw [e3,hv]
 rfl
theorem Zmp {t e:TypeId} {base len cap:Nat} {a:Addr} (ht:P.underlying t=some (.slice e)) (h:Cell.okWide P W .any base t (.slice (some a) len cap)):a.spot=none/\a.block<W.heap.size:=by
 simp only [Cell.okWide,ht,Cell.ok] at h
 obtain ⟨_,_,h⟩:=h
 obtain ⟨_,hs,row,cells,hsh,_⟩:=h
 refine ⟨hs,?_⟩
 unfold World.shape? at hsh
 cases hg:W.heap[a.block]? with
 | none=>rw [hg] at hsh;simp at hsh
 | some o=>exact (Array.getElem?_eq_some_iff.1 hg).1
theorem ZqC {k:Nat->Value} {A:Addr} {n c:Nat} (hs:A.spot=none) (hb:A.block<W.heap.size) (hn:n<=c) (hc:c<=maxLen) (hcell:∀ i,i<n->W.cell? (A.add i)=some (k i)) :
 Row W (fun b=>b<W.heap.size) 1 (some A) n c ((List.range n).map k):=by
 refine ⟨by simp,hn,hc,fun h=>by (cases h),fun a ha=>?_⟩
 cases ha
 refine ⟨hs,hb,hb,fun i u hi=>?_⟩
 obtain ⟨b,o,s⟩:=A
 subst hs
 have hlt:i<n:=by
  have:=(List.getElem?_eq_some_iff.1 hi).1
  simpa using this
 have h1:=hcell i hlt
 rw [List.getElem?_map,List.getElem?_range hlt] at hi
 simp only [Option.map_some,Option.some.injEq] at hi
 subst hi
 have hadd:(⟨b,o,none⟩:Addr).add i=⟨b,o+i,none⟩:=by
  unfold Addr.add;split <;> simp_all
 rw [hadd] at h1
 exact h1
theorem Zmq {α:Type} (f:α->Value) (d:α) (l:List α) (n:Nat) (hn:n<=l.length):(List.range n).map (fun i=>f (l.getD i d))=(l.take n).map f:=by
 apply List.ext_getElem
 · simp;omega
 intro i h1 h2
 simp only [List.length_map,List.length_range] at h1
 simp [List.getElem_take,List.getD_eq_getElem?_getD,List.getElem?_eq_getElem (show i<l.length by omega)]
theorem Zjj {t e:TypeId} {k:IntKind} {base fuel:Nat} {v:Value} {y:DataW H×List MemPlace} (ht:P.underlying t=some (.slice e)) (he:P.underlying e=some (.int k)) (hc:P.cellsOf e=1)
 (hv:Cell.okWide P W .any base t v) (h:DataW.trod enc P W 0 (fun _=>true) true fuel t [v]=some y) :
 ∃ (A:Option Addr) (n c:Nat) (xs:List Int),v=.slice A n c/\Row W (fun b=>b<W.heap.size) 1 A n c (xs.map (Value.int k))/\(∀ x∈xs,(Lit.int k x).wf=true)/\((∀ m∈y.1.weights P t,m<=reachBytes)->n*P.bytesOf e<=reachBytes):=by
 rcases open_ints ht he hc h with ⟨h1,h2⟩ | ⟨a,len,cap,zs,h1,_,hl,hm,hz,hx,hcell,hw⟩
 · injection h1 with h1 _
   subst h1
   exact ⟨none,0,0,[],rfl,Row.nil_ _ _ _,by simp,fun _=>by simp⟩
 injection h1 with h1 _
 subst h1
 obtain ⟨hs,hb⟩:=Zmp ht hv
 simp only [if_true] at hz
 refine ⟨some a,len,cap,zs.take len,rfl,?_,fun x hx=>hw x (List.mem_of_mem_take hx),fun hwt=>?_⟩
 · rw [<- Zmq (Value.int k) 0 zs len (by omega)]
   exact ZqC hs hb hl hm fun i hi=>hcell i (by omega)
 subst hx
 have h1:=hwt _ (by simp only [DataW.weights,ht];exact List.mem_cons_self ..)
 simp only [lits,List.length_map,List.length_take,List.length_drop] at h1
 refine Nat.le_trans (Nat.mul_le_mul_right _ ?_) h1
 omega
end
theorem ZoP:Tryz.prog.cellsOf 5=1:=by kernel_rfl
theorem ZoQ:Tryz.prog.bytesOf 5=1:=by kernel_rfl
section
variable {H:Type} {enc:TypeId×Value->H} {W:World}
theorem Zfm {P:Program} {ts:List TypeId} {ds:List (DataW H)} (h:(DataW.weightsEach P ts ds).all (·<=reachBytes)=true) {j:Nat} {t:TypeId} {d:DataW H} (ht:ts[j]?=some t) (hd:ds[j]?=some d):∀ m∈d.weights P t,m<=reachBytes :=
 fun m hm=>of_decide_eq_true (List.all_eq_true.1 h m (DataW.weights_mem_each ht hd m hm))
theorem ZhI {base:Nat} {v:Value} {d:DataW H} {p:List MemPlace} (hv:Value.okWide Tryz.prog W .any base 28 v) (h:DataW.Trod enc Tryz.prog W 0 (fun _=>true) true 28 v d p)
 (hsz:∀ m∈d.weights Tryz.prog 28,m<=reachBytes) :
 ∃ (A:Option Addr) (n c:Nat) (bs:List UInt8),v=.slice A n c/\Bytes W (fun b=>b<W.heap.size) A n c bs/\n<=140737488351232:=by
 have hv':Cell.okWide Tryz.prog W .any base 28 v:=by
  simp only [Value.okWide,Tryz.underlying28] at hv
  exact hv
 obtain ⟨a,len,cap,rfl⟩:=okWide_slice Tryz.underlying28 hv
 obtain ⟨fuel,hf⟩:=h
 obtain ⟨A,n,c,xs,hx,q1,q2,q3⟩:=Zjj (y:=(d,p)) Tryz.underlying28 Tryz.underlying5 ZoP hv' hf
 have h3:=q3 hsz
 rw [ZoQ] at h3
 refine ⟨A,n,c,xs.map (fun x=>UInt8.ofNat x.toNat),hx,?_,by unfold reachBytes at h3;omega⟩
 unfold Bytes
 rw [List.map_map]
 refine (List.map_congr_left fun x hx=>?_) ▸ q1
 have hwf:=q2 x hx
 simp [Lit.wf,IntKind.min,IntKind.max,IntKind.signed,IntKind.bits] at hwf
 simp only [Function.comp,u8v,UInt8.toNat_ofNat']
 congr 1
 omega
end
section
variable {H:Type} {enc:TypeId×Value->H} {P:Program} {W:World}
end
structure PR.Sized (x:PR):Prop where
 s1:x.n1*8<=140737488351232
 s2:x.n2*16<=140737488351232
 s3:x.g.text.size<=140737488351232
 s4:∀ s∈x.g.texts,s.size<=140737488351232
 s5:x.key.size<=140737488351232
structure Zeu (n:Nat) (ps:List PR):Prop where
 n:n*96<=140737488351232
 each:∀ x∈ps,x.Sized
structure ND.Sized (x:ND):Prop where
 nL:x.nL*16<=140737488351232
 lab:∀ s∈x.labels,s.size<=140737488351232
 pro:Zeu x.nP x.props
structure RL.Sized (x:RL):Prop where
 type:x.type.size<=140737488351232
 pro:Zeu x.nP x.props
structure ZcW (g:GR):Prop where
 nN:g.nN*56<=140737488351232
 nR:g.nR*64<=140737488351232
 ns:∀ x∈g.ns,x.Sized
 rs:∀ x∈g.rs,x.Sized
theorem Zeu.fit {n:Nat} {ps:List PR} (h:Zeu n ps):ZfZ ps:=fun x hx=>⟨by have:=(h.each x hx).s3;omega,fun s hs=>by have:=(h.each x hx).s4 s hs;omega⟩
theorem ZcW.fit {g:GR} (h:ZcW g):GFit g:=⟨fun x hx=>(h.ns x hx).pro.fit,fun x hx=>(h.rs x hx).pro.fit,by have:=h.nN;omega,by have:=h.nR;omega⟩
theorem ZcW.texts {g:GR} (h:ZcW g):ZgP g :=
 ⟨fun x hx=>by have:=(h.rs x hx).type;omega,fun x hx s hs=>by have:=(h.ns x hx).lab s hs;omega,fun x hx p hp=>by have:=((h.ns x hx).pro.each p hp).s5;omega,fun x hx p hp=>by have:=((h.rs x hx).pro.each p hp).s5;omega⟩
section
variable {H:Type} {enc:TypeId×Value->H} {W:World}
instance:Inhabited PR:=⟨⟨⟨#[]⟩,⟨0,0,⟨#[]⟩,[],[]⟩,none,0,0,none,0,0⟩⟩
instance:Inhabited ND:=⟨⟨0,[],none,0,0,[],none,0,0⟩⟩
instance:Inhabited RL:=⟨⟨0,⟨#[]⟩,0,0,[],none,0,0⟩⟩
end
end Go.Proofs.YtkopcinhbjimiaaGreatDoor
namespace Go.Proofs.YtkopcinhbjimiaaGreatDoor
open Go.RowKit
section
variable {P:Program} {ops:Array Oper} {Q:Exit->Act->World->Prop} {md:Region.Mode} {S:World->Prop} {n:Nat}
def Zjk (P:Program) (md:Region.Mode) (ops:Array Oper) (Q:Exit->Act->World->Prop) (S:World->Prop) (n:Nat):Nat->Array Bool->Act->World->Prop
 | 0,listed,a,w=>Region.ready md ops listed=[]/\Q .normal a w
 | f+1,listed,a,w =>
   (Region.ready md ops listed=[]->Q .normal a w) /\
   ∀ i∈Region.ready md ops listed,wpOp P ops Q i (fun a' w'=>(i=n\/S w')/\Zjk P md ops Q S n f (listed.setIfInBounds i true) a' w') a w
theorem ZhJ:∀ (f:Nat) (listed:Array Bool) (a:Act) (w:World),Zjk P md ops Q S n f listed a w->wpAny P md ops Q f listed a w
 | 0,_,_,_,h=>h
 | f+1,_,_,_,h=>⟨h.1,fun i hi=>wpOp_mono (fun a' w' h'=>ZhJ f _ a' w' h'.2) (h.2 i hi)⟩
theorem Zjl {i:Nat} {oi:Oper} {v:Value} (hs:Region.sinkB md ops n=true) (hc:Region.chainB md ops n=true) (hn:n+1=ops.size) (hin:i<n) (hi:ops[i]?=some oi) (hsel:∀ (j:Nat) (o:Oper) cs b,ops[j]?=some o->o.op≠.select cs b)
 (hQ:∀ c a w,Q (.panic c) (a.put oi.dst v) w->Q (.panic c) a w) :
 ∀ (f:Nat) (listed:Array Bool) (a:Act) (w:World),HeadInv md ops n listed ->
  (∀ j oj,ops[j]?=some oj->j≠i->listed.getD j true=false->(∀ e∈oj.after,Region.binds md e=true->e.on≠i)->oi.apart ops oj=true) ->
  i∈Region.ready md ops listed->YieldsIf P ops S oi v a->S w ->
  Zjk P md ops Q S n f (listed.setIfInBounds i true) (a.put oi.dst v) w->Zjk P md ops Q S n (f+1) listed a w:=by
 intro f
 induction f with
 | zero =>
   intro listed a w _ _ hr hy hS H
   refine ⟨fun h=>(by rw [h] at hr;cases hr),fun j hj=>?_⟩
   by_cases hji:j=i
   · subst hji;exact hy.wpOp hi hS ⟨.inr hS,H⟩
   have:=ready_mono hj hji
   rw [H.1] at this
   cases this
 | succ f ih =>
   intro listed a w inv hfree hr hy hS H
   refine ⟨fun h=>(by rw [h] at hr;cases hr),fun j hj=>?_⟩
   by_cases hji:j=i
   · subst hji;exact hy.wpOp hi hS ⟨.inr hS,H⟩
   have h1:=H.2 j (ready_mono hj hji)
   obtain ⟨hjun,oj,hoj,hall⟩:=mem_ready.1 hj
   have hjn:j<n:=by
    have hlt:j<ops.size:=(Array.getElem?_eq_some_iff.1 hoj).1
    have hne:j≠n:=fun e=>tail_waits hs hc (by omega) inv _ i rfl hin (mem_ready.1 hr).1 j (by omega) hj
    omega
   have hnot:∀ e∈oj.after,Region.binds md e=true->e.on≠i:=fun e he hb heq=>by
    have h1:=hall e he hb
    have h0:=(mem_ready.1 hr).1
    rw [heq,getD_both h0] at h1
    cases h1
   have h2:=wpOp_putIf hoj (hfree j oj hoj hji hjun hnot) (fun cs b=>hsel i oi cs b hi) (fun cs b=>hsel j oj cs b hoj) hQ hy h1
   have hfree':∀ k ok,ops[k]?=some ok->k≠i->(listed.setIfInBounds j true).getD k true=false ->
    (∀ e∈ok.after,Region.binds md e=true->e.on≠i)->oi.apart ops ok=true:=fun k ok hk hki hun hno=>by
    refine hfree k ok hk hki ?_ hno
    by_cases hjk:j=k
    · subst hjk;exact hjun
    rw [getD_set_ne true hjk] at hun;exact hun
   refine wpOp_mono (fun a' w' h3=>?_) h2
   have hS':S w':=h3.2.1.resolve_left (by omega)
   refine ⟨.inr hS',ih (listed.setIfInBounds j true) a' w' (inv.set hj hjn) hfree' (ready_mono hr (Ne.symm hji)) h3.1 hS' ?_⟩
   rw [Array.setIfInBounds_comm _ _ hji]
   exact h3.2.2
def ESt (P:Program) (md:Region.Mode) (ops:Array Oper) (Q:Exit->Act->World->Prop) (S:World->Prop) (n f:Nat) (listed:Array Bool) (a:Act) (w:World):Prop :=
 HeadInv md ops n listed->Zjk P md ops Q S n f listed a w
def Region.okE (md:Region.Mode) (ops:Array Oper) (n:Nat):Bool:=Region.noSelect ops && Region.sinkB md ops n && Region.chainB md ops n && decide (n+1=ops.size)
theorem ESt.take {i:Nat} {oi:Oper} {v:Value} {f:Nat} {listed:Array Bool} {a:Act} {w:World} (hok:Region.okE md ops n=true) (hi:ops[i]?=some oi)
 (hf:(decide (i<n) && Region.free md ops listed i && (Region.ready md ops listed).contains i)=true) (hQ:∀ c a w,Q (.panic c) (a.put oi.dst v) w->Q (.panic c) a w) (hy:YieldsIf P ops S oi v a) (hS:S w)
 (h:ESt P md ops Q S n f (listed.setIfInBounds i true) (a.put oi.dst v) w):ESt P md ops Q S n (f+1) listed a w:=fun inv=>by
 simp only [Region.okE,Bool.and_eq_true,decide_eq_true_eq] at hok hf
 obtain ⟨⟨⟨k1,k2⟩,k3⟩,k4⟩:=hok
 obtain ⟨⟨f1,f2⟩,f3⟩:=hf
 have hr:i∈Region.ready md ops listed:=by simpa using f3
 exact Zjl k2 k3 k4 f1 hi (Region.noSelect_spec k1) hQ f listed a w inv (Region.free_spec hi f2) hr hy hS (h (inv.set hr f1))
def AllE (P:Program) (md:Region.Mode) (ops:Array Oper) (Q:Exit->Act->World->Prop) (S:World->Prop) (n f:Nat) (listed:Array Bool) (a:Act) (w:World) (rs:List Nat):Prop :=
 ∀ i∈rs,wpOp P ops Q i (fun a' w'=>S w'/\ESt P md ops Q S n f (listed.setIfInBounds i true) a' w') a w
theorem AllE.nil {f:Nat} {listed:Array Bool} {a:Act} {w:World}:AllE P md ops Q S n f listed a w []:=fun _ h=>by cases h
theorem AllE.cons {f:Nat} {listed:Array Bool} {a:Act} {w:World} {i:Nat} {o:Oper} {rs:List Nat} (ho:ops[i]?=some o)
 (h:∀ K':Act->World->Prop,Shut (∀ a w,S w->(S w->ESt P md ops Q S n f (listed.setIfInBounds i true) a w)->K' a w)->if Region.wanted o (yielded ops a.tmps)=true then Oper.wp P o a w K' Q else K' (a.put o.dst undef) w)
 (hs:AllE P md ops Q S n f listed a w rs):AllE P md ops Q S n f listed a w (i::rs):=fun j hj=>by
 rcases List.mem_cons.1 hj with rfl | hj
 · exact wpOp_step ho (fun K' hK=>h K' (fun a w hS hW=>hK a w ⟨hS,hW hS⟩))
 exact hs j hj
theorem ESt.branch {rs:List Nat} {f:Nat} {listed:Array Bool} {a:Act} {w:World} (hr:Region.ready md ops listed=rs) (hne:(!rs.isEmpty && rs.all fun i=>decide (i<n))=true) (h:AllE P md ops Q S n f listed a w rs) :
 ESt P md ops Q S n (f+1) listed a w:=fun inv=>by
 simp only [Bool.and_eq_true,Bool.not_eq_true',List.all_eq_true,decide_eq_true_eq,List.isEmpty_eq_false_iff] at hne
 refine ⟨fun h0=>absurd (hr ▸ h0) hne.1,fun i hi=>?_⟩
 have hi':i∈rs:=hr ▸ hi
 exact wpOp_mono (fun a' w' h3=>⟨.inr h3.1,h3.2 (inv.set hi (hne.2 i hi'))⟩) (h i hi')
theorem ESt.last {listed:Array Bool} {a:Act} {w:World} {o:Oper} (hr:Region.ready md ops listed=[n]) (hr2:Region.ready md ops (listed.setIfInBounds n true)=[]) (ho:ops[n]?=some o)
 (h:∀ K':Act->World->Prop,Shut (∀ a w,Q .normal a w->K' a w)->if Region.wanted o (yielded ops a.tmps)=true then Oper.wp P o a w K' Q else K' (a.put o.dst undef) w) (f:Nat):ESt P md ops Q S n (f+1) listed a w:=fun _=>by
 refine ⟨fun h0=>(by rw [hr] at h0;cases h0),fun i hi=>?_⟩
 rw [hr] at hi
 obtain rfl:i=n:=by simpa using hi
 refine wpOp_step ho (fun K' hK=>h K' (fun a w hq=>hK a w ⟨.inl rfl,?_⟩))
 cases f with
 | zero=>exact ⟨hr2,hq⟩
 | succ f=>exact ⟨fun _=>hq,by rw [hr2];simp⟩
theorem Zbg {id:Nat} {a:Act} {w:World} (n:Nat) (S:World->Prop) (hm:P.follows .mixedOrders=true) (hS:S w.drew) (h:S w.drew->ESt P .any ops Q S n ops.size (Array.replicate ops.size false) a w.drew):(Code.region id ops true).wp P Q a w:=by
 refine wp_region_any hm (ZhJ _ _ _ _ (h hS ?_))
 exact ⟨by simp,fun j oj _ hl=>(by rw [getD_replicate_false] at hl;cases hl),fun t _ ht=>getD_in (by simpa using ht) (getD_replicate_false _ _)⟩
end
abbrev PrAt (w:World) (b p:Nat) (k a0 a1 a2 a3 a4:Value):Prop :=
 w.cell? ⟨b,p,none⟩=some k/\w.cell? ⟨b,p+1,none⟩=some a0/\w.cell? ⟨b,p+1+1,none⟩=some a1/\w.cell? ⟨b,p+1+2,none⟩=some a2/\w.cell? ⟨b,p+1+3,none⟩=some a3/\w.cell? ⟨b,p+1+4,none⟩=some a4
theorem PrAt.upd {w w':World} {S:Nat->Prop} {b p:Nat} {k a0 a1 a2 a3 a4:Value} (h:PrAt w b p k a0 a1 a2 a3 a4) (hb:b<w.heap.size) (hs:Upd S w w') (hn:¬ S b):PrAt w' b p k a0 a1 a2 a3 a4:=by
 obtain ⟨h0,h1,h2,h3,h4,h5⟩:=h
 exact ⟨(hs.cell (p:=⟨b,p,none⟩) hb hn).trans h0,(hs.cell (p:=⟨b,p+1,none⟩) hb hn).trans h1,(hs.cell (p:=⟨b,p+1+1,none⟩) hb hn).trans h2,
  (hs.cell (p:=⟨b,p+1+2,none⟩) hb hn).trans h3,(hs.cell (p:=⟨b,p+1+3,none⟩) hb hn).trans h4,(hs.cell (p:=⟨b,p+1+4,none⟩) hb hn).trans h5⟩
theorem PrAt.same {w w':World} {b p:Nat} {k a0 a1 a2 a3 a4:Value} (h:PrAt w b p k a0 a1 a2 a3 a4) (hb:b<w.heap.size) (hs:Same w w'):PrAt w' b p k a0 a1 a2 a3 a4:=h.upd hb hs fun f=>f
theorem Zjm {ps:List PR} {k:Nat} {x:PR} (h:ps[k]?=some x):(ps.take (k+1)).map PR.dat=(ps.take k).map PR.dat++[x.dat]:=by
 rw [List.take_add_one,h]
 simp
def Zno (n:Nat) (ps:List PR):Prop:=n*96<=140737488351232/\∀ x∈ps,x.n1*8<=140737488351232/\x.n2*16<=140737488351232
theorem Zeu.small {n:Nat} {ps:List PR} (h:Zeu n ps):Zno n ps:=⟨h.n,fun x hx=>⟨(h.each x hx).s1,(h.each x hx).s2⟩⟩
theorem Zkt (l:List ByteArray):∀ u∈l.map Value.string,u.oneCell'=true:=by
 intro u hu
 obtain ⟨_,_,rfl⟩:=List.mem_map.1 hu
 rfl
end Go.Proofs.YtkopcinhbjimiaaGreatDoor
