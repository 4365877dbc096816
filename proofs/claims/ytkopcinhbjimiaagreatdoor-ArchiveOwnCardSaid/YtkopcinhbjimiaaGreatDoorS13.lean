/- Texts that the claim leans on: walks and plain laws, function by function. -/
import Derived.Test.YtkopcinhbjimiaaGreatDoorRows
import Derived.ProofKit
import Derived.SizedLaws
import Derived.SliceStrings
import Derived.Deep.Fields
import Derived.Carry
import Derived.OpenShut
import Derived.Deep.Slices
import Derived.Test.YtkopcinhbjimiaaGreatDoorS12
set_option maxRecDepth 100000
set_option maxHeartbeats 16000000
namespace Go.Proofs.YtkopcinhbjimiaaGreatDoor
open Go.ChangeShapes Go.WideShapes Go.ChangeAt Go.RowKit
theorem Zpi:ownKnob Tryz.prog.godebug=none:=by kernel_rfl
theorem Znk:laidOutB Tryz.prog=true:=by kernel_rfl
section
variable {H:Type} {enc:TypeId×Value->H} {P:Program} {W W':World}
theorem Zjb (hl:laidOutB P=true) (hb:Below W.heap.size W W'):∀ {ts:List TypeId} {vs:List Value} {ds:List (DataW H)} {p:List MemPlace},
 (∀ t∈ts,P.readableRec t=true/\t<P.types.size)->DataW.TrodAll enc P W 0 (fun _=>true) true ts vs ds p->(∀ x∈p,x.block<W.heap.size) ->
 DataW.TrodAll enc P W' 0 (fun b=>decide (b<W.heap.size)) true ts vs ds p
 | [],[],[],_,_,h,_=>h
 | t::ts,_::_,_::_,_,hr,⟨p,q,h1,h2,e⟩,hlt =>
   ⟨p,q,Below.trod hl (hr t (List.mem_cons_self ..)).1 (hr t (List.mem_cons_self ..)).2 h1 hb (fun x hx=>hlt x (by rw [e];exact List.mem_append_left _ hx)),
    Zjb hl hb (fun t' ht'=>hr t' (List.mem_cons_of_mem _ ht')) h2 (fun x hx=>hlt x (by rw [e];exact List.mem_append_right _ hx)),e⟩
theorem Zhz {f:Func} {vars:List String} {ts:List TypeId} {args:Array Value} {ds gs:List (DataW H)} {before:List MemPlace} (hp:f.params.toList=ts)
 (hW:DataW.Whole enc P f.params.toList vars false W args.toList ds gs before):∃ p,DataW.TrodAll enc P W 0 (fun _=>true) true ts args.toList ds p:=by
 obtain ⟨p,_,h,_⟩:=hW
 rw [hp] at h
 exact ⟨p,h⟩
theorem Zlq {f:Func} {s:ChangeSpec} {tb:TypeId} {ts:List TypeId} {args:Array Value} {ds gs:List (DataW H)} {before:List MemPlace} (hl:laidOutB P=true)
 (hp:f.params.toList=ts) (hr:f.resultTypes=#[tb]) (ht:P.underlying tb=some .bool) (hread:ts.all (fun t=>P.readableRec t && decide (t<P.types.size))=true) (hv:s.vars=[])
 (hfn:gs=[]->(s.fn H (ds++gs)).results=[.lit (.bool true)]/\(s.fn H (ds++gs)).args=ds/\(s.fn H (ds++gs)).vars=[])
 (hW:DataW.Whole enc P f.params.toList s.vars false W args.toList ds gs before) (hb:Below W.heap.size W W') :
 s.post enc P f false true false false W args (.bool true) W':=by
 have hlt:∀ x∈before,x.block<W.heap.size:=fun x hx=>by simpa using hW.lt x hx
 obtain ⟨p,q,hA,hV,hpq,hz⟩:=id hW
 rw [hv] at hV
 obtain ⟨rfl,rfl⟩:=trodVars_none hV
 rw [List.append_nil] at hpq
 subst hpq
 obtain ⟨e1,e2,e3⟩:=hfn rfl
 refine ⟨ds,[],before,[],before,[],hW,?_,?_,?_,hb.frame _,fun h=>by cases h⟩
 · rw [e1,hr]
   exact trodAll_cons_mk (shut_bool ht _) trodAll_mk0
 · rw [e2]
   rw [hp] at hA ⊢
   exact Zjb hl hb (fun t ht=>by
    have:=List.all_eq_true.1 hread t ht
    simpa using this) hA hlt
 rw [e3,hv]
 rfl
theorem Zqs {k:Nat->Value} {A:Addr} {n c:Nat} (hs:A.spot=none) (hb:A.block<W.heap.size) (hn:n<=c) (hc:c<=maxLen) (hcell:∀ i,i<n->W.cell? (A.add i)=some (k i)) :
 Row W (fun b=>b<W.heap.size) 1 (some A) n c ((List.range n).map k):=by
 refine ⟨by simp,hn,hc,fun h=>by (cases h),fun a ha=>?_⟩
 cases ha
 refine ⟨hs,hb,hb,fun i u hi=>?_⟩
 obtain ⟨b,o,s⟩:=A
 subst hs
 have hlt:i<n:=by
  have:=(List.getElem?_eq_some_iff.1 hi).1
  simpa using this
 have h1:=hcell i hlt
 rw [List.getElem?_map,List.getElem?_range hlt] at hi
 simp only [Option.map_some,Option.some.injEq] at hi
 subst hi
 have hadd:(⟨b,o,none⟩:Addr).add i=⟨b,o+i,none⟩:=by
  unfold Addr.add;split <;> simp_all
 rw [hadd] at h1
 exact h1
theorem ZhA {α:Type} (f:α->Value) (d:α) (l:List α) (n:Nat) (hn:n<=l.length):(List.range n).map (fun i=>f (l.getD i d))=(l.take n).map f:=by
 apply List.ext_getElem
 · simp;omega
 intro i h1 h2
 simp only [List.length_map,List.length_range] at h1
 simp [List.getElem_take,List.getD_eq_getElem?_getD,List.getElem?_eq_getElem (show i<l.length by omega)]
theorem ZgH {ds:List (DataW H)} {d:DataW H} {e:TypeId} (h:d∈ds) {m:Nat} (hm:m∈d.weights P e):m∈DataW.weightsAll P e ds:=by
 induction ds with
 | nil=>cases h
 | cons x l ih =>
   simp only [DataW.weightsAll,List.mem_append]
   rcases List.mem_cons.1 h with rfl | h
   · exact .inl hm
   exact .inr (ih h)
end
theorem ZhB:Tryz.prog.cellsOf 46=5:=by kernel_rfl
theorem Znl:Tryz.prog.cellsOf 2=1:=by kernel_rfl
theorem ZfB:Tryz.prog.cellsOf 9=1:=by kernel_rfl
theorem Znm:Tryz.prog.bytesOf 2=8:=by kernel_rfl
theorem ZfC:Tryz.prog.bytesOf 9=16:=by kernel_rfl
theorem Zmi:Go.Deep.oneCellFields Tryz.prog (match Tryz.prog.underlying 46 with | some (.struct fs)=>fs | _=>#[])=true:=by kernel_rfl
theorem ZgI {n:Int} (h:(Lit.int .i64 n).wf=true) : -9223372036854775808<=n/\n<=9223372036854775807:=by
 simp [Lit.wf,IntKind.min,IntKind.max,IntKind.signed,IntKind.bits] at h
 exact h
section
variable {H:Type} {enc:TypeId×Value->H} {W:World}
theorem ZhC {P:Program} {ts:List TypeId} {ds:List (DataW H)} (h:(DataW.weightsEach P ts ds).all (·<=reachBytes)=true) {j:Nat} {t:TypeId} {d:DataW H} (ht:ts[j]?=some t) (hd:ds[j]?=some d):∀ m∈d.weights P t,m<=reachBytes :=
 fun m hm=>of_decide_eq_true (List.all_eq_true.1 h m (DataW.weights_mem_each ht hd m hm))
end
theorem Zlr:Tryz.prog.cellsOf 3=1:=by kernel_rfl
theorem ZgJ:Tryz.prog.cellsOf 9=1:=by kernel_rfl
theorem Znn:Tryz.prog.cellsOf 40=1:=by kernel_rfl
theorem ZhD:Tryz.prog.cellsOf 41=1:=by kernel_rfl
theorem Zmj:Tryz.prog.cellsOf 23=1:=by kernel_rfl
theorem Zno:Tryz.prog.cellsOf 24=1:=by kernel_rfl
theorem Zjc:Tryz.prog.cellsOf 48=6:=by kernel_rfl
theorem Zjd:Tryz.prog.cellsOf 43=3:=by kernel_rfl
theorem Zls:Tryz.prog.cellsOf 50=5:=by kernel_rfl
theorem Zmk:Tryz.prog.cellsOf 26=2:=by kernel_rfl
theorem Zml:Tryz.prog.bytesOf 48=96:=by kernel_rfl
theorem Zmm:Tryz.prog.bytesOf 43=56:=by kernel_rfl
theorem Znp:Tryz.prog.bytesOf 50=64:=by kernel_rfl
structure Mu {H:Type} (μ:DataW H->Nat):Prop where
 one:∀ d,1<=μ d
 slice:∀ a b,(a.map μ).sum<=μ (.slice a b)
 agg:∀ a,(a.map μ).sum<=μ (.agg a)
theorem Zlt {α:Type} {f:α->Nat} (l:List α) (h:∀ x∈l,1<=f x):l.length<=(l.map f).sum:=by
 induction l with
 | nil=>simp
 | cons x l ih =>
   have h1:=h x (by simp)
   have h2:=ih fun y hy=>h y (by simp [hy])
   simp only [List.map_cons,List.sum_cons,List.length_cons]
   omega
theorem Zqt {α β:Type} {f:α->Nat} {g:β->Nat} {a:Nat->α} {b:Nat->β} (l:List Nat) (h:∀ i∈l,f (a i)<=g (b i)):((l.map a).map f).sum<=((l.map b).map g).sum:=by
 induction l with
 | nil=>simp
 | cons x l ih =>
   have h1:=h x (by simp)
   have h2:=ih fun y hy=>h y (by simp [hy])
   simp only [List.map_cons,List.sum_cons]
   omega
section
variable {H:Type} {enc:TypeId×Value->H} {P:Program} {W:World}
theorem add_zero (a:Addr):a.add 0=a:=by simp [Addr.add]
theorem Zje {p:Addr} {u:Value} (h:W.cell? p=some u):p.spot=none/\p.block<W.heap.size:=by
 unfold World.cell? at h
 cases hb:W.heap[p.block]? with
 | none=>rw [hb] at h;cases h
 | some o =>
   refine ⟨?_,(Array.getElem?_eq_some_iff.1 hb).1⟩
   rw [hb] at h
   cases o with
   | cells c t f =>
     simp only at h
     split at h
     · cases h
     rename_i hs
     simpa using hs
   | _=>cases h
theorem Zlu {k:Nat->Value} {A:Addr} {n c:Nat} (hn:n<=c) (hc:c<=maxLen) (hcell:∀ i,i<n->W.cell? (A.add i)=some (k i)):WRow W (fun b=>b<W.heap.size) 1 (some A) n c ((List.range n).map k) :=
 ⟨by simp,hn,hc,fun h=>by (cases h),fun h0=>by
  obtain ⟨h1,h2⟩:=Zje (hcell 0 h0)
  rw [add_zero] at h1 h2
  exact Zqs h1 h2 hn hc hcell⟩
theorem Zmn {t e:TypeId} {k:IntKind} {fuel:Nat} {v:Value} {y:DataW H×List MemPlace} (ht:P.underlying t=some (.slice e)) (he:P.underlying e=some (.int k)) (hc:P.cellsOf e=1)
 (h:DataW.trod enc P W 0 (fun _=>true) true fuel t [v]=some y) :
 ∃ (A:Option Addr) (n c:Nat) (xs:List Int),v=.slice A n c/\WRow W (fun b=>b<W.heap.size) 1 A n c (xs.map (Value.int k))/\(∀ x∈xs,(Lit.int k x).wf=true)/\((∀ m∈y.1.weights P t,m<=reachBytes)->n*P.bytesOf e<=reachBytes):=by
 rcases open_ints ht he hc h with ⟨h1,h2⟩ | ⟨a,len,cap,zs,h1,_,hl,hm,hz,hx,hcell,hw⟩
 · injection h1 with h1 _
   subst h1
   exact ⟨none,0,0,[],rfl,(Row.nil_ _ _ _).weak,by simp,fun _=>by simp⟩
 injection h1 with h1 _
 subst h1
 simp only [if_true] at hz
 refine ⟨some a,len,cap,zs.take len,rfl,?_,fun x hx=>hw x (List.mem_of_mem_take hx),fun hwt=>?_⟩
 · rw [<- ZhA (Value.int k) 0 zs len (by omega)]
   exact Zlu hl hm fun i hi=>hcell i (by omega)
 subst hx
 have h1:=hwt _ (by simp only [DataW.weights,ht];exact List.mem_cons_self ..)
 simp only [lits,List.length_map,List.length_take,List.length_drop] at h1
 refine Nat.le_trans (Nat.mul_le_mul_right _ ?_) h1
 omega
theorem ZhE {t e:TypeId} {fuel:Nat} {v:Value} {y:DataW H×List MemPlace} (ht:P.underlying t=some (.slice e)) (he:P.underlying e=some .string) (hc:P.cellsOf e=1)
 (h:DataW.trod enc P W 0 (fun _=>true) true fuel t [v]=some y) :
 ∃ (A:Option Addr) (n c:Nat) (xs:List ByteArray),v=.slice A n c/\WRow W (fun b=>b<W.heap.size) 1 A n c (xs.map Value.string) /\
  ((∀ m∈y.1.weights P t,m<=reachBytes)->n*P.bytesOf e<=reachBytes/\∀ x∈xs,x.size<=reachBytes)/\(∀ μ:DataW H->Nat,Mu μ->xs.length<=μ y.1):=by
 rcases open_strings ht he hc h with ⟨h1,h2⟩ | ⟨a,len,cap,zs,h1,_,hl,hm,hz,hx,hcell,hw⟩
 · injection h1 with h1 _
   subst h1
   exact ⟨none,0,0,[],rfl,(Row.nil_ _ _ _).weak,fun _=>⟨by simp,by simp⟩,fun _ _=>Nat.zero_le _⟩
 injection h1 with h1 _
 subst h1
 simp only [if_true] at hz
 refine ⟨some a,len,cap,zs.take len,rfl,?_,fun hwt=>?_,fun μ hμ=>?_⟩
 · rw [<- ZhA Value.string ByteArray.empty zs len (by omega)]
   exact Zlu hl hm fun i hi=>hcell i (by omega)
 · subst hx
   have h1:=hwt _ (by simp only [DataW.weights,ht];exact List.mem_cons_self ..)
   simp only [strs,List.length_map,List.length_take,List.length_drop] at h1
   refine ⟨Nat.le_trans (Nat.mul_le_mul_right _ (by omega)) h1,fun x hx=>?_⟩
   have h2:=hwt x.data.toList.length (by
    simp only [DataW.weights,ht]
    refine List.mem_cons_of_mem _ (List.mem_append_left _ (ZgH (d:=.lit (.string x.data.toList)) ?_ (by simp [DataW.weights])))
    exact List.mem_map.2 ⟨x,hx,rfl⟩)
   rw [Array.length_toList] at h2
   exact h2
 subst hx
 refine Nat.le_trans ?_ (hμ.slice _ _)
 have h2:=Zlt (f:=μ) (strs (H:=H) (zs.take len)) fun x _=>hμ.one x
 simp only [strs,List.length_map] at h2
 exact h2
theorem Zfe {α:Type} [Inhabited α] {f:α->List Value} {k:Nat} {t e:TypeId} {fuel:Nat} {v:Value} {y:DataW H×List MemPlace} (ht:P.underlying t=some (.slice e)) (hk:P.cellsOf e=k) (hk0:0<k) (hf:∀ x,(f x).length=k) (Q Sz:α->Prop) (Bk:α->Nat)
 (hel:∀ (fu:Nat) (cs:List Value) (y:DataW H×List MemPlace),DataW.trod enc P W 0 (fun _=>true) true fu e cs=some y->∃ x,cs=f x/\Q x/\((∀ m∈y.1.weights P e,m<=reachBytes)->Sz x)/\(∀ μ:DataW H->Nat,Mu μ->Bk x<=μ y.1))
 (h:DataW.trod enc P W 0 (fun _=>true) true fuel t [v]=some y) :
 ∃ (A:Option Addr) (n c:Nat) (l:List α),v=.slice A n c/\WRow W (fun b=>b<W.heap.size) k A n c (l.flatMap f)/\(∀ x∈l,Q x)/\((∀ m∈y.1.weights P t,m<=reachBytes)->n*P.bytesOf e<=reachBytes/\∀ x∈l,Sz x)/\(∀ μ:DataW H->Nat,Mu μ->(l.map Bk).sum<=μ y.1):=by
 rcases Go.Deep.open_slice ht h with ⟨h1,h2⟩ | ⟨a,len,cap,m,n,D,Pl,h1,_,hl,hm,hmm,hx,hel'⟩
 · injection h1 with h1 _
   subst h1
   exact ⟨none,0,0,[],rfl,(Row.nil_ _ _ _).weak,by simp,fun _=>⟨by simp,by simp⟩,fun _ _=>by simp⟩
 injection h1 with h1 _
 subst h1
 simp only [if_true] at hmm
 subst hmm
 rw [hk] at hel'
 obtain ⟨g,hg⟩:=Go.Deep.choose_lt (α:=α) (p:=fun i x=>W.cells? 0 (a.add (i*k)) k=some (f x)/\Q x/\((∀ m∈(D i).weights P e,m<=reachBytes)->Sz x)/\(∀ μ:DataW H->Nat,Mu μ->Bk x<=μ (D i))) (fun i hi=>by
  obtain ⟨cs',h1,h2⟩:=hel' i hi
  obtain ⟨x,rfl,h3,h4⟩:=hel _ _ _ h2
  exact ⟨x,h1,h3,h4⟩)
 have hD:y.1=.slice ((List.range len).map D) ((List.range (m-len)).map fun j=>D (len+j)):=congrArg Prod.fst hx
 have hcell:∀ i u,(((List.range len).map g).flatMap f)[i]?=some u->W.cell? (a.add i)=some u:=fun i u hi=>by
  have hil:i<((List.range len).map g).length*k:=by
   have:=(List.getElem?_eq_some_iff.1 hi).1
   rwa [ZbX hf] at this
  rw [List.length_map,List.length_range] at hil
  have hq:i / k<len:=Nat.div_lt_of_lt_mul (by rw [Nat.mul_comm];exact hil)
  have hr:i % k<k:=Nat.mod_lt _ hk0
  have hd:i=i / k*k+i % k:=by rw [Nat.mul_comm];exact (Nat.div_add_mod i k).symm
  rw [hd,Zgm hf _ _ _ (by simpa using hq) hr] at hi
  simp only [List.getElem_map,List.getElem_range] at hi
  obtain ⟨_,_,h3⟩:=World.cells?_some (hg (i / k) (by omega)).1
  have h4:=(h3 (i % k) hr).trans hi
  rw [Go.Deep.add_add] at h4
  rw [hd]
  exact h4
 refine ⟨some a,len,m,(List.range len).map g,rfl,⟨?_,hl,hm,fun h=>by (cases h),fun h0=>?_⟩,fun x hx=>?_,fun hsz=>⟨?_,fun x hx=>?_⟩,fun μ hμ=>?_⟩
 · rw [ZbX hf];simp
 · have hlen:(((List.range len).map g).flatMap f).length=len*k:=by rw [ZbX hf];simp
   have h0':0<(((List.range len).map g).flatMap f).length:=by rw [hlen];exact Nat.mul_pos h0 hk0
   obtain ⟨z1,z2⟩:=Zje (hcell 0 _ (List.getElem?_eq_getElem h0'))
   rw [add_zero] at z1 z2
   refine ⟨hlen,hl,hm,fun h=>by (cases h),fun a' ha=>?_⟩
   cases ha
   refine ⟨z1,z2,z2,fun i u hi=>?_⟩
   have h4:=hcell i u hi
   obtain ⟨b,o,s⟩:=a
   simp only at z1
   subst z1
   rw [Zcm] at h4
   exact h4
 · obtain ⟨i,hi,rfl⟩:=List.mem_map.1 hx
   exact (hg i (by have:=List.mem_range.1 hi;omega)).2.1
 · rw [hD] at hsz
   have h1:=hsz _ (by simp only [DataW.weights,ht];exact List.mem_cons_self ..)
   simp only [List.length_map,List.length_range] at h1
   refine Nat.le_trans (Nat.mul_le_mul_right _ ?_) h1
   omega
 · obtain ⟨i,hi,rfl⟩:=List.mem_map.1 hx
   rw [hD] at hsz
   refine (hg i (by have:=List.mem_range.1 hi;omega)).2.2.1 fun m hm=>hsz m ?_
   simp only [DataW.weights,ht]
   exact List.mem_cons_of_mem _ (List.mem_append_left _ (ZgH (List.mem_map.2 ⟨i,hi,rfl⟩) hm))
 rw [hD]
 refine Nat.le_trans ?_ (hμ.slice _ _)
 exact Zqt (f:=Bk) (g:=μ) _ fun i hi=>(hg i (by have:=List.mem_range.1 hi;omega)).2.2.2 μ hμ
end
structure PR.Sized (x:PR):Prop where
 s1:x.n1*8<=140737488351232
 s2:x.n2*16<=140737488351232
 s3:x.g.text.size<=140737488351232
 s4:∀ s∈x.g.texts,s.size<=140737488351232
 s5:x.key.size<=140737488351232
structure ZcR (n:Nat) (ps:List PR):Prop where
 n:n*96<=140737488351232
 each:∀ x∈ps,x.Sized
structure ND.Sized (x:ND):Prop where
 nL:x.nL*16<=140737488351232
 lab:∀ s∈x.labels,s.size<=140737488351232
 pro:ZcR x.nP x.props
structure RL.Sized (x:RL):Prop where
 type:x.type.size<=140737488351232
 pro:ZcR x.nP x.props
structure ZbJ (g:GR):Prop where
 nN:g.nN*56<=140737488351232
 nR:g.nR*64<=140737488351232
 ns:∀ x∈g.ns,x.Sized
 rs:∀ x∈g.rs,x.Sized
theorem ZcR.fit {n:Nat} {ps:List PR} (h:ZcR n ps):Zel ps:=fun x hx=>⟨by have:=(h.each x hx).s3;omega,fun s hs=>by have:=(h.each x hx).s4 s hs;omega⟩
theorem ZbJ.fit {g:GR} (h:ZbJ g):GFit g:=⟨fun x hx=>(h.ns x hx).pro.fit,fun x hx=>(h.rs x hx).pro.fit,by have:=h.nN;omega,by have:=h.nR;omega⟩
theorem ZbJ.texts {g:GR} (h:ZbJ g):ZgG g :=
 ⟨fun x hx=>by have:=(h.rs x hx).type;omega,fun x hx s hs=>by have:=(h.ns x hx).lab s hs;omega,fun x hx p hp=>by have:=((h.ns x hx).pro.each p hp).s5;omega,fun x hx p hp=>by have:=((h.rs x hx).pro.each p hp).s5;omega⟩
section
variable {H:Type} {enc:TypeId×Value->H} {W:World}
theorem Zkk {fuel:Nat} {cs:List Value} {y:DataW H×List MemPlace} (hf:DataW.trod enc Tryz.prog W 0 (fun _=>true) true fuel 46 cs=some y) :
 ∃ (g:GVal) (A1:Option Addr) (n1 c1:Nat) (A2:Option Addr) (n2 c2:Nat),cs=[.int .i64 g.kind,.int .i64 g.num,.string g.text,.slice A1 n1 c1,.slice A2 n2 c2]/\Zcg W (fun b=>b<W.heap.size) A1 n1 c1 A2 n2 c2 g /\
  ((∀ m∈y.1.weights Tryz.prog 46,m<=reachBytes)->n1*8<=140737488351232/\n2*16<=140737488351232/\g.text.size<=140737488351232/\∀ s∈g.texts,s.size<=140737488351232):=by
 have hone:=Zmi
 simp only [Tryz.underlying46] at hone
 obtain ⟨xs,n,_,hx,h5,hlen,hg⟩:=DataW.trod_struct Tryz.underlying46 hf
 have hc:=Go.Deep.hone_of hone
 rw [ZhB] at h5
 match cs,h5,xs,hlen with
 | [v0,v1,v2,v3,v4],_,[y0,y1,y2,y3,y4],_ =>
   have hi:∀ (i:Nat) (f:Field),_->DataW.trod enc Tryz.prog W 0 (fun _=>true) true n f.type (([v0,v1,v2,v3,v4].drop i).take 1)=[y0,y1,y2,y3,y4][i]?:=fun i f hif=>by
    have h1:=hg i f hif
    obtain ⟨e1,e2⟩:=hc i f hif
    rw [e1,e2] at h1
    exact h1
   have g0:=hi 0 _ rfl
   have g1:=hi 1 _ rfl
   have g2:=hi 2 _ rfl
   have g3:=hi 3 _ rfl
   have g4:=hi 4 _ rfl
   simp only [List.drop_zero,List.drop_succ_cons,List.take_succ_cons,List.take_zero,List.getElem?_cons_zero,List.getElem?_cons_succ] at g0 g1 g2 g3 g4
   obtain ⟨k,e0,r0,w0⟩:=DataW.trod_int Tryz.underlying3 g0
   obtain ⟨m,e1,r1,w1⟩:=DataW.trod_int Tryz.underlying2 g1
   obtain ⟨s,e2,r2,w2⟩:=DataW.trod_string Tryz.underlying9 g2
   obtain ⟨A1,n1,c1,ns,rfl,q1,q2,q3⟩:=Zmn Tryz.underlying44 Tryz.underlying2 Znl g3
   obtain ⟨A2,n2,c2,ss,rfl,p1,p3,_⟩:=ZhE Tryz.underlying40 Tryz.underlying9 ZfB g4
   simp only [List.cons.injEq,and_true] at e0 e1 e2
   subst e0 e1 e2
   refine ⟨⟨k,m,s,ns,ss⟩,A1,n1,c1,A2,n2,c2,rfl,⟨q1,p1,ZgI w0,ZgI w1,fun x hx=>ZgI (q2 x hx)⟩,fun hsz=>?_⟩
   subst hx
   have hw:∀ x,x∈y2.1.weights Tryz.prog 9\/x∈y3.1.weights Tryz.prog 44\/x∈y4.1.weights Tryz.prog 40->x<=reachBytes:=by
    intro x hx
    refine hsz x ?_
    simp only [DataW.weights,Tryz.underlying46,List.map_cons,List.map_nil,DataW.weightsEach,List.append_nil,List.mem_append]
    rcases hx with hx | hx | hx
    · exact .inr (.inr (.inl hx))
    · exact .inr (.inr (.inr (.inl hx)))
    exact .inr (.inr (.inr (.inr hx)))
   have h3:=q3 fun x hx=>hw x (.inr (.inl hx))
   have h4:=p3 fun x hx=>hw x (.inr (.inr hx))
   have h2:=hw s.data.toList.length (.inl (by rw [r2];simp [DataW.weights]))
   rw [Znm] at h3
   rw [ZfC] at h4
   rw [Array.length_toList] at h2
   exact ⟨h3,h4.1,h2,h4.2⟩
instance:Inhabited PR:=⟨⟨⟨#[]⟩,⟨0,0,⟨#[]⟩,[],[]⟩,none,0,0,none,0,0⟩⟩
instance:Inhabited ND:=⟨⟨0,[],none,0,0,[],none,0,0⟩⟩
instance:Inhabited RL:=⟨⟨0,⟨#[]⟩,0,0,[],none,0,0⟩⟩
theorem ZoK (fuel:Nat) (cs:List Value) (y:DataW H×List MemPlace) (hf:DataW.trod enc Tryz.prog W 0 (fun _=>true) true fuel 48 cs=some y) :
 ∃ x:PR,cs=x.cells/\Zcg W (fun b=>b<W.heap.size) x.A1 x.n1 x.c1 x.A2 x.n2 x.c2 x.g/\((∀ m∈y.1.weights Tryz.prog 48,m<=reachBytes)->x.Sized)/\(∀ μ:DataW H->Nat,Mu μ->1<=μ y.1):=by
 obtain ⟨xs,n,_,hx,h6,hlen,hg⟩:=DataW.trod_struct Tryz.underlying48 hf
 rw [Zjc] at h6
 match cs,h6,xs,hlen with
 | [v0,v1,v2,v3,v4,v5],_,[y0,y1],_ =>
   have g0:=hg 0 _ rfl
   have g1:=hg 1 _ rfl
   change DataW.trod enc Tryz.prog W 0 (fun _=>true) true n 9 (([v0,v1,v2,v3,v4,v5].drop 0).take (Tryz.prog.cellsOf 9))=_ at g0
   change DataW.trod enc Tryz.prog W 0 (fun _=>true) true n 46 (([v0,v1,v2,v3,v4,v5].drop 1).take (Tryz.prog.cellsOf 46))=_ at g1
   rw [ZgJ] at g0
   rw [ZhB] at g1
   simp only [List.drop_zero,List.drop_succ_cons,List.take_succ_cons,List.take_zero,List.getElem?_cons_zero,List.getElem?_cons_succ] at g0 g1
   obtain ⟨k,e0,r0,w0⟩:=DataW.trod_string Tryz.underlying9 g0
   obtain ⟨g,A1,n1,c1,A2,n2,c2,e1,hr,hs⟩:=Zkk g1
   simp only [List.cons.injEq,and_true] at e0 e1
   obtain ⟨rfl,rfl,rfl,rfl,rfl⟩:=e1
   subst e0
   refine ⟨⟨k,g,A1,n1,c1,A2,n2,c2⟩,rfl,hr,fun hsz=>?_,fun μ hμ=>hμ.one _⟩
   subst hx
   obtain ⟨a,b,c,d⟩:=hs fun m hm=>hsz m (by
    simp only [DataW.weights,Tryz.underlying48,List.map_cons,List.map_nil,DataW.weightsEach,List.append_nil,List.mem_append]
    exact .inr hm)
   have h2:=hsz k.data.toList.length (by
    simp only [DataW.weights,Tryz.underlying48,List.map_cons,List.map_nil,DataW.weightsEach,List.append_nil,List.mem_append]
    exact .inl (by rw [r0];simp [DataW.weights]))
   rw [Array.length_toList] at h2
   exact ⟨a,b,c,d,h2⟩
theorem Zlv {fuel:Nat} {v:Value} {y:DataW H×List MemPlace} (h:DataW.trod enc Tryz.prog W 0 (fun _=>true) true fuel 41 [v]=some y) :
 ∃ (A:Option Addr) (n c:Nat) (l:List PR),v=.slice A n c/\RdPs W (fun b=>b<W.heap.size) A n c l/\((∀ m∈y.1.weights Tryz.prog 41,m<=reachBytes)->ZcR n l)/\(∀ μ:DataW H->Nat,Mu μ->l.length<=μ y.1):=by
 obtain ⟨A,n,c,l,rfl,h1,h2,h3,hB⟩:=Zfe Tryz.underlying41 Zjc (by omega) PR.six _ PR.Sized (fun _=>1) ZoK h
 refine ⟨A,n,c,l,rfl,⟨h1,h2⟩,fun hsz=>?_,fun μ hμ=>Nat.le_trans (Zlt l fun _ _=>Nat.le_refl 1) (hB μ hμ)⟩
 have h4:=h3 hsz
 rw [Zml] at h4
 exact ⟨h4.1,h4.2⟩
theorem ZoL (fuel:Nat) (cs:List Value) (y:DataW H×List MemPlace) (hf:DataW.trod enc Tryz.prog W 0 (fun _=>true) true fuel 43 cs=some y) :
 ∃ x:ND,cs=x.cells/\(WRow W (fun b=>b<W.heap.size) 1 x.AL x.nL x.cL (x.labels.map Value.string)/\RdPs W (fun b=>b<W.heap.size) x.AP x.nP x.cP x.props/\ZfT x.id)/\((∀ m∈y.1.weights Tryz.prog 43,m<=reachBytes)->x.Sized)/\(∀ μ:DataW H->Nat,Mu μ->x.labels.length+x.props.length<=μ y.1):=by
 obtain ⟨xs,n,_,hx,h3,hlen,hg⟩:=DataW.trod_struct Tryz.underlying43 hf
 rw [Zjd] at h3
 match cs,h3,xs,hlen with
 | [v0,v1,v2],_,[y0,y1,y2],_ =>
   have g0:=hg 0 _ rfl
   have g1:=hg 1 _ rfl
   have g2:=hg 2 _ rfl
   change DataW.trod enc Tryz.prog W 0 (fun _=>true) true n 3 (([v0,v1,v2].drop 0).take (Tryz.prog.cellsOf 3))=_ at g0
   change DataW.trod enc Tryz.prog W 0 (fun _=>true) true n 40 (([v0,v1,v2].drop 1).take (Tryz.prog.cellsOf 40))=_ at g1
   change DataW.trod enc Tryz.prog W 0 (fun _=>true) true n 41 (([v0,v1,v2].drop 2).take (Tryz.prog.cellsOf 41))=_ at g2
   rw [Zlr] at g0
   rw [Znn] at g1
   rw [ZhD] at g2
   simp only [List.drop_zero,List.drop_succ_cons,List.take_succ_cons,List.take_zero,List.getElem?_cons_zero,List.getElem?_cons_succ] at g0 g1 g2
   obtain ⟨k,e0,r0,w0⟩:=DataW.trod_int Tryz.underlying3 g0
   obtain ⟨A1,n1,c1,ss,rfl,p1,p3,pB⟩:=ZhE Tryz.underlying40 Tryz.underlying9 ZfB g1
   obtain ⟨A2,n2,c2,ps,rfl,q1,q3,qB⟩:=Zlv g2
   simp only [List.cons.injEq,and_true] at e0
   subst e0
   refine ⟨⟨k,ss,A1,n1,c1,ps,A2,n2,c2⟩,rfl,⟨p1,q1,ZgI w0⟩,fun hsz=>?_,fun μ hμ=>?_⟩
   rotate_left
   · subst hx
     have h1:=hμ.agg [y0.1,y1.1,y2.1]
     have h2:=pB μ hμ
     have h3:=qB μ hμ
     simp only [List.map_cons,List.map_nil,List.sum_cons,List.sum_nil] at h1 ⊢
     omega
   subst hx
   have hw:∀ x,x∈y1.1.weights Tryz.prog 40\/x∈y2.1.weights Tryz.prog 41->x<=reachBytes:=by
    intro x hx
    refine hsz x ?_
    simp only [DataW.weights,Tryz.underlying43,List.map_cons,List.map_nil,DataW.weightsEach,List.append_nil,List.mem_append]
    rcases hx with hx | hx
    · exact .inr (.inl hx)
    exact .inr (.inr hx)
   have h4:=p3 fun x hx=>hw x (.inl hx)
   have h5:=q3 fun x hx=>hw x (.inr hx)
   rw [ZfC] at h4
   exact ⟨h4.1,h4.2,h5⟩
theorem ZoM (fuel:Nat) (cs:List Value) (y:DataW H×List MemPlace) (hf:DataW.trod enc Tryz.prog W 0 (fun _=>true) true fuel 50 cs=some y) :
 ∃ x:RL,cs=x.cells/\(RdPs W (fun b=>b<W.heap.size) x.AP x.nP x.cP x.props/\ZfT x.id/\ZfT x.src/\ZfT x.dst)/\((∀ m∈y.1.weights Tryz.prog 50,m<=reachBytes)->x.Sized)/\(∀ μ:DataW H->Nat,Mu μ->1+x.props.length<=μ y.1):=by
 obtain ⟨xs,n,_,hx,h3,hlen,hg⟩:=DataW.trod_struct Tryz.underlying50 hf
 rw [Zls] at h3
 match cs,h3,xs,hlen with
 | [v0,v1,v2,v3,v4],_,[y0,y1,y2,y3,y4],_ =>
   have g0:=hg 0 _ rfl
   have g1:=hg 1 _ rfl
   have g2:=hg 2 _ rfl
   have g3:=hg 3 _ rfl
   have g4:=hg 4 _ rfl
   change DataW.trod enc Tryz.prog W 0 (fun _=>true) true n 3 (([v0,v1,v2,v3,v4].drop 0).take (Tryz.prog.cellsOf 3))=_ at g0
   change DataW.trod enc Tryz.prog W 0 (fun _=>true) true n 9 (([v0,v1,v2,v3,v4].drop 1).take (Tryz.prog.cellsOf 9))=_ at g1
   change DataW.trod enc Tryz.prog W 0 (fun _=>true) true n 3 (([v0,v1,v2,v3,v4].drop 2).take (Tryz.prog.cellsOf 3))=_ at g2
   change DataW.trod enc Tryz.prog W 0 (fun _=>true) true n 3 (([v0,v1,v2,v3,v4].drop 3).take (Tryz.prog.cellsOf 3))=_ at g3
   change DataW.trod enc Tryz.prog W 0 (fun _=>true) true n 41 (([v0,v1,v2,v3,v4].drop 4).take (Tryz.prog.cellsOf 41))=_ at g4
   rw [Zlr] at g0 g2 g3
   rw [ZgJ] at g1
   rw [ZhD] at g4
   simp only [List.drop_zero,List.drop_succ_cons,List.take_succ_cons,List.take_zero,List.getElem?_cons_zero,List.getElem?_cons_succ] at g0 g1 g2 g3 g4
   obtain ⟨k,e0,r0,w0⟩:=DataW.trod_int Tryz.underlying3 g0
   obtain ⟨s,e1,r1,w1⟩:=DataW.trod_string Tryz.underlying9 g1
   obtain ⟨k2,e2,r2,w2⟩:=DataW.trod_int Tryz.underlying3 g2
   obtain ⟨k3,e3,r3,w3⟩:=DataW.trod_int Tryz.underlying3 g3
   obtain ⟨A2,n2,c2,ps,rfl,q1,q3,qB⟩:=Zlv g4
   simp only [List.cons.injEq,and_true] at e0 e1 e2 e3
   subst e0 e1 e2 e3
   refine ⟨⟨k,s,k2,k3,ps,A2,n2,c2⟩,rfl,⟨q1,ZgI w0,ZgI w2,ZgI w3⟩,fun hsz=>?_,fun μ hμ=>?_⟩
   rotate_left
   · subst hx
     have h1:=hμ.agg [y0.1,y1.1,y2.1,y3.1,y4.1]
     have h2:=hμ.one y0.1
     have h3:=qB μ hμ
     simp only [List.map_cons,List.map_nil,List.sum_cons,List.sum_nil] at h1 ⊢
     omega
   subst hx
   have hw:∀ x,x∈y1.1.weights Tryz.prog 9\/x∈y4.1.weights Tryz.prog 41->x<=reachBytes:=by
    intro x hx
    refine hsz x ?_
    simp only [DataW.weights,Tryz.underlying50,List.map_cons,List.map_nil,DataW.weightsEach,List.append_nil,List.mem_append]
    rcases hx with hx | hx
    · exact .inr (.inl hx)
    exact .inr (.inr (.inr (.inr hx)))
   have h5:=q3 fun x hx=>hw x (.inr hx)
   have h2:=hw s.data.toList.length (.inl (by rw [r1];simp [DataW.weights]))
   rw [Array.length_toList] at h2
   exact ⟨h2,h5⟩
theorem Zkl {base:Nat} {v:Value} {d:DataW H} {p:List MemPlace} (hv:Value.okWide Tryz.prog W .any base 26 v) (h:DataW.Trod enc Tryz.prog W 0 (fun _=>true) true 26 v d p)
 (hsz:∀ m∈d.weights Tryz.prog 26,m<=reachBytes) :
 ∃ g:GR,v=g.agg/\RdG W (fun b=>b<W.heap.size) g/\ZbJ g/\(∀ μ:DataW H->Nat,Mu μ->(g.ns.map fun x=>x.labels.length+x.props.length).sum+(g.rs.map fun x=>1+x.props.length).sum<=μ d):=by
 simp only [Value.okWide,Tryz.underlying26] at hv
 obtain ⟨cs,rfl,h2,_⟩:=hv
 rw [Zmk] at h2
 obtain ⟨l⟩:=cs
 match l,h2 with
 | [v0,v1],_ =>
   obtain ⟨fuel,hf⟩:=h
   obtain ⟨xs,n,_,hx,_,hlen,hg⟩:=DataW.trod_struct Tryz.underlying26 hf
   match xs,hlen with
   | [y0,y1],_ =>
     have g0:=hg 0 _ rfl
     have g1:=hg 1 _ rfl
     change DataW.trod enc Tryz.prog W 0 (fun _=>true) true n 23 (([v0,v1].drop 0).take (Tryz.prog.cellsOf 23))=_ at g0
     change DataW.trod enc Tryz.prog W 0 (fun _=>true) true n 24 (([v0,v1].drop 1).take (Tryz.prog.cellsOf 24))=_ at g1
     rw [Zmj] at g0
     rw [Zno] at g1
     simp only [List.drop_zero,List.drop_succ_cons,List.take_succ_cons,List.take_zero,List.getElem?_cons_zero,List.getElem?_cons_succ] at g0 g1
     obtain ⟨A1,n1,c1,ns,rfl,p1,p2,p3,pB⟩:=Zfe Tryz.underlying23 Zjd (by omega) ND.three _ ND.Sized _ ZoL g0
     obtain ⟨A2,n2,c2,rs,rfl,q1,q2,q3,qB⟩:=Zfe Tryz.underlying24 Zls (by omega) RL.five _ RL.Sized _ ZoM g1
     refine ⟨⟨ns,A1,n1,c1,rs,A2,n2,c2⟩,rfl,⟨⟨p1,fun x hx=>(p2 x hx).1,fun x hx=>(p2 x hx).2.1,fun x hx=>(p2 x hx).2.2⟩,⟨q1,fun x hx=>(q2 x hx).1,fun x hx=>(q2 x hx).2⟩⟩,?_,fun μ hμ=>?_⟩
     rotate_left
     · simp only [Prod.mk.injEq] at hx
       obtain ⟨rfl,_⟩:=hx
       have h1:=hμ.agg [y0.1,y1.1]
       have h2:=pB μ hμ
       have h3:=qB μ hμ
       simp only [List.map_cons,List.map_nil,List.sum_cons,List.sum_nil] at h1 ⊢
       omega
     simp only [Prod.mk.injEq] at hx
     obtain ⟨rfl,_⟩:=hx
     have hw:∀ x,x∈y0.1.weights Tryz.prog 23\/x∈y1.1.weights Tryz.prog 24->x<=reachBytes:=by
      intro x hx
      refine hsz x ?_
      simp only [DataW.weights,Tryz.underlying26,List.map_cons,List.map_nil,DataW.weightsEach,List.append_nil,List.mem_append]
      exact hx
     have h4:=p3 fun x hx=>hw x (.inl hx)
     have h5:=q3 fun x hx=>hw x (.inr hx)
     rw [Zmm] at h4
     rw [Znp] at h5
     exact ⟨h4.1,h5.1,h4.2,h5.2⟩
theorem ZhF {base:Nat} {v:Value} {d:DataW H} {p:List MemPlace} (hv:Value.okWide Tryz.prog W .any base 26 v) (h:DataW.Trod enc Tryz.prog W 0 (fun _=>true) true 26 v d p)
 (hsz:∀ m∈d.weights Tryz.prog 26,m<=reachBytes) :
 ∃ g:GR,v=g.agg/\RdG W (fun b=>b<W.heap.size) g/\ZbJ g:=by
 obtain ⟨g,h1,h2,h3,_⟩:=Zkl hv h hsz
 exact ⟨g,h1,h2,h3⟩
end
end Go.Proofs.YtkopcinhbjimiaaGreatDoor
