/- Lemmas: walks and plain laws. -/
import Derived.Test.YtmkjfhnlnhceiaaGreatDoorIterL
import Derived.StringKeys
import Derived.Test.YtmkjfhnlnhceiaaGreatDoorRows
import Derived.ProofKit
import Derived.SizedLaws
import Derived.SliceStrings
import Derived.Deep.Fields
import Derived.Carry
import Derived.OpenShut
import Derived.Deep.Slices
import Derived.OrdersHeld
import Derived.StillTail
import Derived.Deep.RegionHeld3
import Derived.Deep.RegionHeldLaw
import Derived.Deep.OwnRows
import Derived.Test.YtmkjfhnlnhceiaaGreatDoorF06
set_option maxRecDepth 100000
set_option maxHeartbeats 16000000
namespace Go.Proofs.YtmkjfhnlnhceiaaGreatDoor
variable {S F:Nat->Prop} {x:ByteArray} {seen:List ByteArray} {w w' w1:World} {b c p fuel k i f id B vs z low:Nat} {args:Array Value} {A:Addr} {e t:TypeId} {P:Program} {v a0 a1 a2 a3 a4 v1:Value} {oi o:Oper} {listed:Array Bool} {a:Act} {d:List UInt8}
section
open Go.RowKit Go.Maps Go.Sort Go.Shelf
theorem ZwC (m:Nat):AnyZ.SortsIn Tryz.prog sortedL_ren Fence.wide m :=
 ⟨fun c d a f W g b e=>ZB.2 (AnyM.slices_Sort_string sortL c d a f W g b e),
  fun p a W=>ZB.2 (AnyM.slices_Sort_string_none sortL p a W)⟩
theorem keys_in (mb:Option Nat) (W:World):CallsIn Fence.wide 5 Tryz.prog 86 #[.map mb] W fun e w'=>e=.returned (.func (.func 142) #[] #[.pointer (some ⟨W.heap.size,0,none⟩)])/\w'=W.alloc (.cells #[.map mb] 154) :=
 AnyZ.keys_in keysL Fence.wide 5 trivial rfl mb W
theorem Zoi {H:Type} (b nn:Nat) (D0:DataW H) (R:Value->Option (DataW H×List MemPlace)) (w:World) (k:w.ownsMap Tryz.prog 9 R b nn D0) (l:Maps.size D0<=maxLen) (m:Maps.size D0*16<=140737488355328):
 CallsIn Fence.wide 5 Tryz.prog 85 #[.func (.func 142) #[] #[.pointer (some ⟨w.heap.size,0,none⟩)]] (w.alloc (.cells #[.map (some b)] 154)) fun e w'=>∃ (v:Value) (ss:List (List UInt8)),e=.returned v/\ss.Perm (strKeys D0) /\
  w'.ownsRow (w.alloc (.cells #[.map (some b)] 154)).heap.size 9 1 v ss.length ((ss.mergeSort (fun x y=>decide (x<=y))).map encStr)/\(v=.slice none 0 0↔ss=[])/\Below (w.alloc (.cells #[.map (some b)] 154)).heap.size (w.alloc (.cells #[.map (some b)] 154)) w':=by
 have d:=k.lt;have c:SeqGives Fence.wide 2 Tryz.prog 142 #[.pointer (some ⟨w.heap.size,0,none⟩)] encStr (fun ss=>ss.Perm (strKeys D0)) (Maps.size D0) (w.alloc (.cells #[.map (some b)] 154)) :=
  AnyZ.keys_gives (ρ:=keysL_ren) { keysL with } Fence.wide _ trivial rfl qO w.heap.size b nn D0 _ qS qS (by obtain ⟨f,a,g,h,i,j⟩:=k;exact ⟨f,a,(FM _ _ b d).trans g,h,i,j⟩)
 exact AnyZ.sorted_in sortedL Fence.wide 5 trivial trivial trivial trivial rfl qO (ZwC _) (enters_of Tryz.func132 qK rfl) 142 #[.pointer (some ⟨w.heap.size,0,none⟩)] trivial (enters_of Tryz.func142 qK rfl) _ _ l m _ c
theorem Zsh (p:Option Addr) (a:Nat) (w:World):Calls Tryz.prog 132 #[.slice p 0 a] w fun e w'=>e=.returned (.tuple #[])/\w'=w:=AnyM.slices_Sort_string_none sortL p a w
end
section
open Go.RowKit Go.Maps Go.Sort
theorem keyS:Keyed Tryz.prog 9:=string_keyed DH
def MapS (w:World) (b n:Nat) (seen:List ByteArray):Prop :=
 ∃ D:DataW Unit,w.ownsMap Tryz.prog 9 (plainElem Tryz.prog 3) b n D/\∀ x:ByteArray,Maps.has D (.string x.data.toList)=true↔x∈seen
section
variable {w w':World} {b n:Nat} {seen:List ByteArray}
theorem MapS.made (w:World):MapS (w.alloc (.map #[] 0)) w.heap.size 0 []:=⟨_,ER w _ _ _,fun _=>by simp [Maps.has]⟩
abbrev sQ:=@MapS.made
theorem MapS.upd (h:MapS w b n seen) (hu:Upd S w w') (hs:¬ S b):MapS w' b n seen:=by obtain ⟨D,c,e⟩:=h;have d:=c.lt;obtain ⟨f,a,g,i⟩:=c;exact ⟨D,⟨f,a,(hu.block b d hs).trans g,i⟩,e⟩
theorem MapS.same (h:MapS w b n seen) (hu:Same w w'):MapS w' b n seen:=h.upd hu fun f=>f
theorem ZtX {y:ByteArray} (h:x.data.toList=y.data.toList):x=y:=by cases x;cases y;simp only at h;congr 1;exact pR.1 h
theorem MapS.put (h:MapS w b n seen) (hn:n<maxLen) (hx:x.size<=maxLen):
 ∃ c w',(Instr.lookup 154 (.map (some b)) (.string x) false).run Tryz.prog w=.ok (.int .i64 c) w/\(Instr.mapUpdate 154 (.map (some b)) (.string x) (.int .i64 (IntKind.i64.wrap (c+1)))).run Tryz.prog w=.ok () w'/\MapS w' b (n+1) (seen++[x])/\Upd (fun k=>k=b) w w':=by
 obtain ⟨D,g,j⟩:=h;obtain ⟨c,a,l,p⟩:=g.lookup_int keyS bS FH (aF w) (WO DH hx);have e:(Lit.int .i64 (IntKind.i64.wrap (c+1))).wf=true:=wfI (by rw [rF];omega);obtain ⟨w',d,m,o⟩:=g.update keyS bS hn (WO DH hx) (plainElem_int FH e);refine ⟨c,w',a,d,⟨_,m,fun y=>?_⟩,(eA _ w).grown o fun k i=>.inl (by injection i with i;exact i.symm)⟩;by_cases f:y=x
 · subst f;rw [has_put_same g.isMap (by simp [WideAt.IsKeyLit])];simp
 rw [has_put_other (by intro h;injection h with h;exact f (ZtX h)),j];simp [f]
end
structure oH (seen:List ByteArray) (l:List (List UInt8)):Prop where
 sorted:l.Pairwise (fun x y=>x<=y)
 nodup:l.Nodup
 mem:∀ x:List UInt8,x∈l↔(⟨x.toArray⟩:ByteArray)∈seen
theorem oH.unique {l m:List (List UInt8)} (h:oH seen l) (h':oH seen m):l=m :=
 List.Perm.eq_of_pairwise (le:=fun a b=>a<=b) (fun _ _ _ _ c d=>List.le_antisymm c d) h.sorted h'.sorted ((List.perm_ext_iff_of_nodup h.nodup h'.nodup).2 fun x=>(h.mem x).trans (h'.mem x).symm)
theorem ZtY {n:Nat} {R:Value->Option (DataW Unit×List MemPlace)} {D:DataW Unit} (h:w.ownsMap Tryz.prog 9 R b n D) (hm:∀ x:ByteArray,Maps.has D (.string x.data.toList)=true↔x∈seen) {ss:List (List UInt8)} (hp:ss.Perm (strKeys D)):
 oH seen (ss.mergeSort fun x y=>decide (x<=y)):=by
 obtain ⟨g,rfl,o,z⟩:=h.entries keyS;obtain ⟨A,r,s⟩:=h.keysOf;injection r with r
 subst r;have f:∀ p∈g,∃ x,p.1=.string x:=fun p d=>by obtain ⟨B,C⟩:=s p d;obtain ⟨x,_,E,_⟩:=Maps.keyOf_str DH C;exact ⟨x,E⟩
 have l:(strKeys (.map g:DataW Unit)).Nodup:=by show (g.map fun p=>strOf p.1).Nodup;refine SI.2 (o.imp_of_mem fun {p q} d t k e=>k ?_);obtain ⟨a,u⟩:=f p d;obtain ⟨b,F⟩:=f q t;rw [u,F] at e ⊢;exact tB _ e
 have i:∀ x,x∈strKeys (.map g:DataW Unit)↔Maps.has (.map g:DataW Unit) (.string x)=true:=fun x=>by
  show x∈(g.map fun p=>strOf p.1)↔(g.any fun p=>p.1.sameKey (.string x))=true;rw [iG,fC];constructor
  · rintro ⟨p,d,rfl⟩;obtain ⟨a,u⟩:=f p d;refine ⟨p,d,?_⟩;rw [u];exact UO (by simp [WideAt.IsKeyLit])
  rintro ⟨p,d,v⟩;exact ⟨p,d,by rw [WideAt.sameKey_eq v];rfl⟩
 have j:=(List.mergeSort_perm ss fun x y=>decide (x<=y)).trans hp;refine ⟨?_,j.nodup_iff.2 l,fun x=>?_⟩
 · have m:=List.pairwise_mergeSort (le:=fun x y:List UInt8=>decide (x<=y)) (fun a b c m v=>by simp only [NC] at *;exact List.le_trans m v) (fun a b=>by simp only [CH,NC];exact List.le_total a b) ss;exact m.imp fun h=>by simpa using h
 rw [j.mem_iff,i];exact hm ⟨x.toArray⟩
end
section
open Go.RowKit
def SC (g:WB) (k:Int):List ByteArray :=
 if k=1 then g.nodes.flatMap NA.labels
 else if k=2 then g.rels.map GRel.type
 else if k=3 then (g.nodes.flatMap fun n=>n.props.map GPr.key)++g.rels.flatMap fun r=>r.props.map GPr.key
 else []
structure ZJ (g:GR):Prop where
 type:∀ x∈g.rs,x.type.size<=9223372036854775807
 label:∀ x∈g.ns,∀ s∈x.labels,s.size<=9223372036854775807
 key1:∀ x∈g.ns,∀ p∈x.props,p.key.size<=9223372036854775807
 key2:∀ x∈g.rs,∀ p∈x.props,p.key.size<=9223372036854775807
abbrev strV (l:List UInt8):Value:=.string ⟨l.toArray⟩
theorem tQ (mb:Option Nat) (w:World):Calls Tryz.prog 86 #[.map mb] w fun e w'=>e=.returned (.func (.func 142) #[] #[.pointer (some ⟨w.heap.size,0,none⟩)])/\w'=w.alloc (.cells #[.map mb] 154) :=
 ZB.1 (keys_in mb w)
theorem uQ {nn:Nat} (w:World) (h:MapS w b nn seen) (hn:nn<=8796093022208):
 Calls Tryz.prog 85 #[.func (.func 142) #[] #[.pointer (some ⟨w.heap.size,0,none⟩)]] (w.alloc (.cells #[.map (some b)] 154)) fun e w'=>∃ (v:Value) (l:List (List UInt8)),e=.returned v/\oH seen l/\w'.ownsRow w.heap.size 9 1 v l.length (l.map strV)/\Same w w':=by
 obtain ⟨D,c,j⟩:=h;have f:=c.size_le;refine (ZB.1 (Zoi b nn D _ w c qM qO)).mono ?_;rintro e w' ⟨v,d,rfl,k,a,-,m⟩;have hn:=ZtY c j k;have g:(d.mergeSort fun x y=>decide (x<=y)).length=d.length:=List.length_mergeSort d;have i:Same w w':=((iA w).alloc _).same (JP m);exact ⟨v,_,rfl,hn,by rw [g];exact RA a qS,i⟩
theorem Zoj (w:World) (g:GR) (h:RdG w F g) (ht:ZJ g) (hn:g.nR<=8796093022208):
 Calls Tryz.prog 39 #[g.agg,.int .i64 2] w fun e w'=>∃ (v:Value) (l:List (List UInt8)),e=.returned v/\oH (SC g.dat 2) l/\w'.ownsRow w.heap.size 9 1 v l.length (l.map strV)/\Same w w':=by
 obtain ⟨ns,r,s,t,O,u,nR,y⟩:=g;simp only at hn;have z:=h.rels.row.max;have Z:=h.rels.row.le;unfold maxLen at z;have HL:=qH h.rels.len;have HT:=qH ht.type;simp only at z Z HL HT;have A:=(iA w).alloc (.cells #[.slice r s t,.slice u nR y] 26);have B:=A.alloc (.map #[] 0);have n:=B.alloc (.cells #[.map (some (w.heap.size+1))] 154);have p:=(sQ (w.alloc (.cells #[.slice r s t,.slice u nR y] 26))).same ((iA _).alloc (.cells #[.map (some (w.heap.size+1))] 154));have C:=((jA w 26 #[.slice r s t,.slice u nR y]).alloc (.map #[] 0)).alloc (.cells #[.map (some (w.heap.size+1))] 154);have q:=jA ((w.alloc (.cells #[.slice r s t,.slice u nR y] 26)).alloc (.map #[] 0)) 154 #[.map (some (w.heap.size+1))];have D:=qH ((h.mono (F':=fun b=>b<w.heap.size) fun b X _=>X).rels.same n);simp only [aB] at p q;have a0:=@YG Tryz.prog;have a1:=qH n;have a2:=qH p;have a3:=qH C;have a4:=qH q;clear h ht A B n p C q;go_enter yP,zP;go_upto_region 2 with fail;clear a0;generalize ((w.alloc (.cells #[.slice r s t,.slice u nR y] 26)).alloc (.map #[] 0)).alloc (.cells #[.map (some (w.heap.size+1))] 154)=w1 at *;simp only at D;have p1:=a3.c1;go_wp2_with fail;clear p1;go_loopg [42] nR (fun gh P wr=>∃ i:Nat,nR-i=gh/\i<=nR/\P=.int .i64 i/\Hid (MapS wr (w.heap.size+1) i ((O.map RL.type).take i))/\Hid (Upd (fun k=>k=w.heap.size+1) w1 wr))
 case atStart=>exact ⟨0,rfl,oA _,rfl,a2,qH (eA _ _)⟩
 obtain ⟨i,rfl,hi,rfl,KM,R⟩:=hrel;have E:=qH (D.upd R fun b X hh=>qO);have a:=qH (a4.upd R qO);by_cases G:i<nR
 · obtain ⟨b,o,x,rfl,X,_,hx,S,r0,r1,r2,r3,r4⟩:=E.at_ G;have a5:=qH (HT.out x S);have a6:=qH (show (O.map RL.type).take (i+1)=(O.map RL.type).take i++[x.type] from by rw [eD,MA,hx];rfl)
   clear hx S E;obtain ⟨P,Y,sx,dx,px,AP,nP,cP⟩:=x;simp only at r0 r1 r2 r3 r4;have f:=(iA wr).alloc (.cells #[.int .i64 P,.string Y,.int .i64 sx,.int .i64 dx,.slice AP nP cP] 60);have a7:=qH (jA wr 60 #[.int .i64 P,.string Y,.int .i64 sx,.int .i64 dx,.slice AP nP cP]);have I:=qH (KM.same f);have L:=qH (R.same f);have M:=qH (a.same f);clear f KM R a;go_upto_region 17 with fail;clear r0 r1 r2 r3 r4;generalize wr.alloc (.cells #[.int .i64 P,.string Y,.int .i64 sx,.int .i64 dx,.slice AP nP cP] 60)=w6 at *;generalize wr.heap.size=g6 at *;have p1:=a7.c1;have p5:=M.c0;obtain ⟨c,w7,lk,j,T,U⟩:=I.put (x:=Y) qM (by have:=a5.out;unfold maxLen;omega);obtain ⟨c1,ad⟩:=qx (IntKind.i64.wrap (c+1));rw [ad] at j;have a8:=qH T;have a9:=qH (L.trans U qf);clear T U I L;go_wp2_with (at_mapUpdate;go_must (refine dQ rfl _ _ _ _ rfl rfl rfl rfl j ?_));go_roundg (nR-(i+1))
   case measure=>omega
   case rel=>exact ⟨i+1,rfl,qO,qN,qH (by rw [a6.out];exact a8),a9⟩
 have aa:i=nR:=qO;subst aa;have d:SC (GR.dat ⟨ns,r,s,t,O,u,i,y⟩) 2=(O.map RL.type).take i:=by rw [cB (by rw [nA,HL.out];exact lA _)];unfold SC;rw [aA qD,gA rfl];simp only [GR.dat,MC];exact kG fun _ _=>rfl
 have ab:=qH d;have p5:=a.c0;have N:=qH (show Same w wr from a1.trans R.out fun b X hh=>qO);have ac:=N.size;clear d G;go_wp2_with fail;refine (tQ _ _).mono ?_;rintro e w8 ⟨rfl,rfl⟩;go_wp2_with fail;refine (uQ _ KM qO).mono ?_;rintro e w9 ⟨v,l,rfl,V,m,W⟩;have H:=qH (And.intro V (And.intro m W));clear V m W;go_wp2;go_ret;exact ⟨v,l,rfl,by rw [ab.out];exact H.1,RA H.2.1 ac,N.same H.2.2⟩
end
section
open Go.ChangeShapes Go.WideShapes Go.ChangeAt Go.RowKit
theorem ZwD:ownKnob Tryz.prog.godebug=none:=qK
theorem ZvB:laidOutB Tryz.prog=true:=qK
section
variable {H:Type} {enc:TypeId×Value->H} {P:Program} {W W':World}
theorem CX (hl:laidOutB P=true) (hb:Below W.heap.size W W'):∀ {ts:List TypeId} {vs:List Value} {ds:List (DataW H)} {p:List MemPlace},
 (∀ t∈ts,P.readableRec t=true/\t<P.types.size)->DataW.TrodAll enc P W 0 (fun _=>true) true ts vs ds p->(∀ x∈p,x.block<W.heap.size) ->
 DataW.TrodAll enc P W' 0 (fun b=>decide (b<W.heap.size)) true ts vs ds p
 | [],[],[],_,_,h,_=>h
 | t::ts,_::_,_::_,_,hr,⟨p,q,h1,h2,e⟩,hlt =>
   ⟨p,q,Below.trod hl (hr t (LJ ..)).1 (hr t (LJ ..)).2 h1 hb (fun x a=>hlt x (by rw [e];exact BP _ a)),
    CX hl hb (fun d c=>hr d (IH _ c)) h2 (fun x a=>hlt x (by rw [e];exact cS _ a)),e⟩
theorem Zqw {f:Func} {a:List String} {ts:List TypeId} {ds gs:List (DataW H)} {b:List MemPlace} (hp:f.params.toList=ts)
 (hW:DataW.Whole enc P f.params.toList a false W args.toList ds gs b):∃ p,DataW.TrodAll enc P W 0 (fun _=>true) true ts args.toList ds p:=by
 obtain ⟨p,_,h,_⟩:=hW;rw [hp] at h;exact ⟨p,h⟩
theorem ZtZ {f:Func} {s:ChangeSpec} {tb:TypeId} {ts:List TypeId} {ds gs:List (DataW H)} {l:List MemPlace} (hl:laidOutB P=true)
 (hp:f.params.toList=ts) (hr:f.resultTypes=#[tb]) (ht:P.underlying tb=some .bool) (m:ts.all (fun t=>P.readableRec t && decide (t<P.types.size))=true) (hv:s.vars=[])
 (n:gs=[]->(s.fn H (ds++gs)).results=[.lit (.bool true)]/\(s.fn H (ds++gs)).args=ds/\(s.fn H (ds++gs)).vars=[])
 (hW:DataW.Whole enc P f.params.toList s.vars false W args.toList ds gs l) (hb:Below W.heap.size W W'):
 s.post enc P f false true false false W args (.bool true) W':=by
 have b:∀ x∈l,x.block<W.heap.size:=fun x e=>by simpa using hW.lt x e
 obtain ⟨p,q,c,d,a,k⟩:=id hW;rw [hv] at d;obtain ⟨rfl,rfl⟩:=trodVars_none d;rw [ZC] at a;subst a;obtain ⟨g,i,j⟩:=n rfl;refine ⟨ds,[],l,[],l,[],hW,?_,?_,?_,hb.frame _,fun h=>by cases h⟩
 · rw [g,hr];exact trodAll_cons_mk (shut_bool ht _) trodAll_mk0
 · rw [i];rw [hp] at c ⊢;exact CX hl hb (fun t ht=>by have:=EG.1 m t ht;simpa using this) c b
 rw [j,hv];rfl
theorem ZwE {k:Nat->Value} {n:Nat} (hs:A.spot=none) (hb:A.block<W.heap.size) (hn:n<=c) (hc:c<=maxLen) (l:∀ i,i<n->W.cell? (A.add i)=some (k i)):
 Row W (fun b=>b<W.heap.size) 1 (some A) n c ((List.range n).map k):=by
 refine ⟨qS,hn,hc,fun h=>by (cases h),fun a j=>?_⟩;cases j;refine ⟨hs,hb,hb,fun i u f=>?_⟩;obtain ⟨b,o,s⟩:=A;subst hs;have d:i<n:=by have:=(IA.1 f).1;simpa using this
 have g:=l i d;rw [MA,dN d] at f;simp only [VC,SE] at f;subst f;have e:(⟨b,o,none⟩:Addr).add i=⟨b,o+i,none⟩:=by unfold Addr.add;split <;> simp_all
 rw [e] at g;exact g
theorem Zqx {α:Type} (f:α->Value) (d:α) (l:List α) (n:Nat) (hn:n<=l.length):(List.range n).map (fun i=>f (l.getD i d))=(l.take n).map f:=by
 apply List.ext_getElem
 · simp;omega
 intro i a b;simp only [nA,TI] at a;simp [List.getD_eq_getElem?_getD,FA (show i<l.length by omega)]
theorem Zok {ds:List (DataW H)} {d:DataW H} (h:d∈ds) {m:Nat} (hm:m∈d.weights P e):m∈DataW.weightsAll P e ds:=by
 induction ds with
 | nil=>cases h
 | cons x l ih =>
   simp only [DataW.weightsAll,YB];rcases TA.1 h with rfl | h
   · exact .inl hm
   exact .inr (ih h)
end
theorem Zua:Tryz.prog.cellsOf 5=1:=qK
theorem Zub:Tryz.prog.bytesOf 5=1:=qK
section
variable {H:Type} {enc:TypeId×Value->H} {W:World}
theorem Zqy {ts:List TypeId} {ds:List (DataW H)} (h:(DataW.weightsEach P ts ds).all (·<=reachBytes)=true) {j:Nat} {d:DataW H} (ht:ts[j]?=some t) (hd:ds[j]?=some d):∀ m∈d.weights P t,m<=reachBytes :=
 fun m a=>MJ (EG.1 h m (DataW.weights_mem_each ht hd m a))
end
theorem Zol:Tryz.prog.cellsOf 9=1:=qK
structure Mu {H:Type} (μ:DataW H->Nat):Prop where
 one:∀ d,1<=μ d
 slice:∀ a b,(a.map μ).sum<=μ (.slice a b)
 agg:∀ a,(a.map μ).sum<=μ (.agg a)
theorem ZwF {α β:Type} {f:α->Nat} {g:β->Nat} {a:Nat->α} {b:Nat->β} (l:List Nat) (h:∀ i∈l,f (a i)<=g (b i)):((l.map a).map f).sum<=((l.map b).map g).sum:=by
 induction l with
 | nil=>simp
 | cons x l ih =>
   have d:=h x qS;have e:=ih fun y c=>h y (by simp [c]);simp only [CB,nI];omega
section
variable {H:Type} {enc:TypeId×Value->H} {P:Program} {W:World}
theorem add_zero (a:Addr):a.add 0=a:=by simp [Addr.add]
theorem DX {p:Addr} {u:Value} (h:W.cell? p=some u):p.spot=none/\p.block<W.heap.size:=by
 unfold World.cell? at h;cases hb:W.heap[p.block]? with
 | none=>rw [hb] at h;cases h
 | some o =>
   refine ⟨?_,(sC.1 hb).1⟩;rw [hb] at h;cases o with
   | cells c t f =>
     simp only at h;split at h
     · cases h
     rename_i a;simpa using a
   | _=>cases h
theorem Zuc {k:Nat->Value} {n:Nat} (hn:n<=c) (hc:c<=maxLen) (f:∀ i,i<n->W.cell? (A.add i)=some (k i)):WRow W (fun b=>b<W.heap.size) 1 (some A) n c ((List.range n).map k) :=
 ⟨qS,hn,hc,fun h=>by (cases h),fun e=>by obtain ⟨a,d⟩:=DX (f 0 e);rw [add_zero] at a d;exact ZwE a d hn hc f⟩
theorem Zqz {k:IntKind} {y:DataW H×List MemPlace} (ht:P.underlying t=some (.slice e)) (he:P.underlying e=some (.int k)) (hc:P.cellsOf e=1)
 (h:DataW.trod enc P W 0 (fun _=>true) true fuel t [v]=some y):
 ∃ (A:Option Addr) (n c:Nat) (xs:List Int),v=.slice A n c/\WRow W (fun b=>b<W.heap.size) 1 A n c (xs.map (Value.int k))/\(∀ x∈xs,(Lit.int k x).wf=true)/\((∀ m∈y.1.weights P t,m<=reachBytes)->n*P.bytesOf e<=reachBytes):=by
 rcases open_ints ht he hc h with ⟨d,w⟩ | ⟨a,f,j,p,d,_,q,r,s,l,g,u⟩
 · injection d with d _
   subst d;exact ⟨none,0,0,[],rfl,(PJ _ _ _).weak,qS,fun _=>qS⟩
 injection d with d _
 subst d;simp only [lG] at s;refine ⟨some a,f,j,p.take f,rfl,?_,fun x l=>u x (MM l),fun o=>?_⟩
 · rw [<- Zqx (Value.int k) 0 p f qO];exact Zuc q r fun i z=>g i qO
 subst l;have d:=o _ (by simp only [DataW.weights,ht];exact LJ ..);simp only [lits,nA,RB,QA] at d;refine tA (gG _ ?_) d;omega
theorem ZqA {α:Type} [Inhabited α] {f:α->List Value} {y:DataW H×List MemPlace} (ht:P.underlying t=some (.slice e)) (hk:P.cellsOf e=k) (a2:0<k) (hf:∀ x,(f x).length=k) (Q Sz:α->Prop) (Bk:α->Nat)
 (a3:∀ (fu:Nat) (cs:List Value) (y:DataW H×List MemPlace),DataW.trod enc P W 0 (fun _=>true) true fu e cs=some y->∃ x,cs=f x/\Q x/\((∀ m∈y.1.weights P e,m<=reachBytes)->Sz x)/\(∀ μ:DataW H->Nat,Mu μ->Bk x<=μ y.1))
 (h:DataW.trod enc P W 0 (fun _=>true) true fuel t [v]=some y):
 ∃ (A:Option Addr) (n c:Nat) (l:List α),v=.slice A n c/\WRow W (fun b=>b<W.heap.size) k A n c (l.flatMap f)/\(∀ x∈l,Q x)/\((∀ m∈y.1.weights P t,m<=reachBytes)->n*P.bytesOf e<=reachBytes/\∀ x∈l,Sz x)/\(∀ μ:DataW H->Nat,Mu μ->(l.map Bk).sum<=μ y.1):=by
 rcases Go.Deep.open_slice ht h with ⟨r,X⟩ | ⟨a,d,a0,m,n,D,Pl,r,_,Y,L,G,I,C⟩
 · injection r with r _
   subst r;exact ⟨none,0,0,[],rfl,(PJ _ _ _).weak,qS,fun _=>⟨qS,qS⟩,fun _ _=>qS⟩
 injection r with r _
 subst r;simp only [lG] at G;subst G;rw [hk] at C;obtain ⟨g,M⟩:=Go.Deep.choose_lt (α:=α) (p:=fun i x=>W.cells? 0 (a.add (i*k)) k=some (f x)/\Q x/\((∀ m∈(D i).weights P e,m<=reachBytes)->Sz x)/\(∀ μ:DataW H->Nat,Mu μ->Bk x<=μ (D i))) (fun i q=>by obtain ⟨a1,r,X⟩:=C i q;obtain ⟨x,rfl,S,E⟩:=a3 _ _ _ X;exact ⟨x,r,S,E⟩)
 have O:y.1=.slice ((List.range d).map D) ((List.range (m-d)).map fun j=>D (d+j)):=tB Prod.fst I;have w:∀ i u,(((List.range d).map g).flatMap f)[i]?=some u->W.cell? (a.add i)=some u:=fun i u q=>by
  have F:i<((List.range d).map g).length*k:=by have:=(IA.1 q).1;rwa [KG hf] at this
  rw [nA,TI] at F;have hq:i / k<d:=Nat.div_lt_of_lt_mul (by rw [xK];exact F);have U:i % k<k:=Nat.mod_lt _ a2;have V:i=i / k*k+i % k:=by rw [xK];exact (Nat.div_add_mod i k).symm
  rw [V,ON hf _ _ _ (by simpa using hq) U] at q;simp only [List.getElem_map,List.getElem_range] at q;obtain ⟨_,_,S⟩:=World.cells?_some (M (i / k) qO).1;have E:=(S (i % k) U).trans q;rw [Go.Deep.add_add] at E;rw [V];exact E
 refine ⟨some a,d,m,(List.range d).map g,rfl,⟨?_,Y,L,fun h=>by (cases h),fun h0=>?_⟩,fun x I=>?_,fun z=>⟨?_,fun x I=>?_⟩,fun μ Z=>?_⟩
 · rw [KG hf];simp
 · have B:(((List.range d).map g).flatMap f).length=d*k:=by rw [KG hf];simp
   have R:0<(((List.range d).map g).flatMap f).length:=by rw [B];exact Nat.mul_pos h0 a2
   obtain ⟨N,T⟩:=DX (w 0 _ (FA R));rw [add_zero] at N T;refine ⟨B,Y,L,fun h=>by (cases h),fun a' ha=>?_⟩;cases ha;refine ⟨N,T,T,fun i u q=>?_⟩;have E:=w i u q;obtain ⟨b,o,s⟩:=a;simp only at N;subst N;rw [GK] at E;exact E
 · obtain ⟨i,q,rfl⟩:=fC.1 I;exact (M i (by have:=vF.1 q;omega)).2.1
 · rw [O] at z;have r:=z _ (by simp only [DataW.weights,ht];exact LJ ..);simp only [nA,TI] at r;refine tA (gG _ ?_) r;omega
 · obtain ⟨i,q,rfl⟩:=fC.1 I;rw [O] at z;refine (M i (by have:=vF.1 q;omega)).2.2.1 fun m L=>z m ?_;simp only [DataW.weights,ht];exact IH _ (BP _ (Zok (fC.2 ⟨i,q,rfl⟩) L))
 rw [O];refine tA ?_ (Z.slice _ _);exact ZwF (f:=Bk) (g:=μ) _ fun i q=>(M i (by have:=vF.1 q;omega)).2.2.2 μ Z
end
structure PR.Sized (x:PR):Prop where
 s1:x.n1*8<=140737488351232
 s2:x.n2*16<=140737488351232
 s3:x.g.text.size<=140737488351232
 s4:∀ s∈x.g.texts,s.size<=140737488351232
 s5:x.key.size<=140737488351232
structure aK (n:Nat) (ps:List PR):Prop where
 n:n*96<=140737488351232
 each:∀ x∈ps,x.Sized
structure ND.Sized (x:ND):Prop where
 nL:x.nL*16<=140737488351232
 lab:∀ s∈x.labels,s.size<=140737488351232
 pro:aK x.nP x.props
structure RL.Sized (x:RL):Prop where
 type:x.type.size<=140737488351232
 pro:aK x.nP x.props
structure RG (g:GR):Prop where
 nN:g.nN*56<=140737488351232
 nR:g.nR*64<=140737488351232
 ns:∀ x∈g.ns,x.Sized
 rs:∀ x∈g.rs,x.Sized
theorem aK.fit {n:Nat} {ps:List PR} (h:aK n ps):eM ps:=fun x a=>⟨by have:=(h.each x a).s3;omega,fun s b=>by have:=(h.each x a).s4 s b;omega⟩
theorem RG.fit {g:GR} (h:RG g):GFit g:=⟨fun x a=>(h.ns x a).pro.fit,fun x a=>(h.rs x a).pro.fit,qt h.nN,qt h.nR⟩
theorem RG.texts {g:GR} (h:RG g):ZJ g :=
 ⟨fun x a=>by have:=(h.rs x a).type;omega,fun x a s c=>by have:=(h.ns x a).lab s c;omega,fun x a p b=>by have:=((h.ns x a).pro.each p b).s5;omega,fun x a p b=>by have:=((h.rs x a).pro.each p b).s5;omega⟩
section
variable {H:Type} {enc:TypeId×Value->H} {W:World}
instance:Inhabited PR:=⟨⟨⟨#[]⟩,⟨0,0,⟨#[]⟩,[],[]⟩,none,0,0,none,0,0⟩⟩
instance:Inhabited ND:=⟨⟨0,[],none,0,0,[],none,0,0⟩⟩
instance:Inhabited RL:=⟨⟨0,⟨#[]⟩,0,0,[],none,0,0⟩⟩
end
end
section
open Go.RowKit
section
variable {P:Program} {ops:Array Oper} {Q:Exit->Act->World->Prop} {md:Region.Mode} {S:World->Prop} {n:Nat}
def eO (P:Program) (md:Region.Mode) (ops:Array Oper) (Q:Exit->Act->World->Prop) (S:World->Prop) (n:Nat):Nat->Array Bool->Act->World->Prop
 | 0,listed,a,w=>Region.ready md ops listed=[]/\Q .normal a w
 | f+1,listed,a,w =>
   (Region.ready md ops listed=[]->Q .normal a w) /\
   ∀ i∈Region.ready md ops listed,wpOp P ops Q i (fun a' w'=>(i=n\/S w')/\eO P md ops Q S n f (listed.setIfInBounds i true) a' w') a w
theorem BT:∀ (f:Nat) (listed:Array Bool) (a:Act) (w:World),eO P md ops Q S n f listed a w->wpAny P md ops Q f listed a w
 | 0,_,_,_,h=>h
 | f+1,_,_,_,h=>⟨h.1,fun i b=>wpOp_mono (fun c d e=>BT f _ c d e.2) (h.2 i b)⟩
theorem ZmB (hs:Region.sinkB md ops n=true) (hc:Region.chainB md ops n=true) (hn:n+1=ops.size) (Z:i<n) (hi:ops[i]?=some oi) (Y:∀ (j:Nat) (o:Oper) cs b,ops[j]?=some o->o.op≠.select cs b)
 (hQ:∀ c a w,Q (.panic c) (a.put oi.dst v) w->Q (.panic c) a w):
 ∀ (f:Nat) (listed:Array Bool) (a:Act) (w:World),HeadInv md ops n listed ->
  (∀ j oj,ops[j]?=some oj->j≠i->listed.getD j true=false->(∀ e∈oj.after,Region.binds md e=true->e.on≠i)->oi.apart ops oj=true) ->
  i∈Region.ready md ops listed->YieldsIf P ops S oi v a->S w ->
  eO P md ops Q S n f (listed.setIfInBounds i true) (a.put oi.dst v) w->eO P md ops Q S n (f+1) listed a w:=by
 intro f
 induction f with
 | zero =>
   intro listed a w _ _ p D x H;refine ⟨fun h=>(by rw [h] at p;cases p),fun j r=>?_⟩;by_cases d:j=i
   · subst d;exact D.wpOp hi x ⟨.inr x,H⟩
   have:=ready_mono r d;rw [H.1] at this;cases this
 | succ f ih =>
   intro listed a w y g p D x H;refine ⟨fun h=>(by rw [h] at p;cases p),fun j r=>?_⟩;by_cases d:j=i
   · subst d;exact D.wpOp hi x ⟨.inr x,H⟩
   have C:=H.2 j (ready_mono r d);obtain ⟨q,oj,m,z⟩:=mem_ready.1 r;have E:j<n:=by have N:j<ops.size:=(sC.1 m).1;have O:j≠n:=fun e=>tail_waits hs hc qO y _ i rfl Z (mem_ready.1 p).1 j qO r;omega
   have s:∀ e∈oj.after,Region.binds md e=true->e.on≠i:=fun e U V F=>by have C:=z e U V;have R:=(mem_ready.1 p).1;rw [F,getD_both R] at C;cases C
   have T:=wpOp_putIf m (g j oj m d q s) (fun cs b=>Y i oi cs b hi) (fun cs b=>Y j oj cs b m) hQ D C;have l:∀ k A,ops[k]?=some A->k≠i->(listed.setIfInBounds j true).getD k true=false ->
    (∀ e∈A.after,Region.binds md e=true->e.on≠i)->oi.apart ops A=true:=fun k A W G B I=>by
    refine g k A W G ?_ I;by_cases t:j=k
    · subst t;exact q
    rw [getD_set_ne true t] at B;exact B
   refine wpOp_mono (fun X M L=>?_) T;have u:S M:=L.2.1.resolve_left qO;refine ⟨.inr u,ih (listed.setIfInBounds j true) X M (y.set r E) l (ready_mono p (JF d)) L.1 u ?_⟩;rw [Array.setIfInBounds_comm _ _ d];exact L.2.2
def ESt (P:Program) (md:Region.Mode) (ops:Array Oper) (Q:Exit->Act->World->Prop) (S:World->Prop) (n f:Nat) (listed:Array Bool) (a:Act) (w:World):Prop :=
 HeadInv md ops n listed->eO P md ops Q S n f listed a w
def Region.okE (md:Region.Mode) (ops:Array Oper) (n:Nat):Bool:=Region.noSelect ops && Region.sinkB md ops n && Region.chainB md ops n && decide (n+1=ops.size)
theorem ESt.take (hok:Region.okE md ops n=true) (hi:ops[i]?=some oi)
 (hf:(decide (i<n) && Region.free md ops listed i && (Region.ready md ops listed).contains i)=true) (hQ:∀ c a w,Q (.panic c) (a.put oi.dst v) w->Q (.panic c) a w) (hy:YieldsIf P ops S oi v a) (hS:S w)
 (h:ESt P md ops Q S n f (listed.setIfInBounds i true) (a.put oi.dst v) w):ESt P md ops Q S n (f+1) listed a w:=fun b=>by
 simp only [Region.okE,kB,NC] at hok hf;obtain ⟨⟨⟨g,j⟩,k⟩,l⟩:=hok;obtain ⟨⟨e,m⟩,o⟩:=hf;have d:i∈Region.ready md ops listed:=by simpa using o
 exact ZmB j k l e hi (Region.noSelect_spec g) hQ f listed a w b (Region.free_spec hi m) d hy hS (h (b.set d e))
theorem ESt.tK (i:Nat) (hi:ops[i]?=some oi) (hr:∀ w,S w->(execOp a.eval oi).run P w=.ok (.value v) w)
 (h:ESt P md ops Q S n f (listed.setIfInBounds i true) (a.put oi.dst v) w) (hok:Region.okE md ops n=true:=by decide +kernel) (hf:(decide (i<n) && Region.free md ops listed i && (Region.ready md ops listed).contains i)=true:=by decide +kernel)
 (hQ:∀ c a w,Q (.panic c) (a.put oi.dst v) w->Q (.panic c) a w:=by exact fun _ _ _ h=>h) (hw:Region.wanted oi (yielded ops a.tmps)=true:=by rfl) (hS:S w:=by assumption):ESt P md ops Q S n (f+1) listed a w :=
 ESt.take hok hi hf hQ (Or.inl ⟨hw,hr⟩) hS h
abbrev EA:=@ESt.tK
def AllE (P:Program) (md:Region.Mode) (ops:Array Oper) (Q:Exit->Act->World->Prop) (S:World->Prop) (n f:Nat) (listed:Array Bool) (a:Act) (w:World) (rs:List Nat):Prop :=
 ∀ i∈rs,wpOp P ops Q i (fun a' w'=>S w'/\ESt P md ops Q S n f (listed.setIfInBounds i true) a' w') a w
theorem AllE.nil:AllE P md ops Q S n f listed a w []:=fun _ h=>by cases h
abbrev RD:=@AllE.nil
theorem AllE.cons {rs:List Nat} (ho:ops[i]?=some o)
 (h:∀ K':Act->World->Prop,Shut (∀ a w,S w->(S w->ESt P md ops Q S n f (listed.setIfInBounds i true) a w)->K' a w)->if Region.wanted o (yielded ops a.tmps)=true then Oper.wp P o a w K' Q else K' (a.put o.dst undef) w)
 (hs:AllE P md ops Q S n f listed a w rs):AllE P md ops Q S n f listed a w (i::rs):=fun j b=>by
 rcases TA.1 b with rfl | b
 · exact wpOp_step ho (fun K' d=>h K' (fun a w c e=>d a w ⟨c,e c⟩))
 exact hs j b
abbrev JD:=@AllE.cons
theorem ESt.branch {rs:List Nat} (hr:Region.ready md ops listed=rs) (l:(!rs.isEmpty && rs.all fun i=>decide (i<n))=true) (h:AllE P md ops Q S n f listed a w rs):
 ESt P md ops Q S n (f+1) listed a w:=fun c=>by
 simp only [kB,Bool.not_eq_true',EG,NC,List.isEmpty_eq_false_iff] at l;refine ⟨fun g=>absurd (hr ▸ g) l.1,fun i d=>?_⟩;have b:i∈rs:=hr ▸ d;exact wpOp_mono (fun j k e=>⟨.inr e.1,e.2 (c.set d (l.2 i b))⟩) (h i b)
abbrev tG:=@ESt.branch
theorem ESt.last (hr:Region.ready md ops listed=[n]) (g:Region.ready md ops (listed.setIfInBounds n true)=[]) (ho:ops[n]?=some o)
 (h:∀ K':Act->World->Prop,Shut (∀ a w,Q .normal a w->K' a w)->if Region.wanted o (yielded ops a.tmps)=true then Oper.wp P o a w K' Q else K' (a.put o.dst undef) w) (f:Nat):ESt P md ops Q S n (f+1) listed a w:=fun _=>by
 refine ⟨fun b=>(by rw [hr] at b;cases b),fun i c=>?_⟩;rw [hr] at c;obtain rfl:i=n:=by simpa using c
 refine wpOp_step ho (fun K' e=>h K' (fun a w d=>e a w ⟨.inl rfl,?_⟩));cases f with
 | zero=>exact ⟨g,d⟩
 | succ f=>exact ⟨fun _=>d,by rw [g];simp⟩
abbrev CI:=@ESt.last
theorem eE (n:Nat) (S:World->Prop) (hm:P.follows .mixedOrders=true) (hS:S w.drew) (h:S w.drew->ESt P .any ops Q S n ops.size (Array.replicate ops.size false) a w.drew):(Code.region id ops true).wp P Q a w:=by refine wp_region_any hm (BT _ _ _ _ (h hS ?_));exact ⟨qS,fun j d _ b=>(by rw [getD_replicate_false] at b;cases b),fun t _ c=>getD_in (by simpa using c) (getD_replicate_false _ _)⟩
end
abbrev PrAt (w:World) (b p:Nat) (k a0 a1 a2 a3 a4:Value):Prop :=
 w.cell? ⟨b,p,none⟩=some k/\w.cell? ⟨b,p+1,none⟩=some a0/\w.cell? ⟨b,p+1+1,none⟩=some a1/\w.cell? ⟨b,p+1+2,none⟩=some a2/\w.cell? ⟨b,p+1+3,none⟩=some a3/\w.cell? ⟨b,p+1+4,none⟩=some a4
theorem PrAt.upd {k:Value} (h:PrAt w b p k a0 a1 a2 a3 a4) (hb:b<w.heap.size) (hs:Upd S w w') (hn:¬ S b):PrAt w' b p k a0 a1 a2 a3 a4:=by
 obtain ⟨a,c,d,e,f,g⟩:=h;exact ⟨(hs.cell (p:=⟨b,p,none⟩) hb hn).trans a,(hs.cell (p:=⟨b,p+1,none⟩) hb hn).trans c,(hs.cell (p:=⟨b,p+1+1,none⟩) hb hn).trans d,
  (hs.cell (p:=⟨b,p+1+2,none⟩) hb hn).trans e,(hs.cell (p:=⟨b,p+1+3,none⟩) hb hn).trans f,(hs.cell (p:=⟨b,p+1+4,none⟩) hb hn).trans g⟩
theorem PrAt.same {k:Value} (h:PrAt w b p k a0 a1 a2 a3 a4) (hb:b<w.heap.size) (hs:Same w w'):PrAt w' b p k a0 a1 a2 a3 a4:=h.upd hb hs fun f=>f
theorem ZmC {ps:List PR} {x:PR} (h:ps[k]?=some x):(ps.take (k+1)).map PR.dat=(ps.take k).map PR.dat++[x.dat]:=by rw [eD,h];simp
def EX (n:Nat) (ps:List PR):Prop:=n*96<=140737488351232/\∀ x∈ps,x.n1*8<=140737488351232/\x.n2*16<=140737488351232
theorem aK.small {n:Nat} {ps:List PR} (h:aK n ps):EX n ps:=⟨h.n,fun x a=>⟨(h.each x a).s1,(h.each x a).s2⟩⟩
def UK:BS:=⟨[],none,0,0⟩
def TH (l:List BS) (i:Nat) (x:BS):List BS:=(l++List.replicate (i+1-l.length) UK).set i x
theorem FX {α:Type} (p:α->Bool):∀ (m:List α) (i:Nat) (x y:α),m[i]?=some y->((m.set i x).filter p).length+(if p y=true then 1 else 0)=(m.filter p).length+(if p x=true then 1 else 0)
 | [],_,_,_,h=>by cases h
 | a::m,0,x,y,h=>by simp only [rC,SE] at h;subst h;rw [CA,BK,BK];split <;> split <;> simp_all
 | a::m,i+1,x,y,h=>by
   rw [LC] at h;have ih:=FX p m i x y h;rw [JA,BK,BK];split
   · simp only [BA];omega
   exact ih
theorem Zud (l:List BS) (i:Nat) (x:BS) (hx:x.A≠none):(TH l i x).map BS.rc=(l.map BS.rc++List.replicate (i+1-(l.map BS.rc).length) none).set i (some x.data):=by
 unfold TH;rw [eN,DB,CP,nA];congr 1;unfold BS.rc;cases h:x.A with
 | none=>exact absurd h hx
 | some a=>rfl
theorem IB.nilB (w:World) (B:Nat):IB w B UK:=PJ w _ 1
def Foot (f:Nat) (v:Value) (b:Nat):Prop:=b=f\/v.ownBlock=some b
def NewB (w:World) (v v':Value):Prop:=v'.ownBlock=v.ownBlock\/∃ g,v'.ownBlock=some g/\w.heap.size<=g
theorem IB.foot {n:Nat} {xs:List Value} {cs:Array Value} {x:BS} (h:IB w B x) (hf:Blk w f 171 cs) (hr:w.ownsRow B 39 1 v n xs) (hu:Upd (Foot f v) w w'):IB w' B x :=
 h.upd hu fun b a c=>by
  rcases c with e | e
  · subst e;exact absurd (a.ne ⟨_,hf⟩) qD
  exact absurd (a.ne (LA hr e)) qD
theorem PF.set_end {k vs z low N c' lv:Nat} {m:List BS} {x:BS} (hb:Blk w f 171 #[.int .i64 (k:Int),.int .i64 (vs:Int),.int .i64 (z:Int),.slice (some ⟨b,0,none⟩) N c',.int .i64 (lv:Int),.int .i64 (low:Int)])
 (ho:OD w B (.slice (some ⟨b,0,none⟩) N c') m) (hN:m.length=N) (hid:id<N) (hx:IB w B x) (s:((m.set id x).filter fun x=>x.A.isSome).length=lv) (t:B<=f) (size:2<=z/\z<=255) (v:∀ y∈m.set id x,y.A≠none->y.data.length+1=z)
 (D:N<=65536) (C:∀ i,i<low->∃ y,(m.set id x)[i]?=some y/\y.A≠none):PF (w.setCell ⟨b,id,none⟩ x.cell) B f k vs z (.slice (some ⟨b,0,none⟩) N c') (m.set id x) low:=by
 have a:=ho.row;rw [hN] at a;obtain ⟨g,u,e,n,o,p,q,r,d⟩:=EE a hid;cases e;have c:Upd (Foot f (.slice (some ⟨b,0,none⟩) N c')) w (w.setCell ⟨b,id,none⟩ x.cell):=(eA (Foot f (.slice (some ⟨b,0,none⟩) N c')) w).put (.inr rfl) _;have h:f≠b:=by rintro rfl;exact hb.ne_own a qD rfl
 have j:(m.set id x).length=N:=by rw [VF,hN]
 refine ⟨t,?_,⟨?_,fun y l=>?_⟩,size,v,qO,C⟩
 · rw [s];exact hb.far h _
 · rw [j,eN];exact d x.cell
 rcases iN l with l | rfl
 · exact (ho.each y l).foot hb a c
 exact hx.foot hb a c
theorem GX {l:List BS} (w:World) (h:PF w B f k vs z v l low) (hB:B<=w.heap.size) (x:BS) (hx:IB w B x) (hA:x.A≠none) (av:x.data.length+1=z) (id:Nat) (hid:id<65536):
 Calls Tryz.prog 105 #[.pointer (some ⟨f,0,none⟩),.int .i64 (id:Int),.slice x.A x.n x.c] w fun e w'=>e=.returned (.tuple #[]) /\
  ∃ v',PF w' B f k vs z v' (TH l id x) low/\Upd (Foot f v) w w'/\NewB w v v':=by
 obtain ⟨A,c,rfl⟩:=WA h.own.row;obtain ⟨m,hm⟩:=qx (l++List.replicate (id+1-l.length) UK);obtain ⟨N,hN⟩:=qx m.length;obtain ⟨n,t⟩:=qx l.length;obtain ⟨s,E⟩:∃ s,(l.filter fun x=>x.A.isSome).length=s:=⟨_,rfl⟩
 have Z:N=max n (id+1):=by rw [<- hN,<-hm,kA,aD,t];omega
 have r:id<N/\n<=N/\N<=65536:=by
  have h2:n<=65536:=by rw [<- t];exact h.len
  omega
 have O:=qH Z;have a0:(m.filter fun x=>x.A.isSome).length=s:=by rw [<- hm,kI,kA,E,pP.2 fun y j=>by rw [(zL.1 j).2];simp [UK]];rfl
 have ap:s<=n:=by rw [<- E,<-t];exact OL _ _
 have aq:n<=65536:=by rw [<- t];exact h.len
 have H:=qH h.blk;have R:=qH h.own;have S:=qH h;have HX:=qH hx;have HA:=qH hA;have HL:=qH av;have o:=qH (And.intro hm (And.intro hN (And.intro t (And.intro E a0))));rw [t,E] at H;rw [t] at R;have p3:=H.c3;clear h hx hA av hm hN t E a0 Z;go_enter Tryz.func105,Tryz.ntmps105;go_upto_if 12 with fail;go_cut [12] from 13 to 28 (fun _ U=>∃ A' L,Hid (Blk U f 171 #[.int .i64 (k:Int),.int .i64 (vs:Int),.int .i64 (z:Int),.slice A' N L,.int .i64 (s:Int),.int .i64 (low:Int)])/\Hid (OD U B (.slice A' N L) m)/\Hid (Upd (Foot f (.slice A n c)) w U)/\Hid (NewB w (.slice A n c) (.slice A' N L)))
 case first =>
  by_cases h1:id<n
  · have c1:¬ ((n:Int)<=(id:Int)):=qO;have ac:m=l:=by have h2:=o.1;rw [show id+1-l.length=0 by rw [o.2.2.1];omega] at h2;simpa using h2.symm
    have ad:N=n:=qh O;subst ad;subst ac;clear O o S;go_wp2;go_meet;exact ⟨A,c,H,R,qH (eA _ w),qH (.inl rfl)⟩
  have c1:((n:Int)<=(id:Int)):=qO;obtain ⟨m4,ar⟩:=qx (id+1-n);have w1:IntKind.i64.wrap ((id:Int)+1)=(id:Int)+1:=kF _ ⟨qO,qO⟩;have w2:IntKind.i64.wrap ((id:Int)+1-(n:Int))=(m4:Int):=qw;go_upto_region 1 with fail;have W:Same w w.drew:=(eA _ w).drew;refine eE 16 (fun U=>U.cell? ⟨f,3,none⟩=some (.slice A n c)) qK ((H.same W).cell 3) (fun F=>?_)
  repeat
   first
    | refine EA (v:=?_) 0 rfl ?_ ?_
    | refine EA (v:=?_) 1 rfl ?_ ?_
    | refine EA (v:=?_) 2 rfl ?_ ?_
    | refine EA (v:=?_) 3 rfl ?_ ?_
    | refine EA (v:=?_) 4 rfl ?_ ?_
    | refine EA (v:=?_) 5 rfl ?_ ?_
    | refine EA (v:=?_) 6 rfl ?_ ?_
    | refine EA (v:=?_) 7 rfl ?_ ?_
    | refine EA (v:=?_) 8 rfl ?_ ?_
    | refine EA (v:=?_) 9 rfl ?_ ?_
    | refine EA (v:=?_) 10 rfl ?_ ?_
    | refine EA (v:=?_) 11 rfl ?_ ?_
    | refine EA (v:=?_) 12 rfl ?_ ?_
    | refine EA (v:=?_) 14 rfl ?_ ?_
    | refine EA (v:=?_) 15 rfl ?_ ?_
   rotate_left
   · intro U V;have h0:=V;go_simp;try with_reducible rfl
   simp only [Act.put,zA,qB,oB,iB,CA,JA]
  refine tG (rs:=[13]) (by decide +kernel) (by decide +kernel) ?_;refine JD rfl (fun K hK=>?_) RD;have a1:=R.same W;have d:=a1.row;have t:=o.2.2.1;rw [t] at d;refine ZrQ rfl (.tmp 17) (.tmp 25) _ _ rfl B 39 24 _ (kn:=.i64) PL FH aQ rfl rfl (.slice A n c) n _ rfl d .i64 m4 rfl qM qO (qt W.size) ?_;intro v9 w9 G;obtain ⟨f1,f2,f3⟩:=aH (i:=3) H.out (by have:=R.row;rw [t] at this;exact this) qD W G;obtain ⟨A9,c9,rfl⟩:=WA G.own;have q3:=(H.same W).upd G.upd fun hh=>(H.same W).ne_own d qD hh;have ae:n+m4=N:=qh O;have C:=G;rw [ae] at f1 f2 f3 C;have af:=qH C;have a2:=qH f3;have Q3:=qH q3;have ag:=qH f1;have ah:=qH f2;clear f1 f2 f3 G C d a1;refine hK.out _ _ (q3.cell 3) (fun F=>?_);clear hK K q3;simp only [Act.put,zA,qB,oB,iB,CA,JA]
  repeat
   first
    | refine EA (v:=?_) 14 rfl ?_ ?_
    | refine EA (v:=?_) 15 rfl ?_ ?_
   rotate_left
   · intro U V;have h0:=V;go_simp;try with_reducible rfl
   simp only [Act.put,zA,qB,oB,iB,CA,JA]
  refine CI (by decide +kernel) (by decide +kernel) rfl (fun K hK=>?_) _;have r3:=Q3.cell 3;have z3:=Q3.frozen 3;go_simp;refine hK.out _ _ ?_;clear hK K r3 z3 F;go_wp2;go_meet;have a3:=ag.out;simp only [zA,JA,CA] at a3;have ai:m4=id+1-l.length:=by rw [o.2.2.1];omega
  have he:l.map BS.cell++List.replicate m4 (.slice none 0 0)=m.map BS.cell:=by rw [<- o.1,DB,CP,ai];rfl
  have a4:=ah.out;rw [he] at a4;have aj:Upd (Foot f (.slice A n c)) w (w9.setCell ⟨f,3,none⟩ (.slice A9 N c9)):=a2.out;have ak:=R.row;refine ⟨A9,c9,qH a3,qH ⟨by rw [o.2.1];exact a4,fun y j=>?_⟩,a2,qH ?_⟩
  · rw [<- o.1] at j;rcases YB.1 j with j | j
    · exact (R.each y j).foot H ak aj
    rw [(zL.1 j).2];exact IB.nilB _ _
  exact af.block
 obtain ⟨A',L,M,Y,U1,N1⟩:=hcut;obtain ⟨y,j⟩:∃ y,m[id]?=some y:=⟨_,FA (by rw [o.2.1];exact r.1)⟩
 have d:=Y.row;rw [o.2.1] at d;obtain ⟨b,u,rfl,ao,au,hu,hc,hf,a9⟩:=EE d r.1;have al:u=.slice y.A y.n y.c:=by rw [MA,j] at hu;exact (eB hu).symm
 subst al;have a5:=qH (OC j);have q3:=M.c3;have q4:=M.c4;have z4:=M.frozen 4;have am:f≠b:=by rintro rfl;exact M.ne_own d qD rfl
 have j1:(id:Int)<(N:Int):=qO;have XC:=qH (HX.foot H (by have:=R.row;rw [o.2.2.1] at this;exact this) U1.out);have I:m.set id x=TH l id x:=by rw [<- o.1];rfl
 have a6:=qH (FX (fun x:BS=>x.A.isSome) m id x y j);have a7:x.A.isSome=true:=by
  cases hxA:x.A with
  | none=>exact absurd hxA HA.out
  | some a=>rfl
 have HR:=qH (show ∀ y∈m.set id x,y.A≠none->y.data.length+1=z by
  intro y j q;rcases iN j with j | rfl
  · rw [<- o.1] at j;rcases YB.1 j with j | j
    · exact S.recs y j q
    rw [(zL.1 j).2] at q;exact absurd rfl q
  exact HL)
 have a8:=qH (show ∀ i,i<low->∃ y,(m.set id x)[i]?=some y/\y.A≠none by
  intro i hi;obtain ⟨y,j,q⟩:=S.low i hi;by_cases he:id=i
  · subst he;exact ⟨x,FG (by rw [o.2.1];exact r.1),HA⟩
  refine ⟨y,?_,q⟩;rw [iI he,<-o.1,PI (IA.1 j).1];exact j)
 have HS:=qH I;clear I a9 hu j ao;cases q:y.A with
 | none =>
   have an:=fun (w:World) (a:Option Addr) (n c:Nat)=>dI (P:=Tryz.prog) w 39 5 a n c 0 0 yD;have h5:=Row.nil (Y.each y a5) q;have h6:=Row.le (Y.each y a5);rw [q,h5,show y.n=0 by omega] at hc;have w1:IntKind.i64.wrap ((s:Int)+1)=(s:Int)+1:=kF _ ⟨qO,qO⟩;have uD:Upd (fun b=>b=f) wc (wc.setCell ⟨f,4,none⟩ (.int .i64 ((s:Int)+1))):=(eA _ wc).put1 _;have T:Upd (Foot f (.slice (some ⟨b,0,none⟩) N L)) wc (wc.setCell ⟨f,4,none⟩ (.int .i64 ((s:Int)+1))):=uD.mono fun _ _ h=>.inl h;have X:=M.put 4 (.int .i64 ((s:Int)+1));simp only [zA,JA,CA] at X;have B2:=qH X;have O2:=qH (show OD (wc.setCell ⟨f,4,none⟩ (.int .i64 ((s:Int)+1))) B (.slice (some ⟨b,0,none⟩) N L) m from ⟨GA Y.row uD fun g hg e=>by cases hg;exact am e.symm,fun y j=>(Y.each y j).foot M d T⟩);have X2:=qH (XC.foot M d T);have UD:=qH uD;have e3:=B2.c3;have ec:∃ u,(wc.setCell ⟨f,4,none⟩ (.int .i64 ((s:Int)+1))).cell? ⟨b,id,none⟩=some u:=by have D:=O2.row;rw [o.2.1] at D;obtain ⟨g,u,e,_,_,_,aa,ab,_⟩:=EE D r.1;cases e;exact ⟨u,aa⟩
   have ef:(wc.setCell ⟨f,4,none⟩ (.int .i64 ((s:Int)+1))).frozen? ⟨b,id,none⟩=false:=by have D:=O2.row;rw [o.2.1] at D;obtain ⟨g,u,e,_,_,_,aa,ab,_⟩:=EE D r.1;cases e;exact ab
   obtain ⟨u2,ec⟩:=ec;clear X uD T;go_upto_region 4 with fail;generalize wc.setCell ⟨f,4,none⟩ (.int .i64 ((s:Int)+1))=wd at *;go_wp2;go_end0;rw [o.2.2.1];refine ⟨rfl,.slice (some ⟨b,0,none⟩) N L,?_,?_,N1⟩
   · rw [<- HS.out];have X:=B2.out;rw [show (s:Int)+1=((s+1:Nat):Int) by omega] at X;refine PF.set_end X O2 o.2.1 r.1 X2.out ?_ S.base S.size HR r.2.2 a8;have:=a6.out;rw [q,o.2.2.2.2,a7] at this;simpa using this
   exact (U1.trans UD fun _ _ h=>.inl h).setCell (p:=⟨b,id,none⟩) (by
    rcases N1.out with e | ⟨g,e,h⟩
    · exact .inl (.inr e.symm)
    cases e;exact .inr h) _
 | some a =>
   have an:=fun (w:World) (a:Option Addr) (n c:Nat)=>dI (P:=Tryz.prog) w 39 5 a n c 0 0 yD;rw [q] at hc;go_wp2;go_end0;rw [o.2.2.1];refine ⟨rfl,.slice (some ⟨b,0,none⟩) N L,?_,?_,N1⟩
   · rw [<- HS.out];refine PF.set_end M Y o.2.1 r.1 XC.out ?_ S.base S.size HR r.2.2 a8;have:=a6.out;rw [q,o.2.2.2.2,a7] at this;simpa using this
   exact U1.setCell (p:=⟨b,id,none⟩) (by
    rcases N1.out with e | ⟨g,e,h⟩
    · exact .inl (.inr e.symm)
    cases e;exact .inr h) _
theorem NewB.trans {v2:Value} (hs:w.heap.size<=w1.heap.size) (h:NewB w v v1) (k:NewB w1 v1 v2):NewB w v v2:=by
 rcases k with k | ⟨g,k,m⟩
 · rcases h with h | h
   · exact .inl (k.trans h)
   exact .inr (by rw [k];exact h)
 exact .inr ⟨g,k,tA hs m⟩
abbrev fO:=@NewB.trans
theorem NewB.same (hu:Same w w1) (h:NewB w1 v v1):NewB w v v1:=fO hu.size (.inl rfl) h
theorem IB.row (h:OwnB w B v d) (hd:0<d.length):∃ x:BS,v=.slice x.A x.n x.c/\x.data=d/\x.A≠none/\IB w B x:=by obtain ⟨A,c,rfl⟩:=WA h;refine ⟨⟨d,A,d.length,c⟩,rfl,rfl,fun b=>?_,IB.of h rfl⟩;have a:=xF h;have:=a.nil b;have:=a.le;omega
theorem CT {l:List BS} {A:Option Addr} {n:Nat} (w:World) (h:PF w B f k vs z v l low) (hB:B<=w.heap.size) (hd:pA w F A n c d) (S:d.length+1=z) (id:Nat) (hid:id<65536):
 Calls Tryz.prog 59 #[.pointer (some ⟨f,0,none⟩),.int .i64 (id:Int),.slice A n c] w fun e w'=>e=.returned (.int .i64 0) /\
  ∃ x v',x.data=d/\x.A≠none/\PF w' B f k vs z v' (TH l id x) low/\Upd (Foot f v) w w'/\NewB w v v':=by
 have H:n+1=z:=qt hd.len;have I:=h.size;have L:=h.blk.c2;have M:IntKind.i64.wrap ((z:Int)-1)=(n:Int):=qw;have N:¬ (id:Int)<0:=qO;have O:¬ (65536:Int)<=(id:Int):=qO;have t:=qH h;have u:=qH hd;have a:=qH S;clear h hd S;go_enter Tryz.func59,Tryz.ntmps59;go_wp2_with fail;refine (JK w u qO).mono ?_;rintro e G ⟨P,rfl,o,p⟩;obtain ⟨x,rfl,i,j,q⟩:=IB.row o (qh a);have y:=qH (q.base hB);have b:=qH i;have g:=qH j;have m:=qH p;clear o p q i j;go_wp2_with fail;refine (GX G (t.same m) (tA hB m.size) x y g (by rw [b.out];exact a) id hid).mono ?_;rintro e R ⟨rfl,v',r,u3,s⟩;have C:=qH r;have D:=qH ((m.mono (S':=Foot f v) qe).trans u3 qf);have E:=qH (NewB.same m s);clear r u3 s;go_wp2;go_ret;exact ⟨rfl,x,v',b,g,C,D,E⟩
theorem IX {d:Array Oper} {K:Act->World->Prop} {Q:Exit->Act->World->Prop} {E:Prop} (e:o.guard=none) (l c:Operand) (t:TypeId) (ho:o.op=Op.makeSlice t l c) {vl vc:Value} (hl:a.eval l=vl) (hc:a.eval c=vc)
 (hr:(Instr.makeSlice t vl vc).run P w=.ok v w') (h:K (a.put o.dst v) w'):if Region.wanted o (yielded d a.tmps)=true then Oper.wp P o a w K Q else E:=by
 have b:Region.wanted o (yielded d a.tmps)=true:=by simp [Region.wanted,e]
 rw [gA b];unfold Oper.wp execOp;simp only [ho,hl,hc,Sem.run_bind,hr,Result.andThen_ok,Sem.run_pure];exact h
theorem DT (w:World) {n:Nat} (hn:n<=maxLen):OwnB (w.alloc (.cells (madeCells #[Value.int .u8 0] n) 5)) w.heap.size (.slice (some ⟨w.heap.size,0,none⟩) n n) (TB n):=by
 have e:(madeCells #[Value.int .u8 0] n).toList=(TB n).map u8v:=by simp [madeCells,TB,u8v,yK,List.map_const']
 refine ⟨by simp [TB],.inr ⟨w.heap.size,n,_,by simp [TB],lA _,World.alloc_heap_new w _,by simp [TB],hn,by simp [madeCells],?_⟩⟩;rw [e];simp [TB]
theorem JX {l:List BS} (w:World) (h:PF w B f k vs z v l low) (hB:B<=w.heap.size) (a9:∀ x∈l,x.A≠none) (hl:l.length<65536):
 Calls Tryz.prog 95 #[.pointer (some ⟨f,0,none⟩)] w fun e w'=>e=.returned (.tuple #[.int .i64 (l.length:Int),.int .i64 0]) /\
  ∃ x v',x.data=TB (z-1)/\x.A≠none/\PF w' B f k vs z v' (l++[x]) l.length/\Upd (Foot f v) w w'/\NewB w v v':=by
 obtain ⟨A,c,rfl⟩:=WA h.own.row;obtain ⟨n,hn⟩:=qx l.length;have hz:=h.size;have G:low<=n:=by
  rcases wP n low with X | X
  · obtain ⟨y,F,_⟩:=h.low n X;have:=(IA.1 F).1;omega
  exact X
 have HN:=qH hn;have HA:=qH a9;rw [hn] at h hl ⊢;have H0:=qH h;clear h a9 hn;go_enter Tryz.func95,Tryz.ntmps95;go_wp2_with fail;go_loopg [] (n-low) (fun gh wr=>∃ i:Nat,n-i=gh/\low<=i/\i<=n/\Hid (PF wr B f k vs z (.slice A n c) l i)/\Hid (Upd (Foot f (.slice A n c)) w wr))
 case atStart=>exact ⟨low,rfl,lA _,G,H0,qH (eA _ w)⟩
 obtain ⟨i,rfl,a5,a6,N,HU⟩:=hrel;have a0:=fun (w:World) (a:Option Addr) (n c:Nat)=>run_neq_slice_nil_any (P:=Tryz.prog) w 39 5 a n c 0 0 yD;have q:=N.blk;have q5:=q.c5;have q3:=q.c3;have q2:=q.c2;have z5:=q.frozen 5;clear q;by_cases H:i<n
 · obtain ⟨b,o,x,rfl,s,O,D,hc⟩:=N.own.at_ HN H;obtain ⟨a,ha⟩:∃ a,x.A=some a:=by
    cases t:x.A with
    | none=>exact absurd t (HA.out x D)
    | some a=>exact ⟨a,rfl⟩
   have r:=qH (show ∃ y,l[i]?=some y/\y.A≠none from ⟨x,O,HA.out x D⟩);rw [ha] at hc;have j1:(i:Int)<(n:Int):=qO;have hd:decide ((i:Int)<(n:Int))=true:=kC j1;have w1:IntKind.i64.wrap ((i:Int)+1)=(i:Int)+1:=kF _ ⟨qO,qO⟩;clear O D ha;go_upto_region 1 with fail;go_quiet (fail);go_wp2;go_roundg (n-(i+1))
   case measure=>omega
   have uq:Upd (Foot f (.slice (some ⟨b,o,none⟩) n c)) wr ((wr.drewN nq).setCell ⟨f,5,none⟩ (.int .i64 ((i:Int)+1))):=((eA _ wr).drewN nq).setCell (p:=⟨f,5,none⟩) (.inl (.inl rfl)) _;have a1:Upd (fun b=>b=f) wr ((wr.drewN nq).setCell ⟨f,5,none⟩ (.int .i64 ((i:Int)+1))):=((eA _ wr).drewN nq).put1 _;have m:=N.out;have b2:=(m.blk.drewN nq).put 5 (.int .i64 ((i:Int)+1));simp only [zA,JA,CA] at b2;have a8:f≠b:=by rintro rfl;exact m.blk.ne_own m.own.row qD rfl
   refine ⟨i+1,rfl,qO,qO,qH ⟨m.base,by rw [show (i:Int)+1=((i+1:Nat):Int) by omega] at b2;exact b2,⟨GA m.own.row a1 fun g hg e=>?_,fun y F=>(m.own.each y F).foot m.blk m.own.row uq⟩,m.size,m.recs,m.len,fun j hj=>?_⟩,qH (HU.trans uq qf)⟩
   · subst e;exact m.blk.ne_own m.own.row qD hg
   by_cases a2:j=i
   · subst a2;exact r
   exact m.low j qO
 have a3:i=n:=qO;subst a3;have hd:decide ((i:Int)<(i:Int))=false:=LB qO;clear a5 a6 H;go_upto_region 1 with fail;go_quiet (fail);have sq:Same wr (wr.drewN nq):=(eA _ wr).drewN nq;have U:=qH (N.same sq);have V:=qH (HU.same sq);clear N HU q5 q3 q2 z5 sq a0 hd;generalize wr.drewN nq=Z at *;have u:=U.blk;have q5:=u.c5;have q2:=u.c2;obtain ⟨y,F⟩:∃ y,z=y+1:=⟨z-1,qO⟩
 have w1:IntKind.i64.wrap ((z:Int)-1)=(y:Int):=qw;have E:=qH F;clear u F;have c6:¬ (65536:Int)<=(i:Int):=qO;replace hl:=qH hl;go_upto_region 5 with fail;have W:Same Z Z.drew:=(eA _ Z).drew;have s:=U.blk.same W;refine eE 11 (fun wx=>wx.cell? ⟨f,5,none⟩=some (.int .i64 (i:Int))/\wx.cell? ⟨f,2,none⟩=some (.int .i64 (z:Int))) qK ⟨s.cell 5,s.cell 2⟩ (fun d=>?_)
 repeat
  first
   | refine EA (v:=?_) 0 rfl ?_ ?_
   | refine EA (v:=?_) 1 rfl ?_ ?_
   | refine EA (v:=?_) 2 rfl ?_ ?_
   | refine EA (v:=?_) 3 rfl ?_ ?_
   | refine EA (v:=?_) 4 rfl ?_ ?_
   | refine EA (v:=?_) 5 rfl ?_ ?_
   | refine EA (v:=?_) 6 rfl ?_ ?_
   | refine EA (v:=?_) 7 rfl ?_ ?_
   | refine EA (v:=?_) 8 rfl ?_ ?_
   | refine EA (v:=?_) 9 rfl ?_ ?_
  rotate_left
  · intro wx R;have h0:=R.1;have X:=R.2;go_simp;try with_reducible rfl
  simp only [Act.put,zA,qB,oB,iB,CA,JA]
 refine tG (rs:=[10]) (by decide +kernel) (by decide +kernel) ?_;refine JD rfl (fun K S=>?_) RD;have I:=run_make_row' (P:=Tryz.prog) 39 5 (.int .u8 0) 1 yD uI rfl .i64 .i64 y (qh E) (qh E);refine IX rfl (.tmp 48) (.tmp 48) _ rfl rfl rfl (I _) ?_;have sA:=W.alloc (.cells (madeCells #[.int .u8 0] y) 5);have L:=DT Z.drew (n:=y) (by have:=E.out;unfold maxLen;omega);obtain ⟨x,a7,T,t,O⟩:=IB.row L (by have:=E.out;simp [TB];omega);have M:=qH T;have r:=qH t;have a4:=qH (O.base (tA hB (tA V.size W.size)));have Y:=qH sA;rw [a7];have C:=U.blk.same sA;clear L O T t I d s W;refine S _ _ ⟨C.cell 5,C.cell 2⟩ (fun d=>?_);clear S K;simp only [Act.put,zA,qB,oB,iB,CA,JA];refine CI (by decide +kernel) (by decide +kernel) rfl (fun K S=>?_) _;go_simp;refine (GX _ (U.same Y) (tA hB (tA V.size Y.size)) x a4 r (by rw [M.out];have:=E.out;simp [TB];omega) i hl.out).mono ?_;rintro e w5 ⟨rfl,v',h5,u5,n5⟩;have H5:=qH h5;have U5:=qH ((V.same Y).trans u5 qf);have N5:=qH (show NewB w (.slice A i c) v' from fO (tA V.size Y.size) (.inl rfl) n5);have q6:=h5.blk.c5;clear h5 u5 n5 sA C;go_wp2_with fail;refine S _ _ ?_;clear S K d;go_wp2
 go_ret2
 refine ⟨qR,x,v',by rw [M.out,E.out];rfl,r,?_,U5,N5⟩;have e1:TH l i x=l++[x]:=by have hi:=HN.out;subst hi;unfold TH;rw [show l.length+1-l.length=1 by omega,List.replicate_one,fI _ _ (lA _),SD];rfl
 rw [<- e1];exact H5
end
end Go.Proofs.YtmkjfhnlnhceiaaGreatDoor
