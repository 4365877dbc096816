/- Lemmas: walks and plain laws. -/
import Derived.Lib.AppendZeros
import Derived.Maps.Own
import Derived.Maps.OwnOps
import Derived.Maps.Views
import Derived.Laws.CopyOwn
import Derived.Test.YtmkjfhnlnhceiaaGreatDoorF05
set_option maxRecDepth 100000
set_option maxHeartbeats 16000000
namespace Go.Proofs.YtmkjfhnlnhceiaaGreatDoor
variable {d bs:List UInt8} {s:ByteArray} {N N0:List ByteArray} {i k n c B r:Nat} {w w':World} {o:Oper} {a:Act} {K:Act->World->Prop} {Q:Exit->Act->World->Prop} {x E:Int} {S F:Nat->Prop} {v:Value} {A:Option Addr}
section
def idxI (N:List ByteArray) (s:ByteArray):Option Nat:=if s=noText then none else N.findIdx? (fun t=>decide (t=s))
def idsF (N:List ByteArray) (s:ByteArray):Option Value:=(idxI N s).map fun (i:Nat)=>Value.int .i64 (i:Int)
def tokU:List ByteArray->List (Nat×List UInt8)->Except Int (List ByteArray)
 | N,[]=>.ok N
 | N,(i,d)::u=>match MF d with
   | none=>.error 110
   | some s=>if (idxI N s).isSome=true then .error 7 else tokU (N.set i s) u
theorem wW (h:MF d=some s):VB s=true:=by
 unfold MF at h;split at h
 · cases h
 split at h
 · cases h
 split at h
 · rename_i a;injection h with h
   subst h;exact a
 cases h
theorem PK (h:VB s=true):s≠noText:=fun e=>by have a:=(xI h).1;rw [e] at a;exact absurd a qD
theorem xW (hs:s≠noText):(idxI N s).isSome=N.any (fun t=>decide (t=s)):=by unfold idxI;rw [aA hs];simp [List.findIdx?_isSome]
theorem YS:∀ (l:List BS) (acc:List ByteArray),cH acc (l.map BS.rc)=tokU (acc++List.replicate l.length noText) (DA acc.length l)
 | [],acc=>by simp [cH,tokU,DA]
 | x::l,acc=>by
   rw [CB,DA];have c:BS.rc x=match x.A with | none=>none | some _=>some x.data:=rfl
   rw [c];cases hA:x.A with
   | none =>
     simp only;rw [cH,YS l (acc++[noText])];simp [VG]
   | some a =>
     simp only;rw [cH,tokU];cases hn:MF x.data with
     | none=>rfl
     | some s =>
       simp only;have b:=PK (wW hn);have d:(idxI (acc++List.replicate (x::l).length noText) s).isSome=acc.any (fun t=>decide (t=s)):=by
        rw [xW b,oR];have:(List.replicate (x::l).length noText).any (fun t=>decide (t=s))=false:=by rw [uL];intro t g;rw [NR g];simpa using fun e:noText=s=>b e.symm
        rw [this,Bool.or_false]
       rw [d,YS l (acc++[s])];have f:(acc++List.replicate (x::l).length noText).set acc.length s=(acc++[s])++List.replicate l.length noText:=by rw [BA,VG,fI _ _ (lA _),SD];simp
       rw [f];simp
theorem yW:∀ (N:List ByteArray) (i:Nat) (s t:ByteArray),N[i]?=some noText->t≠noText->N.findIdx? (fun u=>decide (u=s))=none->s≠noText ->
 (N.set i s).findIdx? (fun u=>decide (u=t))=if t=s then some i else N.findIdx? (fun u=>decide (u=t))
 | [],i,s,t,h,_,_,_=>by simp at h
 | u::N,0,s,t,h,ht,hn,hs=>by
   have d:u=noText:=by simpa using h
   subst d;rw [CA,TM,TM];by_cases e:t=s
   · subst e;simp
   rw [aA e,LB (fun h=>e h.symm),LB (fun h=>ht h.symm)]
 | u::N,i+1,s,t,h,ht,hn,hs=>by
   rw [TM] at hn;have a:u≠s:=fun e=>by simp [e] at hn
   rw [LB a] at hn;have c:N.findIdx? (fun u=>decide (u=s))=none:=by
    cases hq:N.findIdx? (fun u=>decide (u=s)) with
    | none=>rfl
    | some k=>rw [hq] at hn;simp at hn
   have f:=yW N i s t (by simpa using h) ht c hs;rw [JA,TM,TM,f];by_cases e:t=s
   · subst e;rw [LB a];simp
   rw [aA e];by_cases b:u=t
   · rw [kC b,aA e]
   rw [LB b,aA e]
theorem ZtG (h:N[i]?=some noText) (hs:s≠noText) (hn:(idxI N s).isSome=false):idsF (N.set i s)=mpPS (idsF N) s (.int .i64 (i:Int)):=by
 funext t;have b:N.findIdx? (fun u=>decide (u=s))=none:=by unfold idxI at hn;rw [aA hs] at hn;simpa using hn
 unfold idsF mpPS idxI;by_cases a:t=noText
 · subst a;rw [gA rfl,aA (fun e=>hs e.symm)];show none=(if noText=noText then _ else _:Option Nat).map _;rw [gA rfl];rfl
 rw [aA a,yW N i s t h a b hs];by_cases e:t=s
 · rw [gA e,gA e];rfl
 rw [aA e,aA e];show _=(if t=noText then _ else _:Option Nat).map _;rw [aA a]
theorem ZtH {t:ByteArray} (hn:N.findIdx? (fun u=>decide (u=s))=none):(N++[s]).findIdx? (fun u=>decide (u=t))=if t=s then some N.length else N.findIdx? (fun u=>decide (u=t)):=by
 rw [List.findIdx?_append];by_cases e:t=s
 · subst e;rw [gA rfl,hn];simp
 rw [aA e];have:[s].findIdx? (fun u=>decide (u=t))=none:=by have a:¬ s=t:=fun h=>e h.symm;simp [a]
 rw [this];cases N.findIdx? (fun u=>decide (u=t)) <;> rfl
theorem ZtI (hs:s≠noText) (hn:(idxI N s).isSome=false):idsF (N++[s])=mpPS (idsF N) s (.int .i64 (N.length:Int)):=by
 funext t;have a:N.findIdx? (fun u=>decide (u=s))=none:=by unfold idxI at hn;rw [aA hs] at hn;simpa using hn
 unfold idsF mpPS idxI;by_cases b:t=noText
 · subst b;rw [gA rfl,aA (fun e=>hs e.symm)];show none=(if noText=noText then _ else _:Option Nat).map _;rw [gA rfl];rfl
 rw [aA b,ZtH a];by_cases e:t=s
 · rw [gA e,gA e];rfl
 rw [aA e,aA e];show _=(if t=noText then _ else _:Option Nat).map _;rw [aA b]
theorem UJ:∀ {l:List BS} {i:Nat} {p:Nat×List UInt8},p∈DA i l->i<=p.1/\∃ y,l[p.1-i]?=some y/\y.A≠none/\y.data=p.2
 | [],i,p,h=>by simp [DA] at h
 | x::l,i,p,h=>by
   rw [DA] at h;have step:p∈DA (i+1) l->i<=p.1/\∃ y,(x::l)[p.1-i]?=some y/\y.A≠none/\y.data=p.2:=fun h=>by obtain ⟨d,y,b,c⟩:=UJ h;refine ⟨qO,y,?_,c⟩;rw [show p.1-i=(p.1-(i+1))+1 by omega,LC];exact b
   cases hA:x.A with
   | none =>
     rw [hA] at h;exact step h
   | some a =>
     rw [hA] at h;rcases TA.1 h with h | h
     · subst h;exact ⟨lA _,x,qS,by rw [hA];simp,rfl⟩
     exact step h
theorem cQ:∀ (l:List BS) (i:Nat),(DA i l).Pairwise fun a b=>a.1<b.1
 | [],i=>by simp [DA]
 | x::l,i=>by
   rw [DA];cases x.A with
   | none=>exact cQ l (i+1)
   | some a =>
     refine TE.2 ⟨fun p c=>?_,cQ l (i+1)⟩;have:=(UJ c).1;show i<p.1;omega
theorem dM:∀ (l:List BS) (i:Nat),(DA i l).length<=l.length
 | [],i=>by simp [DA]
 | x::l,i=>by
   have h:=dM l (i+1);rw [DA];cases x.A with
   | none=>simp only [BA];omega
   | some a=>simp only [BA];omega
theorem ZrP {L:List (Nat×List UInt8)} (hL:L.Pairwise fun a b=>a.1<b.1) (hx:L[k]?=some (i,d)) (hU:tokU N0 L=tokU N (L.drop k)) (hz:∀ p∈L.drop k,N[p.1]?=some noText)
 (hn:MF d=some s) (hi:(idxI N s).isSome=false):tokU N0 L=tokU (N.set i s) (L.drop (k+1))/\(∀ p∈L.drop (k+1),(N.set i s)[p.1]?=some noText)/\N[i]?=some noText:=by
 obtain ⟨e,h⟩:=IA.1 hx;have c:=kE e;rw [h] at c;rw [c] at hU hz;rw [tokU,hn] at hU;simp only at hU;rw [aA (by rw [hi];simp)] at hU;refine ⟨hU,fun p g=>?_,hz (i,d) qS⟩;have j:i<p.1:=by have f:=hL.sublist (List.drop_sublist k L);rw [c] at f;exact (TE.1 f).1 p g
 rw [iI qO];exact hz p (by simp [g])
theorem zW {L:List (Nat×List UInt8)} (hx:L[k]?=some (i,d)) (hU:tokU N0 L=tokU N (L.drop k)):
 (MF d=none->tokU N0 L=.error 110)/\∀ s,MF d=some s->(idxI N s).isSome=true->tokU N0 L=.error 7:=by
 obtain ⟨a,c⟩:=IA.1 hx;have b:=kE a;rw [c] at b;rw [b,tokU] at hU;refine ⟨fun h=>by rw [hU,h],fun s h e=>?_⟩;rw [hU,h];simp only;rw [gA e]
end
section
open Go.RowKit
theorem Zlf (z:Value) (m:Nat) (hz:z.cells=#[z]):Builtin.zeroCells z.cells m=(List.replicate m z).toArray:=by
 rw [hz];unfold Builtin.zeroCells;apply Array.ext
 · simp
 intro i a b;simp [yK]
section
variable {P:Program}
theorem Zlg (w:World) (t tn ty:TypeId) (a0:Nat) (e:TypeId) (i:TypeInfo) (z:Value) (k kn:IntKind) (ht:P.underlying t=some (.slice e)) (a1:P.underlying tn=some (.int kn)) (hi:P.info? e=some i) (hz:i.zero=some z)
 (a2:i.size=1) (a3:z.cells=#[z]) (a7:z.oneCell'=true) (v:Value) (n:Nat) (xs:List Value) (a4:w.ownsRow a0 e 1 v n xs) (m:Nat)
 (a5:n+m<=maxLen) (a6:(n+m+1000)*i.bytes<=211106232532992) (a8:a0<=w.heap.size):
 ∃ v' w',(Builtin.append_ #[t,tn] ty #[v,.int k m]).run P w=.ok v' w'/\Grew w a0 e 1 v (n+m) (xs++List.replicate m z) v' w':=by
 have N:n+m<=9223372036854775807:=by simp only [maxLen] at a5;omega
 have S:IntKind.i64.wrap (m:Int)=m:=by rw [rF];omega
 have s:¬ ((m:Int)<0):=qO;have F:IntKind.i64.wrap 0=0:=qD;have d:xs.length=n:=qt a4.1;have U:m*i.bytes<=281474976710656:=tA (gG _ qO) (tA a6 qO);have x:¬ (281474976710656<(m:Int)*(i.bytes:Int)):=by rw [<- Int.natCast_mul];omega
 have y:=Zlf z;have one:∀ u∈List.replicate m z,u.oneCell'=true:=fun u X=>by rw [(zL.1 X).2];exact a7
 have f:∀ (o:Nat),(w.drew.alloc (.cells ((xs++List.replicate m z).toArray++Builtin.zeroCells z.cells (grownCap w (n+m) o e-(n+m))) e)).ownsRow a0 e 1
  (.slice (some ⟨w.heap.size,0,none⟩) (n+m) (grownCap w (n+m) o e)) (n+m) (xs++List.replicate m z):=by
  intro o;have O:=grownCap_ge w (n+m) o e;have B:=grownCap_le_maxLen w (n+m) o e a5;refine ⟨by simp [d],.inr ⟨w.heap.size,_,_,rfl,a8,heap_alloc_new w.drew _,O,B,?_,?_⟩⟩
  · rw [y _ a3];simp only [Array.size_append,GF,kA,aD,d];omega
  rw [iR,CL];exact List.take_left' (by simp [d])
 have h:∀ (A:Option Addr) (c:Nat),v=.slice A n c->(Builtin.firstCells 1 n (.slice A n c)).run P w.drew=.ok xs.toArray w.drew->n<=c->c<n+m ->
  (Builtin.append_ #[t,tn] ty #[v,.int k m]).run P w=.ok (.slice (some ⟨w.heap.size,0,none⟩) (n+m) (grownCap w (n+m) c e)) (w.drew.alloc (.cells ((xs++List.replicate m z).toArray++Builtin.zeroCells z.cells (grownCap w (n+m) c e-(n+m))) e)):=by
  intro A c Y M D hc;have V:¬ (n+m<=c):=qO;have G:¬ (9223372036854775807<((n:Int)+(m:Int))):=qO;have H:¬ (281474976710656<Builtin.nextslicecap (n+m) c*i.bytes):=Nat.not_lt.2 (sS qO a6);subst Y;have E:m≠0:=qO;simp [Builtin.append_,sF ht,sF a1,sizeOf,typeInfo,zeroValue,hi,hz,a2,asInt,asIntOf,S,s,E,V,G,H,x,Question.forced,M,newRow,grownCap,y _ a3];congr 2;apply Array.ext';simp only [iR,Array.toList_replicate,vA,List.replicate_append_replicate]
 rcases a4.2 with ⟨rfl,rfl⟩ | ⟨g,a,p,rfl,R,T,D,B,Z,q⟩
 · have W:xs=[]:=CG qO;subst W;by_cases E:m=0
   · subst E;refine ⟨.slice none 0 0,w,?_,⟨iC w a0 e 1,eA _ _,.inl rfl⟩⟩;simp [Builtin.append_,sF ht,sF a1,sizeOf,typeInfo,hi,asInt,asIntOf,F]
   have I:=h none 0 rfl (by simpa using run_firstCells_none w.drew 1 0 0 0) (lA _) qO;exact ⟨_,_,I,⟨f 0,(eA _ w).drew.alloc _,.inr ⟨w.heap.size,rfl,lA _⟩⟩⟩
 by_cases l:n+m<=a
 · have L:n+(List.replicate m z).length<=p.size:=by rw [aD];omega
   have r:=run_storeCells_at P g n e (List.replicate m z) 0 p w T (by simpa using L) one;simp only [IF] at r;have I:(Builtin.append_ #[t,tn] ty #[.slice (some ⟨g,0,none⟩) n a,.int k m]).run P w=.ok (.slice (some ⟨g,0,none⟩) (n+m) a) (w.setRow g (p.toList.take n++List.replicate m z++p.toList.drop (n+(List.replicate m z).length)).toArray):=by
    by_cases E:m=0
    · subst E;simp only [QR] at r ⊢;simp [Builtin.append_,sF ht,sF a1,sizeOf,typeInfo,hi,a2,asInt,asIntOf,F,D,Addr.add_lit,r]
    simp [Builtin.append_,sF ht,sF a1,sizeOf,typeInfo,zeroValue,hi,hz,a2,asInt,asIntOf,S,s,E,l,x,Addr.add_lit,y _ a3,r]
   refine ⟨_,_,I,⟨⟨by simp [d],.inr ⟨g,a,_,rfl,R,setRow_heap w g p _ e _ T,l,B,?_,?_⟩⟩,⟨rfl,rfl,rfl,qS,fun b _ hb=>setRow_other w g b _ (fun e=>hb (by simp [Value.ownBlock,e]))⟩,.inl rfl⟩⟩
   · simp only [GF,kA,RB,QA,UF];omega
   rw [CL] at q ⊢;rw [q];exact List.take_left' (by simp [d])
 have C:∀ j u,xs[j]?=some u->w.drew.cell? ((⟨g,0,none⟩:Addr).add j)=some u:=a4.cells (g:=g) rfl;have I:=h (some ⟨g,0,none⟩) a rfl (run_firstCells_some w.drew 1 n ⟨g,0,none⟩ n a xs qO C) D qO;exact ⟨_,_,I,⟨f a,(eA _ w).drew.alloc _,.inr ⟨w.heap.size,rfl,lA _⟩⟩⟩
theorem Zvn (s x:Operand) (t tn:TypeId)
 (ho:o.op=.call { callee:=.builtin .append,args:=#[s,x],argTypes:=#[t,tn] })
 (l:Nat) (e:TypeId) (bytes:Nat) (z:Value) {kn:IntKind} (ht:P.underlying t=some (.slice e)) (p:P.underlying tn=some (.int kn)) (hi:(P.info? e).map (fun i=>(i.zero,i.size,i.bytes))=some (some z,1,bytes))
 (q:z.cells=#[z]) (r:z.oneCell'=true) (v:Value) (n:Nat) (xs:List Value) (hs:a.eval s=v) (u:w.ownsRow l e 1 v n xs) (k:IntKind) (m:Nat) (hx:a.eval x=.int k m)
 (y:n+m<=maxLen) (A:(n+m+1000)*bytes<=211106232532992) (B:l<=w.heap.size)
 (h:∀ v' w',Grew w l e 1 v (n+m) (xs++List.replicate m z) v' w'->K (a.put o.dst v') w'):o.wp P a w K Q:=by
 obtain ⟨i,b,d,f,c⟩:=info_parts hi;subst c;obtain ⟨v',w',g,j⟩:=Zlg (P:=P) w t tn o.type l e i z k kn ht p b d f q r v n xs u m y A B;exact Lib.wp_append_run w s x t tn ho _ _ hs hx v' w' g (h v' w' j)
theorem ZrQ {d:Array Oper} {E:Prop} (f:o.guard=none) (s x:Operand) (t tn:TypeId)
 (ho:o.op=.call { callee:=.builtin .append,args:=#[s,x],argTypes:=#[t,tn] })
 (c:Nat) (e:TypeId) (bytes:Nat) (z:Value) {kn:IntKind} (ht:P.underlying t=some (.slice e)) (g:P.underlying tn=some (.int kn)) (hi:(P.info? e).map (fun i=>(i.zero,i.size,i.bytes))=some (some z,1,bytes))
 (j:z.cells=#[z]) (l:z.oneCell'=true) (v:Value) (n:Nat) (xs:List Value) (hs:a.eval s=v) (p:w.ownsRow c e 1 v n xs) (k:IntKind) (m:Nat) (hx:a.eval x=.int k m)
 (q:n+m<=maxLen) (r:(n+m+1000)*bytes<=211106232532992) (u:c<=w.heap.size)
 (h:∀ v' w',Grew w c e 1 v (n+m) (xs++List.replicate m z) v' w'->K (a.put o.dst v') w'):
 if Region.wanted o (yielded d a.tmps)=true then Oper.wp P o a w K Q else E:=by
 have b:Region.wanted o (yielded d a.tmps)=true:=by simp [Region.wanted,f]
 rw [gA b];exact Zvn s x t tn ho c e bytes z ht g hi j l v n xs hs p k m hx q r u h
end
end
section
open Go.RowKit Go.Maps
theorem keyI:Keyed Tryz.prog 3:=int_keyed FH
theorem aF (w:World):(zeroValue 3).run Tryz.prog w=.ok (.int .i64 0) w:=qK
theorem wfI (h : -9223372036854775808<=x/\x<=9223372036854775807):(Lit.int .i64 x).wf=true:=by simp [Lit.wf,IntKind.min,IntKind.max,IntKind.signed,IntKind.bits];exact h
theorem ZtJ (h:(Lit.int .i64 x).wf=true): -9223372036854775808<=x/\x<=9223372036854775807:=by simp [Lit.wf,IntKind.min,IntKind.max,IntKind.signed,IntKind.bits] at h;exact h
def MapI (w:World) (b n:Nat) (f:Int->Int):Prop :=
 ∃ D:DataW Unit,w.ownsMap Tryz.prog 3 (plainElem Tryz.prog 3) b n D/\∀ x,D.atKey (.int .i64 x) (.lit (.int .i64 0))=.lit (.int .i64 (f x))
section
variable {w w':World} {b n:Nat} {f:Int->Int}
theorem MapI.made (w:World):MapI (w.alloc (.map #[] 0)) w.heap.size 0 fun _=>0:=⟨_,ER w _ _ _,fun _=>rfl⟩
theorem MapI.upd (h:MapI w b n f) (hu:Upd S w w') (hs:¬ S b):MapI w' b n f:=by obtain ⟨D,c,e⟩:=h;have d:=c.lt;obtain ⟨g,a,i,j⟩:=c;exact ⟨D,⟨g,a,(hu.block b d hs).trans i,j⟩,e⟩
theorem MapI.same (h:MapI w b n f) (hu:Same w w'):MapI w' b n f:=h.upd hu fun f=>f
theorem MapI.fit (h:MapI w b n f) (hx : -9223372036854775808<=x/\x<=9223372036854775807):(Instr.lookup 71 (.map (some b)) (.int .i64 x) false).run Tryz.prog w=.ok (.int .i64 (f x)) w /\ -9223372036854775808<=f x/\f x<=9223372036854775807:=by
 obtain ⟨D,e,g⟩:=h;obtain ⟨c,d,a,i⟩:=e.lookup_int keyI RR FH (aF w) (keyOf_int_mk FH (wfI hx));rw [g] at a;injection a with a
 injection a with _ a
 subst a;exact ⟨d,ZtJ i⟩
theorem MapI.put (h:MapI w b n f) (hn:n<maxLen) {v:Int} (hx : -9223372036854775808<=x/\x<=9223372036854775807) (hv : -9223372036854775808<=v/\v<=9223372036854775807):
 ∃ w',(Instr.mapUpdate 71 (.map (some b)) (.int .i64 x) (.int .i64 v)).run Tryz.prog w=.ok () w'/\MapI w' b (n+1) (fun y=>if y=x then v else f y)/\Upd (fun k=>k=b) w w':=by
 obtain ⟨D,e,g⟩:=h;obtain ⟨w',a,i,j⟩:=e.update keyI RR hn (keyOf_int_mk FH (wfI hx)) (plainElem_int FH (wfI hv));refine ⟨w',a,⟨_,i,fun y=>?_⟩,(eA _ w).grown j fun k d=>.inl (by injection d with d;exact d.symm)⟩;show _=DataW.lit (Lit.int .i64 (if y=x then v else f y));by_cases c:y=x
 · subst c;rw [atKey_put_same e.isMap (by simp [WideAt.IsKeyLit]),gA rfl]
 rw [atKey_put_other (by intro h;injection h with _ h;exact c h),aA c];exact g y
end
theorem dQ {P:Program} {d:Array Oper} {rest:List Oper} 
 (hg:o.guard=none) (m x v:Operand) (t:TypeId) (e:o.op=Op.mapUpdate t m x v) {mv xv vv:Value} (hm:a.eval m=mv) (hx:a.eval x=xv) (hv:a.eval v=vv)
 (f:(Instr.mapUpdate t mv xv vv).run P w=.ok () w') (hK:wpList P d Q rest (a.put o.dst undef) w'):wpList P d Q (o::rest) a w:=by
 refine wpList_plain hg fun c b=>?_;unfold Oper.wp;simp [execOp,e,hm,hx,hv,f,Result.andThen];exact b _ _ hK
end
section
open Go.RowKit
def leB (a b:ByteArray):Bool:=Op.bytesLess a.toList b.toList || a.toList==b.toList
def qG (k:ByteArray):Option ByteArray->Bool
 | none=>false
 | some q=>leB k q
def LG:Option ByteArray->List GPr->Int
 | _,[]=>0
 | prev,p::l=>if VB p.key=false then 60 else if qG p.key prev=true then 6 else if chk p.val≠0 then chk p.val else LG (some p.key) l
def IE (l:List GPr):Int:=if 16<l.length then 64 else LG none l
def fH:Option ByteArray->List ByteArray->Int
 | _,[]=>0
 | prev,p::l=>if VB p=false then 60 else if qG p prev=true then 6 else fH (some p) l
def mF (l:List ByteArray):Int:=if 8<l.length then 63 else fH none l
def EC {α β:Type} (f:α->β) (l:List α):Nat->Option β
 | 0=>none
 | j+1=>(l[j]?).map f
def eM (ps:List PR):Prop:=∀ x∈ps,x.g.text.size<=9223372036854775807/\∀ s∈x.g.texts,s.size<=9223372036854775807
theorem fM {α:Type} {l:List α} {x:α} (h:l[i]?=some x):l.drop i=x::l.drop (i+1):=by obtain ⟨a,rfl⟩:=IA.1 h;exact kE a
theorem Zij {ls:List ByteArray} (w:World) (h:WRow w F 1 A n c (ls.map Value.string)) (hE:mF ls=E):
 Calls Tryz.prog 81 #[.slice A n c] w fun e w'=>e=.returned (.int .i64 E)/\Same w w':=by
 have z:ls.length=n:=by have:=h.len;simpa using this
 have B:=h.max;have V:=h.le;unfold maxLen at B;have P:=qH h;unfold mF at hE;rw [z] at hE;have R:=qH z;by_cases S:8<n
 · rw [gA S] at hE;subst hE;go_enter Tryz.func81,Tryz.ntmps81;go_wp2;go_ret;exact ⟨rfl,eA _ _⟩
 rw [aA S] at hE;have T:=qH hE;have W:¬ (8:Int)<n:=qO;clear h z hE;go_enter Tryz.func81,Tryz.ntmps81;go_wp2_with fail;go_loopg [10] n (fun gh ix wr=>∃ i:Nat,n-i=gh/\i<=n/\ix=.int .i64 i/\wr=w/\Hid (fH (EC id ls i) (ls.drop i)=E))
 case atStart=>exact ⟨0,rfl,oA _,rfl,rfl,qH (by rw [TF];exact T)⟩
 obtain ⟨i,rfl,hi,rfl,rfl,I⟩:=hrel;by_cases C:i<n
 · obtain ⟨b,o,u,rfl,hb,_,g,hc⟩:=P.at_ C;rw [MA] at g;cases hx:ls[i]? with
   | none=>rw [hx] at g;cases g
   | some x =>
     rw [hx] at g;injection g with g
     subst g;have a:=I.out;rw [fM hx] at a;simp only [fH] at a;cases hg:VB x with
     | false =>
       rw [hg,gA rfl] at a;have m:=qH a;have p:=qH hg;clear a hg hx;go_wp2_with fail;refine (fJ x _).mono ?_;rintro e L ⟨rfl,rfl⟩;rw [p.out];go_wp2;go_ret;exact ⟨by rw [<- m.out];rfl,eA _ _⟩
     | true =>
       rw [hg,aA qS] at a;have p:=qH hg;obtain ⟨r,M⟩:=qx (qG x (EC id ls i));rw [M] at a;have m:=qH a;have U:=qH hx;have q:=qH M;have s:r=true->(6:Int)=E:=fun h=>by have:=m.out;rw [gA h] at this;exact this
       have t:r=false->fH (some x) (ls.drop (i+1))=E:=fun h=>by have:=m.out;rw [aA (by rw [h];simp)] at this;exact this
       have D:=qH s;have v:=qH t;clear a hg hx M s t m;cases i with
       | zero =>
         obtain rfl:r=false:=q.symm;rw [IF] at hc;go_wp2_with fail;refine (fJ x _).mono ?_;rintro e L ⟨rfl,rfl⟩;rw [p.out];go_wp2;go_roundg (n-1)
         case measure=>omega
         case rel=>exact ⟨1,rfl,qO,qN,rfl,qH (by have l:=v.out (by trivial);simp only [EC,U.out];exact l)⟩
       | succ j =>
         have f:j<ls.length:=by rw [R.out];omega
         obtain ⟨b2,o2,u2,k,_,_,d,N⟩:=P.at_ (i:=j) qO;injection k with k
         injection k with e1 e2 _
         subst e1 e2;rw [MA,FA f] at d;injection d with d
         subst d;obtain ⟨y,O⟩:=qx (ls[j]);rw [O] at N;have X:=qH (show qG x (some y)=r from by rw [<- q.out];simp only [EC];rw [FA f,O];rfl);have Y:(Op.bytesLess x.toList y.toList || x.toList==y.toList)=r:=X.out;clear O f;cases r with
         | true =>
           have G:=D.out rfl;subst G;go_wp2_with fail;refine (fJ x _).mono ?_;rintro e L ⟨rfl,rfl⟩;rw [p.out];go_wp2;go_ret;exact ⟨rfl,eA _ _⟩
         | false =>
           go_wp2_with fail;refine (fJ x _).mono ?_;rintro e L ⟨rfl,rfl⟩;rw [p.out];go_wp2;go_roundg (n-(j+1+1))
           case measure=>omega
           case rel=>exact ⟨j+1+1,rfl,qO,qN,rfl,qH (by have l:=v.out (by trivial);simp only [EC,U.out];exact l)⟩
 have Z:i=n:=qO;have H:E=0:=by have l:=I.out;rw [BC (by rw [R.out];omega)] at l;simpa [fH] using l.symm
 subst H;clear I T;go_wp2;go_ret;exact ⟨rfl,eA _ _⟩
theorem AW {ps:List PR} (w:World) (h:RdPs w F A n c ps) (hf:eM ps) (hE:IE (ps.map PR.dat)=E):
 Calls Tryz.prog 82 #[.slice A n c] w fun e w'=>e=.returned (.int .i64 E)/\Same w w':=by
 have hl:=h.len;have a0:=h.row.max;have ah:=h.row.le;unfold maxLen at a0;have HR:=qH h;have HF:=qH hf;unfold IE at hE;rw [nA,hl] at hE;have HL:=qH hl;by_cases M:16<n
 · rw [gA M] at hE;subst hE;go_enter Tryz.func82,Tryz.ntmps82;go_wp2;go_ret;exact ⟨rfl,eA _ _⟩
 rw [aA M] at hE;have HE:=qH hE;have ag:¬ (16:Int)<n:=qO;clear h hf hl hE;go_enter Tryz.func82,Tryz.ntmps82;go_wp2_with fail;go_loopg [11] n (fun gh ix wr=>∃ i:Nat,n-i=gh/\i<=n/\ix=.int .i64 i/\Hid (Same w wr)/\Hid (LG (EC PR.key ps i) ((ps.map PR.dat).drop i)=E))
 case atStart=>exact ⟨0,rfl,oA _,rfl,qH (eA _ _),qH (by rw [TF];exact HE)⟩
 obtain ⟨i,rfl,hi,rfl,KS,KE⟩:=hrel;by_cases a3:i<n
 · have l:=qH (HR.same KS);obtain ⟨b,o,x,rfl,hb,_,hx,k,r0,r1,r2,r3,r4,r5⟩:=l.at_ a3;have a:=KE.out;have v:(ps.map PR.dat)[i]?=some x.dat:=by rw [MA,hx];rfl
   rw [fM v] at a;simp only [LG] at a;have HV:=qH ((l.val x k));have a4:=qH (HF.out x k).1;have a5:=qH (HF.out x k).2;have a6:=qH (show EC PR.key ps (i+1)=some x.key from by simp only [EC,hx];rfl);obtain ⟨f,⟨q,s,t,V,W⟩,X1,a1,b1,X2,a2,X⟩:=x;simp only at r0 r1 r2 r3 r4 r5;replace a:(if VB f=false then 60 else if qG f (EC PR.key ps i)=true then 6 else if chk ⟨q,s,t,V,W⟩≠0 then chk ⟨q,s,t,V,W⟩ else LG (some f) ((ps.map PR.dat).drop (i+1)))=E:=a;have z:=(iA wr).alloc (.cells #[.string f,.int .i64 q,.int .i64 s,.string t,.slice X1 a1 b1,.slice X2 a2 X] 53);have N:=jA wr 53 #[.string f,.int .i64 q,.int .i64 s,.string t,.slice X1 a1 b1,.slice X2 a2 X];have O:=qH (HV.same z);have B:=qH (KS.same z);have D:=qH N;clear z N;cases hg:VB f with
   | false =>
     rw [hg,gA rfl] at a;have Z:=qH a;have HG:=qH hg;clear a hg hx v k;go_wp2_with fail;refine (fJ f _).mono ?_;rintro e w2 ⟨rfl,rfl⟩;rw [HG.out];go_wp2;go_ret;exact ⟨by rw [<- Z.out];rfl,B⟩
   | true =>
     rw [hg,aA qS] at a;have HG:=qH hg;obtain ⟨r,hr⟩:=qx (qG f (EC PR.key ps i));rw [hr] at a;have a7:=qH (show r=true->(6:Int)=E from fun h=>by rw [gA h] at a;exact a);have a8:=qH (show r=false->(if chk ⟨q,s,t,V,W⟩≠0 then chk ⟨q,s,t,V,W⟩ else LG (some f) (List.drop (i+1) (ps.map PR.dat)))=E from fun h=>by rw [aA (by rw [h];simp)] at a;exact a);have P:=qH hr;clear a hg hr hx v k;go_wp2_with fail;refine (fJ f _).mono ?_;rintro e w2 ⟨rfl,rfl⟩;rw [HG.out];go_upto_region 8 with fail;have R:=qH (l.same ((iA wr).alloc (.cells #[.string f,.int .i64 q,.int .i64 s,.string t,.slice X1 a1 b1,.slice X2 a2 X] 53)));clear r0 r1 r2 r3 r4 r5 KS KE l;generalize wr.alloc (.cells #[.string f,.int .i64 q,.int .i64 s,.string t,.slice X1 a1 b1,.slice X2 a2 X] 53)=U at *;generalize wr.heap.size=g5 at *;have p0:=D.c0;go_cut [32] from 20 to 32 (fun af wx=>af=.bool r/\∃ d,wx=U.drewN d)
     case first =>
      by_cases G:i=0
      · have a9:¬ (0:Int)<i:=qO;have u:¬ 0<i:=qO;have ai:decide (0<i)=false:=LB u;have aa:r=false:=by rw [<- P.out,G];rfl
        subst aa;clear G;go_quiet (fail);go_wp2;go_meet
        case rel=>exact ⟨rfl,_,rfl⟩
      obtain ⟨j,hj⟩:∃ j,i=j+1:=⟨i-1,qO⟩
      have a9:(0:Int)<i:=qO;have u:0<i:=qO;have ab:j<n:=qO;have aj:IntKind.i64.wrap ((i:Int)-1)=(j:Int):=by rw [rF];omega
      obtain ⟨X,o2,y,I,_,_,hy,_,q0,_⟩:=R.at_ ab;injection I with I
      injection I with e1 e2 _
      subst e1 e2;obtain ⟨ky,L⟩:=qx y.key;rw [L] at q0;have ak:(Op.bytesLess f.toList ky.toList || f.toList==ky.toList)=r:=by rw [<- P.out,hj];simp only [EC];rw [hy];simp only [VC,L];rfl
      clear hy L hj G;go_quiet (fail);go_wp2;go_meet
      case rel=>exact ⟨rfl,_,rfl⟩
     obtain ⟨rfl,d,rfl⟩:=hcut;have m:Same U (U.drewN d):=(eA _ U).drewN d;have H:=qH (B.same m);have g:=qH (D.same m);have S:=qH (O.same m);clear m p0 B D O R;generalize U.drewN d=w6 at *;cases r with
     | true =>
       have ac:=a7.out rfl;subst ac;go_wp2;go_ret;exact ⟨rfl,H⟩
     | false =>
       have p:=a8.out rfl;have p1:=g.c1;have p2:=g.c2;have p3:=g.c3;have p4:=g.c4;have p5:=g.c5;have Z:=qH p;clear p g;go_wp2_with fail;refine (yS _ S a4 a5).mono ?_;rintro e w7 ⟨rfl,Y⟩;have T:=qH (H.same Y);clear Y p1 p2 p3 p4 p5 H S;obtain ⟨C,hC⟩:=qx (chk ⟨q,s,t,V,W⟩);have p:=Z.out;rw [hC] at p ⊢;by_cases hz:C=0
       · subst hz;rw [aA qS] at p;have ad:=qH p;clear p Z hC;go_wp2;go_roundg (n-(i+1))
         case measure=>omega
         case rel=>exact ⟨i+1,rfl,qO,qN,T,qH (by rw [a6.out];exact ad)⟩
       rw [gA hz] at p;subst p;have al:(C != 0)=true:=by rw [qC];exact hz
       go_wp2;go_ret;exact ⟨rfl,T⟩
 have am:i=n:=qO;have ae:E=0:=by have h1:=KE.out;rw [BC (by rw [nA,HL.out];omega)] at h1;simpa [LG] using h1.symm
 subst ae;clear KE HE;go_wp2;go_ret;exact ⟨rfl,KS⟩
def bF (k:Int):Option Int->Bool
 | none=>false
 | some q=>decide (k<=q)
def MG (prev:Option Int) (g:NA):Int:=if g.id<0\/1024<=g.id then 61 else if bF g.id prev=true then 6 else if mF g.labels≠0 then mF g.labels else IE g.props
def aG (there:Int->Bool) (prev:Option Int) (g:GRel):Int :=
 if g.id<0\/2048<=g.id then 62 else if bF g.id prev=true then 6 else if VB g.type=false then 60 else if there g.src=false\/there g.dst=false then 65 else IE g.props
theorem BW {ns:List ND} (w:World) (h:RdNs w F A n c ns) (hf:∀ x∈ns,eM x.props) (hi:i<n) {x:ND} (hx:ns[i]?=some x) (hE:MG (EC ND.id ns i) x.dat=E):
 Calls Tryz.prog 37 #[.slice A n c,.int .i64 i] w fun e w'=>e=.returned (.int .i64 E)/\Same w w':=by
 have V:=h.row.max;have a7:=h.row.le;unfold maxLen at V;obtain ⟨b,o,x',rfl,hb,_,T,q,r0,r1,r2⟩:=h.at_ hi;obtain rfl:x=x':=eB (hx.symm.trans T);have HR:=qH h;have t:=qH (h.lab x q);have u:=qH (h.pro x q);have HF:=qH (hf x q);obtain ⟨id,a,AL,nL,cL,props,AP,nP,cP⟩:=x;simp only at r0 r1 r2;replace hE:(if id<0\/1024<=id then 61 else if bF id (EC ND.id ns i)=true then 6 else if mF a≠0 then mF a else IE (props.map PR.dat))=E:=hE;have W:=qH hE;have z:=(iA w).alloc (.cells #[.int .i64 id,.slice AL nL cL,.slice AP nP cP] 56);have L:=jA w 56 #[.int .i64 id,.slice AL nL cL,.slice AP nP cP];have f:=qH z;have B:=qH L;have M:=qH (h.same z);clear h hf hx T q hE z L;go_enter Tryz.func37,Tryz.ntmps37;by_cases hid:id<0\/1024<=id
 · have hE:=(gA hid).symm.trans W;subst hE;by_cases h0:id<0
   · go_wp2;go_ret;exact ⟨rfl,f⟩
   have h1:1024<=id:=qO;go_wp2;go_ret;exact ⟨rfl,f⟩
 have h0:¬ id<0:=qO;have h1:¬ 1024<=id:=qO;have p:=qH ((aA hid).symm.trans W);clear hid W;go_upto_region 4 with fail;obtain ⟨r,hr⟩:=qx (bF id (EC ND.id ns i));have D:=qH hr;have g:=qH (t.same f);have k:=qH (u.same f);clear hr r0 r1 r2 HR t u;generalize w.alloc (.cells #[.int .i64 id,.slice AL nL cL,.slice AP nP cP] 56)=S at *;generalize w.heap.size=g5 at *;have p0:=B.c0;go_cut [20] from 20 to 33 (fun a6 wx=>a6=.bool r/\∃ d,wx=S.drewN d)
 case first =>
  by_cases G:i=0
  · have X:¬ (0:Int)<i:=qO;have v:¬ 0<i:=qO;have a8:decide (0<i)=false:=LB v;have Y:r=false:=by rw [<- D.out,G];rfl
    subst Y;clear G;go_quiet (fail);go_wp2;go_meet
    case rel=>exact ⟨rfl,_,rfl⟩
  obtain ⟨j,hj⟩:∃ j,i=j+1:=⟨i-1,qO⟩
  have X:(0:Int)<i:=qO;have v:0<i:=qO;have Z:j<n:=qO;have a9:IntKind.i64.wrap ((i:Int)-1)=(j:Int):=by rw [rF];omega
  obtain ⟨b2,o2,y,H,_,_,hy,_,q0,_⟩:=M.at_ Z;injection H with H
  injection H with e1 e2 _
  subst e1 e2;obtain ⟨iy,I⟩:=qx y.id;rw [I] at q0;have a0:decide (id<=iy)=r:=by rw [<- D.out,hj];simp only [EC];rw [hy];simp only [VC,I];rfl
  clear hy I hj G;go_quiet (fail);go_wp2;go_meet
  case rel=>exact ⟨by first | rfl | rw [a0],_,rfl⟩
 obtain ⟨rfl,d,rfl⟩:=hcut;have l:Same S (S.drewN d):=(eA _ S).drewN d;have N:=qH (f.same l);have O:=qH (B.same l);have a1:=qH (g.same l);have a2:=qH (k.same l);clear l p0 f B M g k;generalize S.drewN d=w6 at *;rw [D.out] at p;cases r with
 | true =>
   have a3:(6:Int)=E:=(gA (by trivial)).symm.trans p.out;subst a3;go_wp2;go_ret;exact ⟨rfl,N⟩
 | false =>
   have P:=qH ((aA qS).symm.trans p.out);obtain ⟨C,hC⟩:=qx (mF a);have m:=P.out;rw [hC] at m;have p1:=O.c1;go_wp2_with fail;refine (Zij _ a1 hC).mono ?_;rintro e w7 ⟨rfl,s⟩;have R:=qH (N.same s);have a4:=qH (a2.same s);have p2:=(O.same s).c2;clear p1 s p P;by_cases hz:C=0
   · subst hz;rw [aA qS] at m;go_wp2_with fail;refine (AW _ a4 HF m).mono ?_;rintro e w8 ⟨rfl,U⟩;have a5:=qH (R.same U);clear U;go_wp2;go_ret;exact ⟨rfl,a5⟩
   rw [gA hz] at m;subst m;have aa:(C != 0)=true:=by rw [qC];exact hz
   go_wp2;go_ret;exact ⟨rfl,R⟩
theorem DW {rs:List RL} (w:World) (h:RdRs w F A n c rs) (hf:∀ x∈rs,eM x.props) {m:Nat} {f:Int->Int} (hm:MapI w m k f) (hi:i<n) {x:RL} (hx:rs[i]?=some x) (hE:aG (fun y=>f y != 0) (EC RL.id rs i) x.dat=E):
 Calls Tryz.prog 38 #[.slice A n c,.int .i64 i,.map (some m)] w fun e w'=>e=.returned (.int .i64 E)/\Same w w':=by
 have a2:=h.row.max;have ae:=h.row.le;unfold maxLen at a2;obtain ⟨b,o,x',rfl,hb,_,a0,C,r0,r1,r2,r3,r4⟩:=h.at_ hi;obtain rfl:x=x':=eB (hx.symm.trans a0);have HR:=qH h;have D:=qH (h.pro x C);have HF:=qH (hf x C);have T:=qH (h.id x C);obtain ⟨id,a,u,dst,props,AP,nP,cP⟩:=x;simp only at r0 r1 r2 r3 r4;replace hE:(if id<0\/2048<=id then 62 else if bF id (EC RL.id rs i)=true then 6 else if VB a=false then 60 else if (f u != 0)=false\/(f dst != 0)=false then 65 else IE (props.map PR.dat))=E:=hE;have HE:=qH hE;have v:=(iA w).alloc (.cells #[.int .i64 id,.string a,.int .i64 u,.int .i64 dst,.slice AP nP cP] 60);have U:=jA w 60 #[.int .i64 id,.string a,.int .i64 u,.int .i64 dst,.slice AP nP cP];have l:=qH v;have H:=qH U;have V:=qH (h.same v);have W:=qH (hm.same v);clear h hf hx a0 C hE v U hm;go_enter Tryz.func38,Tryz.ntmps38;by_cases hid:id<0\/2048<=id
 · have hE:=(gA hid).symm.trans HE;subst hE;by_cases h0:id<0
   · go_wp2;go_ret;exact ⟨rfl,l⟩
   have h1:2048<=id:=qO;go_wp2;go_ret;exact ⟨rfl,l⟩
 have h0:¬ id<0:=qO;have h1:¬ 2048<=id:=qO;have z:=qH ((aA hid).symm.trans HE);clear hid HE;go_upto_region 4 with fail;obtain ⟨r,hr⟩:=qx (bF id (EC RL.id rs i));have I:=qH hr;have p:=qH (D.same l);clear hr r0 r1 r2 r3 r4 HR D;generalize w.alloc (.cells #[.int .i64 id,.string a,.int .i64 u,.int .i64 dst,.slice AP nP cP] 60)=Z at *;generalize w.heap.size=g5 at *;have p0:=H.c0;go_cut [21] from 21 to 34 (fun ab wx=>ab=.bool r/\∃ d,wx=Z.drewN d)
 case first =>
  by_cases L:i=0
  · have a3:¬ (0:Int)<i:=qO;have G:¬ 0<i:=qO;have af:decide (0<i)=false:=LB G;have a4:r=false:=by rw [<- I.out,L];rfl
    subst a4;clear L;go_quiet (fail);go_wp2;go_meet
    case rel=>exact ⟨rfl,_,rfl⟩
  obtain ⟨j,hj⟩:∃ j,i=j+1:=⟨i-1,qO⟩
  have a3:(0:Int)<i:=qO;have G:0<i:=qO;have a5:j<n:=qO;have ag:IntKind.i64.wrap ((i:Int)-1)=(j:Int):=by rw [rF];omega
  obtain ⟨b2,o2,y,O,_,_,hy,_,q0,_⟩:=V.at_ a5;injection O with O
  injection O with e1 e2 _
  subst e1 e2;obtain ⟨iy,P⟩:=qx y.id;rw [P] at q0;have a6:decide (id<=iy)=r:=by rw [<- I.out,hj];simp only [EC];rw [hy];simp only [VC,P];rfl
  clear hy P hj L;go_quiet (fail);go_wp2;go_meet
  case rel=>exact ⟨by first | rfl | rw [a6],_,rfl⟩
 obtain ⟨rfl,d,rfl⟩:=hcut;have q:Same Z (Z.drewN d):=(eA _ Z).drewN d;have s:=qH (l.same q);have B:=qH (H.same q);have M:=qH (W.same q);have a7:=qH (p.same q);clear q p0 l H V W p;generalize Z.drewN d=w6 at *;rw [I.out] at z;cases r with
 | true =>
   have a8:(6:Int)=E:=(gA (by trivial)).symm.trans z.out;subst a8;go_wp2;go_ret;exact ⟨rfl,s⟩
 | false =>
   have N:=qH ((aA qS).symm.trans z.out);have p1:=B.c1;go_wp2_with fail;refine (fJ a _).mono ?_;rintro e w7 ⟨rfl,rfl⟩;clear p1 z;cases hg:VB a with
   | false =>
     have X:(60:Int)=E:=(gA hg).symm.trans N.out;subst X;go_wp2;go_ret;exact ⟨rfl,s⟩
   | true =>
     have Y:=qH ((aA (by rw [hg];simp)).symm.trans N.out);obtain ⟨ac,-,-⟩:=M.fit T.2.1;obtain ⟨ad,-,-⟩:=M.fit T.2.2;have p2:=B.c2;have p3:=B.c3;have p4:=B.c4;obtain ⟨fs,R⟩:∃ y,f u=y:=⟨_,rfl⟩
     obtain ⟨fd,S⟩:∃ y,f dst=y:=⟨_,rfl⟩
     rw [R] at ac;rw [S] at ad;have t:=Y.out;rw [R,S] at t;clear hg N Y M R S;by_cases g:(fs != 0)=false\/(fd != 0)=false
     · rw [gA g] at t;subst t;by_cases z1:fs=0
       · subst z1;go_wp2;go_ret;exact ⟨rfl,s⟩
       have z2:fd=0:=by
        rcases g with h | h
        · exact absurd h (by simpa using z1)
        simpa using h
       subst z2;have a9:(fs==0)=false:=by rw [WC];exact z1
       go_wp2;go_ret;exact ⟨rfl,s⟩
     rw [aA g] at t;have a9:(fs==0)=false:=by
      cases h:(fs==0) with
      | false=>rfl
      | true=>exact absurd (Or.inl (by simp only [bne,h];rfl)) g
     have ah:(fd==0)=false:=by
      cases h:(fd==0) with
      | false=>rfl
      | true=>exact absurd (Or.inr (by simp only [bne,h];rfl)) g
     clear g;go_wp2_with fail;refine (AW _ a7 HF t).mono ?_;rintro e w8 ⟨rfl,a1⟩;have aa:=qH (s.same a1);clear a1;go_wp2;go_ret;exact ⟨rfl,aa⟩
def nE:Option Int->Nat->List NA->Option (Int×Nat)
 | _,_,[]=>none
 | prev,i,x::l=>if MG prev x≠0 then some (MG prev x,i) else nE (some x.id) (i+1) l
def JE (there:Int->Bool):Option Int->Nat->List GRel->Option (Int×Nat)
 | _,_,[]=>none
 | prev,i,x::l=>if aG there prev x≠0 then some (aG there prev x,i) else JE there (some x.id) (i+1) l
def QH (g:WB) (y:Int):Bool:=decide (y∈g.nodes.map NA.id)
structure GFit (g:GR):Prop where
 nodes:∀ x∈g.ns,eM x.props
 rels:∀ x∈g.rs,eM x.props
 nN:g.nN<=140737488351232
 nR:g.nR<=140737488351232
def oE (g:WB):Option (Int×Nat) :=
 match nE none 0 g.nodes with
 | some e=>some e
 | none=>(JE (QH g) none 0 g.rels).map fun e=>(e.1,g.nodes.length+e.2)
theorem EW {l:List Int} (h:l[i]?=some x) (y:Int):(l.take (i+1)).count y=(l.take i).count y+(if y=x then 1 else 0):=by
 rw [eD,h,wL,EL];congr 1;by_cases a:y=x
 · subst a;simp
 rw [aA a,SR];simpa using fun h=>a h
theorem ZnX (w:World) (g:GR) (h:RdG w F g) (hf:GFit g) {e:Int} (hE:oE g.dat=some (e,i)):
 Calls Tryz.prog 16 #[g.agg] w fun x w'=>x=.returned (.tuple #[.int .i64 e,.int .i64 i])/\Same w w':=by
 obtain ⟨p,AN,u,cN,D,AR,z,cR⟩:=g;have HE:=qH hE;have a1:=h.nodes.row.max;have aw:=h.nodes.row.le;have E:=h.rels.row.max;have a2:=h.rels.row.le;unfold maxLen at a1 E;have ax:=hf.nN;have ay:=hf.nR;have HL:=qH h.nodes.len;have I:=qH h.rels.len;simp only at a1 aw E a2 ax ay HL I;have a3:=(iA w).alloc (.cells #[.slice AN u cN,.slice AR z cR] 26);have a4:=qH (jA w 26 #[.slice AN u cN,.slice AR z cR]);have L:=MapI.made (w.alloc (.cells #[.slice AN u cN,.slice AR z cR] 26));have M:=a3.alloc (.map #[] 0);have a5:=qH (a4.alloc (.map #[] 0));rw [aB] at L;have az:=qH L;have b0:=qH ((h.mono (F':=fun b=>b<w.heap.size) fun b hb _=>hb).same M);have b1:=qH M;have HF:=qH hf;have b2:=@YG Tryz.prog;clear h hf hE a3 M L a4;go_enter Tryz.func16,Tryz.ntmps16;go_upto_region 2 with fail;clear b2;generalize (w.alloc (.cells #[.slice AN u cN,.slice AR z cR] 26)).alloc (.map #[] 0)=w1 at *;have p0:=a5.c0;go_wp2_with fail;clear p0;go_loopg [15] u (fun gh ix wr=>∃ (i:Nat) (f:Int->Int),u-i=gh/\i<=u/\ix=.int .i64 i/\Hid (MapI wr (w.heap.size+1) i f)/\Hid (∀ y,f y=(((p.map ND.id).take i).count y:Nat))/\Hid (Upd (fun k=>k=w.heap.size+1) w1 wr)/\Hid (nE none 0 (p.map ND.dat)=nE (EC ND.id p i) i ((p.map ND.dat).drop i)))
 case atStart=>exact ⟨0,_,rfl,oA _,rfl,az,qH qS,qH (eA _ _),qH rfl⟩
 obtain ⟨i,f,rfl,hi,rfl,KM,KF,KU,KE⟩:=hrel;have N:Same w wr:=b1.trans KU.out fun b hb hh=>qO;have O:=qH N;have s:=qH (b0.upd KU fun b hb hh=>qO);have P:=qH (a5.upd KU qO);have bg:=N.size;clear N;by_cases q:i<u
 · obtain ⟨b,o,x,hA,hb,_,A,ak,r0,r1,r2⟩:=s.nodes.at_ q;simp only at hA;subst hA;have d:=KE.out;have t:(p.map ND.dat)[i]?=some x.dat:=by rw [MA,A];rfl
   rw [fM t] at d;simp only [nE] at d;have R:=qH (s.nodes.id x ak);have HX:=qH A;have a6:=qH (EW (l:=p.map ND.id) (i:=i) (x:=x.id) (by rw [MA,A];rfl));have S:=qH (show EC ND.id p (i+1)=some x.dat.id from by simp only [EC,A];rfl);obtain ⟨C,X⟩:=qx (MG (EC ND.id p i) x.dat);have HC:=qH X;rw [X] at d;have HK:=qH d;obtain ⟨id,hid⟩:=qx x.id;obtain ⟨AL,nL,cL,hL⟩:∃ a b c,x.AL=a/\x.nL=b/\x.cL=c:=⟨_,_,_,rfl,rfl,rfl⟩
   obtain ⟨AP,nP,cP,hP⟩:∃ a b c,x.AP=a/\x.nP=b/\x.cP=c:=⟨_,_,_,rfl,rfl,rfl⟩
   obtain ⟨al,am,an⟩:=hL;obtain ⟨ao,ap,aq⟩:=hP;rw [hid] at r0 R a6;rw [al,am,an] at r1;rw [ao,ap,aq] at r2;have r:=(iA wr).alloc (.cells #[.int .i64 id,.slice AL nL cL,.slice AP nP cP] 56);have a7:=qH (jA wr 56 #[.int .i64 id,.slice AL nL cL,.slice AP nP cP]);have a8:=qH (s.same r);have a9:=qH (KM.same r);have aa:=qH (KU.same r);have ab:=qH (O.same r);have p0:=(P.same r).c0;clear r A ak t d X al am an ao ap aq s O KM KU;go_wp2_with fail;refine (BW _ a8.nodes HF.nodes q HX HC).mono ?_;rintro y w7 ⟨rfl,n⟩;have T:=qH (ab.same n);have ac:=qH (a9.same n);have b3:=qH (aa.same n);have q0:=(a7.same n).c0;clear n p0 r0 r1 r2 ab a9 aa a8 a7;by_cases B:C=0
   · subst B;have U:=qH ((aA qS).symm.trans HK.symm);obtain ⟨lk,l1,l2⟩:=ac.fit R.out;have ad:=KF.out id;have b4:((p.map ND.id).take i).count id<=i:=tA XO (by rw [RB];omega);obtain ⟨fv,Y⟩:∃ v,f id=v:=⟨_,rfl⟩
     rw [Y] at lk ad;obtain ⟨Z,H⟩:∃ v,fv+1=v:=⟨_,rfl⟩
     have bh:IntKind.i64.wrap (fv+1)=Z:=by rw [rF];omega
     obtain ⟨w8,ar,au,av⟩:=ac.put (v:=Z) qM R.out qO;have b5:=qH au;have b6:=qH (b3.trans av qf);have b7:=qH (show f id+1=Z from by rw [Y,H]);clear au av ad Y H b4;go_wp2_with (at_mapUpdate;go_must (refine dQ rfl _ _ _ _ rfl rfl rfl rfl ar ?_));go_roundg (u-(i+1))
     case measure=>omega
     refine ⟨i+1,_,rfl,qO,qN,b5,qH fun y=>?_,b6,qH ?_⟩
     · rw [a6.out y];by_cases hy:y=id
       · subst hy;rw [gA rfl,gA rfl,<-b7.out,KF.out];simp
       rw [aA hy,aA hy,KF.out];simp
     rw [S.out];exact U.symm
   have G:=(gA B).symm.trans HK.symm;have b8:(C != 0)=true:=by rw [qC];exact B
   have m:=HE.out;unfold oE at m;simp only [GR.dat] at m;rw [<- G] at m;injection m with m
   injection m with h1 h2
   subst h1 h2;go_wp2
   go_ret2
   exact ⟨rfl,T⟩
 have b9:i=u:=qO;subst b9;have d:=KE.out;rw [BC (by rw [nA,HL.out];omega)] at d;simp only [nE] at d;have m:=HE.out;unfold oE at m;simp only [GR.dat] at m;rw [d] at m;obtain ⟨⟨e1,i1⟩,a0,bf⟩:=GH.1 m;injection bf with h1 h2
 simp only at h1 h2;subst h1;rw [nA,HL.out] at h2;have V:QH (GR.dat ⟨p,AN,i,cN,D,AR,z,cR⟩)=fun y=>f y != 0:=by
  funext y;have hf:=KF.out y;rw [cB (by rw [nA,HL.out];omega)] at hf;unfold QH;simp only [GR.dat,MC];have W:(p.map (NA.id ∘ ND.dat))=p.map ND.id:=kG fun _ _=>rfl;rw [W];by_cases hm:y∈p.map ND.id
  · rw [kC hm];have:0<(p.map ND.id).count y:=YO.2 hm;rw [eq_comm,qC];omega
  rw [LB hm];have:(p.map ND.id).count y=0:=SR.2 hm;have B:f y=0:=qO;rw [B];rfl
 simp only [GR.dat] at V;rw [V] at a0;have ae:=qH a0;have af:=qH h2;have p1:=P.c1;have ba:=qH KM.out;clear d m a0 h2 V KE KF KU HE q KM;go_wp2_with fail;clear p1;generalize wr=w2 at *;go_loopg [37] z (fun gh ix wr=>∃ (j:Nat),z-j=gh/\j<=z/\ix=.int .i64 j/\Hid (Same w2 wr)/\Hid (JE (fun y=>f y != 0) none 0 (D.map RL.dat)=JE (fun y=>f y != 0) (EC RL.id D j) j ((D.map RL.dat).drop j)))
 case atStart=>exact ⟨0,rfl,oA _,rfl,qH (eA _ _),qH rfl⟩
 obtain ⟨j,rfl,hj,rfl,KS,KE⟩:=hrel;have bb:=qH (s.same KS);have ag:=qH (P.same KS);have bc:=qH (ba.same KS);have ah:=qH (O.same KS);have d:=KE.out;rw [ae.out] at d;clear KE;by_cases q:j<z
 · have ai:j<D.length:=by rw [I.out];exact q
   obtain ⟨x,A⟩:∃ x,D[j]?=some x:=⟨_,FA ai⟩
   have t:(D.map RL.dat)[j]?=some x.dat:=by rw [MA,A];rfl
   rw [fM t] at d;simp only [JE] at d;have HX:=qH A;have S:=qH (show EC RL.id D (j+1)=some x.dat.id from by simp only [EC,A];rfl);obtain ⟨C,X⟩:=qx (aG (fun y=>f y != 0) (EC RL.id D j) x.dat);have HC:=qH X;rw [X] at d;have HK:=qH d;have p1:=ag.c1;clear A t d X ai;go_wp2_with fail;refine (DW _ bb.rels HF.rels bc q HX HC).mono ?_;rintro y w7 ⟨rfl,n⟩;have T:=qH (ah.same n);have aj:=qH (ag.same n);by_cases B:C=0
   · subst B;have G:=HK.trans (aA qS);have U:=qH G;have bd:=qH (KS.same n);clear G ah p1 n;go_wp2;go_roundg (z-(j+1))
     case measure=>omega
     case rel=>exact ⟨j+1,rfl,qO,qN,bd,qH (by rw [ae.out,S.out];exact U)⟩
   have G:=HK.trans (gA B);injection G with G
   injection G with h1 h2
   have b8:(C != 0)=true:=by rw [qC];exact B
   have p0:=aj.c0;clear n p1 HK aj;subst h1 h2;have h3:=af.out;have bi:IntKind.i64.wrap ((i:Int)+(i1:Int))=((i+i1:Nat):Int):=by rw [rF];omega
   go_wp2_with fail;go_quiet (fail);go_wp2
   go_ret2
   exact ⟨by rw [<- af.out];simp,T.same ((eA _ _).drewN _)⟩
 rw [BC (by rw [nA,I.out];omega)] at d;simp [JE] at d
def WtrV (w:World) (B r:Nat) (v:Value) (bs:List UInt8):Prop:=B<=r/\Blk w r 244 #[v]/\OwnB w B v bs
theorem Wtr.open (h:Wtr w B r bs):∃ v,WtrV w B r v bs:=by obtain ⟨a,v,b,c⟩:=h;exact ⟨v,a,b,c⟩
theorem WtrV.wtr (h:WtrV w B r v bs):Wtr w B r bs:=⟨h.1,v,h.2.1,h.2.2⟩
theorem WtrV.upd (h:WtrV w B r v bs) (hu:Upd S w w') (hr:¬ S r) (hs:∀ g,v.ownBlock=some g->¬ S g):WtrV w' B r v bs :=
 ⟨h.1,h.2.1.upd hu hr,GA h.2.2 hu hs⟩
theorem WtrV.same (h:WtrV w B r v bs) (hu:Same w w'):WtrV w' B r v bs:=h.upd hu (fun f=>f) qf
theorem WtrV.lt (h:WtrV w B r v bs):r<w.heap.size:=h.2.1.lt
structure WOn (w:World) (B r:Nat) (v:Value) (bs:List UInt8) (w':World):Prop where
 ex:∃ v',WtrV w' B r v' bs/\(v'.ownBlock=v.ownBlock\/∃ g,v'.ownBlock=some g/\w.heap.size<=g)
 upd:Upd (fun b=>b=r\/v.ownBlock=some b) w w'
theorem ZS (h:WtrV w B r v bs) (width n:Int) (hw:MD width=true) (hn:0<=n) (hl:bs.length+8<=140737488355328):
 Calls Tryz.prog 111 #[.pointer (some ⟨r,0,none⟩),.int .i64 width,.int .u64 n] w fun e w'=>e=.returned (.tuple #[])/\WOn w B r v (bs++beb width.toNat n.toNat) w':=by
 have f:0<=width:=by simp only [MD,CH,jE] at hw;omega
 obtain ⟨width,rfl⟩:=tL f;obtain ⟨n,rfl⟩:=tL hn;rw [XB,XB];clear f hn;obtain ⟨y,k,q⟩:=h;have s:=k.lt;have l:v.ownBlock≠some r:=k.ne_own q qD;have t:=k.cell 0;simp only [YC,rC] at t;have i:1<=width/\width<=8:=by simp only [MD,CH,jE] at hw;omega
 have u:=qH hw;clear hw;go_enter Tryz.func111,Tryz.ntmps111;go_wp2_with fail;refine (uS _ _).mono ?_;rintro e w' ⟨rfl,rfl⟩;rw [u.out];go_wp2_with fail;refine (yV _ q qO width n i hl).mono ?_;rintro e z ⟨E,rfl,d⟩;have a:=d.blk k l;have D:=a.frozen 0;have x:=a.cell 0;simp only [YC,rC] at x;obtain ⟨A,m,c,rfl⟩:=DE d.own;go_wp2;go_end0;have j:(Value.slice A m c).ownBlock≠some r:=a.ne_own d.own qD;refine ⟨rfl,⟨_,⟨y,a.put 0 _,?_⟩,d.block⟩,(d.upd.mono fun b _ C=>.inr C).put (.inl rfl) _⟩;exact GA d.own ((eA (fun b=>b=r) z).put1 _) fun g o p=>j (p ▸ o)
theorem wrawV {xs:List UInt8} (h:WtrV w B r v bs) (hx:pA w F A n c xs) (hl:bs.length+n<=140737488355328):
 Calls Tryz.prog 114 #[.pointer (some ⟨r,0,none⟩),.slice A n c] w fun e w'=>e=.returned (.tuple #[])/\WOn w B r v (bs++xs) w':=by
 obtain ⟨C,f,p⟩:=h;have u:=f.lt;have d:v.ownBlock≠some r:=f.ne_own p qD;have x:=f.cell 0;simp only [YC,rC] at x;have y:=qH hx.len;go_enter Tryz.func114,Tryz.ntmps114;go_wp2_with (at_builtin;go_must (refine XD rfl (.tmp 8) (.tmp 9) _ _ rfl B _ _ _ _ yD uI rfl v _ _ rfl p rfl (GD yD hx (rS xs)) qM qO qO ?_);intro H l a;obtain ⟨q,s,t,rfl⟩:=DE a.own;have E:l.frozen? ⟨r,0,none⟩=false:=(a.blk f d).frozen 0;have G:l.cell? ⟨r,0,none⟩=some v:=(a.blk f d).cell 0);go_end0;have j:=a.blk f d;have k:(Value.slice q s t).ownBlock≠some r:=j.ne_own a.own qD;refine ⟨rfl,⟨_,⟨C,j.put 0 _,?_⟩,a.block⟩,(a.upd.mono fun b _ D=>.inr D).put (.inl rfl) _⟩;have z:=GA a.own ((eA (fun b=>b=r) l).put1 (i:=0) (.slice q s t)) fun g m o=>k (o ▸ m);unfold OwnB;rw [kA,y.out,DB];exact z
theorem eQ {g:Nat} {t:TypeId} {cs:Array Value} (h:Blk w g t cs) (hB:B<=g) (hn:cs.size=n) (hm:n<=maxLen):w.ownsRow B t 1 (.slice (some ⟨g,0,none⟩) n n) n cs.toList :=
 ⟨by simpa using hn,.inr ⟨g,n,cs,rfl,hB,h,lA _,hm,qO,by rw [<- hn,CL,<-UF,List.take_length]⟩⟩
end
end Go.Proofs.YtmkjfhnlnhceiaaGreatDoor
