/- Texts that the claim leans on: walks and plain laws, function by function. -/
import Derived.Maps.OwnSet
import Derived.Lib.AppendZeros
import Derived.Test.YtmkjfhnlnhceiaaGreatDoorN06
set_option maxRecDepth 100000
set_option maxHeartbeats 16000000
namespace Go.Proofs.YtmkjfhnlnhceiaaGreatDoor
section
open Go.RowKit Go.Maps
def asIs (v:Value):Option (DataW Value×List MemPlace):=some (.held v,[])
def MpK (w:World) (k:TypeId) (b n:Nat) (f:Lit->Option Value):Prop :=
 ∃ D:DataW Value,w.ownsMap Tryz.prog k asIs b n D/\Maps.size D=n/\∀ x,WideAt.IsKeyLit x->Maps.has D x=(f x).isSome/\∀ z,D.atKey x z=match f x with | some v=>.held v | none=>z
def MpK.put (f:Lit->Option Value) (x:Lit) (v:Value):Lit->Option Value:=fun y=>if y.sameKey x=true then some v else f y
section
variable {w w':World} {k t e:TypeId} {b n:Nat} {f:Lit->Option Value}
theorem MpK.made (w:World) (k:TypeId):MpK (w.alloc (.map #[] 0)) k w.heap.size 0 (fun _=>none):=⟨DataW.map [],YfU _ _ _ _,rfl,fun _ _=>⟨rfl,fun _=>rfl⟩⟩
theorem MpK.lt (h:MpK w k b n f):b<w.heap.size:=by obtain ⟨D,a,_⟩:=h;exact a.lt
theorem MpK.obj (h:MpK w k b n f):∃ es c,w.heap[b]?=some (.map es c):=by obtain ⟨D,⟨es,c,a,_⟩,_⟩:=h;exact ⟨es,c,a⟩
theorem MpK.upd {S:Nat->Prop} (h:MpK w k b n f) (hu:Upd S w w') (hs:¬ S b):MpK w' k b n f:=by obtain ⟨D,⟨d,c,a,r⟩,e⟩:=h;exact ⟨D,⟨d,c,(hu.block b (YaX.1 a).1 hs).trans a,r⟩,e⟩
theorem MpK.same (h:MpK w k b n f) (hu:Same w w'):MpK w' k b n f:=h.upd hu fun f=>f
theorem MpK.ne {g:Nat} {t:TypeId} {cs:Array Value} (h:MpK w k b n f) (hb:Blk w g t cs):b≠g:=by rintro rfl;obtain ⟨d,c,a⟩:=h.obj;unfold Blk at hb;rw [a] at hb;cases hb
theorem MpK.congr {g:Lit->Option Value} (h:MpK w k b n f) (hg:∀ x,WideAt.IsKeyLit x->f x=g x):MpK w k b n g:=by obtain ⟨D,c,d,e⟩:=h;exact ⟨D,c,d,fun x a=>by rw [<- hg x a];exact e x a⟩
theorem MpK.look (h:MpK w k b n f) (K:Keyed Tryz.prog k) (ht:Tryz.prog.underlying t=some (.map k e)) {z:Value} (hz:(zeroValue e).run Tryz.prog w=.ok z w) {key:Value} {x:Lit} (hkey:keyOf Tryz.prog k key=some x) (hx:WideAt.IsKeyLit x) :
 (Instr.lookup t (.map (some b)) key true).run Tryz.prog w=.ok (.tuple #[(f x).getD z,.bool (f x).isSome]) w/\(Instr.lookup t (.map (some b)) key false).run Tryz.prog w=.ok ((f x).getD z) w:=by
 obtain ⟨D,g,m,i⟩:=h;obtain ⟨j,l⟩:=i x hx;have e:∀ v c,asIs v=some (D.atKey x (.held z),c)->v=(f x).getD z:=fun v c a=>by
  rw [l] at a;unfold asIs at a;cases hf:f x with
  | none=>rw [hf] at a;simp only [Yce,Ydm,DataW.held.injEq] at a;exact a.1
  | some u=>rw [hf] at a;simp only [Yce,Ydm,DataW.held.injEq] at a;exact a.1
 refine ⟨?_,?_⟩
 · obtain ⟨v,c,d,a⟩:=g.look_ok K ht hz (zd:=.held z) (zp:=[]) rfl hkey;rw [d,e v c a,j]
 obtain ⟨v,c,d,a⟩:=g.lookup K ht hz (zd:=.held z) (zp:=[]) rfl hkey;rw [d,e v c a]
theorem MpK.store (h:MpK w k b n f) (K:Keyed Tryz.prog k) (ht:Tryz.prog.underlying t=some (.map k e)) (hn:n<maxLen) {key:Value} {x:Lit} (hkey:keyOf Tryz.prog k key=some x) (hx:WideAt.IsKeyLit x) (v:Value) :
 ∃ w',(Instr.mapUpdate t (.map (some b)) key v).run Tryz.prog w=.ok () w'/\MpK w' k b (if (f x).isSome then n else n+1) (MpK.put f x v)/\Upd (fun y=>y=b) w w':=by
 obtain ⟨D,l,r,m⟩:=h;obtain ⟨w',s,u,A⟩:=l.update (val:=v) (d:=.held v) (ps:=[]) K ht hn hkey rfl;have a:Maps.size (D.put x (.held v))=if (f x).isSome then n else n+1:=by rw [Maps.size_put (l.tidy K),(m x hx).1,r]
 refine ⟨w',s,⟨D.put x (.held v),?_,a,fun y g=>?_⟩,(Yaa _ w).grown A fun j B=>by cases B;exact .inl rfl⟩
 · obtain ⟨o,c,C,F,E,p⟩:=u;refine ⟨o,c,C,F,?_,p⟩;have q:Maps.size (D.put x (.held v))=o.size:=by rw [p];simp [Maps.size,length_sorted]
   rw [<- a,q];exact Yae _
 unfold MpK.put;by_cases i:y=x
 · subst i;rw [Yac (Yfl g)];exact ⟨Maps.has_put_same l.isMap g _,fun z=>Maps.atKey_put_same l.isMap g _ _⟩
 rw [Yab (by rw [YfV i];simp),Maps.has_put_other i];exact ⟨(m y g).1,fun z=>by rw [Maps.atKey_put_other i];exact (m y g).2 z⟩
theorem MpK.block (h:MpK w k b n f) (hb:w'.heap[b]?=w.heap[b]?):MpK w' k b n f:=by obtain ⟨D,⟨a,c,d,r⟩,e⟩:=h;exact ⟨D,⟨a,c,hb.trans d,r⟩,e⟩
theorem MpK.entry (h:MpK w k b n f) (K:Keyed Tryz.prog k) (ht:Tryz.prog.underlying t=some (.map k e)) (hn:n<maxLen) {z:Value} (hz:(zeroValue e).run Tryz.prog w=.ok z w) {key:Value} {x:Lit} (hkey:keyOf Tryz.prog k key=some x) (hx:WideAt.IsKeyLit x) (hf:f x=none) (v:Value) :
 ∃ (w1:World) (st:Value),(Instr.mapEntry t (.map (some b)) key).run Tryz.prog w=.ok (.tuple #[z,st]) w1/\Upd (fun y=>y=b) w w1 /\
  ∀ W,W.heap[b]?=w1.heap[b]?->∃ W',(Instr.entryStore t (.map (some b)) st v).run Tryz.prog W=.ok () W'/\MpK W' k b (n+1) (MpK.put f x v)/\Upd (fun y=>y=b) W W':=by
 obtain ⟨N,G,C,_⟩:=h.store K ht hn hkey hx v;have q:=(h.look K ht hz hkey hx).1;rw [hf] at q C;obtain ⟨D,⟨a,c,g,F,O,P⟩,H,A⟩:=h;rcases K.find w hkey a.toList F.keys with ⟨p,I⟩ | ⟨j,L,p,R,S⟩
 · have r:=F.stamped;have l:(Instr.mapUpdate t (.map (some b)) key v).run Tryz.prog w=.ok () (ChangeMaps.setBlock w b (.map (a.push ⟨key,v,c⟩) (c+1))):=by simp [Instr.mapUpdate,YbR ht,Yfm g,K.check w false hkey,p,YfW _ g,Result.andThen,ChangeMaps.setBlock]
   rw [G] at l;injection l with _ l
   subst l;have u:∀ (W:World) (a:Array MapEntry) (c:Nat) (o:Obj),W.heap[b]?=some (.map a c)->Upd (fun y=>y=b) W (ChangeMaps.setBlock W b o):=fun W a c o B=>⟨rfl,rfl,rfl,by simp [ChangeMaps.setBlock],fun i _ m=>ChangeMaps.heap_setBlock_other B o m⟩
   refine ⟨ChangeMaps.setBlock w b (.map (a.push ⟨key,z,c⟩) (c+1)),goInt c,?_,u _ _ _ _ g,fun W B=>?_⟩
   · simp [Instr.mapEntry,YbR ht,Yfm g,K.check w false hkey,p,hz,YfW _ g,Result.andThen,ChangeMaps.setBlock]
   have d:W.heap[b]?=some (.map (a.push ⟨key,z,c⟩) (c+1)):=B.trans (YfX g _);have s:(a.push ⟨key,z,c⟩).findIdx? (fun e=>(e.born:Int)==(c:Int))=some a.size:=by rw [Array.findIdx?_eq_some_iff_getElem];refine ⟨by simp,by simp,fun i m=>?_⟩;have M:=r.1 _ (by rw [Array.mem_toList_iff];exact Array.getElem_mem m);rw [YfY m];simp;omega
   refine ⟨ChangeMaps.setBlock W b (.map (a.push ⟨key,v,c⟩) (c+1)),?_,C.block ((YfX d _).trans (YfX g _).symm),u _ _ _ _ d⟩;have E:(a.push ⟨key,z,c⟩).modify a.size (fun e=>{ e with val:=v })=a.push ⟨key,v,c⟩:=by
    apply Array.ext
    · simp
    intro i p H;rw [Array.getElem_modify];by_cases m:a.size=i
    · subst m;simp
    have A:i<a.size:=by simp at p;omega
    rw [Yab m,YfY A,YfY A]
   simp [Instr.entryStore,Yfm d,goInt,asInt,asIntOf,s,YfW _ d,Result.andThen,ChangeMaps.setBlock,E]
 exfalso;have l:(Instr.lookup t (.map (some b)) key true).run Tryz.prog w=.ok (.tuple #[L.val,.bool true]) w:=by simp [Instr.lookup,YbR ht,Yfm g,K.check w _ hkey,p,Result.andThen]
 rw [q] at l;simp at l
theorem MpK.len (h:MpK w k b n f) (ht:Tryz.prog.underlying t=some (.map k e)) (ty:TypeId):(Builtin.len_ #[t] ty #[.map (some b)]).run Tryz.prog w=.ok (.int .i64 n) w:=by obtain ⟨D,a,c,_⟩:=h;rw [a.len ht ty,c]
end
def mpLI (f:Int->Option Value):Lit->Option Value
 | .int .i64 i=>f i
 | _=>none
def MpI (w:World) (b n:Nat) (f:Int->Option Value):Prop:=MpK w 3 b n (mpLI f)
def mpPI (f:Int->Option Value) (i:Int) (v:Value):Int->Option Value:=fun j=>if j=i then some v else f j
theorem intK:Keyed Tryz.prog 3:=int_keyed Tryz.underlying3
section
variable {w w':World} {t e:TypeId} {b n:Nat} {f:Int->Option Value}
theorem MpI.made (w:World):MpI (w.alloc (.map #[] 0)) w.heap.size 0 (fun _=>none):=(MpK.made w _).congr fun x _=>by unfold mpLI;split <;> rfl
abbrev YeE:=@MpI.made
theorem MpI.lt (h:MpI w b n f):b<w.heap.size:=MpK.lt h
theorem MpI.upd {S:Nat->Prop} (h:MpI w b n f) (hu:Upd S w w') (hs:¬ S b):MpI w' b n f:=MpK.upd h hu hs
theorem MpI.same (h:MpI w b n f) (hu:Same w w'):MpI w' b n f:=MpK.same h hu
theorem MpI.ne {g:Nat} {t:TypeId} {cs:Array Value} (h:MpI w b n f) (hb:Blk w g t cs):b≠g:=MpK.ne h hb
theorem MpI.look (h:MpI w b n f) (ht:Tryz.prog.underlying t=some (.map 3 e)) {z:Value} (hz:(zeroValue e).run Tryz.prog w=.ok z w) {i:Int} (hi : -9223372036854775808<=i/\i<=9223372036854775807) :
 (Instr.lookup t (.map (some b)) (.int .i64 i) true).run Tryz.prog w=.ok (.tuple #[(f i).getD z,.bool (f i).isSome]) w/\(Instr.lookup t (.map (some b)) (.int .i64 i) false).run Tryz.prog w=.ok ((f i).getD z) w :=
 MpK.look h intK ht hz (keyOf_int_mk Tryz.underlying3 (WalkArith.wf_i64 hi)) trivial
theorem MpI.store (h:MpI w b n f) (ht:Tryz.prog.underlying t=some (.map 3 e)) (hn:n<maxLen) {i:Int} (hi : -9223372036854775808<=i/\i<=9223372036854775807) (v:Value) :
 ∃ w',(Instr.mapUpdate t (.map (some b)) (.int .i64 i) v).run Tryz.prog w=.ok () w'/\MpI w' b (if (f i).isSome then n else n+1) (mpPI f i v)/\Upd (fun y=>y=b) w w':=by
 obtain ⟨w',c,d,g⟩:=MpK.store h intK ht hn (keyOf_int_mk Tryz.underlying3 (WalkArith.wf_i64 hi)) trivial v;refine ⟨w',c,d.congr fun x j=>?_,g⟩;unfold MpK.put;by_cases a:x=.int .i64 i
 · subst a;rw [Yac (Yfl j)];simp [mpLI,mpPI]
 rw [Yab (by rw [YfV a];simp)];unfold mpLI;split
 · unfold mpPI;rw [Yab (fun k=>a (by rw [k]))]
 rfl
theorem MpI.len (h:MpI w b n f) (ht:Tryz.prog.underlying t=some (.map 3 e)) (ty:TypeId):(Builtin.len_ #[t] ty #[.map (some b)]).run Tryz.prog w=.ok (.int .i64 n) w:=MpK.len h ht ty
end
def mpLS (f:ByteArray->Option Value):Lit->Option Value
 | .string l=>f ⟨l.toArray⟩
 | _=>none
def MpS (w:World) (b n:Nat) (f:ByteArray->Option Value):Prop:=MpK w 9 b n (mpLS f)
def mpPS (f:ByteArray->Option Value) (s:ByteArray) (v:Value):ByteArray->Option Value:=fun t=>if t=s then some v else f t
theorem strK:Keyed Tryz.prog 9:=string_keyed Tryz.underlying9
section
variable {w w':World} {t e:TypeId} {b n:Nat} {f:ByteArray->Option Value}
theorem MpS.made (w:World):MpS (w.alloc (.map #[] 0)) w.heap.size 0 (fun _=>none):=(MpK.made w _).congr fun x _=>by unfold mpLS;split <;> rfl
theorem MpS.lt (h:MpS w b n f):b<w.heap.size:=MpK.lt h
theorem MpS.upd {S:Nat->Prop} (h:MpS w b n f) (hu:Upd S w w') (hs:¬ S b):MpS w' b n f:=MpK.upd h hu hs
theorem MpS.same (h:MpS w b n f) (hu:Same w w'):MpS w' b n f:=MpK.same h hu
theorem MpS.ne {g:Nat} {t:TypeId} {cs:Array Value} (h:MpS w b n f) (hb:Blk w g t cs):b≠g:=MpK.ne h hb
theorem MpS.look (h:MpS w b n f) (ht:Tryz.prog.underlying t=some (.map 9 e)) {z:Value} (hz:(zeroValue e).run Tryz.prog w=.ok z w) {s:ByteArray} (hs:s.size<=maxLen) :
 (Instr.lookup t (.map (some b)) (.string s) true).run Tryz.prog w=.ok (.tuple #[(f s).getD z,.bool (f s).isSome]) w/\(Instr.lookup t (.map (some b)) (.string s) false).run Tryz.prog w=.ok ((f s).getD z) w :=
 MpK.look h strK ht hz (Yfn Tryz.underlying9 hs) trivial
theorem Zuk {s:ByteArray} {v:Value} (x:Lit) (hx:WideAt.IsKeyLit x):MpK.put (mpLS f) (.string s.data.toList) v x=mpLS (mpPS f s v) x:=by
 unfold MpK.put;by_cases a:x=.string s.data.toList
 · subst a;rw [Yac (Yfl hx)];simp [mpLS,mpPS]
 rw [Yab (by rw [YfV a];simp)];unfold mpLS;split
 · unfold mpPS;rw [Yab (fun b=>a (by rw [<- b]))]
 rfl
theorem MpS.entry (h:MpS w b n f) (ht:Tryz.prog.underlying t=some (.map 9 e)) (hn:n<maxLen) {z:Value} (hz:(zeroValue e).run Tryz.prog w=.ok z w) {s:ByteArray} (hs:s.size<=maxLen) (hf:f s=none) (v:Value) :
 ∃ (w1:World) (st:Value),(Instr.mapEntry t (.map (some b)) (.string s)).run Tryz.prog w=.ok (.tuple #[z,st]) w1/\Upd (fun y=>y=b) w w1 /\
  ∀ W,W.heap[b]?=w1.heap[b]?->∃ W',(Instr.entryStore t (.map (some b)) st v).run Tryz.prog W=.ok () W'/\MpS W' b (n+1) (mpPS f s v)/\Upd (fun y=>y=b) W W':=by
 obtain ⟨w1,st,a,c,d⟩:=MpK.entry h strK ht hn hz (Yfn Tryz.underlying9 hs) trivial hf v;refine ⟨w1,st,a,c,fun W g=>?_⟩;obtain ⟨W',i,j,k⟩:=d W g;refine ⟨W',i,j.congr fun x l=>Zuk x l,k⟩
theorem MpS.len (h:MpS w b n f) (ht:Tryz.prog.underlying t=some (.map 9 e)) (ty:TypeId):(Builtin.len_ #[t] ty #[.map (some b)]).run Tryz.prog w=.ok (.int .i64 n) w:=MpK.len h ht ty
end
end
section
def idxI (N:List ByteArray) (s:ByteArray):Option Nat:=if s=noText then none else N.findIdx? (fun t=>decide (t=s))
def idsF (N:List ByteArray) (s:ByteArray):Option Value:=(idxI N s).map fun (i:Nat)=>Value.int .i64 (i:Int)
def tokU:List ByteArray->List (Nat×List UInt8)->Except Int (List ByteArray)
 | N,[]=>.ok N
 | N,(i,d)::u=>match ZfF d with
   | none=>.error 110
   | some s=>if (idxI N s).isSome=true then .error 7 else tokU (N.set i s) u
theorem Zka {d:List UInt8} {s:ByteArray} (h:ZfF d=some s):Zbj s=true:=by
 unfold ZfF at h;split at h
 · cases h
 split at h
 · cases h
 split at h
 · rename_i a;injection h with h
   subst h;exact a
 cases h
theorem ZfS {s:ByteArray} (h:Zbj s=true):s≠noText:=fun e=>by have a:=(ZbX h).1;rw [e] at a;exact absurd a qD
theorem ZoG {N:List ByteArray} {s:ByteArray} (hs:s≠noText):(idxI N s).isSome=N.any (fun t=>decide (t=s)):=by unfold idxI;rw [Yab hs];simp [List.findIdx?_isSome]
theorem Znr:∀ (l:List BS) (acc:List ByteArray),ZhY acc (l.map BS.rc)=tokU (acc++List.replicate l.length noText) (Zak acc.length l)
 | [],acc=>by simp [ZhY,tokU,Zak]
 | x::l,acc=>by
   rw [YaF,Zak];have c:BS.rc x=match x.A with | none=>none | some _=>some x.data:=rfl
   rw [c];cases hA:x.A with
   | none =>
     simp only;rw [ZhY,Znr l (acc++[noText])];simp [Ycz]
   | some a =>
     simp only;rw [ZhY,tokU];cases hn:ZfF x.data with
     | none=>rfl
     | some s =>
       simp only;have b:=ZfS (Zka hn);have d:(idxI (acc++List.replicate (x::l).length noText) s).isSome=acc.any (fun t=>decide (t=s)):=by
        rw [ZoG b,YfJ];have:(List.replicate (x::l).length noText).any (fun t=>decide (t=s))=false:=by rw [Yek];intro t g;rw [YfZ g];simpa using fun e:noText=s=>b e.symm
        rw [this,Bool.or_false]
       rw [d,Znr l (acc++[s])];have f:(acc++List.replicate (x::l).length noText).set acc.length s=(acc++[s])++List.replicate l.length noText:=by rw [Yao,Ycz,YcU _ _ (Yae _),YbC];simp
       rw [f];simp
theorem ZoH:∀ (N:List ByteArray) (i:Nat) (s t:ByteArray),N[i]?=some noText->t≠noText->N.findIdx? (fun u=>decide (u=s))=none->s≠noText ->
 (N.set i s).findIdx? (fun u=>decide (u=t))=if t=s then some i else N.findIdx? (fun u=>decide (u=t))
 | [],i,s,t,h,_,_,_=>by simp at h
 | u::N,0,s,t,h,ht,hn,hs=>by
   have d:u=noText:=by simpa using h
   subst d;rw [Yam,YeS,YeS];by_cases e:t=s
   · subst e;simp
   rw [Yab e,YaM (fun h=>e h.symm),YaM (fun h=>ht h.symm)]
 | u::N,i+1,s,t,h,ht,hn,hs=>by
   rw [YeS] at hn;have a:u≠s:=fun e=>by simp [e] at hn
   rw [YaM a] at hn;have c:N.findIdx? (fun u=>decide (u=s))=none:=by
    cases hq:N.findIdx? (fun u=>decide (u=s)) with
    | none=>rfl
    | some k=>rw [hq] at hn;simp at hn
   have f:=ZoH N i s t (by simpa using h) ht c hs;rw [Yap,YeS,YeS,f];by_cases e:t=s
   · subst e;rw [YaM a];simp
   rw [Yab e];by_cases b:u=t
   · rw [YaV b,Yab e]
   rw [YaM b,Yab e]
theorem ZsR {N:List ByteArray} {i:Nat} {s:ByteArray} (h:N[i]?=some noText) (hs:s≠noText) (hn:(idxI N s).isSome=false):idsF (N.set i s)=mpPS (idsF N) s (.int .i64 (i:Int)):=by
 funext t;have b:N.findIdx? (fun u=>decide (u=s))=none:=by unfold idxI at hn;rw [Yab hs] at hn;simpa using hn
 unfold idsF mpPS idxI;by_cases a:t=noText
 · subst a;rw [Yac rfl,Yab (fun e=>hs e.symm)];show none=(if noText=noText then _ else _:Option Nat).map _;rw [Yac rfl];rfl
 rw [Yab a,ZoH N i s t h a b hs];by_cases e:t=s
 · rw [Yac e,Yac e];rfl
 rw [Yab e,Yab e];show _=(if t=noText then _ else _:Option Nat).map _;rw [Yab a]
theorem ZsS {N:List ByteArray} {s t:ByteArray} (hn:N.findIdx? (fun u=>decide (u=s))=none):(N++[s]).findIdx? (fun u=>decide (u=t))=if t=s then some N.length else N.findIdx? (fun u=>decide (u=t)):=by
 rw [List.findIdx?_append];by_cases e:t=s
 · subst e;rw [Yac rfl,hn];simp
 rw [Yab e];have:[s].findIdx? (fun u=>decide (u=t))=none:=by have a:¬ s=t:=fun h=>e h.symm;simp [a]
 rw [this];cases N.findIdx? (fun u=>decide (u=t)) <;> rfl
theorem ZsT {N:List ByteArray} {s:ByteArray} (hs:s≠noText) (hn:(idxI N s).isSome=false):idsF (N++[s])=mpPS (idsF N) s (.int .i64 (N.length:Int)):=by
 funext t;have a:N.findIdx? (fun u=>decide (u=s))=none:=by unfold idxI at hn;rw [Yab hs] at hn;simpa using hn
 unfold idsF mpPS idxI;by_cases b:t=noText
 · subst b;rw [Yac rfl,Yab (fun e=>hs e.symm)];show none=(if noText=noText then _ else _:Option Nat).map _;rw [Yac rfl];rfl
 rw [Yab b,ZsS a];by_cases e:t=s
 · rw [Yac e,Yac e];rfl
 rw [Yab e,Yab e];show _=(if t=noText then _ else _:Option Nat).map _;rw [Yab b]
theorem ZcK:∀ {l:List BS} {i:Nat} {p:Nat×List UInt8},p∈Zak i l->i<=p.1/\∃ y,l[p.1-i]?=some y/\y.A≠none/\y.data=p.2
 | [],i,p,h=>by simp [Zak] at h
 | x::l,i,p,h=>by
   rw [Zak] at h;have step:p∈Zak (i+1) l->i<=p.1/\∃ y,(x::l)[p.1-i]?=some y/\y.A≠none/\y.data=p.2:=fun h=>by obtain ⟨d,y,b,c⟩:=ZcK h;refine ⟨qO,y,?_,c⟩;rw [show p.1-i=(p.1-(i+1))+1 by omega,Ybd];exact b
   cases hA:x.A with
   | none =>
     rw [hA] at h;exact step h
   | some a =>
     rw [hA] at h;rcases Yat.1 h with h | h
     · subst h;exact ⟨Yae _,x,by simp,by rw [hA];simp,rfl⟩
     exact step h
theorem Zdz:∀ (l:List BS) (i:Nat),(Zak i l).Pairwise fun a b=>a.1<b.1
 | [],i=>by simp [Zak]
 | x::l,i=>by
   rw [Zak];cases x.A with
   | none=>exact Zdz l (i+1)
   | some a =>
     refine YbK.2 ⟨fun p c=>?_,Zdz l (i+1)⟩;have:=(ZcK c).1;show i<p.1;omega
theorem ZdP:∀ (l:List BS) (i:Nat),(Zak i l).length<=l.length
 | [],i=>by simp [Zak]
 | x::l,i=>by
   have h:=ZdP l (i+1);rw [Zak];cases x.A with
   | none=>simp only [Yao];omega
   | some a=>simp only [Yao];omega
theorem Zrc {L:List (Nat×List UInt8)} {N0 N:List ByteArray} {k i:Nat} {d:List UInt8} {s:ByteArray} (hL:L.Pairwise fun a b=>a.1<b.1) (hx:L[k]?=some (i,d)) (hU:tokU N0 L=tokU N (L.drop k)) (hz:∀ p∈L.drop k,N[p.1]?=some noText)
 (hn:ZfF d=some s) (hi:(idxI N s).isSome=false):tokU N0 L=tokU (N.set i s) (L.drop (k+1))/\(∀ p∈L.drop (k+1),(N.set i s)[p.1]?=some noText)/\N[i]?=some noText:=by
 obtain ⟨e,h⟩:=Yaq.1 hx;have c:=YbF e;rw [h] at c;rw [c] at hU hz;rw [tokU,hn] at hU;simp only at hU;rw [Yab (by rw [hi];simp)] at hU;refine ⟨hU,fun p g=>?_,hz (i,d) (by simp)⟩;have j:i<p.1:=by have f:=hL.sublist (List.drop_sublist k L);rw [c] at f;exact (YbK.1 f).1 p g
 rw [YcV qO];exact hz p (by simp [g])
theorem ZoI {L:List (Nat×List UInt8)} {N0 N:List ByteArray} {k i:Nat} {d:List UInt8} (hx:L[k]?=some (i,d)) (hU:tokU N0 L=tokU N (L.drop k)) :
 (ZfF d=none->tokU N0 L=.error 110)/\∀ s,ZfF d=some s->(idxI N s).isSome=true->tokU N0 L=.error 7:=by
 obtain ⟨a,c⟩:=Yaq.1 hx;have b:=YbF a;rw [c] at b;rw [b,tokU] at hU;refine ⟨fun h=>by rw [hU,h],fun s h e=>?_⟩;rw [hU,h];simp only;rw [Yac e]
end
section
open Go.RowKit
theorem ZkM (z:Value) (m:Nat) (hz:z.cells=#[z]):Builtin.zeroCells z.cells m=(List.replicate m z).toArray:=by
 rw [hz];unfold Builtin.zeroCells;apply Array.ext
 · simp
 intro i a b;simp [YdT]
section
variable {P:Program}
theorem ZkN (w:World) (t tn ty:TypeId) (base:Nat) (e:TypeId) (i:TypeInfo) (z:Value) (k kn:IntKind) (ht:P.underlying t=some (.slice e)) (htn:P.underlying tn=some (.int kn)) (hi:P.info? e=some i) (hz:i.zero=some z)
 (hs1:i.size=1) (hzc:z.cells=#[z]) (hz1:z.oneCell'=true) (v:Value) (n:Nat) (xs:List Value) (hown:w.ownsRow base e 1 v n xs) (m:Nat)
 (h63:n+m<=maxLen) (hbytes:(n+m+1000)*i.bytes<=211106232532992) (hbase:base<=w.heap.size) :
 ∃ v' w',(Builtin.append_ #[t,tn] ty #[v,.int k m]).run P w=.ok v' w'/\Grew w base e 1 v (n+m) (xs++List.replicate m z) v' w':=by
 have N:n+m<=9223372036854775807:=by simp only [maxLen] at h63;omega
 have S:IntKind.i64.wrap (m:Int)=m:=by rw [YbQ];omega
 have s:¬ ((m:Int)<0):=qO;have F:IntKind.i64.wrap 0=0:=qD;have d:xs.length=n:=qt hown.1;have U:m*i.bytes<=281474976710656:=Yaj (Ycy _ qO) (Yaj hbytes qO);have x:¬ (281474976710656<(m:Int)*(i.bytes:Int)):=by rw [<- Int.natCast_mul];omega
 have y:=ZkM z;have one:∀ u∈List.replicate m z,u.oneCell'=true:=fun u X=>by rw [(Yep.1 X).2];exact hz1
 have f:∀ (o:Nat),(w.drew.alloc (.cells ((xs++List.replicate m z).toArray++Builtin.zeroCells z.cells (grownCap w (n+m) o e-(n+m))) e)).ownsRow base e 1
  (.slice (some ⟨w.heap.size,0,none⟩) (n+m) (grownCap w (n+m) o e)) (n+m) (xs++List.replicate m z):=by
  intro o;have O:=grownCap_ge w (n+m) o e;have B:=grownCap_le_maxLen w (n+m) o e h63;refine ⟨by simp [d],.inr ⟨w.heap.size,_,_,rfl,hbase,heap_alloc_new w.drew _,O,B,?_,?_⟩⟩
  · rw [y _ hzc];simp only [Array.size_append,YbV,Yaf,Ybk,d];omega
  rw [YfG,Yeq];exact List.take_left' (by simp [d])
 have h:∀ (A:Option Addr) (c:Nat),v=.slice A n c->(Builtin.firstCells 1 n (.slice A n c)).run P w.drew=.ok xs.toArray w.drew->n<=c->c<n+m ->
  (Builtin.append_ #[t,tn] ty #[v,.int k m]).run P w=.ok (.slice (some ⟨w.heap.size,0,none⟩) (n+m) (grownCap w (n+m) c e)) (w.drew.alloc (.cells ((xs++List.replicate m z).toArray++Builtin.zeroCells z.cells (grownCap w (n+m) c e-(n+m))) e)):=by
  intro A c Y M D hc;have V:¬ (n+m<=c):=qO;have G:¬ (9223372036854775807<((n:Int)+(m:Int))):=qO;have H:¬ (281474976710656<Builtin.nextslicecap (n+m) c*i.bytes):=Nat.not_lt.2 (ZkB qO hbytes);subst Y;have E:m≠0:=qO;simp [Builtin.append_,YbR ht,YbR htn,sizeOf,typeInfo,zeroValue,hi,hz,hs1,asInt,asIntOf,S,s,E,V,G,H,x,Question.forced,M,newRow,grownCap,y _ hzc];congr 2;apply Array.ext';simp only [YfG,Array.toList_replicate,Yak,List.replicate_append_replicate]
 rcases hown.2 with ⟨rfl,rfl⟩ | ⟨g,a,p,rfl,R,T,D,B,Z,q⟩
 · have W:xs=[]:=Yco qO;subst W;by_cases E:m=0
   · subst E;refine ⟨.slice none 0 0,w,?_,⟨YaQ w base e 1,Yaa _ _,.inl rfl⟩⟩;simp [Builtin.append_,YbR ht,YbR htn,sizeOf,typeInfo,hi,asInt,asIntOf,F]
   have I:=h none 0 rfl (by simpa using run_firstCells_none w.drew 1 0 0 0) (Yae _) qO;exact ⟨_,_,I,⟨f 0,(Yaa _ w).drew.alloc _,.inr ⟨w.heap.size,rfl,Yae _⟩⟩⟩
 by_cases l:n+m<=a
 · have L:n+(List.replicate m z).length<=p.size:=by rw [Ybk];omega
   have r:=run_storeCells_at P g n e (List.replicate m z) 0 p w T (by simpa using L) one;simp only [YbW] at r;have I:(Builtin.append_ #[t,tn] ty #[.slice (some ⟨g,0,none⟩) n a,.int k m]).run P w=.ok (.slice (some ⟨g,0,none⟩) (n+m) a) (w.setRow g (p.toList.take n++List.replicate m z++p.toList.drop (n+(List.replicate m z).length)).toArray):=by
    by_cases E:m=0
    · subst E;simp only [Yga] at r ⊢;simp [Builtin.append_,YbR ht,YbR htn,sizeOf,typeInfo,hi,hs1,asInt,asIntOf,F,D,Addr.add_lit,r]
    simp [Builtin.append_,YbR ht,YbR htn,sizeOf,typeInfo,zeroValue,hi,hz,hs1,asInt,asIntOf,S,s,E,l,x,Addr.add_lit,y _ hzc,r]
   refine ⟨_,_,I,⟨⟨by simp [d],.inr ⟨g,a,_,rfl,R,setRow_heap w g p _ e _ T,l,B,?_,?_⟩⟩,⟨rfl,rfl,rfl,by simp,fun b _ hb=>setRow_other w g b _ (fun e=>hb (by simp [Value.ownBlock,e]))⟩,.inl rfl⟩⟩
   · simp only [YbV,Yaf,YaJ,Yas,Ycf];omega
   rw [Yeq] at q ⊢;rw [q];exact List.take_left' (by simp [d])
 have C:∀ j u,xs[j]?=some u->w.drew.cell? ((⟨g,0,none⟩:Addr).add j)=some u:=hown.cells (g:=g) rfl;have I:=h (some ⟨g,0,none⟩) a rfl (run_firstCells_some w.drew 1 n ⟨g,0,none⟩ n a xs qO C) D qO;exact ⟨_,_,I,⟨f a,(Yaa _ w).drew.alloc _,.inr ⟨w.heap.size,rfl,Yae _⟩⟩⟩
theorem Zul {w:World} {o:Oper} {a:Act} {K:Act->World->Prop} {Q:Exit->Act->World->Prop} (s x:Operand) (t tn:TypeId)
 (ho:o.op=.call { callee:=.builtin .append,args:=#[s,x],argTypes:=#[t,tn] })
 (base:Nat) (e:TypeId) (bytes:Nat) (z:Value) {kn:IntKind} (ht:P.underlying t=some (.slice e)) (htn:P.underlying tn=some (.int kn)) (hi:(P.info? e).map (fun i=>(i.zero,i.size,i.bytes))=some (some z,1,bytes))
 (hzc:z.cells=#[z]) (hz1:z.oneCell'=true) (v:Value) (n:Nat) (xs:List Value) (hs:a.eval s=v) (hown:w.ownsRow base e 1 v n xs) (k:IntKind) (m:Nat) (hx:a.eval x=.int k m)
 (h63:n+m<=maxLen) (hbytes:(n+m+1000)*bytes<=211106232532992) (hbase:base<=w.heap.size)
 (h:∀ v' w',Grew w base e 1 v (n+m) (xs++List.replicate m z) v' w'->K (a.put o.dst v') w'):o.wp P a w K Q:=by
 obtain ⟨i,b,d,f,c⟩:=info_parts hi;subst c;obtain ⟨v',w',g,j⟩:=ZkN (P:=P) w t tn o.type base e i z k kn ht htn b d f hzc hz1 v n xs hown m h63 hbytes hbase;exact Lib.wp_append_run w s x t tn ho _ _ hs hx v' w' g (h v' w' j)
theorem Zrd {w:World} {ops:Array Oper} {o:Oper} {a:Act} {K:Act->World->Prop} {Q:Exit->Act->World->Prop} {E:Prop} (hgd:o.guard=none) (s x:Operand) (t tn:TypeId)
 (ho:o.op=.call { callee:=.builtin .append,args:=#[s,x],argTypes:=#[t,tn] })
 (base:Nat) (e:TypeId) (bytes:Nat) (z:Value) {kn:IntKind} (ht:P.underlying t=some (.slice e)) (htn:P.underlying tn=some (.int kn)) (hi:(P.info? e).map (fun i=>(i.zero,i.size,i.bytes))=some (some z,1,bytes))
 (hzc:z.cells=#[z]) (hz1:z.oneCell'=true) (v:Value) (n:Nat) (xs:List Value) (hs:a.eval s=v) (hown:w.ownsRow base e 1 v n xs) (k:IntKind) (m:Nat) (hx:a.eval x=.int k m)
 (h63:n+m<=maxLen) (hbytes:(n+m+1000)*bytes<=211106232532992) (hbase:base<=w.heap.size)
 (h:∀ v' w',Grew w base e 1 v (n+m) (xs++List.replicate m z) v' w'->K (a.put o.dst v') w') :
 if Region.wanted o (yielded ops a.tmps)=true then Oper.wp P o a w K Q else E:=by
 have b:Region.wanted o (yielded ops a.tmps)=true:=by simp [Region.wanted,hgd]
 rw [Yac b];exact Zul s x t tn ho base e bytes z ht htn hi hzc hz1 v n xs hs hown k m hx h63 hbytes hbase h
end
end
end Go.Proofs.YtmkjfhnlnhceiaaGreatDoor
