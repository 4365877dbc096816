/- Texts that the claim leans on: walks and plain laws, function by function. -/
import Derived.Test.YtmkjfhnlnhceiaaGreatDoorN42
set_option maxRecDepth 100000
set_option maxHeartbeats 16000000
namespace Go.Proofs.YtmkjfhnlnhceiaaGreatDoor
open Go.RowKit
theorem Zlv:∀ (rs:List (Option (List UInt8))) (i:Nat) (p:Nat×List UInt8),p∈ZaZ i rs↔i<=p.1/\rs[p.1-i]?=some (some p.2)
 | [],i,p=>by simp [ZaZ]
 | r::rs,i,p=>by
   have ih:=Zlv rs (i+1) p;by_cases e:p.1=i
   · have g:¬ i+1<=p.1:=qO;have f:p ∉ ZaZ (i+1) rs:=fun h=>g (ih.1 h).1;rw [e,YbC,YaW];cases r with
     | none =>
       rw [ZaZ];simp [f]
     | some d =>
       rw [ZaZ,Yat];obtain ⟨a,b⟩:=p;simp only at e;subst e;simp only [Yae,YcW,Yce];constructor
       · rintro (h | h)
         · exact (Prod.mk.inj h).2.symm
         exact absurd h f
       rintro rfl;exact .inl rfl
   have j:p∈ZaZ i (r::rs)↔p∈ZaZ (i+1) rs:=by
    cases r with
    | none=>rw [ZaZ]
    | some d =>
      rw [ZaZ,Yat];exact ⟨fun h=>h.elim (fun h=>absurd (by rw [h]) e) id,.inr⟩
   rw [j,ih];constructor
   · rintro ⟨k,c⟩;refine ⟨qO,?_⟩;rw [show p.1-i=(p.1-(i+1))+1 by omega,Ybd];exact c
   rintro ⟨k,c⟩;refine ⟨qO,?_⟩;rw [show p.1-i=(p.1-(i+1))+1 by omega,Ybd] at c;exact c
theorem Zds {f:Zaz} {p:Nat×List UInt8}:p∈ZaZ 0 f.recs↔f.at_ p.1=some p.2:=by
 rw [Zlv];unfold Zaz.at_;simp only [Yah,YcW,YcF];constructor
 · intro h;rw [h]
 intro h;split at h
 · rename_i d a;rw [a,<-h]
 cases h
theorem Zcs:∀ (rs:List (Option (List UInt8))) (i:Nat),(ZaZ i rs).length<=rs.length
 | [],_=>Yae _
 | none::rs,i=>Nat.le_succ_of_le (Zcs rs (i+1))
 | some _::rs,i=>Nat.succ_le_succ (Zcs rs (i+1))
theorem Zfj:∀ (rs:List (Option (List UInt8))) (i:Nat),(ZaZ i rs).Pairwise fun a b=>a.1<b.1
 | [],_=>List.Pairwise.nil
 | none::rs,i=>Zfj rs (i+1)
 | some d::rs,i=>YbK.2 ⟨fun p c=>by have:=((Zlv rs (i+1) p).1 c).1;simp only;omega,Zfj rs (i+1)⟩
theorem ZjC {rs:List (Option (List UInt8))} {a:List (Nat×List UInt8)} {x:Nat×List UInt8} (h:a=(ZaZ 0 rs).take a.length) (hx:(ZaZ 0 rs)[a.length]?=some x):∀ y∈a,y.1≠x.1:=fun y d=>by have c:=(Zip h hx).1;have b:=Zfj rs 0;rw [c] at b;have e:=(Yfu.1 b).2.2 y d x (by simp);omega
def RecM (w:World) (m:Nat) (U:List (Nat×List UInt8)) (V:World->Nat×List UInt8->Value->Prop):Prop :=
 ∃ f,MpI w m U.length f/\(∀ x∈U,∃ v,f (x.1:Int)=some v/\V w x v)/\∀ i:Int,(∀ x∈U,(x.1:Int)≠i)->f i=none
section
variable {w w':World} {m:Nat} {U:List (Nat×List UInt8)} {V:World->Nat×List UInt8->Value->Prop}
theorem RecM.made (w:World):RecM (w.alloc (.map #[] 0)) w.heap.size [] V:=⟨_,YeE w,(fun _ h=>by cases h),fun _ _=>rfl⟩
theorem RecM.lt (h:RecM w m U V):m<w.heap.size:=by obtain ⟨f,a,_⟩:=h;exact a.lt
theorem RecM.ne {g:Nat} {t:TypeId} {cs:Array Value} (h:RecM w m U V) (hb:Blk w g t cs):m≠g:=by obtain ⟨f,a,_⟩:=h;exact a.ne hb
theorem RecM.obj (h:RecM w m U V):∃ o,w.heap[m]?=some o/\o.isCells=false:=by obtain ⟨f,a,_⟩:=h;obtain ⟨d,c,b⟩:=MpK.obj a;exact ⟨_,b,rfl⟩
theorem RecM.upd {S:Nat->Prop} (h:RecM w m U V) (hu:Upd S w w') (hs:¬ S m) (hV:∀ x v,V w x v->V w' x v):RecM w' m U V:=by obtain ⟨f,a,b,c⟩:=h;refine ⟨f,a.upd hu hs,fun x d=>?_,c⟩;obtain ⟨v,e,g⟩:=b x d;exact ⟨v,e,hV x v g⟩
theorem RecM.snoc {t e:TypeId} (h:RecM w m U V) (ht:Tryz.prog.underlying t=some (.map 3 e)) (hU:U.length<=65536) {x:Nat×List UInt8} (hx:∀ y∈U,y.1≠x.1) (hx2:x.1<=65536) (v:Value) :
 ∃ w',(Instr.mapUpdate t (.map (some m)) (.int .i64 (x.1:Int)) v).run Tryz.prog w=.ok () w'/\Upd (fun b=>b=m) w w'/\((∀ y u,V w y u->V w' y u)->V w' x v->RecM w' m (U++[x]) V):=by
 obtain ⟨f,k,l,c⟩:=h;obtain ⟨w',n,d,o⟩:=k.store ht (by unfold maxLen;omega) (i:=(x.1:Int)) qO v;have j:f (x.1:Int)=none:=c _ fun y a e=>hx y a qO;rw [j] at d;refine ⟨w',n,o,fun p q=>⟨_,by rw [Yaf];exact d,fun y a=>?_,fun i g=>?_⟩⟩
 · unfold mpPI;rcases YaR.1 a with a | a
   · obtain ⟨u,r,s⟩:=l y a;exact ⟨u,by rw [Yab (by have:=hx y a;omega)];exact r,p _ _ s⟩
   rw [YaH.1 a];exact ⟨v,Yac rfl,q⟩
 unfold mpPI;rw [Yab (fun e=>g x (by simp) e.symm)];exact c i fun y a=>g y (by simp [a])
theorem RecM.at_ {t e:TypeId} (h:RecM w m U V) (ht:Tryz.prog.underlying t=some (.map 3 e)) {z:Value} (hz:∀ w,(zeroValue e).run Tryz.prog w=.ok z w) {x:Nat×List UInt8} (hx:x∈U) (hx2:x.1<=65536) :
 ∃ v,V w x v/\∀ wx,Same w wx->(Instr.lookup t (.map (some m)) (.int .i64 (x.1:Int)) true).run Tryz.prog wx=.ok (.tuple #[v,.bool true]) wx/\(Instr.lookup t (.map (some m)) (.int .i64 (x.1:Int)) false).run Tryz.prog wx=.ok v wx:=by
 obtain ⟨f,b,c,k⟩:=h;obtain ⟨v,d,g⟩:=c x hx;refine ⟨v,g,fun wx j=>?_⟩;have a:=(b.same j).look ht (hz wx) (i:=(x.1:Int)) qO;rw [d] at a;exact a
theorem RecM.no {t e:TypeId} (h:RecM w m U V) (ht:Tryz.prog.underlying t=some (.map 3 e)) {z:Value} (hz:∀ w,(zeroValue e).run Tryz.prog w=.ok z w) {i:Int} (hi:∀ x∈U,(x.1:Int)≠i) (hi2 : -9223372036854775808<=i/\i<=9223372036854775807) (wx:World) (hs:Same w wx) :
 (Instr.lookup t (.map (some m)) (.int .i64 i) true).run Tryz.prog wx=.ok (.tuple #[z,.bool false]) wx:=by
 obtain ⟨f,b,d,c⟩:=h;have a:=((b.same hs).look ht (hz wx) hi2).1;rw [c i hi] at a;exact a
end
def VN (B:Nat) (w:World) (x:Nat×List UInt8) (v:Value):Prop:=∃ n A c,getN x.2=some n/\v=.agg (n.cellsV (.slice A n.labels.length c))/\w.ownsRow B 3 1 (.slice A n.labels.length c) n.labels.length (n.labels.map (Value.int .i64))
def VR (_:World) (x:Nat×List UInt8) (v:Value):Prop:=∃ r,getR x.2=some r/\v=.agg r.cells
def VP (_:World) (x:Nat×List UInt8) (v:Value):Prop:=∃ r,getP x.2=some r/\v=.agg r.cells
theorem ZgT:Tryz.prog.underlying 80=some (.map 3 115):=Tryz.underlying80
theorem Zsp:Tryz.prog.underlying 81=some (.map 3 124):=Tryz.underlying81
theorem Zpq (w:World):(zeroValue 115).run Tryz.prog w=.ok (.agg #[.int .i64 0,.int .i64 0,.slice none 0 0]) w:=by kernel_rfl
theorem ZvK (w:World):(zeroValue 124).run Tryz.prog w=.ok (.agg #[.bool false,.int .i64 0,.int .i64 0,.int .i64 0,.int .i64 0,.int .i64 0,.int .i64 0,.int .i64 0,.int .i64 0]) w:=by kernel_rfl
theorem VN.upd {S:Nat->Prop} {B:Nat} {w w':World} {x:Nat×List UInt8} {v:Value} (h:VN B w x v) (hu:Upd S w w') (hS:∀ b,S b->∀ cs,Blk w b 3 cs->False):VN B w' x v:=by obtain ⟨n,A,c,d,e,a⟩:=h;exact ⟨n,A,c,d,e,Zae a hu fun g f i=>by obtain ⟨cs,j⟩:=Zaf a f;exact hS g i _ j⟩
theorem RecM.prM {w:World} {m:Nat} {s:St1} (h:RecM w m (ZaZ 0 s.props.recs) VP):PrM w m s:=by
 obtain ⟨f,j,k,c⟩:=h;refine ⟨_,f,j,fun i=>?_⟩;unfold ZjQ;by_cases b:i<0
 · rw [Yac b,c i fun x _ e=>qO];rfl
 rw [Yab b];cases hd:s.props.at_ i.toNat with
 | none =>
   rw [c i fun x l e=>by have a:=Zds.1 l;rw [show x.1=i.toNat by omega,hd] at a;cases a]
   rfl
 | some d =>
   obtain ⟨v,a,r,g,rfl⟩:=k (i.toNat,d) (Zds.2 hd);simp only at a g;rw [show i=(i.toNat:Int) by omega,a];simp only [g];rfl
def chL (N:Nat) (U:List (Nat×List UInt8)):List L1:=U.foldl (fun L x=>L.set x.1 (ZgB (some x.2))) (List.replicate N ZaE)
theorem ZtN (N:Nat) (U:List (Nat×List UInt8)) (x:Nat×List UInt8):chL N (U++[x])=(chL N U).set x.1 (ZgB (some x.2)):=by unfold chL;rw [List.foldl_append];rfl
theorem Zsq:∀ (rs:List (Option (List UInt8))) (P:List L1) (i:Nat),P.length=i->(ZaZ i rs).foldl (fun L x=>L.set x.1 (ZgB (some x.2))) (P++List.replicate rs.length ZaE)=P++rs.map ZgB
 | [],P,i,_=>by simp [ZaZ]
 | none::rs,P,i,h=>by have a:=Zsq rs (P++[ZaE]) (i+1) (by simp [h]);rw [ZaZ,Yao,Ycz,YaF];simp only [Yak,List.singleton_append] at a;exact a
 | some d::rs,P,i,h=>by have a:=Zsq rs (P++[ZgB (some d)]) (i+1) (by simp [h]);rw [ZaZ,Yao,Ycz,YaF,Yei];simp only [Yak,List.singleton_append] at a;rw [<- a];congr 1;rw [YcU _ _ qO,h,YbC];rfl
theorem ZuT (rs:List (Option (List UInt8))):chL rs.length (ZaZ 0 rs)=rs.map ZgB:=Zsq rs [] 0 rfl
theorem ZtO (N:Nat):madeCells #[Value.bool false,.int .i64 0,.int .i64 0,.int .i64 0,.int .i64 0,.int .i64 0,.int .i64 0] (N*7)=((List.replicate N ZaE).flatMap L1.cells).toArray:=by
 have a:((List.replicate N ZaE).flatMap L1.cells).length=N*7:=by rw [ZbY YbU,Ybk]
 apply Array.ext
 · rw [size_madeCells,YbV,a]
 intro t d h;rw [size_madeCells] at d;have b:=Zgn YbU (List.replicate N ZaE) (t / 7) (t % 7) (by rw [Ybk];omega) (Nat.mod_lt _ qO);rw [show t / 7*7+t % 7=t by omega,List.getElem_replicate] at b;have g:t % 7<7:=Nat.mod_lt _ qO;have c:((List.replicate N ZaE).flatMap L1.cells)[t]?=some (((List.replicate N ZaE).flatMap L1.cells).toArray[t]):=by rw [YaA];exact Yar (by rw [a];exact d)
 rw [b] at c;have e:(madeCells #[Value.bool false,.int .i64 0,.int .i64 0,.int .i64 0,.int .i64 0,.int .i64 0,.int .i64 0] (N*7))[t]=#[Value.bool false,.int .i64 0,.int .i64 0,.int .i64 0,.int .i64 0,.int .i64 0,.int .i64 0][t % 7]!:=by simp [madeCells]
 rw [e];generalize t % 7=j at *;have f:j=0\/j=1\/j=2\/j=3\/j=4\/j=5\/j=6:=qO;rcases f with rfl | rfl | rfl | rfl | rfl | rfl | rfl <;> exact Yax c
theorem ZtP (w:World) (N:Nat) (hN:N<=65536):(Instr.makeSlice 70 (.int .i64 (N:Int)) (.int .i64 (N:Int))).run Tryz.prog w=.ok (.slice (some ⟨w.heap.size,0,none⟩) N N) (w.alloc (.cells ((List.replicate N ZaE).flatMap L1.cells).toArray 109)):=by obtain ⟨i,c,a⟩:=YcJ.1 Zjl;simp only [Ydm] at a;obtain ⟨d,e,f⟩:=a;have b:=run_make (P:=Tryz.prog) w 70 109 i _ Tryz.underlying70 c d .i64 .i64 (N:Int) (N:Int) qO (YfB _) (by rw [f];omega) qO;simp only [YaN,e,Value.cells] at b;rw [b,<-ZtO]
theorem ZvL (w:World) {B N:Nat} (hB:B<=w.heap.size) (hN:N<=65536):(w.alloc (.cells ((List.replicate N ZaE).flatMap L1.cells).toArray 109)).ownsRow B 109 7 (.slice (some ⟨w.heap.size,0,none⟩) N N) N ((List.replicate N ZaE).flatMap L1.cells):=by
 have a:((List.replicate N ZaE).flatMap L1.cells).length=N*7:=by rw [ZbY YbU,Ybk]
 refine ⟨a,.inr ⟨w.heap.size,N,_,rfl,hB,World.alloc_heap_new w _,Yae _,by unfold maxLen;omega,by simpa using a,?_⟩⟩;rw [<- a,List.take_length]
theorem Zor {d:List UInt8} {x:N1} (h:getN d=some x):ZbT x=true:=by
 unfold getN at h;split at h
 · rename_i a;cases h;exact a.1
 cases h
theorem Zsr {d:List UInt8} {x:R1} (h:getR d=some x):Zdw x=true:=by
 unfold getR at h;split at h
 · rename_i a;cases h;exact a.1
 cases h
theorem Zqz {d:List UInt8} {x:R1} (h:getR d=some x):ZgB (some d)=x.link:=by unfold ZgB;simp only [h]
end Go.Proofs.YtmkjfhnlnhceiaaGreatDoor
