/- Texts that the claim leans on: walks and plain laws, function by function. -/
import Derived.Test.YtkopcinhbjimiaaGreatDoorK09
import Derived.Test.YtkopcinhbjimiaaGreatDoorK10
import Derived.Shelf.Abstract
import Derived.Shelf.RegionOpen
import Derived.OwnWalkIn
import Derived.TacticsInMore
import Derived.LoopNIn
import Derived.LoopIn
import Derived.Test.YtkopcinhbjimiaaGreatDoorK01
import Derived.Test.YtkopcinhbjimiaaGreatDoorK08
import Derived.Test.YtkopcinhbjimiaaGreatDoorK04
import Derived.BigQuiet
import Derived.Deep.QuietTactic
set_option maxRecDepth 100000
set_option maxHeartbeats 16000000
namespace Go.Proofs.YtkopcinhbjimiaaGreatDoor
open Go.RowKit
structure BS where
 data:List UInt8
 A:Option Addr
 n:Nat
 c:Nat
def BS.cell (x:BS):Value:=.slice x.A x.n x.c
def BS.cells (x:BS):List Value:=[x.cell]
def TyB (w:World) (B b:Nat):Prop:=B<=b/\b<w.heap.size/\∃ cs fr,w.heap[b]?=some (.cells cs 5 fr)
theorem TyB.upd {S:Nat->Prop} {w w':World} {B b:Nat} (h:TyB w B b) (hu:Upd S w w') (hs:¬ S b):TyB w' B b :=
 ⟨h.1,by have:=hu.size;have:=h.2.1;omega,by rw [hu.block b h.2.1 hs];exact h.2.2⟩
theorem TyB.base {w:World} {B B' b:Nat} (h:TyB w B b) (hB:B'<=B):TyB w B' b:=⟨Nat.le_trans hB h.1,h.2⟩
theorem TyB.ne {w:World} {B b:Nat} {e:TypeId} (h:TyB w B b) (h':OfT w e b):5=e:=by
 obtain ⟨_,_,cs,fr,h1⟩:=h
 obtain ⟨cs',h2⟩:=h'
 unfold Blk at h2
 rw [h1] at h2
 injection h2 with h2
 injection h2
def OwnBs1 (w:World) (B:Nat) (x:BS):Prop:=Bytes w (TyB w B) x.A x.n x.c x.data
structure OwnBs (w:World) (B:Nat) (v:Value) (l:List BS):Prop where
 row:w.ownsRow B 28 1 v l.length (l.map BS.cell)
 each:∀ x∈l,OwnBs1 w B x
theorem info_bytes:(Tryz.prog.info? 28).map (fun i=>(i.zero,i.size,i.bytes))=some (some (.slice none 0 0),1,24):=by kernel_rfl
section
variable {w w':World} {B B':Nat} {v:Value} {l:List BS} {x:BS}
theorem OwnBs1.upd {S:Nat->Prop} (h:OwnBs1 w B x) (hu:Upd S w w') (hs:∀ b,TyB w B b->¬ S b):OwnBs1 w' B x:=(Row.upd h hu hs).mono fun b _ hb=>hb.upd hu (hs b hb)
theorem OwnBs1.same (h:OwnBs1 w B x) (hu:Same w w'):OwnBs1 w' B x:=h.upd hu fun _ _ f=>f
theorem OwnBs1.base (h:OwnBs1 w B x) (hB:B'<=B):OwnBs1 w B' x:=Row.mono h fun _ _ hb=>hb.base hB
theorem OwnBs1.type {S:Nat->Prop} {e':TypeId} (h:OwnBs1 w B x) (hu:Upd S w w') (hS:∀ g,g<w.heap.size->S g->OfT w e' g) (hne:5≠e'):OwnBs1 w' B x:=h.upd hu fun b hb hs=>hne (hb.ne (hS b hb.2.1 hs))
theorem OwnBs1.of {A:Option Addr} {n c:Nat} {bs:List UInt8} (h:OwnB w B (.slice A n c) bs) (hn:bs.length=n):OwnBs1 w B ⟨bs,A,n,c⟩:=by
 refine Row.mono (own_bytes_n hn h) fun b hl hb=>⟨hb.2,hl,?_⟩
 obtain ⟨cs,h1⟩:=own_ofT h (g:=b) (by have h9:A=some ⟨b,0,none⟩:=hb.1;rw [h9];rfl)
 exact ⟨cs,_,h1⟩
theorem OwnBs.nil_ (w:World) (B:Nat):OwnBs w B (.slice none 0 0) []:=⟨World.ownsRow_nil _ _ _ _,by simp⟩
theorem OwnBs.same (h:OwnBs w B v l) (hu:Same w w'):OwnBs w' B v l:=⟨own_same h.row hu,fun x hx=>(h.each x hx).same hu⟩
theorem OwnBs.base (h:OwnBs w B v l) (hB:B'<=B):OwnBs w B' v l:=⟨own_base h.row hB,fun x hx=>(h.each x hx).base hB⟩
theorem OwnBs.type {S:Nat->Prop} {e':TypeId} (h:OwnBs w B v l) (hu:Upd S w w') (hS:∀ g,g<w.heap.size->S g->OfT w e' g) (h1:5≠e') (h2:28≠e'):OwnBs w' B v l :=
 ⟨own_type h.row hu hS h2,fun x hx=>(h.each x hx).type hu hS h1⟩
theorem OwnBs.app {v':Value} {l2:List BS} (h:OwnBs w B v l) (hg:Grew w B 28 1 v (l.length+l2.length) (l.map BS.cell++l2.map BS.cell) v' w') (hx:∀ x∈l2,OwnBs1 w B x):OwnBs w' B v' (l++l2):=by
 have hS:∀ g,g<w.heap.size->v.ownBlock=some g->OfT w 28 g:=fun g _ hg=>own_ofT h.row hg
 refine ⟨?_,fun y hy=>?_⟩
 · rw [List.length_append,List.map_append]
   exact hg.own
 rcases List.mem_append.1 hy with hy | hy
 · exact (h.each y hy).type hg.upd hS (by decide)
 exact (hx y hy).type hg.upd hS (by decide)
theorem OwnBs.at_ {A:Option Addr} {n c:Nat} (h:OwnBs w B (.slice A n c) l) (hl:l.length=n) {i:Nat} (hi:i<n):∃ b o x,A=some ⟨b,o,none⟩/\b<w.heap.size/\l[i]?=some x/\x∈l/\w.cell? ⟨b,o+i,none⟩=some (.slice x.A x.n x.c):=by
 have hr:=h.row
 rw [hl] at hr
 have hk:=Row.of_own hr
 obtain ⟨x,hx⟩:∃ x,l[i]?=some x:=⟨_,List.getElem?_eq_getElem (by omega)⟩
 cases hA:A with
 | none =>
   have:=hk.nil hA
   have:=hk.le
   omega
 | some a =>
   obtain ⟨b,o,p⟩:=a
   obtain ⟨hp,hb,_,hc⟩:=hk.cell _ hA
   simp only at hb hp hc
   subst hp
   refine ⟨b,o,x,rfl,hb,hx,List.mem_of_getElem? hx,?_⟩
   have:=hc i x.cell (by rw [List.getElem?_map,hx];rfl)
   exact this
end
theorem OwnBs.empty (w:World) {B:Nat} (hB:B<=w.heap.size):OwnBs (w.alloc (.cells #[] 28)) B (.slice (some ⟨w.heap.size,0,none⟩) 0 0) [] :=
 ⟨World.ownsRow_made w #[] 0 hB (Nat.zero_le _) rfl,by simp⟩
theorem OwnBs1.lit (w:World) {B:Nat} (hB:B<=w.heap.size) (l:List UInt8) {cs:Array Value} {fr:Nat×Nat} (hc:cs.toList=l.map u8v) {n:Nat} (hn:l.length=n:=by rfl) (hm:n<=maxLen:=by simp [maxLen]):OwnBs1 (w.alloc (.cells cs 5 fr)) B ⟨l,some ⟨w.heap.size,0,none⟩,n,n⟩:=by
 have hg:(w.alloc (.cells cs 5 fr)).heap[w.heap.size]?=some (.cells cs 5 fr):=by
  show (w.heap.push _)[w.heap.size]?=_
  simp
 refine ⟨by simp [hn],Nat.le_refl _,hm,(fun h=>by cases h),fun a ha=>?_⟩
 cases ha
 refine ⟨rfl,by rw [World.size_alloc];simp,⟨hB,by rw [World.size_alloc];simp,cs,fr,hg⟩,fun i u hu=>?_⟩
 rw [<- hc] at hu
 show (w.alloc (.cells cs 5 fr)).cell? ⟨w.heap.size,0+i,none⟩=some u
 simp only [World.cell?,hg,Nat.zero_add]
 simpa using hu
end Go.Proofs.YtkopcinhbjimiaaGreatDoor
namespace Go.Proofs.YtkopcinhbjimiaaGreatDoor
open Go.RowKit Go.Shelf
attribute [local go_sem] Oper.semAt_some
theorem wpListIn_app {F:Fence} {nF:Nat} {P:Program} {w:World} {ops:Array Oper} {rest:List Oper} {o:Oper} {a:Act} {Q:Exit->Act->World->Prop} (hgd:o.guard=none) (s x:Operand) (t tx:TypeId)
 (ho:o.op=.call { callee:=.builtin .append,args:=#[s,x],argTypes:=#[t,tx] })
 (base:Nat) (e:TypeId) (k bytes:Nat) (z:Value) (ht:P.underlying t=some (.slice e)) (hi:(P.info? e).map (fun i=>(i.zero,i.size,i.bytes))=some (some z,k,bytes))
 (hzs:z.cells.size=k)
 (v:Value) (n:Nat) (xs:List Value) (hs:a.eval s=v) (hown:w.ownsRow base e k v n xs)
 {xv:Value} {m:Nat} {news:List Value} (hx:a.eval x=xv) (hsrc:Src P k tx xv m news w)
 (h63:n+m<=maxLen) (hbytes:(n+m+1000)*bytes<=211106232532992) (hbase:base<=w.heap.size)
 (h:∀ v' w',Grew w base e k v (n+m) (xs++news) v' w'->wpListIn F nF P ops Q rest (a.put o.dst v') w'):wpListIn F nF P ops Q (o::rest) a w:=by
 refine wpListIn_plain hgd fun K hK'=>?_
 obtain ⟨i,hi',hz,hk,hby⟩:=info_parts hi
 clear hi
 subst hk
 subst hby
 obtain ⟨v',w',hr,h2⟩:=run_app_src (P:=P) w t tx o.type base e i z ht hi' hz hzs v n xs hown xv m news hsrc h63 hbytes hbase
 unfold Oper.wpIn
 refine ⟨?_,?_⟩
 · simp [Oper.about,ho,resolve,Target.leads,Sem.run_pure]
 rw [Oper.semAt_plain F _ _ (by rw [ho];intro c hc';cases hc')]
 simp [execOp,ho,resolve,invoke,builtin,hs,hx,hr,Result.andThen]
 exact hK' _ _ (h v' w' h2)
def BS.args (x:BS):Array Value:=#[.slice x.A x.n x.c]
structure PcR (L:List (List UInt8)) (B:Nat) (pre:List BS) (x:BS) (W:World):Prop where
 at_:L[pre.length]?=some x.data
 row:OwnBs1 W B x
theorem ItSet.cells {T:TypeId->Prop} {B k:Nat} {W:World} {cs:Array Value} {t:TypeId} {fr:Nat×Nat} (h:ItSet T B W k) (hk:W.heap[k]?=some (.cells cs t fr)):T t:=by
 obtain ⟨_,o,h1,h2⟩:=h
 rw [hk] at h1
 injection h1 with h1
 subst h1
 rcases h2 with h2 | ⟨cs',t',fr',h3,h4⟩
 · cases h2
 injection h3 with _ h3
 subst h3
 exact h4
theorem Blk.it {U:TypeId->Prop} {B g:Nat} {t:TypeId} {cs:Array Value} {W W':World} (h:Blk W g t cs) (hu:Upd (ItSet U B W) W W') (ht:¬ U t):Blk W' g t cs :=
 h.upd hu fun hs=>ht (hs.cells h)
theorem Upd.it {T:TypeId->Prop} {B:Nat} {W W':World} (h:Same W W'):Upd (ItSet T B W) W W':=h.mono fun _ _ f=>f.elim
theorem OwnBs1.it {T:TypeId->Prop} {B B':Nat} {W W':World} {x:BS} (h:OwnBs1 W B x) (hu:Upd (ItSet T B' W) W W') (ht:¬ T 5):OwnBs1 W' B x :=
 h.upd hu fun _ ⟨_,_,_,_,h1⟩ hs=>ht (hs.cells h1)
theorem own_it {T:TypeId->Prop} {base B':Nat} {e:TypeId} {k n:Nat} {v:Value} {xs:List Value} {W W':World} (h:W.ownsRow base e k v n xs) (hu:Upd (ItSet T B' W) W W') (ht:¬ T e):W'.ownsRow base e k v n xs :=
 own_upd h hu fun b hb hs=>by
  obtain ⟨cs,h1⟩:=own_ofT h hb
  exact ht (hs.cells h1)
theorem OwnBs.it {T:TypeId->Prop} {B B':Nat} {W W':World} {v:Value} {l:List BS} (h:OwnBs W B v l) (hu:Upd (ItSet T B' W) W W') (ht:¬ T 5) (ht':¬ T 28):OwnBs W' B v l :=
 ⟨own_it h.row hu ht',fun x hx=>(h.each x hx).it hu ht⟩
theorem keepsFrom_updS {S:Nat->Prop} {B:Nat} {W W':World} (hu:Upd S W W') (h:∀ k,S k->B<=k->∀ o,W.heap[k]?=some o->o.isCells=true):KeepsFrom B W W' :=
 ⟨hu.size,fun k o hB hk ho=>by
  by_cases hs:S k
  · rw [h k hs hB o hk] at ho;cases ho
  exact (hu.block k (Array.getElem?_eq_some_iff.1 hk).1 hs).trans hk⟩
theorem OfT.cells {w:World} {e:TypeId} {g:Nat} (h:OfT w e g) {o:Obj} (ho:w.heap[g]?=some o):o.isCells=true:=by
 obtain ⟨cs,h1⟩:=h
 unfold Blk at h1
 rw [ho] at h1
 injection h1 with h1
 subst h1
 rfl
theorem OfT.itSet {w:World} {e:TypeId} {g B:Nat} {T:TypeId->Prop} (h:OfT w e g) (hB:B<=g) (ht:T e):ItSet T B w g:=by
 obtain ⟨cs,h1⟩:=h
 exact ⟨hB,_,h1,.inr ⟨_,_,_,rfl,ht⟩⟩
theorem Same.it {T:TypeId->Prop} {B:Nat} {w W W':World} (h:Same w W) (hu:Upd (ItSet T B W) W W') (hB:w.heap.size<=B):Same w W' :=
 h.trans hu fun b hb hs=>by have:=hs.1;omega
theorem appendSeq_spec {T U:TypeId->Prop} (hT1:¬ T 5) (hT2:¬ T 28) (hT3:¬ T 51) (hU2:U 28) (hU3:U 51) {gf:Nat} {lb:Array Value} (eg:∀ args w,(callFunc gf args).run Tryz.prog w=.ok (.enter gf args) w)
 (w:World) (B0:Nat) (hB0:B0<=w.heap.size) (L:List (List UInt8)) (hL:L.length<=100000) {Sp:List BS->Prop}
 (hseq:∀ w1,Same w w1->SeqR T Fence.wide 4 Tryz.prog gf lb BS.args (fun _ W W'=>Upd (ItSet U B0 W) W W') (PcR L w.heap.size) (fun xs=>xs.map BS.data=L) Sp w1) :
 Calls Tryz.prog 61 #[.slice none 0 0,.func (.func gf) #[] lb] w fun e w'=>∃ (A:Option Addr) (c:Nat) (l:List BS),e=.returned (.slice A l.length c)/\OwnBs w' w.heap.size (.slice A l.length c) l/\l.map BS.data=L/\Same w w':=by
 have s1:=(Upd.refl (fun _=>False) w).alloc (.cells #[.slice none 0 0] 51)
 have hb1:=Blk.new w 51 #[.slice none 0 0]
 have hz1:(w.alloc (.cells #[.slice none 0 0] 51)).heap.size=w.heap.size+1:=World.size_alloc _ _
 have hq:=hseq _ s1
 have HO1:=OwnBs.nil_ (w.alloc (.cells #[.slice none 0 0] 51)) w.heap.size
 clear hseq
 refine (callsIn_wide (n:=5)).1 ?_
 refine callsIn_of_wp_marks Tryz.func61 rfl trivial ?_ rfl
 simp only [Tryz.ntmps61,List.size_toArray,List.length_cons,List.length_nil,Nat.reduceAdd,Nat.reduceSub,Array.replicate_succ,Array.replicate_zero,List.push_toArray,List.append_toArray,List.nil_append,List.cons_append]
 gi_wp2
 generalize hw1:w.alloc (.cells #[.slice none 0 0] 51)=w1 at *
 generalize hg0:w.heap.size=g0 at *
 refine wpIn_rangeFunc_R (T:=T) rfl (by omega) (gf:=gf) (lb:=lb) rfl trivial eg hq ItSet.trans (fun x W l o o' hl ho hc=>(Upd.refl _ W).grown (grownBy_putObj' W l o') fun k e=>.inl (by cases e;exact ItSet.nc ho hc (by omega))) (Below.refl _ _) (fun _=>rfl)
  (fun pre W=>(∃ (A:Option Addr) (c:Nat),Blk W g0 51 #[.slice A pre.length c]/\OwnBs W g0 (.slice A pre.length c) pre)/\Same w W)
  (fun _ _ _=>False)
  (fun pre W W' ⟨⟨A,c,h1,h2⟩,h3⟩ hu=>⟨⟨A,c,h1.it hu hT3,h2.it hu hT1 hT2⟩,h3.it hu (by omega)⟩)
  (fun _ _ _ _ f _=>f)
  ⟨⟨none,0,hb1,HO1⟩,s1⟩
  (fun pre x a' W=>a'={ tmps:=#[.slice none 0 0,.func (.func gf) #[] lb,.pointer (some ⟨g0,0,none⟩),undef,.slice none 0 0,.slice x.A x.n x.c,.func (.func gf) #[] lb,.slice x.A x.n x.c,undef,undef,undef,undef,undef],defers:=[] }/\PcR L g0 pre x W)
  (fun pre x a' W l o o' hl ho hc h=>⟨h.1,h.2.at_,h.2.row.upd ((Upd.refl (fun b=>b=l) W).grown (grownBy_putObj' W l o') fun k e=>.inl (by injection e with e;exact e.symm)) fun b hb e=>by
    subst e
    obtain ⟨_,_,cs,fr,h4⟩:=hb
    rw [ho] at h4
    injection h4 with h4
    subst h4
    cases hc⟩) ?assign ?body ?done ?stop
 case assign =>
  intro l pre x W K hi hr hK
  dsimp only [BS.args]
  gi_wp2
  exact hK _ _ (KeepsFrom.refl _ _) (Upd.refl _ _) hi ⟨rfl,hr⟩
 case body =>
  rintro l pre x a' W hl hlo ⟨⟨A,c,hb,ho⟩,hs⟩ ⟨rfl,hp⟩
  have hlt:pre.length<L.length:=(List.getElem?_eq_some_iff.1 hp.at_).1
  have c0:W.cell? ⟨g0,0,none⟩=some (.slice A pre.length c):=hb.cell 0
  have sA:=(Upd.refl (fun _=>False) W).alloc (.cells #[.slice x.A x.n x.c] 28)
  have hrow:=own_same ho.row sA
  have hsrc:=Row.of_blk (Blk.new W 28 #[.slice x.A x.n x.c]) (k:=1) (n:=1) (c:=1) rfl (Nat.le_refl _) (by simp [maxLen])
  have hbA:=hb.same sA
  have hzW:=hs.size
  gi_wp2_with (gi_at_builtin;refine wpListIn_app rfl (.tmp 8) (.tmp 10) _ _ rfl g0 28 1 24 _ Tryz.underlying51 info_bytes rfl (.slice A pre.length c) pre.length (pre.map BS.cell) rfl hrow rfl (src_row Tryz.underlying51 hsrc (by simp [Value.oneCell'])) (by unfold maxLen;omega) (by omega) (by simp;omega) ?_;intro v9 w9 hg;have hF:=field_app (i:=0) hb ho.row (by decide) sA hg;obtain ⟨A9,c9,rfl⟩:=own_form hg.own;have hb9:=hbA.upd hg.upd fun e=>hbA.ne_own hrow (by decide) e;have f9:=hb9.frozen 0;have e9:w9.cell? ⟨g0,0,none⟩=some (.slice A pre.length c):=hb9.cell 0)
  obtain ⟨h1,h2,h3⟩:=hF
  have hln:(pre++[x]).length=pre.length+1:=by simp
  have hS:∀ k,(k=g0\/(Value.slice A pre.length c).ownBlock=some k)->OfT W 51 k\/OfT W 28 k:=fun k hk=>hk.elim (fun e=>.inl (e ▸ ⟨_,hb⟩)) fun e=>.inr (own_ofT ho.row e)
  have hlo:∀ k,(k=g0\/(Value.slice A pre.length c).ownBlock=some k)->g0<=k:=fun k hk=>hk.elim (fun e=>Nat.le_of_eq e.symm) fun e=>(ho.row.lt k e).1
  refine ⟨keepsFrom_updS h3 fun k hk _ o hko=>(hS k hk).elim (fun h=>h.cells hko) fun h=>h.cells hko,h3.mono fun k _ hk=>(hS k hk).elim (fun h=>h.itSet (by have:=hlo k hk;omega) hU3) fun h=>h.itSet (by have:=hlo k hk;omega) hU2,⟨A9,c9,by rw [hln];exact h1,⟨?_,?_⟩⟩,hs.trans h3 fun b hb' hk=>by have:=hlo b hk;omega⟩
  · rw [hln,List.map_append]
    exact h2
  intro y hy
  have ht:∀ k,TyB W g0 k->¬ (k=g0\/(Value.slice A pre.length c).ownBlock=some k):=fun k hk h=>(hS k h).elim (fun h=>absurd (hk.ne h) (by decide)) fun h=>absurd (hk.ne h) (by decide)
  rcases List.mem_append.1 hy with hy | hy
  · exact (ho.each y hy).upd h3 ht
  obtain rfl:y=x:=by simpa using hy
  exact hp.row.upd h3 ht
 case done =>
  rintro D xs W hD hS ⟨⟨A,c,hb,ho⟩,hs⟩ hK
  have c0:W.cell? ⟨g0,0,none⟩=some (.slice A xs.length c):=hb.cell 0
  gi_wp2
  refine ⟨by simp,.inl ⟨_,_,rfl,run_takeDeferred hK,?_⟩⟩
  have hu:=(Upd.refl (ItSet T g0 W) W).grown (grownBy_putObj' W D (.deferred none)) fun k e=>.inl (by cases e;exact ItSet.nc hK rfl (by omega))
  exact ⟨_,results_tmp rfl _ _ _,A,c,xs,rfl,by rw [hg0];exact ho.it hu hT1 hT2,hS,hs.it hu (by omega)⟩
 rintro D c pre W _ _ h _
 exact h.elim
theorem collect_spec {T U:TypeId->Prop} (hT1:¬ T 5) (hT2:¬ T 28) (hT3:¬ T 51) (hU2:U 28) (hU3:U 51) {gf:Nat} {lb:Array Value} (eg:∀ args w,(callFunc gf args).run Tryz.prog w=.ok (.enter gf args) w)
 (w:World) (B0:Nat) (hB0:B0<=w.heap.size) (L:List (List UInt8)) (hL:L.length<=100000) {Sp:List BS->Prop}
 (hseq:∀ w1,Same w w1->SeqR T Fence.wide 4 Tryz.prog gf lb BS.args (fun _ W W'=>Upd (ItSet U B0 W) W W') (PcR L w.heap.size) (fun xs=>xs.map BS.data=L) Sp w1) :
 Calls Tryz.prog 31 #[.func (.func gf) #[] lb] w fun e w'=>∃ (A:Option Addr) (c:Nat) (l:List BS),e=.returned (.slice A l.length c)/\OwnBs w' w.heap.size (.slice A l.length c) l/\l.map BS.data=L/\Same w w':=by
 have HC:=qH (appendSeq_spec hT1 hT2 hT3 hU2 hU3 eg w B0 hB0 L hL hseq)
 clear hseq
 go_enter Tryz.func31,Tryz.ntmps31
 go_wp2_with fail
 refine HC.out.mono ?_
 rintro e w' ⟨A,c,l,rfl,h1,h2,h3⟩
 generalize hn:l.length=n at *
 go_wp2
 go_ret
 subst hn
 exact ⟨A,c,l,rfl,h1,h2,h3⟩
end Go.Proofs.YtkopcinhbjimiaaGreatDoor
namespace Go.Proofs.YtkopcinhbjimiaaGreatDoor
theorem decA_enc {g:GVal} (h:chk g=0) (hf:g.Fits):decA (enc g)=(g,0):=decD_enc h hf
theorem decA_back {l:List UInt8} (h:(decA l).2=0):chk (decA l).1=0/\(decA l).1.Fits/\enc (decA l).1=l:=decD_back (Prod.ext rfl h)
section rs
variable {s:RS} {t l:List UInt8}
theorem RS.num_enc {k n:Nat} (hk:isWidthB k=true) (hn:n<256 ^ k):RS.num ⟨beb k n++t,0⟩ k=(n,⟨t,0⟩):=by
 have hl:=beb_len k n
 rw [RS.num_ok hk (by rw [List.length_append,hl];omega),List.take_append_of_le_length (by omega),List.take_of_length_le (by omega),be_beb,Nat.mod_eq_of_lt hn,List.drop_append_of_le_length (by omega),List.drop_of_length_le (by omega),List.nil_append]
theorem RS.take_enc {n:Nat} (h:l.length=n):RS.take ⟨l++t,0⟩ n true=(l,⟨t,0⟩):=by
 rw [RS.take_ok (by rw [List.length_append];omega),List.take_append_of_le_length (by omega),List.take_of_length_le (by omega),List.drop_append_of_le_length (by omega),List.drop_of_length_le (by omega),List.nil_append]
theorem RS.take_back {n:Nat} (h:(s.take n true).2.err=0):s.err=0/\s.left=(s.take n true).1++(s.take n true).2.left/\(s.take n true).1.length=n:=by
 by_cases he:s.err=0
 · obtain ⟨left,err⟩:=s
   obtain rfl:err=0:=he
   by_cases hl:n<=left.length
   · rw [RS.take_ok hl]
     exact ⟨rfl,(List.take_append_drop n left).symm,by simp only [List.length_take];omega⟩
   rw [RS.take_short (by omega)] at h
   cases h
 rw [RS.take_err he] at h
 exact absurd h he
theorem RS.num_back {k:Nat} (hk:isWidthB k=true) (h:(s.num k).2.err=0):s.err=0/\s.left=beb k (s.num k).1++(s.num k).2.left/\(s.num k).1<256 ^ k:=by
 have e2:(s.num k).2=(s.take k true).2:=by unfold RS.num;rw [hk]
 have e1:(s.num k).1=be (s.take k true).1:=by unfold RS.num;rw [hk]
 rw [e2] at h ⊢
 obtain ⟨h1,h2,h3⟩:=RS.take_back h
 have hb:=be_lt (s.take k true).1
 rw [h3] at hb
 rw [e1]
 exact ⟨h1,by rw [beb_be h3 (Nat.mod_eq_of_lt hb)];exact h2,hb⟩
theorem RS.num1_back (h:(s.num 1).2.err=0):s.err=0/\s.left=beb 1 (s.num 1).1++(s.num 1).2.left/\(s.num 1).1<256:=RS.num_back (k:=1) (by decide) h
theorem RS.num2_back (h:(s.num 2).2.err=0):s.err=0/\s.left=beb 2 (s.num 2).1++(s.num 2).2.left/\(s.num 2).1<65536:=RS.num_back (k:=2) (by decide) h
theorem RS.num4_back (h:(s.num 4).2.err=0):s.err=0/\s.left=beb 4 (s.num 4).1++(s.num 4).2.left/\(s.num 4).1<4294967296:=RS.num_back (k:=4) (by decide) h
theorem RS.num1_enc {n:Nat} (hn:n<256):RS.num ⟨beb 1 n++t,0⟩ 1=(n,⟨t,0⟩):=RS.num_enc (k:=1) (by decide) hn
theorem RS.num2_enc {n:Nat} (hn:n<65536):RS.num ⟨beb 2 n++t,0⟩ 2=(n,⟨t,0⟩):=RS.num_enc (k:=2) (by decide) hn
theorem RS.num4_enc {n:Nat} (hn:n<4294967296):RS.num ⟨beb 4 n++t,0⟩ 4=(n,⟨t,0⟩):=RS.num_enc (k:=4) (by decide) hn
theorem RS.name_enc {x:ByteArray} (hx:x.size<=255):RS.name ⟨encName x++t,0⟩=(x,⟨t,0⟩):=by
 have e:encName x++t=beb 1 x.size++(x.data.toList++t):=by unfold encName;rw [List.append_assoc]
 unfold RS.name
 have h1:=RS.num1_enc (t:=x.data.toList++t) (n:=x.size) (by omega)
 rw [e]
 rw [h1]
 simp only
 rw [RS.take_enc (toList_size x)]
theorem RS.name_back (h:s.name.2.err=0):s.err=0/\s.left=encName s.name.1++s.name.2.left/\s.name.1.size<=255:=by
 have h':((s.num 1).2.take ((s.num 1).1:Nat) true).2.err=0:=h
 obtain ⟨h1,h2,h3⟩:=RS.take_back h'
 obtain ⟨h4,h5,h6⟩:=RS.num1_back h1
 have hz:s.name.1.size=(s.num 1).1:=h3
 refine ⟨h4,?_,by rw [hz];omega⟩
 unfold encName
 rw [hz,h5,List.append_assoc]
 congr 1
theorem RS.names_enc:∀ (ls:List ByteArray),(∀ x∈ls,x.size<=255)->RS.names ls.length ⟨ls.flatMap encName++t,0⟩=(ls,⟨t,0⟩)
 | [],_=>rfl
 | x::ls,h=>by
   have h1:=RS.name_enc (t:=ls.flatMap encName++t) (h x (by simp))
   have h2:=RS.names_enc ls fun y hy=>h y (by simp [hy])
   simp only [List.length_cons,RS.names,List.flatMap_cons,List.append_assoc]
   rw [h1]
   simp only
   rw [h2]
theorem RS.names_back:∀ (k:Nat) (s:RS),(RS.names k s).2.err=0->s.err=0/\s.left=(RS.names k s).1.flatMap encName++(RS.names k s).2.left/\(RS.names k s).1.length=k/\∀ x∈(RS.names k s).1,x.size<=255
 | 0,s,h=>⟨h,by simp [RS.names],rfl,by simp [RS.names]⟩
 | k+1,s,h=>by
   obtain ⟨h1,h2,h3,h4⟩:=RS.names_back k s.name.2 h
   obtain ⟨h5,h6,h7⟩:=RS.name_back h1
   refine ⟨h5,?_,by simp [RS.names,h3],?_⟩
   · rw [h6,h2]
     simp [RS.names]
   intro x hx
   simp only [RS.names,List.mem_cons] at hx
   rcases hx with rfl | hx
   · exact h7
   exact h4 x hx
def GPr.Wr (p:GPr):Prop:=p.key.size<=255/\chk p.val=0/\p.val.Fits/\(enc p.val).length<=65535
theorem RS.raw2_enc (h:l.length<=65535):RS.raw2 ⟨beb 2 l.length++(l++t),0⟩=(l,⟨t,0⟩):=by
 unfold RS.raw2
 have h1:=RS.num2_enc (t:=l++t) (n:=l.length) (by omega)
 rw [h1]
 simp only
 rw [RS.take_enc rfl]
theorem RS.raw2_back (h:s.raw2.2.err=0):s.err=0/\s.left=beb 2 s.raw2.1.length++(s.raw2.1++s.raw2.2.left)/\s.raw2.1.length<=65535:=by
 have h':((s.num 2).2.take ((s.num 2).1:Nat) true).2.err=0:=h
 obtain ⟨h1,h2,h3⟩:=RS.take_back h'
 obtain ⟨h4,h5,h6⟩:=RS.num2_back h1
 have hz:s.raw2.1.length=(s.num 2).1:=h3
 refine ⟨h4,?_,by rw [hz];omega⟩
 rw [hz,h5]
 congr 1
theorem RS.prs_enc:∀ (ps:List GPr),(∀ p∈ps,p.Wr)->RS.prs ps.length ⟨ps.flatMap encPr++t,0⟩=(some ps,⟨t,0⟩)
 | [],_=>rfl
 | p::ps,h=>by
   obtain ⟨a,b,c,d⟩:=h p (by simp)
   have h1:=RS.name_enc (t:=beb 2 (enc p.val).length++(enc p.val++(ps.flatMap encPr++t))) a
   have h2:=RS.raw2_enc (t:=ps.flatMap encPr++t) d
   have h3:=RS.prs_enc ps fun y hy=>h y (by simp [hy])
   have h4:=decA_enc b c
   simp only [List.length_cons,RS.prs,List.flatMap_cons,List.append_assoc,encPr]
   rw [h1]
   simp only
   rw [h2]
   simp only
   rw [h4,if_neg (by simp)]
   rw [show (List.flatMap encPr ps)=ps.flatMap encPr from rfl] at h3
   rw [h3]
   rfl
theorem RS.prs_back:∀ (k:Nat) (s:RS) (ps:List GPr),(RS.prs k s).1=some ps->(RS.prs k s).2.err=0->s.err=0/\s.left=ps.flatMap encPr++(RS.prs k s).2.left/\ps.length=k/\∀ p∈ps,p.Wr
 | 0,s,ps,h,he=>by
   simp only [RS.prs,Option.some.injEq] at h he ⊢
   subst h
   exact ⟨he,rfl,rfl,by simp⟩
 | k+1,s,ps,h,he=>by
   simp only [RS.prs] at h he ⊢
   by_cases hd:(decA s.name.2.raw2.1).2≠0
   · rw [if_pos hd] at h;cases h
   rw [if_neg hd] at h he ⊢
   simp only at h he ⊢
   obtain ⟨ps',hp,rfl⟩:=Option.map_eq_some_iff.1 h
   obtain ⟨h1,h2,h3,h4⟩:=RS.prs_back k _ ps' hp he
   obtain ⟨h5,h6,h7⟩:=RS.raw2_back h1
   obtain ⟨h8,h9,h10⟩:=RS.name_back h5
   obtain ⟨d1,d2,d3⟩:=decA_back (Decidable.not_not.1 hd)
   refine ⟨h8,?_,by simp [h3],?_⟩
   · rw [h9,h6,h2]
     simp only [List.flatMap_cons,encPr,d3,List.append_assoc]
   intro p hp'
   rcases List.mem_cons.1 hp' with rfl | hp'
   · exact ⟨h10,d1,d2,by simp only [d3];exact h7⟩
   exact h4 p hp'
theorem RS.props_enc {ps:List GPr} (hn:ps.length<=255) (h:∀ p∈ps,p.Wr):RS.props ⟨encPs ps,0⟩=some ps:=by
 have h1:=RS.num1_enc (t:=ps.flatMap encPr) (n:=ps.length) (by omega)
 have h2:=RS.prs_enc (t:=[]) ps h
 rw [List.append_nil] at h2
 unfold RS.props encPs
 rw [h1]
 simp only
 rw [h2]
 simp
theorem RS.props_back {ps:List GPr} (h:s.props=some ps):s.err=0/\s.left=encPs ps/\ps.length<=255/\∀ p∈ps,p.Wr:=by
 unfold RS.props at h
 split at h
 · rename_i hc
   obtain ⟨h1,h2,h3,h4⟩:=RS.prs_back _ _ _ h hc.1
   obtain ⟨h5,h6,h7⟩:=RS.num1_back h1
   have h2':(s.num 1).2.left=ps.flatMap encPr:=by
    have:=h2
    rw [hc.2,List.append_nil] at this
    exact this
   refine ⟨h5,?_,by rw [h3];omega,h4⟩
   unfold encPs
   rw [h6,h2',h3]
 cases h
end rs
def Id32 (n:Int):Prop:=0<=n/\n<4294967296
theorem id32_u64 {n:Int} (h:Id32 n):u64 n<4294967296/\((u64 n:Nat):Int)=n:=by
 unfold Id32 at h
 unfold u64
 refine ⟨?_,?_⟩
 · omega
 omega
theorem u64_nat {n:Nat} (h:n<18446744073709551616):u64 (n:Int)=n:=by unfold u64;omega
structure GNode.Wr (x:GNode):Prop where
 id:Id32 x.id
 n:x.labels.length<=255
 lab:∀ l∈x.labels,l.size<=255
 np:x.props.length<=255
 pr:∀ p∈x.props,p.Wr
structure GRel.Wr (x:GRel):Prop where
 id:Id32 x.id
 src:Id32 x.src
 dst:Id32 x.dst
 type:x.type.size<=255
 np:x.props.length<=255
 pr:∀ p∈x.props,p.Wr
theorem pNd_enc {x:GNode} (h:x.Wr):pNd (encNd x)=some x:=by
 obtain ⟨i1,i2⟩:=id32_u64 h.id
 have h1:=RS.num4_enc (t:=beb 1 x.labels.length++(x.labels.flatMap encName++encPs x.props)) (n:=u64 x.id) i1
 have h2:=RS.num1_enc (t:=x.labels.flatMap encName++encPs x.props) (n:=x.labels.length) (by have:=h.n;omega)
 have h3:=RS.names_enc (t:=encPs x.props) x.labels h.lab
 have h4:=RS.props_enc h.np h.pr
 unfold pNd encNd
 rw [h1]
 simp only
 rw [h2]
 simp only
 rw [h3]
 simp only
 rw [h4,i2]
 rfl
theorem pNd_back {l:List UInt8} {x:GNode} (h:pNd l=some x):encNd x=l/\x.Wr:=by
 unfold pNd at h
 obtain ⟨ps,hp,rfl⟩:=Option.map_eq_some_iff.1 h
 obtain ⟨a1,a2,a3,a4⟩:=RS.props_back hp
 obtain ⟨b1,b2,b3,b4⟩:=RS.names_back _ _ a1
 obtain ⟨c1,c2,c3⟩:=RS.num1_back b1
 obtain ⟨d1,d2,d3⟩:=RS.num4_back c1
 refine ⟨?_,⟨⟨Int.natCast_nonneg _,by simp only;omega⟩,by simp only;rw [b3];omega,b4,a3,a4⟩⟩
 unfold encNd
 simp only at d2 ⊢
 rw [u64_nat (by exact Nat.lt_trans d3 (by decide)),b3]
 refine Eq.trans ?_ d2.symm
 congr 1
 refine Eq.trans ?_ c2.symm
 congr 1
 rw [b2,a2]
theorem pRl_enc {x:GRel} (h:x.Wr):pRl (encRl x)=some x:=by
 obtain ⟨i1,i2⟩:=id32_u64 h.id
 obtain ⟨j1,j2⟩:=id32_u64 h.src
 obtain ⟨k1,k2⟩:=id32_u64 h.dst
 have h1:=RS.num4_enc (t:=beb 4 (u64 x.src)++(beb 4 (u64 x.dst)++(encName x.type++encPs x.props))) (n:=u64 x.id) i1
 have h2:=RS.num4_enc (t:=beb 4 (u64 x.dst)++(encName x.type++encPs x.props)) (n:=u64 x.src) j1
 have h3:=RS.num4_enc (t:=encName x.type++encPs x.props) (n:=u64 x.dst) k1
 have h4:=RS.name_enc (t:=encPs x.props) h.type
 have h5:=RS.props_enc h.np h.pr
 unfold pRl encRl
 rw [h1]
 simp only
 rw [h2]
 simp only
 rw [h3]
 simp only
 rw [h4]
 simp only
 rw [h5,i2,j2,k2]
 rfl
theorem pRl_back {l:List UInt8} {x:GRel} (h:pRl l=some x):encRl x=l/\x.Wr:=by
 unfold pRl at h
 obtain ⟨ps,hp,rfl⟩:=Option.map_eq_some_iff.1 h
 obtain ⟨a1,a2,a3,a4⟩:=RS.props_back hp
 obtain ⟨b1,b2,b3⟩:=RS.name_back a1
 obtain ⟨c1,c2,c3⟩:=RS.num4_back b1
 obtain ⟨d1,d2,d3⟩:=RS.num4_back c1
 obtain ⟨f1,f2,f3⟩:=RS.num4_back d1
 refine ⟨?_,⟨⟨Int.natCast_nonneg _,by simp only;omega⟩,⟨Int.natCast_nonneg _,by simp only;omega⟩,⟨Int.natCast_nonneg _,by simp only;omega⟩,b3,a3,a4⟩⟩
 unfold encRl
 simp only at f2 ⊢
 rw [u64_nat (by exact Nat.lt_trans f3 (by decide)),u64_nat (by exact Nat.lt_trans d3 (by decide)),u64_nat (by exact Nat.lt_trans c3 (by decide))]
 refine Eq.trans ?_ f2.symm
 congr 1
 refine Eq.trans ?_ d2.symm
 congr 1
 refine Eq.trans ?_ c2.symm
 congr 1
 rw [b2,a2]
end Go.Proofs.YtkopcinhbjimiaaGreatDoor
namespace Go.Proofs.YtkopcinhbjimiaaGreatDoor
open Go.RowKit
structure FR where
 type:Nat
 data:List UInt8
 A:Option Addr
 n:Nat
 c:Nat
def FR.cells (x:FR):List Value:=[.int .i64 (x.type:Int),.slice x.A x.n x.c]
def FR.dat (x:FR):GFr:=⟨x.type,x.data⟩
theorem FR.two (x:FR):x.cells.length=2:=rfl
theorem FR.one (x:FR):∀ u∈x.cells,u.oneCell'=true:=by
 intro u hu
 simp only [FR.cells,List.mem_cons,List.not_mem_nil,or_false] at hu
 rcases hu with rfl | rfl <;> rfl
structure OwnFr (w:World) (B:Nat) (x:FR):Prop where
 row:w.ownsRow B 5 1 (.slice x.A x.n x.c) x.n (x.data.map u8v)
 ty:x.type<=255
 len:x.data.length=x.n
 max:x.n<=1048576
structure OwnFs (w:World) (B:Nat) (v:Value) (fs:List FR):Prop where
 row:w.ownsRow B 84 2 v fs.length (fs.flatMap FR.cells)
 each:∀ x∈fs,OwnFr w B x
section
variable {w w':World} {B B':Nat} {v:Value} {fs:List FR} {x:FR}
theorem OwnFr.same (h:OwnFr w B x) (hu:Same w w'):OwnFr w' B x:=⟨own_same h.row hu,h.ty,h.len,h.max⟩
theorem OwnFr.base (h:OwnFr w B x) (hB:B'<=B):OwnFr w B' x:=⟨own_base h.row hB,h.ty,h.len,h.max⟩
theorem OwnFr.upd {S:Nat->Prop} (h:OwnFr w B x) (hu:Upd S w w') (hs:∀ g,(Value.slice x.A x.n x.c).ownBlock=some g->¬ S g):OwnFr w' B x:=⟨own_upd h.row hu hs,h.ty,h.len,h.max⟩
theorem OwnFr.type {S:Nat->Prop} {e':TypeId} (h:OwnFr w B x) (hu:Upd S w w') (hS:∀ g,g<w.heap.size->S g->OfT w e' g) (hne:5≠e'):OwnFr w' B x:=⟨own_type h.row hu hS hne,h.ty,h.len,h.max⟩
theorem OwnFr.bytes (h:OwnFr w B x):Bytes w (fun b=>B<=b/\b<w.heap.size) x.A x.n x.c x.data:=(Row.of_own h.row).mono fun _ hb hh=>⟨hh.2,hb⟩
theorem OwnFs.nil_ (w:World) (B:Nat):OwnFs w B (.slice none 0 0) []:=⟨World.ownsRow_nil _ _ _ _,by simp⟩
theorem OwnFs.same (h:OwnFs w B v fs) (hu:Same w w'):OwnFs w' B v fs:=⟨own_same h.row hu,fun x hx=>(h.each x hx).same hu⟩
theorem OwnFs.base (h:OwnFs w B v fs) (hB:B'<=B):OwnFs w B' v fs:=⟨own_base h.row hB,fun x hx=>(h.each x hx).base hB⟩
theorem OwnFs.type {S:Nat->Prop} {e':TypeId} (h:OwnFs w B v fs) (hu:Upd S w w') (hS:∀ g,g<w.heap.size->S g->OfT w e' g) (h1:5≠e') (h2:84≠e'):OwnFs w' B v fs :=
 ⟨own_type h.row hu hS h2,fun x hx=>(h.each x hx).type hu hS h1⟩
theorem OwnFs.snoc {v':Value} (h:OwnFs w B v fs) (hg:Grew w B 84 2 v (fs.length+1) (fs.flatMap FR.cells++x.cells) v' w') (hx:OwnFr w B x):OwnFs w' B v' (fs++[x]):=by
 have hS:∀ g,g<w.heap.size->v.ownBlock=some g->OfT w 84 g:=fun g _ hg=>own_ofT h.row hg
 refine ⟨?_,fun y hy=>?_⟩
 · rw [List.length_append,List.flatMap_append]
   simpa using hg.own
 rcases List.mem_append.1 hy with hy | hy
 · exact (h.each y hy).type hg.upd hS (by decide)
 obtain rfl:y=x:=by simpa using hy
 exact hx.type hg.upd hS (by decide)
end
theorem info_Frame:(Tryz.prog.info? 84).map (fun i=>(i.zero,i.size,i.bytes))=some (some (.agg #[.int .i64 0,.slice none 0 0]),2,32):=by kernel_rfl
theorem Row.fr (w:World) (x:FR):Row (w.alloc (.cells x.cells.toArray 84)) (fun b=>b=w.heap.size) 2 (some ⟨w.heap.size,0,none⟩) 1 1 x.cells :=
 Row.of_blk (Blk.new w _ x.cells.toArray) rfl (Nat.le_refl _) (by simp [maxLen])
theorem packH_take {l:List UInt8} {N:Nat} (hN:be ((l.drop 1).take 4)=N) (h:N+9<=l.length):packH (be (l.take 1)) ((l.drop 5).take N)=l.take (N+5):=by
 have hl1:(l.take 1).length=1:=by rw [List.length_take];omega
 have hl4:((l.drop 1).take 4).length=4:=by rw [List.length_take,List.length_drop];omega
 have hlN:((l.drop 5).take N).length=N:=by rw [List.length_take,List.length_drop];omega
 have b1:=be_lt (l.take 1)
 have b4:=be_lt ((l.drop 1).take 4)
 rw [hl1] at b1
 rw [hl4,hN] at b4
 unfold packH
 rw [hlN,beb_be hl1 (Nat.mod_eq_of_lt b1),beb_be hl4 (by rw [hN];exact Nat.mod_eq_of_lt b4)]
 have e1:l.take 1++((l.drop 1).take 4++(l.drop 5).take N)=l.take (N+5):=by
  rw [show N+5=1+(4+N) by omega,List.take_add,List.take_add,List.drop_drop]
 exact e1
theorem pack_iff {l:List UInt8} {N:Nat} (hN:be ((l.drop 1).take 4)=N) (h:N+9<=l.length):packP (be (l.take 1)) ((l.drop 5).take N)=l.take (N+9)↔be ((l.drop (N+5)).take 4)=(crcS (l.take (N+5))).toNat:=by
 have hl4:((l.drop (N+5)).take 4).length=4:=by rw [List.length_take,List.length_drop];omega
 have hlt:=(crcS (l.take (N+5))).isLt
 have ea:l.take (N+9)=l.take (N+5)++(l.drop (N+5)).take 4:=by rw [show N+9=(N+5)+4 by omega];exact List.take_add
 unfold packP
 rw [packH_take hN h,ea]
 constructor
 · intro e
   have e2:=List.append_cancel_left e
   rw [<- e2,be_beb]
   exact Nat.mod_eq_of_lt (by omega)
 intro e
 congr 1
 exact beb_be hl4 (by rw [e];exact Nat.mod_eq_of_lt (by omega))
theorem oneP_some {l:List UInt8} {N:Nat} (hN:be ((l.drop 1).take 4)=N) (h1:N<=1048576) (h:N+9<=l.length) (he:be ((l.drop (N+5)).take 4)=(crcS (l.take (N+5))).toNat):oneP l=.ok (some (⟨be (l.take 1),(l.drop 5).take N⟩,l.drop (N+9))):=by
 unfold oneP
 rw [hN,if_neg (by omega),if_neg (by omega),if_neg (by omega),if_neg (by simp [he])]
theorem Bytes.sub {w:World} {F:Nat->Prop} {b o n c:Nat} {bs:List UInt8} (h:Bytes w F (some ⟨b,o,none⟩) n c bs) {j k:Nat} (hk:j+k<=n) (h0:j<n):Bytes w F (some ⟨b,o+j,none⟩) k (c-j) ((bs.drop j).take k):=by
 have h1:=h.cut (j:=j) (m:=j+k) (by omega) hk
 rw [if_neg (by have:=Row.le h;omega),Option.map_some,addr_add,Nat.add_sub_cancel_left] at h1
 exact h1
end Go.Proofs.YtkopcinhbjimiaaGreatDoor
namespace Go.Proofs.YtkopcinhbjimiaaGreatDoor
theorem oneP_pack {l r:List UInt8} {f:GFr} (h:oneP l=.ok (some (f,r))):packP f.type f.data=l.take (f.data.length+9)/\r=l.drop (f.data.length+9)/\f.data.length+9<=l.length/\f.type<=255/\f.data.length<=1048576:=by
 unfold oneP at h
 split at h
 · cases h
 split at h
 · cases h
 split at h
 · cases h
 split at h
 · cases h
 rename_i g1 g2 g3 g4
 injection h with h
 injection h with h
 injection h with h1 h2
 have hl:f.data.length=be ((l.drop 1).take 4):=by
  rw [<- h1]
  simp only [List.length_take,List.length_drop] at *
  omega
 have ht:f.type<=255:=by
  rw [<- h1]
  have:=be_lt (l.take 1)
  have h1':(l.take 1).length<=1:=List.length_take_le _ _
  have h2':256 ^ (l.take 1).length<=256 ^ 1:=Nat.pow_le_pow_right (by omega) h1'
  simp only
  omega
 refine ⟨?_,by rw [hl];exact h2.symm,by omega,ht,by omega⟩
 rw [hl,<-(pack_iff rfl (by omega)).2 (Decidable.not_not.1 g4),<-h1]
theorem oneP_enc {t:Nat} {d r:List UInt8} (ht:t<=255) (hd:d.length<=1048576):oneP (packP t d++r)=.ok (some (⟨t,d⟩,r)):=by
 have hH:packH t d=beb 1 t++(beb 4 d.length++d):=rfl
 have l1:=beb_len 1 t
 have l4:=beb_len 4 d.length
 have lS:=beb_len 4 (crcS (packH t d)).toNat
 have hHl:(packH t d).length=d.length+5:=by rw [hH];simp only [List.length_append,l1,l4];omega
 have hl:(packP t d++r).length=d.length+9+r.length:=by unfold packP;simp only [List.length_append,hHl,lS]
 have hlist:packP t d++r=beb 1 t++(beb 4 d.length++(d++(beb 4 (crcS (packH t d)).toNat++r))):=by unfold packP;rw [hH];simp only [List.append_assoc]
 have hN:be (((packP t d++r).drop 1).take 4)=d.length:=by
  rw [hlist,List.drop_append_of_le_length (by omega),List.drop_of_length_le (by omega),List.nil_append,List.take_append_of_le_length (by omega),List.take_of_length_le (by omega),be_beb]
  exact Nat.mod_eq_of_lt (by omega)
 have hT:be ((packP t d++r).take 1)=t:=by
  rw [hlist,List.take_append_of_le_length (by omega),List.take_of_length_le (by omega),be_beb]
  exact Nat.mod_eq_of_lt (by omega)
 have hD:((packP t d++r).drop 5).take d.length=d:=by
  rw [hlist,<-List.append_assoc,List.drop_append_of_le_length (by simp only [List.length_append,l1,l4];omega),List.drop_of_length_le (by simp only [List.length_append,l1,l4];omega),List.nil_append,List.take_append_of_le_length (Nat.le_refl _),List.take_length]
 have hR:(packP t d++r).drop (d.length+9)=r:=by
  have hp:(packP t d).length=d.length+9:=by unfold packP;simp only [List.length_append,hHl,lS]
  rw [<- hp,List.drop_left]
 have hS:be (((packP t d++r).drop (d.length+5)).take 4)=(crcS ((packP t d++r).take (d.length+5))).toNat:=by
  have e:packP t d++r=packH t d++(beb 4 (crcS (packH t d)).toNat++r):=by unfold packP;rw [List.append_assoc]
  rw [e,<-hHl,List.drop_left,List.take_left,List.take_append_of_le_length (by omega),List.take_of_length_le (by omega),be_beb]
  have:=(crcS (packH t d)).isLt
  exact Nat.mod_eq_of_lt (by omega)
 rw [oneP_some hN hd (by omega) hS,hT,hD,hR]
def stepsL (b:List UInt8) (e:Int):List GFr->Bool->GGraph->Nat->Except Int GGraph
 | [],_,_,_=>.error (if e≠0 then e else 10)
 | f::fs,first,g,at_ =>
   if (first=true/\f.type≠1)\/(first=false/\(f.type<2\/4<f.type))\/(f.type=2/\0<g.rels.length) then .error 200
   else if f.type=1 then (if f.data=[0,1] then stepsL b e fs false g (at_+(f.data.length+9)) else .error 8)
   else if f.type=2 then
    match pNd f.data with
    | none=>.error 201
    | some n=>stepsL b e fs false ⟨g.nodes++[n],g.rels⟩ (at_+(f.data.length+9))
   else if f.type=3 then
    match pRl f.data with
    | none=>.error 201
    | some r=>stepsL b e fs false ⟨g.nodes,g.rels++[r]⟩ (at_+(f.data.length+9))
   else if f.data=trailP g.nodes.length g.rels.length g.wt (b.take at_) then (if at_+(f.data.length+9)<b.length then .error 11 else .ok g)
   else .error 202
def stepsP (b:List UInt8):Except Int GGraph :=
 if b.length<8 then .error 10
 else if b.take 8≠magicP then .error 90
 else stepsL b (framesP (b.drop 8)).2.2 (framesP (b.drop 8)).1 true noG 8
theorem framesP_nil:framesP []=([],[],0):=framesP_none rfl
theorem magic_len:magicP.length=8:=rfl
theorem packP_len (t:Nat) (d:List UInt8):(packP t d).length=d.length+9:=by
 unfold packP packH
 simp only [List.length_append,beb_len]
 omega
theorem trailP_len (n r w:Nat) (all:List UInt8):(trailP n r w all).length=16:=by
 unfold trailP
 simp only [List.length_append,beb_len]
theorem encName_len (s:ByteArray):(encName s).length=1+s.size:=by
 unfold encName
 rw [List.length_append,beb_len,toList_size]
theorem psW_cons (p:GPr) (l:List GPr):psW (p::l)=(enc p.val).length+psW l:=by simp [psW]
theorem psW_append (l m:List GPr):psW (l++m)=psW l+psW m:=by simp [psW]
end Go.Proofs.YtkopcinhbjimiaaGreatDoor
