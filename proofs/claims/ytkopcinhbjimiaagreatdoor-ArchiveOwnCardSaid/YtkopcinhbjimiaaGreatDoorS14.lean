/- Texts that the claim leans on: walks and plain laws, function by function. -/
import Derived.OrdersHeld
import Derived.StillTail
import Derived.Deep.RegionHeldLaw
import Derived.Test.YtkopcinhbjimiaaGreatDoorS13
set_option maxRecDepth 100000
set_option maxHeartbeats 16000000
namespace Go.Proofs.YtkopcinhbjimiaaGreatDoor
open Go.RowKit
section
variable {P:Program} {ops:Array Oper} {Q:Exit->Act->World->Prop} {md:Region.Mode} {S:World->Prop} {n:Nat}
def Zjf (P:Program) (md:Region.Mode) (ops:Array Oper) (Q:Exit->Act->World->Prop) (S:World->Prop) (n:Nat):Nat->Array Bool->Act->World->Prop
 | 0,listed,a,w=>Region.ready md ops listed=[]/\Q .normal a w
 | f+1,listed,a,w =>
   (Region.ready md ops listed=[]->Q .normal a w) /\
   ∀ i∈Region.ready md ops listed,wpOp P ops Q i (fun a' w'=>(i=n\/S w')/\Zjf P md ops Q S n f (listed.setIfInBounds i true) a' w') a w
theorem ZhG:∀ (f:Nat) (listed:Array Bool) (a:Act) (w:World),Zjf P md ops Q S n f listed a w->wpAny P md ops Q f listed a w
 | 0,_,_,_,h=>h
 | f+1,_,_,_,h=>⟨h.1,fun i hi=>wpOp_mono (fun a' w' h'=>ZhG f _ a' w' h'.2) (h.2 i hi)⟩
theorem Zjg {i:Nat} {oi:Oper} {v:Value} (hs:Region.sinkB md ops n=true) (hc:Region.chainB md ops n=true) (hn:n+1=ops.size) (hin:i<n) (hi:ops[i]?=some oi) (hsel:∀ (j:Nat) (o:Oper) cs b,ops[j]?=some o->o.op≠.select cs b)
 (hQ:∀ c a w,Q (.panic c) (a.put oi.dst v) w->Q (.panic c) a w) :
 ∀ (f:Nat) (listed:Array Bool) (a:Act) (w:World),HeadInv md ops n listed ->
  (∀ j oj,ops[j]?=some oj->j≠i->listed.getD j true=false->(∀ e∈oj.after,Region.binds md e=true->e.on≠i)->oi.apart ops oj=true) ->
  i∈Region.ready md ops listed->YieldsIf P ops S oi v a->S w ->
  Zjf P md ops Q S n f (listed.setIfInBounds i true) (a.put oi.dst v) w->Zjf P md ops Q S n (f+1) listed a w:=by
 intro f
 induction f with
 | zero =>
   intro listed a w _ _ hr hy hS H
   refine ⟨fun h=>(by rw [h] at hr;cases hr),fun j hj=>?_⟩
   by_cases hji:j=i
   · subst hji;exact hy.wpOp hi hS ⟨.inr hS,H⟩
   have:=ready_mono hj hji
   rw [H.1] at this
   cases this
 | succ f ih =>
   intro listed a w inv hfree hr hy hS H
   refine ⟨fun h=>(by rw [h] at hr;cases hr),fun j hj=>?_⟩
   by_cases hji:j=i
   · subst hji;exact hy.wpOp hi hS ⟨.inr hS,H⟩
   have h1:=H.2 j (ready_mono hj hji)
   obtain ⟨hjun,oj,hoj,hall⟩:=mem_ready.1 hj
   have hjn:j<n:=by
    have hlt:j<ops.size:=(Array.getElem?_eq_some_iff.1 hoj).1
    have hne:j≠n:=fun e=>tail_waits hs hc (by omega) inv _ i rfl hin (mem_ready.1 hr).1 j (by omega) hj
    omega
   have hnot:∀ e∈oj.after,Region.binds md e=true->e.on≠i:=fun e he hb heq=>by
    have h1:=hall e he hb
    have h0:=(mem_ready.1 hr).1
    rw [heq,getD_both h0] at h1
    cases h1
   have h2:=wpOp_putIf hoj (hfree j oj hoj hji hjun hnot) (fun cs b=>hsel i oi cs b hi) (fun cs b=>hsel j oj cs b hoj) hQ hy h1
   have hfree':∀ k ok,ops[k]?=some ok->k≠i->(listed.setIfInBounds j true).getD k true=false ->
    (∀ e∈ok.after,Region.binds md e=true->e.on≠i)->oi.apart ops ok=true:=fun k ok hk hki hun hno=>by
    refine hfree k ok hk hki ?_ hno
    by_cases hjk:j=k
    · subst hjk;exact hjun
    rw [getD_set_ne true hjk] at hun;exact hun
   refine wpOp_mono (fun a' w' h3=>?_) h2
   have hS':S w':=h3.2.1.resolve_left (by omega)
   refine ⟨.inr hS',ih (listed.setIfInBounds j true) a' w' (inv.set hj hjn) hfree' (ready_mono hr (Ne.symm hji)) h3.1 hS' ?_⟩
   rw [Array.setIfInBounds_comm _ _ hji]
   exact h3.2.2
def ESt (P:Program) (md:Region.Mode) (ops:Array Oper) (Q:Exit->Act->World->Prop) (S:World->Prop) (n f:Nat) (listed:Array Bool) (a:Act) (w:World):Prop :=
 HeadInv md ops n listed->Zjf P md ops Q S n f listed a w
def Region.okE (md:Region.Mode) (ops:Array Oper) (n:Nat):Bool:=Region.noSelect ops && Region.sinkB md ops n && Region.chainB md ops n && decide (n+1=ops.size)
theorem ESt.take {i:Nat} {oi:Oper} {v:Value} {f:Nat} {listed:Array Bool} {a:Act} {w:World} (hok:Region.okE md ops n=true) (hi:ops[i]?=some oi)
 (hf:(decide (i<n) && Region.free md ops listed i && (Region.ready md ops listed).contains i)=true) (hQ:∀ c a w,Q (.panic c) (a.put oi.dst v) w->Q (.panic c) a w) (hy:YieldsIf P ops S oi v a) (hS:S w)
 (h:ESt P md ops Q S n f (listed.setIfInBounds i true) (a.put oi.dst v) w):ESt P md ops Q S n (f+1) listed a w:=fun inv=>by
 simp only [Region.okE,Bool.and_eq_true,decide_eq_true_eq] at hok hf
 obtain ⟨⟨⟨k1,k2⟩,k3⟩,k4⟩:=hok
 obtain ⟨⟨f1,f2⟩,f3⟩:=hf
 have hr:i∈Region.ready md ops listed:=by simpa using f3
 exact Zjg k2 k3 k4 f1 hi (Region.noSelect_spec k1) hQ f listed a w inv (Region.free_spec hi f2) hr hy hS (h (inv.set hr f1))
def AllE (P:Program) (md:Region.Mode) (ops:Array Oper) (Q:Exit->Act->World->Prop) (S:World->Prop) (n f:Nat) (listed:Array Bool) (a:Act) (w:World) (rs:List Nat):Prop :=
 ∀ i∈rs,wpOp P ops Q i (fun a' w'=>S w'/\ESt P md ops Q S n f (listed.setIfInBounds i true) a' w') a w
theorem AllE.nil {f:Nat} {listed:Array Bool} {a:Act} {w:World}:AllE P md ops Q S n f listed a w []:=fun _ h=>by cases h
theorem AllE.cons {f:Nat} {listed:Array Bool} {a:Act} {w:World} {i:Nat} {o:Oper} {rs:List Nat} (ho:ops[i]?=some o)
 (h:∀ K':Act->World->Prop,Shut (∀ a w,S w->(S w->ESt P md ops Q S n f (listed.setIfInBounds i true) a w)->K' a w)->if Region.wanted o (yielded ops a.tmps)=true then Oper.wp P o a w K' Q else K' (a.put o.dst undef) w)
 (hs:AllE P md ops Q S n f listed a w rs):AllE P md ops Q S n f listed a w (i::rs):=fun j hj=>by
 rcases List.mem_cons.1 hj with rfl | hj
 · exact wpOp_step ho (fun K' hK=>h K' (fun a w hS hW=>hK a w ⟨hS,hW hS⟩))
 exact hs j hj
theorem ESt.branch {rs:List Nat} {f:Nat} {listed:Array Bool} {a:Act} {w:World} (hr:Region.ready md ops listed=rs) (hne:(!rs.isEmpty && rs.all fun i=>decide (i<n))=true) (h:AllE P md ops Q S n f listed a w rs) :
 ESt P md ops Q S n (f+1) listed a w:=fun inv=>by
 simp only [Bool.and_eq_true,Bool.not_eq_true',List.all_eq_true,decide_eq_true_eq,List.isEmpty_eq_false_iff] at hne
 refine ⟨fun h0=>absurd (hr ▸ h0) hne.1,fun i hi=>?_⟩
 have hi':i∈rs:=hr ▸ hi
 exact wpOp_mono (fun a' w' h3=>⟨.inr h3.1,h3.2 (inv.set hi (hne.2 i hi'))⟩) (h i hi')
theorem ESt.last {listed:Array Bool} {a:Act} {w:World} {o:Oper} (hr:Region.ready md ops listed=[n]) (hr2:Region.ready md ops (listed.setIfInBounds n true)=[]) (ho:ops[n]?=some o)
 (h:∀ K':Act->World->Prop,Shut (∀ a w,Q .normal a w->K' a w)->if Region.wanted o (yielded ops a.tmps)=true then Oper.wp P o a w K' Q else K' (a.put o.dst undef) w) (f:Nat):ESt P md ops Q S n (f+1) listed a w:=fun _=>by
 refine ⟨fun h0=>(by rw [hr] at h0;cases h0),fun i hi=>?_⟩
 rw [hr] at hi
 obtain rfl:i=n:=by simpa using hi
 refine wpOp_step ho (fun K' hK=>h K' (fun a w hq=>hK a w ⟨.inl rfl,?_⟩))
 cases f with
 | zero=>exact ⟨hr2,hq⟩
 | succ f=>exact ⟨fun _=>hq,by rw [hr2];simp⟩
theorem ZaX {id:Nat} {a:Act} {w:World} (n:Nat) (S:World->Prop) (hm:P.follows .mixedOrders=true) (hS:S w.drew) (h:S w.drew->ESt P .any ops Q S n ops.size (Array.replicate ops.size false) a w.drew):(Code.region id ops true).wp P Q a w:=by
 refine wp_region_any hm (ZhG _ _ _ _ (h hS ?_))
 exact ⟨by simp,fun j oj _ hl=>(by rw [getD_replicate_false] at hl;cases hl),fun t _ ht=>getD_in (by simpa using ht) (getD_replicate_false _ _)⟩
end
theorem ZoN {F:Nat->Prop} {A1 A2:Option Addr} {n1 c1 n2 c2:Nat} {g:GVal} (w:World) (h:Zcg w F A1 n1 c1 A2 n2 c2 g) (hs1:n1*8<=140737488355328) (hs2:n2*16<=140737488355328) :
 Calls Tryz.prog 55 #[g.val A1 n1 c1 A2 n2 c2] w fun e w'=>∃ B1 d1 B2 d2,e=.returned (g.val B1 n1 d1 B2 n2 d2)/\Hid (w'.ownsRow w.heap.size 2 1 (.slice B1 n1 d1) n1 (g.nums.map (Value.int .i64)))/\Hid (w'.ownsRow w.heap.size 9 1 (.slice B2 n2 d2) n2 (g.texts.map Value.string))/\Same w w':=by
 refine (ZmH w h hs1 hs2).mono ?_
 rintro e w' ⟨v1,v2,rfl,h1,h2,hs⟩
 obtain ⟨B1,d1,rfl⟩:=Zac h1
 obtain ⟨B2,d2,rfl⟩:=Zac h2
 exact ⟨B1,d1,B2,d2,rfl,qH h1,qH h2,hs⟩
abbrev PrAt (w:World) (b p:Nat) (k a0 a1 a2 a3 a4:Value):Prop :=
 w.cell? ⟨b,p,none⟩=some k/\w.cell? ⟨b,p+1,none⟩=some a0/\w.cell? ⟨b,p+1+1,none⟩=some a1/\w.cell? ⟨b,p+1+2,none⟩=some a2/\w.cell? ⟨b,p+1+3,none⟩=some a3/\w.cell? ⟨b,p+1+4,none⟩=some a4
theorem PrAt.upd {w w':World} {S:Nat->Prop} {b p:Nat} {k a0 a1 a2 a3 a4:Value} (h:PrAt w b p k a0 a1 a2 a3 a4) (hb:b<w.heap.size) (hs:Upd S w w') (hn:¬ S b):PrAt w' b p k a0 a1 a2 a3 a4:=by
 obtain ⟨h0,h1,h2,h3,h4,h5⟩:=h
 exact ⟨(hs.cell (p:=⟨b,p,none⟩) hb hn).trans h0,(hs.cell (p:=⟨b,p+1,none⟩) hb hn).trans h1,(hs.cell (p:=⟨b,p+1+1,none⟩) hb hn).trans h2,
  (hs.cell (p:=⟨b,p+1+2,none⟩) hb hn).trans h3,(hs.cell (p:=⟨b,p+1+3,none⟩) hb hn).trans h4,(hs.cell (p:=⟨b,p+1+4,none⟩) hb hn).trans h5⟩
theorem PrAt.same {w w':World} {b p:Nat} {k a0 a1 a2 a3 a4:Value} (h:PrAt w b p k a0 a1 a2 a3 a4) (hb:b<w.heap.size) (hs:Same w w'):PrAt w' b p k a0 a1 a2 a3 a4:=h.upd hb hs fun f=>f
theorem ZfD {ps:List PR} {k:Nat} {x:PR} (h:ps[k]?=some x):(ps.take (k+1)).map PR.dat=(ps.take k).map PR.dat++[x.dat]:=by
 rw [List.take_add_one,h]
 simp
def Zkm (n:Nat) (ps:List PR):Prop:=n*96<=140737488351232/\∀ x∈ps,x.n1*8<=140737488351232/\x.n2*16<=140737488351232
theorem Zed {F:Nat->Prop} {A:Option Addr} {n c:Nat} {ls:List PR} (w:World) (h:RdPs w F A n c ls) (hsm:Zkm n ls) :
 Calls Tryz.prog 28 #[.slice A n c] w fun e w'=>∃ (A':Option Addr) (c':Nat) (l:List PR),e=.returned (.slice A' n c')/\Hid (l.map PR.dat=ls.map PR.dat)/\Hid (ZbC w' w.heap.size (.slice A' n c') l)/\Same w w':=by
 have HL:=qH h.len
 have HR:=qH h
 have HF:=qH hsm.2
 have hn:=hsm.1
 clear h hsm
 go_enter Tryz.func28,Tryz.ntmps28
 go_wp2_with fail
 go_loopg [3,4] n (fun g out i wr=>∃ (k:Nat) (l:List PR),k<=n/\g=n-k/\i=.int .i64 k/\l.length=k/\Hid (l.map PR.dat=(ls.take k).map PR.dat)/\Hid (Same w wr)/\Hid (ZbC wr w.heap.size out l))
 case atStart=>exact ⟨0,[],Nat.zero_le _,rfl,rfl,rfl,qH rfl,qH ((Upd.refl _ _).alloc _),qH ⟨World.ownsRow_made w #[] 0 (Nat.le_refl _) (Nat.zero_le _) rfl,by simp⟩⟩
 obtain ⟨k,l,hk,rfl,rfl,rfl,KD,KS,KO⟩:=hrel
 obtain ⟨k,hlk⟩:∃ k,l.length=k:=⟨_,rfl⟩
 have HLk:=qH hlk
 rw [hlk] at KD hk ⊢
 clear hlk
 by_cases hlt:k<n
 · obtain ⟨b,o,x,rfl,hb,_,hx,hxm,r0,r1,r2,r3,r4,r5⟩:=(HR.out.same KS.out).at_ hlt
   have hv:=(HR.out.same KS.out).val x hxm
   have HV:=qH hv
   have HFx:=qH (show x.g.Fits from ⟨hv.kind,hv.num,hv.range⟩)
   have HT:=qH (HF.out x hxm)
   have HD:=qH (ZfD hx)
   clear hx hxm hv
   obtain ⟨Ao,co,rfl⟩:=Zac KO.out.row
   have HOw:=qH KO.out.row
   rw [HLk.out] at HOw KO ⊢
   obtain ⟨kx,⟨x0,x1,x2,x3,x4⟩,X1,a1,b1,X2,a2,b2⟩:=x
   simp only at r0 r1 r2 r3 r4 r5
   have hsd:Same wr wr.drew:=(Upd.refl _ wr).drew
   have HVd:=qH (HV.out.same hsd)
   have c1:=ZoN wr.drew HVd.out (by have:=HT.1;omega) (by have:=HT.2;omega)
   simp only [GVal.val] at c1
   have hKd:Hid (PrAt wr.drew b (o+k*6) (.string kx) (.int .i64 x0) (.int .i64 x1) (.string x2) (.slice X1 a1 b1) (.slice X2 a2 b2)):=qH (PrAt.same ⟨r0,r1,r2,r3,r4,r5⟩ hb hsd)
   have HOd:=qH (Zaa HOw.out hsd)
   have hbw:b<w.heap.size:=(HR.out.row.row (by omega)).cell _ rfl |>.2.1
   have hzd:=KS.out.size
   clear hsd
   go_upto_region 5 with fail
   go_region_held_law (fun wx=>PrAt wx b (o+k*6) (.string kx) (.int .i64 x0) (.int .i64 x1) (.string x2) (.slice X1 a1 b1) (.slice X2 a2 b2)) (first | exact hKd.out | assumption | exact PrAt.same (by assumption) (by omega) ((Upd.refl (fun _=>False) _).alloc _)) (first
    | (go_at_call 55;refine c1.mono ?_;rintro e w2 ⟨Y1,d1,Y2,d2,rfl,HY1,HY2,hs2⟩;have hq:=hKd.out.same hb hs2;have hz2:=hs2.size;simp only [World.size_drew] at hz2)
    | (refine ZbP rfl (.tmp 12) (.tmp 25) _ _ rfl w.heap.size 48 6 96 _ Tryz.underlying41 Zgw rfl (.slice Ao k co) k _ rfl ((Zaa HOd.out (by assumption)).alloc _) rfl (Zal Tryz.underlying41 (Row.pr _ ⟨kx,⟨x0,x1,x2,x3,x4⟩,Y1,a1,d1,Y2,a2,d2⟩) (PR.one _)) (by unfold maxLen;omega) (by omega) (by simp;omega) ?_;intro v' w6 hg;have hq6:=(PrAt.same hq (by omega) ((Upd.refl (fun _=>False) w2).alloc _)).upd (by simp;omega) hg.upd fun hh=>by have:=(HOd.out.lt b hh).1;omega))
   have hsA:=(Upd.refl (fun _=>False) w2).alloc (.cells (PR.cells ⟨kx,⟨x0,x1,x2,x3,x4⟩,Y1,a1,d1,Y2,a2,d2⟩).toArray 48)
   have hO:=(KO.out.same ((Upd.refl (fun _=>False) wr).drew.trans (hs2.trans hsA fun _ _ f=>f) fun _ _ f=>f)).snoc (x:=⟨kx,⟨x0,x1,x2,x3,x4⟩,Y1,a1,d1,Y2,a2,d2⟩) (by rw [HLk.out];exact hg) ⟨Zad (Zaa HY1.out hsA) (by simp only [World.size_drew];omega),Zad (Zaa HY2.out hsA) (by simp only [World.size_drew];omega),HFx.out⟩
   have hS:=(KS.out.same ((Upd.refl (fun _=>False) wr).drew.trans (hs2.trans hsA fun _ _ f=>f) fun _ _ f=>f)).trans hg.upd fun b hb hh=>by have:=(HOd.out.lt b hh).1;omega
   have HO6:=qH hO
   have HS6:=qH hS
   clear hO hS hg hsA
   go_wp2
   go_roundg (n-(k+1))
   case measure=>have:=HLk.out;omega
   exact ⟨k+1,l++[⟨kx,⟨x0,x1,x2,x3,x4⟩,Y1,a1,d1,Y2,a2,d2⟩],by omega,rfl,by go_num,by rw [List.length_append,HLk.out];rfl,qH (by rw [List.map_append,KD.out,HD.out];rfl),HS6,HO6⟩
 obtain rfl:k=n:=by omega
 rw [List.take_of_length_le (by rw [HL.out];exact Nat.le_refl _)] at KD
 obtain ⟨Ao,co,rfl⟩:=Zac KO.out.row
 rw [HLk.out] at KO ⊢
 go_wp2
 go_ret
 exact ⟨_,_,l,rfl,KD,KO,KS.out⟩
theorem ZcR.small {n:Nat} {ps:List PR} (h:ZcR n ps):Zkm n ps:=⟨h.n,fun x hx=>⟨(h.each x hx).s1,(h.each x hx).s2⟩⟩
theorem Znq {w0 wx:World} {g3 g5:Nat} {t t':TypeId} {v u a b c:Value} (h3:Hid (Blk w0 g3 t #[v,u])) (h5:Hid (Blk w0 g5 t' #[a,b,c])) (hs:Same w0 wx) :
 wx.cell? ⟨g3,0,none⟩=some v/\wx.cell? ⟨g5,0,none⟩=some a/\wx.cell? ⟨g5,1,none⟩=some b/\wx.cell? ⟨g5,2,none⟩=some c :=
 ⟨(h3.out.same hs).cell 0,(h5.out.same hs).cell 0,(h5.out.same hs).cell 1,(h5.out.same hs).cell 2⟩
theorem Znr {w0 wx:World} {g3 g5:Nat} {t t':TypeId} {v u a b c d e:Value} (h3:Hid (Blk w0 g3 t #[u,v])) (h5:Hid (Blk w0 g5 t' #[a,b,c,d,e])) (hs:Same w0 wx) :
 wx.cell? ⟨g3,1,none⟩=some v/\wx.cell? ⟨g5,0,none⟩=some a/\wx.cell? ⟨g5,1,none⟩=some b/\wx.cell? ⟨g5,2,none⟩=some c/\wx.cell? ⟨g5,3,none⟩=some d/\wx.cell? ⟨g5,4,none⟩=some e :=
 ⟨(h3.out.same hs).cell 1,(h5.out.same hs).cell 0,(h5.out.same hs).cell 1,(h5.out.same hs).cell 2,(h5.out.same hs).cell 3,(h5.out.same hs).cell 4⟩
theorem Zig (l:List ByteArray):∀ u∈l.map Value.string,u.oneCell'=true:=by
 intro u hu
 obtain ⟨_,_,rfl⟩:=List.mem_map.1 hu
 rfl
theorem Zff {F:Nat->Prop} (w:World) (g:GR) (h:RdG w F g) (hz:ZbJ g) :
 Calls Tryz.prog 13 #[g.agg] w fun e w'=>∃ g':GR,e=.returned g'.agg/\Hid (g'.dat=g.dat)/\Hid (OwnG w' w.heap.size g')/\Same w w':=by
 obtain ⟨ns,AN,nN,cN,rs,AR,nR,cR⟩:=g
 have HZ:=qH hz
 have hnN:=hz.nN
 have hnR:=hz.nR
 simp only at hnN hnR
 have HL:=qH h.nodes.len
 have HL':=qH h.rels.len
 simp only at HL HL'
 have hs0:=((Upd.refl (fun _=>False) w).alloc (.cells #[.slice AN nN cN,.slice AR nR cR] 26)).alloc (.cells #[.slice none 0 0,.slice none 0 0] 26) |>.alloc (.cells #[.slice none 0 0,.slice none 0 0] 26)
 have b1:=((Blk.new w 26 #[.slice AN nN cN,.slice AR nR cR]).alloc (.cells #[.slice none 0 0,.slice none 0 0] 26)).alloc (.cells #[.slice none 0 0,.slice none 0 0] 26)
 have b2:=(Blk.new (w.alloc (.cells #[.slice AN nN cN,.slice AR nR cR] 26)) 26 #[.slice none 0 0,.slice none 0 0]).alloc (.cells #[.slice none 0 0,.slice none 0 0] 26)
 have b3:=Blk.new ((w.alloc (.cells #[.slice AN nN cN,.slice AR nR cR] 26)).alloc (.cells #[.slice none 0 0,.slice none 0 0] 26)) 26 #[.slice none 0 0,.slice none 0 0]
 simp only [World.size_alloc] at b2 b3
 have HS1:=qH hs0
 have HB1:=qH b1
 have HB2:=qH b2
 have HB3:=qH b3
 have HRN:=qH h.nodes
 have HRR:=qH h.rels
 simp only at HRN HRR
 clear h hz hs0 b1 b2 b3
 go_enter Tryz.func13,Tryz.ntmps13
 go_upto_region 2 with fail
 generalize ((w.alloc (.cells #[.slice AN nN cN,.slice AR nR cR] 26)).alloc (.cells #[.slice none 0 0,.slice none 0 0] 26)).alloc (.cells #[.slice none 0 0,.slice none 0 0] 26)=w1 at *
 go_wp2_with fail
 go_loopg [4] nN (fun gh ix wr=>∃ (i:Nat) (A:Option Addr) (c:Nat) (l:List ND),nN-i=gh/\i<=nN/\ix=.int .i64 i/\l.length=i/\Hid (l.map ND.dat=(ns.take i).map ND.dat)/\Hid (ZcN wr w.heap.size (.slice A i c) l) /\
  Hid (Blk wr w.heap.size 26 #[.slice AN nN cN,.slice AR nR cR])/\Hid (Blk wr (w.heap.size+1) 26 #[.slice none 0 0,.slice none 0 0])/\Hid (Blk wr (w.heap.size+1+1) 26 #[.slice A i c,.slice none 0 0])/\Hid (Same w wr))
 case atStart=>exact ⟨0,none,0,[],rfl,Nat.zero_le _,rfl,rfl,qH rfl,qH (ZcN.nil_ _ _),HB1,HB2,HB3,HS1⟩
 clear HB1 HB2 HB3 HS1
 obtain ⟨i,A,c,l,rfl,hi,rfl,hl,KD,KO,KB1,KB2,KB3,KS⟩:=hrel
 have HLi:=qH hl
 clear hl
 have p1:wr.cell? ⟨w.heap.size,0,none⟩=some (.slice AN nN cN):=KB1.out.cell 0
 have hzr:=KS.out.size
 by_cases hlt:i<nN
 · obtain ⟨b,o,x,rfl,hb,_,hx,hxm,r0,r1,r2⟩:=(HRN.out.same KS.out).at_ hlt
   have HXL:=qH ((HRN.out.same KS.out).lab x hxm)
   have HXP:=qH ((HRN.out.same KS.out).pro x hxm)
   have HXI:=qH (HRN.out.id x hxm)
   have HXZ:=qH (HZ.out.ns x hxm)
   have HXD:=qH (show (ns.take (i+1)).map ND.dat=(ns.take i).map ND.dat++[x.dat] from by rw [List.take_add_one,hx];simp)
   clear hx hxm
   obtain ⟨ix,lb,AL,nL,cL,ps,AP,nP,cP⟩:=x
   simp only at r0 r1 r2
   have sA:=(Upd.refl (fun _=>False) wr).alloc (.cells #[.int .i64 ix,.slice AL nL cL,.slice AP nP cP] 43)
   have SA:=qH sA
   have HB5:=qH (Blk.new wr 43 #[.int .i64 ix,.slice AL nL cL,.slice AP nP cP])
   have HB3:=qH (KB3.out.same sA)
   clear sA
   go_upto_region 6 with fail
   clear p1 r0 r1 r2
   generalize hw6:wr.alloc (.cells #[.int .i64 ix,.slice AL nL cL,.slice AP nP cP] 43)=w6 at *
   have HW6:=qH hw6
   clear hw6
   have s0:Same w6 w6.drew:=(Upd.refl _ w6).drew
   refine ZaX 15 (fun wx=>wx.cell? ⟨w.heap.size+1+1,0,none⟩=some (.slice A i c)/\wx.cell? ⟨wr.heap.size,0,none⟩=some (.int .i64 ix)/\wx.cell? ⟨wr.heap.size,1,none⟩=some (.slice AL nL cL)/\wx.cell? ⟨wr.heap.size,2,none⟩=some (.slice AP nP cP)) (by kernel_rfl) (Znq HB3 HB5 s0) (fun hHeld=>?_)
   repeat
    first
     | refine ESt.take (i:=0) (v:=?_) (by decide +kernel) rfl (by decide +kernel) (fun _ _ _ h=>h) (Or.inl ⟨by rfl,?_⟩) (by assumption) ?_
     | refine ESt.take (i:=1) (v:=?_) (by decide +kernel) rfl (by decide +kernel) (fun _ _ _ h=>h) (Or.inl ⟨by rfl,?_⟩) (by assumption) ?_
     | refine ESt.take (i:=2) (v:=?_) (by decide +kernel) rfl (by decide +kernel) (fun _ _ _ h=>h) (Or.inl ⟨by rfl,?_⟩) (by assumption) ?_
     | refine ESt.take (i:=3) (v:=?_) (by decide +kernel) rfl (by decide +kernel) (fun _ _ _ h=>h) (Or.inl ⟨by rfl,?_⟩) (by assumption) ?_
     | refine ESt.take (i:=5) (v:=?_) (by decide +kernel) rfl (by decide +kernel) (fun _ _ _ h=>h) (Or.inl ⟨by rfl,?_⟩) (by assumption) ?_
     | refine ESt.take (i:=6) (v:=?_) (by decide +kernel) rfl (by decide +kernel) (fun _ _ _ h=>h) (Or.inl ⟨by rfl,?_⟩) (by assumption) ?_
     | refine ESt.take (i:=8) (v:=?_) (by decide +kernel) rfl (by decide +kernel) (fun _ _ _ h=>h) (Or.inl ⟨by rfl,?_⟩) (by assumption) ?_
     | refine ESt.take (i:=9) (v:=?_) (by decide +kernel) rfl (by decide +kernel) (fun _ _ _ h=>h) (Or.inl ⟨by rfl,?_⟩) (by assumption) ?_
     | refine ESt.take (i:=14) (v:=?_) (by decide +kernel) rfl (by decide +kernel) (fun _ _ _ h=>h) (Or.inl ⟨by rfl,?_⟩) (by assumption) ?_
    rotate_left
    · intro wx hSw;obtain ⟨h0,h1,h2,h3⟩:=hSw;go_simp;try with_reducible rfl
    simp only [Act.put,List.setIfInBounds_toArray]
   refine ESt.branch (rs:=[4]) (by decide +kernel) (by decide +kernel) ?_
   refine AllE.cons rfl (fun K hK=>?_) AllE.nil
   go_simp
   have s4:Same w6 (w6.alloc (.cells #[] 9)).drew:=((Upd.refl _ w6).alloc _).drew
   have z6:=SA.out.size
   have o4:(w6.alloc (.cells #[] 9)).drew.ownsRow w.heap.size 9 1 (.slice (some ⟨w6.heap.size,0,none⟩) 0 0) 0 []:=World.ownsRow_made w6 #[] 0 (by omega) (Nat.zero_le _) rfl
   refine hK.out _ _ (Znq HB3 HB5 s4) (fun hHeld=>?_)
   clear hK K
   refine ESt.branch (rs:=[7]) (by decide +kernel) (by decide +kernel) ?_
   refine AllE.cons rfl (fun K hK=>?_) AllE.nil
   have hnL:nL*16<=140737488351232:=HXZ.out.nL
   refine ZbP rfl (.tmp 25) (.tmp 27) _ _ rfl w.heap.size 9 1 16 _ Tryz.underlying40 ZaA rfl (.slice (some ⟨w6.heap.size,0,none⟩) 0 0) 0 [] rfl o4 rfl (Zcz Tryz.underlying40 (HXL.out.same (SA.out.same s4)) (Zig _)) (by unfold maxLen;omega) (by omega) (by have:=s4.size;omega) ?_
   intro v4 w7 hg7
   have s7:Same w6 w7:=s4.trans hg7.upd fun b hb hh=>by
    have h1:=Option.some.inj hh
    simp only at h1
    omega
   have o7:=hg7.own
   rw [Nat.zero_add,List.nil_append] at o7
   obtain ⟨A4,c4,rfl⟩:=Zac o7
   have O7:=qH o7
   clear o4 o7 hg7 s4
   refine hK.out _ _ (Znq HB3 HB5 s7) (fun hHeld=>?_)
   clear hK K
   refine ESt.branch (rs:=[10]) (by decide +kernel) (by decide +kernel) ?_
   refine AllE.cons rfl (fun K hK=>?_) AllE.nil
   go_simp
   refine (Zed w7 (HXP.out.same (SA.out.same s7)) HXZ.out.pro.small).mono ?_
   rintro e w10 ⟨A5,c5,ps5,rfl,hd5,O10,hs10⟩
   have s10:Same w6 w10:=s7.same hs10
   have O7':=qH (Zaa O7.out hs10)
   have z7:=s7.size
   have O10':=qH (O10.out.base (B':=w.heap.size) (by omega))
   clear O7 s7 O10 hs10
   go_wp2_with fail
   refine hK.out _ _ (Znq HB3 HB5 s10) (fun hHeld=>?_)
   clear hK K
   refine ESt.take (i:=11) (v:=?_) (by decide +kernel) rfl (by decide +kernel) (fun _ _ _ h=>h) (Or.inl ⟨by rfl,?_⟩) (by assumption) ?_
   rotate_left
   · intro wx hSw;obtain ⟨h0,h1,h2,h3⟩:=hSw;go_simp;try with_reducible rfl
   simp only [Act.put,List.setIfInBounds_toArray]
   refine ESt.branch (rs:=[12]) (by decide +kernel) (by decide +kernel) ?_
   refine AllE.cons rfl (fun K hK=>?_) AllE.nil
   go_simp
   have sB:=(Upd.refl (fun _=>False) w10).alloc (.cells #[.int .i64 ix,.slice A4 nL c4,.slice A5 nP c5] 43)
   have s12:=s10.same sB
   refine hK.out _ _ (Znq HB3 HB5 s12) (fun hHeld=>?_)
   clear hK K
   refine ESt.branch (rs:=[13]) (by decide +kernel) (by decide +kernel) ?_
   refine AllE.cons rfl (fun K hK=>?_) AllE.nil
   have sR:Same wr (w10.alloc (.cells #[.int .i64 ix,.slice A4 nL c4,.slice A5 nP c5] 43)):=SA.out.same s12
   have KO':=KO.out.same sR
   have hrow:=KO'.row
   rw [HLi.out] at hrow
   refine ZbP rfl (.tmp 22) (.tmp 33) _ _ rfl w.heap.size 43 3 56 _ Tryz.underlying23 Zgv rfl (.slice A i c) i _ rfl hrow rfl (Zal Tryz.underlying23 (Row.nd w10 ⟨ix,lb,A4,nL,c4,ps5,A5,nP,c5⟩) (ND.one _)) (by unfold maxLen;omega) (by omega) (by have:=sR.size;omega) ?_
   intro v9 w9 hg9
   have KOr:=KO.out.row
   rw [HLi.out] at KOr
   have hO9:=KO'.snoc (x:=⟨ix,lb,A4,nL,c4,ps5,A5,nP,c5⟩) (by rw [HLi.out];exact hg9) ⟨Zaa O7'.out sB,O10'.out.same sB,HXI.out⟩
   have q3:=(HB3.out.same s12).upd hg9.upd fun hh=>(HB3.out.same s12).ne_own hrow (by decide) hh
   have q5:=(HB5.out.same s12).upd hg9.upd fun hh=>by have:=(KOr.lt _ hh).2;omega
   obtain ⟨f1,_,f3⟩:=Zco (i:=0) KB3.out KOr (by decide) sR hg9
   obtain ⟨A9,c9,rfl⟩:=Zac hg9.own
   have hO:=hO9.type ((Upd.refl (fun b=>b=w.heap.size+1+1) w9).put1 (i:=0) (.slice A9 (i+1) c9)) (fun g _ hg=>by rw [hg];exact ⟨_,q3⟩) (by decide) (by decide) (by decide) (by decide)
   have hS:=Zlg KS.out f3 (by omega) fun b hb=>(KOr.lt b hb).1
   have k1:=KB1.out.upd f3 (by rintro (hh | hh);· omega
                               exact KB1.out.ne_own KOr (by decide) hh)
   have k2:=KB2.out.upd f3 (by rintro (hh | hh);· omega
                               exact KB2.out.ne_own KOr (by decide) hh)
   have F1:=qH f1
   have FO:=qH hO
   have FS:=qH hS
   have K1:=qH k1
   have K2:=qH k2
   have Q3:=qH q3
   clear f1 f3 hO hS k1 k2 hO9 hg9 hrow KO' KOr
   refine hK.out _ _ ⟨q3.cell 0,q5.cell 0,q5.cell 1,q5.cell 2⟩ (fun hHeld=>?_)
   clear hK K q3 q5
   simp only [Act.put]
   refine ESt.take (i:=14) (v:=?_) (by decide +kernel) rfl (by decide +kernel) (fun _ _ _ h=>h) (Or.inl ⟨by rfl,?_⟩) (by assumption) ?_
   rotate_left
   · intro wx hSw;obtain ⟨h0,h1,h2,h3⟩:=hSw;go_simp;try with_reducible rfl
   simp only [Act.put,List.setIfInBounds_toArray]
   refine ESt.last (by decide +kernel) (by decide +kernel) rfl (fun K hK=>?_) _
   have r3:=Q3.out.cell 0
   have z3:=Q3.out.frozen 0
   go_simp
   refine hK.out _ _ ?_
   clear hK K r3 z3 hHeld s0 s10 s12 sB sR
   go_wp2
   go_roundg (nN-(i+1))
   case measure=>omega
   case rel=>exact ⟨i+1,A9,c9,l++[⟨ix,lb,A4,nL,c4,ps5,A5,nP,c5⟩],rfl,by omega,by go_num,by rw [List.length_append,HLi.out];rfl,qH (by rw [List.map_append,KD.out,HXD.out];simp only [List.map_cons,List.map_nil,ND.dat,hd5.out]),FO,K1,K2,F1,FS⟩
 have hin:i=nN:=by omega
 subst hin
 clear hlt
 rw [List.take_of_length_le (by rw [HL.out];exact Nat.le_refl _)] at KD
 obtain ⟨wo,rfl⟩:∃ wo:World,wo=wr:=⟨_,rfl⟩
 go_wp2_with fail
 go_loopg [6] nR (fun gh ix wr=>∃ (j:Nat) (A':Option Addr) (c':Nat) (l':List RL),nR-j=gh/\j<=nR/\ix=.int .i64 j/\l'.length=j/\Hid (l'.map RL.dat=(rs.take j).map RL.dat)/\Hid (ZcZ wr w.heap.size (.slice A' j c') l')/\Hid (ZcN wr w.heap.size (.slice A i c) l) /\
  Hid (Blk wr w.heap.size 26 #[.slice AN i cN,.slice AR nR cR])/\Hid (Blk wr (w.heap.size+1) 26 #[.slice none 0 0,.slice none 0 0])/\Hid (Blk wr (w.heap.size+1+1) 26 #[.slice A i c,.slice A' j c'])/\Hid (Same w wr))
 case atStart=>exact ⟨0,none,0,[],rfl,Nat.zero_le _,rfl,rfl,qH rfl,qH (ZcZ.nil_ _ _),KO,KB1,KB2,KB3,KS⟩
 clear KO KB1 KB2 KB3 KS p1 hzr
 obtain ⟨j,A',c',l',rfl,hj,rfl,hl',KD',KO',KO,KB1,KB2,KB3,KS⟩:=hrel
 have HLj:=qH hl'
 clear hl'
 have p1:wr.cell? ⟨w.heap.size,1,none⟩=some (.slice AR nR cR):=KB1.out.cell 1
 have hzr:=KS.out.size
 by_cases hlt:j<nR
 · obtain ⟨b,o,x,rfl,hb,_,hx,hxm,r0,r1,r2,r3,r4⟩:=(HRR.out.same KS.out).at_ hlt
   have HXP:=qH ((HRR.out.same KS.out).pro x hxm)
   have HXI:=qH (HRR.out.id x hxm)
   have HXZ:=qH (HZ.out.rs x hxm)
   have HXD:=qH (show (rs.take (j+1)).map RL.dat=(rs.take j).map RL.dat++[x.dat] from by rw [List.take_add_one,hx];simp)
   clear hx hxm
   obtain ⟨ix,tx,sx,dx,ps,AP,nP,cP⟩:=x
   simp only at r0 r1 r2 r3 r4
   have sA:=(Upd.refl (fun _=>False) wr).alloc (.cells #[.int .i64 ix,.string tx,.int .i64 sx,.int .i64 dx,.slice AP nP cP] 50)
   have SA:=qH sA
   have HB5:=qH (Blk.new wr 50 #[.int .i64 ix,.string tx,.int .i64 sx,.int .i64 dx,.slice AP nP cP])
   have HB3:=qH (KB3.out.same sA)
   clear sA
   go_upto_region 11 with fail
   clear p1 r0 r1 r2 r3 r4
   generalize wr.alloc (.cells #[.int .i64 ix,.string tx,.int .i64 sx,.int .i64 dx,.slice AP nP cP] 50)=w6 at *
   have s0:Same w6 w6.drew:=(Upd.refl _ w6).drew
   have z6:=SA.out.size
   refine ZaX 17 (fun wx=>wx.cell? ⟨w.heap.size+1+1,1,none⟩=some (.slice A' j c')/\wx.cell? ⟨wr.heap.size,0,none⟩=some (.int .i64 ix)/\wx.cell? ⟨wr.heap.size,1,none⟩=some (.string tx)/\wx.cell? ⟨wr.heap.size,2,none⟩=some (.int .i64 sx)/\wx.cell? ⟨wr.heap.size,3,none⟩=some (.int .i64 dx)/\wx.cell? ⟨wr.heap.size,4,none⟩=some (.slice AP nP cP)) (by kernel_rfl) (Znr HB3 HB5 s0) (fun hHeld=>?_)
   repeat
    first
     | refine ESt.take (i:=0) (v:=?_) (by decide +kernel) rfl (by decide +kernel) (fun _ _ _ h=>h) (Or.inl ⟨by rfl,?_⟩) (by assumption) ?_
     | refine ESt.take (i:=1) (v:=?_) (by decide +kernel) rfl (by decide +kernel) (fun _ _ _ h=>h) (Or.inl ⟨by rfl,?_⟩) (by assumption) ?_
     | refine ESt.take (i:=2) (v:=?_) (by decide +kernel) rfl (by decide +kernel) (fun _ _ _ h=>h) (Or.inl ⟨by rfl,?_⟩) (by assumption) ?_
     | refine ESt.take (i:=3) (v:=?_) (by decide +kernel) rfl (by decide +kernel) (fun _ _ _ h=>h) (Or.inl ⟨by rfl,?_⟩) (by assumption) ?_
     | refine ESt.take (i:=4) (v:=?_) (by decide +kernel) rfl (by decide +kernel) (fun _ _ _ h=>h) (Or.inl ⟨by rfl,?_⟩) (by assumption) ?_
     | refine ESt.take (i:=5) (v:=?_) (by decide +kernel) rfl (by decide +kernel) (fun _ _ _ h=>h) (Or.inl ⟨by rfl,?_⟩) (by assumption) ?_
     | refine ESt.take (i:=6) (v:=?_) (by decide +kernel) rfl (by decide +kernel) (fun _ _ _ h=>h) (Or.inl ⟨by rfl,?_⟩) (by assumption) ?_
     | refine ESt.take (i:=7) (v:=?_) (by decide +kernel) rfl (by decide +kernel) (fun _ _ _ h=>h) (Or.inl ⟨by rfl,?_⟩) (by assumption) ?_
     | refine ESt.take (i:=8) (v:=?_) (by decide +kernel) rfl (by decide +kernel) (fun _ _ _ h=>h) (Or.inl ⟨by rfl,?_⟩) (by assumption) ?_
     | refine ESt.take (i:=9) (v:=?_) (by decide +kernel) rfl (by decide +kernel) (fun _ _ _ h=>h) (Or.inl ⟨by rfl,?_⟩) (by assumption) ?_
     | refine ESt.take (i:=10) (v:=?_) (by decide +kernel) rfl (by decide +kernel) (fun _ _ _ h=>h) (Or.inl ⟨by rfl,?_⟩) (by assumption) ?_
     | refine ESt.take (i:=11) (v:=?_) (by decide +kernel) rfl (by decide +kernel) (fun _ _ _ h=>h) (Or.inl ⟨by rfl,?_⟩) (by assumption) ?_
    rotate_left
    · intro wx hSw;obtain ⟨h0,h1,h2,h3,h4,h5⟩:=hSw;go_simp;try with_reducible rfl
    simp only [Act.put,List.setIfInBounds_toArray]
   refine ESt.branch (rs:=[12]) (by decide +kernel) (by decide +kernel) ?_
   refine AllE.cons rfl (fun K hK=>?_) AllE.nil
   go_simp
   refine (Zed _ (HXP.out.same (SA.out.same s0)) HXZ.out.pro.small).mono ?_
   rintro e w10 ⟨A5,c5,ps5,rfl,hd5,O10,hs10⟩
   have s10:Same w6 w10:=s0.same hs10
   have O10':=qH (O10.out.base (B':=w.heap.size) (by simp only [World.size_drew];omega))
   clear O10 hs10
   go_wp2_with fail
   refine hK.out _ _ (Znr HB3 HB5 s10) (fun hHeld=>?_)
   clear hK K
   refine ESt.take (i:=13) (v:=?_) (by decide +kernel) rfl (by decide +kernel) (fun _ _ _ h=>h) (Or.inl ⟨by rfl,?_⟩) (by assumption) ?_
   rotate_left
   · intro wx hSw;obtain ⟨h0,h1,h2,h3,h4,h5⟩:=hSw;go_simp;try with_reducible rfl
   simp only [Act.put,List.setIfInBounds_toArray]
   refine ESt.branch (rs:=[14]) (by decide +kernel) (by decide +kernel) ?_
   refine AllE.cons rfl (fun K hK=>?_) AllE.nil
   go_simp
   have sB:=(Upd.refl (fun _=>False) w10).alloc (.cells #[.int .i64 ix,.string tx,.int .i64 sx,.int .i64 dx,.slice A5 nP c5] 50)
   have s12:=s10.same sB
   refine hK.out _ _ (Znr HB3 HB5 s12) (fun hHeld=>?_)
   clear hK K
   refine ESt.branch (rs:=[15]) (by decide +kernel) (by decide +kernel) ?_
   refine AllE.cons rfl (fun K hK=>?_) AllE.nil
   have sR:Same wr (w10.alloc (.cells #[.int .i64 ix,.string tx,.int .i64 sx,.int .i64 dx,.slice A5 nP c5] 50)):=SA.out.same s12
   have KO2:=KO'.out.same sR
   have hrow:=KO2.row
   rw [HLj.out] at hrow
   refine ZbP rfl (.tmp 49) (.tmp 62) _ _ rfl w.heap.size 50 5 64 _ Tryz.underlying24 Zgb rfl (.slice A' j c') j _ rfl hrow rfl (Zal Tryz.underlying24 (Row.rl w10 ⟨ix,tx,sx,dx,ps5,A5,nP,c5⟩) (RL.one _)) (by unfold maxLen;omega) (by omega) (by have:=sR.size;omega) ?_
   intro v9 w9 hg9
   have KOr:=KO'.out.row
   rw [HLj.out] at KOr
   have hO9:=KO2.snoc (x:=⟨ix,tx,sx,dx,ps5,A5,nP,c5⟩) (by rw [HLj.out];exact hg9) ⟨O10'.out.same sB,HXI.out⟩
   have hN9:=(KO.out.same sR).type hg9.upd (fun g _ hg=>Zaq hrow hg) (by decide) (by decide) (by decide) (by decide)
   have q3:=(HB3.out.same s12).upd hg9.upd fun hh=>(HB3.out.same s12).ne_own hrow (by decide) hh
   have q5:=(HB5.out.same s12).upd hg9.upd fun hh=>by have:=(KOr.lt _ hh).2;omega
   obtain ⟨f1,_,f3⟩:=Zco (i:=1) KB3.out KOr (by decide) sR hg9
   obtain ⟨A9,c9,rfl⟩:=Zac hg9.own
   have hU3:=(Upd.refl (fun b=>b=w.heap.size+1+1) w9).put1 (i:=1) (.slice A9 (j+1) c9)
   have hO:=hO9.type hU3 (fun g _ hg=>by rw [hg];exact ⟨_,q3⟩) (by decide) (by decide) (by decide) (by decide)
   have hN:=hN9.type hU3 (fun g _ hg=>by rw [hg];exact ⟨_,q3⟩) (by decide) (by decide) (by decide) (by decide)
   have hS:=Zlg KS.out f3 (by omega) fun b hb=>(KOr.lt b hb).1
   have k1:=KB1.out.upd f3 (by rintro (hh | hh);· omega
                               exact KB1.out.ne_own KOr (by decide) hh)
   have k2:=KB2.out.upd f3 (by rintro (hh | hh);· omega
                               exact KB2.out.ne_own KOr (by decide) hh)
   have F1:=qH f1
   have FO:=qH hO
   have FN:=qH hN
   have FS:=qH hS
   have K1:=qH k1
   have K2:=qH k2
   have Q3:=qH q3
   clear f1 f3 hO hN hS k1 k2 hO9 hN9 hg9 hrow KO2 KOr hU3
   refine hK.out _ _ ⟨q3.cell 1,q5.cell 0,q5.cell 1,q5.cell 2,q5.cell 3,q5.cell 4⟩ (fun hHeld=>?_)
   clear hK K q3 q5
   simp only [Act.put]
   refine ESt.take (i:=16) (v:=?_) (by decide +kernel) rfl (by decide +kernel) (fun _ _ _ h=>h) (Or.inl ⟨by rfl,?_⟩) (by assumption) ?_
   rotate_left
   · intro wx hSw;obtain ⟨h0,h1,h2,h3,h4,h5⟩:=hSw;go_simp;try with_reducible rfl
   simp only [Act.put,List.setIfInBounds_toArray]
   refine ESt.last (by decide +kernel) (by decide +kernel) rfl (fun K hK=>?_) _
   have r3:=Q3.out.cell 1
   have z3:=Q3.out.frozen 1
   go_simp
   refine hK.out _ _ ?_
   clear hK K r3 z3 hHeld s0 s10 s12 sB sR
   go_wp2
   go_roundg (nR-(j+1))
   case measure=>omega
   case rel=>exact ⟨j+1,A9,c9,l'++[⟨ix,tx,sx,dx,ps5,A5,nP,c5⟩],rfl,by omega,by go_num,by rw [List.length_append,HLj.out];rfl,qH (by rw [List.map_append,KD'.out,HXD.out];simp only [List.map_cons,List.map_nil,RL.dat,hd5.out]),FO,FN,K1,K2,F1,FS⟩
 have hjn:j=nR:=by omega
 subst hjn
 clear hlt
 rw [List.take_of_length_le (by rw [HL'.out];exact Nat.le_refl _)] at KD'
 have e0:wr.cell? ⟨w.heap.size+1+1,0,none⟩=some (.slice A i c):=KB3.out.cell 0
 have e1:wr.cell? ⟨w.heap.size+1+1,1,none⟩=some (.slice A' j c'):=KB3.out.cell 1
 have g0:=KB2.out.cell 0
 have g1:=KB2.out.cell 1
 have z0:=KB2.out.frozen 0
 have z1:=KB2.out.frozen 1
 go_wp2
 have hB:=(KB2.out.put 0 (.slice A i c)).put 1 (.slice A' j c')
 have hU:=((Upd.refl (fun b=>b=w.heap.size+1) wr).put1 (i:=0) (.slice A i c)).put1 (i:=1) (.slice A' j c')
 have v0:=hB.cell 0
 have v1:=hB.cell 1
 have hT:∀ g,g<wr.heap.size->g=w.heap.size+1->OfT wr 26 g:=fun g _ hg=>by rw [hg];exact ⟨_,KB2.out⟩
 have r1:=KO.out.type hU hT (by decide) (by decide) (by decide) (by decide)
 have r2:=KO'.out.type hU hT (by decide) (by decide) (by decide) (by decide)
 refine bodyPost_ret (v:=.agg #[.slice A i c,.slice A' j c']) ?_ rfl ⟨⟨l,A,i,c,l',A',j,c'⟩,rfl,qH ?_,qH ⟨r1,r2⟩,KS.out.trans hU fun b hb hh=>by omega⟩
 · simp at v0 v1
   simp [results,Tryz.results13,go_sem,v0,v1]
 simp only [GR.dat,KD.out,KD'.out]
end Go.Proofs.YtkopcinhbjimiaaGreatDoor
