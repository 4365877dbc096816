/- Texts that the claim leans on: walks and plain laws, function by function. -/
import Derived.Recover
import Derived.Test.YtmkjfhnlnhceiaaGreatDoorN18
set_option maxRecDepth 100000
set_option maxHeartbeats 16000000
namespace Go.Proofs.YtmkjfhnlnhceiaaGreatDoor
section
open Go.RowKit
section
variable {P:Program} {md:Region.Mode} {ops:Array Oper} {Q:Exit->Act->World->Prop} {S:World->Prop} {n:Nat}
theorem ESt.tk (i:Nat) {oi:Oper} {v:Value} {f:Nat} {listed:Array Bool} {a:Act} {w:World} (hi:ops[i]?=some oi) (hy:YieldsIf P ops S oi v a) (hS:S w)
 (h:ESt P md ops Q S n f (listed.setIfInBounds i true) (a.put oi.dst v) w) (hok:Region.okE md ops n=true:=by decide +kernel)
 (hf:(decide (i<n) && Region.free md ops listed i && (Region.ready md ops listed).contains i)=true:=by decide +kernel) (hQ:∀ c a w,Q (.panic c) (a.put oi.dst v) w->Q (.panic c) a w:=by exact fun _ _ _ h=>h) :
 ESt P md ops Q S n (f+1) listed a w:=ESt.take hok hi hf hQ hy hS h
abbrev YaL:=@ESt.tk
theorem ESt.br (i:Nat) {o:Oper} {f:Nat} {listed:Array Bool} {a:Act} {w:World} (ho:ops[i]?=some o)
 (h:∀ K':Act->World->Prop,Shut (∀ a w,S w->(S w->ESt P md ops Q S n f (listed.setIfInBounds i true) a w)->K' a w)->if Region.wanted o (yielded ops a.tmps)=true then Oper.wp P o a w K' Q else K' (a.put o.dst undef) w)
 (hr:Region.ready md ops listed=[i]:=by decide +kernel) (hne:(![i].isEmpty && [i].all fun i=>decide (i<n))=true:=by decide +kernel):ESt P md ops Q S n (f+1) listed a w :=
 Yci hr hne (Ybx ho h YbA)
abbrev Ybv:=@ESt.br
theorem ESt.br2 (i j:Nat) {o o':Oper} {f:Nat} {listed:Array Bool} {a:Act} {w:World} (ho:ops[i]?=some o) (ho':ops[j]?=some o')
 (h:∀ K':Act->World->Prop,Shut (∀ a w,S w->(S w->ESt P md ops Q S n f (listed.setIfInBounds i true) a w)->K' a w)->if Region.wanted o (yielded ops a.tmps)=true then Oper.wp P o a w K' Q else K' (a.put o.dst undef) w)
 (h':∀ K':Act->World->Prop,Shut (∀ a w,S w->(S w->ESt P md ops Q S n f (listed.setIfInBounds j true) a w)->K' a w)->if Region.wanted o' (yielded ops a.tmps)=true then Oper.wp P o' a w K' Q else K' (a.put o'.dst undef) w)
 (hr:Region.ready md ops listed=[i,j]:=by decide +kernel) (hne:(![i,j].isEmpty && [i,j].all fun i=>decide (i<n))=true:=by decide +kernel):ESt P md ops Q S n (f+1) listed a w :=
 Yci hr hne (Ybx ho h (Ybx ho' h' YbA))
theorem ESt.fin {listed:Array Bool} {a:Act} {w:World} {o:Oper} {f:Nat} (ho:ops[n]?=some o)
 (h:∀ K':Act->World->Prop,Shut (∀ a w,Q .normal a w->K' a w)->if Region.wanted o (yielded ops a.tmps)=true then Oper.wp P o a w K' Q else K' (a.put o.dst undef) w)
 (hr:Region.ready md ops listed=[n]:=by decide +kernel) (hr2:Region.ready md ops (listed.setIfInBounds n true)=[]:=by decide +kernel):ESt P md ops Q S n (f+1) listed a w:=YcO hr hr2 ho h f
abbrev Ybi:=@ESt.fin
end
attribute [local go_sem] Ybq
def TabR (bs:List UInt8) (k:Nat) (w:World) (e:Ending) (w':World):Prop :=
 match tabP bs k 1 with
 | .error er=>e=.returned (.tuple #[.pointer none,.int .i64 er])/\Same w w'
 | .ok ns=>∃ t f m cnt v nv l,e=.returned (.tuple #[.pointer (some ⟨t,0,none⟩),.int .i64 0])/\PT w' w.heap.size t f m k 1 cnt 0 v nv l ns/\Same w w'
theorem ZnJ {tmps:Array Value} {W:World} {R0 R1:Nat} {v0 v1:Value} {R:Ending->World->Prop} (h2:tmps.getD 6 undef=.pointer (some ⟨R0,0,none⟩)) (h3:tmps.getD 7 undef=.pointer (some ⟨R1,0,none⟩)) (c0:W.cell? ⟨R0,0,none⟩=some v0) (c1:W.cell? ⟨R1,0,none⟩=some v1) (hR:R (.returned (.tuple #[v0,v1])) W) :
 ∃ v,(results Tryz.f115 tmps).run Tryz.prog W=.ok v W/\R (.returned v) W:=by
 refine ⟨.tuple #[v0,v1],?_,hR⟩;simp only [YbZ] at h2 h3;simp [results,Tryz.results115,go_sem,h2,h3,c0,c1]
theorem PF.lower {w:World} {B B' f k vs z low:Nat} {v:Value} {l:List BS} (h:PF w B f k vs z v l low) (hB:B'<=B):PF w B' f k vs z v l low:=⟨Yaj hB h.base,h.blk,h.own.base hB,h.size,h.recs,h.len,h.low⟩
theorem Zml {z:Nat}:∀ {m:Nat} {b:List UInt8} {er:Int},ZfP z m b=.error er->er≠0
 | 0,b,er,h=>by cases h
 | m+1,b,er,h=>by
   rw [ZfP] at h;split at h
   · rename_i e a;injection h with h
     subst h;generalize b.take z=c at a;cases c with
     | nil=>cases a;decide
     | cons x c =>
       rw [recP] at a;split at a
       · cases a;decide
       split at a
       · cases a
       split at a
       · cases a
       cases a;decide
   split at h
   · rename_i d;injection h with h
     subst h;exact Zml d
   cases h
theorem Zja {bs:List UInt8} {er:Int} (h:ZjH bs=.error er):er≠0:=by
 rw [Zfy] at h;split at h
 · rename_i a;injection h with h
   subst h;exact Zmi a
 split at h
 · rename_i b;injection h with h
   subst h;exact Zml b
 cases h
structure Rs2 (w:World) (r0 r1:Nat) (W:World):Prop where
 b0:∃ x,Blk W r0 66 #[x]
 b1:∃ x,Blk W r1 30 #[x]
 same:Same w W
theorem Rs2.fin {w W:World} {r0 r1:Nat} (h:Rs2 w r0 r1 W) (h0:w.heap.size<=r0) (h1:w.heap.size<=r1) (hne:r0≠r1) {tmps:Array Value} {v0 v1:Value} {R:Ending->World->Prop} (e0:tmps.getD 6 undef=.pointer (some ⟨r0,0,none⟩)) (e1:tmps.getD 7 undef=.pointer (some ⟨r1,0,none⟩))
 (hR:∀ W',Same w W'->Upd (fun b=>b=r0\/b=r1) W W'->R (.returned (.tuple #[v0,v1])) W') :
 ∃ v,(results Tryz.f115 tmps).run Tryz.prog ((W.setCell ⟨r0,0,none⟩ v0).setCell ⟨r1,0,none⟩ v1)=.ok v ((W.setCell ⟨r0,0,none⟩ v0).setCell ⟨r1,0,none⟩ v1)/\R (.returned v) ((W.setCell ⟨r0,0,none⟩ v0).setCell ⟨r1,0,none⟩ v1):=by
 obtain ⟨x,a⟩:=h.b0;obtain ⟨y,c⟩:=h.b1;exact ZnJ e0 e1 (((a.put 0 v0).far (p:=⟨r1,0,none⟩) (fun e=>hne e) v1).cell 0) (((c.far (p:=⟨r0,0,none⟩) (fun e=>hne e.symm) v0).put 0 v1).cell 0)
  (hR _ (YaY (YaY h.same h0 _) h1 _) (((Yaa (fun b=>b=r0\/b=r1) W).setCell (p:=⟨r0,0,none⟩) (.inl (.inl rfl)) _).setCell (p:=⟨r1,0,none⟩) (.inl (.inr rfl)) _))
def TkU (t:TypeId):Prop:=t=9\/t=66\/t=30
theorem tkU:FlU TkU:=⟨by unfold TkU;decide,by unfold TkU;decide,by unfold TkU;decide,by unfold TkU;decide⟩
theorem flF:FlU (fun _=>False):=⟨id,id,id,id⟩
theorem PT.it {W W':World} {g0 B t f m k vs cnt low:Nat} {v nv:Value} {l:List BS} {ns:List ByteArray} (h:PT W B t f m k vs cnt low v nv l ns) (hm:m<g0) (hu:Upd (Zao (fun _=>False) g0 W) W W'):PT W' B t f m k vs cnt low v nv l ns :=
 ⟨h.base,h.blk.it hu id,h.file.it flF hu,ZjZ h.row hu id,h.map.upd hu fun a=>qt a.1,h.mB,h.len,h.texts⟩
theorem ReR.obj {L:List (Nat×List UInt8)} {pre:List RE} {x:RE} {W:World} {l:Nat} {o:Obj} (h:ReR L pre x W) (ho:W.heap[l]?=some o) (hc:o.isCells=false) (o':Obj):ReR L pre x (W.putObj l o'):=by
 have d:=(Yaa (fun b=>b=l) W).grown (grownBy_putObj' W l o') fun k e=>.inl (by injection e with e;exact e.symm);have f:∀ b,TyB W 0 b->¬ b=l:=fun b a e=>by
  subst e;obtain ⟨_,_,g,i,c⟩:=a;rw [ho] at c;injection c with c
  subst c;cases hc
 exact ⟨h.at_,(YdZ h.row d f).mono fun b _ a=>a.upd d (f b a)⟩
structure TkJ (w:World) (t f m kk r0 r1 tb:Nat) (v nv:Value) (l:List BS) (L:List (Nat×List UInt8)) (N0:List ByteArray) (pre:List RE) (W:World):Prop where
 tab:∃ N,PT W w.heap.size t f m kk 1 pre.length 0 v nv l N/\tokU N0 L=tokU N (L.drop pre.length)/\∀ p∈L.drop pre.length,N[p.1]?=some noText
 b0:Blk W r0 66 #[.pointer none]
 b1:Blk W r1 30 #[.int .i64 0]
 bt:Blk W tb 66 #[.pointer (some ⟨t,0,none⟩)]
 same:Same w W
structure TkX (w:World) (r0 r1:Nat) (L:List (Nat×List UInt8)) (N0:List ByteArray) (er:Int) (W:World):Prop where
 err:tokU N0 L=.error er
 b0:Blk W r0 66 #[.pointer none]
 b1:Blk W r1 30 #[.int .i64 er]
 same:Same w W
theorem TkJ.it {w:World} {g0 t f m kk r0 r1 tb:Nat} {v nv:Value} {l:List BS} {L:List (Nat×List UInt8)} {N0:List ByteArray} {pre:List RE} {W W':World} (h:TkJ w t f m kk r0 r1 tb v nv l L N0 pre W) (hm:m<g0) (hw:w.heap.size<=g0) (hu:Upd (Zao (fun _=>False) g0 W) W W'):TkJ w t f m kk r0 r1 tb v nv l L N0 pre W':=by obtain ⟨N,a,b⟩:=h.tab;exact ⟨⟨N,a.it hm hu,b⟩,h.b0.it hu id,h.b1.it hu id,h.bt.it hu id,h.same.it hu hw⟩
theorem Zmm {F:Nat->Prop} {A:Option Addr} {n c:Nat} {bs:List UInt8} (w:World) (hb:Zag w F A n c bs) (hn:n<=140737488355328) (hN:Nib w) (k:Nat) (hk:1<=k/\k<=3) :
 Calls Tryz.prog 115 #[.slice A n c,.int .i64 (k:Int),.int .i64 1] w (TabR bs k w):=by
 have HO:=qH fun wx (hs:Same w wx)=>ZhM wx (hb.same hs) hn (hN.same hs);clear hb hN hn;have ba:Hid (∀ e w',TabR bs k w e w'↔TabR bs k w e w'):=qH fun _ _=>Iff.rfl;generalize bp:TabR bs k w=OR at ba ⊢;have bb:=qH bp;clear bp ba;refine (YaO (n:=5)).1 ?_;refine callsIn_of_wp_marks Tryz.func115 rfl trivial ?_ rfl;simp only [Tryz.ntmps115,YbV,Yao,YaS,Nat.reduceAdd,Nat.reduceSub,Yda,Ydb,Ydc,Ydd,YaK,YaE];refine YcT.2 ?_;go_upto_region 1 with fail;have ac:Hid (Same w ((w.alloc (.cells #[.pointer none] 66)).alloc (.cells #[.int .i64 0] 30))):=qH (((Yaa _ w).alloc _).alloc _);have X:Hid (Blk ((w.alloc (.cells #[.pointer none] 66)).alloc (.cells #[.int .i64 0] 30)) w.heap.size 66 #[.pointer none]):=qH ((Yad w _ _).same ((Yaa _ _).alloc _));have M:Hid (Blk ((w.alloc (.cells #[.pointer none] 66)).alloc (.cells #[.int .i64 0] 30)) (w.heap.size+1) 30 #[.int .i64 0]):=qH (by have I:=Yad (w.alloc (.cells #[.pointer none] 66)) 30 #[.int .i64 0];rwa [show (w.alloc (.cells #[.pointer none] 66)).heap.size=w.heap.size+1 from Yav _ _] at I)
 generalize ((w.alloc (.cells #[.pointer none] 66)).alloc (.cells #[.int .i64 0] 30))=w1 at *;have HC:=qH (HO.out w1 ac);generalize cs:w.heap.size+1=B at *;generalize ct:w.heap.size=C at *;have j:Hid (C≠B/\w.heap.size<=C/\w.heap.size<=B):=qH qO;have R:Hid (∀ O W,tabP bs k 1=.error O->Same w W->OR (.returned (.tuple #[.pointer none,.int .i64 O])) W):=qH fun O W I h2=>by rw [<- bb.out];unfold TabR;rw [I];exact ⟨rfl,h2⟩
 go_wp2_with fail;refine (Zgy _ k 1 hk (.inl rfl)).mono ?_;rintro e w2 ⟨rfl,rfl⟩;unfold ZkX at HC;cases hO:ZjH bs with
 | error O =>
   rw [hO] at HC;have HT:=qH (show tabP bs k 1=.error O by unfold tabP;rw [hO]);have co:(O != 0)=true:=Ybh.2 (Zja hO);clear hO;go_wp2_with fail;refine HC.mono ?_;rintro e w2 ⟨rfl,r⟩;have U:Hid (Rs2 w C B w2):=qH ⟨⟨_,X.same r⟩,⟨_,M.same r⟩,ac.trans r fun _ _ f=>f⟩;have q0:=(X.same r).c0;have q1:=(M.same r).c0;have z0:=(X.same r).frozen 0;have z1:=(M.same r).frozen 0;clear r;go_wp2;exact U.fin j.2.1 j.2.2 j.1 rfl rfl fun W' h _=>R.out _ _ HT h
 | ok fl =>
   obtain ⟨kk,vv,z,rs⟩:=fl;rw [hO] at HC;have HT:=qH (show tabP bs k 1=if kk≠k\/z≠42 then .error 111 else if vv≠1 then .error 8 else if 200<rs.length then .error 66 else ZhY [] rs by unfold tabP;rw [hO]);clear hO;go_wp2_with fail;refine HC.mono ?_;rintro e w2 ⟨f,v,l,rfl,bq,hp,r⟩;have hp:PF w2 w1.heap.size f kk vv z v l 0:=hp;have bz:l.map BS.rc=rs:=YaC Zaz.recs bq;subst bz;have HP:=qH (hp.lower ac.size);have U:Hid (Rs2 w C B w2):=qH ⟨⟨_,X.same r⟩,⟨_,M.same r⟩,ac.trans r fun _ _ f=>f⟩;have H0:=qH (X.same r);have H1:=qH (M.same r);have q0:=(X.same r).c0;have q1:=(M.same r).c0;have z0:=(X.same r).frozen 0;have z1:=(M.same r).frozen 0;clear hp r bq HC HO X M;go_wp2_with fail;refine (ZhH w2 HP).mono ?_;rintro e w3 ⟨rfl,rfl⟩;by_cases an:kk=k
   case neg =>
    have HE:=qH (HT.trans (Yac (.inl an)));have ad:¬ (kk:Int)=(k:Int):=qO;clear HT an;go_wp2;exact U.fin j.2.1 j.2.2 j.1 rfl rfl fun W' h _=>R.out _ _ HE h
   subst an;go_wp2_with fail;refine (ZcJ w2 HP).mono ?_;rintro e w3 ⟨rfl,rfl⟩;by_cases hz:z=42
   case neg =>
    have HE:=qH (HT.trans (Yac (.inr hz)));have ad:¬ (z:Int)=42:=qO;clear HT hz;go_wp2;exact U.fin j.2.1 j.2.2 j.1 rfl rfl fun W' h _=>R.out _ _ HE h
   subst hz;have ae:=qH (HT.trans (Yab (by simp)));clear HT;go_wp2_with fail;refine (ZeI w2 HP).mono ?_;rintro e w3 ⟨rfl,rfl⟩;by_cases hv:vv=1
   case neg =>
    have HE:=qH (ae.trans (Yac hv));have ad:¬ (vv:Int)=1:=qO;clear ae hv;go_wp2;exact U.fin j.2.1 j.2.2 j.1 rfl rfl fun W' h _=>R.out _ _ HE h
   subst hv;have a1:=qH (ae.trans (Yab (by simp)));clear ae;have ao:=qH (Zbl w2 HP);rw [Yag] at a1;obtain ⟨Z,b4⟩:∃ Z,l.length=Z:=⟨_,rfl⟩
   have a4:=qH b4;rw [b4] at a1 ao;clear b4;go_wp2_with fail;refine ao.mono ?_;rintro e w3 ⟨rfl,rfl⟩;by_cases a0:200<Z
   case pos =>
    have HE:=qH (a1.trans (Yac a0));have ad:(200:Int)<(Z:Int):=qO;clear a1 a0;go_wp2;exact U.fin j.2.1 j.2.2 j.1 rfl rfl fun W' h _=>R.out _ _ HE h
   have ad:(Z:Int)<=200:=qO;have ap:=qH ((a1.trans (Yab a0)).trans (Znr l []));clear a1 a0 ao;go_wp2_with fail;refine (Zmg w2 HP U.same.size).mono ?_;rintro e w3 ⟨t,m,nv,rfl,ht,al⟩;have af:=qH ht;have aq:=qH (H0.same al);have ar:=qH (H1.same al);have bc:=qH (U.same.trans al fun _ _ f=>f);clear ht al H0 H1 HP hp q0 q1 z0 z1 U;rw [a4.out] at af ap;go_upto_region 13 with fail;have ag:=qH (af.same ((Yaa (fun _=>False) w3).alloc (.cells #[.pointer (some ⟨t,0,none⟩)] 66)));have au:=qH (aq.same ((Yaa (fun _=>False) w3).alloc (.cells #[.pointer (some ⟨t,0,none⟩)] 66)));have av:=qH (ar.same ((Yaa (fun _=>False) w3).alloc (.cells #[.pointer (some ⟨t,0,none⟩)] 66)));have aw:=qH (bc.trans ((Yaa (fun _=>False) w3).alloc (.cells #[.pointer (some ⟨t,0,none⟩)] 66)) fun _ _ f=>f);have a2:=qH (Yad w3 66 #[.pointer (some ⟨t,0,none⟩)]);have cp:C<w3.heap.size/\B<w3.heap.size:=⟨aq.lt,ar.lt⟩
   have cq:Hid (t<w3.heap.size):=qH af.blk.lt;generalize w3.alloc (.cells #[.pointer (some ⟨t,0,none⟩)] 66)=w4 at *;generalize cu:w3.heap.size=tb at *;clear af aq ar bc;go_wp2_with fail;refine (Zbo w4 f).mono ?_;rintro e wc ⟨rfl,b5⟩;have G:Same w4 wc:=b5 ▸ (Yaa (fun _=>False) w4).alloc _;have bd:Hid (Blk wc w4.heap.size 67 #[.pointer (some ⟨f,0,none⟩)]):=qH (b5 ▸ Yad w4 _ _);have c1:Hid (TkJ w t f m kk C B tb v nv l (Zak 0 l) (List.replicate Z noText) [] wc):=qH ⟨⟨_,ag.same G,rfl,fun p hp=>by obtain ⟨_,y,h2,_⟩:=ZcK hp;have h3:=(Yaq.1 h2).1;rw [a4.out] at h3;rw [Yfa,Yac qO]⟩,au.same G,av.same G,a2.same G,aw.trans G fun _ _ f=>f⟩
   have ax:=qH (ag.file.same G);have c4:=qH ax.recs;have c5:=qH (ZkL tkU 4 qO wc ax.out bd.out);have bf:m<wc.heap.size:=(ag.map.same G).lt;have ah:w.heap.size<=wc.heap.size:=Yaj aw.size G.size;have cr:C<wc.heap.size/\B<wc.heap.size/\tb<wc.heap.size:=⟨(au.same G).lt,(av.same G).lt,(a2.same G).lt⟩
   generalize hL:Zak 0 l=L at *;have c6:=qH (show L.Pairwise fun a b=>a.1<b.1 by rw [<- hL];exact Zdz l 0);generalize w4.heap.size=fB at *;clear b5 G ag au av a2 aw ax bd;go_wp2_with fail;refine (YcT (n:=5)).1 ?_;generalize a8:wc.heap.size=g0 at *;refine ZcR (T:=fun _=>False) rfl qO (gf:=122) (lb:=#[.pointer (some ⟨fB,0,none⟩)]) rfl trivial (enters_of Tryz.func122 (by kernel_rfl) rfl) c5.out
    (fun A=>Yaa _ A) (fun I h2=>Yed I h2) (fun W l o o' hl ho hc=>(Yaa _ W).grown (grownBy_putObj' W l o') fun k e=>.inl (by cases e;exact YbI ho hc (Yah _))) (fun P x W l o o' hl ho hc h=>h.obj ho hc o') (YdX _ _) (fun _=>rfl)
    (fun P W=>TkJ w t f m kk C B tb v nv l L (List.replicate Z noText) P W)
    (fun c P W=>c=.ret/\∃ O,TkX w C B L (List.replicate Z noText) O W)
    (fun P W W' h H=>h.it bf ah (a8 ▸ H))
    (fun c P W W' ⟨I,O,h⟩ H=>⟨I,O,h.err,h.b0.it H id,h.b1.it H id,h.same.it H (a8 ▸ ah)⟩)
    c1.out ?F ?assign ?body ?done ?stop
   case assign =>
    intro l x W K hK;dsimp only [RE.args];gi_wp2;exact hK
   case body =>
    rintro lp P x W hl cv hJ hX;obtain ⟨N,V,hU,hz⟩:=hJ.tab;have E:=qH hJ;have d:=qH V;have HU:=qH hU;have HZ:=qH hz;have ai:=qH hX.at_;have bg:(x.id,x.data)∈Zak 0 l:=by rw [hL];exact Ybe hX.at_
    obtain ⟨_,y,b6,bu,bv⟩:=ZcK bg;have hid:x.id<Z:=by have I:=(Yaq.1 b6).1;rw [a4.out] at I;omega
    have c7:x.data.length=41:=by have I:=c4.out y (Ybe b6) bu;rw [bv] at I;exact Nat.succ.inj I
    have HN:=qH (Znv W hX.row c7);have ay:N.length=Z:=V.len.trans a4.out;have Y:=V.row;rw [ay] at Y;obtain ⟨An,cn,b7⟩:=Zad Y;obtain ⟨bN,un,hA,cw,cx,_,cj,cl,bw⟩:=ZaW (b7 ▸ Y) hid;have a5:=qH (b7.trans (by rw [hA]));have S:=qH Y;have c8:=qH ay;have q0:=hJ.b0.c0;have q1:=hJ.b1.c0;have z0:=hJ.b0.frozen 0;have z1:=hJ.b1.frozen 0;have qt:=hJ.bt.c0;have p1:W.cell? ⟨t,1,none⟩=some (.slice (some ⟨bN,0,none⟩) Z cn):=by rw [<- a5.out];exact V.blk.cell 1
    have p2:=V.blk.c2;have bh:Hid (∀ (O:Int),tokU (List.replicate Z noText) L=.error O->KeepsFrom g0 W ((W.setCell ⟨C,0,none⟩ (.pointer none)).setCell ⟨B,0,none⟩ (.int .i64 O))/\∃ er',TkX w C B L (List.replicate Z noText) er' ((W.setCell ⟨C,0,none⟩ (.pointer none)).setCell ⟨B,0,none⟩ (.int .i64 O))):=qH fun O cm=>by have H:Upd (fun b=>b=C\/b=B) W ((W.setCell ⟨C,0,none⟩ (.pointer none)).setCell ⟨B,0,none⟩ (.int .i64 O)):=((Yaa (fun b=>b=C\/b=B) W).setCell (p:=⟨C,0,none⟩) (.inl (.inl rfl)) _).setCell (p:=⟨B,0,none⟩) (.inl (.inr rfl)) _;have az:=(E.b0.put 0 (.pointer none)).far (p:=⟨B,0,none⟩) (fun e=>j.1 e) (.int .i64 O);have b2:=(E.b1.far (p:=⟨C,0,none⟩) (fun e=>j.1 e.symm) (.pointer none)).put 0 (.int .i64 O);refine ⟨Zah H fun k hk hB o ho=>by rcases hk with hk | hk <;> omega,O,cm,az,b2,E.same.trans H fun b hb e=>by rcases e with e | e <;> omega⟩
    clear hJ V hU hz hX bg b6 bu bv Y b7 ay;gi_wp2_with fail;refine ⟨trivial,?_⟩;gi_at_call 160;refine (CallsIn.inRound lp (YaO.2 HN)).mono ?_;rintro e5 w5 ⟨⟨s,ok,rfl,hs⟩,rfl⟩;have HS:=qH hs;clear hs;cases ok
    case false =>
     have hE:=bh.out 110 ((ZoI ai HU).1 (by rw [HS.out];rfl));have a6:=qH hE;clear hE;gi_wp2;exact ⟨by rw [a8];exact a6.1,rfl,a6.2⟩
    have hs:ZfF x.data=some s:=HS.out;have hg:=Zka hs;have bi:=(ZbX hg).2;have aj:=(d.map.look Zho (Zec W) (s:=s) (by unfold maxLen;omega)).1;have ak:∀ o,idxI N s=o->idsF N s=o.map fun (i:Nat)=>Value.int .i64 (i:Int):=fun o h=>by unfold idsF;rw [h]
    cases hi:idxI N s with
    | some i =>
      rw [ak _ hi] at aj;have hE:=bh.out 7 ((ZoI ai HU).2 s hs (by rw [hi];rfl));have a6:=qH hE;clear hE hs hg hi ak;simp only [Ybw,Yde,Option.isSome_some] at aj;gi_wp2;exact ⟨by rw [a8];exact a6.1,rfl,a6.2⟩
    | none =>
      rw [ak _ hi] at aj;have HI:=qH hi;have HG:=qH hg;have c9:=qH hs;clear hs hg hi;simp only [Option.map_none,Yfb,Ygo] at aj;gi_wp2_with fail;have s0:Same W W.drew:=(Yaa _ W).drew;refine ZdG ?_;refine Zar 16 (fun wx=>wx.cell? ⟨tb,0,none⟩=some (.pointer (some ⟨t,0,none⟩))/\wx.cell? ⟨t,1,none⟩=some (.slice (some ⟨bN,0,none⟩) Z cn)/\wx.cell? ⟨t,2,none⟩=some (.map (some m))) (by kernel_rfl) (by kernel_rfl) (Ycc fun _ _ h=>h) ⟨qt,p1,p2⟩ (fun a9=>?_)
      repeat
       first
        | refine YaL 0 (v:=?_) rfl (Or.inl ⟨by rfl,?_⟩) qA ?_
        | refine YaL 1 (v:=?_) rfl (Or.inl ⟨by rfl,?_⟩) qA ?_
        | refine YaL 2 (v:=?_) rfl (Or.inl ⟨by rfl,?_⟩) qA ?_
        | refine YaL 3 (v:=?_) rfl (Or.inl ⟨by rfl,?_⟩) qA ?_
        | refine YaL 4 (v:=?_) rfl (Or.inl ⟨by rfl,?_⟩) qA ?_
        | refine YaL 5 (v:=?_) rfl (Or.inl ⟨by rfl,?_⟩) qA ?_
        | refine YaL 6 (v:=?_) rfl (Or.inl ⟨by rfl,?_⟩) qA ?_
        | refine YaL 7 (v:=?_) rfl (Or.inl ⟨by rfl,?_⟩) qA ?_
        | refine YaL 8 (v:=?_) rfl (Or.inl ⟨by rfl,?_⟩) qA ?_
        | refine YaL 9 (v:=?_) rfl (Or.inl ⟨by rfl,?_⟩) qA ?_
        | refine YaL 10 (v:=?_) rfl (Or.inl ⟨by rfl,?_⟩) qA ?_
        | refine YaL 11 (v:=?_) rfl (Or.inl ⟨by rfl,?_⟩) qA ?_
        | refine YaL 12 (v:=?_) rfl (Or.inl ⟨by rfl,?_⟩) qA ?_
       rotate_left
       · intro wx am;have h0:=am.1;have I:=am.2.1;have h2:=am.2.2;go_simp;try with_reducible rfl
       simp only [Act.put,Yal,YaA,Yaz,Yaw,Yam,Yap]
      have a3:nv.ownBlock=some bN:=by rw [a5.out];rfl
      obtain ⟨cy,b8⟩:=Zaf S.out a3;have n1:tb≠bN:=fun e=>E.bt.ne_own S.out qD (e ▸ a3);have n2:t≠bN:=fun e=>d.blk.ne_own S.out qD (e ▸ a3);have n3:m≠bN:=d.map.ne b8;have n4:m≠tb:=d.map.ne E.bt;have n5:m≠t:=d.map.ne d.blk;have c3:W.drew.cell? ⟨bN,x.id,none⟩=some un:=cj;have f3:W.drew.frozen? ⟨bN,x.id,none⟩=false:=cl;have u1:Upd (fun b=>b=bN) W (W.setCell ⟨bN,x.id,none⟩ (.string s)).drew:=((Yaa _ W).put1 _).drew;have bj:=qH (E.bt.upd u1 n1);have b3:=qH (d.blk.upd u1 n2);have ca:=qH (d.map.upd u1 n3);have M:=qH (bw (.string s));have cb:=qH u1;refine Ybv 13 rfl (fun K hK=>?_);go_simp;refine hK.out _ _ ⟨bj.cell 0,by rw [<- a5.out];exact b3.cell 1,b3.cell 2⟩ (fun a9=>?_);clear hK K c3 f3 u1;generalize ci:(W.setCell ⟨bN,x.id,none⟩ (.string s)).drew=W1 at *;obtain ⟨W2,st,aa,u,ab⟩:=ca.entry Zho (by have:=(Yaq.1 ai).1;have I:=ZdP l 0;rw [hL] at I;rw [a4.out] at I;unfold maxLen;omega) (Zec W1) (s:=s) (by unfold maxLen;omega) (ak _ HI) (.int .i64 (x.id:Int));have cc:=qH ab;have bk:=qH u;have cd:=qH (bj.upd u n4.symm);have a2:=qH (b3.upd u n5.symm);clear ab u;refine Ybv 14 rfl (fun K hK=>?_);go_simp;refine hK.out _ _ ⟨cd.cell 0,by rw [<- a5.out];exact a2.cell 1,a2.cell 2⟩ (fun a9=>?_);clear hK K aa;refine YaL 15 (v:=?_) rfl (Or.inl ⟨by rfl,?_⟩) qA ?_;rotate_left
      · intro wx am;go_simp;try with_reducible rfl
      simp only [Act.put,Yal,YaA,Yaz,Yaw,Yam,Yap];obtain ⟨W3,aa,bx,b9⟩:=cc.out W2 rfl;refine Ybi rfl (fun K hK=>?_);go_simp;refine hK.out _ _ ?_;clear hK K aa;have ce:=qH bx;have H:Upd (fun b=>b=bN\/b=m) W W3:=((cb.mono (S':=fun b=>b=bN\/b=m) fun _ _ h=>.inl h).trans bk fun _ _ h=>.inr h).trans b9 fun _ _ h=>.inr h;have a7:Upd (Zao TkU 0 W) W W3:=H.mono fun b _ h=>by
       rcases h with rfl | rfl
       · exact Ycu ⟨_,b8⟩ (Yah _) (.inl rfl)
       obtain ⟨es,ck,h9⟩:=d.map.obj;exact YbI h9 rfl (Yah _)
      have bl:KeepsFrom g0 W W3:=Zah H fun k hk hB o ho=>by
       rcases hk with rfl | rfl
       · exact YeD ⟨_,b8⟩ ho
       omega
      obtain ⟨e1,e2,e3⟩:=Zrc c6.out ai.out HU.out HZ.out c9.out (by rw [HI.out];rfl);have bm:TkJ w t f m kk C B tb v nv l L (List.replicate Z noText) (P++[x]) W3:=by
       have e4:(P++[x]).length=P.length+1:=by simp
       refine ⟨⟨N.set x.id s,⟨d.base,d.blk.upd H fun h=>h.elim n2 n5.symm,d.file.it tkU a7,?_,?_,d.mB,?_,?_⟩,by rw [e4];exact e1,by rw [e4];exact e2⟩,E.b0.upd H ?_,E.b1.upd H ?_,E.bt.upd H fun h=>h.elim n1 n4.symm,E.same.trans H ?_⟩
       · have I:=M.out;rw [Ycg,c8.out,a5.out,YeX];have h2:=Zaa (show W1.ownsRow w.heap.size 9 1 (.slice (some ⟨bN,0,none⟩) Z cn) Z ((N.map Value.string).set x.id (.string s)) by rw [<- ci];rw [hA] at I;exact I) (Yaa _ W1);exact Zae (Zae h2 bk fun g hg e=>n3 (e.symm.trans (Yax hg).symm)) b9 fun g hg e=>n3 (e.symm.trans (Yax hg).symm)
       · rw [e4,ZsR e3 (ZfS HG) (by rw [HI.out];rfl)];exact ce
       · rw [Ycg];exact d.len
       · intro z hz;rcases YeY hz with hz | rfl
         · exact d.texts z hz
         exact bi
       · rintro (h | h)
         · exact E.b0.ne_own S qD (h ▸ a3)
         exact d.map.ne E.b0 h.symm
       · rintro (h | h)
         · exact E.b1.ne_own S qD (h ▸ a3)
         exact d.map.ne E.b1 h.symm
       rintro b hb (h | h)
       · have:=(S.lt bN a3).1;omega
       have:=d.mB;omega
      have cf:=qH bm;have cg:=qH bl;have ch:=qH a7;clear bm bl a7 H bx b9;refine NoPanic.normal ?_;gi_wp2;exact ⟨by rw [a8];exact cg,ch,cf⟩
   case done =>
    rintro D xs W hD hS hJ hK;obtain ⟨N,V,hU,hz⟩:=hJ.tab;have E:=qH hJ;have d:=qH V;have hT:tabP bs kk 1=.ok N:=by rw [ap.out];have I:=YaC List.length hS;rw [Yag] at I;rw [I,List.drop_length] at hU;exact hU
    have HT:=qH hT;have q0:=hJ.b0.c0;have q1:=hJ.b1.c0;have qt:=hJ.bt.c0;have z0:=hJ.b0.frozen 0;have z1:=hJ.b1.frozen 0;clear hJ V hU hz hT;go_wp2;have H:Upd (fun b=>b=C\/b=B) W ((W.setCell ⟨C,0,none⟩ (.pointer (some ⟨t,0,none⟩))).setCell ⟨B,0,none⟩ (.int .i64 0)):=((Yaa (fun b=>b=C\/b=B) W).setCell (p:=⟨C,0,none⟩) (.inl (.inl rfl)) _).setCell (p:=⟨B,0,none⟩) (.inl (.inr rfl)) _;have az:=(E.b0.put 0 (.pointer (some ⟨t,0,none⟩))).far (p:=⟨B,0,none⟩) (fun e=>j.1 e) (.int .i64 0);have b2:=(E.b1.far (p:=⟨C,0,none⟩) (fun e=>j.1 e.symm) (.pointer (some ⟨t,0,none⟩))).put 0 (.int .i64 0);have bn:((W.setCell ⟨C,0,none⟩ (.pointer (some ⟨t,0,none⟩))).setCell ⟨B,0,none⟩ (.int .i64 0)).heap[D]?=_:=(H.block D (YaX.1 hK).1 (fun h=>by rcases h with h | h <;> omega)).trans hK;generalize (W.setCell ⟨C,0,none⟩ (.pointer (some ⟨t,0,none⟩))).setCell ⟨B,0,none⟩ (.int .i64 0)=W2 at *;refine ⟨by simp,.inl ⟨_,_,rfl,run_takeDeferred bn,?_⟩⟩;have u:=(Yaa (Zao (fun _=>False) g0 W2) W2).grown (grownBy_putObj' W2 D (.deferred none)) fun k e=>.inl (by cases e;exact YbI bn rfl qO);refine ZnJ (R0:=C) (R1:=B) rfl rfl ((az.it u fun f=>f).cell 0) ((b2.it u fun f=>f).cell 0) ?_;rw [<- bb.out];unfold TabR;rw [HT.out];have h3:=d.out;have a7:Upd (Zao TkU 0 W) W W2:=H.mono fun b _ h=>by
     rcases h with rfl | rfl
     · exact Ycu ⟨_,E.b0⟩ (Yah _) (.inr (.inl rfl))
     exact Ycu ⟨_,E.b1⟩ (Yah _) (.inr (.inr rfl))
    have bo:PT W2 w.heap.size t f m kk 1 xs.length 0 v nv l N:=⟨h3.base,h3.blk.upd H fun h=>h.elim (h3.blk.ne E.b0 qD) (h3.blk.ne E.b1 qD),h3.file.it tkU a7,Zae h3.row H fun g hg e=>?_,h3.map.upd H fun h=>h.elim (fun h=>h3.map.ne E.b0 h) fun h=>h3.map.ne E.b1 h,h3.mB,h3.len,h3.texts⟩
    · exact ⟨t,f,m,xs.length,v,nv,l,rfl,bo.it bf u,Same.it (show Same w W2 from E.same.trans H fun b hb e=>by rcases e with e | e <;> omega) u ah⟩
    rcases e with e | e
    · exact E.b0.ne_own h3.row qD (e ▸ hg)
    exact E.b1.ne_own h3.row qD (e ▸ hg)
   rintro D c P W hD ⟨q,hP⟩ ⟨rfl,O,hX⟩ hK;gi_wp2;refine ⟨by simp,.inl ⟨_,_,rfl,run_takeDeferred hK,?_⟩⟩;have u:=(Yaa (Zao (fun _=>False) g0 W) W).grown (grownBy_putObj' W D (.deferred none)) fun k e=>.inl (by cases e;exact YbI hK rfl qO);refine ZnJ (R0:=C) (R1:=B) rfl rfl ((hX.b0.it u fun f=>f).cell 0) ((hX.b1.it u fun f=>f).cell 0) ?_;exact R O _ (ap.trans hX.err) (hX.same.it u ah)
end
section
open Go.RowKit
def ZoT (er:Int):Value:=.iface 99 (.agg #[.int .i64 er])
def Zcn (er:Int):Ending:=.panicked [{ v:=ZoT er,recovered:=false }]
theorem ZbP (w:World):Calls Tryz.prog 58 #[.int .i64 0] w fun e w'=>e=.returned (.tuple #[])/\w=w':=by go_enter Tryz.func58,Tryz.ntmps58;go_wp2;go_end0;exact ⟨rfl,rfl⟩
theorem Zco (w:World) {er:Int} (h:er≠0):Calls Tryz.prog 58 #[.int .i64 er] w fun e w'=>e=Zcn er/\w=w':=by have a:(er != 0)=true:=Ybh.2 h;go_enter Tryz.func58,Tryz.ntmps58;go_wp2;exact ⟨rfl,rfl,rfl⟩
theorem ZaP (w:World) (er:Int):Calls Tryz.prog 66 #[.bool true,.int .i64 er] w fun e w'=>e=.returned (.tuple #[])/\w=w':=by go_enter Tryz.func66,Tryz.ntmps66;go_wp2;go_end0;exact ⟨rfl,rfl⟩
theorem Zas (w:World) (er:Int):Calls Tryz.prog 66 #[.bool false,.int .i64 er] w fun e w'=>e=Zcn er/\w=w':=by go_enter Tryz.func66,Tryz.ntmps66;go_wp2;exact ⟨rfl,rfl,rfl⟩
theorem Zjb (b:Nat) (er:Int) (older:List PanicEntry) (w:World) (hb:Blk w b 30 #[.int .i64 0]) :
 CallsD Tryz.prog 49 #[.pointer (some ⟨b,0,none⟩)] (.panicking ({ v:=ZoT er,recovered:=false }::older)) w fun e u' w' =>
  e=.returned (.tuple #[])/\u'=.panicking ({ v:=ZoT er,recovered:=true }::older)/\w'=(w.alloc (.cells #[.int .i64 er] 99)).setCell ⟨b,0,none⟩ (.int .i64 er):=by
 refine callsD_of_wpS Tryz.func49 rfl fun h i d=>?_;simp only [Tryz.ntmps49,YbV,Yao,YaS,Nat.reduceAdd,Nat.reduceSub,Yda,Ydb,Ydc,Ydd,YaK,YaE];apply wpS_seq;apply wpS_region;simp [wpOpsS,go_sem,recoverD,d,Exit.thenS];refine wpS_of_wp ?_;unfold ZoT;have c:∀ w,(Instr.typeAssert (.iface 99 (.agg #[.int .i64 er])) 20 99 true).run Tryz.prog w=.ok (.tuple #[.agg #[.int .i64 er],.bool true]) w:=fun w=>by kernel_rfl
 have a:=hb.same ((Yaa (fun _=>False) w).alloc (.cells #[.int .i64 er] 99));have f:=a.c0;have g:=a.frozen 0;go_wp2_with fail;exact ⟨rfl,_,rfl,_,Ycp rfl _ _ _,rfl,rfl,rfl⟩
theorem ZpR (b:Nat) (w:World) :
 CallsD Tryz.prog 49 #[.pointer (some ⟨b,0,none⟩)] .returning w fun e u' w'=>e=.returned (.tuple #[])/\u'=.returning/\w'=w:=by
 refine callsD_of_wpS Tryz.func49 rfl fun c d a=>?_;simp only [Tryz.ntmps49,YbV,Yao,YaS,Nat.reduceAdd,Nat.reduceSub,Yda,Ydb,Ydc,Ydd,YaK,YaE];apply wpS_seq;apply wpS_region;simp [wpOpsS,go_sem,recoverD,a,Exit.thenS];refine wpS_of_wp ?_;go_wp2_with fail;exact ⟨rfl,.returning,by rw [<- a],_,Ycp rfl _ _ _,rfl,rfl,rfl⟩
structure Zjc (Ok:World->Prop) (Bad:Int->World->Prop) (b:Nat) (e:Ending) (w':World):Prop where
 cell:Blk w' b 30 #[.int .i64 0]
 how:(e=.returned (.tuple #[])/\Ok w')\/∃ er,e=Zcn er/\Bad er w'
theorem Zjd {gf:Nat} {lb:Array Value} {Ok:World->Prop} {Bad:Int->World->Prop} (eg:∀ args w,(callFunc gf args).run Tryz.prog w=.ok (.enter gf args) w) (w:World)
 (H:Calls Tryz.prog gf lb (w.alloc (.cells #[.int .i64 0] 30)) (Zjc Ok Bad w.heap.size)) :
 Calls Tryz.prog 24 #[.func (.func gf) #[] lb] w fun e w'=>∃ w2,Blk w2 w.heap.size 30 #[.int .i64 0] /\
  ((e=.returned (.int .i64 0)/\Ok w2/\w'=w2.setCell ⟨w.heap.size,0,none⟩ (.int .i64 0)) \/
    ∃ er,e=.returned (.int .i64 er)/\Bad er w2/\w'=(w2.alloc (.cells #[.int .i64 er] 99)).setCell ⟨w.heap.size,0,none⟩ (.int .i64 er)):=by
 have h:=qH H;clear H;have j:∀ (fn:Fn) (first cap:Array Value) (w:World),(Instr.makeFunc fn first cap).run Tryz.prog w=.ok (.func fn first cap) w:=fun _ _ _ _=>rfl
 go_enter_defers Tryz.func24,Tryz.ntmps24
 go_wp2_with fail;refine h.out.mono ?_;rintro e w2 ⟨a,⟨rfl,i⟩ | ⟨er,rfl,m⟩⟩
 · have b:=qH a;have k:=qH i;have o:w2.cell? ⟨w.heap.size,0,none⟩=some (.int .i64 0):=a.cell 0;have p:w2.frozen? ⟨w.heap.size,0,none⟩=false:=a.frozen 0;clear a i h;go_wp2;refine leaves_cons (f:=49) (args:=#[.pointer (some ⟨w.heap.size,0,none⟩)]) (by simp) (by simp [go_sem]) ?_;refine (ZpR w.heap.size _).mono ?_;rintro e n g ⟨rfl,rfl,rfl⟩;have c:(w2.setCell ⟨w.heap.size,0,none⟩ (.int .i64 0)).cell? ⟨w.heap.size,0,none⟩=some (.int .i64 0):=(b.out.put 0 _).cell 0;refine ⟨.int .i64 0,by simp [results,Tryz.results24,go_sem,c],w2,b.out,.inl ⟨rfl,k.out,rfl⟩⟩
 have b:=qH a;have l:=qH m;have d:=a.same ((Yaa (fun _=>False) w2).alloc (.cells #[.int .i64 er] 99));have c:((w2.alloc (.cells #[.int .i64 er] 99)).setCell ⟨w.heap.size,0,none⟩ (.int .i64 er)).cell? ⟨w.heap.size,0,none⟩=some (.int .i64 er):=(d.put 0 _).cell 0;refine leaves_cons (f:=49) (args:=#[.pointer (some ⟨w.heap.size,0,none⟩)]) (by simp) (by simp [go_sem]) ?_;refine (Zjb w.heap.size er [] _ b.out).mono ?_;rintro e n g ⟨rfl,rfl,rfl⟩;refine ⟨.int .i64 er,by simp [results,Tryz.results24,go_sem,c],w2,b.out,.inr ⟨er,rfl,l.out,rfl⟩⟩
end
end Go.Proofs.YtmkjfhnlnhceiaaGreatDoor
