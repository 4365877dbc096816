/- Lemmas: walks and plain laws. -/
import Derived.Recover
import Derived.Test.YtmkjfhnlnhceiaaGreatDoorF09
import Derived.Test.YtmkjfhnlnhceiaaGreatDoorF14
set_option maxRecDepth 100000
set_option maxHeartbeats 16000000
namespace Go.Proofs.YtmkjfhnlnhceiaaGreatDoor
variable {tmps:Array Value} {W w W':World} {v0 v1 v nv:Value} {R:Ending->World->Prop} {B f k vs z low r0 r1 g0 t m:Nat} {er:Int}
section
open Go.RowKit
attribute [local go_sem] oD
def TabR (bs:List UInt8) (k:Nat) (w:World) (e:Ending) (w':World):Prop :=
 match tabP bs k 1 with
 | .error er=>e=.returned (.tuple #[.pointer none,.int .i64 er])/\Same w w'
 | .ok ns=>∃ t f m cnt v nv l,e=.returned (.tuple #[.pointer (some ⟨t,0,none⟩),.int .i64 0])/\PT w' w.heap.size t f m k 1 cnt 0 v nv l ns/\Same w w'
theorem KT {R0 R1:Nat} (h2:tmps.getD 6 undef=.pointer (some ⟨R0,0,none⟩)) (h3:tmps.getD 7 undef=.pointer (some ⟨R1,0,none⟩)) (c0:W.cell? ⟨R0,0,none⟩=some v0) (c1:W.cell? ⟨R1,0,none⟩=some v1) (hR:R (.returned (.tuple #[v0,v1])) W):
 ∃ v,(results Tryz.f115 tmps).run Tryz.prog W=.ok v W/\R (.returned v) W:=by
 refine ⟨.tuple #[v0,v1],?_,hR⟩;simp only [LF] at h2 h3;simp [results,Tryz.results115,go_sem,h2,h3,c0,c1]
theorem PF.lower {B':Nat} {l:List BS} (h:PF w B f k vs z v l low) (hB:B'<=B):PF w B' f k vs z v l low:=⟨tA hB h.base,h.blk,h.own.base hB,h.size,h.recs,h.len,h.low⟩
theorem TX:∀ {m:Nat} {b:List UInt8} {er:Int},YF z m b=.error er->er≠0
 | 0,b,er,h=>by cases h
 | m+1,b,er,h=>by
   rw [YF] at h;split at h
   · rename_i e a;injection h with h
     subst h;generalize b.take z=c at a;cases c with
     | nil=>cases a;decide
     | cons x c =>
       rw [recP] at a;split at a
       · cases a;decide
       split at a
       · cases a
       split at a
       · cases a
       cases a;decide
   split at h
   · rename_i d;injection h with h
     subst h;exact TX d
   cases h
theorem MT {bs:List UInt8} (h:wI bs=.error er):er≠0:=by
 rw [wQ] at h;split at h
 · rename_i a;injection h with h
   subst h;exact OX a
 split at h
 · rename_i b;injection h with h
   subst h;exact TX b
 cases h
structure Rs2 (w:World) (r0 r1:Nat) (W:World):Prop where
 b0:∃ x,Blk W r0 66 #[x]
 b1:∃ x,Blk W r1 30 #[x]
 same:Same w W
theorem Rs2.fin (h:Rs2 w r0 r1 W) (h0:w.heap.size<=r0) (h1:w.heap.size<=r1) (d:r0≠r1) (e0:tmps.getD 6 undef=.pointer (some ⟨r0,0,none⟩)) (e1:tmps.getD 7 undef=.pointer (some ⟨r1,0,none⟩))
 (hR:∀ W',Same w W'->Upd (fun b=>b=r0\/b=r1) W W'->R (.returned (.tuple #[v0,v1])) W'):
 ∃ v,(results Tryz.f115 tmps).run Tryz.prog ((W.setCell ⟨r0,0,none⟩ v0).setCell ⟨r1,0,none⟩ v1)=.ok v ((W.setCell ⟨r0,0,none⟩ v0).setCell ⟨r1,0,none⟩ v1)/\R (.returned v) ((W.setCell ⟨r0,0,none⟩ v0).setCell ⟨r1,0,none⟩ v1):=by
 obtain ⟨x,a⟩:=h.b0;obtain ⟨y,c⟩:=h.b1;exact KT e0 e1 (((a.put 0 v0).far (p:=⟨r1,0,none⟩) (fun e=>d e) v1).cell 0) (((c.far (p:=⟨r0,0,none⟩) (fun e=>d e.symm) v0).put 0 v1).cell 0)
  (hR _ (CC (CC h.same h0 _) h1 _) (((eA (fun b=>b=r0\/b=r1) W).setCell (p:=⟨r0,0,none⟩) (.inl (.inl rfl)) _).setCell (p:=⟨r1,0,none⟩) (.inl (.inr rfl)) _))
def TkU (t:TypeId):Prop:=t=9\/t=66\/t=30
theorem tkU:FlU TkU:=⟨by unfold TkU;decide,by unfold TkU;decide,by unfold TkU;decide,by unfold TkU;decide⟩
theorem flF:FlU (fun _=>False):=⟨id,id,id,id⟩
theorem PT.it {b:Nat} {l:List BS} {ns:List ByteArray} (h:PT W B t f m k vs b low v nv l ns) (hm:m<g0) (hu:Upd (yB (fun _=>False) g0 W) W W'):PT W' B t f m k vs b low v nv l ns :=
 ⟨h.base,h.blk.it hu id,h.file.it flF hu,cM h.row hu id,h.map.upd hu fun a=>qt a.1,h.mB,h.len,h.texts⟩
theorem ReR.obj {L:List (Nat×List UInt8)} {j:List RE} {x:RE} {l:Nat} {o:Obj} (h:ReR L j x W) (ho:W.heap[l]?=some o) (hc:o.isCells=false) (o':Obj):ReR L j x (W.putObj l o'):=by
 have d:=(eA (fun b=>b=l) W).grown (grownBy_putObj' W l o') fun k e=>.inl (by injection e with e;exact e.symm);have f:∀ b,TyB W 0 b->¬ b=l:=fun b a e=>by
  subst e;obtain ⟨_,_,g,i,c⟩:=a;rw [ho] at c;injection c with c
  subst c;cases hc
 exact ⟨h.at_,(SL h.row d f).mono fun b _ a=>a.upd d (f b a)⟩
structure TkJ (w:World) (t f m kk r0 r1 tb:Nat) (v nv:Value) (l:List BS) (L:List (Nat×List UInt8)) (N0:List ByteArray) (pre:List RE) (W:World):Prop where
 tab:∃ N,PT W w.heap.size t f m kk 1 pre.length 0 v nv l N/\tokU N0 L=tokU N (L.drop pre.length)/\∀ p∈L.drop pre.length,N[p.1]?=some noText
 b0:Blk W r0 66 #[.pointer none]
 b1:Blk W r1 30 #[.int .i64 0]
 bt:Blk W tb 66 #[.pointer (some ⟨t,0,none⟩)]
 same:Same w W
structure TkX (w:World) (r0 r1:Nat) (L:List (Nat×List UInt8)) (N0:List ByteArray) (er:Int) (W:World):Prop where
 err:tokU N0 L=.error er
 b0:Blk W r0 66 #[.pointer none]
 b1:Blk W r1 30 #[.int .i64 er]
 same:Same w W
theorem TkJ.it {kk tb:Nat} {l:List BS} {L:List (Nat×List UInt8)} {N0:List ByteArray} {c:List RE} (h:TkJ w t f m kk r0 r1 tb v nv l L N0 c W) (hm:m<g0) (hw:w.heap.size<=g0) (hu:Upd (yB (fun _=>False) g0 W) W W'):TkJ w t f m kk r0 r1 tb v nv l L N0 c W':=by obtain ⟨N,a,b⟩:=h.tab;exact ⟨⟨N,a.it hm hu,b⟩,h.b0.it hu id,h.b1.it hu id,h.bt.it hu id,h.same.it hu hw⟩
theorem ZmN {F:Nat->Prop} {A:Option Addr} {n c:Nat} {bs:List UInt8} (w:World) (hb:pA w F A n c bs) (hn:n<=140737488355328) (hN:Nib w) (k:Nat) (hk:1<=k/\k<=3) :
 Calls Tryz.prog 115 #[.slice A n c,.int .i64 (k:Int),.int .i64 1] w (TabR bs k w):=by
 have HO:=qH fun wx (hs:Same w wx)=>SX wx (hb.same hs) hn (hN.same hs);clear hb hN hn;have ba:Hid (∀ e w',TabR bs k w e w'↔TabR bs k w e w'):=qH fun _ _=>Iff.rfl;generalize bp:TabR bs k w=OR at ba ⊢;have bb:=qH bp;clear bp ba;refine (ZB (n:=5)).1 ?_;refine callsIn_of_wp_marks Tryz.func115 rfl trivial ?_ rfl;simp only [Tryz.ntmps115,GF,BA,mC,Nat.reduceAdd,Nat.reduceSub,oI,pI,qI,rI,SB,EB];refine eI.2 ?_;go_upto_region 1 with fail;have ac:Hid (Same w ((w.alloc (.cells #[.pointer none] 66)).alloc (.cells #[.int .i64 0] 30))):=qH (((eA _ w).alloc _).alloc _);have Y:Hid (Blk ((w.alloc (.cells #[.pointer none] 66)).alloc (.cells #[.int .i64 0] 30)) w.heap.size 66 #[.pointer none]):=qH ((jA w _ _).same ((eA _ _).alloc _));have M:Hid (Blk ((w.alloc (.cells #[.pointer none] 66)).alloc (.cells #[.int .i64 0] 30)) (w.heap.size+1) 30 #[.int .i64 0]):=qH (by have I:=jA (w.alloc (.cells #[.pointer none] 66)) 30 #[.int .i64 0];rwa [show (w.alloc (.cells #[.pointer none] 66)).heap.size=w.heap.size+1 from aB _ _] at I)
 generalize ((w.alloc (.cells #[.pointer none] 66)).alloc (.cells #[.int .i64 0] 30))=w1 at *;have HC:=qH (HO.out w1 ac.out);generalize cq:w.heap.size+1=u at *;generalize cr:w.heap.size=B at *;have j:Hid (B≠u/\w.heap.size<=B/\w.heap.size<=u):=qH (by omega);have R:Hid (∀ O W,tabP bs k 1=.error O->Same w W->OR (.returned (.tuple #[.pointer none,.int .i64 O])) W):=qH fun O W I h2=>by rw [<- bb.out];unfold TabR;rw [I];exact ⟨rfl,h2⟩
 go_wp2_with fail;refine (MX _ k 1 hk (.inl rfl)).mono ?_;rintro e X ⟨rfl,rfl⟩;unfold sJ at HC;cases hO:wI bs with
 | error O =>
   rw [hO] at HC;have HT:=qH (show tabP bs k 1=.error O by unfold tabP;rw [hO]);have cl:(O != 0)=true:=qC.2 (MT hO);clear hO;go_wp2_with fail;refine HC.out.mono ?_;rintro e X ⟨rfl,r⟩;have U:Hid (Rs2 w B u X):=qH ⟨⟨_,Y.out.same r⟩,⟨_,M.out.same r⟩,ac.out.trans r fun _ _ f=>f⟩;have q0:X.cell? ⟨B,0,none⟩=some (.pointer none):=(Y.out.same r).cell 0;have q1:X.cell? ⟨u,0,none⟩=some (.int .i64 0):=(M.out.same r).cell 0;have z0:X.frozen? ⟨B,0,none⟩=false:=(Y.out.same r).frozen 0;have z1:X.frozen? ⟨u,0,none⟩=false:=(M.out.same r).frozen 0;clear r;go_wp2;exact U.out.fin j.2.1 j.2.2 j.1 rfl rfl fun W' h _=>R.out _ _ HT.out h
 | ok fl =>
   obtain ⟨kk,vv,z,rs⟩:=fl;rw [hO] at HC;have HT:=qH (show tabP bs k 1=if kk≠k\/z≠42 then .error 111 else if vv≠1 then .error 8 else if 200<rs.length then .error 66 else cH [] rs by unfold tabP;rw [hO]);clear hO;go_wp2_with fail;refine HC.out.mono ?_;rintro e X ⟨f,v,l,rfl,bq,hp,r⟩;have hp:PF X w1.heap.size f kk vv z v l 0:=hp;have bz:l.map BS.rc=rs:=tB YA.recs bq;subst bz;have HP:=qH (hp.lower ac.out.size);have U:Hid (Rs2 w B u X):=qH ⟨⟨_,Y.out.same r⟩,⟨_,M.out.same r⟩,ac.out.trans r fun _ _ f=>f⟩;have H0:=qH (Y.out.same r);have H1:=qH (M.out.same r);have q0:X.cell? ⟨B,0,none⟩=some (.pointer none):=(Y.out.same r).cell 0;have q1:X.cell? ⟨u,0,none⟩=some (.int .i64 0):=(M.out.same r).cell 0;have z0:X.frozen? ⟨B,0,none⟩=false:=(Y.out.same r).frozen 0;have z1:X.frozen? ⟨u,0,none⟩=false:=(M.out.same r).frozen 0;clear hp r bq HC HO Y M;go_wp2_with fail;refine (rW X HP.out).mono ?_;rintro e w3 ⟨rfl,rfl⟩;by_cases an:kk=k
   case neg =>
    have HE:=qH (HT.out.trans (gA (.inl an)));have ad:¬ (kk:Int)=(k:Int):=by omega
    clear HT an;go_wp2;exact U.out.fin j.2.1 j.2.2 j.1 rfl rfl fun W' h _=>R.out _ _ HE.out h
   subst an;go_wp2_with fail;refine (SN X HP.out).mono ?_;rintro e w3 ⟨rfl,rfl⟩;by_cases hz:z=42
   case neg =>
    have HE:=qH (HT.out.trans (gA (.inr hz)));have ad:¬ (z:Int)=42:=by omega
    clear HT hz;go_wp2;exact U.out.fin j.2.1 j.2.2 j.1 rfl rfl fun W' h _=>R.out _ _ HE.out h
   subst hz;have ae:=qH (HT.out.trans (aA (by simp)));clear HT;go_wp2_with fail;refine (sW X HP.out).mono ?_;rintro e w3 ⟨rfl,rfl⟩;by_cases hv:vv=1
   case neg =>
    have HE:=qH (ae.out.trans (gA hv));have ad:¬ (vv:Int)=1:=by omega
    clear ae hv;go_wp2;exact U.out.fin j.2.1 j.2.2 j.1 rfl rfl fun W' h _=>R.out _ _ HE.out h
   subst hv;have a1:=qH (ae.out.trans (aA (by simp)));clear ae;have ao:=qH (TJ X HP.out);rw [nA] at a1;obtain ⟨nl,b4⟩:∃ nl,l.length=nl:=⟨_,rfl⟩
   have a4:=qH b4;rw [b4] at a1 ao;clear b4;go_wp2_with fail;refine ao.out.mono ?_;rintro e w3 ⟨rfl,rfl⟩;by_cases a0:200<nl
   case pos =>
    have HE:=qH (a1.out.trans (gA a0));have ad:(200:Int)<(nl:Int):=by omega
    clear a1 a0;go_wp2;exact U.out.fin j.2.1 j.2.2 j.1 rfl rfl fun W' h _=>R.out _ _ HE.out h
   have ad:(nl:Int)<=200:=by omega
   have ap:=qH ((a1.out.trans (aA a0)).trans (YS l []));clear a1 a0 ao;go_wp2_with fail;refine (NX X HP.out U.out.same.size).mono ?_;rintro e w3 ⟨t,m,nv,rfl,ht,al⟩;have af:=qH ht;have aq:=qH (H0.out.same al);have ar:=qH (H1.out.same al);have bc:=qH (U.out.same.trans al fun _ _ f=>f);clear ht al H0 H1 HP hp q0 q1 z0 z1 U;rw [a4.out] at af ap;go_upto_region 13 with fail;have ag:=qH (af.out.same ((eA (fun _=>False) w3).alloc (.cells #[.pointer (some ⟨t,0,none⟩)] 66)));have au:=qH (aq.out.same ((eA (fun _=>False) w3).alloc (.cells #[.pointer (some ⟨t,0,none⟩)] 66)));have av:=qH (ar.out.same ((eA (fun _=>False) w3).alloc (.cells #[.pointer (some ⟨t,0,none⟩)] 66)));have aw:=qH (bc.out.trans ((eA (fun _=>False) w3).alloc (.cells #[.pointer (some ⟨t,0,none⟩)] 66)) fun _ _ f=>f);have a2:=qH (jA w3 66 #[.pointer (some ⟨t,0,none⟩)]);have cm:B<w3.heap.size/\u<w3.heap.size:=⟨aq.out.lt,ar.out.lt⟩
   have co:Hid (t<w3.heap.size):=qH af.out.blk.lt;generalize w3.alloc (.cells #[.pointer (some ⟨t,0,none⟩)] 66)=w4 at *;generalize cs:w3.heap.size=tb at *;clear af aq ar bc;go_wp2_with fail;refine (DI w4 f).mono ?_;rintro e wc ⟨rfl,b5⟩;have G:Same w4 wc:=b5 ▸ (eA (fun _=>False) w4).alloc _;have bd:Hid (Blk wc w4.heap.size 67 #[.pointer (some ⟨f,0,none⟩)]):=qH (b5 ▸ jA w4 _ _);have c0:Hid (TkJ w t f m kk B u tb v nv l (DA 0 l) (List.replicate nl noText) [] wc):=qH ⟨⟨_,ag.out.same G,rfl,fun p hp=>by obtain ⟨_,y,h2,_⟩:=UJ hp;have h3:=(IA.1 h2).1;rw [a4.out] at h3;rw [kN,gA (by omega)]⟩,au.out.same G,av.out.same G,a2.out.same G,aw.out.trans G fun _ _ f=>f⟩
   have ax:=qH (ag.out.file.same G);have c1:=qH ax.out.recs;have c2:=qH (bQ tkU 4 (by omega) wc ax.out bd.out);have bf:m<wc.heap.size:=(ag.out.map.same G).lt;have ah:w.heap.size<=wc.heap.size:=tA aw.out.size G.size;have cp:B<wc.heap.size/\u<wc.heap.size/\tb<wc.heap.size:=⟨(au.out.same G).lt,(av.out.same G).lt,(a2.out.same G).lt⟩
   generalize hL:DA 0 l=L at *;have c4:=qH (show L.Pairwise fun a b=>a.1<b.1 by rw [<- hL];exact cQ l 0);generalize w4.heap.size=fB at *;clear b5 G ag au av a2 aw ax bd;go_wp2_with fail;refine (eI (n:=5)).1 ?_;generalize a8:wc.heap.size=g0 at *;refine mT (T:=fun _=>False) rfl (by omega) (gf:=122) (lb:=#[.pointer (some ⟨fB,0,none⟩)]) rfl trivial (enters_of SM (by kernel_rfl) rfl) c2.out
    (fun A=>eA _ A) (fun I h2=>bM I h2) (fun W l o o' hl ho hc=>(eA _ W).grown (grownBy_putObj' W l o') fun k e=>.inl (by cases e;exact GE ho hc (oA _))) (fun P x W l o o' hl ho hc h=>h.obj ho hc o') (CK _ _) (fun _=>rfl)
    (fun P W=>TkJ w t f m kk B u tb v nv l L (List.replicate nl noText) P W)
    (fun c P W=>c=.ret/\∃ O,TkX w B u L (List.replicate nl noText) O W)
    (fun P W W' h H=>h.it bf ah (a8 ▸ H))
    (fun c P W W' ⟨I,O,h⟩ H=>⟨I,O,h.err,h.b0.it H id,h.b1.it H id,h.same.it H (a8 ▸ ah)⟩)
    c0.out ?F ?assign ?body ?done ?stop
   case assign =>
    intro l x W K hK;dsimp only [RE.args];gi_wp2;exact hK
   case body =>
    rintro lp P x W hl ct hJ hX;obtain ⟨N,V,hU,hz⟩:=hJ.tab;have E:=qH hJ;have d:=qH V;have HU:=qH hU;have HZ:=qH hz;have ai:=qH hX.at_;have bg:(x.id,x.data)∈DA 0 l:=by rw [hL];exact OC hX.at_
    obtain ⟨_,y,b6,bu,bv⟩:=UJ bg;have hid:x.id<nl:=by have I:=(IA.1 b6).1;rw [a4.out] at I;omega
    have c5:x.data.length=41:=by have I:=c1.out y (OC b6) bu;rw [bv] at I;exact Nat.succ.inj I
    have HN:=qH (Zoa W hX.row c5);have ay:N.length=nl:=V.len.trans a4.out;have Z:=V.row;rw [ay] at Z;obtain ⟨An,cn,b7⟩:=WA Z;obtain ⟨bN,un,hA,cu,cv,_,ch,ci,bw⟩:=EE (b7 ▸ Z) hid;have a5:=qH (b7.trans (by rw [hA]));have S:=qH Z;have c6:=qH ay;have q0:W.cell? ⟨B,0,none⟩=some (.pointer none):=hJ.b0.cell 0;have q1:W.cell? ⟨u,0,none⟩=some (.int .i64 0):=hJ.b1.cell 0;have z0:W.frozen? ⟨B,0,none⟩=false:=hJ.b0.frozen 0;have z1:W.frozen? ⟨u,0,none⟩=false:=hJ.b1.frozen 0;have qt:W.cell? ⟨tb,0,none⟩=some (.pointer (some ⟨t,0,none⟩)):=hJ.bt.cell 0;have p1:W.cell? ⟨t,1,none⟩=some (.slice (some ⟨bN,0,none⟩) nl cn):=by rw [<- a5.out];exact V.blk.cell 1
    have p2:W.cell? ⟨t,2,none⟩=some (.map (some m)):=V.blk.cell 2;have bh:Hid (∀ (O:Int),tokU (List.replicate nl noText) L=.error O->KeepsFrom g0 W ((W.setCell ⟨B,0,none⟩ (.pointer none)).setCell ⟨u,0,none⟩ (.int .i64 O))/\∃ er',TkX w B u L (List.replicate nl noText) er' ((W.setCell ⟨B,0,none⟩ (.pointer none)).setCell ⟨u,0,none⟩ (.int .i64 O))):=qH fun O cj=>by have H:Upd (fun b=>b=B\/b=u) W ((W.setCell ⟨B,0,none⟩ (.pointer none)).setCell ⟨u,0,none⟩ (.int .i64 O)):=((eA (fun b=>b=B\/b=u) W).setCell (p:=⟨B,0,none⟩) (.inl (.inl rfl)) _).setCell (p:=⟨u,0,none⟩) (.inl (.inr rfl)) _;have az:=(E.out.b0.put 0 (.pointer none)).far (p:=⟨u,0,none⟩) (fun e=>j.1 e) (.int .i64 O);have b2:=(E.out.b1.far (p:=⟨B,0,none⟩) (fun e=>j.1 e.symm) (.pointer none)).put 0 (.int .i64 O);refine ⟨ZD H fun k hk hB o ho=>by rcases hk with hk | hk <;> omega,O,cj,az,b2,E.out.same.trans H fun b hb e=>by rcases e with e | e <;> omega⟩
    clear hJ V hU hz hX bg b6 bu bv Z b7 ay;gi_wp2_with fail;refine ⟨trivial,?_⟩;gi_at_call 160;refine (CallsIn.inRound lp (ZB.2 HN.out)).mono ?_;rintro e5 w5 ⟨⟨s,ok,rfl,hs⟩,rfl⟩;have HS:=qH hs;clear hs;cases ok
    case false =>
     have hE:=bh.out 110 ((zW ai.out HU.out).1 (by rw [HS.out];rfl));have a6:=qH hE;clear hE;gi_wp2;exact ⟨by rw [a8];exact a6.1,rfl,a6.2⟩
    have hs:MF x.data=some s:=HS.out;have hg:=wW hs;have bi:=(xI hg).2;have aj:=(d.out.map.look nM (aF W) (s:=s) (by unfold maxLen;omega)).1;have ak:∀ o,idxI N s=o->idsF N s=o.map fun (i:Nat)=>Value.int .i64 (i:Int):=fun o h=>by unfold idsF;rw [h]
    cases hi:idxI N s with
    | some i =>
      rw [ak _ hi] at aj;have hE:=bh.out 7 ((zW ai.out HU.out).2 s hs (by rw [hi];rfl));have a6:=qH hE;clear hE hs hg hi ak;simp only [VC,sI,Option.isSome_some] at aj;gi_wp2;exact ⟨by rw [a8];exact a6.1,rfl,a6.2⟩
    | none =>
      rw [ak _ hi] at aj;have HI:=qH hi;have HG:=qH hg;have c7:=qH hs;clear hs hg hi;simp only [Option.map_none,oN,eS] at aj;gi_wp2_with fail;have s0:Same W W.drew:=(eA _ W).drew;refine IT ?_;refine dG 16 (fun wx=>wx.cell? ⟨tb,0,none⟩=some (.pointer (some ⟨t,0,none⟩))/\wx.cell? ⟨t,1,none⟩=some (.slice (some ⟨bN,0,none⟩) nl cn)/\wx.cell? ⟨t,2,none⟩=some (.map (some m))) (by kernel_rfl) (by kernel_rfl) (cG fun _ _ h=>h) ⟨qt,p1,p2⟩ (fun a9=>?_)
      repeat
       first
        | refine bC 0 (v:=?_) rfl (Or.inl ⟨by rfl,?_⟩) (by assumption) ?_
        | refine bC 1 (v:=?_) rfl (Or.inl ⟨by rfl,?_⟩) (by assumption) ?_
        | refine bC 2 (v:=?_) rfl (Or.inl ⟨by rfl,?_⟩) (by assumption) ?_
        | refine bC 3 (v:=?_) rfl (Or.inl ⟨by rfl,?_⟩) (by assumption) ?_
        | refine bC 4 (v:=?_) rfl (Or.inl ⟨by rfl,?_⟩) (by assumption) ?_
        | refine bC 5 (v:=?_) rfl (Or.inl ⟨by rfl,?_⟩) (by assumption) ?_
        | refine bC 6 (v:=?_) rfl (Or.inl ⟨by rfl,?_⟩) (by assumption) ?_
        | refine bC 7 (v:=?_) rfl (Or.inl ⟨by rfl,?_⟩) (by assumption) ?_
        | refine bC 8 (v:=?_) rfl (Or.inl ⟨by rfl,?_⟩) (by assumption) ?_
        | refine bC 9 (v:=?_) rfl (Or.inl ⟨by rfl,?_⟩) (by assumption) ?_
        | refine bC 10 (v:=?_) rfl (Or.inl ⟨by rfl,?_⟩) (by assumption) ?_
        | refine bC 11 (v:=?_) rfl (Or.inl ⟨by rfl,?_⟩) (by assumption) ?_
        | refine bC 12 (v:=?_) rfl (Or.inl ⟨by rfl,?_⟩) (by assumption) ?_
       rotate_left
       · intro wx am;have h0:=am.1;have I:=am.2.1;have h2:=am.2.2;go_simp;try with_reducible rfl
       simp only [Act.put,zA,qB,oB,iB,CA,JA]
      have a3:nv.ownBlock=some bN:=by rw [a5.out];rfl
      obtain ⟨cw,b8⟩:=LA S.out a3;have n1:tb≠bN:=fun e=>E.out.bt.ne_own S.out (by decide) (e ▸ a3);have n2:t≠bN:=fun e=>d.out.blk.ne_own S.out (by decide) (e ▸ a3);have n3:m≠bN:=d.out.map.ne b8;have n4:m≠tb:=d.out.map.ne E.out.bt;have n5:m≠t:=d.out.map.ne d.out.blk;have c3:W.drew.cell? ⟨bN,x.id,none⟩=some un:=ch;have f3:W.drew.frozen? ⟨bN,x.id,none⟩=false:=ci;have u1:Upd (fun b=>b=bN) W (W.setCell ⟨bN,x.id,none⟩ (.string s)).drew:=((eA _ W).put1 _).drew;have bj:=qH (E.out.bt.upd u1 n1);have b3:=qH (d.out.blk.upd u1 n2);have c8:=qH (d.out.map.upd u1 n3);have M:=qH (bw (.string s));have c9:=qH u1;refine CD 13 rfl (fun K hK=>?_);go_simp;refine hK.out _ _ ⟨bj.out.cell 0,by rw [<- a5.out];exact b3.out.cell 1,b3.out.cell 2⟩ (fun a9=>?_);clear hK K c3 f3 u1;generalize cg:(W.setCell ⟨bN,x.id,none⟩ (.string s)).drew=W1 at *;obtain ⟨W2,st,aa,C,ab⟩:=c8.out.entry nM (by have:=(IA.1 ai.out).1;have I:=dM l 0;rw [hL] at I;rw [a4.out] at I;unfold maxLen;omega) (aF W1) (s:=s) (by unfold maxLen;omega) (ak _ HI.out) (.int .i64 (x.id:Int));have ca:=qH ab;have bk:=qH C;have cb:=qH (bj.out.upd C n4.symm);have a2:=qH (b3.out.upd C n5.symm);clear ab C;refine CD 14 rfl (fun K hK=>?_);go_simp;refine hK.out _ _ ⟨cb.out.cell 0,by rw [<- a5.out];exact a2.out.cell 1,a2.out.cell 2⟩ (fun a9=>?_);clear hK K aa;refine bC 15 (v:=?_) rfl (Or.inl ⟨by rfl,?_⟩) (by assumption) ?_;rotate_left
      · intro wx am;go_simp;try with_reducible rfl
      simp only [Act.put,zA,qB,oB,iB,CA,JA];obtain ⟨W3,aa,bx,b9⟩:=ca.out W2 rfl;refine bD rfl (fun K hK=>?_);go_simp;refine hK.out _ _ ?_;clear hK K aa;have cc:=qH bx;have H:Upd (fun b=>b=bN\/b=m) W W3:=((c9.out.mono (S':=fun b=>b=bN\/b=m) fun _ _ h=>.inl h).trans bk.out fun _ _ h=>.inr h).trans b9 fun _ _ h=>.inr h;have a7:Upd (yB TkU 0 W) W W3:=H.mono fun b _ h=>by
       rcases h with rfl | rfl
       · exact dH ⟨_,b8⟩ (oA _) (.inl rfl)
       obtain ⟨es,ck,h9⟩:=d.out.map.obj;exact GE h9 rfl (oA _)
      have bl:KeepsFrom g0 W W3:=ZD H fun k hk hB o ho=>by
       rcases hk with rfl | rfl
       · exact TN ⟨_,b8⟩ ho
       omega
      obtain ⟨e1,e2,e3⟩:=ZrP c4.out ai.out HU.out HZ.out c7.out (by rw [HI.out];rfl);have bm:TkJ w t f m kk B u tb v nv l L (List.replicate nl noText) (P++[x]) W3:=by
       have e4:(P++[x]).length=P.length+1:=by simp
       refine ⟨⟨N.set x.id s,⟨d.out.base,d.out.blk.upd H fun h=>h.elim n2 n5.symm,d.out.file.it tkU a7,?_,?_,d.out.mB,?_,?_⟩,by rw [e4];exact e1,by rw [e4];exact e2⟩,E.out.b0.upd H ?_,E.out.b1.upd H ?_,E.out.bt.upd H fun h=>h.elim n1 n4.symm,E.out.same.trans H ?_⟩
       · have I:=M.out;rw [VF,c6.out,a5.out,eN];have h2:=mA (show W1.ownsRow w.heap.size 9 1 (.slice (some ⟨bN,0,none⟩) nl cn) nl ((N.map Value.string).set x.id (.string s)) by rw [<- cg];rw [hA] at I;exact I) (eA _ W1);exact GA (GA h2 bk.out fun g hg e=>n3 (e.symm.trans (eB hg).symm)) b9 fun g hg e=>n3 (e.symm.trans (eB hg).symm)
       · rw [e4,ZtG e3 (PK HG.out) (by rw [HI.out];rfl)];exact cc.out
       · rw [VF];exact d.out.len
       · intro z hz;rcases iN hz with hz | rfl
         · exact d.out.texts z hz
         exact bi
       · rintro (h | h)
         · exact E.out.b0.ne_own S.out (by decide) (h ▸ a3)
         exact d.out.map.ne E.out.b0 h.symm
       · rintro (h | h)
         · exact E.out.b1.ne_own S.out (by decide) (h ▸ a3)
         exact d.out.map.ne E.out.b1 h.symm
       rintro b hb (h | h)
       · have:=(S.out.lt bN a3).1;omega
       have:=d.out.mB;omega
      have cd:=qH bm;have ce:=qH bl;have cf:=qH a7;clear bm bl a7 H bx b9;refine NoPanic.normal ?_;gi_wp2;exact ⟨by rw [a8];exact ce.out,cf.out,cd.out⟩
   case done =>
    rintro D xs W hD hS hJ hK;obtain ⟨N,V,hU,hz⟩:=hJ.tab;have E:=qH hJ;have d:=qH V;have hT:tabP bs kk 1=.ok N:=by rw [ap.out];have I:=tB List.length hS;rw [nA] at I;rw [I,List.drop_length] at hU;exact hU
    have HT:=qH hT;have q0:W.cell? ⟨B,0,none⟩=some (.pointer none):=hJ.b0.cell 0;have q1:W.cell? ⟨u,0,none⟩=some (.int .i64 0):=hJ.b1.cell 0;have qt:W.cell? ⟨tb,0,none⟩=some (.pointer (some ⟨t,0,none⟩)):=hJ.bt.cell 0;have z0:W.frozen? ⟨B,0,none⟩=false:=hJ.b0.frozen 0;have z1:W.frozen? ⟨u,0,none⟩=false:=hJ.b1.frozen 0;clear hJ V hU hz hT;go_wp2;have H:Upd (fun b=>b=B\/b=u) W ((W.setCell ⟨B,0,none⟩ (.pointer (some ⟨t,0,none⟩))).setCell ⟨u,0,none⟩ (.int .i64 0)):=((eA (fun b=>b=B\/b=u) W).setCell (p:=⟨B,0,none⟩) (.inl (.inl rfl)) _).setCell (p:=⟨u,0,none⟩) (.inl (.inr rfl)) _;have az:=(E.out.b0.put 0 (.pointer (some ⟨t,0,none⟩))).far (p:=⟨u,0,none⟩) (fun e=>j.1 e) (.int .i64 0);have b2:=(E.out.b1.far (p:=⟨B,0,none⟩) (fun e=>j.1 e.symm) (.pointer (some ⟨t,0,none⟩))).put 0 (.int .i64 0);have bn:((W.setCell ⟨B,0,none⟩ (.pointer (some ⟨t,0,none⟩))).setCell ⟨u,0,none⟩ (.int .i64 0)).heap[D]?=_:=(H.block D (sC.1 hK).1 (fun h=>by rcases h with h | h <;> omega)).trans hK;generalize (W.setCell ⟨B,0,none⟩ (.pointer (some ⟨t,0,none⟩))).setCell ⟨u,0,none⟩ (.int .i64 0)=W2 at *;refine ⟨by simp,.inl ⟨_,_,rfl,run_takeDeferred bn,?_⟩⟩;have C:=(eA (yB (fun _=>False) g0 W2) W2).grown (grownBy_putObj' W2 D (.deferred none)) fun k e=>.inl (by cases e;exact GE bn rfl (by omega));refine KT (R0:=B) (R1:=u) rfl rfl ((az.it C fun f=>f).cell 0) ((b2.it C fun f=>f).cell 0) ?_;rw [<- bb.out];unfold TabR;rw [HT.out];have h3:=d.out;have a7:Upd (yB TkU 0 W) W W2:=H.mono fun b _ h=>by
     rcases h with rfl | rfl
     · exact dH ⟨_,E.out.b0⟩ (oA _) (.inr (.inl rfl))
     exact dH ⟨_,E.out.b1⟩ (oA _) (.inr (.inr rfl))
    have bo:PT W2 w.heap.size t f m kk 1 xs.length 0 v nv l N:=⟨h3.base,h3.blk.upd H fun h=>h.elim (h3.blk.ne E.out.b0 (by decide)) (h3.blk.ne E.out.b1 (by decide)),h3.file.it tkU a7,GA h3.row H fun g hg e=>?_,h3.map.upd H fun h=>h.elim (fun h=>h3.map.ne E.out.b0 h) fun h=>h3.map.ne E.out.b1 h,h3.mB,h3.len,h3.texts⟩
    · exact ⟨t,f,m,xs.length,v,nv,l,rfl,bo.it bf C,Same.it (show Same w W2 from E.out.same.trans H fun b hb e=>by rcases e with e | e <;> omega) C ah⟩
    rcases e with e | e
    · exact E.out.b0.ne_own h3.row (by decide) (e ▸ hg)
    exact E.out.b1.ne_own h3.row (by decide) (e ▸ hg)
   rintro D c P W hD ⟨q,hP⟩ ⟨rfl,O,hX⟩ hK;gi_wp2;refine ⟨by simp,.inl ⟨_,_,rfl,run_takeDeferred hK,?_⟩⟩;have C:=(eA (yB (fun _=>False) g0 W) W).grown (grownBy_putObj' W D (.deferred none)) fun k e=>.inl (by cases e;exact GE hK rfl (by omega));refine KT (R0:=B) (R1:=u) rfl rfl ((hX.b0.it C fun f=>f).cell 0) ((hX.b1.it C fun f=>f).cell 0) ?_;exact R.out O _ (ap.out.trans hX.err) (hX.same.it C ah)
end
section
open Go.RowKit
def yQ (er:Int):Value:=.iface 99 (.agg #[.int .i64 er])
def cF (er:Int):Ending:=.panicked [{ v:=yQ er,recovered:=false }]
theorem zF (w:World):Calls Tryz.prog 58 #[.int .i64 0] w fun e w'=>e=.returned (.tuple #[])/\w=w':=by go_enter Tryz.func58,Tryz.ntmps58;go_wp2;go_end0;exact ⟨rfl,rfl⟩
theorem UH (w:World) (h:er≠0):Calls Tryz.prog 58 #[.int .i64 er] w fun e w'=>e=cF er/\w=w':=by have a:(er != 0)=true:=qC.2 h;go_enter Tryz.func58,Tryz.ntmps58;go_wp2;exact ⟨rfl,rfl,rfl⟩
theorem lD (w:World) (er:Int):Calls Tryz.prog 66 #[.bool true,.int .i64 er] w fun e w'=>e=.returned (.tuple #[])/\w=w':=by go_enter Tryz.func66,Tryz.ntmps66;go_wp2;go_end0;exact ⟨rfl,rfl⟩
theorem gD (w:World) (er:Int):Calls Tryz.prog 66 #[.bool false,.int .i64 er] w fun e w'=>e=cF er/\w=w':=by go_enter Tryz.func66,Tryz.ntmps66;go_wp2;exact ⟨rfl,rfl,rfl⟩
theorem Zjl (b:Nat) (er:Int) (j:List PanicEntry) (w:World) (hb:Blk w b 30 #[.int .i64 0]):
 CallsD Tryz.prog 49 #[.pointer (some ⟨b,0,none⟩)] (.panicking ({ v:=yQ er,recovered:=false }::j)) w fun e u' w' =>
  e=.returned (.tuple #[])/\u'=.panicking ({ v:=yQ er,recovered:=true }::j)/\w'=(w.alloc (.cells #[.int .i64 er] 99)).setCell ⟨b,0,none⟩ (.int .i64 er):=by
 refine callsD_of_wpS Tryz.func49 rfl fun h i d=>?_;simp only [Tryz.ntmps49,GF,BA,mC,Nat.reduceAdd,Nat.reduceSub,oI,pI,qI,rI,SB,EB];apply wpS_seq;apply wpS_region;simp [wpOpsS,go_sem,recoverD,d,Exit.thenS];refine wpS_of_wp ?_;unfold yQ;have c:∀ w,(Instr.typeAssert (.iface 99 (.agg #[.int .i64 er])) 20 99 true).run Tryz.prog w=.ok (.tuple #[.agg #[.int .i64 er],.bool true]) w:=fun w=>qK;have a:=hb.same ((iA w).alloc (.cells #[.int .i64 er] 99));have f:=a.c0;have g:=a.frozen 0;go_wp2_with fail;exact ⟨rfl,_,rfl,_,DG rfl _ _ _,rfl,rfl,rfl⟩
theorem ZqC (b:Nat) (w:World):
 CallsD Tryz.prog 49 #[.pointer (some ⟨b,0,none⟩)] .returning w fun e u' w'=>e=.returned (.tuple #[])/\u'=.returning/\w'=w:=by
 refine callsD_of_wpS Tryz.func49 rfl fun c d a=>?_;simp only [Tryz.ntmps49,GF,BA,mC,Nat.reduceAdd,Nat.reduceSub,oI,pI,qI,rI,SB,EB];apply wpS_seq;apply wpS_region;simp [wpOpsS,go_sem,recoverD,a,Exit.thenS];refine wpS_of_wp ?_;go_wp2_with fail;exact ⟨rfl,.returning,by rw [<- a],_,DG rfl _ _ _,rfl,rfl,rfl⟩
structure VK (Ok:World->Prop) (Bad:Int->World->Prop) (b:Nat) (e:Ending) (w':World):Prop where
 cell:Blk w' b 30 #[.int .i64 0]
 how:(e=.returned (.tuple #[])/\Ok w')\/∃ er,e=cF er/\Bad er w'
theorem UX {gf:Nat} {lb:Array Value} {Ok:World->Prop} {Bad:Int->World->Prop} (eg:∀ args w,(callFunc gf args).run Tryz.prog w=.ok (.enter gf args) w) (w:World)
 (H:Calls Tryz.prog gf lb (w.alloc (.cells #[.int .i64 0] 30)) (VK Ok Bad w.heap.size)) :
 Calls Tryz.prog 24 #[.func (.func gf) #[] lb] w fun e w'=>∃ w2,Blk w2 w.heap.size 30 #[.int .i64 0] /\
  ((e=.returned (.int .i64 0)/\Ok w2/\w'=w2.setCell ⟨w.heap.size,0,none⟩ (.int .i64 0)) \/
    ∃ er,e=.returned (.int .i64 er)/\Bad er w2/\w'=(w2.alloc (.cells #[.int .i64 er] 99)).setCell ⟨w.heap.size,0,none⟩ (.int .i64 er)):=by
 have h:=qH H;clear H;have j:∀ (fn:Fn) (first cap:Array Value) (w:World),(Instr.makeFunc fn first cap).run Tryz.prog w=.ok (.func fn first cap) w:=fun _ _ _ _=>rfl
 go_enter_defers Tryz.func24,Tryz.ntmps24
 go_wp2_with fail;refine h.out.mono ?_;rintro e w2 ⟨a,⟨rfl,i⟩ | ⟨er,rfl,m⟩⟩
 · have b:=qH a;have k:=qH i;have o:w2.cell? ⟨w.heap.size,0,none⟩=some (.int .i64 0):=a.cell 0;have p:w2.frozen? ⟨w.heap.size,0,none⟩=false:=a.frozen 0;clear a i h;go_wp2;refine leaves_cons (f:=49) (args:=#[.pointer (some ⟨w.heap.size,0,none⟩)]) (by simp) (by simp [go_sem]) ?_;refine (ZqC w.heap.size _).mono ?_;rintro e n g ⟨rfl,rfl,rfl⟩;have c:(w2.setCell ⟨w.heap.size,0,none⟩ (.int .i64 0)).cell? ⟨w.heap.size,0,none⟩=some (.int .i64 0):=(b.out.put 0 _).cell 0;refine ⟨.int .i64 0,by simp [results,Tryz.results24,go_sem,c],w2,b.out,.inl ⟨rfl,k.out,rfl⟩⟩
 have b:=qH a;have l:=qH m;have d:=a.same ((eA (fun _=>False) w2).alloc (.cells #[.int .i64 er] 99));have c:((w2.alloc (.cells #[.int .i64 er] 99)).setCell ⟨w.heap.size,0,none⟩ (.int .i64 er)).cell? ⟨w.heap.size,0,none⟩=some (.int .i64 er):=(d.put 0 _).cell 0;refine leaves_cons (f:=49) (args:=#[.pointer (some ⟨w.heap.size,0,none⟩)]) (by simp) (by simp [go_sem]) ?_;refine (Zjl w.heap.size er [] _ b.out).mono ?_;rintro e n g ⟨rfl,rfl,rfl⟩;refine ⟨.int .i64 er,by simp [results,Tryz.results24,go_sem,c],w2,b.out,.inr ⟨er,rfl,l.out,rfl⟩⟩
end
end Go.Proofs.YtmkjfhnlnhceiaaGreatDoor
