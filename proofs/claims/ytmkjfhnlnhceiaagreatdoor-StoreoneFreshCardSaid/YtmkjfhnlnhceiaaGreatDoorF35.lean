/- Lemmas: walks and plain laws. -/
import Derived.Test.YtmkjfhnlnhceiaaGreatDoorF34
set_option maxRecDepth 100000
set_option maxHeartbeats 16000000
namespace Go.Proofs.YtmkjfhnlnhceiaaGreatDoor
variable {S:Nat->Prop} {t e:TypeId} {cs:Array Value} {m l B0 k bn n1 n2 c7 cL B:Nat} {W1 wE wr w:World} {A7 AL:Option Addr} {iv:Value} {m3 m4 m5 m6 m7 m8:List Nat} {Q:Exit->Act->World->Prop} {a:Act}
open Go.RowKit
noncomputable def grP (s:St1):Except Int WB :=
 if eG (dF s.rels) 0 s.nodes.recs≠0 then .error (eG (dF s.rels) 0 s.nodes.recs)
 else match XH s.labels (MB s 16 [] (-1)) 0 s.nodes.recs [] [] with
 | .error e=>.error e
 | .ok (ns,mp,mb)=>match YH s.types getR (MB s 16 [] (-1)) 0 s.rels.recs mp mb with
   | .error e=>.error e
   | .ok (rs,mp,mb) =>
     if mp.length≠s.props.live then .error 142
     else if (uE s.blobs).any (fun i=>decide (i ∉ mb))=true then .error 142
     else if (chkP (tE ⟨ns,rs⟩)).1≠0 then .error (chkP (tE ⟨ns,rs⟩)).1 else .ok (tE ⟨ns,rs⟩)
theorem ZvY (s:St1):den1 s=if decE s≠0 then .error (decE s) else grP s:=by
 unfold den1 decE;by_cases a:sD (CF s) s.nodes.recs≠0
 · rw [gA a,gA a,gA a]
 rw [aA a,aA a];by_cases b:sD (relE s) s.rels.recs≠0
 · rw [gA b,gA b,gA b]
 rw [aA b,aA b];by_cases c:sD (DF s) s.props.recs≠0
 · rw [gA c,gA c]
 rw [aA c,aA c];rfl
theorem bR {e:List UInt8->Int}:∀ {U:List (Nat×List UInt8)},aI e U=0->∀ x∈U,e x.2=0
 | [],_,_,a=>by cases a
 | y::U,h,x,a=>by
   rw [aI] at h;split at h
   · rename_i b;exact absurd h b
   rename_i b;rcases TA.1 a with rfl | a
   · exact uF.1 b
   exact bR h x a
structure sK (s:St1):Prop where
 node:∀ x∈GB 0 s.nodes.recs,CF s x.2=0
 rel:∀ x∈GB 0 s.rels.recs,relE s x.2=0
 prop:∀ x∈GB 0 s.props.recs,DF s x.2=0
theorem ZvZ {s:St1} (h:decE s=0):sK s:=by
 unfold decE at h;split at h
 · rename_i a;exact absurd h a
 split at h
 · rename_i a b;exact absurd h b
 rename_i a b;rw [xJ _ _ 0] at a b h;exact ⟨bR (uF.1 a),bR (uF.1 b),bR h⟩
theorem sK.props {s:St1} (h:sK s):∀ i d,s.props.at_ i=some d->∃ x,getP d=some x/\FB s.keys x.key≠noText:=fun i d b=>by
 have a:=h.prop (i,d) (kL.2 b);unfold DF at a;simp only at a;cases hg:getP d with
 | none=>rw [hg] at a;cases a
 | some x =>
   rw [hg] at a;simp only at a;refine ⟨x,rfl,fun e=>?_⟩;rw [gA e] at a;cases a
theorem sK.getN {s:St1} (h:sK s) {x:Nat×List UInt8} (hx:x∈GB 0 s.nodes.recs):∃ n,Go.Proofs.YtmkjfhnlnhceiaaGreatDoor.getN x.2=some n/\∀ i∈n.labels,FB s.labels i≠noText:=by
 have a:=h.node x hx;unfold CF at a;cases hg:Go.Proofs.YtmkjfhnlnhceiaaGreatDoor.getN x.2 with
 | none=>rw [hg] at a;cases a
 | some n =>
   rw [hg] at a;simp only at a;refine ⟨n,rfl,fun i b e=>?_⟩;rw [gA (iG.2 ⟨i,b,by simp [e]⟩)] at a;cases a
theorem sK.getR {s:St1} (h:sK s) {x:Nat×List UInt8} (hx:x∈GB 0 s.rels.recs):∃ r,Go.Proofs.YtmkjfhnlnhceiaaGreatDoor.getR x.2=some r/\FB s.types r.type≠noText:=by
 have a:=h.rel x hx;unfold relE at a;cases hg:Go.Proofs.YtmkjfhnlnhceiaaGreatDoor.getR x.2 with
 | none=>rw [hg] at a;cases a
 | some n =>
   rw [hg] at a;simp only at a;split at a
   · cases a
   refine ⟨n,rfl,fun e=>?_⟩;rw [gA e] at a;cases a
theorem Ztk {L:List L1} {U a:List (Nat×List UInt8)} {x:Nat×List UInt8} (h:a=U.take a.length) (hx:U[a.length]?=some x) (ha:∀ y∈a,bI L y=0) (hn:∀ y∈a,(Go.Proofs.YtmkjfhnlnhceiaaGreatDoor.getN y.2).isSome=true) {er:Int} (he:bI L x=er) (h0:er≠0):SG L U=er:=by
 rw [(WQ h hx).1,QU ha hn];unfold bI at he;rw [SG] at he ⊢;cases hg:Go.Proofs.YtmkjfhnlnhceiaaGreatDoor.getN x.2 with
 | none=>rw [hg] at he;exact he
 | some n =>
   rw [hg] at he;simp only at he ⊢;cases hw:QC L x.1 (L.length+1) (-1) n.rel with
   | error e=>rw [hw] at he;exact he
   | ok ids =>
     rw [hw] at he;simp only at he ⊢;by_cases b:ids.length≠(OB L x.1).length
     · rw [gA b] at he ⊢;exact he
     rw [aA b] at he;exact absurd he.symm h0
theorem ZoY {L:List L1} {U:List (Nat×List UInt8)} (ha:∀ y∈U,bI L y=0) (hn:∀ y∈U,(Go.Proofs.YtmkjfhnlnhceiaaGreatDoor.getN y.2).isSome=true):SG L U=0:=by have:=QU (b:=[]) ha hn;rwa [ZC] at this
theorem BO {α β:Type} {g:α->List Nat->List Nat->Except Int (β×List Nat×List Nat)}:∀ {a:List α} {mp mb j k:List Nat} {ys:List β},zC g a mp mb=.ok (ys,j,k)->ys.length=a.length
 | [],_,_,_,_,_,h=>by cases h;rfl
 | x::a,mp,mb,j,k,ys,h=>by
   rw [zC] at h;rcases hg:g x mp mb with e | ⟨y,b,c⟩
   · rw [hg] at h;cases h
   rw [hg] at h;simp only at h;rcases hm:zC g a b c with e | ⟨i,d,f⟩
   · rw [hm] at h;cases h
   rw [hm] at h;simp only at h;cases h;rw [BA,BA,BO hm]
section
variable {w w':World} {B:Nat}
theorem OwnG.cells {g:GR} (h:OwnG w B g) (hu:Upd S w w') (hS:∀ b,S b->∀ (t:TypeId) (cs:Array Value),Blk w b t cs->False):OwnG w' B g:=by
 have c:∀ {e:TypeId} {k n:Nat} {v:Value} {xs:List Value},w.ownsRow B e k v n xs->w'.ownsRow B e k v n xs:=fun h=>GA h hu fun g d f=>by obtain ⟨cs,i⟩:=LA h d;exact hS g f _ _ i
 exact ⟨⟨c h.nodes.row,fun x a=>⟨c (h.nodes.each x a).lab,(h.nodes.each x a).pro.map hu hS,(h.nodes.each x a).id⟩⟩,⟨c h.rels.row,fun x a=>⟨(h.rels.each x a).pro.map hu hS,(h.rels.each x a).id⟩⟩⟩
end
structure GrS (w0 w:World) (B p rd mN mR mP mM mB:Nat) (q:StP) (s:St1) (A:Option Addr) (c:Nat) (mp mb:List Nat):Prop where
 st:StM w0 B p q s
 sm:Same w0 w
 lo:w0.heap.size<=mM/\w0.heap.size<=mB
 dec:DecS w0 w B p rd mN mR mP mM mB q s A c
 met:MsN w mM mp s.props.recs.length
 blob:MsN w mB mb s.blobs.recs.length
 ne:mN≠mM/\mN≠mB/\mR≠mM/\mR≠mB/\mP≠mM/\mP≠mB/\mM≠mB
 ok:sK s
section
variable {w0 w w':World} {B p rd mN mR mP mM mB:Nat} {q:StP} {s:St1} {A:Option Addr} {c:Nat} {mp mb mp' mb':List Nat}
def GrK (w0 w:World) (mN mR mP:Nat) (b:Nat):Prop:=w0.heap.size<=b/\b≠mN/\b≠mR/\b≠mP/\∀ (t:TypeId) (cs:Array Value),Blk w b t cs->t≠84/\t≠3/\t≠109
theorem GrS.upd (h:GrS w0 w B p rd mN mR mP mM mB q s A c mp mb) (hu:Upd S w w') (hS:∀ b,S b->GrK w0 w mN mR mP b) (hm:MsN w' mM mp' s.props.recs.length) (hb:MsN w' mB mb' s.blobs.recs.length):GrS w0 w' B p rd mN mR mP mM mB q s A c mp' mb':=by
 have f:∀ {B:Nat} {e:TypeId} {k n:Nat} {v:Value} {xs:List Value},(e=3\/e=109)->w.ownsRow B e k v n xs->w'.ownsRow B e k v n xs:=fun i h=>GA h hu fun g j a=>by
  obtain ⟨o,hb⟩:=LA h j;have d:=(hS g a).2.2.2.2 _ _ hb;rcases i with e | e
  · exact d.2.1 e
  exact d.2.2 e
 exact ⟨h.st,h.sm.trans hu fun b hb a=>by have:=(hS b a).1;omega,h.lo,⟨h.dec.blk.upd hu fun a=>((hS _ a).2.2.2.2 _ _ h.dec.blk).1 rfl,h.dec.node.upd hu (fun a=>(hS _ a).2.1 rfl) fun x v ⟨n,A,c,d,l,m⟩=>⟨n,A,c,d,l,f (.inl rfl) m⟩,h.dec.rel.upd hu (fun a=>(hS _ a).2.2.1 rfl) fun x v h=>h,h.dec.prop.upd hu (fun a=>(hS _ a).2.2.2.1 rfl) fun x v h=>h,f (.inr rfl) h.dec.chain⟩,hm,hb,h.ne,h.ok⟩
theorem GrS.mm (h:GrS w0 w B p rd mN mR mP mM mB q s A c mp mb) {b:Nat} (e:b=mM\/b=mB):GrK w0 w mN mR mP b:=by
 have a:=h.ne;have f:=h.lo;rcases e with rfl | rfl
 · exact ⟨f.1,a.1.symm,a.2.2.1.symm,a.2.2.2.2.1.symm,fun t g d=>absurd rfl (h.met.ne d)⟩
 exact ⟨f.2,a.2.1.symm,a.2.2.2.1.symm,a.2.2.2.2.2.1.symm,fun t g d=>absurd rfl (h.blob.ne d)⟩
theorem GrS.same (h:GrS w0 w B p rd mN mR mP mM mB q s A c mp mb) (hu:Same w w'):GrS w0 w' B p rd mN mR mP mM mB q s A c mp mb:=h.upd hu (fun _ f=>f.elim) (h.met.same hu) (h.blob.same hu)
theorem GrS.stm (h:GrS w0 w B p rd mN mR mP mM mB q s A c mp mb):StM w B p q s:=h.st.same h.sm
theorem GrS.rds (h:GrS w0 w B p rd mN mR mP mM mB q s A c mp mb):RdS w0 w B p rd mP mM mB q s (.map (some mN)) (.map (some mR)) (.slice A s.rels.recs.length c) mp mb :=
 ⟨h.st,h.sm,h.lo,h.dec.blk,h.dec.prop.prM,h.met,h.blob,⟨h.ne.2.2.2.2.1,h.ne.2.2.2.2.2.1,h.ne.2.2.2.2.2.2⟩,h.ok.props⟩
end
structure GI (w0 w W:World) (B p rd mN mR mP mM mB b1 gB:Nat) (q:StP) (s:St1) (A:Option Addr) (c:Nat) (mp mb:List Nat) (G:WB):Prop where
 gs:GrS w0 W B p rd mN mR mP mM mB q s A c mp mb
 up:Upd (fun b=>b=mM\/b=mB) w W
 box:Blk W b1 77 #[.pointer (some ⟨rd,0,none⟩)]
 ex:∃ gr:GR,Blk W gB 26 #[.slice gr.AN gr.nN gr.cN,.slice gr.AR gr.nR gr.cR]/\OwnG W w.heap.size gr/\gr.dat=G
section
variable {w0 w W W':World} {B p rd mN mR mP mM mB b1 gB:Nat} {q:StP} {s:St1} {A:Option Addr} {c:Nat} {mp mb mp' mb':List Nat} {G:WB}
theorem GI.maps (h:GI w0 w W B p rd mN mR mP mM mB b1 gB q s A c mp mb G) (hu:Upd S W W') (hS:∀ b,S b->(w0.heap.size<=b/\b≠mN/\b≠mR/\b≠mP)/\((b=mM\/b=mB)\/w.heap.size<=b)) (hc:∀ b,S b->∀ (t:TypeId) (cs:Array Value),Blk W b t cs->False)
 (hm:MsN W' mM mp' s.props.recs.length) (hb:MsN W' mB mb' s.blobs.recs.length):GI w0 w W' B p rd mN mR mP mM mB b1 gB q s A c mp' mb' G:=by
 obtain ⟨f,d,g,i⟩:=h.ex;exact ⟨h.gs.upd hu (fun b a=>⟨(hS b a).1.1,(hS b a).1.2.1,(hS b a).1.2.2.1,(hS b a).1.2.2.2,fun t cs hb=>(hc b a t cs hb).elim⟩) hm hb,
  h.up.trans hu fun b hb a=>by
   rcases (hS b a).2 with e | e
   · exact e
   omega,h.box.upd hu fun a=>hc _ a _ _ h.box,f,d.upd hu fun a=>hc _ a _ _ d,g.cells hu hc,i⟩
theorem GI.list (h:GI w0 w W B p rd mN mR mP mM mB b1 gB q s A c mp mb G) (hu:Upd (fun b=>b=mM\/b=mB) W W') (hm:MsN W' mM mp' s.props.recs.length) (hb:MsN W' mB mb' s.blobs.recs.length):GI w0 w W' B p rd mN mR mP mM mB b1 gB q s A c mp' mb' G :=
 h.maps hu (fun b e=>⟨⟨(h.gs.mm e).1,(h.gs.mm e).2.1,(h.gs.mm e).2.2.1,(h.gs.mm e).2.2.2.1⟩,.inl e⟩) (fun b e t a hb=>by
  rcases e with e | e
  · exact h.gs.met.ne hb e.symm
  exact h.gs.blob.ne hb e.symm) hm hb
theorem GI.cell (h:GI w0 w W B p rd mN mR mP mM mB b1 gB q s A c mp mb G) (hu:Upd (fun b=>b=mM\/b=mB) W W') {g:Nat} (hb:Blk W g t cs):Blk W' g t cs:=hb.upd hu fun e=>by
 rcases e with e | e
 · exact h.gs.met.ne hb e.symm
 exact h.gs.blob.ne hb e.symm
theorem RecM.atU {W:World} {U:List (Nat×List UInt8)} {V:World->Nat×List UInt8->Value->Prop} (h:RecM W m U V) (ht:Tryz.prog.underlying t=some (.map 3 e)) {z:Value} (hz:∀ w,(zeroValue e).run Tryz.prog w=.ok z w) {x:Nat×List UInt8} (hx:x∈U) (n:x.1<=65536):
 ∃ v,V W x v/\∀ (S:Nat->Prop) (wx:World),Upd S W wx->¬ S m->(Instr.lookup t (.map (some m)) (.int .i64 (x.1:Int)) false).run Tryz.prog wx=.ok v wx:=by
 obtain ⟨f,b,c,l⟩:=h;obtain ⟨v,d,g⟩:=c x hx;refine ⟨v,g,fun S wx j k=>?_⟩;have a:=((b.upd j k).look ht (hz wx) (i:=(x.1:Int)) qO).2;rw [d] at a;exact a
theorem MsN.obj {W:World} {n:Nat} {l:List Nat} (h:MsN W m l n):∃ es c,W.heap[m]?=some (.map es c):=by obtain ⟨⟨f,a,_⟩,_⟩:=h;exact MpK.obj a
theorem GI.marks {M:Nat} {ds:List Deferred} (h:GI w0 w W B p rd mN mR mP mM mB b1 gB q s A c mp mb G) (hk:TC B0 M W ds) (hu:Upd (fun b=>b=mM\/b=mB) W W'):TC B0 M W' ds:=hk.upd hu fun D e _ a=>by
 rcases e with e | e
 · obtain ⟨f,c,d⟩:=h.gs.met.obj;rw [e,d] at a;cases a
 obtain ⟨f,c,d⟩:=h.gs.blob.obj;rw [e,d] at a;cases a
theorem GI.mv {g0:Nat} (h:GI w0 w W B p rd mN mR mP mM mB b1 gB q s A c mp mb G) (hu:Upd (fun b=>b=mM\/b=mB) W W') (hM:mM<g0) (hB:mB<g0):MvD g0 W W':=gL hu fun b e=>.inl (by
 rcases e with e | e
 · obtain ⟨d,c,a⟩:=h.gs.met.obj;exact ⟨qO,_,e ▸ a,rfl⟩
 obtain ⟨d,c,a⟩:=h.gs.blob.obj;exact ⟨qO,_,e ▸ a,rfl⟩)
theorem GI.own (h:GI w0 w W B p rd mN mR mP mM mB b1 gB q s A c mp mb G) (hu:Upd (fun b=>b=mM\/b=mB) W W') {n:Nat} {v:Value} {xs:List Value} (ho:W.ownsRow B0 e k v n xs):W'.ownsRow B0 e k v n xs:=GA ho hu fun g d f=>by
 obtain ⟨i,a⟩:=LA ho d;rcases f with e | e
 · exact h.gs.met.ne a e.symm
 exact h.gs.blob.ne a e.symm
structure NdE (W1 wE:World) (mM mB bn:Nat) (mp mb:List Nat) (n1 n2:Nat) (iv:Value) (A7:Option Addr) (l c7:Nat) (ps:List PR):Prop where
 up:Upd (fun b=>b=mM\/b=mB) W1 wE
 blk:Blk wE bn 56 #[iv,.slice none 0 0,.slice A7 l c7]
 m1:MsN wE mM mp n1
 m2:MsN wE mB mb n2
 pro:xC wE W1.heap.size (.slice A7 l c7) ps
 lt:W1.heap.size<=bn
theorem Zvc {wz:World} {Bp:Nat} {ps:List PR} (i:Upd (fun b=>b=mM\/b=mB) W1 wz) (hW:W1.heap.size<=bn) (c:Blk wz bn 56 #[.int .i64 0,.slice none 0 0,.slice none 0 0]) (f:MsN wz mM mp' n1) (h:MsN wz mB mb' n2)
 (j:xC wz Bp (.slice A7 l c7) ps) (hB:W1.heap.size<=Bp) (d:(((wz.setCell ⟨bn,0,none⟩ iv).setCell ⟨bn,1,none⟩ (.slice none 0 0)).setCell ⟨bn,2,none⟩ (.slice A7 l c7))=wE):
 NdE W1 wE mM mB bn mp' mb' n1 n2 iv A7 l c7 ps:=by
 have a:Upd (fun b=>b=bn) wz wE:=by rw [<- d];exact (((eA (fun b=>b=bn) wz).put1 _).put1 _).put1 _
 refine ⟨?_,?_,f.upd a fun e=>f.ne c e,h.upd a fun e=>h.ne c e,(j.type a (e':=56) (fun g _ e=>e ▸ ⟨_,c⟩) qD qD qD).base hB,hW⟩
 · rw [<- d];exact ((i.putNew hW _).putNew hW _).putNew hW _
 rw [<- d];exact ((c.put 0 iv).put 1 (.slice none 0 0)).put 2 (.slice A7 l c7)
structure LabI (wE wr:World) (bn:Nat) (iv:Value) (nms:List ByteArray) (k:Nat) (AL:Option Addr) (cL:Nat) (A7:Option Addr) (l c7:Nat):Prop where
 up:Upd (fun b=>b=bn) wE wr
 blk:Blk wr bn 56 #[iv,.slice AL k cL,.slice A7 l c7]
 row:wr.ownsRow wE.heap.size 9 1 (.slice AL k cL) k ((nms.take k).map Value.string)
theorem NdE.labs {ps:List PR} {c:List ByteArray} (h:NdE W1 wE mM mB bn mp mb n1 n2 iv A7 l c7 ps) (hl:LabI wE wr bn iv c k AL cL A7 l c7):
 Upd (fun b=>b=mM\/b=mB) W1 wr/\MsN wr mM mp n1/\MsN wr mB mb n2/\xC wr W1.heap.size (.slice A7 l c7) ps :=
 ⟨h.up.trans hl.up fun b a e=>qt h.lt,h.m1.upd hl.up fun e=>h.m1.ne h.blk e,h.m2.upd hl.up fun e=>h.m2.ne h.blk e,h.pro.type hl.up (e':=56) (fun g _ e=>e ▸ ⟨_,h.blk⟩) qD qD qD⟩
theorem LabI.snoc {wa w9:World} {c9:Nat} {g:List ByteArray} {A9:Option Addr} {nm:ByteArray} (h:LabI wE wr bn iv g k AL cL A7 l c7) (hs:Same wr wa)
 (hg:Grew wa wE.heap.size 9 1 (.slice AL k cL) (k+1) ((g.take k).map Value.string++[.string nm]) (.slice A9 (k+1) c9) w9) (hn:g[k]?=some nm):
 LabI wE (w9.setCell ⟨bn,1,none⟩ (.slice A9 (k+1) c9)) bn iv g (k+1) A9 c9 A7 l c7:=by
 obtain ⟨a,c,d⟩:=aH (i:=1) h.blk h.row qD hs hg;refine ⟨h.up.trans d fun b f e=>?_,a,?_⟩
 · rcases e with e | e
   · exact e
   have:=(h.row.lt b e).1;omega
 rw [eD,hn,DB];exact c
theorem GI.grow {G':WB} (h:GI w0 w W B p rd mN mR mP mM mB b1 gB q s A c mp mb G) (hu:Upd (fun b=>b=gB\/(OfT W e b/\w.heap.size<=b)) W W') (hg:Blk W gB 26 cs) (hl:w.heap.size<=gB) (x:w0.heap.size<=w.heap.size)
 (he:e≠84/\e≠3/\e≠109/\e≠77)
 (v:∃ gr:GR,Blk W' gB 26 #[.slice gr.AN gr.nN gr.cN,.slice gr.AR gr.nR gr.cR]/\OwnG W' w.heap.size gr/\gr.dat=G'):GI w0 w W' B p rd mN mR mP mM mB b1 gB q s A c mp mb G':=by
 have k:∀ b,(b=gB\/(OfT W e b/\w.heap.size<=b))->w.heap.size<=b/\∃ (t:TypeId) (cs:Array Value),Blk W b t cs/\(t=26\/t=e):=fun b i=>by
  rcases i with rfl | ⟨⟨d,l⟩,a⟩
  · exact ⟨hl,_,_,hg,.inl rfl⟩
  exact ⟨a,_,_,l,.inr rfl⟩
 have f:∀ {g:Nat} {t m:TypeId} {cs d:Array Value},Blk W g t cs->Blk W g m d->t=m:=fun l a=>OfT.ne ⟨_,l⟩ ⟨_,a⟩;have o:∀ b,(b=gB\/(OfT W e b/\w.heap.size<=b))->GrK w0 W mN mR mP b:=fun b i=>by
  obtain ⟨l,t,d,a,j⟩:=k b i;refine ⟨qO,(h.gs.dec.node.ne a).symm,(h.gs.dec.rel.ne a).symm,(h.gs.dec.prop.ne a).symm,fun m n r=>?_⟩;obtain rfl:=f a r;rcases j with rfl | rfl
  · decide
  exact ⟨he.1,he.2.1,he.2.2.1⟩
 refine ⟨h.gs.upd hu o (h.gs.met.upd hu fun i=>?_) (h.gs.blob.upd hu fun i=>?_),h.up.trans hu fun b i u=>?_,h.box.upd hu fun i=>?_,v⟩
 · obtain ⟨_,t,d,a,_⟩:=k _ i;exact h.gs.met.ne a rfl
 · obtain ⟨_,t,d,a,_⟩:=k _ i;exact h.gs.blob.ne a rfl
 · have:=(k b u).1;omega
 obtain ⟨_,t,d,a,j⟩:=k _ i;obtain rfl:=f h.box a;rcases j with j | j
 · exact absurd j qD
 exact he.2.2.2 j.symm
theorem GI.same (h:GI w0 w W B p rd mN mR mP mM mB b1 gB q s A c mp mb G) (hu:Same W W'):GI w0 w W' B p rd mN mR mP mM mB b1 gB q s A c mp mb G :=
 h.maps hu (fun _ f=>f.elim) (fun _ f=>f.elim) (h.gs.met.same hu) (h.gs.blob.same hu)
theorem GI.it (h:GI w0 w W B p rd mN mR mP mM mB b1 gB q s A c mp mb G) (hu:Upd (yB (fun _=>False) m W) W W') (hm:w.heap.size<=m) (hl:mN<w.heap.size/\mR<w.heap.size/\mP<w.heap.size/\mM<w.heap.size/\mB<w.heap.size/\w0.heap.size<=w.heap.size):GI w0 w W' B p rd mN mR mP mM mB b1 gB q s A c mp mb G :=
 h.maps hu (fun b a=>by have:=a.1;exact ⟨⟨qO,qO,qO,qO⟩,.inr qO⟩) (fun b a t e d=>a.cells d) (h.gs.met.upd hu fun a=>qt a.1) (h.gs.blob.upd hu fun a=>qt a.1)
end
def PrOk (p:GPr):Prop:=p.key.size<=255/\chk p.val=0
theorem ZU {ns:List ByteArray} (h:∀ s∈ns,s.size<=40) (i:Int):(FB ns i).size<=255:=by
 unfold FB;split
 · decide
 split
 · rename_i s a;have:=h s (OC a);omega
 decide
theorem Zwa {s:St1} {x:P1} {mb mb':List Nat} {v:GVal} (h:val1 s x mb=.ok (v,mb')):chk v=0:=by
 unfold val1 at h;split at h
 · split at h
   · cases h
   rename_i a;cases h;exact uF.1 a
 split at h
 · cases h
 split at h
 · cases h
 split at h
 · cases h
 rename_i a;split at h
 · cases h
 cases h;exact (lX (uF.1 a)).1
theorem aV {s:St1} (hk:∀ n∈s.keys,n.size<=40):∀ {k:Nat} {had:List Int} {last i:Int} {mp mb o mb':List Nat} {l:List GPr},MB s k had last i mp mb=.ok (l,o,mb')->l.length<=k/\∀ p∈l,PrOk p
 | 0,had,last,i,mp,mb,o,mb',l,h=>by
   rw [MB] at h;split at h
   · cases h;exact ⟨lA _,fun _ h=>by cases h⟩
   cases h
 | k+1,had,last,i,mp,mb,o,mb',l,h=>by
   rw [MB] at h;split at h
   · cases h;exact ⟨oA _,fun _ h=>by cases h⟩
   rcases hs:tJ s had last i mp mb with e | ⟨x,v,a⟩
   · rw [hs] at h;cases h
   rw [hs] at h;simp only at h;rcases hl:MB s k (x.key::had) i x.next (i.toNat::mp) a with e | ⟨g,c,d⟩
   · rw [hl] at h;cases h
   rw [hl] at h;cases h;obtain ⟨j,f⟩:=aV hk hl;refine ⟨by rw [BA];omega,fun p b=>?_⟩;rcases TA.1 b with rfl | b
   · refine ⟨ZU hk _,?_⟩;unfold tJ at hs;split at hs
     · cases hs
     split at hs
     · cases hs
     split at hs
     · cases hs
     split at hs
     · cases hs
     split at hs
     · cases hs
     rename_i y _ _ _;rcases hv:val1 s y mb with e | ⟨m,mb'⟩
     · rw [hv] at hs;cases hs
     rw [hv] at hs;cases hs;exact Zwa hv
   exact f p b
theorem bV {α β:Type} {g:α->List Nat->List Nat->Except Int (β×List Nat×List Nat)}:∀ {a:List α} {mp mb n o:List Nat} {ys:List β},zC g a mp mb=.ok (ys,n,o)->∀ y∈ys,∃ x∈a,∃ m1 m2 m3 m4,g x m1 m2=.ok (y,m3,m4)
 | [],_,_,_,_,_,h,y,b=>by cases h;cases b
 | x::a,mp,mb,n,o,ys,h,y,b=>by
   rw [zC] at h;rcases hg:g x mp mb with e | ⟨z,c,d⟩
   · rw [hg] at h;cases h
   rw [hg] at h;simp only at h;rcases hm:zC g a c d with e | ⟨m,f,i⟩
   · rw [hm] at h;cases h
   rw [hm] at h;simp only at h;cases h;rcases TA.1 b with rfl | b
   · exact ⟨x,LJ,_,_,_,_,hg⟩
   obtain ⟨j,k,l⟩:=bV hm y b;exact ⟨j,IH _ k,l⟩
theorem Zwb {s:St1} (hk:∀ n∈s.keys,n.size<=40) (hl:∀ n∈s.labels,n.size<=40) {x:Nat×List UInt8} {m1 m2:List Nat} {y:NA} (h:AH s.labels (MB s 16 [] (-1)) x m1 m2=.ok (y,m3,m4)):
 y.labels.length<=8/\(∀ l∈y.labels,l.size<=255)/\y.props.length<=16/\∀ p∈y.props,PrOk p:=by
 unfold AH at h;cases hg:getN x.2 with
 | none=>rw [hg] at h;cases h
 | some n =>
   rw [hg] at h;simp only at h;rcases hls:MB s 16 [] (-1) n.prop m1 m2 with e | ⟨f,g,j⟩
   · rw [hls] at h;cases h
   rw [hls] at h;cases h;have b:=YU hg;simp only [bE,OG,kB,NC] at b;obtain ⟨c,d⟩:=aV hk hls;refine ⟨by simp only [nA];exact b.2.2.1,fun l a=>?_,c,d⟩;obtain ⟨i,_,rfl⟩:=fC.1 a;exact ZU hl i
theorem ZwW {s:St1} (hk:∀ n∈s.keys,n.size<=40) (ht:∀ n∈s.types,n.size<=40) {x:Nat×List UInt8} {m1 m2:List Nat} {y:GRel} (h:relU s.types getR (MB s 16 [] (-1)) x m1 m2=.ok (y,m3,m4)):
 y.type.size<=255/\y.props.length<=16/\∀ p∈y.props,PrOk p:=by
 unfold relU at h;cases hg:getR x.2 with
 | none=>rw [hg] at h;cases h
 | some n =>
   rw [hg] at h;simp only at h;rcases hls:MB s 16 [] (-1) n.prop m1 m2 with e | ⟨c,d,f⟩
   · rw [hls] at h;cases h
   rw [hls] at h;cases h;obtain ⟨a,b⟩:=aV hk hls;exact ⟨ZU ht _,a,b⟩
theorem ZpV {A:Option Addr} {n c:Nat} {ps:List PR} (h:xC w B (.slice A n c) ps) (hn:ps.length<=255) (hw:∀ p∈ps.map PR.dat,PrOk p):aK n ps:=by have i:ps.length=n:=h.rd.len;refine ⟨qO,fun x d=>?_⟩;have a:=hw x.dat (fD d);have b:=(h.each x d).rd;have j:=b.len1;have k:=b.len2;obtain ⟨_,_,_,m,o,q,e⟩:=QJ (show chk x.g=0 from a.2);have l:x.key.size<=255:=a.1;exact ⟨qO,qO,qO,fun s f=>by have:=e s f;omega,qO⟩
section
variable {α κ:Type} {lt:κ->κ->Prop} [DecidableRel lt] {key:α->κ}
theorem ZnJ (x:α):∀ l:List α,(insB lt key x l).Perm (x::l)
 | []=>by unfold insB;exact ML _
 | y::l=>by
   unfold insB;split
   · exact ((ZnJ x l).cons y).trans (List.Perm.swap x y l)
   exact ML _
theorem cI:∀ l:List α,(sE lt key l).Perm l
 | []=>ML _
 | x::l=>(ZnJ x _).trans ((cI l).cons x)
end
structure OkG (g:WB):Prop where
 n:g.nodes.length<=65536
 r:g.rels.length<=65536
 nodes:∀ x∈g.nodes,x.labels.length<=8/\(∀ l∈x.labels,l.size<=255)/\x.props.length<=16/\∀ p∈x.props,PrOk p
 rels:∀ x∈g.rels,x.type.size<=255/\x.props.length<=16/\∀ p∈x.props,PrOk p
theorem OkG.canon {g:WB} (h:OkG g):OkG (tE g):=by
 unfold tE;refine ⟨by rw [(cI _).length_eq,nA];exact h.n,by rw [(cI _).length_eq,nA];exact h.r,fun x a=>?_,fun x a=>?_⟩
 · obtain ⟨y,b,rfl⟩:=fC.1 ((cI _).mem_iff.1 a);obtain ⟨c,i,d,e⟩:=h.nodes y b;exact ⟨by show (nH y.labels).length<=8;rw [(cI _).length_eq];exact c,fun l j=>i l ((cI _).mem_iff.1 j),by show (sE ltS GPr.key y.props).length<=16;rw [(cI _).length_eq];exact d,fun p f=>e p ((cI _).mem_iff.1 f)⟩
 obtain ⟨y,b,rfl⟩:=fC.1 ((cI _).mem_iff.1 a);obtain ⟨c,d,e⟩:=h.rels y b;exact ⟨c,by show (sE ltS GPr.key y.props).length<=16;rw [(cI _).length_eq];exact d,fun p f=>e p ((cI _).mem_iff.1 f)⟩
theorem OkG.sized {g:GR} (h:OwnG w B g) (ho:OkG g.dat):RG g:=by
 have k:g.ns.length=g.nN:=h.nodes.rd.len;have l:g.rs.length=g.nR:=h.rels.rd.len;have m:g.ns.length<=65536:=by have:=ho.n;unfold GR.dat at this;simpa using this
 have o:g.rs.length<=65536:=by have:=ho.r;unfold GR.dat at this;simpa using this
 refine ⟨qO,qO,fun x a=>?_,fun x a=>?_⟩
 · obtain ⟨i,c,d,e⟩:=ho.nodes x.dat (fD a);have p:x.labels.length=x.nL:=by have:=(kJ (h.nodes.each x a).lab).len;simpa using this
   have f:x.labels.length<=8:=i;exact ⟨qO,fun s j=>by have:s.size<=255:=c s j;omega,ZpV (h.nodes.each x a).pro (by have b:=d;simp only [ND.dat,nA] at b;omega) e⟩
 obtain ⟨c,d,e⟩:=ho.rels x.dat (fD a);have q:x.type.size<=255:=c;exact ⟨qO,ZpV (h.rels.each x a).pro (by have b:=d;simp only [RL.dat,nA] at b;omega) e⟩
theorem Zwc {s:St1} (hk:∀ n∈s.keys,n.size<=40) (hl:∀ n∈s.labels,n.size<=40) (ht:∀ n∈s.types,n.size<=40) {ns:List NA} {rs:List GRel} {U U':List (Nat×List UInt8)} {m1 m2:List Nat}
 (hn:zC (AH s.labels (MB s 16 [] (-1))) U m1 m2=.ok (ns,m3,m4)) (hr:zC (relU s.types getR (MB s 16 [] (-1))) U' m5 m6=.ok (rs,m7,m8)) (hU:U.length<=65536) (c:U'.length<=65536):OkG ⟨ns,rs⟩ :=
 ⟨by rw [BO hn];exact hU,by rw [BO hr];exact c,fun x a=>by obtain ⟨_,_,_,_,_,_,b⟩:=bV hn x a;exact Zwb hk hl b,fun x a=>by obtain ⟨_,_,_,_,_,_,b⟩:=bV hr x a;exact ZwW hk ht b⟩
theorem cV:∀ {rs:List (Option (List UInt8))} {i:Nat} {x:Nat×List UInt8},x∈GB i rs->i<=x.1
 | [],_,_,h=>by cases h
 | none::l,i,x,h=>Nat.le_of_succ_le (cV (rs:=l) h)
 | some d::l,i,x,h=>by
   rcases TA.1 h with rfl | h
   · exact lA _
   exact Nat.le_of_succ_le (cV (rs:=l) h)
theorem dV:∀ (rs:List (Option (List UInt8))) (i:Nat),(GB i rs).Pairwise fun a b=>a.1<b.1
 | [],_=>List.Pairwise.nil
 | none::l,i=>dV l (i+1)
 | some _::l,i=>TE.2 ⟨fun _ h=>cV (rs:=l) h,dV l (i+1)⟩
theorem eV {β:Type} {id:β->Int} {g:Nat×List UInt8->List Nat->List Nat->Except Int (β×List Nat×List Nat)} (hg:∀ x m1 m2 y m3 m4,g x m1 m2=.ok (y,m3,m4)->id y=x.1):∀ {a:List (Nat×List UInt8)} {mp mb j k:List Nat} {ys:List β},zC g a mp mb=.ok (ys,j,k)->ys.map id=a.map fun x=>(x.1:Int)
 | [],_,_,_,_,_,h=>by cases h;rfl
 | x::a,mp,mb,j,k,ys,h=>by
   rw [zC] at h;rcases hx:g x mp mb with e | ⟨z,b,c⟩
   · rw [hx] at h;cases h
   rw [hx] at h;simp only at h;rcases hm:zC g a b c with e | ⟨i,d,f⟩
   · rw [hm] at h;cases h
   rw [hm] at h;cases h;rw [CB,CB,hg _ _ _ _ _ _ hx,eV hg hm]
theorem Ztl {β:Type} {id:β->Int} {rs:List (Option (List UInt8))} {ys:List β} (h:ys.map id=(GB 0 rs).map fun x=>(x.1:Int)):XA (fun a b:Int=>a<b) id ys :=
 lO h ((dV rs 0).imp fun {a b} h=>by show ¬ ((b.1:Int)<(a.1:Int));omega)
theorem Zwd {s:St1} {ns:List NA} {rs:List GRel} {l l':List (Option (List UInt8))} {m1 m2:List Nat}
 (hn:zC (AH s.labels (MB s 16 [] (-1))) (GB 0 l) m1 m2=.ok (ns,m3,m4)) (hr:zC (relU s.types getR (MB s 16 [] (-1))) (GB 0 l') m5 m6=.ok (rs,m7,m8)):XA (fun a b:Int=>a<b) NA.id ns/\XA (fun a b:Int=>a<b) GRel.id rs:=by
 refine ⟨Ztl (eV (fun x m1 m2 y m3 m4 h=>?_) hn),Ztl (eV (fun x m1 m2 y m3 m4 h=>?_) hr)⟩
 · unfold AH at h;split at h
   · cases h
   split at h
   · cases h
   cases h;rfl
 unfold relU at h;split at h
 · cases h
 split at h
 · cases h
 cases h;rfl
theorem UpG.of {g:GR} (h:OwnG w B g) (ho:OkG g.dat) (h1:XA (fun a b:Int=>a<b) NA.id g.dat.nodes) (h2:XA (fun a b:Int=>a<b) GRel.id g.dat.rels):UpG g:=by
 refine ⟨lO (by unfold GR.dat;rw [MC];rfl) h1,lO (by unfold GR.dat;rw [MC];rfl) h2,fun x c=>?_,fun x c=>?_⟩
 · have d:=(ho.nodes x.dat (fD c)).2.2.1;have e:x.props.length=x.nP:=(h.nodes.each x c).pro.rd.len;simp only [ND.dat,nA] at d;omega
 have d:=(ho.rels x.dat (fD c)).2.1;have e:x.props.length=x.nP:=(h.rels.each x c).pro.rd.len;simp only [RL.dat,nA] at d;omega
def anyT (Q:Exit->Act->World->Prop):Exit->Act->World->Prop
 | .panic ch,a,w=>∀ t,Q (.panic ch) ⟨t,a.defers⟩ w
 | e,a,w=>Q e a w
theorem Zwe {P:Program} {c:Code} (h:Code.wp P c (anyT Q) a w):Code.wp P c Q a w:=wp_mono h fun e a w h=>by
 cases e with
 | panic ch=>exact h a.tmps
 | normal=>exact h
 | ret=>exact h
 | exit id=>exact h
 | goto l=>exact h
 | outgrown=>exact h
theorem Ztm {K:Act->World->Prop} (h:K a w):anyT (Exit.then K Q) .normal a w:=h
theorem Ztn (k vs z:Nat) (l:List BS):(filD k vs z l).live=(l.filter fun x=>x.A.isSome).length:=by unfold YA.live filD;simp only;rw [aS,nA];congr 1;apply uP;intro x _;simp only [Function.comp];unfold BS.rc;cases x.A <;> rfl
end Go.Proofs.YtmkjfhnlnhceiaaGreatDoor
