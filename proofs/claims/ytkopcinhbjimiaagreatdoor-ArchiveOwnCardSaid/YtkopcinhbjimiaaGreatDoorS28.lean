/- Texts that the claim leans on: walks and plain laws, function by function. -/
import Derived.Test.YtkopcinhbjimiaaGreatDoorJoinL
import Derived.Lib.SlBytesConst
import Derived.Test.YtkopcinhbjimiaaGreatDoorS26
set_option maxRecDepth 100000
set_option maxHeartbeats 16000000
namespace Go.Proofs.YtkopcinhbjimiaaGreatDoor
open Go.RowKit
noncomputable def ZeP (g:Zak):Int->List ByteArray:=Classical.choose (ZnB (Zaf g))
theorem Zfp (g:Zak):∀ k,Srt (Zaf g k) (ZeP g k):=Classical.choose_spec (ZnB (Zaf g))
noncomputable def chkP (g:Zak):Int×Nat:=Zcw g (Zdl (ZeP g 1).length (ZeP g 2).length (ZeP g 3).length g.wt)
theorem ZdH {F:Nat->Prop} (w:World) (g:GR) (h:RdG w F g) (hz:ZbJ g) {e:Int} {at_:Nat} (hE:chkP g.dat=(e,at_)) :
 Calls Tryz.prog 29 #[g.agg] w fun x w'=>x=.returned (.tuple #[.int .i64 e,.int .i64 at_])/\Same w w' :=
 Zku w g h hz.fit hz.texts (Zfp g.dat) (by rw [<- ZlL]) hE
theorem ZfL {F:Nat->Prop} (w:World) (g:GR) (h:RdG w F g) (hz:ZbJ g) {e:Int} {at_:Nat} (hE:chkP g.dat=(e,at_)) :
 Calls Tryz.prog 27 #[g.agg] w fun x w'=>x=.returned (.tuple #[.int .i64 e,.int .i64 at_])/\Same w w' :=
 Zjp w g h hz.fit (Zfp g.dat) (fun hh=>ZhL hh) (fun hh=>ZgL hh) (by rw [<- ZlL]) hE
theorem ZnO {g:Zak} (h:(chkP g).1=0):ZaH g=none/\g.wt<=262144:=by
 have h1:ZaH g=none:=Zmw (g:=g) (tl:=Zdl (ZeP g 1).length (ZeP g 2).length (ZeP g 3).length g.wt) (at_:=(chkP g).2) (Prod.ext h rfl)
 refine ⟨h1,?_⟩
 unfold chkP Zcw at h
 rw [h1] at h
 simp only at h
 unfold Zdl at h
 split at h
 · cases h
 split at h
 · cases h
 omega
theorem Zck {g:Zak} (h:(chkP g).1=0) (hf:ZpK g):Zce g/\ZdD g=g:=by
 obtain ⟨h1,h2⟩:=ZnO h
 exact ⟨ZoV h1 h2 hf,(ZkC h1).1⟩
theorem Zfq {w:World} {F:Nat->Prop} {g:GR} (h:RdG w F g):ZpK g.dat:=by
 have key:∀ (ps:List PR) (A:Option Addr) (n c:Nat),RdPs w F A n c ps->∀ p∈ps.map PR.dat,p.val.Fits:=fun ps A n c hp p hm=>by
  obtain ⟨x,hx,rfl⟩:=List.mem_map.1 hm
  have hv:=hp.val x hx
  exact ⟨hv.kind,hv.num,hv.range⟩
 refine ⟨fun x hx p hp=>?_,fun x hx p hp=>?_⟩
 · obtain ⟨y,hy,rfl⟩:=List.mem_map.1 hx
   exact key _ _ _ _ (h.nodes.pro y hy) p hp
 obtain ⟨y,hy,rfl⟩:=List.mem_map.1 hx
 exact key _ _ _ _ (h.rels.pro y hy) p hp
theorem Zfr:∀ l:List GPr,psW l<=(l.flatMap Zbj).length
 | []=>by simp [psW]
 | p::l=>by
   have h:=Zfr l
   rw [Zll,List.flatMap_cons,List.length_append]
   have e:(enc p.val).length<=(Zbj p).length:=by
    unfold Zbj
    simp only [List.length_append]
    omega
   omega
theorem ZnP (x:ZaO):psW x.props<=(Zbr x).length:=by
 have h:=Zfr x.props
 unfold Zbr ZbD
 simp only [List.length_append]
 omega
theorem ZnQ (x:GRel):psW x.props<=(Zbx x).length:=by
 have h:=Zfr x.props
 unfold Zbx ZbD
 simp only [List.length_append]
 omega
theorem Ziw {α:Type} (f:α->List GPr) (t:Nat) (e:α->List UInt8) (h:∀ x,psW (f x)<=(e x).length):∀ l:List α,9*l.length+psW (l.flatMap f)<=((l.map fun x=>Zai t (e x)).flatten).length
 | []=>by simp [psW]
 | y::l=>by
   have h1:=Ziw f t e h l
   have h2:=h y
   rw [List.map_cons,List.flatten_cons,List.length_append,ZaE,List.flatMap_cons,Zdc,List.length_cons]
   omega
theorem Zep (g:Zak):9*g.nodes.length+9*g.rels.length+g.wt<=(Zaz g).flatten.length:=by
 have h1:=Ziw ZaO.props 2 Zbr ZnP g.nodes
 have h2:=Ziw GRel.props 3 Zbx ZnQ g.rels
 rw [Zbe]
 unfold Zak.wt
 simp only [List.length_append]
 omega
theorem ZhT {s:PSt} (h:InvP s):9*s.g.nodes.length+9*s.g.rels.length+s.g.wt<=s.all.length:=by
 rcases h.2 with c | c | c | c
 · rw [c.2.1,c.2.2]
   decide
 · rw [c.2.2]
   exact Zep _
 · rw [c.2]
   exact Zep _
 rw [c.2,ZaN,List.length_append]
 have:=Zep s.g
 omega
theorem ZjB {w:World} {B:Nat} {A:Option Addr} {n c:Nat} {ps:List PR} (h:ZbC w B (.slice A n c) ps) (hn:ps.length<=255) (hw:∀ p∈ps.map PR.dat,p.Wr):ZcR n ps:=by
 have h1:ps.length=n:=h.rd.len
 refine ⟨by omega,fun x hx=>?_⟩
 have hx1:=hw x.dat (List.mem_map_of_mem hx)
 have hv:=(h.each x hx).rd
 have l1:=hv.len1
 have l2:=hv.len2
 obtain ⟨_,_,_,z4,z5,z6,z7⟩:=ZdN (show chk x.g=0 from hx1.2.1)
 have h5:x.key.size<=255:=hx1.1
 exact ⟨by omega,by omega,by omega,fun s hs=>by have:=z7 s hs;omega,by omega⟩
theorem ZeQ {w:World} {B:Nat} {g:GR} (h:OwnG w B g) (hw:Zqy g.dat) (hn1:g.ns.length<=16777216) (hn2:g.rs.length<=16777216):ZbJ g:=by
 have l1:g.ns.length=g.nN:=h.nodes.rd.len
 have l2:g.rs.length=g.nR:=h.rels.rd.len
 refine ⟨by omega,by omega,fun x hx=>?_,fun x hx=>?_⟩
 · have hx1:=hw.nodes x.dat (List.mem_map_of_mem hx)
   have hl:x.labels.length=x.nL:=by
    have:=(Zci (h.nodes.each x hx).lab).len
    simpa using this
   have hln:x.labels.length<=255:=hx1.n
   exact ⟨by omega,fun s hs=>by have:s.size<=255:=hx1.lab s hs;omega,ZjB (h.nodes.each x hx).pro (by simpa [ND.dat] using hx1.np) hx1.pr⟩
 have hx1:=hw.rels x.dat (List.mem_map_of_mem hx)
 have ht:x.type.size<=255:=hx1.type
 exact ⟨by omega,ZjB (h.rels.each x hx).pro (by simpa [RL.dat] using hx1.np) hx1.pr⟩
theorem OwnG.nil_ (w:World) (B:Nat):OwnG w B ⟨[],none,0,0,[],none,0,0⟩:=⟨ZcN.nil_ _ _,ZcZ.nil_ _ _⟩
theorem Zmy {w wa w9:World} {B g i:Nat} {t:TypeId} {cs:Array Value} {gr:GR} {x:ND} {v9:Value} (KO:OwnG w B gr) (kb:Blk w g t cs) (h0:43≠t) (h1:48≠t) (h2:2≠t) (h3:9≠t) (h4:50≠t)
 (hsa:Same w wa) (hx:ZcY wa B x) (hg:Grew wa B 43 3 (.slice gr.AN gr.nN gr.cN) (gr.nN+1) (gr.ns.flatMap ND.cells++x.cells) v9 w9) :
 ∃ A9 c9,v9=.slice A9 (gr.nN+1) c9/\OwnG (w9.setCell ⟨g,i,none⟩ v9) B ⟨gr.ns++[x],A9,gr.nN+1,c9,gr.rs,gr.AR,gr.nR,gr.cR⟩/\Blk (w9.setCell ⟨g,i,none⟩ v9) g t (cs.setIfInBounds i v9)/\Blk w9 g t cs/\Upd (fun b=>b=g\/(OfT w 43 b/\B<=b)) w (w9.setCell ⟨g,i,none⟩ v9):=by
 have hln:gr.ns.length=gr.nN:=KO.nodes.rd.len
 have hrow:=KO.nodes.row
 rw [hln] at hrow
 have hrowa:=Zaa hrow hsa
 obtain ⟨A9,c9,rfl⟩:=Zac hg.own
 have hT:∀ b,b<wa.heap.size->(Value.slice gr.AN gr.nN gr.cN).ownBlock=some b->OfT wa 43 b:=fun b _ hb=>Zaq hrowa hb
 have k9:=(kb.same hsa).upd hg.upd fun hh=>(kb.same hsa).ne_own hrowa h0 hh
 have hp:=(Upd.refl (fun b=>b=g) w9).put1 (i:=i) (.slice A9 (gr.nN+1) c9)
 have hTp:∀ b,b<w9.heap.size->b=g->OfT w9 t b:=fun b _ e=>by rw [e];exact ⟨_,k9⟩
 have hN9:=(KO.nodes.same hsa).snoc (x:=x) (by rw [hln];exact hg) hx
 have hR9:=(KO.rels.same hsa).type hg.upd hT (by decide) (by decide) (by decide) (by decide)
 refine ⟨A9,c9,rfl,⟨hN9.type hp hTp h0 h1 h2 h3,hR9.type hp hTp h4 h1 h2 h3⟩,k9.put i _,k9,?_⟩
 refine Upd.put ((hsa.mono (S':=fun b=>b=g\/(OfT w 43 b/\B<=b)) fun _ _ f=>f.elim).trans hg.upd fun k hk hb=>.inr ⟨Zaq hrow hb,(hrow.lt k hb).1⟩) (.inl rfl) _
theorem ZjC {w wa w9:World} {B g i:Nat} {t:TypeId} {cs:Array Value} {gr:GR} {x:RL} {v9:Value} (KO:OwnG w B gr) (kb:Blk w g t cs) (h0:43≠t) (h1:48≠t) (h2:2≠t) (h3:9≠t) (h4:50≠t)
 (hsa:Same w wa) (hx:Zdr wa B x) (hg:Grew wa B 50 5 (.slice gr.AR gr.nR gr.cR) (gr.nR+1) (gr.rs.flatMap RL.cells++x.cells) v9 w9) :
 ∃ A9 c9,v9=.slice A9 (gr.nR+1) c9/\OwnG (w9.setCell ⟨g,i,none⟩ v9) B ⟨gr.ns,gr.AN,gr.nN,gr.cN,gr.rs++[x],A9,gr.nR+1,c9⟩/\Blk (w9.setCell ⟨g,i,none⟩ v9) g t (cs.setIfInBounds i v9)/\Blk w9 g t cs/\Upd (fun b=>b=g\/(OfT w 50 b/\B<=b)) w (w9.setCell ⟨g,i,none⟩ v9):=by
 have hln:gr.rs.length=gr.nR:=KO.rels.rd.len
 have hrow:=KO.rels.row
 rw [hln] at hrow
 have hrowa:=Zaa hrow hsa
 obtain ⟨A9,c9,rfl⟩:=Zac hg.own
 have hT:∀ b,b<wa.heap.size->(Value.slice gr.AR gr.nR gr.cR).ownBlock=some b->OfT wa 50 b:=fun b _ hb=>Zaq hrowa hb
 have k9:=(kb.same hsa).upd hg.upd fun hh=>(kb.same hsa).ne_own hrowa h4 hh
 have hp:=(Upd.refl (fun b=>b=g) w9).put1 (i:=i) (.slice A9 (gr.nR+1) c9)
 have hTp:∀ b,b<w9.heap.size->b=g->OfT w9 t b:=fun b _ e=>by rw [e];exact ⟨_,k9⟩
 have hR9:=(KO.rels.same hsa).snoc (x:=x) (by rw [hln];exact hg) hx
 have hN9:=(KO.nodes.same hsa).type hg.upd hT (by decide) (by decide) (by decide) (by decide)
 refine ⟨A9,c9,rfl,⟨hN9.type hp hTp h0 h1 h2 h3,hR9.type hp hTp h4 h1 h2 h3⟩,k9.put i _,k9,?_⟩
 refine Upd.put ((hsa.mono (S':=fun b=>b=g\/(OfT w 50 b/\B<=b)) fun _ _ f=>f.elim).trans hg.upd fun k hk hb=>.inr ⟨Zaq hrow hb,(hrow.lt k hb).1⟩) (.inl rfl) _
theorem ZjD (a:Addr) (h:a.spot=none) (i:Nat):a.add i=⟨a.block,a.off+i,none⟩:=by
 obtain ⟨b,o,s⟩:=a
 subst h
 unfold Addr.add
 split <;> simp_all
theorem ZgY {B:Nat} {w:World} {v:Value} {l:List UInt8} (h:Lib.FreshBytes B w v l) (h0:0<l.length):∃ A c,v=.slice A l.length c/\Bytes w (fun b=>B<=b) A l.length c l:=by
 obtain ⟨g,cap,zs,rfl,hB,hle,hmx,hzl,hz,hb,hc,_⟩:=h
 refine ⟨_,_,rfl,by simp,hle,hmx,(fun h=>by cases h),fun a ha=>?_⟩
 cases ha
 have hat:∀ i u,(l.map u8v)[i]?=some u->w.cell? ⟨g,0+i,none⟩=some u:=fun i u hu=>by
  obtain ⟨x,hx,rfl⟩:∃ x,l[i]?=some x/\u8v x=u:=by simpa using hu
  have hi:=(List.getElem?_eq_some_iff.1 hx).1
  rw [Nat.zero_add,hc i (by omega)]
  have h1:(Lib.bytesOf (zs.take l.length))[i]?=some x:=by rw [hb];exact hx
  have h2:zs[i]?=some (zs.getD i 0):=by rw [List.getD,List.getElem?_eq_getElem (by omega)];rfl
  have h3:=hz _ (List.mem_of_getElem? h2)
  simp only [Lib.bytesOf,List.getElem?_map,List.getElem?_take,if_pos hi,h2,Option.map_some,Option.some.injEq] at h1
  subst h1
  have h4:(UInt8.ofNat (zs.getD i 0).toNat).toNat=(zs.getD i 0).toNat:=by
   rw [UInt8.toNat_ofNat']
   exact Nat.mod_eq_of_lt (by omega)
  simp only [u8v,h4,Option.some.injEq,Value.int.injEq,true_and]
  omega
 refine ⟨rfl,?_,hB,hat⟩
 have h1:=hat 0 (u8v l[0]) (by rw [List.getElem?_map,List.getElem?_eq_getElem h0];rfl)
 exact block_lt_of_cell h1
theorem Zpb {w:World} {B n c b o:Nat} {l:List BS} (h:ZbQ w B (.slice (some ⟨b,o,none⟩) n c) l) (hn:l.length=n):Lib.PartsAt w ⟨b,o,none⟩ (l.map BS.cell) (l.map BS.data):=by
 refine ⟨by simp,fun i v hv=>?_,fun i v d hv hd=>?_⟩
 · have hi:i<n:=by have:=(List.getElem?_eq_some_iff.1 hv).1;simpa [hn] using this
   obtain ⟨b',o',x,hA,_,hx,_,hc⟩:=h.at_ hn hi
   cases hA
   rw [List.getElem?_map,hx] at hv
   cases hv
   rw [ZjD _ rfl]
   exact hc
 obtain ⟨x,hx,rfl⟩:∃ x,l[i]?=some x/\x.cell=v:=by simpa using hv
 rw [List.getElem?_map,hx] at hd
 cases hd
 have h1:=h.each x (List.mem_of_getElem? hx)
 refine ⟨x.A,x.c,by unfold BS.cell;rw [Bytes.len h1],fun hA=>?_,fun a ha j y hy=>?_⟩
 · have h2:=Row.nil h1 hA
   have h3:=Row.le h1
   exact List.eq_nil_of_length_eq_zero (by rw [Bytes.len h1];omega)
 obtain ⟨h2,_,_,h3⟩:=Row.cell h1 a ha
 rw [ZjD _ h2]
 exact h3 j _ (by rw [List.getElem?_map,hy];rfl)
theorem ZkJ (L:List (List UInt8)):Lib.join L []=L.flatten:=by
 cases L with
 | nil=>rfl
 | cons x r =>
   rw [Lib.join_cons]
   simp [Lib.joinTail]
theorem ZnR (L:List (List UInt8)):Lib.lens L=L.flatten.length:=by
 unfold Lib.lens
 rw [List.length_flatten]
theorem ZnS (w:World) {B n c:Nat} {A:Option Addr} {l:List BS} (h:ZbQ w B (.slice A n c) l) (hn:l.length=n) (h2:2<=n) (h3:n<=100000) (hl:(l.map BS.data).flatten.length<=140737488355328) :
 Calls Tryz.prog 30 #[.slice A n c,.slice none 0 0] w fun e w'=>∃ v,e=.returned v/\Lib.FreshBytes w.heap.size w' v (l.map BS.data).flatten/\Same w w':=by
 obtain ⟨b,o,x,hA,_⟩:=h.at_ hn (i:=0) (by omega)
 subst hA
 have hr:=h.row
 rw [hn] at hr
 have hk:=Row.of_own hr
 have h1:=Any.bytes_Join_many joinL b o n c (l.map BS.cell) (l.map BS.data) (.slice none 0 0) [] w (by simp [hn]) h2 (Zpb h hn) hk.le ⟨none,0,rfl,fun _=>rfl,fun a ha=>by cases ha⟩
  (by omega) (by rw [ZnR];simpa using hl)
 rw [ZkJ] at h1
 refine Calls.mono h1 ?_
 rintro e w' ⟨v,rfl,h3,h4⟩
 exact ⟨v,rfl,h3,Same.of_below h4⟩
end Go.Proofs.YtkopcinhbjimiaaGreatDoor
namespace Go.Proofs.YtkopcinhbjimiaaGreatDoor
open Go.RowKit Go.Shelf
attribute [local go_sem] Oper.semAt_some
theorem YieldAt.deep {F:Fence} (hd:F.depth=none) {m:Nat} (m':Nat) {P:Program} {l:Nat} {args:Array Value} {W:World} {R:Ending->World->Prop} (h:YieldAt F m P l args W R):YieldAt F m' P l args W R:=by
 obtain ⟨fn,tmps,assign,body,hy,h1,h2⟩:=h
 exact ⟨fn,tmps,assign,body,hy,h1,fun c cs _=>h2 c cs fun d h=>by rw [hd] at h;cases h⟩
theorem YieldAt.inRound {F:Fence} {m:Nat} (l':Nat) {P:Program} {l:Nat} {args:Array Value} {W:World} {R:Ending->World->Prop} (h:YieldAt F m P l args W R):YieldAt (F.inRound l') m P l args W R:=h
def FzB (w:World) (x:BS):Prop:=∀ a,x.A=some a->a.off=0/\∃ cs fr,w.heap[a.block]?=some (.cells cs 5 fr)/\(fr.1=fr.2\/cs.size<=fr.1)
theorem FzB.of {w:World} {B n c:Nat} {A:Option Addr} {bs:List UInt8} (h:OwnB w B (.slice A n c) bs):FzB w ⟨bs,A,n,c⟩:=fun a ha=>by
 rcases h.2 with ⟨hv,_⟩ | ⟨g,cap,cur,hv,_,hg,_⟩
 · injection hv with h1
   rw [show A=some a from ha] at h1
   cases h1
 injection hv with h1
 rw [show A=some a from ha] at h1
 injection h1 with h1
 subst h1
 exact ⟨rfl,_,_,hg,.inl rfl⟩
theorem FzB.upd {S:Nat->Prop} {w w':World} {x:BS} (h:FzB w x) (hu:Upd S w w') (hS:∀ b cs fr,w.heap[b]?=some (.cells cs 5 fr)->¬ S b):FzB w' x:=fun a ha=>by
 obtain ⟨h0,cs,fr,h1,h2⟩:=h a ha
 exact ⟨h0,cs,fr,(hu.block _ (Array.getElem?_eq_some_iff.1 h1).1 (hS _ _ _ h1)).trans h1,h2⟩
theorem FzB.lit (w:World) (l:List UInt8) {cs:Array Value} {fr:Nat×Nat} (hc:cs.size<=fr.1) {n:Nat}:FzB (w.alloc (.cells cs 5 fr)) ⟨l,some ⟨w.heap.size,0,none⟩,n,n⟩:=fun a ha=>by
 cases ha
 exact ⟨rfl,cs,fr,World.alloc_heap_new w _,.inr hc⟩
theorem Zqz {w:World} {d:Nat} {bs:List UInt8} (h:Dig w d bs):∀ b cs fr,w.heap[b]?=some (.cells cs 5 fr)->¬ b=d:=fun b cs fr h1 e=>by
 subst e
 have h2:w.heap[b]?=some (.cells _ _ _):=h
 rw [h1] at h2
 injection h2 with h2
 injection h2 with _ h3
 exact absurd h3 (by decide)
structure StU (U:TypeId->Prop):Prop where
 g:¬ U 26
 d:¬ U 121
 p:¬ U 77
 y:¬ U 58
def TDig (t:TypeId):Prop:=t=121
theorem Dig.it {T:TypeId->Prop} {B d:Nat} {bs:List UInt8} {W W':World} (h:Dig W d bs) (hu:Upd (ZaD T B W) W W') (ht:¬ T 121):Dig W' d bs:=Blk.it h hu ht
theorem Nib.it {T:TypeId->Prop} {B:Nat} {W W':World} (h:Nib W) (hu:Upd (ZaD T B W) W W') (hB:1<B):Nib W':=h.upd hu fun hs=>by have:=hs.1;omega
theorem RdG.it {T:TypeId->Prop} {B B0:Nat} {W W':World} {g:GR} (h:RdG W (fun b=>b<B0) g) (hu:Upd (ZaD T B W) W W') (hB:B0<=B):RdG W' (fun b=>b<B0) g:=h.upd hu fun b hb hs=>by have:=hs.1;omega
theorem ZjE (w:World) (g:GR):Calls Tryz.prog 39 #[g.agg] w fun e w'=>e=.returned (.func (.func 74) #[] #[.pointer (some ⟨w.heap.size,0,none⟩)])/\w'=w.alloc (.cells #[.slice g.AN g.nN g.cN,.slice g.AR g.nR g.cR] 26):=by
 have hmf:∀ (fn:Fn) (first cap:Array Value) (w:World),(Instr.makeFunc fn first cap).run Tryz.prog w=.ok (.func fn first cap) w:=fun _ _ _ _=>rfl
 obtain ⟨ns,AN,nN,cN,rs,AR,nR,cR⟩:=g
 go_enter Tryz.func39,Tryz.ntmps39
 go_wp2
 go_ret
 exact ⟨rfl,rfl⟩
structure StI (J:List BS->World->Prop) (H:List (List UInt8)) (F0:List GFr) (B0 g0 gB dB d l:Nat) (G:GR) (pre:List FR) (preO:List BS) (W:World):Prop where
 j:J preO W
 prf:pre.map FR.dat=F0.take pre.length
 out:preO.map BS.data=H.take (1+pre.length)
 y:Blk W g0 58 #[.func (.yield l) #[] #[]]
 g:Blk W gB 26 #[.slice G.AN G.nN G.cN,.slice G.AR G.nR G.cR]
 p:Blk W dB 77 #[.pointer (some ⟨d,0,none⟩)]
 d:Dig W d (H.take (1+pre.length)).flatten
 rd:RdG W (fun b=>b<B0) G
 n:Nib W
theorem StI.it {J:List BS->World->Prop} {H:List (List UInt8)} {F0:List GFr} {B0 g0 gB dB d l:Nat} {G:GR} {pre:List FR} {preO:List BS} {W W':World} (hJ:AbR TDig g0 J) {m:Nat} (hm:g0<=m) (hB:B0<=g0) (hn:1<B0)
 (h:StI J H F0 B0 g0 gB dB d l G pre preO W) (hu:Upd (ZaD (fun _=>False) m W) W W'):StI J H F0 B0 g0 gB dB d l G pre preO W' :=
 ⟨hJ _ _ _ h.j (hu.mono fun _ _ hs=>hs.mono hm fun _ f=>f.elim),h.prf,h.out,h.y.it hu fun f=>f,h.g.it hu fun f=>f,h.p.it hu fun f=>f,h.d.it hu fun f=>f,h.rd.it hu (by omega),h.n.it hu (by omega)⟩
theorem ZjF (L:List (List UInt8)) (k:Nat):(L.take k).flatten.length<=L.flatten.length:=by
 have h:=congrArg (fun L:List (List UInt8)=>L.flatten.length) (List.take_append_drop k L)
 simp only [List.flatten_append,List.length_append] at h
 omega
theorem ZgZ (g:Zak):(Zaz g).length=1+(frs g).length:=by
 unfold Zaz frs
 simp
 omega
theorem Zix {g:Zak} {i:Nat} {f:GFr} (h:(frs g)[i]?=some f):(Zaz g)[1+i]?=some (Zai f.type f.data):=by
 have e:Zaz g=Zas::(frs g).map fun f=>Zai f.type f.data:=by
  unfold Zaz frs
  simp
  rfl
 rw [e,Nat.add_comm,List.getElem?_cons_succ,List.getElem?_map,h]
 rfl
theorem ZaD.or {U:TypeId->Prop} {B:Nat} {W W1 W2:World} (h1:Upd (ZaD (fun t=>U t\/t=121) B W) W W1) (h2:Upd (ZaD U B W1) W1 W2):Upd (ZaD (fun t=>U t\/t=121) B W) W W2 :=
 ZaD.trans h1 (h2.mono fun _ _ h=>h.mono (Nat.le_refl _) fun _ h=>.inl h)
theorem Zmz {U:TypeId->Prop} (hU:StU U) (w:World) (B0 eB gB:Nat) (g:GR) (e:Int) (hRG:RdG w (fun b=>b<B0) g) (hz:e=0->ZbJ g) (hRt:e=0->Zce g.dat)
 (hEB:Blk w eB 29 #[.int .i64 e]) (hGB:Blk w gB 26 #[.slice g.AN g.nN g.cN,.slice g.AR g.nR g.cR]) (hN:Nib w) (hNB:1<B0) (hB0:B0<=w.heap.size) :
 SeqR TDig Fence.wide 4 Tryz.prog 36 #[.pointer (some ⟨eB,0,none⟩),.pointer (some ⟨gB,0,none⟩)] BS.args (fun _ W W'=>Upd (ZaD U B0 W) W W') (fun pre x W=>PcR (if e=0 then Zba g.dat else []) w.heap.size pre x W/\FzB W x)
  (fun xs=>xs.map BS.data=if e=0 then Zba g.dat else []) (fun pre=>∃ k,pre.map BS.data=(if e=0 then Zba g.dat else []).take k) w:=fun l J Jx W hW hJ hJx hY h0=>by
 have hs0:Same w W:=Same.of_below hW
 obtain ⟨ns,AN,nN,cN,rs,AR,nR,cR⟩:=g
 have HU:=qH hU
 have HRG:=qH (hRG.same hs0)
 have HEB:=qH (hEB.same hs0)
 have HGB:=qH (hGB.same hs0)
 have HN:=qH (hN.same hs0)
 have HZ:=qH hz
 have HJ:=qH hJ
 have HJX:=qH hJx
 have HY:=qH hY
 have HB:Hid (w.heap.size<=W.heap.size):=qH hs0.size
 have HB0:Hid (B0<=W.heap.size):=qH (Nat.le_trans hB0 hs0.size)
 have HRt:=qH hRt
 have s1:=(Upd.refl (fun _=>False) W).alloc (.cells #[.func (.yield l) #[] #[]] 58)
 have HE1:=qH (HEB.out.same s1)
 have HG1:=qH (HGB.out.same s1)
 have HY1:=qH (Blk.new W 58 #[.func (.yield l) #[] #[]])
 have HS1:=qH s1
 have HJ1:=qH (hJ _ _ _ h0 s1.it)
 have hzW:(W.alloc (.cells #[.func (.yield l) #[] #[]] 58)).heap.size=W.heap.size+1:=World.size_alloc _ _
 obtain ⟨L,hL⟩:∃ L,(if e=0 then Zba (GR.dat ⟨ns,AN,nN,cN,rs,AR,nR,cR⟩) else [])=L:=⟨_,rfl⟩
 have HL:=qH hL
 rw [hL] at HY ⊢
 clear hL
 clear hU hRG hEB hGB hN hz hJ hJx hY hRt hs0 hW s1 h0 hB0
 refine callsIn_of_wp_marks Tryz.func36 rfl trivial ?_ rfl
 simp only [Tryz.ntmps36,List.size_toArray,List.length_cons,List.length_nil,Nat.reduceAdd,Nat.reduceSub,Array.replicate_succ,Array.replicate_zero,List.push_toArray,List.append_toArray,List.nil_append,List.cons_append]
 refine wpIn_wide.2 ?_
 go_upto_region 1 with fail
 generalize hWA:W.alloc (.cells #[.func (.yield l) #[] #[]] 58)=WA at *
 have e1:WA.cell? ⟨eB,0,none⟩=some (.int .i64 e):=HE1.out.cell 0
 generalize hg0:W.heap.size=g0 at *
 by_cases he:e=0
 case neg =>
  have nz:(e != 0)=true:=by rw [bne_iff_ne];exact he
  have HL0:Hid (L=[]):=qH (by rw [<- HL.out,if_neg he])
  go_wp2_with fail
  exact ⟨_,results_none rfl _ _ _,⟨_,rfl⟩,.inl ⟨[],HL0.out.symm,HJ1.out⟩⟩
 subst he
 have HRd:=qH (HRt.out rfl)
 replace HZ:=qH (HZ.out rfl)
 have HL1:Hid (Zba (GR.dat ⟨ns,AN,nN,cN,rs,AR,nR,cR⟩)=L):=qH (by rw [<- HL.out,if_pos rfl])
 clear HL
 have kc:=fun (w:World) (C:Array Value) (n c:Nat)=>Lib.run_convert_bytes_const (P:=Tryz.prog) w 28 5 C n c Tryz.underlying28 Tryz.underlying5
 have sA:=(Upd.refl (fun _=>False) WA).alloc (.cells #[.int .u8 83,.int .u8 65,.int .u8 84,.int .u8 67,.int .u8 72,.int .u8 69,.int .u8 76,.int .u8 49] 5 (8,9))
 have hMg:Zaw (WA.alloc (.cells #[.int .u8 83,.int .u8 65,.int .u8 84,.int .u8 67,.int .u8 72,.int .u8 69,.int .u8 76,.int .u8 49] 5 (8,9))) w.heap.size ⟨Zas,some ⟨WA.heap.size,0,none⟩,8,8⟩ :=
  Zaw.lit WA (by have:=HB.out;omega) Zas rfl
 have HZA:=qH hzW
 clear hzW
 obtain ⟨fn,tmps,assign,body,hy,hR⟩:=HY.out [] _ _ (HJ.out _ _ _ HJ1.out sA.it) ⟨⟨by rw [<- HL1.out];rfl,hMg⟩,FzB.lit WA Zas (Nat.le_refl _)⟩
 have hy1:(Instr.yield l #[.slice (some ⟨WA.heap.size,0,none⟩) 8 8]).run Tryz.prog (WA.alloc (.cells #[.int .u8 83,.int .u8 65,.int .u8 84,.int .u8 67,.int .u8 72,.int .u8 69,.int .u8 76,.int .u8 49] 5 (8,9)))=.ok (.round l fn tmps assign body) (WA.alloc (.cells #[.int .u8 83,.int .u8 65,.int .u8 84,.int .u8 67,.int .u8 72,.int .u8 69,.int .u8 76,.int .u8 49] 5 (8,9))):=hy
 have y1:WA.cell? ⟨g0,0,none⟩=some (.func (.yield l) #[] #[]):=HY1.out.cell 0
 have HSA:=qH sA
 clear hy sA hMg
 refine (wpIn_wide (n:=4)).1 ?_
 gi_wp2
 refine hR.mono ?_
 clear hy1 hR
 rintro e W2 ⟨hkf,h⟩
 rcases h with ⟨rfl,hJ2,hk2⟩ | ⟨rfl,hJx2⟩
 case inr =>
  gi_wp2
  go_wp2_with fail
  exact ⟨_,results_none rfl _ _ _,⟨_,rfl⟩,.inr ⟨_,⟨1,by rw [<- HL1.out];rfl⟩,hJx2⟩⟩
 have HJ2:=qH hJ2
 have HK2:Hid (Upd (ZaD U B0 WA) WA W2):=qH (HSA.out.it.trans hk2 fun b hb hs=>by
  obtain ⟨h1,o,h2,h3⟩:=hs
  exact ⟨h1,o,by rw [<- HSA.out.block b hb fun f=>f];exact h2,h3⟩)
 have HY2:=qH (HY1.out.it HK2.out HU.out.y)
 have HG2:=qH (HG1.out.it HK2.out HU.out.g)
 have HR2:=qH ((HRG.out.same HS1.out).it HK2.out (Nat.le_refl _))
 have HN2:=qH ((HN.out.same HS1.out).it HK2.out hNB)
 have HZ2:=qH (show g0<W2.heap.size by have:=HK2.out.size;have:=HZA.out;omega)
 clear hJ2 hk2 hkf y1
 gi_wp2
 go_wp2_with fail
 refine (Zgx W2).mono ?_
 rintro e W3 ⟨d,rfl,hD3,hd3,hs3⟩
 have s4:=hs3.alloc (.cells #[.pointer (some ⟨d,0,none⟩)] 77)
 have HP4:=qH (Blk.new W3 77 #[.pointer (some ⟨d,0,none⟩)])
 have HD4:=qH (show Dig _ d [] from Blk.alloc hD3 (.cells #[.pointer (some ⟨d,0,none⟩)] 77))
 have HY4:=qH (HY2.out.same s4)
 have HG4:=qH (HG2.out.same s4)
 have HR4:=qH (HR2.out.same s4)
 have HN4:=qH (HN2.out.same s4)
 have HS4:=qH s4
 have HdB:Hid (g0<d/\d<W3.heap.size):=qH ⟨by rw [hd3];exact HZ2.out,hD3.lt⟩
 have HZ4:=qH (show W3.heap.size<(W3.alloc (.cells #[.pointer (some ⟨d,0,none⟩)] 77)).heap.size by rw [World.size_alloc];omega)
 have HJ4:=qH (HJ.out _ _ _ HJ2.out s4.it)
 clear hD3 hd3 hs3 s4
 go_upto_region 3 with fail
 generalize W3.alloc (.cells #[.pointer (some ⟨d,0,none⟩)] 77)=W4 at *
 generalize W3.heap.size=dB at *
 have sB:=(Upd.refl (fun _=>False) W4).alloc (.cells #[.int .u8 83,.int .u8 65,.int .u8 84,.int .u8 67,.int .u8 72,.int .u8 69,.int .u8 76,.int .u8 49] 5 (8,9))
 have hMg4:Zaw (W4.alloc (.cells #[.int .u8 83,.int .u8 65,.int .u8 84,.int .u8 67,.int .u8 72,.int .u8 69,.int .u8 76,.int .u8 49] 5 (8,9))) 0 ⟨Zas,some ⟨W4.heap.size,0,none⟩,8,8⟩ :=
  Zaw.lit W4 (Nat.zero_le _) Zas rfl
 have HMg4:=qH hMg4
 have HSB:=qH sB
 clear sB hMg4
 have p4:W4.cell? ⟨dB,0,none⟩=some (.pointer (some ⟨d,0,none⟩)):=HP4.out.cell 0
 go_wp2_with fail
 refine (ZaU _ (Blk.same HD4.out HSB.out) HMg4.out (HN4.out.same HSB.out) (by simp)).mono ?_
 rintro e W5 ⟨rfl,hd5,hu5⟩
 have HU5:=qH (show Upd (fun b=>b=d) W4 W5 from (HSB.out.mono fun _ _ f=>f.elim).trans hu5 fun _ _ h=>h)
 have HD5:Hid (Dig W5 d Zas):=qH hd5
 have hg5:W5.cell? ⟨gB,0,none⟩=some (.slice AN nN cN):=(HG4.out.upd HU5.out fun e=>by subst e;exact absurd (OfT.ne (w:=W4) ⟨_,HG4.out⟩ ⟨_,HD4.out⟩) (by decide)).cell 0
 have hg51:W5.cell? ⟨gB,1,none⟩=some (.slice AR nR cR):=(HG4.out.upd HU5.out fun e=>by subst e;exact absurd (OfT.ne (w:=W4) ⟨_,HG4.out⟩ ⟨_,HD4.out⟩) (by decide)).cell 1
 clear hd5 hu5 p4
 go_wp2_with fail
 refine (ZjE W5 ⟨ns,AN,nN,cN,rs,AR,nR,cR⟩).mono ?_
 rintro e W6 ⟨rfl,hw6⟩
 clear hg5 hg51
 have hs6:Same W5 W6:=by rw [hw6];exact (Upd.refl _ W5).alloc _
 have HB6:Hid (Blk W6 W5.heap.size 26 #[.slice AN nN cN,.slice AR nR cR]):=qH (by rw [hw6];exact Blk.new W5 _ _)
 have HU6:Hid (Upd (fun b=>b=d) W4 W6):=qH (HU5.out.same hs6)
 have hdne:∀ {b:Nat} {t:TypeId} {cs:Array Value},Blk W4 b t cs->t≠121->¬ b=d:=fun hb ht e=>ht (by subst e;exact OfT.ne (w:=W4) ⟨_,hb⟩ ⟨_,HD4.out⟩)
 have HI0:Hid (StI J (Zaz (GR.dat ⟨ns,AN,nN,cN,rs,AR,nR,cR⟩)) (frs (GR.dat ⟨ns,AN,nN,cN,rs,AR,nR,cR⟩)) B0 g0 gB dB d l ⟨ns,AN,nN,cN,rs,AR,nR,cR⟩ [] [⟨Zas,some ⟨WA.heap.size,0,none⟩,8,8⟩] W6):=qH
  ⟨HJ.out _ _ _ HJ4.out (HU6.out.mono fun b hb e=>by subst e;exact OfT.itSet ⟨_,HD4.out⟩ (by have:=HdB.out;omega) rfl),rfl,rfl,HY4.out.upd HU6.out (hdne HY4.out (by decide)),HG4.out.upd HU6.out (hdne HG4.out (by decide)),HP4.out.upd HU6.out (hdne HP4.out (by decide)),
   (by have h9:=Blk.same HD5.out hs6;show Dig W6 d (Zas++[]);rw [List.append_nil];exact h9),HR4.out.upd HU6.out (fun b hb e=>by have:=HdB.out;have:=HB0.out;omega),HN4.out.upd HU6.out (by have:=HdB.out;have:=HB0.out;omega)⟩
 have HZ6:Hid (g0<W6.heap.size):=qH (by have:=HU6.out.size;have:=HZ4.out;have:=HdB.out;omega)
 have HR6:=qH HI0.out.rd
 have HdM:Hid (d<W6.heap.size/\g0<d):=qH ⟨HI0.out.d.lt,HdB.out.1⟩
 have HLN:Hid (nN<=4294967295/\nR<=4294967295):=qH ⟨by have h1:=HRd.out.nN;have h2:ns.length=nN:=HR6.out.nodes.len;simp only [GR.dat,List.length_map] at h1;omega,by have h1:=HRd.out.nR;have h2:rs.length=nR:=HR6.out.rels.len;simp only [GR.dat,List.length_map] at h1;omega⟩
 generalize WA.heap.size=zA at *
 generalize W4.heap.size=z4 at *
 generalize W5.heap.size=z5 at *
 clear hw6 hs6 hdne HU6 HU5 HD5 HN4 HR4 HG4 HY4 HD4 HP4 HJ4 HS4 HMg4 HSB HJ2 HY2 HG2 HR2 HN2 HZ2 HK2
 go_wp2_with fail
 refine (wpIn_wide (n:=4)).1 ?_
 generalize hm:W6.heap.size=m at *
 refine Zcs (T:=fun _=>False) (n:=4) rfl (by omega) (gf:=74) (lb:=#[.pointer (some ⟨z5,0,none⟩)]) rfl trivial (enters_of Tryz.func74 (by kernel_rfl) rfl)
  (Zmx 3 (by omega) W6 B0 z5 ⟨ns,AN,nN,cN,rs,AR,nR,cR⟩ HR6.out HRd.out HZ.out HB6.out (fun t=>U t\/t=121) (fun h=>h.elim HU.out.g (by decide)))
  ZaD.trans (fun x W l o o' hl ho hc=>(Upd.refl _ W).grown (grownBy_putObj' W l o') fun k e=>.inl (by cases e;exact ZaD.nc ho hc (by have:=HB0.out;have:=HZ6.out;omega))) (Below.refl _ _) (fun _=>rfl)
  (fun pre W=>∃ preO,StI J (Zaz (GR.dat ⟨ns,AN,nN,cN,rs,AR,nR,cR⟩)) (frs (GR.dat ⟨ns,AN,nN,cN,rs,AR,nR,cR⟩)) B0 g0 gB dB d l ⟨ns,AN,nN,cN,rs,AR,nR,cR⟩ pre preO W)
  (fun c _ W=>c=.ret/\∃ preO k,preO.map BS.data=L.take k/\Jx preO W)
  (fun pre W W' ⟨preO,h⟩ hu=>⟨preO,h.it HJ.out (Nat.le_of_lt HZ6.out) HB0.out hNB (hm ▸ hu)⟩)
  (fun c pre W W' ⟨h1,preO,k,h2,h3⟩ hu=>⟨h1,preO,k,h2,HJX.out _ _ _ h3 (hu.mono fun _ _ hs=>hs.mono (by have:=HZ6.out;omega) fun _ f=>f.elim)⟩)
  ⟨_,HI0.out⟩
  (fun pre x a' W=>∃ fb,a'={ tmps:=#[.func (.yield l) #[] #[],.pointer (some ⟨eB,0,none⟩),.pointer (some ⟨gB,0,none⟩),.pointer (some ⟨g0,0,none⟩),.pointer (some ⟨dB,0,none⟩),.pointer (some ⟨fb,0,none⟩),undef,undef,undef,undef,.int .i64 0,.bool false,.bool false,.func (.yield l) #[] #[],.slice (some ⟨zA,0,none⟩) 8 8,.slice (some ⟨zA,0,none⟩) 8 8,.bool true,.bool false,.bool false,.pointer (some ⟨d,0,none⟩),.pointer (some ⟨d,0,none⟩),.slice (some ⟨z4,0,none⟩) 8 8,.slice (some ⟨z4,0,none⟩) 8 8,.tuple #[],.agg #[.slice AN nN cN,.slice AR nR cR],.func (.func 74) #[] #[.pointer (some ⟨z5,0,none⟩)],.agg #[.int .i64 (x.type:Int),.slice x.A x.n x.c],undef,undef,undef,undef,undef,undef,undef,undef,undef,undef,undef,undef,undef,undef,undef,undef,undef,undef,undef,undef,undef,undef,undef,undef],defers:=[] }/\Blk W fb 84 #[.int .i64 (x.type:Int),.slice x.A x.n x.c]/\FrAt (frs (GR.dat ⟨ns,AN,nN,cN,rs,AR,nR,cR⟩)) pre x W)
  (fun pre x a' W l o o' hl ho hc ⟨fb,h1,h2,h3⟩=>by
    have hu:=(Upd.refl (ZaD (fun _=>False) 0 W) W).grown (grownBy_putObj' W l o') fun k e=>.inl (by injection e with e;subst e;exact ZaD.nc ho hc (Nat.zero_le _))
    exact ⟨fb,h1,h2.it hu fun f=>f,h3.at_,(Row.upd h3.row hu fun b ⟨_,_,_,_,h1⟩ hs=>hs.cells h1).mono fun b _ hb=>hb.upd hu fun hs=>by obtain ⟨_,_,_,_,h1⟩:=hb;exact hs.cells h1,h3.type,h3.le⟩) ?assign ?body ?done ?stop
 case assign =>
  rintro l' pre x W9 K ⟨preO,hi⟩ hr hK
  dsimp only [FR.args]
  gi_wp2
  have s9:=(Upd.refl (fun _=>False) W9).alloc (.cells #[.int .i64 (x.type:Int),.slice x.A x.n x.c] 84)
  exact hK _ _ (ZcP s9 fun _ f=>f.elim) s9.it ⟨preO,hi.it HJ.out (Nat.le_of_lt HZ6.out) HB0.out hNB s9.it⟩ ⟨_,rfl,Blk.new W9 _ _,hr.at_,(Row.same hr.row s9).mono fun b _ hb=>hb.upd s9 fun f=>f,hr.type,hr.le⟩
 case body =>
  rintro l' pre x a' Wb hl hlo ⟨preO,HI⟩ ⟨fb,rfl,hX,hF⟩
  have hR0:=hF.row
  have HX:=qH hX
  have HF:=qH hF
  have HI:=qH HI
  obtain ⟨xt,xd,xA,xn,xc⟩:=x
  simp only at hR0
  have hty:xt<=255:=hF.type
  have hle:xn<=1048576:=hF.le
  have hxl:xd.length=xn:=Bytes.len hR0
  have HPL:=qH (show (Zai xt xd).length=xn+9 by rw [ZaE,hxl])
  have HA:=qH (hF.at_)
  have HC:=qH (ZbT Wb xt hty hR0 hle HI.out.n)
  have a0:Wb.cell? ⟨fb,0,none⟩=some (.int .i64 (xt:Int)):=hX.cell 0
  have a1:Wb.cell? ⟨fb,1,none⟩=some (.slice xA xn xc):=hX.cell 1
  clear hF hR0 hX hxl
  have hall:((Zaz (GR.dat ⟨ns,AN,nN,cN,rs,AR,nR,cR⟩)).take (1+pre.length)).flatten.length+(xn+9)<=9223372036854775807:=by
   have h1:=HRd.out.head_len
   have h2:=ZjF (Zaz (GR.dat ⟨ns,AN,nN,cN,rs,AR,nR,cR⟩)) (1+pre.length)
   omega
  gi_wp2_with (refine ⟨trivial,?_⟩;gi_at_call 40;refine (CallsIn.inRound l' (callsIn_wide.2 HC.out)).mono ?_;rintro e5 w5 ⟨v5,rfl,hO5,hs5⟩;obtain ⟨A5,c5,rfl⟩:=Zac hO5.out;rw [HPL.out] at hO5 ⊢;have HO5:=hO5;have HS5:=qH hs5;have p5:w5.cell? ⟨dB,0,none⟩=some (.pointer (some ⟨d,0,none⟩)):=(HI.out.p.same hs5).cell 0;clear hO5 hs5)
  refine ⟨trivial,?_⟩
  refine (CallsIn.inRound l' (callsIn_wide.2 (ZaU w5 (Blk.same HI.out.d HS5.out) (Zau HPL.out HO5.out) (HI.out.n.same HS5.out) hall))).mono ?_
  rintro e6 w6 ⟨rfl,hd6,hu6⟩
  have HU6:=qH (show Upd (fun b=>b=d) Wb w6 from (HS5.out.mono fun _ _ f=>f.elim).trans hu6 fun _ _ h=>h)
  have hdne:∀ {b:Nat} {t:TypeId} {cs:Array Value},Blk Wb b t cs->t≠121->¬ b=d:=fun hb ht e=>ht (by subst e;exact OfT.ne (w:=Wb) ⟨_,hb⟩ ⟨_,HI.out.d⟩)
  have y6:w6.cell? ⟨g0,0,none⟩=some (.func (.yield l) #[] #[]):=(HI.out.y.upd HU6.out (hdne HI.out.y (by decide))).cell 0
  have HD6:=qH hd6
  have hP6:Zaw w6 w.heap.size ⟨Zai xt xd,A5,xn+9,c5⟩:=((Zaw.of HO5.out HPL.out).base (by have:=HB.out;have:=HZ6.out;have:=HI.out.d.lt;have:=HdM.out;omega)).upd hu6 fun b hb e=>by
   subst e
   exact absurd (hb.ne ⟨_,Blk.same HI.out.d HS5.out⟩) (by decide)
  have HLP:Hid (1+pre.length<(Zaz (GR.dat ⟨ns,AN,nN,cN,rs,AR,nR,cR⟩)).length):=qH (by rw [ZgZ];have:=(List.getElem?_eq_some_iff.1 HA.out).1;omega)
  have hpl:preO.length=1+pre.length:=ZkF HI.out.out (Nat.le_of_lt HLP.out)
  have hat:L[preO.length]?=some (Zai xt xd):=by
   rw [<- HL1.out,hpl]
   unfold Zba
   rw [List.getElem?_append_left HLP.out]
   exact Zix HA.out
  have HIS:Hid (Upd (ZaD (fun t=>U t\/t=121) B0 Wb) Wb w6):=qH (HU6.out.mono fun b hb e=>by subst e;exact OfT.itSet ⟨_,HI.out.d⟩ (by have:=HdM.out;have:=HB0.out;omega) (.inr rfl))
  obtain ⟨fn,tmps,assign,body,hy,hR⟩:=YieldAt.inRound l' (YieldAt.deep (F:=Fence.wide) rfl (m:=3) 1 (HY.out preO ⟨Zai xt xd,A5,xn+9,c5⟩ w6 (HJ.out _ _ _ HI.out.j (HU6.out.mono fun b hb e=>by subst e;exact OfT.itSet ⟨_,HI.out.d⟩ (by have:=HdM.out;omega) rfl)) ⟨⟨hat,hP6⟩,(FzB.of HO5.out).upd hu6 (Zqz (Blk.same HI.out.d HS5.out))⟩))
  have hy1:(Instr.yield l #[.slice A5 (xn+9) c5]).run Tryz.prog w6=.ok (.round l fn tmps assign body) w6:=hy
  clear hy hP6
  gi_wp2
  refine hR.mono ?_
  clear hy1 hR
  rintro e W7 ⟨hkf,h⟩
  have hkF:KeepsFrom W6.heap.size Wb W7:=by
   rw [hm]
   exact (ZcP HU6.out fun k hk _ o ho=>by subst hk;exact OfT.cells ⟨_,HI.out.d⟩ ho).trans ⟨hkf.size,fun k o hk=>hkf.same k o (by have:=HZ6.out;omega)⟩
  have HPO:Hid ((preO++[(⟨Zai xt xd,A5,xn+9,c5⟩:BS)]).map BS.data=(Zaz (GR.dat ⟨ns,AN,nN,cN,rs,AR,nR,cR⟩)).take (1+pre.length+1)):=qH (Zfm (f:=BS.data) HI.out.out (Zix HA.out))
  rcases h with ⟨rfl,hJ7,hk7⟩ | ⟨rfl,hJx7⟩
  case inr =>
   gi_wp2
   refine ⟨hkF,rfl,_,1+pre.length+1,?_,hJx7⟩
   rw [HPO.out,<-HL1.out]
   unfold Zba
   rw [List.take_append_of_le_length (by have:=HLP.out;omega)]
  gi_wp2
  have hl1:(pre++[(⟨xt,xd,xA,xn,xc⟩:FR)]).length=pre.length+1:=by simp
  have e1:1+(pre.length+1)=1+pre.length+1:=by omega
  have h6:Upd (ZaD (fun t=>U t\/t=121) B0 Wb) Wb W7:=ZaD.or HIS.out hk7
  have hd7:Dig w6 d ((Zaz (GR.dat ⟨ns,AN,nN,cN,rs,AR,nR,cR⟩)).take (1+pre.length+1)).flatten:=by
   have e2:((Zaz (GR.dat ⟨ns,AN,nN,cN,rs,AR,nR,cR⟩)).take (1+pre.length+1)).flatten=((Zaz (GR.dat ⟨ns,AN,nN,cN,rs,AR,nR,cR⟩)).take (1+pre.length)).flatten++Zai xt xd:=by
    rw [List.take_add_one,List.flatten_append,show (Zaz (GR.dat ⟨ns,AN,nN,cN,rs,AR,nR,cR⟩))[1+pre.length]?=some (Zai xt xd) from Zix HA.out]
    simp
   rw [e2]
   exact HD6.out
  refine ⟨hkF,h6,_,hJ7,?_,?_,?_,?_,?_,?_,?_,?_⟩
  · rw [hl1];exact Zfm (f:=FR.dat) HI.out.prf HA.out
  · rw [hl1,e1];exact HPO.out
  · exact (HI.out.y.upd HU6.out (hdne HI.out.y (by decide))).it hk7 HU.out.y
  · exact (HI.out.g.upd HU6.out (hdne HI.out.g (by decide))).it hk7 HU.out.g
  · exact (HI.out.p.upd HU6.out (hdne HI.out.p (by decide))).it hk7 HU.out.p
  · rw [hl1,e1];exact Dig.it hd7 hk7 HU.out.d
  · exact HI.out.rd.it h6 (Nat.le_refl _)
  exact HI.out.n.it h6 hNB
 case done =>
  rintro D xs Wd hD hS ⟨preO,HI⟩ hK
  have HI:=qH HI
  have hxl:xs.length=(frs (GR.dat ⟨ns,AN,nN,cN,rs,AR,nR,cR⟩)).length:=by rw [<- hS,List.length_map]
  obtain ⟨all,hall⟩:∃ all,(Zaz (GR.dat ⟨ns,AN,nN,cN,rs,AR,nR,cR⟩)).flatten=all:=⟨_,rfl⟩
  have hta:(Zaz (GR.dat ⟨ns,AN,nN,cN,rs,AR,nR,cR⟩)).take (1+xs.length)=Zaz (GR.dat ⟨ns,AN,nN,cN,rs,AR,nR,cR⟩):=List.take_of_length_le (by rw [ZgZ,hxl];exact Nat.le_refl _)
  have HD:Hid (Dig Wd d all):=qH (by have h9:=HI.out.d;rw [hta,hall] at h9;exact h9)
  have HPO:Hid (preO.map BS.data=Zaz (GR.dat ⟨ns,AN,nN,cN,rs,AR,nR,cR⟩)):=qH (by rw [HI.out.out,hta])
  have HK:=qH hK
  clear hxl hta hS
  gi_wp2_with fail
  have s0:Same Wd Wd.drew:=(Upd.refl _ Wd).drew
  have HCT:=qH (fun wx (hs:Same Wd wx)=>ZcV wx ⟨ns,AN,nN,cN,rs,AR,nR,cR⟩ (HI.out.rd.same hs) HZ.out.fit rfl (by have:=HRd.out.wt;omega) (by have:=HLN.out;simp only;omega) (by have:=HLN.out;simp only;omega) all)
  have hKeep:Hid (∀ wx,Same Wd wx->wx.cell? ⟨gB,0,none⟩=some (.slice AN nN cN)/\wx.cell? ⟨gB,1,none⟩=some (.slice AR nR cR)/\wx.cell? ⟨dB,0,none⟩=some (.pointer (some ⟨d,0,none⟩))):=qH fun wx hs=>⟨(HI.out.g.same hs).cell 0,(HI.out.g.same hs).cell 1,(HI.out.p.same hs).cell 0⟩
  go_upto_region 9 with fail
  refine wp_region_noPanic ?_
  refine ZaX 10 (fun wx=>wx.cell? ⟨gB,0,none⟩=some (.slice AN nN cN)/\wx.cell? ⟨gB,1,none⟩=some (.slice AR nR cR)/\wx.cell? ⟨dB,0,none⟩=some (.pointer (some ⟨d,0,none⟩))) (by kernel_rfl) (hKeep.out _ s0) (fun hHeld=>?_)
  refine ESt.take (i:=0) (v:=?_) (by decide +kernel) rfl (by decide +kernel) (fun _ _ _ h=>h) (Or.inl ⟨by rfl,?_⟩) (by assumption) ?_
  rotate_left
  · intro wx hSw
    obtain ⟨h0,h1,h2⟩:=hSw
    go_simp
    try with_reducible rfl
  simp only [Act.put]
  refine ESt.take (i:=1) (v:=?_) (by decide +kernel) rfl (by decide +kernel) (fun _ _ _ h=>h) (Or.inl ⟨by rfl,?_⟩) (by assumption) ?_
  rotate_left
  · intro wx hSw
    obtain ⟨h0,h1,h2⟩:=hSw
    go_simp
    try with_reducible rfl
  simp only [Act.put]
  refine ESt.branch (rs:=[2]) (by decide +kernel) (by decide +kernel) ?_
  refine AllE.cons rfl (fun K hK=>?_) AllE.nil
  go_simp
  refine (Zej _ (Blk.same HD.out s0)).mono ?_
  rintro e w1 ⟨rfl,rfl⟩
  go_wp2_with fail
  refine hK.out _ _ (hKeep.out _ s0) (fun hHeld=>?_)
  clear hK K
  refine ESt.branch (rs:=[3]) (by decide +kernel) (by decide +kernel) ?_
  refine AllE.cons rfl (fun K hK=>?_) AllE.nil
  go_simp
  refine (HCT.out _ s0).mono ?_
  rintro e w2 ⟨v2,rfl,hO2,hs2⟩
  obtain ⟨A2,c2,rfl⟩:=Zac hO2.out
  have HS2:=qH (s0.trans hs2 fun _ _ f=>f)
  have HO2:=hO2
  clear hO2 hs2
  rw [ZbH] at HO2 ⊢
  go_wp2_with fail
  refine hK.out _ _ (hKeep.out _ HS2.out) (fun hHeld=>?_)
  clear hK K
  refine ESt.take (i:=4) (v:=?_) (by decide +kernel) rfl (by decide +kernel) (fun _ _ _ h=>h) (Or.inl ⟨by rfl,?_⟩) (by assumption) ?_
  rotate_left
  · intro wx hSw
    obtain ⟨h0,h1,h2⟩:=hSw
    go_simp
    try with_reducible rfl
  simp only [Act.put]
  refine ESt.branch (rs:=[5]) (by decide +kernel) (by decide +kernel) ?_
  refine AllE.cons rfl (fun K hK=>?_) AllE.nil
  go_simp
  refine (ZbT w2 4 (by omega) (Zau (ZbH _ _ _ _) HO2.out) (by omega) (HI.out.n.same HS2.out)).mono ?_
  rintro e w3 ⟨v3,rfl,HO3,hs3⟩
  obtain ⟨A3,c3,rfl⟩:=Zac HO3.out
  have HS3:=qH (HS2.out.trans hs3 fun _ _ f=>f)
  clear hs3
  rw [show (Zai 4 (ZaY nN nR (GR.dat ⟨ns,AN,nN,cN,rs,AR,nR,cR⟩).wt all)).length=25 by rw [ZaE,ZbH]] at HO3 ⊢
  go_wp2_with fail
  refine hK.out _ _ (hKeep.out _ HS3.out) (fun hHeld=>?_)
  clear hK K
  refine ESt.take (i:=6) (v:=?_) (by decide +kernel) rfl (by decide +kernel) (fun _ _ _ h=>h) (Or.inl ⟨by rfl,?_⟩) (by assumption) ?_
  rotate_left
  · intro wx hSw
    obtain ⟨h0,h1,h2⟩:=hSw
    go_simp
    try with_reducible rfl
  simp only [Act.put]
  refine ESt.take (i:=7) (v:=?_) (by decide +kernel) rfl (by decide +kernel) (fun _ _ _ h=>h) (Or.inl ⟨by rfl,?_⟩) (by assumption) ?_
  rotate_left
  · intro wx hSw
    obtain ⟨h0,h1,h2⟩:=hSw
    go_simp
    try with_reducible rfl
  simp only [Act.put]
  refine ESt.take (i:=8) (v:=?_) (by decide +kernel) rfl (by decide +kernel) (fun _ _ _ h=>h) (Or.inl ⟨by rfl,?_⟩) (by assumption) ?_
  rotate_left
  · intro wx hSw
    obtain ⟨h0,h1,h2⟩:=hSw
    go_simp
    try with_reducible rfl
  simp only [Act.put]
  refine ESt.take (i:=9) (v:=?_) (by decide +kernel) rfl (by decide +kernel) (fun _ _ _ h=>h) (Or.inl ⟨by rfl,?_⟩) (by assumption) ?_
  rotate_left
  · intro wx hSw
    obtain ⟨h0,h1,h2⟩:=hSw
    go_simp
    try with_reducible rfl
  simp only [Act.put]
  refine ESt.last (by decide +kernel) (by decide +kernel) rfl (fun K hK=>?_) _
  go_simp
  refine hK.out _ _ ?_
  clear hK K hHeld
  refine NoPanic.normal ?_
  have hln:ns.length=nN:=HR6.out.nodes.len
  have hlr:rs.length=nR:=HR6.out.rels.len
  have hPT:Zai 4 (ZaY nN nR (GR.dat ⟨ns,AN,nN,cN,rs,AR,nR,cR⟩).wt all)=ZbO (GR.dat ⟨ns,AN,nN,cN,rs,AR,nR,cR⟩):=by
   unfold ZbO
   rw [hall]
   simp [GR.dat,hln,hlr]
  have HO4:Hid (OwnB w3 w2.heap.size (.slice A3 25 c3) (ZbO (GR.dat ⟨ns,AN,nN,cN,rs,AR,nR,cR⟩))):=qH (by rw [<- hPT];exact HO3.out)
  have HLP:Hid (preO.length=(Zaz (GR.dat ⟨ns,AN,nN,cN,rs,AR,nR,cR⟩)).length):=qH (by rw [<- HPO.out,List.length_map])
  have hat:L[preO.length]?=some (ZbO (GR.dat ⟨ns,AN,nN,cN,rs,AR,nR,cR⟩)):=by
   rw [<- HL1.out,HLP.out]
   unfold Zba
   rw [List.getElem?_append_right (Nat.le_refl _),Nat.sub_self]
   rfl
  have hsz2:=HS2.out.size
  have hP3:Zaw w3 w.heap.size ⟨ZbO (GR.dat ⟨ns,AN,nN,cN,rs,AR,nR,cR⟩),A3,25,c3⟩:=(Zaw.of HO4.out (Zcr _)).base (by have:=HB.out;have:=HZ6.out;have:=HI.out.d.lt;have:=HdM.out;omega)
  obtain ⟨fn,tmps,assign,body,hy,hR⟩:=HY.out preO ⟨ZbO (GR.dat ⟨ns,AN,nN,cN,rs,AR,nR,cR⟩),A3,25,c3⟩ w3 (HJ.out _ _ _ HI.out.j HS3.out.it) ⟨⟨hat,hP3⟩,FzB.of HO4.out⟩
  have hy1:(Instr.yield l #[.slice A3 25 c3]).run Tryz.prog w3=.ok (.round l fn tmps assign body) w3:=hy
  have y3:w3.cell? ⟨g0,0,none⟩=some (.func (.yield l) #[] #[]):=(HI.out.y.same HS3.out).cell 0
  clear hy hP3 hat hPT hln hlr HO3
  gi_wp2_with fail
  refine (wpIn_wide (n:=4)).1 ?_
  gi_wp2
  refine hR.mono ?_
  clear hy1 hR y3
  rintro e W7 ⟨hkf,h⟩
  have hgD:g0<=D:=by have:=HZ6.out;omega
  have hK3:w3.heap[D]?=some (.deferred (some [])):=(HS3.out.block D (Array.getElem?_eq_some_iff.1 HK.out).1 fun f=>f).trans HK.out
  have hK7:W7.heap[D]?=some (.deferred (some [])):=hkf.same D _ hgD hK3 rfl
  have hu:=(Upd.refl (ZaD TDig g0 W7) W7).grown (grownBy_putObj' W7 D (.deferred none)) fun k e=>.inl (by cases e;exact ZaD.nc hK7 rfl hgD)
  have hAll:(preO++[(⟨ZbO (GR.dat ⟨ns,AN,nN,cN,rs,AR,nR,cR⟩),A3,25,c3⟩:BS)]).map BS.data=L:=by
   rw [List.map_append,HPO.out,<-HL1.out]
   rfl
  rcases h with ⟨rfl,hJ7,hk7⟩ | ⟨rfl,hJx7⟩
  · gi_wp2
    refine ⟨by simp,.inl ⟨_,_,rfl,run_takeDeferred hK7,?_⟩⟩
    exact ⟨_,results_none rfl _ _ _,⟨_,rfl⟩,.inl ⟨_,hAll,HJ.out _ _ _ hJ7 hu⟩⟩
  gi_wp2
  refine ⟨by simp,.inl ⟨_,_,rfl,run_takeDeferred hK7,?_⟩⟩
  exact ⟨_,results_none rfl _ _ _,⟨_,rfl⟩,.inr ⟨_,⟨L.length,by rw [hAll,List.take_length]⟩,HJX.out _ _ _ hJx7 hu⟩⟩
 rintro D c pre Wd hD hSp ⟨rfl,preO,k,h2,h3⟩ hK
 gi_wp2
 refine ⟨by simp,.inl ⟨_,_,rfl,run_takeDeferred hK,?_⟩⟩
 have hu:=(Upd.refl (ZaD TDig g0 Wd) Wd).grown (grownBy_putObj' Wd D (.deferred none)) fun k e=>.inl (by cases e;exact ZaD.nc hK rfl (by have:=HZ6.out;omega))
 exact ⟨_,results_none rfl _ _ _,⟨_,rfl⟩,.inr ⟨preO,⟨k,h2⟩,HJX.out _ _ _ h3 hu⟩⟩
theorem SeqR.weak {α:Type} {T:TypeId->Prop} {F:Fence} {n:Nat} {P:Program} {g:Nat} {lb:Array Value} {encs:α->Array Value} {Kp:α->World->World->Prop} {R R':List α->α->World->Prop} {S Sp:List α->Prop} {w:World}
 (h:SeqR T F n P g lb encs Kp R S Sp w) (hR:∀ pre x W,R pre x W->R' pre x W):SeqR T F n P g lb encs Kp R' S Sp w:=fun l J Jx W h1 h2 h3 hY h0=>h l J Jx W h1 h2 h3 (fun pre x W1 hj hr=>hY pre x W1 hj (hR _ _ _ hr)) h0
end Go.Proofs.YtkopcinhbjimiaaGreatDoor
