/- Texts that the claim leans on: walks and plain laws, function by function. -/
import Derived.Test.YtkopcinhbjimiaaGreatDoorK31
import Derived.Test.YtkopcinhbjimiaaGreatDoorK32
import Derived.Test.YtkopcinhbjimiaaGreatDoorK33
import Derived.Test.YtkopcinhbjimiaaGreatDoorK11
import Derived.Test.YtkopcinhbjimiaaGreatDoorJoinL
import Derived.Test.YtkopcinhbjimiaaGreatDoorK01
set_option maxRecDepth 100000
set_option maxHeartbeats 16000000
namespace Go.Proofs.YtkopcinhbjimiaaGreatDoor
open Go.RowKit
noncomputable def namesC (g:GGraph):Int->List ByteArray:=Classical.choose (srt_all (allNames g))
theorem namesC_srt (g:GGraph):∀ k,Srt (allNames g k) (namesC g k):=Classical.choose_spec (srt_all (allNames g))
noncomputable def chkP (g:GGraph):Int×Nat:=fullErr g (tailErr (namesC g 1).length (namesC g 2).length (namesC g 3).length g.wt)
theorem gcheckD_spec {F:Nat->Prop} (w:World) (g:GR) (h:RdG w F g) (hz:GSized g) {e:Int} {at_:Nat} (hE:chkP g.dat=(e,at_)) :
 Calls Tryz.prog 29 #[g.agg] w fun x w'=>x=.returned (.tuple #[.int .i64 e,.int .i64 at_])/\Same w w' :=
 gcheck_full w g h hz.fit hz.texts (namesC_srt g.dat) (by rw [<- wt_dat]) hE
theorem rcheckD_spec {F:Nat->Prop} (w:World) (g:GR) (h:RdG w F g) (hz:GSized g) {e:Int} {at_:Nat} (hE:chkP g.dat=(e,at_)) :
 Calls Tryz.prog 27 #[g.agg] w fun x w'=>x=.returned (.tuple #[.int .i64 e,.int .i64 at_])/\Same w w' :=
 rcheckG_spec w g h hz.fit (namesC_srt g.dat) (fun hh=>head_names hh) (fun hh=>head_weight hh) (by rw [<- wt_dat]) hE
theorem chkP_zero {g:GGraph} (h:(chkP g).1=0):headErr g=none/\g.wt<=262144:=by
 have h1:headErr g=none:=full_zeroS (g:=g) (tl:=tailErr (namesC g 1).length (namesC g 2).length (namesC g 3).length g.wt) (at_:=(chkP g).2) (Prod.ext h rfl)
 refine ⟨h1,?_⟩
 unfold chkP fullErr at h
 rw [h1] at h
 simp only at h
 unfold tailErr at h
 split at h
 · cases h
 split at h
 · cases h
 omega
theorem chkP_right {g:GGraph} (h:(chkP g).1=0) (hf:GFits g):RightD g/\canonD g=g:=by
 obtain ⟨h1,h2⟩:=chkP_zero h
 exact ⟨right_of h1 h2 hf,(right_canon h1).1⟩
theorem rd_fits {w:World} {F:Nat->Prop} {g:GR} (h:RdG w F g):GFits g.dat:=by
 have key:∀ (ps:List PR) (A:Option Addr) (n c:Nat),RdPs w F A n c ps->∀ p∈ps.map PR.dat,p.val.Fits:=fun ps A n c hp p hm=>by
  obtain ⟨x,hx,rfl⟩:=List.mem_map.1 hm
  have hv:=hp.val x hx
  exact ⟨hv.kind,hv.num,hv.range⟩
 refine ⟨fun x hx p hp=>?_,fun x hx p hp=>?_⟩
 · obtain ⟨y,hy,rfl⟩:=List.mem_map.1 hx
   exact key _ _ _ _ (h.nodes.pro y hy) p hp
 obtain ⟨y,hy,rfl⟩:=List.mem_map.1 hx
 exact key _ _ _ _ (h.rels.pro y hy) p hp
theorem psW_le_prs:∀ l:List GPr,psW l<=(l.flatMap encPr).length
 | []=>by simp [psW]
 | p::l=>by
   have h:=psW_le_prs l
   rw [psW_cons,List.flatMap_cons,List.length_append]
   have e:(enc p.val).length<=(encPr p).length:=by
    unfold encPr
    simp only [List.length_append]
    omega
   omega
theorem psW_le_nd (x:GNode):psW x.props<=(encNd x).length:=by
 have h:=psW_le_prs x.props
 unfold encNd encPs
 simp only [List.length_append]
 omega
theorem psW_le_rl (x:GRel):psW x.props<=(encRl x).length:=by
 have h:=psW_le_prs x.props
 unfold encRl encPs
 simp only [List.length_append]
 omega
theorem packs_le {α:Type} (f:α->List GPr) (t:Nat) (e:α->List UInt8) (h:∀ x,psW (f x)<=(e x).length):∀ l:List α,9*l.length+psW (l.flatMap f)<=((l.map fun x=>packP t (e x)).flatten).length
 | []=>by simp [psW]
 | y::l=>by
   have h1:=packs_le f t e h l
   have h2:=h y
   rw [List.map_cons,List.flatten_cons,List.length_append,packP_len,List.flatMap_cons,psW_append,List.length_cons]
   omega
theorem head_bounds (g:GGraph):9*g.nodes.length+9*g.rels.length+g.wt<=(headP g).flatten.length:=by
 have h1:=packs_le GNode.props 2 encNd psW_le_nd g.nodes
 have h2:=packs_le GRel.props 3 encRl psW_le_rl g.rels
 rw [head_split2]
 unfold GGraph.wt
 simp only [List.length_append]
 omega
theorem inv_bounds {s:PSt} (h:InvP s):9*s.g.nodes.length+9*s.g.rels.length+s.g.wt<=s.all.length:=by
 rcases h.2 with c | c | c | c
 · rw [c.2.1,c.2.2]
   decide
 · rw [c.2.2]
   exact head_bounds _
 · rw [c.2]
   exact head_bounds _
 rw [c.2,arcP_split,List.length_append]
 have:=head_bounds s.g
 omega
theorem prs_sized {w:World} {B:Nat} {A:Option Addr} {n c:Nat} {ps:List PR} (h:OwnPs w B (.slice A n c) ps) (hn:ps.length<=255) (hw:∀ p∈ps.map PR.dat,p.Wr):PsSized n ps:=by
 have h1:ps.length=n:=h.rd.len
 refine ⟨by omega,fun x hx=>?_⟩
 have hx1:=hw x.dat (List.mem_map_of_mem hx)
 have hv:=(h.each x hx).rd
 have l1:=hv.len1
 have l2:=hv.len2
 obtain ⟨_,_,_,z4,z5,z6,z7⟩:=chk_zero (show chk x.g=0 from hx1.2.1)
 have h5:x.key.size<=255:=hx1.1
 exact ⟨by omega,by omega,by omega,fun s hs=>by have:=z7 s hs;omega,by omega⟩
theorem own_sized {w:World} {B:Nat} {g:GR} (h:OwnG w B g) (hw:AllWr g.dat) (hn1:g.ns.length<=16777216) (hn2:g.rs.length<=16777216):GSized g:=by
 have l1:g.ns.length=g.nN:=h.nodes.rd.len
 have l2:g.rs.length=g.nR:=h.rels.rd.len
 refine ⟨by omega,by omega,fun x hx=>?_,fun x hx=>?_⟩
 · have hx1:=hw.nodes x.dat (List.mem_map_of_mem hx)
   have hl:x.labels.length=x.nL:=by
    have:=(own_rdK (h.nodes.each x hx).lab).len
    simpa using this
   have hln:x.labels.length<=255:=hx1.n
   exact ⟨by omega,fun s hs=>by have:s.size<=255:=hx1.lab s hs;omega,prs_sized (h.nodes.each x hx).pro (by simpa [ND.dat] using hx1.np) hx1.pr⟩
 have hx1:=hw.rels x.dat (List.mem_map_of_mem hx)
 have ht:x.type.size<=255:=hx1.type
 exact ⟨by omega,prs_sized (h.rels.each x hx).pro (by simpa [RL.dat] using hx1.np) hx1.pr⟩
theorem OwnG.nil_ (w:World) (B:Nat):OwnG w B ⟨[],none,0,0,[],none,0,0⟩:=⟨OwnNs.nil_ _ _,OwnRs.nil_ _ _⟩
theorem grow_nodes {w wa w9:World} {B g i:Nat} {t:TypeId} {cs:Array Value} {gr:GR} {x:ND} {v9:Value} (KO:OwnG w B gr) (kb:Blk w g t cs) (h0:43≠t) (h1:48≠t) (h2:2≠t) (h3:9≠t) (h4:50≠t)
 (hsa:Same w wa) (hx:OwnNd wa B x) (hg:Grew wa B 43 3 (.slice gr.AN gr.nN gr.cN) (gr.nN+1) (gr.ns.flatMap ND.cells++x.cells) v9 w9) :
 ∃ A9 c9,v9=.slice A9 (gr.nN+1) c9/\OwnG (w9.setCell ⟨g,i,none⟩ v9) B ⟨gr.ns++[x],A9,gr.nN+1,c9,gr.rs,gr.AR,gr.nR,gr.cR⟩/\Blk (w9.setCell ⟨g,i,none⟩ v9) g t (cs.setIfInBounds i v9)/\Blk w9 g t cs/\Upd (fun b=>b=g\/(OfT w 43 b/\B<=b)) w (w9.setCell ⟨g,i,none⟩ v9):=by
 have hln:gr.ns.length=gr.nN:=KO.nodes.rd.len
 have hrow:=KO.nodes.row
 rw [hln] at hrow
 have hrowa:=own_same hrow hsa
 obtain ⟨A9,c9,rfl⟩:=own_form hg.own
 have hT:∀ b,b<wa.heap.size->(Value.slice gr.AN gr.nN gr.cN).ownBlock=some b->OfT wa 43 b:=fun b _ hb=>own_ofT hrowa hb
 have k9:=(kb.same hsa).upd hg.upd fun hh=>(kb.same hsa).ne_own hrowa h0 hh
 have hp:=(Upd.refl (fun b=>b=g) w9).put1 (i:=i) (.slice A9 (gr.nN+1) c9)
 have hTp:∀ b,b<w9.heap.size->b=g->OfT w9 t b:=fun b _ e=>by rw [e];exact ⟨_,k9⟩
 have hN9:=(KO.nodes.same hsa).snoc (x:=x) (by rw [hln];exact hg) hx
 have hR9:=(KO.rels.same hsa).type hg.upd hT (by decide) (by decide) (by decide) (by decide)
 refine ⟨A9,c9,rfl,⟨hN9.type hp hTp h0 h1 h2 h3,hR9.type hp hTp h4 h1 h2 h3⟩,k9.put i _,k9,?_⟩
 refine Upd.put ((hsa.mono (S':=fun b=>b=g\/(OfT w 43 b/\B<=b)) fun _ _ f=>f.elim).trans hg.upd fun k hk hb=>.inr ⟨own_ofT hrow hb,(hrow.lt k hb).1⟩) (.inl rfl) _
theorem grow_rels {w wa w9:World} {B g i:Nat} {t:TypeId} {cs:Array Value} {gr:GR} {x:RL} {v9:Value} (KO:OwnG w B gr) (kb:Blk w g t cs) (h0:43≠t) (h1:48≠t) (h2:2≠t) (h3:9≠t) (h4:50≠t)
 (hsa:Same w wa) (hx:OwnRl wa B x) (hg:Grew wa B 50 5 (.slice gr.AR gr.nR gr.cR) (gr.nR+1) (gr.rs.flatMap RL.cells++x.cells) v9 w9) :
 ∃ A9 c9,v9=.slice A9 (gr.nR+1) c9/\OwnG (w9.setCell ⟨g,i,none⟩ v9) B ⟨gr.ns,gr.AN,gr.nN,gr.cN,gr.rs++[x],A9,gr.nR+1,c9⟩/\Blk (w9.setCell ⟨g,i,none⟩ v9) g t (cs.setIfInBounds i v9)/\Blk w9 g t cs/\Upd (fun b=>b=g\/(OfT w 50 b/\B<=b)) w (w9.setCell ⟨g,i,none⟩ v9):=by
 have hln:gr.rs.length=gr.nR:=KO.rels.rd.len
 have hrow:=KO.rels.row
 rw [hln] at hrow
 have hrowa:=own_same hrow hsa
 obtain ⟨A9,c9,rfl⟩:=own_form hg.own
 have hT:∀ b,b<wa.heap.size->(Value.slice gr.AR gr.nR gr.cR).ownBlock=some b->OfT wa 50 b:=fun b _ hb=>own_ofT hrowa hb
 have k9:=(kb.same hsa).upd hg.upd fun hh=>(kb.same hsa).ne_own hrowa h4 hh
 have hp:=(Upd.refl (fun b=>b=g) w9).put1 (i:=i) (.slice A9 (gr.nR+1) c9)
 have hTp:∀ b,b<w9.heap.size->b=g->OfT w9 t b:=fun b _ e=>by rw [e];exact ⟨_,k9⟩
 have hR9:=(KO.rels.same hsa).snoc (x:=x) (by rw [hln];exact hg) hx
 have hN9:=(KO.nodes.same hsa).type hg.upd hT (by decide) (by decide) (by decide) (by decide)
 refine ⟨A9,c9,rfl,⟨hN9.type hp hTp h0 h1 h2 h3,hR9.type hp hTp h4 h1 h2 h3⟩,k9.put i _,k9,?_⟩
 refine Upd.put ((hsa.mono (S':=fun b=>b=g\/(OfT w 50 b/\B<=b)) fun _ _ f=>f.elim).trans hg.upd fun k hk hb=>.inr ⟨own_ofT hrow hb,(hrow.lt k hb).1⟩) (.inl rfl) _
theorem addr_plus (a:Addr) (h:a.spot=none) (i:Nat):a.add i=⟨a.block,a.off+i,none⟩:=by
 obtain ⟨b,o,s⟩:=a
 subst h
 unfold Addr.add
 split <;> simp_all
theorem fresh_bytes {B:Nat} {w:World} {v:Value} {l:List UInt8} (h:Lib.FreshBytes B w v l) (h0:0<l.length):∃ A c,v=.slice A l.length c/\Bytes w (fun b=>B<=b) A l.length c l:=by
 obtain ⟨g,cap,zs,rfl,hB,hle,hmx,hzl,hz,hb,hc,_⟩:=h
 refine ⟨_,_,rfl,by simp,hle,hmx,(fun h=>by cases h),fun a ha=>?_⟩
 cases ha
 have hat:∀ i u,(l.map u8v)[i]?=some u->w.cell? ⟨g,0+i,none⟩=some u:=fun i u hu=>by
  obtain ⟨x,hx,rfl⟩:∃ x,l[i]?=some x/\u8v x=u:=by simpa using hu
  have hi:=(List.getElem?_eq_some_iff.1 hx).1
  rw [Nat.zero_add,hc i (by omega)]
  have h1:(Lib.bytesOf (zs.take l.length))[i]?=some x:=by rw [hb];exact hx
  have h2:zs[i]?=some (zs.getD i 0):=by rw [List.getD,List.getElem?_eq_getElem (by omega)];rfl
  have h3:=hz _ (List.mem_of_getElem? h2)
  simp only [Lib.bytesOf,List.getElem?_map,List.getElem?_take,if_pos hi,h2,Option.map_some,Option.some.injEq] at h1
  subst h1
  have h4:(UInt8.ofNat (zs.getD i 0).toNat).toNat=(zs.getD i 0).toNat:=by
   rw [UInt8.toNat_ofNat']
   exact Nat.mod_eq_of_lt (by omega)
  simp only [u8v,h4,Option.some.injEq,Value.int.injEq,true_and]
  omega
 refine ⟨rfl,?_,hB,hat⟩
 have h1:=hat 0 (u8v l[0]) (by rw [List.getElem?_map,List.getElem?_eq_getElem h0];rfl)
 exact block_lt_of_cell h1
theorem parts_of {w:World} {B n c b o:Nat} {l:List BS} (h:OwnBs w B (.slice (some ⟨b,o,none⟩) n c) l) (hn:l.length=n):Lib.PartsAt w ⟨b,o,none⟩ (l.map BS.cell) (l.map BS.data):=by
 refine ⟨by simp,fun i v hv=>?_,fun i v d hv hd=>?_⟩
 · have hi:i<n:=by have:=(List.getElem?_eq_some_iff.1 hv).1;simpa [hn] using this
   obtain ⟨b',o',x,hA,_,hx,_,hc⟩:=h.at_ hn hi
   cases hA
   rw [List.getElem?_map,hx] at hv
   cases hv
   rw [addr_plus _ rfl]
   exact hc
 obtain ⟨x,hx,rfl⟩:∃ x,l[i]?=some x/\x.cell=v:=by simpa using hv
 rw [List.getElem?_map,hx] at hd
 cases hd
 have h1:=h.each x (List.mem_of_getElem? hx)
 refine ⟨x.A,x.c,by unfold BS.cell;rw [Bytes.len h1],fun hA=>?_,fun a ha j y hy=>?_⟩
 · have h2:=Row.nil h1 hA
   have h3:=Row.le h1
   exact List.eq_nil_of_length_eq_zero (by rw [Bytes.len h1];omega)
 obtain ⟨h2,_,_,h3⟩:=Row.cell h1 a ha
 rw [addr_plus _ h2]
 exact h3 j _ (by rw [List.getElem?_map,hy];rfl)
theorem join_nilsep (L:List (List UInt8)):Lib.join L []=L.flatten:=by
 cases L with
 | nil=>rfl
 | cons x r =>
   rw [Lib.join_cons]
   simp [Lib.joinTail]
theorem lens_flat (L:List (List UInt8)):Lib.lens L=L.flatten.length:=by
 unfold Lib.lens
 rw [List.length_flatten]
theorem join_spec (w:World) {B n c:Nat} {A:Option Addr} {l:List BS} (h:OwnBs w B (.slice A n c) l) (hn:l.length=n) (h2:2<=n) (h3:n<=100000) (hl:(l.map BS.data).flatten.length<=140737488355328) :
 Calls Tryz.prog 30 #[.slice A n c,.slice none 0 0] w fun e w'=>∃ v,e=.returned v/\Lib.FreshBytes w.heap.size w' v (l.map BS.data).flatten/\Same w w':=by
 obtain ⟨b,o,x,hA,_⟩:=h.at_ hn (i:=0) (by omega)
 subst hA
 have hr:=h.row
 rw [hn] at hr
 have hk:=Row.of_own hr
 have h1:=Any.bytes_Join_many joinL b o n c (l.map BS.cell) (l.map BS.data) (.slice none 0 0) [] w (by simp [hn]) h2 (parts_of h hn) hk.le ⟨none,0,rfl,fun _=>rfl,fun a ha=>by cases ha⟩
  (by omega) (by rw [lens_flat];simpa using hl)
 rw [join_nilsep] at h1
 refine Calls.mono h1 ?_
 rintro e w' ⟨v,rfl,h3,h4⟩
 exact ⟨v,rfl,h3,Same.of_below h4⟩
end Go.Proofs.YtkopcinhbjimiaaGreatDoor
