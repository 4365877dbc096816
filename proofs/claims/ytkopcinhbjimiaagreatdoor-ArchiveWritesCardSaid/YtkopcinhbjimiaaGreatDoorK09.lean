/- Texts that the claim leans on: walks and plain laws, function by function. -/
import Derived.Test.YtkopcinhbjimiaaGreatDoorK01
import Derived.Test.YtkopcinhbjimiaaGreatDoorK02
import Derived.Test.YtkopcinhbjimiaaGreatDoorK08
set_option maxRecDepth 100000
set_option maxHeartbeats 16000000
namespace Go.Proofs.YtkopcinhbjimiaaGreatDoor
open Go.RowKit
theorem own_cell {w:World} {B n c i:Nat} {e:TypeId} {A:Option Addr} {xs:List Value} (h:w.ownsRow B e 1 (.slice A n c) n xs) (hi:i<n) :
 ∃ g u,A=some ⟨g,0,none⟩/\B<=g/\g<w.heap.size/\xs[i]?=some u/\w.cell? ⟨g,i,none⟩=some u/\w.frozen? ⟨g,i,none⟩=false/\∀ u',(w.setCell ⟨g,i,none⟩ u').ownsRow B e 1 (.slice A n c) n (xs.set i u'):=by
 have hl:=h.1
 rcases h.2 with ⟨hv,hn⟩ | ⟨g,cap,cur,hv,hb,hg,hle,hm,hs,ht⟩
 · omega
 injection hv with h1 h2 h3
 subst h1 h3
 have hlt:g<w.heap.size:=(Array.getElem?_eq_some_iff.1 hg).1
 have hix:i<xs.length:=by omega
 have hic:i<cur.size:=by omega
 have hcell:cur[i]?=some xs[i]:=by
  rw [<- Array.getElem?_toList]
  have h2:(cur.toList.take (n*1))[i]?=some xs[i]:=by rw [ht];exact List.getElem?_eq_getElem hix
  rw [List.getElem?_take,if_pos (by omega)] at h2
  exact h2
 refine ⟨g,xs[i],rfl,hb,hlt,List.getElem?_eq_getElem hix,?_,?_,fun u'=>?_⟩
 · rw [cell_of_row w g i cur e (0,0) hg]
   exact hcell
 · simp [World.frozen?,hg]
 refine ⟨by rw [List.length_set];exact hl,.inr ⟨g,c,cur.setIfInBounds i u',rfl,hb,?_,hle,hm,by simpa using hs,?_⟩⟩
 · simp [World.setCell,Array.getElem?_modify,hg]
 rw [Array.toList_setIfInBounds,List.take_set,ht]
theorem own_cellK {w:World} {B n c k i:Nat} {e:TypeId} {A:Option Addr} {xs:List Value} (h:w.ownsRow B e k (.slice A n c) n xs) (hi:i<n*k) :
 ∃ g u,A=some ⟨g,0,none⟩/\B<=g/\g<w.heap.size/\xs[i]?=some u/\w.cell? ⟨g,i,none⟩=some u/\w.frozen? ⟨g,i,none⟩=false/\∀ u',(w.setCell ⟨g,i,none⟩ u').ownsRow B e k (.slice A n c) n (xs.set i u'):=by
 have hl:=h.1
 rcases h.2 with ⟨hv,hn⟩ | ⟨g,cap,cur,hv,hb,hg,hle,hm,hs,ht⟩
 · subst hn;omega
 injection hv with h1 h2 h3
 subst h1 h3
 have hlt:g<w.heap.size:=(Array.getElem?_eq_some_iff.1 hg).1
 have hix:i<xs.length:=by omega
 have hck:n*k<=c*k:=Nat.mul_le_mul_right k hle
 have hic:i<cur.size:=by omega
 have hcell:cur[i]?=some xs[i]:=by
  rw [<- Array.getElem?_toList]
  have h2:(cur.toList.take (n*k))[i]?=some xs[i]:=by rw [ht];exact List.getElem?_eq_getElem hix
  rw [List.getElem?_take,if_pos hi] at h2
  exact h2
 refine ⟨g,xs[i],rfl,hb,hlt,List.getElem?_eq_getElem hix,?_,?_,fun u'=>?_⟩
 · rw [cell_of_row w g i cur e (0,0) hg]
   exact hcell
 · simp [World.frozen?,hg]
 refine ⟨by rw [List.length_set];exact hl,.inr ⟨g,c,cur.setIfInBounds i u',rfl,hb,?_,hle,hm,by simpa using hs,?_⟩⟩
 · simp [World.setCell,Array.getElem?_modify,hg]
 rw [Array.toList_setIfInBounds,List.take_set,ht]
end Go.Proofs.YtkopcinhbjimiaaGreatDoor
namespace Go.Proofs.YtkopcinhbjimiaaGreatDoor
open Go.RowKit
theorem info_Node:(Tryz.prog.info? 43).map (fun i=>(i.zero,i.size,i.bytes))=some (some (.agg #[.int .i64 0,.slice none 0 0,.slice none 0 0]),3,56):=by kernel_rfl
theorem ND_one (l:List ND):∀ u∈l.flatMap ND.cells,u.oneCell'=true:=by
 intro u hu
 obtain ⟨x,_,hx⟩:=List.mem_flatMap.1 hu
 simp only [ND.cells,List.mem_cons,List.not_mem_nil,or_false] at hx
 rcases hx with rfl | rfl | rfl
 all_goals rfl
theorem info_Rel:(Tryz.prog.info? 50).map (fun i=>(i.zero,i.size,i.bytes))=some (some (.agg #[.int .i64 0,.string ⟨#[]⟩,.int .i64 0,.int .i64 0,.slice none 0 0]),5,64):=by kernel_rfl
theorem RL_one (l:List RL):∀ u∈l.flatMap RL.cells,u.oneCell'=true:=by
 intro u hu
 obtain ⟨x,_,hx⟩:=List.mem_flatMap.1 hu
 simp only [RL.cells,List.mem_cons,List.not_mem_nil,or_false] at hx
 rcases hx with rfl | rfl | rfl | rfl | rfl
 all_goals rfl
end Go.Proofs.YtkopcinhbjimiaaGreatDoor
namespace Go.Proofs.YtkopcinhbjimiaaGreatDoor
open Go.RowKit
theorem PR.one (x:PR):∀ u∈x.cells,u.oneCell'=true:=by
 intro u hu
 simp only [PR.cells,List.mem_cons,List.not_mem_nil,or_false] at hu
 rcases hu with rfl | rfl | rfl | rfl | rfl | rfl <;> rfl
theorem ND.one (x:ND):∀ u∈x.cells,u.oneCell'=true:=by
 intro u hu
 simp only [ND.cells,List.mem_cons,List.not_mem_nil,or_false] at hu
 rcases hu with rfl | rfl | rfl <;> rfl
theorem RL.one (x:RL):∀ u∈x.cells,u.oneCell'=true:=by
 intro u hu
 simp only [RL.cells,List.mem_cons,List.not_mem_nil,or_false] at hu
 rcases hu with rfl | rfl | rfl | rfl | rfl <;> rfl
theorem info_Prop:(Tryz.prog.info? 48).map (fun i=>(i.zero,i.size,i.bytes))=some (some (.agg #[.string ⟨#[]⟩,.int .i64 0,.int .i64 0,.string ⟨#[]⟩,.slice none 0 0,.slice none 0 0]),6,96):=by kernel_rfl
theorem PR_one (l:List PR):∀ u∈l.flatMap PR.cells,u.oneCell'=true:=by
 intro u hu
 obtain ⟨x,_,hx⟩:=List.mem_flatMap.1 hu
 exact x.one u hx
theorem Row.pr (w:World) (x:PR):Row (w.alloc (.cells x.cells.toArray 48)) (fun b=>b=w.heap.size) 6 (some ⟨w.heap.size,0,none⟩) 1 1 x.cells :=
 Row.of_blk (Blk.new w _ x.cells.toArray) rfl (Nat.le_refl _) (by simp [maxLen])
theorem Row.nd (w:World) (x:ND):Row (w.alloc (.cells x.cells.toArray 43)) (fun b=>b=w.heap.size) 3 (some ⟨w.heap.size,0,none⟩) 1 1 x.cells :=
 Row.of_blk (Blk.new w _ x.cells.toArray) rfl (Nat.le_refl _) (by simp [maxLen])
theorem Row.rl (w:World) (x:RL):Row (w.alloc (.cells x.cells.toArray 50)) (fun b=>b=w.heap.size) 5 (some ⟨w.heap.size,0,none⟩) 1 1 x.cells :=
 Row.of_blk (Blk.new w _ x.cells.toArray) rfl (Nat.le_refl _) (by simp [maxLen])
structure OwnVal (w:World) (B:Nat) (x:PR):Prop where
 nums:w.ownsRow B 2 1 (.slice x.A1 x.n1 x.c1) x.n1 (x.g.nums.map (Value.int .i64))
 texts:w.ownsRow B 9 1 (.slice x.A2 x.n2 x.c2) x.n2 (x.g.texts.map Value.string)
 fits:x.g.Fits
structure OwnPs (w:World) (B:Nat) (v:Value) (ps:List PR):Prop where
 row:w.ownsRow B 48 6 v ps.length (ps.flatMap PR.cells)
 each:∀ x∈ps,OwnVal w B x
structure OwnNd (w:World) (B:Nat) (x:ND):Prop where
 lab:w.ownsRow B 9 1 (.slice x.AL x.nL x.cL) x.nL (x.labels.map Value.string)
 pro:OwnPs w B (.slice x.AP x.nP x.cP) x.props
 id:Fit64 x.id
structure OwnRl (w:World) (B:Nat) (x:RL):Prop where
 pro:OwnPs w B (.slice x.AP x.nP x.cP) x.props
 id:Fit64 x.id/\Fit64 x.src/\Fit64 x.dst
structure OwnNs (w:World) (B:Nat) (v:Value) (ns:List ND):Prop where
 row:w.ownsRow B 43 3 v ns.length (ns.flatMap ND.cells)
 each:∀ x∈ns,OwnNd w B x
structure OwnRs (w:World) (B:Nat) (v:Value) (rs:List RL):Prop where
 row:w.ownsRow B 50 5 v rs.length (rs.flatMap RL.cells)
 each:∀ x∈rs,OwnRl w B x
section
variable {w w':World} {B B':Nat} {v:Value} {ps:List PR} {ns:List ND} {rs:List RL}
theorem OwnVal.upd {S:Nat->Prop} {x:PR} (h:OwnVal w B x) (hu:Upd S w w') (h1:∀ g,S g->(Value.slice x.A1 x.n1 x.c1).ownBlock≠some g) (h2:∀ g,S g->(Value.slice x.A2 x.n2 x.c2).ownBlock≠some g):OwnVal w' B x :=
 ⟨own_upd h.nums hu fun g hg hs=>h1 g hs hg,own_upd h.texts hu fun g hg hs=>h2 g hs hg,h.fits⟩
theorem OwnVal.same {x:PR} (h:OwnVal w B x) (hu:Same w w'):OwnVal w' B x:=h.upd hu (fun _ f=>f.elim) (fun _ f=>f.elim)
theorem OwnVal.base {x:PR} (h:OwnVal w B x) (hB:B'<=B):OwnVal w B' x:=⟨own_base h.nums hB,own_base h.texts hB,h.fits⟩
theorem OwnPs.nil_ (w:World) (B:Nat):OwnPs w B (.slice none 0 0) []:=⟨World.ownsRow_nil _ _ _ _,by simp⟩
theorem OwnPs.same (h:OwnPs w B v ps) (hu:Same w w'):OwnPs w' B v ps:=⟨own_same h.row hu,fun x hx=>(h.each x hx).same hu⟩
theorem OwnPs.base (h:OwnPs w B v ps) (hB:B'<=B):OwnPs w B' v ps:=⟨own_base h.row hB,fun x hx=>(h.each x hx).base hB⟩
theorem OwnNd.same {x:ND} (h:OwnNd w B x) (hu:Same w w'):OwnNd w' B x:=⟨own_same h.lab hu,h.pro.same hu,h.id⟩
theorem OwnNd.base {x:ND} (h:OwnNd w B x) (hB:B'<=B):OwnNd w B' x:=⟨own_base h.lab hB,h.pro.base hB,h.id⟩
theorem OwnRl.same {x:RL} (h:OwnRl w B x) (hu:Same w w'):OwnRl w' B x:=⟨h.pro.same hu,h.id⟩
theorem OwnRl.base {x:RL} (h:OwnRl w B x) (hB:B'<=B):OwnRl w B' x:=⟨h.pro.base hB,h.id⟩
theorem OwnNs.nil_ (w:World) (B:Nat):OwnNs w B (.slice none 0 0) []:=⟨World.ownsRow_nil _ _ _ _,by simp⟩
theorem OwnRs.nil_ (w:World) (B:Nat):OwnRs w B (.slice none 0 0) []:=⟨World.ownsRow_nil _ _ _ _,by simp⟩
theorem OwnNs.same (h:OwnNs w B v ns) (hu:Same w w'):OwnNs w' B v ns:=⟨own_same h.row hu,fun x hx=>(h.each x hx).same hu⟩
theorem OwnNs.base (h:OwnNs w B v ns) (hB:B'<=B):OwnNs w B' v ns:=⟨own_base h.row hB,fun x hx=>(h.each x hx).base hB⟩
theorem OwnRs.same (h:OwnRs w B v rs) (hu:Same w w'):OwnRs w' B v rs:=⟨own_same h.row hu,fun x hx=>(h.each x hx).same hu⟩
theorem OwnRs.base (h:OwnRs w B v rs) (hB:B'<=B):OwnRs w B' v rs:=⟨own_base h.row hB,fun x hx=>(h.each x hx).base hB⟩
def OfT (w:World) (e:TypeId) (g:Nat):Prop:=∃ cs,Blk w g e cs
theorem own_ofT {base k n:Nat} {e:TypeId} {xs:List Value} (h:w.ownsRow base e k v n xs) {g:Nat} (hg:v.ownBlock=some g):OfT w e g:=by
 rcases h.2 with ⟨rfl,_⟩ | ⟨b,cap,cur,rfl,_,hh,_⟩
 · simp [Value.ownBlock] at hg
 obtain rfl:b=g:=by simpa [Value.ownBlock] using hg
 exact ⟨cur,hh⟩
theorem OfT.ne {e e':TypeId} {g:Nat} (h:OfT w e g) (h':OfT w e' g):e=e':=by
 obtain ⟨c,h1⟩:=h
 obtain ⟨c',h2⟩:=h'
 unfold Blk at h1 h2
 rw [h1] at h2
 injection h2 with h2
 injection h2
theorem own_type {S:Nat->Prop} {e e':TypeId} {base k n:Nat} {xs:List Value} (h:w.ownsRow base e k v n xs) (hu:Upd S w w') (hS:∀ g,g<w.heap.size->S g->OfT w e' g) (hne:e≠e'):w'.ownsRow base e k v n xs :=
 own_upd h hu fun g hg hs=>hne ((own_ofT h hg).ne (hS g (by obtain ⟨c,hc⟩:=own_ofT h hg;exact hc.lt) hs))
theorem OwnVal.type {S:Nat->Prop} {e':TypeId} {x:PR} (h:OwnVal w B x) (hu:Upd S w w') (hS:∀ g,g<w.heap.size->S g->OfT w e' g) (h1:2≠e') (h2:9≠e'):OwnVal w' B x :=
 ⟨own_type h.nums hu hS h1,own_type h.texts hu hS h2,h.fits⟩
theorem OwnPs.type {S:Nat->Prop} {e':TypeId} (h:OwnPs w B v ps) (hu:Upd S w w') (hS:∀ g,g<w.heap.size->S g->OfT w e' g) (h0:48≠e') (h1:2≠e') (h2:9≠e'):OwnPs w' B v ps :=
 ⟨own_type h.row hu hS h0,fun x hx=>(h.each x hx).type hu hS h1 h2⟩
theorem OwnNd.type {S:Nat->Prop} {e':TypeId} {x:ND} (h:OwnNd w B x) (hu:Upd S w w') (hS:∀ g,g<w.heap.size->S g->OfT w e' g) (h0:48≠e') (h1:2≠e') (h2:9≠e'):OwnNd w' B x :=
 ⟨own_type h.lab hu hS h2,h.pro.type hu hS h0 h1 h2,h.id⟩
theorem OwnRl.type {S:Nat->Prop} {e':TypeId} {x:RL} (h:OwnRl w B x) (hu:Upd S w w') (hS:∀ g,g<w.heap.size->S g->OfT w e' g) (h0:48≠e') (h1:2≠e') (h2:9≠e'):OwnRl w' B x :=
 ⟨h.pro.type hu hS h0 h1 h2,h.id⟩
theorem OwnNs.type {S:Nat->Prop} {e':TypeId} (h:OwnNs w B v ns) (hu:Upd S w w') (hS:∀ g,g<w.heap.size->S g->OfT w e' g) (hn:43≠e') (h0:48≠e') (h1:2≠e') (h2:9≠e'):OwnNs w' B v ns :=
 ⟨own_type h.row hu hS hn,fun x hx=>(h.each x hx).type hu hS h0 h1 h2⟩
theorem OwnRs.type {S:Nat->Prop} {e':TypeId} (h:OwnRs w B v rs) (hu:Upd S w w') (hS:∀ g,g<w.heap.size->S g->OfT w e' g) (hn:50≠e') (h0:48≠e') (h1:2≠e') (h2:9≠e'):OwnRs w' B v rs :=
 ⟨own_type h.row hu hS hn,fun x hx=>(h.each x hx).type hu hS h0 h1 h2⟩
theorem OwnPs.snoc {v':Value} {x:PR} (h:OwnPs w B v ps) (hg:Grew w B 48 6 v (ps.length+1) (ps.flatMap PR.cells++x.cells) v' w') (hx:OwnVal w B x):OwnPs w' B v' (ps++[x]):=by
 have hS:∀ g,g<w.heap.size->v.ownBlock=some g->OfT w 48 g:=fun g _ hg=>own_ofT h.row hg
 refine ⟨?_,fun y hy=>?_⟩
 · rw [List.length_append,List.flatMap_append]
   simpa using hg.own
 rcases List.mem_append.1 hy with hy | hy
 · exact (h.each y hy).type hg.upd hS (by decide) (by decide)
 obtain rfl:y=x:=by simpa using hy
 exact hx.type hg.upd hS (by decide) (by decide)
theorem OwnNs.snoc {v':Value} {x:ND} (h:OwnNs w B v ns) (hg:Grew w B 43 3 v (ns.length+1) (ns.flatMap ND.cells++x.cells) v' w') (hx:OwnNd w B x):OwnNs w' B v' (ns++[x]):=by
 have hS:∀ g,g<w.heap.size->v.ownBlock=some g->OfT w 43 g:=fun g _ hg=>own_ofT h.row hg
 refine ⟨?_,fun y hy=>?_⟩
 · rw [List.length_append,List.flatMap_append]
   simpa using hg.own
 rcases List.mem_append.1 hy with hy | hy
 · exact (h.each y hy).type hg.upd hS (by decide) (by decide) (by decide)
 obtain rfl:y=x:=by simpa using hy
 exact hx.type hg.upd hS (by decide) (by decide) (by decide)
theorem OwnRs.snoc {v':Value} {x:RL} (h:OwnRs w B v rs) (hg:Grew w B 50 5 v (rs.length+1) (rs.flatMap RL.cells++x.cells) v' w') (hx:OwnRl w B x):OwnRs w' B v' (rs++[x]):=by
 have hS:∀ g,g<w.heap.size->v.ownBlock=some g->OfT w 50 g:=fun g _ hg=>own_ofT h.row hg
 refine ⟨?_,fun y hy=>?_⟩
 · rw [List.length_append,List.flatMap_append]
   simpa using hg.own
 rcases List.mem_append.1 hy with hy | hy
 · exact (h.each y hy).type hg.upd hS (by decide) (by decide) (by decide)
 obtain rfl:y=x:=by simpa using hy
 exact hx.type hg.upd hS (by decide) (by decide) (by decide)
theorem own_rdK {base k n c:Nat} {A:Option Addr} {e:TypeId} {xs:List Value} (h:w.ownsRow base e k (.slice A n c) n xs):WRow w (fun b=>base<=b/\b<w.heap.size) k A n c xs :=
 (Row.mono (Row.of_own h) fun _ hb hh=>⟨hh.2,hb⟩).weak
theorem OwnVal.rd {x:PR} (h:OwnVal w B x):RdVal w (fun b=>B<=b/\b<w.heap.size) x.A1 x.n1 x.c1 x.A2 x.n2 x.c2 x.g :=
 ⟨own_rdK h.nums,own_rdK h.texts,h.fits.kind,h.fits.num,h.fits.range⟩
theorem OwnPs.rd {A:Option Addr} {n c:Nat} (h:OwnPs w B (.slice A n c) ps):RdPs w (fun b=>B<=b/\b<w.heap.size) A n c ps:=by
 have h1:=h.row
 obtain ⟨A',c',e⟩:=own_form h1
 injection e with e1 e2 e3
 subst e1 e3
 rw [<- e2] at h1
 exact ⟨own_rdK h1,fun x hx=>(h.each x hx).rd⟩
theorem OwnNs.rd {A:Option Addr} {n c:Nat} (h:OwnNs w B (.slice A n c) ns):RdNs w (fun b=>B<=b/\b<w.heap.size) A n c ns:=by
 have h1:=h.row
 obtain ⟨A',c',e⟩:=own_form h1
 injection e with e1 e2 e3
 subst e1 e3
 rw [<- e2] at h1
 exact ⟨own_rdK h1,fun x hx=>own_rdK (h.each x hx).lab,fun x hx=>(h.each x hx).pro.rd,fun x hx=>(h.each x hx).id⟩
theorem OwnRs.rd {A:Option Addr} {n c:Nat} (h:OwnRs w B (.slice A n c) rs):RdRs w (fun b=>B<=b/\b<w.heap.size) A n c rs:=by
 have h1:=h.row
 obtain ⟨A',c',e⟩:=own_form h1
 injection e with e1 e2 e3
 subst e1 e3
 rw [<- e2] at h1
 exact ⟨own_rdK h1,fun x hx=>(h.each x hx).pro.rd,fun x hx=>(h.each x hx).id⟩
end
structure OwnG (w:World) (B:Nat) (g:GR):Prop where
 nodes:OwnNs w B (.slice g.AN g.nN g.cN) g.ns
 rels:OwnRs w B (.slice g.AR g.nR g.cR) g.rs
section
variable {w w':World} {B B':Nat} {g:GR}
theorem OwnG.same (h:OwnG w B g) (hu:Same w w'):OwnG w' B g:=⟨h.nodes.same hu,h.rels.same hu⟩
theorem OwnG.base (h:OwnG w B g) (hB:B'<=B):OwnG w B' g:=⟨h.nodes.base hB,h.rels.base hB⟩
theorem OwnG.rd (h:OwnG w B g):RdG w (fun b=>B<=b/\b<w.heap.size) g:=⟨h.nodes.rd,h.rels.rd⟩
end
theorem src_wrow {P:Program} {w:World} {F:Nat->Prop} {k:Nat} {tx e:TypeId} (ht:P.underlying tx=some (.slice e)) {A:Option Addr} {m c:Nat} {news:List Value} (h:WRow w F k A m c news) (hone:∀ u∈news,u.oneCell'=true) :
 Src P k tx (.slice A m c) m news w:=by
 by_cases h0:0<m
 · exact src_row ht (h.row h0) hone
 obtain rfl:m=0:=by omega
 have hn:news=[]:=List.eq_nil_of_length_eq_zero (by simpa using h.len)
 subst hn
 cases A with
 | none =>
   have hc:=h.nil rfl
   subst hc
   exact Src.ofNil w ht 0
 | some a=>exact Src.ofSlice w ht a 0 c [] (by simp) (by simp) (by simp)
theorem same_app {w wr w':World} {g:Nat} {v:Value} (hs:Same w wr) (hu:Upd (fun b=>b=g\/v.ownBlock=some b) wr w') (hg:w.heap.size<=g) (hv:∀ b,v.ownBlock=some b->w.heap.size<=b):Same w w' :=
 hs.trans hu fun b hb hh=>by
  rcases hh with hh | hh
  · omega
  have:=hv b hh
  omega
end Go.Proofs.YtkopcinhbjimiaaGreatDoor
namespace Go.Proofs.YtkopcinhbjimiaaGreatDoor
open Go.RowKit
def Off (w:World) (B:Nat) (e:TypeId) (k:Nat) (v:Value) (n:Nat) (xs:List Value):Prop :=
 xs.length=n*k/\((v=.slice none 0 0/\n=0)\/∃ g o cap cur,v=.slice (some ⟨g,o,none⟩) n cap/\B<=g/\Blk w g e cur/\n<=cap/\cap<=maxLen/\o+cap*k<=cur.size/\(cur.toList.drop o).take (n*k)=xs)
section
variable {w w':World} {B k n:Nat} {e:TypeId} {v:Value} {xs:List Value}
theorem Off.nil_ (w:World) (B:Nat) (e:TypeId) (k:Nat):Off w B e k (.slice none 0 0) 0 []:=⟨by simp,.inl ⟨rfl,rfl⟩⟩
theorem Off.lt (h:Off w B e k v n xs):∀ g,v.ownBlock=some g->B<=g/\g<w.heap.size:=by
 intro g hg
 rcases h.2 with ⟨rfl,_⟩ | ⟨b,o,cap,cur,rfl,h1,h2,_⟩
 · cases hg
 injection hg with hg
 subst hg
 exact ⟨h1,h2.lt⟩
theorem Off.upd {S:Nat->Prop} (h:Off w B e k v n xs) (hu:Upd S w w') (hs:∀ g,v.ownBlock=some g->¬ S g):Off w' B e k v n xs:=by
 refine ⟨h.1,?_⟩
 rcases h.2 with h0 | ⟨b,o,cap,cur,rfl,h1,h2,h3⟩
 · exact .inl h0
 exact .inr ⟨b,o,cap,cur,rfl,h1,h2.upd hu (hs _ rfl),h3⟩
theorem Off.same (h:Off w B e k v n xs) (hu:Same w w'):Off w' B e k v n xs:=h.upd hu fun _ _ f=>f
theorem Off.of (h:w.ownsRow B e k v n xs):Off w B e k v n xs:=by
 refine ⟨h.1,?_⟩
 rcases h.2 with h0 | ⟨g,cap,cur,rfl,h1,h2,h3,h4,h5,h6⟩
 · exact .inl h0
 exact .inr ⟨g,0,cap,cur,rfl,h1,h2,h3,h4,by omega,by simpa using h6⟩
theorem Off.form (h:Off w B e k v n xs):∃ A c,v=.slice A n c:=by
 rcases h.2 with ⟨rfl,rfl⟩ | ⟨b,o,cap,cur,rfl,_⟩
 · exact ⟨_,_,rfl⟩
 exact ⟨_,_,rfl⟩
theorem Off.row {A:Option Addr} {c:Nat} (h:Off w B e k (.slice A n c) n xs):Row w (fun b=>B<=b/\(Value.slice A n c).ownBlock=some b) k A n c xs:=by
 rcases h.2 with ⟨h1,h2⟩ | ⟨b,o,cap,cur,h1,h2,h3,h4,h5,h6,h7⟩
 · injection h1 with h1 h3 h4
   subst h1 h3 h4
   have hx:xs=[]:=List.eq_nil_of_length_eq_zero (by simpa using h.1)
   subst hx
   exact Row.nil_ _ _ _
 injection h1 with h1 _ h8
 subst h1 h8
 refine ⟨h.1,h4,h5,(by rintro ⟨⟩),?_⟩
 rintro a ha
 injection ha with ha
 subst ha
 refine ⟨rfl,h3.lt,⟨h2,rfl⟩,fun i u hu=>?_⟩
 rw [h3.cell]
 have hi:i<n*k:=by
  have:=(List.getElem?_eq_some_iff.1 hu).1
  rw [h.1] at this
  exact this
 rw [<- h7,List.getElem?_take_of_lt hi,List.getElem?_drop,Array.getElem?_toList] at hu
 exact hu
theorem Off.drop_ {A:Option Addr} {c:Nat} (h:Off w B e k (.slice A n c) n xs) {j:Nat} (hj:j<=n):Off w B e k (.slice (if c=j then A else A.map (·.add (j*k))) (n-j) (c-j)) (n-j) (xs.drop (j*k)):=by
 have hl:(xs.drop (j*k)).length=(n-j)*k:=by rw [List.length_drop,h.1,Nat.sub_mul]
 refine ⟨hl,?_⟩
 rcases h.2 with ⟨h1,h2⟩ | ⟨b,o,cap,cur,h1,h2,h3,h4,h5,h6,h7⟩
 · injection h1 with h1 h3 h4
   subst h1 h3 h4
   obtain rfl:j=0:=by omega
   exact .inl ⟨by simp,rfl⟩
 injection h1 with h1 _ h8
 subst h1 h8
 by_cases hc:c=j
 · rw [if_pos hc]
   obtain rfl:n=j:=by omega
   refine .inr ⟨b,o,c-n,cur,rfl,h2,h3,by omega,by omega,?_,?_⟩
   · have:(c-n)*k=0:=by rw [hc,Nat.sub_self,Nat.zero_mul]
     omega
   rw [Nat.sub_self,Nat.zero_mul,List.take_zero]
   rw [Nat.sub_self,Nat.zero_mul] at hl
   exact (List.eq_nil_of_length_eq_zero hl).symm
 rw [if_neg hc,Option.map_some,addr_add]
 have hjk:j*k<=c*k:=Nat.mul_le_mul_right _ (by omega)
 refine .inr ⟨b,o+j*k,c-j,cur,rfl,h2,h3,by omega,by omega,?_,?_⟩
 · rw [Nat.sub_mul]
   omega
 rw [<- h7,List.drop_take,List.drop_drop,Nat.sub_mul]
end
structure GrewO (w:World) (B:Nat) (e:TypeId) (k:Nat) (v:Value) (n:Nat) (xs:List Value) (v':Value) (w':World):Prop where
 own:Off w' B e k v' n xs
 upd:Upd (fun b=>v.ownBlock=some b) w w'
 block:v'.ownBlock=v.ownBlock\/∃ g,v'.ownBlock=some g/\w.heap.size<=g
section
variable {P:Program}
theorem run_app_off (w:World) (t tx ty:TypeId) (base:Nat) (e:TypeId) (i:TypeInfo) (z:Value) (ht:P.underlying t=some (.slice e)) (hi:P.info? e=some i) (hz:i.zero=some z)
 (hzs:z.cells.size=i.size) (v:Value) (n:Nat) (xs:List Value) (hown:Off w base e i.size v n xs)
 (x:Value) (m:Nat) (news:List Value) (hsrc:Src P i.size tx x m news w)
 (h63:n+m<=maxLen) (hbytes:(n+m+1000)*i.bytes<=211106232532992) (hbase:base<=w.heap.size) :
 ∃ v' w',(Builtin.append_ #[t,tx] ty #[v,x]).run P w=.ok v' w'/\GrewO w base e i.size v (n+m) (xs++news) v' w':=by
 have hsmall:n+m<=9223372036854775807:=by simp only [maxLen] at h63;omega
 have hlen:(xs++news).length=(n+m)*i.size:=by rw [List.length_append,hown.1,hsrc.newsLen,Nat.add_mul]
 have fresh:∀ (old:Nat),Off (w.drew.alloc (.cells ((xs++news).toArray++Builtin.zeroCells z.cells (grownCap w (n+m) old e-(n+m))) e)) base e i.size
  (.slice (some ⟨w.heap.size,0,none⟩) (n+m) (grownCap w (n+m) old e)) (n+m) (xs++news):=by
  intro old
  have hge:=grownCap_ge w (n+m) old e
  have hcm:=grownCap_le_maxLen w (n+m) old e h63
  refine Off.of ⟨hlen,.inr ⟨w.heap.size,_,_,rfl,hbase,heap_alloc_new w.drew _,hge,hcm,?_,?_⟩⟩
  · rw [Array.size_append,size_zeroCells,hzs,List.size_toArray,hlen,<-Nat.add_mul]
    congr 1
    omega
  rw [Array.toList_append,<-hlen]
  exact List.take_left
 rcases hown.2 with ⟨rfl,rfl⟩ | ⟨g,off,cap,cur,rfl,hbg,hg,hnc,hcm,hcs,htake⟩
 · have hx:xs=[]:=List.eq_nil_of_length_eq_zero (by simpa using hown.1)
   subst hx
   by_cases hm:m=0
   · subst hm
     have hn:news=[]:=List.eq_nil_of_length_eq_zero (by simpa using hsrc.newsLen)
     subst hn
     refine ⟨.slice none 0 0,w,?_,⟨Off.nil_ w base e i.size,Upd.refl _ _,.inl rfl⟩⟩
     rcases hsrc.kind with ⟨e',hk⟩ | hk <;> simp [Builtin.append_,run_underlying ht,run_underlying hk,sizeOf,typeInfo,hi,hsrc.len,hsrc.cells]
   have hr:=run_append_grow_src (P:=P) w t tx ty e i z ht hi hz none 0 0 [] (by simpa using run_firstCells_none w.drew i.size 0 0 0) x m news hsrc (by omega) (by omega) (app_fits (by omega) hbytes)
   exact ⟨_,_,hr,⟨fresh 0,(Upd.refl _ w).drew.alloc _,.inr ⟨w.heap.size,rfl,Nat.le_refl _⟩⟩⟩
 by_cases hroom:n+m<=cap
 · have hfit:off+n*i.size+news.length<=cur.size:=by
    rw [hsrc.newsLen,Nat.add_assoc,<-Nat.add_mul]
    have:=Nat.mul_le_mul_right i.size hroom
    omega
   have hst:=run_storeCells_at P g (off+n*i.size) e news 0 cur w hg (by simpa using hfit) hsrc.one
   simp only [Nat.add_zero] at hst
   have hr:(Builtin.append_ #[t,tx] ty #[.slice (some ⟨g,off,none⟩) n cap,x]).run P w=.ok (.slice (some ⟨g,off,none⟩) (n+m) cap) (w.setRow g (cur.toList.take (off+n*i.size)++news++cur.toList.drop (off+n*i.size+news.length)).toArray):=by
    rcases hsrc.kind with ⟨e',hk⟩ | hk <;> simp [Builtin.append_,run_underlying ht,run_underlying hk,sizeOf,typeInfo,hi,hsrc.len,hroom,hsrc.cells,Addr.add_lit,hst]
   refine ⟨_,_,hr,⟨⟨hlen,.inr ⟨g,off,cap,_,rfl,hbg,setRow_heap w g cur _ e _ hg,hroom,hcm,?_,?_⟩⟩,⟨rfl,rfl,rfl,by simp,fun b _ hb=>setRow_other w g b _ (fun e=>hb (by simp [Value.ownBlock,e]))⟩,.inl rfl⟩⟩
   · simp only [List.size_toArray,List.length_append,List.length_take,List.length_drop,Array.length_toList]
     omega
   have h1:off<=(cur.toList.take (off+n*i.size)).length:=by
    rw [List.length_take,Array.length_toList]
    omega
   have h2:(cur.toList.take (off+n*i.size)).drop off=xs:=by
    rw [List.drop_take,<-htake]
    congr 1
    omega
   rw [List.append_assoc,List.drop_append_of_le_length h1,h2,<-List.append_assoc,<-hlen]
   exact List.take_left
 have holds:∀ j u,xs[j]?=some u->w.drew.cell? ((⟨g,off,none⟩:Addr).add j)=some u:=fun j u hu=>by
  have hrw:=Off.row (A:=some ⟨g,off,none⟩) (c:=cap) hown
  rw [addr_add]
  exact (hrw.cell _ rfl).2.2.2 j u hu
 have hr:=run_append_grow_src (P:=P) w t tx ty e i z ht hi hz (some ⟨g,off,none⟩) n cap xs (run_firstCells_some w.drew i.size n ⟨g,off,none⟩ n cap xs hown.1 holds) x m news hsrc (by omega) (by omega) (app_fits (by omega) hbytes)
 exact ⟨_,_,hr,⟨fresh cap,(Upd.refl _ w).drew.alloc _,.inr ⟨w.heap.size,rfl,Nat.le_refl _⟩⟩⟩
theorem wp_appO {w:World} {o:Oper} {a:Act} {K:Act->World->Prop} {Q:Exit->Act->World->Prop} (s x:Operand) (t tx:TypeId)
 (ho:o.op=.call { callee:=.builtin .append,args:=#[s,x],argTypes:=#[t,tx] })
 (base:Nat) (e:TypeId) (k bytes:Nat) (z:Value) (ht:P.underlying t=some (.slice e)) (hi:(P.info? e).map (fun i=>(i.zero,i.size,i.bytes))=some (some z,k,bytes))
 (hzs:z.cells.size=k)
 (v:Value) (n:Nat) (xs:List Value) (hs:a.eval s=v) (hown:Off w base e k v n xs)
 {xv:Value} {m:Nat} {news:List Value} (hx:a.eval x=xv) (hsrc:Src P k tx xv m news w)
 (h63:n+m<=maxLen) (hbytes:(n+m+1000)*bytes<=211106232532992) (hbase:base<=w.heap.size)
 (h:∀ v' w',GrewO w base e k v (n+m) (xs++news) v' w'->K (a.put o.dst v') w'):o.wp P a w K Q:=by
 obtain ⟨i,hi',hz,hk,hby⟩:=info_parts hi
 clear hi
 subst hk
 subst hby
 obtain ⟨v',w',hr,h2⟩:=run_app_off (P:=P) w t tx o.type base e i z ht hi' hz hzs v n xs hown xv m news hsrc h63 hbytes hbase
 unfold Oper.wp execOp
 simp only [ho,resolve,invoke,builtin,Sem.run_bind,Sem.run_pure,Result.andThen_ok,List.map_toArray,List.map_cons,List.map_nil,hs,hx,hr]
 exact h v' w' h2
theorem wpList_appO {w:World} {ops:Array Oper} {rest:List Oper} {o:Oper} {a:Act} {Q:Exit->Act->World->Prop} (hgd:o.guard=none) (s x:Operand) (t tx:TypeId)
 (ho:o.op=.call { callee:=.builtin .append,args:=#[s,x],argTypes:=#[t,tx] })
 (base:Nat) (e:TypeId) (k bytes:Nat) (z:Value) (ht:P.underlying t=some (.slice e)) (hi:(P.info? e).map (fun i=>(i.zero,i.size,i.bytes))=some (some z,k,bytes))
 (hzs:z.cells.size=k)
 (v:Value) (n:Nat) (xs:List Value) (hs:a.eval s=v) (hown:Off w base e k v n xs)
 {xv:Value} {m:Nat} {news:List Value} (hx:a.eval x=xv) (hsrc:Src P k tx xv m news w)
 (h63:n+m<=maxLen) (hbytes:(n+m+1000)*bytes<=211106232532992) (hbase:base<=w.heap.size)
 (h:∀ v' w',GrewO w base e k v (n+m) (xs++news) v' w'->wpList P ops Q rest (a.put o.dst v') w'):wpList P ops Q (o::rest) a w :=
 wpList_plain hgd fun _ hK=>wp_appO s x t tx ho base e k bytes z ht hi hzs v n xs hs hown hx hsrc h63 hbytes hbase fun v' w' h'=>hK _ _ (h v' w' h')
theorem step_appO {w:World} {ops:Array Oper} {o:Oper} {a:Act} {K:Act->World->Prop} {Q:Exit->Act->World->Prop} {E:Prop} (hgd:o.guard=none) (s x:Operand) (t tx:TypeId)
 (ho:o.op=.call { callee:=.builtin .append,args:=#[s,x],argTypes:=#[t,tx] })
 (base:Nat) (e:TypeId) (k bytes:Nat) (z:Value) (ht:P.underlying t=some (.slice e)) (hi:(P.info? e).map (fun i=>(i.zero,i.size,i.bytes))=some (some z,k,bytes))
 (hzs:z.cells.size=k)
 (v:Value) (n:Nat) (xs:List Value) (hs:a.eval s=v) (hown:Off w base e k v n xs)
 {xv:Value} {m:Nat} {news:List Value} (hx:a.eval x=xv) (hsrc:Src P k tx xv m news w)
 (h63:n+m<=maxLen) (hbytes:(n+m+1000)*bytes<=211106232532992) (hbase:base<=w.heap.size)
 (h:∀ v' w',GrewO w base e k v (n+m) (xs++news) v' w'->K (a.put o.dst v') w') :
 if Region.wanted o (yielded ops a.tmps)=true then Oper.wp P o a w K Q else E:=by
 have hw:Region.wanted o (yielded ops a.tmps)=true:=by simp [Region.wanted,hgd]
 rw [if_pos hw]
 exact wp_appO s x t tx ho base e k bytes z ht hi hzs v n xs hs hown hx hsrc h63 hbytes hbase h
end
end Go.Proofs.YtkopcinhbjimiaaGreatDoor
namespace Go.Proofs.YtkopcinhbjimiaaGreatDoor
abbrev crcPoly:BitVec 32:=0xedb88320#32
def bst (c:BitVec 32):BitVec 32:=(c >>> 1) ^^^ (if c.getLsbD 0 then crcPoly else 0#32)
def crcB (c:BitVec 32) (x:UInt8):BitVec 32:=bst (bst (bst (bst (bst (bst (bst (bst (c ^^^ x.toBitVec.setWidth 32))))))))
def crcU (c:BitVec 32) (bs:List UInt8):BitVec 32:=bs.foldl crcB c
def crcS (bs:List UInt8):BitVec 32 := ~~~ (crcU (~~~ 0#32) bs)
theorem bst_xor (a b:BitVec 32):bst (a ^^^ b)=bst a ^^^ bst b:=by
 unfold bst
 rw [BitVec.ushiftRight_xor_distrib,BitVec.getLsbD_xor]
 cases a.getLsbD 0 <;> cases b.getLsbD 0 <;> simp [BitVec.xor_assoc]
 · rw [BitVec.xor_comm (b >>> 1)]
 rw [BitVec.xor_comm crcPoly,BitVec.xor_assoc,BitVec.xor_self,BitVec.xor_zero]
theorem bst_top (c:BitVec 32):(bst c).getLsbD 31=c.getLsbD 0:=by
 unfold bst
 rw [BitVec.getLsbD_xor,BitVec.getLsbD_ushiftRight,BitVec.getLsbD_of_ge c (1+31) (by omega)]
 cases h:c.getLsbD 0
 · simp
 simp [crcPoly]
theorem bst_zero {c:BitVec 32} (h:bst c=0#32):c=0#32:=by
 have h0:c.getLsbD 0=false:=by rw [<- bst_top,h];simp
 unfold bst at h
 rw [h0] at h
 simp only [Bool.false_eq_true,if_false,BitVec.xor_zero] at h
 refine BitVec.eq_of_getLsbD_eq fun i hi=>?_
 cases i with
 | zero=>rw [h0];simp
 | succ i =>
   have h1:=congrArg (fun x:BitVec 32=>x.getLsbD i) h
   simp only [BitVec.getLsbD_ushiftRight] at h1
   rw [Nat.add_comm i 1,h1]
   simp
theorem bst_inj {a b:BitVec 32} (h:bst a=bst b):a=b:=by
 have h1:bst (a ^^^ b)=0#32:=by rw [bst_xor,h,BitVec.xor_self]
 exact BitVec.xor_eq_zero_iff.1 (bst_zero h1)
theorem crcB_inj {a b:BitVec 32} {x:UInt8} (h:crcB a x=crcB b x):a=b:=by
 unfold crcB at h
 exact (BitVec.xor_left_inj _).1 (bst_inj (bst_inj (bst_inj (bst_inj (bst_inj (bst_inj (bst_inj (bst_inj h))))))))
theorem crcU_inj {a b:BitVec 32}:∀ (bs:List UInt8),crcU a bs=crcU b bs->a=b:=by
 intro bs
 induction bs generalizing a b with
 | nil=>exact id
 | cons x bs ih=>exact fun h=>crcB_inj (ih h)
theorem crcU_app (c:BitVec 32) (a b:List UInt8):crcU c (a++b)=crcU (crcU c a) b:=by simp [crcU]
def crcT:Array (BitVec 32):=#[0x00000000#32,0x1db71064#32,0x3b6e20c8#32,0x26d930ac#32,0x76dc4190#32,0x6b6b51f4#32,0x4db26158#32,0x5005713c#32,0xedb88320#32,0xf00f9344#32,0xd6d6a3e8#32,0xcb61b38c#32,0x9b64c2b0#32,0x86d3d2d4#32,0xa00ae278#32,0xbdbdf21c#32]
theorem crcT_all:∀ k:Fin 16,crcT[k.val]?=some (bst (bst (bst (bst (BitVec.ofNat 32 k.val))))):=by decide
theorem bst_even {c:BitVec 32} (h:c.getLsbD 0=false):bst c=c >>> 1:=by
 unfold bst
 rw [h]
 simp
theorem bst4 (c:BitVec 32):bst (bst (bst (bst c)))=bst (bst (bst (bst (c &&& 15#32)))) ^^^ (c >>> 4):=by
 have hc:c=(c &&& 15#32) ^^^ (c &&& ~~~15#32):=by
  refine BitVec.eq_of_getLsbD_eq fun i hi=>?_
  simp only [BitVec.getLsbD_xor,BitVec.getLsbD_and,BitVec.getLsbD_not]
  cases c.getLsbD i <;> cases (15#32).getLsbD i <;> simp [hi]
 have hd:bst (bst (bst (bst (c &&& ~~~15#32))))=c >>> 4:=by
  have key:∀ j,j<4->(c &&& ~~~15#32).getLsbD j=false:=by
   intro j hj
   rw [BitVec.getLsbD_and,BitVec.getLsbD_not]
   have:(15#32).getLsbD j=true:=by
    rcases (by omega:j=0\/j=1\/j=2\/j=3) with rfl | rfl | rfl | rfl <;> decide
   rw [this];simp
  generalize hm:c &&& ~~~15#32=m at key
  rw [bst_even (key 0 (by omega))]
  rw [bst_even (c:=m >>> 1) (by rw [BitVec.getLsbD_ushiftRight];exact key 1 (by omega)),<-BitVec.shiftRight_add]
  rw [bst_even (c:=m >>> (1+1)) (by rw [BitVec.getLsbD_ushiftRight];exact key 2 (by omega)),<-BitVec.shiftRight_add]
  rw [bst_even (c:=m >>> (1+1+1)) (by rw [BitVec.getLsbD_ushiftRight];exact key 3 (by omega)),<-BitVec.shiftRight_add]
  rw [<- hm]
  refine BitVec.eq_of_getLsbD_eq fun i hi=>?_
  rw [BitVec.getLsbD_ushiftRight,BitVec.getLsbD_ushiftRight,BitVec.getLsbD_and,BitVec.getLsbD_not]
  by_cases h32:4+i<32
  · have:(15#32).getLsbD (4+i)=false:=by
     rw [BitVec.getLsbD_ofNat]
     have:Nat.testBit 15 (4+i)=false:=Nat.testBit_lt_two_pow (Nat.lt_of_lt_of_le (by decide:15<2 ^ 4) (Nat.pow_le_pow_right (by omega) (by omega)))
     rw [this];simp
    rw [this]
    simp [h32]
  rw [BitVec.getLsbD_of_ge c _ (by omega)];simp
 conv=>lhs;rw [hc]
 simp only [bst_xor]
 rw [hd]
theorem crcT_step (c:BitVec 32):∃ t,crcT[(c &&& 15#32).toNat]?=some t/\t ^^^ (c >>> 4)=bst (bst (bst (bst c)))/\(c &&& 15#32).toNat<16:=by
 have h16:(c &&& 15#32).toNat<16:=by
  rw [BitVec.toNat_and]
  exact Nat.lt_of_le_of_lt Nat.and_le_right (by decide)
 have h:=crcT_all ⟨_,h16⟩
 refine ⟨_,h,?_,h16⟩
 rw [BitVec.ofNat_toNat,BitVec.setWidth_eq]
 exact (bst4 c).symm
abbrev crcD:BitVec 32:=0x04c11db7#32
def dst (r:BitVec 32) (bit:Bool):BitVec 32:=(r <<< 1) ^^^ (if r.getLsbD 31 != bit then crcD else 0#32)
def bstN:Nat->BitVec 32->BitVec 32
 | 0,c=>c
 | k+1,c=>bst (bstN k c)
def crcW:List UInt8->BitVec 32
 | []=>0#32
 | x::l=>x.toBitVec.setWidth 32 ^^^ (crcW l <<< 8)
def bst8 (c:BitVec 32):BitVec 32:=bst (bst (bst (bst (bst (bst (bst (bst c)))))))
theorem bst8_xor (a b:BitVec 32):bst8 (a ^^^ b)=bst8 a ^^^ bst8 b:=by unfold bst8;simp only [bst_xor]
theorem bst8_inj {a b:BitVec 32} (h:bst8 a=bst8 b):a=b:=bst_inj (bst_inj (bst_inj (bst_inj (bst_inj (bst_inj (bst_inj (bst_inj h)))))))
theorem crcW_top:∀ (l:List UInt8) (i:Nat),8*l.length<=i->(crcW l).getLsbD i=false
 | [],i,_=>by simp [crcW]
 | x::l,i,h=>by
   rw [List.length_cons] at h
   unfold crcW
   rw [BitVec.getLsbD_xor,BitVec.getLsbD_setWidth,BitVec.getLsbD_of_ge x.toBitVec i (by omega),BitVec.getLsbD_shiftLeft,crcW_top l (i-8) (by omega)]
   simp
theorem bst8_shl {w:BitVec 32} (h:∀ i,24<=i->w.getLsbD i=false):bst8 (w <<< 8)=w:=by
 have key:∀ j,j<8->(w <<< 8).getLsbD j=false:=fun j hj=>by
  rw [BitVec.getLsbD_shiftLeft]
  simp [hj]
 have step:∀ k,k<=8->bstN k (w <<< 8)=(w <<< 8) >>> k:=by
  intro k
  induction k with
  | zero=>intro _;simp [bstN]
  | succ k ih =>
    intro hk
    simp only [bstN]
    rw [ih (by omega),bst_even (by rw [BitVec.getLsbD_ushiftRight];exact key _ (by omega)),<-BitVec.shiftRight_add]
 have h8:=step 8 (Nat.le_refl _)
 have e:bst8 (w <<< 8)=bstN 8 (w <<< 8):=rfl
 rw [e,h8]
 refine BitVec.eq_of_getLsbD_eq fun i hi=>?_
 rw [BitVec.getLsbD_ushiftRight,BitVec.getLsbD_shiftLeft]
 by_cases h24:24<=i
 · rw [h i h24,show 8+i-8=i by omega,h i h24]
   simp
 rw [show 8+i-8=i by omega,decide_eq_true (show 8+i<32 by omega),decide_eq_false (show ¬ 8+i<8 by omega)]
 rfl
def bst8N:Nat->BitVec 32->BitVec 32
 | 0,c=>c
 | k+1,c=>bst8N k (bst8 c)
theorem bst8N_inj:∀ (k:Nat) {a b:BitVec 32},bst8N k a=bst8N k b->a=b
 | 0,_,_,h=>h
 | k+1,_,_,h=>bst8_inj (bst8N_inj k h)
theorem crcU_word:∀ (l:List UInt8) (c:BitVec 32),l.length<=4->crcU c l=bst8N l.length (c ^^^ crcW l)
 | [],c,_=>by simp [crcU,bst8N,crcW]
 | x::l,c,h=>by
   rw [List.length_cons] at h
   have h1:=crcU_word l (crcB c x) (by omega)
   have e:crcU c (x::l)=crcU (crcB c x) l:=rfl
   have e2:crcB c x ^^^ crcW l=bst8 (c ^^^ crcW (x::l)):=by
    have h2:crcB c x=bst8 (c ^^^ x.toBitVec.setWidth 32):=rfl
    have h3:=bst8_shl (w:=crcW l) fun i hi=>crcW_top l i (by omega)
    rw [h2,crcW,<-BitVec.xor_assoc,bst8_xor (c ^^^ _),h3]
   rw [e,h1,e2]
   rfl
theorem crcW_inj:∀ (l m:List UInt8),l.length=m.length->l.length<=4->crcW l=crcW m->l=m
 | [],[],_,_,_=>rfl
 | x::l,y::m,hl,h4,h=>by
   rw [List.length_cons] at h4
   have hlm:l.length=m.length:=by simpa using hl
   unfold crcW at h
   have hg:∀ i,(x.toBitVec.setWidth 32 ^^^ (crcW l <<< 8)).getLsbD i=(y.toBitVec.setWidth 32 ^^^ (crcW m <<< 8)).getLsbD i:=fun i=>by rw [h]
   have hx:x=y:=by
    refine UInt8.toBitVec_inj.1 (BitVec.eq_of_getLsbD_eq fun i hi=>?_)
    have h1:=hg i
    rw [BitVec.getLsbD_xor,BitVec.getLsbD_xor,BitVec.getLsbD_shiftLeft,BitVec.getLsbD_shiftLeft,BitVec.getLsbD_setWidth,BitVec.getLsbD_setWidth,decide_eq_true hi,decide_eq_true (show i<32 by omega)] at h1
    simpa using h1
   subst hx
   have hw:crcW l=crcW m:=by
    refine BitVec.eq_of_getLsbD_eq fun i hi=>?_
    by_cases h24:24<=i
    · rw [crcW_top l i (by omega),crcW_top m i (by omega)]
    have h1:=hg (i+8)
    rw [BitVec.getLsbD_xor,BitVec.getLsbD_xor,BitVec.getLsbD_shiftLeft,BitVec.getLsbD_shiftLeft,BitVec.getLsbD_setWidth,BitVec.getLsbD_of_ge x.toBitVec (i+8) (by omega),show i+8-8=i by omega,decide_eq_true (show i+8<32 by omega),decide_eq_false (show ¬ i+8<8 by omega)] at h1
    simpa using h1
   rw [crcW_inj l m hlm (by omega) hw]
theorem crcU_burst {c:BitVec 32} {p q l m:List UInt8} (hl:l.length=m.length) (h4:l.length<=4) (h:crcU c (p++l++q)=crcU c (p++m++q)):l=m:=by
 rw [List.append_assoc,List.append_assoc,crcU_app,crcU_app c,crcU_app (crcU c p),crcU_app (crcU c p)] at h
 have h1:=crcU_inj q h
 rw [crcU_word l _ h4,crcU_word m _ (by omega),hl] at h1
 exact crcW_inj l m hl h4 (BitVec.xor_right_inj _ |>.1 (bst8N_inj _ h1))
theorem crcS_burst {p q l m:List UInt8} (hl:l.length=m.length) (h4:l.length<=4) (h:crcS (p++l++q)=crcS (p++m++q)):l=m:=by
 unfold crcS at h
 have h1:=congrArg (fun x:BitVec 32 => ~~~x) h
 simp only [BitVec.not_not] at h1
 exact crcU_burst hl h4 h1
end Go.Proofs.YtkopcinhbjimiaaGreatDoor
