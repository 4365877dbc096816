/- Texts that the claim leans on: walks and plain laws, function by function. -/
import Derived.Test.YtkopcinhbjimiaaGreatDoorTie
import Derived.Test.YtkopcinhbjimiaaGreatDoorCards
import Derived.SevenTiedAt
import Derived.Test.YtkopcinhbjimiaaGreatDoorS34
set_option maxRecDepth 100000
set_option maxHeartbeats 16000000
namespace Go.Proofs.YtkopcinhbjimiaaGreatDoor
open Go.RowKit
section
variable {w w':World} {B B':Nat} {v:Value} {l:List BS} {x:BS}
theorem ZbQ.type {S:Nat->Prop} {e':TypeId} (h:ZbQ w B v l) (hu:Upd S w w') (hS:∀ g,g<w.heap.size->S g->OfT w e' g) (h1:5≠e') (h2:28≠e'):ZbQ w' B v l :=
 ⟨ZaT h.row hu hS h2,fun x hx=>(h.each x hx).type hu hS h1⟩
end
attribute [local go_sem] Oper.semAt_some
theorem Zhn {S:Nat->Prop} {B:Nat} {W W':World} (hu:Upd S W W') (h:∀ k,S k->B<=k->∀ o,W.heap[k]?=some o->o.isCells=true):KeepsFrom B W W' :=
 ⟨hu.size,fun k o hB hk ho=>by
  by_cases hs:S k
  · rw [h k hs hB o hk] at ho;cases ho
  exact (hu.block k (Array.getElem?_eq_some_iff.1 hk).1 hs).trans hk⟩
def Zcx (B:Nat) (W:World) (ds:List Deferred):Prop:=∃ Ds:List Nat,ds=Ds.map (fun D=>{ target:=.collected D,args:=#[] })/\Ds.Nodup/\∀ D∈Ds,B<=D/\W.heap[D]?=some (.deferred (some []))
theorem Zcx.nil (B:Nat) (W:World):Zcx B W []:=⟨[],rfl,List.nodup_nil,fun _ h=>by cases h⟩
theorem Zcx.upd {S:Nat->Prop} {B:Nat} {W W':World} {ds:List Deferred} (h:Zcx B W ds) (hu:Upd S W W') (hS:∀ D,S D->W.heap[D]?≠some (.deferred (some []))):Zcx B W' ds:=by
 obtain ⟨Ds,h1,h2,h3⟩:=h
 refine ⟨Ds,h1,h2,fun D hD=>?_⟩
 obtain ⟨h4,h5⟩:=h3 D hD
 exact ⟨h4,(hu.block D (Array.getElem?_eq_some_iff.1 h5).1 fun hs=>hS D hs h5).trans h5⟩
theorem Zcx.alloc {B:Nat} {W:World} {ds:List Deferred} (h:Zcx B W ds) (o:Obj):Zcx B (W.alloc o) ds:=h.upd ((Upd.refl (fun _=>False) W).alloc o) fun _ f=>f.elim
theorem Zcx.put {B:Nat} {W:World} {ds:List Deferred} (h:Zcx B W ds) {g:Nat} {t:TypeId} {cs:Array Value} (hb:Blk W g t cs) (u:Value):Zcx B (W.setCell ⟨g,0,none⟩ u) ds :=
 h.upd ((Upd.refl (fun k=>k=g) W).put1 u) fun D hD h'=>by
  subst hD
  have h1:W.heap[D]?=some (.cells cs t (0,0)):=hb
  rw [h1] at h'
  cases h'
theorem Zcx.cons {B D:Nat} {W:World} {ds:List Deferred} (h:Zcx B W ds) {B':Nat} (hlt:∀ D',W.heap[D']?=some (.deferred (some []))->{ target:=.collected D',args:=#[] }∈ds->D'<B') (hD:B'<=D) (hB:B<=D) (hk:W.heap[D]?=some (.deferred (some []))):Zcx B W ({ target:=.collected D,args:=#[] }::ds):=by
 obtain ⟨Ds,h1,h2,h3⟩:=h
 refine ⟨D::Ds,by rw [h1];rfl,List.nodup_cons.2 ⟨fun hm=>?_,h2⟩,fun D' hD'=>?_⟩
 · have h4:=hlt D (h3 D hm).2 (by rw [h1];exact List.mem_map.2 ⟨D,hm,rfl⟩)
   omega
 rcases List.mem_cons.1 hD' with rfl | hD'
 · exact ⟨hB,hk⟩
 exact h3 D' hD'
theorem Zcx.lt {B:Nat} {W:World} {ds:List Deferred} (h:Zcx B W ds):∀ D',{ target:=.collected D',args:=#[] }∈ds->D'<W.heap.size:=fun D' hD'=>by
 obtain ⟨Ds,h1,h2,h3⟩:=h
 rw [h1] at hD'
 obtain ⟨D,hD,he⟩:=List.mem_map.1 hD'
 injection he with he _
 injection he with he
 subst he
 exact (Array.getElem?_eq_some_iff.1 (h3 D hD).2).1
theorem ZfS {F:Fence} {n:Nat} {P:Program} {fn:Func} {tmps:Array Value} {R:Ending->World->Prop}:∀ (Ds:List Nat) (W:World),Ds.Nodup->(∀ D∈Ds,W.heap[D]?=some (.deferred (some []))) ->
 (∀ W',Upd (fun k=>k∈Ds) W W'->LeavesIn F n P fn tmps R [] .returning W')->LeavesInM F n P fn tmps R (Ds.map (fun D=>{ target:=.collected D,args:=#[] })) .returning W
 | [],W,_,_,h=>h W (Upd.refl _ _)
 | D::Ds,W,hn,hd,h=>by
   obtain ⟨hn1,hn2⟩:=List.nodup_cons.1 hn
   have hup:=(Upd.refl (fun k=>k=D) W).grown (grownBy_putObj' W D (.deferred none)) fun k hk=>.inl (by injection hk with hk;exact hk.symm)
   refine ⟨by simp,.inl ⟨_,_,rfl,run_takeDeferred (hd D (by simp)),?_⟩⟩
   refine ZfS Ds _ hn2 (fun D' hD'=>?_) fun W' hu=>h W' ((hup.mono (S':=fun k=>k∈D::Ds) fun k _ hk=>by subst hk;simp).trans hu fun k _ hk=>by simp [hk])
   have h1:=hd D' (by simp [hD'])
   exact (hup.block D' (Array.getElem?_eq_some_iff.1 h1).1 fun e=>hn1 (e ▸ hD')).trans h1
theorem Zcx.leaves {F:Fence} {n:Nat} {P:Program} {fn:Func} {tmps:Array Value} {R:Ending->World->Prop} {B:Nat} {W:World} {ds:List Deferred} (hm:Zcx B W ds)
 (h:∀ W':World,Upd (fun k=>B<=k) W W'->(∀ k:Nat,(∃ c t f,W.heap[k]?=some (Obj.cells c t f))->W'.heap[k]?=W.heap[k]?)->LeavesIn F n P fn tmps R [] .returning W'):LeavesInM F n P fn tmps R ds .returning W:=by
 obtain ⟨Ds,rfl,h2,h3⟩:=hm
 refine ZfS Ds W h2 (fun D hD=>(h3 D hD).2) fun W' hu=>h W' (hu.mono fun k _ hk=>(h3 k hk).1) fun k ⟨c,t,f,hk⟩=>hu.block k (Array.getElem?_eq_some_iff.1 hk).1 fun hm=>?_
 have h4:=(h3 k hm).2
 rw [hk] at h4
 cases h4
end Go.Proofs.YtkopcinhbjimiaaGreatDoor
namespace Go.Proofs.YtkopcinhbjimiaaGreatDoor
open Go.ChangeShapes Go.WideShapes Go.ChangeAt Go.RowKit Go.Shelf
attribute [local go_sem] Oper.semAt_some
theorem WrB.piece {W:World} {B:Nat} {x:BS} (hp:Zaw W B x) (hf:FzB W x):WrB W B x.A x.n x.n:=by
 refine ⟨Nat.le_refl _,Nat.le_trans (Row.le hp) (Row.max hp),?_⟩
 cases hA:x.A with
 | none =>
   have h1:=Row.nil hp hA
   have h2:=Row.le hp
   exact .inl ⟨rfl,by omega⟩
 | some a =>
   obtain ⟨h1,h2,h3,h4⟩:=Row.cell hp a hA
   obtain ⟨h0,cs,fr,h5,h6⟩:=hf a hA
   obtain ⟨b,o,s⟩:=a
   simp only at h0 h1 h2 h3 h4 h5
   subst h0 h1
   refine .inr ⟨b,rfl,h3.1,h2,fun j hj=>?_⟩
   have hl:j<x.data.length:=by have:=Bytes.len hp;omega
   have hc:=h4 j (u8v x.data[j]) (by rw [List.getElem?_map,List.getElem?_eq_getElem hl];rfl)
   rw [Nat.zero_add] at hc
   refine ⟨by rw [hc];rfl,?_⟩
   have hj2:j<cs.size:=by
    have:cs[j]?=some (u8v x.data[j]):=by
     simp only [World.cell?,h5] at hc
     simpa using hc
    exact (Array.getElem?_eq_some_iff.1 this).1
   simp only [World.frozen?,h5]
   rcases h6 with h6 | h6
   · simp [h6]
   simp
   omega
theorem Zoe (f:Fn) (c:Array Value) (b:Array Value) (w:World):(binOp .eql 38 (.func f c b) .nilFunc).run Tryz.prog w=.ok (.bool false) w:=by kernel_rfl
theorem ZjO {L:List (List UInt8)} {xs:List BS} (h:xs.map BS.data=L):xs.length=L.length:=by rw [<- h,List.length_map]
theorem Zes {F:Nat->Prop} (w:World) (hN:Nib w) {g:GR} (h:RdG w F g) (hz:ZbJ g) :
 Calls Tryz.prog 5 #[g.agg] w fun e w'=>e=.returned (.bool true)/\Same w w':=by
 have hs2:=((Upd.refl (fun _=>False) w).alloc (.cells #[.slice g.AN g.nN g.cN,.slice g.AR g.nR g.cR] 26)).alloc (.cells #[.bool false] 4)
 have hb1:=(Blk.new w 26 #[.slice g.AN g.nN g.cN,.slice g.AR g.nR g.cR]).alloc (.cells #[.bool false] 4)
 have hb2:=Blk.new (w.alloc (.cells #[.slice g.AN g.nN g.cN,.slice g.AR g.nR g.cR] 26)) 4 #[.bool false]
 simp only [World.size_alloc] at hb2
 have S1:=qH hs2
 have R1:=qH (h.same hs2)
 have B1:=qH hb1
 have B2:=qH hb2
 have HZ:=qH hz
 have HN:=qH (hN.same hs2)
 obtain ⟨G,hG⟩:∃ G,g.dat=G:=⟨_,rfl⟩
 have HG:=qH hG
 clear h hz hs2 hb1 hb2 hN hG
 obtain ⟨ns,AN,nN,cN,rs,AR,nR,cR⟩:=g
 simp only at S1 B1 B2 R1 HN
 refine (callsIn_wide (n:=5)).1 ?_
 refine callsIn_of_wp_marks Tryz.func5 rfl trivial ?_ rfl
 simp only [Tryz.ntmps5,List.size_toArray,List.length_cons,List.length_nil,Nat.reduceAdd,Nat.reduceSub,Array.replicate_succ,Array.replicate_zero,List.push_toArray,List.append_toArray,List.nil_append,List.cons_append]
 refine wpIn_wide.2 ?_
 go_upto_region 1 with fail
 generalize (w.alloc (.cells #[.slice AN nN cN,.slice AR nR cR] 26)).alloc (.cells #[.bool false] 4)=w1 at *
 have c0:w1.cell? ⟨w.heap.size,0,none⟩=some (.slice AN nN cN):=B1.out.cell 0
 have c1:w1.cell? ⟨w.heap.size,1,none⟩=some (.slice AR nR cR):=B1.out.cell 1
 go_wp2_with fail
 refine (Zff w1 ⟨ns,AN,nN,cN,rs,AR,nR,cR⟩ R1.out HZ.out).mono ?_
 rintro e w2 ⟨⟨nsx,ANx,nNx,cNx,rsx,ARx,nRx,cRx⟩,rfl,HD,HO,hs2⟩
 have sA:=(Upd.refl (fun _=>False) w2).alloc (.cells #[.slice ANx nNx cNx,.slice ARx nRx cRx] 26)
 have B3:=qH (Blk.new w2 26 #[.slice ANx nNx cNx,.slice ARx nRx cRx])
 have HO3:=qH (HO.out.same sA)
 have HShp:=qH HO.out.shp
 have S12:=qH hs2
 have S23:=qH sA
 have HZx:=qH (ZdV R1.out HO.out.rd HZ.out HD.out)
 have HC3:=qH (show w2.heap.size<(w2.alloc (.cells #[.slice ANx nNx cNx,.slice ARx nRx cRx] 26)).heap.size by rw [World.size_alloc];omega)
 clear c0 c1 hs2 sA HO
 go_upto_region 2 with fail
 generalize w2.alloc (.cells #[.slice ANx nNx cNx,.slice ARx nRx cRx] 26)=w3 at *
 have c0:w3.cell? ⟨w2.heap.size,0,none⟩=some (.slice ANx nNx cNx):=B3.out.cell 0
 have c1:w3.cell? ⟨w2.heap.size,1,none⟩=some (.slice ARx nRx cRx):=B3.out.cell 1
 go_wp2_with fail
 refine (ZfM w3 ⟨nsx,ANx,nNx,cNx,rsx,ARx,nRx,cRx⟩ HO3.out.rd HZx.out).mono ?_
 rintro x w5 ⟨eB,gB,g',rfl,hEB,hGB,hOG,hDG,hs5,hle,hlg⟩
 have HE5:=qH hEB
 have HG5:=qH hGB
 have HO5:=qH hOG
 have HD5:=qH hDG
 have HLE:=qH (show w3.heap.size<=eB/\w3.heap.size<=gB from ⟨hle,hlg⟩)
 have S35:=qH hs5
 have HN5:=qH (((HN.out.same S12.out).same S23.out).same hs5)
 clear c0 c1 hEB hGB hOG hDG hs5 hle hlg
 have hnil:=Zoe (.func 36) #[] #[.pointer (some ⟨eB,0,none⟩),.pointer (some ⟨gB,0,none⟩)]
 go_wp2_with (go_at_call 12;refine (ZfO _ HN5.out).mono ?_;rintro e w6 ⟨rfl,hs6⟩;have HS6:=qH hs6;clear hs6;have d0:w6.cell? ⟨w2.heap.size,0,none⟩=some (.slice ANx nNx cNx):=((B3.out.same S35.out).same HS6.out).cell 0)
 clear hnil d0
 have S26:=qH ((S23.out.trans S35.out fun _ _ f=>f).trans HS6.out fun _ _ f=>f)
 have HMk:Hid (MkI w6 w1.heap.size w2.heap.size ⟨nsx,ANx,nNx,cNx,rsx,ARx,nRx,cRx⟩ w6):=qH ⟨HShp.out.upd S26.out fun _ _ _ f=>f,Upd.refl _ _⟩
 have HBox:=qH (fun wx (hu:Upd (fun b=>w1.heap.size<=b/\b<w2.heap.size) w6 wx)=>(show wx.cell? ⟨w2.heap.size,0,none⟩=some (.slice ANx nNx cNx)/\wx.cell? ⟨w2.heap.size,1,none⟩=some (.slice ARx nRx cRx) from ⟨(((B3.out.same S35.out).same HS6.out).upd hu fun hs=>by have:=hs.2;omega).cell 0,(((B3.out.same S35.out).same HS6.out).upd hu fun hs=>by have:=hs.2;omega).cell 1⟩))
 have HLn:=qH (show nsx.length=nNx from HO3.out.rd.nodes.len)
 have HLr:=qH (show rsx.length=nRx from HO3.out.rd.rels.len)
 have S16:=qH (S12.out.trans S26.out fun _ _ f=>f)
 have HE6:=qH (HE5.out.same HS6.out)
 have HG6:=qH (HG5.out.same HS6.out)
 have HO6:=qH (HO5.out.same HS6.out)
 have HW:=qH (show w.heap.size+1<w1.heap.size from B2.out.lt)
 have HSZ:=qH (show w1.heap.size<=w2.heap.size/\w2.heap.size<w3.heap.size from ⟨S12.out.size,HC3.out⟩)
 have HR3:=qH HO3.out.rd
 have hnNx:nNx*56<=140737488351232:=HZx.out.nN
 have hnRx:nRx*64<=140737488351232:=HZx.out.nR
 have HZxx:=qH (show (∀ x∈nsx,x.Sized)/\(∀ x∈rsx,x.Sized) from ⟨HZx.out.ns,HZx.out.rs⟩)
 clear HE5 HG5 HO5 HShp HZx B3 S23 S26 S35 HS6 HN5 HC3 HO3 S12
 generalize w2.heap.size=C at *
 generalize hBB:w1.heap.size=B at *
 go_loopg [5,26] nNx (fun gh s5 s26 wx=>∃ i:Nat,nNx-i=gh/\i<=nNx/\s26=.int .i64 (i:Int)/\Hid (MkI w6 B C ⟨nsx,ANx,nNx,cNx,rsx,ARx,nRx,cRx⟩ wx))
 case atStart=>exact ⟨0,rfl,Nat.zero_le _,rfl,HMk⟩
 obtain ⟨i,rfl,hi,rfl,KM⟩:=hrel
 by_cases hlt:i<nNx
 case pos =>
  have l1:(i:Int)<(nNx:Int):=by omega
  obtain ⟨x,hx⟩:∃ x,nsx[i]?=some x:=⟨_,List.getElem?_eq_getElem (by have:=HLn.out;omega)⟩
  obtain ⟨xi,xl,AL,nL,cL,xp,AP,nP,cP⟩:=x
  obtain ⟨nb,cs,rfl,hb1,hb2,hbk,hsz,_,_⟩:=KM.out.shp.nodes.row i _ hx
  obtain ⟨u,hu⟩:∃ u,cs[i*3]?=some u:=⟨_,Array.getElem?_eq_getElem (by omega)⟩
  have p0:wr.cell? ⟨nb,i*3,none⟩=some u:=(hbk.cell _).trans hu
  have f0:=hbk.frozen (i*3)
  obtain ⟨d0,d1⟩:=HBox.out wr KM.out.upd
  have hne:C≠nb:=by omega
  have KM2:=qH (KM.out.put hbk hb1 hb2 ⟨fun _=>by omega,fun e=>absurd e (by decide)⟩ (.int .i64 1023) (j:=i*3))
  have HX:=qH hx
  have hnP:nP*96<=140737488351232:=(HZxx.1 _ (List.mem_of_getElem? hx)).pro.n
  clear hx hbk hu hsz
  obtain ⟨e0,e1⟩:=HBox.out _ KM2.out.upd
  obtain ⟨q1,q2⟩:=KM2.out.shp.nodes.cells HX.out
  simp only at q1 q2
  go_wp2_with fail
  clear p0 f0 d0 d1 e0 e1 q1 q2
  generalize wr.setCell ⟨nb,i*3,none⟩ (.int .i64 1023)=wA at *
  go_loopg [6,41] nP (fun gh s6 s41 wx=>∃ k:Nat,nP-k=gh/\k<=nP/\s41=.int .i64 (k:Int)/\Hid (MkI w6 B C ⟨nsx,some ⟨nb,0,none⟩,nNx,cNx,rsx,ARx,nRx,cRx⟩ wx))
  case atStart=>exact ⟨0,rfl,Nat.zero_le _,rfl,KM2⟩
  obtain ⟨q,rfl,hq,rfl,PM⟩:=hrel
  obtain ⟨d0,d1⟩:=HBox.out _ PM.out.upd
  obtain ⟨q1,q2⟩:=PM.out.shp.nodes.cells HX.out
  simp only at q1 q2
  by_cases hqt:q<nP
  case pos =>
   have l3:(q:Int)<(nP:Int):=by omega
   obtain ⟨h,cs,hAP,hb3,hb4,hbk,hsz⟩:=PM.out.shp.nodes.props _ (List.mem_of_getElem? HX.out) q hqt
   simp only at hAP
   subst hAP
   obtain ⟨u,hu⟩:∃ u,cs[q*6]?=some u:=⟨_,Array.getElem?_eq_getElem (by omega)⟩
   have p0:wr.cell? ⟨h,q*6,none⟩=some u:=(hbk.cell _).trans hu
   have f0:=hbk.frozen (q*6)
   have PM2:=qH (PM.out.put hbk hb3 hb4 ⟨fun e=>absurd e (by decide),fun e=>absurd e (by decide)⟩ (.string ⟨#[122,122]⟩) (j:=q*6))
   clear hbk hu hsz
   go_wp2_with fail
   go_roundg (nP-(q+1))
   case measure=>omega
   case rel=>exact ⟨q+1,rfl,by omega,by go_num,PM2⟩
  obtain rfl:q=nP:=by omega
  have l3:¬ (q:Int)<(q:Int):=by omega
  generalize wr=wC at *
  go_wp2_with fail
  go_roundg (nNx-(i+1))
  case measure=>omega
  case rel=>exact ⟨i+1,rfl,by omega,by go_num,PM⟩
 obtain rfl:i=nNx:=by omega
 have l1:¬ (i:Int)<(i:Int):=by omega
 obtain ⟨d0,d1⟩:=HBox.out wr KM.out.upd
 generalize wr=wD at *
 generalize i=nNx at *
 go_wp2_with fail
 clear d0 d1
 go_loopg [7,58] nRx (fun gh s7 s58 wx=>∃ i:Nat,nRx-i=gh/\i<=nRx/\s58=.int .i64 (i:Int)/\Hid (MkI w6 B C ⟨nsx,ANx,nNx,cNx,rsx,ARx,nRx,cRx⟩ wx))
 case atStart=>exact ⟨0,rfl,Nat.zero_le _,rfl,KM⟩
 obtain ⟨i,rfl,hi,rfl,KR⟩:=hrel
 by_cases hlt:i<nRx
 case pos =>
  have l2:(i:Int)<(nRx:Int):=by omega
  obtain ⟨x,hx⟩:∃ x,rsx[i]?=some x:=⟨_,List.getElem?_eq_getElem (by have:=HLr.out;omega)⟩
  obtain ⟨xi,xt,xs,xd,xp,AP,nP,cP⟩:=x
  obtain ⟨nb,cs,rfl,hb1,hb2,hbk,hsz,_⟩:=KR.out.shp.rels.row i _ hx
  obtain ⟨u,hu⟩:∃ u,cs[i*5+1]?=some u:=⟨_,Array.getElem?_eq_getElem (by omega)⟩
  have p0:wr.cell? ⟨nb,i*5+1,none⟩=some u:=(hbk.cell _).trans hu
  have f0:=hbk.frozen (i*5+1)
  obtain ⟨d0,d1⟩:=HBox.out wr KR.out.upd
  have KR2:=qH (KR.out.put hbk hb1 hb2 ⟨fun e=>absurd e (by decide),fun _=>by omega⟩ (.string ⟨#[90,90]⟩) (j:=i*5+1))
  clear hx hbk hu hsz
  go_wp2_with fail
  go_roundg (nRx-(i+1))
  case measure=>omega
  case rel=>exact ⟨i+1,rfl,by omega,by go_num,KR2⟩
 obtain rfl:i=nRx:=by omega
 have l2:¬ (i:Int)<(i:Int):=by omega
 generalize wr=wE at *
 have HU:=qH KR.out.upd
 have SE:=qH (show Same w1 wE from S16.out.trans HU.out fun b hb hs=>by have:=hs.1;omega)
 have HEe:=qH (HE6.out.upd HU.out fun hs=>by have:=HLE.1;have:=HSZ.out;have:=hs.2;omega)
 have HGe:=qH (HG6.out.upd HU.out fun hs=>by have:=HLE.2;have:=HSZ.out;have:=hs.2;omega)
 have HOe:=qH (HO6.out.low HU.out fun b hs=>by have:=HSZ.out;have:=hs.2;omega)
 have HNe:=qH (HN.out.same SE.out)
 have B1e:=qH (B1.out.same SE.out)
 have B2e:=qH (B2.out.same SE.out)
 have HSQ:=qH (ZnT HR3.out HEe.out HGe.out HOe.out HD5.out HNe.out wE.heap.size (Nat.le_refl _) (by have h1:=HN.1;have:=SE.out.size;omega))
 rw [HD.out,HG.out] at HSQ
 have hpc:(if (chkP G).1=0 then Zba G else [])=pcsP G:=rfl
 rw [hpc] at HSQ
 obtain ⟨L,hL⟩:∃ L,pcsP G=L:=⟨_,rfl⟩
 rw [hL] at HSQ
 have HL:=qH hL
 have c0:wE.cell? ⟨w.heap.size,0,none⟩=some (.slice AN nN cN):=B1e.out.cell 0
 have c1:wE.cell? ⟨w.heap.size,1,none⟩=some (.slice AR nR cR):=B1e.out.cell 1
 clear hpc hL KM KR HBox HMk HU HE6 HG6 HO6 HEe HGe HOe B1e B1 S16 HR3 HLE HD5 HLn HLr
 go_wp2_with fail
 refine (ZfN wE ⟨ns,AN,nN,cN,rs,AR,nR,cR⟩ (R1.out.same SE.out) HZ.out).mono ?_
 rintro e w7 ⟨AW,cW,pl,rfl,hOW,hDW,hs7⟩
 rw [HG.out,HL.out] at hDW
 have sB:=(Upd.refl (fun _=>False) w7).alloc (.cells #[.slice AW pl.length cW] 51)
 have HB8:=qH (Blk.new w7 51 #[.slice AW pl.length cW])
 have HOW:=qH (hOW.same sB)
 have HPL:Hid (pl.map BS.data=L):=qH hDW
 have SE8:=qH (hs7.trans sB fun _ _ f=>f)
 have S18:=qH (SE.out.trans SE8.out fun _ _ f=>f)
 have B28:=qH (B2e.out.same SE8.out)
 clear c0 c1 hOW hDW hs7 sB SE B2 B2e
 go_upto_region 21 with fail
 generalize w7.alloc (.cells #[.slice AW pl.length cW] 51)=wx at *
 generalize w7.heap.size=b8 at *
 have HS9:=qH ((Upd.refl (fun _=>False) wx).alloc (.cells #[.int .i64 0] 3))
 have HB9:=qH (Blk.new wx 3 #[.int .i64 0])
 have hb8:=HB8.out.lt
 have HPN:=qH (ZjO HPL.out)
 have HwB:=qH (show w.heap.size+1<wx.heap.size from B28.out.lt)
 have HEz:=qH SE8.out.size
 go_wp2_with fail
 refine wp_loop_ghost_k (fun k a w'=>∃ (r g9:Nat) (ds:List Deferred) (u0 u1 u3 u5 u6 u7 u10 u11 u12 u13 u14 u15 u16 u17 u18 u19 u20 u21 u22 u23 u24 u25 u26 u27 u28 u29 u30 u31 u32 u33 u34 u35 u36 u37 u38 u39 u40 u41 u42 u43 u44 u45 u46 u47 u48 u49 u50 u51 u52 u53 u54 u55 u56 u57 u58 u59 u60 u61 u62 u63 u64 u65 u66 u67 u68 u69 u70 u71 u72 u73 u74 u75 u76 u77 u78 u79 u80 u81 u82 u83 u84 u85 u86 u87 u88 u89 u90 u91 u92 u93 u94 u95 u96 u97 u98 u99 u100 u101 u102 u103 u104 u105 u106 u107 u108 u109 u110 u111 u112 u113 u114 u115 u116 u117 u118 u119 u120 u121 u122 u123 u124:Value),(3-r=k/\r<=3/\Hid (Blk w' g9 3 #[.int .i64 (r:Int)])/\Hid (Same wx w')/\Hid (wx.heap.size<=g9)/\Hid (Zcx wx.heap.size w' ds))/\a={ tmps:=#[u0,u1,.pointer (some ⟨w.heap.size+1,0,none⟩),u3,.func (.func 36) #[] #[.pointer (some ⟨eB,0,none⟩),.pointer (some ⟨gB,0,none⟩)],u5,u6,u7,.pointer (some ⟨b8,0,none⟩),.pointer (some ⟨g9,0,none⟩),u10,u11,u12,u13,u14,u15,u16,u17,u18,u19,u20,u21,u22,u23,u24,u25,u26,u27,u28,u29,u30,u31,u32,u33,u34,u35,u36,u37,u38,u39,u40,u41,u42,u43,u44,u45,u46,u47,u48,u49,u50,u51,u52,u53,u54,u55,u56,u57,u58,u59,u60,u61,u62,u63,u64,u65,u66,u67,u68,u69,u70,u71,u72,u73,u74,u75,u76,u77,u78,u79,u80,u81,u82,u83,u84,u85,u86,u87,u88,u89,u90,u91,u92,u93,u94,u95,u96,u97,u98,u99,u100,u101,u102,u103,u104,u105,u106,u107,u108,u109,u110,u111,u112,u113,u114,u115,u116,u117,u118,u119,u120,u121,u122,u123,u124],defers:=ds }) 3 ?_ ?_
 · (repeat apply Exists.intro)
   exact ⟨⟨rfl,Nat.zero_le _,HB9,HS9,qH (Nat.le_refl _),qH (Zcx.nil _ _)⟩,rfl⟩
 intro gk a wr hinv
 obtain ⟨r,g9,ds,hinv⟩:=hinv
 obtain ⟨u0,hinv⟩:=hinv
 obtain ⟨u1,hinv⟩:=hinv
 obtain ⟨u3,hinv⟩:=hinv
 obtain ⟨u5,hinv⟩:=hinv
 obtain ⟨u6,hinv⟩:=hinv
 obtain ⟨u7,hinv⟩:=hinv
 obtain ⟨u10,hinv⟩:=hinv
 obtain ⟨u11,hinv⟩:=hinv
 obtain ⟨u12,hinv⟩:=hinv
 obtain ⟨u13,hinv⟩:=hinv
 obtain ⟨u14,hinv⟩:=hinv
 obtain ⟨u15,hinv⟩:=hinv
 obtain ⟨u16,hinv⟩:=hinv
 obtain ⟨u17,hinv⟩:=hinv
 obtain ⟨u18,hinv⟩:=hinv
 obtain ⟨u19,hinv⟩:=hinv
 obtain ⟨u20,hinv⟩:=hinv
 obtain ⟨u21,hinv⟩:=hinv
 obtain ⟨u22,hinv⟩:=hinv
 obtain ⟨u23,hinv⟩:=hinv
 obtain ⟨u24,hinv⟩:=hinv
 obtain ⟨u25,hinv⟩:=hinv
 obtain ⟨u26,hinv⟩:=hinv
 obtain ⟨u27,hinv⟩:=hinv
 obtain ⟨u28,hinv⟩:=hinv
 obtain ⟨u29,hinv⟩:=hinv
 obtain ⟨u30,hinv⟩:=hinv
 obtain ⟨u31,hinv⟩:=hinv
 obtain ⟨u32,hinv⟩:=hinv
 obtain ⟨u33,hinv⟩:=hinv
 obtain ⟨u34,hinv⟩:=hinv
 obtain ⟨u35,hinv⟩:=hinv
 obtain ⟨u36,hinv⟩:=hinv
 obtain ⟨u37,hinv⟩:=hinv
 obtain ⟨u38,hinv⟩:=hinv
 obtain ⟨u39,hinv⟩:=hinv
 obtain ⟨u40,hinv⟩:=hinv
 obtain ⟨u41,hinv⟩:=hinv
 obtain ⟨u42,hinv⟩:=hinv
 obtain ⟨u43,hinv⟩:=hinv
 obtain ⟨u44,hinv⟩:=hinv
 obtain ⟨u45,hinv⟩:=hinv
 obtain ⟨u46,hinv⟩:=hinv
 obtain ⟨u47,hinv⟩:=hinv
 obtain ⟨u48,hinv⟩:=hinv
 obtain ⟨u49,hinv⟩:=hinv
 obtain ⟨u50,hinv⟩:=hinv
 obtain ⟨u51,hinv⟩:=hinv
 obtain ⟨u52,hinv⟩:=hinv
 obtain ⟨u53,hinv⟩:=hinv
 obtain ⟨u54,hinv⟩:=hinv
 obtain ⟨u55,hinv⟩:=hinv
 obtain ⟨u56,hinv⟩:=hinv
 obtain ⟨u57,hinv⟩:=hinv
 obtain ⟨u58,hinv⟩:=hinv
 obtain ⟨u59,hinv⟩:=hinv
 obtain ⟨u60,hinv⟩:=hinv
 obtain ⟨u61,hinv⟩:=hinv
 obtain ⟨u62,hinv⟩:=hinv
 obtain ⟨u63,hinv⟩:=hinv
 obtain ⟨u64,hinv⟩:=hinv
 obtain ⟨u65,hinv⟩:=hinv
 obtain ⟨u66,hinv⟩:=hinv
 obtain ⟨u67,hinv⟩:=hinv
 obtain ⟨u68,hinv⟩:=hinv
 obtain ⟨u69,hinv⟩:=hinv
 obtain ⟨u70,hinv⟩:=hinv
 obtain ⟨u71,hinv⟩:=hinv
 obtain ⟨u72,hinv⟩:=hinv
 obtain ⟨u73,hinv⟩:=hinv
 obtain ⟨u74,hinv⟩:=hinv
 obtain ⟨u75,hinv⟩:=hinv
 obtain ⟨u76,hinv⟩:=hinv
 obtain ⟨u77,hinv⟩:=hinv
 obtain ⟨u78,hinv⟩:=hinv
 obtain ⟨u79,hinv⟩:=hinv
 obtain ⟨u80,hinv⟩:=hinv
 obtain ⟨u81,hinv⟩:=hinv
 obtain ⟨u82,hinv⟩:=hinv
 obtain ⟨u83,hinv⟩:=hinv
 obtain ⟨u84,hinv⟩:=hinv
 obtain ⟨u85,hinv⟩:=hinv
 obtain ⟨u86,hinv⟩:=hinv
 obtain ⟨u87,hinv⟩:=hinv
 obtain ⟨u88,hinv⟩:=hinv
 obtain ⟨u89,hinv⟩:=hinv
 obtain ⟨u90,hinv⟩:=hinv
 obtain ⟨u91,hinv⟩:=hinv
 obtain ⟨u92,hinv⟩:=hinv
 obtain ⟨u93,hinv⟩:=hinv
 obtain ⟨u94,hinv⟩:=hinv
 obtain ⟨u95,hinv⟩:=hinv
 obtain ⟨u96,hinv⟩:=hinv
 obtain ⟨u97,hinv⟩:=hinv
 obtain ⟨u98,hinv⟩:=hinv
 obtain ⟨u99,hinv⟩:=hinv
 obtain ⟨u100,hinv⟩:=hinv
 obtain ⟨u101,hinv⟩:=hinv
 obtain ⟨u102,hinv⟩:=hinv
 obtain ⟨u103,hinv⟩:=hinv
 obtain ⟨u104,hinv⟩:=hinv
 obtain ⟨u105,hinv⟩:=hinv
 obtain ⟨u106,hinv⟩:=hinv
 obtain ⟨u107,hinv⟩:=hinv
 obtain ⟨u108,hinv⟩:=hinv
 obtain ⟨u109,hinv⟩:=hinv
 obtain ⟨u110,hinv⟩:=hinv
 obtain ⟨u111,hinv⟩:=hinv
 obtain ⟨u112,hinv⟩:=hinv
 obtain ⟨u113,hinv⟩:=hinv
 obtain ⟨u114,hinv⟩:=hinv
 obtain ⟨u115,hinv⟩:=hinv
 obtain ⟨u116,hinv⟩:=hinv
 obtain ⟨u117,hinv⟩:=hinv
 obtain ⟨u118,hinv⟩:=hinv
 obtain ⟨u119,hinv⟩:=hinv
 obtain ⟨u120,hinv⟩:=hinv
 obtain ⟨u121,hinv⟩:=hinv
 obtain ⟨u122,hinv⟩:=hinv
 obtain ⟨u123,hinv⟩:=hinv
 obtain ⟨u124,hinv⟩:=hinv
 obtain ⟨⟨hgk,hr3,KB,KS,KG,KM⟩,ha⟩:=hinv
 subst ha
 subst hgk
 intro _ _ _ _
 have p9:wr.cell? ⟨g9,0,none⟩=some (.int .i64 (r:Int)):=KB.out.cell 0
 have hzr:=KS.out.size
 have hgl:=KB.out.lt
 have hg9:=KG.out
 by_cases hlt:r<3
 case pos =>
  have hr3i:(r:Int)<3:=by omega
  have hsA:=(Upd.refl (fun _=>False) wr).alloc (.cells #[.int .i64 0] 3)
  have SA:=qH (KS.out.same hsA)
  have B9:=qH (KB.out.alloc (.cells #[.int .i64 0] 3))
  have B10:=qH (Blk.new wr 3 #[.int .i64 0])
  have MA:=qH (KM.out.alloc (.cells #[.int .i64 0] 3))
  clear hsA
  go_wp2_with fail
  generalize wr.alloc (.cells #[.int .i64 0] 3)=Ws at *
  generalize wr.heap.size=g10 at *
  have hz10:=B10.out.lt
  have hzx:=SA.out.size
  have hEs:=HEz.out
  have HQs:=qH (HSQ.out Ws (SE8.out.trans SA.out fun _ _ f=>f) (by omega))
  refine (wpIn_wide (n:=5)).1 ?_
  refine Zcs (T:=TDig) rfl (by omega) (gf:=36) (lb:=#[.pointer (some ⟨eB,0,none⟩),.pointer (some ⟨gB,0,none⟩)]) rfl trivial (enters_of Tryz.func36 (by kernel_rfl) rfl) HQs.out ZaD.trans
   (fun x W l o o' hl ho hc=>(Upd.refl _ W).grown (grownBy_putObj' W l o') fun k e=>.inl (by cases e;exact ZaD.nc ho hc (by omega))) (Below.refl _ _) (fun _=>rfl)
   (fun pre W=>Hid (Blk W g10 3 #[.int .i64 (pre.length:Int)])/\Hid (r=1->pre.length<=1)/\Hid (Upd (fun k=>k=g10) Ws W))
   (fun c pre W=>c=.exit 8/\r=1/\Hid (pre.length=2)/\Hid (Blk W g10 3 #[.int .i64 2])/\Hid (Upd (fun k=>k=g10) Ws W))
   (fun pre W W' ⟨h1,h2,h3⟩ hu=>⟨qH (h1.out.upd hu fun hs=>by have:=hs.1;omega),h2,qH (h3.out.trans hu fun b hb hs=>by have:=hs.1;omega)⟩)
   (fun c pre W W' ⟨h0,h1,h2,h3,h4⟩ hu=>⟨h0,h1,h2,qH (h3.out.upd hu fun hs=>by have:=hs.1;omega),qH (h4.out.trans hu fun b hb hs=>by have:=hs.1;omega)⟩)
   ⟨B10,qH fun _=>Nat.zero_le _,qH (Upd.refl _ _)⟩
   (fun pre x a' W=>a'={ tmps:=#[u0,u1,.pointer (some ⟨w.heap.size+1,0,none⟩),u3,.func (.func 36) #[] #[.pointer (some ⟨eB,0,none⟩),.pointer (some ⟨gB,0,none⟩)],u5,u6,u7,.pointer (some ⟨b8,0,none⟩),.pointer (some ⟨g9,0,none⟩),.pointer (some ⟨g10,0,none⟩),.slice x.A x.n x.c,u12,u13,u14,u15,u16,u17,u18,u19,u20,u21,u22,u23,u24,u25,u26,u27,u28,u29,u30,u31,u32,u33,u34,u35,u36,u37,u38,u39,u40,u41,u42,u43,u44,u45,u46,u47,u48,u49,u50,u51,u52,u53,u54,u55,u56,u57,u58,u59,u60,u61,u62,u63,u64,u65,u66,u67,u68,.int .i64 (r:Int),.bool true,u71,u72,.func (.func 36) #[] #[.pointer (some ⟨eB,0,none⟩),.pointer (some ⟨gB,0,none⟩)],.slice x.A x.n x.c,u75,u76,u77,u78,u79,u80,u81,u82,u83,u84,u85,u86,u87,u88,u89,u90,u91,u92,u93,u94,u95,u96,u97,u98,u99,u100,u101,u102,u103,u104,u105,u106,u107,u108,u109,u110,u111,u112,u113,u114,u115,u116,u117,u118,u119,u120,u121,u122,u123,u124],defers:=[] }/\PcR L Ws.heap.size pre x W/\FzB W x)
   (fun pre x a' W l o o' hl ho hc h=>⟨h.1,⟨h.2.1.at_,h.2.1.row.upd ((Upd.refl (fun b=>b=l) W).grown (grownBy_putObj' W l o') fun k e=>.inl (by injection e with e;exact e.symm)) fun b hb e=>by
     subst e
     obtain ⟨_,_,cs,fr,h4⟩:=hb
     rw [ho] at h4
     injection h4 with h4
     subst h4
     cases hc⟩,h.2.2.upd ((Upd.refl (fun b=>b=l) W).grown (grownBy_putObj' W l o') fun k e=>.inl (by injection e with e;exact e.symm)) fun b cs fr h4 e=>by
     subst e
     rw [ho] at h4
     injection h4 with h4
     subst h4
     cases hc⟩) ?assign ?body ?done ?stop
  case assign =>
   intro l pre x W K hi hr hK
   dsimp only [BS.args]
   gi_wp2
   exact hK _ _ (KeepsFrom.refl _ _) (Upd.refl _ _) hi ⟨rfl,hr⟩
  case body =>
   rintro l pre x a' W hl hlo ⟨h1,h2,h3⟩ ⟨rfl,hp,hfz⟩
   obtain ⟨xd,xA,xn,xc⟩:=x
   have UW1:=h3.out
   have p10:W.cell? ⟨g10,0,none⟩=some (.int .i64 (pre.length:Int)):=h1.out.cell 0
   have p9:W.cell? ⟨g9,0,none⟩=some (.int .i64 (r:Int)):=(B9.out.upd UW1 (by omega)).cell 0
   have p8:W.cell? ⟨b8,0,none⟩=some (.slice AW pl.length cW):=((HB8.out.same SA.out).upd UW1 (by omega)).cell 0
   have hlt':pre.length<pl.length:=by rw [HPN.out];exact (List.getElem?_eq_some_iff.1 hp.at_).1
   have HOw:=qH ((HOW.out.same SA.out).type UW1 (fun g _ e=>by subst e;exact ⟨_,B10.out⟩) (by decide) (by decide))
   obtain ⟨b,o,y,rfl,hb,hy,hym,hc⟩:=HOw.out.at_ rfl hlt'
   have hyd:y.data=xd:=by
    have h5:L[pre.length]?=some y.data:=by rw [<- HPL.out,List.getElem?_map,hy];rfl
    rw [hp.at_] at h5
    injection h5 with h5
    exact h5.symm
   have HSM:=qH (Zhc W hp.row (HOw.out.each _ hym) (decide_eq_true hyd.symm))
   have HWr:=qH (WrB.piece hp.row hfz)
   have hxm:xn<=maxLen:=HWr.out.max
   unfold maxLen at hxm
   have hge:¬ (pl.length:Int)<=(pre.length:Int):=by omega
   have hpl:pl.length<=maxLen:=Nat.le_trans (Row.of_own HOw.out.row).le (Row.of_own HOw.out.row).max
   unfold maxLen at hpl
   have HFz:=qH hfz
   have HXA:Hid (∀ q,xA=some ⟨q,0,none⟩->Ws.heap.size<=q):=qH fun q hq=>by
    rcases HWr.out.cell with h0 | ⟨g',e,h1,_⟩
    · rw [show xA=some ⟨q,0,none⟩ from hq] at h0;cases h0.1
    rw [show xA=some ⟨q,0,none⟩ from hq] at e;injection e with e;injection e with e;subst e;exact h1
   have K1:=h1
   have K2:=h2
   have K3:=h3
   obtain ⟨yd,yA,yn,yc⟩:=y
   simp only at hc
   clear hy hym hyd hp hfz h1 h2 h3 UW1
   gi_wp2_with (refine ⟨trivial,?_⟩;gi_at_call 16;refine (CallsIn.inRound l (callsIn_wide.2 HSM.out)).mono ?_;rintro e w' ⟨rfl,rfl⟩)
   clear p10 p9 p8 hc hge
   gi_loopw [12,90] (fun s12 s90 wr=>∃ k:Nat,k<=xn/\s90=.int .i64 (k:Int)/\Hid (WrB wr Ws.heap.size xA xn xn)/\Hid (Upd (fun q=>xA=some ⟨q,0,none⟩) W wr)) (fun _ s90 _=>xn-(intOf s90).toNat)
   case atStart=>exact ⟨0,Nat.zero_le _,rfl,HWr,qH (Upd.refl _ _)⟩
   obtain ⟨k,hk,rfl,LB,LU⟩:=hrel
   by_cases hkt:k<xn
   case pos =>
    have l1:(k:Int)<(xn:Int):=by omega
    obtain ⟨gI,hgI,_,_,hcell⟩:∃ g,xA=some ⟨g,0,none⟩/\Ws.heap.size<=g/\g<wr.heap.size/\∀ j,j<xn->(wr.cell? ⟨g,j,none⟩).isSome=true/\wr.frozen? ⟨g,j,none⟩=false:=by
     rcases LB.out.cell with h0 | h0
     · have:=h0.2;omega
     exact h0
    subst hgI
    obtain ⟨v,hck⟩:=Option.isSome_iff_exists.1 (hcell k (by omega)).1
    have hfk:=(hcell k (by omega)).2
    have LU2:=qH (LU.out.put (r:=gI) (i:=k) rfl (.int .u8 238))
    have LB2:=qH (LB.out.put (k:=k) (.int .u8 238))
    clear hcell
    gi_wp2
    go_roundw
    case rel=>exact ⟨k+1,by omega,by first | go_num | simp,LB2,LU2⟩
    case measure=>simp [intOf];omega
   obtain rfl:k=xn:=by omega
   have ln:¬ (k:Int)<(k:Int):=by omega
   have H10:=qH (K1.out.upd LU.out fun e=>by have:=HXA.out _ e;omega)
   have p10:wr.cell? ⟨g10,0,none⟩=some (.int .i64 (pre.length:Int)):=H10.out.cell 0
   have f10:wr.frozen? ⟨g10,0,none⟩=false:=H10.out.frozen 0
   have p9:wr.cell? ⟨g9,0,none⟩=some (.int .i64 (r:Int)):=((B9.out.upd K3.out (by omega)).upd LU.out fun e=>by have:=HXA.out _ e;omega).cell 0
   have hw:IntKind.i64.wrap ((pre.length:Int)+1)=(pre.length:Int)+1:=by rw [IntKind.wrap_i64];omega
   have HU3:=qH ((LU.out.mono (S':=fun q=>q=g10\/xA=some ⟨q,0,none⟩) fun _ _ e=>.inr e).put (r:=g10) (i:=0) (.inl rfl) (.int .i64 ((pre.length:Int)+1)))
   have HKF:Hid (KeepsFrom Ws.heap.size W (wr.setCell ⟨g10,0,none⟩ (.int .i64 ((pre.length:Int)+1)))):=qH (Zhn HU3.out fun q hq hB o ho=>by
    rcases hq with rfl | hq
    · omega
    obtain ⟨_,cs,fr,h5,_⟩:=HFz.out _ hq
    rw [h5] at ho
    injection ho with ho
    subst ho
    rfl)
   have HKP:Hid (Upd (ZaD UW wE.heap.size W) W (wr.setCell ⟨g10,0,none⟩ (.int .i64 ((pre.length:Int)+1)))):=qH (HU3.out.mono fun q _ hq=>by
    rcases hq with rfl | hq
    · exact OfT.itSet ⟨_,K1.out⟩ (by omega) (.inr (.inr (.inr (.inl rfl))))
    obtain ⟨_,cs,fr,h5,_⟩:=HFz.out _ hq
    exact ⟨by have:=HXA.out _ hq;omega,_,h5,.inr ⟨_,_,_,rfl,.inl rfl⟩⟩)
   have HI1:=qH (H10.out.put 0 (.int .i64 ((pre.length:Int)+1)))
   have HI3:Hid (Upd (fun q=>q=g10) Ws (wr.setCell ⟨g10,0,none⟩ (.int .i64 ((pre.length:Int)+1)))):=qH (K3.out.trans HU3.out fun q hq hh=>by
    rcases hh with hh | hh
    · exact hh
    have:=HXA.out _ hh;omega)
   have hln:(pre++[(⟨xd,xA,k,xc⟩:BS)]).length=pre.length+1:=by simp
   clear LU LB H10 HU3
   by_cases hr1:r=1
   · have hri:(r:Int)=1:=by omega
     have hp1:=K2.out hr1
     by_cases hp0:pre.length=1
     · have hk2:(pre.length:Int)+1=2:=by omega
       gi_wp2
       have e1:=HKF.out
       have e2:=HI1.out
       have e3:=HI3.out
       rw [hk2] at e1 e2 e3
       exact ⟨e1,rfl,qH (by rw [hln,hp0]),qH e2,qH e3⟩
     have hk2:¬ ((pre.length:Int)+1=2):=by omega
     gi_wp2
     exact ⟨HKF.out,HKP.out,qH (by rw [hln];exact HI1.out),qH (by rw [hln];omega),HI3⟩
   have hri:¬ ((r:Int)=1):=by omega
   gi_wp2
   exact ⟨HKF.out,HKP.out,qH (by rw [hln];exact HI1.out),qH (by simp),HI3⟩
  case done =>
   rintro D xs W hD hS ⟨h1,h2,h3⟩ hK
   have hxl:xs.length=pl.length:=by rw [HPN.out];exact ZjO hS
   have p10:W.cell? ⟨g10,0,none⟩=some (.int .i64 (pl.length:Int)):=by rw [<- hxl];exact h1.out.cell 0
   have p9:W.cell? ⟨g9,0,none⟩=some (.int .i64 (r:Int)):=(B9.out.upd h3.out (by omega)).cell 0
   have p8:W.cell? ⟨b8,0,none⟩=some (.slice AW pl.length cW):=((HB8.out.same SA.out).upd h3.out (by omega)).cell 0
   have SW:=qH (show Same wx W from SA.out.trans h3.out fun b hb hh=>by omega)
   have MW:=qH (show Zcx wx.heap.size W ({ target:=.collected D,args:=#[] }::ds) from Zcx.cons (B':=Ws.heap.size) (MA.out.upd h3.out fun k hk=>by subst hk;have h9:Ws.heap[k]?=some (.cells #[.int .i64 0] 3 (0,0)):=B10.out;rw [h9];simp) (fun D' _ hm=>MA.out.lt D' hm) hD (by omega) hK)
   have hw:IntKind.i64.wrap ((r:Int)+1)=(r:Int)+1:=by rw [IntKind.wrap_i64];omega
   have hzW:=SW.out.size
   by_cases hr1:r=1
   · have hm0:=h2.out hr1
     have hri:(r:Int)=1:=by omega
     have hmin:min (2:Int) (pl.length:Int)=(pl.length:Int):=by omega
     clear h1 h2 h3 hK hS hxl hm0
     go_wp2_with fail
     go_roundg (3-(r+1))
     case measure=>omega
     case rel=>exact ⟨show 3-(r+1)=_ from rfl,hlt,qH (show Blk _ _ _ #[.int .i64 ((r+1:Nat):Int)] from by rw [show ((r+1:Nat):Int)=2 by omega];exact Blk.new W _ _),qH (SW.out.alloc _),qH hzW,qH (MW.out.alloc _)⟩
   have hri:¬ ((r:Int)=1):=by omega
   clear h1 h2 h3 hK hS hxl
   go_wp2_with fail
   go_roundg (3-(r+1))
   case measure=>omega
   case rel=>exact ⟨show 3-(r+1)=_ from rfl,hlt,qH (Blk.new W 3 #[.int .i64 ((r:Int)+1)]),qH (SW.out.alloc _),qH hzW,qH (MW.out.alloc _)⟩
  rintro D c pre W hD ⟨k,hsp⟩ ⟨rfl,hr1,h3,h4,h5⟩ hK
  have hlt:=hlt
  have p10:W.cell? ⟨g10,0,none⟩=some (.int .i64 2):=h4.out.cell 0
  have p9:W.cell? ⟨g9,0,none⟩=some (.int .i64 (r:Int)):=(B9.out.upd h5.out (by omega)).cell 0
  have p8:W.cell? ⟨b8,0,none⟩=some (.slice AW pl.length cW):=((HB8.out.same SA.out).upd h5.out (by omega)).cell 0
  have SW:=qH (show Same wx W from SA.out.trans h5.out fun b hb hh=>by omega)
  have MW:=qH (show Zcx wx.heap.size W ({ target:=.collected D,args:=#[] }::ds) from Zcx.cons (B':=Ws.heap.size) (MA.out.upd h5.out fun k hk=>by subst hk;have h9:Ws.heap[k]?=some (.cells #[.int .i64 0] 3 (0,0)):=B10.out;rw [h9];simp) (fun D' _ hm=>MA.out.lt D' hm) hD (by omega) hK)
  have hw:IntKind.i64.wrap ((r:Int)+1)=(r:Int)+1:=by rw [IntKind.wrap_i64];omega
  have hzW:=SW.out.size
  have hmin:min (2:Int) (pl.length:Int)=2:=by
   have h8:=congrArg List.length hsp
   have h9:=h3.out
   have h10:=HPN.out
   simp only [List.length_map,List.length_take] at h8
   omega
  refine wpIn_wide.2 ?_
  have hri:(r:Int)=1:=by omega
  clear h3 h4 h5 hK hsp
  go_wp2_with fail
  go_roundg (3-(r+1))
  case measure=>omega
  case rel=>exact ⟨show 3-(r+1)=_ from rfl,hlt,qH (show Blk _ _ _ #[.int .i64 ((r+1:Nat):Int)] from by rw [show ((r+1:Nat):Int)=2 by omega];exact Blk.new W _ _),qH (SW.out.alloc _),qH hzW,qH (MW.out.alloc _)⟩
 have hr:r=3:=by omega
 subst hr
 have p2:wr.cell? ⟨w.heap.size+1,0,none⟩=some (.bool false):=(B28.out.same KS.out).cell 0
 have f2:wr.frozen? ⟨w.heap.size+1,0,none⟩=false:=(B28.out.same KS.out).frozen 0
 have hwx:=HwB.out
 go_wp2_with fail
 refine Zcx.leaves (B:=wx.heap.size) (KM.out.put (B28.out.same KS.out) (.bool true)) fun W' hu hc=>?_
 have hbx:=(B28.out.same KS.out).put 0 (.bool true)
 have hb9:W'.heap[w.heap.size+1]?=(wr.setCell ⟨w.heap.size+1,0,none⟩ (.bool true)).heap[w.heap.size+1]?:=hc _ ⟨_,_,_,hbx⟩
 have hb8:Blk W' (w.heap.size+1) 4 #[.bool true]:=hb9.trans hbx
 have p9:W'.cell? ⟨w.heap.size+1,0,none⟩=some (.bool true):=hb8.cell 0
 have hSw:Same w wx:=S1.out.trans S18.out fun _ _ f=>f
 have hSm:=((hSw.trans KS.out fun _ _ hh=>hh).putNew (r:=w.heap.size+1) (i:=0) (Nat.le_succ _) (.bool true)).trans hu fun b hb hh=>by have:=hSw.size;omega
 refine ⟨.bool true,?_,rfl,hSm⟩
 simp [results,Tryz.f5,go_sem,p9]
theorem ZdL (os:Os) (started:os.Started) (H:Type) (enc:TypeId×Value->H) :
 ReturnsInHanded {} Tryz.checked os 5 .any (fun w args=>(Rows.archiveStreamsSpec.pre enc Tryz.prog Tryz.f5 [] false w args/\laidMetH Tryz.prog ZjN w)/\sizedMet enc Tryz.prog Tryz.f5 (OpenSpec.ofChange Rows.archiveStreamsSpec) false w args)
  (Rows.archiveStreamsSpec.post enc Tryz.prog Tryz.f5 false true false false):=by
 refine returnsInHanded_of_change_and (C:=Tryz.checked) (X:=fun w _=>laidMetH Tryz.prog ZjN w) (fun _ _ _ hh h=>h.of_heap hh) Zpi started (by kernel_rfl) Tryz.func5
  (ChangeSpec.witness_shaped (enc:=enc) (C:=Tryz.checked) (os:=os) (X:=fun w _=>laidMetH Tryz.prog ZjN w) false (World.doorLaid Tryz.prog 400 os) #[.agg #[.slice none 0 0,.slice none 0 0]] 8 rfl (World.shaped_of_RefB (by kernel_rfl) (by kernel_rfl)) (by kernel_rfl) (by kernel_rfl) (by kernel_rfl) (ZlR os _)) ?_
 intro W base args ds gs before hval hW _ hsz hL _
 obtain ⟨p,hA⟩:=Zhz (P:=Tryz.prog) (ts:=[26]) (by rw [Tryz.params5]) hW
 obtain ⟨v0,d0,rfl,rfl,h0⟩:=trodAll_one hA
 obtain ⟨g0,rfl,hr0,z0⟩:=ZhF (hval 0 26 v0 (by rw [Tryz.params5];rfl) rfl) h0 (ZhC hsz (j:=0) (by rw [Tryz.params5];rfl) rfl)
 refine (Zes W (Zhb hL) hr0 z0).mono ?_
 rintro e W' ⟨rfl,hs⟩
 exact ⟨_,rfl,Zlq Znk (ts:=[26]) (by rw [Tryz.params5]) (tb:=4) (by kernel_rfl) Tryz.underlying4 (by kernel_rfl) rfl (by rintro rfl;exact ⟨rfl,rfl,rfl⟩) hW hs.below⟩
theorem Zet:Rows.ArchiveStreamsSaid :=
 OpenClaim.holds_of_wide 5 Tryz.f5 rfl rfl rfl rfl rfl rfl rfl ⟨rfl,rfl,rfl,rfl,rfl⟩ rfl rfl rfl rfl rfl (by kernel_rfl) Tryz.func5 (by kernel_rfl)
  (of_decide_eq_true (by kernel_rfl)) (by unfold Func.isWrapper;first | (rw [if_pos (by decide +kernel)];kernel_rfl) | (rw [if_neg (by decide +kernel)];exact ⟨rfl,rfl⟩))
  (fun os started H enc _=>ZdL os started H enc)
theorem archiveStreams_holds:Rows.ArchiveStreamsCardSaid :=
 Claim7.holds_tied_plain_at .later [] [.data] true (true, "4982e14d7e6b816143ef947475410f28ce78841f78923bc3c4f68e82710c8bf7") false
  Zet (fun _ h=>by cases h) (by kernel_rfl) (fun _ h=>by cases h) archiveStreams_row_tie rfl ⟨rfl,rfl⟩ (by kernel_rfl) rfl
  (fun f fn hf hfn=>by
    obtain rfl:f=5:=Option.some.inj ((show Tryz.prog.funcNamed "satchel/satchellaw20.ArchiveStreams" = some 5 by kernel_rfl).symm.trans hf) |>.symm
    obtain rfl:fn=Tryz.f5:=(Option.some.inj (Tryz.func5.symm.trans hfn)).symm
    exact ⟨by kernel_rfl,fun j t ht=>by
     rw [Tryz.params5] at ht
     have hm:t∈[26]:=by simpa using Array.mem_of_getElem? ht
     have hall:([26].all fun u=>!Tryz.prog.wantsStandIn u)=true:=by kernel_rfl
     exact (show Tryz.prog.wantsStandIn t=false by simpa using List.all_eq_true.1 hall t hm)⟩)
  (by kernel_rfl)
end Go.Proofs.YtkopcinhbjimiaaGreatDoor
