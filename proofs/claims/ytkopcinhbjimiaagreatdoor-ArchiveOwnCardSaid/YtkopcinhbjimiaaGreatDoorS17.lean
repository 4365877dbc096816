/- Texts that the claim leans on: walks and plain laws, function by function. -/
import Derived.Test.YtkopcinhbjimiaaGreatDoorS16
set_option maxRecDepth 100000
set_option maxHeartbeats 16000000
namespace Go.Proofs.YtkopcinhbjimiaaGreatDoor
open Go.RowKit Go.Shelf
attribute [local go_sem] Oper.semAt_some
theorem ZoR (a b:Int):IntKind.i64.wrap (IntKind.i64.wrap a+b)=IntKind.i64.wrap (a+b):=by
 simp only [IntKind.wrap_i64]
 omega
theorem Zij {β:Type} {B:Nat} {I:β->World->Prop} (h:∀ s W W',I s W->Upd (fun k=>B<=k) W W'->I s W'):OwnFrom B I:=fun s W W' row hs hg hr =>
 h s W W' hs ⟨hg.os,hg.tape,hg.output,hg.size,fun k _ hn=>hg.block k (by assumption) fun e=>hn (hr k e.symm).1⟩
theorem Zkt (g:GR) (w:World):Calls Tryz.prog 101 #[g.agg] w fun e w'=>e=.returned (.func (.func 134) #[] #[.pointer (some ⟨w.heap.size,0,none⟩)])/\w'=w.alloc (.cells #[.slice g.AN g.nN g.cN,.slice g.AR g.nR g.cR] 26):=by
 obtain ⟨ns,AN,nN,cN,rs,AR,nR,cR⟩:=g
 go_enter Tryz.func101,Tryz.ntmps101
 go_wp2
 go_ret
 exact ⟨rfl,rfl⟩
theorem ZfE {F:Nat->Prop} (w:World) (g:GR) (h:RdG w F g) (hf:GFit g) (hs:wsum (g.ns.flatMap ND.props)+wsum (g.rs.flatMap RL.props)<=4611686018427387904) :
 Calls Tryz.prog 59 #[g.agg] w fun e w'=>e=.returned (.int .i64 ((wsum (g.ns.flatMap ND.props)+wsum (g.rs.flatMap RL.props):Nat):Int))/\Same w w':=by
 obtain ⟨T,hT⟩:∃ T,wsum (g.ns.flatMap ND.props)+wsum (g.rs.flatMap RL.props)=T:=⟨_,rfl⟩
 rw [hT] at hs ⊢
 have HT:=qH (show wsum (allP g)=T by unfold allP;rw [ZdP];exact hT)
 have hag:g.agg=.agg #[.slice g.AN g.nN g.cN,.slice g.AR g.nR g.cR]:=rfl
 have hs0:=((Upd.refl (fun _=>False) w).alloc (.cells #[.slice g.AN g.nN g.cN,.slice g.AR g.nR g.cR] 26)).alloc (.cells #[.int .i64 0] 3)
 have hb0:=(Blk.new w 26 #[.slice g.AN g.nN g.cN,.slice g.AR g.nR g.cR]).alloc (.cells #[.int .i64 0] 3)
 have hb5:=Blk.new (w.alloc (.cells #[.slice g.AN g.nN g.cN,.slice g.AR g.nR g.cR] 26)) 3 #[.int .i64 0]
 simp only [World.size_alloc] at hb5
 have hsz:((w.alloc (.cells #[.slice g.AN g.nN g.cN,.slice g.AR g.nR g.cR] 26)).alloc (.cells #[.int .i64 0] 3)).heap.size=w.heap.size+1+1:=by simp only [World.size_alloc]
 have HSZ:=qH hsz
 have HS1:=qH hs0
 have HB0:=qH hb0
 have HB5:=qH hb5
 have HF:=qH (show ∀ x∈allP g,x.g.text.size<=9223372036854775807/\∀ s∈x.g.texts,s.size<=9223372036854775807 from fun x hx=>by
  unfold allP at hx
  rcases List.mem_append.1 hx with hx | hx
  · obtain ⟨y,hy,hxy⟩:=List.mem_flatMap.1 hx
    exact hf.nodes y hy x hxy
  obtain ⟨y,hy,hxy⟩:=List.mem_flatMap.1 hx
  exact hf.rels y hy x hxy)
 have HVal:=qH (show ∀ (W:World),Same w W->∀ x∈allP g,Zcg W F x.A1 x.n1 x.c1 x.A2 x.n2 x.c2 x.g from fun W hW x hx=>by
  have hR:=h.same hW
  unfold allP at hx
  rcases List.mem_append.1 hx with hx | hx
  · obtain ⟨y,hy,hxy⟩:=List.mem_flatMap.1 hx
    exact (hR.nodes.pro y hy).val x hxy
  obtain ⟨y,hy,hxy⟩:=List.mem_flatMap.1 hx
  exact (hR.rels.pro y hy).val x hxy)
 have HR1:=qH ((h.mono (F':=fun b=>b<w.heap.size) fun b hb _=>by first | exact hb | exact hb).same hs0)
 have HS:=qH hs
 clear h hs0 hb0 hb5 hsz hf hs hT
 rw [hag]
 refine (callsIn_wide (n:=5)).1 ?_
 have hf1:Fence.wide.fn 101:=trivial
 have hf2:Fence.wide.fn 134:=trivial
 have hf3:Fence.wide.fn 104:=trivial
 refine callsIn_of_wp_marks Tryz.func59 rfl trivial ?_ rfl
 simp only [Tryz.ntmps59,List.size_toArray,List.length_cons,List.length_nil,Nat.reduceAdd,Nat.reduceSub,Array.replicate_succ,Array.replicate_zero,List.push_toArray,List.append_toArray,List.nil_append,List.cons_append]
 gi_wp2_with (gi_at_call 101;refine (callsIn_wide.2 (Zkt g _)).mono ?_;rintro e w2 ⟨rfl,rfl⟩)
 generalize (w.alloc (.cells #[.slice g.AN g.nN g.cN,.slice g.AR g.nR g.cR] 26)).alloc (.cells #[.int .i64 0] 3)=w1 at *
 have hsz:=HSZ.out
 have sA:=(Upd.refl (fun _=>False) w1).alloc (.cells #[.slice g.AN g.nN g.cN,.slice g.AR g.nR g.cR] 26)
 have hBn:=Blk.new w1 26 #[.slice g.AN g.nN g.cN,.slice g.AR g.nR g.cR]
 rw [hsz] at hBn
 have hR2:=HR1.out.same sA
 have hB5:=HB5.out.same sA
 have hS2:Same w (w1.alloc (.cells #[.slice g.AN g.nN g.cN,.slice g.AR g.nR g.cR] 26)):=HS1.out.same sA
 have hz2:(w1.alloc (.cells #[.slice g.AN g.nN g.cN,.slice g.AR g.nR g.cR] 26)).heap.size=w.heap.size+1+1+1:=by rw [World.size_alloc,hsz]
 obtain ⟨w2,hw2⟩:∃ w2,w1.alloc (.cells #[.slice g.AN g.nN g.cN,.slice g.AR g.nR g.cR] 26)=w2:=⟨_,rfl⟩
 rw [hw2] at sA hBn hR2 hB5 hS2 hz2 ⊢
 clear hw2
 refine wpIn_rangeFunc_ownH rfl (by omega) (gf:=134) (lb:=#[.pointer (some ⟨w.heap.size+1+1,0,none⟩)]) rfl hf2 (enters_of Tryz.func134 (by kernel_rfl) rfl)
  (ZgK Fence.wide _ hf2 rfl (by omega) (w.heap.size+1+1) g (fun k=>k=w.heap.size+1\/w2.heap.size<=k) (fun b=>b<w.heap.size) (by omega) (fun b hb=>by omega) w2 (fun b hb=>.inr hb) hBn hR2) Zpg (Zph fun k hk=>.inr hk) (Below.refl _ _) (fun _=>rfl)
  (fun pre W=>Hid (Blk W (w.heap.size+1) 3 #[.int .i64 (IntKind.i64.wrap (wsum (pre.map Subtype.val):Int))])/\Hid (Upd (fun k=>k=w.heap.size+1) w2 W))
  (fun _ _ _=>False)
  (Zij fun pre W W' ⟨h3,h4⟩ hu=>⟨qH (h3.out.upd hu (by omega)),qH (h4.out.trans hu fun b hb hh=>by omega)⟩)
  (fun _ _ _ _ _ hs _ _=>hs)
  ⟨qH hB5,qH (Upd.refl _ _)⟩
  (fun x a' W=>∃ bp:Nat,a'={ tmps:=#[.agg #[.slice g.AN g.nN g.cN,.slice g.AR g.nR g.cR],.pointer (some ⟨w.heap.size,0,none⟩),.pointer (some ⟨w.heap.size+1,0,none⟩),.pointer (some ⟨bp,0,none⟩),.agg #[.slice g.AN g.nN g.cN,.slice g.AR g.nR g.cR],.func (.func 134) #[] #[.pointer (some ⟨w.heap.size+1+1,0,none⟩)],PR.agg x.1,undef,undef,undef,undef,undef,undef],defers:=[] }/\Hid (Blk W bp 48 x.1.cells.toArray))
  (fun x a'=>fun _ W W' row ⟨bp,h1,h2⟩ hg hr=>⟨bp,h1,qH ((hg.block bp h2.out.lt fun e=>by
    obtain ⟨o,ho,hc⟩:=(hr bp e.symm).2
    have h3:=h2.out
    unfold Blk at h3
    rw [h3] at ho
    cases ho
    cases hc).trans h2.out)⟩) ?assign ?body ?done ?stop
 case assign =>
  rintro l pre x W K ⟨h3,h4⟩ hK
  have hAl:=(Upd.refl (fun k=>w2.heap.size<=k) W).alloc (.cells x.1.cells.toArray 48)
  have HKK:=qH (hK _ (W.alloc (.cells x.1.cells.toArray 48)) (KeepsOthers.from (KeepsOthers.alloc W _) _) ((Upd.refl _ W).alloc _) ⟨qH (h3.out.upd hAl (by omega)),qH (h4.out.alloc _)⟩ ⟨_,rfl,qH (Blk.new W _ _)⟩)
  clear hK hAl
  gi_wp2
  exact HKK.out
 case body =>
  rintro l' pre x a' W hl' hlo ⟨h3,h4⟩ ⟨bp,rfl,hbx⟩ hlt
  have hx:=HF.out x.1 x.2
  have hSW:Same w W:=hS2.trans h4.out fun b hb hh=>by omega
  have hV:=HVal.out W hSW x.1 x.2
  obtain ⟨⟨kx,⟨x0,x1,x2,x3,x4⟩,X1,a1,b1,X2,a2,b2⟩,hxm⟩:=x
  have hB:Blk W bp 48 #[.string kx,.int .i64 x0,.int .i64 x1,.string x2,.slice X1 a1 b1,.slice X2 a2 b2]:=hbx.out
  have p1:W.cell? ⟨bp,1,none⟩=some (.int .i64 x0):=hB.cell 1
  have p2:W.cell? ⟨bp,2,none⟩=some (.int .i64 x1):=hB.cell 2
  have p3:W.cell? ⟨bp,3,none⟩=some (.string x2):=hB.cell 3
  have p4:W.cell? ⟨bp,4,none⟩=some (.slice X1 a1 b1):=hB.cell 4
  have p5:W.cell? ⟨bp,5,none⟩=some (.slice X2 a2 b2):=hB.cell 5
  obtain ⟨sm,hsm⟩:∃ sm,IntKind.i64.wrap (wsum (pre.map Subtype.val):Int)=sm:=⟨_,rfl⟩
  rw [hsm] at h3
  have c2:W.cell? ⟨w.heap.size+1,0,none⟩=some (.int .i64 sm):=h3.out.cell 0
  have f2:W.frozen? ⟨w.heap.size+1,0,none⟩=false:=h3.out.frozen 0
  have hmo:Tryz.prog.follows .mixedOrders=true:=by kernel_rfl
  have HX:=qH hx
  have HV:=qH hV
  have HB:=qH hB
  obtain ⟨ln,hln⟩:∃ ln,(enc ⟨x0,x1,x2,x3,x4⟩).length=ln:=⟨_,rfl⟩
  have HLn:=qH hln
  obtain ⟨sm2,hsm2⟩:∃ sm2,IntKind.i64.wrap (sm+(ln:Int))=sm2:=⟨_,rfl⟩
  have HSm2:=qH (show IntKind.i64.wrap (wsum ((pre++[(⟨⟨kx,⟨x0,x1,x2,x3,x4⟩,X1,a1,b1,X2,a2,b2⟩,hxm⟩:{ x:PR // x∈allP g })]).map Subtype.val):Int)=sm2 from by
   rw [List.map_append,ZdP,<-hsm2,<-hsm,ZoR,<-hln]
   simp [wsum])
  clear hx hV hbx hB hsm hln
  gi_wp2
  gi_region_with_o (gi_at_call 104;refine (CallsIn.inRound l' (callsIn_wide.2 (ZjU _ (HV.out.same (by first | exact Upd.refl _ _ | exact (Upd.refl _ _).drew)) HX.1 HX.2))).mono ?_;rintro e w3 ⟨rfl,hs3⟩;rw [HLn.out];have hs4:Same W w3:=(by first | exact hs3 | exact ((Upd.refl (fun _=>False) _).drew).same hs3);have c3:w3.cell? ⟨w.heap.size+1,0,none⟩=some (.int .i64 sm):=(h3.out.same hs4).cell 0;have f3:w3.frozen? ⟨w.heap.size+1,0,none⟩=false:=(h3.out.same hs4).frozen 0)
  all_goals
   have hu:Upd (fun k=>k=w.heap.size+1) W (w3.setCell ⟨w.heap.size+1,0,none⟩ (.int .i64 sm2)):=(hs4.mono fun _ _ f=>f.elim).put1 (.int .i64 sm2)
   refine ⟨⟨hu.size,fun k o hB hk _=>(hu.block k (Array.getElem?_eq_some_iff.1 hk).1 (by omega)).trans hk⟩,⟨hu.os,hu.tape,hu.output,hu.size,fun k hk hn=>hu.block k hk fun e=>hn (.inl e)⟩,qH ?_,qH (h4.out.trans hu fun b hb hh=>hh)⟩
   rw [HSm2.out]
   exact (h3.out.same hs4).put 0 (.int .i64 sm2)
 case done =>
  rintro D ys W hD hys ⟨h3,h4⟩ hK
  have he:IntKind.i64.wrap (wsum (ys.map Subtype.val):Int)=(T:Int):=by
   have h9:ys.map Subtype.val=allP g:=hys
   rw [h9,HT.out,IntKind.wrap_i64]
   have:=HS.out
   omega
  rw [he] at h3
  have c2:W.cell? ⟨w.heap.size+1,0,none⟩=some (.int .i64 (T:Int)):=h3.out.cell 0
  have f2:W.frozen? ⟨w.heap.size+1,0,none⟩=false:=h3.out.frozen 0
  have HSW:=qH (show Same w W from hS2.trans h4.out fun b hb hh=>by omega)
  clear hys he
  gi_wp2
  have hK':=(KeepsOthers.setCell W ⟨w.heap.size+1,0,none⟩ (.int .i64 (T:Int))).same D _ hK rfl
  refine ⟨by simp,.inl ⟨_,_,rfl,run_takeDeferred hK',?_⟩⟩
  have hc5:=cell_kept (World.cell?_setCell_same' W ⟨w.heap.size+1,0,none⟩ (.int .i64 (T:Int)) (by rw [c2];rfl)) (grownBy_putObj' _ D (.deferred none)) (fun r e=>by cases e;exact ⟨_,hK',rfl⟩)
  have hup:=(Upd.refl (fun k=>k=D) (W.setCell ⟨w.heap.size+1,0,none⟩ (.int .i64 (T:Int)))).grown (grownBy_putObj' _ D (.deferred none)) fun k hk=>.inl (by injection hk with hk;exact hk.symm)
  refine ⟨.int .i64 (T:Int),?_,rfl,(HSW.out.putNew (r:=w.heap.size+1) (i:=0) (Nat.le_succ _) (.int .i64 (T:Int))).trans hup fun b hb hh=>by omega⟩
  simp [results,Tryz.f59,go_sem,hc5]
 rintro D c pre W _ _ h _
 exact h.elim
end Go.Proofs.YtkopcinhbjimiaaGreatDoor
namespace Go.Proofs.YtkopcinhbjimiaaGreatDoor
open Go.RowKit
def Zdl (a b c t:Nat):Int:=if 200<a\/200<b\/200<c then 66 else if 262144<t then 67 else 0
theorem Zny {F:Nat->Prop} (w:World) (g:GR) (h:RdG w F g) (hf:GFit g) (ht:ZgG g) (hE:ZaH g.dat=none) (hT:∀ k,(Zaf g.dat k).length<=8796093022208) {m:Int->List ByteArray} (hm:∀ k,Srt (Zaf g.dat k) (m k))
 (hW:wsum (g.ns.flatMap ND.props)+wsum (g.rs.flatMap RL.props)<=4611686018427387904) {tl:Int} (htl:Zdl (m 1).length (m 2).length (m 3).length (wsum (g.ns.flatMap ND.props)+wsum (g.rs.flatMap RL.props))=tl) :
 Calls Tryz.prog 29 #[g.agg] w fun x w'=>x=.returned (.tuple #[.int .i64 tl,.int .i64 0])/\Same w w':=by
 have HT:=qH hT
 have HM:=qH hm
 have HW:=qH hW
 have HTl:=qH htl
 have HGT:=qH ht
 clear hT hm hW htl ht
 obtain ⟨ns,AN,nN,cN,rs,AR,nR,cR⟩:=g
 have HE:=qH hE
 have hmx:=h.nodes.row.max
 have hle:=h.nodes.row.le
 have hmx':=h.rels.row.max
 have hle':=h.rels.row.le
 unfold maxLen at hmx hmx'
 have hnN:=hf.nN
 have hnR:=hf.nR
 have HL:=qH h.nodes.len
 have HL':=qH h.rels.len
 simp only at hmx hle hmx' hle' hnN hnR HL HL'
 have hs0:=(Upd.refl (fun _=>False) w).alloc (.cells #[.slice AN nN cN,.slice AR nR cR] 26)
 have HB0:=qH (Blk.new w 26 #[.slice AN nN cN,.slice AR nR cR])
 have hm0:=MapI.made (w.alloc (.cells #[.slice AN nN cN,.slice AR nR cR] 26))
 have hs1:=hs0.alloc (.map #[] 0)
 have HB1:=qH (HB0.out.alloc (.map #[] 0))
 rw [World.size_alloc] at hm0
 have HM1:=qH hm0
 have HG1:=qH ((h.mono (F':=fun b=>b<w.heap.size) fun b hb _=>hb).same hs1)
 have HS1:=qH hs1
 have HF:=qH hf
 have hmm:=@run_makeMap Tryz.prog
 clear h hf hE hs0 hs1 hm0 HB0
 go_enter Tryz.func29,Tryz.ntmps29
 go_upto_region 2 with fail
 clear hmm
 generalize (w.alloc (.cells #[.slice AN nN cN,.slice AR nR cR] 26)).alloc (.map #[] 0)=w1 at *
 have p0:w1.cell? ⟨w.heap.size,0,none⟩=some (.slice AN nN cN):=HB1.out.cell 0
 go_wp2_with fail
 clear p0
 go_loopg [15] nN (fun gh ix wr=>∃ (i:Nat) (f:Int->Int),nN-i=gh/\i<=nN/\ix=.int .i64 i/\Hid (MapI wr (w.heap.size+1) i f)/\Hid (∀ y,f y=(((ns.map ND.id).take i).count y:Nat))/\Hid (Upd (fun k=>k=w.heap.size+1) w1 wr)/\Hid (Zax none 0 (ns.map ND.dat)=Zax (Zan ND.id ns i) i ((ns.map ND.dat).drop i)))
 case atStart=>exact ⟨0,_,rfl,Nat.zero_le _,rfl,HM1,qH (by simp),qH (Upd.refl _ _),qH rfl⟩
 obtain ⟨i,f,rfl,hi,rfl,KM,KF,KU,KE⟩:=hrel
 have hsw:Same w wr:=HS1.out.trans KU.out fun b hb hh=>by omega
 have HSw:=qH hsw
 have HGw:=qH (HG1.out.upd KU.out fun b hb hh=>by omega)
 have HBw:=qH (HB1.out.upd KU.out (by omega))
 have hzw:=hsw.size
 clear hsw
 by_cases hlt:i<nN
 · obtain ⟨b,o,x,hA,hb,_,hx,hxm,r0,r1,r2⟩:=HGw.out.nodes.at_ hlt
   simp only at hA
   subst hA
   have hke:=KE.out
   have hxd:(ns.map ND.dat)[i]?=some x.dat:=by rw [List.getElem?_map,hx];rfl
   rw [ZbM hxd] at hke
   simp only [Zax] at hke
   have HIx:=qH (HGw.out.nodes.id x hxm)
   have HX:=qH hx
   have HCt:=qH (ZdA (l:=ns.map ND.id) (i:=i) (x:=x.id) (by rw [List.getElem?_map,hx];rfl))
   have HAk:=qH (show Zan ND.id ns (i+1)=some x.dat.id from by simp only [Zan,hx];rfl)
   obtain ⟨C,hC⟩:∃ C,Zbq (Zan ND.id ns i) x.dat=C:=⟨_,rfl⟩
   have HC:=qH hC
   rw [hC] at hke
   have HK:=qH hke
   obtain ⟨id,hid⟩:∃ id,x.id=id:=⟨_,rfl⟩
   obtain ⟨AL,nL,cL,hL⟩:∃ a b c,x.AL=a/\x.nL=b/\x.cL=c:=⟨_,_,_,rfl,rfl,rfl⟩
   obtain ⟨AP,nP,cP,hP⟩:∃ a b c,x.AP=a/\x.nP=b/\x.cP=c:=⟨_,_,_,rfl,rfl,rfl⟩
   obtain ⟨hL1,hL2,hL3⟩:=hL
   obtain ⟨hP1,hP2,hP3⟩:=hP
   rw [hid] at r0 HIx HCt
   rw [hL1,hL2,hL3] at r1
   rw [hP1,hP2,hP3] at r2
   have hsA:=(Upd.refl (fun _=>False) wr).alloc (.cells #[.int .i64 id,.slice AL nL cL,.slice AP nP cP] 43)
   have HBA:=qH (Blk.new wr 43 #[.int .i64 id,.slice AL nL cL,.slice AP nP cP])
   have HGA:=qH (HGw.out.same hsA)
   have HMA:=qH (KM.out.same hsA)
   have HUA:=qH (KU.out.same hsA)
   have HSA:=qH (HSw.out.same hsA)
   have p0:(wr.alloc (.cells #[.int .i64 id,.slice AL nL cL,.slice AP nP cP] 43)).cell? ⟨w.heap.size,0,none⟩=some (.slice (some ⟨b,o,none⟩) nN cN):=(HBw.out.same hsA).cell 0
   clear hsA hx hxm hxd hke hC hL1 hL2 hL3 hP1 hP2 hP3 HGw HSw KM KU
   go_wp2_with fail
   refine (Zeb _ HGA.out.nodes HF.out.nodes hlt HX.out HC.out).mono ?_
   rintro y w7 ⟨rfl,hs7⟩
   have HS7:=qH (HSA.out.same hs7)
   have HM7:=qH (HMA.out.same hs7)
   have HU7:=qH (HUA.out.same hs7)
   have q0:w7.cell? ⟨wr.heap.size,0,none⟩=some (.int .i64 id):=(HBA.out.same hs7).cell 0
   clear hs7 p0 r0 r1 r2 HSA HMA HUA HGA HBA
   by_cases hz:C=0
   · subst hz
     have HK2:=qH ((if_neg (by simp)).symm.trans HK.out.symm)
     obtain ⟨lk,l1,l2⟩:=HM7.out.fit HIx.out
     have hfc:=KF.out id
     have hcl:((ns.map ND.id).take i).count id<=i:=Nat.le_trans List.count_le_length (by rw [List.length_take];omega)
     obtain ⟨fv,hfv⟩:∃ v,f id=v:=⟨_,rfl⟩
     rw [hfv] at lk hfc
     obtain ⟨fv1,hfv1⟩:∃ v,fv+1=v:=⟨_,rfl⟩
     have hw1:IntKind.i64.wrap (fv+1)=fv1:=by rw [IntKind.wrap_i64];omega
     obtain ⟨w8,lput,hm8,hu8⟩:=HM7.out.put (v:=fv1) (by unfold maxLen;omega) HIx.out (by omega)
     have HM8:=qH hm8
     have HU8:=qH (HU7.out.trans hu8 fun _ _ h=>h)
     have HFv:=qH (show f id+1=fv1 from by rw [hfv,hfv1])
     clear hm8 hu8 hfc hfv hfv1 hcl
     go_wp2_with (at_mapUpdate;go_must (refine Zbf rfl _ _ _ _ rfl rfl rfl rfl lput ?_))
     go_roundg (nN-(i+1))
     case measure=>omega
     refine ⟨i+1,_,rfl,by omega,by go_num,HM8,qH fun y=>?_,HU8,qH ?_⟩
     · rw [HCt.out y]
       by_cases hy:y=id
       · subst hy
         rw [if_pos rfl,if_pos rfl,<-HFv.out,KF.out]
         simp
       rw [if_neg hy,if_neg hy,KF.out]
       simp
     rw [HAk.out];exact HK2.out.symm
   have hk:=(if_pos hz).symm.trans HK.out.symm
   have hcn:(C != 0)=true:=by rw [bne_iff_ne];exact hz
   have hee:=HE.out
   unfold ZaH at hee
   simp only [GR.dat] at hee
   rw [<- hk] at hee
   cases hee
 have hin:i=nN:=by omega
 subst hin
 have hke:=KE.out
 rw [List.drop_of_length_le (by rw [List.length_map,HL.out];omega)] at hke
 simp only [Zax] at hke
 have hee:=HE.out
 unfold ZaH at hee
 simp only [GR.dat] at hee
 rw [hke] at hee
 have hr1:=Option.map_eq_none_iff.1 hee
 have hth:Zec (GR.dat ⟨ns,AN,i,cN,rs,AR,nR,cR⟩)=fun y=>f y != 0:=by
  funext y
  have hf:=KF.out y
  rw [List.take_of_length_le (by rw [List.length_map,HL.out];omega)] at hf
  unfold Zec
  simp only [GR.dat,List.map_map]
  have hcomp:(ns.map (ZaO.id ∘ ND.dat))=ns.map ND.id:=List.map_congr_left fun _ _=>rfl
  rw [hcomp]
  by_cases hm:y∈ns.map ND.id
  · rw [decide_eq_true hm]
    have:0<(ns.map ND.id).count y:=List.count_pos_iff.2 hm
    rw [eq_comm,bne_iff_ne]
    omega
  rw [decide_eq_false hm]
  have:(ns.map ND.id).count y=0:=List.count_eq_zero.2 hm
  have hz:f y=0:=by omega
  rw [hz];rfl
 simp only [GR.dat] at hth
 rw [hth] at hr1
 have HR1:=qH hr1
 have p1:wr.cell? ⟨w.heap.size,1,none⟩=some (.slice AR nR cR):=HBw.out.cell 1
 have HMr:=qH KM.out
 clear hke hee hr1 hth KE KF KU HE hlt KM
 go_wp2_with fail
 clear p1
 generalize wr=w2 at *
 go_loopg [37] nR (fun gh ix wr=>∃ (j:Nat),nR-j=gh/\j<=nR/\ix=.int .i64 j/\Hid (Same w2 wr)/\Hid (ZaQ (fun y=>f y != 0) none 0 (rs.map RL.dat)=ZaQ (fun y=>f y != 0) (Zan RL.id rs j) j ((rs.map RL.dat).drop j)))
 case atStart=>exact ⟨0,rfl,Nat.zero_le _,rfl,qH (Upd.refl _ _),qH rfl⟩
 obtain ⟨j,rfl,hj,rfl,KS,KE⟩:=hrel
 have HGx:=qH (HGw.out.same KS.out)
 have HBx:=qH (HBw.out.same KS.out)
 have HMx:=qH (HMr.out.same KS.out)
 have HSx:=qH (HSw.out.same KS.out)
 have hke:=KE.out
 rw [HR1.out] at hke
 clear KE
 by_cases hlt:j<nR
 · have hjl:j<rs.length:=by rw [HL'.out];exact hlt
   obtain ⟨x,hx⟩:∃ x,rs[j]?=some x:=⟨_,List.getElem?_eq_getElem hjl⟩
   have hxd:(rs.map RL.dat)[j]?=some x.dat:=by rw [List.getElem?_map,hx];rfl
   rw [ZbM hxd] at hke
   simp only [ZaQ] at hke
   have HX:=qH hx
   have HAk:=qH (show Zan RL.id rs (j+1)=some x.dat.id from by simp only [Zan,hx];rfl)
   obtain ⟨C,hC⟩:∃ C,ZbN (fun y=>f y != 0) (Zan RL.id rs j) x.dat=C:=⟨_,rfl⟩
   have HC:=qH hC
   rw [hC] at hke
   have HK:=qH hke
   have p1:wr.cell? ⟨w.heap.size,1,none⟩=some (.slice AR nR cR):=HBx.out.cell 1
   clear hx hxd hke hC hjl
   go_wp2_with fail
   refine (ZeH _ HGx.out.rels HF.out.rels HMx.out hlt HX.out HC.out).mono ?_
   rintro y w7 ⟨rfl,hs7⟩
   have HS7:=qH (HSx.out.same hs7)
   have HB7:=qH (HBx.out.same hs7)
   by_cases hz:C=0
   · subst hz
     have hk:=HK.out.trans (if_neg (by simp))
     have HK2:=qH hk
     have HSr:=qH (KS.out.same hs7)
     clear hk HSx p1 hs7
     go_wp2
     go_roundg (nR-(j+1))
     case measure=>omega
     case rel=>exact ⟨j+1,rfl,by omega,by go_num,HSr,qH (by rw [HR1.out,HAk.out];exact HK2.out)⟩
   have hk:=HK.out.trans (if_pos hz)
   cases hk
 clear hke
 generalize wr=w9 at *
 go_wp2_with fail
 go_loopg [54,2,3] 3 (fun gh ix s2 s3 wr=>∃ r:Nat,3-r=gh/\r<=3/\ix=.int .i64 r/\Hid (∀ q:Nat,q<r->(m ((q:Int)+1)).length<=200)/\Hid (Same w9 wr))
 case atStart=>exact ⟨0,rfl,Nat.zero_le _,rfl,qH (fun q hq=>by omega),qH (Upd.refl _ _)⟩
 obtain ⟨r,rfl,hr,rfl,KQ,KR⟩:=hrel
 have HG9:=qH (HGx.out.same KR.out)
 have HB9:=qH (HBx.out.same KR.out)
 have HS9:=qH (HSx.out.same KR.out)
 have p0:wr.cell? ⟨w.heap.size,0,none⟩=some (.slice AN i cN):=HB9.out.cell 0
 have p1:wr.cell? ⟨w.heap.size,1,none⟩=some (.slice AR nR cR):=HB9.out.cell 1
 by_cases hr3:r<3
 · have hwr:IntKind.i64.wrap ((r:Int)+1)=(r:Int)+1:=by rw [IntKind.wrap_i64];omega
   go_wp2_with fail
   refine (ZoQ wr wr ⟨ns,AN,i,cN,rs,AR,nR,cR⟩ (Upd.refl _ _) HG9.out HGT.out ((r:Int)+1) (HT.out _) (HM.out ((r:Int)+1))).mono ?_
   rintro e w10 ⟨A10,c10,rfl,_,hs10,_⟩
   have HS10:=qH (HS9.out.same hs10)
   have HR10:=qH (KR.out.same hs10)
   obtain ⟨ml,hml⟩:∃ ml,(m ((r:Int)+1)).length=ml:=⟨_,rfl⟩
   rw [hml]
   have HMl:=qH hml
   clear hs10 p0 p1 hml
   by_cases hbig:200<ml
   · have hbi:(200:Int)<ml:=by omega
     have HE66:=qH (show (66:Int)=tl from by
      rw [<- HTl.out]
      unfold Zdl
      have h1:=HMl.out
      have h2:r=0\/r=1\/r=2:=by omega
      rcases h2 with rfl | rfl | rfl
      · rw [if_pos (.inl (by simp at h1;omega))]
      · rw [if_pos (.inr (.inl (by simp at h1;omega)))]
      rw [if_pos (.inr (.inr (by simp at h1;omega)))])
     go_wp2
     go_ret2
     exact ⟨by rw [<- HE66.out];rfl,HS10.out⟩
   have hbi:¬ (200:Int)<ml:=by omega
   go_wp2
   go_roundg (3-(r+1))
   case measure=>omega
   refine ⟨r+1,rfl,by omega,by go_num,qH fun q hq=>?_,HR10⟩
   by_cases hqr:q=r
   · subst hqr
     rw [HMl.out]
     omega
   exact KQ.out q (by omega)
 have hr3':r=3:=by omega
 subst hr3'
 have h0:=KQ.out 0 (by omega)
 have h1:=KQ.out 1 (by omega)
 have h2:=KQ.out 2 (by omega)
 simp at h0 h1 h2
 obtain ⟨T,hT⟩:∃ T,wsum (ns.flatMap ND.props)+wsum (rs.flatMap RL.props)=T:=⟨_,rfl⟩
 have hWT:=HW.out
 rw [hT] at hWT
 have HTT:=qH hT
 have HEt:=qH (show (if 262144<T then (67:Int) else 0)=tl from by
  have h9:=HTl.out
  unfold Zdl at h9
  rw [hT] at h9
  have e2:(1:Int)+1=2:=rfl
  have e3:(2:Int)+1=3:=rfl
  rw [if_neg (by rintro (h | h | h) <;> omega)] at h9
  exact h9)
 clear hT h0 h1 h2
 go_wp2_with fail
 refine (ZfE wr ⟨ns,AN,i,cN,rs,AR,nR,cR⟩ HG9.out HF.out HW.out).mono ?_
 rintro e w11 ⟨rfl,hs11⟩
 have HS11:=qH (HS9.out.same hs11)
 have hTT:=HTT.out
 rw [hTT]
 clear hs11 p0 p1 hTT
 by_cases hbig:262144<T
 · have hbi:(262144:Int)<(T:Int):=by omega
   have HE2:=HEt.out
   rw [if_pos hbig] at HE2
   subst HE2
   go_wp2
   go_ret2
   exact ⟨rfl,HS11.out⟩
 have hbi:¬ (262144:Int)<(T:Int):=by omega
 have HE2:=HEt.out
 rw [if_neg hbig] at HE2
 subst HE2
 go_wp2
 go_ret2
 exact ⟨rfl,HS11.out⟩
end Go.Proofs.YtkopcinhbjimiaaGreatDoor
