/- Package graph: Check. -/
import Derived.Test.YtkopcinhbjimiaaGreatDoorK13
import Derived.Test.YtkopcinhbjimiaaGreatDoorK08
import Derived.Test.YtkopcinhbjimiaaGreatDoorK01
set_option maxRecDepth 100000
set_option maxHeartbeats 16000000
namespace Go.Proofs.YtkopcinhbjimiaaGreatDoor
open Go.RowKit
def nodesErr:Option Int->Nat->List GNode->Option (Int×Nat)
 | _,_,[]=>none
 | prev,i,x::l=>if nodeErr prev x≠0 then some (nodeErr prev x,i) else nodesErr (some x.id) (i+1) l
def relsErr (there:Int->Bool):Option Int->Nat->List GRel->Option (Int×Nat)
 | _,_,[]=>none
 | prev,i,x::l=>if relErr there prev x≠0 then some (relErr there prev x,i) else relsErr there (some x.id) (i+1) l
def thereP (g:GGraph) (y:Int):Bool:=decide (y∈g.nodes.map GNode.id)
structure GFit (g:GR):Prop where
 nodes:∀ x∈g.ns,PsFit x.props
 rels:∀ x∈g.rs,PsFit x.props
 nN:g.nN<=140737488351232
 nR:g.nR<=140737488351232
def headErr (g:GGraph):Option (Int×Nat) :=
 match nodesErr none 0 g.nodes with
 | some e=>some e
 | none=>(relsErr (thereP g) none 0 g.rels).map fun e=>(e.1,g.nodes.length+e.2)
theorem count_take_succ {l:List Int} {i:Nat} {x:Int} (h:l[i]?=some x) (y:Int):(l.take (i+1)).count y=(l.take i).count y+(if y=x then 1 else 0):=by
 rw [List.take_add_one,h,Option.toList_some,List.count_append]
 congr 1
 by_cases hy:y=x
 · subst hy;simp
 rw [if_neg hy,List.count_eq_zero];simpa using fun h=>hy h
theorem gcheck_head {F:Nat->Prop} (w:World) (g:GR) (h:RdG w F g) (hf:GFit g) {e:Int} {i:Nat} (hE:headErr g.dat=some (e,i)) :
 Calls Tryz.prog 29 #[g.agg] w fun x w'=>x=.returned (.tuple #[.int .i64 e,.int .i64 i])/\Same w w':=by
 obtain ⟨ns,AN,nN,cN,rs,AR,nR,cR⟩:=g
 have HE:=qH hE
 have hmx:=h.nodes.row.max
 have hle:=h.nodes.row.le
 have hmx':=h.rels.row.max
 have hle':=h.rels.row.le
 unfold maxLen at hmx hmx'
 have hnN:=hf.nN
 have hnR:=hf.nR
 have HL:=qH h.nodes.len
 have HL':=qH h.rels.len
 simp only at hmx hle hmx' hle' hnN hnR HL HL'
 have hs0:=(Upd.refl (fun _=>False) w).alloc (.cells #[.slice AN nN cN,.slice AR nR cR] 26)
 have HB0:=qH (Blk.new w 26 #[.slice AN nN cN,.slice AR nR cR])
 have hm0:=MapI.made (w.alloc (.cells #[.slice AN nN cN,.slice AR nR cR] 26))
 have hs1:=hs0.alloc (.map #[] 0)
 have HB1:=qH (HB0.out.alloc (.map #[] 0))
 rw [World.size_alloc] at hm0
 have HM1:=qH hm0
 have HG1:=qH ((h.mono (F':=fun b=>b<w.heap.size) fun b hb _=>hb).same hs1)
 have HS1:=qH hs1
 have HF:=qH hf
 have hmm:=@run_makeMap Tryz.prog
 clear h hf hE hs0 hs1 hm0 HB0
 go_enter Tryz.func29,Tryz.ntmps29
 go_upto_region 2 with fail
 clear hmm
 generalize (w.alloc (.cells #[.slice AN nN cN,.slice AR nR cR] 26)).alloc (.map #[] 0)=w1 at *
 have p0:w1.cell? ⟨w.heap.size,0,none⟩=some (.slice AN nN cN):=HB1.out.cell 0
 go_wp2_with fail
 clear p0
 go_loopg [15] nN (fun gh ix wr=>∃ (i:Nat) (f:Int->Int),nN-i=gh/\i<=nN/\ix=.int .i64 i/\Hid (MapI wr (w.heap.size+1) i f)/\Hid (∀ y,f y=(((ns.map ND.id).take i).count y:Nat))/\Hid (Upd (fun k=>k=w.heap.size+1) w1 wr)/\Hid (nodesErr none 0 (ns.map ND.dat)=nodesErr (aheadK ND.id ns i) i ((ns.map ND.dat).drop i)))
 case atStart=>exact ⟨0,_,rfl,Nat.zero_le _,rfl,HM1,qH (by simp),qH (Upd.refl _ _),qH rfl⟩
 obtain ⟨i,f,rfl,hi,rfl,KM,KF,KU,KE⟩:=hrel
 have hsw:Same w wr:=HS1.out.trans KU.out fun b hb hh=>by omega
 have HSw:=qH hsw
 have HGw:=qH (HG1.out.upd KU.out fun b hb hh=>by omega)
 have HBw:=qH (HB1.out.upd KU.out (by omega))
 have hzw:=hsw.size
 clear hsw
 by_cases hlt:i<nN
 · obtain ⟨b,o,x,hA,hb,_,hx,hxm,r0,r1,r2⟩:=HGw.out.nodes.at_ hlt
   simp only at hA
   subst hA
   have hke:=KE.out
   have hxd:(ns.map ND.dat)[i]?=some x.dat:=by rw [List.getElem?_map,hx];rfl
   rw [drop_cons hxd] at hke
   simp only [nodesErr] at hke
   have HIx:=qH (HGw.out.nodes.id x hxm)
   have HX:=qH hx
   have HCt:=qH (count_take_succ (l:=ns.map ND.id) (i:=i) (x:=x.id) (by rw [List.getElem?_map,hx];rfl))
   have HAk:=qH (show aheadK ND.id ns (i+1)=some x.dat.id from by simp only [aheadK,hx];rfl)
   obtain ⟨C,hC⟩:∃ C,nodeErr (aheadK ND.id ns i) x.dat=C:=⟨_,rfl⟩
   have HC:=qH hC
   rw [hC] at hke
   have HK:=qH hke
   obtain ⟨id,hid⟩:∃ id,x.id=id:=⟨_,rfl⟩
   obtain ⟨AL,nL,cL,hL⟩:∃ a b c,x.AL=a/\x.nL=b/\x.cL=c:=⟨_,_,_,rfl,rfl,rfl⟩
   obtain ⟨AP,nP,cP,hP⟩:∃ a b c,x.AP=a/\x.nP=b/\x.cP=c:=⟨_,_,_,rfl,rfl,rfl⟩
   obtain ⟨hL1,hL2,hL3⟩:=hL
   obtain ⟨hP1,hP2,hP3⟩:=hP
   rw [hid] at r0 HIx HCt
   rw [hL1,hL2,hL3] at r1
   rw [hP1,hP2,hP3] at r2
   have hsA:=(Upd.refl (fun _=>False) wr).alloc (.cells #[.int .i64 id,.slice AL nL cL,.slice AP nP cP] 43)
   have HBA:=qH (Blk.new wr 43 #[.int .i64 id,.slice AL nL cL,.slice AP nP cP])
   have HGA:=qH (HGw.out.same hsA)
   have HMA:=qH (KM.out.same hsA)
   have HUA:=qH (KU.out.same hsA)
   have HSA:=qH (HSw.out.same hsA)
   have p0:(wr.alloc (.cells #[.int .i64 id,.slice AL nL cL,.slice AP nP cP] 43)).cell? ⟨w.heap.size,0,none⟩=some (.slice (some ⟨b,o,none⟩) nN cN):=(HBw.out.same hsA).cell 0
   clear hsA hx hxm hxd hke hC hL1 hL2 hL3 hP1 hP2 hP3 HGw HSw KM KU
   go_wp2_with fail
   refine (checkNode_spec _ HGA.out.nodes HF.out.nodes hlt HX.out HC.out).mono ?_
   rintro y w7 ⟨rfl,hs7⟩
   have HS7:=qH (HSA.out.same hs7)
   have HM7:=qH (HMA.out.same hs7)
   have HU7:=qH (HUA.out.same hs7)
   have q0:w7.cell? ⟨wr.heap.size,0,none⟩=some (.int .i64 id):=(HBA.out.same hs7).cell 0
   clear hs7 p0 r0 r1 r2 HSA HMA HUA HGA HBA
   by_cases hz:C=0
   · subst hz
     have HK2:=qH ((if_neg (by simp)).symm.trans HK.out.symm)
     obtain ⟨lk,l1,l2⟩:=HM7.out.fit HIx.out
     have hfc:=KF.out id
     have hcl:((ns.map ND.id).take i).count id<=i:=Nat.le_trans List.count_le_length (by rw [List.length_take];omega)
     obtain ⟨fv,hfv⟩:∃ v,f id=v:=⟨_,rfl⟩
     rw [hfv] at lk hfc
     obtain ⟨fv1,hfv1⟩:∃ v,fv+1=v:=⟨_,rfl⟩
     have hw1:IntKind.i64.wrap (fv+1)=fv1:=by rw [IntKind.wrap_i64];omega
     obtain ⟨w8,lput,hm8,hu8⟩:=HM7.out.put (v:=fv1) (by unfold maxLen;omega) HIx.out (by omega)
     have HM8:=qH hm8
     have HU8:=qH (HU7.out.trans hu8 fun _ _ h=>h)
     have HFv:=qH (show f id+1=fv1 from by rw [hfv,hfv1])
     clear hm8 hu8 hfc hfv hfv1 hcl
     go_wp2_with (at_mapUpdate;go_must (refine wpList_mapUpdate_run rfl _ _ _ _ rfl rfl rfl rfl lput ?_))
     go_roundg (nN-(i+1))
     case measure=>omega
     refine ⟨i+1,_,rfl,by omega,by go_num,HM8,qH fun y=>?_,HU8,qH ?_⟩
     · rw [HCt.out y]
       by_cases hy:y=id
       · subst hy
         rw [if_pos rfl,if_pos rfl,<-HFv.out,KF.out]
         simp
       rw [if_neg hy,if_neg hy,KF.out]
       simp
     rw [HAk.out];exact HK2.out.symm
   have hk:=(if_pos hz).symm.trans HK.out.symm
   have hcn:(C != 0)=true:=by rw [bne_iff_ne];exact hz
   have hee:=HE.out
   unfold headErr at hee
   simp only [GR.dat] at hee
   rw [<- hk] at hee
   injection hee with hee
   injection hee with h1 h2
   subst h1 h2
   go_wp2
   go_ret2
   exact ⟨rfl,HS7.out⟩
 have hin:i=nN:=by omega
 subst hin
 have hke:=KE.out
 rw [List.drop_of_length_le (by rw [List.length_map,HL.out];omega)] at hke
 simp only [nodesErr] at hke
 have hee:=HE.out
 unfold headErr at hee
 simp only [GR.dat] at hee
 rw [hke] at hee
 obtain ⟨⟨e1,i1⟩,hr1,hr2⟩:=Option.map_eq_some_iff.1 hee
 injection hr2 with h1 h2
 simp only at h1 h2
 subst h1
 rw [List.length_map,HL.out] at h2
 have hth:thereP (GR.dat ⟨ns,AN,i,cN,rs,AR,nR,cR⟩)=fun y=>f y != 0:=by
  funext y
  have hf:=KF.out y
  rw [List.take_of_length_le (by rw [List.length_map,HL.out];omega)] at hf
  unfold thereP
  simp only [GR.dat,List.map_map]
  have hcomp:(ns.map (GNode.id ∘ ND.dat))=ns.map ND.id:=List.map_congr_left fun _ _=>rfl
  rw [hcomp]
  by_cases hm:y∈ns.map ND.id
  · rw [decide_eq_true hm]
    have:0<(ns.map ND.id).count y:=List.count_pos_iff.2 hm
    rw [eq_comm,bne_iff_ne]
    omega
  rw [decide_eq_false hm]
  have:(ns.map ND.id).count y=0:=List.count_eq_zero.2 hm
  have hz:f y=0:=by omega
  rw [hz];rfl
 simp only [GR.dat] at hth
 rw [hth] at hr1
 have HR1:=qH hr1
 have HI2:=qH h2
 have p1:wr.cell? ⟨w.heap.size,1,none⟩=some (.slice AR nR cR):=HBw.out.cell 1
 have HMr:=qH KM.out
 clear hke hee hr1 h2 hth KE KF KU HE hlt KM
 go_wp2_with fail
 clear p1
 generalize wr=w2 at *
 go_loopg [37] nR (fun gh ix wr=>∃ (j:Nat),nR-j=gh/\j<=nR/\ix=.int .i64 j/\Hid (Same w2 wr)/\Hid (relsErr (fun y=>f y != 0) none 0 (rs.map RL.dat)=relsErr (fun y=>f y != 0) (aheadK RL.id rs j) j ((rs.map RL.dat).drop j)))
 case atStart=>exact ⟨0,rfl,Nat.zero_le _,rfl,qH (Upd.refl _ _),qH rfl⟩
 obtain ⟨j,rfl,hj,rfl,KS,KE⟩:=hrel
 have HGx:=qH (HGw.out.same KS.out)
 have HBx:=qH (HBw.out.same KS.out)
 have HMx:=qH (HMr.out.same KS.out)
 have HSx:=qH (HSw.out.same KS.out)
 have hke:=KE.out
 rw [HR1.out] at hke
 clear KE
 by_cases hlt:j<nR
 · have hjl:j<rs.length:=by rw [HL'.out];exact hlt
   obtain ⟨x,hx⟩:∃ x,rs[j]?=some x:=⟨_,List.getElem?_eq_getElem hjl⟩
   have hxd:(rs.map RL.dat)[j]?=some x.dat:=by rw [List.getElem?_map,hx];rfl
   rw [drop_cons hxd] at hke
   simp only [relsErr] at hke
   have HX:=qH hx
   have HAk:=qH (show aheadK RL.id rs (j+1)=some x.dat.id from by simp only [aheadK,hx];rfl)
   obtain ⟨C,hC⟩:∃ C,relErr (fun y=>f y != 0) (aheadK RL.id rs j) x.dat=C:=⟨_,rfl⟩
   have HC:=qH hC
   rw [hC] at hke
   have HK:=qH hke
   have p1:wr.cell? ⟨w.heap.size,1,none⟩=some (.slice AR nR cR):=HBx.out.cell 1
   clear hx hxd hke hC hjl
   go_wp2_with fail
   refine (checkRel_spec _ HGx.out.rels HF.out.rels HMx.out hlt HX.out HC.out).mono ?_
   rintro y w7 ⟨rfl,hs7⟩
   have HS7:=qH (HSx.out.same hs7)
   have HB7:=qH (HBx.out.same hs7)
   by_cases hz:C=0
   · subst hz
     have hk:=HK.out.trans (if_neg (by simp))
     have HK2:=qH hk
     have HSr:=qH (KS.out.same hs7)
     clear hk HSx p1 hs7
     go_wp2
     go_roundg (nR-(j+1))
     case measure=>omega
     case rel=>exact ⟨j+1,rfl,by omega,by go_num,HSr,qH (by rw [HR1.out,HAk.out];exact HK2.out)⟩
   have hk:=HK.out.trans (if_pos hz)
   injection hk with hk
   injection hk with h1 h2
   have hcn:(C != 0)=true:=by rw [bne_iff_ne];exact hz
   have p0:w7.cell? ⟨w.heap.size,0,none⟩=some (.slice AN i cN):=HB7.out.cell 0
   clear hs7 p1 HK HB7
   subst h1 h2
   have h3:=HI2.out
   have hw3:IntKind.i64.wrap ((i:Int)+(i1:Int))=((i+i1:Nat):Int):=by rw [IntKind.wrap_i64];omega
   go_wp2_with fail
   go_quiet (fail)
   go_wp2
   go_ret2
   exact ⟨by rw [<- HI2.out];simp,HS7.out.same ((Upd.refl _ _).drewN _)⟩
 rw [List.drop_of_length_le (by rw [List.length_map,HL'.out];omega)] at hke
 simp [relsErr] at hke
end Go.Proofs.YtkopcinhbjimiaaGreatDoor
