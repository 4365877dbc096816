/- Texts that the claim leans on: walks and plain laws, function by function. -/
import Derived.Test.YtkopcinhbjimiaaGreatDoorTie
import Derived.Test.YtkopcinhbjimiaaGreatDoorCards
import Derived.SevenTiedAt
import Derived.Test.YtkopcinhbjimiaaGreatDoorQ38
set_option maxRecDepth 100000
set_option maxHeartbeats 16000000
namespace Go.Proofs.YtkopcinhbjimiaaGreatDoor
open Go.RowKit
theorem Zlk {F F':Nat->Prop} {A A':Option Addr} {n c n' c':Nat} {xs ys:List UInt8} (w:World) (h:Bytes w F A n c xs) (h':Bytes w F' A' n' c' ys) {r:Bool} (hr:decide (xs=ys)=r) :
 Calls Tryz.prog 16 #[.slice A n c,.slice A' n' c'] w fun e w'=>e=.returned (.bool r)/\w=w':=by
 have k1:=Zay h
 have k2:=Zay h'
 have he:(xs==ys)=r:=by
  rw [<- hr]
  by_cases hx:xs=ys
  · subst hx
    rw [decide_eq_true rfl,beq_self_eq_true]
  rw [decide_eq_false hx,beq_eq_false_iff_ne]
  exact hx
 clear h h' hr
 go_enter Tryz.func16,Tryz.ntmps16
 go_wp2
 go_ret
 exact ⟨by simp,rfl⟩
end Go.Proofs.YtkopcinhbjimiaaGreatDoor
namespace Go.Proofs.YtkopcinhbjimiaaGreatDoor
open Go.ChangeShapes Go.WideShapes Go.ChangeAt Go.RowKit
theorem ZfE {F:Nat->Prop} (w:World) (hN:Nib w) {A:Option Addr} {n c:Nat} {bs:List UInt8} (h:Bytes w F A n c bs) (hz:n<=140737488351232) :
 Calls Tryz.prog 6 #[.slice A n c] w fun e w'=>e=.returned (.bool true)/\Same w w':=by
 obtain ⟨er,G,hR⟩:∃ er G,Zcv bs=(er,G):=⟨_,_,rfl⟩
 have HR1:=qH (show (Zcv bs).1=er by rw [hR])
 have HR2:=qH (show (Zcv bs).2=G by rw [hR])
 have HB:=qH h
 have HN:=qH hN
 have HL:=qH h.len
 have hz':n<=140737488355328:=by omega
 clear h hN hR hz
 go_enter Tryz.func6,Tryz.ntmps6
 go_wp2_with fail
 refine (ZfX w HN.out).mono ?_
 rintro e w1 ⟨rfl,hs1⟩
 have HS1:=qH hs1
 clear hs1
 go_wp2_with fail
 refine (ZdN w1 (HB.out.same HS1.out) hz').mono ?_
 rintro e w2 ⟨v2,rfl,hO2,hs2⟩
 obtain ⟨A2,c2,rfl⟩:=Zad hO2
 rw [HL.out] at hO2 ⊢
 have HY2:=qH (ZaB HL.out hO2)
 have HS2:=qH (HS1.out.trans hs2 fun _ _ f=>f)
 clear hO2 hs2
 go_wp2_with fail
 refine (Zfx w2 HY2.out (HN.out.same HS2.out)).mono ?_
 rintro e w3 ⟨⟨ns,AN,nN,cN,rs,AR,nR,cR⟩,rfl,hD3,hO3,hs3⟩
 rw [HR2.out] at hD3
 rw [HR1.out]
 have hs4:=hs3.alloc (.cells #[.slice AN nN cN,.slice AR nR cR] 26)
 have HB4:=qH (Blk.new w3 26 #[.slice AN nN cN,.slice AR nR cR])
 have HO4:=qH (hO3.same ((Upd.refl _ w3).alloc (.cells #[.slice AN nN cN,.slice AR nR cR] 26)))
 have HS4:=qH (HS2.out.trans hs4 fun _ _ f=>f)
 have HY4:=qH (HY2.out.same hs4)
 have HD3:=qH hD3
 clear hO3 hs3 hs4 hD3
 go_upto_region 5 with fail
 generalize w3.alloc (.cells #[.slice AN nN cN,.slice AR nR cR] 26)=w4 at *
 generalize w3.heap.size=g3 at *
 go_wp2_with fail
 refine (ZfB w4 (HB.out.same HS4.out)).mono ?_
 rintro e w5 ⟨⟨ns',AN',nN',cN',rs',AR',nR',cR'⟩,rfl,hD5,hO5,hs5⟩
 rw [HR1.out]
 rw [HR2.out] at hD5
 have sB:=(Upd.refl (fun _=>False) w5).alloc (.cells #[.slice AN' nN' cN',.slice AR' nR' cR'] 26)
 have hs6:Same w4 _:=hs5.trans sB fun _ _ f=>f
 have HB6:=qH (Blk.new w5 26 #[.slice AN' nN' cN',.slice AR' nR' cR'])
 have HO6:=qH (hO5.same sB)
 have HO46:=qH (HO4.out.same hs6)
 have HB46:=qH (HB4.out.same hs6)
 have HS6:=qH (HS4.out.trans hs6 fun _ _ f=>f)
 have HY6:=qH (HY4.out.same hs6)
 have HDD:=qH (HD3.out.trans hD5.symm)
 clear hO5 hs5 hs6 hD5 sB
 go_upto_region 6 with fail
 generalize w5.alloc (.cells #[.slice AN' nN' cN',.slice AR' nR' cR'] 26)=w6 at *
 generalize w5.heap.size=g5 at *
 have d0:w6.cell? ⟨g3,0,none⟩=some (.slice AN nN cN):=HB46.out.cell 0
 have d1:w6.cell? ⟨g3,1,none⟩=some (.slice AR nR cR):=HB46.out.cell 1
 have c0:w6.cell? ⟨g5,0,none⟩=some (.slice AN' nN' cN'):=HB6.out.cell 0
 have c1:w6.cell? ⟨g5,1,none⟩=some (.slice AR' nR' cR'):=HB6.out.cell 1
 have HSG:=qH (Zev w6 ⟨ns,AN,nN,cN,rs,AR,nR,cR⟩ ⟨ns',AN',nN',cN',rs',AR',nR',cR'⟩ HO46.out.rd HO6.out.rd ((ZgC _ _).2 HDD.out))
 go_wp2_with fail
 refine HSG.out.mono ?_
 rintro e w7 ⟨rfl,hs7⟩
 have HS7:=qH (HS6.out.trans hs7 fun _ _ f=>f)
 have HY7:=qH (HY6.out.same hs7)
 clear hs7
 go_wp2_with fail
 refine (Zlk w7 HY7.out (HB.out.same HS7.out) (decide_eq_true rfl)).mono ?_
 rintro e w8 ⟨rfl,rfl⟩
 go_wp2
 go_ret
 exact ⟨rfl,HS7.out⟩
theorem ZeC (os:Os) (started:os.Started) (H:Type) (enc:TypeId×Value->H) :
 ReturnsInHanded {} Tryz.checked os 6 .any (fun w args=>(Rows.archiveReadsSpec.pre enc Tryz.prog Tryz.f6 [] false w args/\laidMetH Tryz.prog ZjU w)/\sizedMet enc Tryz.prog Tryz.f6 (OpenSpec.ofChange Rows.archiveReadsSpec) false w args)
  (Rows.archiveReadsSpec.post enc Tryz.prog Tryz.f6 false true false false):=by
 refine returnsInHanded_of_change_and (C:=Tryz.checked) (X:=fun w _=>laidMetH Tryz.prog ZjU w) (fun _ _ _ hh h=>h.of_heap hh) Zpm started (by kernel_rfl) Tryz.func6
  (ChangeSpec.witness_shaped (enc:=enc) (C:=Tryz.checked) (os:=os) (X:=fun w _=>laidMetH Tryz.prog ZjU w) false (World.doorLaid Tryz.prog 400 os) #[.slice none 0 0] 8 rfl (World.shaped_of_RefB (by kernel_rfl) (by kernel_rfl)) (by kernel_rfl) (by kernel_rfl) (by kernel_rfl) (ZlZ os _)) ?_
 intro W base args ds gs before hval hW _ hsz hL _
 obtain ⟨p,hA⟩:=ZhH (P:=Tryz.prog) (ts:=[28]) (by rw [Tryz.params6]) hW
 obtain ⟨v0,d0,rfl,rfl,h0⟩:=trodAll_one hA
 obtain ⟨A0,n0,c0,bs0,rfl,hr0,z0⟩:=ZhI (hval 0 28 v0 (by rw [Tryz.params6];rfl) rfl) h0 (Zfm hsz (j:=0) (by rw [Tryz.params6];rfl) rfl)
 refine (ZfE W (Zhi hL) hr0 z0).mono ?_
 rintro e W' ⟨rfl,hs⟩
 exact ⟨_,rfl,ZlC Znn (ts:=[28]) (by rw [Tryz.params6]) (tb:=4) (by kernel_rfl) Tryz.underlying4 (by kernel_rfl) rfl (by rintro rfl;exact ⟨rfl,rfl,rfl⟩) hW hs.below⟩
theorem ZfF:Rows.ArchiveReadsSaid :=
 OpenClaim.holds_of_wide 6 Tryz.f6 rfl rfl rfl rfl rfl rfl rfl ⟨rfl,rfl,rfl,rfl,rfl⟩ rfl rfl rfl rfl rfl (by kernel_rfl) Tryz.func6 (by kernel_rfl)
  (of_decide_eq_true (by kernel_rfl)) (by unfold Func.isWrapper;first | (rw [if_pos (by decide +kernel)];kernel_rfl) | (rw [if_neg (by decide +kernel)];exact ⟨rfl,rfl⟩))
  (fun os started H enc _=>ZeC os started H enc)
theorem archiveReads_holds:Rows.ArchiveReadsCardSaid :=
 Claim7.holds_tied_plain_at .later [] [.data] true (true, "4982e14d7e6b816143ef947475410f28ce78841f78923bc3c4f68e82710c8bf7") false
  ZfF (fun _ h=>by cases h) (by kernel_rfl) (fun _ h=>by cases h) archiveReads_row_tie rfl ⟨rfl,rfl⟩ (by kernel_rfl) rfl
  (fun f fn hf hfn=>by
    obtain rfl:f=6:=Option.some.inj ((show Tryz.prog.funcNamed "satchel/satchellaw20.ArchiveReads" = some 6 by kernel_rfl).symm.trans hf) |>.symm
    obtain rfl:fn=Tryz.f6:=(Option.some.inj (Tryz.func6.symm.trans hfn)).symm
    exact ⟨by kernel_rfl,fun j t ht=>by
     rw [Tryz.params6] at ht
     have hm:t∈[28]:=by simpa using Array.mem_of_getElem? ht
     have hall:([28].all fun u=>!Tryz.prog.wantsStandIn u)=true:=by kernel_rfl
     exact (show Tryz.prog.wantsStandIn t=false by simpa using List.all_eq_true.1 hall t hm)⟩)
  (by kernel_rfl)
end Go.Proofs.YtkopcinhbjimiaaGreatDoor
