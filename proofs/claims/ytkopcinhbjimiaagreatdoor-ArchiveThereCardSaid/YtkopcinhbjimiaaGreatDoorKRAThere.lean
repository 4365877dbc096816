/- ArchiveThere: for every graph it returns true (a tied card: crc.nibble's content by the program's text). -/
import Derived.Test.YtkopcinhbjimiaaGreatDoorK41
import Derived.Test.YtkopcinhbjimiaaGreatDoorTie
import Derived.Test.YtkopcinhbjimiaaGreatDoorCards
import Derived.Test.YtkopcinhbjimiaaGreatDoorK17
import Derived.SevenTiedAt
import Derived.Test.YtkopcinhbjimiaaGreatDoorK01
set_option maxRecDepth 100000
set_option maxHeartbeats 16000000
namespace Go.Proofs.YtkopcinhbjimiaaGreatDoor
open Go.ChangeShapes Go.WideShapes Go.ChangeAt Go.RowKit
theorem read_arc {G:GGraph} (h:(chkP G).1=0) (hR:RightD G):readP (arcP G)=(0,G):=by
 unfold readP
 rw [fedP_arc hR]
 simp only
 unfold ansP
 rw [if_neg (by simp),if_neg (by simp [h])]
theorem archiveThere_walk {F:Nat->Prop} (w:World) (hN:Nib w) {g:GR} (h:RdG w F g) (hz:GSized g) :
 Calls Tryz.prog 8 #[g.agg] w fun e w'=>e=.returned (.bool true)/\Same w w':=by
 have s1:=(Upd.refl (fun _=>False) w).alloc (.cells #[.slice g.AN g.nN g.cN,.slice g.AR g.nR g.cR] 26)
 have HB1:=qH (Blk.new w 26 #[.slice g.AN g.nN g.cN,.slice g.AR g.nR g.cR])
 have HS1:=qH s1
 have HRG:=qH (h.same s1)
 have HZ:=qH hz
 have HN:=qH (hN.same s1)
 obtain ⟨G,hG⟩:∃ G,g.dat=G:=⟨_,rfl⟩
 obtain ⟨er,at_,hE⟩:∃ er at_,chkP g.dat=(er,at_):=⟨_,_,rfl⟩
 have HG:=qH hG
 have HRt:=qH fun (h0:(chkP G).1=0)=>(chkP_right h0 (hG ▸ rd_fits h)).1
 have HE:=qH hE
 clear h hz s1 hN hG hE
 obtain ⟨ns,AN,nN,cN,rs,AR,nR,cR⟩:=g
 simp only at HB1 HS1 HRG
 go_enter Tryz.func8,Tryz.ntmps8
 go_upto_region 1 with fail
 generalize w.alloc (.cells #[.slice AN nN cN,.slice AR nR cR] 26)=w1 at *
 generalize hg0:w.heap.size=g0 at *
 go_wp2_with fail
 refine (speaksA_spec w1 HN.out).mono ?_
 rintro e w2 ⟨rfl,hs2⟩
 have HS2:=qH hs2
 have HB2:=qH (HB1.out.same hs2)
 have c0:w2.cell? ⟨g0,0,none⟩=some (.slice AN nN cN):=HB2.out.cell 0
 have c1:w2.cell? ⟨g0,1,none⟩=some (.slice AR nR cR):=HB2.out.cell 1
 clear hs2
 go_wp2_with fail
 refine (rcheckD_spec w2 ⟨ns,AN,nN,cN,rs,AR,nR,cR⟩ (HRG.out.same HS2.out) HZ.out HE.out).mono ?_
 rintro e w3 ⟨rfl,hs3⟩
 have HS3:=qH (HS2.out.trans hs3 fun _ _ f=>f)
 have HB3:=qH (HB2.out.same hs3)
 clear c0 c1 hs3
 by_cases h0:er=0
 case neg =>
  have nz:(er != 0)=true:=by rw [bne_iff_ne];exact h0
  go_wp2
  go_ret
  exact ⟨rfl,HS1.out.trans HS3.out fun _ _ f=>f⟩
 subst h0
 have HC:Hid ((chkP G).1=0):=qH (by rw [<- HG.out,HE.out])
 have c0:w3.cell? ⟨g0,0,none⟩=some (.slice AN nN cN):=HB3.out.cell 0
 have c1:w3.cell? ⟨g0,1,none⟩=some (.slice AR nR cR):=HB3.out.cell 1
 go_wp2_with fail
 refine (copyG_spec w3 ⟨ns,AN,nN,cN,rs,AR,nR,cR⟩ (HRG.out.same HS3.out) HZ.out).mono ?_
 rintro e w4 ⟨⟨ns',AN',nN',cN',rs',AR',nR',cR'⟩,rfl,HD,HO,hs4⟩
 have HS4:=qH (HS3.out.trans hs4 fun _ _ f=>f)
 have HB4:=qH (HB3.out.same hs4)
 have HZ':=qH (gsized_dat HRG.out HO.out.rd HZ.out HD.out)
 clear c0 c1 hs4
 go_wp2_with fail
 refine (writeF_spec w4 ⟨ns',AN',nN',cN',rs',AR',nR',cR'⟩ HO.out.rd HZ'.out (HN.out.same HS4.out)).mono ?_
 rintro e w5 ⟨v5,rfl,hs5,h51,h52⟩
 rw [HD.out,HG.out] at h51 h52 ⊢
 obtain ⟨A5,n5,c5,rfl,hb5⟩:=awr_bytes h51 h52
 rw [awr_arc HC.out] at hb5
 rw [HC.out]
 have HB5:=qH hb5
 have HS5:=qH (HS4.out.trans hs5 fun _ _ f=>f)
 have HBa:=qH (HB4.out.same hs5)
 clear hs5 h51 h52 hb5
 go_wp2_with fail
 refine (aread_spec w5 HB5.out (HN.out.same HS5.out)).mono ?_
 rintro e w6 ⟨⟨ns2,AN2,nN2,cN2,rs2,AR2,nR2,cR2⟩,rfl,hD6,hO6,hs6⟩
 rw [read_arc HC.out (HRt.out HC.out)] at hD6 ⊢
 have sB:=(Upd.refl (fun _=>False) w6).alloc (.cells #[.slice AN2 nN2 cN2,.slice AR2 nR2 cR2] 26)
 have hs7:Same w5 _:=hs6.trans sB fun _ _ f=>f
 have HB7:=qH (Blk.new w6 26 #[.slice AN2 nN2 cN2,.slice AR2 nR2 cR2])
 have HO7:=qH (hO6.same sB)
 have HBb:=qH (HBa.out.same hs7)
 have HS7:=qH (HS5.out.trans hs7 fun _ _ f=>f)
 have HDD:=qH (HG.out.trans hD6.symm)
 clear hO6 hs6 hs7 hD6 sB
 go_upto_region 10 with fail
 generalize w6.alloc (.cells #[.slice AN2 nN2 cN2,.slice AR2 nR2 cR2] 26)=w7 at *
 generalize w6.heap.size=g6 at *
 have d0:w7.cell? ⟨g0,0,none⟩=some (.slice AN nN cN):=HBb.out.cell 0
 have d1:w7.cell? ⟨g0,1,none⟩=some (.slice AR nR cR):=HBb.out.cell 1
 have c0:w7.cell? ⟨g6,0,none⟩=some (.slice AN2 nN2 cN2):=HB7.out.cell 0
 have c1:w7.cell? ⟨g6,1,none⟩=some (.slice AR2 nR2 cR2):=HB7.out.cell 1
 have HSG:=qH (rsameG_spec w7 ⟨ns,AN,nN,cN,rs,AR,nR,cR⟩ ⟨ns2,AN2,nN2,cN2,rs2,AR2,nR2,cR2⟩ (HRG.out.same HS7.out) HO7.out.rd ((sameG_iff _ _).2 HDD.out))
 go_wp2_with fail
 refine HSG.out.mono ?_
 rintro e w8 ⟨rfl,hs8⟩
 have HS8:=qH (HS7.out.trans hs8 fun _ _ f=>f)
 clear hs8
 go_wp2
 go_ret
 exact ⟨rfl,HS1.out.trans HS8.out fun _ _ f=>f⟩
theorem archiveThere_lifted (os:Os) (started:os.Started) (H:Type) (enc:TypeId×Value->H) :
 ReturnsInHanded {} Tryz.checked os 8 .any (fun w args=>(Rows.archiveThereSpec.pre enc Tryz.prog Tryz.f8 [] false w args/\laidMetH Tryz.prog laidT w)/\sizedMet enc Tryz.prog Tryz.f8 (OpenSpec.ofChange Rows.archiveThereSpec) false w args)
  (Rows.archiveThereSpec.post enc Tryz.prog Tryz.f8 false true false false):=by
 refine returnsInHanded_of_change_and (C:=Tryz.checked) (X:=fun w _=>laidMetH Tryz.prog laidT w) (fun _ _ _ hh h=>h.of_heap hh) ownTry started (by kernel_rfl) Tryz.func8
  (ChangeSpec.witness_shaped (enc:=enc) (C:=Tryz.checked) (os:=os) (X:=fun w _=>laidMetH Tryz.prog laidT w) false (World.doorLaid Tryz.prog 400 os) #[.agg #[.slice none 0 0,.slice none 0 0]] 8 rfl (World.shaped_of_RefB (by kernel_rfl) (by kernel_rfl)) (by kernel_rfl) (by kernel_rfl) (by kernel_rfl) (door_met os _)) ?_
 intro W base args ds gs before hval hW _ hsz hL _
 obtain ⟨p,hA⟩:=whole_args (P:=Tryz.prog) (ts:=[26]) (by rw [Tryz.params8]) hW
 obtain ⟨v0,d0,rfl,rfl,h0⟩:=trodAll_one hA
 obtain ⟨g0,rfl,hr0,z0⟩:=open_graph (hval 0 26 v0 (by rw [Tryz.params8];rfl) rfl) h0 (weights_of hsz (j:=0) (by rw [Tryz.params8];rfl) rfl)
 refine (archiveThere_walk W (nib_of_laid hL) hr0 z0).mono ?_
 rintro e W' ⟨rfl,hs⟩
 exact ⟨_,rfl,law_post laidTry (ts:=[26]) (by rw [Tryz.params8]) (tb:=4) (by kernel_rfl) Tryz.underlying4 (by kernel_rfl) rfl (by rintro rfl;exact ⟨rfl,rfl,rfl⟩) hW hs.below⟩
theorem archiveThere_said:Rows.ArchiveThereSaid :=
 OpenClaim.holds_of_wide 8 Tryz.f8 rfl rfl rfl rfl rfl rfl rfl ⟨rfl,rfl,rfl,rfl,rfl⟩ rfl rfl rfl rfl rfl (by kernel_rfl) Tryz.func8 (by kernel_rfl)
  (of_decide_eq_true (by kernel_rfl)) (by unfold Func.isWrapper;first | (rw [if_pos (by decide +kernel)];kernel_rfl) | (rw [if_neg (by decide +kernel)];exact ⟨rfl,rfl⟩))
  (fun os started H enc _=>archiveThere_lifted os started H enc)
theorem archiveThere_holds:Rows.ArchiveThereCardSaid :=
 Claim7.holds_tied_plain_at .later [] [.data] true (true, "4982e14d7e6b816143ef947475410f28ce78841f78923bc3c4f68e82710c8bf7") false
  archiveThere_said (fun _ h=>by cases h) (by kernel_rfl) (fun _ h=>by cases h) archiveThere_row_tie rfl ⟨rfl,rfl⟩ (by kernel_rfl) rfl
  (fun f fn hf hfn=>by
    obtain rfl:f=8:=Option.some.inj ((show Tryz.prog.funcNamed "satchel/satchellaw20.ArchiveThere" = some 8 by kernel_rfl).symm.trans hf) |>.symm
    obtain rfl:fn=Tryz.f8:=(Option.some.inj (Tryz.func8.symm.trans hfn)).symm
    exact ⟨by kernel_rfl,fun j t ht=>by
     rw [Tryz.params8] at ht
     have hm:t∈[26]:=by simpa using Array.mem_of_getElem? ht
     have hall:([26].all fun u=>!Tryz.prog.wantsStandIn u)=true:=by kernel_rfl
     exact (show Tryz.prog.wantsStandIn t=false by simpa using List.all_eq_true.1 hall t hm)⟩)
  (by kernel_rfl)
end Go.Proofs.YtkopcinhbjimiaaGreatDoor
