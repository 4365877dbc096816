/- ArchiveOne: for all bytes it returns true (a tied card: crc.nibble's content by the program's text). -/
import Derived.Test.YtkopcinhbjimiaaGreatDoorK41
import Derived.Test.YtkopcinhbjimiaaGreatDoorTie
import Derived.Test.YtkopcinhbjimiaaGreatDoorCards
import Derived.Test.YtkopcinhbjimiaaGreatDoorK17
import Derived.SevenTiedAt
import Derived.Test.YtkopcinhbjimiaaGreatDoorK01
set_option maxRecDepth 100000
set_option maxHeartbeats 16000000
namespace Go.Proofs.YtkopcinhbjimiaaGreatDoor
open Go.ChangeShapes Go.WideShapes Go.ChangeAt Go.RowKit
theorem archiveOne_walk {F:Nat->Prop} (w:World) (hN:Nib w) {A:Option Addr} {n c:Nat} {bs:List UInt8} (h:Bytes w F A n c bs) (hz:n<=140737488351232) :
 Calls Tryz.prog 9 #[.slice A n c] w fun e w'=>e=.returned (.bool true)/\Same w w':=by
 obtain ⟨er,G,hR⟩:∃ er G,readP bs=(er,G):=⟨_,_,rfl⟩
 have HR1:=qH (show (readP bs).1=er by rw [hR])
 have HR2:=qH (show (readP bs).2=G by rw [hR])
 have HB:=qH h
 have HN:=qH hN
 have HL:=qH h.len
 have hz':n<=140737488355328:=by omega
 clear h hN hR hz
 go_enter Tryz.func9,Tryz.ntmps9
 go_wp2_with fail
 refine (speaksA_spec w HN.out).mono ?_
 rintro e w1 ⟨rfl,hs1⟩
 have HS1:=qH hs1
 clear hs1
 go_wp2_with fail
 refine (clone20_spec w1 (HB.out.same HS1.out) hz').mono ?_
 rintro e w2 ⟨v2,rfl,hO2,hs2⟩
 obtain ⟨A2,c2,rfl⟩:=own_form hO2
 rw [HL.out] at hO2 ⊢
 have HY2:=qH (own_bytes_n HL.out hO2)
 have HS2:=qH (HS1.out.trans hs2 fun _ _ f=>f)
 clear hO2 hs2
 go_wp2_with fail
 refine (aread_spec w2 HY2.out (HN.out.same HS2.out)).mono ?_
 rintro e w3 ⟨⟨ns,AN,nN,cN,rs,AR,nR,cR⟩,rfl,hD3,hO3,hs3⟩
 rw [HR2.out] at hD3
 rw [HR1.out]
 have hs4:=hs3.alloc (.cells #[.slice AN nN cN,.slice AR nR cR] 26)
 have HB4:=qH (Blk.new w3 26 #[.slice AN nN cN,.slice AR nR cR])
 have HO4:=qH (hO3.same ((Upd.refl _ w3).alloc (.cells #[.slice AN nN cN,.slice AR nR cR] 26)))
 have HS4:=qH (HS2.out.trans hs4 fun _ _ f=>f)
 have HD3:=qH hD3
 clear hO3 hs3 hs4 hD3
 go_upto_region 4 with fail
 generalize w3.alloc (.cells #[.slice AN nN cN,.slice AR nR cR] 26)=w4 at *
 generalize w3.heap.size=g3 at *
 have d0:w4.cell? ⟨g3,0,none⟩=some (.slice AN nN cN):=HB4.out.cell 0
 have d1:w4.cell? ⟨g3,1,none⟩=some (.slice AR nR cR):=HB4.out.cell 1
 by_cases h0:er=0
 case neg =>
  have nz:(er != 0)=true:=by rw [bne_iff_ne];exact h0
  have hg:G=noG:=by rw [<- HR2.out];exact readP_err (by rw [HR1.out];exact h0)
  have e1:nN=0:=by
   have h1:ns.length=nN:=HO4.out.rd.nodes.len
   have h2:=congrArg (fun x:GGraph=>x.nodes.length) (HD3.out.trans hg)
   simp only [GR.dat,List.length_map,noG,List.length_nil] at h2
   omega
  have e2:nR=0:=by
   have h1:rs.length=nR:=HO4.out.rd.rels.len
   have h2:=congrArg (fun x:GGraph=>x.rels.length) (HD3.out.trans hg)
   simp only [GR.dat,List.length_map,noG,List.length_nil] at h2
   omega
  subst e1 e2
  go_wp2
  go_ret
  exact ⟨rfl,HS4.out⟩
 subst h0
 have hok:=readP_ok HR1.out
 rw [HR2.out] at hok
 have HC:=qH hok.1
 have HBS:=qH hok.2
 have HRt:=qH (chkP_right hok.1 (HD3.out ▸ rd_fits HO4.out.rd)).1
 obtain ⟨at_,hE⟩:∃ at_,chkP (GR.dat ⟨ns,AN,nN,cN,rs,AR,nR,cR⟩)=(0,at_):=⟨(chkP (GR.dat ⟨ns,AN,nN,cN,rs,AR,nR,cR⟩)).2,Prod.ext (by rw [HD3.out];exact hok.1) rfl⟩
 have HE:=qH hE
 have HZ:Hid (GSized ⟨ns,AN,nN,cN,rs,AR,nR,cR⟩):=qH (by
  refine own_sized HO4.out ⟨?_,?_⟩ ?_ ?_
  · rw [HD3.out];exact fun x hx=>(HRt.out.nodes x hx).1
  · rw [HD3.out];exact fun x hx=>(HRt.out.rels x hx).1
  · have h3:=HRt.out.nN;rw [<- HD3.out] at h3;simp only [GR.dat,List.length_map] at h3;show ns.length<=16777216;omega
  have h3:=HRt.out.nR;rw [<- HD3.out] at h3;simp only [GR.dat,List.length_map] at h3;show rs.length<=16777216;omega)
 clear hok hE
 go_wp2_with fail
 refine (rcheckD_spec w4 ⟨ns,AN,nN,cN,rs,AR,nR,cR⟩ HO4.out.rd HZ.out HE.out).mono ?_
 rintro e w5 ⟨rfl,hs5⟩
 have HS5:=qH (HS4.out.trans hs5 fun _ _ f=>f)
 have HO5:=qH (HO4.out.same hs5)
 have HB5:=qH (HB4.out.same hs5)
 have c0:w5.cell? ⟨g3,0,none⟩=some (.slice AN nN cN):=HB5.out.cell 0
 have c1:w5.cell? ⟨g3,1,none⟩=some (.slice AR nR cR):=HB5.out.cell 1
 clear d0 d1 hs5
 go_wp2_with fail
 refine (writeF_spec w5 ⟨ns,AN,nN,cN,rs,AR,nR,cR⟩ HO5.out.rd HZ.out (HN.out.same HS5.out)).mono ?_
 rintro e w6 ⟨v6,rfl,hs6,h61,h62⟩
 rw [HD3.out] at h61 h62 ⊢
 obtain ⟨A6,n6,c6,rfl,hb6⟩:=awr_bytes h61 h62
 rw [awr_arc HC.out,<-HBS.out] at hb6
 rw [HC.out]
 have HB6:=qH hb6
 have HS6:=qH (HS5.out.trans hs6 fun _ _ f=>f)
 have HSM:=qH (same20_spec w6 (HB.out.same HS6.out) hb6 (decide_eq_true rfl))
 clear c0 c1 hs6 h61 h62 hb6
 go_wp2_with fail
 refine HSM.out.mono ?_
 rintro e w7 ⟨rfl,rfl⟩
 go_wp2
 go_ret
 exact ⟨rfl,HS6.out⟩
theorem archiveOne_lifted (os:Os) (started:os.Started) (H:Type) (enc:TypeId×Value->H) :
 ReturnsInHanded {} Tryz.checked os 9 .any (fun w args=>(Rows.archiveOneSpec.pre enc Tryz.prog Tryz.f9 [] false w args/\laidMetH Tryz.prog laidT w)/\sizedMet enc Tryz.prog Tryz.f9 (OpenSpec.ofChange Rows.archiveOneSpec) false w args)
  (Rows.archiveOneSpec.post enc Tryz.prog Tryz.f9 false true false false):=by
 refine returnsInHanded_of_change_and (C:=Tryz.checked) (X:=fun w _=>laidMetH Tryz.prog laidT w) (fun _ _ _ hh h=>h.of_heap hh) ownTry started (by kernel_rfl) Tryz.func9
  (ChangeSpec.witness_shaped (enc:=enc) (C:=Tryz.checked) (os:=os) (X:=fun w _=>laidMetH Tryz.prog laidT w) false (World.doorLaid Tryz.prog 400 os) #[.slice none 0 0] 8 rfl (World.shaped_of_RefB (by kernel_rfl) (by kernel_rfl)) (by kernel_rfl) (by kernel_rfl) (by kernel_rfl) (door_met os _)) ?_
 intro W base args ds gs before hval hW _ hsz hL _
 obtain ⟨p,hA⟩:=whole_args (P:=Tryz.prog) (ts:=[28]) (by rw [Tryz.params9]) hW
 obtain ⟨v0,d0,rfl,rfl,h0⟩:=trodAll_one hA
 obtain ⟨A0,n0,c0,bs0,rfl,hr0,z0⟩:=open_bytes (hval 0 28 v0 (by rw [Tryz.params9];rfl) rfl) h0 (weights_of hsz (j:=0) (by rw [Tryz.params9];rfl) rfl)
 refine (archiveOne_walk W (nib_of_laid hL) hr0 z0).mono ?_
 rintro e W' ⟨rfl,hs⟩
 exact ⟨_,rfl,law_post laidTry (ts:=[28]) (by rw [Tryz.params9]) (tb:=4) (by kernel_rfl) Tryz.underlying4 (by kernel_rfl) rfl (by rintro rfl;exact ⟨rfl,rfl,rfl⟩) hW hs.below⟩
theorem archiveOne_said:Rows.ArchiveOneSaid :=
 OpenClaim.holds_of_wide 9 Tryz.f9 rfl rfl rfl rfl rfl rfl rfl ⟨rfl,rfl,rfl,rfl,rfl⟩ rfl rfl rfl rfl rfl (by kernel_rfl) Tryz.func9 (by kernel_rfl)
  (of_decide_eq_true (by kernel_rfl)) (by unfold Func.isWrapper;first | (rw [if_pos (by decide +kernel)];kernel_rfl) | (rw [if_neg (by decide +kernel)];exact ⟨rfl,rfl⟩))
  (fun os started H enc _=>archiveOne_lifted os started H enc)
theorem archiveOne_holds:Rows.ArchiveOneCardSaid :=
 Claim7.holds_tied_plain_at .later [] [.data] true (true, "4982e14d7e6b816143ef947475410f28ce78841f78923bc3c4f68e82710c8bf7") false
  archiveOne_said (fun _ h=>by cases h) (by kernel_rfl) (fun _ h=>by cases h) archiveOne_row_tie rfl ⟨rfl,rfl⟩ (by kernel_rfl) rfl
  (fun f fn hf hfn=>by
    obtain rfl:f=9:=Option.some.inj ((show Tryz.prog.funcNamed "satchel/satchellaw20.ArchiveOne" = some 9 by kernel_rfl).symm.trans hf) |>.symm
    obtain rfl:fn=Tryz.f9:=(Option.some.inj (Tryz.func9.symm.trans hfn)).symm
    exact ⟨by kernel_rfl,fun j t ht=>by
     rw [Tryz.params9] at ht
     have hm:t∈[28]:=by simpa using Array.mem_of_getElem? ht
     have hall:([28].all fun u=>!Tryz.prog.wantsStandIn u)=true:=by kernel_rfl
     exact (show Tryz.prog.wantsStandIn t=false by simpa using List.all_eq_true.1 hall t hm)⟩)
  (by kernel_rfl)
end Go.Proofs.YtkopcinhbjimiaaGreatDoor
