/- ArchiveNames: for every input it returns true (a tied card: crc.nibble's content by the program's text). -/
import Derived.Test.YtkopcinhbjimiaaGreatDoorK40
import Derived.Test.YtkopcinhbjimiaaGreatDoorTie
import Derived.Test.YtkopcinhbjimiaaGreatDoorCards
import Derived.Test.YtkopcinhbjimiaaGreatDoorK17
import Derived.SevenTiedAt
import Derived.Test.YtkopcinhbjimiaaGreatDoorK01
set_option maxRecDepth 100000
set_option maxHeartbeats 16000000
namespace Go.Proofs.YtkopcinhbjimiaaGreatDoor
open Go.ChangeShapes Go.WideShapes Go.ChangeAt Go.RowKit
theorem anames_walk (w:World) (hN:Nib w):Calls Tryz.prog 3 #[] w fun e w'=>e=.returned (.bool true)/\Same w w':=by
 have HC:=qH (speaksA_spec w hN)
 clear hN
 go_enter Tryz.func3,Tryz.ntmps3
 go_wp2_with fail
 refine HC.out.mono ?_
 rintro e w1 ⟨rfl,hs⟩
 go_wp2
 go_ret
 exact ⟨rfl,hs⟩
theorem archiveNames_lifted (os:Os) (started:os.Started) (H:Type) (enc:TypeId×Value->H) :
 ReturnsInHanded {} Tryz.checked os 3 .any (fun w args=>(Rows.archiveNamesSpec.pre enc Tryz.prog Tryz.f3 [] false w args/\laidMetH Tryz.prog laidT w)/\sizedMet enc Tryz.prog Tryz.f3 (OpenSpec.ofChange Rows.archiveNamesSpec) false w args)
  (Rows.archiveNamesSpec.post enc Tryz.prog Tryz.f3 false true false false):=by
 refine returnsInHanded_of_change_and (C:=Tryz.checked) (X:=fun w _=>laidMetH Tryz.prog laidT w) (fun _ _ _ hh h=>h.of_heap hh) ownTry started (by kernel_rfl) Tryz.func3
  (ChangeSpec.witness_shaped (enc:=enc) (C:=Tryz.checked) (os:=os) (X:=fun w _=>laidMetH Tryz.prog laidT w) false (World.doorLaid Tryz.prog 400 os) #[] 8 rfl (World.shaped_of_RefB (by kernel_rfl) (by kernel_rfl)) (by kernel_rfl) (by kernel_rfl) (by kernel_rfl) (door_met os _)) ?_
 intro W base args ds gs before _ hW _ _ hL _
 obtain ⟨p,hA⟩:=whole_args (P:=Tryz.prog) (ts:=[]) (by rw [Tryz.params3]) hW
 obtain ⟨rfl,rfl,_⟩:=trodAll_none hA
 refine (anames_walk W (nib_of_laid hL)).mono ?_
 rintro e W' ⟨rfl,hs⟩
 exact ⟨_,rfl,law_post laidTry (ts:=[]) (by rw [Tryz.params3]) (tb:=4) (by kernel_rfl) Tryz.underlying4 (by kernel_rfl) rfl (by rintro rfl;exact ⟨rfl,rfl,rfl⟩) hW hs.below⟩
theorem archiveNames_said:Rows.ArchiveNamesSaid :=
 OpenClaim.holds_of_wide 3 Tryz.f3 rfl rfl rfl rfl rfl rfl rfl ⟨rfl,rfl,rfl,rfl,rfl⟩ rfl rfl rfl rfl rfl (by kernel_rfl) Tryz.func3 (by kernel_rfl)
  (of_decide_eq_true (by kernel_rfl)) (by unfold Func.isWrapper;first | (rw [if_pos (by decide +kernel)];kernel_rfl) | (rw [if_neg (by decide +kernel)];exact ⟨rfl,rfl⟩))
  (fun os started H enc _=>archiveNames_lifted os started H enc)
theorem archiveNames_holds:Rows.ArchiveNamesCardSaid :=
 Claim7.holds_tied_plain_at .later [] [.data] true (true, "4982e14d7e6b816143ef947475410f28ce78841f78923bc3c4f68e82710c8bf7") false
  archiveNames_said (fun _ h=>by cases h) (by kernel_rfl) (fun _ h=>by cases h) archiveNames_row_tie rfl ⟨rfl,rfl⟩ (by kernel_rfl) rfl
  (fun f fn hf hfn=>by
    obtain rfl:f=3:=Option.some.inj ((show Tryz.prog.funcNamed "satchel/satchellaw20.ArchiveNames" = some 3 by kernel_rfl).symm.trans hf) |>.symm
    obtain rfl:fn=Tryz.f3:=(Option.some.inj (Tryz.func3.symm.trans hfn)).symm
    exact ⟨by kernel_rfl,fun j t ht=>by
     rw [Tryz.params3] at ht
     simp at ht⟩)
  (by kernel_rfl)
end Go.Proofs.YtkopcinhbjimiaaGreatDoor
