/- Lemmas: walks and plain laws. -/
import Derived.Test.YtmkjfhnlnhceiaaGreatDoorTie
import Derived.Test.YtmkjfhnlnhceiaaGreatDoorCards
import Derived.SevenTiedAt
import Derived.Test.YtmkjfhnlnhceiaaGreatDoorF37
set_option maxRecDepth 100000
set_option maxHeartbeats 16000000
namespace Go.Proofs.YtmkjfhnlnhceiaaGreatDoor
open Go.ChangeShapes Go.WideShapes Go.ChangeAt Go.RowKit
theorem ZfT (os:Os) (A:os.Started) (H:Type) (enc:TypeId×Value->H) :
 ReturnsInHanded {} Tryz.checked os 6 .any (fun w args=>(Rows.storeoneFreshSpec.pre enc Tryz.prog Tryz.f6 [] false w args/\laidMetH Tryz.prog dO w)/\sizedMet enc Tryz.prog Tryz.f6 (OpenSpec.ofChange Rows.storeoneFreshSpec) false w args)
  (Rows.storeoneFreshSpec.post enc Tryz.prog Tryz.f6 false true false false):=by
 refine returnsInHanded_of_change_and (C:=Tryz.checked) (X:=fun w _=>laidMetH Tryz.prog dO w) (fun _ _ _ i h=>h.of_heap i) ZwD A qK Tryz.func6
  (ChangeSpec.witness_shaped (enc:=enc) (C:=Tryz.checked) (os:=os) (X:=fun w _=>laidMetH Tryz.prog dO w) false (World.doorLaid Tryz.prog 400 os) #[.slice none 0 0] 8 rfl (World.shaped_of_RefB qK qK) qK qK qK (ZtW os _)) ?_
 intro W f args s t b a g _ c k _;obtain ⟨p,l⟩:=Zqw (P:=Tryz.prog) (ts:=[29]) (by rw [CN]) g;obtain ⟨m,u,rfl,rfl,n⟩:=trodAll_one l;obtain ⟨v,x,y,o,rfl,d,q⟩:=Zrr (a 0 29 m (by rw [CN];rfl) rfl) n (Zqy c (j:=0) (by rw [CN];rfl) rfl);refine (Zhe W (Zoh k) d q).mono ?_;rintro e z ⟨rfl,r⟩;exact ⟨_,rfl,ZtZ ZvB (ts:=[29]) (by rw [CN]) (tb:=4) qK Tryz.underlying4 qK rfl (by rintro rfl;exact ⟨rfl,rfl,rfl⟩) g r.below⟩
theorem Zhf:Rows.StoreoneFreshSaid :=
 OpenClaim.holds_of_wide 6 Tryz.f6 rfl rfl rfl rfl rfl rfl rfl ⟨rfl,rfl,rfl,rfl,rfl⟩ rfl rfl rfl rfl rfl qK Tryz.func6 qK
  (MJ qK) (by unfold Func.isWrapper;first | (rw [gA (by decide +kernel)];kernel_rfl) | (rw [aA (by decide +kernel)];exact ⟨rfl,rfl⟩))
  (fun b a H enc _=>ZfT b a H enc)
theorem storeoneFresh_holds:Rows.StoreoneFreshCardSaid :=
 Claim7.holds_tied_plain_at .later [] [.data] true (true, "1cd6a12e3da0823151ec41b30176c8f565628799a78765dfe8e94f2355e42a3f") true
  Zhf (fun _ h=>by cases h) qK (fun _ h=>by cases h) storeoneFresh_row_tie rfl ⟨rfl,rfl⟩ qK rfl
  (fun f e g b=>by
    obtain rfl:f=6:=eB ((show Tryz.prog.funcNamed "satchel/satchellaw14.StoreoneFresh" = some 6 by kernel_rfl).symm.trans g) |>.symm;obtain rfl:e=Tryz.f6:=(eB (Tryz.func6.symm.trans b)).symm;exact ⟨qK,fun j t c=>by
     rw [CN] at c;have d:t∈[29]:=by simpa using Array.mem_of_getElem? c
     have a:([29].all fun u=>!Tryz.prog.wantsStandIn u)=true:=qK;exact (show Tryz.prog.wantsStandIn t=false by simpa using EG.1 a t d)⟩)
  qK
end Go.Proofs.YtmkjfhnlnhceiaaGreatDoor
