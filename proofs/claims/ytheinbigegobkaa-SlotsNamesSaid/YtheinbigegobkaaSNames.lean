/- SlotsNames: for every input it returns true. -/
import Derived.Test.YtheinbigegobkaaOpen
import Derived.Test.YtheinbigegobkaaLaw16
namespace Go.Proofs.Ytheinbigegobkaa
open Go.ChangeShapes Go.WideShapes Go.ChangeAt Go.RowKit

set_option maxHeartbeats 400000 in
theorem snames_walk (w : World) : Calls Try.prog 3 #[] w fun e w' => e = .returned (.bool true) ∧ Same w w' := by
  go_enter Try.func3, Try.ntmps3
  go_wp2_with fail
  refine (speaks16_spec w).mono ?_
  rintro e w1 ⟨rfl, hs⟩
  go_wp2
  go_ret
  exact ⟨rfl, hs⟩

set_option maxRecDepth 100000 in
theorem slotsNames_lifted (os : Os) (started : os.Started) (H : Type) (enc : TypeId × Value → H) :
    ReturnsInHanded {} Try.checked os 3 .any (Rows.slotsNamesSpec.pre6 enc Try.prog Try.f3 Rows.slotsNamesRow.domain false) (Rows.slotsNamesSpec.post enc Try.prog Try.f3 false true false false) := by
  refine returnsInHanded_of_change_sized (C := Try.checked) ownTry started (by kernel_rfl) Try.func3
    (ChangeSpec.witness6 (enc := enc) (C := Try.checked) false ⟨#[], #[], []⟩ 8 (by kernel_rfl) (by kernel_rfl) (by kernel_rfl) (by kernel_rfl)) ?_
  intro W base args ds gs before _ hW _ _ _
  obtain ⟨p, hA⟩ := whole_args (P := Try.prog) (ts := []) (by rw [Try.params3]) hW
  obtain ⟨rfl, rfl, _⟩ := trodAll_none hA
  refine (snames_walk W).mono ?_
  rintro e W' ⟨rfl, hs⟩
  exact ⟨_, rfl, law_post laidTry (ts := []) (by rw [Try.params3]) (tb := 4) (by kernel_rfl) Try.underlying4 (by kernel_rfl) rfl (by rintro rfl; exact ⟨rfl, rfl, rfl⟩) hW hs.below⟩

theorem slotsNames_holds : Rows.SlotsNamesSaid :=
  OpenClaim.holds_of_wide 3 Try.f3 rfl rfl rfl rfl rfl rfl rfl ⟨rfl, rfl, rfl, rfl, rfl⟩ rfl rfl rfl rfl rfl (by kernel_rfl) Try.func3 (by kernel_rfl)
    (of_decide_eq_true (by kernel_rfl)) (by unfold Func.isWrapper; first | (rw [if_pos (by decide +kernel)]; kernel_rfl) | (rw [if_neg (by decide +kernel)]; exact ⟨rfl, rfl⟩))
    (fun os started H enc _ => slotsNames_lifted os started H enc)
end Go.Proofs.Ytheinbigegobkaa
