/- SlotsNeeds: for every input it returns true, and the input reads as it did. -/
import Derived.Test.YtheinbigegobkaaOpenKV
import Derived.Test.YtheinbigegobkaaTopN
namespace Go.Proofs.Ytheinbigegobkaa
open Go.ChangeShapes Go.WideShapes Go.ChangeAt Go.RowKit

set_option maxRecDepth 100000 in
theorem slotsNeeds_lifted (os : Os) (started : os.Started) (H : Type) (enc : TypeId × Value → H) :
    ReturnsInHanded {} Try.checked os 4 .any (Rows.slotsNeedsSpec.pre6 enc Try.prog Try.f4 Rows.slotsNeedsRow.domain false) (Rows.slotsNeedsSpec.post enc Try.prog Try.f4 false true false false) := by
  refine returnsInHanded_of_change_sized (C := Try.checked) ownTry started (by kernel_rfl) Try.func4
    (ChangeSpec.witness6 (enc := enc) (C := Try.checked) false ⟨#[], #[.agg #[.int .i64 0, .int .i64 0, .string ⟨#[]⟩, .slice none 0 0, .slice none 0 0]], []⟩ 8 (by kernel_rfl) (by kernel_rfl) (by kernel_rfl) (by kernel_rfl)) ?_
  intro W base args ds gs before hval hW _ hsz _
  obtain ⟨p, hA⟩ := whole_args (P := Try.prog) (ts := [26]) (by rw [Try.params4]) hW
  obtain ⟨v0, d0, rfl, rfl, h0⟩ := trodAll_one hA
  obtain ⟨g0, A01, n01, c01, A02, n02, c02, rfl, hr0, q01, q02, q03, q04⟩ := open_value (hval 0 26 v0 (by rw [Try.params4]; rfl) rfl) h0 (weights_of hsz (j := 0) (by rw [Try.params4]; rfl) rfl)
  refine (sneeds_walk W hr0 q01 q02 q03 q04).mono ?_
  rintro e W' ⟨rfl, hs⟩
  exact ⟨_, rfl, law_post laidTry (ts := [26]) (by rw [Try.params4]) (tb := 4) (by kernel_rfl) Try.underlying4 (by kernel_rfl) rfl (by rintro rfl; exact ⟨rfl, rfl, rfl⟩) hW hs.below⟩

theorem slotsNeeds_holds : Rows.SlotsNeedsSaid :=
  OpenClaim.holds_of_wide 4 Try.f4 rfl rfl rfl rfl rfl rfl rfl ⟨rfl, rfl, rfl, rfl, rfl⟩ rfl rfl rfl rfl rfl (by kernel_rfl) Try.func4 (by kernel_rfl)
    (of_decide_eq_true (by kernel_rfl)) (by unfold Func.isWrapper; first | (rw [if_pos (by decide +kernel)]; kernel_rfl) | (rw [if_neg (by decide +kernel)]; exact ⟨rfl, rfl⟩))
    (fun os started H enc _ => slotsNeeds_lifted os started H enc)
end Go.Proofs.Ytheinbigegobkaa
