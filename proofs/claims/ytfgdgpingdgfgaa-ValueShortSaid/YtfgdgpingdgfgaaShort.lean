/- ValueShort: for every input it returns true, and the input reads as it did. -/
import Derived.Test.YtfgdgpingdgfgaaOpenV
import Derived.Test.YtfgdgpingdgfgaaTopF
namespace Go.Proofs.Ytfgdgpingdgfgaa
open Go.ChangeShapes Go.WideShapes Go.ChangeAt Go.RowKit

set_option maxRecDepth 100000 in
theorem valueShort_lifted (os : Os) (started : os.Started) (H : Type) (enc : TypeId × Value → H) :
    ReturnsInHanded {} Try.checked os 9 .any (Rows.valueShortSpec.pre6 enc Try.prog Try.f9 Rows.valueShortRow.domain false) (Rows.valueShortSpec.post enc Try.prog Try.f9 false true false false) := by
  refine returnsInHanded_of_change_sized (C := Try.checked) ownTry started (by kernel_rfl) Try.func9
    (ChangeSpec.witness6 (enc := enc) (C := Try.checked) false ⟨#[], #[.agg #[.int .i64 0, .int .i64 0, .string ⟨#[]⟩, .slice none 0 0, .slice none 0 0], .int .i64 0], []⟩ 8 (by kernel_rfl) (by kernel_rfl) (by kernel_rfl) (by kernel_rfl)) ?_
  intro W base args ds gs before hval hW _ hsz _
  obtain ⟨p, hA⟩ := whole_args (P := Try.prog) (ts := [26, 3]) (by rw [Try.params9]) hW
  obtain ⟨v0, v1, d0, d1, p0, p1, rfl, rfl, _, h0, h1⟩ := trodAll_two hA
  obtain ⟨g0, A01, n01, c01, A02, n02, c02, rfl, hr0, q01, q02, q03, q04⟩ := open_value (hval 0 26 v0 (by rw [Try.params9]; rfl) rfl) h0 (weights_of hsz (j := 0) (by rw [Try.params9]; rfl) rfl)
  obtain ⟨k1, rfl, _, _, hr1⟩ := open_int Try.underlying3 (hval 1 3 v1 (by rw [Try.params9]; rfl) rfl) h1
  refine (short_walk W hr0 (wf_i64 hr1) q01 q02 q03 q04 ).mono ?_
  rintro e W' ⟨rfl, hs⟩
  exact ⟨_, rfl, law_post laidTry (ts := [26, 3]) (by rw [Try.params9]) (tb := 4) (by kernel_rfl) Try.underlying4 (by kernel_rfl) rfl (by rintro rfl; exact ⟨rfl, rfl, rfl⟩) hW hs.below⟩

theorem valueShort_holds : Rows.ValueShortSaid :=
  OpenClaim.holds_of_wide 9 Try.f9 rfl rfl rfl rfl rfl rfl rfl ⟨rfl, rfl, rfl, rfl, rfl⟩ rfl rfl rfl rfl rfl (by kernel_rfl) Try.func9 (by kernel_rfl)
    (of_decide_eq_true (by kernel_rfl)) (by unfold Func.isWrapper; first | (rw [if_pos (by decide +kernel)]; kernel_rfl) | (rw [if_neg (by decide +kernel)]; exact ⟨rfl, rfl⟩))
    (fun os started H enc _ => valueShort_lifted os started H enc)
end Go.Proofs.Ytfgdgpingdgfgaa
