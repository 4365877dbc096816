/- ValuePrefixes: for every input it returns true, and the input reads as it did. -/
import Derived.Test.YtfgdgpingdgfgaaOpenV
import Derived.Test.YtfgdgpingdgfgaaTopC
namespace Go.Proofs.Ytfgdgpingdgfgaa
open Go.ChangeShapes Go.WideShapes Go.ChangeAt Go.RowKit

set_option maxRecDepth 100000 in
theorem valuePrefixes_lifted (os : Os) (started : os.Started) (H : Type) (enc : TypeId × Value → H) :
    ReturnsInHanded {} Try.checked os 7 .any (Rows.valuePrefixesSpec.pre6 enc Try.prog Try.f7 Rows.valuePrefixesRow.domain false) (Rows.valuePrefixesSpec.post enc Try.prog Try.f7 false true false false) := by
  refine returnsInHanded_of_change_sized (C := Try.checked) ownTry started (by kernel_rfl) Try.func7
    (ChangeSpec.witness6 (enc := enc) (C := Try.checked) false ⟨#[], #[.slice none 0 0], []⟩ 8 (by kernel_rfl) (by kernel_rfl) (by kernel_rfl) (by kernel_rfl)) ?_
  intro W base args ds gs before hval hW _ hsz _
  obtain ⟨p, hA⟩ := whole_args (P := Try.prog) (ts := [33]) (by rw [Try.params7]) hW
  obtain ⟨v0, d0, rfl, rfl, h0⟩ := trodAll_one hA
  obtain ⟨A0, n0, c0, bs0, rfl, hr0, q0⟩ := open_bytes (hval 0 33 v0 (by rw [Try.params7]; rfl) rfl) h0 (weights_of hsz (j := 0) (by rw [Try.params7]; rfl) rfl)
  refine (prefixes_walk W hr0 q0).mono ?_
  rintro e W' ⟨rfl, hs⟩
  exact ⟨_, rfl, law_post laidTry (ts := [33]) (by rw [Try.params7]) (tb := 4) (by kernel_rfl) Try.underlying4 (by kernel_rfl) rfl (by rintro rfl; exact ⟨rfl, rfl, rfl⟩) hW hs.below⟩

theorem valuePrefixes_holds : Rows.ValuePrefixesSaid :=
  OpenClaim.holds_of_wide 7 Try.f7 rfl rfl rfl rfl rfl rfl rfl ⟨rfl, rfl, rfl, rfl, rfl⟩ rfl rfl rfl rfl rfl (by kernel_rfl) Try.func7 (by kernel_rfl)
    (of_decide_eq_true (by kernel_rfl)) (by unfold Func.isWrapper; first | (rw [if_pos (by decide +kernel)]; kernel_rfl) | (rw [if_neg (by decide +kernel)]; exact ⟨rfl, rfl⟩))
    (fun os started H enc _ => valuePrefixes_lifted os started H enc)
end Go.Proofs.Ytfgdgpingdgfgaa
