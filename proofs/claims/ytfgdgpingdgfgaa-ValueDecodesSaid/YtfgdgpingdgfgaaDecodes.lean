/- ValueDecodes: for every input it returns true, and the input reads as it did. -/
import Derived.Test.YtfgdgpingdgfgaaOpenV
import Derived.Test.YtfgdgpingdgfgaaTopC
namespace Go.Proofs.Ytfgdgpingdgfgaa
open Go.ChangeShapes Go.WideShapes Go.ChangeAt Go.RowKit

set_option maxRecDepth 100000 in
theorem valueDecodes_lifted (os : Os) (started : os.Started) (H : Type) (enc : TypeId × Value → H) :
    ReturnsInHanded {} Try.checked os 6 .any (Rows.valueDecodesSpec.pre6 enc Try.prog Try.f6 Rows.valueDecodesRow.domain false) (Rows.valueDecodesSpec.post enc Try.prog Try.f6 false true false false) := by
  refine returnsInHanded_of_change_sized (C := Try.checked) ownTry started (by kernel_rfl) Try.func6
    (ChangeSpec.witness6 (enc := enc) (C := Try.checked) false ⟨#[], #[.slice none 0 0], []⟩ 8 (by kernel_rfl) (by kernel_rfl) (by kernel_rfl) (by kernel_rfl)) ?_
  intro W base args ds gs before hval hW _ hsz _
  obtain ⟨p, hA⟩ := whole_args (P := Try.prog) (ts := [33]) (by rw [Try.params6]) hW
  obtain ⟨v0, d0, rfl, rfl, h0⟩ := trodAll_one hA
  obtain ⟨A0, n0, c0, bs0, rfl, hr0, q0⟩ := open_bytes (hval 0 33 v0 (by rw [Try.params6]; rfl) rfl) h0 (weights_of hsz (j := 0) (by rw [Try.params6]; rfl) rfl)
  refine (decodes_walk W hr0 q0).mono ?_
  rintro e W' ⟨rfl, hs⟩
  exact ⟨_, rfl, law_post laidTry (ts := [33]) (by rw [Try.params6]) (tb := 4) (by kernel_rfl) Try.underlying4 (by kernel_rfl) rfl (by rintro rfl; exact ⟨rfl, rfl, rfl⟩) hW hs.below⟩

theorem valueDecodes_holds : Rows.ValueDecodesSaid :=
  OpenClaim.holds_of_wide 6 Try.f6 rfl rfl rfl rfl rfl rfl rfl ⟨rfl, rfl, rfl, rfl, rfl⟩ rfl rfl rfl rfl rfl (by kernel_rfl) Try.func6 (by kernel_rfl)
    (of_decide_eq_true (by kernel_rfl)) (by unfold Func.isWrapper; first | (rw [if_pos (by decide +kernel)]; kernel_rfl) | (rw [if_neg (by decide +kernel)]; exact ⟨rfl, rfl⟩))
    (fun os started H enc _ => valueDecodes_lifted os started H enc)
end Go.Proofs.Ytfgdgpingdgfgaa
