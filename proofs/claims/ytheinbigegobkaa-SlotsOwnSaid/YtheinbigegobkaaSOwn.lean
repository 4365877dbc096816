/- SlotsOwn: for every input it returns true, and the input reads as it did. -/
import Derived.Test.YtheinbigegobkaaOpenKV
import Derived.Test.YtheinbigegobkaaTopO
namespace Go.Proofs.Ytheinbigegobkaa
open Go.ChangeShapes Go.WideShapes Go.ChangeAt Go.RowKit

set_option maxRecDepth 100000 in
theorem slotsOwn_lifted (os : Os) (started : os.Started) (H : Type) (enc : TypeId × Value → H) :
    ReturnsInHanded {} Try.checked os 10 .any (Rows.slotsOwnSpec.pre6 enc Try.prog Try.f10 Rows.slotsOwnRow.domain false) (Rows.slotsOwnSpec.post enc Try.prog Try.f10 false true false false) := by
  refine returnsInHanded_of_change_sized (C := Try.checked) ownTry started (by kernel_rfl) Try.func10
    (ChangeSpec.witness6 (enc := enc) (C := Try.checked) false ⟨#[], #[.slice none 0 0, .int .i64 0], []⟩ 8 (by kernel_rfl) (by kernel_rfl) (by kernel_rfl) (by kernel_rfl)) ?_
  intro W base args ds gs before hval hW _ hsz _
  obtain ⟨p, hA⟩ := whole_args (P := Try.prog) (ts := [30, 3]) (by rw [Try.params10]) hW
  obtain ⟨v0, v1, d0, d1, p0, p1, rfl, rfl, _, h0, h1⟩ := trodAll_two hA
  obtain ⟨A0, n0, c0, ls0, rfl, hr0, q0, z0⟩ := open_kvs (hval 0 30 v0 (by rw [Try.params10]; rfl) rfl) h0 (weights_of hsz (j := 0) (by rw [Try.params10]; rfl) rfl)
  obtain ⟨k1, rfl, _, _, hr1⟩ := open_int Try.underlying3 (hval 1 3 v1 (by rw [Try.params10]; rfl) rfl) h1
  refine (sown_walk W hr0 (wf_i64 hr1) q0 z0 ).mono ?_
  rintro e W' ⟨rfl, hs⟩
  exact ⟨_, rfl, law_post laidTry (ts := [30, 3]) (by rw [Try.params10]) (tb := 4) (by kernel_rfl) Try.underlying4 (by kernel_rfl) rfl (by rintro rfl; exact ⟨rfl, rfl, rfl⟩) hW hs.below⟩

theorem slotsOwn_holds : Rows.SlotsOwnSaid :=
  OpenClaim.holds_of_wide 10 Try.f10 rfl rfl rfl rfl rfl rfl rfl ⟨rfl, rfl, rfl, rfl, rfl⟩ rfl rfl rfl rfl rfl (by kernel_rfl) Try.func10 (by kernel_rfl)
    (of_decide_eq_true (by kernel_rfl)) (by unfold Func.isWrapper; first | (rw [if_pos (by decide +kernel)]; kernel_rfl) | (rw [if_neg (by decide +kernel)]; exact ⟨rfl, rfl⟩))
    (fun os started H enc _ => slotsOwn_lifted os started H enc)
end Go.Proofs.Ytheinbigegobkaa
