/- GraphIncident: for every input it returns true, and the input reads as it did. -/
import Derived.Test.YtlnademnfnhbpaaGreatOpen
import Derived.Test.YtlnademnfnhbpaaGreatIncW
namespace Go.Proofs.YtlnademnfnhbpaaGreat
open Go.ChangeShapes Go.WideShapes Go.ChangeAt Go.RowKit

set_option maxRecDepth 100000 in
theorem graphIncident_lifted (os : Os) (started : os.Started) (H : Type) (enc : TypeId × Value → H) :
    ReturnsInHanded {} Tryz.checked os 11 .any (Rows.graphIncidentSpec.pre6 enc Tryz.prog Tryz.f11 Rows.graphIncidentRow.domain false) (Rows.graphIncidentSpec.post enc Tryz.prog Tryz.f11 false true false false) := by
  refine returnsInHanded_of_change_sized (C := Tryz.checked) ownTry started (by kernel_rfl) Tryz.func11
    (ChangeSpec.witness6 (enc := enc) (C := Tryz.checked) false ⟨#[], #[.agg #[.slice none 0 0, .slice none 0 0], .int .i64 0], []⟩ 8 (by kernel_rfl) (by kernel_rfl) (by kernel_rfl) (by kernel_rfl)) ?_
  intro W base args ds gs before hval hW _ hsz _
  obtain ⟨p, hA⟩ := whole_args (P := Tryz.prog) (ts := [27, 3]) (by rw [Tryz.params11]) hW
  obtain ⟨v0, v1, d0, d1, p0, p1, rfl, rfl, _, h0, h1⟩ := trodAll_two hA
  obtain ⟨g0, rfl, hr0, z0⟩ := open_graph (hval 0 27 v0 (by rw [Tryz.params11]; rfl) rfl) h0 (weights_of hsz (j := 0) (by rw [Tryz.params11]; rfl) rfl)
  obtain ⟨k1, rfl, _, _, _⟩ := open_int Tryz.underlying3 (hval 1 3 v1 (by rw [Tryz.params11]; rfl) rfl) h1
  refine (gincident_walk W hr0 z0 k1).mono ?_
  rintro e W' ⟨rfl, hs⟩
  exact ⟨_, rfl, law_post laidTry (ts := [27, 3]) (by rw [Tryz.params11]) (tb := 4) (by kernel_rfl) Tryz.underlying4 (by kernel_rfl) rfl (by rintro rfl; exact ⟨rfl, rfl, rfl⟩) hW hs.below⟩

theorem graphIncident_holds : Rows.GraphIncidentSaid :=
  OpenClaim.holds_of_wide 11 Tryz.f11 rfl rfl rfl rfl rfl rfl rfl ⟨rfl, rfl, rfl, rfl, rfl⟩ rfl rfl rfl rfl rfl (by kernel_rfl) Tryz.func11 (by kernel_rfl)
    (of_decide_eq_true (by kernel_rfl)) (by unfold Func.isWrapper; first | (rw [if_pos (by decide +kernel)]; kernel_rfl) | (rw [if_neg (by decide +kernel)]; exact ⟨rfl, rfl⟩))
    (fun os started H enc _ => graphIncident_lifted os started H enc)
end Go.Proofs.YtlnademnfnhbpaaGreat
