/- GraphGood: for every input it returns true, and the input reads as it did. -/
import Derived.Test.YtlnademnfnhbpaaGreatOpen
import Derived.Test.YtlnademnfnhbpaaGreatOpenV
import Derived.Test.YtlnademnfnhbpaaGreatGspk2
import Derived.Test.YtlnademnfnhbpaaGreatRGood
import Derived.ChangeMaps5
namespace Go.Proofs.YtlnademnfnhbpaaGreat
open Go.ChangeShapes Go.WideShapes Go.ChangeAt Go.RowKit

set_option maxHeartbeats 400000 in
theorem ggood_walk (w : World) (s : ByteArray) : Calls Tryz.prog 4 #[.string s] w fun e w' => e = .returned (.bool true) ∧ Same w w' := by
  obtain ⟨r, hr⟩ : ∃ r, goodN s = r := ⟨_, rfl⟩
  have H1 := Lib.hid fun w => goodName_spec s w
  have H2 := Lib.hid fun w => rgood_spec s w
  rw [hr] at H1 H2
  clear hr
  go_enter Tryz.func4, Tryz.ntmps4
  go_wp2_with fail
  refine (gspeaks_true w).mono ?_
  rintro e w1 ⟨rfl, hs⟩
  go_wp2_with fail
  refine (H1.out _).mono ?_
  rintro e w2 ⟨rfl, rfl⟩
  go_wp2_with fail
  refine (H2.out _).mono ?_
  rintro e w3 ⟨rfl, hs2⟩
  go_wp2
  go_ret
  exact ⟨by simp, hs.same hs2⟩

set_option maxRecDepth 100000 in
theorem graphGood_lifted (os : Os) (started : os.Started) (H : Type) (enc : TypeId × Value → H) :
    ReturnsInHanded {} Tryz.checked os 4 .any (Rows.graphGoodSpec.pre6 enc Tryz.prog Tryz.f4 Rows.graphGoodRow.domain false) (Rows.graphGoodSpec.post enc Tryz.prog Tryz.f4 false true false false) := by
  refine returnsInHanded_of_change_sized (C := Tryz.checked) ownTry started (by kernel_rfl) Tryz.func4
    (ChangeSpec.witness6 (enc := enc) (C := Tryz.checked) false ⟨#[], #[.string ⟨#[]⟩], []⟩ 8 (by kernel_rfl) (by kernel_rfl) (by kernel_rfl) (by kernel_rfl)) ?_
  intro W base args ds gs before hval hW _ hsz _
  obtain ⟨p, hA⟩ := whole_args (P := Tryz.prog) (ts := [9]) (by rw [Tryz.params4]) hW
  obtain ⟨v0, d0, rfl, rfl, h0⟩ := trodAll_one hA
  obtain ⟨s0, rfl, _, _, z0⟩ := Go.ChangeMaps.open_string Tryz.underlying9 (hval 0 9 v0 (by rw [Tryz.params4]; rfl) rfl) h0
  refine (ggood_walk W s0).mono ?_
  rintro e W' ⟨rfl, hs⟩
  exact ⟨_, rfl, law_post laidTry (ts := [9]) (by rw [Tryz.params4]) (tb := 4) (by kernel_rfl) Tryz.underlying4 (by kernel_rfl) rfl (by rintro rfl; exact ⟨rfl, rfl, rfl⟩) hW hs.below⟩

theorem graphGood_holds : Rows.GraphGoodSaid :=
  OpenClaim.holds_of_wide 4 Tryz.f4 rfl rfl rfl rfl rfl rfl rfl ⟨rfl, rfl, rfl, rfl, rfl⟩ rfl rfl rfl rfl rfl (by kernel_rfl) Tryz.func4 (by kernel_rfl)
    (of_decide_eq_true (by kernel_rfl)) (by unfold Func.isWrapper; first | (rw [if_pos (by decide +kernel)]; kernel_rfl) | (rw [if_neg (by decide +kernel)]; exact ⟨rfl, rfl⟩))
    (fun os started H enc _ => graphGood_lifted os started H enc)
end Go.Proofs.YtlnademnfnhbpaaGreat
