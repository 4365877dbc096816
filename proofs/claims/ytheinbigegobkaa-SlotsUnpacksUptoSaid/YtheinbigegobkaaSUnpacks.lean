/- SlotsUnpacks, for arguments of bulk at most 1048576: it returns true, and the input reads as it did. -/
import Derived.Test.YtheinbigegobkaaTopU
namespace Go.Proofs.Ytheinbigegobkaa
open Go.ChangeShapes Go.WideShapes Go.ChangeAt Go.RowKit

set_option maxRecDepth 100000 in
theorem slotsUnpacks_lifted (os : Os) (started : os.Started) (H : Type) (enc : TypeId × Value → H) (F : Stop.Interp) :
    ReturnsInHanded {} Try.checked os 6 .any ((Rows.OpenSpec.upto Rows.slotsUnpacksSpec).pre6 enc Try.prog Try.f6 Rows.slotsUnpacksUptoRow.domain false) (((Rows.OpenSpec.upto Rows.slotsUnpacksSpec).at F).post enc Try.prog Try.f6 false true false false) := by
  refine returnsInHanded_of_cond_sized (C := Try.checked) (s := Rows.OpenSpec.upto Rows.slotsUnpacksSpec) (k := Rows.uptoSmall) rfl ownTry started (by kernel_rfl) Try.func6
    (OpenSpec.witness (enc := enc) (C := Try.checked) (s := Rows.OpenSpec.upto Rows.slotsUnpacksSpec) (k := Rows.uptoSmall) rfl false ⟨#[], #[.slice none 0 0, .slice none 0 0], []⟩ 8 (by kernel_rfl) (by kernel_rfl) (by kernel_rfl)
      (x := ([.nil, .nil], [], [])) (by kernel_rfl) rfl (by kernel_rfl)) ?_
  intro W base args ds gs before hval hW _ hk hsz _
  have hb := upto_bound hk
  obtain ⟨p, hA⟩ := whole_args (P := Try.prog) (ts := [32, 32]) (by rw [Try.params6]) hW
  obtain ⟨v0, v1, d0, d1, p0, p1, rfl, rfl, _, h0, h1⟩ := trodAll_two hA
  simp only [List.cons_append, List.nil_append, Rows.uptoBulkAll] at hb
  obtain ⟨A0, n0, c0, bs0, rfl, hr0, q0⟩ := open_bytes (hval 0 32 v0 (by rw [Try.params6]; rfl) rfl) h0 (weights_of hsz (j := 0) (by rw [Try.params6]; rfl) rfl)
  obtain ⟨A1, n1, c1, bs1, rfl, hr1, q1⟩ := open_bytes (hval 1 32 v1 (by rw [Try.params6]; rfl) rfl) h1 (weights_of hsz (j := 1) (by rw [Try.params6]; rfl) rfl)
  have u0 := bytes_bulk h0
  have u1 := bytes_bulk h1
  refine (sunpacks_walk W hr0 hr1 (by omega) (by omega)).mono ?_
  rintro e W' ⟨rfl, hs⟩
  exact ⟨_, rfl, law_post laidTry (ts := [32, 32]) (by rw [Try.params6]) (tb := 4) (by kernel_rfl) Try.underlying4 (by kernel_rfl) rfl (by rintro rfl; exact ⟨rfl, rfl, rfl⟩) hW hs.below⟩

theorem slotsUnpacksUpto_holds : Rows.SlotsUnpacksUptoSaid :=
  OpenClaim.holds_of_cond 6 Try.f6 rfl rfl rfl rfl rfl rfl rfl ⟨rfl, rfl, rfl, rfl, rfl⟩ rfl rfl rfl rfl rfl (by kernel_rfl) Try.func6 (by kernel_rfl)
    (of_decide_eq_true (by kernel_rfl)) (by unfold Func.isWrapper; first | (rw [if_pos (by decide +kernel)]; kernel_rfl) | (rw [if_neg (by decide +kernel)]; exact ⟨rfl, rfl⟩))
    (fun os started H enc _ F => slotsUnpacks_lifted os started H enc F)
end Go.Proofs.Ytheinbigegobkaa
