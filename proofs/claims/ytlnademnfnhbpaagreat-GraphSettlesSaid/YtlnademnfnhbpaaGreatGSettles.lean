/- GraphSettles: for every input it returns true, and the input reads as it did. -/
import Derived.Test.YtlnademnfnhbpaaGreatSetW
namespace Go.Proofs.YtlnademnfnhbpaaGreat
open Go.ChangeShapes Go.WideShapes Go.ChangeAt Go.RowKit

theorem bytes_int : Tryz.prog.bytesOf 3 = 8 := by kernel_rfl
theorem cells_int : Tryz.prog.cellsOf 3 = 1 := by kernel_rfl
set_option maxRecDepth 100000 in
theorem open_mix {H : Type} {enc : TypeId × Value → H} {W : World} {base : Nat} {v : Value} {d : DataW H} {p : List MemPlace} (hv : Value.okWide Tryz.prog W .any base 36 v) (h : DataW.Trod enc Tryz.prog W 0 (fun _ => true) true 36 v d p)
    (hsz : ∀ m ∈ d.weights Tryz.prog 36, m ≤ reachBytes) :
    ∃ (A : Option Addr) (n c : Nat) (xs : List Int), v = .slice A n c ∧ Row W (fun b => b < W.heap.size) 1 A n c (xs.map (Value.int .i64)) ∧ n * 8 ≤ 140737488351232 := by
  have hv' : Cell.okWide Tryz.prog W .any base 36 v := by
    simp only [Value.okWide, Tryz.underlying36] at hv
    exact hv
  obtain ⟨a, len, cap, rfl⟩ := okWide_slice Tryz.underlying36 hv
  obtain ⟨fuel, hf⟩ := h
  obtain ⟨A, n, c, xs, hx, q1, q2, q3⟩ := open_nums (y := (d, p)) Tryz.underlying36 Tryz.underlying3 cells_int hv' hf
  have h3 := q3 hsz
  rw [bytes_int] at h3
  exact ⟨A, n, c, xs, hx, q1, by unfold reachBytes at h3; omega⟩

set_option maxRecDepth 100000 in
theorem graphSettles_lifted (os : Os) (started : os.Started) (H : Type) (enc : TypeId × Value → H) :
    ReturnsInHanded {} Tryz.checked os 7 .any (Rows.graphSettlesSpec.pre6 enc Tryz.prog Tryz.f7 Rows.graphSettlesRow.domain false) (Rows.graphSettlesSpec.post enc Tryz.prog Tryz.f7 false true false false) := by
  refine returnsInHanded_of_change_sized (C := Tryz.checked) ownTry started (by kernel_rfl) Tryz.func7
    (ChangeSpec.witness6 (enc := enc) (C := Tryz.checked) false ⟨#[], #[.agg #[.slice none 0 0, .slice none 0 0], .slice none 0 0], []⟩ 8 (by kernel_rfl) (by kernel_rfl) (by kernel_rfl) (by kernel_rfl)) ?_
  intro W base args ds gs before hval hW _ hsz _
  obtain ⟨p, hA⟩ := whole_args (P := Tryz.prog) (ts := [27, 36]) (by rw [Tryz.params7]) hW
  obtain ⟨v0, v1, d0, d1, p0, p1, rfl, rfl, _, h0, h1⟩ := trodAll_two hA
  obtain ⟨g0, rfl, hr0, z0⟩ := open_graph (hval 0 27 v0 (by rw [Tryz.params7]; rfl) rfl) h0 (weights_of hsz (j := 0) (by rw [Tryz.params7]; rfl) rfl)
  obtain ⟨A1, n1, c1, xs1, rfl, hr1, q1⟩ := open_mix (hval 1 36 v1 (by rw [Tryz.params7]; rfl) rfl) h1 (weights_of hsz (j := 1) (by rw [Tryz.params7]; rfl) rfl)
  refine (gsettles_walk W hr0 z0 hr1 q1).mono ?_
  rintro e W' ⟨rfl, hs⟩
  exact ⟨_, rfl, law_post laidTry (ts := [27, 36]) (by rw [Tryz.params7]) (tb := 4) (by kernel_rfl) Tryz.underlying4 (by kernel_rfl) rfl (by rintro rfl; exact ⟨rfl, rfl, rfl⟩) hW hs.below⟩

theorem graphSettles_holds : Rows.GraphSettlesSaid :=
  OpenClaim.holds_of_wide 7 Tryz.f7 rfl rfl rfl rfl rfl rfl rfl ⟨rfl, rfl, rfl, rfl, rfl⟩ rfl rfl rfl rfl rfl (by kernel_rfl) Tryz.func7 (by kernel_rfl)
    (of_decide_eq_true (by kernel_rfl)) (by unfold Func.isWrapper; first | (rw [if_pos (by decide +kernel)]; kernel_rfl) | (rw [if_neg (by decide +kernel)]; exact ⟨rfl, rfl⟩))
    (fun os started H enc _ => graphSettles_lifted os started H enc)
end Go.Proofs.YtlnademnfnhbpaaGreat
