/- GraphLists, for arguments of bulk at most 1048576: it returns true, and the input reads as it did. -/
import Derived.JoinedCond
import Derived.Deep.CondSized
import Derived.Test.YtlnademnfnhbpaaGreatListW
namespace Go.Proofs.YtlnademnfnhbpaaGreat
open Go.ChangeShapes Go.WideShapes Go.ChangeAt Go.RowKit

theorem bulk_pos {H : Type} (d : DataW H) : 1 ≤ Rows.uptoBulk d := by
  cases d with
  | lit l => cases l <;> simp [Rows.uptoBulk]
  | _ => simp [Rows.uptoBulk]
theorem bulk_sum {H : Type} (l : List (DataW H)) : Rows.uptoBulkAll l = (l.map Rows.uptoBulk).sum := by
  induction l with
  | nil => simp [Rows.uptoBulkAll]
  | cons x l ih => simp only [Rows.uptoBulkAll, List.map_cons, List.sum_cons, ih]
theorem mu_bulk {H : Type} : Mu (H := H) Rows.uptoBulk where
  one := bulk_pos
  slice := fun a b => by simp only [Rows.uptoBulk, bulk_sum]; omega
  agg := fun a => by simp only [Rows.uptoBulk, bulk_sum]; omega
theorem upto_bound {H : Type} {l : List (DataW H)} (h : Rows.uptoSmall H l = true) : Rows.uptoBulkAll l ≤ 1048576 := of_decide_eq_true h

theorem flat_len {α β : Type} (f : α → List β) (μ : α → Nat) (l : List α) (h : ∀ x, (f x).length ≤ μ x) : (l.flatMap f).length ≤ (l.map μ).sum := by
  induction l with
  | nil => simp
  | cons x l ih =>
    have h1 := h x
    simp only [List.flatMap_cons, List.length_append, List.map_cons, List.sum_cons]
    omega
/-- The names are no more than what is read. -/
theorem names_bulk (g : GR) (k : Int) : (allNames g.dat k).length ≤ (g.ns.map fun x => x.labels.length + x.props.length).sum + (g.rs.map fun x => 1 + x.props.length).sum := by
  unfold allNames
  split
  · simp only [GR.dat, List.flatMap_map]
    have h1 := flat_len (fun x : ND => x.dat.labels) (fun x => x.labels.length + x.props.length) g.ns fun x => by
      show x.labels.length ≤ _
      omega
    omega
  · split
    · simp only [GR.dat, List.length_map]
      have h1 := sum_ones (f := fun x : RL => 1 + x.props.length) g.rs fun x _ => by omega
      omega
    · split
      · simp only [GR.dat, List.flatMap_map, List.length_append]
        have h1 := flat_len (fun x : ND => x.dat.props.map GPr.key) (fun x => x.labels.length + x.props.length) g.ns fun x => by
          show ((x.props.map PR.dat).map GPr.key).length ≤ _
          simp only [List.length_map]
          omega
        have h2 := flat_len (fun x : RL => x.dat.props.map GPr.key) (fun x => 1 + x.props.length) g.rs fun x => by
          show ((x.props.map PR.dat).map GPr.key).length ≤ _
          simp only [List.length_map]
          omega
        omega
      · exact Nat.zero_le _

set_option maxRecDepth 100000 in
theorem graphLists_lifted (os : Os) (started : os.Started) (H : Type) (enc : TypeId × Value → H) (F : Stop.Interp) :
    ReturnsInHanded {} Tryz.checked os 10 .any ((Rows.OpenSpec.upto Rows.graphListsSpec).pre6 enc Tryz.prog Tryz.f10 Rows.graphListsUptoRow.domain false) (((Rows.OpenSpec.upto Rows.graphListsSpec).at F).post enc Tryz.prog Tryz.f10 false true false false) := by
  refine returnsInHanded_of_cond_sized (C := Tryz.checked) (s := Rows.OpenSpec.upto Rows.graphListsSpec) (k := Rows.uptoSmall) rfl ownTry started (by kernel_rfl) Tryz.func10
    (OpenSpec.witness (enc := enc) (C := Tryz.checked) (s := Rows.OpenSpec.upto Rows.graphListsSpec) (k := Rows.uptoSmall) rfl false ⟨#[], #[.agg #[.slice none 0 0, .slice none 0 0], .int .i64 0], []⟩ 8 (by kernel_rfl) (by kernel_rfl) (by kernel_rfl)
      (x := ([.agg [.nil, .nil], .lit (.int .i64 0)], [], [])) (by kernel_rfl) rfl (by kernel_rfl)) ?_
  intro W base args ds gs before hval hW _ hk hsz _
  have hb := upto_bound hk
  obtain ⟨p, hA⟩ := whole_args (P := Tryz.prog) (ts := [27, 3]) (by rw [Tryz.params10]) hW
  obtain ⟨v0, v1, d0, d1, p0, p1, rfl, rfl, _, h0, h1⟩ := trodAll_two hA
  simp only [List.cons_append, List.nil_append, Rows.uptoBulkAll] at hb
  obtain ⟨g0, rfl, hr0, z0, hB⟩ := open_graphB (hval 0 27 v0 (by rw [Tryz.params10]; rfl) rfl) h0 (weights_of hsz (j := 0) (by rw [Tryz.params10]; rfl) rfl)
  obtain ⟨k1, rfl, _, _, _⟩ := open_int Tryz.underlying3 (hval 1 3 v1 (by rw [Tryz.params10]; rfl) rfl) h1
  have hB1 := hB _ mu_bulk
  have hB2 := names_bulk g0 k1
  refine (glists_walk W hr0 z0 k1 (by omega)).mono ?_
  rintro e W' ⟨rfl, hs⟩
  exact ⟨_, rfl, law_post laidTry (ts := [27, 3]) (by rw [Tryz.params10]) (tb := 4) (by kernel_rfl) Tryz.underlying4 (by kernel_rfl) rfl (by rintro rfl; exact ⟨rfl, rfl, rfl⟩) hW hs.below⟩

theorem graphListsUpto_holds : Rows.GraphListsUptoSaid :=
  OpenClaim.holds_of_cond 10 Tryz.f10 rfl rfl rfl rfl rfl rfl rfl ⟨rfl, rfl, rfl, rfl, rfl⟩ rfl rfl rfl rfl rfl (by kernel_rfl) Tryz.func10 (by kernel_rfl)
    (of_decide_eq_true (by kernel_rfl)) (by unfold Func.isWrapper; first | (rw [if_pos (by decide +kernel)]; kernel_rfl) | (rw [if_neg (by decide +kernel)]; exact ⟨rfl, rfl⟩))
    (fun os started H enc _ F => graphLists_lifted os started H enc F)
end Go.Proofs.YtlnademnfnhbpaaGreat
