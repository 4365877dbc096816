/- slices.Clone of nodes, relationships. -/
import Derived.Test.YtlnademnfnhbpaaGreatGr
import Derived.Test.YtlnademnfnhbpaaGreatApp
namespace Go.Proofs.YtlnademnfnhbpaaGreat
open Go.RowKit

theorem info_Node : (Tryz.prog.info? 40).map (fun i => (i.zero, i.size, i.bytes)) = some (some (.agg #[.int .i64 0, .slice none 0 0, .slice none 0 0]), 3, 56) := by kernel_rfl
theorem ND_one (l : List ND) : ∀ u ∈ l.flatMap ND.cells, u.oneCell' = true := by
  intro u hu
  obtain ⟨x, _, hx⟩ := List.mem_flatMap.1 hu
  simp only [ND.cells, List.mem_cons, List.not_mem_nil, or_false] at hx
  rcases hx with rfl | rfl | rfl
  all_goals rfl
set_option maxHeartbeats 1000000 in
set_option maxRecDepth 100000 in
theorem cloneNode_spec {F : Nat → Prop} {A : Option Addr} {n c : Nat} {l : List ND} (w : World) (h : Row w F 3 A n c (l.flatMap ND.cells)) (hn : n ≤ 1099511627776) :
    Calls Tryz.prog 37 #[.slice A n c] w fun e w' => ∃ A' c', e = .returned (.slice A' n c') ∧ Hid (w'.ownsRow w.heap.size 40 3 (.slice A' n c') n (l.flatMap ND.cells)) ∧ Same w w' := by
  have heq := fun (w : World) (a : Option Addr) (n c : Nat) => Lib.run_eql_slice_nil (P := Tryz.prog) w 24 40 a n c 0 0 Tryz.underlying24
  have hmx := h.max
  have hle := h.le
  cases A with
  | none =>
    have hc := h.nil rfl
    obtain rfl : c = 0 := hc
    obtain rfl : n = 0 := by omega
    have hl : l.flatMap ND.cells = [] := List.length_eq_zero_iff.1 (by rw [h.len])
    rw [hl]
    go_enter Tryz.func37, Tryz.ntmps37
    go_wp2
    go_ret
    exact ⟨none, 0, rfl, Lib.hid (World.ownsRow_nil _ _ _ _), Upd.refl _ _⟩
  | some a =>
    have hw0 : n ≤ maxLen := by unfold maxLen; omega
    go_enter Tryz.func37, Tryz.ntmps37
    go_wp2_with (at_builtin; go_must (refine wpList_app rfl (.tmp 5) (.tmp 6) _ _ rfl w.heap.size _ _ _ _ Tryz.underlying24 info_Node rfl _ 0 [] rfl (World.ownsRow_made w #[] 0 (Nat.le_refl _) (Nat.zero_le _) rfl) rfl (src_row Tryz.underlying24 (Row.same h ((Upd.refl _ w).alloc _)) (ND_one l)) (by omega) (by omega) (by simp) ?_); intro v' w' happ)
    go_ret
    have ho := happ.own
    rw [Nat.zero_add, List.nil_append] at ho
    obtain ⟨A', c', rfl⟩ := own_form ho
    refine ⟨A', c', rfl, Lib.hid ho, ?_⟩
    exact ((Upd.refl _ w).alloc _).trans happ.upd fun b hb hv => by
      have := Option.some.inj hv
      simp only at this
      omega

theorem info_Rel : (Tryz.prog.info? 47).map (fun i => (i.zero, i.size, i.bytes)) = some (some (.agg #[.int .i64 0, .string ⟨#[]⟩, .int .i64 0, .int .i64 0, .slice none 0 0]), 5, 64) := by kernel_rfl
theorem RL_one (l : List RL) : ∀ u ∈ l.flatMap RL.cells, u.oneCell' = true := by
  intro u hu
  obtain ⟨x, _, hx⟩ := List.mem_flatMap.1 hu
  simp only [RL.cells, List.mem_cons, List.not_mem_nil, or_false] at hx
  rcases hx with rfl | rfl | rfl | rfl | rfl
  all_goals rfl
set_option maxHeartbeats 1000000 in
set_option maxRecDepth 100000 in
theorem cloneRel_spec {F : Nat → Prop} {A : Option Addr} {n c : Nat} {l : List RL} (w : World) (h : Row w F 5 A n c (l.flatMap RL.cells)) (hn : n ≤ 1099511627776) :
    Calls Tryz.prog 38 #[.slice A n c] w fun e w' => ∃ A' c', e = .returned (.slice A' n c') ∧ Hid (w'.ownsRow w.heap.size 47 5 (.slice A' n c') n (l.flatMap RL.cells)) ∧ Same w w' := by
  have heq := fun (w : World) (a : Option Addr) (n c : Nat) => Lib.run_eql_slice_nil (P := Tryz.prog) w 25 47 a n c 0 0 Tryz.underlying25
  have hmx := h.max
  have hle := h.le
  cases A with
  | none =>
    have hc := h.nil rfl
    obtain rfl : c = 0 := hc
    obtain rfl : n = 0 := by omega
    have hl : l.flatMap RL.cells = [] := List.length_eq_zero_iff.1 (by rw [h.len])
    rw [hl]
    go_enter Tryz.func38, Tryz.ntmps38
    go_wp2
    go_ret
    exact ⟨none, 0, rfl, Lib.hid (World.ownsRow_nil _ _ _ _), Upd.refl _ _⟩
  | some a =>
    have hw0 : n ≤ maxLen := by unfold maxLen; omega
    go_enter Tryz.func38, Tryz.ntmps38
    go_wp2_with (at_builtin; go_must (refine wpList_app rfl (.tmp 5) (.tmp 6) _ _ rfl w.heap.size _ _ _ _ Tryz.underlying25 info_Rel rfl _ 0 [] rfl (World.ownsRow_made w #[] 0 (Nat.le_refl _) (Nat.zero_le _) rfl) rfl (src_row Tryz.underlying25 (Row.same h ((Upd.refl _ w).alloc _)) (RL_one l)) (by omega) (by omega) (by simp) ?_); intro v' w' happ)
    go_ret
    have ho := happ.own
    rw [Nat.zero_add, List.nil_append] at ho
    obtain ⟨A', c', rfl⟩ := own_form ho
    refine ⟨A', c', rfl, Lib.hid ho, ?_⟩
    exact ((Upd.refl _ w).alloc _).trans happ.upd fun b hb hv => by
      have := Option.some.inj hv
      simp only at this
      omega
end Go.Proofs.YtlnademnfnhbpaaGreat
