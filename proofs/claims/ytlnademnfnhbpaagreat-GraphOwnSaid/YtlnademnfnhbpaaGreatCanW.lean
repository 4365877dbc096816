/- slices.Clone, where nothing is asked of an empty row; slices.Sort of texts. -/
import Derived.Test.YtlnademnfnhbpaaGreatCanL
import Derived.Test.YtlnademnfnhbpaaGreatOwnG
import Derived.Test.YtlnademnfnhbpaaGreatNm
namespace Go.Proofs.YtlnademnfnhbpaaGreat
open Go.RowKit

theorem strs_one (l : List ByteArray) : ∀ u ∈ l.map Value.string, u.oneCell' = true := by
  intro u hu
  obtain ⟨_, _, rfl⟩ := List.mem_map.1 hu
  rfl
theorem i64_one (l : List Int) : ∀ u ∈ l.map (Value.int .i64), u.oneCell' = true := by
  intro u hu
  obtain ⟨_, _, rfl⟩ := List.mem_map.1 hu
  rfl

set_option maxHeartbeats 1000000 in
set_option maxRecDepth 100000 in
theorem cloneNode_w {F : Nat → Prop} {A : Option Addr} {n c : Nat} {l : List ND} (w : World) (h : WRow w F 3 A n c (l.flatMap ND.cells)) (hn : n * 56 ≤ 140737488355328) :
    Calls Tryz.prog 37 #[.slice A n c] w fun e w' => ∃ A' c', e = .returned (.slice A' n c') ∧ Hid (w'.ownsRow w.heap.size 40 3 (.slice A' n c') n (l.flatMap ND.cells)) ∧ Same w w' := by
  have heq := fun (w : World) (a : Option Addr) (n c : Nat) => Lib.run_eql_slice_nil (P := Tryz.prog) w 24 40 a n c 0 0 Tryz.underlying24
  have hmx := h.max
  have hle := h.le
  cases A with
  | none =>
    have hc := h.nil rfl
    obtain rfl : c = 0 := hc
    obtain rfl : n = 0 := by omega
    have hl : l.flatMap ND.cells = [] := List.length_eq_zero_iff.1 (by rw [h.len])
    rw [hl]
    go_enter Tryz.func37, Tryz.ntmps37
    go_wp2
    go_ret
    exact ⟨none, 0, rfl, Lib.hid (World.ownsRow_nil _ _ _ _), Upd.refl _ _⟩
  | some a =>
    have hw0 : n ≤ maxLen := by unfold maxLen; omega
    go_enter Tryz.func37, Tryz.ntmps37
    go_wp2_with (at_builtin; go_must (refine wpList_app rfl (.tmp 5) (.tmp 6) _ _ rfl w.heap.size _ _ _ _ Tryz.underlying24 info_Node rfl _ 0 [] rfl (World.ownsRow_made w #[] 0 (Nat.le_refl _) (Nat.zero_le _) rfl) rfl (src_wrow Tryz.underlying24 (WRow.same h ((Upd.refl _ w).alloc _)) (ND_one l)) (by omega) (by omega) (by simp) ?_); intro v' w' happ)
    go_ret
    have ho := happ.own
    rw [Nat.zero_add, List.nil_append] at ho
    obtain ⟨A', c', rfl⟩ := own_form ho
    refine ⟨A', c', rfl, Lib.hid ho, ?_⟩
    exact ((Upd.refl _ w).alloc _).trans happ.upd fun b hb hv => by
      have := Option.some.inj hv
      simp only at this
      omega

set_option maxHeartbeats 1000000 in
set_option maxRecDepth 100000 in
theorem cloneRel_w {F : Nat → Prop} {A : Option Addr} {n c : Nat} {l : List RL} (w : World) (h : WRow w F 5 A n c (l.flatMap RL.cells)) (hn : n * 64 ≤ 140737488355328) :
    Calls Tryz.prog 38 #[.slice A n c] w fun e w' => ∃ A' c', e = .returned (.slice A' n c') ∧ Hid (w'.ownsRow w.heap.size 47 5 (.slice A' n c') n (l.flatMap RL.cells)) ∧ Same w w' := by
  have heq := fun (w : World) (a : Option Addr) (n c : Nat) => Lib.run_eql_slice_nil (P := Tryz.prog) w 25 47 a n c 0 0 Tryz.underlying25
  have hmx := h.max
  have hle := h.le
  cases A with
  | none =>
    have hc := h.nil rfl
    obtain rfl : c = 0 := hc
    obtain rfl : n = 0 := by omega
    have hl : l.flatMap RL.cells = [] := List.length_eq_zero_iff.1 (by rw [h.len])
    rw [hl]
    go_enter Tryz.func38, Tryz.ntmps38
    go_wp2
    go_ret
    exact ⟨none, 0, rfl, Lib.hid (World.ownsRow_nil _ _ _ _), Upd.refl _ _⟩
  | some a =>
    have hw0 : n ≤ maxLen := by unfold maxLen; omega
    go_enter Tryz.func38, Tryz.ntmps38
    go_wp2_with (at_builtin; go_must (refine wpList_app rfl (.tmp 5) (.tmp 6) _ _ rfl w.heap.size _ _ _ _ Tryz.underlying25 info_Rel rfl _ 0 [] rfl (World.ownsRow_made w #[] 0 (Nat.le_refl _) (Nat.zero_le _) rfl) rfl (src_wrow Tryz.underlying25 (WRow.same h ((Upd.refl _ w).alloc _)) (RL_one l)) (by omega) (by omega) (by simp) ?_); intro v' w' happ)
    go_ret
    have ho := happ.own
    rw [Nat.zero_add, List.nil_append] at ho
    obtain ⟨A', c', rfl⟩ := own_form ho
    refine ⟨A', c', rfl, Lib.hid ho, ?_⟩
    exact ((Upd.refl _ w).alloc _).trans happ.upd fun b hb hv => by
      have := Option.some.inj hv
      simp only at this
      omega

set_option maxHeartbeats 1000000 in
set_option maxRecDepth 100000 in
theorem cloneProp_w {F : Nat → Prop} {A : Option Addr} {n c : Nat} {l : List PR} (w : World) (h : WRow w F 6 A n c (l.flatMap PR.cells)) (hn : n * 96 ≤ 140737488355328) :
    Calls Tryz.prog 67 #[.slice A n c] w fun e w' => ∃ A' c', e = .returned (.slice A' n c') ∧ Hid (w'.ownsRow w.heap.size 45 6 (.slice A' n c') n (l.flatMap PR.cells)) ∧ Same w w' := by
  have heq := fun (w : World) (a : Option Addr) (n c : Nat) => Lib.run_eql_slice_nil (P := Tryz.prog) w 38 45 a n c 0 0 Tryz.underlying38
  have hmx := h.max
  have hle := h.le
  cases A with
  | none =>
    have hc := h.nil rfl
    obtain rfl : c = 0 := hc
    obtain rfl : n = 0 := by omega
    have hl : l.flatMap PR.cells = [] := List.length_eq_zero_iff.1 (by rw [h.len])
    rw [hl]
    go_enter Tryz.func67, Tryz.ntmps67
    go_wp2
    go_ret
    exact ⟨none, 0, rfl, Lib.hid (World.ownsRow_nil _ _ _ _), Upd.refl _ _⟩
  | some a =>
    have hw0 : n ≤ maxLen := by unfold maxLen; omega
    go_enter Tryz.func67, Tryz.ntmps67
    go_wp2_with (at_builtin; go_must (refine wpList_app rfl (.tmp 5) (.tmp 6) _ _ rfl w.heap.size _ _ _ _ Tryz.underlying38 info_Prop rfl _ 0 [] rfl (World.ownsRow_made w #[] 0 (Nat.le_refl _) (Nat.zero_le _) rfl) rfl (src_wrow Tryz.underlying38 (WRow.same h ((Upd.refl _ w).alloc _)) (PR_one l)) (by omega) (by omega) (by simp) ?_); intro v' w' happ)
    go_ret
    have ho := happ.own
    rw [Nat.zero_add, List.nil_append] at ho
    obtain ⟨A', c', rfl⟩ := own_form ho
    refine ⟨A', c', rfl, Lib.hid ho, ?_⟩
    exact ((Upd.refl _ w).alloc _).trans happ.upd fun b hb hv => by
      have := Option.some.inj hv
      simp only at this
      omega

set_option maxHeartbeats 1000000 in
set_option maxRecDepth 100000 in
theorem cloneI64_w {F : Nat → Prop} {A : Option Addr} {n c : Nat} {l : List Int} (w : World) (h : WRow w F 1 A n c (l.map (Value.int .i64))) (hn : n * 8 ≤ 140737488355328) :
    Calls Tryz.prog 68 #[.slice A n c] w fun e w' => ∃ A' c', e = .returned (.slice A' n c') ∧ Hid (w'.ownsRow w.heap.size 2 1 (.slice A' n c') n (l.map (Value.int .i64))) ∧ Same w w' := by
  have heq := fun (w : World) (a : Option Addr) (n c : Nat) => Lib.run_eql_slice_nil (P := Tryz.prog) w 41 2 a n c 0 0 Tryz.underlying41
  have hmx := h.max
  have hle := h.le
  cases A with
  | none =>
    have hc := h.nil rfl
    obtain rfl : c = 0 := hc
    obtain rfl : n = 0 := by omega
    have hl : l.map (Value.int .i64) = [] := List.length_eq_zero_iff.1 (by rw [h.len])
    rw [hl]
    go_enter Tryz.func68, Tryz.ntmps68
    go_wp2
    go_ret
    exact ⟨none, 0, rfl, Lib.hid (World.ownsRow_nil _ _ _ _), Upd.refl _ _⟩
  | some a =>
    have hw0 : n ≤ maxLen := by unfold maxLen; omega
    go_enter Tryz.func68, Tryz.ntmps68
    go_wp2_with (at_builtin; go_must (refine wpList_app rfl (.tmp 5) (.tmp 6) _ _ rfl w.heap.size _ _ _ _ Tryz.underlying41 info_i64 rfl _ 0 [] rfl (World.ownsRow_made w #[] 0 (Nat.le_refl _) (Nat.zero_le _) rfl) rfl (src_wrow Tryz.underlying41 (WRow.same h ((Upd.refl _ w).alloc _)) (i64_one l)) (by omega) (by omega) (by simp) ?_); intro v' w' happ)
    go_ret
    have ho := happ.own
    rw [Nat.zero_add, List.nil_append] at ho
    obtain ⟨A', c', rfl⟩ := own_form ho
    refine ⟨A', c', rfl, Lib.hid ho, ?_⟩
    exact ((Upd.refl _ w).alloc _).trans happ.upd fun b hb hv => by
      have := Option.some.inj hv
      simp only at this
      omega

set_option maxHeartbeats 1000000 in
set_option maxRecDepth 100000 in
theorem cloneStr_w {F : Nat → Prop} {A : Option Addr} {n c : Nat} {l : List ByteArray} (w : World) (h : WRow w F 1 A n c (l.map Value.string)) (hn : n * 16 ≤ 140737488355328) :
    Calls Tryz.prog 39 #[.slice A n c] w fun e w' => ∃ A' c', e = .returned (.slice A' n c') ∧ Hid (w'.ownsRow w.heap.size 9 1 (.slice A' n c') n (l.map Value.string)) ∧ Same w w' := by
  have heq := fun (w : World) (a : Option Addr) (n c : Nat) => Lib.run_eql_slice_nil (P := Tryz.prog) w 37 9 a n c 0 0 Tryz.underlying37
  have hmx := h.max
  have hle := h.le
  cases A with
  | none =>
    have hc := h.nil rfl
    obtain rfl : c = 0 := hc
    obtain rfl : n = 0 := by omega
    have hl : l.map Value.string = [] := List.length_eq_zero_iff.1 (by rw [h.len])
    rw [hl]
    go_enter Tryz.func39, Tryz.ntmps39
    go_wp2
    go_ret
    exact ⟨none, 0, rfl, Lib.hid (World.ownsRow_nil _ _ _ _), Upd.refl _ _⟩
  | some a =>
    have hw0 : n ≤ maxLen := by unfold maxLen; omega
    go_enter Tryz.func39, Tryz.ntmps39
    go_wp2_with (at_builtin; go_must (refine wpList_app rfl (.tmp 5) (.tmp 6) _ _ rfl w.heap.size _ _ _ _ Tryz.underlying37 info_string rfl _ 0 [] rfl (World.ownsRow_made w #[] 0 (Nat.le_refl _) (Nat.zero_le _) rfl) rfl (src_wrow Tryz.underlying37 (WRow.same h ((Upd.refl _ w).alloc _)) (strs_one l)) (by omega) (by omega) (by simp) ?_); intro v' w' happ)
    go_ret
    have ho := happ.own
    rw [Nat.zero_add, List.nil_append] at ho
    obtain ⟨A', c', rfl⟩ := own_form ho
    refine ⟨A', c', rfl, Lib.hid ho, ?_⟩
    exact ((Upd.refl _ w).alloc _).trans happ.upd fun b hb hv => by
      have := Option.some.inj hv
      simp only at this
      omega

theorem texts_row (l : List ByteArray) : l.map Value.string = (l.map fun x => x.data.toList).map encStr := by
  rw [List.map_map]
  exact List.map_congr_left fun x _ => by cases x; rfl
theorem texts_back (l : List ByteArray) : ((l.map fun x => x.data.toList).map fun y => (⟨y.toArray⟩ : ByteArray)) = l := by
  rw [List.map_map]
  conv => rhs; rw [← List.map_id l]
  exact List.map_congr_left fun x _ => by cases x; rfl
/-- slices.Sort of texts. -/
theorem sortStr_spec {B n c : Nat} {A : Option Addr} {l : List ByteArray} (w : World) (h : w.ownsRow B 9 1 (.slice A n c) n (l.map Value.string)) (hn : n * 16 ≤ 140737488355328) :
    Calls Tryz.prog 40 #[.slice A n c] w fun e w' => e = .returned (.tuple #[]) ∧ w'.ownsRow B 9 1 (.slice A n c) n ((sortT l).map Value.string) ∧ Upd (fun b => (Value.slice A n c).ownBlock = some b) w w' := by
  have hll : l.length = n := by have := h.1; simpa using this
  rcases h.2 with ⟨hv, h0⟩ | ⟨g, cap, cur, hv, hb, hg, hle, hm, hs, ht⟩
  · subst h0
    have hl : l = [] := List.eq_nil_of_length_eq_zero hll
    subst hl
    refine (sort_none A c w).mono ?_
    rintro e w' ⟨rfl, rfl⟩
    exact ⟨rfl, h, Upd.refl _ _⟩
  · injection hv with h1 h2 h3
    subst h1 h3
    obtain ⟨ss, hss⟩ : ∃ ss, ss = l.map fun x => x.data.toList := ⟨_, rfl⟩
    have hsl : ss.length = n := by rw [hss, List.length_map, hll]
    have hbl : Blk w g 9 cur := hg
    have hcs : cur.size = c := by simpa using hs
    have hcell : ∀ j, j < n → cur[j]? = some (encStr (ss[j]?.getD [])) := fun j hj => by
      rw [← Array.getElem?_toList]
      have h5 : (cur.toList.take (n * 1))[j]? = (l.map Value.string)[j]? := by rw [ht]
      rw [List.getElem?_take, if_pos (by omega), texts_row, ← hss, List.getElem?_map, List.getElem?_eq_getElem (l := ss) (i := j) (by omega)] at h5
      rw [h5, List.getElem?_eq_getElem (l := ss) (i := j) (by omega)]
      rfl
    have hH : Go.Sort.Holds encStr w g 0 ss.toArray := fun j hj => by
      have hj' : j < n := by simpa [hsl] using hj
      refine ⟨?_, hbl.frozen _⟩
      rw [Nat.zero_add, hbl.cell, hcell j hj']
      simp [hj', hsl]
    have hc := AnyM.slices_Sort_string sortL g 0 c ss w hH hbl.lt (by omega)
    rw [hsl] at hc
    refine Calls.mono hc ?_
    rintro e w' ⟨rfl, k, os, rfl⟩
    obtain ⟨d, hd⟩ : ∃ d, d = ss.mergeSort fun x y => decide (x ≤ y) := ⟨_, rfl⟩
    rw [← hd]
    have hdl : d.length = n := by rw [hd, List.length_mergeSort, hsl]
    have hmap : d.map encStr = (sortT l).map Value.string := by
      have h1 := sortT_merge ss
      rw [← hd, hss, texts_back] at h1
      rw [← h1, List.map_map]
      rfl
    have hblk : ∀ i, i < w.heap.size → (Go.Sort.grow (Go.Sort.putRow encStr (Go.Sort.ahead w k) g 0 d.toArray) os).heap[i]? = (Go.Sort.putRow encStr (Go.Sort.ahead w k) g 0 d.toArray).heap[i]? := fun i hi => by
      unfold Go.Sort.grow
      rw [Array.getElem?_append_left]
      simpa [Go.Sort.putRow, Go.Sort.mapBlock, Go.Sort.ahead] using hi
    refine ⟨rfl, ⟨by rw [List.length_map, ← List.length_map (f := Value.string), ← hmap, List.length_map, hdl]; omega, .inr ⟨g, c, Go.Sort.putCells encStr 0 d.toArray cur, rfl, hb, ?_, hle, hm, by simpa [Go.Sort.putCells] using hs, ?_⟩⟩, ?_⟩
    · rw [hblk g hbl.lt]
      simp [Go.Sort.putRow, Go.Sort.mapBlock, Go.Sort.ahead, Go.Sort.onCells, Array.getElem?_modify, hg]
    · rw [← hmap, Nat.mul_one]
      apply List.ext_getElem?
      intro i
      by_cases hi : i < n
      · rw [List.getElem?_take, if_pos hi, Array.getElem?_toList, Go.Sort.putCells, Array.getElem?_mapIdx, List.getElem?_map, hcell i hi, Option.map_some, if_pos ⟨Nat.zero_le _, by simp [hdl, hi]⟩, List.getElem?_eq_getElem (by omega)]
        simp [hdl, hi]
      · rw [List.getElem?_eq_none (by rw [List.length_take]; omega), List.getElem?_eq_none (by rw [List.length_map]; omega)]
    · refine ⟨rfl, rfl, rfl, ?_, fun i hi hne => ?_⟩
      · simp [Go.Sort.grow, Go.Sort.putRow, Go.Sort.mapBlock, Go.Sort.ahead]
      · rw [hblk i hi]
        have hgi : g ≠ i := fun e => hne (by rw [e]; rfl)
        simp [Go.Sort.putRow, Go.Sort.mapBlock, Go.Sort.ahead, Array.getElem?_modify, hgi]
end Go.Proofs.YtlnademnfnhbpaaGreat
