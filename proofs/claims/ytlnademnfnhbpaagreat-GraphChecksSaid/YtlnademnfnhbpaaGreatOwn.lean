/- Writing into rows of the call's own. No program here. -/
import Derived.Test.YtlnademnfnhbpaaGreatApp
namespace Go.Proofs.YtlnademnfnhbpaaGreat
open Go.RowKit

/-- Element i of an owned row of one-cell elements: it may be read and written. -/
theorem own_cell {w : World} {B n c i : Nat} {e : TypeId} {A : Option Addr} {xs : List Value} (h : w.ownsRow B e 1 (.slice A n c) n xs) (hi : i < n) :
    ∃ g u, A = some ⟨g, 0, none⟩ ∧ B ≤ g ∧ g < w.heap.size ∧ xs[i]? = some u ∧ w.cell? ⟨g, i, none⟩ = some u ∧ w.frozen? ⟨g, i, none⟩ = false ∧ ∀ u', (w.setCell ⟨g, i, none⟩ u').ownsRow B e 1 (.slice A n c) n (xs.set i u') := by
  have hl := h.1
  rcases h.2 with ⟨hv, hn⟩ | ⟨g, cap, cur, hv, hb, hg, hle, hm, hs, ht⟩
  · omega
  · injection hv with h1 h2 h3
    subst h1 h3
    have hlt : g < w.heap.size := (Array.getElem?_eq_some_iff.1 hg).1
    have hix : i < xs.length := by omega
    have hic : i < cur.size := by omega
    have hcell : cur[i]? = some xs[i] := by
      rw [← Array.getElem?_toList]
      have h2 : (cur.toList.take (n * 1))[i]? = some xs[i] := by rw [ht]; exact List.getElem?_eq_getElem hix
      rw [List.getElem?_take, if_pos (by omega)] at h2
      exact h2
    refine ⟨g, xs[i], rfl, hb, hlt, List.getElem?_eq_getElem hix, ?_, ?_, fun u' => ?_⟩
    · rw [cell_of_row w g i cur e (0, 0) hg]
      exact hcell
    · simp [World.frozen?, hg]
    · refine ⟨by rw [List.length_set]; exact hl, .inr ⟨g, c, cur.setIfInBounds i u', rfl, hb, ?_, hle, hm, by simpa using hs, ?_⟩⟩
      · simp [World.setCell, Array.getElem?_modify, hg]
      · rw [Array.toList_setIfInBounds, List.take_set, ht]

/-- Cell i of an owned row of structs. -/
theorem own_cellK {w : World} {B n c k i : Nat} {e : TypeId} {A : Option Addr} {xs : List Value} (h : w.ownsRow B e k (.slice A n c) n xs) (hi : i < n * k) :
    ∃ g u, A = some ⟨g, 0, none⟩ ∧ B ≤ g ∧ g < w.heap.size ∧ xs[i]? = some u ∧ w.cell? ⟨g, i, none⟩ = some u ∧ w.frozen? ⟨g, i, none⟩ = false ∧ ∀ u', (w.setCell ⟨g, i, none⟩ u').ownsRow B e k (.slice A n c) n (xs.set i u') := by
  have hl := h.1
  rcases h.2 with ⟨hv, hn⟩ | ⟨g, cap, cur, hv, hb, hg, hle, hm, hs, ht⟩
  · subst hn; omega
  · injection hv with h1 h2 h3
    subst h1 h3
    have hlt : g < w.heap.size := (Array.getElem?_eq_some_iff.1 hg).1
    have hix : i < xs.length := by omega
    have hck : n * k ≤ c * k := Nat.mul_le_mul_right k hle
    have hic : i < cur.size := by omega
    have hcell : cur[i]? = some xs[i] := by
      rw [← Array.getElem?_toList]
      have h2 : (cur.toList.take (n * k))[i]? = some xs[i] := by rw [ht]; exact List.getElem?_eq_getElem hix
      rw [List.getElem?_take, if_pos hi] at h2
      exact h2
    refine ⟨g, xs[i], rfl, hb, hlt, List.getElem?_eq_getElem hix, ?_, ?_, fun u' => ?_⟩
    · rw [cell_of_row w g i cur e (0, 0) hg]
      exact hcell
    · simp [World.frozen?, hg]
    · refine ⟨by rw [List.length_set]; exact hl, .inr ⟨g, c, cur.setIfInBounds i u', rfl, hb, ?_, hle, hm, by simpa using hs, ?_⟩⟩
      · simp [World.setCell, Array.getElem?_modify, hg]
      · rw [Array.toList_setIfInBounds, List.take_set, ht]

/-- The same, with nothing said of what is read. -/
theorem own_put {w : World} {B n c i : Nat} {e : TypeId} {A : Option Addr} (h : ∃ xs, w.ownsRow B e 1 (.slice A n c) n xs) (hi : i < n) :
    ∃ g, A = some ⟨g, 0, none⟩ ∧ B ≤ g ∧ g < w.heap.size ∧ (∃ u, w.cell? ⟨g, i, none⟩ = some u) ∧ w.frozen? ⟨g, i, none⟩ = false ∧ ∀ u', ∃ xs, (w.setCell ⟨g, i, none⟩ u').ownsRow B e 1 (.slice A n c) n xs := by
  obtain ⟨xs, h⟩ := h
  obtain ⟨g, u, h1, h2, h3, _, h4, h5, h6⟩ := own_cell h hi
  exact ⟨g, h1, h2, h3, ⟨u, h4⟩, h5, fun u' => ⟨_, h6 u'⟩⟩
end Go.Proofs.YtlnademnfnhbpaaGreat
