/- Plain laws of a stable sort by an integer key. No program here. -/
import Derived.WalkKit
namespace Go.Proofs.Ytheinbigegobkaa

section
variable {α : Type} (key : α → Int)

/-- In the order of keys. -/
def SortedK (l : List α) : Prop := l.Pairwise fun a b => key a ≤ key b
/-- The same elements, key by key in the same order. -/
def SameK (l m : List α) : Prop := ∀ k : Int, (l.filter fun x => key x == k) = m.filter fun x => key x == k

variable {key}
theorem SameK.refl (l : List α) : SameK key l l := fun _ => rfl
theorem SameK.trans {l m n : List α} (h : SameK key l m) (h' : SameK key m n) : SameK key l n := fun k => (h k).trans (h' k)
theorem SameK.app {l m l' m' : List α} (h : SameK key l m) (h' : SameK key l' m') : SameK key (l ++ l') (m ++ m') := fun k => by
  rw [List.filter_append, List.filter_append, h k, h' k]
theorem SameK.mem {l m : List α} (h : SameK key l m) {x : α} (hx : x ∈ l) : x ∈ m := by
  have h1 : x ∈ l.filter fun y => key y == key x := List.mem_filter.2 ⟨hx, by simp⟩
  rw [h] at h1
  exact (List.mem_filter.1 h1).1
/-- x goes back over what is greater. -/
theorem SameK.back (P1 P2 : List α) (x : α) (h : ∀ y ∈ P2, key x < key y) : SameK key (P1 ++ x :: P2) (P1 ++ P2 ++ [x]) := fun k => by
  rw [List.filter_append, List.filter_append, List.filter_append, List.filter_cons, List.filter_cons, List.append_assoc]
  congr 1
  by_cases hk : key x = k
  · have h2 : (P2.filter fun y => key y == k) = [] := List.filter_eq_nil_iff.2 fun y hy => by
      have := h y hy
      simp
      omega
    simp [hk, h2]
  · simp [hk]
theorem SortedK.ins {P1 P2 : List α} {x : α} (hs : SortedK key (P1 ++ P2)) (h1 : ∀ y ∈ P1, key y ≤ key x) (h2 : ∀ y ∈ P2, key x < key y) : SortedK key (P1 ++ x :: P2) := by
  unfold SortedK at hs ⊢
  rw [List.pairwise_append] at hs ⊢
  obtain ⟨a, b, c⟩ := hs
  refine ⟨a, List.pairwise_cons.2 ⟨fun y hy => by have := h2 y hy; omega, b⟩, fun y hy z hz => ?_⟩
  rcases List.mem_cons.1 hz with rfl | hz
  · exact h1 y hy
  · exact c y hy z hz
theorem SortedK.last_le {P : List α} {y : α} (hs : SortedK key (P ++ [y])) : ∀ z ∈ P ++ [y], key z ≤ key y := by
  intro z hz
  unfold SortedK at hs
  rw [List.pairwise_append] at hs
  rcases List.mem_append.1 hz with hz | hz
  · exact hs.2.2 z hz y (by simp)
  · obtain rfl : z = y := by simpa using hz
    omega

/-- A sorted list is the elements of the least key, then the others. -/
theorem SortedK.part : ∀ {l : List α}, SortedK key l → ∀ a : Int, (∀ x ∈ l, a ≤ key x) → l = (l.filter fun x => key x == a) ++ l.filter fun x => key x != a
  | [], _, _, _ => rfl
  | x :: l, hs, a, ha => by
    have hs' : SortedK key l := (List.pairwise_cons.1 hs).2
    by_cases hx : key x = a
    · have ih := SortedK.part hs' a fun y hy => ha y (by simp [hy])
      rw [List.filter_cons, List.filter_cons, if_pos (by simpa using hx), if_neg (by simpa using hx), List.cons_append, ← ih]
    · have hgt : ∀ y ∈ x :: l, a < key y := fun y hy => by
        have h1 := ha x (by simp)
        rcases List.mem_cons.1 hy with rfl | hy
        · omega
        · have := (List.pairwise_cons.1 hs).1 y hy
          omega
      have e1 : ((x :: l).filter fun y => key y == a) = [] := List.filter_eq_nil_iff.2 fun y hy => by have := hgt y hy; simp; omega
      have e2 : ((x :: l).filter fun y => key y != a) = x :: l := List.filter_eq_self.2 fun y hy => by have := hgt y hy; simp; omega
      rw [e1, e2, List.nil_append]
theorem SortedK.filter {l : List α} (h : SortedK key l) (p : α → Bool) : SortedK key (l.filter p) := List.Pairwise.filter p h
/-- A sorted list, key by key. -/
theorem SortedK.flat (n : Nat) : ∀ (a : Nat) {l : List α}, SortedK key l → (∀ x ∈ l, (a : Int) ≤ key x ∧ key x < (a : Int) + n) → l = (List.range' a n).flatMap fun (k : Nat) => l.filter fun x => key x == (k : Int) := by
  induction n with
  | zero =>
    intro a l _ h
    cases l with
    | nil => rfl
    | cons x l => have := h x (by simp); omega
  | succ n ih =>
    intro a l hs h
    rw [List.range'_succ, List.flatMap_cons]
    have h1 := hs.part a fun x hx => (h x hx).1
    have h2 := ih (a + 1) (hs.filter fun x => key x != (a : Int)) (by
      intro x hx
      obtain ⟨hx1, hx2⟩ := List.mem_filter.1 hx
      have := h x hx1
      have : key x ≠ (a : Int) := by simpa using hx2
      omega)
    have h3 : ((List.range' (a + 1) n).flatMap fun (k : Nat) => (l.filter fun x => key x != (a : Int)).filter fun x => key x == (k : Int)) = (List.range' (a + 1) n).flatMap fun (k : Nat) => l.filter fun x => key x == (k : Int) := by
      rw [List.flatMap_def, List.flatMap_def]
      congr 1
      apply List.map_congr_left
      intro k hk
      have hka : a + 1 ≤ k := (List.mem_range'_1.1 hk).1
      rw [List.filter_filter]
      congr 1
      funext x
      by_cases hx : key x = (k : Int)
      · have : key x ≠ (a : Int) := by omega
        simp [hx]
        omega
      · simp [hx]
    rw [h3] at h2
    rw [← h2]
    exact h1
end
end Go.Proofs.Ytheinbigegobkaa
