/- Plain laws of a stable sort by a key of any kind. No program here. -/
import Derived.WalkKit
namespace Go.Proofs.YtlnademnfnhbpaaGreat

/-- A total order. -/
structure Lin {κ : Type} (lt : κ → κ → Prop) : Prop where
  irr : ∀ a, ¬ lt a a
  tr : ∀ {a b c}, lt a b → lt b c → lt a c
  tot : ∀ a b, lt a b ∨ a = b ∨ lt b a

section
variable {α κ : Type} {lt : κ → κ → Prop} {key : α → κ}
theorem Lin.asym (L : Lin lt) {a b : κ} (h : lt a b) : ¬ lt b a := fun h' => L.irr _ (L.tr h h')
theorem Lin.le_tr (L : Lin lt) {a b c : κ} (h : ¬ lt b a) (h' : ¬ lt c b) : ¬ lt c a := fun hc => by
  rcases L.tot a b with hab | rfl | hba
  · exact h' (L.tr hc hab)
  · exact h' hc
  · exact h hba
theorem Lin.lt_le (L : Lin lt) {a b c : κ} (h : lt a b) (h' : ¬ lt c b) : lt a c := by
  rcases L.tot b c with hbc | rfl | hcb
  · exact L.tr h hbc
  · exact h
  · exact absurd hcb h'
theorem Lin.le_lt (L : Lin lt) {a b c : κ} (h : ¬ lt b a) (h' : lt b c) : lt a c := by
  rcases L.tot a b with hab | rfl | hba
  · exact L.tr hab h'
  · exact h'
  · exact absurd hba h

/-- In the order of keys. -/
def SortO (lt : κ → κ → Prop) (key : α → κ) (l : List α) : Prop := l.Pairwise fun a b => ¬ lt (key b) (key a)
theorem SortO.of_app {u v : List α} (h : SortO lt key (u ++ v)) : SortO lt key u ∧ SortO lt key v ∧ ∀ x ∈ u, ∀ y ∈ v, ¬ lt (key y) (key x) := List.pairwise_append.1 h
theorem SortO.app {u v : List α} (h1 : SortO lt key u) (h2 : SortO lt key v) (h3 : ∀ x ∈ u, ∀ y ∈ v, ¬ lt (key y) (key x)) : SortO lt key (u ++ v) := List.pairwise_append.2 ⟨h1, h2, h3⟩
theorem SortO.nil : SortO lt key ([] : List α) := List.Pairwise.nil
theorem SortO.one (x : α) : SortO lt key [x] := List.pairwise_singleton _ _
theorem SortO.ins {P1 P2 : List α} {x : α} (hs : SortO lt key (P1 ++ P2)) (h1 : ∀ y ∈ P1, ¬ lt (key x) (key y)) (h2 : ∀ y ∈ P2, ¬ lt (key y) (key x)) : SortO lt key (P1 ++ x :: P2) := by
  obtain ⟨a, b, c⟩ := hs.of_app
  refine a.app (List.pairwise_cons.2 ⟨h2, b⟩) fun y hy z hz => ?_
  rcases List.mem_cons.1 hz with rfl | hz
  · exact h1 y hy
  · exact c y hy z hz
theorem SortO.last_le {P : List α} {y : α} (L : Lin lt) (hs : SortO lt key (P ++ [y])) : ∀ z ∈ P ++ [y], ¬ lt (key y) (key z) := by
  intro z hz
  rcases List.mem_append.1 hz with hz | hz
  · exact hs.of_app.2.2 z hz y (by simp)
  · obtain rfl : z = y := by simpa using hz
    exact L.irr _

/-- A place found by halving in a sorted list: what is less than x stands ahead. -/
theorem SortO.cut_lt {v : List α} {i : Nat} {x : κ} (L : Lin lt) (hs : SortO lt key v) (hi : i ≤ v.length) (h1 : ∀ y, 0 < i → v[i - 1]? = some y → lt (key y) x) (h2 : ∀ y, v[i]? = some y → ¬ lt (key y) x) :
    (∀ y ∈ v.take i, lt (key y) x) ∧ ∀ y ∈ v.drop i, ¬ lt (key y) x := by
  constructor
  · intro y hy
    obtain ⟨j, hj, rfl⟩ := List.getElem_of_mem hy
    have hj' : j < i ∧ j < v.length := by rw [List.length_take] at hj; omega
    rw [List.getElem_take]
    have h3 := h1 (v[i - 1]'(by omega)) (by omega) (List.getElem?_eq_getElem (by omega))
    by_cases he : j = i - 1
    · subst he; exact h3
    · exact L.le_lt (List.pairwise_iff_getElem.1 hs j (i - 1) (by omega) (by omega) (by omega)) h3
  · intro y hy
    obtain ⟨j, hj, rfl⟩ := List.getElem_of_mem hy
    have hj' : i + j < v.length := by rw [List.length_drop] at hj; omega
    rw [List.getElem_drop]
    have h3 := h2 (v[i]'(by omega)) (List.getElem?_eq_getElem (by omega))
    by_cases he : j = 0
    · subst he; exact h3
    · exact L.le_tr h3 (List.pairwise_iff_getElem.1 hs i (i + j) (by omega) (by omega) (by omega))
/-- .. what is not greater than x stands ahead. -/
theorem SortO.cut_le {v : List α} {i : Nat} {x : κ} (L : Lin lt) (hs : SortO lt key v) (hi : i ≤ v.length) (h1 : ∀ y, 0 < i → v[i - 1]? = some y → ¬ lt x (key y)) (h2 : ∀ y, v[i]? = some y → lt x (key y)) :
    (∀ y ∈ v.take i, ¬ lt x (key y)) ∧ ∀ y ∈ v.drop i, lt x (key y) := by
  constructor
  · intro y hy
    obtain ⟨j, hj, rfl⟩ := List.getElem_of_mem hy
    have hj' : j < i ∧ j < v.length := by rw [List.length_take] at hj; omega
    rw [List.getElem_take]
    have h3 := h1 (v[i - 1]'(by omega)) (by omega) (List.getElem?_eq_getElem (by omega))
    by_cases he : j = i - 1
    · subst he; exact h3
    · exact L.le_tr (List.pairwise_iff_getElem.1 hs j (i - 1) (by omega) (by omega) (by omega)) h3
  · intro y hy
    obtain ⟨j, hj, rfl⟩ := List.getElem_of_mem hy
    have hj' : i + j < v.length := by rw [List.length_drop] at hj; omega
    rw [List.getElem_drop]
    have h3 := h2 (v[i]'(by omega)) (List.getElem?_eq_getElem (by omega))
    by_cases he : j = 0
    · subst he; exact h3
    · exact L.lt_le h3 (List.pairwise_iff_getElem.1 hs i (i + j) (by omega) (by omega) (by omega))
variable [DecidableEq κ]
/-- The same elements, key by key in the same order. -/
def SameO (key : α → κ) (l m : List α) : Prop := ∀ k : κ, (l.filter fun x => decide (key x = k)) = m.filter fun x => decide (key x = k)

theorem SameO.refl (l : List α) : SameO key l l := fun _ => rfl
theorem SameO.symm {l m : List α} (h : SameO key l m) : SameO key m l := fun k => (h k).symm
theorem SameO.trans {l m n : List α} (h : SameO key l m) (h' : SameO key m n) : SameO key l n := fun k => (h k).trans (h' k)
theorem SameO.app {l m l' m' : List α} (h : SameO key l m) (h' : SameO key l' m') : SameO key (l ++ l') (m ++ m') := fun k => by
  rw [List.filter_append, List.filter_append, h k, h' k]
theorem SameO.mem {l m : List α} (h : SameO key l m) {x : α} (hx : x ∈ l) : x ∈ m := by
  have h1 : x ∈ l.filter fun y => decide (key y = key x) := List.mem_filter.2 ⟨hx, by simp⟩
  rw [h] at h1
  exact (List.mem_filter.1 h1).1
theorem SameO.swap {u v : List α} (h : ∀ x ∈ u, ∀ y ∈ v, key x ≠ key y) : SameO key (u ++ v) (v ++ u) := fun k => by
  rw [List.filter_append, List.filter_append]
  by_cases hk : ∃ x ∈ u, key x = k
  · obtain ⟨x, hx, rfl⟩ := hk
    have h2 : (v.filter fun y => decide (key y = key x)) = [] := List.filter_eq_nil_iff.2 fun y hy => by
      have := h x hx y hy
      simp only [decide_eq_true_eq]
      exact fun e => this e.symm
    rw [h2, List.append_nil, List.nil_append]
  · have h2 : (u.filter fun y => decide (key y = k)) = [] := List.filter_eq_nil_iff.2 fun y hy => by
      simp only [decide_eq_true_eq]
      exact fun e => hk ⟨y, hy, e⟩
    rw [h2, List.append_nil, List.nil_append]
theorem SameO.uncons {x : α} {l m : List α} (h : SameO key (x :: l) m) : ∃ m1 m2, m = m1 ++ x :: m2 ∧ (∀ y ∈ m1, key y ≠ key x) ∧ SameO key l (m1 ++ m2) := by
  have h1 := h (key x)
  rw [List.filter_cons_of_pos (by simp)] at h1
  obtain ⟨m1, m2, rfl, h2, _, _⟩ := List.filter_eq_cons_iff.1 h1.symm
  have h3 : ∀ y ∈ m1, key y ≠ key x := fun y hy e => h2 y hy (by simpa using e)
  refine ⟨m1, m2, rfl, h3, fun k => ?_⟩
  have h4 := (SameO.swap (key := key) (u := m1) (v := [x]) fun y hy z hz => by
    obtain rfl : z = x := by simpa using hz
    exact h3 y hy).app (SameO.refl m2)
  rw [List.append_assoc, List.append_assoc] at h4
  have h5 := (h.trans h4) k
  simp only [List.cons_append, List.nil_append] at h5
  by_cases hk : key x = k
  · rw [List.filter_cons_of_pos (by simpa using hk), List.filter_cons_of_pos (by simpa using hk)] at h5
    exact (List.cons.inj h5).2
  · rw [List.filter_cons_of_neg (by simpa using hk), List.filter_cons_of_neg (by simpa using hk)] at h5
    exact h5
theorem SameO.perm : ∀ {l m : List α}, SameO key l m → l.Perm m
  | [], m, h => by
    cases m with
    | nil => exact List.Perm.refl _
    | cons y m => have := h.symm.mem (x := y) (by simp); simp at this
  | x :: l, m, h => by
    obtain ⟨m1, m2, rfl, _, h2⟩ := h.uncons
    exact (List.Perm.cons x h2.perm).trans List.perm_middle.symm
theorem SameO.length {l m : List α} (h : SameO key l m) : l.length = m.length := h.perm.length_eq
/-- There is one such order. -/
theorem SortO.unique (L : Lin lt) : ∀ {l m : List α}, SortO lt key l → SortO lt key m → SameO key l m → l = m
  | [], m, _, _, h => by
    have := h.length
    simp only [List.length_nil] at this
    exact (List.length_eq_zero_iff.1 this.symm).symm
  | x :: l, m, hl, hm, h => by
    obtain ⟨m1, m2, rfl, h1, h2⟩ := h.uncons
    have hx := List.pairwise_cons.1 hl
    cases m1 with
    | nil => exact congrArg _ (SortO.unique L hx.2 (List.pairwise_cons.1 hm).2 h2)
    | cons y m1 =>
      exfalso
      have h3 := h1 y (by simp)
      have hy : y ∈ l := h2.symm.mem (by simp)
      have h4 := hx.1 y hy
      have h5 := (List.pairwise_cons.1 hm).1 x (by simp)
      rcases L.tot (key x) (key y) with h | h | h
      · exact h5 h
      · exact h3 h.symm
      · exact h4 h

/-- The step of a merge: what stands after the exchange is sorted half by half. -/
theorem merge_step {u1 u2 v1 v2 w1 w2 : List α} (L : Lin lt) (hu : SortO lt key (u1 ++ u2)) (hv : SortO lt key (v1 ++ v2)) (h1 : ∀ x ∈ u1, ∀ y ∈ v2, ¬ lt (key y) (key x)) (h2 : ∀ x ∈ u2, ∀ y ∈ v1, lt (key y) (key x))
    (s1 : SortO lt key w1) (m1 : SameO key w1 (u1 ++ v1)) (s2 : SortO lt key w2) (m2 : SameO key w2 (u2 ++ v2)) : SortO lt key (w1 ++ w2) ∧ SameO key (w1 ++ w2) ((u1 ++ u2) ++ (v1 ++ v2)) := by
  obtain ⟨_, _, hu3⟩ := hu.of_app
  obtain ⟨_, _, hv3⟩ := hv.of_app
  constructor
  · refine s1.app s2 fun x hx y hy => ?_
    rcases List.mem_append.1 (m1.mem hx) with hx | hx <;> rcases List.mem_append.1 (m2.mem hy) with hy | hy
    · exact hu3 x hx y hy
    · exact h1 x hx y hy
    · exact L.asym (h2 y hy x hx)
    · exact hv3 x hx y hy
  · refine (m1.app m2).trans ?_
    have h4 : SameO key (v1 ++ u2) (u2 ++ v1) := SameO.swap fun x hx y hy e => by
      have := h2 y hy x hx
      rw [e] at this
      exact L.irr _ this
    have h5 := (((SameO.refl u1).app h4).app (SameO.refl v2))
    simpa only [List.append_assoc] using h5

theorem SameO.back (L : Lin lt) (P1 P2 : List α) (x : α) (h : ∀ y ∈ P2, lt (key x) (key y)) : SameO key (P1 ++ x :: P2) (P1 ++ P2 ++ [x]) := by
  have h1 : SameO key ([x] ++ P2) (P2 ++ [x]) := SameO.swap fun z hz y hy e => by
    obtain rfl : z = x := by simpa using hz
    have := h y hy
    rw [e] at this
    exact L.irr _ this
  have h2 := (SameO.refl P1).app h1
  simpa only [List.append_assoc, List.cons_append, List.nil_append] using h2
theorem SameO.forth (L : Lin lt) (P1 P2 : List α) (x : α) (h : ∀ y ∈ P1, lt (key y) (key x)) : SameO key (P1 ++ x :: P2) (x :: (P1 ++ P2)) := by
  have h1 : SameO key (P1 ++ [x]) ([x] ++ P1) := SameO.swap fun y hy z hz e => by
    obtain rfl : z = x := by simpa using hz
    have := h y hy
    rw [e] at this
    exact L.irr _ this
  have h2 := h1.app (SameO.refl P2)
  simpa only [List.append_assoc, List.cons_append, List.nil_append] using h2
end

theorem lin_int : Lin (fun a b : Int => a < b) := ⟨fun _ => by omega, fun h h' => by omega, fun _ _ => by omega⟩

/-- Texts in order. -/
def ltS (a b : ByteArray) : Prop := a.data.toList < b.data.toList
theorem bytes_inj {x y : ByteArray} (h : x.data.toList = y.data.toList) : x = y := by
  cases x; cases y
  simp only at h
  congr 1
  exact Array.toList_inj.1 h
theorem lin_str : Lin ltS := ⟨fun a => List.lt_irrefl _, fun h h' => List.lt_trans h h', fun a b => by
  unfold ltS
  rcases Classical.em (a.data.toList < b.data.toList) with h | h
  · exact .inl h
  · rcases Classical.em (b.data.toList < a.data.toList) with h' | h'
    · exact .inr (.inr h')
    · exact .inr (.inl (bytes_inj (List.le_antisymm (List.not_lt.1 h') (List.not_lt.1 h))))⟩
end Go.Proofs.YtlnademnfnhbpaaGreat
