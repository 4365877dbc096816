/- Plain laws of the reference's sort: the places 0 to n-1 in the order of keys, by merging runs. No program here. -/
import Derived.Test.YtlnademnfnhbpaaGreatCanL
namespace Go.Proofs.YtlnademnfnhbpaaGreat
open Go.RowKit

section
variable {α κ : Type} {lt : κ → κ → Prop} {key : α → κ}
/-- What stands at the head of chunks: one chunk, and the next. -/
theorem Ck.split {bs : Nat} {r : List α} (h : Ck lt key bs r) (hb : 0 < bs) :
    ∃ L M R, r = L ++ (M ++ R) ∧ SortO lt key L ∧ SortO lt key M ∧ L.length = min bs r.length ∧ L.length + M.length = min (2 * bs) r.length ∧ Ck lt key bs R := by
  by_cases h2 : 2 * bs ≤ r.length
  · obtain ⟨c1, c2, r', e, l1, l2, s1, s2, hr⟩ := h.two hb h2
    exact ⟨c1, c2, r', e, s1, s2, by omega, by omega, hr⟩
  · by_cases h1 : bs < r.length
    · obtain ⟨c1, c2, e, l1, s1, s2⟩ := h.half h1 (by omega)
      refine ⟨c1, c2, [], by simpa using e, s1, s2, by omega, ?_, .last _ (by simp) SortO.nil⟩
      rw [e] at h2 ⊢
      rw [List.length_append] at h2 ⊢
      omega
    · exact ⟨r, [], [], by simp, h.one (by omega), SortO.nil, by omega, by simp; omega, .last _ (by simp) SortO.nil⟩

theorem sort_split {l : List α} {a : Nat} (h : SortO lt key l) : SortO lt key (l.take a) ∧ SortO lt key (l.drop a) ∧ ∀ x ∈ l.take a, ∀ y ∈ l.drop a, ¬ lt (key y) (key x) := by
  rw [← List.take_append_drop a l] at h
  exact h.of_app
variable [DecidableEq κ]
/-- A merge under way: a of L, b of M have been laid into w. -/
def Mg (lt : κ → κ → Prop) (key : α → κ) (L M : List α) (a b : Nat) (w : List α) : Prop :=
  SortO lt key w ∧ SameO key w (L.take a ++ M.take b) ∧ (∀ x ∈ L.take a, ∀ y ∈ M.drop b, ¬ lt (key y) (key x)) ∧ ∀ y ∈ M.take b, ∀ x ∈ L.drop a, lt (key y) (key x)
theorem Mg.start (L M : List α) : Mg lt key L M 0 0 [] := ⟨SortO.nil, SameO.refl _, by simp, by simp⟩
theorem take_snoc_at {l : List α} {a : Nat} {x : α} (h : l[a]? = some x) : l.take (a + 1) = l.take a ++ [x] := by
  rw [List.take_add_one, h]
  rfl
theorem drop_at {l : List α} {a : Nat} {x : α} (h : l[a]? = some x) : l.drop a = x :: l.drop (a + 1) := by
  obtain ⟨h1, h2⟩ := List.getElem?_eq_some_iff.1 h
  rw [List.drop_eq_getElem_cons h1, h2]
theorem Mg.left {L M w : List α} {a b : Nat} {x : α} (hL : Lin lt) (h : Mg lt key L M a b w) (hl : SortO lt key L) (hm : SortO lt key M) (hx : L[a]? = some x) (hc : ∀ y, M[b]? = some y → ¬ lt (key y) (key x)) : Mg lt key L M (a + 1) b (w ++ [x]) := by
  obtain ⟨h1, h2, h3, h4⟩ := h
  have hd := drop_at hx
  have hM : ∀ y ∈ M.drop b, ¬ lt (key y) (key x) := fun y hy => by
    cases hM : M[b]? with
    | none =>
      rw [List.drop_of_length_le (by rw [List.getElem?_eq_none_iff] at hM; exact hM)] at hy
      cases hy
    | some z =>
      have s := (sort_split (a := b) hm).2.1
      rw [drop_at hM] at hy s
      rcases List.mem_cons.1 hy with rfl | hy
      · exact hc _ hM
      · exact hL.le_tr (hc _ hM) ((List.pairwise_cons.1 s).1 y hy)
  refine ⟨h1.app (SortO.one x) fun z hz y hy => ?_, ?_, ?_, ?_⟩
  · obtain rfl := List.mem_singleton.1 hy
    rcases List.mem_append.1 (h2.mem hz) with hz | hz
    · exact (sort_split (a := a) hl).2.2 z hz y (by rw [hd]; simp)
    · exact hL.asym (h4 z hz y (by rw [hd]; simp))
  · rw [take_snoc_at hx]
    refine (h2.app (SameO.refl [x])).trans ?_
    rw [List.append_assoc, List.append_assoc]
    refine (SameO.refl _).app (SameO.swap fun z hz y hy e => ?_)
    obtain rfl := List.mem_singleton.1 hy
    have := h4 z hz y (by rw [hd]; simp)
    rw [e] at this
    exact hL.irr _ this
  · rw [take_snoc_at hx]
    intro z hz y hy
    rcases List.mem_append.1 hz with hz | hz
    · exact h3 z hz y hy
    · obtain rfl := List.mem_singleton.1 hz
      exact hM y hy
  · intro y hy z hz
    exact h4 y hy z (by rw [hd]; exact List.mem_cons_of_mem _ hz)
theorem Mg.right {L M w : List α} {a b : Nat} {y : α} (hL : Lin lt) (h : Mg lt key L M a b w) (hl : SortO lt key L) (hm : SortO lt key M) (hy : M[b]? = some y) (hc : ∀ x, L[a]? = some x → lt (key y) (key x)) : Mg lt key L M a (b + 1) (w ++ [y]) := by
  obtain ⟨h1, h2, h3, h4⟩ := h
  have hd := drop_at hy
  have hLx : ∀ x ∈ L.drop a, lt (key y) (key x) := fun x hx => by
    cases hLa : L[a]? with
    | none =>
      rw [List.drop_of_length_le (by rw [List.getElem?_eq_none_iff] at hLa; exact hLa)] at hx
      cases hx
    | some z =>
      have s := (sort_split (a := a) hl).2.1
      rw [drop_at hLa] at hx s
      rcases List.mem_cons.1 hx with rfl | hx
      · exact hc _ hLa
      · exact hL.lt_le (hc _ hLa) ((List.pairwise_cons.1 s).1 x hx)
  refine ⟨h1.app (SortO.one y) fun z hz x hx => ?_, ?_, ?_, ?_⟩
  · obtain rfl := List.mem_singleton.1 hx
    rcases List.mem_append.1 (h2.mem hz) with hz | hz
    · exact h3 z hz x (by rw [hd]; simp)
    · exact (sort_split (a := b) hm).2.2 z hz x (by rw [hd]; simp)
  · rw [take_snoc_at hy, ← List.append_assoc]
    exact h2.app (SameO.refl [y])
  · intro x hx z hz
    exact h3 x hx z (by rw [hd]; exact List.mem_cons_of_mem _ hz)
  · rw [take_snoc_at hy]
    intro z hz x hx
    rcases List.mem_append.1 hz with hz | hz
    · exact h4 z hz x hx
    · obtain rfl := List.mem_singleton.1 hz
      exact hLx x hx
theorem Mg.done {L M w : List α} {a b : Nat} (h : Mg lt key L M a b w) (ha : L.length ≤ a) (hb : M.length ≤ b) : SortO lt key w ∧ SameO key w (L ++ M) := by
  obtain ⟨h1, h2, _, _⟩ := h
  rw [List.take_of_length_le ha, List.take_of_length_le hb] at h2
  exact ⟨h1, h2⟩
theorem Mg.len {L M w : List α} {a b : Nat} (h : Mg lt key L M a b w) (ha : a ≤ L.length) (hb : b ≤ M.length) : w.length = a + b := by
  have := h.2.1.length
  rw [List.length_append, List.length_take, List.length_take] at this
  omega
end
section
variable {α κ : Type} {lt : κ → κ → Prop} [DecidableRel lt] {key : α → κ}
/-- The places in the order of the keys that stand there. -/
def places (lt : κ → κ → Prop) [DecidableRel lt] (key : Nat → κ) (n : Nat) : List Nat := sortB lt key (List.range n)
/-- What stands at the places, in their order, is the list in order. -/
theorem places_list {key' : Nat → κ} [DecidableEq κ] (L : Lin lt) (l : List α) (d : α) (hk : ∀ i x, l[i]? = some x → key' i = key x) : (places lt key' l.length).map (fun i => l[i]?.getD d) = sortB lt key l := by
  have e : l = (List.range l.length).map fun i => l[i]?.getD d := by
    apply List.ext_getElem
    · simp
    · intro i h1 h2
      simp [h1]
  have hf : ∀ i ∈ List.range l.length, key (l[i]?.getD d) = key' i := fun i hi => by
    have h1 : i < l.length := by simpa using hi
    rw [List.getElem?_eq_getElem h1, Option.getD_some]
    exact (hk i _ (List.getElem?_eq_getElem h1)).symm
  refine sortB_of L ?_ ?_
  · have h1 := sortB_sort (key := key') L (List.range l.length)
    unfold places SortO
    rw [List.pairwise_map]
    refine h1.imp_of_mem fun {a b} ha hb h => ?_
    have m := fun x hx => (sortB_same (key := key') L (List.range l.length)).mem (x := x) hx
    rw [hf a (m a ha), hf b (m b hb)]
    exact h
  · intro k
    have h2 := sortB_same (key := key') L (List.range l.length) k
    have hfil : ∀ q : List Nat, (∀ i ∈ q, i ∈ List.range l.length) → (q.map fun i => l[i]?.getD d).filter (fun x => decide (key x = k)) = (q.filter fun i => decide (key' i = k)).map fun i => l[i]?.getD d := fun q hq => by
      rw [List.filter_map]
      congr 1
      refine List.filter_congr fun i hi => ?_
      simp only [Function.comp]
      rw [hf i (hq i hi)]
    have m := fun x hx => (sortB_same (key := key') L (List.range l.length)).mem (x := x) hx
    unfold places
    rw [hfil _ m, h2]
    conv => rhs; rw [e]
    rw [hfil _ fun _ h => h]
end
end Go.Proofs.YtlnademnfnhbpaaGreat
