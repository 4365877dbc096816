/- Plain laws of putting two sorted lists of texts together. No program here. -/
import Derived.Test.YtlnademnfnhbpaaGreatOrd
import Derived.Sort.Walk0
namespace Go.Proofs.YtlnademnfnhbpaaGreat

theorem less_iff (a b : ByteArray) : Op.bytesLess a.toList b.toList = true ↔ ltS a b := by
  rw [Go.Proofs.bytesLess_eq, decide_eq_true_eq, ByteArray.toList_eq, ByteArray.toList_eq]
  exact Iff.rfl
theorem eqT_iff (a b : ByteArray) : (a.toList == b.toList) = true ↔ a = b := by
  rw [beq_iff_eq, ByteArray.toList_eq, ByteArray.toList_eq]
  exact ⟨bytes_inj, fun h => by rw [h]⟩
theorem leq_iff (a b : ByteArray) : (Op.bytesLess a.toList b.toList || a.toList == b.toList) = true ↔ ¬ ltS b a := by
  rw [Bool.or_eq_true, less_iff, eqT_iff]
  constructor
  · rintro (h | rfl)
    · exact lin_str.asym h
    · exact lin_str.irr _
  · intro h
    rcases lin_str.tot a b with h1 | h1 | h1
    · exact .inl h1
    · exact .inr h1
    · exact absurd h1 h

/-- The texts of l, in order, each once. -/
structure Srt (l m : List ByteArray) : Prop where
  sorted : m.Pairwise ltS
  mem : ∀ x, x ∈ m ↔ x ∈ l

structure MInv (a b : List ByteArray) (i j : Nat) (out : List ByteArray) : Prop where
  sorted : out.Pairwise ltS
  mem : ∀ x, x ∈ out ↔ x ∈ a.take i ∨ x ∈ b.take j
  le : ∀ x ∈ out, ∀ y, y ∈ a.drop i ∨ y ∈ b.drop j → ¬ ltS y x
structure Pick (a b : List ByteArray) (i j : Nat) (x : ByteArray) (i' j' : Nat) : Prop where
  least : ∀ y, y ∈ a.drop i ∨ y ∈ b.drop j → ¬ ltS y x
  take : ∀ y, (y ∈ a.take i' ∨ y ∈ b.take j') ↔ ((y ∈ a.take i ∨ y ∈ b.take j) ∨ y = x)
  sub : ∀ y, y ∈ a.drop i' ∨ y ∈ b.drop j' → y ∈ a.drop i ∨ y ∈ b.drop j
  here : x ∈ a.drop i ∨ x ∈ b.drop j

theorem MInv.start (a b : List ByteArray) : MInv a b 0 0 [] := ⟨List.Pairwise.nil, by simp, by simp⟩
theorem pw_least {a : List ByteArray} (h : a.Pairwise ltS) {i : Nat} {x : ByteArray} (hx : a[i]? = some x) : ∀ y ∈ a.drop i, ¬ ltS y x := by
  intro y hy
  obtain ⟨hi, rfl⟩ := List.getElem?_eq_some_iff.1 hx
  rw [List.drop_eq_getElem_cons hi] at hy
  have h1 : (a.drop i).Pairwise ltS := h.sublist (List.drop_sublist _ _)
  rw [List.drop_eq_getElem_cons hi] at h1
  rcases List.mem_cons.1 hy with rfl | hy
  · exact lin_str.irr _
  · exact lin_str.asym ((List.pairwise_cons.1 h1).1 y hy)
theorem take_mem_succ {a : List ByteArray} {i : Nat} {x : ByteArray} (hx : a[i]? = some x) (y : ByteArray) : y ∈ a.take (i + 1) ↔ y ∈ a.take i ∨ y = x := by
  rw [List.take_add_one, hx]
  simp
theorem drop_mem_succ {a : List ByteArray} {i : Nat} (y : ByteArray) (h : y ∈ a.drop (i + 1)) : y ∈ a.drop i := by
  rw [← List.drop_drop] at h
  exact List.mem_of_mem_drop h
theorem drop_mem_at {a : List ByteArray} {i : Nat} {x : ByteArray} (hx : a[i]? = some x) : x ∈ a.drop i := by
  obtain ⟨hi, rfl⟩ := List.getElem?_eq_some_iff.1 hx
  rw [List.drop_eq_getElem_cons hi]
  exact List.mem_cons_self ..
theorem Pick.left {a b : List ByteArray} {i j : Nat} {x : ByteArray} (ha : a.Pairwise ltS) (hb : b.Pairwise ltS) (hx : a[i]? = some x) (h : ∀ y, b[j]? = some y → ¬ ltS y x) : Pick a b i j x (i + 1) j := by
  refine ⟨fun y hy => ?_, fun y => ?_, fun y hy => ?_, .inl (drop_mem_at hx)⟩
  · rcases hy with hy | hy
    · exact pw_least ha hx y hy
    · cases hb' : b[j]? with
      | none =>
        rw [List.drop_of_length_le (List.getElem?_eq_none_iff.1 hb')] at hy
        cases hy
      | some z => exact lin_str.le_tr (h z hb') (pw_least hb hb' y hy)
  · rw [take_mem_succ hx]
    constructor
    · rintro ((h | h) | h)
      · exact .inl (.inl h)
      · exact .inr h
      · exact .inl (.inr h)
    · rintro ((h | h) | h)
      · exact .inl (.inl h)
      · exact .inr h
      · exact .inl (.inr h)
  · exact hy.imp (drop_mem_succ y) id
theorem Pick.right {a b : List ByteArray} {i j : Nat} {x : ByteArray} (ha : a.Pairwise ltS) (hb : b.Pairwise ltS) (hx : b[j]? = some x) (h : ∀ y, a[i]? = some y → ¬ ltS y x) : Pick a b i j x i (j + 1) := by
  have h1 := Pick.left hb ha hx h
  exact ⟨fun y hy => h1.least y hy.symm, fun y => by rw [or_comm, h1.take, or_comm (a := y ∈ b.take j)], fun y hy => (h1.sub y hy.symm).symm, h1.here.symm⟩
theorem MInv.skip {a b : List ByteArray} {i j i' j' : Nat} {x : ByteArray} {out : List ByteArray} (h : MInv a b i j out) (hp : Pick a b i j x i' j') (hx : x ∈ out) : MInv a b i' j' out :=
  ⟨h.sorted, fun y => by
    rw [hp.take, ← h.mem]
    exact ⟨.inl, fun hh => by rcases hh with hh | rfl; · exact hh
                              · exact hx⟩, fun y hy z hz => h.le y hy z (hp.sub z hz)⟩
theorem MInv.snoc {a b : List ByteArray} {i j i' j' : Nat} {x : ByteArray} {out : List ByteArray} (h : MInv a b i j out) (hp : Pick a b i j x i' j') (hx : x ∉ out) : MInv a b i' j' (out ++ [x]) := by
  refine ⟨List.pairwise_append.2 ⟨h.sorted, List.pairwise_singleton _ _, fun y hy z hz => ?_⟩, fun y => ?_, fun y hy z hz => ?_⟩
  · obtain rfl : z = x := by simpa using hz
    have h1 := h.le y hy z hp.here
    rcases lin_str.tot y z with h2 | h2 | h2
    · exact h2
    · exact absurd (h2 ▸ hy) hx
    · exact absurd h2 h1
  · rw [hp.take, ← h.mem]
    simp
  · rcases List.mem_append.1 hy with hy | hy
    · exact h.le y hy z (hp.sub z hz)
    · obtain rfl : y = x := by simpa using hy
      exact hp.least z (hp.sub z hz)
/-- Where the last one is another, x has not yet come. -/
theorem MInv.fresh {a b : List ByteArray} {i j i' j' : Nat} {x y : ByteArray} {out : List ByteArray} (h : MInv a b i j (out ++ [y])) (hp : Pick a b i j x i' j') (hne : x ≠ y) : x ∉ out ++ [y] := by
  intro hx
  rcases List.mem_append.1 hx with hx | hx
  · have h1 := (List.pairwise_append.1 h.sorted).2.2 x hx y (by simp)
    exact h.le y (by simp) x hp.here h1
  · exact hne (by simpa using hx)
theorem MInv.done {a b la lb : List ByteArray} {i j : Nat} {out : List ByteArray} (h : MInv a b i j out) (hi : a.length ≤ i) (hj : b.length ≤ j) (ha : Srt la a) (hb : Srt lb b) : Srt (la ++ lb) out :=
  ⟨h.sorted, fun x => by rw [h.mem, List.take_of_length_le hi, List.take_of_length_le hj, ha.mem, hb.mem, List.mem_append]⟩
end Go.Proofs.YtlnademnfnhbpaaGreat
