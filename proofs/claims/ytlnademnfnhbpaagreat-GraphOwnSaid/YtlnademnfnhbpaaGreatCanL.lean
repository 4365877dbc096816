/- Plain laws: a graph with its lists in order. No program here. -/
import Derived.Test.YtlnademnfnhbpaaGreatSrtL
import Derived.Test.YtlnademnfnhbpaaGreatGsame
namespace Go.Proofs.YtlnademnfnhbpaaGreat
open Go.RowKit

section
variable {α β κ : Type} {lt : κ → κ → Prop} [DecidableRel lt] {key : α → κ}
def insB (lt : κ → κ → Prop) [DecidableRel lt] (key : α → κ) (x : α) : List α → List α
  | [] => [x]
  | y :: l => if lt (key y) (key x) then y :: insB lt key x l else x :: y :: l
/-- A list in the order of keys, equal ones as they stood. -/
def sortB (lt : κ → κ → Prop) [DecidableRel lt] (key : α → κ) : List α → List α
  | [] => []
  | x :: l => insB lt key x (sortB lt key l)
theorem insB_split (L : Lin lt) (x : α) : ∀ l : List α, SortO lt key l → ∃ P1 P2, l = P1 ++ P2 ∧ insB lt key x l = P1 ++ x :: P2 ∧ (∀ y ∈ P1, lt (key y) (key x)) ∧ ∀ y ∈ P2, ¬ lt (key y) (key x)
  | [], _ => ⟨[], [], rfl, rfl, by simp, by simp⟩
  | y :: l, h => by
    obtain ⟨h1, h2⟩ := List.pairwise_cons.1 h
    unfold insB
    by_cases hy : lt (key y) (key x)
    · obtain ⟨P1, P2, e1, e2, e3, e4⟩ := insB_split L x l h2
      rw [if_pos hy, e2]
      refine ⟨y :: P1, P2, by rw [e1]; rfl, rfl, fun z hz => ?_, e4⟩
      rcases List.mem_cons.1 hz with rfl | hz
      · exact hy
      · exact e3 z hz
    · rw [if_neg hy]
      refine ⟨[], y :: l, rfl, rfl, by simp, fun z hz => ?_⟩
      rcases List.mem_cons.1 hz with rfl | hz
      · exact hy
      · exact fun hz' => hy (L.le_lt (h1 z hz) hz')
theorem sortB_sort (L : Lin lt) : ∀ l : List α, SortO lt key (sortB lt key l)
  | [] => SortO.nil
  | x :: l => by
    have ih := sortB_sort L l
    obtain ⟨P1, P2, e1, e2, e3, e4⟩ := insB_split L x _ ih
    unfold sortB
    rw [e2]
    rw [e1] at ih
    exact ih.ins (fun y hy => L.asym (e3 y hy)) e4
theorem sortB_same [DecidableEq κ] (L : Lin lt) : ∀ l : List α, SameO key (sortB lt key l) l
  | [] => SameO.refl _
  | x :: l => by
    have ih := sortB_same L l
    obtain ⟨P1, P2, e1, e2, e3, e4⟩ := insB_split (key := key) L x _ (sortB_sort L l)
    unfold sortB
    rw [e2]
    rw [e1] at ih
    exact (SameO.forth L P1 P2 x e3).trans ((SameO.refl [x]).app ih)
theorem sortB_of [DecidableEq κ] (L : Lin lt) {s l : List α} (h1 : SortO lt key s) (h2 : SameO key s l) : s = sortB lt key l :=
  SortO.unique L h1 (sortB_sort L l) (h2.trans (sortB_same L l).symm)
theorem sortB_id [DecidableEq κ] (L : Lin lt) {l : List α} (h : SortO lt key l) : sortB lt key l = l := (sortB_of L h (SameO.refl _)).symm
theorem sortB_congr [DecidableEq κ] (L : Lin lt) {s l : List α} (h2 : SameO key s l) : sortB lt key s = sortB lt key l := sortB_of L (sortB_sort L s) ((sortB_same L s).trans h2)
theorem insB_map {key' : β → κ} (f : α → β) (hk : ∀ x, key' (f x) = key x) (x : α) : ∀ l : List α, insB lt key' (f x) (l.map f) = (insB lt key x l).map f
  | [] => rfl
  | y :: l => by
    rw [List.map_cons]
    unfold insB
    rw [hk, hk]
    by_cases hy : lt (key y) (key x)
    · rw [if_pos hy, if_pos hy, insB_map f hk x l]
      rfl
    · rw [if_neg hy, if_neg hy]
      rfl
theorem sortB_map {key' : β → κ} (f : α → β) (hk : ∀ x, key' (f x) = key x) : ∀ l : List α, sortB lt key' (l.map f) = (sortB lt key l).map f
  | [] => rfl
  | x :: l => by
    rw [List.map_cons]
    unfold sortB
    rw [sortB_map f hk l, insB_map f hk]
end
section
variable {α β κ : Type} {lt : κ → κ → Prop} {key : α → κ}
theorem SortO.map {key' : β → κ} {f : α → β} (hk : ∀ x, key' (f x) = key x) {l : List α} (h : SortO lt key l) : SortO lt key' (l.map f) := by
  unfold SortO at h ⊢
  rw [List.pairwise_map]
  exact h.imp fun {a b} h => by rw [hk, hk]; exact h
theorem SameO.map [DecidableEq κ] {key' : β → κ} {f : α → β} (hk : ∀ x, key' (f x) = key x) {l m : List α} (h : SameO key l m) : SameO key' (l.map f) (m.map f) := fun k => by
  have e : ∀ l : List α, (l.map f).filter (fun x => decide (key' x = k)) = (l.filter fun x => decide (key x = k)).map f := fun l => by
    rw [List.filter_map]
    congr 1
    exact List.filter_congr fun x _ => by simp only [Function.comp, hk]
  rw [e, e, h k]
theorem SameO.of_perm [DecidableEq α] {l m : List α} (h : l.Perm m) : SameO (fun x : α => x) l m := fun k => by
  have e : ∀ l : List α, (l.filter fun x => decide (x = k)) = List.replicate (l.filter fun x => decide (x = k)).length k := fun l => by
    rw [List.eq_replicate_iff]
    exact ⟨rfl, fun b hb => by simpa using (List.mem_filter.1 hb).2⟩
  rw [e l, e m, (h.filter _).length_eq]
end

theorem sameO_inst {α κ : Type} {key : α → κ} {i1 i2 : DecidableEq κ} {l m : List α} (h : @SameO α κ i1 key l m) : @SameO α κ i2 key l m := by
  have e : i1 = i2 := Subsingleton.elim _ _
  subst e
  exact h
instance ltS_dec : DecidableRel ltS := fun a b => inferInstanceAs (Decidable (a.data.toList < b.data.toList))
instance ltI_dec : DecidableRel (fun a b : Int => a < b) := fun a b => inferInstanceAs (Decidable (a < b))
/-- Texts in order. -/
abbrev sortT (l : List ByteArray) : List ByteArray := sortB ltS (fun x => x) l
def canN (x : GNode) : GNode := ⟨x.id, sortT x.labels, sortB ltS GPr.key x.props⟩
def canR (x : GRel) : GRel := ⟨x.id, x.type, x.src, x.dst, sortB ltS GPr.key x.props⟩
/-- The graph with its lists in order. -/
def canonD (g : GGraph) : GGraph := ⟨sortB (fun a b : Int => a < b) GNode.id (g.nodes.map canN), sortB (fun a b : Int => a < b) GRel.id (g.rels.map canR)⟩

/-- The library's merge sort of texts. -/
theorem sortT_merge (ss : List (List UInt8)) : ((ss.mergeSort fun x y => decide (x ≤ y)).map fun l => (⟨l.toArray⟩ : ByteArray)) = sortT (ss.map fun l => (⟨l.toArray⟩ : ByteArray)) := by
  refine sortB_of lin_str ?_ ((SameO.of_perm ((List.mergeSort_perm ss _).map _)))
  unfold SortO
  rw [List.pairwise_map]
  have h1 := List.pairwise_mergeSort (le := fun x y : List UInt8 => decide (x ≤ y)) (fun a b c h1 h2 => by simp only [decide_eq_true_eq] at *; exact List.le_trans h1 h2) (fun a b => by simp only [Bool.or_eq_true, decide_eq_true_eq]; exact List.le_total a b) ss
  refine h1.imp fun {a b} h => ?_
  simp only [decide_eq_true_eq] at h
  exact List.not_lt.2 h
end Go.Proofs.YtlnademnfnhbpaaGreat
