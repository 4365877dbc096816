/- The law's frame: what the arguments of a call are, read as lists; what the call's end must show. -/
import Derived.Test.YtlnademnfnhbpaaGreatRows
import Derived.Test.YtlnademnfnhbpaaGreatBase
import Derived.WalkKit
import Derived.ProofKit
import Derived.SizedLaws
import Derived.SliceStrings
import Derived.Deep.Fields
import Derived.Carry
import Derived.OpenShut
namespace Go.Proofs.YtlnademnfnhbpaaGreat
open Go.ChangeShapes Go.WideShapes Go.ChangeAt Go.RowKit

theorem ownTry : ownKnob Tryz.prog.godebug = none := by kernel_rfl
theorem laidTry : laidOutB Tryz.prog = true := by kernel_rfl

section
variable {H : Type} {enc : TypeId × Value → H} {P : Program} {W W' : World}

/-- What has not turned reads as it did. -/
theorem stays_all (hl : laidOutB P = true) (hb : Below W.heap.size W W') : ∀ {ts : List TypeId} {vs : List Value} {ds : List (DataW H)} {p : List MemPlace},
    (∀ t ∈ ts, P.readableRec t = true ∧ t < P.types.size) → DataW.TrodAll enc P W 0 (fun _ => true) true ts vs ds p → (∀ x ∈ p, x.block < W.heap.size) →
    DataW.TrodAll enc P W' 0 (fun b => decide (b < W.heap.size)) true ts vs ds p
  | [], [], [], _, _, h, _ => h
  | t :: ts, _ :: _, _ :: _, _, hr, ⟨p, q, h1, h2, e⟩, hlt =>
    ⟨p, q, Below.trod hl (hr t (List.mem_cons_self ..)).1 (hr t (List.mem_cons_self ..)).2 h1 hb (fun x hx => hlt x (by rw [e]; exact List.mem_append_left _ hx)),
      stays_all hl hb (fun t' ht' => hr t' (List.mem_cons_of_mem _ ht')) h2 (fun x hx => hlt x (by rw [e]; exact List.mem_append_right _ hx)), e⟩

theorem whole_args {f : Func} {vars : List String} {ts : List TypeId} {args : Array Value} {ds gs : List (DataW H)} {before : List MemPlace} (hp : f.params.toList = ts)
    (hW : DataW.Whole enc P f.params.toList vars false W args.toList ds gs before) : ∃ p, DataW.TrodAll enc P W 0 (fun _ => true) true ts args.toList ds p := by
  obtain ⟨p, _, h, _⟩ := hW
  rw [hp] at h
  exact ⟨p, h⟩

/-- The end of a law's call: true, and no old block has turned. -/
theorem law_post {f : Func} {s : ChangeSpec} {tb : TypeId} {ts : List TypeId} {args : Array Value} {ds gs : List (DataW H)} {before : List MemPlace} (hl : laidOutB P = true)
    (hp : f.params.toList = ts) (hr : f.resultTypes = #[tb]) (ht : P.underlying tb = some .bool) (hread : ts.all (fun t => P.readableRec t && decide (t < P.types.size)) = true) (hv : s.vars = [])
    (hfn : gs = [] → (s.fn H (ds ++ gs)).results = [.lit (.bool true)] ∧ (s.fn H (ds ++ gs)).args = ds ∧ (s.fn H (ds ++ gs)).vars = [])
    (hW : DataW.Whole enc P f.params.toList s.vars false W args.toList ds gs before) (hb : Below W.heap.size W W') :
    s.post enc P f false true false false W args (.bool true) W' := by
  have hlt : ∀ x ∈ before, x.block < W.heap.size := fun x hx => by simpa using hW.lt x hx
  obtain ⟨p, q, hA, hV, hpq, hz⟩ := id hW
  rw [hv] at hV
  obtain ⟨rfl, rfl⟩ := trodVars_none hV
  rw [List.append_nil] at hpq
  subst hpq
  obtain ⟨e1, e2, e3⟩ := hfn rfl
  refine ⟨ds, [], before, [], before, [], hW, ?_, ?_, ?_, hb.frame _, fun h => by cases h⟩
  · rw [e1, hr]
    exact trodAll_cons_mk (shut_bool ht _) trodAll_mk0
  · rw [e2]
    rw [hp] at hA ⊢
    exact stays_all hl hb (fun t ht => by
      have := List.all_eq_true.1 hread t ht
      simpa using this) hA hlt
  · rw [e3, hv]
    rfl

/-- A slice argument lies in one block, from a place of its own. -/
theorem cell_slice {t e : TypeId} {base len cap : Nat} {a : Addr} (ht : P.underlying t = some (.slice e)) (h : Cell.okWide P W .any base t (.slice (some a) len cap)) : a.spot = none ∧ a.block < W.heap.size := by
  simp only [Cell.okWide, ht, Cell.ok] at h
  obtain ⟨_, _, h⟩ := h
  obtain ⟨_, hs, row, cells, hsh, _⟩ := h
  refine ⟨hs, ?_⟩
  unfold World.shape? at hsh
  cases hg : W.heap[a.block]? with
  | none => rw [hg] at hsh; simp at hsh
  | some o => exact (Array.getElem?_eq_some_iff.1 hg).1

theorem row_of {k : Nat → Value} {A : Addr} {n c : Nat} (hs : A.spot = none) (hb : A.block < W.heap.size) (hn : n ≤ c) (hc : c ≤ maxLen) (hcell : ∀ i, i < n → W.cell? (A.add i) = some (k i)) :
    Row W (fun b => b < W.heap.size) 1 (some A) n c ((List.range n).map k) := by
  refine ⟨by simp, hn, hc, fun h => by (cases h), fun a ha => ?_⟩
  cases ha
  refine ⟨hs, hb, hb, fun i u hi => ?_⟩
  obtain ⟨b, o, s⟩ := A
  subst hs
  have hlt : i < n := by
    have := (List.getElem?_eq_some_iff.1 hi).1
    simpa using this
  have h1 := hcell i hlt
  rw [List.getElem?_map, List.getElem?_range hlt] at hi
  simp only [Option.map_some, Option.some.injEq] at hi
  subst hi
  have hadd : (⟨b, o, none⟩ : Addr).add i = ⟨b, o + i, none⟩ := by
    unfold Addr.add; split <;> simp_all
  rw [hadd] at h1
  exact h1

theorem range_getD {α : Type} (f : α → Value) (d : α) (l : List α) (n : Nat) (hn : n ≤ l.length) : (List.range n).map (fun i => f (l.getD i d)) = (l.take n).map f := by
  apply List.ext_getElem
  · simp; omega
  · intro i h1 h2
    simp only [List.length_map, List.length_range] at h1
    simp [List.getElem_take, List.getD_eq_getElem?_getD, List.getElem?_eq_getElem (show i < l.length by omega)]

/-- A slice of numbers. -/
theorem open_nums {t e : TypeId} {k : IntKind} {base fuel : Nat} {v : Value} {y : DataW H × List MemPlace} (ht : P.underlying t = some (.slice e)) (he : P.underlying e = some (.int k)) (hc : P.cellsOf e = 1)
    (hv : Cell.okWide P W .any base t v) (h : DataW.trod enc P W 0 (fun _ => true) true fuel t [v] = some y) :
    ∃ (A : Option Addr) (n c : Nat) (xs : List Int), v = .slice A n c ∧ Row W (fun b => b < W.heap.size) 1 A n c (xs.map (Value.int k)) ∧ (∀ x ∈ xs, (Lit.int k x).wf = true) ∧ ((∀ m ∈ y.1.weights P t, m ≤ reachBytes) → n * P.bytesOf e ≤ reachBytes) := by
  rcases open_ints ht he hc h with ⟨h1, h2⟩ | ⟨a, len, cap, zs, h1, _, hl, hm, hz, hx, hcell, hw⟩
  · injection h1 with h1 _
    subst h1
    exact ⟨none, 0, 0, [], rfl, Row.nil_ _ _ _, by simp, fun _ => by simp⟩
  · injection h1 with h1 _
    subst h1
    obtain ⟨hs, hb⟩ := cell_slice ht hv
    simp only [if_true] at hz
    refine ⟨some a, len, cap, zs.take len, rfl, ?_, fun x hx => hw x (List.mem_of_mem_take hx), fun hwt => ?_⟩
    · rw [← range_getD (Value.int k) 0 zs len (by omega)]
      exact row_of hs hb hl hm fun i hi => hcell i (by omega)
    · subst hx
      have h1 := hwt _ (by simp only [DataW.weights, ht]; exact List.mem_cons_self ..)
      simp only [lits, List.length_map, List.length_take, List.length_drop] at h1
      refine Nat.le_trans (Nat.mul_le_mul_right _ ?_) h1
      omega

theorem weights_all {ds : List (DataW H)} {d : DataW H} {e : TypeId} (h : d ∈ ds) {m : Nat} (hm : m ∈ d.weights P e) : m ∈ DataW.weightsAll P e ds := by
  induction ds with
  | nil => cases h
  | cons x l ih =>
    simp only [DataW.weightsAll, List.mem_append]
    rcases List.mem_cons.1 h with rfl | h
    · exact .inl hm
    · exact .inr (ih h)

/-- A slice of strings. -/
theorem open_strs {t e : TypeId} {base fuel : Nat} {v : Value} {y : DataW H × List MemPlace} (ht : P.underlying t = some (.slice e)) (he : P.underlying e = some .string) (hc : P.cellsOf e = 1)
    (hv : Cell.okWide P W .any base t v) (h : DataW.trod enc P W 0 (fun _ => true) true fuel t [v] = some y) :
    ∃ (A : Option Addr) (n c : Nat) (xs : List ByteArray), v = .slice A n c ∧ Row W (fun b => b < W.heap.size) 1 A n c (xs.map Value.string) ∧ (∀ x ∈ xs, x.size ≤ maxLen) ∧
      ((∀ m ∈ y.1.weights P t, m ≤ reachBytes) → n * P.bytesOf e ≤ reachBytes ∧ ∀ x ∈ xs, x.size ≤ reachBytes) := by
  rcases open_strings ht he hc h with ⟨h1, h2⟩ | ⟨a, len, cap, zs, h1, _, hl, hm, hz, hx, hcell, hw⟩
  · injection h1 with h1 _
    subst h1
    exact ⟨none, 0, 0, [], rfl, Row.nil_ _ _ _, by simp, fun _ => ⟨by simp, by simp⟩⟩
  · injection h1 with h1 _
    subst h1
    obtain ⟨hs, hb⟩ := cell_slice ht hv
    simp only [if_true] at hz
    refine ⟨some a, len, cap, zs.take len, rfl, ?_, fun x hx => hw x (List.mem_of_mem_take hx), fun hwt => ?_⟩
    · rw [← range_getD Value.string ByteArray.empty zs len (by omega)]
      exact row_of hs hb hl hm fun i hi => hcell i (by omega)
    · subst hx
      have h1 := hwt _ (by simp only [DataW.weights, ht]; exact List.mem_cons_self ..)
      simp only [strs, List.length_map, List.length_take, List.length_drop] at h1
      refine ⟨Nat.le_trans (Nat.mul_le_mul_right _ (by omega)) h1, fun x hx => ?_⟩
      have h2 := hwt x.data.toList.length (by
        simp only [DataW.weights, ht]
        refine List.mem_cons_of_mem _ (List.mem_append_left _ (weights_all (d := .lit (.string x.data.toList)) ?_ (by simp [DataW.weights])))
        exact List.mem_map.2 ⟨x, hx, rfl⟩)
      rw [Array.length_toList] at h2
      exact h2
end
end Go.Proofs.YtlnademnfnhbpaaGreat
