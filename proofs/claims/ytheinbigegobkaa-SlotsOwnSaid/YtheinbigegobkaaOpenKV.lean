/- Properties as a law's argument. -/
import Derived.Test.YtheinbigegobkaaOpenV
import Derived.Test.YtheinbigegobkaaCopyKV
import Derived.Deep.Slices
namespace Go.Proofs.Ytheinbigegobkaa
open Go.ChangeShapes Go.WideShapes Go.ChangeAt Go.RowKit

theorem size_int : Try.prog.cellsOf 3 = 1 := by kernel_rfl
theorem size_kv : Try.prog.cellsOf 47 = 6 := by kernel_rfl
theorem bytes_kv : Try.prog.bytesOf 47 = 88 := by kernel_rfl

section
variable {H : Type} {enc : TypeId × Value → H} {P : Program} {W : World}

theorem add_zero (a : Addr) : a.add 0 = a := by simp [Addr.add]
/-- What is read lies in memory. -/
theorem cell_lies {p : Addr} {u : Value} (h : W.cell? p = some u) : p.spot = none ∧ p.block < W.heap.size := by
  unfold World.cell? at h
  cases hb : W.heap[p.block]? with
  | none => rw [hb] at h; cases h
  | some o =>
    refine ⟨?_, (Array.getElem?_eq_some_iff.1 hb).1⟩
    rw [hb] at h
    cases o with
    | cells c t f =>
      simp only at h
      split at h
      · cases h
      · rename_i hs
        simpa using hs
    | _ => cases h
theorem weak_row {k : Nat → Value} {A : Addr} {n c : Nat} (hn : n ≤ c) (hc : c ≤ maxLen) (hcell : ∀ i, i < n → W.cell? (A.add i) = some (k i)) : WRow W (fun b => b < W.heap.size) 1 (some A) n c ((List.range n).map k) :=
  ⟨by simp, hn, hc, fun h => by (cases h), fun h0 => by
    obtain ⟨h1, h2⟩ := cell_lies (hcell 0 h0)
    rw [add_zero] at h1 h2
    exact row_of h1 h2 hn hc hcell⟩

/-- A slice of numbers, wherever it stands. -/
theorem open_numsW {t e : TypeId} {k : IntKind} {fuel : Nat} {v : Value} {y : DataW H × List MemPlace} (ht : P.underlying t = some (.slice e)) (he : P.underlying e = some (.int k)) (hc : P.cellsOf e = 1)
    (h : DataW.trod enc P W 0 (fun _ => true) true fuel t [v] = some y) :
    ∃ (A : Option Addr) (n c : Nat) (xs : List Int), v = .slice A n c ∧ WRow W (fun b => b < W.heap.size) 1 A n c (xs.map (Value.int k)) ∧ (∀ x ∈ xs, (Lit.int k x).wf = true) ∧ ((∀ m ∈ y.1.weights P t, m ≤ reachBytes) → n * P.bytesOf e ≤ reachBytes) := by
  rcases open_ints ht he hc h with ⟨h1, h2⟩ | ⟨a, len, cap, zs, h1, _, hl, hm, hz, hx, hcell, hw⟩
  · injection h1 with h1 _
    subst h1
    exact ⟨none, 0, 0, [], rfl, (Row.nil_ _ _ _).weak, by simp, fun _ => by simp⟩
  · injection h1 with h1 _
    subst h1
    simp only [if_true] at hz
    refine ⟨some a, len, cap, zs.take len, rfl, ?_, fun x hx => hw x (List.mem_of_mem_take hx), fun hwt => ?_⟩
    · rw [← range_getD (Value.int k) 0 zs len (by omega)]
      exact weak_row hl hm fun i hi => hcell i (by omega)
    · subst hx
      have h1 := hwt _ (by simp only [DataW.weights, ht]; exact List.mem_cons_self ..)
      simp only [lits, List.length_map, List.length_take, List.length_drop] at h1
      refine Nat.le_trans (Nat.mul_le_mul_right _ ?_) h1
      omega
/-- A slice of strings, wherever it stands. -/
theorem open_strsW {t e : TypeId} {fuel : Nat} {v : Value} {y : DataW H × List MemPlace} (ht : P.underlying t = some (.slice e)) (he : P.underlying e = some .string) (hc : P.cellsOf e = 1)
    (h : DataW.trod enc P W 0 (fun _ => true) true fuel t [v] = some y) :
    ∃ (A : Option Addr) (n c : Nat) (xs : List ByteArray), v = .slice A n c ∧ WRow W (fun b => b < W.heap.size) 1 A n c (xs.map Value.string) ∧
      ((∀ m ∈ y.1.weights P t, m ≤ reachBytes) → n * P.bytesOf e ≤ reachBytes ∧ ∀ x ∈ xs, x.size ≤ reachBytes) := by
  rcases open_strings ht he hc h with ⟨h1, h2⟩ | ⟨a, len, cap, zs, h1, _, hl, hm, hz, hx, hcell, hw⟩
  · injection h1 with h1 _
    subst h1
    exact ⟨none, 0, 0, [], rfl, (Row.nil_ _ _ _).weak, fun _ => ⟨by simp, by simp⟩⟩
  · injection h1 with h1 _
    subst h1
    simp only [if_true] at hz
    refine ⟨some a, len, cap, zs.take len, rfl, ?_, fun hwt => ?_⟩
    · rw [← range_getD Value.string ByteArray.empty zs len (by omega)]
      exact weak_row hl hm fun i hi => hcell i (by omega)
    · subst hx
      have h1 := hwt _ (by simp only [DataW.weights, ht]; exact List.mem_cons_self ..)
      simp only [strs, List.length_map, List.length_take, List.length_drop] at h1
      refine ⟨Nat.le_trans (Nat.mul_le_mul_right _ (by omega)) h1, fun x hx => ?_⟩
      have h2 := hwt x.data.toList.length (by
        simp only [DataW.weights, ht]
        refine List.mem_cons_of_mem _ (List.mem_append_left _ (weights_all (d := .lit (.string x.data.toList)) ?_ (by simp [DataW.weights])))
        exact List.mem_map.2 ⟨x, hx, rfl⟩)
      rw [Array.length_toList] at h2
      exact h2
end

/-- Sizes that memory can hold. -/
structure KV.Sized (x : KV) : Prop where
  s1 : x.n1 * 8 ≤ 140737488351232
  s2 : x.n2 * 16 ≤ 140737488351232
  s3 : x.g.text.size ≤ 140737488351232
  s4 : ∀ s ∈ x.g.texts, s.size ≤ 140737488351232

section
variable {H : Type} {enc : TypeId × Value → H} {W : World}

set_option maxRecDepth 100000 in
/-- A value's cells. -/
theorem open_valueW {fuel : Nat} {cs : List Value} {y : DataW H × List MemPlace} (hf : DataW.trod enc Try.prog W 0 (fun _ => true) true fuel 26 cs = some y) :
    ∃ (g : GVal) (A1 : Option Addr) (n1 c1 : Nat) (A2 : Option Addr) (n2 c2 : Nat), cs = [.int .i64 g.kind, .int .i64 g.num, .string g.text, .slice A1 n1 c1, .slice A2 n2 c2] ∧ RdVal W (fun b => b < W.heap.size) A1 n1 c1 A2 n2 c2 g ∧
      ((∀ m ∈ y.1.weights Try.prog 26, m ≤ reachBytes) → n1 * 8 ≤ 140737488351232 ∧ n2 * 16 ≤ 140737488351232 ∧ g.text.size ≤ 140737488351232 ∧ ∀ s ∈ g.texts, s.size ≤ 140737488351232) := by
  have hone := hone_value
  simp only [Try.underlying26] at hone
  obtain ⟨xs, n, _, hx, h5, hlen, hg⟩ := DataW.trod_struct Try.underlying26 hf
  have hc := Go.Deep.hone_of hone
  rw [size_value] at h5
  match cs, h5, xs, hlen with
  | [v0, v1, v2, v3, v4], _, [y0, y1, y2, y3, y4], _ =>
    have hi : ∀ (i : Nat) (f : Field), _ → DataW.trod enc Try.prog W 0 (fun _ => true) true n f.type (([v0, v1, v2, v3, v4].drop i).take 1) = [y0, y1, y2, y3, y4][i]? := fun i f hif => by
      have h1 := hg i f hif
      obtain ⟨e1, e2⟩ := hc i f hif
      rw [e1, e2] at h1
      exact h1
    have g0 := hi 0 _ rfl
    have g1 := hi 1 _ rfl
    have g2 := hi 2 _ rfl
    have g3 := hi 3 _ rfl
    have g4 := hi 4 _ rfl
    simp only [List.drop_zero, List.drop_succ_cons, List.take_succ_cons, List.take_zero, List.getElem?_cons_zero, List.getElem?_cons_succ] at g0 g1 g2 g3 g4
    obtain ⟨k, e0, r0, w0⟩ := DataW.trod_int Try.underlying3 g0
    obtain ⟨m, e1, r1, w1⟩ := DataW.trod_int Try.underlying2 g1
    obtain ⟨s, e2, r2, w2⟩ := DataW.trod_string Try.underlying9 g2
    obtain ⟨A1, n1, c1, ns, rfl, q1, q2, q3⟩ := open_numsW Try.underlying23 Try.underlying2 cells_i64 g3
    obtain ⟨A2, n2, c2, ss, rfl, p1, p3⟩ := open_strsW Try.underlying24 Try.underlying9 cells_string g4
    simp only [List.cons.injEq, and_true] at e0 e1 e2
    subst e0 e1 e2
    refine ⟨⟨k, m, s, ns, ss⟩, A1, n1, c1, A2, n2, c2, rfl, ⟨q1, p1, wf_i64 w0, wf_i64 w1, fun x hx => wf_i64 (q2 x hx)⟩, fun hsz => ?_⟩
    subst hx
    have hw : ∀ x, x ∈ y2.1.weights Try.prog 9 ∨ x ∈ y3.1.weights Try.prog 23 ∨ x ∈ y4.1.weights Try.prog 24 → x ≤ reachBytes := by
      intro x hx
      refine hsz x ?_
      simp only [DataW.weights, Try.underlying26, List.map_cons, List.map_nil, DataW.weightsEach, List.append_nil, List.mem_append]
      rcases hx with hx | hx | hx
      · exact .inr (.inr (.inl hx))
      · exact .inr (.inr (.inr (.inl hx)))
      · exact .inr (.inr (.inr (.inr hx)))
    have h3 := q3 fun x hx => hw x (.inr (.inl hx))
    have h4 := p3 fun x hx => hw x (.inr (.inr hx))
    have h2 := hw s.data.toList.length (.inl (by rw [r2]; simp [DataW.weights]))
    rw [bytes_i64] at h3
    rw [bytes_string] at h4
    rw [Array.length_toList] at h2
    exact ⟨h3, h4.1, h2, h4.2⟩

instance : Inhabited KV := ⟨⟨0, ⟨0, 0, ⟨#[]⟩, [], []⟩, none, 0, 0, none, 0, 0⟩⟩

set_option maxRecDepth 100000 in
/-- A property's cells. -/
theorem open_kvW {fuel : Nat} {cs : List Value} {y : DataW H × List MemPlace} (hf : DataW.trod enc Try.prog W 0 (fun _ => true) true fuel 47 cs = some y) :
    ∃ x : KV, cs = x.cells ∧ RdVal W (fun b => b < W.heap.size) x.A1 x.n1 x.c1 x.A2 x.n2 x.c2 x.g ∧ (-9223372036854775808 ≤ x.key ∧ x.key ≤ 9223372036854775807) ∧ ((∀ m ∈ y.1.weights Try.prog 47, m ≤ reachBytes) → x.Sized) := by
  obtain ⟨xs, n, _, hx, h6, hlen, hg⟩ := DataW.trod_struct Try.underlying47 hf
  rw [size_kv] at h6
  match cs, h6, xs, hlen with
  | [v0, v1, v2, v3, v4, v5], _, [y0, y1], _ =>
    have g0 := hg 0 _ rfl
    have g1 := hg 1 _ rfl
    change DataW.trod enc Try.prog W 0 (fun _ => true) true n 3 (([v0, v1, v2, v3, v4, v5].drop 0).take (Try.prog.cellsOf 3)) = _ at g0
    change DataW.trod enc Try.prog W 0 (fun _ => true) true n 26 (([v0, v1, v2, v3, v4, v5].drop 1).take (Try.prog.cellsOf 26)) = _ at g1
    rw [size_int] at g0
    rw [size_value] at g1
    simp only [List.drop_zero, List.drop_succ_cons, List.take_succ_cons, List.take_zero, List.getElem?_cons_zero, List.getElem?_cons_succ] at g0 g1
    obtain ⟨k, e0, r0, w0⟩ := DataW.trod_int Try.underlying3 g0
    obtain ⟨g, A1, n1, c1, A2, n2, c2, e1, hr, hs⟩ := open_valueW g1
    simp only [List.cons.injEq, and_true] at e0 e1
    obtain ⟨rfl, rfl, rfl, rfl, rfl⟩ := e1
    subst e0
    refine ⟨⟨k, g, A1, n1, c1, A2, n2, c2⟩, rfl, hr, wf_i64 w0, fun hsz => ?_⟩
    subst hx
    obtain ⟨a, b, c, d⟩ := hs fun m hm => hsz m (by
      simp only [DataW.weights, Try.underlying47, List.map_cons, List.map_nil, DataW.weightsEach, List.append_nil, List.mem_append]
      exact .inr hm)
    exact ⟨a, b, c, d⟩

set_option maxRecDepth 100000 in
/-- Properties as an argument. -/
theorem open_kvs {base : Nat} {v : Value} {d : DataW H} {p : List MemPlace} (hv : Value.okWide Try.prog W .any base 30 v) (h : DataW.Trod enc Try.prog W 0 (fun _ => true) true 30 v d p)
    (hsz : ∀ m ∈ d.weights Try.prog 30, m ≤ reachBytes) :
    ∃ (A : Option Addr) (n c : Nat) (ls : List KV), v = .slice A n c ∧ RdKV W (fun b => b < W.heap.size) A n c ls ∧ n * 88 ≤ 140737488351232 ∧ ∀ x ∈ ls, x.Sized := by
  have hv' : Cell.okWide Try.prog W .any base 30 v := by
    simp only [Value.okWide, Try.underlying30] at hv
    exact hv
  obtain ⟨a0, len0, cap0, rfl⟩ := okWide_slice Try.underlying30 hv
  obtain ⟨fuel, hf⟩ := h
  rcases Go.Deep.open_slice Try.underlying30 hf with ⟨h1, h2⟩ | ⟨a, len, cap, m, n, D, Pl, h1, _, hl, hm, hmm, hx, hel⟩
  · simp only [Value.cells, List.cons.injEq, and_true] at h1
    exact ⟨none, 0, 0, [], h1, ⟨Row.nil_ _ _ _, by simp, by simp⟩, by omega, by simp⟩
  · simp only [Value.cells, List.cons.injEq, and_true] at h1
    rw [h1] at hv' ⊢
    obtain ⟨hs, hb⟩ := cell_slice Try.underlying30 hv'
    simp only [if_true] at hmm
    subst hmm
    rw [size_kv] at hel
    obtain ⟨f, hfx⟩ := Go.Deep.choose_lt (α := KV) (p := fun i x => W.cells? 0 (a.add (i * 6)) 6 = some x.cells ∧ RdVal W (fun b => b < W.heap.size) x.A1 x.n1 x.c1 x.A2 x.n2 x.c2 x.g ∧ (-9223372036854775808 ≤ x.key ∧ x.key ≤ 9223372036854775807) ∧ ((∀ m ∈ (D i).weights Try.prog 47, m ≤ reachBytes) → x.Sized)) (fun i hi => by
      obtain ⟨cs', h1, h2⟩ := hel i hi
      obtain ⟨x, rfl, h3, h4, h5⟩ := open_kvW h2
      exact ⟨x, h1, h3, h4, h5⟩)
    have hD : d = .slice ((List.range len).map D) ((List.range (m - len)).map fun j => D (len + j)) := congrArg Prod.fst hx
    subst hD
    refine ⟨some a, len, m, (List.range len).map f, rfl, ⟨⟨?_, hl, hm, fun h => by (cases h), fun a' ha => ?_⟩, fun x hx => ?_, fun x hx => ?_⟩, ?_, fun x hx => ?_⟩
    · rw [flat_cells_len]; simp
    · cases ha
      refine ⟨hs, hb, hb, fun i u hi => ?_⟩
      have hil : i < ((List.range len).map f).length * 6 := by
        have := (List.getElem?_eq_some_iff.1 hi).1
        rwa [flat_cells_len] at this
      rw [List.length_map, List.length_range] at hil
      have hq : i / 6 < len := by omega
      have hd : i = i / 6 * 6 + i % 6 := by omega
      rw [hd, flat_cells_get _ _ _ (by simpa using hq) (by omega)] at hi
      simp only [List.getElem_map, List.getElem_range] at hi
      obtain ⟨_, _, h3⟩ := World.cells?_some (hfx (i / 6) (by omega)).1
      have h4 := (h3 (i % 6) (by omega)).trans hi
      rw [Go.Deep.add_add] at h4
      obtain ⟨b, o, s⟩ := a
      simp only at hs
      subst hs
      rw [addr_add] at h4
      rw [hd]
      exact h4
    · obtain ⟨i, hi, rfl⟩ := List.mem_map.1 hx
      exact (hfx i (by have := List.mem_range.1 hi; omega)).2.1
    · obtain ⟨i, hi, rfl⟩ := List.mem_map.1 hx
      exact (hfx i (by have := List.mem_range.1 hi; omega)).2.2.1
    · have h1 := hsz _ (by simp only [DataW.weights, Try.underlying30]; exact List.mem_cons_self ..)
      simp only [List.length_map, List.length_range, bytes_kv] at h1
      unfold reachBytes at h1
      omega
    · obtain ⟨i, hi, rfl⟩ := List.mem_map.1 hx
      refine (hfx i (by have := List.mem_range.1 hi; omega)).2.2.2 fun m hm => hsz m ?_
      simp only [DataW.weights, Try.underlying30]
      exact List.mem_cons_of_mem _ (List.mem_append_left _ (weights_all (List.mem_map.2 ⟨i, hi, rfl⟩) hm))

theorem sized_small {ls : List KV} (h : ∀ x ∈ ls, x.Sized) : KVSmall ls := fun x hx => ⟨by have := (h x hx).s1; omega, by have := (h x hx).s2; omega⟩
theorem sized_fit {ls : List KV} (h : ∀ x ∈ ls, x.Sized) : KVFit ls := fun x hx => ⟨by have := (h x hx).s3; omega, fun s hs => by have := (h x hx).s4 s hs; omega⟩
end
end Go.Proofs.Ytheinbigegobkaa
