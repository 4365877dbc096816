/- A value, and bytes, as a law's arguments. -/
import Derived.Test.YtlnademnfnhbpaaGreatOpen
import Derived.Test.YtlnademnfnhbpaaGreatVal1
namespace Go.Proofs.YtlnademnfnhbpaaGreat
open Go.ChangeShapes Go.WideShapes Go.ChangeAt Go.RowKit

theorem cells_value : Tryz.prog.cellTypes Tryz.prog.depth 43 = some [3, 2, 9, 41, 37] := by kernel_rfl
theorem size_value : Tryz.prog.cellsOf 43 = 5 := by kernel_rfl
theorem cells_i64 : Tryz.prog.cellsOf 2 = 1 := by kernel_rfl
theorem cells_string : Tryz.prog.cellsOf 9 = 1 := by kernel_rfl
theorem cells_u8 : Tryz.prog.cellsOf 5 = 1 := by kernel_rfl
theorem bytes_i64 : Tryz.prog.bytesOf 2 = 8 := by kernel_rfl
theorem bytes_string : Tryz.prog.bytesOf 9 = 16 := by kernel_rfl
theorem bytes_u8 : Tryz.prog.bytesOf 5 = 1 := by kernel_rfl
theorem hone_value : Go.Deep.oneCellFields Tryz.prog (match Tryz.prog.underlying 43 with | some (.struct fs) => fs | _ => #[]) = true := by kernel_rfl

theorem wf_i64 {n : Int} (h : (Lit.int .i64 n).wf = true) : -9223372036854775808 ≤ n ∧ n ≤ 9223372036854775807 := by
  simp [Lit.wf, IntKind.min, IntKind.max, IntKind.signed, IntKind.bits] at h
  exact h

section
variable {H : Type} {enc : TypeId × Value → H} {W : World}

theorem weights_of {P : Program} {ts : List TypeId} {ds : List (DataW H)} (h : (DataW.weightsEach P ts ds).all (· ≤ reachBytes) = true) {j : Nat} {t : TypeId} {d : DataW H} (ht : ts[j]? = some t) (hd : ds[j]? = some d) : ∀ m ∈ d.weights P t, m ≤ reachBytes :=
  fun m hm => of_decide_eq_true (List.all_eq_true.1 h m (DataW.weights_mem_each ht hd m hm))

set_option maxRecDepth 100000 in
/-- A value as an argument. -/
theorem open_value {base : Nat} {v : Value} {d : DataW H} {p : List MemPlace} (hv : Value.okWide Tryz.prog W .any base 43 v) (h : DataW.Trod enc Tryz.prog W 0 (fun _ => true) true 43 v d p)
    (hsz : ∀ m ∈ d.weights Tryz.prog 43, m ≤ reachBytes) :
    ∃ (g : GVal) (A1 : Option Addr) (n1 c1 : Nat) (A2 : Option Addr) (n2 c2 : Nat), v = g.val A1 n1 c1 A2 n2 c2 ∧ RdVal W (fun b => b < W.heap.size) A1 n1 c1 A2 n2 c2 g ∧
      n1 * 8 ≤ 140737488351232 ∧ n2 * 16 ≤ 140737488351232 ∧ g.text.size ≤ 140737488351232 ∧ ∀ s ∈ g.texts, s.size ≤ 140737488351232 := by
  have hone := hone_value
  simp only [Value.okWide, Tryz.underlying43] at hv hone
  obtain ⟨cs, rfl, h5, ts, hts, _, hall⟩ := hv
  obtain rfl : [3, 2, 9, 41, 37] = ts := by
    have := cells_value.symm.trans hts
    simpa using this
  rw [size_value] at h5
  obtain ⟨l⟩ := cs
  match l, h5 with
  | [v0, v1, v2, v3, v4], _ =>
    obtain ⟨fuel, hf⟩ := h
    obtain ⟨xs, n, _, hx, _, hlen, hg⟩ := DataW.trod_struct Tryz.underlying43 hf
    have hc := Go.Deep.hone_of hone
    match xs, hlen with
    | [y0, y1, y2, y3, y4], _ =>
      have hi : ∀ (i : Nat) (f : Field), _ → DataW.trod enc Tryz.prog W 0 (fun _ => true) true n f.type (([v0, v1, v2, v3, v4].drop i).take 1) = [y0, y1, y2, y3, y4][i]? := fun i f hif => by
        have h1 := hg i f hif
        obtain ⟨e1, e2⟩ := hc i f hif
        simp only [Value.cells] at h1
        rw [e1, e2] at h1
        exact h1
      have g0 := hi 0 _ rfl
      have g1 := hi 1 _ rfl
      have g2 := hi 2 _ rfl
      have g3 := hi 3 _ rfl
      have g4 := hi 4 _ rfl
      simp only [List.drop_zero, List.drop_succ_cons, List.take_succ_cons, List.take_zero, List.getElem?_cons_zero, List.getElem?_cons_succ] at g0 g1 g2 g3 g4
      obtain ⟨k, e0, r0, w0⟩ := DataW.trod_int Tryz.underlying3 g0
      obtain ⟨m, e1, r1, w1⟩ := DataW.trod_int Tryz.underlying2 g1
      obtain ⟨s, e2, r2, w2⟩ := DataW.trod_string Tryz.underlying9 g2
      have o3 : Cell.okWide Tryz.prog W .any base 41 v3 := by
        obtain ⟨u, hu, ho⟩ := hall 3 v3 rfl
        simp at hu
        rw [← hu] at ho
        exact ho
      have o4 : Cell.okWide Tryz.prog W .any base 37 v4 := by
        obtain ⟨u, hu, ho⟩ := hall 4 v4 rfl
        simp at hu
        rw [← hu] at ho
        exact ho
      obtain ⟨A1, n1, c1, ns, rfl, q1, q2, q3⟩ := open_nums Tryz.underlying41 Tryz.underlying2 cells_i64 o3 g3
      obtain ⟨A2, n2, c2, ss, rfl, p1, p2, p3⟩ := open_strs Tryz.underlying37 Tryz.underlying9 cells_string o4 g4
      simp only [List.cons.injEq, and_true] at e0 e1 e2
      subst e0 e1 e2
      simp only [Prod.mk.injEq] at hx
      obtain ⟨rfl, _⟩ := hx
      have hw : ∀ x, x ∈ y2.1.weights Tryz.prog 9 ∨ x ∈ y3.1.weights Tryz.prog 41 ∨ x ∈ y4.1.weights Tryz.prog 37 → x ≤ reachBytes := by
        intro x hx
        refine hsz x ?_
        simp only [DataW.weights, Tryz.underlying43, List.map_cons, List.map_nil, DataW.weightsEach, List.append_nil, List.mem_append]
        rcases hx with hx | hx | hx
        · exact .inr (.inr (.inl hx))
        · exact .inr (.inr (.inr (.inl hx)))
        · exact .inr (.inr (.inr (.inr hx)))
      have h3 := q3 fun x hx => hw x (.inr (.inl hx))
      have h4 := p3 fun x hx => hw x (.inr (.inr hx))
      have h2 := hw s.data.toList.length (.inl (by rw [r2]; simp [DataW.weights]))
      rw [bytes_i64] at h3
      rw [bytes_string] at h4
      rw [Array.length_toList] at h2
      exact ⟨⟨k, m, s, ns, ss⟩, A1, n1, c1, A2, n2, c2, rfl, ⟨q1.weak, p1.weak, wf_i64 w0, wf_i64 w1, fun x hx => wf_i64 (q2 x hx)⟩, h3, h4.1, h2, h4.2⟩

set_option maxRecDepth 100000 in
/-- Bytes as an argument. -/
theorem open_bytes {base : Nat} {v : Value} {d : DataW H} {p : List MemPlace} (hv : Value.okWide Tryz.prog W .any base 109 v) (h : DataW.Trod enc Tryz.prog W 0 (fun _ => true) true 109 v d p)
    (hsz : ∀ m ∈ d.weights Tryz.prog 109, m ≤ reachBytes) :
    ∃ (A : Option Addr) (n c : Nat) (bs : List UInt8), v = .slice A n c ∧ Bytes W (fun b => b < W.heap.size) A n c bs ∧ n ≤ 140737488351232 := by
  have hv' : Cell.okWide Tryz.prog W .any base 109 v := by
    simp only [Value.okWide, Tryz.underlying109] at hv
    exact hv
  obtain ⟨a, len, cap, rfl⟩ := okWide_slice Tryz.underlying109 hv
  obtain ⟨fuel, hf⟩ := h
  obtain ⟨A, n, c, xs, hx, q1, q2, q3⟩ := open_nums (y := (d, p)) Tryz.underlying109 Tryz.underlying5 cells_u8 hv' hf
  have h3 := q3 hsz
  rw [bytes_u8] at h3
  refine ⟨A, n, c, xs.map (fun x => UInt8.ofNat x.toNat), hx, ?_, by unfold reachBytes at h3; omega⟩
  unfold Bytes
  rw [List.map_map]
  refine (List.map_congr_left fun x hx => ?_) ▸ q1
  have hwf := q2 x hx
  simp [Lit.wf, IntKind.min, IntKind.max, IntKind.signed, IntKind.bits] at hwf
  simp only [Function.comp, u8v, UInt8.toNat_ofNat']
  congr 1
  omega
end
end Go.Proofs.YtlnademnfnhbpaaGreat
