/- Lists of properties, read. -/
import Derived.Test.YtheinbigegobkaaOn
import Derived.Test.YtheinbigegobkaaSlot
import Derived.Deep.RegionHeld3
namespace Go.Proofs.Ytheinbigegobkaa
open Go.RowKit

/-- A property as it lies in memory. -/
structure KV where
  key : Int
  g : GVal
  A1 : Option Addr
  n1 : Nat
  c1 : Nat
  A2 : Option Addr
  n2 : Nat
  c2 : Nat

def KV.cells (x : KV) : List Value := [.int .i64 x.key, .int .i64 x.g.kind, .int .i64 x.g.num, .string x.g.text, .slice x.A1 x.n1 x.c1, .slice x.A2 x.n2 x.c2]
def KV.dat (x : KV) : GKV := ⟨x.key, x.g⟩

theorem flat_cells_len (ls : List KV) : (ls.flatMap KV.cells).length = ls.length * 6 := by
  induction ls with
  | nil => rfl
  | cons x l ih => rw [List.flatMap_cons, List.length_append, ih, List.length_cons]; simp [KV.cells]; omega
theorem flat_cells_get : ∀ (ls : List KV) (i j : Nat) (h : i < ls.length), j < 6 → (ls.flatMap KV.cells)[i * 6 + j]? = (ls[i]).cells[j]? := by
  intro ls
  induction ls with
  | nil => intro i j h; simp at h
  | cons x l ih =>
    intro i j h hj
    rw [List.flatMap_cons]
    have hx : x.cells.length = 6 := rfl
    cases i with
    | zero =>
      rw [List.getElem?_append_left (by omega)]
      simp
    | succ i =>
      rw [List.getElem?_append_right (by omega), hx, show (i + 1) * 6 + j - 6 = i * 6 + j by omega, ih i j (by simpa using h) hj]
      rfl

/-- A slice of properties reads as ls. -/
structure RdKV (w : World) (F : Nat → Prop) (A : Option Addr) (n c : Nat) (ls : List KV) : Prop where
  row : Row w F 6 A n c (ls.flatMap KV.cells)
  val : ∀ x ∈ ls, RdVal w F x.A1 x.n1 x.c1 x.A2 x.n2 x.c2 x.g
  key : ∀ x ∈ ls, -9223372036854775808 ≤ x.key ∧ x.key ≤ 9223372036854775807

section
variable {w w' : World} {F F' : Nat → Prop} {A : Option Addr} {n c : Nat} {ls : List KV}
theorem RdKV.len (h : RdKV w F A n c ls) : ls.length = n := by
  have := h.row.len
  rw [flat_cells_len] at this
  omega
theorem RdKV.upd {S : Nat → Prop} (h : RdKV w F A n c ls) (hu : Upd S w w') (hs : ∀ b, F b → ¬ S b) : RdKV w' F A n c ls :=
  ⟨h.row.upd hu hs, fun x hx => (h.val x hx).upd hu hs, h.key⟩
theorem RdKV.same (h : RdKV w F A n c ls) (hu : Same w w') : RdKV w' F A n c ls := h.upd hu fun _ _ f => f
theorem RdKV.mono (h : RdKV w F A n c ls) (hf : ∀ b, b < w.heap.size → F b → F' b) : RdKV w F' A n c ls :=
  ⟨h.row.mono hf, fun x hx => (h.val x hx).mono hf, h.key⟩
theorem RdKV.any (h : RdKV w F A n c ls) : RdKV w (fun _ => True) A n c ls :=
  ⟨h.row.mono fun _ _ _ => trivial, fun x hx => (h.val x hx).mono fun _ _ _ => trivial, h.key⟩
/-- The cells of a property at the offset p of block b: the key, then the value's five. -/
abbrev KVAt (w : World) (b p : Nat) (k a0 a1 a2 a3 a4 : Value) : Prop :=
  w.cell? ⟨b, p, none⟩ = some k ∧ w.cell? ⟨b, p + 1, none⟩ = some a0 ∧ w.cell? ⟨b, p + 1 + 1, none⟩ = some a1 ∧ w.cell? ⟨b, p + 1 + 2, none⟩ = some a2 ∧ w.cell? ⟨b, p + 1 + 3, none⟩ = some a3 ∧ w.cell? ⟨b, p + 1 + 4, none⟩ = some a4
theorem KVAt.same {b p : Nat} {k a0 a1 a2 a3 a4 : Value} (h : KVAt w b p k a0 a1 a2 a3 a4) (hb : b < w.heap.size) (hs : Same w w') : KVAt w' b p k a0 a1 a2 a3 a4 := by
  obtain ⟨h0, h1, h2, h3, h4, h5⟩ := h
  exact ⟨(hs.cell (p := ⟨b, p, none⟩) hb fun f => f).trans h0, (hs.cell (p := ⟨b, p + 1, none⟩) hb fun f => f).trans h1, (hs.cell (p := ⟨b, p + 1 + 1, none⟩) hb fun f => f).trans h2,
    (hs.cell (p := ⟨b, p + 1 + 2, none⟩) hb fun f => f).trans h3, (hs.cell (p := ⟨b, p + 1 + 3, none⟩) hb fun f => f).trans h4, (hs.cell (p := ⟨b, p + 1 + 4, none⟩) hb fun f => f).trans h5⟩
/-- Element i. -/
theorem RdKV.at_ (h : RdKV w F A n c ls) {i : Nat} (hi : i < n) : ∃ b o x, A = some ⟨b, o, none⟩ ∧ b < w.heap.size ∧ F b ∧ ls[i]? = some x ∧ x ∈ ls ∧
    KVAt w b (o + i * 6) (.int .i64 x.key) (.int .i64 x.g.kind) (.int .i64 x.g.num) (.string x.g.text) (.slice x.A1 x.n1 x.c1) (.slice x.A2 x.n2 x.c2) := by
  have hl : i < ls.length := by rw [h.len]; exact hi
  obtain ⟨b, o, hA, hb, hF, hc⟩ := h.row.atK hi
  have hk : ∀ j, j < 6 → ∀ u, (ls[i]).cells[j]? = some u → w.cell? ⟨b, o + i * 6 + j, none⟩ = some u := by
    intro j hj u hu
    obtain ⟨v, h1, h2⟩ := hc j hj
    rw [flat_cells_get ls i j hl hj, hu] at h1
    cases h1
    rw [Nat.add_assoc]
    exact h2
  exact ⟨b, o, ls[i], hA, hb, hF, List.getElem?_eq_getElem hl, List.getElem_mem hl, hk 0 (by omega) _ rfl, hk 1 (by omega) _ rfl, hk 2 (by omega) _ rfl, hk 3 (by omega) _ rfl, hk 4 (by omega) _ rfl, hk 5 (by omega) _ rfl⟩
end
end Go.Proofs.Ytheinbigegobkaa
