/- Lists of properties of the call's own; plain laws of unpacking. -/
import Derived.Test.YtheinbigegobkaaKV
import Derived.Test.YtheinbigegobkaaPackL
import Derived.Test.YtheinbigegobkaaOwn
namespace Go.Proofs.Ytheinbigegobkaa
open Go.RowKit

/-- v is a slice of properties of the call's own that reads ls; so are all lists in them. -/
structure OwnKV (w : World) (B : Nat) (v : Value) (ls : List KV) : Prop where
  row : w.ownsRow B 47 6 v ls.length (ls.flatMap KV.cells)
  nums : ∀ x ∈ ls, w.ownsRow B 2 1 (.slice x.A1 x.n1 x.c1) x.n1 (x.g.nums.map (Value.int .i64))
  texts : ∀ x ∈ ls, w.ownsRow B 9 1 (.slice x.A2 x.n2 x.c2) x.n2 (x.g.texts.map Value.string)
  fits : ∀ x ∈ ls, x.g.Fits
  key : ∀ x ∈ ls, -9223372036854775808 ≤ x.key ∧ x.key ≤ 9223372036854775807

section
variable {w w' : World} {B : Nat} {v : Value} {ls : List KV}
theorem OwnKV.nil_ (w : World) (B : Nat) : OwnKV w B (.slice none 0 0) [] :=
  ⟨World.ownsRow_nil _ _ _ _, by simp, by simp, by simp, by simp⟩
theorem OwnKV.same (h : OwnKV w B v ls) (hu : Same w w') : OwnKV w' B v ls :=
  ⟨own_same h.row hu, fun x hx => own_same (h.nums x hx) hu, fun x hx => own_same (h.texts x hx) hu, h.fits, h.key⟩
theorem OwnKV.base {B' : Nat} (h : OwnKV w B v ls) (hB : B' ≤ B) : OwnKV w B' v ls :=
  ⟨own_base h.row hB, fun x hx => own_base (h.nums x hx) hB, fun x hx => own_base (h.texts x hx) hB, h.fits, h.key⟩
theorem OwnKV.rd (h : OwnKV w B v ls) : ∃ A n c, v = .slice A n c ∧ RdKV w (fun b => B ≤ b ∧ b < w.heap.size) A n c ls := by
  obtain ⟨A, c, rfl⟩ := own_form h.row
  refine ⟨A, _, c, rfl, Row.mono (Row.of_own h.row) fun _ hb hh => ⟨hh.2, hb⟩, fun x hx => ?_, h.key⟩
  exact ⟨(Row.mono (Row.of_own (h.nums x hx)) fun _ hb hh => ⟨hh.2, hb⟩).weak, (Row.mono (Row.of_own (h.texts x hx)) fun _ hb hh => ⟨hh.2, hb⟩).weak, (h.fits x hx).kind, (h.fits x hx).num, (h.fits x hx).range⟩
/-- The row grows: the lists in it stay. -/
theorem OwnKV.upd_row {S : Nat → Prop} (h : OwnKV w B v ls) (hu : Upd S w w') (hs : ∀ b, S b → v.ownBlock = some b) : (∀ x ∈ ls, w'.ownsRow B 2 1 (.slice x.A1 x.n1 x.c1) x.n1 (x.g.nums.map (Value.int .i64))) ∧ ∀ x ∈ ls, w'.ownsRow B 9 1 (.slice x.A2 x.n2 x.c2) x.n2 (x.g.texts.map Value.string) :=
  ⟨fun x hx => own_upd (h.nums x hx) hu fun g hg hh => own_ne_own (h.nums x hx) h.row (by decide) g hg (hs g hh), fun x hx => own_upd (h.texts x hx) hu fun g hg hh => own_ne_own (h.texts x hx) h.row (by decide) g hg (hs g hh)⟩
/-- One property more. -/
theorem OwnKV.snoc {v' : Value} {x : KV} (h : OwnKV w B v ls) (hg : Grew w B 47 6 v (ls.length + 1) (ls.flatMap KV.cells ++ x.cells) v' w') (h1 : w.ownsRow B 2 1 (.slice x.A1 x.n1 x.c1) x.n1 (x.g.nums.map (Value.int .i64)))
    (h2 : w.ownsRow B 9 1 (.slice x.A2 x.n2 x.c2) x.n2 (x.g.texts.map Value.string)) (hf : x.g.Fits) (hk : -9223372036854775808 ≤ x.key ∧ x.key ≤ 9223372036854775807) : OwnKV w' B v' (ls ++ [x]) := by
  obtain ⟨u1, u2⟩ := h.upd_row hg.upd fun b hb => hb
  have t1 := own_upd h1 hg.upd fun g hg' hh => own_ne_own h1 h.row (by decide) g hg' hh
  have t2 := own_upd h2 hg.upd fun g hg' hh => own_ne_own h2 h.row (by decide) g hg' hh
  refine ⟨?_, ?_, ?_, ?_, ?_⟩
  · rw [List.length_append, List.flatMap_append]
    simpa using hg.own
  all_goals
    intro y hy
    rcases List.mem_append.1 hy with hy | hy
    · first
        | exact u1 y hy
        | exact u2 y hy
        | exact h.fits y hy
        | exact h.key y hy
    · obtain rfl : y = x := by simpa using hy
      assumption
end

theorem info_kv : (Try.prog.info? 47).map (fun i => (i.zero, i.size, i.bytes)) = some (some (.agg #[.int .i64 0, .int .i64 0, .int .i64 0, .string ⟨#[]⟩, .slice none 0 0, .slice none 0 0]), 6, 88) := by kernel_rfl
theorem kv_one (x : KV) : ∀ u ∈ x.cells, u.oneCell' = true := by
  intro u hu
  simp only [KV.cells, List.mem_cons, List.not_mem_nil, or_false] at hu
  rcases hu with rfl | rfl | rfl | rfl | rfl | rfl <;> rfl
/-- A property laid into a block of its own, to be appended. -/
theorem Row.kv (w : World) (x : KV) : Row (w.alloc (.cells x.cells.toArray 47)) (fun b => b = w.heap.size) 6 (some ⟨w.heap.size, 0, none⟩) 1 1 x.cells :=
  Row.of_blk (Blk.new w _ x.cells.toArray) rfl (Nat.le_refl _) (by simp [maxLen])

theorem inS_nil (m : Nat) : inS m [] = some [] := by cases m <;> simp [inS]
theorem inS_zero {m : Nat} {l : List UInt8} (hl : l ≠ []) (h : be (l.take 2) = 0) : inS (m + 1) l = if zerosB l = true then some [] else none := by
  simp only [inS]
  rw [if_neg hl, if_pos h]
theorem inS_next {m N k : Nat} {l : List UInt8} {g : GVal} {er : Int} (hl : l ≠ []) (hN : be (l.take 2) = N) (h0 : N ≠ 0) (hP : decP (l.drop 2) = (g, k, er)) :
    inS (m + 1) l = if 200 < N ∨ er ≠ 0 then none else if zerosB ((l.take (pad8 (2 + k))).drop (2 + k)) = true then (inS m (l.drop (pad8 (2 + k)))).map (⟨(N : Int) - 1, g⟩ :: ·) else none := by
  simp only [inS, hN, hP]
  rw [if_neg hl, if_neg h0]
theorem inO_nil (m : Nat) : inO m [] = some [] := by cases m <;> simp [inO]
theorem inO_short {m : Nat} {l : List UInt8} (hl : l ≠ []) (h : l.length < 4) : inO (m + 1) l = none := by
  simp only [inO]
  rw [if_neg hl, if_pos h]
theorem inO_next {m N k : Nat} {l : List UInt8} (h4 : 4 ≤ l.length) (hN : be (l.take 2) = N) (hk : be ((l.drop 2).take 2) = k) :
    inO (m + 1) l = if N = 0 ∨ 200 < N ∨ l.length < 4 + k then none else if (decD k (decP ((l.drop 4).take k))).2 ≠ 0 then none else (inO m (l.drop (4 + k))).map (⟨(N : Int) - 1, (decD k (decP ((l.drop 4).take k))).1⟩ :: ·) := by
  simp only [inO, hN, hk]
  rw [if_neg (by rintro rfl; simp at h4), if_neg (by omega)]
end Go.Proofs.Ytheinbigegobkaa
