/- Stable sorting of properties by key, at most 20: the library's insertion sort. -/
import Derived.Test.YtheinbigegobkaaOwnKV
import Derived.Test.YtheinbigegobkaaSorted
import Derived.Deep.LoopGhost
import Derived.Deep.DeepCutAuto
import Derived.Deep.CutRange
import Derived.Deep.QuietTactic
import Derived.BigQuiet
import Derived.Deep.RegionHeld3
namespace Go.Proofs.Ytheinbigegobkaa
open Go.RowKit

def cmpI (a b : Int) : Int := if a < b then -1 else if b < a then 1 else 0
theorem isNaN_spec (a : Int) (w : World) : Calls Try.prog 64 #[.int .i64 a] w fun e w' => e = .returned (.bool false) ∧ w = w' := by
  go_enter Try.func64, Try.ntmps64
  go_wp2
  go_ret
  exact ⟨ret_bool (by simp), rfl⟩
theorem compare_spec (a b : Int) (w : World) : Calls Try.prog 39 #[.int .i64 a, .int .i64 b] w fun e w' => e = .returned (.int .i64 (cmpI a b)) ∧ w = w' := by
  by_cases h1 : a < b
  · have HC := Lib.hid (show cmpI a b = -1 from if_pos h1)
    go_enter Try.func39, Try.ntmps39
    go_wp2_with (go_at_call 64; refine (isNaN_spec _ _).mono ?_; rintro e w' ⟨rfl, rfl⟩)
    go_ret
    exact ⟨by rw [HC.out]; rfl, rfl⟩
  · by_cases h2 : b < a
    · have HC := Lib.hid (show cmpI a b = 1 from by unfold cmpI; rw [if_neg h1, if_pos h2])
      go_enter Try.func39, Try.ntmps39
      go_wp2_with (go_at_call 64; refine (isNaN_spec _ _).mono ?_; rintro e w' ⟨rfl, rfl⟩)
      go_ret
      exact ⟨by rw [HC.out]; rfl, rfl⟩
    · have HC := Lib.hid (show cmpI a b = 0 from by unfold cmpI; rw [if_neg h1, if_neg h2])
      go_enter Try.func39, Try.ntmps39
      go_wp2_with (go_at_call 64; refine (isNaN_spec _ _).mono ?_; rintro e w' ⟨rfl, rfl⟩)
      go_ret
      exact ⟨by rw [HC.out]; rfl, rfl⟩

theorem unpack1_spec (k l : Int) (a0 a1 a2 a3 a4 b0 b1 b2 b3 b4 : Value) (w : World) :
    Calls Try.prog 38 #[.agg #[.int .i64 k, a0, a1, a2, a3, a4], .agg #[.int .i64 l, b0, b1, b2, b3, b4]] w fun e w' => e = .returned (.int .i64 (cmpI k l)) ∧ Same w w' := by
  go_enter Try.func38, Try.ntmps38
  go_wp2_with fail
  refine (compare_spec _ _ _).mono ?_
  rintro e w' ⟨rfl, rfl⟩
  go_wp2
  go_ret
  exact ⟨rfl, ((Upd.refl _ w).alloc _).alloc _⟩

/-- The six cells of an element, written. -/
abbrev put6 (w : World) (g p : Nat) (u0 u1 u2 u3 u4 u5 : Value) : World :=
  (((((w.setCell ⟨g, p, none⟩ u0).setCell ⟨g, p + 1, none⟩ u1).setCell ⟨g, p + 2, none⟩ u2).setCell ⟨g, p + 3, none⟩ u3).setCell ⟨g, p + 4, none⟩ u4).setCell ⟨g, p + 5, none⟩ u5
/-- Six cells lie there. -/
abbrev At6 (w : World) (g p : Nat) (u0 u1 u2 u3 u4 u5 : Value) : Prop :=
  w.cell? ⟨g, p, none⟩ = some u0 ∧ w.cell? ⟨g, p + 1, none⟩ = some u1 ∧ w.cell? ⟨g, p + 2, none⟩ = some u2 ∧ w.cell? ⟨g, p + 3, none⟩ = some u3 ∧ w.cell? ⟨g, p + 4, none⟩ = some u4 ∧ w.cell? ⟨g, p + 5, none⟩ = some u5
abbrev Free6 (w : World) (g p : Nat) : Prop :=
  w.frozen? ⟨g, p, none⟩ = false ∧ w.frozen? ⟨g, p + 1, none⟩ = false ∧ w.frozen? ⟨g, p + 2, none⟩ = false ∧ w.frozen? ⟨g, p + 3, none⟩ = false ∧ w.frozen? ⟨g, p + 4, none⟩ = false ∧ w.frozen? ⟨g, p + 5, none⟩ = false

theorem flat_set : ∀ (ls : List KV) (i : Nat) (x : KV), i < ls.length → ((((((ls.flatMap KV.cells).set (i * 6) (.int .i64 x.key)).set (i * 6 + 1) (.int .i64 x.g.kind)).set (i * 6 + 2) (.int .i64 x.g.num)).set (i * 6 + 3) (.string x.g.text)).set (i * 6 + 4) (.slice x.A1 x.n1 x.c1)).set (i * 6 + 5) (.slice x.A2 x.n2 x.c2) = (ls.set i x).flatMap KV.cells := by
  intro ls
  induction ls with
  | nil => intro i x h; simp at h
  | cons y l ih =>
    intro i x h
    cases i with
    | zero => simp [KV.cells]
    | succ i =>
      have hy : y.cells.length = 6 := rfl
      have hs : ∀ (j : Nat) (u : Value) (L : List Value), (y.cells ++ L).set ((i + 1) * 6 + j) u = y.cells ++ L.set (i * 6 + j) u := fun j u L => by
        rw [List.set_append_right _ _ (by omega), hy]
        congr 2
        omega
      have hs0 : ∀ (u : Value) (L : List Value), (y.cells ++ L).set ((i + 1) * 6) u = y.cells ++ L.set (i * 6) u := fun u L => hs 0 u L
      rw [List.flatMap_cons, hs0, hs, hs, hs, hs, hs, List.set_cons_succ, List.flatMap_cons, ih i x (by simpa using h)]

/-- Element i of an owned slice of properties: it may be read and written. -/
theorem kv_cell {w : World} {B n c i : Nat} {A : Option Addr} {ls : List KV} (h : w.ownsRow B 47 6 (.slice A n c) n (ls.flatMap KV.cells)) (hi : i < n) :
    ∃ g x, A = some ⟨g, 0, none⟩ ∧ B ≤ g ∧ g < w.heap.size ∧ ls[i]? = some x ∧ At6 w g (i * 6) (.int .i64 x.key) (.int .i64 x.g.kind) (.int .i64 x.g.num) (.string x.g.text) (.slice x.A1 x.n1 x.c1) (.slice x.A2 x.n2 x.c2) ∧ Free6 w g (i * 6) := by
  have hl : ls.length = n := by have := h.1; rw [flat_cells_len] at this; omega
  rcases h.2 with ⟨hv, hn⟩ | ⟨g, cap, cur, hv, hb, hg, hle, hm, hs, ht⟩
  · omega
  · injection hv with h1 h2 h3
    subst h1 h3
    have hlt : g < w.heap.size := (Array.getElem?_eq_some_iff.1 hg).1
    have hil : i < ls.length := by omega
    have hc : ∀ j, j < 6 → ∀ u, (ls[i]).cells[j]? = some u → w.cell? ⟨g, i * 6 + j, none⟩ = some u := fun j hj u hu => by
      rw [cell_of_row w g _ cur _ (0, 0) hg, ← Array.getElem?_toList]
      have h5 := flat_cells_get ls i j hil hj
      rw [← ht, List.getElem?_take, if_pos (by omega), hu] at h5
      exact h5
    have hf : ∀ j, w.frozen? ⟨g, j, none⟩ = false := fun j => by simp [World.frozen?, hg]
    have c0 := hc 0 (by omega) _ rfl
    have c1 := hc 1 (by omega) _ rfl
    have c2 := hc 2 (by omega) _ rfl
    have c3 := hc 3 (by omega) _ rfl
    have c4 := hc 4 (by omega) _ rfl
    have c5 := hc 5 (by omega) _ rfl
    have hx : ls[i]? = some ls[i] := List.getElem?_eq_getElem hil
    clear hc ht hs hg
    exact ⟨g, ls[i], rfl, hb, hlt, hx, ⟨c0, c1, c2, c3, c4, c5⟩, ⟨hf _, hf _, hf _, hf _, hf _, hf _⟩⟩
theorem own_open {w : World} {B n c g : Nat} {e : TypeId} {k : Nat} {xs : List Value} (h : w.ownsRow B e k (.slice (some ⟨g, 0, none⟩) n c) n xs) :
    ∃ cur, B ≤ g ∧ Blk w g e cur ∧ n ≤ c ∧ c ≤ maxLen ∧ cur.size = c * k ∧ cur.toList.take (n * k) = xs := by
  rcases h.2 with ⟨hv, _⟩ | ⟨g', cap, cur, hv, hb, hg, hle, hm, hs, ht⟩
  · cases hv
  · injection hv with h1 h2 h3
    injection h1 with h1
    injection h1 with h1 _ _
    subst h1 h3
    exact ⟨cur, hb, hg, hle, hm, hs, ht⟩
theorem kv_put {w : World} {B n c i g : Nat} {ls : List KV} (h : w.ownsRow B 47 6 (.slice (some ⟨g, 0, none⟩) n c) n (ls.flatMap KV.cells)) (hi : i < n) (x : KV) :
    (put6 w g (i * 6) (.int .i64 x.key) (.int .i64 x.g.kind) (.int .i64 x.g.num) (.string x.g.text) (.slice x.A1 x.n1 x.c1) (.slice x.A2 x.n2 x.c2)).ownsRow B 47 6 (.slice (some ⟨g, 0, none⟩) n c) n ((ls.set i x).flatMap KV.cells) := by
  have hl : ls.length = n := by have := h.1; rw [flat_cells_len] at this; omega
  obtain ⟨cur, hb, hb0, hle, hm, hs, ht⟩ := own_open h
  have hB := (((((hb0.put (i * 6) (.int .i64 x.key)).put (i * 6 + 1) (.int .i64 x.g.kind)).put (i * 6 + 2) (.int .i64 x.g.num)).put (i * 6 + 3) (.string x.g.text)).put (i * 6 + 4) (.slice x.A1 x.n1 x.c1)).put (i * 6 + 5) (.slice x.A2 x.n2 x.c2)
  have hcur : ((((((cur.setIfInBounds (i * 6) (.int .i64 x.key)).setIfInBounds (i * 6 + 1) (.int .i64 x.g.kind)).setIfInBounds (i * 6 + 2) (.int .i64 x.g.num)).setIfInBounds (i * 6 + 3) (.string x.g.text)).setIfInBounds (i * 6 + 4) (.slice x.A1 x.n1 x.c1)).setIfInBounds (i * 6 + 5) (.slice x.A2 x.n2 x.c2)).toList.take (n * 6) = (ls.set i x).flatMap KV.cells := by
    rw [← flat_set ls i x (by omega), ← ht]
    simp only [Array.toList_setIfInBounds, List.take_set]
  have hsz : ((((((cur.setIfInBounds (i * 6) (.int .i64 x.key)).setIfInBounds (i * 6 + 1) (.int .i64 x.g.kind)).setIfInBounds (i * 6 + 2) (.int .i64 x.g.num)).setIfInBounds (i * 6 + 3) (.string x.g.text)).setIfInBounds (i * 6 + 4) (.slice x.A1 x.n1 x.c1)).setIfInBounds (i * 6 + 5) (.slice x.A2 x.n2 x.c2)).size = c * 6 := by
    simpa using hs
  generalize (((((cur.setIfInBounds (i * 6) (.int .i64 x.key)).setIfInBounds (i * 6 + 1) (.int .i64 x.g.kind)).setIfInBounds (i * 6 + 2) (.int .i64 x.g.num)).setIfInBounds (i * 6 + 3) (.string x.g.text)).setIfInBounds (i * 6 + 4) (.slice x.A1 x.n1 x.c1)).setIfInBounds (i * 6 + 5) (.slice x.A2 x.n2 x.c2) = cur' at hB hcur hsz
  exact ⟨by rw [flat_cells_len, List.length_set, hl], .inr ⟨g, c, cur', rfl, hb, hB, hle, hm, hsz, hcur⟩⟩
theorem Upd.put6 {w0 w : World} {g : Nat} (h : Upd (fun b => b = g) w0 w) (p : Nat) (u0 u1 u2 u3 u4 u5 : Value) : Upd (fun b => b = g) w0 (put6 w g p u0 u1 u2 u3 u4 u5) :=
  (((((h.put1 _).put1 _).put1 _).put1 _).put1 _).put1 _
end Go.Proofs.Ytheinbigegobkaa
