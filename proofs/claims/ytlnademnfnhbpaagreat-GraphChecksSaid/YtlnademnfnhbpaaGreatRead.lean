/- Values that a call has made, read. -/
import Derived.Test.YtlnademnfnhbpaaGreatVal1
namespace Go.Proofs.YtlnademnfnhbpaaGreat
open Go.RowKit

theorem be_take_lt (l : List UInt8) (k : Nat) (hk : k ≤ 8) : be (l.take k) < 18446744073709551616 := by
  have h := be_lt (l.take k)
  have h2 : 256 ^ (l.take k).length ≤ 256 ^ 8 := Nat.pow_le_pow_right (by omega) (by rw [List.length_take]; omega)
  have h3 : 256 ^ 8 = 18446744073709551616 := by decide
  omega

theorem i64_range (n : Nat) (h : n < 18446744073709551616) : -9223372036854775808 ≤ i64 n ∧ i64 n ≤ 9223372036854775807 := by
  unfold i64
  split <;> omega
theorem pNum_short {k : Int} {l r : List UInt8} {n : Int} (h : pNum k l = .ok (n, r)) : r.length ≤ l.length := by
  unfold pNum at h
  simp only at h
  generalize (if k = 1 then 1 else 8) = W at h
  split at h
  · cases h
  · split at h
    · cases h
    · injection h with h
      injection h with _ h
      rw [← h, List.length_drop]
      omega
theorem pText_short {l r : List UInt8} {s : ByteArray} (h : pText l = .ok (s, r)) : r.length ≤ l.length := by
  unfold pText at h
  split at h
  · cases h
  · split at h
    · cases h
    · split at h
      · cases h
      · injection h with h
        injection h with _ h
        rw [← h, List.length_drop, List.length_drop]
        omega
theorem pList_shape {k : Int} {l r : List UInt8} {g : GVal} (h : pList k l = .ok (g, r)) : g.kind = k ∧ g.num = 0 ∧ g.text = ⟨#[]⟩ := by
  unfold pList at h
  split at h
  · cases h
  · split at h
    · cases h
    · split at h
      · split at h
        · cases h
        · injection h with h
          injection h with h _
          subst h
          exact ⟨rfl, rfl, rfl⟩
      · split at h
        · cases h
        · injection h with h
          injection h with h _
          subst h
          exact ⟨rfl, rfl, rfl⟩

theorem pMany_short {α : Type} {p : List UInt8 → Except Int (α × List UInt8)} (hp : ∀ l x r, p l = .ok (x, r) → r.length ≤ l.length) : ∀ (n : Nat) (l : List UInt8) (xs : List α) (r : List UInt8), pMany p n l = .ok (xs, r) → r.length ≤ l.length := by
  intro n
  induction n with
  | zero =>
    intro l xs r h
    simp only [pMany] at h
    injection h with h
    injection h with _ h
    rw [h]; exact Nat.le_refl _
  | succ n ih =>
    intro l xs r h
    simp only [pMany] at h
    split at h
    · cases h
    · rename_i x r1 h1
      split at h
      · cases h
      · rename_i ys r2 h2
        injection h with h
        injection h with _ h
        subst h
        exact Nat.le_trans (ih _ _ _ h2) (hp _ _ _ h1)

theorem pVal_short {l r : List UInt8} {g : GVal} (h : pVal l = .ok (g, r)) : r.length ≤ l.length := by
  unfold pVal at h
  split at h
  · cases h
  · rename_i c l0
    have hl : l0.length ≤ (c :: l0).length := by simp
    split at h
    · cases h
    · split at h
      · unfold pList at h
        split at h
        · cases h
        · rename_i c2 l2 
          have hl2 : l2.length ≤ (c :: c2 :: l2).length := by simp; omega
          split at h
          · cases h
          · split at h
            · split at h
              · cases h
              · rename_i xs r2 h2
                injection h with h
                injection h with _ h
                subst h
                exact Nat.le_trans (pMany_short (fun _ _ _ hh => pText_short hh) _ _ _ _ h2) hl2
            · split at h
              · cases h
              · rename_i xs r2 h2
                injection h with h
                injection h with _ h
                subst h
                exact Nat.le_trans (pMany_short (fun _ _ _ hh => pNum_short hh) _ _ _ _ h2) hl2
      · split at h
        · split at h
          · cases h
          · rename_i t r2 h2
            injection h with h
            injection h with _ h
            subst h
            exact Nat.le_trans (pText_short h2) hl
        · split at h
          · cases h
          · rename_i t r2 h2
            injection h with h
            injection h with _ h
            subst h
            exact Nat.le_trans (pNum_short h2) hl

theorem decP_err {l : List UInt8} {e : Int} (h : pVal l = .error e) : decP l = (noVal, 0, e) := by unfold decP; rw [h]
theorem decP_ok {l r : List UInt8} {g : GVal} (h : pVal l = .ok (g, r)) : decP l = (g, l.length - r.length, 0) := by unfold decP; rw [h]

section
variable {w w0 : World} {g : Nat} {t : TypeId} {a0 a1 a2 a3 a4 : Value}
theorem Blk.five (h : Blk w g t #[a0, a1, a2, a3, a4]) : w.cell? ⟨g, 0, none⟩ = some a0 ∧ w.cell? ⟨g, 1, none⟩ = some a1 ∧ w.cell? ⟨g, 2, none⟩ = some a2 ∧ w.cell? ⟨g, 3, none⟩ = some a3 ∧ w.cell? ⟨g, 4, none⟩ = some a4 :=
  ⟨h.cell 0, h.cell 1, h.cell 2, h.cell 3, h.cell 4⟩
theorem Blk.five_free (h : Blk w g t #[a0, a1, a2, a3, a4]) : w.frozen? ⟨g, 0, none⟩ = false ∧ w.frozen? ⟨g, 1, none⟩ = false ∧ w.frozen? ⟨g, 2, none⟩ = false ∧ w.frozen? ⟨g, 3, none⟩ = false ∧ w.frozen? ⟨g, 4, none⟩ = false :=
  ⟨h.frozen 0, h.frozen 1, h.frozen 2, h.frozen 3, h.frozen 4⟩
/-- A struct of five cells stored whole. -/
abbrev put5 (w : World) (g : Nat) (u0 u1 u2 u3 u4 : Value) : World :=
  ((((w.setCell ⟨g, 0, none⟩ u0).setCell ⟨g, 1, none⟩ u1).setCell ⟨g, 2, none⟩ u2).setCell ⟨g, 3, none⟩ u3).setCell ⟨g, 4, none⟩ u4
theorem Blk.put5 (h : Blk w g t #[a0, a1, a2, a3, a4]) (u0 u1 u2 u3 u4 : Value) : Blk (put5 w g u0 u1 u2 u3 u4) g t #[u0, u1, u2, u3, u4] :=
  ((((h.put 0 u0).put 1 u1).put 2 u2).put 3 u3).put 4 u4
theorem Upd.put5 (h : Upd (fun b => b = g) w0 w) (u0 u1 u2 u3 u4 : Value) : Upd (fun b => b = g) w0 (put5 w g u0 u1 u2 u3 u4) :=
  ((((h.put1 u0).put1 u1).put1 u2).put1 u3).put1 u4
end

/-- What Decode makes of Prefix's answer: n the number of all bytes. -/
def decD (n : Nat) (P : GVal × Nat × Int) : GVal × Int := if P.2.2 = 0 ∧ P.2.1 < n then (noVal, 11) else (P.1, P.2.2)

/-- Its numbers are 64 bits wide. -/
structure GVal.Fits (g : GVal) : Prop where
  kind : -9223372036854775808 ≤ g.kind ∧ g.kind ≤ 9223372036854775807
  num : -9223372036854775808 ≤ g.num ∧ g.num ≤ 9223372036854775807
  range : ∀ n ∈ g.nums, -9223372036854775808 ≤ n ∧ n ≤ 9223372036854775807

/-- New memory, read. -/
theorem own_row {w : World} {B : Nat} {t : TypeId} {v : Value} {n : Nat} {xs : List Value} (h : w.ownsRow B t 1 v n xs) : ∃ A c, v = .slice A n c ∧ Row w (fun b => B ≤ b) 1 A n c xs := by
  obtain ⟨A, c, rfl⟩ := own_form h
  exact ⟨A, c, rfl, (Row.of_own h).mono fun b _ hb => hb.2⟩
theorem NewVal.rd {w : World} {B : Nat} {v : Value} {g : GVal} (h : NewVal w B v g) (hf : g.Fits) : ∃ A1 n1 c1 A2 n2 c2, v = g.val A1 n1 c1 A2 n2 c2 ∧ RdVal w (fun b => B ≤ b) A1 n1 c1 A2 n2 c2 g := by
  obtain ⟨v1, v2, rfl, h1, h2⟩ := h
  obtain ⟨A1, c1, rfl, r1⟩ := own_row h1
  obtain ⟨A2, c2, rfl, r2⟩ := own_row h2
  exact ⟨A1, _, c1, A2, _, c2, rfl, r1.weak, r2.weak, hf.kind, hf.num, hf.range⟩

theorem RdVal.empty (w : World) (k n : Int) (s : ByteArray) (hk : -9223372036854775808 ≤ k ∧ k ≤ 9223372036854775807) (hn : -9223372036854775808 ≤ n ∧ n ≤ 9223372036854775807) : RdVal w (fun _ => False) none 0 0 none 0 0 ⟨k, n, s, [], []⟩ :=
  ⟨(Row.nil_ _ _ _).weak, (Row.nil_ _ _ _).weak, hk, hn, by simp⟩
end Go.Proofs.YtlnademnfnhbpaaGreat
