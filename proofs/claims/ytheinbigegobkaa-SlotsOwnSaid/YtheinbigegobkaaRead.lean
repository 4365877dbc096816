/- Values that a call has made, read. -/
import Derived.Test.YtheinbigegobkaaDec4
namespace Go.Proofs.Ytheinbigegobkaa
open Go.RowKit

/-- Its numbers are 64 bits wide. -/
structure GVal.Fits (g : GVal) : Prop where
  kind : -9223372036854775808 ≤ g.kind ∧ g.kind ≤ 9223372036854775807
  num : -9223372036854775808 ≤ g.num ∧ g.num ≤ 9223372036854775807
  range : ∀ n ∈ g.nums, -9223372036854775808 ≤ n ∧ n ≤ 9223372036854775807

/-- New memory, read. -/
theorem own_row {w : World} {B : Nat} {t : TypeId} {v : Value} {n : Nat} {xs : List Value} (h : w.ownsRow B t 1 v n xs) : ∃ A c, v = .slice A n c ∧ Row w (fun b => B ≤ b) 1 A n c xs := by
  obtain ⟨A, c, rfl⟩ := own_form h
  exact ⟨A, c, rfl, (Row.of_own h).mono fun b _ hb => hb.2⟩
theorem NewVal.rd {w : World} {B : Nat} {v : Value} {g : GVal} (h : NewVal w B v g) (hf : g.Fits) : ∃ A1 n1 c1 A2 n2 c2, v = g.val A1 n1 c1 A2 n2 c2 ∧ RdVal w (fun b => B ≤ b) A1 n1 c1 A2 n2 c2 g := by
  obtain ⟨v1, v2, rfl, h1, h2⟩ := h
  obtain ⟨A1, c1, rfl, r1⟩ := own_row h1
  obtain ⟨A2, c2, rfl, r2⟩ := own_row h2
  exact ⟨A1, _, c1, A2, _, c2, rfl, r1.weak, r2.weak, hf.kind, hf.num, hf.range⟩

theorem RdVal.empty (w : World) (k n : Int) (s : ByteArray) (hk : -9223372036854775808 ≤ k ∧ k ≤ 9223372036854775807) (hn : -9223372036854775808 ≤ n ∧ n ≤ 9223372036854775807) : RdVal w (fun _ => False) none 0 0 none 0 0 ⟨k, n, s, [], []⟩ :=
  ⟨(Row.nil_ _ _ _).weak, (Row.nil_ _ _ _).weak, hk, hn, by simp⟩
end Go.Proofs.Ytheinbigegobkaa
