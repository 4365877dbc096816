/- Stable sorting of one element or none: nothing turns. -/
import Derived.Test.YtlnademnfnhbpaaGreatGr
import Derived.Deep.LoopGhost
import Derived.BigQuiet
namespace Go.Proofs.YtlnademnfnhbpaaGreat
open Go.RowKit

set_option maxHeartbeats 1000000 in
theorem ins1_Node (w : World) (A : Option Addr) (n c : Nat) (fv : Value) (hn : n ≤ 1) : Calls Tryz.prog 98 #[.slice A n c, .int .i64 0, .int .i64 n, fv] w fun e w' => e = .returned (.tuple #[]) ∧ w' = w := by
  go_enter Tryz.func98, Tryz.ntmps98
  go_wp2_with fail
  go_loopg [8] 0 (fun gh s8 wr => s8 = .int .i64 1 ∧ wr = w)
  case atStart => exact ⟨rfl, rfl⟩
  case round =>
    obtain ⟨rfl, rfl⟩ := hrel
    have h1 : ¬ (1 : Int) < n := by omega
    go_wp2
    go_end0
    exact ⟨rfl, rfl⟩
set_option maxHeartbeats 1000000 in
theorem stab1_Node (w : World) (A : Option Addr) (n c : Nat) (fv : Value) (hn : n ≤ 1) : Calls Tryz.prog 72 #[.slice A n c, .int .i64 n, fv] w fun e w' => e = .returned (.tuple #[]) ∧ w' = w := by
  have h20 : ¬ (20 : Int) ≤ (n : Int) := by omega
  have h21 : ¬ (20 : Int) < (n : Int) := by omega
  go_enter Tryz.func72, Tryz.ntmps72
  go_wp2_with fail
  go_loopg [7, 8] 0 (fun gh s7 s8 wr => s7 = .int .i64 0 ∧ s8 = .int .i64 20 ∧ wr = w)
  case atStart => exact ⟨rfl, rfl, rfl⟩
  case round =>
    obtain ⟨rfl, rfl, rfl⟩ := hrel
    go_wp2_with fail
    refine (ins1_Node _ A n c fv hn).mono ?_
    rintro e w2 ⟨rfl, rfl⟩
    go_wp2_with fail
    go_loopg [6, 7, 8, 9] 0 (fun gh s6 s7 s8 s9 wr => s6 = .int .i64 20 ∧ wr = w2)
    case atStart => exact ⟨rfl, rfl⟩
    case round =>
      obtain ⟨rfl, rfl⟩ := hrel
      go_wp2
      go_end0
      exact ⟨rfl, rfl⟩
theorem stable1_Node (w : World) (A : Option Addr) (n c : Nat) (fv : Value) (hn : n ≤ 1) : Calls Tryz.prog 42 #[.slice A n c, fv] w fun e w' => e = .returned (.tuple #[]) ∧ w' = w := by
  go_enter Tryz.func42, Tryz.ntmps42
  go_wp2_with fail
  refine (stab1_Node _ A n c fv hn).mono ?_
  rintro e w2 ⟨rfl, rfl⟩
  go_wp2
  go_end0
  exact ⟨rfl, rfl⟩

set_option maxHeartbeats 1000000 in
theorem ins1_Rel (w : World) (A : Option Addr) (n c : Nat) (fv : Value) (hn : n ≤ 1) : Calls Tryz.prog 100 #[.slice A n c, .int .i64 0, .int .i64 n, fv] w fun e w' => e = .returned (.tuple #[]) ∧ w' = w := by
  go_enter Tryz.func100, Tryz.ntmps100
  go_wp2_with fail
  go_loopg [8] 0 (fun gh s8 wr => s8 = .int .i64 1 ∧ wr = w)
  case atStart => exact ⟨rfl, rfl⟩
  case round =>
    obtain ⟨rfl, rfl⟩ := hrel
    have h1 : ¬ (1 : Int) < n := by omega
    go_wp2
    go_end0
    exact ⟨rfl, rfl⟩
set_option maxHeartbeats 1000000 in
theorem stab1_Rel (w : World) (A : Option Addr) (n c : Nat) (fv : Value) (hn : n ≤ 1) : Calls Tryz.prog 74 #[.slice A n c, .int .i64 n, fv] w fun e w' => e = .returned (.tuple #[]) ∧ w' = w := by
  have h20 : ¬ (20 : Int) ≤ (n : Int) := by omega
  have h21 : ¬ (20 : Int) < (n : Int) := by omega
  go_enter Tryz.func74, Tryz.ntmps74
  go_wp2_with fail
  go_loopg [7, 8] 0 (fun gh s7 s8 wr => s7 = .int .i64 0 ∧ s8 = .int .i64 20 ∧ wr = w)
  case atStart => exact ⟨rfl, rfl, rfl⟩
  case round =>
    obtain ⟨rfl, rfl, rfl⟩ := hrel
    go_wp2_with fail
    refine (ins1_Rel _ A n c fv hn).mono ?_
    rintro e w2 ⟨rfl, rfl⟩
    go_wp2_with fail
    go_loopg [6, 7, 8, 9] 0 (fun gh s6 s7 s8 s9 wr => s6 = .int .i64 20 ∧ wr = w2)
    case atStart => exact ⟨rfl, rfl⟩
    case round =>
      obtain ⟨rfl, rfl⟩ := hrel
      go_wp2
      go_end0
      exact ⟨rfl, rfl⟩
theorem stable1_Rel (w : World) (A : Option Addr) (n c : Nat) (fv : Value) (hn : n ≤ 1) : Calls Tryz.prog 45 #[.slice A n c, fv] w fun e w' => e = .returned (.tuple #[]) ∧ w' = w := by
  go_enter Tryz.func45, Tryz.ntmps45
  go_wp2_with fail
  refine (stab1_Rel _ A n c fv hn).mono ?_
  rintro e w2 ⟨rfl, rfl⟩
  go_wp2
  go_end0
  exact ⟨rfl, rfl⟩

set_option maxHeartbeats 1000000 in
theorem ins1_Prop (w : World) (A : Option Addr) (n c : Nat) (fv : Value) (hn : n ≤ 1) : Calls Tryz.prog 123 #[.slice A n c, .int .i64 0, .int .i64 n, fv] w fun e w' => e = .returned (.tuple #[]) ∧ w' = w := by
  go_enter Tryz.func123, Tryz.ntmps123
  go_wp2_with fail
  go_loopg [8] 0 (fun gh s8 wr => s8 = .int .i64 1 ∧ wr = w)
  case atStart => exact ⟨rfl, rfl⟩
  case round =>
    obtain ⟨rfl, rfl⟩ := hrel
    have h1 : ¬ (1 : Int) < n := by omega
    go_wp2
    go_end0
    exact ⟨rfl, rfl⟩
set_option maxHeartbeats 1000000 in
theorem stab1_Prop (w : World) (A : Option Addr) (n c : Nat) (fv : Value) (hn : n ≤ 1) : Calls Tryz.prog 96 #[.slice A n c, .int .i64 n, fv] w fun e w' => e = .returned (.tuple #[]) ∧ w' = w := by
  have h20 : ¬ (20 : Int) ≤ (n : Int) := by omega
  have h21 : ¬ (20 : Int) < (n : Int) := by omega
  go_enter Tryz.func96, Tryz.ntmps96
  go_wp2_with fail
  go_loopg [7, 8] 0 (fun gh s7 s8 wr => s7 = .int .i64 0 ∧ s8 = .int .i64 20 ∧ wr = w)
  case atStart => exact ⟨rfl, rfl, rfl⟩
  case round =>
    obtain ⟨rfl, rfl, rfl⟩ := hrel
    go_wp2_with fail
    refine (ins1_Prop _ A n c fv hn).mono ?_
    rintro e w2 ⟨rfl, rfl⟩
    go_wp2_with fail
    go_loopg [6, 7, 8, 9] 0 (fun gh s6 s7 s8 s9 wr => s6 = .int .i64 20 ∧ wr = w2)
    case atStart => exact ⟨rfl, rfl⟩
    case round =>
      obtain ⟨rfl, rfl⟩ := hrel
      go_wp2
      go_end0
      exact ⟨rfl, rfl⟩
theorem stable1_Prop (w : World) (A : Option Addr) (n c : Nat) (fv : Value) (hn : n ≤ 1) : Calls Tryz.prog 69 #[.slice A n c, fv] w fun e w' => e = .returned (.tuple #[]) ∧ w' = w := by
  go_enter Tryz.func69, Tryz.ntmps69
  go_wp2_with fail
  refine (stab1_Prop _ A n c fv hn).mono ?_
  rintro e w2 ⟨rfl, rfl⟩
  go_wp2
  go_end0
  exact ⟨rfl, rfl⟩

set_option maxRecDepth 100000 in
/-- slices.Clone of nil. -/
theorem cloneProps_nil (w : World) : Calls Tryz.prog 67 #[.slice none 0 0] w fun e w' => e = .returned (.slice none 0 0) ∧ w' = w := by
  have heq := fun (w : World) (a : Option Addr) (n c : Nat) => Lib.run_eql_slice_nil (P := Tryz.prog) w 38 45 a n c 0 0 Tryz.underlying38
  go_enter Tryz.func67, Tryz.ntmps67
  go_wp2
  go_ret
  exact ⟨rfl, rfl⟩
set_option maxRecDepth 100000 in
theorem cloneStrs_nil (w : World) : Calls Tryz.prog 39 #[.slice none 0 0] w fun e w' => e = .returned (.slice none 0 0) ∧ w' = w := by
  have heq := fun (w : World) (a : Option Addr) (n c : Nat) => Lib.run_eql_slice_nil (P := Tryz.prog) w 37 9 a n c 0 0 Tryz.underlying37
  go_enter Tryz.func39, Tryz.ntmps39
  go_wp2
  go_ret
  exact ⟨rfl, rfl⟩
end Go.Proofs.YtlnademnfnhbpaaGreat
