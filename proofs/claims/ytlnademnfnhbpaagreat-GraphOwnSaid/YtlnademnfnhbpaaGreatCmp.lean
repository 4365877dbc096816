/- Comparisons: cmp.Compare of ints, strings.Compare; the closures that sort properties, nodes, relationships. -/
import Derived.Test.YtlnademnfnhbpaaGreatApp
import Derived.Test.YtlnademnfnhbpaaGreatRead
import Derived.Lib.Hide
import Derived.Test.YtlnademnfnhbpaaGreatMergeS
import Derived.Shelf.Small.Strs
namespace Go.Proofs.YtlnademnfnhbpaaGreat
open Go.RowKit

def cmpI (a b : Int) : Int := if a < b then -1 else if b < a then 1 else 0
theorem cmpI_neg (a b : Int) : cmpI a b < 0 ↔ a < b := by
  unfold cmpI
  by_cases h : a < b
  · rw [if_pos h]; simp [h]
  · rw [if_neg h]
    constructor
    · intro h'; split at h' <;> omega
    · intro h'; omega
theorem isNaN_spec (a : Int) (w : World) : Calls Tryz.prog 73 #[.int .i64 a] w fun e w' => e = .returned (.bool false) ∧ w = w' := by
  go_enter Tryz.func73, Tryz.ntmps73
  go_wp2
  go_ret
  exact ⟨ret_bool (by simp), rfl⟩
theorem compare_spec (a b : Int) (w : World) : Calls Tryz.prog 44 #[.int .i64 a, .int .i64 b] w fun e w' => e = .returned (.int .i64 (cmpI a b)) ∧ w = w' := by
  by_cases h1 : a < b
  · have HC := Lib.hid (show cmpI a b = -1 from if_pos h1)
    go_enter Tryz.func44, Tryz.ntmps44
    go_wp2_with (go_at_call 73; refine (isNaN_spec _ _).mono ?_; rintro e w' ⟨rfl, rfl⟩)
    go_ret
    exact ⟨by rw [HC.out]; rfl, rfl⟩
  · by_cases h2 : b < a
    · have HC := Lib.hid (show cmpI a b = 1 from by unfold cmpI; rw [if_neg h1, if_pos h2])
      go_enter Tryz.func44, Tryz.ntmps44
      go_wp2_with (go_at_call 73; refine (isNaN_spec _ _).mono ?_; rintro e w' ⟨rfl, rfl⟩)
      go_ret
      exact ⟨by rw [HC.out]; rfl, rfl⟩
    · have HC := Lib.hid (show cmpI a b = 0 from by unfold cmpI; rw [if_neg h1, if_neg h2])
      go_enter Tryz.func44, Tryz.ntmps44
      go_wp2_with (go_at_call 73; refine (isNaN_spec _ _).mono ?_; rintro e w' ⟨rfl, rfl⟩)
      go_ret
      exact ⟨by rw [HC.out]; rfl, rfl⟩
def cmpS (a b : ByteArray) : Int := Lib.compareBytes a.data.toList b.data.toList
theorem cmpB_neg : ∀ a b : List UInt8, Lib.compareBytes a b < 0 ↔ a < b
  | [], [] => by simp [Lib.compareBytes]
  | [], _ :: _ => by simp [Lib.compareBytes]
  | _ :: _, [] => by simp [Lib.compareBytes]
  | a :: l, b :: m => by
    unfold Lib.compareBytes
    rw [List.cons_lt_cons_iff]
    by_cases h1 : a < b
    · simp [h1]
    · rw [if_neg h1]
      by_cases h2 : b < a
      · have h3 : a ≠ b := by rintro rfl; exact h1 h2
        simp [h1, h2, h3]
      · have h3 : a = b := UInt8.le_antisymm (UInt8.not_lt.1 h2) (UInt8.not_lt.1 h1)
        rw [if_neg h2, cmpB_neg l m]
        simp [h3]
theorem cmpS_neg (a b : ByteArray) : cmpS a b < 0 ↔ ltS a b := cmpB_neg _ _
set_option maxRecDepth 100000 in
theorem cmpString_spec (a b : ByteArray) (w : World) : Calls Tryz.prog 97 #[.string a, .string b] w fun e w' => e = .returned (.int .i64 (cmpS a b)) ∧ w = w' := by
  go_enter Tryz.func97, Tryz.ntmps97
  go_wp2
  rw [run_callFunc_extern Tryz.func125 (by kernel_rfl) (by kernel_rfl) (by kernel_rfl) (e := Extern.BytealgCompare.compare) (by kernel_rfl), Lib.run_compareString]
  simp only [Result.andThen]
  rw [Oper.upon_value]
  go_wp2
  go_ret
  exact ⟨rfl, rfl⟩
theorem strCompare_spec (a b : ByteArray) (w : World) : Calls Tryz.prog 71 #[.string a, .string b] w fun e w' => e = .returned (.int .i64 (cmpS a b)) ∧ w = w' := by
  go_enter Tryz.func71, Tryz.ntmps71
  go_wp2_with fail
  refine (cmpString_spec _ _ _).mono ?_
  rintro e w' ⟨rfl, rfl⟩
  go_wp2
  go_ret
  exact ⟨rfl, rfl⟩
theorem propCmp_on {c : Int} (k l : ByteArray) (a1 a2 a3 a4 a5 b1 b2 b3 b4 b5 : Value) (w0 w : World) (hc : cmpS k l = c) (hs : Same w0 w) :
    Calls Tryz.prog 70 #[.agg #[.string k, a1, a2, a3, a4, a5], .agg #[.string l, b1, b2, b3, b4, b5]] w fun e w' => e = .returned (.int .i64 c) ∧ Same w0 w' := by
  subst hc
  go_enter Tryz.func70, Tryz.ntmps70
  go_wp2_with fail
  refine (strCompare_spec _ _ _).mono ?_
  rintro e w' ⟨rfl, rfl⟩
  go_wp2
  go_ret
  exact ⟨rfl, hs.same (((Upd.refl _ w).alloc _).alloc _)⟩
theorem nodeCmp_on {c : Int} (k l : Int) (a1 a2 b1 b2 : Value) (w0 w : World) (hc : cmpI k l = c) (hs : Same w0 w) :
    Calls Tryz.prog 43 #[.agg #[.int .i64 k, a1, a2], .agg #[.int .i64 l, b1, b2]] w fun e w' => e = .returned (.int .i64 c) ∧ Same w0 w' := by
  subst hc
  go_enter Tryz.func43, Tryz.ntmps43
  go_wp2_with fail
  refine (compare_spec _ _ _).mono ?_
  rintro e w' ⟨rfl, rfl⟩
  go_wp2
  go_ret
  exact ⟨rfl, hs.same (((Upd.refl _ w).alloc _).alloc _)⟩
theorem relCmp_on {c : Int} (k l : Int) (a1 a2 a3 a4 b1 b2 b3 b4 : Value) (w0 w : World) (hc : cmpI k l = c) (hs : Same w0 w) :
    Calls Tryz.prog 46 #[.agg #[.int .i64 k, a1, a2, a3, a4], .agg #[.int .i64 l, b1, b2, b3, b4]] w fun e w' => e = .returned (.int .i64 c) ∧ Same w0 w' := by
  subst hc
  go_enter Tryz.func46, Tryz.ntmps46
  go_wp2_with fail
  refine (compare_spec _ _ _).mono ?_
  rintro e w' ⟨rfl, rfl⟩
  go_wp2
  go_ret
  exact ⟨rfl, hs.same (((Upd.refl _ w).alloc _).alloc _)⟩
end Go.Proofs.YtlnademnfnhbpaaGreat
