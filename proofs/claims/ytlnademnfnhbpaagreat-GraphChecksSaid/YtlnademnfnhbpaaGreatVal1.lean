/- Package value: the checks. -/
import Derived.Test.YtlnademnfnhbpaaGreatWire1
import Derived.Test.YtlnademnfnhbpaaGreatVal
namespace Go.Proofs.YtlnademnfnhbpaaGreat
open Go.RowKit

def baseK (k : Int) : Int := if 4 < k then k - 4 else k

theorem base_spec (n : Int) (w : World) (h0 : -9223372036854775808 ≤ n) (h1 : n ≤ 9223372036854775807) :
    Calls Tryz.prog 129 #[.int .i64 n] w fun e w' => e = .returned (.int .i64 (baseK n)) ∧ w = w' := by
  unfold baseK
  by_cases h : 4 < n
  · go_enter Tryz.func129, Tryz.ntmps129
    go_wp2
    go_ret
    exact ⟨rfl, rfl⟩
  · go_enter Tryz.func129, Tryz.ntmps129
    go_wp2
    go_ret
    exact ⟨rfl, rfl⟩

theorem wrapU (n : Int) : IntKind.u64.wrap n = (u64 n : Int) := by
  rw [IntKind.wrap_u64]
  unfold u64
  omega

theorem u64_lt (n : Int) : u64 n < 18446744073709551616 := by
  unfold u64
  omega

theorem numErr3 (n : Int) : numErr 3 n = if bits BinOp.and IntKind.u64 (IntKind.u64.wrap n / 4503599627370496) 2047 = 2047 ∧ ¬ IntKind.u64.wrap (IntKind.u64.wrap n * 4096) = 0 ∧ (IntKind.u64.wrap n != 9221120237041090560) = true then 43 else 0 := by
  rw [wrapU n]
  have hlt := u64_lt n
  have e1 : ((u64 n : Int) / 4503599627370496) = ((u64 n / 4503599627370496 : Nat) : Int) := by omega
  have e2 : bits BinOp.and IntKind.u64 ((u64 n : Int) / 4503599627370496) 2047 = ((u64 n / 4503599627370496 % 2048 : Nat) : Int) := by
    rw [e1]
    have h := u64_and_nat (u64 n / 4503599627370496) 2047 (by omega) (by decide)
    rw [show ((2047 : Nat) : Int) = 2047 from rfl] at h
    rw [h]
    have h2 := Nat.and_two_pow_sub_one_eq_mod (u64 n / 4503599627370496) 11
    rw [show 2 ^ 11 - 1 = 2047 from rfl, show 2 ^ 11 = 2048 from rfl] at h2
    rw [h2]
  have e3 : IntKind.u64.wrap ((u64 n : Int) * 4096) = ((u64 n % 4503599627370496 * 4096 : Nat) : Int) := by
    rw [IntKind.wrap_u64]
    omega
  rw [e2, e3]
  unfold numErr nanB
  generalize u64 n = U at *
  simp only [Bool.and_eq_true, beq_iff_eq, bne_iff_ne, ne_eq]
  by_cases h1 : U / 4503599627370496 % 2048 = 2047
  · by_cases h2 : U % 4503599627370496 = 0
    · simp [h1, h2]
    · by_cases h3 : U = 9221120237041090560
      · rw [if_neg (by omega), if_neg (by omega), if_neg (by omega)]
      · rw [if_neg (by omega), if_pos ⟨trivial, ⟨h1, h2⟩, h3⟩, if_pos ⟨by omega, by omega, by omega⟩]
  · rw [if_neg (by omega), if_neg (fun h => h1 h.2.1.1), if_neg (fun h => h1 (by omega))]

set_option maxRecDepth 100000 in
theorem checkNum_spec (k n : Int) (w : World) (h0 : 1 ≤ k) (h1 : k ≤ 8) :
    Calls Tryz.prog 109 #[.int .i64 k, .int .i64 n] w fun e w' => e = .returned (.int .i64 (numErr (baseK k) n)) ∧ w = w' := by
  have hb := base_spec k
  generalize baseK k = K at hb ⊢
  have HB := Lib.hid hb
  clear hb
  by_cases hk : K = 1
  · subst hk
    go_enter Tryz.func109, Tryz.ntmps109
    go_wp2_with fail
    refine (HB.out _ (by omega) (by omega)).mono ?_
    rintro e w' ⟨rfl, rfl⟩
    go_wp2
    all_goals
      go_ret
      refine ⟨?_, rfl⟩
      clear HB
    · rename_i h
      simp [numErr, h]
    · rename_i _ h
      simp only [bne_iff_ne] at h
      simp [numErr, h.1, h.2]
    · rename_i _ h
      simp only [bne_eq_false_iff_eq] at h
      rcases h with h | h <;> simp [numErr, h]
  · by_cases hk3 : K = 3
    · subst hk3
      go_enter Tryz.func109, Tryz.ntmps109
      go_wp2_with fail
      refine (HB.out _ (by omega) (by omega)).mono ?_
      rintro e w' ⟨rfl, rfl⟩
      go_wp2
      all_goals
        go_ret
        refine ⟨?_, rfl⟩
        rw [numErr3]
        clear HB
      · rename_i h1 h2
        rw [if_neg (fun h => h.2.1 h2)]
        rfl
      · rename_i h1 h2 h3
        rw [if_pos ⟨h1, h2, h3.2⟩]
        rfl
      · rename_i h1 h2 h3
        rw [if_neg (fun h => by rcases h3 with h3 | h3; exact absurd h3 (by simpa using h2); rw [h.2.2] at h3; cases h3)]
        rfl
      · rename_i h1
        rw [if_neg (fun h => h1 h.1)]
        rfl
    · have hz : numErr K n = 0 := by simp [numErr, hk, hk3]
      rw [hz]
      clear hz
      go_enter Tryz.func109, Tryz.ntmps109
      go_wp2_with fail
      refine (HB.out _ (by omega) (by omega)).mono ?_
      rintro e w' ⟨rfl, rfl⟩
      go_wp2
      go_ret
      exact ⟨rfl, rfl⟩

/-- The fields of a value as they come: the two lists lie in F's blocks. -/
structure RdVal (w : World) (F : Nat → Prop) (A1 : Option Addr) (n1 c1 : Nat) (A2 : Option Addr) (n2 c2 : Nat) (g : GVal) : Prop where
  nums : WRow w F 1 A1 n1 c1 (g.nums.map (Value.int .i64))
  texts : WRow w F 1 A2 n2 c2 (g.texts.map Value.string)
  kind : -9223372036854775808 ≤ g.kind ∧ g.kind ≤ 9223372036854775807
  num : -9223372036854775808 ≤ g.num ∧ g.num ≤ 9223372036854775807
  range : ∀ n ∈ g.nums, -9223372036854775808 ≤ n ∧ n ≤ 9223372036854775807

section
variable {w w' : World} {F F' : Nat → Prop} {A1 A2 : Option Addr} {n1 c1 n2 c2 : Nat} {g : GVal}
theorem RdVal.upd {S : Nat → Prop} (h : RdVal w F A1 n1 c1 A2 n2 c2 g) (hu : Upd S w w') (hs : ∀ b, F b → ¬ S b) : RdVal w' F A1 n1 c1 A2 n2 c2 g :=
  ⟨h.nums.upd hu hs, h.texts.upd hu hs, h.kind, h.num, h.range⟩
theorem RdVal.same (h : RdVal w F A1 n1 c1 A2 n2 c2 g) (hu : Same w w') : RdVal w' F A1 n1 c1 A2 n2 c2 g := h.upd hu fun _ _ f => f
theorem RdVal.mono (h : RdVal w F A1 n1 c1 A2 n2 c2 g) (hf : ∀ b, b < w.heap.size → F b → F' b) : RdVal w F' A1 n1 c1 A2 n2 c2 g :=
  ⟨h.nums.mono hf, h.texts.mono hf, h.kind, h.num, h.range⟩
theorem RdVal.len1 (h : RdVal w F A1 n1 c1 A2 n2 c2 g) : g.nums.length = n1 := by have := h.nums.len; simpa using this
theorem RdVal.len2 (h : RdVal w F A1 n1 c1 A2 n2 c2 g) : g.texts.length = n2 := by have := h.texts.len; simpa using this
end

/-- The value as the program passes it on. -/
abbrev GVal.val (g : GVal) (A1 : Option Addr) (n1 c1 : Nat) (A2 : Option Addr) (n2 c2 : Nat) : Value :=
  .agg #[.int .i64 g.kind, .int .i64 g.num, .string g.text, .slice A1 n1 c1, .slice A2 n2 c2]

theorem str_size (s : ByteArray) : (s.size != 0) = !s.toList.isEmpty := by
  rw [ByteArray.toList_eq]
  have : s.data.toList.length = s.size := by
    rw [Array.length_toList]
    rfl
  rw [← this]
  cases s.data.toList <;> simp

theorem ret_bool {a b : Bool} (h : a = b) : Ending.returned (.bool a) = .returned (.bool b) := by rw [h]
theorem ret_int {k : IntKind} {a b : Int} (h : a = b) : Ending.returned (.int k a) = .returned (.int k b) := by rw [h]

def badB (kind : Int) (num : Int) (text n1 n2 : Nat) : Bool :=
  (num != 0 && decide (3 < kind)) || (text != 0 && kind != 4) || (n1 != 0 && (decide (kind < 5) || kind == 8)) || (n2 != 0 && kind != 8)

set_option maxHeartbeats 1000000 in
theorem unused_spec {A1 A2 : Option Addr} {n1 c1 n2 c2 : Nat} {kind num : Int} {text : ByteArray} (w : World) (h0 : 1 ≤ kind) (h1 : kind ≤ 8) :
    Calls Tryz.prog 106 #[.agg #[.int .i64 kind, .int .i64 num, .string text, .slice A1 n1 c1, .slice A2 n2 c2]] w fun e w' =>
      e = .returned (.bool (badB kind num text.size n1 n2)) ∧ Same w w' := by
  have hb := base_spec kind
  by_cases h8 : kind = 8
  · subst h8
    rw [show baseK 8 = 4 from rfl] at hb
    have HS := Lib.hid hb
    clear hb
    go_enter Tryz.func106, Tryz.ntmps106
    go_wp2_with fail
    refine (HS.out _ (by omega) (by omega)).mono ?_
    rintro e w' ⟨rfl, rfl⟩
    go_wp2
    all_goals
      go_ret
      refine ⟨ret_bool ?_, (Upd.refl _ _).alloc _⟩
      clear HS
      unfold badB
      rw [str_size]
      simp [*]
  by_cases h4 : kind = 4
  · subst h4
    rw [show baseK 4 = 4 from rfl] at hb
    have HS := Lib.hid hb
    clear hb h8
    go_enter Tryz.func106, Tryz.ntmps106
    go_wp2_with fail
    refine (HS.out _ (by omega) (by omega)).mono ?_
    rintro e w' ⟨rfl, rfl⟩
    go_wp2
    all_goals
      go_ret
      refine ⟨ret_bool ?_, (Upd.refl _ _).alloc _⟩
      clear HS
      unfold badB
      rw [str_size]
      simp [*]
  have hK : (baseK kind == 4) = false := by unfold baseK; split <;> simp <;> omega
  generalize baseK kind = K at hb hK
  have HS := Lib.hid hb
  clear hb
  by_cases hl : 4 < kind
  · have e1 : ¬ kind < 5 := by omega
    have e2 : 3 < kind := by omega
    go_enter Tryz.func106, Tryz.ntmps106
    go_wp2_with fail
    refine (HS.out _ (by omega) (by omega)).mono ?_
    rintro e w' ⟨rfl, rfl⟩
    go_wp2
    all_goals
      go_ret
      refine ⟨ret_bool ?_, (Upd.refl _ _).alloc _⟩
      clear HS
      unfold badB
      rw [str_size]
      simp [*]
  · have e1 : kind < 5 := by omega
    have e2 : ¬ 3 < kind := by omega
    go_enter Tryz.func106, Tryz.ntmps106
    go_wp2_with fail
    refine (HS.out _ (by omega) (by omega)).mono ?_
    rintro e w' ⟨rfl, rfl⟩
    go_wp2
    all_goals
      go_ret
      refine ⟨ret_bool ?_, (Upd.refl _ _).alloc _⟩
      clear HS
      unfold badB
      rw [str_size]
      simp [*]
/-- A value in new memory, as its fields come. -/
def NewVal (w : World) (B : Nat) (v : Value) (g : GVal) : Prop :=
  ∃ v1 v2, v = .agg #[.int .i64 g.kind, .int .i64 g.num, .string g.text, v1, v2] ∧
    w.ownsRow B 2 1 v1 g.nums.length (g.nums.map (Value.int .i64)) ∧ w.ownsRow B 9 1 v2 g.texts.length (g.texts.map Value.string)
end Go.Proofs.YtlnademnfnhbpaaGreat
