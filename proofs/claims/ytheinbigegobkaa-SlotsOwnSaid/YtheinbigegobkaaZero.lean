/- Package slots: bytes all zero; a key. -/
import Derived.Test.YtheinbigegobkaaWire4
import Derived.Test.YtheinbigegobkaaSlot
namespace Go.Proofs.Ytheinbigegobkaa
open Go.RowKit

theorem zero1_spec (x : UInt8) (w : World) {r : Bool} (hr : (x != 0) = r) : Calls Try.prog 74 #[.int .u8 (x.toNat : Int)] w fun e w' => e = .returned (.bool r) ∧ w = w' := by
  have hv : ((x.toNat : Int) != 0) = r := by
    rw [← hr]
    by_cases h : x = 0
    · subst h; rfl
    · have h1 : x.toNat ≠ 0 := fun hh => h (UInt8.toNat_inj.1 hh)
      rw [bne_iff_ne.2 h, bne_iff_ne.2 (by omega)]
  have HV := Lib.hid hv
  clear hr hv
  have hx := x.toNat_lt
  generalize x.toNat = N at *
  go_enter Try.func74, Try.ntmps74
  go_wp2
  go_ret
  exact ⟨ret_bool HV.out, rfl⟩

set_option maxHeartbeats 1000000 in
theorem indexZero_spec {F : Nat → Prop} {A : Option Addr} {n c : Nat} {bs : List UInt8} (w : World) (h : Bytes w F A n c bs) :
    Calls Try.prog 85 #[.slice A n c, .func (.func 74) #[] #[]] w fun e w' => ∃ r : Int, e = .returned (.int .i64 r) ∧ (zerosB bs = !decide (0 ≤ r)) ∧ w = w' := by
  have HL := Lib.hid h.len
  have hmx := Row.max h
  have hle := Row.le h
  unfold maxLen at hmx
  have hn : n ≤ 9223372036854775807 := by omega
  clear hmx hle
  go_enter Try.func85, Try.ntmps85
  go_wp2
  go_loop [8] (fun i => ∃ k : Nat, k ≤ n ∧ i = .int .i64 k ∧ Hid (zerosB (bs.take k) = true)) (fun i => n - (intOf i).toNat)
  case atStart => exact ⟨0, Nat.zero_le _, rfl, Lib.hid rfl⟩
  case round =>
    obtain ⟨k, hk, rfl, HN⟩ := hrel
    by_cases hlt : k < n
    · obtain ⟨b, o, rfl, hbl, _, hc⟩ := h.at_ hlt
      have hkl : k < bs.length := by rw [HL.out]; exact hlt
      have HT := Lib.hid (show zerosB (bs.take (k + 1)) = (zerosB (bs.take k) && (bs[k] == 0)) from by
        rw [List.take_succ_eq_append_getElem hkl]; unfold zerosB; rw [List.all_append, List.all_cons, List.all_nil, Bool.and_true])
      have HM := Lib.hid (List.getElem_mem hkl)
      generalize bs[k] = x at *
      by_cases hx : x = 0
      · have h0 : (x != 0) = false := by simp [hx]
        have H0 := Lib.hid h0
        have HX := Lib.hid hx
        clear h0 hx
        go_wp2_with fail
        refine (zero1_spec _ _ H0.out).mono ?_
        rintro e w' ⟨rfl, rfl⟩
        go_wp2
        go_round
        case rel =>
          refine ⟨k + 1, by omega, by go_num, Lib.hid ?_⟩
          rw [HT.out, HN.out, HX.out]
          rfl
        case measure => simp [intOf]; omega
      · have h0 : (x != 0) = true := bne_iff_ne.2 hx
        have H0 := Lib.hid h0
        have HX := Lib.hid hx
        clear h0 hx
        go_wp2_with fail
        refine (zero1_spec _ _ H0.out).mono ?_
        rintro e w' ⟨rfl, rfl⟩
        go_wp2
        go_ret
        refine ⟨k, rfl, ?_, rfl⟩
        have h2 : zerosB bs = false := by
          cases hz : zerosB bs with
          | false => rfl
          | true =>
            have := List.all_eq_true.1 hz _ HM.out
            exact absurd (by simpa using this) HX.out
        rw [h2]
        simp
    · have hkn : k = n := by omega
      go_wp2
      go_ret
      refine ⟨-1, rfl, ?_, rfl⟩
      have h1 := HN.out
      rw [List.take_of_length_le (by rw [HL.out]; omega)] at h1
      rw [h1]
      rfl

theorem zero_spec {F : Nat → Prop} {A : Option Addr} {n c : Nat} {bs : List UInt8} (w : World) (h : Bytes w F A n c bs) {r : Bool} (hr : zerosB bs = r) :
    Calls Try.prog 54 #[.slice A n c] w fun e w' => e = .returned (.bool r) ∧ w = w' := by
  subst hr
  go_enter Try.func54, Try.ntmps54
  go_wp2_with fail
  have hcf : ∀ w1 : World, w = w1 → Calls Try.prog 73 #[.slice A n c, .func (.func 74) #[] #[]] w1 fun e w' => e = .returned (.bool (!zerosB bs)) ∧ w1 = w' := by
    rintro _ rfl
    go_enter Try.func73, Try.ntmps73
    go_wp2_with fail
    refine (indexZero_spec _ h).mono ?_
    rintro e w' ⟨r, rfl, hr, rfl⟩
    have HR := Lib.hid hr
    clear hr
    go_wp2
    go_ret
    exact ⟨ret_bool (by rw [HR.out, Bool.not_not]), rfl⟩
  refine (hcf _ rfl).mono ?_
  rintro e w' ⟨rfl, rfl⟩
  clear hcf
  go_wp2
  go_ret
  exact ⟨ret_bool (by first | rfl | simp), rfl⟩

/-- A key that two bytes write: the key, whether it is one. -/
theorem key_ok {F : Nat → Prop} {A : Option Addr} {n c : Nat} {bs : List UInt8} (w : World) (hb : Bytes w F A n c bs) (h : 2 ≤ n) {N : Nat} (hN : be (bs.take 2) = N) {r : Bool} (hr : decide (1 ≤ N ∧ N ≤ 200) = r) :
    Calls Try.prog 55 #[.slice A n c] w fun e w' => e = .returned (.tuple #[.int .i64 ((N : Int) - 1), .bool r]) ∧ w = w' := by
  have hlt : N ≤ 65535 := by rw [← hN]; exact be_take_lt2 bs
  have HR := Lib.hid hr
  have HG := Lib.hid (get_ok (N := N) w hb 0 2 (by decide) (by omega) (by rw [List.drop_zero]; exact hN))
  clear hr hN
  go_enter Try.func55, Try.ntmps55
  go_wp2_with fail
  refine HG.out.mono ?_
  rintro e w' ⟨rfl, rfl⟩
  have hi := i64_wrap_nat N (by omega)
  by_cases h1 : 1 ≤ N
  · by_cases h2 : N ≤ 200
    · have d2 : decide ((N : Int) ≤ 200) = true := by simp; omega
      go_wp2
      go_ret2
      exact ⟨by rw [← HR.out, decide_eq_true (show 1 ≤ N ∧ N ≤ 200 from ⟨h1, h2⟩)]; rfl, rfl⟩
    · have d2 : decide ((N : Int) ≤ 200) = false := by simp; omega
      go_wp2
      go_ret2
      exact ⟨by rw [← HR.out, decide_eq_false (show ¬ (1 ≤ N ∧ N ≤ 200) from fun hh => h2 hh.2)]; rfl, rfl⟩
  · go_wp2
    go_ret2
    exact ⟨by rw [← HR.out, decide_eq_false (show ¬ (1 ≤ N ∧ N ≤ 200) from fun hh => h1 hh.1)]; rfl, rfl⟩
theorem key_short {F : Nat → Prop} {A : Option Addr} {n c : Nat} {bs : List UInt8} (w : World) (hb : Bytes w F A n c bs) (h : n < 2) :
    Calls Try.prog 55 #[.slice A n c] w fun e w' => (∃ k : Int, e = .returned (.tuple #[.int .i64 k, .bool false])) ∧ w = w' := by
  have HG := Lib.hid (get_short w hb 0 2 (by decide) (by omega) (by omega))
  go_enter Try.func55, Try.ntmps55
  go_wp2_with fail
  refine HG.out.mono ?_
  rintro e w' ⟨rfl, rfl⟩
  go_wp2
  go_ret2
  exact ⟨⟨_, rfl⟩, rfl⟩
end Go.Proofs.Ytheinbigegobkaa
