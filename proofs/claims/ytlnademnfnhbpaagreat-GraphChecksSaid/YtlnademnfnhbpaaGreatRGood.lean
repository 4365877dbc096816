/- Names: the reference's GoodName. -/
import Derived.Test.YtlnademnfnhbpaaGreatGood
import Derived.BigQuiet
namespace Go.Proofs.YtlnademnfnhbpaaGreat
open Go.RowKit

/-- The letters in the reference's order. -/
def lett (k : Nat) : Nat := if k < 26 then 97 + k else if k < 52 then 39 + k else if k = 52 then 95 else k - 5
/-- The place of a byte among them; 63: none. -/
def posC (c : UInt8) : Nat := if 97 ≤ c.toNat ∧ c.toNat ≤ 122 then c.toNat - 97 else if 65 ≤ c.toNat ∧ c.toNat ≤ 90 then c.toNat - 39 else if c.toNat = 95 then 52 else if 48 ≤ c.toNat ∧ c.toNat ≤ 57 then c.toNat + 5 else 63
theorem posC_le (c : UInt8) : posC c ≤ 63 := by
  unfold posC
  have := c.toNat_lt
  repeat' split
  all_goals omega
theorem lett_ne {c : UInt8} {j : Nat} (h : j < posC c) : lett j ≠ c.toNat := by
  have := c.toNat_lt
  unfold posC at h
  unfold lett
  repeat' split at h
  all_goals (repeat' split)
  all_goals omega
theorem lett_at {c : UInt8} (h : posC c < 63) : lett (posC c) = c.toNat := by
  have := c.toNat_lt
  unfold posC at h ⊢
  unfold lett
  repeat' split at h
  all_goals (repeat' split)
  all_goals omega
theorem nameC_pos (c : UInt8) : nameC c = decide (posC c < 63) := by
  by_cases h : (97 ≤ c.toNat ∧ c.toNat ≤ 122) ∨ (65 ≤ c.toNat ∧ c.toNat ≤ 90) ∨ (48 ≤ c.toNat ∧ c.toNat ≤ 57) ∨ c.toNat = 95
  · rw [nameC_yes h, eq_comm, decide_eq_true_eq]
    unfold posC
    repeat' split
    all_goals omega
  · rw [nameC_no h, eq_comm, decide_eq_false_iff_not]
    unfold posC
    repeat' split
    all_goals omega
theorem digitC_pos (c : UInt8) (h : posC c < 63) : digitC c = decide (52 < posC c) := by
  unfold digitC
  rw [Bool.eq_iff_iff, Bool.and_eq_true, decide_eq_true_eq, decide_eq_true_eq, decide_eq_true_eq]
  unfold posC at h ⊢
  repeat' split at h
  all_goals (repeat' split)
  all_goals omega
def letters : ByteArray := ⟨#[97, 98, 99, 100, 101, 102, 103, 104, 105, 106, 107, 108, 109, 110, 111, 112, 113, 114, 115, 116, 117, 118, 119, 120, 121, 122, 65, 66, 67, 68, 69, 70, 71, 72, 73, 74, 75, 76, 77, 78, 79, 80, 81, 82, 83, 84, 85, 86, 87, 88, 89, 90, 95, 48, 49, 50, 51, 52, 53, 54, 55, 56, 57]⟩
theorem letters_at : ∀ k : Fin 63, (letters[k.val]'(by have := k.isLt; show k.val < 63; exact this)).toNat = lett k.val := by decide +kernel
theorem run_letters (w : World) {j : Nat} (h : j < 63) : (Instr.index 9 (.string ⟨#[97, 98, 99, 100, 101, 102, 103, 104, 105, 106, 107, 108, 109, 110, 111, 112, 113, 114, 115, 116, 117, 118, 119, 120, 121, 122, 65, 66, 67, 68, 69, 70, 71, 72, 73, 74, 75, 76, 77, 78, 79, 80, 81, 82, 83, 84, 85, 86, 87, 88, 89, 90, 95, 48, 49, 50, 51, 52, 53, 54, 55, 56, 57]⟩) (.int .i64 j)).run Tryz.prog w = .ok (.int .u8 (lett j : Nat)) w := by
  rw [run_index_string w 9 _ .i64 j Tryz.underlying9, dif_pos ⟨by omega, show (j : Int) < ((63 : Nat) : Int) by omega⟩]
  have h1 := letters_at ⟨j, h⟩
  simp only [letters] at h1
  simp only [Int.toNat_natCast]
  rw [h1]

/-- A digit ahead is no name. -/
theorem goodN_digit {s : ByteArray} (h0 : 0 < s.size) (h : digitC s[0] = true) : goodN s = false := by
  unfold goodN goodL
  rw [headC_pos h0, h]
  simp
theorem goodN_bad {s : ByteArray} {k : Nat} (h0 : k < s.size) (h : nameC s[k] = false) : goodN s = false := by
  unfold goodN goodL
  rw [all_false (k := k) (by rw [bytes_len]; exact h0) (by rw [bytes_get s h0]; exact h)]
  simp

set_option maxHeartbeats 4000000 in
set_option maxRecDepth 100000 in
theorem rgood_spec (s : ByteArray) (w : World) : Calls Tryz.prog 15 #[.string s] w fun e w' => e = .returned (.bool (goodN s)) ∧ Same w w' := by
  by_cases h0 : s.size < 1
  · have HG := Lib.hid (show goodN s = false from by
      unfold goodN goodL
      have : s.data.toList = [] := List.length_eq_zero_iff.1 (by rw [bytes_len]; omega)
      rw [this]; rfl)
    have h0i : (s.size : Int) < 1 := by omega
    go_enter Tryz.func15, Tryz.ntmps15
    go_wp2
    go_ret
    exact ⟨by rw [HG.out]; rfl, Upd.refl _ _⟩
  · by_cases h40 : 40 < s.size
    · have HG := Lib.hid (show goodN s = false from by
        unfold goodN goodL
        rw [bytes_len, decide_eq_false (by omega)]; rfl)
      have h0i : ¬ (s.size : Int) < 1 := by omega
      have h1i : (40 : Int) < s.size := by omega
      go_enter Tryz.func15, Tryz.ntmps15
      go_wp2
      go_ret
      exact ⟨by rw [HG.out]; rfl, Upd.refl _ _⟩
    · have h0i : ¬ (s.size : Int) < 1 := by omega
      have h1i : ¬ (40 : Int) < s.size := by omega
      have HP := Lib.hid (show 0 < s.size by omega)
      go_enter Tryz.func15, Tryz.ntmps15
      go_wp2_with fail
      go_loopg [3] s.size (fun gh ix wr => ∃ k : Nat, s.size - k = gh ∧ k ≤ s.size ∧ ix = .int .i64 k ∧ Hid ((s.data.toList.take k).all nameC = true) ∧ Hid (∀ h : 0 < s.size, 0 < k → digitC s[0] = false) ∧ Hid (Same w wr))
      case atStart => exact ⟨0, rfl, Nat.zero_le _, rfl, Lib.hid rfl, Lib.hid (fun _ h => by omega), Lib.hid (Upd.refl _ _)⟩
      case round =>
        obtain ⟨k, rfl, hk, rfl, KA, KD, KS⟩ := hrel
        by_cases hlt : k < s.size
        · obtain ⟨c, hc⟩ : ∃ c, s[k] = c := ⟨_, rfl⟩
          obtain ⟨p, hp⟩ : ∃ p, posC c = p := ⟨_, rfl⟩
          have hp63 := posC_le c
          rw [hp] at hp63
          have HA1 : Hid (p < 63 → (s.data.toList.take (k + 1)).all nameC = true) := Lib.hid fun h => by
            rw [all_take (by rw [bytes_len]; exact hlt), bytes_get s hlt, KA.out, hc, nameC_pos, hp, decide_eq_true h]
            rfl
          have HB1 : Hid (p = 63 → goodN s = false) := Lib.hid fun h => goodN_bad hlt (by rw [hc, nameC_pos, hp, h]; rfl)
          have HD1 : Hid (k = 0 → 52 < p → p < 63 → goodN s = false) := Lib.hid fun h h1 h2 => by
            subst h
            exact goodN_digit hlt (by rw [hc, digitC_pos c (by rw [hp]; exact h2), hp, decide_eq_true h1])
          have HD2 : Hid (p < 63 → (k = 0 → p ≤ 52) → ∀ h : 0 < s.size, digitC s[0] = false) := Lib.hid fun h1 h2 h => by
            by_cases hk0 : k = 0
            · subst hk0
              rw [hc, digitC_pos c (by rw [hp]; exact h1), hp, decide_eq_false (by have := h2 rfl; omega)]
            · exact KD.out h (by omega)
          have HN1 : Hid (∀ j, j < p → lett j ≠ c.toNat) := Lib.hid fun j hj => lett_ne (by rw [hp]; exact hj)
          have HN2 : Hid (p < 63 → lett p = c.toNat) := Lib.hid fun h => by rw [← hp] at h ⊢; exact lett_at h
          have hcl := c.toNat_lt
          obtain ⟨wo, rfl⟩ : ∃ wo : World, wo = wr := ⟨_, rfl⟩
          clear hp KA KD
          go_wp2_with fail
          go_loopg [4] p (fun gh ix wr => ∃ j : Nat, p - j = gh ∧ j ≤ p ∧ ix = .int .i64 j ∧ Hid (Same w wr))
          case atStart => exact ⟨0, rfl, Nat.zero_le _, rfl, KS⟩
          case round =>
            obtain ⟨j, rfl, hj, rfl, JS⟩ := hrel
            by_cases hjp : j < p
            · have hidx := fun w => run_letters w (j := j) (by omega)
              have hne := HN1.out j hjp
              obtain ⟨L, hL⟩ : ∃ L, lett j = L := ⟨_, rfl⟩
              rw [hL] at hidx hne
              have hn1 : ((L : Int) == (c.toNat : Int)) = false := by simp only [beq_eq_false_iff_ne, ne_eq]; omega
              have hn2 : ((L : Int) != (c.toNat : Int)) = true := by simp only [bne_iff_ne, ne_eq]; omega
              have hj63 : decide ((j : Int) < 63) = true := decide_eq_true (by omega)
              have hki : (k : Int) < s.size := by omega
              clear hL hne
              go_wp2_with fail
              go_quiet (fail)
              go_wp2
              go_roundg (p - (j + 1))
              case measure => omega
              case rel => exact ⟨j + 1, rfl, by omega, by go_num, Lib.hid (JS.out.drewN _)⟩
            · have hjp2 : j = p := by omega
              subst hjp2
              by_cases h63 : j = 63
              · have HG := Lib.hid (HB1.out h63)
                subst h63
                go_wp2_with fail
                go_quiet (fail)
                go_wp2
                go_ret
                exact ⟨by rw [HG.out]; rfl, JS.out.drewN _⟩
              · have hidx := fun w => run_letters w (j := j) (by omega)
                have heq := HN2.out (by omega)
                obtain ⟨L, hL⟩ : ∃ L, lett j = L := ⟨_, rfl⟩
                rw [hL] at hidx heq
                subst heq
                have hj63 : decide ((j : Int) < 63) = true := decide_eq_true (by omega)
                have hj64 : ((j : Int) == 63) = false := by simp only [beq_eq_false_iff_ne, ne_eq]; omega
                have hki : (k : Int) < s.size := by omega
                clear hL
                by_cases hk0 : k = 0
                · subst hk0
                  by_cases h52 : 52 < j
                  · have HG := Lib.hid (HD1.out rfl h52 (by omega))
                    have h52i : decide ((52 : Int) < j) = true := decide_eq_true (by omega)
                    go_wp2_with fail
                    go_quiet (fail)
                    go_wp2
                    go_ret
                    exact ⟨by rw [HG.out]; rfl, JS.out.drewN _⟩
                  · have h52i : decide ((52 : Int) < j) = false := decide_eq_false (by omega)
                    go_wp2_with fail
                    go_quiet (fail)
                    go_wp2
                    go_roundg (s.size - 1)
                    case measure => omega
                    case rel => exact ⟨1, by omega, by omega, by go_num, Lib.hid (HA1.out (by omega)), Lib.hid (fun h _ => HD2.out (by omega) (fun _ => by omega) h), Lib.hid (JS.out.drewN _)⟩
                · have hk0i : ((k : Int) == 0) = false := by simp only [beq_eq_false_iff_ne, ne_eq]; omega
                  go_wp2_with fail
                  go_quiet (fail)
                  go_wp2
                  go_roundg (s.size - (k + 1))
                  case measure => omega
                  case rel => exact ⟨k + 1, by omega, by omega, by go_num, Lib.hid (HA1.out (by omega)), Lib.hid (fun h _ => HD2.out (by omega) (fun h => absurd h hk0) h), Lib.hid (JS.out.drewN _)⟩
        · have hks : k = s.size := by omega
          have HG := Lib.hid (show goodN s = true from by
            unfold goodN goodL
            have h1 := KA.out
            rw [List.take_of_length_le (by rw [bytes_len]; omega)] at h1
            have hp := HP.out
            rw [headC_pos hp, KD.out hp (by omega), h1, bytes_len, decide_eq_true (by omega)]
            rfl)
          go_wp2
          go_ret
          exact ⟨by rw [HG.out]; rfl, KS.out⟩
end Go.Proofs.YtlnademnfnhbpaaGreat
