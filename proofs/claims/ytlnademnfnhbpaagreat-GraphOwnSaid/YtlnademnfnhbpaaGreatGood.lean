/- Names: graph.GoodName, the reference's GoodName. -/
import Derived.Test.YtlnademnfnhbpaaGreatRead
import Derived.Deep.LoopGhost
import Derived.Deep.QuietTactic
import Derived.Deep.DeepCutAuto
namespace Go.Proofs.YtlnademnfnhbpaaGreat
open Go.RowKit

/-- A letter of a name. -/
def nameC (c : UInt8) : Bool := (decide (97 ≤ c.toNat) && decide (c.toNat ≤ 122)) || (decide (65 ≤ c.toNat) && decide (c.toNat ≤ 90)) || (decide (48 ≤ c.toNat) && decide (c.toNat ≤ 57)) || decide (c.toNat = 95)
def digitC (c : UInt8) : Bool := decide (48 ≤ c.toNat) && decide (c.toNat ≤ 57)
/-- Does the first letter stand for a name? -/
def headC : List UInt8 → Bool
  | [] => false
  | c :: _ => !digitC c
/-- May the bytes be a name? -/
def goodL (l : List UInt8) : Bool := decide (l.length ≤ 40) && headC l && l.all nameC
def goodN (s : ByteArray) : Bool := goodL s.data.toList

theorem bytes_len (s : ByteArray) : s.data.toList.length = s.size := by rw [Array.length_toList]; rfl
theorem bytes_get (s : ByteArray) {k : Nat} (h : k < s.size) : s.data.toList[k]'(by rw [bytes_len]; exact h) = s[k] := by
  rw [Array.getElem_toList]; rfl
theorem str_empty (s : ByteArray) : s.toList = [] ↔ s.size = 0 := by
  rw [ByteArray.toList_eq, ← bytes_len, List.length_eq_zero_iff]
theorem headC_pos {s : ByteArray} (h : 0 < s.size) : headC s.data.toList = !digitC s[0] := by
  have h1 : 0 < s.data.toList.length := by rw [bytes_len]; exact h
  have h2 : s.data.toList[0]'h1 = s[0] := bytes_get s h
  cases hl : s.data.toList with
  | nil => rw [hl] at h1; simp at h1
  | cons c l => simp only [hl, List.getElem_cons_zero] at h2; simp only [headC]; rw [h2]
theorem all_take {l : List UInt8} {k : Nat} (h : k < l.length) : (l.take (k + 1)).all nameC = ((l.take k).all nameC && nameC l[k]) := by
  rw [List.take_add_one, List.getElem?_eq_getElem h, Option.toList_some, List.all_append]
  simp
theorem all_false {l : List UInt8} {k : Nat} (h : k < l.length) (hc : nameC l[k] = false) : l.all nameC = false := by
  rw [List.all_eq_false]
  exact ⟨l[k], List.getElem_mem h, by rw [hc]; simp⟩

theorem nameC_yes {c : UInt8} (h : (97 ≤ c.toNat ∧ c.toNat ≤ 122) ∨ (65 ≤ c.toNat ∧ c.toNat ≤ 90) ∨ (48 ≤ c.toNat ∧ c.toNat ≤ 57) ∨ c.toNat = 95) : nameC c = true := by
  unfold nameC
  simp only [Bool.or_eq_true, Bool.and_eq_true, decide_eq_true_eq]
  omega
theorem nameC_no {c : UInt8} (h : ¬ ((97 ≤ c.toNat ∧ c.toNat ≤ 122) ∨ (65 ≤ c.toNat ∧ c.toNat ≤ 90) ∨ (48 ≤ c.toNat ∧ c.toNat ≤ 57) ∨ c.toNat = 95)) : nameC c = false := by
  rw [Bool.eq_false_iff]
  intro h2
  unfold nameC at h2
  simp only [Bool.or_eq_true, Bool.and_eq_true, decide_eq_true_eq] at h2
  omega

set_option maxHeartbeats 2000000 in
theorem goodName_spec (s : ByteArray) (w : World) : Calls Tryz.prog 14 #[.string s] w fun e w' => e = .returned (.bool (goodN s)) ∧ w = w' := by
  have HE := Lib.hid (str_empty s)
  by_cases h0 : s.size = 0
  · have he : s.toList = [] := (str_empty s).2 h0
    have HG := Lib.hid (show goodN s = false from by
      unfold goodN goodL
      have : s.data.toList = [] := List.length_eq_zero_iff.1 (by rw [bytes_len]; exact h0)
      rw [this]; rfl)
    go_enter Tryz.func14, Tryz.ntmps14
    go_wp2
    all_goals first
      | (go_ret; exact ⟨by rw [HG.out]; rfl, rfl⟩)
      | (exfalso; simp_all)
  · have hp : 0 < s.size := by omega
    have he : ¬ s.toList = [] := fun h => h0 ((str_empty s).1 h)
    have he2 : s.toList.isEmpty = false := by simpa using he
    by_cases h40 : 40 < s.size
    · have HG := Lib.hid (show goodN s = false from by
        unfold goodN goodL
        rw [bytes_len, decide_eq_false (by omega)]; rfl)
      go_enter Tryz.func14, Tryz.ntmps14
      go_wp2
      go_ret
      exact ⟨by rw [HG.out]; rfl, rfl⟩
    · have HH := Lib.hid (headC_pos hp)
      have hge : ¬ (s.size : Int) ≤ 0 := by omega
      have h40i : ¬ (40 : Int) < s.size := by omega
      by_cases hd : 48 ≤ s[0].toNat ∧ s[0].toNat ≤ 57
      · obtain ⟨d1, d2⟩ := hd
        have HG := Lib.hid (show goodN s = false from by
          unfold goodN goodL
          rw [HH.out]
          simp [digitC, d1, d2])
        go_enter Tryz.func14, Tryz.ntmps14
        go_wp2
        all_goals first
          | (go_ret; exact ⟨by rw [HG.out]; rfl, rfl⟩)
          | (exfalso; simp_all; done)
          | (exfalso; omega)
      · have HD := Lib.hid (show headC s.data.toList = true from by
          rw [HH.out]
          simp only [digitC]
          by_cases d1 : 48 ≤ s[0].toNat
          · rw [decide_eq_true d1, decide_eq_false (by omega)]; rfl
          · rw [decide_eq_false d1]; rfl)
        go_enter Tryz.func14, Tryz.ntmps14
        go_upto_region 1 with fail
        go_cut [21] from 5 to 21 (fun s21 wx => s21 = .bool false ∧ wx = w)
        case first =>
          go_wp2
          all_goals go_meet
          all_goals first
            | exact ⟨rfl, rfl⟩
            | (exfalso; omega)
            | (refine ⟨?_, rfl⟩; congr 1; simp_all; omega)
        case rest =>
          obtain ⟨rfl, rfl⟩ := hcut
          go_wp2_with fail
          clear he he2 hd
          go_loopg [24] s.size (fun gh ix wr => ∃ k : Nat, s.size - k = gh ∧ k ≤ s.size ∧ ix = .int .i64 k ∧ wr = wc ∧ Hid ((s.data.toList.take k).all nameC = true))
          case atStart => exact ⟨0, rfl, Nat.zero_le _, rfl, rfl, Lib.hid rfl⟩
          case round =>
            obtain ⟨k, rfl, hk, rfl, rfl, KA⟩ := hrel
            by_cases hlt : k < s.size
            · have hkl : k < s.data.toList.length := by rw [bytes_len]; exact hlt
              have HAll := Lib.hid (all_take hkl)
              have HFal := Lib.hid (fun h => all_false hkl h)
              have HGet := Lib.hid (bytes_get s hlt)
              go_wp2
              all_goals first
                | (go_roundg (s.size - (k + 1))
                   case measure => omega
                   case rel =>
                     refine ⟨k + 1, rfl, by omega, by go_num, rfl, Lib.hid ?_⟩
                     rw [HAll.out, KA.out, HGet.out, nameC_yes (by first | omega | (simp only [beq_iff_eq] at *; omega))]
                     rfl)
                | (have HF := Lib.hid (show goodN s = false from by
                     have h1 := HFal.out (by rw [HGet.out]; exact nameC_no (by first | omega | (simp only [beq_eq_false_iff_ne, ne_eq] at *; omega)))
                     unfold goodN goodL
                     rw [h1, Bool.and_false])
                   go_ret
                   exact ⟨by rw [HF.out]; rfl, rfl⟩)
            · have hks : k = s.size := by omega
              have HG := Lib.hid (show goodN s = true from by
                unfold goodN goodL
                have h1 := KA.out
                rw [List.take_of_length_le (by rw [bytes_len]; omega)] at h1
                rw [HD.out, h1, bytes_len, decide_eq_true (by omega)]
                rfl)
              go_wp2
              go_ret
              exact ⟨by rw [HG.out]; rfl, rfl⟩
end Go.Proofs.YtlnademnfnhbpaaGreat
