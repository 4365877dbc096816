/- The law's own helpers: clone, same, speaks. -/
import Derived.Test.YtfgdgpingdgfgaaRead
import Derived.Test.YtfgdgpingdgfgaaEnc2
import Derived.Test.YtfgdgpingdgfgaaEq
import Derived.Test.YtfgdgpingdgfgaaCopy
import Derived.Deep.QuietTactic
import Derived.BigQuiet
namespace Go.Proofs.Ytfgdgpingdgfgaa
open Go.RowKit

set_option maxHeartbeats 400000 in
theorem lclone_spec {F : Nat → Prop} {A : Option Addr} {n c : Nat} {bs : List UInt8} (w : World) (hb : Bytes w F A n c bs) (hn : n ≤ 140737488355328) :
    Calls Try.prog 19 #[.slice A n c] w fun e w' => ∃ v', e = .returned v' ∧ OwnB w' w.heap.size v' bs ∧ Same w w' := by
  have HL := Lib.hid hb.len
  have hmax : n ≤ maxLen := by have := Row.le hb; have := Row.max hb; omega
  go_enter Try.func19, Try.ntmps19
  go_wp2_with (at_builtin; go_must (refine wpList_app rfl (.tmp 3) (.tmp 4) _ _ rfl w.heap.size _ _ _ _ Try.underlying33 info_u8 rfl _ 0 [] rfl (World.ownsRow_made w #[] 0 (Nat.le_refl _) (Nat.zero_le _) rfl) rfl (src_row Try.underlying33 (Row.same hb ((Upd.refl _ w).alloc _)) (u8_oneCell bs)) (by omega) (by omega) (by simp) ?_); intro v' w' happ)
  go_ret
  refine ⟨v', rfl, ?_, ?_⟩
  · have := happ.own
    unfold OwnB
    rw [HL.out]
    simpa using this
  · exact ((Upd.refl _ w).alloc _).trans happ.upd fun b hb hv => by
      have := Option.some.inj hv
      simp only at this
      omega

set_option maxHeartbeats 1000000 in
theorem lsame_spec {F F' : Nat → Prop} {A A' : Option Addr} {n c n' c' : Nat} {xs ys : List UInt8} (w : World) (h : Bytes w F A n c xs) (h' : Bytes w F' A' n' c' ys) {r : Bool} (hr : decide (xs = ys) = r) :
    Calls Try.prog 22 #[.slice A n c, .slice A' n' c'] w fun e w' => e = .returned (.bool r) ∧ Same w w' := by
  subst hr
  have HL := Lib.hid h.len
  have HL' := Lib.hid h'.len
  have hmx := Row.max h
  have hle := Row.le h
  have hmx' := Row.max h'
  have hle' := Row.le h'
  unfold maxLen at hmx hmx'
  have hn : n ≤ 9223372036854775807 := by omega
  have hn' : n' ≤ 9223372036854775807 := by omega
  clear hmx hle hmx' hle'
  by_cases hne : n = n'
  · subst hne
    go_enter Try.func22, Try.ntmps22
    go_wp2
    go_loopw [13] (fun i wr => ∃ k d : Nat, k ≤ n ∧ i = .int .i64 k ∧ wr = w.drewN d ∧ xs.take k = ys.take k) (fun i _ => n - (intOf i).toNat)
    case atStart => exact ⟨0, 0, Nat.zero_le _, rfl, rfl, rfl⟩
    case round =>
      obtain ⟨k, d, hk, rfl, rfl, hpre⟩ := hrel
      have HP := Lib.hid hpre
      clear hpre
      by_cases hlt : k < n
      · obtain ⟨b, o, rfl, hbl, _, hc⟩ := h.at_ hlt
        obtain ⟨b', o', rfl, hbl', _, hc'⟩ := h'.at_ hlt
        have hkl : k < xs.length := by rw [HL.out]; exact hlt
        have hkl' : k < ys.length := by rw [HL'.out]; exact hlt
        have HT := Lib.hid (take_eq_succ hkl hkl' HP.out)
        have HN := Lib.hid (ne_of_at hkl hkl')
        generalize xs[k] = x at *
        generalize ys[k] = y at *
        by_cases hxy : x = y
        · subst hxy
          go_wp2_with fail
          go_quiet (fail)
          go_wp2
          go_roundw
          case rel => exact ⟨k + 1, _, by omega, by go_num, rfl, HT.out (by first | rfl | trivial)⟩
          case measure => simp [intOf]; omega
        · have hxy' : ((x.toNat : Int) != (y.toNat : Int)) = true := by
            rw [bne_iff_ne]
            intro hh
            exact hxy (UInt8.toNat_inj.1 (by omega))
          go_wp2_with fail
          go_quiet (fail)
          go_wp2
          go_ret
          refine ⟨ret_bool ?_, (same_drewN w d).drewN _⟩
          rw [decide_eq_false (HN.out hxy)]
      · obtain rfl : k = n := by omega
        go_wp2
        go_ret
        refine ⟨ret_bool ?_, same_drewN w d⟩
        have hall := HP.out
        rw [List.take_of_length_le (by rw [HL.out]; exact Nat.le_refl _), List.take_of_length_le (by rw [HL'.out]; exact Nat.le_refl _)] at hall
        rw [decide_eq_true hall]
  · have hne' : ((n : Int) != (n' : Int)) = true := by rw [bne_iff_ne]; omega
    go_enter Try.func22, Try.ntmps22
    go_wp2
    go_ret
    refine ⟨ret_bool ?_, Upd.refl _ _⟩
    rw [decide_eq_false (by
      rintro rfl
      exact hne (HL.out.symm.trans HL'.out))]

set_option maxHeartbeats 1000000 in
set_option maxRecDepth 100000 in
theorem speaks_spec (w : World) : Calls Try.prog 13 #[] w fun e w' => e = .returned (.bool true) ∧ Same w w' := by
  have hE := Lib.hid (encode_spec w (RdVal.empty w 4 0 ⟨#[97, 98]⟩ (by decide) (by decide)) (by decide) (by simp))
  have HC9 := Lib.hid fun w1 => check_spec w1 (RdVal.empty w1 9 0 ⟨#[]⟩ (by decide) (by decide)) (by decide) (by simp)
  go_enter Try.func13, Try.ntmps13
  go_wp2_with fail
  refine hE.out.mono ?_
  rintro e w1 ⟨v, rfl, hv, hs1⟩
  rw [show chk ⟨4, 0, ⟨#[97, 98]⟩, [], []⟩ = 0 from by decide]
  rw [show enc ⟨4, 0, ⟨#[97, 98]⟩, [], []⟩ = [4, 0, 2, 97, 98] from by decide] at hv
  obtain ⟨A, m, c, rfl⟩ := own_slice hv
  have HV := Lib.hid ((own_bytes hv).same ((Upd.refl _ w1).alloc (.cells #[.int .u8 4, .int .u8 0, .int .u8 2, .int .u8 97, .int .u8 98] 5)))
  have HW := Lib.hid (show Bytes _ _ _ 5 5 [4, 0, 2, 97, 98] from Row.of_blk (k := 1) (n := 5) (c := 5) (Blk.new w1 5 #[.int .u8 4, .int .u8 0, .int .u8 2, .int .u8 97, .int .u8 98]) rfl (Nat.le_refl _) (by simp [maxLen]))
  have hs2 := hs1.alloc (.cells #[.int .u8 4, .int .u8 0, .int .u8 2, .int .u8 97, .int .u8 98] 5)
  clear hv hs1
  go_wp2_with fail
  refine (lsame_spec _ HV.out HW.out (r := true) (by decide)).mono ?_
  rintro e w2 ⟨rfl, hs3⟩
  have hs4 := hs2.same hs3
  clear hs2 hs3 HV HW
  have HW := Lib.hid (show Bytes _ _ _ 2 2 [1, 1] from Row.of_blk (k := 1) (n := 2) (c := 2) (Blk.new w2 5 #[.int .u8 1, .int .u8 1]) rfl (Nat.le_refl _) (by simp [maxLen]))
  have hs5 := hs4.alloc (.cells #[.int .u8 1, .int .u8 1] 5)
  clear hs4
  go_wp2_with fail
  refine (decode_spec _ HW.out (⟨1, 1, ⟨#[]⟩, [], []⟩, 0) (by rfl)).mono ?_
  rintro e w3 ⟨v, rfl, hnv, hs6⟩
  obtain ⟨A1, n1, c1, A2, n2, c2, rfl, hrd⟩ := hnv.rd ⟨by decide, by decide, by simp⟩
  have hs7 := (hs5.same hs6).alloc (.cells #[.int .i64 1, .int .i64 1, .string ⟨#[]⟩, .slice A1 n1 c1, .slice A2 n2 c2] 26)
  have hb7 := Blk.new w3 26 #[.int .i64 1, .int .i64 1, .string ⟨#[]⟩, .slice A1 n1 c1, .slice A2 n2 c2]
  have HR := Lib.hid (hrd.same ((Upd.refl _ w3).alloc (.cells #[.int .i64 1, .int .i64 1, .string ⟨#[]⟩, .slice A1 n1 c1, .slice A2 n2 c2] 26)))
  obtain ⟨k0, k1, k2, k3, k4⟩ := hb7.five
  clear hs5 hs6 hnv hrd HW
  go_wp2_with fail
  refine (HC9.out _).mono ?_
  rintro e w4 ⟨rfl, hs8⟩
  rw [show chk ⟨9, 0, ⟨#[]⟩, [], []⟩ = 40 from by decide]
  obtain ⟨q0, q1, q2, q3, q4⟩ := (hb7.same hs8).five
  have HR2 := Lib.hid (HR.out.same hs8)
  have hs9 := hs7.same hs8
  clear k0 k1 k2 k3 k4 hs7 hb7
  go_wp2_with fail
  refine (vsame_spec _ HR2.out HR2.out).mono ?_
  rintro e w5 ⟨rfl, hs10⟩
  rw [show sameB ⟨1, 1, ⟨#[]⟩, [], []⟩ ⟨1, 1, ⟨#[]⟩, [], []⟩ = true from (sameB_iff _ _).2 rfl]
  go_wp2
  go_ret
  exact ⟨rfl, hs9.same hs10⟩
end Go.Proofs.Ytfgdgpingdgfgaa
