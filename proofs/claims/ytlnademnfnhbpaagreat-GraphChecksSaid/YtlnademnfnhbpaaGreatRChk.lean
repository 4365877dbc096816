/- The reference's check of a value. -/
import Derived.Test.YtlnademnfnhbpaaGreatVal2
import Derived.Deep.QuietTactic
import Derived.BigQuiet
import Derived.Deep.DeepCutAuto
namespace Go.Proofs.YtlnademnfnhbpaaGreat
open Go.RowKit

theorem numErr3' (n : Int) : numErr 3 n = if (IntKind.u64.wrap ((IntKind.u64.wrap n).tdiv 4503599627370496)).tmod 2048 = 2047 ∧ ¬ (IntKind.u64.wrap n).tmod 4503599627370496 = 0 ∧ (IntKind.u64.wrap n != 9221120237041090560) = true then 43 else 0 := by
  rw [wrapU n]
  have hlt := u64_lt n
  unfold numErr nanB
  generalize u64 n = U at *
  have e1 : ((U : Int).tdiv 4503599627370496) = ((U / 4503599627370496 : Nat) : Int) := by
    rw [Int.tdiv_eq_ediv_of_nonneg (by omega)]; omega
  have e2 : IntKind.u64.wrap ((U / 4503599627370496 : Nat) : Int) = ((U / 4503599627370496 : Nat) : Int) := IntWalk.u64_in _ ⟨by omega, by omega⟩
  have e3 : (((U / 4503599627370496 : Nat) : Int).tmod 2048) = ((U / 4503599627370496 % 2048 : Nat) : Int) := by
    rw [Int.tmod_eq_emod_of_nonneg (by omega)]; omega
  have e4 : ((U : Int).tmod 4503599627370496) = ((U % 4503599627370496 : Nat) : Int) := by
    rw [Int.tmod_eq_emod_of_nonneg (by omega)]; omega
  rw [e1, e2, e3, e4]
  simp only [Bool.and_eq_true, beq_iff_eq, bne_iff_ne, ne_eq]
  by_cases h1 : U / 4503599627370496 % 2048 = 2047
  · by_cases h2 : U % 4503599627370496 = 0
    · rw [if_neg (by omega), if_neg (by omega), if_neg (by omega)]
    · by_cases h3 : U = 9221120237041090560
      · rw [if_neg (by omega), if_neg (by omega), if_neg (by omega)]
      · rw [if_neg (by omega), if_pos ⟨trivial, ⟨h1, h2⟩, h3⟩, if_pos ⟨by omega, by omega, by omega⟩]
  · rw [if_neg (by omega), if_neg (fun h => h1 h.2.1.1), if_neg (fun h => h1 (by omega))]

set_option maxRecDepth 100000 in
theorem numWrong_spec (k n : Int) (w : World) : Calls Tryz.prog 83 #[.int .i64 k, .int .i64 n] w fun e w' => e = .returned (.int .i64 (numErr k n)) ∧ w = w' := by
  by_cases hk : k = 1
  · subst hk
    by_cases h0 : n = 0
    · subst h0
      go_enter Tryz.func83, Tryz.ntmps83
      go_wp2
      go_ret
      exact ⟨ret_int (by decide), rfl⟩
    · by_cases h1 : n = 1
      · subst h1
        go_enter Tryz.func83, Tryz.ntmps83
        go_wp2
        go_ret
        exact ⟨ret_int (by decide), rfl⟩
      · have h0' : (n != 0) = true := by simpa using h0
        have h1' : (n != 1) = true := by simpa using h1
        go_enter Tryz.func83, Tryz.ntmps83
        go_wp2
        go_ret
        exact ⟨ret_int (by simp [numErr, h0, h1]), rfl⟩
  · have hk' : (k == 1) = false := by simpa using hk
    by_cases hk3 : k = 3
    · subst hk3
      clear hk hk'
      go_enter Tryz.func83, Tryz.ntmps83
      go_wp2
      all_goals
        go_ret
        refine ⟨ret_int ?_, rfl⟩
        rw [numErr3']
      · rename_i h1 h2
        rw [if_neg (fun h => h.2.1 h2)]
      · rename_i h1 h2 h3
        rw [if_pos ⟨h1, h2, h3.2⟩]
      · rename_i h1 h2 h3
        rw [if_neg (fun h => by rcases h3 with h3 | h3; exact absurd h3 (by simpa using h2); rw [h.2.2] at h3; cases h3)]
      · rename_i h1
        rw [if_neg (fun h => h1 h.1)]
    · have hk3' : (k == 3) = false := by simpa using hk3
      have hz : numErr k n = 0 := by simp [numErr, hk, hk3]
      go_enter Tryz.func83, Tryz.ntmps83
      go_wp2
      go_ret
      exact ⟨ret_int hz.symm, rfl⟩

theorem quiet_left {P : Program} {f : FuncId} {args : Array Value} {w : World} {n : Nat} {v : Value} (h : Calls P f args (w.drewN n) fun e w' => e = .returned v ∧ w.drewN n = w') :
    Calls P f args (w.drewN n) fun e w'' => e = .returned v ∧ ∃ m, w'' = w.drewN m := h.mono fun _ _ ⟨he, hm⟩ => ⟨he, n, hm.symm⟩
theorem quiet_add_left {P : Program} {f : FuncId} {args : Array Value} {w : World} {a n : Nat} {v : Value} (h : Calls P f args (w.drewN (a + n)) fun e w' => e = .returned v ∧ w.drewN (a + n) = w') :
    Calls P f args (w.drewN (a + n)) fun e w'' => e = .returned v ∧ ∃ m, w'' = w.drewN (a + m) := h.mono fun _ _ ⟨he, hm⟩ => ⟨he, n, hm.symm⟩

/-- What the fields say where none is unused. -/
theorem chk_after {g : GVal} (hr : ¬ (g.kind < 1 ∨ 8 < g.kind)) (hf : fieldBad g = false) (hl : ¬ (40 < g.nums.length ∨ 40 < g.texts.length)) :
    chk g = if g.kind < 4 then numErr g.kind g.num else if g.kind = 4 ∧ 1000 < g.text.size then 44 else if numsErr (g.kind - 4) g.nums ≠ 0 then numsErr (g.kind - 4) g.nums else if longAny g.texts = true then 44 else 0 := by
  obtain ⟨kind, num, text, nums, texts⟩ := g
  simp only at hr hl
  unfold chk
  rw [if_neg hr, if_neg (by rw [hf]; simp), if_neg hl]
  simp only [fieldBad, Bool.or_eq_false_iff, Bool.and_eq_false_imp, bne_iff_ne, ne_eq, decide_eq_false_iff_not, bne_eq_false_iff_eq, beq_eq_false_iff_ne] at hf
  obtain ⟨⟨⟨f1, f2⟩, f3⟩, f4⟩ := hf
  change (if 1000 < text.size ∨ longAny texts = true then (44 : Int) else if kind < 4 then numErr kind num else numsErr (kind - 4) nums) = _
  simp only
  by_cases h4 : kind < 4
  · have e1 : text.size = 0 := Classical.byContradiction fun h => by have := f2 h; omega
    have e2 : texts = [] := List.eq_nil_of_length_eq_zero (Classical.byContradiction fun h => by have := f4 h; omega)
    subst e2
    rw [if_neg (by simp [e1, longAny]), if_pos h4, if_pos h4]
  · rw [if_neg h4, if_neg h4]
    by_cases h44 : kind = 4
    · subst h44
      have e1 : nums = [] := List.eq_nil_of_length_eq_zero (Classical.byContradiction fun h => by have := (f3 h).1; omega)
      have e2 : texts = [] := List.eq_nil_of_length_eq_zero (Classical.byContradiction fun h => by have := f4 h; omega)
      subst e1
      subst e2
      by_cases ht : 1000 < text.size
      · rw [if_pos (.inl ht), if_pos ⟨rfl, ht⟩]
      · simp [longAny, numsErr, ht]
    · have e1 : text.size = 0 := Classical.byContradiction fun h => by have := f2 h; omega
      by_cases h8 : kind = 8
      · have e2 : nums = [] := List.eq_nil_of_length_eq_zero (Classical.byContradiction fun h => by have := (f3 h).2; omega)
        subst e2
        simp [numsErr, e1]
      · have e2 : texts = [] := List.eq_nil_of_length_eq_zero (Classical.byContradiction fun h => by have := f4 h; omega)
        subst e2
        rw [if_neg (by simp [e1, longAny]), if_neg (by omega)]
        by_cases hz : numsErr (kind - 4) nums = 0
        · rw [hz]; simp [longAny]
        · rw [if_pos hz]

set_option maxHeartbeats 4000000 in
set_option maxRecDepth 100000 in
theorem rcheck_spec {F : Nat → Prop} {A1 A2 : Option Addr} {n1 c1 n2 c2 : Nat} {g : GVal} (w : World) (h : RdVal w F A1 n1 c1 A2 n2 c2 g) (hx : g.text.size ≤ 9223372036854775807) (hts : ∀ s ∈ g.texts, s.size ≤ 9223372036854775807) :
    Calls Tryz.prog 62 #[g.val A1 n1 c1 A2 n2 c2] w fun e w' => e = .returned (.int .i64 (chk g)) ∧ Same w w' := by
  obtain ⟨kind, num, text, nums, texts⟩ := g
  simp only [GVal.val]
  simp only at hx hts
  have HR := Lib.hid h
  have HL1 := Lib.hid (show nums.length = n1 from h.len1)
  have HL2 := Lib.hid (show texts.length = n2 from h.len2)
  have hn1 : n1 ≤ 9223372036854775807 := by have := h.nums.le; have := h.nums.max; unfold maxLen at this; omega
  have hn2 : n2 ≤ 9223372036854775807 := by have := h.texts.le; have := h.texts.max; unfold maxLen at this; omega
  have HTS := Lib.hid hts
  clear h hts
  by_cases hr1 : kind < 1
  · have HB := Lib.hid (show chk ⟨kind, num, text, nums, texts⟩ = 40 from by unfold chk; rw [if_pos (.inl hr1)])
    go_enter Tryz.func62, Tryz.ntmps62
    go_wp2
    go_ret
    exact ⟨ret_int HB.out.symm, (Upd.refl _ w).alloc _⟩
  by_cases hr8 : 8 < kind
  · have HB := Lib.hid (show chk ⟨kind, num, text, nums, texts⟩ = 40 from by unfold chk; rw [if_pos (.inr hr8)])
    go_enter Tryz.func62, Tryz.ntmps62
    go_wp2
    go_ret
    exact ⟨ret_int HB.out.symm, (Upd.refl _ w).alloc _⟩
  have HRG := Lib.hid (show ¬ (kind < 1 ∨ 8 < kind) from by omega)
  have HFB := Lib.hid (show fieldBad ⟨kind, num, text, nums, texts⟩ = badB kind num text.size n1 n2 from by
    simp only [fieldBad, badB, HL1.out, HL2.out])
  go_enter Tryz.func62, Tryz.ntmps62
  go_upto_region 3 with fail
  go_cut [0, 58] from 6 (fun _ s58 wx => s58 = .bool (badB kind num text.size n1 n2) ∧ wx = w.alloc (.cells #[.int .i64 kind, .int .i64 num, .string text, .slice A1 n1 c1, .slice A2 n2 c2] 43))
  case first =>
    go_wp2_with fail
    all_goals
      go_meet
      case rel =>
        clear HFB HRG HTS HL1 HL2 HR
        refine ⟨congrArg Value.bool ?_, by simp [*]⟩
        unfold badB
        rw [str_size]
        simp [*] <;> grind
  case rest =>
    obtain ⟨rfl, rfl⟩ := hcut
    have hs0 := (Upd.refl (fun _ => False) w).alloc (.cells #[.int .i64 kind, .int .i64 num, .string text, .slice A1 n1 c1, .slice A2 n2 c2] 43)
    have hb0 := Blk.new w 43 #[.int .i64 kind, .int .i64 num, .string text, .slice A1 n1 c1, .slice A2 n2 c2]
    have hc0 := hb0.cell 0
    have hc1 := hb0.cell 1
    have hc2 := hb0.cell 2
    have hc3 := hb0.cell 3
    have hc4 := hb0.cell 4
    simp only [List.getElem?_toArray, List.getElem?_cons_succ, List.getElem?_cons_zero] at hc0 hc1 hc2 hc3 hc4
    clear hb0
    revert hs0 hc0 hc1 hc2 hc3 hc4
    generalize w.alloc (.cells #[.int .i64 kind, .int .i64 num, .string text, .slice A1 n1 c1, .slice A2 n2 c2] 43) = W
    intro hs0 hc0 hc1 hc2 hc3 hc4
    have HW := Lib.hid (HR.out.same hs0)
    have HS := Lib.hid hs0
    clear hs0
    by_cases hf : badB kind num text.size n1 n2 = true
    · have HB := Lib.hid (show chk ⟨kind, num, text, nums, texts⟩ = 41 from by unfold chk; rw [if_neg HRG.out, if_pos (by rw [HFB.out]; exact hf)])
      rw [hf]
      clear hf
      go_wp2
      go_ret
      exact ⟨ret_int HB.out.symm, HS.out⟩
    have hff : badB kind num text.size n1 n2 = false := by simpa using hf
    have HF := Lib.hid (HFB.out.trans hff)
    rw [hff]
    clear hf hff
    by_cases hl1 : 40 < n1
    · have HB := Lib.hid (show chk ⟨kind, num, text, nums, texts⟩ = 45 from by
        unfold chk; rw [if_neg HRG.out, if_neg (by rw [HF.out]; simp), if_pos (.inl (by rw [HL1.out]; exact hl1))])
      go_wp2
      go_ret
      exact ⟨ret_int HB.out.symm, HS.out⟩
    by_cases hl2 : 40 < n2
    · have HB := Lib.hid (show chk ⟨kind, num, text, nums, texts⟩ = 45 from by
        unfold chk; rw [if_neg HRG.out, if_neg (by rw [HF.out]; simp), if_pos (.inr (by rw [HL2.out]; exact hl2))])
      go_wp2
      go_ret
      exact ⟨ret_int HB.out.symm, HS.out⟩
    have HC := Lib.hid (chk_after HRG.out HF.out (show ¬ (40 < nums.length ∨ 40 < texts.length) from by rw [HL1.out, HL2.out]; omega))
    by_cases h4 : kind < 4
    · have HB := Lib.hid (HC.out.trans (if_pos h4))
      go_wp2_with fail
      refine (numWrong_spec _ _ _).mono ?_
      rintro e w1 ⟨rfl, rfl⟩
      go_wp2
      go_ret
      exact ⟨ret_int HB.out.symm, HS.out⟩
    have HC1 := Lib.hid (HC.out.trans (if_neg h4))
    by_cases h44 : kind = 4 ∧ 1000 < text.size
    · obtain ⟨rfl, ht⟩ := h44
      have HB := Lib.hid (HC1.out.trans (if_pos ⟨rfl, ht⟩))
      go_wp2
      go_ret
      exact ⟨ret_int HB.out.symm, HS.out⟩
    have HC2 := Lib.hid (HC1.out.trans (if_neg h44))
    go_upto_region 9 with fail
    go_cut [0, 85] from 6 (fun _ s85 wx => s85 = .bool false ∧ wx = W)
    case first =>
      by_cases hk4 : kind = 4
      · have ht : ¬ 1000 < text.size := fun hh => h44 ⟨hk4, hh⟩
        subst hk4
        clear h44
        go_wp2_with fail
        go_meet
        case rel => exact ⟨by simp; omega, rfl⟩
      · clear h44
        go_wp2_with fail
        go_meet
        case rel => exact ⟨rfl, rfl⟩
    case rest =>
      obtain ⟨rfl, rfl⟩ := hcut
      clear h44
      have hq := fun (n : Int) (W : World) => numWrong_spec (kind - 4) n W
      have HQ := Lib.hid hq
      clear hq
      go_wp2
      go_loopw [3] (fun i wr => ∃ k d : Nat, k ≤ n1 ∧ i = .int .i64 k ∧ wr = wc.drewN d ∧ Hid (numsErr (kind - 4) (nums.take k) = 0)) (fun i _ => n1 - (intOf i).toNat)
      case atStart => exact ⟨0, 0, Nat.zero_le _, rfl, rfl, Lib.hid rfl⟩
      case round =>
        obtain ⟨k, d, hk, rfl, rfl, hno⟩ := hrel
        by_cases hlt : k < n1
        · obtain ⟨b, o, u, rfl, hbl, _, hu, hc⟩ := HW.out.nums.at_ hlt
          have hkl : k < nums.length := by rw [HL1.out]; exact hlt
          simp only [List.getElem?_map, List.getElem?_eq_getElem hkl, Option.map_some, Option.some.injEq] at hu
          subst hu
          have HN := Lib.hid (numsErr_take (kind - 4) nums k hkl hno.out)
          have HS1 := Lib.hid (numsErr_stop (kind - 4) nums (k + 1))
          generalize nums[k] = x at *
          by_cases hz : numErr (kind - 4) x = 0
          · go_wp2_with fail
            go_quiet ((go_at_call 83; exact quiet_add_left (HQ.out _ _)))
            have HZ := Lib.hid hz
            go_wp2
            go_roundw
            case rel => exact ⟨k + 1, _, by omega, by go_num, rfl, Lib.hid (HN.out.trans HZ.out)⟩
            case measure => simp [intOf]; omega
          · have hz' : (numErr (kind - 4) x != 0) = true := by simpa using hz
            go_wp2_with fail
            go_quiet ((go_at_call 83; exact quiet_add_left (HQ.out _ _)))
            have HZ := Lib.hid hz
            clear hz
            go_wp2
            go_ret
            refine ⟨ret_int ?_, HS.out.drewN _⟩
            have e1 := HS1.out (by rw [HN.out]; exact HZ.out)
            have e2 := HC2.out
            rw [e2, e1, HN.out, if_pos HZ.out]
        · obtain rfl : k = n1 := by omega
          have HZ := Lib.hid (show numsErr (kind - 4) nums = 0 from by
            have := hno.out
            rwa [List.take_of_length_le (by rw [HL1.out]; exact Nat.le_refl _)] at this)
          have HC3 := Lib.hid (show chk ⟨kind, num, text, nums, texts⟩ = if longAny texts = true then 44 else 0 from by
            have e2 := HC2.out
            rw [e2, HZ.out]; rfl)
          go_wp2
          go_loopw [5] (fun i wr => ∃ k : Nat, k ≤ n2 ∧ i = .int .i64 k ∧ wr = wc.drewN d ∧ Hid (longAny (texts.take k) = false)) (fun i _ => n2 - (intOf i).toNat)
          case atStart => exact ⟨0, Nat.zero_le _, rfl, rfl, Lib.hid rfl⟩
          case round =>
            obtain ⟨k2, hk2, rfl, rfl, hno2⟩ := hrel
            by_cases hlt : k2 < n2
            · obtain ⟨b, o, u, rfl, hbl, _, hu, hc⟩ := HW.out.texts.at_ hlt
              have hkl : k2 < texts.length := by rw [HL2.out]; exact hlt
              simp only [List.getElem?_map, List.getElem?_eq_getElem hkl, Option.map_some, Option.some.injEq] at hu
              subst hu
              have HTk := Lib.hid (show longAny (texts.take (k2 + 1)) = (longAny (texts.take k2) || decide (1000 < texts[k2].size)) from by
                rw [List.take_succ_eq_append_getElem hkl]; unfold longAny; rw [List.any_append, List.any_cons, List.any_nil, Bool.or_false])
              have HSz := Lib.hid (HTS.out texts[k2] (List.getElem_mem hkl))
              generalize texts[k2] = x at *
              by_cases hbig : 1000 < x.size
              · have HBg := Lib.hid hbig
                go_wp2
                go_ret
                refine ⟨ret_int ?_, HS.out.drewN _⟩
                have h1 := HTk.out
                rw [decide_eq_true HBg.out, Bool.or_true] at h1
                have h2 : longAny texts = true := by
                  unfold longAny at h1 ⊢
                  obtain ⟨y, hy, hy2⟩ := List.any_eq_true.1 h1
                  exact List.any_eq_true.2 ⟨y, List.mem_of_mem_take hy, hy2⟩
                rw [HC3.out, if_pos h2]
              · have HBg := Lib.hid hbig
                go_wp2
                go_roundw
                case rel =>
                  refine ⟨k2 + 1, by omega, by go_num, by first | rfl | trivial, Lib.hid ?_⟩
                  rw [HTk.out, hno2.out, decide_eq_false HBg.out]
                  rfl
                case measure => simp [intOf]; omega
            · obtain rfl : k2 = n2 := by omega
              go_wp2
              go_ret
              refine ⟨ret_int ?_, HS.out.drewN _⟩
              have h1 := hno2.out
              rw [List.take_of_length_le (by rw [HL2.out]; exact Nat.le_refl _)] at h1
              rw [HC3.out, h1]
              rfl
end Go.Proofs.YtlnademnfnhbpaaGreat
