/- The reference's Sorted. -/
import Derived.Test.YtlnademnfnhbpaaGreatMergeS
import Derived.Test.YtlnademnfnhbpaaGreatCopyG
import Derived.BigQuiet
namespace Go.Proofs.YtlnademnfnhbpaaGreat
open Go.RowKit

theorem WRow.tail {w : World} {F : Nat → Prop} {A : Option Addr} {n c : Nat} {ls : List ByteArray} (h : WRow w F 1 A n c (ls.map Value.string)) {q : Nat} (hq : q < n) :
    ∃ b o, A = some ⟨b, o, none⟩ ∧ WRow w F 1 (some ⟨b, o + q, none⟩) (n - q) (c - q) ((ls.drop q).map Value.string) := by
  obtain ⟨b, o, _, hA, _⟩ := h.at_ (i := q) hq
  subst hA
  have hc := Row.cut (h.row (by omega)) (j := q) (m := n) (by omega) (Nat.le_refl n)
  have hle := h.le
  rw [if_neg (by omega)] at hc
  simp only [Nat.mul_one, Option.map_some, addr_add] at hc
  rw [List.take_of_length_le (by rw [List.length_drop, h.len]; omega), ← List.map_drop] at hc
  exact ⟨b, o, rfl, hc.weak⟩
theorem WRow.front {w : World} {F : Nat → Prop} {A : Option Addr} {n c : Nat} {ls : List ByteArray} (h : WRow w F 1 A n c (ls.map Value.string)) {q : Nat} (hq : q < n) : WRow w F 1 A q c ((ls.take q).map Value.string) := by
  obtain ⟨b, o, _, hA, _⟩ := h.at_ (i := q) hq
  subst hA
  have hc := Row.cut (h.row (by omega)) (j := 0) (m := q) (by omega) (by omega)
  have hle := h.le
  rw [if_neg (by omega)] at hc
  simp only [Nat.mul_one, Nat.sub_zero, List.drop_zero, Option.map_some, addr_add, Nat.add_zero] at hc
  rw [← List.map_take] at hc
  exact hc.weak

set_option maxHeartbeats 8000000 in
set_option maxRecDepth 100000 in
theorem rsorted_spec : ∀ (N : Nat) {F : Nat → Prop} {A : Option Addr} {n c : Nat} {ls : List ByteArray} (w : World), n ≤ N → WRow w F 1 A n c (ls.map Value.string) → n ≤ 8796093022208 →
    Calls Tryz.prog 53 #[.slice A n c] w fun e w' => ∃ (A' : Option Addr) (c' : Nat) (m : List ByteArray), e = .returned (.slice A' m.length c') ∧ m.length ≤ n ∧ Hid (Srt ls m) ∧ Hid (w'.ownsRow w.heap.size 9 1 (.slice A' m.length c') m.length (m.map Value.string)) ∧ Same w w' := by
  intro N
  induction N with
  | zero =>
    intro F A n c ls w hnN h hn
    have HL := Lib.hid (show ls.length = n from by have := h.len; simpa using this)
    have h2i : (n : Int) < 2 := by omega
    go_enter Tryz.func53, Tryz.ntmps53
    go_wp2_with (at_builtin; go_must (refine wpList_app rfl (.tmp 12) (.tmp 13) _ _ rfl w.heap.size _ _ _ _ Tryz.underlying37 info_string rfl _ 0 [] rfl (World.ownsRow_made w #[] 0 (Nat.le_refl _) (Nat.zero_le _) rfl) rfl (src_wrow Tryz.underlying37 (WRow.same h ((Upd.refl _ w).alloc _)) (str_one ls)) (by unfold maxLen; omega) (by omega) (by simp) ?_); intro v' w' happ)
    go_ret
    have ho := happ.own
    rw [Nat.zero_add, List.nil_append] at ho
    rw [← HL.out] at ho
    obtain ⟨A', c', rfl⟩ := own_form ho
    refine ⟨A', c', ls, rfl, by rw [HL.out]; exact Nat.le_refl _, Lib.hid ⟨?_, fun _ => Iff.rfl⟩, Lib.hid ho, ?_⟩
    · have h1 := HL.out
      match ls, h1 with
      | [], _ => exact List.Pairwise.nil
      | [_], _ => exact List.pairwise_singleton _ _
      | _ :: _ :: _, h1 => simp at h1; omega
    · exact ((Upd.refl _ w).alloc _).trans happ.upd fun b hb hv => by
        have := Option.some.inj hv
        simp only at this
        omega
  | succ N ih =>
    intro F A n c ls w hnN h hn
    have HL := Lib.hid (show ls.length = n from by have := h.len; simpa using this)
    by_cases h2 : n < 2
    · have h2i : (n : Int) < 2 := by omega
      go_enter Tryz.func53, Tryz.ntmps53
      go_wp2_with (at_builtin; go_must (refine wpList_app rfl (.tmp 12) (.tmp 13) _ _ rfl w.heap.size _ _ _ _ Tryz.underlying37 info_string rfl _ 0 [] rfl (World.ownsRow_made w #[] 0 (Nat.le_refl _) (Nat.zero_le _) rfl) rfl (src_wrow Tryz.underlying37 (WRow.same h ((Upd.refl _ w).alloc _)) (str_one ls)) (by unfold maxLen; omega) (by omega) (by simp) ?_); intro v' w' happ)
      go_ret
      have ho := happ.own
      rw [Nat.zero_add, List.nil_append] at ho
      rw [← HL.out] at ho
      obtain ⟨A', c', rfl⟩ := own_form ho
      refine ⟨A', c', ls, rfl, by rw [HL.out]; exact Nat.le_refl _, Lib.hid ⟨?_, fun _ => Iff.rfl⟩, Lib.hid ho, ?_⟩
      · have h1 := HL.out
        match ls, h1 with
        | [], _ => exact List.Pairwise.nil
        | [_], _ => exact List.pairwise_singleton _ _
        | _ :: _ :: _, h1 => simp at h1; omega
      · exact ((Upd.refl _ w).alloc _).trans happ.upd fun b hb hv => by
          have := Option.some.inj hv
          simp only at this
          omega
    · obtain ⟨q, hq⟩ : ∃ q, n / 2 = q := ⟨_, rfl⟩
      have h2i : ¬ (n : Int) < 2 := by omega
      have hq1 : q < n := by omega
      have hq0 : 1 ≤ q := by omega
      have hqi : (n : Int) / 2 = (q : Int) := by omega
      have hqt : Int.tdiv (n : Int) 2 = (q : Int) := by rw [Int.tdiv_eq_ediv_of_nonneg (by omega)]; exact hqi
      obtain ⟨b, o, rfl, ht⟩ := h.tail hq1
      have hf := h.front hq1
      have HT := Lib.hid ht
      have HF := Lib.hid hf
      have hle := h.le
      have hmx := h.max
      unfold maxLen at hmx
      clear ht hf h
      go_enter Tryz.func53, Tryz.ntmps53
      go_wp2_with fail
      refine (ih _ (by omega) HF.out (by omega)).mono ?_
      rintro e w1 ⟨A1, c1, ma, rfl, hlma, HSa, HOa, hs1⟩
      have HT1 := Lib.hid (HT.out.same hs1)
      have S1 := Lib.hid hs1
      clear hs1 HT HF
      go_wp2_with fail
      refine (ih _ (by omega) HT1.out (by omega)).mono ?_
      rintro e w2 ⟨A2, c2, mb, rfl, hlmb, HSb, HOb, hs2⟩
      have S2 := Lib.hid (S1.out.same hs2)
      have HOa2 := Lib.hid (own_same HOa.out hs2)
      have HSn := Lib.hid (show ∀ out, Srt (ls.take q ++ ls.drop q) out → Srt ls out from fun out h => by rw [List.take_append_drop] at h; exact h)
      have hz1 := S1.out.size
      have hz2 := hs2.size
      clear hs2 HT1 HOa
      have HWa := Lib.hid ((own_rdK HOa2.out).mono (F' := fun b => b < w2.heap.size) fun _ _ h => h.2)
      have HWb := Lib.hid ((own_rdK HOb.out).mono (F' := fun b => b < w2.heap.size) fun _ _ h => h.2)
      have ha1 := HWa.out.max
      have hb1 := HWb.out.max
      have ha2 := HWa.out.le
      have hb2 := HWb.out.le
      unfold maxLen at ha1 hb1
      clear HOa2 HOb
      obtain ⟨la, hla⟩ : ∃ la, ma.length = la := ⟨_, rfl⟩
      obtain ⟨lb, hlb⟩ : ∃ lb, mb.length = lb := ⟨_, rfl⟩
      rw [hla] at HWa ha2 hlma ⊢
      rw [hlb] at HWb hb2 hlmb ⊢
      have hA := Lib.hid hla
      have hB := Lib.hid hlb
      clear hla hlb
      go_wp2_with fail
      go_loopg [5, 6, 7] (la + lb) (fun gh s5 s6 s7 wr => ∃ (i j : Nat) (out : List ByteArray), la + lb - (i + j) = gh ∧ i ≤ la ∧ j ≤ lb ∧ s6 = .int .i64 i ∧ s7 = .int .i64 j ∧ Hid (MInv ma mb i j out) ∧ Hid (wr.ownsRow w2.heap.size 9 1 s5 out.length (out.map Value.string)) ∧ Hid (Same w2 wr) ∧ Hid (out.length ≤ i + j))
      case atStart => exact ⟨0, 0, [], rfl, Nat.zero_le _, Nat.zero_le _, rfl, rfl, Lib.hid (MInv.start _ _), Lib.hid (World.ownsRow_made w2 #[] 0 (Nat.le_refl _) (Nat.zero_le _) rfl), Lib.hid ((Upd.refl _ _).alloc _), Lib.hid (Nat.le_refl _)⟩
      case round =>
        obtain ⟨i, j, out, rfl, hi, hj, rfl, rfl, KM, KO, KS, KL⟩ := hrel
        by_cases hgo : i < la ∨ j < lb
        · have HWa1 := Lib.hid (HWa.out.same KS.out)
          have HWb1 := Lib.hid (HWb.out.same KS.out)
          have HPa := Lib.hid (HSa.out.sorted)
          have HPb := Lib.hid (HSb.out.sorted)
          by_cases hia : i < la
          · go_upto_region 9 with fail
            go_cut [58] from 38 to 87 (fun s58 wx => ∃ r : Bool, s58 = .bool r ∧ Hid (r = true → ∃ x, ma[i]? = some x ∧ Pick ma mb i j x (i + 1) j) ∧ Hid (r = false → ∃ y, mb[j]? = some y ∧ Pick ma mb i j y i (j + 1)) ∧ Hid (Same wr wx))
            case first =>
              obtain ⟨x, hx⟩ : ∃ x, ma[i]? = some x := ⟨_, List.getElem?_eq_getElem (by rw [hA.out]; exact hia)⟩
              obtain ⟨b1, o1, u1, rfl, _, _, hu1, r1⟩ := HWa1.out.at_ hia
              rw [List.getElem?_map, hx] at hu1
              cases hu1
              have HX := Lib.hid hx
              clear hx
              by_cases hjb : j < lb
              · obtain ⟨y, hy⟩ : ∃ y, mb[j]? = some y := ⟨_, List.getElem?_eq_getElem (by rw [hB.out]; exact hjb)⟩
                obtain ⟨b2, o2, u2, rfl, _, _, hu2, r2⟩ := HWb1.out.at_ hjb
                rw [List.getElem?_map, hy] at hu2
                cases hu2
                have hj1 : ((j : Int) == (lb : Int)) = false := by simp only [beq_eq_false_iff_ne, ne_eq]; omega
                have HY := Lib.hid hy
                clear hy
                cases hxy : (Op.bytesLess x.toList y.toList || x.toList == y.toList) with
                | true =>
                  have HP := Lib.hid (Pick.left HPa.out HPb.out HX.out fun z hz => by
                    rw [HY.out] at hz
                    cases hz
                    exact (leq_iff _ _).1 hxy)
                  go_quiet (fail)
                  go_wp2
                  go_meet
                  exact ⟨true, rfl, Lib.hid (fun _ => ⟨x, HX.out, HP.out⟩), Lib.hid (fun h => by cases h), Lib.hid ((Upd.refl _ _).drewN _)⟩
                | false =>
                  have HP := Lib.hid (Pick.right HPa.out HPb.out HY.out fun z hz => by
                    rw [HX.out] at hz
                    cases hz
                    intro hl
                    have h1 := (leq_iff x y).2 (lin_str.asym hl)
                    rw [hxy] at h1
                    cases h1)
                  go_quiet (fail)
                  go_wp2
                  go_meet
                  exact ⟨false, rfl, Lib.hid (fun h => by cases h), Lib.hid (fun _ => ⟨y, HY.out, HP.out⟩), Lib.hid ((Upd.refl _ _).drewN _)⟩
              · have hjb2 : j = lb := by omega
                have HP := Lib.hid (Pick.left (j := j) HPa.out HPb.out HX.out fun z hz => by
                  rw [List.getElem?_eq_none (by rw [hB.out]; omega)] at hz
                  cases hz)
                subst hjb2
                go_quiet (fail)
                go_wp2
                go_meet
                exact ⟨true, rfl, Lib.hid (fun _ => ⟨x, HX.out, HP.out⟩), Lib.hid (fun h => by cases h), Lib.hid ((Upd.refl _ _).drewN _)⟩
            case rest =>
              obtain ⟨r, rfl, H1, H2, JS⟩ := hcut
              go_upto_if 58 with fail
              go_cut [6, 7, 8] from 59 to 87 (fun s6 s7 s8 wx => ∃ (i' j' : Nat) (x : ByteArray), s6 = .int .i64 i' ∧ s7 = .int .i64 j' ∧ s8 = .string x ∧ i' ≤ la ∧ j' ≤ lb ∧ i' + j' = i + j + 1 ∧ Hid (Pick ma mb i j x i' j') ∧ wx = wc)
              case first =>
                cases r with
                | true =>
                  obtain ⟨x, hx, hp⟩ := H1.out rfl
                  have hil : i < la := by have := (List.getElem?_eq_some_iff.1 hx).1; have := hA.out; omega
                  obtain ⟨b1, o1, u1, rfl, _, _, hu1, r1⟩ := (HWa1.out.same JS.out).at_ hil
                  rw [List.getElem?_map, hx] at hu1
                  cases hu1
                  have HP := Lib.hid hp
                  clear hx hp
                  go_wp2
                  go_meet
                  exact ⟨i + 1, j, x, by go_num, rfl, rfl, by omega, by omega, by omega, HP, rfl⟩
                | false =>
                  obtain ⟨x, hx, hp⟩ := H2.out rfl
                  have hjl : j < lb := by have := (List.getElem?_eq_some_iff.1 hx).1; have := hB.out; omega
                  obtain ⟨b1, o1, u1, rfl, _, _, hu1, r1⟩ := (HWb1.out.same JS.out).at_ hjl
                  rw [List.getElem?_map, hx] at hu1
                  cases hu1
                  have HP := Lib.hid hp
                  clear hx hp
                  go_wp2
                  go_meet
                  exact ⟨i, j + 1, x, rfl, by go_num, rfl, by omega, by omega, by omega, HP, rfl⟩
              case rest =>
                obtain ⟨i', j', x, rfl, rfl, rfl, hi', hj', hij, HP, rfl⟩ := hcut
                have KOc := Lib.hid (own_same KO.out JS.out)
                have KSc := Lib.hid (KS.out.same JS.out)
                have hzc := KSc.out.size
                clear H1 H2
                rcases List.eq_nil_or_concat out with rfl | ⟨pre, y, hcc⟩
                · have HM := Lib.hid (KM.out.snoc HP.out (by simp))
                  obtain ⟨A3, c3, hv⟩ := own_form KOc.out
                  subst hv
                  go_wp2_with (at_builtin; go_must (refine wpList_app rfl (.tmp 84) (.tmp 86) _ _ rfl w2.heap.size 9 1 16 _ Tryz.underlying37 info_string rfl _ 0 [] rfl (KOc.out.alloc _) rfl (src_row Tryz.underlying37 (Row.one _ _ _) (by simp [Value.oneCell'])) (by unfold maxLen; omega) (by omega) (by simp; omega) ?_); intro v' w' happ; have HG := Lib.hid happ; clear happ)
                  go_roundg (la + lb - (i' + j'))
                  case measure => omega
                  case rel => exact ⟨i', j', [x], rfl, hi', hj', rfl, rfl, HM, Lib.hid HG.out.own, Lib.hid ((KSc.out.alloc _).trans HG.out.upd fun b hb hh => by have := (KOc.out.lt b hh).1; omega), Lib.hid (by simp; omega)⟩
                · rw [List.concat_eq_append] at hcc
                  subst hcc
                  have hlen : (pre ++ [y]).length = pre.length + 1 := by simp
                  obtain ⟨A3, c3, hv⟩ := own_form KOc.out
                  subst hv
                  have KOd := Lib.hid KOc.out
                  obtain ⟨g3, u3, rfl, _, _, hu3, r3, _, _⟩ := own_cell KOd.out (i := pre.length) (by omega)
                  rw [List.map_append, List.getElem?_append_right (by simp)] at hu3
                  simp only [List.length_map, Nat.sub_self, List.map_cons, List.map_nil, List.getElem?_cons_zero, Option.some.injEq] at hu3
                  subst hu3
                  rw [hlen] at KOc KL ⊢
                  obtain ⟨lp, hlp⟩ : ∃ lp, pre.length = lp := ⟨_, rfl⟩
                  have KL2 := KL.out
                  rw [hlp] at KOc KL2 r3 ⊢
                  have HLP := Lib.hid hlp
                  have hw1 : IntKind.i64.wrap (((lp + 1 : Nat) : Int) - 1) = (lp : Int) := by rw [IntKind.wrap_i64]; omega
                  have hnz : (((lp + 1 : Nat) : Int) == 0) = false := by simp only [beq_eq_false_iff_ne, ne_eq]; omega
                  clear hlp hlen KOd
                  cases hyx : (y.toList == x.toList) with
                  | true =>
                    have HM := Lib.hid (KM.out.skip HP.out (by rw [(eqT_iff _ _).1 hyx]; simp))
                    have hyx2 : (!(y.toList == x.toList)) = false := by rw [hyx]; rfl
                    go_wp2
                    go_roundg (la + lb - (i' + j'))
                    case measure => omega
                    case rel => exact ⟨i', j', pre ++ [y], rfl, hi', hj', rfl, rfl, HM, Lib.hid (by rw [List.length_append, HLP.out]; exact KOc.out), KSc, Lib.hid (by rw [List.length_append, HLP.out]; simp; omega)⟩
                  | false =>
                    have HM := Lib.hid (KM.out.snoc HP.out (KM.out.fresh HP.out fun e => by rw [e, (eqT_iff _ _).2 rfl] at hyx; cases hyx))
                    have hyx2 : (!(y.toList == x.toList)) = true := by rw [hyx]; rfl
                    go_wp2_with (at_builtin; go_must (refine wpList_app rfl (.tmp 84) (.tmp 86) _ _ rfl w2.heap.size 9 1 16 _ Tryz.underlying37 info_string rfl _ (lp + 1) _ rfl (KOc.out.alloc _) rfl (src_row Tryz.underlying37 (Row.one _ _ _) (by simp [Value.oneCell'])) (by unfold maxLen; omega) (by omega) (by simp; omega) ?_); intro v' w' happ; have HG := Lib.hid happ; clear happ)
                    go_roundg (la + lb - (i' + j'))
                    case measure => omega
                    case rel => exact ⟨i', j', (pre ++ [y]) ++ [x], rfl, hi', hj', rfl, rfl, HM, Lib.hid (by have h1 := HG.out.own; rw [List.length_append, List.length_append, HLP.out, List.map_append]; exact h1), Lib.hid ((KSc.out.alloc _).trans HG.out.upd fun b hb hh => by have := (KOc.out.lt b hh).1; omega), Lib.hid (by rw [List.length_append, List.length_append, HLP.out]; simp; omega)⟩
          · have hjb : j < lb := by omega
            go_upto_region 9 with fail
            go_cut [58] from 38 to 87 (fun s58 wx => ∃ r : Bool, s58 = .bool r ∧ Hid (r = true → ∃ x, ma[i]? = some x ∧ Pick ma mb i j x (i + 1) j) ∧ Hid (r = false → ∃ y, mb[j]? = some y ∧ Pick ma mb i j y i (j + 1)) ∧ Hid (Same wr wx))
            case first =>
              have hi1 : decide (i < la) = false := decide_eq_false hia
              obtain ⟨y, hy⟩ : ∃ y, mb[j]? = some y := ⟨_, List.getElem?_eq_getElem (by rw [hB.out]; exact hjb)⟩
              obtain ⟨b2, o2, u2, rfl, _, _, hu2, r2⟩ := HWb1.out.at_ hjb
              rw [List.getElem?_map, hy] at hu2
              cases hu2
              have hj1 : ((j : Int) == (lb : Int)) = false := by simp only [beq_eq_false_iff_ne, ne_eq]; omega
              have HY := Lib.hid hy
              clear hy
              have HP := Lib.hid (Pick.right (i := i) HPa.out HPb.out HY.out fun z hz => by
                rw [List.getElem?_eq_none (by rw [hA.out]; omega)] at hz
                cases hz)
              go_quiet (fail)
              go_wp2
              go_meet
              exact ⟨false, rfl, Lib.hid (fun h => by cases h), Lib.hid (fun _ => ⟨y, HY.out, HP.out⟩), Lib.hid ((Upd.refl _ _).drewN _)⟩
            case rest =>
              obtain ⟨r, rfl, H1, H2, JS⟩ := hcut
              go_upto_if 58 with fail
              go_cut [6, 7, 8] from 59 to 87 (fun s6 s7 s8 wx => ∃ (i' j' : Nat) (x : ByteArray), s6 = .int .i64 i' ∧ s7 = .int .i64 j' ∧ s8 = .string x ∧ i' ≤ la ∧ j' ≤ lb ∧ i' + j' = i + j + 1 ∧ Hid (Pick ma mb i j x i' j') ∧ wx = wc)
              case first =>
                cases r with
                | true =>
                  obtain ⟨x, hx, hp⟩ := H1.out rfl
                  have hil : i < la := by have := (List.getElem?_eq_some_iff.1 hx).1; have := hA.out; omega
                  exact absurd hil hia
                | false =>
                  obtain ⟨x, hx, hp⟩ := H2.out rfl
                  have hjl : j < lb := by have := (List.getElem?_eq_some_iff.1 hx).1; have := hB.out; omega
                  obtain ⟨b1, o1, u1, rfl, _, _, hu1, r1⟩ := (HWb1.out.same JS.out).at_ hjl
                  rw [List.getElem?_map, hx] at hu1
                  cases hu1
                  have HP := Lib.hid hp
                  clear hx hp
                  go_wp2
                  go_meet
                  exact ⟨i, j + 1, x, rfl, by go_num, rfl, by omega, by omega, by omega, HP, rfl⟩
              case rest =>
                obtain ⟨i', j', x, rfl, rfl, rfl, hi', hj', hij, HP, rfl⟩ := hcut
                have KOc := Lib.hid (own_same KO.out JS.out)
                have KSc := Lib.hid (KS.out.same JS.out)
                have hzc := KSc.out.size
                clear H1 H2
                rcases List.eq_nil_or_concat out with rfl | ⟨pre, y, hcc⟩
                · have HM := Lib.hid (KM.out.snoc HP.out (by simp))
                  obtain ⟨A3, c3, hv⟩ := own_form KOc.out
                  subst hv
                  go_wp2_with (at_builtin; go_must (refine wpList_app rfl (.tmp 84) (.tmp 86) _ _ rfl w2.heap.size 9 1 16 _ Tryz.underlying37 info_string rfl _ 0 [] rfl (KOc.out.alloc _) rfl (src_row Tryz.underlying37 (Row.one _ _ _) (by simp [Value.oneCell'])) (by unfold maxLen; omega) (by omega) (by simp; omega) ?_); intro v' w' happ; have HG := Lib.hid happ; clear happ)
                  go_roundg (la + lb - (i' + j'))
                  case measure => omega
                  case rel => exact ⟨i', j', [x], rfl, hi', hj', rfl, rfl, HM, Lib.hid HG.out.own, Lib.hid ((KSc.out.alloc _).trans HG.out.upd fun b hb hh => by have := (KOc.out.lt b hh).1; omega), Lib.hid (by simp; omega)⟩
                · rw [List.concat_eq_append] at hcc
                  subst hcc
                  have hlen : (pre ++ [y]).length = pre.length + 1 := by simp
                  obtain ⟨A3, c3, hv⟩ := own_form KOc.out
                  subst hv
                  have KOd := Lib.hid KOc.out
                  obtain ⟨g3, u3, rfl, _, _, hu3, r3, _, _⟩ := own_cell KOd.out (i := pre.length) (by omega)
                  rw [List.map_append, List.getElem?_append_right (by simp)] at hu3
                  simp only [List.length_map, Nat.sub_self, List.map_cons, List.map_nil, List.getElem?_cons_zero, Option.some.injEq] at hu3
                  subst hu3
                  rw [hlen] at KOc KL ⊢
                  obtain ⟨lp, hlp⟩ : ∃ lp, pre.length = lp := ⟨_, rfl⟩
                  have KL2 := KL.out
                  rw [hlp] at KOc KL2 r3 ⊢
                  have HLP := Lib.hid hlp
                  have hw1 : IntKind.i64.wrap (((lp + 1 : Nat) : Int) - 1) = (lp : Int) := by rw [IntKind.wrap_i64]; omega
                  have hnz : (((lp + 1 : Nat) : Int) == 0) = false := by simp only [beq_eq_false_iff_ne, ne_eq]; omega
                  clear hlp hlen KOd
                  cases hyx : (y.toList == x.toList) with
                  | true =>
                    have HM := Lib.hid (KM.out.skip HP.out (by rw [(eqT_iff _ _).1 hyx]; simp))
                    have hyx2 : (!(y.toList == x.toList)) = false := by rw [hyx]; rfl
                    go_wp2
                    go_roundg (la + lb - (i' + j'))
                    case measure => omega
                    case rel => exact ⟨i', j', pre ++ [y], rfl, hi', hj', rfl, rfl, HM, Lib.hid (by rw [List.length_append, HLP.out]; exact KOc.out), KSc, Lib.hid (by rw [List.length_append, HLP.out]; simp; omega)⟩
                  | false =>
                    have HM := Lib.hid (KM.out.snoc HP.out (KM.out.fresh HP.out fun e => by rw [e, (eqT_iff _ _).2 rfl] at hyx; cases hyx))
                    have hyx2 : (!(y.toList == x.toList)) = true := by rw [hyx]; rfl
                    go_wp2_with (at_builtin; go_must (refine wpList_app rfl (.tmp 84) (.tmp 86) _ _ rfl w2.heap.size 9 1 16 _ Tryz.underlying37 info_string rfl _ (lp + 1) _ rfl (KOc.out.alloc _) rfl (src_row Tryz.underlying37 (Row.one _ _ _) (by simp [Value.oneCell'])) (by unfold maxLen; omega) (by omega) (by simp; omega) ?_); intro v' w' happ; have HG := Lib.hid happ; clear happ)
                    go_roundg (la + lb - (i' + j'))
                    case measure => omega
                    case rel => exact ⟨i', j', (pre ++ [y]) ++ [x], rfl, hi', hj', rfl, rfl, HM, Lib.hid (by have h1 := HG.out.own; rw [List.length_append, List.length_append, HLP.out, List.map_append]; exact h1), Lib.hid ((KSc.out.alloc _).trans HG.out.upd fun b hb hh => by have := (KOc.out.lt b hh).1; omega), Lib.hid (by rw [List.length_append, List.length_append, HLP.out]; simp; omega)⟩
        · have hia : i = la := by omega
          have hjb : j = lb := by omega
          subst hia hjb
          have HD := Lib.hid (HSn.out _ (KM.out.done (by rw [hA.out]; exact Nat.le_refl _) (by rw [hB.out]; exact Nat.le_refl _) HSa.out HSb.out))
          obtain ⟨A3, c3, rfl⟩ := own_form KO.out
          go_wp2
          go_ret
          exact ⟨A3, c3, out, rfl, by have := KL.out; omega, HD, Lib.hid (own_base KO.out (by omega)), S2.out.same KS.out⟩
end Go.Proofs.YtlnademnfnhbpaaGreat
