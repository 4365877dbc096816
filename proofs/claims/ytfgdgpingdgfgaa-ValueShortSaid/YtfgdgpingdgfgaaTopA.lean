/- The walks of ValueChecks and ValueSames. -/
import Derived.Test.YtfgdgpingdgfgaaLaw1
import Derived.Test.YtfgdgpingdgfgaaOn
import Derived.Deep.RegionHeld3
namespace Go.Proofs.Ytfgdgpingdgfgaa
open Go.RowKit

set_option maxHeartbeats 4000000 in
set_option maxRecDepth 100000 in
theorem checks_walk {F : Nat → Prop} {A1 A2 : Option Addr} {n1 c1 n2 c2 : Nat} {g : GVal} (w : World) (h : RdVal w F A1 n1 c1 A2 n2 c2 g) (hs1 : n1 * 8 ≤ 140737488351232) (hs2 : n2 * 16 ≤ 140737488351232) (hx : g.text.size ≤ 140737488351232) (hts : ∀ s ∈ g.texts, s.size ≤ 140737488351232) :
    Calls Try.prog 4 #[g.val A1 n1 c1 A2 n2 c2] w fun e w' => e = .returned (.bool true) ∧ Same w w' := by
  have hx' : g.text.size ≤ 9223372036854775807 := by omega
  have hts' : ∀ s ∈ g.texts, s.size ≤ 9223372036854775807 := fun s hs => by have := hts s hs; omega
  have hse := (sameB_iff g g).2 rfl
  have hfit : g.Fits := ⟨h.kind, h.num, h.range⟩
  obtain ⟨kind, num, text, nums, texts⟩ := g
  simp only [GVal.val] at hx' hts' ⊢
  have HH := Lib.hid h
  have hsA := (Upd.refl (fun _ => False) w).alloc (.cells #[.int .i64 kind, .int .i64 num, .string text, .slice A1 n1 c1, .slice A2 n2 c2] 26)
  have hbA := Blk.new w 26 #[.int .i64 kind, .int .i64 num, .string text, .slice A1 n1 c1, .slice A2 n2 c2]
  clear h hx hts
  go_enter Try.func4, Try.ntmps4
  go_wp2_with fail
  refine (speaks_spec _).mono ?_
  rintro e w1 ⟨rfl, hsp⟩
  have hsB := hsA.same hsp
  have hbB := hbA.same hsp
  obtain ⟨k0, k1, k2, k3, k4⟩ := hbB.five
  have HHB := Lib.hid (HH.out.same hsB)
  clear hsA hbA hsp
  go_wp2_with fail
  refine (copy_spec _ HHB.out (by omega) (by omega)).mono ?_
  rintro e w2 ⟨v1, v2, rfl, ho1, ho2, hsC⟩
  obtain ⟨B1, m1, d1, B2, m2, d2, hv, hrd⟩ := NewVal.rd (g := ⟨kind, num, text, nums, texts⟩) ⟨v1, v2, rfl, by rw [← HHB.out.len1] at ho1; exact ho1, by rw [← HHB.out.len2] at ho2; exact ho2⟩ hfit
  simp only [GVal.val, Value.agg.injEq, Array.mk.injEq, List.cons.injEq, true_and, and_true] at hv
  obtain ⟨rfl, rfl⟩ := hv
  have hsD := hsB.same hsC
  have hbD := hbB.same hsC
  have HHD := Lib.hid (HHB.out.same hsC)
  clear hsB hbB hsC HHB ho1 ho2 HH k0 k1 k2 k3 k4
  have hst := (Upd.refl (fun _ => False) w2).alloc (.cells #[.int .i64 kind, .int .i64 num, .string text, .slice B1 m1 d1, .slice B2 m2 d2] 26)
  have hsE := hsD.same hst
  have hb1 := Lib.hid (hbD.same hst)
  have hb2 := Lib.hid (Blk.new w2 26 #[.int .i64 kind, .int .i64 num, .string text, .slice B1 m1 d1, .slice B2 m2 d2])
  have HHE := Lib.hid (HHD.out.same hst)
  have HNE := Lib.hid (hrd.same hst)
  clear hst hsD hbD HHD hrd
  go_upto_region 4 with fail
  generalize w2.alloc (.cells #[.int .i64 kind, .int .i64 num, .string text, .slice B1 m1 d1, .slice B2 m2 d2] 26) = w3 at *
  generalize w2.heap.size = g2 at *
  have h00 : Same w3 w3.drew := (Upd.refl _ w3).drew
  have HC := Lib.hid (on_same fun wx hs => check_spec wx (HNE.out.same hs) hx' hts')
  have HD := Lib.hid (on_same fun wx hs => rcheck_spec wx (HHE.out.same hs) hx' hts')
  have HS := Lib.hid (on_same fun wx hs => rsame_spec wx (HNE.out.same hs) (HHE.out.same hs))
  rw [hse] at HS
  generalize chk ⟨kind, num, text, nums, texts⟩ = C at HC HD
  clear HNE HHE hse hx' hts' hfit
  go_region_held3 (fun wx => Keep2 w3 w.heap.size g2 (.int .i64 kind) (.int .i64 num) (.string text) (.slice A1 n1 c1) (.slice A2 n2 c2) (.int .i64 kind) (.int .i64 num) (.string text) (.slice B1 m1 d1) (.slice B2 m2 d2) wx) (exact keep2 hb1 hb2 (by assumption)) (first
    | (go_at_call 15; refine (HC.out _ (by assumption)).mono ?_; rintro e w' ⟨rfl, hs⟩)
    | (go_at_call 16; refine (HD.out _ (by assumption)).mono ?_; rintro e w' ⟨rfl, hs⟩)
    | (go_at_call 17; refine (HS.out _ (by assumption)).mono ?_; rintro e w' ⟨rfl, hs⟩))
  all_goals go_wp2
  all_goals go_ret
  all_goals exact ⟨rfl, hsE.same (by assumption)⟩

set_option maxHeartbeats 8000000 in
set_option maxRecDepth 100000 in
theorem sames_walk {F F' : Nat → Prop} {A1 A2 : Option Addr} {n1 c1 n2 c2 : Nat} {g : GVal} {A3 A4 : Option Addr} {n3 c3 n4 c4 : Nat} {g' : GVal} (w : World) (h : RdVal w F A1 n1 c1 A2 n2 c2 g) (h' : RdVal w F' A3 n3 c3 A4 n4 c4 g')
    (hs1 : n1 * 8 ≤ 140737488351232) (hs2 : n2 * 16 ≤ 140737488351232) (hs3 : n3 * 8 ≤ 140737488351232) (hs4 : n4 * 16 ≤ 140737488351232) :
    Calls Try.prog 5 #[g.val A1 n1 c1 A2 n2 c2, g'.val A3 n3 c3 A4 n4 c4] w fun e w' => e = .returned (.bool true) ∧ Same w w' := by
  have hse := (sameB_iff g g).2 rfl
  obtain ⟨r, hr⟩ : ∃ r, sameB g g' = r := ⟨_, rfl⟩
  obtain ⟨kind, num, text, nums, texts⟩ := g
  obtain ⟨kind', num', text', nums', texts'⟩ := g'
  have HSE := Lib.hid hse
  have HRR := Lib.hid hr
  simp only [GVal.val] at ⊢
  have HH := Lib.hid h
  have HH' := Lib.hid h'
  have hsA := ((Upd.refl (fun _ => False) w).alloc (.cells #[.int .i64 kind, .int .i64 num, .string text, .slice A1 n1 c1, .slice A2 n2 c2] 26)).alloc (.cells #[.int .i64 kind', .int .i64 num', .string text', .slice A3 n3 c3, .slice A4 n4 c4] 26)
  have hbA := (Blk.new w 26 #[.int .i64 kind, .int .i64 num, .string text, .slice A1 n1 c1, .slice A2 n2 c2]).alloc (.cells #[.int .i64 kind', .int .i64 num', .string text', .slice A3 n3 c3, .slice A4 n4 c4] 26)
  have hbB := Blk.new (w.alloc (.cells #[.int .i64 kind, .int .i64 num, .string text, .slice A1 n1 c1, .slice A2 n2 c2] 26)) 26 #[.int .i64 kind', .int .i64 num', .string text', .slice A3 n3 c3, .slice A4 n4 c4]
  rw [World.size_alloc] at hbB
  clear h h' hse hr
  go_enter Try.func5, Try.ntmps5
  go_wp2_with fail
  refine (speaks_spec _).mono ?_
  rintro e w3 ⟨rfl, hsp⟩
  have hsE := hsA.same hsp
  have hb1 := Lib.hid (hbA.same hsp)
  have hb2 := Lib.hid (hbB.same hsp)
  have HA := Lib.hid ((HH.out.same hsE).mono (F' := fun _ => True) fun _ _ _ => trivial)
  have HB := Lib.hid ((HH'.out.same hsE).mono (F' := fun _ => True) fun _ _ _ => trivial)
  clear hsA hbA hbB hsp HH HH'
  go_upto_region 3 with fail
  have h00 : Same w3 w3.drew := (Upd.refl _ w3).drew
  have hz1 : n1 * 8 ≤ 140737488355328 := by omega
  have hz2 : n2 * 16 ≤ 140737488355328 := by omega
  have hz3 : n3 * 8 ≤ 140737488355328 := by omega
  have hz4 : n4 * 16 ≤ 140737488355328 := by omega
  clear hs1 hs2 hs3 hs4
  go_region_held3 (fun wx => Keep2 w3 w.heap.size (w.heap.size + 1) (.int .i64 kind) (.int .i64 num) (.string text) (.slice A1 n1 c1) (.slice A2 n2 c2) (.int .i64 kind') (.int .i64 num') (.string text') (.slice A3 n3 c3) (.slice A4 n4 c4) wx) (exact keep2 hb1 hb2 (by assumption)) (first
    | (go_at_call_of 14 (Value.string text); refine (copy_on w3 _ (by assumption) HA.out hz1 hz2).mono ?_; rintro e w' ⟨B1, m1, d1, B2, m2, d2, rfl, hrd, hs, hs3⟩; simp only [GVal.val])
    | (go_at_call_of 14 (Value.string text'); refine (copy_on w3 _ (by assumption) HB.out hz3 hz4).mono ?_; rintro e w' ⟨B1, m1, d1, B2, m2, d2, rfl, hrd, hs, hs3⟩; simp only [GVal.val])
    | (go_at_call 17; refine (rsame_r w3 _ HRR.out (by assumption) (HA.out.same (by assumption)) (HB.out.same (by assumption))).mono ?_; rintro e w' ⟨rfl, hs, hs3⟩)
    | (go_at_call_of 18 (Value.string text'); refine (vsame_r w3 _ HRR.out (by assumption) ?_ ?_).mono ?_; (first | assumption | exact RdVal.same (by assumption) (by assumption) | exact RdVal.same (RdVal.same (by assumption) (by assumption)) (by assumption)); (first | assumption | exact RdVal.same (by assumption) (by assumption) | exact RdVal.same (RdVal.same (by assumption) (by assumption)) (by assumption)); rintro e w' ⟨rfl, hs, hs3⟩)
    | (go_at_call 18; refine (vsame_r w3 _ HSE.out (by assumption) ?_ ?_).mono ?_; (first | assumption | exact RdVal.same (by assumption) (by assumption) | exact RdVal.same (RdVal.same (by assumption) (by assumption)) (by assumption)); (first | assumption | exact RdVal.same (by assumption) (by assumption) | exact RdVal.same (RdVal.same (by assumption) (by assumption)) (by assumption)); rintro e w' ⟨rfl, hs, hs3⟩))
  all_goals go_wp2
  all_goals go_ret
  all_goals exact ⟨rfl, hsE.same (by assumption)⟩
end Go.Proofs.Ytfgdgpingdgfgaa
