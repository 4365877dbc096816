/- The walks of ValueChecks and ValueSames. -/
import Derived.Test.YtfgdgpingdgfgaaLaw1
import Derived.Test.YtfgdgpingdgfgaaRChk
import Derived.Deep.RegionHeld3
namespace Go.Proofs.Ytfgdgpingdgfgaa
open Go.RowKit

section
variable {w0 wx : World} {g1 g2 : Nat} {t1 t2 : TypeId} {a0 a1 a2 a3 a4 b0 b1 b2 b3 b4 : Value}
/-- Two boxes of five cells, in every world that is as w0 was. -/
abbrev Keep2 (w0 : World) (g1 g2 : Nat) (a0 a1 a2 a3 a4 b0 b1 b2 b3 b4 : Value) (wx : World) : Prop :=
  Same w0 wx ∧ (wx.cell? ⟨g1, 0, none⟩ = some a0 ∧ wx.cell? ⟨g1, 1, none⟩ = some a1 ∧ wx.cell? ⟨g1, 2, none⟩ = some a2 ∧ wx.cell? ⟨g1, 3, none⟩ = some a3 ∧ wx.cell? ⟨g1, 4, none⟩ = some a4) ∧
    (wx.cell? ⟨g2, 0, none⟩ = some b0 ∧ wx.cell? ⟨g2, 1, none⟩ = some b1 ∧ wx.cell? ⟨g2, 2, none⟩ = some b2 ∧ wx.cell? ⟨g2, 3, none⟩ = some b3 ∧ wx.cell? ⟨g2, 4, none⟩ = some b4)
theorem keep2 (hb1 : Hid (Blk w0 g1 t1 #[a0, a1, a2, a3, a4])) (hb2 : Hid (Blk w0 g2 t2 #[b0, b1, b2, b3, b4])) (h : Same w0 wx) : Keep2 w0 g1 g2 a0 a1 a2 a3 a4 b0 b1 b2 b3 b4 wx :=
  ⟨h, (hb1.out.same h).five, (hb2.out.same h).five⟩
end

/-- A callee that only makes new memory, in every world that is as w0 was. -/
theorem on_same {w0 : World} {E : Ending → Prop} {n : Nat} {args : Array Value} (h : ∀ wx, Same w0 wx → Calls Try.prog n args wx fun x w' => E x ∧ Same wx w') :
    ∀ wx, Same w0 wx → Calls Try.prog n args wx fun x w' => E x ∧ Same w0 w' := fun wx hs => (h wx hs).mono fun _ _ ⟨h1, h2⟩ => ⟨h1, hs.same h2⟩

set_option maxHeartbeats 4000000 in
set_option maxRecDepth 100000 in
theorem checks_walk {F : Nat → Prop} {A1 A2 : Option Addr} {n1 c1 n2 c2 : Nat} {g : GVal} (w : World) (h : RdVal w F A1 n1 c1 A2 n2 c2 g) (hs1 : n1 * 8 ≤ 140737488351232) (hs2 : n2 * 16 ≤ 140737488351232) (hx : g.text.size ≤ 140737488351232) (hts : ∀ s ∈ g.texts, s.size ≤ 140737488351232) :
    Calls Try.prog 4 #[g.val A1 n1 c1 A2 n2 c2] w fun e w' => e = .returned (.bool true) ∧ Same w w' := by
  have hx' : g.text.size ≤ 9223372036854775807 := by omega
  have hts' : ∀ s ∈ g.texts, s.size ≤ 9223372036854775807 := fun s hs => by have := hts s hs; omega
  have hse := (sameB_iff g g).2 rfl
  have hfit : g.Fits := ⟨h.kind, h.num, h.range⟩
  obtain ⟨kind, num, text, nums, texts⟩ := g
  simp only [GVal.val] at hx' hts' ⊢
  have HH := Lib.hid h
  have hsA := (Upd.refl (fun _ => False) w).alloc (.cells #[.int .i64 kind, .int .i64 num, .string text, .slice A1 n1 c1, .slice A2 n2 c2] 26)
  have hbA := Blk.new w 26 #[.int .i64 kind, .int .i64 num, .string text, .slice A1 n1 c1, .slice A2 n2 c2]
  clear h hx hts
  go_enter Try.func4, Try.ntmps4
  go_wp2_with fail
  refine (speaks_spec _).mono ?_
  rintro e w1 ⟨rfl, hsp⟩
  have hsB := hsA.same hsp
  have hbB := hbA.same hsp
  obtain ⟨k0, k1, k2, k3, k4⟩ := hbB.five
  have HHB := Lib.hid (HH.out.same hsB)
  clear hsA hbA hsp
  go_wp2_with fail
  refine (copy_spec _ HHB.out (by omega) (by omega)).mono ?_
  rintro e w2 ⟨v1, v2, rfl, ho1, ho2, hsC⟩
  obtain ⟨B1, m1, d1, B2, m2, d2, hv, hrd⟩ := NewVal.rd (g := ⟨kind, num, text, nums, texts⟩) ⟨v1, v2, rfl, by rw [← HHB.out.len1] at ho1; exact ho1, by rw [← HHB.out.len2] at ho2; exact ho2⟩ hfit
  simp only [GVal.val, Value.agg.injEq, Array.mk.injEq, List.cons.injEq, true_and, and_true] at hv
  obtain ⟨rfl, rfl⟩ := hv
  have hsD := hsB.same hsC
  have hbD := hbB.same hsC
  have HHD := Lib.hid (HHB.out.same hsC)
  clear hsB hbB hsC HHB ho1 ho2 HH k0 k1 k2 k3 k4
  have hst := (Upd.refl (fun _ => False) w2).alloc (.cells #[.int .i64 kind, .int .i64 num, .string text, .slice B1 m1 d1, .slice B2 m2 d2] 26)
  have hsE := hsD.same hst
  have hb1 := Lib.hid (hbD.same hst)
  have hb2 := Lib.hid (Blk.new w2 26 #[.int .i64 kind, .int .i64 num, .string text, .slice B1 m1 d1, .slice B2 m2 d2])
  have HHE := Lib.hid (HHD.out.same hst)
  have HNE := Lib.hid (hrd.same hst)
  clear hst hsD hbD HHD hrd
  go_upto_region 4 with fail
  generalize w2.alloc (.cells #[.int .i64 kind, .int .i64 num, .string text, .slice B1 m1 d1, .slice B2 m2 d2] 26) = w3 at *
  generalize w2.heap.size = g2 at *
  have h00 : Same w3 w3.drew := (Upd.refl _ w3).drew
  have HC := Lib.hid (on_same fun wx hs => check_spec wx (HNE.out.same hs) hx' hts')
  have HD := Lib.hid (on_same fun wx hs => rcheck_spec wx (HHE.out.same hs) hx' hts')
  have HS := Lib.hid (on_same fun wx hs => rsame_spec wx (HNE.out.same hs) (HHE.out.same hs))
  rw [hse] at HS
  generalize chk ⟨kind, num, text, nums, texts⟩ = C at HC HD
  clear HNE HHE hse hx' hts' hfit
  go_region_held3 (fun wx => Keep2 w3 w.heap.size g2 (.int .i64 kind) (.int .i64 num) (.string text) (.slice A1 n1 c1) (.slice A2 n2 c2) (.int .i64 kind) (.int .i64 num) (.string text) (.slice B1 m1 d1) (.slice B2 m2 d2) wx) (exact keep2 hb1 hb2 (by assumption)) (first
    | (go_at_call 15; refine (HC.out _ (by assumption)).mono ?_; rintro e w' ⟨rfl, hs⟩)
    | (go_at_call 16; refine (HD.out _ (by assumption)).mono ?_; rintro e w' ⟨rfl, hs⟩)
    | (go_at_call 17; refine (HS.out _ (by assumption)).mono ?_; rintro e w' ⟨rfl, hs⟩))
  all_goals go_wp2
  all_goals go_ret
  all_goals exact ⟨rfl, hsE.same (by assumption)⟩

theorem copy_rd {F : Nat → Prop} {A1 A2 : Option Addr} {n1 c1 n2 c2 : Nat} {g : GVal} (w : World) (h : RdVal w F A1 n1 c1 A2 n2 c2 g) (hs1 : n1 * 8 ≤ 140737488355328) (hs2 : n2 * 16 ≤ 140737488355328) :
    Calls Try.prog 14 #[g.val A1 n1 c1 A2 n2 c2] w fun e w' => ∃ B1 m1 d1 B2 m2 d2, e = .returned (g.val B1 m1 d1 B2 m2 d2) ∧ RdVal w' (fun b => w.heap.size ≤ b) B1 m1 d1 B2 m2 d2 g ∧ Same w w' := by
  refine (copy_spec w h hs1 hs2).mono ?_
  rintro e w' ⟨v1, v2, rfl, ho1, ho2, hs⟩
  obtain ⟨B1, m1, d1, B2, m2, d2, hv, hrd⟩ := NewVal.rd (g := g) ⟨v1, v2, rfl, by rw [← h.len1] at ho1; exact ho1, by rw [← h.len2] at ho2; exact ho2⟩ ⟨h.kind, h.num, h.range⟩
  exact ⟨B1, m1, d1, B2, m2, d2, by rw [hv], hrd, hs⟩
theorem vsame_r {A1 A2 B1 B2 : Option Addr} {n1 c1 n2 c2 m1 d1 m2 d2 : Nat} {g h : GVal} {r : Bool} (w0 w : World) (hr : sameB g h = r) (hs : Same w0 w) (hg : RdVal w (fun _ => True) A1 n1 c1 A2 n2 c2 g) (hh : RdVal w (fun _ => True) B1 m1 d1 B2 m2 d2 h) :
    Calls Try.prog 18 #[g.val A1 n1 c1 A2 n2 c2, h.val B1 m1 d1 B2 m2 d2] w fun e w' => e = .returned (.bool r) ∧ Same w w' ∧ Same w0 w' := by
  subst hr
  exact (vsame_spec w hg hh).mono fun _ _ ⟨h1, h2⟩ => ⟨h1, h2, hs.same h2⟩
theorem rsame_r {A1 A2 B1 B2 : Option Addr} {n1 c1 n2 c2 m1 d1 m2 d2 : Nat} {g h : GVal} {r : Bool} (w0 w : World) (hr : sameB g h = r) (hs : Same w0 w) (hg : RdVal w (fun _ => True) A1 n1 c1 A2 n2 c2 g) (hh : RdVal w (fun _ => True) B1 m1 d1 B2 m2 d2 h) :
    Calls Try.prog 17 #[g.val A1 n1 c1 A2 n2 c2, h.val B1 m1 d1 B2 m2 d2] w fun e w' => e = .returned (.bool r) ∧ Same w w' ∧ Same w0 w' := by
  subst hr
  exact (rsame_spec w hg hh).mono fun _ _ ⟨h1, h2⟩ => ⟨h1, h2, hs.same h2⟩
theorem copy_on {F : Nat → Prop} {A1 A2 : Option Addr} {n1 c1 n2 c2 : Nat} {g : GVal} (w0 w : World) (hs : Same w0 w) (h : RdVal w0 F A1 n1 c1 A2 n2 c2 g) (hs1 : n1 * 8 ≤ 140737488355328) (hs2 : n2 * 16 ≤ 140737488355328) :
    Calls Try.prog 14 #[g.val A1 n1 c1 A2 n2 c2] w fun e w' => ∃ B1 m1 d1 B2 m2 d2, e = .returned (g.val B1 m1 d1 B2 m2 d2) ∧ RdVal w' (fun _ => True) B1 m1 d1 B2 m2 d2 g ∧ Same w w' ∧ Same w0 w' :=
  (copy_rd w (h.same hs) hs1 hs2).mono fun _ _ ⟨B1, m1, d1, B2, m2, d2, h1, h2, h3⟩ => ⟨B1, m1, d1, B2, m2, d2, h1, h2.mono fun _ _ _ => trivial, h3, hs.same h3⟩

set_option maxHeartbeats 8000000 in
set_option maxRecDepth 100000 in
theorem sames_walk {F F' : Nat → Prop} {A1 A2 : Option Addr} {n1 c1 n2 c2 : Nat} {g : GVal} {A3 A4 : Option Addr} {n3 c3 n4 c4 : Nat} {g' : GVal} (w : World) (h : RdVal w F A1 n1 c1 A2 n2 c2 g) (h' : RdVal w F' A3 n3 c3 A4 n4 c4 g')
    (hs1 : n1 * 8 ≤ 140737488351232) (hs2 : n2 * 16 ≤ 140737488351232) (hs3 : n3 * 8 ≤ 140737488351232) (hs4 : n4 * 16 ≤ 140737488351232) :
    Calls Try.prog 5 #[g.val A1 n1 c1 A2 n2 c2, g'.val A3 n3 c3 A4 n4 c4] w fun e w' => e = .returned (.bool true) ∧ Same w w' := by
  have hse := (sameB_iff g g).2 rfl
  obtain ⟨r, hr⟩ : ∃ r, sameB g g' = r := ⟨_, rfl⟩
  obtain ⟨kind, num, text, nums, texts⟩ := g
  obtain ⟨kind', num', text', nums', texts'⟩ := g'
  have HSE := Lib.hid hse
  have HRR := Lib.hid hr
  simp only [GVal.val] at ⊢
  have HH := Lib.hid h
  have HH' := Lib.hid h'
  have hsA := ((Upd.refl (fun _ => False) w).alloc (.cells #[.int .i64 kind, .int .i64 num, .string text, .slice A1 n1 c1, .slice A2 n2 c2] 26)).alloc (.cells #[.int .i64 kind', .int .i64 num', .string text', .slice A3 n3 c3, .slice A4 n4 c4] 26)
  have hbA := (Blk.new w 26 #[.int .i64 kind, .int .i64 num, .string text, .slice A1 n1 c1, .slice A2 n2 c2]).alloc (.cells #[.int .i64 kind', .int .i64 num', .string text', .slice A3 n3 c3, .slice A4 n4 c4] 26)
  have hbB := Blk.new (w.alloc (.cells #[.int .i64 kind, .int .i64 num, .string text, .slice A1 n1 c1, .slice A2 n2 c2] 26)) 26 #[.int .i64 kind', .int .i64 num', .string text', .slice A3 n3 c3, .slice A4 n4 c4]
  rw [World.size_alloc] at hbB
  clear h h' hse hr
  go_enter Try.func5, Try.ntmps5
  go_wp2_with fail
  refine (speaks_spec _).mono ?_
  rintro e w3 ⟨rfl, hsp⟩
  have hsE := hsA.same hsp
  have hb1 := Lib.hid (hbA.same hsp)
  have hb2 := Lib.hid (hbB.same hsp)
  have HA := Lib.hid ((HH.out.same hsE).mono (F' := fun _ => True) fun _ _ _ => trivial)
  have HB := Lib.hid ((HH'.out.same hsE).mono (F' := fun _ => True) fun _ _ _ => trivial)
  clear hsA hbA hbB hsp HH HH'
  go_upto_region 3 with fail
  have h00 : Same w3 w3.drew := (Upd.refl _ w3).drew
  have hz1 : n1 * 8 ≤ 140737488355328 := by omega
  have hz2 : n2 * 16 ≤ 140737488355328 := by omega
  have hz3 : n3 * 8 ≤ 140737488355328 := by omega
  have hz4 : n4 * 16 ≤ 140737488355328 := by omega
  clear hs1 hs2 hs3 hs4
  go_region_held3 (fun wx => Keep2 w3 w.heap.size (w.heap.size + 1) (.int .i64 kind) (.int .i64 num) (.string text) (.slice A1 n1 c1) (.slice A2 n2 c2) (.int .i64 kind') (.int .i64 num') (.string text') (.slice A3 n3 c3) (.slice A4 n4 c4) wx) (exact keep2 hb1 hb2 (by assumption)) (first
    | (go_at_call_of 14 (Value.string text); refine (copy_on w3 _ (by assumption) HA.out hz1 hz2).mono ?_; rintro e w' ⟨B1, m1, d1, B2, m2, d2, rfl, hrd, hs, hs3⟩; simp only [GVal.val])
    | (go_at_call_of 14 (Value.string text'); refine (copy_on w3 _ (by assumption) HB.out hz3 hz4).mono ?_; rintro e w' ⟨B1, m1, d1, B2, m2, d2, rfl, hrd, hs, hs3⟩; simp only [GVal.val])
    | (go_at_call 17; refine (rsame_r w3 _ HRR.out (by assumption) (HA.out.same (by assumption)) (HB.out.same (by assumption))).mono ?_; rintro e w' ⟨rfl, hs, hs3⟩)
    | (go_at_call_of 18 (Value.string text'); refine (vsame_r w3 _ HRR.out (by assumption) ?_ ?_).mono ?_; (first | assumption | exact RdVal.same (by assumption) (by assumption) | exact RdVal.same (RdVal.same (by assumption) (by assumption)) (by assumption)); (first | assumption | exact RdVal.same (by assumption) (by assumption) | exact RdVal.same (RdVal.same (by assumption) (by assumption)) (by assumption)); rintro e w' ⟨rfl, hs, hs3⟩)
    | (go_at_call 18; refine (vsame_r w3 _ HSE.out (by assumption) ?_ ?_).mono ?_; (first | assumption | exact RdVal.same (by assumption) (by assumption) | exact RdVal.same (RdVal.same (by assumption) (by assumption)) (by assumption)); (first | assumption | exact RdVal.same (by assumption) (by assumption) | exact RdVal.same (RdVal.same (by assumption) (by assumption)) (by assumption)); rintro e w' ⟨rfl, hs, hs3⟩))
  all_goals go_wp2
  all_goals go_ret
  all_goals exact ⟨rfl, hsE.same (by assumption)⟩
end Go.Proofs.Ytfgdgpingdgfgaa
