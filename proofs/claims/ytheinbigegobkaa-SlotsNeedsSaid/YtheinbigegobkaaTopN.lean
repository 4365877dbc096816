/- The walk of SlotsNeeds. -/
import Derived.Test.YtheinbigegobkaaLaw16
namespace Go.Proofs.Ytheinbigegobkaa
open Go.RowKit

theorem need_on {A1 A2 : Option Addr} {n1 c1 n2 c2 : Nat} {g : GVal} {N : Nat} (w0 w : World) (hN : needP g = N) (hs : Same w0 w) (h : RdVal w (fun _ => True) A1 n1 c1 A2 n2 c2 g) (hx : g.text.size ≤ 9223372036854775807) (hts : ∀ s ∈ g.texts, s.size ≤ 9223372036854775807) :
    Calls Try.prog 12 #[g.val A1 n1 c1 A2 n2 c2] w fun e w' => e = .returned (.int .i64 N) ∧ Same w w' ∧ Same w0 w' :=
  (need_spec w h hx hts hN).mono fun _ _ ⟨h1, h2⟩ => ⟨h1, h2, hs.same h2⟩
theorem rneed_on {F : Nat → Prop} {A1 A2 : Option Addr} {n1 c1 n2 c2 : Nat} {g : GVal} {N : Nat} (w0 w : World) (hN : needP g = N) (hs : Same w0 w) (h : RdVal w0 F A1 n1 c1 A2 n2 c2 g) (hx : g.text.size ≤ 9223372036854775807) (hts : ∀ s ∈ g.texts, s.size ≤ 9223372036854775807) :
    Calls Try.prog 14 #[g.val A1 n1 c1 A2 n2 c2] w fun e w' => e = .returned (.int .i64 N) ∧ Same w w' ∧ Same w0 w' :=
  (rneed_spec w (h.same hs) hx hts hN).mono fun _ _ ⟨h1, h2⟩ => ⟨h1, h2, hs.same h2⟩

/-- One box of five cells, in every world that is as w0 was. -/
abbrev Keep1 (w0 : World) (g1 : Nat) (a0 a1 a2 a3 a4 : Value) (wx : World) : Prop :=
  Same w0 wx ∧ (wx.cell? ⟨g1, 0, none⟩ = some a0 ∧ wx.cell? ⟨g1, 1, none⟩ = some a1 ∧ wx.cell? ⟨g1, 2, none⟩ = some a2 ∧ wx.cell? ⟨g1, 3, none⟩ = some a3 ∧ wx.cell? ⟨g1, 4, none⟩ = some a4)
theorem keep1 {w0 wx : World} {g1 : Nat} {t1 : TypeId} {a0 a1 a2 a3 a4 : Value} (hb1 : Hid (Blk w0 g1 t1 #[a0, a1, a2, a3, a4])) (h : Same w0 wx) : Keep1 w0 g1 a0 a1 a2 a3 a4 wx := ⟨h, (hb1.out.same h).five⟩

set_option maxHeartbeats 8000000 in
set_option maxRecDepth 100000 in
theorem sneeds_walk {F : Nat → Prop} {A1 A2 : Option Addr} {n1 c1 n2 c2 : Nat} {g : GVal} (w : World) (h : RdVal w F A1 n1 c1 A2 n2 c2 g) (hs1 : n1 * 8 ≤ 140737488351232) (hs2 : n2 * 16 ≤ 140737488351232) (hx : g.text.size ≤ 140737488351232) (hts : ∀ s ∈ g.texts, s.size ≤ 140737488351232) :
    Calls Try.prog 4 #[g.val A1 n1 c1 A2 n2 c2] w fun e w' => e = .returned (.bool true) ∧ Same w w' := by
  have hx' : g.text.size ≤ 9223372036854775807 := by omega
  have hts' : ∀ s ∈ g.texts, s.size ≤ 9223372036854775807 := fun s hs => by have := hts s hs; omega
  obtain ⟨N, hN⟩ : ∃ N, needP g = N := ⟨_, rfl⟩
  have HN := Lib.hid hN
  obtain ⟨kind, num, text, nums, texts⟩ := g
  simp only [GVal.val] at hx' hts' ⊢
  have HX := Lib.hid hx'
  have HT := Lib.hid hts'
  have HH := Lib.hid (h.mono (F' := fun _ => True) fun _ _ _ => trivial)
  have hsA := (Upd.refl (fun _ => False) w).alloc (.cells #[.int .i64 kind, .int .i64 num, .string text, .slice A1 n1 c1, .slice A2 n2 c2] 26)
  have hbA := Blk.new w 26 #[.int .i64 kind, .int .i64 num, .string text, .slice A1 n1 c1, .slice A2 n2 c2]
  clear h hx hts hx' hts' hN
  go_enter Try.func4, Try.ntmps4
  go_wp2_with fail
  refine (speaks16_spec _).mono ?_
  rintro e w3 ⟨rfl, hsp⟩
  have hsB := hsA.same hsp
  have HBlk := Lib.hid (hbA.same hsp)
  have HA := Lib.hid (HH.out.same hsB)
  have HSB := Lib.hid hsB
  have hz1 : n1 * 8 ≤ 140737488355328 := by omega
  have hz2 : n2 * 16 ≤ 140737488355328 := by omega
  clear hsA hbA hsp hsB HH
  have h00 : Same w3 w3.drew := (Upd.refl _ w3).drew
  go_upto_region 3 with fail
  go_region_held3 (fun wx => Keep1 w3 w.heap.size (.int .i64 kind) (.int .i64 num) (.string text) (.slice A1 n1 c1) (.slice A2 n2 c2) wx) (exact keep1 HBlk (by assumption)) (first
    | (go_at_call_of 13 (Value.string text); refine (copy_on w3 _ (by assumption) HA.out hz1 hz2).mono ?_; rintro e w' ⟨B1, m1, d1, B2, m2, d2, rfl, hrd, hs, hs3⟩; simp only [GVal.val])
    | (go_at_call_of 12 (Value.string text); refine (need_on w3 _ HN.out (by assumption) (by assumption) HX.out HT.out).mono ?_; rintro e w' ⟨rfl, hs, hs3⟩)
    | (go_at_call_of 14 (Value.string text); refine (rneed_on w3 _ HN.out (by assumption) HA.out HX.out HT.out).mono ?_; rintro e w' ⟨rfl, hs, hs3⟩))
  all_goals go_wp2
  all_goals go_ret
  all_goals exact ⟨rfl, HSB.out.same (by assumption)⟩
end Go.Proofs.Ytheinbigegobkaa
