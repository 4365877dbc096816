/- The walk of ValueEncodes. -/
import Derived.Test.YtfgdgpingdgfgaaTopA
namespace Go.Proofs.Ytfgdgpingdgfgaa
open Go.RowKit

theorem lsame_on {A A' : Option Addr} {n c n' c' : Nat} {xs ys : List UInt8} {r : Bool} (w0 w : World) (hr : decide (xs = ys) = r) (hs : Same w0 w) (h : Bytes w (fun _ => True) A n c xs) (h' : Bytes w (fun _ => True) A' n' c' ys) :
    Calls Try.prog 22 #[.slice A n c, .slice A' n' c'] w fun e w' => e = .returned (.bool r) ∧ Same w w' ∧ Same w0 w' :=
  (lsame_spec w h h' hr).mono fun _ _ ⟨h1, h2⟩ => ⟨h1, h2, hs.same h2⟩

set_option maxHeartbeats 8000000 in
set_option maxRecDepth 100000 in
theorem encodes_walk {F : Nat → Prop} {A1 A2 : Option Addr} {n1 c1 n2 c2 : Nat} {g : GVal} (w : World) (h : RdVal w F A1 n1 c1 A2 n2 c2 g) (hs1 : n1 * 8 ≤ 140737488351232) (hs2 : n2 * 16 ≤ 140737488351232) (hx : g.text.size ≤ 140737488351232) (hts : ∀ s ∈ g.texts, s.size ≤ 140737488351232) :
    Calls Try.prog 11 #[g.val A1 n1 c1 A2 n2 c2] w fun e w' => e = .returned (.bool true) ∧ Same w w' := by
  have hx' : g.text.size ≤ 9223372036854775807 := by omega
  have hts' : ∀ s ∈ g.texts, s.size ≤ 9223372036854775807 := fun s hs => by have := hts s hs; omega
  have HSE := Lib.hid ((sameB_iff g g).2 rfl)
  obtain ⟨E, hE⟩ : ∃ E, enc g = E := ⟨_, rfl⟩
  obtain ⟨C, hC⟩ : ∃ C, chk g = C := ⟨_, rfl⟩
  have HC := Lib.hid hC
  have HE := Lib.hid hE
  obtain ⟨kind, num, text, nums, texts⟩ := g
  simp only [GVal.val] at hx' hts' ⊢
  have HX := Lib.hid hx'
  have HT := Lib.hid hts'
  have HH := Lib.hid (h.mono (F' := fun _ => True) fun _ _ _ => trivial)
  have hsA := (Upd.refl (fun _ => False) w).alloc (.cells #[.int .i64 kind, .int .i64 num, .string text, .slice A1 n1 c1, .slice A2 n2 c2] 26)
  have hbA := Blk.new w 26 #[.int .i64 kind, .int .i64 num, .string text, .slice A1 n1 c1, .slice A2 n2 c2]
  clear h hx hts hx' hts' hE hC
  go_enter Try.func11, Try.ntmps11
  go_wp2_with fail
  refine (speaks_spec _).mono ?_
  rintro e w1 ⟨rfl, hsp⟩
  have hsB := hsA.same hsp
  have hbB := hbA.same hsp
  obtain ⟨k0, k1, k2, k3, k4⟩ := hbB.five
  have HHB := Lib.hid (HH.out.same hsB)
  clear hsA hbA hsp
  go_wp2_with fail
  refine (copy_on _ _ (Upd.refl _ _) HHB.out (by omega) (by omega)).mono ?_
  rintro e w2 ⟨B1, m1, d1, B2, m2, d2, rfl, hrd, hsC, _⟩
  simp only [GVal.val]
  have hsD := hsB.same hsC
  have hbD := hbB.same hsC
  have HHD := Lib.hid (HHB.out.same hsC)
  clear hsB hbB hsC HHB HH k0 k1 k2 k3 k4
  have hst := (Upd.refl (fun _ => False) w2).alloc (.cells #[.int .i64 kind, .int .i64 num, .string text, .slice B1 m1 d1, .slice B2 m2 d2] 26)
  have hsE := hsD.same hst
  have hb1 := hbD.same hst
  have hb2 := Blk.new w2 26 #[.int .i64 kind, .int .i64 num, .string text, .slice B1 m1 d1, .slice B2 m2 d2]
  obtain ⟨k0, k1, k2, k3, k4⟩ := hb2.five
  have HHE := Lib.hid (HHD.out.same hst)
  have HNE := Lib.hid (hrd.same hst)
  clear hst hsD hbD HHD hrd
  go_wp2_with fail
  refine (enc_on _ _ HE.out HC.out (Upd.refl _ _) HNE.out HX.out HT.out).mono ?_
  rintro e w3 ⟨A, n, c, rfl, hn, hbs, hsF, _⟩
  have hsG := hsE.same hsF
  have HB1 := Lib.hid (hb1.same hsF)
  have HB2 := Lib.hid (hb2.same hsF)
  have HV1 := Lib.hid (HHE.out.same hsF)
  have HV2 := Lib.hid (HNE.out.same hsF)
  have HBS := Lib.hid hbs
  have HN := Lib.hid (show (enc _).length = n from (congrArg List.length HE.out).trans hn)
  clear hb1 hb2 k0 k1 k2 k3 k4 HHE HNE hsF hsE hbs
  generalize w2.heap.size = g2 at *
  go_upto_region 5 with fail
  have h00 : Same w3 w3.drew := (Upd.refl _ w3).drew
  clear hs1 hs2
  go_region_held3 (fun wx => Keep2 w3 w.heap.size g2 (.int .i64 kind) (.int .i64 num) (.string text) (.slice A1 n1 c1) (.slice A2 n2 c2) (.int .i64 kind) (.int .i64 num) (.string text) (.slice B1 m1 d1) (.slice B2 m2 d2) wx) (exact keep2 HB1 HB2 (by assumption)) (first
    | (go_at_call 16; refine (rcheck_on w3 _ HC.out (by assumption) HV1.out HX.out HT.out).mono ?_; rintro e w' ⟨rfl, hs, hs3⟩)
    | (go_at_call 26; refine (renc_on w3 _ HE.out (by assumption) HV1.out HX.out HT.out).mono ?_; rintro e w' ⟨A', n', c', rfl, hn', hbs', hs, hs3⟩; obtain rfl : n = n' := hn.symm.trans hn')
    | (go_at_call 27; refine (weight_on w3 _ HN.out (by assumption) HV2.out HX.out HT.out).mono ?_; rintro e w' ⟨rfl, hs, hs3⟩)
    | (go_at_call 17; refine (rsame_r w3 _ HSE.out (by assumption) (HV2.out.same (by assumption)) (HV1.out.same (by assumption))).mono ?_; rintro e w' ⟨rfl, hs, hs3⟩)
    | (go_at_call 22; refine (lsame_on w3 _ (decide_eq_true (rfl : E = E)) (by assumption) (HBS.out.same (by assumption)) (by assumption)).mono ?_; rintro e w' ⟨rfl, hs, hs3⟩))
  all_goals go_wp2
  all_goals go_ret
  all_goals exact ⟨rfl, hsG.same (by assumption)⟩
end Go.Proofs.Ytfgdgpingdgfgaa
