/- The walk of ValueShort. -/
import Derived.Test.YtfgdgpingdgfgaaTopE
namespace Go.Proofs.Ytfgdgpingdgfgaa
open Go.RowKit

theorem enc_nil {g : GVal} (h : chk g ≠ 0) : enc g = [] := if_neg h

set_option maxHeartbeats 8000000 in
set_option maxRecDepth 100000 in
theorem short_walk {F : Nat → Prop} {A1 A2 : Option Addr} {n1 c1 n2 c2 : Nat} {g : GVal} {k : Int} (w : World) (h : RdVal w F A1 n1 c1 A2 n2 c2 g) (hk : -9223372036854775808 ≤ k ∧ k ≤ 9223372036854775807) (_ : n1 * 8 ≤ 140737488351232) (_ : n2 * 16 ≤ 140737488351232) (hx : g.text.size ≤ 140737488351232) (hts : ∀ s ∈ g.texts, s.size ≤ 140737488351232) :
    Calls Try.prog 9 #[g.val A1 n1 c1 A2 n2 c2, .int .i64 k] w fun e w' => e = .returned (.bool true) ∧ Same w w' := by
  have hx' : g.text.size ≤ 9223372036854775807 := by omega
  have hts' : ∀ s ∈ g.texts, s.size ≤ 9223372036854775807 := fun s hs => by have := hts s hs; omega
  have HF := Lib.hid (show g.Fits from ⟨h.kind, h.num, h.range⟩)
  obtain ⟨E, hE⟩ : ∃ E, enc g = E := ⟨_, rfl⟩
  have HE := Lib.hid hE
  have HCut := Lib.hid (show ∀ j, j < E.length → chk g = 0 ∧ E.length ≤ 40082 ∧ decD j (decP (E.take j)) = (noVal, 10) ∧ decP (E.take j) = (noVal, 0, 10) from fun j hj => by
    have hc : chk g = 0 := Decidable.byContradiction fun hn => by
      rw [← hE, enc_nil hn] at hj
      simp at hj
    have hlen : E.length ≤ 40082 := by
      rw [← hE, enc_right hc]
      exact right_len (chk_right hc)
    subst hE
    exact ⟨hc, hlen, decD_cut hc HF.out hj, decP_cut hc HF.out hj⟩)
  obtain ⟨kind, num, text, nums, texts⟩ := g
  simp only [GVal.val] at hx' hts' ⊢
  have HX := Lib.hid hx'
  have HT := Lib.hid hts'
  have HH := Lib.hid (h.mono (F' := fun _ => True) fun _ _ _ => trivial)
  have hsA := (Upd.refl (fun _ => False) w).alloc (.cells #[.int .i64 kind, .int .i64 num, .string text, .slice A1 n1 c1, .slice A2 n2 c2] 26)
  have hbA := Blk.new w 26 #[.int .i64 kind, .int .i64 num, .string text, .slice A1 n1 c1, .slice A2 n2 c2]
  obtain ⟨hk0, hk1⟩ := hk
  clear h hx hts hx' hts' hE
  go_enter Try.func9, Try.ntmps9
  go_wp2_with fail
  refine (speaks_spec _).mono ?_
  rintro e w1 ⟨rfl, hsp⟩
  have hsB := hsA.same hsp
  have hbB := hbA.same hsp
  obtain ⟨k0, k1, k2, k3, k4⟩ := hbB.five
  clear hsA hbA hsp
  go_wp2_with fail
  refine (renc_on _ _ HE.out hsB HH.out HX.out HT.out).mono ?_
  rintro e w2 ⟨A, n, c, rfl, hn, hbs, _, hsD⟩
  have HN := Lib.hid hn
  have HB := Lib.hid hbs
  have hle := Row.le hbs
  have hmx := Row.max hbs
  unfold maxLen at hmx
  have hn1 : n ≤ 9223372036854775807 := by omega
  clear hn hbs k0 k1 k2 k3 k4 hbB hsB
  by_cases hneg : k < 0
  · go_wp2
    go_ret
    exact ⟨rfl, hsD⟩
  obtain ⟨j, rfl⟩ := Int.eq_ofNat_of_zero_le (show 0 ≤ k by omega)
  by_cases hj : n ≤ j
  · go_wp2
    go_ret
    exact ⟨rfl, hsD⟩
  have hjn : j < n := by omega
  have HQ := Lib.hid (HCut.out j (by rw [HN.out]; exact hjn))
  have hsml : j ≤ 40082 := by have := HQ.out.2.1; rw [HN.out] at this; omega
  have HBj := Lib.hid (HB.out.head (m := j) (by omega))
  clear hneg HCut hj
  go_wp2_with fail
  refine (lclone_on _ _ (Upd.refl _ _) HBj.out (by omega)).mono ?_
  rintro e w3 ⟨Ac, cc, rfl, hcl, hsE, _⟩
  have HCl := Lib.hid hcl
  clear hcl
  go_wp2_with fail
  refine (dec_on (g := noVal) (er := 10) _ _ HQ.out.2.2.1 (Upd.refl _ _) HCl.out).mono ?_
  rintro e w4 ⟨D1, p1, r1, D2, p2, r2, rfl, hv, hsF, _⟩
  simp only [GVal.val, noVal]
  have hu := (Upd.refl (fun _ => False) w4).alloc (.cells #[.int .i64 0, .int .i64 0, .string ⟨#[]⟩, .slice D1 p1 r1, .slice D2 p2 r2] 26)
  have hb2 := Blk.new w4 26 #[.int .i64 0, .int .i64 0, .string ⟨#[]⟩, .slice D1 p1 r1, .slice D2 p2 r2]
  have HV := Lib.hid ((hv.same hu).mono (F' := fun _ => True) fun _ _ _ => trivial)
  have hsG := (hsE.same hsF).same hu
  have HBk := Lib.hid (HBj.out.same hsG)
  have hsH := hsD.same hsG
  clear hv hu hsE hsF HCl hsG hsD
  go_wp2_with fail
  refine (lclone_on _ _ (Upd.refl _ _) HBk.out (by omega)).mono ?_
  rintro e w5 ⟨Ae, ce, rfl, hcl, hsE, _⟩
  have HCl := Lib.hid hcl
  clear hcl
  go_wp2_with fail
  refine (pre_on (g := noVal) (er := 10) (k := 0) _ _ HQ.out.2.2.2 (Upd.refl _ _) HCl.out).mono ?_
  rintro e w6 ⟨G1, u1, s1, G2, u2, s2, rfl, hv, hsF, _⟩
  simp only [GVal.val, noVal]
  have hu := (Upd.refl (fun _ => False) w6).alloc (.cells #[.int .i64 0, .int .i64 0, .string ⟨#[]⟩, .slice G1 u1 s1, .slice G2 u2 s2] 26)
  have hb3 := Blk.new w6 26 #[.int .i64 0, .int .i64 0, .string ⟨#[]⟩, .slice G1 u1 s1, .slice G2 u2 s2]
  have HW := Lib.hid ((hv.same hu).mono (F' := fun _ => True) fun _ _ _ => trivial)
  have hsI := (hsE.same hsF).same hu
  have HV2 := Lib.hid (HV.out.same hsI)
  have hb4 := hb2.same hsI
  have hsJ := hsH.same hsI
  clear hv hu hsE hsF HCl hsI hb2 HV hsH
  go_upto_region 8 with fail
  generalize w6.alloc (.cells #[.int .i64 0, .int .i64 0, .string ⟨#[]⟩, .slice G1 u1 s1, .slice G2 u2 s2] 26) = w7 at *
  generalize w6.heap.size = g3 at *
  generalize w4.heap.size = g2 at *
  obtain ⟨k0, k1, k2, k3, k4⟩ := hb4.five
  obtain ⟨q0, q1, q2, q3, q4⟩ := hb3.five
  have HSE := Lib.hid ((sameB_iff noVal noVal).2 rfl)
  have HNo := Lib.hid (fun w => RdVal.empty w 0 0 ⟨#[]⟩ (by decide) (by decide))
  go_wp2_with fail
  refine (rsame_r (g := noVal) (h := noVal) w7 _ HSE.out (Upd.refl _ _) HV2.out ((HNo.out _).mono (F' := fun _ => True) fun _ _ _ => trivial)).mono ?_
  rintro e w8 ⟨rfl, hsK, _⟩
  have HW2 := Lib.hid (HW.out.same hsK)
  have hb5 := hb3.same hsK
  clear k0 k1 k2 k3 k4 q0 q1 q2 q3 q4 hb3
  obtain ⟨q0, q1, q2, q3, q4⟩ := hb5.five
  go_wp2_with fail
  refine (rsame_r (g := noVal) (h := noVal) w7 _ HSE.out hsK HW2.out ((HNo.out _).mono (F' := fun _ => True) fun _ _ _ => trivial)).mono ?_
  rintro e w9 ⟨rfl, _, hsL⟩
  go_wp2
  go_ret
  exact ⟨rfl, hsJ.same hsL⟩
end Go.Proofs.Ytfgdgpingdgfgaa
