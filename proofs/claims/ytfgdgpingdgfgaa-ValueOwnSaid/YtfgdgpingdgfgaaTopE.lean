/- The walk of ValueThere. -/
import Derived.Test.YtfgdgpingdgfgaaTopD
namespace Go.Proofs.Ytfgdgpingdgfgaa
open Go.RowKit

set_option maxHeartbeats 8000000 in
set_option maxRecDepth 100000 in
theorem there_walk {F F' : Nat → Prop} {A1 A2 : Option Addr} {n1 c1 n2 c2 : Nat} {g : GVal} {A : Option Addr} {n c : Nat} {bs : List UInt8} (w : World) (h : RdVal w F A1 n1 c1 A2 n2 c2 g) (ht : Bytes w F' A n c bs) (hs1 : n1 * 8 ≤ 140737488351232) (hs2 : n2 * 16 ≤ 140737488351232) (hx : g.text.size ≤ 140737488351232) (hts : ∀ s ∈ g.texts, s.size ≤ 140737488351232) (hn : n ≤ 140737488351232) :
    Calls Try.prog 8 #[g.val A1 n1 c1 A2 n2 c2, .slice A n c] w fun e w' => e = .returned (.bool true) ∧ Same w w' := by
  have hx' : g.text.size ≤ 9223372036854775807 := by omega
  have hts' : ∀ s ∈ g.texts, s.size ≤ 9223372036854775807 := fun s hs => by have := hts s hs; omega
  have HF := Lib.hid (show g.Fits from ⟨h.kind, h.num, h.range⟩)
  have HSE := Lib.hid ((sameB_iff g g).2 rfl)
  obtain ⟨C, hC⟩ : ∃ C, chk g = C := ⟨_, rfl⟩
  have HC := Lib.hid hC
  obtain ⟨kind, num, text, nums, texts⟩ := g
  simp only [GVal.val] at hx' hts' ⊢
  have HX := Lib.hid hx'
  have HT := Lib.hid hts'
  have HH := Lib.hid (h.mono (F' := fun _ => True) fun _ _ _ => trivial)
  have HTn := Lib.hid ht.len
  have HTl := Lib.hid (Row.mono ht (F' := fun _ => True) fun _ _ _ => trivial)
  have hsA := (Upd.refl (fun _ => False) w).alloc (.cells #[.int .i64 kind, .int .i64 num, .string text, .slice A1 n1 c1, .slice A2 n2 c2] 26)
  have hbA := Blk.new w 26 #[.int .i64 kind, .int .i64 num, .string text, .slice A1 n1 c1, .slice A2 n2 c2]
  clear h hx hts hx' hts' hC ht
  go_enter Try.func8, Try.ntmps8
  go_wp2_with fail
  refine (speaks_spec _).mono ?_
  rintro e w1 ⟨rfl, hsp⟩
  have hsB := hsA.same hsp
  have hbB := hbA.same hsp
  obtain ⟨k0, k1, k2, k3, k4⟩ := hbB.five
  have HHB := Lib.hid (HH.out.same hsB)
  clear hsA hbA hsp
  go_wp2_with fail
  refine (rcheck_on _ _ HC.out hsB HH.out HX.out HT.out).mono ?_
  rintro e w2 ⟨rfl, hsC, hsD⟩
  have hbD := hbB.same hsC
  clear k0 k1 k2 k3 k4 hbB hsC hsB HHB
  obtain ⟨k0, k1, k2, k3, k4⟩ := hbD.five
  by_cases hz : C = 0
  · subst hz
    obtain ⟨E, hE⟩ : ∃ E, enc ⟨kind, num, text, nums, texts⟩ = E := ⟨_, rfl⟩
    have HE := Lib.hid hE
    have hlen : E.length ≤ 40082 := by
      rw [← hE, enc_right HC.out]
      exact right_len (chk_right HC.out)
    have HDec := Lib.hid (hE ▸ decD_enc HC.out HF.out)
    have HPre := Lib.hid (hE ▸ decP_enc HC.out HF.out bs)
    clear hE
    go_wp2_with fail
    refine (copy_on _ _ hsD HH.out (by omega) (by omega)).mono ?_
    rintro e w3 ⟨B1, m1, d1, B2, m2, d2, rfl, hrd, hsE, hsF⟩
    simp only [GVal.val]
    have HHE := Lib.hid hrd
    clear hrd
    go_wp2_with fail
    refine (enc_on _ _ HE.out HC.out (Upd.refl _ _) HHE.out HX.out HT.out).mono ?_
    rintro e w4 ⟨Ab, nb, cb, rfl, hnb, hbs, hsG, _⟩
    have HNB := Lib.hid hnb
    have HBb := Lib.hid hbs
    have hsH := hsF.same hsG
    have hbH := (hbD.same hsE).same hsG
    have hnb' : nb ≤ 40082 := by omega
    clear hbs hsE hsG hsD hbD hsF hnb hlen HHE k0 k1 k2 k3 k4
    obtain ⟨k0, k1, k2, k3, k4⟩ := hbH.five
    go_wp2_with fail
    refine (lclone_on _ _ (Upd.refl _ _) HBb.out (by omega)).mono ?_
    rintro e w5 ⟨Ac, cc, rfl, hcl, hsI, _⟩
    have HCl := Lib.hid hcl
    clear hcl
    go_wp2_with fail
    refine (dec_on (g := ⟨kind, num, text, nums, texts⟩) (er := 0) _ _ (by rw [← HNB.out]; exact HDec.out) (Upd.refl _ _) HCl.out).mono ?_
    rintro e w6 ⟨D1, p1, r1, D2, p2, r2, rfl, hv, hsJ, hsK⟩
    simp only [GVal.val]
    have hu := (Upd.refl (fun _ => False) w6).alloc (.cells #[.int .i64 kind, .int .i64 num, .string text, .slice D1 p1 r1, .slice D2 p2 r2] 26)
    have hb2 := Blk.new w6 26 #[.int .i64 kind, .int .i64 num, .string text, .slice D1 p1 r1, .slice D2 p2 r2]
    have hbJ := ((hbH.same hsI).same hsJ).same hu
    have hsL := (hsI.same hsJ).same hu
    have hne : w.heap.size < w6.heap.size := ((hbH.same hsI).same hsJ).lt
    have HV := Lib.hid ((hv.same hu).mono (F' := fun _ => True) fun _ _ _ => trivial)
    clear hv hu hsJ hsK HCl hsI k0 k1 k2 k3 k4
    go_upto_region 9 with fail
    generalize w6.alloc (.cells #[.int .i64 kind, .int .i64 num, .string text, .slice D1 p1 r1, .slice D2 p2 r2] 26) = w7 at *
    generalize w6.heap.size = g2 at *
    obtain ⟨k0, k1, k2, k3, k4⟩ := hbJ.five
    obtain ⟨q0, q1, q2, q3, q4⟩ := hb2.five
    go_wp2_with fail
    refine (rsame_r w4 _ HSE.out hsL (HH.out.same (hsH.same hsL)) HV.out).mono ?_
    rintro e w8 ⟨rfl, hsM, hsN⟩
    have hbM := hbJ.same hsM
    have hb3 := hb2.same hsM
    have hsO := hsH.same hsN
    have HBc := Lib.hid (HBb.out.same hsN)
    clear hbJ hb2 hsH hsM hsL HV k0 k1 k2 k3 k4 q0 q1 q2 q3 q4 hbH HBb
    go_wp2_with fail
    refine (lclone_spec _ HBc.out (by omega)).mono ?_
    rintro e w9 ⟨v, rfl, ho, hsP⟩
    have HSP := Lib.hid hsP
    have hsz : w8.heap.size ≤ w9.heap.size := hsP.size
    obtain ⟨Ad, nd, cd, rfl⟩ := own_slice ho
    have HO := Lib.hid ho
    have HTl2 := Lib.hid (HTl.out.same (hsO.same hsP))
    clear ho hsP
    have hEn : E.length ≤ 40082 := by rw [HNB.out]; exact hnb'
    go_wp2_with (at_builtin; go_must (refine wpList_app rfl (.tmp 38) (.tmp 39) _ _ rfl w8.heap.size 5 1 1 _ Try.underlying33 info_u8 rfl (.slice Ad nd cd) E.length (E.map u8v) rfl HO.out rfl (src_row Try.underlying33 HTl2.out (u8_oneCell bs)) (by unfold maxLen; omega) (by omega) hsz ?_); intro v' w10 hg; have HG := Lib.hid hg; clear hg)
    have hsR : Same w8 w10 := HSP.out.trans HG.out.upd fun b hb hv => by have := (HO.out.lt b hv).1; omega
    obtain ⟨Ae, ne, ce, rfl⟩ := own_slice HG.out.own
    have hBe : ∃ F, Bytes w10 F Ae ne ce (E ++ bs) := ⟨_, by have := HG.out.own; rw [← List.map_append, show E.length + n = (E ++ bs).length by rw [List.length_append, HTn.out]] at this; exact own_bytes this⟩
    obtain ⟨Fe, hBe⟩ := hBe
    have HBe := Lib.hid hBe
    have hsS := hsO.same hsR
    have hbR := hbM.same hsR
    have hbS := hb3.same hsR
    have hg2 : g2 < w10.heap.size := hbS.lt
    clear hBe hsR hbM hb3 hsO hEn
    go_wp2_with fail
    refine (pre_on (g := ⟨kind, num, text, nums, texts⟩) (er := 0) (k := nb) _ _ (by rw [← HNB.out]; exact HPre.out) (Upd.refl _ _) HBe.out).mono ?_
    rintro e w11 ⟨G1, u1, s1, G2, u2, s2, rfl, hv, hsT, _⟩
    simp only [GVal.val]
    have hsU := hsS.same hsT
    have hbT := hbR.same hsT
    have hbU := hbS.same hsT
    have HV := Lib.hid hv
    clear hsS hsT hbR hbS hv
    obtain ⟨q0, q1, q2, q3, q4⟩ := hbU.five
    obtain ⟨z0, z1, z2, z3, z4⟩ := hbU.five_free
    go_upto_region 12 with fail
    have hU5 := (Upd.refl (fun b => b = g2) w11).put5 (.int .i64 kind) (.int .i64 num) (.string text) (.slice G1 u1 s1) (.slice G2 u2 s2)
    have hb5 := hbU.put5 (.int .i64 kind) (.int .i64 num) (.string text) (.slice G1 u1 s1) (.slice G2 u2 s2)
    clear q0 q1 q2 q3 q4 z0 z1 z2 z3 z4
    unfold put5 at hU5 hb5
    generalize ((((w11.setCell ⟨g2, 0, none⟩ (.int .i64 kind)).setCell ⟨g2, 1, none⟩ (.int .i64 num)).setCell ⟨g2, 2, none⟩ (.string text)).setCell ⟨g2, 3, none⟩ (.slice G1 u1 s1)).setCell ⟨g2, 4, none⟩ (.slice G2 u2 s2) = w12 at *
    have hb6 := hbT.upd hU5 (by omega)
    have hsV : Same w w12 := hsU.trans hU5 fun b hb hh => by omega
    have HV2 := Lib.hid ((HV.out.upd hU5 fun b hb hh => by omega).mono (F' := fun _ => True) fun _ _ _ => trivial)
    obtain ⟨q0, q1, q2, q3, q4⟩ := hb5.five
    obtain ⟨k0, k1, k2, k3, k4⟩ := hb6.five
    clear hb5 hb6 hU5 hbT hbU HV hsU
    go_wp2_with fail
    refine (rsame_r w12 _ HSE.out (Upd.refl _ _) (HH.out.same hsV) HV2.out).mono ?_
    rintro e w13 ⟨rfl, _, hsW⟩
    go_wp2
    go_ret
    exact ⟨rfl, hsV.same hsW⟩
  · have hz' : (C != 0) = true := by rw [bne_iff_ne]; exact hz
    go_wp2
    go_ret
    exact ⟨rfl, hsD⟩
end Go.Proofs.Ytfgdgpingdgfgaa
