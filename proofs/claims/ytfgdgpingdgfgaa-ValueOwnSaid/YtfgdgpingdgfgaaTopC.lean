/- The walks of ValueDecodes, ValuePrefixes. -/
import Derived.Test.YtfgdgpingdgfgaaTopB
namespace Go.Proofs.Ytfgdgpingdgfgaa
open Go.RowKit

theorem lclone_on {F : Nat → Prop} {A : Option Addr} {n c : Nat} {bs : List UInt8} (w0 w : World) (hs : Same w0 w) (hb : Bytes w0 F A n c bs) (hn : n ≤ 140737488355328) :
    Calls Try.prog 19 #[.slice A n c] w fun e w' => ∃ A' c', e = .returned (.slice A' n c') ∧ Bytes w' (fun b => w.heap.size ≤ b) A' n c' bs ∧ Same w w' ∧ Same w0 w' := by
  refine (lclone_spec w (hb.same hs) hn).mono ?_
  rintro e w' ⟨v, rfl, ho, h2⟩
  obtain ⟨A', c', rfl, hr⟩ := own_row ho
  rw [hb.len] at hr
  exact ⟨A', c', by rw [hb.len], hr, h2, hs.same h2⟩

set_option maxHeartbeats 8000000 in
set_option maxRecDepth 100000 in
theorem decodes_walk {F : Nat → Prop} {A : Option Addr} {n c : Nat} {bs : List UInt8} (w : World) (h : Bytes w F A n c bs) (hn : n ≤ 140737488351232) :
    Calls Try.prog 6 #[.slice A n c] w fun e w' => e = .returned (.bool true) ∧ Same w w' := by
  obtain ⟨⟨⟨kind, num, text, nums, texts⟩, er⟩, hD⟩ : ∃ D, decD n (decP bs) = D := ⟨_, rfl⟩
  have HD := Lib.hid hD
  have HSE := Lib.hid ((sameB_iff ⟨kind, num, text, nums, texts⟩ _).2 rfl)
  have HH := Lib.hid h
  clear h hD
  go_enter Try.func6, Try.ntmps6
  go_wp2_with fail
  refine (speaks_spec _).mono ?_
  rintro e w1 ⟨rfl, hsp⟩
  go_wp2_with fail
  refine (lclone_on _ _ hsp HH.out (by omega)).mono ?_
  rintro e w2 ⟨A', c', rfl, hin, _, hs2⟩
  have HI := Lib.hid hin
  clear hin hsp
  go_wp2_with fail
  refine (dec_on _ _ HD.out (Upd.refl _ _) HI.out).mono ?_
  rintro e w3 ⟨A1, n1, c1, A2, n2, c2, rfl, hv, _, hs3⟩
  simp only [GVal.val]
  have hb1 := Blk.new w3 26 #[.int .i64 kind, .int .i64 num, .string text, .slice A1 n1 c1, .slice A2 n2 c2]
  have hu := (Upd.refl (fun _ => False) w3).alloc (.cells #[.int .i64 kind, .int .i64 num, .string text, .slice A1 n1 c1, .slice A2 n2 c2] 26)
  have hsA := (hs2.same hs3).same hu
  have HV := Lib.hid (hv.same hu)
  have HJ := Lib.hid ((HI.out.same hs3).same hu)
  clear hv hu hs2 hs3 HI
  go_wp2_with fail
  refine (rdec_on _ _ HD.out hsA HH.out).mono ?_
  rintro e w4 ⟨B1, m1, d1, B2, m2, d2, rfl, hv, hs4, hs5⟩
  simp only [GVal.val]
  have hu := (Upd.refl (fun _ => False) w4).alloc (.cells #[.int .i64 kind, .int .i64 num, .string text, .slice B1 m1 d1, .slice B2 m2 d2] 26)
  have HB1 := Lib.hid ((hb1.same hs4).same hu)
  have HB2 := Lib.hid (Blk.new w4 26 #[.int .i64 kind, .int .i64 num, .string text, .slice B1 m1 d1, .slice B2 m2 d2])
  have HV1 := Lib.hid (((HV.out.same hs4).same hu).mono (F' := fun _ => True) fun _ _ _ => trivial)
  have HV2 := Lib.hid ((hv.same hu).mono (F' := fun _ => True) fun _ _ _ => trivial)
  have HJ2 := Lib.hid (Row.mono ((HJ.out.same hs4).same hu) (F' := fun _ => True) fun _ _ _ => trivial)
  have hsG := hs5.same hu
  have HHG := Lib.hid (Row.mono (HH.out.same hsG) (F' := fun _ => True) fun _ _ _ => trivial)
  clear hb1 hs4 hu HV hv HJ hsA hs5 HH
  go_upto_region 6 with fail
  generalize w4.alloc (.cells #[.int .i64 kind, .int .i64 num, .string text, .slice B1 m1 d1, .slice B2 m2 d2] 26) = w5 at *
  generalize w3.heap.size = g1 at *
  generalize w4.heap.size = g2 at *
  obtain ⟨p0, p1, p2, p3, p4⟩ := HB1.out.five
  obtain ⟨q0, q1, q2, q3, q4⟩ := HB2.out.five
  go_wp2_with fail
  refine (rsame_r w5 _ HSE.out (Upd.refl _ _) HV1.out HV2.out).mono ?_
  rintro e w6 ⟨rfl, hs6, _⟩
  go_wp2_with fail
  refine (lsame_on w5 _ (decide_eq_true (rfl : bs = bs)) hs6 (HJ2.out.same hs6) (HHG.out.same hs6)).mono ?_
  rintro e w7 ⟨rfl, _, hs7⟩
  go_wp2
  go_ret
  exact ⟨rfl, hsG.same hs7⟩

set_option maxHeartbeats 8000000 in
set_option maxRecDepth 100000 in
theorem prefixes_walk {F : Nat → Prop} {A : Option Addr} {n c : Nat} {bs : List UInt8} (w : World) (h : Bytes w F A n c bs) (hn : n ≤ 140737488351232) :
    Calls Try.prog 7 #[.slice A n c] w fun e w' => e = .returned (.bool true) ∧ Same w w' := by
  have hle := decP_le bs
  rw [h.len] at hle
  obtain ⟨⟨⟨kind, num, text, nums, texts⟩, k, er⟩, hD⟩ : ∃ D, decP bs = D := ⟨_, rfl⟩
  rw [hD] at hle
  simp only at hle
  have HD := Lib.hid hD
  have HSE := Lib.hid ((sameB_iff ⟨kind, num, text, nums, texts⟩ _).2 rfl)
  have HH := Lib.hid h
  clear h hD
  go_enter Try.func7, Try.ntmps7
  go_wp2_with fail
  refine (speaks_spec _).mono ?_
  rintro e w1 ⟨rfl, hsp⟩
  go_wp2_with fail
  refine (lclone_on _ _ hsp HH.out (by omega)).mono ?_
  rintro e w2 ⟨A', c', rfl, hin, _, hs2⟩
  have HI := Lib.hid hin
  clear hin hsp
  go_wp2_with fail
  refine (pre_on _ _ HD.out (Upd.refl _ _) HI.out).mono ?_
  rintro e w3 ⟨A1, n1, c1, A2, n2, c2, rfl, hv, _, hs3⟩
  simp only [GVal.val]
  have hb1 := Blk.new w3 26 #[.int .i64 kind, .int .i64 num, .string text, .slice A1 n1 c1, .slice A2 n2 c2]
  have hu := (Upd.refl (fun _ => False) w3).alloc (.cells #[.int .i64 kind, .int .i64 num, .string text, .slice A1 n1 c1, .slice A2 n2 c2] 26)
  have hsA := (hs2.same hs3).same hu
  have HV := Lib.hid (hv.same hu)
  clear hv hu hs2 hs3 HI
  go_wp2_with fail
  refine (rpre_on _ _ HD.out hsA HH.out).mono ?_
  rintro e w4 ⟨B1, m1, d1, B2, m2, d2, rfl, hv, hs4, hs5⟩
  simp only [GVal.val]
  have hu := (Upd.refl (fun _ => False) w4).alloc (.cells #[.int .i64 kind, .int .i64 num, .string text, .slice B1 m1 d1, .slice B2 m2 d2] 26)
  have HB1 := Lib.hid ((hb1.same hs4).same hu)
  have HB2 := Lib.hid (Blk.new w4 26 #[.int .i64 kind, .int .i64 num, .string text, .slice B1 m1 d1, .slice B2 m2 d2])
  have HV1 := Lib.hid (((HV.out.same hs4).same hu).mono (F' := fun _ => True) fun _ _ _ => trivial)
  have HV2 := Lib.hid ((hv.same hu).mono (F' := fun _ => True) fun _ _ _ => trivial)
  have hsG := hs5.same hu
  clear hb1 hs4 hu HV hv hsA hs5 HH
  go_upto_region 5 with fail
  generalize w4.alloc (.cells #[.int .i64 kind, .int .i64 num, .string text, .slice B1 m1 d1, .slice B2 m2 d2] 26) = w5 at *
  generalize w3.heap.size = g1 at *
  generalize w4.heap.size = g2 at *
  obtain ⟨p0, p1, p2, p3, p4⟩ := HB1.out.five
  obtain ⟨q0, q1, q2, q3, q4⟩ := HB2.out.five
  go_wp2_with fail
  refine (rsame_r w5 _ HSE.out (Upd.refl _ _) HV1.out HV2.out).mono ?_
  rintro e w6 ⟨rfl, hs6, _⟩
  go_wp2
  go_ret
  exact ⟨rfl, hsG.same hs6⟩

end Go.Proofs.Ytfgdgpingdgfgaa
