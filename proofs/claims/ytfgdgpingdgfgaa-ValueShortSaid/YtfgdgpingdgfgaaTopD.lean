/- The walk of ValueBack. -/
import Derived.Test.YtfgdgpingdgfgaaTopC
namespace Go.Proofs.Ytfgdgpingdgfgaa
open Go.RowKit

set_option maxHeartbeats 8000000 in
set_option maxRecDepth 100000 in
theorem back_walk {F : Nat → Prop} {A : Option Addr} {n c : Nat} {bs : List UInt8} (w : World) (h : Bytes w F A n c bs) (hn : n ≤ 140737488351232) :
    Calls Try.prog 12 #[.slice A n c] w fun e w' => e = .returned (.bool true) ∧ Same w w' := by
  obtain ⟨⟨⟨kind, num, text, nums, texts⟩, er⟩, hD⟩ : ∃ D, decD n (decP bs) = D := ⟨_, rfl⟩
  have HD := Lib.hid hD
  have HL := Lib.hid h.len
  have HH := Lib.hid h
  clear h hD
  go_enter Try.func12, Try.ntmps12
  go_wp2_with fail
  refine (speaks_spec _).mono ?_
  rintro e w1 ⟨rfl, hsp⟩
  go_wp2_with fail
  refine (lclone_on _ _ hsp HH.out (by omega)).mono ?_
  rintro e w2 ⟨A', c', rfl, hin, _, hs2⟩
  have HI := Lib.hid hin
  clear hin hsp
  go_wp2_with fail
  refine (dec_on _ _ HD.out (Upd.refl _ _) HI.out).mono ?_
  rintro e w3 ⟨A1, n1, c1, A2, n2, c2, rfl, hv, _, hs3⟩
  simp only [GVal.val]
  have hb1 := Blk.new w3 26 #[.int .i64 kind, .int .i64 num, .string text, .slice A1 n1 c1, .slice A2 n2 c2]
  have hu := (Upd.refl (fun _ => False) w3).alloc (.cells #[.int .i64 kind, .int .i64 num, .string text, .slice A1 n1 c1, .slice A2 n2 c2] 26)
  have hsA := (hs2.same hs3).same hu
  have HV := Lib.hid ((hv.same hu).mono (F' := fun _ => True) fun _ _ _ => trivial)
  clear hv hu hs2 hs3 HI
  by_cases he : er = 0
  · subst he
    obtain ⟨hc, hf, he⟩ := decD_back (by rw [HL.out]; exact HD.out)
    have hz := chk_zero hc
    have HC := Lib.hid hc
    have HE := Lib.hid he
    have HX := Lib.hid (show text.size ≤ 9223372036854775807 from by have := hz.2.2.2.2.2.1; simp only at this; omega)
    have HT := Lib.hid (show ∀ s ∈ texts, s.size ≤ 9223372036854775807 from fun s hs => by have := hz.2.2.2.2.2.2 s hs; omega)
    have HWt := Lib.hid (show (enc _).length = n from (congrArg List.length he).trans HL.out)
    clear hc he hz hf
    go_upto_if 9 with fail
    generalize w3.alloc (.cells #[.int .i64 kind, .int .i64 num, .string text, .slice A1 n1 c1, .slice A2 n2 c2] 26) = w4 at *
    generalize w3.heap.size = g1 at *
    obtain ⟨p0, p1, p2, p3, p4⟩ := hb1.five
    have HB := Lib.hid hb1
    clear hb1
    go_wp2_with fail
    refine (enc_on _ _ HE.out HC.out (Upd.refl _ _) HV.out HX.out HT.out).mono ?_
    rintro e w5 ⟨B1, m1, d1, rfl, hm, hb, hs5, _⟩
    have hm1 : m1 = n := hm.symm.trans HL.out
    clear hm
    subst hm1
    obtain ⟨q0, q1, q2, q3, q4⟩ := (HB.out.same hs5).five
    have HBb := Lib.hid hb
    clear hb p0 p1 p2 p3 p4
    go_wp2_with fail
    refine (check_on _ _ HC.out hs5 HV.out HX.out HT.out).mono ?_
    rintro e w6 ⟨rfl, hs6, hs7⟩
    obtain ⟨r0, r1, r2, r3, r4⟩ := (HB.out.same hs7).five
    have HA := Lib.hid ((Row.mono (HH.out.same (hsA.same hs7)) (F' := fun _ => True) fun _ _ _ => trivial))
    have HBc := Lib.hid (HBb.out.same hs6)
    clear hs6 hs5 q0 q1 q2 q3 q4 HBb
    go_wp2_with fail
    refine (lsame_on _ _ (decide_eq_true (rfl : bs = bs)) hs7 HA.out HBc.out).mono ?_
    rintro e w7 ⟨rfl, _, hs8⟩
    obtain ⟨q0, q1, q2, q3, q4⟩ := (HB.out.same hs8).five
    clear r0 r1 r2 r3 r4
    go_wp2_with fail
    refine (weight_on _ _ HWt.out hs8 HV.out HX.out HT.out).mono ?_
    rintro e w8 ⟨rfl, _, hs9⟩
    go_wp2
    go_ret
    exact ⟨rfl, hsA.same hs9⟩
  · have he' : (er == 0) = false := by rw [beq_eq_false_iff_ne]; exact he
    have he'' : (er != 0) = true := by rw [bne_iff_ne]; exact he
    go_wp2
    go_ret
    exact ⟨rfl, hsA⟩

end Go.Proofs.Ytfgdgpingdgfgaa
