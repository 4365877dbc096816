/- The reference's PropsWrong, nodeWrong. -/
import Derived.Test.YtlnademnfnhbpaaGreatRChk
import Derived.Test.YtlnademnfnhbpaaGreatRGood
import Derived.Test.YtlnademnfnhbpaaGreatGnode
import Derived.BigQuiet
namespace Go.Proofs.YtlnademnfnhbpaaGreat
open Go.RowKit

set_option maxHeartbeats 8000000 in
set_option maxRecDepth 100000 in
theorem propsWrong_spec {F : Nat → Prop} {A : Option Addr} {n c : Nat} {ps : List PR} (w : World) (h : RdPs w F A n c ps) (hf : PsFit ps) {E : Int} (hE : propsErr (ps.map PR.dat) = E) :
    Calls Tryz.prog 34 #[.slice A n c] w fun e w' => e = .returned (.int .i64 E) ∧ Same w w' := by
  have hl := h.len
  have hmx := h.row.max
  have hle := h.row.le
  unfold maxLen at hmx
  have HR := Lib.hid h
  have HF := Lib.hid hf
  unfold propsErr at hE
  rw [List.length_map, hl] at hE
  have HL := Lib.hid hl
  by_cases h16 : 16 < n
  · rw [if_pos h16] at hE
    subst hE
    have h16i : (16 : Int) < n := by omega
    go_enter Tryz.func34, Tryz.ntmps34
    go_wp2
    go_ret
    exact ⟨rfl, Upd.refl _ _⟩
  · rw [if_neg h16] at hE
    have HE := Lib.hid hE
    have h16i : ¬ (16 : Int) < n := by omega
    clear h hf hl hE
    go_enter Tryz.func34, Tryz.ntmps34
    go_wp2_with fail
    go_loopg [3, 2, 4] n (fun gh ix s2 s4 wr => ∃ i : Nat, n - i = gh ∧ i ≤ n ∧ ix = .int .i64 i ∧ Hid (Same w wr) ∧ Hid (propErrs (aheadK PR.key ps i) ((ps.map PR.dat).drop i) = E))
    case atStart => exact ⟨0, rfl, Nat.zero_le _, rfl, Lib.hid (Upd.refl _ _), Lib.hid (by rw [List.drop_zero]; exact HE.out)⟩
    case round =>
      obtain ⟨i, rfl, hi, rfl, KS, KE⟩ := hrel
      by_cases hlt : i < n
      · have HRw := Lib.hid (HR.out.same KS.out)
        obtain ⟨b, o, x, rfl, hb, _, hx, hxm, r0, r1, r2, r3, r4, r5⟩ := HRw.out.at_ hlt
        have hke := KE.out
        have hxd : (ps.map PR.dat)[i]? = some x.dat := by rw [List.getElem?_map, hx]; rfl
        rw [drop_cons hxd] at hke
        simp only [propErrs] at hke
        have HV := Lib.hid ((HRw.out.val x hxm))
        have HX1 := Lib.hid (HF.out x hxm).1
        have HX2 := Lib.hid (HF.out x hxm).2
        have HAk := Lib.hid (show aheadK PR.key ps (i + 1) = some x.key from by simp only [aheadK, hx]; rfl)
        have HRat := Lib.hid (fun (w9 : World) (hu : Same wr w9) => (HRw.out.same hu).at_ hlt)
        have HX := Lib.hid hx
        obtain ⟨kx, ⟨x0, x1, x2, x3, x4⟩, X1, a1, b1, X2, a2, b2⟩ := x
        simp only at r0 r1 r2 r3 r4 r5
        replace hke : (if goodN kx = false then 60 else if notAfter kx (aheadK PR.key ps i) = true then 6 else if chk ⟨x0, x1, x2, x3, x4⟩ ≠ 0 then chk ⟨x0, x1, x2, x3, x4⟩ else propErrs (some kx) ((ps.map PR.dat).drop (i + 1))) = E := hke
        cases hg : goodN kx with
        | false =>
          rw [hg, if_pos rfl] at hke
          have HK := Lib.hid hke
          have HG := Lib.hid hg
          clear hke hg hx hxd hxm r1 r2 r3 r4 r5
          go_wp2_with fail
          refine (rgood_spec kx _).mono ?_
          rintro e w2 ⟨rfl, hs2⟩
          have HS2 := Lib.hid (KS.out.same hs2)
          clear hs2
          rw [HG.out]
          go_wp2
          go_ret
          exact ⟨by rw [← HK.out]; rfl, HS2.out⟩
        | true =>
          rw [hg, if_neg (by simp)] at hke
          have HG := Lib.hid hg
          obtain ⟨r, hr⟩ : ∃ r, notAfter kx (aheadK PR.key ps i) = r := ⟨_, rfl⟩
          rw [hr] at hke
          have HKr := Lib.hid (show r = true → (6 : Int) = E from fun h => by rw [if_pos h] at hke; exact hke)
          have HKn := Lib.hid (show r = false → (if chk ⟨x0, x1, x2, x3, x4⟩ ≠ 0 then chk ⟨x0, x1, x2, x3, x4⟩ else propErrs (some kx) (List.drop (i + 1) (ps.map PR.dat))) = E from fun h => by rw [if_neg (by rw [h]; simp)] at hke; exact hke)
          have HRr := Lib.hid hr
          clear hke hg hr hx hxd hxm r1 r2 r3 r4 r5
          go_wp2_with fail
          refine (rgood_spec kx _).mono ?_
          rintro e w2 ⟨rfl, hs2⟩
          have HS2 := Lib.hid (KS.out.same hs2)
          have HRA := Lib.hid (HRw.out.same hs2)
          have HV2 := Lib.hid (HV.out.same hs2)
          rw [HG.out]
          have r0' : w2.cell? ⟨b, o + i * 6, none⟩ = some (.string kx) := (hs2.cell (p := ⟨b, o + i * 6, none⟩) hb (fun f => f)).trans r0
          clear r0 hs2 KS KE HRw HV HRat
          go_upto_region 8 with fail
          go_cut [36] from 21 to 45 (fun s36 wx => s36 = .bool r ∧ ∃ d, wx = w2.drewN d)
          case first =>
            by_cases hi0 : i = 0
            · have hgt : ¬ (0 : Int) < i := by omega
              have hgtN : ¬ 0 < i := by omega
              have hgd : decide (0 < i) = false := decide_eq_false hgtN
              have hr0 : r = false := by rw [← HRr.out, hi0]; rfl
              subst hr0
              clear hi0
              go_quiet (fail)
              go_wp2
              go_meet
              case rel => exact ⟨rfl, _, rfl⟩
            · obtain ⟨j, hj⟩ : ∃ j, i = j + 1 := ⟨i - 1, by omega⟩
              have hgt : (0 : Int) < i := by omega
              have hgtN : 0 < i := by omega
              have hjn : j < n := by omega
              have hwr : IntKind.i64.wrap ((i : Int) - 1) = (j : Int) := by rw [IntKind.wrap_i64]; omega
              obtain ⟨b2, o2, y, hA2, _, _, hy, _, q0, _⟩ := HRA.out.at_ hjn
              injection hA2 with hA2
              injection hA2 with e1 e2 _
              subst e1 e2
              obtain ⟨ky, hky⟩ : ∃ ky, y.key = ky := ⟨_, rfl⟩
              rw [hky] at q0
              have hyr : (Op.bytesLess kx.toList ky.toList || kx.toList == ky.toList) = r := by
                rw [← HRr.out, hj]
                simp only [aheadK]
                rw [hy]
                simp only [Option.map_some, hky]
                rfl
              clear hy hky hj hi0
              go_quiet (fail)
              go_wp2
              go_meet
              case rel => exact ⟨rfl, _, rfl⟩
          case rest =>
            obtain ⟨rfl, d, rfl⟩ := hcut
            have hsd : Same w2 (w2.drewN d) := (Upd.refl _ w2).drewN d
            have HS6 := Lib.hid (HS2.out.same hsd)
            have HR6 := Lib.hid (HRA.out.same hsd)
            have HV6 := Lib.hid (HV2.out.same hsd)
            clear hsd r0' HS2 HRA HV2
            generalize w2.drewN d = w6 at *
            cases r with
            | true =>
              have hE6 := HKr.out rfl
              subst hE6
              go_wp2
              go_ret
              exact ⟨rfl, HS6.out⟩
            | false =>
              have hk := HKn.out rfl
              obtain ⟨b3, o3, x', hA3, _, _, hx', _, q0, q1, q2, q3, q4, q5⟩ := HR6.out.at_ hlt
              injection hA3 with hA3
              injection hA3 with e1 e2 _
              subst e1 e2
              rw [HX.out] at hx'
              injection hx' with hx'
              subst hx'
              simp only at q0 q1 q2 q3 q4 q5
              have HK := Lib.hid hk
              clear hk q0
              go_wp2_with fail
              refine (rcheck_spec _ HV6.out HX1.out HX2.out).mono ?_
              rintro e w7 ⟨rfl, hs7⟩
              have HS7 := Lib.hid (HS6.out.same hs7)
              clear hs7 q1 q2 q3 q4 q5 HS6 HV6
              obtain ⟨C, hC⟩ : ∃ C, chk ⟨x0, x1, x2, x3, x4⟩ = C := ⟨_, rfl⟩
              have hk := HK.out
              rw [hC] at hk ⊢
              by_cases hz : C = 0
              · subst hz
                rw [if_neg (by simp)] at hk
                have HK2 := Lib.hid hk
                clear hk HK hC
                go_wp2
                go_roundg (n - (i + 1))
                case measure => omega
                case rel => exact ⟨i + 1, rfl, by omega, by go_num, HS7, Lib.hid (by rw [HAk.out]; exact HK2.out)⟩
              · rw [if_pos hz] at hk
                subst hk
                have hcn : (C != 0) = true := by rw [bne_iff_ne]; exact hz
                go_wp2
                go_ret
                exact ⟨rfl, HS7.out⟩
      · have hin : i = n := by omega
        have hE0 : E = 0 := by
          have h1 := KE.out
          rw [List.drop_of_length_le (by rw [List.length_map, HL.out]; omega)] at h1
          simpa [propErrs] using h1.symm
        subst hE0
        clear KE HE
        go_wp2
        go_ret
        exact ⟨rfl, KS.out⟩

/-- What is wrong inside a node. -/
def insideErr (ls : List ByteArray) (ps : List GPr) : Int := if labelsErr ls ≠ 0 then labelsErr ls else propsErr ps

set_option maxHeartbeats 8000000 in
set_option maxRecDepth 100000 in
theorem nodeWrong_spec {F : Nat → Prop} {ix : Int} {AL AP : Option Addr} {nL cL nP cP : Nat} {ls : List ByteArray} {ps : List PR} (w : World) (hL : WRow w F 1 AL nL cL (ls.map Value.string)) (hP : RdPs w F AP nP cP ps) (hf : PsFit ps) {E : Int} (hE : insideErr ls (ps.map PR.dat) = E) :
    Calls Tryz.prog 33 #[.agg #[.int .i64 ix, .slice AL nL cL, .slice AP nP cP]] w fun e w' => e = .returned (.int .i64 E) ∧ Same w w' := by
  have hl : ls.length = nL := by have := hL.len; simpa using this
  have hmx := hL.max
  have hle := hL.le
  unfold maxLen at hmx
  have hs1 := (Upd.refl (fun _ => False) w).alloc (.cells #[.int .i64 ix, .slice AL nL cL, .slice AP nP cP] 40)
  have HS1 := Lib.hid hs1
  have HB1 := Lib.hid (Blk.new w 40 #[.int .i64 ix, .slice AL nL cL, .slice AP nP cP])
  have HR := Lib.hid (hL.upd hs1 fun b hb hh => hh)
  have HP := Lib.hid (hP.same hs1)
  have HF := Lib.hid hf
  have HL := Lib.hid hl
  obtain ⟨L, hLE⟩ : ∃ L, labelsErr ls = L := ⟨_, rfl⟩
  unfold insideErr at hE
  rw [hLE] at hE
  unfold labelsErr at hLE
  rw [hl] at hLE
  by_cases h8 : 8 < nL
  · rw [if_pos h8] at hLE
    subst hLE
    rw [if_pos (by decide)] at hE
    subst hE
    have h8i : (8 : Int) < nL := by omega
    go_enter Tryz.func33, Tryz.ntmps33
    go_wp2
    go_ret
    exact ⟨rfl, HS1.out⟩
  · rw [if_neg h8] at hLE
    have HE := Lib.hid hE
    have HLE := Lib.hid hLE
    have h8i : ¬ (8 : Int) < nL := by omega
    clear hL hP hf hl hE hLE hs1
    go_enter Tryz.func33, Tryz.ntmps33
    go_upto_region 1 with fail
    generalize w.alloc (.cells #[.int .i64 ix, .slice AL nL cL, .slice AP nP cP] 40) = w1 at *
    have p1 : w1.cell? ⟨w.heap.size, 1, none⟩ = some (.slice AL nL cL) := HB1.out.cell 1
    go_wp2_with fail
    clear p1
    go_loopg [3, 2] nL (fun gh jx s2 wr => ∃ i : Nat, nL - i = gh ∧ i ≤ nL ∧ jx = .int .i64 i ∧ Hid (Same w1 wr) ∧ Hid (labErrs (aheadK id ls i) (ls.drop i) = L))
    case atStart => exact ⟨0, rfl, Nat.zero_le _, rfl, Lib.hid (Upd.refl _ _), Lib.hid (by rw [List.drop_zero]; exact HLE.out)⟩
    case round =>
      obtain ⟨i, rfl, hi, rfl, KS, KE⟩ := hrel
      have p1 : wr.cell? ⟨w.heap.size, 1, none⟩ = some (.slice AL nL cL) := (HB1.out.same KS.out).cell 1
      by_cases hlt : i < nL
      · have HRw := Lib.hid (HR.out.upd KS.out fun b hb hh => hh)
        obtain ⟨b, o, u, rfl, hb, _, hu, r0⟩ := HRw.out.at_ hlt
        rw [List.getElem?_map] at hu
        obtain ⟨x, hx, rfl⟩ := Option.map_eq_some_iff.1 hu
        have hke := KE.out
        rw [drop_cons hx] at hke
        simp only [labErrs] at hke
        have HAk := Lib.hid (show aheadK id ls (i + 1) = some x from by simp only [aheadK, hx]; rfl)
        clear hu
        cases hg : goodN x with
        | false =>
          rw [hg, if_pos rfl] at hke
          subst hke
          have HE2 := Lib.hid (show (60 : Int) = E from by have h := HE.out; rw [if_pos (by decide)] at h; exact h)
          have HG := Lib.hid hg
          clear hg hx
          go_wp2_with fail
          refine (rgood_spec x _).mono ?_
          rintro e w2 ⟨rfl, hs2⟩
          have HS2 := Lib.hid (KS.out.same hs2)
          clear hs2
          rw [HG.out]
          go_wp2
          go_ret
          exact ⟨by rw [← HE2.out]; rfl, HS1.out.same HS2.out⟩
        | true =>
          rw [hg, if_neg (by simp)] at hke
          have HG := Lib.hid hg
          obtain ⟨r, hr⟩ : ∃ r, notAfter x (aheadK id ls i) = r := ⟨_, rfl⟩
          rw [hr] at hke
          have HKr := Lib.hid (show r = true → (6 : Int) = L from fun h => by rw [if_pos h] at hke; exact hke)
          have HKn := Lib.hid (show r = false → labErrs (some x) (ls.drop (i + 1)) = L from fun h => by rw [if_neg (by rw [h]; simp)] at hke; exact hke)
          have HRr := Lib.hid hr
          clear hke hg hr
          go_wp2_with fail
          refine (rgood_spec x _).mono ?_
          rintro e w2 ⟨rfl, hs2⟩
          have HS2 := Lib.hid (KS.out.same hs2)
          have HRA := Lib.hid (HRw.out.upd hs2 fun b hb hh => hh)
          rw [HG.out]
          have r0' : w2.cell? ⟨b, o + i, none⟩ = some (.string x) := (hs2.cell (p := ⟨b, o + i, none⟩) hb (fun f => f)).trans r0
          have p1' : w2.cell? ⟨w.heap.size, 1, none⟩ = some (.slice (some ⟨b, o, none⟩) nL cL) := (HB1.out.same HS2.out).cell 1
          clear r0 hs2 KS KE HRw p1
          go_upto_region 8 with fail
          go_cut [37] from 22 to 37 (fun s37 wx => s37 = .bool r ∧ ∃ d, wx = w2.drewN d)
          case first =>
            by_cases hi0 : i = 0
            · have hgt : ¬ (0 : Int) < i := by omega
              have hgtN : ¬ 0 < i := by omega
              have hgd : decide (0 < i) = false := decide_eq_false hgtN
              have hr0 : r = false := by rw [← HRr.out, hi0]; rfl
              subst hr0
              clear hi0 hx
              go_quiet (fail)
              go_wp2
              go_meet
              case rel => exact ⟨rfl, _, rfl⟩
            · obtain ⟨j, hj⟩ : ∃ j, i = j + 1 := ⟨i - 1, by omega⟩
              have hgt : (0 : Int) < i := by omega
              have hgtN : 0 < i := by omega
              have hjn : j < nL := by omega
              have hwr : IntKind.i64.wrap ((i : Int) - 1) = (j : Int) := by rw [IntKind.wrap_i64]; omega
              obtain ⟨b2, o2, v, hA2, _, _, hv, q0⟩ := HRA.out.at_ hjn
              injection hA2 with hA2
              injection hA2 with e1 e2 _
              subst e1 e2
              rw [List.getElem?_map] at hv
              obtain ⟨ky, hky, rfl⟩ := Option.map_eq_some_iff.1 hv
              have hyr : (Op.bytesLess x.toList ky.toList || x.toList == ky.toList) = r := by
                rw [← HRr.out, hj]
                simp only [aheadK]
                rw [hky]
                rfl
              clear hv hky hj hi0 hx
              go_quiet (fail)
              go_wp2
              go_meet
              case rel => exact ⟨rfl, _, rfl⟩
          case rest =>
            obtain ⟨rfl, d, rfl⟩ := hcut
            have hsd : Same w2 (w2.drewN d) := (Upd.refl _ w2).drewN d
            have HS6 := Lib.hid (HS2.out.same hsd)
            clear hsd r0' p1' HS2 HRA
            generalize w2.drewN d = w6 at *
            cases r with
            | true =>
              have hE6 := HKr.out rfl
              subst hE6
              have HE2 := Lib.hid (show (6 : Int) = E from by have h := HE.out; rw [if_pos (by decide)] at h; exact h)
              clear hx
              go_wp2
              go_ret
              exact ⟨by rw [← HE2.out]; rfl, HS1.out.same HS6.out⟩
            | false =>
              have HK := Lib.hid (HKn.out rfl)
              clear hx
              go_wp2
              go_roundg (nL - (i + 1))
              case measure => omega
              case rel => exact ⟨i + 1, rfl, by omega, by go_num, HS6, Lib.hid (by rw [HAk.out]; exact HK.out)⟩
      · have hin : i = nL := by omega
        have hL0 : L = 0 := by
          have h1 := KE.out
          rw [List.drop_of_length_le (by rw [HL.out]; omega)] at h1
          simpa [labErrs] using h1.symm
        have HE2 := Lib.hid (show propsErr (ps.map PR.dat) = E from by have h := HE.out; rw [if_neg (by rw [hL0]; decide)] at h; exact h)
        have p2 : wr.cell? ⟨w.heap.size, 2, none⟩ = some (.slice AP nP cP) := (HB1.out.same KS.out).cell 2
        clear hL0 KE HE HLE
        go_wp2_with fail
        refine (propsWrong_spec _ (HP.out.same KS.out) HF.out HE2.out).mono ?_
        rintro e w9 ⟨rfl, hs9⟩
        have HS9 := Lib.hid (KS.out.same hs9)
        clear hs9 p1 p2
        go_wp2
        go_ret
        exact ⟨rfl, HS1.out.same HS9.out⟩
end Go.Proofs.YtlnademnfnhbpaaGreat
