/- The reference's Weight. -/
import Derived.Test.YtlnademnfnhbpaaGreatEnc2
import Derived.Test.YtlnademnfnhbpaaGreatGchk
namespace Go.Proofs.YtlnademnfnhbpaaGreat
open Go.RowKit

/-- The bytes of all values. -/
def wsum (ps : List PR) : Nat := (ps.map fun x => (enc x.g).length).sum
theorem wsum_app (a b : List PR) : wsum (a ++ b) = wsum a + wsum b := by simp [wsum, List.sum_append]
theorem wsum_take {ps : List PR} {i : Nat} {x : PR} (h : ps[i]? = some x) : wsum (ps.take (i + 1)) = wsum (ps.take i) + (enc x.g).length := by
  rw [List.take_add_one, h, Option.toList_some, wsum_app]
  simp [wsum]
theorem wsum_le (ps : List PR) (i : Nat) : wsum (ps.take i) ≤ wsum ps := by
  have h := wsum_app (ps.take i) (ps.drop i)
  rw [List.take_append_drop] at h
  omega
theorem wflat_take {α : Type} {f : α → List PR} {l : List α} {i : Nat} {x : α} (h : l[i]? = some x) : wsum ((l.take (i + 1)).flatMap f) = wsum ((l.take i).flatMap f) + wsum (f x) := by
  rw [List.take_add_one, h, Option.toList_some, List.flatMap_append, wsum_app]
  simp
theorem wflat_le {α : Type} (f : α → List PR) (l : List α) (i : Nat) : wsum ((l.take i).flatMap f) ≤ wsum (l.flatMap f) := by
  have h := wsum_app ((l.take i).flatMap f) ((l.drop i).flatMap f)
  rw [← List.flatMap_append, List.take_append_drop] at h
  omega

set_option maxHeartbeats 8000000 in
set_option maxRecDepth 100000 in
theorem propsWeight_spec {F : Nat → Prop} {A : Option Addr} {n c : Nat} {ps : List PR} (w : World) (h : RdPs w F A n c ps) (hf : PsFit ps) (hs : wsum ps ≤ 4611686018427387904) :
    Calls Tryz.prog 63 #[.slice A n c] w fun e w' => e = .returned (.int .i64 (wsum ps : Int)) ∧ Same w w' := by
  have hl := h.len
  have hmx := h.row.max
  have hle := h.row.le
  unfold maxLen at hmx
  have HR := Lib.hid h
  have HF := Lib.hid hf
  have HL := Lib.hid hl
  obtain ⟨T, hT⟩ : ∃ T, wsum ps = T := ⟨_, rfl⟩
  rw [hT] at hs ⊢
  have HT := Lib.hid hT
  clear h hf hl hT
  go_enter Tryz.func63, Tryz.ntmps63
  go_wp2_with fail
  go_loopg [3, 4] n (fun gh sx ix wr => ∃ i q : Nat, n - i = gh ∧ i ≤ n ∧ ix = .int .i64 i ∧ sx = .int .i64 q ∧ q ≤ T ∧ Hid (wsum (ps.take i) = q) ∧ Hid (Same w wr))
  case atStart => exact ⟨0, 0, rfl, Nat.zero_le _, rfl, rfl, Nat.zero_le _, Lib.hid (by simp [wsum]), Lib.hid (Upd.refl _ _)⟩
  case round =>
    obtain ⟨i, q, rfl, hi, rfl, rfl, hq, KQ, KS⟩ := hrel
    by_cases hlt : i < n
    · have HRw := Lib.hid (HR.out.same KS.out)
      obtain ⟨b, o, x, rfl, hb, _, hx, hxm, r0, r1, r2, r3, r4, r5⟩ := HRw.out.at_ hlt
      have HV := Lib.hid ((HRw.out.val x hxm))
      have HX1 := Lib.hid (HF.out x hxm).1
      have HX2 := Lib.hid (HF.out x hxm).2
      obtain ⟨ln, hln⟩ : ∃ ln, (enc x.g).length = ln := ⟨_, rfl⟩
      have hq1 : q + ln ≤ T := by
        have h1 := wsum_take hx
        have h2 := wsum_le ps (i + 1)
        rw [HT.out, h1, KQ.out, hln] at h2
        exact h2
      have HQ1 := Lib.hid (show wsum (ps.take (i + 1)) = q + ln by rw [wsum_take hx, KQ.out, hln])
      have HLn := Lib.hid hln
      have hwr : IntKind.i64.wrap ((q : Int) + (ln : Int)) = ((q + ln : Nat) : Int) := by rw [IntKind.wrap_i64]; omega
      obtain ⟨kx, ⟨x0, x1, x2, x3, x4⟩, X1, a1, b1, X2, a2, b2⟩ := x
      simp only at r0 r1 r2 r3 r4 r5
      clear hx hxm hln KQ HRw r0
      go_wp2_with fail
      refine (rencode_spec _ HV.out HX1.out HX2.out).mono ?_
      rintro e w2 ⟨v, rfl, hv, hs2⟩
      have HS2 := Lib.hid (KS.out.same hs2)
      obtain ⟨A9, c9, rfl⟩ := own_form hv
      have hlen2 := HLn.out
      rw [hlen2]
      clear hs2 hv r1 r2 r3 r4 r5
      go_wp2
      go_roundg (n - (i + 1))
      case measure => omega
      case rel => exact ⟨i + 1, q + ln, rfl, by omega, by go_num, rfl, hq1, HQ1, HS2⟩
    · have hin : i = n := by omega
      have hqT : q = T := by rw [← KQ.out, List.take_of_length_le (by rw [HL.out]; omega)]; exact HT.out
      subst hqT
      go_wp2
      go_ret
      exact ⟨rfl, KS.out⟩

set_option maxHeartbeats 8000000 in
set_option maxRecDepth 100000 in
theorem rweight_spec {F : Nat → Prop} (w : World) (g : GR) (h : RdG w F g) (hf : GFit g) (hs : wsum (g.ns.flatMap ND.props) + wsum (g.rs.flatMap RL.props) ≤ 4611686018427387904) :
    Calls Tryz.prog 35 #[g.agg] w fun e w' => e = .returned (.int .i64 ((wsum (g.ns.flatMap ND.props) + wsum (g.rs.flatMap RL.props) : Nat) : Int)) ∧ Same w w' := by
  obtain ⟨ns, AN, nN, cN, rs, AR, nR, cR⟩ := g
  have hmx := h.nodes.row.max
  have hle := h.nodes.row.le
  have hmx' := h.rels.row.max
  have hle' := h.rels.row.le
  unfold maxLen at hmx hmx'
  have HL := Lib.hid h.nodes.len
  have HL' := Lib.hid h.rels.len
  have HF1 := Lib.hid hf.nodes
  have HF2 := Lib.hid hf.rels
  simp only at hs hmx hle hmx' hle' HL HL' HF1 HF2 ⊢
  have hs1 := (Upd.refl (fun _ => False) w).alloc (.cells #[.slice AN nN cN, .slice AR nR cR] 27)
  have HS1 := Lib.hid hs1
  have HR1 := Lib.hid (h.same hs1)
  have HB1 := Lib.hid (Blk.new w 27 #[.slice AN nN cN, .slice AR nR cR])
  obtain ⟨T1, hT1⟩ : ∃ T, wsum (ns.flatMap ND.props) = T := ⟨_, rfl⟩
  obtain ⟨T2, hT2⟩ : ∃ T, wsum (rs.flatMap RL.props) = T := ⟨_, rfl⟩
  rw [hT1, hT2] at hs ⊢
  have HT1 := Lib.hid hT1
  have HT2 := Lib.hid hT2
  clear h hf hs1 hT1 hT2
  go_enter Tryz.func35, Tryz.ntmps35
  go_upto_region 1 with fail
  generalize w.alloc (.cells #[.slice AN nN cN, .slice AR nR cR] 27) = w1 at *
  go_wp2_with fail
  go_loopg [3, 4] nN (fun gh sx ix wr => ∃ i q : Nat, nN - i = gh ∧ i ≤ nN ∧ ix = .int .i64 i ∧ sx = .int .i64 q ∧ q ≤ T1 ∧ Hid (wsum ((ns.take i).flatMap ND.props) = q) ∧ Hid (Same w1 wr))
  case atStart => exact ⟨0, 0, rfl, Nat.zero_le _, rfl, rfl, Nat.zero_le _, Lib.hid (by simp [wsum]), Lib.hid (Upd.refl _ _)⟩
  case round =>
    obtain ⟨i, q, rfl, hi, rfl, rfl, hq, KQ, KS⟩ := hrel
    have p1 : wr.cell? ⟨w.heap.size, 0, none⟩ = some (.slice AN nN cN) := (HB1.out.same KS.out).cell 0
    by_cases hlt : i < nN
    · have HRw := Lib.hid (HR1.out.nodes.same KS.out)
      obtain ⟨b, o, x, rfl, hb, _, hx, hxm, r0, r1, r2⟩ := HRw.out.at_ hlt
      have HP := Lib.hid (HRw.out.pro x hxm)
      have HX := Lib.hid (HF1.out x hxm)
      obtain ⟨ln, hln⟩ : ∃ ln, wsum x.props = ln := ⟨_, rfl⟩
      have hq1 : q + ln ≤ T1 := by
        have h1 := wflat_take (f := ND.props) hx
        have h2 := wflat_le ND.props ns (i + 1)
        rw [HT1.out, h1, KQ.out, hln] at h2
        exact h2
      have HQ1 := Lib.hid (show wsum ((ns.take (i + 1)).flatMap ND.props) = q + ln by rw [wflat_take hx, KQ.out, hln])
      have HLn := Lib.hid hln
      have hwr : IntKind.i64.wrap ((q : Int) + (ln : Int)) = ((q + ln : Nat) : Int) := by rw [IntKind.wrap_i64]; omega
      obtain ⟨ix, lb, AL, nL, cL, px, AP, nP, cP⟩ := x
      simp only at r0 r1 r2 HP HX HLn
      clear hx hxm hln KQ HRw r0 r1
      go_wp2_with fail
      refine (propsWeight_spec _ HP.out HX.out (by rw [HLn.out]; omega)).mono ?_
      rintro e w2 ⟨rfl, hs2⟩
      have HS2 := Lib.hid (KS.out.same hs2)
      rw [HLn.out]
      clear hs2 r2 p1
      go_wp2
      go_roundg (nN - (i + 1))
      case measure => omega
      case rel => exact ⟨i + 1, q + ln, rfl, by omega, by go_num, rfl, hq1, HQ1, HS2⟩
    · have hin : i = nN := by omega
      have hqT : q = T1 := by rw [← KQ.out, List.take_of_length_le (by rw [HL.out]; omega)]; exact HT1.out
      subst hqT
      have HSn := Lib.hid KS.out
      clear hin KQ KS
      generalize wr = wn at *
      go_wp2_with fail
      clear p1
      go_loopg [3, 5] nR (fun gh sx ix wr => ∃ i p : Nat, nR - i = gh ∧ i ≤ nR ∧ ix = .int .i64 i ∧ sx = .int .i64 ((q + p : Nat) : Int) ∧ p ≤ T2 ∧ Hid (wsum ((rs.take i).flatMap RL.props) = p) ∧ Hid (Same w1 wr))
      case atStart => exact ⟨0, 0, rfl, Nat.zero_le _, rfl, rfl, Nat.zero_le _, Lib.hid (by simp [wsum]), HSn⟩
      case round =>
        obtain ⟨i, p, rfl, hi, rfl, rfl, hp, KQ, KS⟩ := hrel
        have p1 : wr.cell? ⟨w.heap.size, 1, none⟩ = some (.slice AR nR cR) := (HB1.out.same KS.out).cell 1
        by_cases hlt : i < nR
        · have HRw := Lib.hid (HR1.out.rels.same KS.out)
          obtain ⟨b, o, x, rfl, hb, _, hx, hxm, r0, r1, r2, r3, r4⟩ := HRw.out.at_ hlt
          have HP := Lib.hid (HRw.out.pro x hxm)
          have HX := Lib.hid (HF2.out x hxm)
          obtain ⟨ln, hln⟩ : ∃ ln, wsum x.props = ln := ⟨_, rfl⟩
          have hq1 : p + ln ≤ T2 := by
            have h1 := wflat_take (f := RL.props) hx
            have h2 := wflat_le RL.props rs (i + 1)
            rw [HT2.out, h1, KQ.out, hln] at h2
            exact h2
          have HQ1 := Lib.hid (show wsum ((rs.take (i + 1)).flatMap RL.props) = p + ln by rw [wflat_take hx, KQ.out, hln])
          have HLn := Lib.hid hln
          have hwr : IntKind.i64.wrap (((q + p : Nat) : Int) + (ln : Int)) = ((q + (p + ln) : Nat) : Int) := by rw [IntKind.wrap_i64]; omega
          obtain ⟨ix, tx, sx, dx, px, AP, nP, cP⟩ := x
          simp only at r0 r1 r2 r3 r4 HP HX HLn
          obtain ⟨sm, hsm⟩ : ∃ sm, q + p = sm := ⟨_, rfl⟩
          obtain ⟨sm2, hsm2⟩ : ∃ sm, q + (p + ln) = sm := ⟨_, rfl⟩
          rw [hsm, hsm2] at hwr
          rw [hsm]
          have HSm2 := Lib.hid hsm2
          clear hx hxm hln KQ HRw r0 r1 r2 r3 hsm hsm2
          go_wp2_with fail
          refine (propsWeight_spec _ HP.out HX.out (by rw [HLn.out]; omega)).mono ?_
          rintro e w2 ⟨rfl, hs2⟩
          have HS2 := Lib.hid (KS.out.same hs2)
          rw [HLn.out]
          clear hs2 r4 p1
          go_wp2
          go_roundg (nR - (i + 1))
          case measure => omega
          case rel => exact ⟨i + 1, p + ln, rfl, by omega, by go_num, by rw [HSm2.out], hq1, HQ1, HS2⟩
        · have hin : i = nR := by omega
          have hqT : p = T2 := by rw [← KQ.out, List.take_of_length_le (by rw [HL'.out]; omega)]; exact HT2.out
          subst hqT
          go_wp2
          go_ret
          exact ⟨rfl, HS1.out.same KS.out⟩
end Go.Proofs.YtlnademnfnhbpaaGreat
