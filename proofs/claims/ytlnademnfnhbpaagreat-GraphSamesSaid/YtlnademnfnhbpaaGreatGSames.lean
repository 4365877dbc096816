/- GraphSames: for every input it returns true, and the input reads as it did. -/
import Derived.Test.YtlnademnfnhbpaaGreatOpen
import Derived.Test.YtlnademnfnhbpaaGreatOpenG
import Derived.Test.YtlnademnfnhbpaaGreatGspk2
import Derived.Test.YtlnademnfnhbpaaGreatCopyG
import Derived.Test.YtlnademnfnhbpaaGreatRSameG
namespace Go.Proofs.YtlnademnfnhbpaaGreat
open Go.ChangeShapes Go.WideShapes Go.ChangeAt Go.RowKit

theorem copyG_on {F : Nat → Prop} (w0 w : World) (g : GR) (hs : Same w0 w) (h : RdG w0 F g) (hz : GSized g) :
    Calls Tryz.prog 16 #[g.agg] w fun e w' => ∃ g' : GR, e = .returned g'.agg ∧ Hid (g'.dat = g.dat) ∧ Hid (RdG w' (fun _ => True) g') ∧ Same w w' ∧ Same w0 w' :=
  (copyG_spec w g (h.same hs) hz).mono fun _ _ ⟨g', h1, h2, h3, h4⟩ => ⟨g', h1, h2, Lib.hid (h3.out.rd.mono fun _ _ _ => trivial), h4, hs.same h4⟩
theorem keep2G {w0 wx : World} {g1 g2 : Nat} {t t' : TypeId} {a b c d : Value} (h1 : Hid (Blk w0 g1 t #[a, b])) (h2 : Hid (Blk w0 g2 t' #[c, d])) (hs : Same w0 wx) :
    Same w0 wx ∧ wx.cell? ⟨g1, 0, none⟩ = some a ∧ wx.cell? ⟨g1, 1, none⟩ = some b ∧ wx.cell? ⟨g2, 0, none⟩ = some c ∧ wx.cell? ⟨g2, 1, none⟩ = some d :=
  ⟨hs, (h1.out.same hs).cell 0, (h1.out.same hs).cell 1, (h2.out.same hs).cell 0, (h2.out.same hs).cell 1⟩

set_option maxHeartbeats 8000000 in
set_option maxRecDepth 100000 in
theorem gsames_walk {F F' : Nat → Prop} (w : World) {g g' : GR} (h : RdG w F g) (h' : RdG w F' g') (hz : GSized g) (hz' : GSized g') :
    Calls Tryz.prog 8 #[g.agg, g'.agg] w fun e w' => e = .returned (.bool true) ∧ Same w w' := by
  obtain ⟨r, hr⟩ : ∃ r, sameG g.dat g'.dat = r := ⟨_, rfl⟩
  obtain ⟨ns, AN, nN, cN, rs, AR, nR, cR⟩ := g
  obtain ⟨ns', AN', nN', cN', rs', AR', nR', cR'⟩ := g'
  have HR := Lib.hid hr
  have hs2 := ((Upd.refl (fun _ => False) w).alloc (.cells #[.slice AN nN cN, .slice AR nR cR] 27)).alloc (.cells #[.slice AN' nN' cN', .slice AR' nR' cR'] 27)
  have hb1 := (Blk.new w 27 #[.slice AN nN cN, .slice AR nR cR]).alloc (.cells #[.slice AN' nN' cN', .slice AR' nR' cR'] 27)
  have hb2 := blk_new1 w (.cells #[.slice AN nN cN, .slice AR nR cR] 27) 27 #[.slice AN' nN' cN', .slice AR' nR' cR']
  have H1 := Lib.hid h
  have H2 := Lib.hid h'
  have Z1 := Lib.hid hz
  have Z2 := Lib.hid hz'
  clear h h' hz hz' hr
  go_enter Tryz.func8, Tryz.ntmps8
  go_wp2_with fail
  refine (gspeaks_true _).mono ?_
  rintro e w3 ⟨rfl, hs3⟩
  have S3 := Lib.hid (hs2.same hs3)
  have B1 := Lib.hid (hb1.same hs3)
  have B2 := Lib.hid (hb2.same hs3)
  have R1 := Lib.hid (H1.out.same S3.out)
  have R2 := Lib.hid (H2.out.same S3.out)
  clear hs2 hs3 hb1 hb2 H1 H2
  go_upto_region 3 with fail
  have h00 : Same w3 w3.drew := (Upd.refl _ w3).drew
  have tok1 : True := trivial
  have tok2 : True := trivial
  have tok3 : True := trivial
  go_region_held3 (fun wx => Same w3 wx ∧ wx.cell? ⟨w.heap.size, 0, none⟩ = some (.slice AN nN cN) ∧ wx.cell? ⟨w.heap.size, 1, none⟩ = some (.slice AR nR cR) ∧ wx.cell? ⟨w.heap.size + 1, 0, none⟩ = some (.slice AN' nN' cN') ∧ wx.cell? ⟨w.heap.size + 1, 1, none⟩ = some (.slice AR' nR' cR')) (exact keep2G B1 B2 (by assumption)) (first
    | (go_at_call 16; with_reducible refine (copyG_on w3 _ ⟨ns, AN, nN, cN, rs, AR, nR, cR⟩ (by assumption) R1.out Z1.out).mono ?_; rintro e w4 ⟨⟨nsA, A1, n1, c1, rsA, A2, n2, c2⟩, rfl, DA, RA, hs4, hsa4⟩)
    | (go_at_call 16; (have _t := tok1); clear tok1; with_reducible refine (copyG_on w3 _ ⟨ns', AN', nN', cN', rs', AR', nR', cR'⟩ (by assumption) R2.out Z2.out).mono ?_; rintro e w5 ⟨⟨nsB, A3, n3, c3, rsB, A4, n4, c4⟩, rfl, DB, RB, hs5, hsa5⟩)
    | (go_at_call 22; (have _t := tok3); clear tok3; with_reducible refine (gsame_spec w5 ⟨nsA, A1, n1, c1, rsA, A2, n2, c2⟩ ⟨nsB, A3, n3, c3, rsB, A4, n4, c4⟩ (RA.out.same hs5) RB.out (r := r) (by rw [DA.out, DB.out]; exact HR.out)).mono ?_; rintro e w6 ⟨rfl, hs6⟩; have hsa6 := hsa5.same hs6)
    | (go_at_call 19; with_reducible refine (rsameG_spec w6 ⟨ns, AN, nN, cN, rs, AR, nR, cR⟩ ⟨ns', AN', nN', cN', rs', AR', nR', cR'⟩ (R1.out.same hsa6) (R2.out.same hsa6) HR.out).mono ?_; rintro e w7 ⟨rfl, hs7⟩; have hsa7 := hsa6.same hs7)
    | (go_at_call 16; (have _t := tok2); clear tok2; with_reducible refine (copyG_on w3 _ ⟨ns', AN', nN', cN', rs', AR', nR', cR'⟩ (by assumption) R2.out Z2.out).mono ?_; rintro e w8 ⟨⟨nsC, A5, n5, c5, rsC, A6, n6, c6⟩, rfl, DC, RC, hs8, hsa8⟩)
    | (go_at_call 16; with_reducible refine (copyG_on w3 _ ⟨ns', AN', nN', cN', rs', AR', nR', cR'⟩ (by assumption) R2.out Z2.out).mono ?_; rintro e w9 ⟨⟨nsD, A7, n7, c7, rsD, A8, n8, c8⟩, rfl, DD, RD, hs9, hsa9⟩)
    | (go_at_call 22; with_reducible refine (gsame_spec w9 ⟨nsC, A5, n5, c5, rsC, A6, n6, c6⟩ ⟨nsD, A7, n7, c7, rsD, A8, n8, c8⟩ (RC.out.same hs9) RD.out (r := true) (by rw [DC.out, DD.out]; exact (sameG_iff _ _).2 rfl)).mono ?_; rintro e w10 ⟨rfl, hs10⟩; have hsa10 := hsa9.same hs10))
  all_goals
    go_wp2
    go_ret
    exact ⟨rfl, S3.out.same (by assumption)⟩
set_option maxRecDepth 100000 in
theorem graphSames_lifted (os : Os) (started : os.Started) (H : Type) (enc : TypeId × Value → H) :
    ReturnsInHanded {} Tryz.checked os 8 .any (Rows.graphSamesSpec.pre6 enc Tryz.prog Tryz.f8 Rows.graphSamesRow.domain false) (Rows.graphSamesSpec.post enc Tryz.prog Tryz.f8 false true false false) := by
  refine returnsInHanded_of_change_sized (C := Tryz.checked) ownTry started (by kernel_rfl) Tryz.func8
    (ChangeSpec.witness6 (enc := enc) (C := Tryz.checked) false ⟨#[], #[.agg #[.slice none 0 0, .slice none 0 0], .agg #[.slice none 0 0, .slice none 0 0]], []⟩ 8 (by kernel_rfl) (by kernel_rfl) (by kernel_rfl) (by kernel_rfl)) ?_
  intro W base args ds gs before hval hW _ hsz _
  obtain ⟨p, hA⟩ := whole_args (P := Tryz.prog) (ts := [27, 27]) (by rw [Tryz.params8]) hW
  obtain ⟨v0, v1, d0, d1, p0, p1, rfl, rfl, _, h0, h1⟩ := trodAll_two hA
  obtain ⟨g0, rfl, hr0, z0⟩ := open_graph (hval 0 27 v0 (by rw [Tryz.params8]; rfl) rfl) h0 (weights_of hsz (j := 0) (by rw [Tryz.params8]; rfl) rfl)
  obtain ⟨g1, rfl, hr1, z1⟩ := open_graph (hval 1 27 v1 (by rw [Tryz.params8]; rfl) rfl) h1 (weights_of hsz (j := 1) (by rw [Tryz.params8]; rfl) rfl)
  refine (gsames_walk W hr0 hr1 z0 z1).mono ?_
  rintro e W' ⟨rfl, hs⟩
  exact ⟨_, rfl, law_post laidTry (ts := [27, 27]) (by rw [Tryz.params8]) (tb := 4) (by kernel_rfl) Tryz.underlying4 (by kernel_rfl) rfl (by rintro rfl; exact ⟨rfl, rfl, rfl⟩) hW hs.below⟩

theorem graphSames_holds : Rows.GraphSamesSaid :=
  OpenClaim.holds_of_wide 8 Tryz.f8 rfl rfl rfl rfl rfl rfl rfl ⟨rfl, rfl, rfl, rfl, rfl⟩ rfl rfl rfl rfl rfl (by kernel_rfl) Tryz.func8 (by kernel_rfl)
    (of_decide_eq_true (by kernel_rfl)) (by unfold Func.isWrapper; first | (rw [if_pos (by decide +kernel)]; kernel_rfl) | (rw [if_neg (by decide +kernel)]; exact ⟨rfl, rfl⟩))
    (fun os started H enc _ => graphSames_lifted os started H enc)
end Go.Proofs.YtlnademnfnhbpaaGreat
