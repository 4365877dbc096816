/- GraphCanons: for every input it returns true, and the input reads as it did. -/
import Derived.Test.YtlnademnfnhbpaaGreatOpenG
import Derived.Test.YtlnademnfnhbpaaGreatGspk2
import Derived.Test.YtlnademnfnhbpaaGreatRSameG
import Derived.Test.YtlnademnfnhbpaaGreatCanG
import Derived.Test.YtlnademnfnhbpaaGreatRCanG
namespace Go.Proofs.YtlnademnfnhbpaaGreat
open Go.RowKit

theorem psized_dat {w w' : World} {F F' : Nat → Prop} {A A' : Option Addr} {n c n' c' : Nat} {ps ps' : List PR} (h : RdPs w F A n c ps) (h' : RdPs w' F' A' n' c' ps') (hz : PsSized n ps) (hd : ps'.map PR.dat = ps.map PR.dat) : PsSized n' ps' := by
  have hl : ps'.length = ps.length := by have := congrArg List.length hd; simpa using this
  refine ⟨by rw [← h'.len, hl, h.len]; exact hz.n, fun x hx => ?_⟩
  have h1 : x.dat ∈ ps'.map PR.dat := List.mem_map_of_mem hx
  rw [hd] at h1
  obtain ⟨y, hy, he⟩ := List.mem_map.1 h1
  have hk : y.key = x.key := congrArg GPr.key he
  have hg : y.g = x.g := congrArg GPr.val he
  have z := hz.each y hy
  have r := h.val y hy
  have r' := h'.val x hx
  have e1 : y.g.nums.length = y.n1 := by have := r.nums.len; simpa using this
  have e2 : y.g.texts.length = y.n2 := by have := r.texts.len; simpa using this
  have e1' : x.g.nums.length = x.n1 := by have := r'.nums.len; simpa using this
  have e2' : x.g.texts.length = x.n2 := by have := r'.texts.len; simpa using this
  rw [hg] at e1 e2
  exact ⟨by rw [← e1', e1]; exact z.s1, by rw [← e2', e2]; exact z.s2, by rw [← hg]; exact z.s3, by rw [← hg]; exact z.s4, by rw [← hk]; exact z.s5⟩
/-- A graph that reads as one of fair size is of fair size. -/
theorem gsized_dat {w w' : World} {F F' : Nat → Prop} {g g' : GR} (h : RdG w F g) (h' : RdG w' F' g') (hz : GSized g) (hd : g'.dat = g.dat) : GSized g' := by
  have hln : g'.ns.length = g.ns.length := by have := congrArg (fun x : GGraph => x.nodes.length) hd; simpa [GR.dat] using this
  have hlr : g'.rs.length = g.rs.length := by have := congrArg (fun x : GGraph => x.rels.length) hd; simpa [GR.dat] using this
  refine ⟨by rw [← h'.nodes.len, hln, h.nodes.len]; exact hz.nN, by rw [← h'.rels.len, hlr, h.rels.len]; exact hz.nR, fun x hx => ?_, fun x hx => ?_⟩
  · have h1 : x.dat ∈ g'.dat.nodes := List.mem_map_of_mem hx
    rw [hd] at h1
    obtain ⟨y, hy, he⟩ := List.mem_map.1 h1
    have hl : y.labels = x.labels := congrArg GNode.labels he
    have hp : y.props.map PR.dat = x.props.map PR.dat := congrArg GNode.props he
    have z := hz.ns y hy
    have e1 : y.labels.length = y.nL := by have := (h.nodes.lab y hy).len; simpa using this
    have e2 : x.labels.length = x.nL := by have := (h'.nodes.lab x hx).len; simpa using this
    rw [hl] at e1
    exact ⟨by rw [← e2, e1]; exact z.nL, by rw [← hl]; exact z.lab, psized_dat (h.nodes.pro y hy) (h'.nodes.pro x hx) z.pro hp.symm⟩
  · have h1 : x.dat ∈ g'.dat.rels := List.mem_map_of_mem hx
    rw [hd] at h1
    obtain ⟨y, hy, he⟩ := List.mem_map.1 h1
    have ht : y.type = x.type := congrArg GRel.type he
    have hp : y.props.map PR.dat = x.props.map PR.dat := congrArg GRel.props he
    have z := hz.rs y hy
    exact ⟨by rw [← ht]; exact z.type, psized_dat (h.rels.pro y hy) (h'.rels.pro x hx) z.pro hp.symm⟩
theorem canonG_on {F : Nat → Prop} (w0 w : World) (g : GR) (hs : Same w0 w) (h : RdG w0 F g) (hz : GSized g) :
    Calls Tryz.prog 20 #[g.agg] w fun e w' => ∃ g' : GR, e = .returned g'.agg ∧ Hid (g'.dat = canonD g.dat) ∧ Hid (RdG w' (fun _ => True) g') ∧ Same w w' ∧ Same w0 w' :=
  (canonG_spec w g (h.same hs) hz).mono fun _ _ ⟨g', h1, h2, h3, _, h4⟩ => ⟨g', h1, h2, Lib.hid (h3.out.rd.mono fun _ _ _ => trivial), h4, hs.same h4⟩
theorem rcanonG_on {F : Nat → Prop} (w0 w : World) (g : GR) (hs : Same w0 w) (h : RdG w0 F g) (hz : GSized g) :
    Calls Tryz.prog 21 #[g.agg] w fun e w' => ∃ g' : GR, e = .returned g'.agg ∧ Hid (g'.dat = canonD g.dat) ∧ Hid (RdG w' (fun _ => True) g') ∧ Same w w' ∧ Same w0 w' :=
  (rcanonG_spec w g (h.same hs) hz).mono fun _ _ ⟨g', h1, h2, h3, h4⟩ => ⟨g', h1, h2, Lib.hid (h3.out.rd.mono fun _ _ _ => trivial), h4, hs.same h4⟩
theorem keepC2 {w0 wx : World} {g1 g2 : Nat} {t t' : TypeId} {a b c d : Value} (h1 : Hid (Blk w0 g1 t #[a, b])) (h2 : Hid (Blk w0 g2 t' #[c, d])) (hs : Same w0 wx) :
    Same w0 wx ∧ wx.cell? ⟨g1, 0, none⟩ = some a ∧ wx.cell? ⟨g1, 1, none⟩ = some b ∧ wx.cell? ⟨g2, 0, none⟩ = some c ∧ wx.cell? ⟨g2, 1, none⟩ = some d :=
  ⟨hs, (h1.out.same hs).cell 0, (h1.out.same hs).cell 1, (h2.out.same hs).cell 0, (h2.out.same hs).cell 1⟩

set_option maxHeartbeats 8000000 in
set_option maxRecDepth 100000 in
theorem gcanons_walk {F : Nat → Prop} (w : World) {g : GR} (h : RdG w F g) (hz : GSized g) :
    Calls Tryz.prog 6 #[g.agg] w fun e w' => e = .returned (.bool true) ∧ Same w w' := by
  have hs2 := (Upd.refl (fun _ => False) w).alloc (.cells #[.slice g.AN g.nN g.cN, .slice g.AR g.nR g.cR] 27)
  have hb1 := Blk.new w 27 #[.slice g.AN g.nN g.cN, .slice g.AR g.nR g.cR]
  have H1 := Lib.hid h
  have Z1 := Lib.hid hz
  clear h hz
  obtain ⟨ns, AN, nN, cN, rs, AR, nR, cR⟩ := g
  simp only at hs2 hb1
  go_enter Tryz.func6, Tryz.ntmps6
  go_wp2_with fail
  refine (gspeaks_true _).mono ?_
  rintro x w3 ⟨rfl, hs3⟩
  have S3 := Lib.hid (hs2.same hs3)
  have B1 := Lib.hid (hb1.same hs3)
  have R1 := Lib.hid (H1.out.same S3.out)
  have p20 : w3.cell? ⟨w.heap.size, 0, none⟩ = some (.slice AN nN cN) := B1.out.cell 0
  have p21 : w3.cell? ⟨w.heap.size, 1, none⟩ = some (.slice AR nR cR) := B1.out.cell 1
  clear hs2 hs3 hb1 H1
  go_wp2_with fail
  refine (copyG_on w3 _ ⟨ns, AN, nN, cN, rs, AR, nR, cR⟩ (Upd.refl _ _) R1.out Z1.out).mono ?_
  rintro x w4 ⟨⟨nsA, A1, n1, c1, rsA, A2, n2, c2⟩, rfl, DA, RA, hs4, _⟩
  have hs5 := (Upd.refl (fun _ => False) w4).alloc (.cells #[.slice A1 n1 c1, .slice A2 n2 c2] 27)
  have S5 := Lib.hid (S3.out.same (hs4.same hs5))
  have B5 := Lib.hid (B1.out.same (hs4.same hs5))
  have C5 := Lib.hid (Blk.new w4 27 #[.slice A1 n1 c1, .slice A2 n2 c2])
  have R5 := Lib.hid (R1.out.same (hs4.same hs5))
  have RA5 := Lib.hid (RA.out.same hs5)
  have ZA := Lib.hid (gsized_dat R1.out RA.out Z1.out DA.out)
  clear p20 p21 hs4 hs5
  go_upto_region 4 with fail
  generalize w4.alloc (.cells #[.slice A1 n1 c1, .slice A2 n2 c2] 27) = w5 at *
  generalize w4.heap.size = g5 at *
  have h00 : Same w5 w5.drew := (Upd.refl _ w5).drew
  have tok1 : True := trivial
  go_region_held3 (fun wx => Same w5 wx ∧ wx.cell? ⟨w.heap.size, 0, none⟩ = some (.slice AN nN cN) ∧ wx.cell? ⟨w.heap.size, 1, none⟩ = some (.slice AR nR cR) ∧ wx.cell? ⟨g5, 0, none⟩ = some (.slice A1 n1 c1) ∧ wx.cell? ⟨g5, 1, none⟩ = some (.slice A2 n2 c2)) (exact keepC2 B5 C5 (by assumption)) (first
    | (go_at_call 20; with_reducible refine (canonG_on w5 _ ⟨nsA, A1, n1, c1, rsA, A2, n2, c2⟩ (by assumption) RA5.out ZA.out).mono ?_; rintro e w6 ⟨⟨nsB, A3, n3, c3, rsB, A4, n4, c4⟩, rfl, DB, RB, hs6, hsa6⟩)
    | (go_at_call 21; with_reducible refine (rcanonG_on w5 _ ⟨ns, AN, nN, cN, rs, AR, nR, cR⟩ (by assumption) R5.out Z1.out).mono ?_; rintro e w7 ⟨⟨nsC, A5, n5, c5, rsC, A6, n6, c6⟩, rfl, DC, RC, hs7, hsa7⟩)
    | (go_at_call 19; (have _t := tok1); clear tok1; with_reducible refine (rsameG_spec w7 ⟨nsB, A3, n3, c3, rsB, A4, n4, c4⟩ ⟨nsC, A5, n5, c5, rsC, A6, n6, c6⟩ (RB.out.same hs7) RC.out (r := true) (by rw [DB.out, DC.out, DA.out]; exact (sameG_iff _ _).2 rfl)).mono ?_; rintro e w8 ⟨rfl, hs8⟩; have hsa8 := hsa7.same hs8)
    | (go_at_call 19; with_reducible refine (rsameG_spec w8 ⟨nsA, A1, n1, c1, rsA, A2, n2, c2⟩ ⟨ns, AN, nN, cN, rs, AR, nR, cR⟩ (RA5.out.same hsa8) (R5.out.same hsa8) (r := true) (by rw [DA.out]; exact (sameG_iff _ _).2 rfl)).mono ?_; rintro e w9 ⟨rfl, hs9⟩; have hsa9 := hsa8.same hs9))
  all_goals
    go_wp2
    go_ret
    exact ⟨rfl, S5.out.same (by assumption)⟩
end Go.Proofs.YtlnademnfnhbpaaGreat
namespace Go.Proofs.YtlnademnfnhbpaaGreat
open Go.ChangeShapes Go.WideShapes Go.ChangeAt Go.RowKit

set_option maxRecDepth 100000 in
theorem graphCanons_lifted (os : Os) (started : os.Started) (H : Type) (enc : TypeId × Value → H) :
    ReturnsInHanded {} Tryz.checked os 6 .any (Rows.graphCanonsSpec.pre6 enc Tryz.prog Tryz.f6 Rows.graphCanonsRow.domain false) (Rows.graphCanonsSpec.post enc Tryz.prog Tryz.f6 false true false false) := by
  refine returnsInHanded_of_change_sized (C := Tryz.checked) ownTry started (by kernel_rfl) Tryz.func6
    (ChangeSpec.witness6 (enc := enc) (C := Tryz.checked) false ⟨#[], #[.agg #[.slice none 0 0, .slice none 0 0]], []⟩ 8 (by kernel_rfl) (by kernel_rfl) (by kernel_rfl) (by kernel_rfl)) ?_
  intro W base args ds gs before hval hW _ hsz _
  obtain ⟨p, hA⟩ := whole_args (P := Tryz.prog) (ts := [27]) (by rw [Tryz.params6]) hW
  obtain ⟨v0, d0, rfl, rfl, h0⟩ := trodAll_one hA
  obtain ⟨g0, rfl, hr0, z0⟩ := open_graph (hval 0 27 v0 (by rw [Tryz.params6]; rfl) rfl) h0 (weights_of hsz (j := 0) (by rw [Tryz.params6]; rfl) rfl)
  refine (gcanons_walk W hr0 z0).mono ?_
  rintro e W' ⟨rfl, hs⟩
  exact ⟨_, rfl, law_post laidTry (ts := [27]) (by rw [Tryz.params6]) (tb := 4) (by kernel_rfl) Tryz.underlying4 (by kernel_rfl) rfl (by rintro rfl; exact ⟨rfl, rfl, rfl⟩) hW hs.below⟩

theorem graphCanons_holds : Rows.GraphCanonsSaid :=
  OpenClaim.holds_of_wide 6 Tryz.f6 rfl rfl rfl rfl rfl rfl rfl ⟨rfl, rfl, rfl, rfl, rfl⟩ rfl rfl rfl rfl rfl (by kernel_rfl) Tryz.func6 (by kernel_rfl)
    (of_decide_eq_true (by kernel_rfl)) (by unfold Func.isWrapper; first | (rw [if_pos (by decide +kernel)]; kernel_rfl) | (rw [if_neg (by decide +kernel)]; exact ⟨rfl, rfl⟩))
    (fun os started H enc _ => graphCanons_lifted os started H enc)
end Go.Proofs.YtlnademnfnhbpaaGreat
