/- The walk of GraphSettles. -/
import Derived.Test.YtlnademnfnhbpaaGreatSetM
import Derived.Test.YtlnademnfnhbpaaGreatGCanons
import Derived.Deep.DeepCutAuto
import Derived.Deep.CutRange
import Derived.BigRegion
namespace Go.Proofs.YtlnademnfnhbpaaGreat
open Go.RowKit

abbrev mixG (ns : List ND) (A1 : Option Addr) (n1 c1 : Nat) (rs : List RL) (A2 : Option Addr) (n2 c2 : Nat) : GR := ⟨ns, A1, n1, c1, rs, A2, n2, c2⟩
theorem mod_lt {a n i : Nat} (h : i = a % n) (hn : 0 < n) : i < n := by rw [h]; exact Nat.mod_lt _ hn
theorem mod_int {a n i : Nat} (h : i = a % n) : (a : Int) % (n : Int) = (i : Int) := by rw [h]; rfl
theorem mod_tint {a n i : Nat} (h : i = a % n) : (a : Int).tmod (n : Int) = (i : Int) := by rw [h]; rfl

set_option maxHeartbeats 32000000 in
set_option maxRecDepth 100000 in
theorem gsettles_walk {F F' : Nat → Prop} (w : World) {g : GR} (h : RdG w F g) (hz : GSized g) {AM : Option Addr} {nM cM : Nat} {xs : List Int} (hx : Row w F' 1 AM nM cM (xs.map (Value.int .i64))) (hnM : nM * 8 ≤ 140737488351232) :
    Calls Tryz.prog 7 #[g.agg, .slice AM nM cM] w fun e w' => e = .returned (.bool true) ∧ Same w w' := by
  obtain ⟨m, hm⟩ := srt_all (allNames g.dat)
  obtain ⟨tl, htl⟩ : ∃ tl, tailErr (m 1).length (m 2).length (m 3).length (wsum (g.ns.flatMap ND.props) + wsum (g.rs.flatMap RL.props)) = tl := ⟨_, rfl⟩
  obtain ⟨⟨e, at_⟩, hE⟩ : ∃ x, fullErr g.dat tl = x := ⟨_, rfl⟩
  have hs2 := (Upd.refl (fun _ => False) w).alloc (.cells #[.slice g.AN g.nN g.cN, .slice g.AR g.nR g.cR] 27)
  have hb1 := Blk.new w 27 #[.slice g.AN g.nN g.cN, .slice g.AR g.nR g.cR]
  have H1 := Lib.hid h
  have Z1 := Lib.hid hz
  have HX := Lib.hid hx
  have HM := Lib.hid hm
  have HTl := Lib.hid htl
  have HE := Lib.hid hE
  have hxle := hx.le
  clear h hz hm htl hE hx
  obtain ⟨ns, AN, nN, cN, rs, AR, nR, cR⟩ := g
  simp only at hs2 hb1
  go_enter Tryz.func7, Tryz.ntmps7
  go_wp2_with fail
  refine (gspeaks_true _).mono ?_
  rintro x w3 ⟨rfl, hs3⟩
  have S3 := Lib.hid (hs2.same hs3)
  have B1 := Lib.hid (hb1.same hs3)
  have R1 := Lib.hid (H1.out.same S3.out)
  have p20 : w3.cell? ⟨w.heap.size, 0, none⟩ = some (.slice AN nN cN) := B1.out.cell 0
  have p21 : w3.cell? ⟨w.heap.size, 1, none⟩ = some (.slice AR nR cR) := B1.out.cell 1
  clear hs2 hs3 hb1 H1
  go_wp2_with fail
  refine (rcheckG_spec w3 ⟨ns, AN, nN, cN, rs, AR, nR, cR⟩ R1.out Z1.out.fit HM.out (fun hh => head_names hh) (fun hh => head_weight hh) HTl.out HE.out).mono ?_
  rintro x w4 ⟨rfl, hs4⟩
  have S4 := Lib.hid (S3.out.same hs4)
  have B4 := Lib.hid (B1.out.same hs4)
  have R4 := Lib.hid (R1.out.same hs4)
  clear p20 p21 hs4
  by_cases he : e = 0
  · subst he
    have HH := Lib.hid (full_zeroS HE.out)
    have p20 : w4.cell? ⟨w.heap.size, 0, none⟩ = some (.slice AN nN cN) := B4.out.cell 0
    have p21 : w4.cell? ⟨w.heap.size, 1, none⟩ = some (.slice AR nR cR) := B4.out.cell 1
    go_wp2_with fail
    refine (copyGA_spec w4 ⟨ns, AN, nN, cN, rs, AR, nR, cR⟩ R4.out Z1.out).mono ?_
    rintro x w5 ⟨⟨nsA, A1, n1, c1, rsA, A2, n2, c2⟩, rfl, DA, OA, AP, hs5⟩
    have hs6 := (Upd.refl (fun _ => False) w5).alloc (.cells #[.slice A1 n1 c1, .slice A2 n2 c2] 27)
    have S6 := Lib.hid (S4.out.same (hs5.same hs6))
    have C6 := Lib.hid (Blk.new w5 27 #[.slice A1 n1 c1, .slice A2 n2 c2])
    have hz4 := S4.out.size
    have HSZ := Lib.hid (gsized_dat R4.out OA.out.rd Z1.out DA.out)
    have hn1 : n1 * 56 ≤ 140737488351232 := HSZ.out.nN
    have hn2 : n2 * 64 ≤ 140737488351232 := HSZ.out.nR
    have KS0 : Hid (SetS w4 (GR.dat ⟨ns, AN, nN, cN, rs, AR, nR, cR⟩) w4.heap.size w5.heap.size (mixG nsA A1 n1 c1 rsA A2 n2 c2) (w5.alloc (.cells #[.slice A1 n1 c1, .slice A2 n2 c2] 27))) := Lib.hid (by
      have o := OA.out.same hs6
      have l1 : nsA.length = n1 := OA.out.rd.nodes.len
      have l2 : rsA.length = n2 := OA.out.rd.rels.len
      refine ⟨by have := o.nodes.row; rw [l1] at this; exact this, o.nodes.each, by have := o.rels.row; rw [l2] at this; exact this, o.rels.each, AP.out, ?_, C6.out, hs5.same hs6, Nat.le_refl _, HSZ.out⟩
      rw [DA.out]
      exact (right_canon HH.out).2)
    clear p20 p21 hs5 hs6
    go_upto_region 7 with fail
    generalize w5.alloc (.cells #[.slice A1 n1 c1, .slice A2 n2 c2] 27) = w6 at *
    generalize w5.heap.size = g5 at *
    go_wp2_with fail
    go_loopg [30] nM (fun gh s30 wr => ∃ (i : Nat) (ns1 : List ND) (rs1 : List RL), nM - i = gh ∧ i ≤ nM ∧ s30 = .int .i64 i ∧ Hid (SetS w4 (GR.dat ⟨ns, AN, nN, cN, rs, AR, nR, cR⟩) w4.heap.size g5 (mixG ns1 A1 n1 c1 rs1 A2 n2 c2) wr))
    case atStart => exact ⟨0, nsA, rsA, rfl, Nat.zero_le _, rfl, KS0⟩
    case round =>
      clear KS0
      obtain ⟨i, ns1, rs1, rfl, hi, rfl, KS⟩ := hrel
      by_cases hlt : i < nM
      · obtain ⟨b, o, u, rfl, hb, _, hu, hc⟩ := ((HX.out.same S4.out).same KS.out.same).at_ hlt
        obtain ⟨mm, hmm⟩ : ∃ mm, xs[i]? = some mm := by
          rw [List.getElem?_map] at hu
          cases hq : xs[i]? with
          | none => rw [hq] at hu; cases hu
          | some z => exact ⟨z, rfl⟩
        rw [List.getElem?_map, hmm] at hu
        cases hu
        obtain ⟨a1, ha1, hal1⟩ := and_mask mm 1023 (by omega)
        obtain ⟨a2, ha2, hal2⟩ := and_mask mm 2047 (by omega)
        have ha1' : bits .and .i64 mm 1023 = (a1 : Int) := ha1
        have ha2' : bits .and .i64 mm 2047 = (a2 : Int) := ha2
        have p0 : wr.cell? ⟨g5, 0, none⟩ = some (.slice A1 n1 c1) := KS.out.box.cell 0
        clear hmm ha1 ha2
        obtain ⟨bb, hbb⟩ : ∃ bb, decide (0 < n1) = bb := ⟨_, rfl⟩
        go_upto_if 38 with fail
        have HBB := Lib.hid hbb
        clear hbb
        go_cut [11, 12, 13] from 39 to 101 (fun s11 s12 s13 wx => ∃ ns2 : List ND, Hid (SetS w4 (GR.dat ⟨ns, AN, nN, cN, rs, AR, nR, cR⟩) w4.heap.size g5 (mixG ns2 A1 n1 c1 rs1 A2 n2 c2) wx))
        case first =>
          cases bb with
          | true =>
            have h1 := of_decide_eq_true HBB.out
            obtain ⟨ii, hii⟩ : ∃ ii, ii = a1 % n1 := ⟨_, rfl⟩
            have hil := mod_lt hii h1
            have hi1 := mod_int hii
            have hi2 := mod_tint hii
            have hi3 : (0 : Int) ≤ (a1 : Int) := by omega
            have hi4 : (1 : Int) ≤ (n1 : Int) := by omega
            have HII := Lib.hid hii
            have hlen : ns1.length = n1 := arr_len KS.out.row1 ND.three (by omega)
            obtain ⟨x0, hx0⟩ : ∃ x0, ns1[0]? = some x0 := ⟨_, List.getElem?_eq_getElem (by omega)⟩
            obtain ⟨xi, hxi⟩ : ∃ xi, ns1[ii]? = some xi := ⟨_, List.getElem?_eq_getElem (by omega)⟩
            obtain ⟨h, u0, hA, hB, hg, -, -, -, -⟩ := own_cellK (i := 0) KS.out.row1 (by simp only; omega)
            simp only at hA
            subst hA
            clear hii hlen h1
            go_upto_region 13 with fail
            go_cut [58] from 43 to 58 (fun s58 wx => ∃ ns3 : List ND, Hid (SetS w4 (GR.dat ⟨ns, AN, nN, cN, rs, AR, nR, cR⟩) w4.heap.size g5 (mixG ns3 (some ⟨h, 0, none⟩) n1 c1 rs1 A2 n2 c2) wx))
            case first =>
              obtain ⟨_, _, hA0, hF0⟩ := OwnN.at_ KS.out.row1 hx0
              obtain ⟨_, _, hAi, hFi⟩ := OwnN.at_ KS.out.row1 hxi
              have HX0 := Lib.hid hx0
              have HXi := Lib.hid hxi
              clear hx0 hxi
              have h1 := of_decide_eq_true HBB.out
              have k1 : (0 : Int) < (n1 : Int) := by omega
              have k2 : (0 : Int) ≤ (ii : Int) := by omega
              have k3 : (ii : Int) < (n1 : Int) := by omega
              by_cases hi0 : ii = 0
              · have hxe : x0 = xi := by have h1 := HX0.out; have h2 := HXi.out; rw [hi0, h1] at h2; injection h2
                subst hxe
                have hq0 : ii * 3 = 0 := by omega
                clear hi0 k2
                have hsw := KS.out.swapN rfl HX0.out HX0.out
                have HSW := Lib.hid hsw
                clear hsw
                obtain ⟨c0, c1', c2'⟩ := hA0
                obtain ⟨f0, f1, f2⟩ := hF0
                clear hAi hFi
                have e0 : wr.cell? ⟨h, 0, none⟩ = some (.int .i64 x0.id) := c0
                have e1 : wr.cell? ⟨h, 1, none⟩ = some (.slice x0.AL x0.nL x0.cL) := c1'
                have e2 : wr.cell? ⟨h, 2, none⟩ = some (.slice x0.AP x0.nP x0.cP) := c2'
                have z0 : wr.frozen? ⟨h, 0, none⟩ = false := f0
                have z1 : wr.frozen? ⟨h, 1, none⟩ = false := f1
                have z2 : wr.frozen? ⟨h, 2, none⟩ = false := f2
                have ngg : ¬ g5 = h := fun e => KS.out.box.ne_own KS.out.row1 (by decide) (by rw [e]; rfl)
                have nhg : ¬ h = g5 := fun e => ngg e.symm
                clear c0 c1' c2' f0 f1 f2
                go_big_region
                all_goals
                  go_wp2
                  go_meet
                  exact ⟨_, HSW⟩
              · have hsw := KS.out.swapN rfl HX0.out HXi.out
                have HSW := Lib.hid hsw
                clear hsw
                obtain ⟨c0, c1', c2'⟩ := hA0
                obtain ⟨f0, f1, f2⟩ := hF0
                obtain ⟨d0, d1, d2⟩ := hAi
                obtain ⟨g0, g1, g2⟩ := hFi
                have e0 : wr.cell? ⟨h, 0, none⟩ = some (.int .i64 x0.id) := c0
                have e1 : wr.cell? ⟨h, 1, none⟩ = some (.slice x0.AL x0.nL x0.cL) := c1'
                have e2 : wr.cell? ⟨h, 2, none⟩ = some (.slice x0.AP x0.nP x0.cP) := c2'
                have z0 : wr.frozen? ⟨h, 0, none⟩ = false := f0
                have z1 : wr.frozen? ⟨h, 1, none⟩ = false := f1
                have z2 : wr.frozen? ⟨h, 2, none⟩ = false := f2
                have ngg : ¬ g5 = h := fun e => KS.out.box.ne_own KS.out.row1 (by decide) (by rw [e]; rfl)
                have nhg : ¬ h = g5 := fun e => ngg e.symm
                clear c0 c1' c2' f0 f1 f2
                have hpos : 0 < ii := by omega
                have n00 : ¬ ii * 3 = 0 := by omega
                have m00 : ¬ 0 = ii * 3 := by omega
                have n01 : ¬ ii * 3 = 1 := by omega
                have m01 : ¬ 1 = ii * 3 := by omega
                have n02 : ¬ ii * 3 = 2 := by omega
                have m02 : ¬ 2 = ii * 3 := by omega
                have n10 : ¬ ii * 3 + 1 = 0 := by omega
                have m10 : ¬ 0 = ii * 3 + 1 := by omega
                have n11 : ¬ ii * 3 + 1 = 1 := by omega
                have m11 : ¬ 1 = ii * 3 + 1 := by omega
                have n12 : ¬ ii * 3 + 1 = 2 := by omega
                have m12 : ¬ 2 = ii * 3 + 1 := by omega
                have n20 : ¬ ii * 3 + 2 = 0 := by omega
                have m20 : ¬ 0 = ii * 3 + 2 := by omega
                have n21 : ¬ ii * 3 + 2 = 1 := by omega
                have m21 : ¬ 1 = ii * 3 + 2 := by omega
                have n22 : ¬ ii * 3 + 2 = 2 := by omega
                have m22 : ¬ 2 = ii * 3 + 2 := by omega
                go_big_region
                all_goals
                  go_wp2
                  go_meet
                  exact ⟨_, HSW⟩
            case rest =>
              obtain ⟨ns3, KS3⟩ := hcut
              clear KS hx0 hxi p0 hg
              have p0 : wc.cell? ⟨g5, 0, none⟩ = some (.slice (some ⟨h, 0, none⟩) n1 c1) := KS3.out.box.cell 0
              have hlen3 : ns3.length = n1 := arr_len KS3.out.row1 ND.three (by omega)
              obtain ⟨x, Q, hq⟩ : ∃ x Q, ns3 = x :: Q := by
                cases ns3 with
                | nil => have h1 := of_decide_eq_true HBB.out; simp at hlen3; omega
                | cons x Q => exact ⟨x, Q, rfl⟩
              subst hq
              obtain ⟨_, _, hAx, _⟩ := OwnN.at_ (i := 0) (x := x) KS3.out.row1 rfl
              have e1 : wc.cell? ⟨h, 1, none⟩ = some (.slice x.AL x.nL x.cL) := hAx.2.1
              have k1 : (0 : Int) < (n1 : Int) := by have h1 := of_decide_eq_true HBB.out; omega
              have hXN := (KS3.out.e1 x (by simp)).lab
              obtain ⟨AL0, nL0, cL0, hLL⟩ : ∃ AL0 nL0 cL0, x.AL = AL0 ∧ x.nL = nL0 ∧ x.cL = cL0 := ⟨_, _, _, rfl, rfl, rfl⟩
              rw [hLL.1, hLL.2.1, hLL.2.2] at e1 hXN
              have HLL := Lib.hid hLL
              have HXN := Lib.hid hXN
              obtain ⟨bl, hbl⟩ : ∃ bl, decide (1 < nL0) = bl := ⟨_, rfl⟩
              have hbl' : decide ((1 : Int) < (nL0 : Int)) = bl := by rw [← hbl]; congr 1; exact propext ⟨fun h => by omega, fun h => by omega⟩
              clear hAx hlen3 hXN hLL
              go_upto_if 66 with fail
              have HBL := Lib.hid hbl
              clear hbl hbl' e1 p0 k1
              go_cut [76] from 67 to 76 (fun s76 wx => ∃ ns4 : List ND, Hid (SetS w4 (GR.dat ⟨ns, AN, nN, cN, rs, AR, nR, cR⟩) w4.heap.size g5 (mixG ns4 (some ⟨h, 0, none⟩) n1 c1 rs1 A2 n2 c2) wx))
              case first =>
                cases bl with
                | false =>
                  go_wp2
                  go_meet
                  exact ⟨_, KS3⟩
                | true =>
                  have hl1 := of_decide_eq_true HBL.out
                  obtain ⟨s0, s1, lr, hlb⟩ : ∃ s0 s1 lr, x.labels = s0 :: s1 :: lr := by
                    have h2 := HXN.out.1
                    rw [List.length_map, Nat.mul_one] at h2
                    match hx : x.labels with
                    | [] => rw [hx] at h2; simp at h2; omega
                    | [_] => rw [hx] at h2; simp at h2; omega
                    | s0 :: s1 :: lr => exact ⟨s0, s1, lr, rfl⟩
                  have hXN := HXN.out
                  rw [hlb] at hXN
                  obtain ⟨hl, u0, hA0, hB0, hg0, hu0, r0, f0, t0⟩ := own_cell (i := 0) hXN (by omega)
                  cases hu0
                  subst hA0
                  have hsec := t0 (.string s1)
                  obtain ⟨hl', u1, hA1, _, _, hu1, r1, f1, _⟩ := own_cell (i := 1) hXN (by omega)
                  injection hA1 with hA1
                  injection hA1 with hA1 _ _
                  subst hA1
                  cases hu1
                  obtain ⟨hl', u1', hA1', _, _, hu1', _, _, t1⟩ := own_cell (i := 1) hsec (by omega)
                  injection hA1' with hA1'
                  injection hA1' with hA1' _ _
                  subst hA1'
                  have hfin := own_same (t1 (.string s0)) ((Upd.refl (fun _ => False) _).drew)
                  have hup : Upd (fun b => b = hl) wc ((wc.setCell ⟨hl, 0, none⟩ (.string s1)).setCell ⟨hl, 1, none⟩ (.string s0)).drew := (((Upd.refl (fun b => b = hl) wc).put1 (i := 0) _).put1 (i := 1) _).drew
                  have hns := KS3.out.labs (P := []) (Q := Q) (x := x) (lb := s1 :: s0 :: lr) (h := hl) rfl (by rw [HLL.out.1]; rfl) hup (by rw [HLL.out.1, HLL.out.2.1, HLL.out.2.2]; exact hfin) (by rw [hlb]; exact List.Perm.swap _ _ _)
                  have HNS := Lib.hid hns
                  clear hns hup hfin t0 t1 hsec hlb hXN HLL hu1' HXN
                  have k3 : (1 : Int) < (nL0 : Int) := by omega
                  have k4 : (0 : Int) < (nL0 : Int) := by omega
                  clear hl1
                  go_upto_region 16 with fail
                  go_big_region
                  all_goals
                    go_wp2
                    go_meet
                    exact ⟨_, HNS⟩
              case rest =>
                obtain ⟨ns4, KS4⟩ := hcut
                obtain ⟨wd, rfl⟩ : ∃ wd : World, wd = wc := ⟨_, rfl⟩
                clear KS3 HXN HLL HBL
                have p0 : wd.cell? ⟨g5, 0, none⟩ = some (.slice (some ⟨h, 0, none⟩) n1 c1) := KS4.out.box.cell 0
                have hlen4 : ns4.length = n1 := arr_len KS4.out.row1 ND.three (by omega)
                obtain ⟨y, hy⟩ : ∃ y, ns4[ii]? = some y := ⟨_, List.getElem?_eq_getElem (by omega)⟩
                obtain ⟨P, Q2, hPQ, hPl⟩ : ∃ P Q2, ns4 = P ++ y :: Q2 ∧ P.length = ii := by
                  refine ⟨ns4.take ii, ns4.drop (ii + 1), ?_, by rw [List.length_take]; omega⟩
                  rw [← nd_drop hy, List.take_append_drop]
                obtain ⟨_, _, hAy, _⟩ := OwnN.at_ KS4.out.row1 hy
                have e2 : wd.cell? ⟨h, ii * 3 + 2, none⟩ = some (.slice y.AP y.nP y.cP) := hAy.2.2
                have k2 : (0 : Int) ≤ (ii : Int) := by omega
                have k3 : (ii : Int) < (n1 : Int) := by omega
                have hym : y ∈ ns4 := List.mem_of_getElem? hy
                have HYP := Lib.hid (KS4.out.e1 y hym).pro
                have HPQ := Lib.hid hPQ
                obtain ⟨AP0, nP0, cP0, hPP⟩ : ∃ AP0 nP0 cP0, y.AP = AP0 ∧ y.nP = nP0 ∧ y.cP = cP0 := ⟨_, _, _, rfl, rfl, rfl⟩
                rw [hPP.1, hPP.2.1, hPP.2.2] at e2
                have HPP := Lib.hid hPP
                obtain ⟨bp, hbp⟩ : ∃ bp, decide (1 < nP0) = bp := ⟨_, rfl⟩
                have hbp' : decide ((1 : Int) < (nP0 : Int)) = bp := by rw [← hbp]; congr 1; exact propext ⟨fun h => by omega, fun h => by omega⟩
                clear hAy hlen4 hy hPQ hPl hym hPP
                go_upto_if 85 with fail
                have HBP := Lib.hid hbp
                clear hbp hbp' p0 e2
                go_cut [101] from 86 to 101 (fun s101 wx => ∃ ns5 : List ND, Hid (SetS w4 (GR.dat ⟨ns, AN, nN, cN, rs, AR, nR, cR⟩) w4.heap.size g5 (mixG ns5 (some ⟨h, 0, none⟩) n1 c1 rs1 A2 n2 c2) wx))
                case first =>
                  cases bp with
                  | false =>
                    go_wp2
                    go_meet
                    exact ⟨_, KS4⟩
                  | true =>
                    have hl1 := of_decide_eq_true HBP.out
                    have hrow := HYP.out.row
                    rw [HPP.out.1, HPP.out.2.1, HPP.out.2.2] at hrow
                    obtain ⟨A', c', e'⟩ := own_form hrow
                    injection e' with e1 e2 e3
                    have hrow2 := hrow
                    rw [← e2] at hrow2
                    obtain ⟨qq, hqq⟩ : ∃ qq, qq + 1 = nP0 := ⟨nP0 - 1, by omega⟩
                    obtain ⟨a, ha⟩ : ∃ a, y.props[0]? = some a := ⟨_, List.getElem?_eq_getElem (by omega)⟩
                    obtain ⟨b2, hb2⟩ : ∃ b2, y.props[qq]? = some b2 := ⟨_, List.getElem?_eq_getElem (by omega)⟩
                    obtain ⟨hp, u0, hA0, hB0, hg0, -, -, -, -⟩ := own_cellK (i := 0) hrow2 (by omega)
                    subst hA0
                    obtain ⟨_, _, hAa, hFa⟩ := OwnP.at_ hrow2 ha
                    obtain ⟨_, _, hAb, hFb⟩ := OwnP.at_ hrow2 hb2
                    obtain ⟨_, _, _, hle9, hmx9, _, _⟩ := arr_blk hrow2
                    obtain ⟨q1, q2⟩ := OwnP.put2 hrow2 (by omega) (show qq < nP0 by omega) b2 a (l' := (y.props.set 0 b2).set qq a) rfl
                    have hpl : ((y.props.set 0 b2).set qq a).length = nP0 := by rw [List.length_set, List.length_set]; exact e2.symm
                    have hns := KS4.out.props (P := P) (Q := Q2) (x := y) (ps := (y.props.set 0 b2).set qq a) (h := hp) HPQ.out (by rw [HPP.out.1]; rfl) q2 (by rw [hpl, HPP.out.1, HPP.out.2.1, HPP.out.2.2]; exact q1) (swap_perm ha hb2)
                    have HNS := Lib.hid hns
                    unfold maxLen at hmx9
                    have k4 : (0 : Int) < (nP0 : Int) := by omega
                    have k5 : (0 : Int) ≤ (qq : Int) := by omega
                    have k6 : (qq : Int) < (nP0 : Int) := by omega
                    have kw : IntKind.i64.wrap ((nP0 : Int) - 1) = (qq : Int) := by rw [IntWalk.i64_in _ ⟨by omega, by omega⟩]; omega
                    have hqp : 0 < qq := by omega
                    have n00 : ¬ qq * 6 = 0 := by omega
                    have m00 : ¬ 0 = qq * 6 := by omega
                    have n01 : ¬ qq * 6 = 1 := by omega
                    have m01 : ¬ 1 = qq * 6 := by omega
                    have n02 : ¬ qq * 6 = 2 := by omega
                    have m02 : ¬ 2 = qq * 6 := by omega
                    have n03 : ¬ qq * 6 = 3 := by omega
                    have m03 : ¬ 3 = qq * 6 := by omega
                    have n04 : ¬ qq * 6 = 4 := by omega
                    have m04 : ¬ 4 = qq * 6 := by omega
                    have n05 : ¬ qq * 6 = 5 := by omega
                    have m05 : ¬ 5 = qq * 6 := by omega
                    have n10 : ¬ qq * 6 + 1 = 0 := by omega
                    have m10 : ¬ 0 = qq * 6 + 1 := by omega
                    have n11 : ¬ qq * 6 + 1 = 1 := by omega
                    have m11 : ¬ 1 = qq * 6 + 1 := by omega
                    have n12 : ¬ qq * 6 + 1 = 2 := by omega
                    have m12 : ¬ 2 = qq * 6 + 1 := by omega
                    have n13 : ¬ qq * 6 + 1 = 3 := by omega
                    have m13 : ¬ 3 = qq * 6 + 1 := by omega
                    have n14 : ¬ qq * 6 + 1 = 4 := by omega
                    have m14 : ¬ 4 = qq * 6 + 1 := by omega
                    have n15 : ¬ qq * 6 + 1 = 5 := by omega
                    have m15 : ¬ 5 = qq * 6 + 1 := by omega
                    have n20 : ¬ qq * 6 + 2 = 0 := by omega
                    have m20 : ¬ 0 = qq * 6 + 2 := by omega
                    have n21 : ¬ qq * 6 + 2 = 1 := by omega
                    have m21 : ¬ 1 = qq * 6 + 2 := by omega
                    have n22 : ¬ qq * 6 + 2 = 2 := by omega
                    have m22 : ¬ 2 = qq * 6 + 2 := by omega
                    have n23 : ¬ qq * 6 + 2 = 3 := by omega
                    have m23 : ¬ 3 = qq * 6 + 2 := by omega
                    have n24 : ¬ qq * 6 + 2 = 4 := by omega
                    have m24 : ¬ 4 = qq * 6 + 2 := by omega
                    have n25 : ¬ qq * 6 + 2 = 5 := by omega
                    have m25 : ¬ 5 = qq * 6 + 2 := by omega
                    have n30 : ¬ qq * 6 + 3 = 0 := by omega
                    have m30 : ¬ 0 = qq * 6 + 3 := by omega
                    have n31 : ¬ qq * 6 + 3 = 1 := by omega
                    have m31 : ¬ 1 = qq * 6 + 3 := by omega
                    have n32 : ¬ qq * 6 + 3 = 2 := by omega
                    have m32 : ¬ 2 = qq * 6 + 3 := by omega
                    have n33 : ¬ qq * 6 + 3 = 3 := by omega
                    have m33 : ¬ 3 = qq * 6 + 3 := by omega
                    have n34 : ¬ qq * 6 + 3 = 4 := by omega
                    have m34 : ¬ 4 = qq * 6 + 3 := by omega
                    have n35 : ¬ qq * 6 + 3 = 5 := by omega
                    have m35 : ¬ 5 = qq * 6 + 3 := by omega
                    have n40 : ¬ qq * 6 + 4 = 0 := by omega
                    have m40 : ¬ 0 = qq * 6 + 4 := by omega
                    have n41 : ¬ qq * 6 + 4 = 1 := by omega
                    have m41 : ¬ 1 = qq * 6 + 4 := by omega
                    have n42 : ¬ qq * 6 + 4 = 2 := by omega
                    have m42 : ¬ 2 = qq * 6 + 4 := by omega
                    have n43 : ¬ qq * 6 + 4 = 3 := by omega
                    have m43 : ¬ 3 = qq * 6 + 4 := by omega
                    have n44 : ¬ qq * 6 + 4 = 4 := by omega
                    have m44 : ¬ 4 = qq * 6 + 4 := by omega
                    have n45 : ¬ qq * 6 + 4 = 5 := by omega
                    have m45 : ¬ 5 = qq * 6 + 4 := by omega
                    have n50 : ¬ qq * 6 + 5 = 0 := by omega
                    have m50 : ¬ 0 = qq * 6 + 5 := by omega
                    have n51 : ¬ qq * 6 + 5 = 1 := by omega
                    have m51 : ¬ 1 = qq * 6 + 5 := by omega
                    have n52 : ¬ qq * 6 + 5 = 2 := by omega
                    have m52 : ¬ 2 = qq * 6 + 5 := by omega
                    have n53 : ¬ qq * 6 + 5 = 3 := by omega
                    have m53 : ¬ 3 = qq * 6 + 5 := by omega
                    have n54 : ¬ qq * 6 + 5 = 4 := by omega
                    have m54 : ¬ 4 = qq * 6 + 5 := by omega
                    have n55 : ¬ qq * 6 + 5 = 5 := by omega
                    have m55 : ¬ 5 = qq * 6 + 5 := by omega
                    obtain ⟨c0, c1', c2', c3, c4, c5⟩ := hAa
                    obtain ⟨d0, d1, d2, d3, d4, d5⟩ := hAb
                    obtain ⟨f0, f1, f2, f3, f4, f5⟩ := hFa
                    obtain ⟨g0, g1, g2, g3, g4, g5'⟩ := hFb
                    have z0 : wd.cell? ⟨hp, 0, none⟩ = some (.string a.key) := c0
                    have z1 : wd.cell? ⟨hp, 1, none⟩ = some (.int .i64 a.g.kind) := c1'
                    have z2 : wd.cell? ⟨hp, 2, none⟩ = some (.int .i64 a.g.num) := c2'
                    have z3 : wd.cell? ⟨hp, 3, none⟩ = some (.string a.g.text) := c3
                    have z4 : wd.cell? ⟨hp, 4, none⟩ = some (.slice a.A1 a.n1 a.c1) := c4
                    have z5 : wd.cell? ⟨hp, 5, none⟩ = some (.slice a.A2 a.n2 a.c2) := c5
                    have y0 : wd.frozen? ⟨hp, 0, none⟩ = false := f0
                    have y1 : wd.frozen? ⟨hp, 1, none⟩ = false := f1
                    have y2 : wd.frozen? ⟨hp, 2, none⟩ = false := f2
                    have y3 : wd.frozen? ⟨hp, 3, none⟩ = false := f3
                    have y4 : wd.frozen? ⟨hp, 4, none⟩ = false := f4
                    have y5 : wd.frozen? ⟨hp, 5, none⟩ = false := f5
                    clear c0 c1' c2' c3 c4 c5 f0 f1 f2 f3 f4 f5 e1 e2 e3 hpl q1 q2 hns hrow hrow2 ha hb2 hl1 hqq hle9 hmx9
                    go_upto_region 19 with fail
                    go_big_region
                    all_goals
                      go_wp2
                      go_meet
                      exact ⟨_, HNS⟩
                case rest =>
                  obtain ⟨ns5, KS5⟩ := hcut
                  clear KS4 HYP HPQ HPP HBP
                  go_wp2
                  go_meet
                  exact ⟨ns5, KS5⟩
          | false =>
            go_wp2
            go_meet
            exact ⟨ns1, KS⟩
        case rest =>
          obtain ⟨ns2, KS2⟩ := hcut
          clear KS p0 HBB
          obtain ⟨we, rfl⟩ : ∃ we : World, we = wc := ⟨_, rfl⟩
          have p1 : we.cell? ⟨g5, 1, none⟩ = some (.slice A2 n2 c2) := KS2.out.box.cell 1
          obtain ⟨b3, hb3⟩ : ∃ b3, decide (0 < n2) = b3 := ⟨_, rfl⟩
          go_upto_if 106 with fail
          have HB3 := Lib.hid hb3
          clear hb3 p1
          cases b3 with
          | false =>
            go_wp2
            go_roundg (nM - (i + 1))
            case measure => omega
            case rel => exact ⟨i + 1, ns2, rs1, rfl, by omega, by go_num, KS2⟩
          | true =>
            have h1 := of_decide_eq_true HB3.out
            obtain ⟨ii, hii⟩ : ∃ ii, ii = a2 % n2 := ⟨_, rfl⟩
            have hil := mod_lt hii h1
            have hi1 := mod_int hii
            have hi2 := mod_tint hii
            have hi3 : (0 : Int) ≤ (a2 : Int) := by omega
            have hi4 : (1 : Int) ≤ (n2 : Int) := by omega
            obtain ⟨qq, hqq⟩ : ∃ qq, qq + 1 = n2 := ⟨n2 - 1, by omega⟩
            have kw : IntKind.i64.wrap ((n2 : Int) - 1) = (qq : Int) := by rw [IntWalk.i64_in _ ⟨by omega, by omega⟩]; omega
            have hlen : rs1.length = n2 := arr_len KS2.out.row2 RL.five (by omega)
            obtain ⟨xi, hxi⟩ : ∃ xi, rs1[ii]? = some xi := ⟨_, List.getElem?_eq_getElem (by omega)⟩
            obtain ⟨xq, hxq⟩ : ∃ xq, rs1[qq]? = some xq := ⟨_, List.getElem?_eq_getElem (by omega)⟩
            obtain ⟨h2, u0, hA, hB, hg, -, -, -, -⟩ := own_cellK (i := 0) KS2.out.row2 (by simp only; omega)
            simp only at hA
            subst hA
            have p1 : we.cell? ⟨g5, 1, none⟩ = some (.slice (some ⟨h2, 0, none⟩) n2 c2) := KS2.out.box.cell 1
            have hsw := KS2.out.swapR rfl hxq hxi
            have HSW := Lib.hid hsw
            obtain ⟨_, _, hAi, hFi⟩ := OwnR.at_ KS2.out.row2 hxi
            obtain ⟨_, _, hAq, hFq⟩ := OwnR.at_ KS2.out.row2 hxq
            have k1 : (0 : Int) ≤ (ii : Int) := by omega
            have k2 : (ii : Int) < (n2 : Int) := by omega
            have k3 : (0 : Int) ≤ (qq : Int) := by omega
            have k4 : (qq : Int) < (n2 : Int) := by omega
            have ngg : ¬ g5 = h2 := fun e => KS2.out.box.ne_own KS2.out.row2 (by decide) (by rw [e]; rfl)
            have nhg : ¬ h2 = g5 := fun e => ngg e.symm
            have HQQ := Lib.hid hqq
            have HXE := Lib.hid (And.intro hxi hxq)
            by_cases hi0 : ii = qq
            · have hq0 : ii * 5 = qq * 5 := by rw [hi0]
              have hxe : xi = xq := by rw [hi0, hxq] at hxi; injection hxi with h; exact h.symm
              subst hxe
              clear hi0 hxi hxq hsw hii hlen h1 hqq hAi hFi
              go_upto_region 23 with fail
              obtain ⟨c0, c1', c2', c3, c4⟩ := hAq
              obtain ⟨f0, f1, f2, f3, f4⟩ := hFq
              have HSW2 := Lib.hid (show SetS w4 _ _ _ _ (putR (putR we h2 qq xi) h2 ii xi).drew from HSW.out)
              unfold putR at HSW2
              rw [hq0] at HSW2
              go_big_region
              all_goals
                go_wp2
                go_roundg (nM - (i + 1))
                case measure => omega
                case rel => exact ⟨i + 1, ns2, _, rfl, by omega, by go_num, HSW2⟩
            · have hlt3 : ii < qq := by omega
              have n00 : ¬ ii * 5 = qq * 5 := by omega
              have m00 : ¬ qq * 5 = ii * 5 := by omega
              have n01 : ¬ ii * 5 = qq * 5 + 1 := by omega
              have m01 : ¬ qq * 5 + 1 = ii * 5 := by omega
              have n02 : ¬ ii * 5 = qq * 5 + 2 := by omega
              have m02 : ¬ qq * 5 + 2 = ii * 5 := by omega
              have n03 : ¬ ii * 5 = qq * 5 + 3 := by omega
              have m03 : ¬ qq * 5 + 3 = ii * 5 := by omega
              have n04 : ¬ ii * 5 = qq * 5 + 4 := by omega
              have m04 : ¬ qq * 5 + 4 = ii * 5 := by omega
              have n10 : ¬ ii * 5 + 1 = qq * 5 := by omega
              have m10 : ¬ qq * 5 = ii * 5 + 1 := by omega
              have n11 : ¬ ii * 5 + 1 = qq * 5 + 1 := by omega
              have m11 : ¬ qq * 5 + 1 = ii * 5 + 1 := by omega
              have n12 : ¬ ii * 5 + 1 = qq * 5 + 2 := by omega
              have m12 : ¬ qq * 5 + 2 = ii * 5 + 1 := by omega
              have n13 : ¬ ii * 5 + 1 = qq * 5 + 3 := by omega
              have m13 : ¬ qq * 5 + 3 = ii * 5 + 1 := by omega
              have n14 : ¬ ii * 5 + 1 = qq * 5 + 4 := by omega
              have m14 : ¬ qq * 5 + 4 = ii * 5 + 1 := by omega
              have n20 : ¬ ii * 5 + 2 = qq * 5 := by omega
              have m20 : ¬ qq * 5 = ii * 5 + 2 := by omega
              have n21 : ¬ ii * 5 + 2 = qq * 5 + 1 := by omega
              have m21 : ¬ qq * 5 + 1 = ii * 5 + 2 := by omega
              have n22 : ¬ ii * 5 + 2 = qq * 5 + 2 := by omega
              have m22 : ¬ qq * 5 + 2 = ii * 5 + 2 := by omega
              have n23 : ¬ ii * 5 + 2 = qq * 5 + 3 := by omega
              have m23 : ¬ qq * 5 + 3 = ii * 5 + 2 := by omega
              have n24 : ¬ ii * 5 + 2 = qq * 5 + 4 := by omega
              have m24 : ¬ qq * 5 + 4 = ii * 5 + 2 := by omega
              have n30 : ¬ ii * 5 + 3 = qq * 5 := by omega
              have m30 : ¬ qq * 5 = ii * 5 + 3 := by omega
              have n31 : ¬ ii * 5 + 3 = qq * 5 + 1 := by omega
              have m31 : ¬ qq * 5 + 1 = ii * 5 + 3 := by omega
              have n32 : ¬ ii * 5 + 3 = qq * 5 + 2 := by omega
              have m32 : ¬ qq * 5 + 2 = ii * 5 + 3 := by omega
              have n33 : ¬ ii * 5 + 3 = qq * 5 + 3 := by omega
              have m33 : ¬ qq * 5 + 3 = ii * 5 + 3 := by omega
              have n34 : ¬ ii * 5 + 3 = qq * 5 + 4 := by omega
              have m34 : ¬ qq * 5 + 4 = ii * 5 + 3 := by omega
              have n40 : ¬ ii * 5 + 4 = qq * 5 := by omega
              have m40 : ¬ qq * 5 = ii * 5 + 4 := by omega
              have n41 : ¬ ii * 5 + 4 = qq * 5 + 1 := by omega
              have m41 : ¬ qq * 5 + 1 = ii * 5 + 4 := by omega
              have n42 : ¬ ii * 5 + 4 = qq * 5 + 2 := by omega
              have m42 : ¬ qq * 5 + 2 = ii * 5 + 4 := by omega
              have n43 : ¬ ii * 5 + 4 = qq * 5 + 3 := by omega
              have m43 : ¬ qq * 5 + 3 = ii * 5 + 4 := by omega
              have n44 : ¬ ii * 5 + 4 = qq * 5 + 4 := by omega
              have m44 : ¬ qq * 5 + 4 = ii * 5 + 4 := by omega
              clear hi0 hxi hxq hsw hii hlen h1 hqq
              go_upto_region 23 with fail
              obtain ⟨c0, c1', c2', c3, c4⟩ := hAq
              obtain ⟨f0, f1, f2, f3, f4⟩ := hFq
              obtain ⟨d0, d1, d2, d3, d4⟩ := hAi
              obtain ⟨e0, e1, e2, e3, e4⟩ := hFi
              go_big_region
              all_goals
                go_wp2
                go_roundg (nM - (i + 1))
                case measure => omega
                case rel => exact ⟨i + 1, ns2, _, rfl, by omega, by go_num, HSW⟩
      · obtain rfl : i = nM := by omega
        obtain ⟨wo, rfl⟩ : ∃ wo : World, wo = wr := ⟨_, rfl⟩
        have p0 : wo.cell? ⟨g5, 0, none⟩ = some (.slice A1 n1 c1) := KS.out.box.cell 0
        have p1 : wo.cell? ⟨g5, 1, none⟩ = some (.slice A2 n2 c2) := KS.out.box.cell 1
        have l1 : ns1.length = n1 := arr_len KS.out.row1 ND.three (by omega)
        have l2 : rs1.length = n2 := arr_len KS.out.row2 RL.five (by omega)
        have hog : OwnG wo w4.heap.size (mixG ns1 A1 n1 c1 rs1 A2 n2 c2) := ⟨⟨by rw [l1]; exact KS.out.row1, KS.out.e1⟩, ⟨by rw [l2]; exact KS.out.row2, KS.out.e2⟩⟩
        have HOG := Lib.hid hog.rd
        clear hlt l1 l2 hog hi
        go_wp2_with fail
        refine (canonG_on wo _ (mixG ns1 A1 n1 c1 rs1 A2 n2 c2) (Upd.refl _ _) HOG.out KS.out.siz).mono ?_
        rintro x w7 ⟨⟨nsB, B1', m1, d1, rsB, B2', m2, d2⟩, rfl, DB, RB, hs7, _⟩
        have HDB : Hid (GR.dat ⟨nsB, B1', m1, d1, rsB, B2', m2, d2⟩ = GR.dat ⟨ns, AN, nN, cN, rs, AR, nR, cR⟩) := Lib.hid (by
          rw [DB.out, KS.out.mix.can]
          exact (right_canon HH.out).1)
        have hs8 := (Upd.refl (fun _ => False) w7).alloc (.cells #[.slice B1' m1 d1, .slice B2' m2 d2] 27)
        have C8 := Lib.hid (Blk.new w7 27 #[.slice B1' m1 d1, .slice B2' m2 d2])
        have S8 := Lib.hid (KS.out.same.same (hs7.same hs8))
        have RB8 := Lib.hid (RB.out.same hs8)
        have RG8 := Lib.hid (R4.out.same S8.out)
        have BG8 := Lib.hid (B4.out.same S8.out)
        have hHR := (right_canon HH.out).1
        have HZB := Lib.hid (gsized_dat R4.out RB.out Z1.out HDB.out)
        have HDC : Hid (canonD (GR.dat ⟨nsB, B1', m1, d1, rsB, B2', m2, d2⟩) = GR.dat ⟨ns, AN, nN, cN, rs, AR, nR, cR⟩) := Lib.hid (by rw [HDB.out]; exact hHR)
        clear p0 p1 hs7 hs8 KS hHR
        go_upto_region 26 with fail
        generalize w7.alloc (.cells #[.slice B1' m1 d1, .slice B2' m2 d2] 27) = w8 at *
        generalize w7.heap.size = g8 at *
        have h00 : Same w8 w8.drew := (Upd.refl _ w8).drew
        have tok1 : True := trivial
        go_region_held3 (fun wx => Same w8 wx ∧ wx.cell? ⟨w.heap.size, 0, none⟩ = some (.slice AN nN cN) ∧ wx.cell? ⟨w.heap.size, 1, none⟩ = some (.slice AR nR cR) ∧ wx.cell? ⟨g8, 0, none⟩ = some (.slice B1' m1 d1) ∧ wx.cell? ⟨g8, 1, none⟩ = some (.slice B2' m2 d2)) (exact keepC2 BG8 C8 (by assumption)) (first
          | (go_at_call 22; (have _t := tok1); clear tok1; with_reducible refine (gsame_spec _ ⟨nsB, B1', m1, d1, rsB, B2', m2, d2⟩ ⟨ns, AN, nN, cN, rs, AR, nR, cR⟩ (RB8.out.same h00) (RG8.out.same h00) (r := true) (by rw [HDB.out]; exact (sameG_iff _ _).2 rfl)).mono ?_; rintro e w9 ⟨rfl, hs9⟩; have hsa9 := h00.same hs9)
          | (go_at_call 20; with_reducible refine (canonG_on w8 _ ⟨nsB, B1', m1, d1, rsB, B2', m2, d2⟩ hsa9 RB8.out HZB.out).mono ?_; rintro e w10 ⟨⟨nsC, C1', k1, e1, rsC, C2', k2, e2⟩, rfl, DC, RC, hs10, hsa10⟩)
          | (go_at_call 22; with_reducible refine (gsame_spec w10 ⟨nsC, C1', k1, e1, rsC, C2', k2, e2⟩ ⟨ns, AN, nN, cN, rs, AR, nR, cR⟩ RC.out (RG8.out.same hsa10) (r := true) (by rw [DC.out, HDC.out]; exact (sameG_iff _ _).2 rfl)).mono ?_; rintro e w11 ⟨rfl, hs11⟩; have hsa11 := hsa10.same hs11))
        all_goals
          go_wp2
          go_ret
          exact ⟨rfl, S4.out.same (S8.out.same (by assumption))⟩
  · have hne : (e != 0) = true := by simpa using he
    have hne2 : (e == 0) = false := by simpa using he
    go_wp2
    go_ret
    exact ⟨rfl, S4.out⟩
end Go.Proofs.YtlnademnfnhbpaaGreat
