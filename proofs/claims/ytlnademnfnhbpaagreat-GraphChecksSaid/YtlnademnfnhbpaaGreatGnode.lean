/- Package graph: checkNode, checkRel. -/
import Derived.Test.YtlnademnfnhbpaaGreatGck
import Derived.Test.YtlnademnfnhbpaaGreatMapI
namespace Go.Proofs.YtlnademnfnhbpaaGreat
open Go.RowKit

def notAfterI (k : Int) : Option Int → Bool
  | none => false
  | some q => decide (k ≤ q)
/-- The first error of a node; prev: the id ahead. -/
def nodeErr (prev : Option Int) (g : GNode) : Int := if g.id < 0 ∨ 1024 ≤ g.id then 61 else if notAfterI g.id prev = true then 6 else if labelsErr g.labels ≠ 0 then labelsErr g.labels else propsErr g.props
/-- .. of a relationship. -/
def relErr (there : Int → Bool) (prev : Option Int) (g : GRel) : Int :=
  if g.id < 0 ∨ 2048 ≤ g.id then 62 else if notAfterI g.id prev = true then 6 else if goodN g.type = false then 60 else if there g.src = false ∨ there g.dst = false then 65 else propsErr g.props

set_option maxHeartbeats 4000000 in
set_option maxRecDepth 100000 in
theorem checkNode_spec {F : Nat → Prop} {A : Option Addr} {n c : Nat} {ns : List ND} (w : World) (h : RdNs w F A n c ns) (hf : ∀ x ∈ ns, PsFit x.props) {i : Nat} (hi : i < n) {x : ND} (hx : ns[i]? = some x) {E : Int} (hE : nodeErr (aheadK ND.id ns i) x.dat = E) :
    Calls Tryz.prog 30 #[.slice A n c, .int .i64 i] w fun e w' => e = .returned (.int .i64 E) ∧ Same w w' := by
  have hmx := h.row.max
  have hle := h.row.le
  unfold maxLen at hmx
  obtain ⟨b, o, x', rfl, hb, _, hx', hxm, r0, r1, r2⟩ := h.at_ hi
  obtain rfl : x = x' := Option.some.inj (hx.symm.trans hx')
  have HR := Lib.hid h
  have HL := Lib.hid h.len
  have HLab := Lib.hid (h.lab x hxm)
  have HPro := Lib.hid (h.pro x hxm)
  have HF := Lib.hid (hf x hxm)
  obtain ⟨id, labels, AL, nL, cL, props, AP, nP, cP⟩ := x
  simp only at r0 r1 r2
  replace hE : (if id < 0 ∨ 1024 ≤ id then 61 else if notAfterI id (aheadK ND.id ns i) = true then 6 else if labelsErr labels ≠ 0 then labelsErr labels else propsErr (props.map PR.dat)) = E := hE
  have HE := Lib.hid hE
  have hsA := (Upd.refl (fun _ => False) w).alloc (.cells #[.int .i64 id, .slice AL nL cL, .slice AP nP cP] 40)
  have hbA := Blk.new w 40 #[.int .i64 id, .slice AL nL cL, .slice AP nP cP]
  have HSA := Lib.hid hsA
  have HBA := Lib.hid hbA
  have HRA := Lib.hid (h.same hsA)
  clear h hf hx hx' hxm hE hsA hbA
  go_enter Tryz.func30, Tryz.ntmps30
  by_cases hid : id < 0 ∨ 1024 ≤ id
  · have hE := (if_pos hid).symm.trans HE.out
    subst hE
    by_cases h0 : id < 0
    · go_wp2
      go_ret
      exact ⟨rfl, HSA.out⟩
    · have h1 : 1024 ≤ id := by omega
      go_wp2
      go_ret
      exact ⟨rfl, HSA.out⟩
  · have h0 : ¬ id < 0 := by omega
    have h1 : ¬ 1024 ≤ id := by omega
    have HE2 := Lib.hid ((if_neg hid).symm.trans HE.out)
    clear hid HE
    go_upto_region 4 with fail
    obtain ⟨r, hr⟩ : ∃ r, notAfterI id (aheadK ND.id ns i) = r := ⟨_, rfl⟩
    have HRr := Lib.hid hr
    have HLabA := Lib.hid (HLab.out.same HSA.out)
    have HProA := Lib.hid (HPro.out.same HSA.out)
    clear hr r0 r1 r2 HR HLab HPro
    generalize w.alloc (.cells #[.int .i64 id, .slice AL nL cL, .slice AP nP cP] 40) = w5 at *
    generalize w.heap.size = g5 at *
    have p0 : w5.cell? ⟨g5, 0, none⟩ = some (.int .i64 id) := HBA.out.cell 0
    go_cut [20] from 20 to 33 (fun s20 wx => s20 = .bool r ∧ ∃ d, wx = w5.drewN d)
    case first =>
      by_cases hi0 : i = 0
      · have hgt : ¬ (0 : Int) < i := by omega
        have hgtN : ¬ 0 < i := by omega
        have hgd : decide (0 < i) = false := decide_eq_false hgtN
        have hr0 : r = false := by rw [← HRr.out, hi0]; rfl
        subst hr0
        clear hi0
        go_quiet (fail)
        go_wp2
        go_meet
        case rel => exact ⟨rfl, _, rfl⟩
      · obtain ⟨j, hj⟩ : ∃ j, i = j + 1 := ⟨i - 1, by omega⟩
        have hgt : (0 : Int) < i := by omega
        have hgtN : 0 < i := by omega
        have hjn : j < n := by omega
        have hwr : IntKind.i64.wrap ((i : Int) - 1) = (j : Int) := by rw [IntKind.wrap_i64]; omega
        obtain ⟨b2, o2, y, hA2, _, _, hy, _, q0, _⟩ := HRA.out.at_ hjn
        injection hA2 with hA2
        injection hA2 with e1 e2 _
        subst e1 e2
        obtain ⟨iy, hiy⟩ : ∃ iy, y.id = iy := ⟨_, rfl⟩
        rw [hiy] at q0
        have hyr : decide (id ≤ iy) = r := by
          rw [← HRr.out, hj]
          simp only [aheadK]
          rw [hy]
          simp only [Option.map_some, hiy]
          rfl
        clear hy hiy hj hi0
        go_quiet (fail)
        go_wp2
        go_meet
        case rel => exact ⟨by first | rfl | rw [hyr], _, rfl⟩
    case rest =>
      obtain ⟨rfl, d, rfl⟩ := hcut
      have hsd : Same w5 (w5.drewN d) := (Upd.refl _ w5).drewN d
      have HS6 := Lib.hid (HSA.out.same hsd)
      have HB6 := Lib.hid (HBA.out.same hsd)
      have HL6 := Lib.hid (HLabA.out.same hsd)
      have HP6 := Lib.hid (HProA.out.same hsd)
      clear hsd p0 HSA HBA HRA HLabA HProA
      generalize w5.drewN d = w6 at *
      rw [HRr.out] at HE2
      cases r with
      | true =>
        have hE6 : (6 : Int) = E := (if_pos (by trivial)).symm.trans HE2.out
        subst hE6
        go_wp2
        go_ret
        exact ⟨rfl, HS6.out⟩
      | false =>
        have HE3 := Lib.hid ((if_neg (by simp)).symm.trans HE2.out)
        obtain ⟨C, hC⟩ : ∃ C, labelsErr labels = C := ⟨_, rfl⟩
        have hE3 := HE3.out
        rw [hC] at hE3
        have p1 : w6.cell? ⟨g5, 1, none⟩ = some (.slice AL nL cL) := HB6.out.cell 1
        go_wp2_with fail
        refine (checkLabels_spec _ HL6.out hC).mono ?_
        rintro e w7 ⟨rfl, hs7⟩
        have HS7 := Lib.hid (HS6.out.same hs7)
        have HP7 := Lib.hid (HP6.out.same hs7)
        have p2 : w7.cell? ⟨g5, 2, none⟩ = some (.slice AP nP cP) := (HB6.out.same hs7).cell 2
        clear p1 hs7 HE2 HE3
        by_cases hz : C = 0
        · subst hz
          rw [if_neg (by simp)] at hE3
          go_wp2_with fail
          refine (checkProps_spec _ HP7.out HF.out hE3).mono ?_
          rintro e w8 ⟨rfl, hs8⟩
          have HS8 := Lib.hid (HS7.out.same hs8)
          clear hs8
          go_wp2
          go_ret
          exact ⟨rfl, HS8.out⟩
        · rw [if_pos hz] at hE3
          subst hE3
          have hcn : (C != 0) = true := by rw [bne_iff_ne]; exact hz
          go_wp2
          go_ret
          exact ⟨rfl, HS7.out⟩

set_option maxHeartbeats 4000000 in
set_option maxRecDepth 100000 in
theorem checkRel_spec {F : Nat → Prop} {A : Option Addr} {n c : Nat} {rs : List RL} (w : World) (h : RdRs w F A n c rs) (hf : ∀ x ∈ rs, PsFit x.props) {m k : Nat} {f : Int → Int} (hm : MapI w m k f) {i : Nat} (hi : i < n) {x : RL} (hx : rs[i]? = some x) {E : Int} (hE : relErr (fun y => f y != 0) (aheadK RL.id rs i) x.dat = E) :
    Calls Tryz.prog 31 #[.slice A n c, .int .i64 i, .map (some m)] w fun e w' => e = .returned (.int .i64 E) ∧ Same w w' := by
  have hmx := h.row.max
  have hle := h.row.le
  unfold maxLen at hmx
  obtain ⟨b, o, x', rfl, hb, _, hx', hxm, r0, r1, r2, r3, r4⟩ := h.at_ hi
  obtain rfl : x = x' := Option.some.inj (hx.symm.trans hx')
  have HR := Lib.hid h
  have HL := Lib.hid h.len
  have HPro := Lib.hid (h.pro x hxm)
  have HF := Lib.hid (hf x hxm)
  have HId := Lib.hid (h.id x hxm)
  obtain ⟨id, type, src, dst, props, AP, nP, cP⟩ := x
  simp only at r0 r1 r2 r3 r4
  replace hE : (if id < 0 ∨ 2048 ≤ id then 62 else if notAfterI id (aheadK RL.id rs i) = true then 6 else if goodN type = false then 60 else if (f src != 0) = false ∨ (f dst != 0) = false then 65 else propsErr (props.map PR.dat)) = E := hE
  have HE := Lib.hid hE
  have hsA := (Upd.refl (fun _ => False) w).alloc (.cells #[.int .i64 id, .string type, .int .i64 src, .int .i64 dst, .slice AP nP cP] 47)
  have hbA := Blk.new w 47 #[.int .i64 id, .string type, .int .i64 src, .int .i64 dst, .slice AP nP cP]
  have HSA := Lib.hid hsA
  have HBA := Lib.hid hbA
  have HRA := Lib.hid (h.same hsA)
  have HMA := Lib.hid (hm.same hsA)
  clear h hf hx hx' hxm hE hsA hbA hm
  go_enter Tryz.func31, Tryz.ntmps31
  by_cases hid : id < 0 ∨ 2048 ≤ id
  · have hE := (if_pos hid).symm.trans HE.out
    subst hE
    by_cases h0 : id < 0
    · go_wp2
      go_ret
      exact ⟨rfl, HSA.out⟩
    · have h1 : 2048 ≤ id := by omega
      go_wp2
      go_ret
      exact ⟨rfl, HSA.out⟩
  · have h0 : ¬ id < 0 := by omega
    have h1 : ¬ 2048 ≤ id := by omega
    have HE2 := Lib.hid ((if_neg hid).symm.trans HE.out)
    clear hid HE
    go_upto_region 4 with fail
    obtain ⟨r, hr⟩ : ∃ r, notAfterI id (aheadK RL.id rs i) = r := ⟨_, rfl⟩
    have HRr := Lib.hid hr
    have HProA := Lib.hid (HPro.out.same HSA.out)
    clear hr r0 r1 r2 r3 r4 HR HPro
    generalize w.alloc (.cells #[.int .i64 id, .string type, .int .i64 src, .int .i64 dst, .slice AP nP cP] 47) = w5 at *
    generalize w.heap.size = g5 at *
    have p0 : w5.cell? ⟨g5, 0, none⟩ = some (.int .i64 id) := HBA.out.cell 0
    go_cut [21] from 21 to 34 (fun s21 wx => s21 = .bool r ∧ ∃ d, wx = w5.drewN d)
    case first =>
      by_cases hi0 : i = 0
      · have hgt : ¬ (0 : Int) < i := by omega
        have hgtN : ¬ 0 < i := by omega
        have hgd : decide (0 < i) = false := decide_eq_false hgtN
        have hr0 : r = false := by rw [← HRr.out, hi0]; rfl
        subst hr0
        clear hi0
        go_quiet (fail)
        go_wp2
        go_meet
        case rel => exact ⟨rfl, _, rfl⟩
      · obtain ⟨j, hj⟩ : ∃ j, i = j + 1 := ⟨i - 1, by omega⟩
        have hgt : (0 : Int) < i := by omega
        have hgtN : 0 < i := by omega
        have hjn : j < n := by omega
        have hwr : IntKind.i64.wrap ((i : Int) - 1) = (j : Int) := by rw [IntKind.wrap_i64]; omega
        obtain ⟨b2, o2, y, hA2, _, _, hy, _, q0, _⟩ := HRA.out.at_ hjn
        injection hA2 with hA2
        injection hA2 with e1 e2 _
        subst e1 e2
        obtain ⟨iy, hiy⟩ : ∃ iy, y.id = iy := ⟨_, rfl⟩
        rw [hiy] at q0
        have hyr : decide (id ≤ iy) = r := by
          rw [← HRr.out, hj]
          simp only [aheadK]
          rw [hy]
          simp only [Option.map_some, hiy]
          rfl
        clear hy hiy hj hi0
        go_quiet (fail)
        go_wp2
        go_meet
        case rel => exact ⟨by first | rfl | rw [hyr], _, rfl⟩
    case rest =>
      obtain ⟨rfl, d, rfl⟩ := hcut
      have hsd : Same w5 (w5.drewN d) := (Upd.refl _ w5).drewN d
      have HS6 := Lib.hid (HSA.out.same hsd)
      have HB6 := Lib.hid (HBA.out.same hsd)
      have HM6 := Lib.hid (HMA.out.same hsd)
      have HP6 := Lib.hid (HProA.out.same hsd)
      clear hsd p0 HSA HBA HRA HMA HProA
      generalize w5.drewN d = w6 at *
      rw [HRr.out] at HE2
      cases r with
      | true =>
        have hE6 : (6 : Int) = E := (if_pos (by trivial)).symm.trans HE2.out
        subst hE6
        go_wp2
        go_ret
        exact ⟨rfl, HS6.out⟩
      | false =>
        have HE3 := Lib.hid ((if_neg (by simp)).symm.trans HE2.out)
        have p1 : w6.cell? ⟨g5, 1, none⟩ = some (.string type) := HB6.out.cell 1
        go_wp2_with fail
        refine (goodName_spec type _).mono ?_
        rintro e w7 ⟨rfl, rfl⟩
        clear p1 HE2
        cases hg : goodN type with
        | false =>
          have hE60 : (60 : Int) = E := (if_pos hg).symm.trans HE3.out
          subst hE60
          go_wp2
          go_ret
          exact ⟨rfl, HS6.out⟩
        | true =>
          have HE4 := Lib.hid ((if_neg (by rw [hg]; simp)).symm.trans HE3.out)
          obtain ⟨lk1, -, -⟩ := HM6.out.fit HId.out.2.1
          obtain ⟨lk2, -, -⟩ := HM6.out.fit HId.out.2.2
          have p2 : w6.cell? ⟨g5, 2, none⟩ = some (.int .i64 src) := HB6.out.cell 2
          have p3 : w6.cell? ⟨g5, 3, none⟩ = some (.int .i64 dst) := HB6.out.cell 3
          have p4 : w6.cell? ⟨g5, 4, none⟩ = some (.slice AP nP cP) := HB6.out.cell 4
          obtain ⟨fs, hfs⟩ : ∃ y, f src = y := ⟨_, rfl⟩
          obtain ⟨fd, hfd⟩ : ∃ y, f dst = y := ⟨_, rfl⟩
          rw [hfs] at lk1
          rw [hfd] at lk2
          have hE4 := HE4.out
          rw [hfs, hfd] at hE4
          clear hg HE3 HE4 HM6 hfs hfd
          by_cases h65 : (fs != 0) = false ∨ (fd != 0) = false
          · rw [if_pos h65] at hE4
            subst hE4
            by_cases z1 : fs = 0
            · subst z1
              go_wp2
              go_ret
              exact ⟨rfl, HS6.out⟩
            · have z2 : fd = 0 := by
                rcases h65 with h | h
                · exact absurd h (by simpa using z1)
                · simpa using h
              subst z2
              have z1b : (fs == 0) = false := by rw [beq_eq_false_iff_ne]; exact z1
              go_wp2
              go_ret
              exact ⟨rfl, HS6.out⟩
          · rw [if_neg h65] at hE4
            have z1b : (fs == 0) = false := by
              cases h : (fs == 0) with
              | false => rfl
              | true => exact absurd (Or.inl (by simp only [bne, h]; rfl)) h65
            have z2b : (fd == 0) = false := by
              cases h : (fd == 0) with
              | false => rfl
              | true => exact absurd (Or.inr (by simp only [bne, h]; rfl)) h65
            clear h65
            go_wp2_with fail
            refine (checkProps_spec _ HP6.out HF.out hE4).mono ?_
            rintro e w8 ⟨rfl, hs8⟩
            have HS8 := Lib.hid (HS6.out.same hs8)
            clear hs8
            go_wp2
            go_ret
            exact ⟨rfl, HS8.out⟩
end Go.Proofs.YtlnademnfnhbpaaGreat
