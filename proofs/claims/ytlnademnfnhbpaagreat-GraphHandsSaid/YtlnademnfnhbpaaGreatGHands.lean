/- GraphHands: for every input it returns true, and the input reads as it did. -/
import Derived.Test.YtlnademnfnhbpaaGreatGchk
import Derived.Test.YtlnademnfnhbpaaGreatInc
import Derived.Test.YtlnademnfnhbpaaGreatGChecks
import Derived.Test.YtlnademnfnhbpaaGreatDeg
namespace Go.Proofs.YtlnademnfnhbpaaGreat

def wantR (r : GRel) : Nat := if r.src = r.dst then 1 else 2
theorem nodes_inc : ∀ (prev : Option Int) (i : Nat) (l : List GNode), nodesErr prev i l = none → (l.map GNode.id).Pairwise (fun a b => a < b) ∧ ∀ y ∈ l.map GNode.id, ∀ q, prev = some q → q < y
  | _, _, [], _ => ⟨by simp, by simp⟩
  | prev, i, x :: l, h => by
    simp only [nodesErr] at h
    by_cases hz : nodeErr prev x = 0
    · rw [if_neg (by rw [hz]; simp)] at h
      obtain ⟨h2, h3⟩ := nodes_inc (some x.id) (i + 1) l h
      unfold nodeErr at hz
      by_cases ha : x.id < 0 ∨ 1024 ≤ x.id
      · rw [if_pos ha] at hz; cases hz
      rw [if_neg ha] at hz
      by_cases hb : notAfterI x.id prev = true
      · rw [if_pos hb] at hz; cases hz
      have hpv : ∀ q, prev = some q → q < x.id := fun q hq => by
        subst hq
        simpa [notAfterI] using hb
      rw [List.map_cons]
      refine ⟨List.pairwise_cons.2 ⟨fun y hy => h3 y hy x.id rfl, h2⟩, fun y hy q hq => ?_⟩
      rcases List.mem_cons.1 hy with rfl | hy
      · exact hpv q hq
      · have h5 := h3 y hy x.id rfl
        have h6 := hpv q hq
        omega
    · rw [if_pos hz] at h; cases h
theorem nodesErr_ne : ∀ (prev : Option Int) (i : Nat) (l : List GNode) (x : Int × Nat), nodesErr prev i l = some x → x.1 ≠ 0
  | _, _, [], _, h => by cases h
  | prev, i, y :: l, x, h => by
    simp only [nodesErr] at h
    by_cases hz : nodeErr prev y = 0
    · rw [if_neg (by rw [hz]; simp)] at h
      exact nodesErr_ne _ _ l x h
    · rw [if_pos hz] at h
      injection h with h
      subst h
      exact hz
theorem relsErr_ne (th : Int → Bool) : ∀ (prev : Option Int) (i : Nat) (l : List GRel) (x : Int × Nat), relsErr th prev i l = some x → x.1 ≠ 0
  | _, _, [], _, h => by cases h
  | prev, i, y :: l, x, h => by
    simp only [relsErr] at h
    by_cases hz : relErr th prev y = 0
    · rw [if_neg (by rw [hz]; simp)] at h
      exact relsErr_ne th _ _ l x h
    · rw [if_pos hz] at h
      injection h with h
      subst h
      exact hz
theorem headErr_ne {g : GGraph} {x : Int × Nat} (h : headErr g = some x) : x.1 ≠ 0 := by
  unfold headErr at h
  cases hn : nodesErr none 0 g.nodes with
  | some y =>
    rw [hn] at h
    injection h with h
    subst h
    exact nodesErr_ne _ _ _ _ hn
  | none =>
    rw [hn] at h
    obtain ⟨y, hy, he⟩ := Option.map_eq_some_iff.1 h
    subst he
    have h9 := relsErr_ne _ _ _ _ y hy
    exact h9

theorem ends_count {s d : Int} : ∀ {ids : List Int}, ids.Pairwise (fun a b => a < b) → s ∈ ids → d ∈ ids → (ids.filter fun y => decide (s = y) || decide (d = y)).length = if s = d then 1 else 2 := by
  have h1 : ∀ {t : Int} {ids : List Int}, ids.Pairwise (fun a b => a < b) → t ∉ ids ∨ t ∈ ids → (ids.filter fun y => decide (t = y)).length = if t ∈ ids then 1 else 0 := by
    intro t ids h _
    induction ids with
    | nil => simp
    | cons a l ih =>
      obtain ⟨h2, h3⟩ := List.pairwise_cons.1 h
      by_cases e : t = a
      · subst e
        have hn : t ∉ l := fun hm => by have := h2 t hm; omega
        have h4 := ih h3 (.inl hn)
        rw [if_neg hn] at h4
        rw [List.filter_cons_of_pos (by simp), List.length_cons, h4]
        simp
      · rw [List.filter_cons_of_neg (by simpa using e), ih h3 (Classical.em _).symm]
        simp [e]
  intro ids h hs hd
  by_cases e : s = d
  · subst e
    rw [if_pos rfl]
    have h4 := h1 h (.inr hs)
    rw [if_pos hs] at h4
    simpa using h4
  · rw [if_neg e]
    have h5 : ∀ l : List Int, (l.filter fun y => decide (s = y) || decide (d = y)).length = (l.filter fun y => decide (s = y)).length + (l.filter fun y => decide (d = y)).length := by
      intro l
      induction l with
      | nil => rfl
      | cons a l ih =>
        by_cases ea : s = a
        · have eb : ¬ d = a := fun h => e (ea.trans h.symm)
          rw [List.filter_cons_of_pos (by simp [ea]), List.filter_cons_of_pos (by simpa using ea), List.filter_cons_of_neg (by simpa using eb), List.length_cons, List.length_cons, ih]
          omega
        · by_cases eb : d = a
          · rw [List.filter_cons_of_pos (by simp [eb]), List.filter_cons_of_neg (by simpa using ea), List.filter_cons_of_pos (by simpa using eb), List.length_cons, List.length_cons, ih]
            omega
          · rw [List.filter_cons_of_neg (by simp [ea, eb]), List.filter_cons_of_neg (by simpa using ea), List.filter_cons_of_neg (by simpa using eb), ih]
    rw [h5, h1 h (.inr hs), h1 h (.inr hd), if_pos hs, if_pos hd]
theorem swap_sum (r : GRel) (rs : List GRel) : ∀ ids : List Int, (ids.map fun y => ((r :: rs).filter (touches y)).length).sum = (ids.map fun y => (rs.filter (touches y)).length).sum + (ids.filter fun y => decide (r.src = y) || decide (r.dst = y)).length
  | [] => by simp
  | y :: ids => by
    have ih := swap_sum r rs ids
    simp only [List.map_cons, List.sum_cons]
    rw [ih]
    by_cases ht : touches y r = true
    · rw [List.filter_cons_of_pos ht, List.filter_cons_of_pos (by simpa [touches] using ht), List.length_cons, List.length_cons]
      omega
    · rw [List.filter_cons_of_neg ht, List.filter_cons_of_neg (by simpa [touches] using ht)]
      omega
theorem hands_sum {ids : List Int} (h : ids.Pairwise (fun a b => a < b)) : ∀ rs : List GRel, (∀ r ∈ rs, r.src ∈ ids ∧ r.dst ∈ ids) → (ids.map fun y => (rs.filter (touches y)).length).sum = (rs.map wantR).sum
  | [], _ => by
    have : (ids.map fun y => (([] : List GRel).filter (touches y)).length) = ids.map fun _ => 0 := List.map_congr_left fun _ _ => rfl
    rw [this]
    clear this h
    induction ids with
    | nil => rfl
    | cons a l ih => simpa using ih
  | r :: rs, hr => by
    rw [swap_sum, hands_sum h rs fun x hx => hr x (by simp [hx]), ends_count h (hr r (by simp)).1 (hr r (by simp)).2, List.map_cons, List.sum_cons]
    unfold wantR
    omega
end Go.Proofs.YtlnademnfnhbpaaGreat
namespace Go.Proofs.YtlnademnfnhbpaaGreat
open Go.RowKit

theorem full_zero {g : GGraph} {tl : Int} {at_ : Nat} (h : fullErr g tl = (0, at_)) : headErr g = none := by
  unfold fullErr at h
  cases hh : headErr g with
  | none => rfl
  | some x =>
    rw [hh] at h
    have h1 := headErr_ne hh
    simp only at h
    rw [h] at h1
    exact absurd rfl h1
/-- In a graph whose heads are right the degrees come to what the relationships give. -/
theorem hands_eq {g : GGraph} (h : headErr g = none) : ((g.nodes.map GNode.id).map fun y => (incP g y).length).sum = (g.rels.map wantR).sum := by
  obtain ⟨h1, h2⟩ := head_split h
  have h3 := (nodes_inc _ _ _ h1).1
  obtain ⟨_, h4⟩ := rels_right _ _ _ _ h2
  have h5 := hands_sum h3 g.rels fun r hr => by
    obtain ⟨a, b, _⟩ := h4 r hr
    exact ⟨of_decide_eq_true a, of_decide_eq_true b⟩
  rw [← h5]
  congr 1
  exact List.map_congr_left fun y _ => by unfold incP; rw [List.length_map]
theorem inc_le (g : GGraph) (y : Int) : (incP g y).length ≤ g.rels.length := by
  unfold incP
  rw [List.length_map]
  exact List.length_filter_le _ _
theorem sum_succ {α : Type} (f : α → Nat) {l : List α} {i : Nat} {x : α} (h : l[i]? = some x) : ((l.take (i + 1)).map f).sum = ((l.take i).map f).sum + f x := by
  rw [List.take_add_one, h]
  simp

set_option maxHeartbeats 8000000 in
set_option maxRecDepth 100000 in
theorem ghands_walk {F : Nat → Prop} (w : World) {g : GR} (h : RdG w F g) (hz : GSized g) :
    Calls Tryz.prog 9 #[g.agg] w fun e w' => e = .returned (.bool true) ∧ Same w w' := by
  obtain ⟨m, hm⟩ := srt_all (allNames g.dat)
  obtain ⟨tl, htl⟩ : ∃ tl, tailErr (m 1).length (m 2).length (m 3).length (wsum (g.ns.flatMap ND.props) + wsum (g.rs.flatMap RL.props)) = tl := ⟨_, rfl⟩
  obtain ⟨⟨e, at_⟩, hE⟩ : ∃ x, fullErr g.dat tl = x := ⟨_, rfl⟩
  have hs2 := (Upd.refl (fun _ => False) w).alloc (.cells #[.slice g.AN g.nN g.cN, .slice g.AR g.nR g.cR] 27)
  have hb1 := Blk.new w 27 #[.slice g.AN g.nN g.cN, .slice g.AR g.nR g.cR]
  have H1 := Lib.hid h
  have Z1 := Lib.hid hz
  have HM := Lib.hid hm
  have HTl := Lib.hid htl
  have HE := Lib.hid hE
  clear h hz hm htl hE
  obtain ⟨ns, AN, nN, cN, rs, AR, nR, cR⟩ := g
  simp only at hs2 hb1
  go_enter Tryz.func9, Tryz.ntmps9
  go_wp2_with fail
  refine (gspeaks_true _).mono ?_
  rintro x w3 ⟨rfl, hs3⟩
  have S3 := Lib.hid (hs2.same hs3)
  have B1 := Lib.hid (hb1.same hs3)
  have R1 := Lib.hid (H1.out.same S3.out)
  have p20 : w3.cell? ⟨w.heap.size, 0, none⟩ = some (.slice AN nN cN) := B1.out.cell 0
  have p21 : w3.cell? ⟨w.heap.size, 1, none⟩ = some (.slice AR nR cR) := B1.out.cell 1
  clear hs2 hs3 hb1 H1
  go_wp2_with fail
  refine (rcheckG_spec w3 ⟨ns, AN, nN, cN, rs, AR, nR, cR⟩ R1.out Z1.out.fit HM.out (fun hh => head_names hh) (fun hh => head_weight hh) HTl.out HE.out).mono ?_
  rintro x w4 ⟨rfl, hs4⟩
  have S4 := Lib.hid (S3.out.same hs4)
  have B4 := Lib.hid (B1.out.same hs4)
  have R4 := Lib.hid (R1.out.same hs4)
  clear p20 p21 hs4
  by_cases he : e = 0
  · subst he
    have HH := Lib.hid (full_zero HE.out)
    have p20 : w4.cell? ⟨w.heap.size, 0, none⟩ = some (.slice AN nN cN) := B4.out.cell 0
    have p21 : w4.cell? ⟨w.heap.size, 1, none⟩ = some (.slice AR nR cR) := B4.out.cell 1
    go_wp2_with fail
    refine (copyG_on w4 _ ⟨ns, AN, nN, cN, rs, AR, nR, cR⟩ (Upd.refl _ _) R4.out Z1.out).mono ?_
    rintro x w5 ⟨⟨nsA, A1, n1, c1, rsA, A2, n2, c2⟩, rfl, DA, RA, hs5, _⟩
    have hs6 := (Upd.refl (fun _ => False) w5).alloc (.cells #[.slice A1 n1 c1, .slice A2 n2 c2] 27)
    have S6 := Lib.hid (S4.out.same (hs5.same hs6))
    have B6 := Lib.hid (B4.out.same (hs5.same hs6))
    have C6 := Lib.hid (Blk.new w5 27 #[.slice A1 n1 c1, .slice A2 n2 c2])
    have R6 := Lib.hid (R4.out.same (hs5.same hs6))
    have RA6 := Lib.hid (RA.out.same hs6)
    have hl := head_len HH.out
    simp only [GR.dat, List.length_map] at hl
    have hnN : nN ≤ 1024 := by have h1 : ns.length = nN := R4.out.nodes.len; omega
    have hnR : nR ≤ 2048 := by have h1 : rs.length = nR := R4.out.rels.len; omega
    have hlR : rs.length ≤ 2048 := hl.2
    have hn2 : n2 * 8 ≤ 140737488351232 := by
      have e1 := congrArg (fun x : GGraph => x.rels.length) DA.out
      simp only [GR.dat, List.length_map] at e1
      have e2 : rsA.length = n2 := RA.out.rels.len
      omega
    have HN2 := Lib.hid hn2
    have HLN := Lib.hid (show ns.length = nN from R4.out.nodes.len)
    have HLR := Lib.hid (show rs.length = nR from R4.out.rels.len)
    clear p20 p21 hs5 hs6 hl hn2
    have q20 : (w5.alloc (.cells #[.slice A1 n1 c1, .slice A2 n2 c2] 27)).cell? ⟨w.heap.size, 0, none⟩ = some (.slice AN nN cN) := B6.out.cell 0
    go_upto_region 7 with fail
    generalize w5.alloc (.cells #[.slice A1 n1 c1, .slice A2 n2 c2] 27) = w6 at *
    generalize w5.heap.size = g5 at *
    go_wp2_with fail
    clear q20
    go_loopg [6, 26] nN (fun gh s6 s26 wr => ∃ (i sm : Nat), nN - i = gh ∧ i ≤ nN ∧ sm ≤ 2048 * i ∧ s26 = .int .i64 i ∧ s6 = .int .i64 sm ∧ Hid (sm = ((((ns.map ND.dat).map GNode.id).take i).map fun y => (incP (GR.dat ⟨ns, AN, nN, cN, rs, AR, nR, cR⟩) y).length).sum) ∧ Hid (Same w6 wr))
    case atStart => exact ⟨0, 0, rfl, Nat.zero_le _, Nat.le_refl _, rfl, rfl, Lib.hid rfl, Lib.hid (Upd.refl _ _)⟩
    case round =>
      obtain ⟨i, sm, rfl, hi, hsm, rfl, rfl, KE, KS⟩ := hrel
      by_cases hlt : i < nN
      · obtain ⟨b, o, x, hA, hb, _, hx, hxm, r0, r1, r2⟩ := (R6.out.same KS.out).nodes.at_ hlt
        simp only at hA
        subst hA
        have hsu := sum_succ (fun y => (incP (GR.dat ⟨ns, some ⟨b, o, none⟩, nN, cN, rs, AR, nR, cR⟩) y).length) (l := (ns.map ND.dat).map GNode.id) (i := i) (x := x.id) (by rw [List.getElem?_map, List.getElem?_map, hx]; rfl)
        rw [← KE.out] at hsu
        obtain ⟨k, hk⟩ : ∃ k, (incP (GR.dat ⟨ns, some ⟨b, o, none⟩, nN, cN, rs, AR, nR, cR⟩) x.id).length = k := ⟨_, rfl⟩
        have hk2 : k ≤ 2048 := by
          rw [← hk]
          refine Nat.le_trans (inc_le _ _) ?_
          simp only [GR.dat, List.length_map]
          exact hlR
        have HSU : Hid (((((ns.map ND.dat).map GNode.id).take (i + 1)).map fun y => (incP (GR.dat ⟨ns, some ⟨b, o, none⟩, nN, cN, rs, AR, nR, cR⟩) y).length).sum = sm + k) := Lib.hid (by rw [hsu, ← hk])
        have HK : Hid ((incP (GR.dat ⟨nsA, A1, n1, c1, rsA, A2, n2, c2⟩) x.id).length = k) := Lib.hid (by rw [DA.out]; exact hk)
        have hsA := (Upd.refl (fun _ => False) wr).alloc (.cells #[.int .i64 x.id, .slice x.AL x.nL x.cL, .slice x.AP x.nP x.cP] 40)
        have SA := Lib.hid (KS.out.same hsA)
        have HB := Lib.hid (Blk.new wr 40 #[.int .i64 x.id, .slice x.AL x.nL x.cL, .slice x.AP x.nP x.cP])
        have RA7 := Lib.hid (RA6.out.same SA.out)
        have c70 := (C6.out.same SA.out).cell 0
        have c71 := (C6.out.same SA.out).cell 1
        have c72 : (wr.alloc (.cells #[.int .i64 x.id, .slice x.AL x.nL x.cL, .slice x.AP x.nP x.cP] 40)).cell? ⟨wr.heap.size, 0, none⟩ = some (.int .i64 x.id) := HB.out.cell 0
        clear hsA hx hxm hsu hk
        go_upto_region 11 with fail
        clear r0 r1 r2
        generalize wr.alloc (.cells #[.int .i64 x.id, .slice x.AL x.nL x.cL, .slice x.AP x.nP x.cP] 40) = w7 at *
        generalize wr.heap.size = g7 at *
        go_wp2_with fail
        refine (degree_spec w7 ⟨nsA, A1, n1, c1, rsA, A2, n2, c2⟩ RA7.out HN2.out x.id HK.out).mono ?_
        rintro y w8 ⟨rfl, hs8⟩
        have S8 := Lib.hid (SA.out.same hs8)
        clear hs8 c70 c71 c72
        go_wp2
        go_roundg (nN - (i + 1))
        case measure => omega
        case rel => exact ⟨i + 1, sm + k, rfl, by omega, by omega, by go_num, by go_num, Lib.hid HSU.out.symm, S8⟩
      · obtain rfl : i = nN := by omega
        obtain ⟨wo, rfl⟩ : ∃ wo : World, wo = wr := ⟨_, rfl⟩
        have BO := Lib.hid (B6.out.same KS.out)
        have RO := Lib.hid (R6.out.same KS.out)
        have SO := Lib.hid (S6.out.same KS.out)
        have q21 : wo.cell? ⟨w.heap.size, 1, none⟩ = some (.slice AR nR cR) := BO.out.cell 1
        have KE2 : Hid (sm = (((GR.dat ⟨ns, AN, i, cN, rs, AR, nR, cR⟩).nodes.map GNode.id).map fun y => (incP (GR.dat ⟨ns, AN, i, cN, rs, AR, nR, cR⟩) y).length).sum) := Lib.hid (by
          have h1 := KE.out
          rw [List.take_of_length_le (by rw [List.length_map, List.length_map, HLN.out]; exact Nat.le_refl _)] at h1
          exact h1)
        clear KE KS
        go_wp2_with fail
        clear q21
        go_loopg [7, 40] nR (fun gh s7 s40 wr => ∃ (j wm : Nat), nR - j = gh ∧ j ≤ nR ∧ wm ≤ 2 * j ∧ s40 = .int .i64 j ∧ s7 = .int .i64 wm ∧ Hid (wm = (((rs.map RL.dat).take j).map wantR).sum) ∧ Hid (Same wo wr))
        case atStart => exact ⟨0, 0, rfl, Nat.zero_le _, Nat.le_refl _, rfl, rfl, Lib.hid rfl, Lib.hid (Upd.refl _ _)⟩
        case round =>
          obtain ⟨j, wm, rfl, hj, hwm, rfl, rfl, KE, KS⟩ := hrel
          by_cases hlt : j < nR
          · obtain ⟨b, o, x, hA, hb, _, hx, hxm, r0, r1, r2, r3, r4⟩ := (RO.out.same KS.out).rels.at_ hlt
            simp only at hA
            subst hA
            have hsu := sum_succ wantR (l := rs.map RL.dat) (i := j) (x := x.dat) (by rw [List.getElem?_map, hx]; rfl)
            rw [← KE.out] at hsu
            obtain ⟨ix, tx, sx, dx, px, AP, nP, cP⟩ := x
            simp only at r0 r1 r2 r3 r4
            have hsA := (Upd.refl (fun _ => False) wr).alloc (.cells #[.int .i64 ix, .string tx, .int .i64 sx, .int .i64 dx, .slice AP nP cP] 47)
            have SA := Lib.hid (KS.out.same hsA)
            clear hsA hx hxm
            by_cases hsd : sx = dx
            · subst hsd
              have HSU : Hid ((((rs.map RL.dat).take (j + 1)).map wantR).sum = wm + 1) := Lib.hid (by rw [hsu]; unfold wantR RL.dat; simp)
              have hee : (sx == sx) = true := by simp
              have hw1 : IntKind.i64.wrap ((wm : Int) + 2) = (wm : Int) + 2 := by rw [IntWalk.i64_in _ ⟨by omega, by omega⟩]
              clear hsu
              go_wp2
              go_roundg (nR - (j + 1))
              case measure => omega
              case rel => exact ⟨j + 1, wm + 1, rfl, by omega, by omega, by go_num, by first | go_num | (congr 1; omega), Lib.hid HSU.out.symm, SA⟩
            · have HSU : Hid ((((rs.map RL.dat).take (j + 1)).map wantR).sum = wm + 2) := Lib.hid (by rw [hsu]; unfold wantR RL.dat; simp only; rw [if_neg hsd])
              have hee : (sx == dx) = false := by simpa using hsd
              clear hsu
              go_wp2
              go_roundg (nR - (j + 1))
              case measure => omega
              case rel => exact ⟨j + 1, wm + 2, rfl, by omega, by omega, by go_num, by go_num, Lib.hid HSU.out.symm, SA⟩
          · obtain rfl : j = nR := by omega
            have hsw : sm = wm := by
              have h1 := KE.out
              rw [List.take_of_length_le (by rw [List.length_map, HLR.out]; exact Nat.le_refl _)] at h1
              rw [h1, KE2.out]
              exact hands_eq HH.out
            subst hsw
            go_wp2
            go_ret
            exact ⟨by simp, SO.out.same KS.out⟩
  · have hne : (e != 0) = true := by simpa using he
    have hne2 : (e == 0) = false := by simpa using he
    go_wp2
    go_ret
    exact ⟨rfl, S4.out⟩
end Go.Proofs.YtlnademnfnhbpaaGreat
namespace Go.Proofs.YtlnademnfnhbpaaGreat
open Go.ChangeShapes Go.WideShapes Go.ChangeAt Go.RowKit

set_option maxRecDepth 100000 in
theorem graphHands_lifted (os : Os) (started : os.Started) (H : Type) (enc : TypeId × Value → H) :
    ReturnsInHanded {} Tryz.checked os 9 .any (Rows.graphHandsSpec.pre6 enc Tryz.prog Tryz.f9 Rows.graphHandsRow.domain false) (Rows.graphHandsSpec.post enc Tryz.prog Tryz.f9 false true false false) := by
  refine returnsInHanded_of_change_sized (C := Tryz.checked) ownTry started (by kernel_rfl) Tryz.func9
    (ChangeSpec.witness6 (enc := enc) (C := Tryz.checked) false ⟨#[], #[.agg #[.slice none 0 0, .slice none 0 0]], []⟩ 8 (by kernel_rfl) (by kernel_rfl) (by kernel_rfl) (by kernel_rfl)) ?_
  intro W base args ds gs before hval hW _ hsz _
  obtain ⟨p, hA⟩ := whole_args (P := Tryz.prog) (ts := [27]) (by rw [Tryz.params9]) hW
  obtain ⟨v0, d0, rfl, rfl, h0⟩ := trodAll_one hA
  obtain ⟨g0, rfl, hr0, z0⟩ := open_graph (hval 0 27 v0 (by rw [Tryz.params9]; rfl) rfl) h0 (weights_of hsz (j := 0) (by rw [Tryz.params9]; rfl) rfl)
  refine (ghands_walk W hr0 z0).mono ?_
  rintro e W' ⟨rfl, hs⟩
  exact ⟨_, rfl, law_post laidTry (ts := [27]) (by rw [Tryz.params9]) (tb := 4) (by kernel_rfl) Tryz.underlying4 (by kernel_rfl) rfl (by rintro rfl; exact ⟨rfl, rfl, rfl⟩) hW hs.below⟩

theorem graphHands_holds : Rows.GraphHandsSaid :=
  OpenClaim.holds_of_wide 9 Tryz.f9 rfl rfl rfl rfl rfl rfl rfl ⟨rfl, rfl, rfl, rfl, rfl⟩ rfl rfl rfl rfl rfl (by kernel_rfl) Tryz.func9 (by kernel_rfl)
    (of_decide_eq_true (by kernel_rfl)) (by unfold Func.isWrapper; first | (rw [if_pos (by decide +kernel)]; kernel_rfl) | (rw [if_neg (by decide +kernel)]; exact ⟨rfl, rfl⟩))
    (fun os started H enc _ => graphHands_lifted os started H enc)
end Go.Proofs.YtlnademnfnhbpaaGreat
