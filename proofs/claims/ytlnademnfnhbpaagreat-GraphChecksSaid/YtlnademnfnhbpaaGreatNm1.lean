/- Package graph: Names of labels (two loops, a map), and of no known sort. -/
import Derived.Test.YtlnademnfnhbpaaGreatNm3
import Derived.Test.YtlnademnfnhbpaaGreatRNames
namespace Go.Proofs.YtlnademnfnhbpaaGreat
open Go.RowKit Go.Shelf Go.Maps

theorem labels_all (g : GR) : g.ns.flatMap ND.labels = allNames g.dat 1 := by
  unfold allNames
  rw [if_pos rfl]
  simp only [GR.dat, List.flatMap_map]
  rfl

set_option maxHeartbeats 4000000 in
set_option maxRecDepth 100000 in
theorem names1_spec {F : Nat → Prop} (w : World) (g : GR) (h : RdG w F g) (ht : GTexts g) (hT : (allNames g.dat 1).length ≤ 8796093022208) :
    Calls Tryz.prog 25 #[g.agg, .int .i64 1] w fun e w' => ∃ (v : Value) (l : List (List UInt8)), e = .returned v ∧ IsNames (allNames g.dat 1) l ∧ w'.ownsRow w.heap.size 9 1 v l.length (l.map strV) ∧ Same w w' := by
  rw [← labels_all] at hT ⊢
  obtain ⟨ns, AN, nN, cN, rs, AR, nR, cR⟩ := g
  have hmx := h.nodes.row.max
  have hle := h.nodes.row.le
  unfold maxLen at hmx
  have HL := Lib.hid h.nodes.len
  have HT := Lib.hid ht.label
  simp only at hmx hle HL HT hT ⊢
  have hs0 := (Upd.refl (fun _ => False) w).alloc (.cells #[.slice AN nN cN, .slice AR nR cR] 27)
  have hs1 := hs0.alloc (.map #[] 0)
  have hs2 := hs1.alloc (.cells #[.map (some (w.heap.size + 1))] 83)
  have hm0 := (MapS.made (w.alloc (.cells #[.slice AN nN cN, .slice AR nR cR] 27))).same ((Upd.refl (fun _ => False) _).alloc (.cells #[.map (some (w.heap.size + 1))] 83))
  have hb0 := ((Blk.new w 27 #[.slice AN nN cN, .slice AR nR cR]).alloc (.map #[] 0)).alloc (.cells #[.map (some (w.heap.size + 1))] 83)
  have hb5 := Blk.new ((w.alloc (.cells #[.slice AN nN cN, .slice AR nR cR] 27)).alloc (.map #[] 0)) 83 #[.map (some (w.heap.size + 1))]
  have HR1 := Lib.hid ((h.mono (F' := fun b => b < w.heap.size) fun b hb _ => hb).nodes.same hs2)
  simp only [World.size_alloc] at hm0 hb5
  have hmm := @run_makeMap Tryz.prog
  have HS1 := Lib.hid hs2
  have HM1 := Lib.hid hm0
  have HB0 := Lib.hid hb0
  have HB5 := Lib.hid hb5
  have HTt := Lib.hid hT
  clear h ht hs0 hs1 hs2 hm0 hb0 hb5 hT
  go_enter Tryz.func25, Tryz.ntmps25
  go_upto_region 2 with fail
  clear hmm
  generalize ((w.alloc (.cells #[.slice AN nN cN, .slice AR nR cR] 27)).alloc (.map #[] 0)).alloc (.cells #[.map (some (w.heap.size + 1))] 83) = w1 at *
  simp only at HR1
  have p1 : w1.cell? ⟨w.heap.size, 0, none⟩ = some (.slice AN nN cN) := HB0.out.cell 0
  go_wp2_with fail
  clear p1
  go_loopg [20] nN (fun gh ix wr => ∃ i : Nat, nN - i = gh ∧ i ≤ nN ∧ ix = .int .i64 i ∧ Hid (MapS wr (w.heap.size + 1) ((ns.take i).flatMap ND.labels).length ((ns.take i).flatMap ND.labels)) ∧ Hid (Upd (fun k => k = w.heap.size + 1) w1 wr))
  case atStart => exact ⟨0, rfl, Nat.zero_le _, rfl, HM1, Lib.hid (Upd.refl _ _)⟩
  case round =>
    obtain ⟨i, rfl, hi, rfl, KM, KU⟩ := hrel
    have HRw := Lib.hid (HR1.out.upd KU.out fun b hb hh => by omega)
    by_cases hlt : i < nN
    · obtain ⟨b, o, x, rfl, hb, _, hx, hxm, r0, r1, r2⟩ := HRw.out.at_ hlt
      have HTx := Lib.hid (HT.out x hxm)
      have HX1 := Lib.hid (flat_succ (f := ND.labels) hx)
      have HX2 := Lib.hid (flat_le (f := ND.labels) hx)
      have HXL := Lib.hid (HRw.out.lab x hxm)
      clear hx hxm HRw
      obtain ⟨ix, lb, AL, nL, cL, px, AP, nP, cP⟩ := x
      simp only at r0 r1 r2 HXL HX1 HX2 HTx
      have hsA := (Upd.refl (fun _ => False) wr).alloc (.cells #[.int .i64 ix, .slice AL nL cL, .slice AP nP cP] 40)
      have HBA := Lib.hid (Blk.new wr 40 #[.int .i64 ix, .slice AL nL cL, .slice AP nP cP])
      have HB5A := Lib.hid ((HB5.out.upd KU.out (by omega)).same hsA)
      have HMA := Lib.hid (KM.out.same hsA)
      have HUA := Lib.hid (KU.out.same hsA)
      have HXA := Lib.hid (HXL.out.upd hsA fun b hb hh => hh)
      have hmp := HXL.out.max
      have hlp := HXL.out.le
      unfold maxLen at hmp
      have HLn := Lib.hid (show lb.length = nL by have h9 := HXL.out.len; simpa using h9)
      clear hsA KM KU
      go_upto_region 7 with fail
      clear r0 r1 r2
      generalize wr.alloc (.cells #[.int .i64 ix, .slice AL nL cL, .slice AP nP cP] 40) = w6 at *
      generalize wr.heap.size = g6 at *
      have p7 : w6.cell? ⟨g6, 1, none⟩ = some (.slice AL nL cL) := HBA.out.cell 1
      go_wp2_with fail
      clear p7
      generalize hK : (List.flatMap ND.labels (List.take i ns)) = pre at *
      go_loopg [27] nL (fun gh jx wr => ∃ j : Nat, nL - j = gh ∧ j ≤ nL ∧ jx = .int .i64 j ∧ Hid (MapS wr (w.heap.size + 1) (pre ++ lb.take j).length (pre ++ lb.take j)) ∧ Hid (Upd (fun k => k = w.heap.size + 1) w1 wr) ∧ Hid (Upd (fun k => k = w.heap.size + 1) w6 wr))
      case atStart => exact ⟨0, rfl, Nat.zero_le _, rfl, Lib.hid (by simpa using HMA.out), HUA, Lib.hid (Upd.refl _ _)⟩
      case round =>
        obtain ⟨j, rfl, hj, rfl, JM, JU, JV⟩ := hrel
        by_cases hjl : j < nL
        · obtain ⟨b2, o2, u, rfl, hb2, _, hu, q0⟩ := (HXA.out.upd JV.out fun b hb hh => by omega).at_ hjl
          rw [List.getElem?_map] at hu
          obtain ⟨tx, htx, rfl⟩ := Option.map_eq_some_iff.1 hu
          have hjlb : j < lb.length := by rw [HLn.out]; exact hjl
          have htm : tx ∈ lb := List.mem_of_getElem? htx
          have htx2 := HTx.out tx htm
          have HTk := Lib.hid (show pre ++ lb.take (j + 1) = (pre ++ lb.take j) ++ [tx] from by rw [drop_eq_cons' htx, List.append_assoc])
          have p5 : wr.cell? ⟨w.heap.size + 1 + 1, 0, none⟩ = some (.map (some (w.heap.size + 1))) := (HB5A.out.upd JV.out (by omega)).cell 0
          obtain ⟨c, w7, lk, lput, hm7, hu7⟩ := JM.out.put (x := tx) (by
            have h1 := HX2.out
            have h2 := HTt.out
            rw [List.length_append, List.length_take]
            unfold maxLen
            omega) (by unfold maxLen; omega)
          obtain ⟨c1, hc1⟩ : ∃ c1, IntKind.i64.wrap (c + 1) = c1 := ⟨_, rfl⟩
          rw [hc1] at lput
          have HM7 := Lib.hid hm7
          have HU7 := Lib.hid (JU.out.trans hu7 fun _ _ h => h)
          have HV7 := Lib.hid (JV.out.trans hu7 fun _ _ h => h)
          clear hm7 hu7 JM JU JV hu htm
          go_wp2_with (at_mapUpdate; go_must (refine wpList_mapUpdate_run rfl _ _ _ _ rfl rfl rfl rfl lput ?_))
          go_roundg (nL - (j + 1))
          case measure => omega
          case rel => exact ⟨j + 1, rfl, by omega, by go_num, Lib.hid (by rw [HTk.out, List.length_append]; exact HM7.out), HU7, HV7⟩
        · have hjn : j = nL := by omega
          subst hjn
          rw [List.take_of_length_le (by rw [HLn.out]; exact Nat.le_refl _), ← HX1.out] at JM
          clear hjl
          go_wp2_with fail
          go_roundg (nN - (i + 1))
          case measure => omega
          case rel => exact ⟨i + 1, rfl, by omega, by go_num, JM, JU⟩
    · have hin : i = nN := by omega
      subst hin
      have hseen : (ns.take i).flatMap ND.labels = ns.flatMap ND.labels := by rw [List.take_of_length_le (by rw [HL.out]; exact Nat.le_refl _)]
      rw [hseen] at KM
      have HB5w := Lib.hid (HB5.out.upd KU.out (by omega))
      have p5 : wr.cell? ⟨w.heap.size + 1 + 1, 0, none⟩ = some (.map (some (w.heap.size + 1))) := HB5w.out.cell 0
      have HSw := Lib.hid (show Same w wr from HS1.out.trans KU.out fun b hb hh => by omega)
      have hzw := HSw.out.size
      clear hseen hlt
      go_wp2_with fail
      refine (keys_spec _ _).mono ?_
      rintro e w8 ⟨rfl, rfl⟩
      go_wp2_with fail
      refine (sorted_spec _ KM.out HTt.out).mono ?_
      rintro e w9 ⟨v, l, rfl, hnm, hrow, hs9⟩
      have H := Lib.hid (And.intro hnm (And.intro hrow hs9))
      clear hnm hrow hs9
      go_wp2
      go_ret
      exact ⟨v, l, rfl, H.out.1, own_base H.out.2.1 hzw, HSw.out.same H.out.2.2⟩

set_option maxHeartbeats 4000000 in
set_option maxRecDepth 100000 in
theorem namesO_spec {F : Nat → Prop} (w : World) (g : GR) (_h : RdG w F g) (k : Int) (h1 : k ≠ 1) (h2 : k ≠ 2) (h3 : k ≠ 3) :
    Calls Tryz.prog 25 #[g.agg, .int .i64 k] w fun e w' => ∃ (v : Value) (l : List (List UInt8)), e = .returned v ∧ IsNames (allNames g.dat k) l ∧ w'.ownsRow w.heap.size 9 1 v l.length (l.map strV) ∧ Same w w' := by
  have hall : allNames g.dat k = [] := by
    unfold allNames
    rw [if_neg h1, if_neg h2, if_neg h3]
  rw [hall]
  obtain ⟨ns, AN, nN, cN, rs, AR, nR, cR⟩ := g
  have hs0 := (Upd.refl (fun _ => False) w).alloc (.cells #[.slice AN nN cN, .slice AR nR cR] 27)
  have hs1 := hs0.alloc (.map #[] 0)
  have hs2 := hs1.alloc (.cells #[.map (some (w.heap.size + 1))] 83)
  have hm0 := (MapS.made (w.alloc (.cells #[.slice AN nN cN, .slice AR nR cR] 27))).same ((Upd.refl (fun _ => False) _).alloc (.cells #[.map (some (w.heap.size + 1))] 83))
  have hb5 := Blk.new ((w.alloc (.cells #[.slice AN nN cN, .slice AR nR cR] 27)).alloc (.map #[] 0)) 83 #[.map (some (w.heap.size + 1))]
  simp only [World.size_alloc] at hm0 hb5
  have hmm := @run_makeMap Tryz.prog
  have HS1 := Lib.hid hs2
  have HM1 := Lib.hid hm0
  have HB5 := Lib.hid hb5
  have b1 : (k == 1) = false := by simpa using h1
  have b2 : (k == 2) = false := by simpa using h2
  have b3 : (k == 3) = false := by simpa using h3
  clear hs0 hs1 hs2 hm0 hb5 hall h1 h2 h3 _h
  go_enter Tryz.func25, Tryz.ntmps25
  go_upto_region 2 with fail
  clear hmm
  generalize ((w.alloc (.cells #[.slice AN nN cN, .slice AR nR cR] 27)).alloc (.map #[] 0)).alloc (.cells #[.map (some (w.heap.size + 1))] 83) = w1 at *
  have p5 : w1.cell? ⟨w.heap.size + 1 + 1, 0, none⟩ = some (.map (some (w.heap.size + 1))) := HB5.out.cell 0
  go_wp2_with fail
  refine (keys_spec _ _).mono ?_
  rintro e w8 ⟨rfl, rfl⟩
  go_wp2_with fail
  refine (sorted_spec _ HM1.out (by omega)).mono ?_
  rintro e w9 ⟨v, l, rfl, hnm, hrow, hs9⟩
  have H := Lib.hid (And.intro hnm (And.intro hrow hs9))
  clear hnm hrow hs9
  go_wp2
  go_ret
  exact ⟨v, l, rfl, H.out.1, own_base H.out.2.1 HS1.out.size, HS1.out.same H.out.2.2⟩

/-- Names of every sort. -/
theorem names_spec {F : Nat → Prop} (w : World) (g : GR) (h : RdG w F g) (ht : GTexts g) (k : Int) (hT : (allNames g.dat k).length ≤ 8796093022208) :
    Calls Tryz.prog 25 #[g.agg, .int .i64 k] w fun e w' => ∃ (v : Value) (l : List (List UInt8)), e = .returned v ∧ IsNames (allNames g.dat k) l ∧ w'.ownsRow w.heap.size 9 1 v l.length (l.map strV) ∧ Same w w' := by
  by_cases h1 : k = 1
  · subst h1
    exact names1_spec w g h ht hT
  by_cases h2 : k = 2
  · subst h2
    refine names2_spec w g h ht ?_
    have h9 := h.rels.len
    unfold allNames at hT
    rw [if_neg (by decide), if_pos rfl, List.length_map] at hT
    simp only [GR.dat, List.length_map] at hT
    omega
  by_cases h3 : k = 3
  · subst h3
    refine names3_spec w g h hT fun x hx => ?_
    unfold allP at hx
    rcases List.mem_append.1 hx with hx | hx
    · obtain ⟨y, hy, hxy⟩ := List.mem_flatMap.1 hx
      exact ht.key1 y hy x hxy
    · obtain ⟨y, hy, hxy⟩ := List.mem_flatMap.1 hx
      exact ht.key2 y hy x hxy
  exact namesO_spec w g h k h1 h2 h3
end Go.Proofs.YtlnademnfnhbpaaGreat
