/- Package graph: Incident, Degree. -/
import Derived.Test.YtlnademnfnhbpaaGreatGsame
import Derived.Test.YtlnademnfnhbpaaGreatApp
namespace Go.Proofs.YtlnademnfnhbpaaGreat
open Go.RowKit

theorem info_int : (Tryz.prog.info? 3).map (fun i => (i.zero, i.size, i.bytes)) = some (some (.int .i64 0), 1, 8) := by kernel_rfl
theorem values_spec (w : World) (A : Option Addr) (n c : Nat) : Calls Tryz.prog 57 #[.slice A n c] w fun e w' => e = .returned (.func (.func 80) #[] #[.pointer (some ⟨w.heap.size, 0, none⟩)]) ∧ w' = w.alloc (.cells #[.slice A n c] 36) := by
  go_enter Tryz.func57, Tryz.ntmps57
  go_wp2
  go_ret
  exact ⟨rfl, rfl⟩
/-- Does a relationship touch a node? -/
def touches (node : Int) (r : GRel) : Bool := decide (r.src = node) || decide (r.dst = node)
def incP (g : GGraph) (node : Int) : List Int := (g.rels.filter (touches node)).map GRel.id

set_option maxHeartbeats 4000000 in
set_option maxRecDepth 100000 in
theorem incident_spec {F : Nat → Prop} (w : World) (g : GR) (h : RdG w F g) (hn : g.nR * 8 ≤ 140737488351232) (node : Int) {l : List Int} (hl : incP g.dat node = l) :
    Calls Tryz.prog 27 #[g.agg, .int .i64 node] w fun e w' => ∃ B A c, e = .returned (.func (.func 80) #[] #[.pointer (some ⟨B, 0, none⟩)]) ∧ w.heap.size ≤ B ∧ Blk w' B 36 #[.slice A l.length c] ∧ w'.ownsRow w.heap.size 3 1 (.slice A l.length c) l.length (l.map (Value.int .i64)) ∧ Same w w' := by
  obtain ⟨ns, AN, nN, cN, rs, AR, nR, cR⟩ := g
  simp only at hn
  replace hl : ((rs.map RL.dat).filter (touches node)).map GRel.id = l := hl
  have HLl := Lib.hid hl
  have hs0 := (Upd.refl (fun _ => False) w).alloc (.cells #[.slice AN nN cN, .slice AR nR cR] 27)
  have HR := Lib.hid (h.rels.same hs0)
  have HS0 := Lib.hid hs0
  have hmx := h.rels.row.max
  have hle := h.rels.row.le
  have HL := Lib.hid h.rels.len
  unfold maxLen at hmx
  clear h hl hs0
  go_enter Tryz.func27, Tryz.ntmps27
  go_wp2_with fail
  go_loopg [5, 11] nR (fun gh ids ix wr => ∃ (i : Nat) (m : List Int), nR - i = gh ∧ i ≤ nR ∧ ix = .int .i64 i ∧ m.length ≤ i ∧ Hid (m = (((rs.map RL.dat).take i).filter (touches node)).map GRel.id) ∧ Hid (Same (w.alloc (.cells #[.slice AN nN cN, .slice AR nR cR] 27)) wr) ∧ Hid (wr.ownsRow w.heap.size 3 1 ids m.length (m.map (Value.int .i64))) ∧ Hid (∀ b, ids.ownBlock = some b → w.heap.size + 1 ≤ b))
  case atStart => exact ⟨0, [], rfl, Nat.zero_le _, rfl, Nat.le_refl _, Lib.hid (by simp), Lib.hid (Upd.refl _ _), Lib.hid (World.ownsRow_nil _ _ _ _), Lib.hid (by intro b hb; simp [Value.ownBlock] at hb)⟩
  case round =>
    obtain ⟨i, m, rfl, hi, rfl, hm, KM, KS, KO, KB⟩ := hrel
    by_cases hlt : i < nR
    · have HRw := Lib.hid (HR.out.same KS.out)
      obtain ⟨b, o, x, rfl, hb, _, hx, hxm, r0, r1, r2, r3, r4⟩ := HRw.out.at_ hlt
      have hxd : (rs.map RL.dat)[i]? = some x.dat := by rw [List.getElem?_map, hx]; rfl
      have HT := Lib.hid (show (((rs.map RL.dat).take (i + 1)).filter (touches node)).map GRel.id = (((rs.map RL.dat).take i).filter (touches node)).map GRel.id ++ (if touches node x.dat = true then [x.id] else []) from by
        rw [List.take_add_one, hxd, Option.toList_some, List.filter_append, List.map_append]
        congr 1
        by_cases ht : touches node x.dat = true
        · rw [if_pos ht, List.filter_cons_of_pos ht]; rfl
        · rw [if_neg ht, List.filter_cons_of_neg ht]; rfl)
      obtain ⟨tt, htt⟩ : ∃ tt, touches node x.dat = tt := ⟨_, rfl⟩
      rw [htt] at HT
      have HTt := Lib.hid htt
      clear hx hxm hxd HRw htt
      obtain ⟨ix, tx, sx, dx, px, AP, nP, cP⟩ := x
      simp only at r0 r1 r2 r3 r4
      obtain ⟨A5, c5, rfl⟩ := own_form KO.out
      have hsA := (Upd.refl (fun _ => False) wr).alloc (.cells #[.int .i64 ix, .string tx, .int .i64 sx, .int .i64 dx, .slice AP nP cP] 47)
      have HSA := Lib.hid (KS.out.same hsA)
      have HOA := Lib.hid (own_same KO.out hsA)
      have HBA := Lib.hid (Blk.new wr 47 #[.int .i64 ix, .string tx, .int .i64 sx, .int .i64 dx, .slice AP nP cP])
      have hz := KS.out.size
      rw [World.size_alloc] at hz
      have hz2 := hsA.size
      clear hsA KS KO
      obtain ⟨b1, h1⟩ : ∃ b, (sx == node) = b := ⟨_, rfl⟩
      obtain ⟨b2, h2⟩ : ∃ b, (dx == node) = b := ⟨_, rfl⟩
      have hbb : (b1 || b2) = tt := by rw [← HTt.out, ← h1, ← h2]; rfl
      have HBB := Lib.hid hbb
      clear hbb HTt
      cases tt with
      | true =>
        have HT2 := Lib.hid (show (((rs.map RL.dat).take (i + 1)).filter (touches node)).map GRel.id = m ++ [ix] from by rw [HT.out, KM.out]; rfl)
        clear HT
        by_cases hb1 : b1 = true
        · subst hb1
          go_upto_region 6 with fail
          have p0 : (wr.alloc (.cells #[.int .i64 ix, .string tx, .int .i64 sx, .int .i64 dx, .slice AP nP cP] 47)).cell? ⟨wr.heap.size, 0, none⟩ = some (.int .i64 ix) := HBA.out.cell 0
          clear r0 r1 r2 r3 r4 HBA
          generalize wr.alloc (.cells #[.int .i64 ix, .string tx, .int .i64 sx, .int .i64 dx, .slice AP nP cP] 47) = w6 at *
          generalize wr.heap.size = g6 at *
          go_wp2_with (at_builtin; go_must (refine wpList_app rfl (.tmp 25) (.tmp 28) _ _ rfl w.heap.size 3 1 8 _ Tryz.underlying36 info_int rfl (.slice A5 m.length c5) m.length _ rfl (HOA.out.alloc _) rfl (src_row Tryz.underlying36 (Row.one _ _ _) (by simp [Value.oneCell'])) (by unfold maxLen; omega) (by omega) (by simp; omega) ?_); intro v7 w8 hg; have HG := Lib.hid hg; clear hg)
          go_roundg (nR - (i + 1))
          case measure => omega
          case rel =>
            have hS := (HSA.out.alloc (.cells #[.int .i64 ix] 3)).trans HG.out.upd fun b hb hv => by
              have := KB.out b hv
              rw [World.size_alloc] at hb
              omega
            refine ⟨i + 1, m ++ [ix], rfl, by omega, by go_num, by simp; omega, Lib.hid HT2.out.symm, Lib.hid hS, Lib.hid ?_, Lib.hid ?_⟩
            · have := HG.out.own
              simpa using this
            · intro b hv
              rcases HG.out.block with h | ⟨g', h, hle'⟩
              · rw [h] at hv; exact KB.out b hv
              · rw [h] at hv
                injection hv with e
                subst e
                rw [World.size_alloc] at hle'
                omega
        · obtain rfl : b1 = false := by simpa using hb1
          obtain rfl : b2 = true := HBB.out
          clear hb1
          go_upto_region 6 with fail
          have p0 : (wr.alloc (.cells #[.int .i64 ix, .string tx, .int .i64 sx, .int .i64 dx, .slice AP nP cP] 47)).cell? ⟨wr.heap.size, 0, none⟩ = some (.int .i64 ix) := HBA.out.cell 0
          clear r0 r1 r2 r3 r4 HBA
          generalize wr.alloc (.cells #[.int .i64 ix, .string tx, .int .i64 sx, .int .i64 dx, .slice AP nP cP] 47) = w6 at *
          generalize wr.heap.size = g6 at *
          go_wp2_with (at_builtin; go_must (refine wpList_app rfl (.tmp 25) (.tmp 28) _ _ rfl w.heap.size 3 1 8 _ Tryz.underlying36 info_int rfl (.slice A5 m.length c5) m.length _ rfl (HOA.out.alloc _) rfl (src_row Tryz.underlying36 (Row.one _ _ _) (by simp [Value.oneCell'])) (by unfold maxLen; omega) (by omega) (by simp; omega) ?_); intro v7 w8 hg; have HG := Lib.hid hg; clear hg)
          go_roundg (nR - (i + 1))
          case measure => omega
          case rel =>
            have hS := (HSA.out.alloc (.cells #[.int .i64 ix] 3)).trans HG.out.upd fun b hb hv => by
              have := KB.out b hv
              rw [World.size_alloc] at hb
              omega
            refine ⟨i + 1, m ++ [ix], rfl, by omega, by go_num, by simp; omega, Lib.hid HT2.out.symm, Lib.hid hS, Lib.hid ?_, Lib.hid ?_⟩
            · have := HG.out.own
              simpa using this
            · intro b hv
              rcases HG.out.block with h | ⟨g', h, hle'⟩
              · rw [h] at hv; exact KB.out b hv
              · rw [h] at hv
                injection hv with e
                subst e
                rw [World.size_alloc] at hle'
                omega
      | false =>
        obtain ⟨rfl, rfl⟩ : b1 = false ∧ b2 = false := by have := HBB.out; simpa using this
        have HT2 := Lib.hid (show (((rs.map RL.dat).take (i + 1)).filter (touches node)).map GRel.id = m from by rw [HT.out, KM.out]; simp)
        clear HT
        go_wp2
        go_roundg (nR - (i + 1))
        case measure => omega
        case rel => exact ⟨i + 1, m, rfl, by omega, by go_num, by omega, Lib.hid HT2.out.symm, HSA, HOA, KB⟩
    · have hml := KM.out
      rw [List.take_of_length_le (by rw [List.length_map, HL.out]; omega), HLl.out] at hml
      subst hml
      obtain ⟨A5, c5, rfl⟩ := own_form KO.out
      have hz := KS.out.size
      rw [World.size_alloc] at hz
      have hs9 := (Upd.refl (fun _ => False) wr).alloc (.cells #[.slice A5 m.length c5] 36)
      have hb9 := Blk.new wr 36 #[.slice A5 m.length c5]
      have ho9 := own_same KO.out hs9
      have hS9 := HS0.out.same (KS.out.same hs9)
      have HB9 := Lib.hid hb9
      have HO9 := Lib.hid ho9
      have HS9 := Lib.hid hS9
      clear hs9 hb9 ho9 hS9 KO KS KM
      go_wp2_with fail
      refine (values_spec _ _ _ _).mono ?_
      rintro e w9 ⟨rfl, rfl⟩
      go_wp2
      go_ret
      exact ⟨_, _, _, rfl, by omega, HB9.out, HO9.out, HS9.out⟩
end Go.Proofs.YtlnademnfnhbpaaGreat
