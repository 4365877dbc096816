/- The reference's Copy: a value as new memory. -/
import Derived.Test.YtlnademnfnhbpaaGreatRead
import Derived.Deep.RegionLaw
import Derived.Deep.DeepCutAuto
namespace Go.Proofs.YtlnademnfnhbpaaGreat
open Go.RowKit

theorem info_i64 : (Tryz.prog.info? 2).map (fun i => (i.zero, i.size, i.bytes)) = some (some (.int .i64 0), 1, 8) := by kernel_rfl
theorem info_string : (Tryz.prog.info? 9).map (fun i => (i.zero, i.size, i.bytes)) = some (some (.string ⟨#[]⟩), 1, 16) := by kernel_rfl

/-- A world that has grown since w: only blocks from B on have turned. -/
theorem upd_ge_trans {B : Nat} {w w1 w' : World} (h : Upd (fun b => B ≤ b) w w1) (h' : Upd (fun b => B ≤ b) w1 w') : Upd (fun b => B ≤ b) w w' := h.trans h' fun _ _ hb => hb

set_option maxHeartbeats 4000000 in
set_option maxRecDepth 100000 in
theorem copy_spec {F : Nat → Prop} {A1 A2 : Option Addr} {n1 c1 n2 c2 : Nat} {g : GVal} (w : World) (h : RdVal w F A1 n1 c1 A2 n2 c2 g) (hs1 : n1 * 8 ≤ 140737488355328) (hs2 : n2 * 16 ≤ 140737488355328) :
    Calls Tryz.prog 58 #[g.val A1 n1 c1 A2 n2 c2] w fun e w' => ∃ v1 v2, e = .returned (.agg #[.int .i64 g.kind, .int .i64 g.num, .string g.text, v1, v2]) ∧
      w'.ownsRow w.heap.size 2 1 v1 n1 (g.nums.map (Value.int .i64)) ∧ w'.ownsRow w.heap.size 9 1 v2 n2 (g.texts.map Value.string) ∧ Same w w' := by
  obtain ⟨kind, num, text, nums, texts⟩ := g
  simp only [GVal.val]
  have HR := Lib.hid h
  have HL1 := Lib.hid (show nums.length = n1 from h.len1)
  have HL2 := Lib.hid (show texts.length = n2 from h.len2)
  have hn1 : n1 ≤ 9223372036854775807 := by omega
  have hn2 : n2 ≤ 9223372036854775807 := by omega
  clear h
  go_enter Tryz.func58, Tryz.ntmps58
  go_wp2
  have hb0 := ((Blk.new w 43 #[.int .i64 kind, .int .i64 num, .string text, .slice A1 n1 c1, .slice A2 n2 c2]).alloc (.cells #[.int .i64 0, .int .i64 0, .string ⟨#[]⟩, .slice none 0 0, .slice none 0 0] 43)).alloc (.cells #[.int .i64 kind, .int .i64 num, .string text, .slice none 0 0, .slice none 0 0] 43)
  have hb1 := (Blk.new (w.alloc (.cells #[.int .i64 kind, .int .i64 num, .string text, .slice A1 n1 c1, .slice A2 n2 c2] 43)) 43 #[.int .i64 0, .int .i64 0, .string ⟨#[]⟩, .slice none 0 0, .slice none 0 0]).alloc (.cells #[.int .i64 kind, .int .i64 num, .string text, .slice none 0 0, .slice none 0 0] 43)
  have hb2 := Blk.new ((w.alloc (.cells #[.int .i64 kind, .int .i64 num, .string text, .slice A1 n1 c1, .slice A2 n2 c2] 43)).alloc (.cells #[.int .i64 0, .int .i64 0, .string ⟨#[]⟩, .slice none 0 0, .slice none 0 0] 43)) 43 #[.int .i64 kind, .int .i64 num, .string text, .slice none 0 0, .slice none 0 0]
  have hs0 := (((Upd.refl (fun _ => False) w).alloc (.cells #[.int .i64 kind, .int .i64 num, .string text, .slice A1 n1 c1, .slice A2 n2 c2] 43)).alloc (.cells #[.int .i64 0, .int .i64 0, .string ⟨#[]⟩, .slice none 0 0, .slice none 0 0] 43)).alloc (.cells #[.int .i64 kind, .int .i64 num, .string text, .slice none 0 0, .slice none 0 0] 43)
  simp only [World.size_alloc] at hb1 hb2
  revert hb0 hb1 hb2 hs0
  generalize ((w.alloc (.cells #[.int .i64 kind, .int .i64 num, .string text, .slice A1 n1 c1, .slice A2 n2 c2] 43)).alloc (.cells #[.int .i64 0, .int .i64 0, .string ⟨#[]⟩, .slice none 0 0, .slice none 0 0] 43)).alloc (.cells #[.int .i64 kind, .int .i64 num, .string text, .slice none 0 0, .slice none 0 0] 43) = W
  intro hb0 hs0 hb1 hb2
  go_loopw [4] (fun i wr => ∃ (k : Nat) (v1 : Value), k ≤ n1 ∧ i = .int .i64 k ∧ Blk wr w.heap.size 43 #[.int .i64 kind, .int .i64 num, .string text, .slice A1 n1 c1, .slice A2 n2 c2] ∧
      Blk wr (w.heap.size + 1) 43 #[.int .i64 0, .int .i64 0, .string ⟨#[]⟩, .slice none 0 0, .slice none 0 0] ∧ Blk wr (w.heap.size + 1 + 1) 43 #[.int .i64 kind, .int .i64 num, .string text, v1, .slice none 0 0] ∧
      wr.ownsRow w.heap.size 2 1 v1 k ((nums.take k).map (Value.int .i64)) ∧ Same w wr) (fun i _ => n1 - (intOf i).toNat)
  case atStart => exact ⟨0, _, Nat.zero_le _, rfl, hb0, hb1, hb2, World.ownsRow_nil _ _ _ _, hs0⟩
  case round =>
    obtain ⟨k, v1, hk, rfl, kb0, kb1, kb2, kown, ksame⟩ := hrel
    clear hb0 hb1 hb2 hs0
    have hlt0 := kb2.lt
    have e0 : wr.cell? ⟨w.heap.size, 3, none⟩ = some (.slice A1 n1 c1) := kb0.cell 3
    by_cases hlt : k < n1
    · have hrow := HR.out.nums.same ksame
      obtain ⟨b, o, u, rfl, hbl, _, hu, hc⟩ := hrow.at_ hlt
      have hkl : k < nums.length := by rw [HL1.out]; exact hlt
      simp only [List.getElem?_map, List.getElem?_eq_getElem hkl, Option.map_some, Option.some.injEq] at hu
      subst hu
      have HT := Lib.hid (show (nums.take (k + 1)).map (Value.int .i64) = (nums.take k).map (Value.int .i64) ++ [Value.int .i64 nums[k]] from by
        rw [List.take_succ_eq_append_getElem hkl, List.map_append]; rfl)
      clear hrow
      generalize nums[k] = x at *
      obtain ⟨A, m, c, rfl⟩ := own_slice kown
      have e2 : wr.cell? ⟨w.heap.size + 1 + 1, 3, none⟩ = some (.slice A m c) := kb2.cell 3
      have hne : (Value.slice A m c).ownBlock ≠ some (w.heap.size + 1 + 1) := kb2.ne_own kown (by decide)
      go_upto_region 5 with fail
      go_region_law ((refine step_app rfl (.tmp 21) (.tmp 27) _ _ rfl w.heap.size 2 1 8 _ Tryz.underlying41 info_i64 rfl (.slice A m c) k _ rfl (kown.alloc _).drew rfl (src_row Tryz.underlying41 (Row.one _ _ _).drew (by simp [Value.oneCell'])) (by unfold maxLen; omega) (by omega) (by have := ksame.size; simp; omega) ?_; intro v' w1 hg; obtain ⟨A', m', c', rfl⟩ := own_slice hg.own; have s1 : w1.cell? ⟨w.heap.size + 1 + 1, 3, none⟩ = some (.slice A m c) := (hg.blk ((kb2.alloc _).drew) hne).cell 3; have s2 : w1.frozen? ⟨w.heap.size + 1 + 1, 3, none⟩ = false := (hg.blk ((kb2.alloc _).drew) hne).frozen 3))
      all_goals
        obtain ⟨f1, f2, f3⟩ := field_app (i := 3) kb2 kown (by decide) (((Upd.refl _ wr).alloc _).drew) hg
        have HF1 := Lib.hid f1
        have HF2 := Lib.hid f2
        have HF3 := Lib.hid f3
        clear f1 f2 f3 hg
        go_wp2
        go_roundw
        case rel =>
          refine ⟨k + 1, _, by omega, by go_num, kb0.upd HF3.out ?_, kb1.upd HF3.out ?_, HF1.out, ?_, ksame.trans HF3.out ?_⟩
          · rintro (hh | hh)
            · omega
            · exact kb0.ne_own kown (by decide) hh
          · rintro (hh | hh)
            · omega
            · exact kb1.ne_own kown (by decide) hh
          · rw [HT.out]; exact HF2.out
          · rintro bb hbb (hh | hh)
            · omega
            · have := (kown.lt bb hh).1
              omega
        case measure => simp [intOf]; omega
    · obtain rfl : k = n1 := by omega
      rw [List.take_of_length_le (by rw [HL1.out]; exact Nat.le_refl _)] at kown
      have KO1 := Lib.hid kown
      clear kown
      go_wp2
      clear e0 hlt0
      go_loopw [5] (fun i wx => ∃ (j : Nat) (v2 : Value), j ≤ n2 ∧ i = .int .i64 j ∧ Blk wx w.heap.size 43 #[.int .i64 kind, .int .i64 num, .string text, .slice A1 k c1, .slice A2 n2 c2] ∧
          Blk wx (w.heap.size + 1) 43 #[.int .i64 0, .int .i64 0, .string ⟨#[]⟩, .slice none 0 0, .slice none 0 0] ∧ Blk wx (w.heap.size + 1 + 1) 43 #[.int .i64 kind, .int .i64 num, .string text, v1, v2] ∧
          wx.ownsRow w.heap.size 9 1 v2 j ((texts.take j).map Value.string) ∧ wx.ownsRow w.heap.size 2 1 v1 k (nums.map (Value.int .i64)) ∧ Same w wx) (fun i _ => n2 - (intOf i).toNat)
      case atStart => exact ⟨0, _, Nat.zero_le _, rfl, kb0, kb1, kb2, World.ownsRow_nil _ _ _ _, KO1.out, ksame⟩
      case round =>
        obtain ⟨j, v2, hj, rfl, jb0, jb1, jb2, jown, jown1, jsame⟩ := hrel
        clear kb0 kb1 kb2 ksame KO1
        have hlt0 := jb2.lt
        have e0 : wr.cell? ⟨w.heap.size, 4, none⟩ = some (.slice A2 n2 c2) := jb0.cell 4
        by_cases hlt : j < n2
        · have hrow := HR.out.texts.same jsame
          obtain ⟨b, o, u, rfl, hbl, _, hu, hc⟩ := hrow.at_ hlt
          have hkl : j < texts.length := by rw [HL2.out]; exact hlt
          simp only [List.getElem?_map, List.getElem?_eq_getElem hkl, Option.map_some, Option.some.injEq] at hu
          subst hu
          have HT := Lib.hid (show (texts.take (j + 1)).map Value.string = (texts.take j).map Value.string ++ [Value.string texts[j]] from by
            rw [List.take_succ_eq_append_getElem hkl, List.map_append]; rfl)
          clear hrow
          generalize texts[j] = x at *
          obtain ⟨A, m, c, rfl⟩ := own_slice jown
          have e2 : wr.cell? ⟨w.heap.size + 1 + 1, 4, none⟩ = some (.slice A m c) := jb2.cell 4
          have hne : (Value.slice A m c).ownBlock ≠ some (w.heap.size + 1 + 1) := jb2.ne_own jown (by decide)
          go_upto_region 9 with fail
          go_region_law ((refine step_app rfl (.tmp 38) (.tmp 44) _ _ rfl w.heap.size 9 1 16 _ Tryz.underlying37 info_string rfl (.slice A m c) j _ rfl (jown.alloc _).drew rfl (src_row Tryz.underlying37 (Row.one _ _ _).drew (by simp [Value.oneCell'])) (by unfold maxLen; omega) (by omega) (by have := jsame.size; simp; omega) ?_; intro v' w1 hg; obtain ⟨A', m', c', rfl⟩ := own_slice hg.own; have s1 : w1.cell? ⟨w.heap.size + 1 + 1, 4, none⟩ = some (.slice A m c) := (hg.blk ((jb2.alloc _).drew) hne).cell 4; have s2 : w1.frozen? ⟨w.heap.size + 1 + 1, 4, none⟩ = false := (hg.blk ((jb2.alloc _).drew) hne).frozen 4))
          all_goals
            obtain ⟨f1, f2, f3⟩ := field_app (i := 4) jb2 jown (by decide) (((Upd.refl _ wr).alloc _).drew) hg
            have HF1 := Lib.hid f1
            have HF2 := Lib.hid f2
            have HF3 := Lib.hid f3
            clear f1 f2 f3 hg
            go_wp2
            go_roundw
            case rel =>
              refine ⟨j + 1, _, by omega, by go_num, jb0.upd HF3.out ?_, jb1.upd HF3.out ?_, HF1.out, ?_, own_upd jown1 HF3.out ?_, jsame.trans HF3.out ?_⟩
              · rintro (hh | hh)
                · omega
                · exact jb0.ne_own jown (by decide) hh
              · rintro (hh | hh)
                · omega
                · exact jb1.ne_own jown (by decide) hh
              · rw [HT.out]; exact HF2.out
              · rintro gg hgg (hh | hh)
                · exact jb2.ne_own jown1 (by decide) (hh ▸ hgg)
                · exact own_ne_own jown1 jown (by decide) gg hgg hh
              · rintro bb hbb (hh | hh)
                · omega
                · have := (jown.lt bb hh).1
                  omega
            case measure => simp [intOf]; omega
        · obtain rfl : j = n2 := by omega
          rw [List.take_of_length_le (by rw [HL2.out]; exact Nat.le_refl _)] at jown
          obtain ⟨D1, p1, q1, rfl⟩ := own_slice jown1
          obtain ⟨D2, p2, q2, rfl⟩ := own_slice jown
          have JO2 := Lib.hid jown
          have JO1 := Lib.hid jown1
          have JN1 := Lib.hid (jb1.ne_own jown1 (by decide))
          have JN2 := Lib.hid (jb1.ne_own jown (by decide))
          clear jown jown1
          have d0 : wr.cell? ⟨w.heap.size + 1 + 1, 0, none⟩ = some (.int .i64 kind) := jb2.cell 0
          have d1 : wr.cell? ⟨w.heap.size + 1 + 1, 1, none⟩ = some (.int .i64 num) := jb2.cell 1
          have d2 : wr.cell? ⟨w.heap.size + 1 + 1, 2, none⟩ = some (.string text) := jb2.cell 2
          have d3 : wr.cell? ⟨w.heap.size + 1 + 1, 3, none⟩ = some (.slice D1 p1 q1) := jb2.cell 3
          have d4 : wr.cell? ⟨w.heap.size + 1 + 1, 4, none⟩ = some (.slice D2 p2 q2) := jb2.cell 4
          have b0 : wr.cell? ⟨w.heap.size + 1, 0, none⟩ = some (.int .i64 0) := jb1.cell 0
          have b1 : wr.cell? ⟨w.heap.size + 1, 1, none⟩ = some (.int .i64 0) := jb1.cell 1
          have b2 : wr.cell? ⟨w.heap.size + 1, 2, none⟩ = some (.string ⟨#[]⟩) := jb1.cell 2
          have b3 : wr.cell? ⟨w.heap.size + 1, 3, none⟩ = some (.slice none 0 0) := jb1.cell 3
          have b4 : wr.cell? ⟨w.heap.size + 1, 4, none⟩ = some (.slice none 0 0) := jb1.cell 4
          have z0 := jb1.frozen 0
          have z1 := jb1.frozen 1
          have z2 := jb1.frozen 2
          have z3 := jb1.frozen 3
          have z4 := jb1.frozen 4
          go_wp2
          have hB := ((((jb1.put 0 (.int .i64 kind)).put 1 (.int .i64 num)).put 2 (.string text)).put 3 (.slice D1 p1 q1)).put 4 (.slice D2 p2 q2)
          have r0 := hB.cell 0
          have r1 := hB.cell 1
          have r2 := hB.cell 2
          have r3 := hB.cell 3
          have r4 := hB.cell 4
          have hU := (((((Upd.refl (fun b => b = w.heap.size + 1) wr).put1 (i := 0) (.int .i64 kind)).put1 (i := 1) (.int .i64 num)).put1 (i := 2) (.string text)).put1 (i := 3) (.slice D1 p1 q1)).put1 (i := 4) (.slice D2 p2 q2)
          simp at r0 r1 r2 r3 r4
          refine bodyPost_ret (v := .agg #[.int .i64 kind, .int .i64 num, .string text, .slice D1 p1 q1, .slice D2 p2 q2]) (by simp [results, Tryz.results58, go_sem, r0, r1, r2, r3, r4]) rfl ⟨_, _, rfl, ?_, ?_, ?_⟩
          · exact own_upd JO1.out hU fun g hg hh => JN1.out (hh ▸ hg)
          · exact own_upd JO2.out hU fun g hg hh => JN2.out (hh ▸ hg)
          · exact jsame.trans hU fun b hb hh => by omega
end Go.Proofs.YtlnademnfnhbpaaGreat
