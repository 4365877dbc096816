/- Are two lists of properties one? The reference's answer. -/
import Derived.Test.YtheinbigegobkaaKV
import Derived.Deep.QuietTactic
import Derived.BigQuiet
namespace Go.Proofs.Ytheinbigegobkaa
open Go.RowKit

theorem take_dat {ls ms : List KV} {k : Nat} {x y : KV} (h : (ls.take k).map KV.dat = (ms.take k).map KV.dat) (hx : ls[k]? = some x) (hy : ms[k]? = some y) (he : x.dat = y.dat) : (ls.take (k + 1)).map KV.dat = (ms.take (k + 1)).map KV.dat := by
  rw [List.take_add_one, List.take_add_one, hx, hy, List.map_append, List.map_append, h]
  simp [he]
theorem dat_at {ls ms : List KV} {k : Nat} {x y : KV} (h : ls.map KV.dat = ms.map KV.dat) (hx : ls[k]? = some x) (hy : ms[k]? = some y) : x.dat = y.dat := by
  have h1 := congrArg (fun l => l[k]?) h
  simp only [List.getElem?_map, hx, hy, Option.map_some, Option.some.injEq] at h1
  exact h1
theorem bool_not {r : Bool} {p : Prop} (h : r = true ↔ p) (hn : ¬ p) : r = false := by
  cases r with
  | false => rfl
  | true => exact absurd (h.1 rfl) hn

theorem kvsame_keep {w wx : World} {b p b' p' : Nat} {k a0 a1 a2 a3 a4 k' a0' a1' a2' a3' a4' : Value} (h : Hid (KVAt w b p k a0 a1 a2 a3 a4)) (h' : Hid (KVAt w b' p' k' a0' a1' a2' a3' a4')) (hb : b < w.heap.size) (hb' : b' < w.heap.size) (hs : Same w wx) :
    Same w wx ∧ KVAt wx b p k a0 a1 a2 a3 a4 ∧ KVAt wx b' p' k' a0' a1' a2' a3' a4' := ⟨hs, h.out.same hb hs, h'.out.same hb' hs⟩

set_option maxHeartbeats 4000000 in
set_option maxRecDepth 100000 in
theorem kvsame_spec {F F' : Nat → Prop} {A A' : Option Addr} {n c n' c' : Nat} {ls ms : List KV} (w : World) (h : RdKV w F A n c ls) (h' : RdKV w F' A' n' c' ms) {r : Bool} (hr : r = true ↔ ls.map KV.dat = ms.map KV.dat) :
    Calls Try.prog 19 #[.slice A n c, .slice A' n' c'] w fun e w' => e = .returned (.bool r) ∧ Same w w' := by
  have HQ := Lib.hid hr
  clear hr
  have HL := Lib.hid h.len
  have HL' := Lib.hid h'.len
  have hmx := h.row.max
  have hle := h.row.le
  have hmx' := h'.row.max
  have hle' := h'.row.le
  unfold maxLen at hmx hmx'
  have hn : n ≤ 9223372036854775807 := by omega
  have hn' : n' ≤ 9223372036854775807 := by omega
  clear hmx hmx'
  have HR := Lib.hid h
  have HR' := Lib.hid h'
  clear h h'
  by_cases hne : n = n'
  · subst hne
    go_enter Try.func19, Try.ntmps19
    go_wp2_with fail
    go_loopg [5] n (fun g i wr => ∃ k : Nat, k ≤ n ∧ g = n - k ∧ i = .int .i64 k ∧ Hid (Same w wr) ∧ Hid ((ls.take k).map KV.dat = (ms.take k).map KV.dat))
    case atStart => exact ⟨0, Nat.zero_le _, rfl, rfl, Lib.hid (Upd.refl _ _), Lib.hid rfl⟩
    case round =>
      obtain ⟨k, hk, rfl, rfl, KS, KE⟩ := hrel
      by_cases hlt : k < n
      · obtain ⟨b, o, x, rfl, hb, _, hx, hxm, hp⟩ := (HR.out.same KS.out).at_ hlt
        obtain ⟨b', o', y, rfl, hb', _, hy, hym, hq⟩ := (HR'.out.same KS.out).at_ hlt
        obtain ⟨kx, ⟨x0, x1, x2, x3, x4⟩, X1, a1, b1, X2, a2, b2⟩ := x
        obtain ⟨ky, ⟨y0, y1, y2, y3, y4⟩, Y1, d1, e1, Y2, d2, e2⟩ := y
        simp only at hp hq
        have HP := Lib.hid hp
        have HQ2 := Lib.hid hq
        clear hp hq
        have HX := Lib.hid hx
        have HY := Lib.hid hy
        have HXM := Lib.hid hxm
        have HYM := Lib.hid hym
        clear hx hy hxm hym
        by_cases hkey : kx = ky
        · subst hkey
          have hkk : ((kx : Int) != kx) = false := by simp
          have HS := Lib.hid (on_same fun wx hs => rsame_spec wx (((HR.out.same KS.out).val _ HXM.out).same hs |>.mono (F' := fun _ => True) fun _ _ _ => trivial) (((HR'.out.same KS.out).val _ HYM.out).same hs |>.mono (F' := fun _ => True) fun _ _ _ => trivial))
          simp only at HS
          obtain ⟨sb, hsb⟩ : ∃ sb, sameB ⟨x0, x1, x2, x3, x4⟩ ⟨y0, y1, y2, y3, y4⟩ = sb := ⟨_, rfl⟩
          rw [hsb] at HS
          have HSB := Lib.hid hsb
          clear hsb
          go_upto_region 6 with fail
          have h00 : Same wr wr.drew := (Upd.refl _ wr).drew
          go_region_held3 (fun wx => Same wr wx ∧ KVAt wx b (o + k * 6) (.int .i64 kx) (.int .i64 x0) (.int .i64 x1) (.string x2) (.slice X1 a1 b1) (.slice X2 a2 b2) ∧ KVAt wx b' (o' + k * 6) (.int .i64 kx) (.int .i64 y0) (.int .i64 y1) (.string y2) (.slice Y1 d1 e1) (.slice Y2 d2 e2)) (exact kvsame_keep HP HQ2 hb hb' (by assumption)) (first
            | (go_at_call 34; refine (HS.out _ (by assumption)).mono ?_; rintro e w' ⟨rfl, hs⟩))
          all_goals
            cases sb with
            | true =>
              go_wp2
              go_roundg (n - (k + 1))
              case measure => omega
              case rel => exact ⟨k + 1, by omega, rfl, by go_num, Lib.hid (KS.out.same (by assumption)), Lib.hid (take_dat KE.out HX.out HY.out (by
                have := (sameB_iff _ _).1 HSB.out
                simp only [KV.dat, this]))⟩
            | false =>
              go_wp2
              go_ret
              refine ⟨ret_bool ?_, KS.out.same (by assumption)⟩
              rw [bool_not HQ.out fun hh => by
                have h1 := dat_at hh HX.out HY.out
                simp only [KV.dat, GKV.mk.injEq, true_and] at h1
                have h2 := (sameB_iff _ _).2 h1
                rw [HSB.out] at h2
                cases h2]
        · have hkk : ((kx : Int) != ky) = true := by rw [bne_iff_ne]; exact hkey
          have HK := Lib.hid hkey
          clear hkey
          obtain ⟨p0, _, _, _, _, _⟩ := HP.out
          obtain ⟨q0, _, _, _, _, _⟩ := HQ2.out
          go_wp2_with fail
          go_quiet (fail)
          go_wp2
          go_ret
          refine ⟨ret_bool ?_, KS.out.same ((Upd.refl _ _).drewN _)⟩
          rw [bool_not HQ.out fun hh => by
            have h1 := dat_at hh HX.out HY.out
            simp only [KV.dat, GKV.mk.injEq] at h1
            exact HK.out h1.1]
      · obtain rfl : k = n := by omega
        go_wp2
        go_ret
        refine ⟨ret_bool ?_, KS.out⟩
        have h1 := KE.out
        rw [List.take_of_length_le (by rw [HL.out]; exact Nat.le_refl _), List.take_of_length_le (by rw [HL'.out]; exact Nat.le_refl _)] at h1
        rw [HQ.out.2 h1]
  · have hne' : ((n : Int) != (n' : Int)) = true := by rw [bne_iff_ne]; omega
    have HN := Lib.hid hne
    clear hne
    go_enter Try.func19, Try.ntmps19
    go_wp2
    go_ret
    refine ⟨ret_bool ?_, Upd.refl _ _⟩
    rw [bool_not HQ.out fun hh => by
      have h1 := congrArg List.length hh
      rw [List.length_map, List.length_map, HL.out, HL'.out] at h1
      exact HN.out h1]
end Go.Proofs.Ytheinbigegobkaa
