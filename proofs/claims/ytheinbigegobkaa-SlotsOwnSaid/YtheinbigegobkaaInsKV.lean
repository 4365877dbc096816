/- The library's insertion sort over properties, by key. -/
import Derived.Test.YtheinbigegobkaaSortKV
import Derived.IntWalk
import Derived.BigRegion
namespace Go.Proofs.Ytheinbigegobkaa
open Go.RowKit

theorem at6_keep {w wx : World} {g p q : Nat} {u0 u1 u2 u3 u4 u5 v0 v1 v2 v3 v4 v5 : Value} (h : Hid (At6 w g p u0 u1 u2 u3 u4 u5)) (h' : Hid (At6 w g q v0 v1 v2 v3 v4 v5)) (hg : g < w.heap.size) (hs : Same w wx) :
    Same w wx ∧ At6 wx g p u0 u1 u2 u3 u4 u5 ∧ At6 wx g q v0 v1 v2 v3 v4 v5 := by
  obtain ⟨a0, a1, a2, a3, a4, a5⟩ := h.out
  obtain ⟨b0, b1, b2, b3, b4, b5⟩ := h'.out
  have hk : ∀ o, wx.cell? ⟨g, o, none⟩ = w.cell? ⟨g, o, none⟩ := fun o => hs.cell (p := ⟨g, o, none⟩) hg fun f => f
  exact ⟨hs, ⟨(hk _).trans a0, (hk _).trans a1, (hk _).trans a2, (hk _).trans a3, (hk _).trans a4, (hk _).trans a5⟩, (hk _).trans b0, (hk _).trans b1, (hk _).trans b2, (hk _).trans b3, (hk _).trans b4, (hk _).trans b5⟩

theorem app_at {α : Type} (P1 Q : List α) (x : α) {j : Nat} (h : P1.length = j) : (P1 ++ x :: Q)[j]? = some x := by
  rw [List.getElem?_append_right (by omega), h, Nat.sub_self]
  rfl
theorem app_swap {α : Type} (P1 Q : List α) (x y : α) {j : Nat} (h : P1.length = j) : ((P1 ++ y :: x :: Q).set (j + 1) y).set j x = P1 ++ x :: y :: Q := by
  rw [List.set_append_right _ _ (by omega), List.set_append_right _ _ (by omega), h, Nat.sub_self, Nat.add_sub_cancel_left]
  rfl
theorem app_swap' {α : Type} (P1 Q : List α) (x y : α) {j : Nat} (h : P1.length = j) : ((P1 ++ y :: x :: Q).set j x).set (j + 1) y = P1 ++ x :: y :: Q := by
  rw [List.set_append_right _ _ (by omega), List.set_append_right _ _ (by omega), h, Nat.sub_self, Nat.add_sub_cancel_left]
  rfl

theorem range6 {w : World} {g p : Nat} {x : KV} (h : At6 w g p (.int .i64 x.key) (.int .i64 x.g.kind) (.int .i64 x.g.num) (.string x.g.text) (.slice x.A1 x.n1 x.c1) (.slice x.A2 x.n2 x.c2)) : w.rangeAt g p x.cells := by
  obtain ⟨a0, a1, a2, a3, a4, a5⟩ := h
  intro j v hv
  match j, hv with
  | 0, hv => cases hv; exact a0
  | 1, hv => cases hv; exact a1
  | 2, hv => cases hv; exact a2
  | 3, hv => cases hv; exact a3
  | 4, hv => cases hv; exact a4
  | 5, hv => cases hv; exact a5
  | _ + 6, hv => cases hv
theorem there6 {w : World} {g p : Nat} {u0 u1 u2 u3 u4 u5 : Value} (h : At6 w g p u0 u1 u2 u3 u4 u5) (hf : Free6 w g p) : w.there g p 6 := by
  obtain ⟨a0, a1, a2, a3, a4, a5⟩ := h
  obtain ⟨f0, f1, f2, f3, f4, f5⟩ := hf
  intro j hj
  match j, hj with
  | 0, _ => exact ⟨by rw [Nat.add_zero, a0]; rfl, f0⟩
  | 1, _ => exact ⟨by rw [a1]; rfl, f1⟩
  | 2, _ => exact ⟨by rw [a2]; rfl, f2⟩
  | 3, _ => exact ⟨by rw [a3]; rfl, f3⟩
  | 4, _ => exact ⟨by rw [a4]; rfl, f4⟩
  | 5, _ => exact ⟨by rw [a5]; rfl, f5⟩

/-- The exchange of two neighbours. -/
theorem kv_swap {w : World} {B n c g q j : Nat} {P Q : List KV} {x y : KV} (h : OwnKV w B (.slice (some ⟨g, 0, none⟩) n c) (P ++ y :: x :: Q)) (hl : (P ++ y :: x :: Q).length = n) (hq : P.length = q) (hj : q + 1 = j) :
    OwnKV (put6 (put6 w g (j * 6) (.int .i64 y.key) (.int .i64 y.g.kind) (.int .i64 y.g.num) (.string y.g.text) (.slice y.A1 y.n1 y.c1) (.slice y.A2 y.n2 y.c2)) g (q * 6) (.int .i64 x.key) (.int .i64 x.g.kind) (.int .i64 x.g.num) (.string x.g.text) (.slice x.A1 x.n1 x.c1) (.slice x.A2 x.n2 x.c2)).drew B (.slice (some ⟨g, 0, none⟩) n c) (P ++ x :: y :: Q) ∧
      Upd (fun b => b = g) w (put6 (put6 w g (j * 6) (.int .i64 y.key) (.int .i64 y.g.kind) (.int .i64 y.g.num) (.string y.g.text) (.slice y.A1 y.n1 y.c1) (.slice y.A2 y.n2 y.c2)) g (q * 6) (.int .i64 x.key) (.int .i64 x.g.kind) (.int .i64 x.g.num) (.string x.g.text) (.slice x.A1 x.n1 x.c1) (.slice x.A2 x.n2 x.c2)).drew := by
  have hU := ((Upd.refl (fun b => b = g) w).put6 (j * 6) (.int .i64 y.key) (.int .i64 y.g.kind) (.int .i64 y.g.num) (.string y.g.text) (.slice y.A1 y.n1 y.c1) (.slice y.A2 y.n2 y.c2)).put6 (q * 6) (.int .i64 x.key) (.int .i64 x.g.kind) (.int .i64 x.g.num) (.string x.g.text) (.slice x.A1 x.n1 x.c1) (.slice x.A2 x.n2 x.c2)
  have hrow := h.row
  rw [hl] at hrow
  have hn : P.length + (Q.length + 2) = n := by rw [← hl]; simp
  have h1 := kv_put hrow (i := j) (by omega) y
  have h2 := kv_put h1 (i := q) (by omega) x
  have hl2 : (P ++ x :: y :: Q).length = n := by rw [← hl]; simp
  rw [show ((P ++ y :: x :: Q).set j y).set q x = P ++ x :: y :: Q from by rw [← hj]; exact app_swap P Q x y hq] at h2
  generalize put6 (put6 w g (j * 6) (.int .i64 y.key) (.int .i64 y.g.kind) (.int .i64 y.g.num) (.string y.g.text) (.slice y.A1 y.n1 y.c1) (.slice y.A2 y.n2 y.c2)) g (q * 6) (.int .i64 x.key) (.int .i64 x.g.kind) (.int .i64 x.g.num) (.string x.g.text) (.slice x.A1 x.n1 x.c1) (.slice x.A2 x.n2 x.c2) = W at *
  have hdr := (Upd.refl (fun _ => False) W).drew
  obtain ⟨u1, u2⟩ := h.upd_row hU fun b hb => by rw [hb]; rfl
  have hm : ∀ z ∈ P ++ x :: y :: Q, z ∈ P ++ y :: x :: Q := fun z hz => by
    simp only [List.mem_append, List.mem_cons] at hz ⊢
    rcases hz with hz | hz | hz | hz
    · exact .inl hz
    · exact .inr (.inr (.inl hz))
    · exact .inr (.inl hz)
    · exact .inr (.inr (.inr hz))
  refine ⟨⟨?_, fun z hz => own_same (u1 z (hm z hz)) hdr, fun z hz => own_same (u2 z (hm z hz)) hdr, fun z hz => h.fits z (hm z hz), fun z hz => h.key z (hm z hz)⟩, hU.same hdr⟩
  rw [hl2]
  exact own_same h2 hdr

theorem sorted_one {l : List KV} : SortedK KV.key (l.take 1) := by
  cases l with
  | nil => exact List.Pairwise.nil
  | cons x l => exact List.pairwise_singleton _ _
/-- The place of x is found. -/
theorem ins_done {ls P1 P2 : List KV} {x : KV} {i : Nat} (hx : ls[i]? = some x) (hi : P1.length + P2.length = i) (hs : SortedK KV.key (P1 ++ P2)) (hm : SameK KV.key (P1 ++ P2) (ls.take i)) (h1 : ∀ y ∈ P1, y.key ≤ x.key) (h2 : ∀ y ∈ P2, x.key < y.key) :
    SortedK KV.key ((P1 ++ x :: (P2 ++ ls.drop (i + 1))).take (i + 1)) ∧ SameK KV.key ((P1 ++ x :: (P2 ++ ls.drop (i + 1))).take (i + 1)) (ls.take (i + 1)) ∧ (P1 ++ x :: (P2 ++ ls.drop (i + 1))).drop (i + 1) = ls.drop (i + 1) ∧ (P1 ++ x :: (P2 ++ ls.drop (i + 1))).length = ls.length := by
  have hl : (P1 ++ x :: P2).length = i + 1 := by simp; omega
  have he : P1 ++ x :: (P2 ++ ls.drop (i + 1)) = (P1 ++ x :: P2) ++ ls.drop (i + 1) := by simp
  have hil := (List.getElem?_eq_some_iff.1 hx).1
  rw [he, List.take_left' hl, List.drop_left' hl]
  refine ⟨hs.ins h1 h2, (SameK.back P1 P2 x h2).trans ?_, rfl, ?_⟩
  · rw [List.take_add_one, hx]
    exact hm.app (SameK.refl _)
  · rw [List.length_append, hl, List.length_drop]
    omega

theorem unpack1_on {c : Int} (k l : Int) (a0 a1 a2 a3 a4 b0 b1 b2 b3 b4 : Value) (w0 w : World) (hc : cmpI k l = c) (hs : Same w0 w) :
    Calls Try.prog 38 #[.agg #[.int .i64 k, a0, a1, a2, a3, a4], .agg #[.int .i64 l, b0, b1, b2, b3, b4]] w fun e w' => e = .returned (.int .i64 c) ∧ Same w0 w' := by
  subst hc
  exact (unpack1_spec _ _ _ _ _ _ _ _ _ _ _ _ w).mono fun _ _ ⟨h1, h2⟩ => ⟨h1, hs.same h2⟩

set_option maxHeartbeats 8000000 in
set_option maxRecDepth 100000 in
theorem insort_spec {B n c : Nat} {A : Option Addr} {ls : List KV} (w : World) (h : OwnKV w B (.slice A n c) ls) (hl : ls.length = n) (hn : n ≤ 1000000) :
    Calls Try.prog 81 #[.slice A n c, .int .i64 0, .int .i64 n, .func (.func 38) #[] #[]] w fun e w' => e = .returned (.tuple #[]) ∧
      ∃ l : List KV, OwnKV w' B (.slice A n c) l ∧ SortedK KV.key l ∧ SameK KV.key l ls ∧ l.length = n ∧ Upd (fun b => (Value.slice A n c).ownBlock = some b) w w' := by
  have HO := Lib.hid h
  have HL := Lib.hid hl
  clear h hl
  go_enter Try.func81, Try.ntmps81
  go_wp2_with fail
  go_loopg [8] (n - 1) (fun gh s8 wr => ∃ (i : Nat) (l : List KV), 1 ≤ i ∧ i ≤ n + 1 ∧ (i = 1 ∨ i ≤ n) ∧ gh = n - i ∧ s8 = .int .i64 i ∧ Hid (OwnKV wr B (.slice A n c) l) ∧ Hid (SortedK KV.key (l.take i)) ∧ Hid (SameK KV.key (l.take i) (ls.take i)) ∧ Hid (l.drop i = ls.drop i) ∧ Hid (l.length = n) ∧ Hid (Upd (fun b => (Value.slice A n c).ownBlock = some b) w wr))
  case atStart => exact ⟨1, ls, Nat.le_refl _, by omega, .inl rfl, rfl, rfl, HO, Lib.hid sorted_one, Lib.hid (SameK.refl _), Lib.hid rfl, HL, Lib.hid (Upd.refl _ _)⟩
  case round =>
    obtain ⟨i, l, hi1, hin1, hin, rfl, rfl, KO, KS, KM, KD, KL, KU⟩ := hrel
    by_cases hlt : i < n
    · obtain ⟨wo, rfl⟩ : ∃ wo : World, wo = wr := ⟨_, rfl⟩
      obtain ⟨x, hx⟩ : ∃ x, ls[i]? = some x := ⟨_, List.getElem?_eq_getElem (by rw [HL.out]; exact hlt)⟩
      have HX := Lib.hid hx
      clear hx
      go_wp2_with fail
      go_loopg [9] i (fun gh s9 wx => ∃ (j : Nat) (P1 P2 : List KV), j ≤ i ∧ j = gh ∧ s9 = .int .i64 j ∧ Hid (P1.length = j ∧ P1.length + P2.length = i) ∧ Hid (OwnKV wx B (.slice A n c) (P1 ++ x :: (P2 ++ ls.drop (i + 1)))) ∧ Hid (SortedK KV.key (P1 ++ P2)) ∧ Hid (∀ y ∈ P2, x.key < y.key) ∧ Hid (SameK KV.key (P1 ++ P2) (ls.take i)) ∧ Hid (Upd (fun b => (Value.slice A n c).ownBlock = some b) w wx))
      case atStart =>
        have hl0 : l.take i ++ x :: ([] ++ ls.drop (i + 1)) = l := by
          have h1 : ls.drop i = x :: ls.drop (i + 1) := by
            have hil := (List.getElem?_eq_some_iff.1 HX.out).1
            rw [List.drop_eq_getElem_cons hil, (List.getElem?_eq_some_iff.1 HX.out).2]
          rw [List.nil_append, ← h1, ← KD.out, List.take_append_drop]
        exact ⟨i, l.take i, [], Nat.le_refl _, rfl, rfl, Lib.hid ⟨by rw [List.length_take, KL.out]; omega, by rw [List.length_take, KL.out]; simp; omega⟩, Lib.hid (by rw [hl0]; exact KO.out), Lib.hid (by rw [List.append_nil]; exact KS.out), Lib.hid (by simp), Lib.hid (by rw [List.append_nil]; exact KM.out), KU⟩
      case round =>
        obtain ⟨j, P1, P2, hj, rfl, rfl, JL, JO, JS, JG, JM, JU⟩ := hrel
        by_cases hj0 : j = 0
        · subst hj0
          go_upto_region 4 with fail
          go_quiet (fail)
          go_wp2
          go_roundg (n - (i + 1))
          case measure => omega
          case rel =>
            have hP : P1 = [] := List.eq_nil_of_length_eq_zero JL.out.1
            subst hP
            obtain ⟨d1, d2, d3, d4⟩ := ins_done HX.out JL.out.2 JS.out JM.out (by simp) JG.out
            exact ⟨i + 1, _, by omega, by omega, .inr (by omega), rfl, by go_num, Lib.hid (JO.out.same (same_drewN _ _)), Lib.hid d1, Lib.hid d2, Lib.hid d3, Lib.hid (d4.trans HL.out), Lib.hid (JU.out.drewN _)⟩
        · obtain ⟨q, hq⟩ : ∃ q, q + 1 = j := ⟨j - 1, by omega⟩
          obtain ⟨P, y, rfl⟩ : ∃ P y, P1 = P ++ [y] := by
            have h1 := JL.out.1
            exact ⟨P1.dropLast, P1.getLast (by rintro rfl; simp at h1; omega), (List.dropLast_concat_getLast _).symm⟩
          have hPl : P.length = q := by have h1 := JL.out.1; simp at h1; omega
          have hrow := JO.out.row
          have hlen : ((P ++ [y]) ++ x :: (P2 ++ ls.drop (i + 1))).length = n := by
            have h1 := JL.out.2
            have h2 := HL.out
            simp only [List.length_append, List.length_cons, List.length_drop] at h1 ⊢
            omega
          rw [hlen] at hrow
          obtain ⟨g, x', rfl, hB, hg, hx', hAx, hFx⟩ := kv_cell hrow (i := j) (by omega)
          obtain ⟨_, y', hA, _, _, hy', hAy, hFy⟩ := kv_cell hrow (i := q) (by omega)
          injection hA with hA
          injection hA with e1 _ _
          subst e1
          rw [app_at _ _ _ JL.out.1] at hx'
          rw [List.append_assoc, List.singleton_append, app_at _ _ _ hPl] at hy'
          cases hx'
          cases hy'
          obtain ⟨kx, ⟨x0, x1, x2, x3, x4⟩, X1, a1, b1, X2, a2, b2⟩ := x
          obtain ⟨ky, ⟨y0, y1, y2, y3, y4⟩, Y1, d1, e1, Y2, d2, e2⟩ := y
          simp only at hAx hAy
          have HAx := Lib.hid hAx
          have HAy := Lib.hid hAy
          have HFx := Lib.hid hFx
          have HFy := Lib.hid hFy
          have HPl := Lib.hid hPl
          have HLen := Lib.hid hlen
          have hj0 : IntKind.i64.wrap ((j : Int) - 1) = (q : Int) := by rw [IntWalk.i64_in _ ⟨by omega, by omega⟩]; omega
          have hj1 : (0 : Int) ≤ (j : Int) := by omega
          have hj2 : (j : Int) < (n : Int) := by omega
          have hj3 : (0 : Int) ≤ (q : Int) := by omega
          have hj4 : (q : Int) < (n : Int) := by omega
          have hj5 : decide (0 < j) = true := decide_eq_true (by omega)
          have HQ := Lib.hid hq
          clear hAx hAy hFx hFy hPl hlen hrow hq
          by_cases hxy : kx < ky
          · have HC := Lib.hid (show cmpI kx ky = -1 from if_pos hxy)
            go_upto_region 4 with fail
            have h00 : Same wr wr.drew := (Upd.refl _ wr).drew
            go_region_held3 (fun wx => Same wr wx ∧ At6 wx g (j * 6) (.int .i64 kx) (.int .i64 x0) (.int .i64 x1) (.string x2) (.slice X1 a1 b1) (.slice X2 a2 b2) ∧ At6 wx g (q * 6) (.int .i64 ky) (.int .i64 y0) (.int .i64 y1) (.string y2) (.slice Y1 d1 e1) (.slice Y2 d2 e2)) (exact at6_keep HAx HAy hg (by assumption)) (first
              | (go_at_call 38; refine (unpack1_on _ _ _ _ _ _ _ _ _ _ _ _ wr _ HC.out (by assumption)).mono ?_; rintro e w' ⟨rfl, hs⟩))
            all_goals
              obtain ⟨_, hAx2, hAy2⟩ := at6_keep HAx HAy hg hs
              have hFx2 : Free6 w' g (j * 6) := by
                have hk : ∀ o, w'.frozen? ⟨g, o, none⟩ = wr.frozen? ⟨g, o, none⟩ := fun o => hs.frozen (p := ⟨g, o, none⟩) hg fun f => f
                obtain ⟨a0, a1, a2, a3, a4, a5⟩ := HFx.out
                exact ⟨(hk _).trans a0, (hk _).trans a1, (hk _).trans a2, (hk _).trans a3, (hk _).trans a4, (hk _).trans a5⟩
              have hFy2 : Free6 w' g (q * 6) := by
                have hk : ∀ o, w'.frozen? ⟨g, o, none⟩ = wr.frozen? ⟨g, o, none⟩ := fun o => hs.frozen (p := ⟨g, o, none⟩) hg fun f => f
                obtain ⟨a0, a1, a2, a3, a4, a5⟩ := HFy.out
                exact ⟨(hk _).trans a0, (hk _).trans a1, (hk _).trans a2, (hk _).trans a3, (hk _).trans a4, (hk _).trans a5⟩
              go_upto_region 6 with fail
              have hn1 : ¬ q * 6 = j * 6 + 1 := by have := HQ.out; omega
              have hm1 : ¬ q * 6 + 1 = j * 6 := by have := HQ.out; omega
              have hr1 : ¬ j * 6 = q * 6 + 1 := by have := HQ.out; omega
              have hsa : ¬ j * 6 + 1 = q * 6 := by have := HQ.out; omega
              have hn2 : ¬ q * 6 = j * 6 + 2 := by have := HQ.out; omega
              have hm2 : ¬ q * 6 + 2 = j * 6 := by have := HQ.out; omega
              have hr2 : ¬ j * 6 = q * 6 + 2 := by have := HQ.out; omega
              have hsb : ¬ j * 6 + 2 = q * 6 := by have := HQ.out; omega
              have hn3 : ¬ q * 6 = j * 6 + 3 := by have := HQ.out; omega
              have hm3 : ¬ q * 6 + 3 = j * 6 := by have := HQ.out; omega
              have hr3 : ¬ j * 6 = q * 6 + 3 := by have := HQ.out; omega
              have hsc : ¬ j * 6 + 3 = q * 6 := by have := HQ.out; omega
              have hn4 : ¬ q * 6 = j * 6 + 4 := by have := HQ.out; omega
              have hm4 : ¬ q * 6 + 4 = j * 6 := by have := HQ.out; omega
              have hr4 : ¬ j * 6 = q * 6 + 4 := by have := HQ.out; omega
              have hsd : ¬ j * 6 + 4 = q * 6 := by have := HQ.out; omega
              have hn5 : ¬ q * 6 = j * 6 + 5 := by have := HQ.out; omega
              have hm5 : ¬ q * 6 + 5 = j * 6 := by have := HQ.out; omega
              have hr5 : ¬ j * 6 = q * 6 + 5 := by have := HQ.out; omega
              have hse : ¬ j * 6 + 5 = q * 6 := by have := HQ.out; omega
              have hqj : ¬ q = j := by have := HQ.out; omega
              have hjq : ¬ j = q := by have := HQ.out; omega
              obtain ⟨f0, f1, f2, f3, f4, f5⟩ := hFx2
              obtain ⟨f6, f7, f8, f9, f10, f11⟩ := hFy2
              obtain ⟨c0, c1, c2, c3, c4, c5⟩ := hAx2
              obtain ⟨c6, c7, c8, c9, c10, c11⟩ := hAy2
              go_big_region
              all_goals
                clear f0 f1 f2 f3 f4 f5 f6 f7 f8 f9 f10 f11 c0 c1 c2 c3 c4 c5 c6 c7 c8 c9 c10 c11
                go_wp2
                go_roundg q
                case measure => have := HQ.out; omega
                case rel =>
                  have h0 : (P ++ [(⟨ky, ⟨y0, y1, y2, y3, y4⟩, Y1, d1, e1, Y2, d2, e2⟩ : KV)]) ++ (⟨kx, ⟨x0, x1, x2, x3, x4⟩, X1, a1, b1, X2, a2, b2⟩ : KV) :: (P2 ++ ls.drop (i + 1)) = P ++ ⟨ky, ⟨y0, y1, y2, y3, y4⟩, Y1, d1, e1, Y2, d2, e2⟩ :: ⟨kx, ⟨x0, x1, x2, x3, x4⟩, X1, a1, b1, X2, a2, b2⟩ :: (P2 ++ ls.drop (i + 1)) := by simp
                  have h1 := JO.out.same hs
                  have h2 := HLen.out
                  rw [h0] at h1 h2
                  obtain ⟨s1, s2⟩ := kv_swap h1 h2 HPl.out HQ.out
                  have h3 := JL.out.2
                  have h4 := JS.out
                  have h5 := JM.out
                  rw [List.append_assoc, List.singleton_append] at h4 h5
                  refine ⟨q, P, ⟨ky, ⟨y0, y1, y2, y3, y4⟩, Y1, d1, e1, Y2, d2, e2⟩ :: P2, by have := HQ.out; omega, rfl, rfl, Lib.hid ⟨HPl.out, by simp at h3 ⊢; omega⟩, Lib.hid s1, Lib.hid h4, Lib.hid ?_, Lib.hid h5, Lib.hid ((JU.out.same hs).trans s2 fun b _ hb => by rw [hb]; rfl)⟩
                  intro z hz
                  rcases List.mem_cons.1 hz with rfl | hz
                  · exact hxy
                  · exact JG.out z hz
          · obtain ⟨cc, hcc⟩ : ∃ cc, cmpI kx ky = cc := ⟨_, rfl⟩
            have hcc0 : 0 ≤ cc := by
              rw [← hcc]
              unfold cmpI
              rw [if_neg hxy]
              split <;> omega
            have HC := Lib.hid hcc
            have hcd : decide (cc < 0) = false := decide_eq_false (by omega)
            clear hcc
            go_upto_region 4 with fail
            have h00 : Same wr wr.drew := (Upd.refl _ wr).drew
            go_region_held3 (fun wx => Same wr wx ∧ At6 wx g (j * 6) (.int .i64 kx) (.int .i64 x0) (.int .i64 x1) (.string x2) (.slice X1 a1 b1) (.slice X2 a2 b2) ∧ At6 wx g (q * 6) (.int .i64 ky) (.int .i64 y0) (.int .i64 y1) (.string y2) (.slice Y1 d1 e1) (.slice Y2 d2 e2)) (exact at6_keep HAx HAy hg (by assumption)) (first
              | (go_at_call 38; refine (unpack1_on _ _ _ _ _ _ _ _ _ _ _ _ wr _ HC.out (by assumption)).mono ?_; rintro e w' ⟨rfl, hs⟩))
            all_goals
              go_wp2
              go_roundg (n - (i + 1))
              case measure => omega
              case rel =>
                have hle : ∀ z ∈ P ++ [(⟨ky, ⟨y0, y1, y2, y3, y4⟩, Y1, d1, e1, Y2, d2, e2⟩ : KV)], z.key ≤ kx := fun z hz => by
                  have h4 := JS.out
                  unfold SortedK at h4
                  rw [List.pairwise_append] at h4
                  have := SortedK.last_le (key := KV.key) h4.1 z hz
                  simp only at this
                  omega
                obtain ⟨d1, d2, d3, d4⟩ := ins_done HX.out JL.out.2 JS.out JM.out hle JG.out
                exact ⟨i + 1, _, by omega, by omega, .inr (by omega), rfl, by go_num, Lib.hid (JO.out.same hs), Lib.hid d1, Lib.hid d2, Lib.hid d3, Lib.hid (d4.trans HL.out), Lib.hid (JU.out.same hs)⟩
    · go_wp2
      go_end0
      refine ⟨rfl, l, KO.out, ?_, ?_, KL.out, KU.out⟩
      · have h1 := KS.out
        rwa [List.take_of_length_le (by rw [KL.out]; omega)] at h1
      · have h1 := KM.out
        rwa [List.take_of_length_le (by rw [KL.out]; omega), List.take_of_length_le (by rw [HL.out]; omega)] at h1
end Go.Proofs.Ytheinbigegobkaa
