/- The reference's CopyProps: properties as new memory. -/
import Derived.Test.YtlnademnfnhbpaaGreatOwnG
import Derived.Test.YtlnademnfnhbpaaGreatOn
import Derived.Deep.RegionHeldLaw
import Derived.Deep.LoopGhost
namespace Go.Proofs.YtlnademnfnhbpaaGreat
open Go.RowKit

theorem copy_own {F : Nat → Prop} {A1 A2 : Option Addr} {n1 c1 n2 c2 : Nat} {g : GVal} (w : World) (h : RdVal w F A1 n1 c1 A2 n2 c2 g) (hs1 : n1 * 8 ≤ 140737488355328) (hs2 : n2 * 16 ≤ 140737488355328) :
    Calls Tryz.prog 58 #[g.val A1 n1 c1 A2 n2 c2] w fun e w' => ∃ B1 d1 B2 d2, e = .returned (g.val B1 n1 d1 B2 n2 d2) ∧ Hid (w'.ownsRow w.heap.size 2 1 (.slice B1 n1 d1) n1 (g.nums.map (Value.int .i64))) ∧ Hid (w'.ownsRow w.heap.size 9 1 (.slice B2 n2 d2) n2 (g.texts.map Value.string)) ∧ Same w w' := by
  refine (copy_spec w h hs1 hs2).mono ?_
  rintro e w' ⟨v1, v2, rfl, h1, h2, hs⟩
  obtain ⟨B1, d1, rfl⟩ := own_form h1
  obtain ⟨B2, d2, rfl⟩ := own_form h2
  exact ⟨B1, d1, B2, d2, rfl, Lib.hid h1, Lib.hid h2, hs⟩

/-- Six cells, as a property is read. -/
abbrev PrAt (w : World) (b p : Nat) (k a0 a1 a2 a3 a4 : Value) : Prop :=
  w.cell? ⟨b, p, none⟩ = some k ∧ w.cell? ⟨b, p + 1, none⟩ = some a0 ∧ w.cell? ⟨b, p + 1 + 1, none⟩ = some a1 ∧ w.cell? ⟨b, p + 1 + 2, none⟩ = some a2 ∧ w.cell? ⟨b, p + 1 + 3, none⟩ = some a3 ∧ w.cell? ⟨b, p + 1 + 4, none⟩ = some a4
theorem PrAt.upd {w w' : World} {S : Nat → Prop} {b p : Nat} {k a0 a1 a2 a3 a4 : Value} (h : PrAt w b p k a0 a1 a2 a3 a4) (hb : b < w.heap.size) (hs : Upd S w w') (hn : ¬ S b) : PrAt w' b p k a0 a1 a2 a3 a4 := by
  obtain ⟨h0, h1, h2, h3, h4, h5⟩ := h
  exact ⟨(hs.cell (p := ⟨b, p, none⟩) hb hn).trans h0, (hs.cell (p := ⟨b, p + 1, none⟩) hb hn).trans h1, (hs.cell (p := ⟨b, p + 1 + 1, none⟩) hb hn).trans h2,
    (hs.cell (p := ⟨b, p + 1 + 2, none⟩) hb hn).trans h3, (hs.cell (p := ⟨b, p + 1 + 3, none⟩) hb hn).trans h4, (hs.cell (p := ⟨b, p + 1 + 4, none⟩) hb hn).trans h5⟩
theorem PrAt.same {w w' : World} {b p : Nat} {k a0 a1 a2 a3 a4 : Value} (h : PrAt w b p k a0 a1 a2 a3 a4) (hb : b < w.heap.size) (hs : Same w w') : PrAt w' b p k a0 a1 a2 a3 a4 := h.upd hb hs fun f => f

theorem pr_take_succ {ps : List PR} {k : Nat} {x : PR} (h : ps[k]? = some x) : (ps.take (k + 1)).map PR.dat = (ps.take k).map PR.dat ++ [x.dat] := by
  rw [List.take_add_one, h]
  simp

/-- The lists in them are no longer than memory can hold. -/
def PsSmall (n : Nat) (ps : List PR) : Prop := n * 96 ≤ 140737488351232 ∧ ∀ x ∈ ps, x.n1 * 8 ≤ 140737488351232 ∧ x.n2 * 16 ≤ 140737488351232

set_option maxHeartbeats 4000000 in
set_option maxRecDepth 100000 in
theorem copyProps_spec {F : Nat → Prop} {A : Option Addr} {n c : Nat} {ls : List PR} (w : World) (h : RdPs w F A n c ls) (hsm : PsSmall n ls) :
    Calls Tryz.prog 29 #[.slice A n c] w fun e w' => ∃ (A' : Option Addr) (c' : Nat) (l : List PR), e = .returned (.slice A' n c') ∧ Hid (l.map PR.dat = ls.map PR.dat) ∧ Hid (OwnPs w' w.heap.size (.slice A' n c') l) ∧ Same w w' := by
  have HL := Lib.hid h.len
  have HR := Lib.hid h
  have HF := Lib.hid hsm.2
  have hn := hsm.1
  clear h hsm
  go_enter Tryz.func29, Tryz.ntmps29
  go_wp2_with fail
  go_loopg [3, 4] n (fun g out i wr => ∃ (k : Nat) (l : List PR), k ≤ n ∧ g = n - k ∧ i = .int .i64 k ∧ l.length = k ∧ Hid (l.map PR.dat = (ls.take k).map PR.dat) ∧ Hid (Same w wr) ∧ Hid (OwnPs wr w.heap.size out l))
  case atStart => exact ⟨0, [], Nat.zero_le _, rfl, rfl, rfl, Lib.hid rfl, Lib.hid ((Upd.refl _ _).alloc _), Lib.hid ⟨World.ownsRow_made w #[] 0 (Nat.le_refl _) (Nat.zero_le _) rfl, by simp⟩⟩
  case round =>
    obtain ⟨k, l, hk, rfl, rfl, rfl, KD, KS, KO⟩ := hrel
    obtain ⟨k, hlk⟩ : ∃ k, l.length = k := ⟨_, rfl⟩
    have HLk := Lib.hid hlk
    rw [hlk] at KD hk ⊢
    clear hlk
    by_cases hlt : k < n
    · obtain ⟨b, o, x, rfl, hb, _, hx, hxm, r0, r1, r2, r3, r4, r5⟩ := (HR.out.same KS.out).at_ hlt
      have hv := (HR.out.same KS.out).val x hxm
      have HV := Lib.hid hv
      have HFx := Lib.hid (show x.g.Fits from ⟨hv.kind, hv.num, hv.range⟩)
      have HT := Lib.hid (HF.out x hxm)
      have HD := Lib.hid (pr_take_succ hx)
      clear hx hxm hv
      obtain ⟨Ao, co, rfl⟩ := own_form KO.out.row
      have HOw := Lib.hid KO.out.row
      rw [HLk.out] at HOw KO ⊢
      obtain ⟨kx, ⟨x0, x1, x2, x3, x4⟩, X1, a1, b1, X2, a2, b2⟩ := x
      simp only at r0 r1 r2 r3 r4 r5
      have hsd : Same wr wr.drew := (Upd.refl _ wr).drew
      have HVd := Lib.hid (HV.out.same hsd)
      have c1 := copy_own wr.drew HVd.out (by have := HT.out.1; omega) (by have := HT.out.2; omega)
      simp only [GVal.val] at c1
      have hKd : Hid (PrAt wr.drew b (o + k * 6) (.string kx) (.int .i64 x0) (.int .i64 x1) (.string x2) (.slice X1 a1 b1) (.slice X2 a2 b2)) := Lib.hid (PrAt.same ⟨r0, r1, r2, r3, r4, r5⟩ hb hsd)
      have HOd := Lib.hid (own_same HOw.out hsd)
      have hbw : b < w.heap.size := (HR.out.row.row (by omega)).cell _ rfl |>.2.1
      have hzd := KS.out.size
      clear hsd
      go_upto_region 5 with fail
      go_region_held_law (fun wx => PrAt wx b (o + k * 6) (.string kx) (.int .i64 x0) (.int .i64 x1) (.string x2) (.slice X1 a1 b1) (.slice X2 a2 b2)) (first | exact hKd.out | assumption | exact PrAt.same (by assumption) (by omega) ((Upd.refl (fun _ => False) _).alloc _)) (first
        | (go_at_call 58; refine c1.mono ?_; rintro e w2 ⟨Y1, d1, Y2, d2, rfl, HY1, HY2, hs2⟩; have hq := hKd.out.same hb hs2; have hz2 := hs2.size; simp only [World.size_drew] at hz2)
        | (refine step_app rfl (.tmp 12) (.tmp 25) _ _ rfl w.heap.size 45 6 96 _ Tryz.underlying38 info_Prop rfl (.slice Ao k co) k _ rfl ((own_same HOd.out (by assumption)).alloc _) rfl (src_row Tryz.underlying38 (Row.pr _ ⟨kx, ⟨x0, x1, x2, x3, x4⟩, Y1, a1, d1, Y2, a2, d2⟩) (PR.one _)) (by unfold maxLen; omega) (by omega) (by simp; omega) ?_; intro v' w6 hg; have hq6 := (PrAt.same hq (by omega) ((Upd.refl (fun _ => False) w2).alloc _)).upd (by simp; omega) hg.upd fun hh => by have := (HOd.out.lt b hh).1; omega))
      have hsA := (Upd.refl (fun _ => False) w2).alloc (.cells (PR.cells ⟨kx, ⟨x0, x1, x2, x3, x4⟩, Y1, a1, d1, Y2, a2, d2⟩).toArray 45)
      have hO := (KO.out.same ((Upd.refl (fun _ => False) wr).drew.trans (hs2.trans hsA fun _ _ f => f) fun _ _ f => f)).snoc (x := ⟨kx, ⟨x0, x1, x2, x3, x4⟩, Y1, a1, d1, Y2, a2, d2⟩) (by rw [HLk.out]; exact hg) ⟨own_base (own_same HY1.out hsA) (by simp only [World.size_drew]; omega), own_base (own_same HY2.out hsA) (by simp only [World.size_drew]; omega), HFx.out⟩
      have hS := (KS.out.same ((Upd.refl (fun _ => False) wr).drew.trans (hs2.trans hsA fun _ _ f => f) fun _ _ f => f)).trans hg.upd fun b hb hh => by have := (HOd.out.lt b hh).1; omega
      have HO6 := Lib.hid hO
      have HS6 := Lib.hid hS
      clear hO hS hg hsA
      go_wp2
      go_roundg (n - (k + 1))
      case measure => have := HLk.out; omega
      case rel =>
        exact ⟨k + 1, l ++ [⟨kx, ⟨x0, x1, x2, x3, x4⟩, Y1, a1, d1, Y2, a2, d2⟩], by omega, rfl, by go_num, by rw [List.length_append, HLk.out]; rfl, Lib.hid (by rw [List.map_append, KD.out, HD.out]; rfl), HS6, HO6⟩
    · obtain rfl : k = n := by omega
      rw [List.take_of_length_le (by rw [HL.out]; exact Nat.le_refl _)] at KD
      obtain ⟨Ao, co, rfl⟩ := own_form KO.out.row
      rw [HLk.out] at KO ⊢
      go_wp2
      go_ret
      exact ⟨_, _, l, rfl, KD, KO, KS.out⟩
end Go.Proofs.YtlnademnfnhbpaaGreat
