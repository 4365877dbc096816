/- Layer 16: the reference's Copy: properties as new memory. -/
import Derived.Test.YtheinbigegobkaaOwnKV
import Derived.Test.YtheinbigegobkaaPut
import Derived.Test.YtheinbigegobkaaOn
import Derived.Deep.RegionHeldLaw
namespace Go.Proofs.Ytheinbigegobkaa
open Go.RowKit

theorem copy_own {F : Nat → Prop} {A1 A2 : Option Addr} {n1 c1 n2 c2 : Nat} {g : GVal} (w : World) (h : RdVal w F A1 n1 c1 A2 n2 c2 g) (hs1 : n1 * 8 ≤ 140737488355328) (hs2 : n2 * 16 ≤ 140737488355328) :
    Calls Try.prog 13 #[g.val A1 n1 c1 A2 n2 c2] w fun e w' => ∃ B1 d1 B2 d2, e = .returned (g.val B1 n1 d1 B2 n2 d2) ∧ Hid (w'.ownsRow w.heap.size 2 1 (.slice B1 n1 d1) n1 (g.nums.map (Value.int .i64))) ∧ Hid (w'.ownsRow w.heap.size 9 1 (.slice B2 n2 d2) n2 (g.texts.map Value.string)) ∧ Same w w' := by
  refine (copy_spec w h hs1 hs2).mono ?_
  rintro e w' ⟨v1, v2, rfl, h1, h2, hs⟩
  obtain ⟨B1, d1, rfl⟩ := own_form h1
  obtain ⟨B2, d2, rfl⟩ := own_form h2
  exact ⟨B1, d1, B2, d2, rfl, Lib.hid h1, Lib.hid h2, hs⟩

theorem KVAt.upd {w w' : World} {S : Nat → Prop} {b p : Nat} {k a0 a1 a2 a3 a4 : Value} (h : KVAt w b p k a0 a1 a2 a3 a4) (hb : b < w.heap.size) (hs : Upd S w w') (hn : ¬ S b) : KVAt w' b p k a0 a1 a2 a3 a4 := by
  obtain ⟨h0, h1, h2, h3, h4, h5⟩ := h
  exact ⟨(hs.cell (p := ⟨b, p, none⟩) hb hn).trans h0, (hs.cell (p := ⟨b, p + 1, none⟩) hb hn).trans h1, (hs.cell (p := ⟨b, p + 1 + 1, none⟩) hb hn).trans h2,
    (hs.cell (p := ⟨b, p + 1 + 2, none⟩) hb hn).trans h3, (hs.cell (p := ⟨b, p + 1 + 3, none⟩) hb hn).trans h4, (hs.cell (p := ⟨b, p + 1 + 4, none⟩) hb hn).trans h5⟩

/-- The lists in them are no longer than memory can hold. -/
def KVSmall (ls : List KV) : Prop := ∀ x ∈ ls, x.n1 * 8 ≤ 140737488355328 ∧ x.n2 * 16 ≤ 140737488355328

set_option maxHeartbeats 4000000 in
set_option maxRecDepth 100000 in
theorem copyKV_spec {F : Nat → Prop} {A : Option Addr} {n c : Nat} {ls : List KV} (w : World) (h : RdKV w F A n c ls) (hsm : KVSmall ls) (hn : n * 88 ≤ 140737488355328) :
    Calls Try.prog 15 #[.slice A n c] w fun e w' => ∃ v, e = .returned v ∧ (∃ l : List KV, l.map KV.dat = ls.map KV.dat ∧ OwnKV w' w.heap.size v l) ∧ Same w w' := by
  have HL := Lib.hid h.len
  have HR := Lib.hid h
  have HF := Lib.hid hsm
  clear h hsm
  go_enter Try.func15, Try.ntmps15
  go_wp2_with fail
  go_loopg [3, 4] n (fun g out i wr => ∃ (k : Nat) (l : List KV), k ≤ n ∧ g = n - k ∧ i = .int .i64 k ∧ l.length = k ∧ Hid (l.map KV.dat = (ls.take k).map KV.dat) ∧ Hid (Same w wr) ∧ Hid (OwnKV wr w.heap.size out l))
  case atStart => exact ⟨0, [], Nat.zero_le _, rfl, rfl, rfl, Lib.hid rfl, Lib.hid ((Upd.refl _ _).alloc _), Lib.hid ⟨World.ownsRow_made w #[] 0 (Nat.le_refl _) (Nat.zero_le _) rfl, by simp, by simp, by simp, by simp⟩⟩
  case round =>
    obtain ⟨k, l, hk, rfl, rfl, rfl, KD, KS, KO⟩ := hrel
    obtain ⟨k, hlk⟩ : ∃ k, l.length = k := ⟨_, rfl⟩
    have HLk := Lib.hid hlk
    rw [hlk] at KD hk ⊢
    clear hlk
    by_cases hlt : k < n
    · obtain ⟨b, o, x, rfl, hb, _, hx, hxm, r0, r1, r2, r3, r4, r5⟩ := (HR.out.same KS.out).at_ hlt
      have hv := (HR.out.same KS.out).val x hxm
      have HV := Lib.hid hv
      have HFx := Lib.hid (show x.g.Fits from ⟨hv.kind, hv.num, hv.range⟩)
      have HT := Lib.hid (HF.out x hxm)
      have HK := Lib.hid (HR.out.key x hxm)
      have HD := Lib.hid (dat_take_succ hx)
      clear hx hxm hv
      obtain ⟨Ao, co, rfl⟩ := own_form KO.out.row
      have HOw := Lib.hid KO.out.row
      rw [HLk.out] at HOw KO ⊢
      obtain ⟨kx, ⟨x0, x1, x2, x3, x4⟩, X1, a1, b1, X2, a2, b2⟩ := x
      simp only at r0 r1 r2 r3 r4 r5
      have hsd : Same wr wr.drew := (Upd.refl _ wr).drew
      have HVd := Lib.hid (HV.out.same hsd)
      have c1 := copy_own wr.drew HVd.out HT.out.1 HT.out.2
      simp only [GVal.val] at c1
      have hKd : Hid (KVAt wr.drew b (o + k * 6) (.int .i64 kx) (.int .i64 x0) (.int .i64 x1) (.string x2) (.slice X1 a1 b1) (.slice X2 a2 b2)) := Lib.hid (KVAt.same ⟨r0, r1, r2, r3, r4, r5⟩ hb hsd)
      have HOd := Lib.hid (own_same HOw.out hsd)
      have hbw := (HR.out.row.cell _ rfl).2.1
      simp only at hbw
      have hzd := KS.out.size
      clear hsd
      go_upto_region 5 with fail
      go_region_held_law (fun wx => KVAt wx b (o + k * 6) (.int .i64 kx) (.int .i64 x0) (.int .i64 x1) (.string x2) (.slice X1 a1 b1) (.slice X2 a2 b2)) (first | exact hKd.out | assumption | exact KVAt.same (by assumption) (by omega) ((Upd.refl (fun _ => False) _).alloc _)) (first
        | (go_at_call 13; refine c1.mono ?_; rintro e w2 ⟨Y1, d1, Y2, d2, rfl, HY1, HY2, hs2⟩; have hq := hKd.out.same hb hs2; have hz2 := hs2.size; simp only [World.size_drew] at hz2)
        | (refine step_app rfl (.tmp 12) (.tmp 25) _ _ rfl w.heap.size 47 6 88 _ Try.underlying30 info_kv rfl (.slice Ao k co) k _ rfl ((own_same HOd.out (by assumption)).alloc _) rfl (src_row Try.underlying30 (Row.kv _ ⟨kx, ⟨x0, x1, x2, x3, x4⟩, Y1, a1, d1, Y2, a2, d2⟩) (kv_one _)) (by unfold maxLen; omega) (by omega) (by simp; omega) ?_; intro v' w6 hg; have hq6 := (KVAt.same hq (by omega) ((Upd.refl (fun _ => False) w2).alloc _)).upd (by simp; omega) hg.upd fun hh => by have := (HOd.out.lt b hh).1; omega))
      have hsA := (Upd.refl (fun _ => False) w2).alloc (.cells (KV.cells ⟨kx, ⟨x0, x1, x2, x3, x4⟩, Y1, a1, d1, Y2, a2, d2⟩).toArray 47)
      have hO := (KO.out.same ((Upd.refl (fun _ => False) wr).drew.trans (hs2.trans hsA fun _ _ f => f) fun _ _ f => f)).snoc (x := ⟨kx, ⟨x0, x1, x2, x3, x4⟩, Y1, a1, d1, Y2, a2, d2⟩) (by rw [HLk.out]; exact hg) (own_base (own_same HY1.out hsA) (by simp only [World.size_drew]; omega)) (own_base (own_same HY2.out hsA) (by simp only [World.size_drew]; omega)) HFx.out HK.out
      have hS := (KS.out.same ((Upd.refl (fun _ => False) wr).drew.trans (hs2.trans hsA fun _ _ f => f) fun _ _ f => f)).trans hg.upd fun b hb hh => by have := (HOd.out.lt b hh).1; omega
      have HO6 := Lib.hid hO
      have HS6 := Lib.hid hS
      clear hO hS hg hsA
      go_wp2
      go_roundg (n - (k + 1))
      case measure => have := HLk.out; omega
      case rel =>
        exact ⟨k + 1, l ++ [⟨kx, ⟨x0, x1, x2, x3, x4⟩, Y1, a1, d1, Y2, a2, d2⟩], by omega, rfl, by go_num, by rw [List.length_append, HLk.out]; rfl, Lib.hid (by rw [List.map_append, KD.out, HD.out]; rfl), HS6, HO6⟩
    · obtain rfl : k = n := by omega
      rw [List.take_of_length_le (by rw [HL.out]; exact Nat.le_refl _)] at KD
      obtain ⟨Ao, co, rfl⟩ := own_form KO.out.row
      go_wp2
      go_ret
      exact ⟨_, rfl, ⟨l, KD.out, KO.out⟩, KS.out⟩
end Go.Proofs.Ytheinbigegobkaa
