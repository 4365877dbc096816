/- The walks of SlotsUnpacks and SlotsBack. -/
import Derived.Test.YtheinbigegobkaaOpenV
import Derived.JoinedCond
import Derived.Deep.CondSized
import Derived.Test.YtheinbigegobkaaRUnp
namespace Go.Proofs.Ytheinbigegobkaa
open Go.ChangeShapes Go.WideShapes Go.ChangeAt Go.RowKit

theorem bulk_pos {H : Type} (d : DataW H) : 1 ≤ Rows.uptoBulk d := by
  cases d with
  | lit l => cases l <;> simp [Rows.uptoBulk]
  | _ => simp [Rows.uptoBulk]
theorem bulk_many {H : Type} (l : List (DataW H)) : l.length ≤ Rows.uptoBulkAll l := by
  induction l with
  | nil => simp [Rows.uptoBulkAll]
  | cons x l ih => have := bulk_pos x; simp only [Rows.uptoBulkAll, List.length_cons]; omega
/-- What is read of bytes is at least as great as they are many. -/
theorem bytes_bulk {H : Type} {enc : TypeId × Value → H} {W : World} {A : Option Addr} {n c : Nat} {d : DataW H} {p : List MemPlace} (h : DataW.Trod enc Try.prog W 0 (fun _ => true) true 32 (.slice A n c) d p) : n ≤ Rows.uptoBulk d := by
  obtain ⟨fuel, hf⟩ := h
  rcases open_ints Try.underlying32 Try.underlying5 cells_u8 hf with ⟨h1, h2⟩ | ⟨a, len, cap, zs, h1, _, hl, hm, hz, hx, hcell, hw⟩
  · injection h1 with h1 _
    injection h1 with _ h1 _
    omega
  · injection h1 with h1 _
    injection h1 with _ h1 _
    injection hx with hx _
    subst hx h1
    simp only [if_true] at hz
    have h2 := bulk_many (H := H) (lits .u8 (zs.take n))
    simp only [lits, List.length_map, List.length_take] at h2
    simp only [Rows.uptoBulk, lits]
    omega
theorem upto_bound {H : Type} {l : List (DataW H)} (h : Rows.uptoSmall H l = true) : Rows.uptoBulkAll l ≤ 1048576 := of_decide_eq_true h
end Go.Proofs.Ytheinbigegobkaa
namespace Go.Proofs.Ytheinbigegobkaa
open Go.RowKit

theorem unpack_facts {s o : List UInt8} {l : List GKV} {E : Int} (h : unpackP s o = (l, E)) : (E ≠ 0 → l = []) ∧ (E = 0 → packP l (s.length / 8) = (s, o, 0) ∧ ∀ p ∈ l, p.Good) := by
  unfold unpackP at h
  split at h
  · injection h with h1 h2
    subst h1 h2
    exact ⟨fun _ => rfl, fun h => by cases h⟩
  split at h
  · injection h with h1 h2
    subst h1 h2
    exact ⟨fun _ => rfl, fun h => by cases h⟩
  rename_i a ha
  split at h
  · injection h with h1 h2
    subst h1 h2
    exact ⟨fun _ => rfl, fun h => by cases h⟩
  rename_i b hb
  split at h
  · injection h with h1 h2
    subst h1 h2
    exact ⟨fun _ => rfl, fun h => by cases h⟩
  split at h
  · rename_i hp
    injection h with h1 h2
    subst h1 h2
    refine ⟨fun h => absurd rfl h, fun _ => ⟨hp, fun p hp => ?_⟩⟩
    rcases List.mem_append.1 (mem_byKey hp) with h | h
    · exact (inS_good _ _ _ ha).1 p h
    · exact (inO_good _ _ _ hb).1 p h
  · injection h with h1 h2
    subst h1 h2
    exact ⟨fun _ => rfl, fun h => by cases h⟩

set_option maxHeartbeats 4000000 in
set_option maxRecDepth 100000 in
theorem sback_walk {F F' : Nat → Prop} {A A' : Option Addr} {n c n' c' : Nat} {s o : List UInt8} (w : World) (h : Bytes w F A n c s) (h' : Bytes w F' A' n' c' o) (hn : n ≤ 1048576) (hn' : n' ≤ 1048576) :
    Calls Try.prog 8 #[.slice A n c, .slice A' n' c'] w fun e w' => e = .returned (.bool true) ∧ Same w w' := by
  obtain ⟨l, E, hP⟩ : ∃ l E, unpackP s o = (l, E) := ⟨_, _, rfl⟩
  obtain ⟨hf1, hf2⟩ := unpack_facts hP
  have HP := Lib.hid hP
  have HA := Lib.hid h
  have HB := Lib.hid h'
  have HL := Lib.hid h.len
  have HL' := Lib.hid h'.len
  have HF1 := Lib.hid hf1
  have HF2 := Lib.hid hf2
  clear h h' hP hf1 hf2
  go_enter Try.func8, Try.ntmps8
  go_wp2_with fail
  refine (speaks16_spec _).mono ?_
  rintro e w1 ⟨rfl, hs1⟩
  have HA1 := Lib.hid (HA.out.same hs1)
  have HB1 := Lib.hid (HB.out.same hs1)
  have HS1 := Lib.hid hs1
  clear hs1 HA HB
  go_wp2_with fail
  refine (clone16_spec _ HA1.out (by omega)).mono ?_
  rintro e w2 ⟨Ax, cx, rfl, HX, hs2⟩
  have HA2 := Lib.hid (HA1.out.same hs2)
  have HB2 := Lib.hid (HB1.out.same hs2)
  have HS2 := Lib.hid (HS1.out.same hs2)
  clear hs2 HA1 HB1 HS1
  go_wp2_with fail
  refine (clone16_spec _ HB2.out (by omega)).mono ?_
  rintro e w3 ⟨Ay, cy, rfl, HY, hs3⟩
  have HX3 := Lib.hid (show Bytes w3 _ Ax n cx s from Row.of_own (own_same HX.out hs3))
  have HY3 := Lib.hid (show Bytes w3 _ Ay n' cy o from Row.of_own HY.out)
  have HA3 := Lib.hid (HA2.out.same hs3)
  have HB3 := Lib.hid (HB2.out.same hs3)
  have HS3 := Lib.hid (HS2.out.same hs3)
  clear hs3 HA2 HB2 HS2 HX HY
  go_wp2_with fail
  refine (unpack_spec _ HX3.out HY3.out hn' HP.out).mono ?_
  rintro e w4 ⟨v, rfl, ⟨ls, hls, ho⟩, hs4⟩
  obtain ⟨Aq, cq, rfl⟩ := own_form ho.row
  have HQ := Lib.hid ho.rd'
  have HLq := Lib.hid hls
  have HA4 := Lib.hid (HA3.out.same hs4)
  have HB4 := Lib.hid (HB3.out.same hs4)
  have HS4 := Lib.hid (HS3.out.same hs4)
  clear hs4 HA3 HB3 HS3 ho hls HX3 HY3
  by_cases hE : E = 0
  · subst hE
    obtain ⟨hp, hg⟩ := HF2.out rfl
    have HPk := Lib.hid (show packP (ls.map KV.dat) ((n : Int) / 8) = (s, o, 0) by rw [HLq.out, ← HL.out]; exact hp)
    have HFit := Lib.hid (good_fit (ls := ls) (by rw [HLq.out]; exact hg))
    clear hp hg
    generalize ls.length = m at *
    have hq : IntKind.i64.wrap (Int.tdiv (n : Int) 8) = (n : Int) / 8 := by rw [IntKind.wrap_i64, Int.tdiv_eq_ediv_of_nonneg (Int.natCast_nonneg n)]; omega
    obtain ⟨k, hk⟩ : ∃ k : Int, (n : Int) / 8 = k := ⟨_, rfl⟩
    rw [hk] at HPk hq
    go_wp2_with fail
    refine (pack_on _ HQ.out HFit.out k (by omega) HPk.out).mono ?_
    rintro e w5 ⟨A1, c1, A2, c2, rfl, HB1, HB2, hs5⟩
    rw [HL.out] at HB1 ⊢
    rw [HL'.out] at HB2 ⊢
    have HA5 := Lib.hid (HA4.out.same hs5)
    have HB5 := Lib.hid (HB4.out.same hs5)
    have HS5 := Lib.hid (HS4.out.same hs5)
    clear hs5 HA4 HB4 HS4
    go_wp2_with fail
    refine (same16_spec _ HB1.out HA5.out (r := true) (by simp)).mono ?_
    rintro e w6 ⟨rfl, rfl⟩
    go_wp2_with fail
    refine (same16_spec _ HB2.out HB5.out (r := true) (by simp)).mono ?_
    rintro e w6 ⟨rfl, rfl⟩
    go_wp2
    go_ret
    exact ⟨rfl, HS5.out⟩
  · have hE2 : (E != 0) = true := by rw [bne_iff_ne]; exact hE
    have h0 : ls.length = 0 := by have h1 := HLq.out; rw [HF1.out hE] at h1; have := congrArg List.length h1; simpa using this
    rw [h0]
    go_wp2
    go_ret
    exact ⟨rfl, HS4.out⟩

set_option maxHeartbeats 4000000 in
set_option maxRecDepth 100000 in
theorem sunpacks_walk {F F' : Nat → Prop} {A A' : Option Addr} {n c n' c' : Nat} {s o : List UInt8} (w : World) (h : Bytes w F A n c s) (h' : Bytes w F' A' n' c' o) (hn : n ≤ 1048576) (hn' : n' ≤ 1048576) :
    Calls Try.prog 6 #[.slice A n c, .slice A' n' c'] w fun e w' => e = .returned (.bool true) ∧ Same w w' := by
  obtain ⟨l, E, hP⟩ : ∃ l E, unpackP s o = (l, E) := ⟨_, _, rfl⟩
  have HP := Lib.hid hP
  have HA := Lib.hid h
  have HB := Lib.hid h'
  clear h h' hP
  go_enter Try.func6, Try.ntmps6
  go_wp2_with fail
  refine (speaks16_spec _).mono ?_
  rintro e w1 ⟨rfl, hs1⟩
  have HA1 := Lib.hid (HA.out.same hs1)
  have HB1 := Lib.hid (HB.out.same hs1)
  have HS1 := Lib.hid hs1
  clear hs1 HA HB
  go_wp2_with fail
  refine (clone16_spec _ HA1.out (by omega)).mono ?_
  rintro e w2 ⟨Ax, cx, rfl, HX, hs2⟩
  have HA2 := Lib.hid (HA1.out.same hs2)
  have HB2 := Lib.hid (HB1.out.same hs2)
  have HS2 := Lib.hid (HS1.out.same hs2)
  clear hs2 HA1 HB1 HS1
  go_wp2_with fail
  refine (clone16_spec _ HB2.out (by omega)).mono ?_
  rintro e w3 ⟨Ay, cy, rfl, HY, hs3⟩
  have HX3 := Lib.hid (show Bytes w3 _ Ax n cx s from Row.of_own (own_same HX.out hs3))
  have HY3 := Lib.hid (show Bytes w3 _ Ay n' cy o from Row.of_own HY.out)
  have HA3 := Lib.hid (HA2.out.same hs3)
  have HB3 := Lib.hid (HB2.out.same hs3)
  have HS3 := Lib.hid (HS2.out.same hs3)
  clear hs3 HA2 HB2 HS2 HX HY
  go_wp2_with fail
  refine (unpack_spec _ HX3.out HY3.out hn' HP.out).mono ?_
  rintro e w4 ⟨v, rfl, ⟨ls, hls, ho⟩, hs4⟩
  obtain ⟨Aq, cq, rfl⟩ := own_form ho.row
  have HQ4 := Lib.hid ho.rd'
  have HLq := Lib.hid hls
  have HA4 := Lib.hid (HA3.out.same hs4)
  have HB4 := Lib.hid (HB3.out.same hs4)
  have HX4 := Lib.hid (HX3.out.same hs4)
  have HY4 := Lib.hid (HY3.out.same hs4)
  have HS4 := Lib.hid (HS3.out.same hs4)
  clear hs4 HA3 HB3 HS3 ho hls HX3 HY3
  go_wp2_with fail
  refine (runpack_spec _ HA4.out HB4.out hn' HP.out).mono ?_
  rintro e w5 ⟨v, rfl, ⟨ms, hms, ho⟩, hs5⟩
  obtain ⟨Ar, cr, rfl⟩ := own_form ho.row
  have HR5 := Lib.hid ho.rd'
  have HLr := Lib.hid hms
  have HQ5 := Lib.hid (HQ4.out.same hs5)
  have HA5 := Lib.hid (HA4.out.same hs5)
  have HB5 := Lib.hid (HB4.out.same hs5)
  have HX5 := Lib.hid (HX4.out.same hs5)
  have HY5 := Lib.hid (HY4.out.same hs5)
  have HS5 := Lib.hid (HS4.out.same hs5)
  clear hs5 HA4 HB4 HS4 ho hms HX4 HY4 HQ4
  generalize ls.length = m1 at *
  generalize ms.length = m2 at *
  go_wp2_with fail
  refine (kvsame_spec _ HQ5.out HR5.out (r := true) (by simp [HLq.out, HLr.out])).mono ?_
  rintro e w6 ⟨rfl, hs6⟩
  have HA6 := Lib.hid (HA5.out.same hs6)
  have HB6 := Lib.hid (HB5.out.same hs6)
  have HX6 := Lib.hid (HX5.out.same hs6)
  have HY6 := Lib.hid (HY5.out.same hs6)
  have HS6 := Lib.hid (HS5.out.same hs6)
  clear hs6 HA5 HB5 HS5 HX5 HY5 HQ5 HR5
  go_wp2_with fail
  refine (same16_spec _ HX6.out HA6.out (r := true) (by simp)).mono ?_
  rintro e w7 ⟨rfl, rfl⟩
  go_wp2_with fail
  refine (same16_spec _ HY6.out HB6.out (r := true) (by simp)).mono ?_
  rintro e w7 ⟨rfl, rfl⟩
  go_wp2
  go_ret
  exact ⟨rfl, HS6.out⟩
end Go.Proofs.Ytheinbigegobkaa
