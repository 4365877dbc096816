/- The walks of SlotsPacks and SlotsThere. -/
import Derived.Test.YtheinbigegobkaaLaw16
import Derived.Test.YtheinbigegobkaaOpenKV
import Derived.Test.YtheinbigegobkaaBackL
import Derived.Test.YtheinbigegobkaaRPack
namespace Go.Proofs.Ytheinbigegobkaa
open Go.RowKit

theorem need_on {A1 A2 : Option Addr} {n1 c1 n2 c2 : Nat} {g : GVal} {N : Nat} (w0 w : World) (hN : needP g = N) (hs : Same w0 w) (h : RdVal w (fun _ => True) A1 n1 c1 A2 n2 c2 g) (hx : g.text.size ≤ 9223372036854775807) (hts : ∀ s ∈ g.texts, s.size ≤ 9223372036854775807) :
    Calls Try.prog 12 #[g.val A1 n1 c1 A2 n2 c2] w fun e w' => e = .returned (.int .i64 N) ∧ Same w w' ∧ Same w0 w' :=
  (need_spec w h hx hts hN).mono fun _ _ ⟨h1, h2⟩ => ⟨h1, h2, hs.same h2⟩
theorem rneed_on {F : Nat → Prop} {A1 A2 : Option Addr} {n1 c1 n2 c2 : Nat} {g : GVal} {N : Nat} (w0 w : World) (hN : needP g = N) (hs : Same w0 w) (h : RdVal w0 F A1 n1 c1 A2 n2 c2 g) (hx : g.text.size ≤ 9223372036854775807) (hts : ∀ s ∈ g.texts, s.size ≤ 9223372036854775807) :
    Calls Try.prog 14 #[g.val A1 n1 c1 A2 n2 c2] w fun e w' => e = .returned (.int .i64 N) ∧ Same w w' ∧ Same w0 w' :=
  (rneed_spec w (h.same hs) hx hts hN).mono fun _ _ ⟨h1, h2⟩ => ⟨h1, h2, hs.same h2⟩

/-- One box of five cells, in every world that is as w0 was. -/
abbrev Keep1 (w0 : World) (g1 : Nat) (a0 a1 a2 a3 a4 : Value) (wx : World) : Prop :=
  Same w0 wx ∧ (wx.cell? ⟨g1, 0, none⟩ = some a0 ∧ wx.cell? ⟨g1, 1, none⟩ = some a1 ∧ wx.cell? ⟨g1, 2, none⟩ = some a2 ∧ wx.cell? ⟨g1, 3, none⟩ = some a3 ∧ wx.cell? ⟨g1, 4, none⟩ = some a4)
theorem keep1 {w0 wx : World} {g1 : Nat} {t1 : TypeId} {a0 a1 a2 a3 a4 : Value} (hb1 : Hid (Blk w0 g1 t1 #[a0, a1, a2, a3, a4])) (h : Same w0 wx) : Keep1 w0 g1 a0 a1 a2 a3 a4 wx := ⟨h, (hb1.out.same h).five⟩

set_option maxHeartbeats 8000000 in
set_option maxRecDepth 100000 in
theorem sneeds_walk {F : Nat → Prop} {A1 A2 : Option Addr} {n1 c1 n2 c2 : Nat} {g : GVal} (w : World) (h : RdVal w F A1 n1 c1 A2 n2 c2 g) (hs1 : n1 * 8 ≤ 140737488351232) (hs2 : n2 * 16 ≤ 140737488351232) (hx : g.text.size ≤ 140737488351232) (hts : ∀ s ∈ g.texts, s.size ≤ 140737488351232) :
    Calls Try.prog 4 #[g.val A1 n1 c1 A2 n2 c2] w fun e w' => e = .returned (.bool true) ∧ Same w w' := by
  have hx' : g.text.size ≤ 9223372036854775807 := by omega
  have hts' : ∀ s ∈ g.texts, s.size ≤ 9223372036854775807 := fun s hs => by have := hts s hs; omega
  obtain ⟨N, hN⟩ : ∃ N, needP g = N := ⟨_, rfl⟩
  have HN := Lib.hid hN
  obtain ⟨kind, num, text, nums, texts⟩ := g
  simp only [GVal.val] at hx' hts' ⊢
  have HX := Lib.hid hx'
  have HT := Lib.hid hts'
  have HH := Lib.hid (h.mono (F' := fun _ => True) fun _ _ _ => trivial)
  have hsA := (Upd.refl (fun _ => False) w).alloc (.cells #[.int .i64 kind, .int .i64 num, .string text, .slice A1 n1 c1, .slice A2 n2 c2] 26)
  have hbA := Blk.new w 26 #[.int .i64 kind, .int .i64 num, .string text, .slice A1 n1 c1, .slice A2 n2 c2]
  clear h hx hts hx' hts' hN
  go_enter Try.func4, Try.ntmps4
  go_wp2_with fail
  refine (speaks16_spec _).mono ?_
  rintro e w3 ⟨rfl, hsp⟩
  have hsB := hsA.same hsp
  have HBlk := Lib.hid (hbA.same hsp)
  have HA := Lib.hid (HH.out.same hsB)
  have HSB := Lib.hid hsB
  have hz1 : n1 * 8 ≤ 140737488355328 := by omega
  have hz2 : n2 * 16 ≤ 140737488355328 := by omega
  clear hsA hbA hsp hsB HH
  have h00 : Same w3 w3.drew := (Upd.refl _ w3).drew
  go_upto_region 3 with fail
  go_region_held3 (fun wx => Keep1 w3 w.heap.size (.int .i64 kind) (.int .i64 num) (.string text) (.slice A1 n1 c1) (.slice A2 n2 c2) wx) (exact keep1 HBlk (by assumption)) (first
    | (go_at_call_of 13 (Value.string text); refine (copy_on w3 _ (by assumption) HA.out hz1 hz2).mono ?_; rintro e w' ⟨B1, m1, d1, B2, m2, d2, rfl, hrd, hs, hs3⟩; simp only [GVal.val])
    | (go_at_call_of 12 (Value.string text); refine (need_on w3 _ HN.out (by assumption) (by assumption) HX.out HT.out).mono ?_; rintro e w' ⟨rfl, hs, hs3⟩)
    | (go_at_call_of 14 (Value.string text); refine (rneed_on w3 _ HN.out (by assumption) HA.out HX.out HT.out).mono ?_; rintro e w' ⟨rfl, hs, hs3⟩))
  all_goals go_wp2
  all_goals go_ret
  all_goals exact ⟨rfl, HSB.out.same (by assumption)⟩
end Go.Proofs.Ytheinbigegobkaa
namespace Go.Proofs.Ytheinbigegobkaa
open Go.RowKit

theorem fit_dat {l ls : List KV} (h : l.map KV.dat = ls.map KV.dat) (hf : KVFit ls) : KVFit l := by
  intro x hx
  have h1 : x.dat ∈ ls.map KV.dat := by rw [← h]; exact List.mem_map_of_mem hx
  obtain ⟨y, hy, hxy⟩ := List.mem_map.1 h1
  have h2 : y.g = x.g := congrArg GKV.val hxy
  rw [← h2]
  exact hf y hy
theorem rd_fits {w : World} {F : Nat → Prop} {A : Option Addr} {n c : Nat} {ls : List KV} (h : RdKV w F A n c ls) : ∀ p ∈ ls.map KV.dat, p.val.Fits := by
  intro p hp
  obtain ⟨x, hx, rfl⟩ := List.mem_map.1 hp
  exact ⟨(h.val x hx).kind, (h.val x hx).num, (h.val x hx).range⟩

/-- Pack, what it tells read. -/
theorem pack_on {F : Nat → Prop} {A : Option Addr} {n c : Nat} {ls : List KV} (w : World) (h : RdKV w F A n c ls) (hf : KVFit ls) (room : Int) (hr : -9223372036854775808 ≤ room ∧ room ≤ 9223372036854775807) {S O : List UInt8} {E : Int} (hP : packP (ls.map KV.dat) room = (S, O, E)) :
    Calls Try.prog 16 #[.slice A n c, .int .i64 room] w fun e w' => ∃ A1 c1 A2 c2, e = .returned (.tuple #[.slice A1 S.length c1, .slice A2 O.length c2, .int .i64 E]) ∧ Hid (Bytes w' (fun _ => True) A1 S.length c1 S) ∧ Hid (Bytes w' (fun _ => True) A2 O.length c2 O) ∧ Same w w' := by
  refine (pack_spec w h hf room hr hP).mono ?_
  rintro e w' ⟨v1, v2, rfl, h1, h2, -, hs⟩
  obtain ⟨A1, c1, rfl, b1⟩ := own_bytesT h1
  obtain ⟨A2, c2, rfl, b2⟩ := own_bytesT h2
  exact ⟨A1, c1, A2, c2, rfl, Lib.hid b1, Lib.hid b2, hs⟩
theorem rpack_on {F : Nat → Prop} {A : Option Addr} {n c : Nat} {ls : List KV} (w : World) (h : RdKV w F A n c ls) (hf : KVFit ls) (room : Int) (hr : -9223372036854775808 ≤ room ∧ room ≤ 9223372036854775807) {S O : List UInt8} {E : Int} (hP : packP (ls.map KV.dat) room = (S, O, E)) :
    Calls Try.prog 17 #[.slice A n c, .int .i64 room] w fun e w' => ∃ A1 c1 A2 c2, e = .returned (.tuple #[.slice A1 S.length c1, .slice A2 O.length c2, .int .i64 E]) ∧ Hid (Bytes w' (fun _ => True) A1 S.length c1 S) ∧ Hid (Bytes w' (fun _ => True) A2 O.length c2 O) ∧ Same w w' := by
  refine (rpack_spec w h hf room hr hP).mono ?_
  rintro e w' ⟨v1, v2, rfl, h1, h2, hs⟩
  obtain ⟨A1, c1, rfl, b1⟩ := own_bytesT h1
  obtain ⟨A2, c2, rfl, b2⟩ := own_bytesT h2
  exact ⟨A1, c1, A2, c2, rfl, Lib.hid b1, Lib.hid b2, hs⟩
/-- Copy, what it tells read. -/
theorem copyKV_on {F : Nat → Prop} {A : Option Addr} {n c : Nat} {ls : List KV} (w : World) (h : RdKV w F A n c ls) (hsm : KVSmall ls) (hn : n * 88 ≤ 140737488351232) :
    Calls Try.prog 15 #[.slice A n c] w fun e w' => ∃ A' c' l, e = .returned (.slice A' n c') ∧ Hid (l.map KV.dat = ls.map KV.dat) ∧ Hid (RdKV w' (fun b => w.heap.size ≤ b) A' n c' l) ∧ Same w w' := by
  have hl0 := h.len
  refine (copyKV_spec w h hsm (by omega)).mono ?_
  rintro e w' ⟨v, rfl, ⟨l, hl, ho⟩, hs⟩
  obtain ⟨A', c', rfl⟩ := own_form ho.row
  have hln : l.length = n := by
    have := congrArg List.length hl
    rw [List.length_map, List.length_map] at this
    omega
  rw [hln] at ho ⊢
  exact ⟨A', c', l, rfl, Lib.hid hl, Lib.hid (ho.rd'.mono fun b _ hb => hb.1), hs⟩

set_option maxHeartbeats 4000000 in
set_option maxRecDepth 100000 in
theorem packs_walk {F : Nat → Prop} {A : Option Addr} {n c : Nat} {ls : List KV} (w : World) (h : RdKV w F A n c ls) {k : Int} (hk : -9223372036854775808 ≤ k ∧ k ≤ 9223372036854775807) (hn : n * 88 ≤ 140737488351232) (hz : ∀ x ∈ ls, x.Sized) :
    Calls Try.prog 5 #[.slice A n c, .int .i64 k] w fun e w' => e = .returned (.bool true) ∧ Same w w' := by
  obtain ⟨S, O, E, hP⟩ : ∃ S O E, packP (ls.map KV.dat) k = (S, O, E) := ⟨_, _, _, rfl⟩
  have HR := Lib.hid h
  have HP := Lib.hid hP
  have HZ := Lib.hid hz
  have HK := Lib.hid hk
  have HN := Lib.hid hn
  clear h hP hz hk hn
  go_enter Try.func5, Try.ntmps5
  go_wp2_with fail
  refine (speaks16_spec _).mono ?_
  rintro e w1 ⟨rfl, hs1⟩
  have HR1 := Lib.hid (HR.out.same hs1)
  have HS1 := Lib.hid hs1
  clear hs1 HR
  go_wp2_with fail
  refine (copyKV_on _ HR1.out (sized_small HZ.out) HN.out).mono ?_
  rintro e w2 ⟨Ac, cc, l, rfl, HL, HC, hs2⟩
  have HR2 := Lib.hid (HR1.out.same hs2)
  have HS2 := Lib.hid (HS1.out.same hs2)
  have HFl := Lib.hid (fit_dat HL.out (sized_fit HZ.out))
  have HPl := Lib.hid (show packP (l.map KV.dat) k = (S, O, E) by rw [HL.out]; exact HP.out)
  clear hs2 HR1 HS1
  go_wp2_with fail
  refine (pack_on _ HC.out HFl.out k HK.out HPl.out).mono ?_
  rintro e w3 ⟨A1, c1, A2, c2, rfl, HB1, HB2, hs3⟩
  have HR3 := Lib.hid (HR2.out.same hs3)
  have HC3 := Lib.hid (HC.out.same hs3)
  have HS3 := Lib.hid (HS2.out.same hs3)
  clear hs3 HR2 HS2 HC
  go_wp2_with fail
  refine (rpack_on _ HR3.out (sized_fit HZ.out) k HK.out HP.out).mono ?_
  rintro e w4 ⟨A3, c3, A4, c4, rfl, HB3, HB4, hs4⟩
  have HR4 := Lib.hid (HR3.out.same hs4)
  have HC4 := Lib.hid (HC3.out.same hs4)
  have HS4 := Lib.hid (HS3.out.same hs4)
  have HD1 := Lib.hid (HB1.out.same hs4)
  have HD2 := Lib.hid (HB2.out.same hs4)
  clear hs4 HR3 HS3 HC3 HB1 HB2
  generalize S.length = m1 at *
  generalize O.length = m2 at *
  go_wp2_with fail
  refine (same16_spec _ HD1.out HB3.out (r := true) (by simp)).mono ?_
  rintro e w5 ⟨rfl, rfl⟩
  go_wp2_with fail
  refine (same16_spec _ HD2.out HB4.out (r := true) (by simp)).mono ?_
  rintro e w5 ⟨rfl, rfl⟩
  go_wp2_with fail
  refine (kvsame_spec _ HC4.out HR4.out (r := true) (by simp [HL.out])).mono ?_
  rintro e w6 ⟨rfl, hs6⟩
  have HS6 := Lib.hid (HS4.out.same hs6)
  clear hs6
  go_wp2
  go_ret
  exact ⟨rfl, HS6.out⟩

set_option maxHeartbeats 4000000 in
set_option maxRecDepth 100000 in
theorem sthere_walk {F : Nat → Prop} {A : Option Addr} {n c : Nat} {ls : List KV} (w : World) (h : RdKV w F A n c ls) {k : Int} (hk : -9223372036854775808 ≤ k ∧ k ≤ 9223372036854775807) (hn : n * 88 ≤ 140737488351232) (hz : ∀ x ∈ ls, x.Sized) :
    Calls Try.prog 7 #[.slice A n c, .int .i64 k] w fun e w' => e = .returned (.bool true) ∧ Same w w' := by
  obtain ⟨S, O, E, hP⟩ : ∃ S O E, packP (ls.map KV.dat) k = (S, O, E) := ⟨_, _, _, rfl⟩
  have HR := Lib.hid h
  have HP := Lib.hid hP
  have HZ := Lib.hid hz
  have HK := Lib.hid hk
  have HN := Lib.hid hn
  have HF := Lib.hid (rd_fits h)
  clear h hP hz hk hn
  go_enter Try.func7, Try.ntmps7
  go_wp2_with fail
  refine (speaks16_spec _).mono ?_
  rintro e w1 ⟨rfl, hs1⟩
  have HR1 := Lib.hid (HR.out.same hs1)
  have HS1 := Lib.hid hs1
  clear hs1 HR
  go_wp2_with fail
  refine (copyKV_on _ HR1.out (sized_small HZ.out) HN.out).mono ?_
  rintro e w2 ⟨Ac, cc, l, rfl, HL, HC, hs2⟩
  have HR2 := Lib.hid (HR1.out.same hs2)
  have HS2 := Lib.hid (HS1.out.same hs2)
  have HFl := Lib.hid (fit_dat HL.out (sized_fit HZ.out))
  have HPl := Lib.hid (show packP (l.map KV.dat) k = (S, O, E) by rw [HL.out]; exact HP.out)
  clear hs2 HR1 HS1
  go_wp2_with fail
  refine (pack_on _ HC.out HFl.out k HK.out HPl.out).mono ?_
  rintro e w3 ⟨A1, c1, A2, c2, rfl, HB1, HB2, hs3⟩
  have HR3 := Lib.hid (HR2.out.same hs3)
  have HS3 := Lib.hid (HS2.out.same hs3)
  clear hs3 HR2 HS2 HC HFl
  by_cases hE : E = 0
  · subst hE
    obtain ⟨hU, hl1, hl2, hl3⟩ := unpack_pack HP.out HF.out
    have HU := Lib.hid hU
    clear hU
    generalize S.length = m1 at *
    generalize O.length = m2 at *
    go_wp2_with fail
    refine (unpack_spec _ HB1.out HB2.out (by omega) HU.out).mono ?_
    rintro e w4 ⟨v, rfl, ⟨l', hl', ho⟩, hs4⟩
    obtain ⟨Aq, cq, rfl⟩ := own_form ho.row
    have HLq := Lib.hid hl'
    have HQ := Lib.hid ho.rd'
    have HR4 := Lib.hid (HR3.out.same hs4)
    have HS4 := Lib.hid (HS3.out.same hs4)
    clear hl' ho hs4 HR3 HS3
    generalize l'.length = nq at *
    go_wp2_with fail
    refine (kvsame_spec _ HQ.out HR4.out (r := true) (by simp [HLq.out])).mono ?_
    rintro e w6 ⟨rfl, hs6⟩
    have HS6 := Lib.hid (HS4.out.same hs6)
    clear hs6
    have hw8 : IntKind.i64.wrap (8 * k) = (m1 : Int) := by
      have hd : 8 * k / 18446744073709551616 = 0 := by omega
      simp [IntKind.wrap, IntKind.signed, IntKind.bits]
      omega
    go_wp2
    go_ret
    exact ⟨rfl, HS6.out⟩
  · have hE2 : (E != 0) = true := by rw [bne_iff_ne]; exact hE
    obtain ⟨rfl, rfl⟩ := pack_refused HP.out hE
    go_wp2
    go_ret
    exact ⟨rfl, HS3.out⟩
end Go.Proofs.Ytheinbigegobkaa
