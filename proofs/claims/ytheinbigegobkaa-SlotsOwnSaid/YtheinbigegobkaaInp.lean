/- Package slots: inPlace, Need; the reference's Need. -/
import Derived.Test.YtheinbigegobkaaZero
import Derived.Test.YtheinbigegobkaaOn
import Derived.Deep.LoopGhost
namespace Go.Proofs.Ytheinbigegobkaa
open Go.RowKit

theorem zeros_snoc (l : List UInt8) (j : Nat) : l ++ List.replicate j 0 ++ beb 1 0 = l ++ List.replicate (j + 1) 0 := by
  rw [List.replicate_succ', List.append_assoc]
  rfl
theorem inl_done {k : Int} {d : List UInt8} {L j : Nat} (hL : 2 + d.length + j = L) (h8 : L % 8 = 0) (hle : L ≤ pad8 (2 + d.length)) : beb 2 (k + 1).toNat ++ d ++ List.replicate j 0 = inl k d := by
  unfold inl padz
  rw [List.length_append, beb_len]
  unfold pad8 at hle ⊢
  congr 2
  omega

set_option maxHeartbeats 1000000 in
theorem inPlace_spec {F : Nat → Prop} {A : Option Addr} {n c : Nat} {d : List UInt8} (w : World) (key : Int) (a0 a1 a2 a3 a4 : Value) (hk : 0 ≤ key ∧ key ≤ 199) (hb : Bytes w F A n c d) (hn : n ≤ 1000000) :
    Calls Try.prog 24 #[.agg #[.int .i64 key, a0, a1, a2, a3, a4], .slice A n c] w fun e w' => ∃ v, e = .returned v ∧ OwnB w' w.heap.size v (inl key d) ∧ Same w w' := by
  obtain ⟨hk0, hk1⟩ := hk
  have HL := Lib.hid hb.len
  have HB := Lib.hid hb
  clear hb
  have hs0 := (Upd.refl (fun _ => False) w).alloc (.cells #[.int .i64 key, a0, a1, a2, a3, a4] 47)
  have hb0 := Blk.new w 47 #[.int .i64 key, a0, a1, a2, a3, a4]
  go_enter Try.func24, Try.ntmps24
  go_wp2_with fail
  refine (newWriter_spec _).mono ?_
  rintro e w1 ⟨r, rfl, hw, hs1⟩
  have h0 : w1.cell? ⟨w.heap.size, 0, none⟩ = some (.int .i64 key) := (hb0.same hs1).cell 0
  have hs2 := hs0.same hs1
  rw [World.size_alloc] at hw
  clear hs0 hs1 hb0
  go_wp2_with fail
  refine (wnum_spec hw 2 (key + 1) (by decide) (by omega) (by simp)).mono ?_
  rintro e w2 ⟨rfl, hw2, hu⟩
  have hs3 : Same w w2 := hs2.trans hu fun b hb hh => by omega
  have HX := Lib.hid (HB.out.same hs3)
  simp only [List.nil_append] at hw2
  have HW := Lib.hid hw2
  clear hw hs2 hu hw2 h0
  go_wp2_with fail
  refine (wraw_spec HW.out HX.out (by rw [beb_len]; have : ((2 : Int)).toNat = 2 := rfl; omega)).mono ?_
  rintro e w3 ⟨rfl, hw3, hu⟩
  have HS := Lib.hid (show Same w w3 from hs3.trans hu fun b hb hh => by omega)
  have HW3 := Lib.hid hw3
  clear HW HX hs3 hw3 hu
  go_wp2_with fail
  go_loopg [] (pad8 (2 + n) - (2 + n)) (fun g wr => ∃ j L : Nat, 2 + n + j = L ∧ g = pad8 (2 + n) - L ∧ L ≤ pad8 (2 + n) ∧ Hid (Wtr wr (w.heap.size + 1) r (beb 2 (key + 1).toNat ++ d ++ List.replicate j 0)) ∧ Hid (Same w wr))
  case atStart => exact ⟨0, 2 + n, rfl, rfl, by unfold pad8; omega, Lib.hid (by simpa using HW3.out), HS⟩
  case round =>
    obtain ⟨j, L, hL, hg, hle, KW, KS⟩ := hrel
    have HLL := Lib.hid hL
    have hL7 : L ≤ 1000100 := by unfold pad8 at hle; omega
    have hlen : (beb 2 (key + 1).toNat ++ d ++ List.replicate j 0).length = L := by
      rw [List.length_append, List.length_append, beb_len, List.length_replicate, HL.out]
      exact hL
    have HLen := Lib.hid hlen
    have HG := Lib.hid hg
    have HLe := Lib.hid hle
    clear hL hlen hg hle HW3 HS
    by_cases h8 : L % 8 = 0
    · have hm : (((L : Int) % 8) != 0) = false := by
        have : (L : Int) % 8 = 0 := by omega
        rw [this]; rfl
      have H8 := Lib.hid h8
      clear h8
      go_wp2_with fail
      refine (wlen_spec KW.out HLen.out).mono ?_
      rintro e w4 ⟨rfl, rfl⟩
      go_wp2_with fail
      refine (wbytes_spec KW.out (by rw [HLen.out]; omega)).mono ?_
      rintro e w5 ⟨v, rfl, ho, hs⟩
      go_wp2
      go_ret
      refine ⟨v, rfl, ?_, KS.out.same hs⟩
      rw [← inl_done (by rw [HL.out]; exact HLL.out) H8.out (by rw [HL.out]; exact HLe.out)]
      exact own_base ho KS.out.size
    · have hm : (((L : Int) % 8) != 0) = true := by rw [bne_iff_ne]; omega
      have H8 := Lib.hid h8
      clear h8
      go_wp2_with fail
      refine (wlen_spec KW.out HLen.out).mono ?_
      rintro e w4 ⟨rfl, rfl⟩
      go_wp2_with fail
      refine (wnum_spec KW.out 1 0 (by decide) (by omega) (by rw [HLen.out]; omega)).mono ?_
      rintro e w5 ⟨rfl, hw5, hu⟩
      have HW5 := Lib.hid hw5
      have HU := Lib.hid hu
      clear hw5 hu
      go_wp2
      go_roundg (pad8 (2 + n) - (L + 1))
      case measure =>
        rw [HG.out]
        have h1 := HLe.out
        have h2 := H8.out
        unfold pad8 at h1 ⊢
        omega
      case rel =>
        refine ⟨j + 1, L + 1, by rw [← HLL.out]; omega, rfl, ?_, Lib.hid ?_, Lib.hid (KS.out.trans HU.out fun b hb hh => by omega)⟩
        · have h1 := HLe.out
          have h2 := H8.out
          unfold pad8 at h1 ⊢
          omega
        · rw [← zeros_snoc]
          exact HW5.out

theorem inl_len (k : Int) (d : List UInt8) : (inl k d).length = pad8 (2 + d.length) := by
  unfold inl padz pad8
  rw [List.length_append, List.length_append, beb_len, List.length_replicate]
  omega
theorem enc_len_le {g : GVal} : (enc g).length ≤ 40082 := by
  by_cases hc : chk g = 0
  · rw [enc_right hc]
    exact right_len (chk_right hc)
  · unfold enc
    rw [if_neg hc]
    simp

set_option maxHeartbeats 1000000 in
theorem need_spec {F : Nat → Prop} {A1 A2 : Option Addr} {n1 c1 n2 c2 : Nat} {g : GVal} {N : Nat} (w : World) (h : RdVal w F A1 n1 c1 A2 n2 c2 g) (hx : g.text.size ≤ 9223372036854775807) (hts : ∀ s ∈ g.texts, s.size ≤ 9223372036854775807) (hN : needP g = N) :
    Calls Try.prog 12 #[g.val A1 n1 c1 A2 n2 c2] w fun e w' => e = .returned (.int .i64 N) ∧ Same w w' := by
  have hEl := enc_len_le (g := g)
  obtain ⟨E, hE⟩ : ∃ E, enc g = E := ⟨_, rfl⟩
  obtain ⟨C, hC⟩ : ∃ C, chk g = C := ⟨_, rfl⟩
  have HE := Lib.hid hE
  have HC := Lib.hid hC
  unfold needP at hN
  rw [hE, hC] at hN
  rw [hE] at hEl
  have HN := Lib.hid hN
  obtain ⟨kind, num, text, nums, texts⟩ := g
  simp only [GVal.val] at hx hts ⊢
  have HX := Lib.hid hx
  have HT := Lib.hid hts
  have HH := Lib.hid h
  have hs0 := (Upd.refl (fun _ => False) w).alloc (.cells #[.int .i64 kind, .int .i64 num, .string text, .slice A1 n1 c1, .slice A2 n2 c2] 26)
  clear h hx hts hE hC hN
  go_enter Try.func12, Try.ntmps12
  go_wp2_with fail
  refine (enc_on w _ HE.out HC.out hs0 HH.out HX.out HT.out).mono ?_
  rintro e w1 ⟨B1, m1, d1, rfl, hm, hb, _, hs1⟩
  have HM := Lib.hid hm
  have hm1 : m1 ≤ 40082 := by omega
  clear hm
  by_cases hz : C = 0
  · subst hz
    go_wp2_with fail
    refine (inPlace_spec _ 0 _ _ _ _ _ (by omega) hb (by omega)).mono ?_
    rintro e w2 ⟨v, rfl, ho, hs2⟩
    obtain ⟨A', c', rfl⟩ := own_form ho
    have hl : (inl 0 E).length = pad8 (2 + m1) := by rw [inl_len, HM.out]
    rw [hl]
    have hs3 := hs1.same hs2
    have hN2 : ((pad8 (2 + m1) : Nat) : Int) / 8 = N := by
      have := HN.out
      rw [if_pos (by trivial), HM.out] at this
      unfold pad8
      omega
    have hp : pad8 (2 + m1) ≤ 1000000 := by unfold pad8; omega
    clear ho hs2 hs1 hl
    generalize pad8 (2 + m1) = P at *
    have HN2 := Lib.hid hN2
    clear hN2
    go_wp2
    go_ret
    exact ⟨ret_int HN2.out, hs3⟩
  · have hz' : (C != 0) = true := by rw [bne_iff_ne]; exact hz
    have HN2 := Lib.hid (HN.out.symm.trans (if_neg hz))
    go_wp2
    go_ret
    exact ⟨by rw [HN2.out]; rfl, hs1⟩

set_option maxHeartbeats 1000000 in
theorem rneed_spec {F : Nat → Prop} {A1 A2 : Option Addr} {n1 c1 n2 c2 : Nat} {g : GVal} {N : Nat} (w : World) (h : RdVal w F A1 n1 c1 A2 n2 c2 g) (hx : g.text.size ≤ 9223372036854775807) (hts : ∀ s ∈ g.texts, s.size ≤ 9223372036854775807) (hN : needP g = N) :
    Calls Try.prog 14 #[g.val A1 n1 c1 A2 n2 c2] w fun e w' => e = .returned (.int .i64 N) ∧ Same w w' := by
  have hEl := enc_len_le (g := g)
  have hpos : chk g = 0 → 0 < (enc g).length := fun hc => by
    rw [enc_right hc]; simp [encR]
  have hnil : chk g ≠ 0 → (enc g).length = 0 := fun hc => by
    unfold enc
    rw [if_neg hc]; rfl
  obtain ⟨E, hE⟩ : ∃ E, enc g = E := ⟨_, rfl⟩
  have HE := Lib.hid hE
  have hN2 : N = if E.length = 0 then 0 else (2 + E.length + 7) / 8 := by
    rw [← hN, ← hE]
    unfold needP
    by_cases hc : chk g = 0
    · rw [if_pos hc, if_neg (by have := hpos hc; omega)]
    · rw [if_neg hc, if_pos (hnil hc)]
  rw [hE] at hEl
  have HN := Lib.hid hN2
  obtain ⟨kind, num, text, nums, texts⟩ := g
  simp only [GVal.val] at hx hts ⊢
  have HX := Lib.hid hx
  have HT := Lib.hid hts
  have HH := Lib.hid h
  have hs0 := (Upd.refl (fun _ => False) w).alloc (.cells #[.int .i64 kind, .int .i64 num, .string text, .slice A1 n1 c1, .slice A2 n2 c2] 26)
  clear h hx hts hE hN hN2 hpos hnil
  go_enter Try.func14, Try.ntmps14
  go_wp2_with fail
  refine (renc_on w _ HE.out hs0 HH.out HX.out HT.out).mono ?_
  rintro e w1 ⟨B1, m1, d1, rfl, hm, hb, _, hs1⟩
  have HM := Lib.hid hm
  have hm1 : m1 ≤ 40082 := by omega
  clear hm hb
  have HN2 := Lib.hid (show N = if m1 = 0 then 0 else (2 + m1 + 7) / 8 from by rw [← HM.out]; exact HN.out)
  clear HN HM
  by_cases hz : m1 = 0
  · subst hz
    go_wp2
    go_ret
    exact ⟨by rw [HN2.out]; rfl, hs1⟩
  · have hz' : ((m1 : Int) == 0) = false := by rw [beq_eq_false_iff_ne]; omega
    have HN3 := Lib.hid (HN2.out.trans (if_neg hz))
    go_wp2_with fail
    go_loopg [4] ((2 + m1 + 7) / 8) (fun g i wr => ∃ k : Nat, g = (2 + m1 + 7) / 8 - k ∧ k ≤ (2 + m1 + 7) / 8 ∧ i = .int .i64 k ∧ wr = w1)
    case atStart => exact ⟨0, rfl, Nat.zero_le _, rfl, rfl⟩
    case round =>
      obtain ⟨k, hg, hk, rfl, rfl⟩ := hrel
      have HG := Lib.hid hg
      clear hg
      have hk9 : k ≤ 6000 := by omega
      by_cases hlt : 8 * k < m1 + 2
      · go_wp2
        go_roundg ((2 + m1 + 7) / 8 - (k + 1))
        case measure => rw [HG.out]; omega
        case rel => exact ⟨k + 1, rfl, by omega, by go_num, rfl⟩
      · go_wp2
        go_ret
        exact ⟨ret_int (by rw [HN3.out]; omega), hs1⟩
end Go.Proofs.Ytheinbigegobkaa
