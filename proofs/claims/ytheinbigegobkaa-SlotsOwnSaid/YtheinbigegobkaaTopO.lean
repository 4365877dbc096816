/- The walk of SlotsOwn. -/
import Derived.Test.YtheinbigegobkaaTopP
namespace Go.Proofs.Ytheinbigegobkaa
open Go.RowKit

/-- Some row of the call's own. -/
def Some1 (w : World) (B : Nat) (v : Value) (n : Nat) : Prop := ∃ xs, w.ownsRow B 5 1 v n xs
theorem Some1.upd {S : Nat → Prop} {w w' : World} {B n : Nat} {v : Value} (h : Some1 w B v n) (hu : Upd S w w') (hs : ∀ g, v.ownBlock = some g → ¬ S g) : Some1 w' B v n := by
  obtain ⟨xs, h⟩ := h
  exact ⟨xs, own_upd h hu hs⟩
theorem bytes_ge {w : World} {B : Nat} {A : Option Addr} {n c : Nat} {bs : List UInt8} (h : w.ownsRow B 5 1 (.slice A n c) n (bs.map u8v)) : Bytes w (fun b => B ≤ b) A n c bs := Row.mono (Row.of_own h) fun _ _ hb => hb.2

set_option maxHeartbeats 16000000 in
set_option maxRecDepth 100000 in
theorem sown_walk {F : Nat → Prop} {A : Option Addr} {n c : Nat} {ls : List KV} (w : World) (h : RdKV w F A n c ls) {k : Int} (hk : -9223372036854775808 ≤ k ∧ k ≤ 9223372036854775807) (hn : n * 88 ≤ 140737488351232) (hz : ∀ x ∈ ls, x.Sized) :
    Calls Try.prog 10 #[.slice A n c, .int .i64 k] w fun e w' => e = .returned (.bool true) ∧ Same w w' := by
  obtain ⟨S, O, E, hP⟩ : ∃ S O E, packP (ls.map KV.dat) k = (S, O, E) := ⟨_, _, _, rfl⟩
  have HFt := Lib.hid (rd_fits h)
  have HR := Lib.hid (h.mono (F' := fun b => b < w.heap.size) fun b hb _ => hb)
  have HP := Lib.hid hP
  have HZ := Lib.hid hz
  have HK := Lib.hid hk
  have HN := Lib.hid hn
  have hS : S.length ≤ 800000 ∧ O.length ≤ 800000 := by
    by_cases hE : E = 0
    · subst hE
      obtain ⟨h1, h2⟩ := unpack_pack hP (rd_fits h)
      omega
    · obtain ⟨rfl, rfl⟩ := pack_refused hP hE
      simp
  clear h hP hz hk hn
  go_enter Try.func10, Try.ntmps10
  go_wp2_with fail
  refine (speaks16_spec _).mono ?_
  rintro e w1 ⟨rfl, hs1⟩
  have HR1 := Lib.hid (HR.out.same hs1)
  have HS1 := Lib.hid hs1
  have hz1 := hs1.size
  clear hs1 HR
  go_wp2_with fail
  refine (copyKV_on _ HR1.out (sized_small HZ.out) HN.out).mono ?_
  rintro e w2 ⟨Ac, cc, l, rfl, HL, HC, hs2⟩
  have HR2 := Lib.hid (HR1.out.same hs2)
  have HS2 := Lib.hid (HS1.out.same hs2)
  have HFl := Lib.hid (fit_dat HL.out (sized_fit HZ.out))
  have HPl := Lib.hid (show packP (l.map KV.dat) k = (S, O, E) by rw [HL.out]; exact HP.out)
  have hz2 := hs2.size
  clear hs2 HR1 HS1
  go_wp2_with fail
  refine (pack_spec _ HC.out HFl.out k HK.out HPl.out).mono ?_
  rintro e w3 ⟨v1, v2, rfl, ho1, ho2, hne, hs3⟩
  obtain ⟨A1, c1, rfl⟩ := own_form ho1
  obtain ⟨A2, c2, rfl⟩ := own_form ho2
  have HO1 := Lib.hid ho1
  have HO2 := Lib.hid ho2
  have HNe := Lib.hid hne
  have HR3 := Lib.hid (HR2.out.same hs3)
  have HS3 := Lib.hid (HS2.out.same hs3)
  have hz3 := hs3.size
  have HLt := Lib.hid (show (∀ g, (Value.slice A1 S.length c1).ownBlock = some g → w2.heap.size ≤ g ∧ g < w3.heap.size) ∧ (∀ g, (Value.slice A2 O.length c2).ownBlock = some g → w2.heap.size ≤ g ∧ g < w3.heap.size) from ⟨fun g hg => ho1.lt g hg, fun g hg => ho2.lt g hg⟩)
  clear hs3 HR2 HS2 HC HFl HL HPl ho1 ho2 hne
  go_wp2_with fail
  refine (copyKV_on _ HR3.out (sized_small HZ.out) HN.out).mono ?_
  rintro e w4 ⟨Ad, cd, l, rfl, HL, HC, hs4⟩
  have HR4 := Lib.hid (HR3.out.same hs4)
  have HS4 := Lib.hid (HS3.out.same hs4)
  have HO1b := Lib.hid (own_same HO1.out hs4)
  have HO2b := Lib.hid (own_same HO2.out hs4)
  have HFl := Lib.hid (fit_dat HL.out (sized_fit HZ.out))
  have HPl := Lib.hid (show packP (l.map KV.dat) k = (S, O, E) by rw [HL.out]; exact HP.out)
  have hz4 := hs4.size
  clear hs4 HR3 HS3 HO1 HO2
  go_wp2_with fail
  refine (pack_spec _ HC.out HFl.out k HK.out HPl.out).mono ?_
  rintro e w5 ⟨v3, v4, rfl, ho3, ho4, hne2, hs5⟩
  obtain ⟨A3, c3, rfl⟩ := own_form ho3
  obtain ⟨A4, c4, rfl⟩ := own_form ho4
  have HO3 := Lib.hid ho3
  have HO4 := Lib.hid ho4
  have HNe2 := Lib.hid hne2
  have HLt2 := Lib.hid (show (∀ g, (Value.slice A3 S.length c3).ownBlock = some g → w4.heap.size ≤ g ∧ g < w5.heap.size) ∧ (∀ g, (Value.slice A4 O.length c4).ownBlock = some g → w4.heap.size ≤ g ∧ g < w5.heap.size) from ⟨fun g hg => ho3.lt g hg, fun g hg => ho4.lt g hg⟩)
  have HR5 := Lib.hid (HR4.out.same hs5)
  have HS5 := Lib.hid (HS4.out.same hs5)
  have HO1 := Lib.hid (own_same HO1b.out hs5)
  have HO2 := Lib.hid (own_same HO2b.out hs5)
  have hz5 := hs5.size
  clear hs5 HR4 HS4 HC HFl HL HPl ho3 ho4 hne2 HO1b HO2b
  go_wp2_with fail
  refine (rpack_spec _ HR5.out (sized_fit HZ.out) k HK.out HP.out).mono ?_
  rintro e w6 ⟨v5, v6, rfl, ho5, ho6, hs6⟩
  obtain ⟨A5, c5, rfl⟩ := own_form ho5
  obtain ⟨A6, c6, rfl⟩ := own_form ho6
  have HX := Lib.hid (bytes_ge ho5)
  have HY := Lib.hid (bytes_ge ho6)
  have HR6 := Lib.hid (HR5.out.same hs6)
  have HS6 := Lib.hid (HS5.out.same hs6)
  have HO1b := Lib.hid (own_same HO1.out hs6)
  have HO2b := Lib.hid (own_same HO2.out hs6)
  have HO3b := Lib.hid (own_same HO3.out hs6)
  have HO4b := Lib.hid (own_same HO4.out hs6)
  have hz6 := hs6.size
  clear hs6 HR5 HS5 ho5 ho6 HO1 HO2 HO3 HO4
  obtain ⟨hS1, hS2⟩ := hS
  have HSl := Lib.hid (show S.length = S.length from rfl)
  obtain ⟨m1, hm1⟩ : ∃ m, S.length = m := ⟨_, rfl⟩
  obtain ⟨m2, hm2⟩ : ∃ m, O.length = m := ⟨_, rfl⟩
  have HM1 := Lib.hid hm1
  have HM2 := Lib.hid hm2
  rw [hm1] at HO1b HO3b HX HNe HNe2 HLt HLt2 hS1 ⊢
  rw [hm2] at HO2b HO4b HY HNe HNe2 HLt HLt2 hS2 ⊢
  clear hm1 hm2 HSl
  go_wp2_with fail
  go_loopw [47] (fun i wr => ∃ j : Nat, j ≤ m1 ∧ i = .int .i64 j ∧ Hid (Upd (fun b => w2.heap.size ≤ b ∧ b < w3.heap.size) w6 wr) ∧ Hid (Some1 wr w2.heap.size (.slice A1 m1 c1) m1) ∧ Hid (Some1 wr w2.heap.size (.slice A2 m2 c2) m2)) (fun i _ => m1 - (intOf i).toNat)
  case atStart => exact ⟨0, Nat.zero_le _, rfl, Lib.hid (Upd.refl _ _), Lib.hid ⟨_, HO1b.out⟩, Lib.hid ⟨_, HO2b.out⟩⟩
  case round =>
    obtain ⟨j, hj, rfl, KU, K1, K2⟩ := hrel
    by_cases hlt : j < m1
    · obtain ⟨g, rfl, hB, hgl, ⟨u, hc⟩, hf, hput⟩ := own_put K1.out hlt
      have HPt := Lib.hid hput
      have hg5 := (HLt.out.1 g rfl).2
      have HN2 := Lib.hid (show ∀ g', (Value.slice A2 m2 c2).ownBlock = some g' → g' ≠ g from fun g' hg' e => HNe.out g rfl (e ▸ hg'))
      clear hput
      go_wp2
      go_roundw
      case rel => exact ⟨j + 1, by omega, by go_num, Lib.hid (KU.out.setCell (p := ⟨g, j, none⟩) (.inl ⟨hB, hg5⟩) _), Lib.hid (HPt.out _), Lib.hid (K2.out.upd ((Upd.refl (fun b => b = g) wr).put1 (i := j) _) fun g' hg' => HN2.out g' hg')⟩
      case measure => simp [intOf]; omega
    · have HU1 := KU
      have HA1 := K1
      have HA2 := K2
      clear hj KU K1 K2 HO1b HO2b
      generalize wr = w7 at *
      go_wp2_with fail
      clear hlt
      go_loopw [56] (fun i wr => ∃ j : Nat, j ≤ m2 ∧ i = .int .i64 j ∧ Hid (Upd (fun b => w2.heap.size ≤ b ∧ b < w3.heap.size) w6 wr) ∧ Hid (Some1 wr w2.heap.size (.slice A1 m1 c1) m1) ∧ Hid (Some1 wr w2.heap.size (.slice A2 m2 c2) m2)) (fun i _ => m2 - (intOf i).toNat)
      case atStart => exact ⟨0, Nat.zero_le _, rfl, HU1, HA1, HA2⟩
      case round =>
        obtain ⟨j, hj, rfl, KU, K1, K2⟩ := hrel
        by_cases hlt : j < m2
        · obtain ⟨g, rfl, hB, hgl, ⟨u, hc⟩, hf, hput⟩ := own_put K2.out hlt
          have HPt := Lib.hid hput
          have hg5 := (HLt.out.2 g rfl).2
          have HN2 := Lib.hid (show ∀ g', (Value.slice A1 m1 c1).ownBlock = some g' → g' ≠ g from fun g' hg' e => HNe.out g' hg' (e ▸ rfl))
          clear hput
          go_wp2
          go_roundw
          case rel => exact ⟨j + 1, by omega, by go_num, Lib.hid (KU.out.setCell (p := ⟨g, j, none⟩) (.inl ⟨hB, hg5⟩) _), Lib.hid (K1.out.upd ((Upd.refl (fun b => b = g) wr).put1 (i := j) _) fun g' hg' => HN2.out g' hg'), Lib.hid (HPt.out _)⟩
          case measure => simp [intOf]; omega
        · clear HU1 HA1 HA2
          obtain ⟨xs1, K1⟩ := K1.out
          obtain ⟨xs2, K2⟩ := K2.out
          have HA1 := Lib.hid K1
          have HA2 := Lib.hid K2
          have hzr := KU.out.size
          clear K1 K2
          go_upto_region 17 with (at_builtin; go_must (refine wpList_app rfl (.tmp 63) (.tmp 64) _ _ rfl w2.heap.size 5 1 1 _ Try.underlying32 info_u8 rfl (.slice A1 m1 c1) m1 _ rfl (HA1.out.alloc _) rfl (src_row (m := 8) (c := 8) Try.underlying32 (Row.of_blk (Blk.new _ _ _) rfl (Nat.le_refl _) (by simp [maxLen])) (by simp [Value.oneCell'])) (by unfold maxLen; omega) (by omega) (by simp; omega) ?_); intro v7 w8 hg; have HG := Lib.hid hg; clear hg)
          have HU8 := Lib.hid (show Upd (fun b => w2.heap.size ≤ b ∧ b < w3.heap.size) w6 w8 from (KU.out.alloc _).trans HG.out.upd fun b _ hv => HLt.out.1 b hv)
          have HA2b := Lib.hid (own_upd (HA2.out.alloc _) HG.out.upd fun g hg hh => HNe.out g hh hg)
          have hzs := HG.out.size
          rw [World.size_alloc] at hzs
          clear HG HA1 HA2 KU
          go_upto_region 18 with (at_builtin; go_must (refine wpList_app rfl (.tmp 66) (.tmp 67) _ _ rfl w2.heap.size 5 1 1 _ Try.underlying32 info_u8 rfl (.slice A2 m2 c2) m2 _ rfl (HA2b.out.alloc _) rfl (src_row (m := 4) (c := 4) Try.underlying32 (Row.of_blk (Blk.new _ _ _) rfl (Nat.le_refl _) (by simp [maxLen])) (by simp [Value.oneCell'])) (by unfold maxLen; omega) (by omega) (by simp; omega) ?_); intro v8 w9 hg; have HG := Lib.hid hg; clear hg)
          have HU9 := Lib.hid (show Upd (fun b => w2.heap.size ≤ b ∧ b < w3.heap.size) w6 w9 from (HU8.out.alloc _).trans HG.out.upd fun b _ hv => HLt.out.2 b hv)
          have HX9 := Lib.hid (HX.out.upd HU9.out fun b hb hh => by omega)
          have HY9 := Lib.hid (HY.out.upd HU9.out fun b hb hh => by omega)
          have HR9 := Lib.hid (HR6.out.upd HU9.out fun b hb hh => by omega)
          have HS9 := Lib.hid (show Same w w9 from HS6.out.trans HU9.out fun b hb hh => by omega)
          have HO3 := Lib.hid (own_upd HO3b.out HU9.out fun g hg hh => by have := (HLt2.out.1 g hg).1; omega)
          have HO4 := Lib.hid (own_upd HO4b.out HU9.out fun g hg hh => by have := (HLt2.out.2 g hg).1; omega)
          have hz9 := HU9.out.size
          clear HG HA2b HU8 HU9 HX HY HR6 HS6 HO3b HO4b hzs hzr HLt HNe
          go_wp2_with fail
          refine (same16_spec _ (bytes_ge HO3.out) HX9.out (r := true) (by simp)).mono ?_
          rintro e w10 ⟨rfl, rfl⟩
          go_wp2_with fail
          refine (same16_spec _ (bytes_ge HO4.out) HY9.out (r := true) (by simp)).mono ?_
          rintro e w10 ⟨rfl, rfl⟩
          by_cases hE : E = 0
          · subst hE
            have HUp := Lib.hid (unpack_pack HP.out HFt.out).1
            clear HX9 HY9
            go_wp2_with fail
            refine (unpack_spec _ (bytes_ge HO3.out) (bytes_ge HO4.out) (by omega) HUp.out).mono ?_
            rintro e w10 ⟨v, rfl, ⟨lq, hlq, ho⟩, hs10⟩
            obtain ⟨Aq, cq, rfl⟩ := own_form ho.row
            have HQ := Lib.hid (ho.rd'.mono (F' := fun b => w9.heap.size ≤ b) fun b _ hb => hb.1)
            have HLq := Lib.hid hlq
            have HR10 := Lib.hid (HR9.out.same hs10)
            have HS10 := Lib.hid (HS9.out.same hs10)
            have HA1 := Lib.hid (own_same HO3.out hs10)
            have HA2 := Lib.hid (own_same HO4.out hs10)
            clear hs10 ho hlq HR9 HS9 HO3 HO4
            generalize lq.length = mq at *
            go_wp2_with fail
            go_loopw [89] (fun i wr => ∃ j : Nat, j ≤ m1 ∧ i = .int .i64 j ∧ Hid (Upd (fun b => w4.heap.size ≤ b ∧ b < w5.heap.size) w10 wr) ∧ Hid (Some1 wr w4.heap.size (.slice A3 m1 c3) m1) ∧ Hid (Some1 wr w4.heap.size (.slice A4 m2 c4) m2)) (fun i _ => m1 - (intOf i).toNat)
            case atStart => exact ⟨0, Nat.zero_le _, rfl, Lib.hid (Upd.refl _ _), Lib.hid ⟨_, HA1.out⟩, Lib.hid ⟨_, HA2.out⟩⟩
            case round =>
              obtain ⟨j, hj, rfl, KU, K1, K2⟩ := hrel
              by_cases hlt : j < m1
              · obtain ⟨g, rfl, hB, hgl, ⟨u, hc⟩, hf, hput⟩ := own_put K1.out hlt
                have HPt := Lib.hid hput
                have hg5 := (HLt2.out.1 g rfl).2
                have HN2 := Lib.hid (show ∀ g', (Value.slice A4 m2 c4).ownBlock = some g' → g' ≠ g from fun g' hg' e => HNe2.out g rfl (e ▸ hg'))
                clear hput
                go_wp2
                go_roundw
                case rel => exact ⟨j + 1, by omega, by go_num, Lib.hid (KU.out.setCell (p := ⟨g, j, none⟩) (.inl ⟨hB, hg5⟩) _), Lib.hid (HPt.out _), Lib.hid (K2.out.upd ((Upd.refl (fun b => b = g) wr).put1 (i := j) _) fun g' hg' => HN2.out g' hg')⟩
                case measure => simp [intOf]; omega
              · have HU1 := KU
                have HB2 := K2
                clear hj KU K1 K2 HA1 HA2
                generalize wr = w11 at *
                go_wp2_with fail
                clear hlt
                go_loopw [98] (fun i wr => ∃ j : Nat, j ≤ m2 ∧ i = .int .i64 j ∧ Hid (Upd (fun b => w4.heap.size ≤ b ∧ b < w5.heap.size) w10 wr) ∧ Hid (Some1 wr w4.heap.size (.slice A4 m2 c4) m2)) (fun i _ => m2 - (intOf i).toNat)
                case atStart => exact ⟨0, Nat.zero_le _, rfl, HU1, HB2⟩
                case round =>
                  obtain ⟨j, hj, rfl, KU, K2⟩ := hrel
                  by_cases hlt : j < m2
                  · obtain ⟨g, rfl, hB, hgl, ⟨u, hc⟩, hf, hput⟩ := own_put K2.out hlt
                    have HPt := Lib.hid hput
                    have hg5 := (HLt2.out.2 g rfl).2
                    clear hput
                    go_wp2
                    go_roundw
                    case rel => exact ⟨j + 1, by omega, by go_num, Lib.hid (KU.out.setCell (p := ⟨g, j, none⟩) (.inl ⟨hB, hg5⟩) _), Lib.hid (HPt.out _)⟩
                    case measure => simp [intOf]; omega
                  · clear HU1 HB2 K2
                    have HR11 := Lib.hid (HR10.out.upd KU.out fun b hb hh => by omega)
                    have HQ11 := Lib.hid (HQ.out.upd KU.out fun b hb hh => by omega)
                    have HS11 := Lib.hid (show Same w wr from HS10.out.trans KU.out fun b hb hh => by omega)
                    clear KU HR10 HQ HS10
                    go_wp2_with fail
                    refine (kvsame_spec _ HQ11.out HR11.out (r := true) (by simp [HLq.out])).mono ?_
                    rintro e w12 ⟨rfl, hs12⟩
                    have HS12 := Lib.hid (HS11.out.same hs12)
                    clear hs12
                    go_wp2
                    go_ret
                    exact ⟨rfl, HS12.out⟩
          · have hE2 : (E != 0) = true := by rw [bne_iff_ne]; exact hE
            go_wp2
            go_ret
            exact ⟨rfl, HS9.out⟩
end Go.Proofs.Ytheinbigegobkaa
