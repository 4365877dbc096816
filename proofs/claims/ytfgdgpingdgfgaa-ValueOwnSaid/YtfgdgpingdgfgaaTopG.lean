/- The walk of ValueOwn. -/
import Derived.Test.YtfgdgpingdgfgaaTopF
import Derived.Test.YtfgdgpingdgfgaaOwn
namespace Go.Proofs.Ytfgdgpingdgfgaa
open Go.RowKit

theorem rdval_lt {w : World} {F : Nat → Prop} {A1 A2 : Option Addr} {n1 c1 n2 c2 : Nat} {g : GVal} (h : RdVal w F A1 n1 c1 A2 n2 c2 g) : RdVal w (fun b => b < w.heap.size) A1 n1 c1 A2 n2 c2 g := h.mono fun _ hb _ => hb

/-- Encode, its answer owned. -/
theorem enc_own {F : Nat → Prop} {A1 A2 : Option Addr} {n1 c1 n2 c2 : Nat} {g : GVal} {E : List UInt8} {C : Int} (w : World) (hE : enc g = E) (hC : chk g = C) (h : RdVal w F A1 n1 c1 A2 n2 c2 g) (hx : g.text.size ≤ 9223372036854775807) (hts : ∀ s ∈ g.texts, s.size ≤ 9223372036854775807) :
    Calls Try.prog 25 #[g.val A1 n1 c1 A2 n2 c2] w fun e w' => ∃ A n c, e = .returned (.tuple #[.slice A n c, .int .i64 C]) ∧ E.length = n ∧ Hid (w'.ownsRow w.heap.size 5 1 (.slice A n c) n (E.map u8v)) ∧ Same w w' := by
  subst hE hC
  refine (encode_spec w h hx hts).mono ?_
  rintro e w' ⟨v, rfl, ho, h2⟩
  obtain ⟨A, c, rfl⟩ := own_form ho
  exact ⟨A, _, c, rfl, rfl, Lib.hid ho, h2⟩

theorem decD_len (n : Nat) (l : List UInt8) : (decD n (decP l)).1.nums.length ≤ 40 ∧ (decD n (decP l)).1.texts.length ≤ 40 := by
  unfold decD
  split
  · simp [noVal]
  · cases h : pVal l with
    | error e => rw [decP_err h]; simp [noVal]
    | ok x =>
      obtain ⟨g, r⟩ := x
      rw [decP_ok h]
      obtain ⟨h1, _, _⟩ := pVal_back h
      cases h1 with
      | num => simp
      | text => simp
      | nums => simpa using ‹_›
      | texts => simpa using ‹_›

/-- Decode, its answer owned. -/
theorem dec_own {F : Nat → Prop} {A : Option Addr} {n c : Nat} {bs : List UInt8} {g : GVal} {er : Int} (w : World) (hD : decD n (decP bs) = (g, er)) (hb : Bytes w F A n c bs) :
    Calls Try.prog 20 #[.slice A n c] w fun e w' => ∃ A1 n1 c1 A2 n2 c2, e = .returned (.tuple #[g.val A1 n1 c1 A2 n2 c2, .int .i64 er]) ∧ Hid (w'.ownsRow w.heap.size 2 1 (.slice A1 n1 c1) n1 (g.nums.map (Value.int .i64))) ∧ Hid (w'.ownsRow w.heap.size 9 1 (.slice A2 n2 c2) n2 (g.texts.map Value.string)) ∧ n1 ≤ 40 ∧ n2 ≤ 40 ∧ Same w w' := by
  have hl := decD_len n bs
  rw [hD] at hl
  refine (decode_spec w hb (g, er) (by rw [decP_take bs (Nat.le_refl _)]; exact hD)).mono ?_
  rintro e w' ⟨v, rfl, ⟨v1, v2, rfl, h1, h2⟩, h3⟩
  obtain ⟨A1, c1, rfl⟩ := own_form h1
  obtain ⟨A2, c2, rfl⟩ := own_form h2
  exact ⟨A1, _, c1, A2, _, c2, rfl, Lib.hid h1, Lib.hid h2, hl.1, hl.2, h3⟩

set_option maxHeartbeats 8000000 in
set_option maxRecDepth 100000 in
theorem own_walk {F : Nat → Prop} {A1 A2 : Option Addr} {n1 c1 n2 c2 : Nat} {g : GVal} (w : World) (h : RdVal w F A1 n1 c1 A2 n2 c2 g) (hs1 : n1 * 8 ≤ 140737488351232) (hs2 : n2 * 16 ≤ 140737488351232) (hx : g.text.size ≤ 140737488351232) (hts : ∀ s ∈ g.texts, s.size ≤ 140737488351232) :
    Calls Try.prog 10 #[g.val A1 n1 c1 A2 n2 c2] w fun e w' => e = .returned (.bool true) ∧ Same w w' := by
  have hx' : g.text.size ≤ 9223372036854775807 := by omega
  have hts' : ∀ s ∈ g.texts, s.size ≤ 9223372036854775807 := fun s hs => by have := hts s hs; omega
  have HSE := Lib.hid ((sameB_iff g g).2 rfl)
  obtain ⟨C, hC⟩ : ∃ C, chk g = C := ⟨_, rfl⟩
  obtain ⟨E, hE⟩ : ∃ E, enc g = E := ⟨_, rfl⟩
  have HC := Lib.hid hC
  have HE := Lib.hid hE
  have HZ := Lib.hid (show C ≠ 0 → E = [] from fun hn => by rw [← hE]; exact enc_nil (hC ▸ hn))
  have HR := Lib.hid (show C = 0 → decD E.length (decP E) = (g, 0) from fun hz => by
    rw [← hE]
    exact decD_enc (hC.trans hz) ⟨h.kind, h.num, h.range⟩)
  have hEl : E.length ≤ 40082 := by
    by_cases hz : C = 0
    · rw [← hE, enc_right (hC.trans hz)]
      exact right_len (chk_right (hC.trans hz))
    · rw [HZ.out hz]
      simp
  obtain ⟨kind, num, text, nums, texts⟩ := g
  simp only [GVal.val] at hx' hts' ⊢
  have HX := Lib.hid hx'
  have HT := Lib.hid hts'
  have HH := Lib.hid (rdval_lt h)
  have hsA := (Upd.refl (fun _ => False) w).alloc (.cells #[.int .i64 kind, .int .i64 num, .string text, .slice A1 n1 c1, .slice A2 n2 c2] 26)
  have hbA := Blk.new w 26 #[.int .i64 kind, .int .i64 num, .string text, .slice A1 n1 c1, .slice A2 n2 c2]
  clear h hx hts hx' hts' hC hE
  go_enter Try.func10, Try.ntmps10
  go_wp2_with fail
  refine (speaks_spec _).mono ?_
  rintro e w1 ⟨rfl, hsp⟩
  have hsB := hsA.same hsp
  have hbB := hbA.same hsp
  obtain ⟨k0, k1, k2, k3, k4⟩ := hbB.five
  clear hsA hbA hsp
  go_wp2_with fail
  -- want
  refine (renc_on _ _ HE.out hsB HH.out HX.out HT.out).mono ?_
  rintro e w2 ⟨Aw, nw, cw, rfl, hnw, hbw, hsC, hsD⟩
  have HNW := Lib.hid hnw
  have HBW := Lib.hid (show Bytes w2 (fun b => b < w2.heap.size) Aw nw cw E from Row.mono hbw fun _ hb _ => hb)
  have hnw' : nw ≤ 40082 := by omega
  have hbD := hbB.same hsC
  have hz0 : w.heap.size < w2.heap.size := hbD.lt
  clear hnw hbw hsC hsB hbB k0 k1 k2 k3 k4 hEl
  obtain ⟨k0, k1, k2, k3, k4⟩ := hbD.five
  go_wp2_with fail
  -- in
  refine (copy_on _ _ hsD HH.out (by omega) (by omega)).mono ?_
  rintro e w3 ⟨B1, m1, d1, B2, m2, d2, rfl, hrd, hsE, hsF⟩
  simp only [GVal.val]
  have hu := (Upd.refl (fun _ => False) w3).alloc (.cells #[.int .i64 kind, .int .i64 num, .string text, .slice B1 m1 d1, .slice B2 m2 d2] 26)
  have hb1 := Blk.new w3 26 #[.int .i64 kind, .int .i64 num, .string text, .slice B1 m1 d1, .slice B2 m2 d2]
  have HI := Lib.hid (hrd.same hu)
  have HBW2 := Lib.hid ((HBW.out.same hsE).same hu)
  have hbE := (hbD.same hsE).same hu
  have hsG := hsF.same hu
  have hz1 : w2.heap.size ≤ w3.heap.size := hsE.size
  clear k0 k1 k2 k3 k4 hbD hrd hu hsE hsF hsD HBW
  obtain ⟨k0, k1, k2, k3, k4⟩ := hb1.five
  go_upto_region 5 with fail
  generalize w3.alloc (.cells #[.int .i64 kind, .int .i64 num, .string text, .slice B1 m1 d1, .slice B2 m2 d2] 26) = w4 at *
  go_wp2_with fail
  -- a
  refine (enc_own _ HE.out HC.out HI.out HX.out HT.out).mono ?_
  rintro e w5 ⟨Aa, na, ca, rfl, hna, HOa, hsE⟩
  have HBW3 := Lib.hid (HBW2.out.same hsE)
  have HI2 := Lib.hid (HI.out.same hsE)
  have hb2 := hb1.same hsE
  have hbF := hbE.same hsE
  have hsH := hsG.same hsE
  have hz2 : w4.heap.size ≤ w5.heap.size := hsE.size
  have hz3 : w3.heap.size < w4.heap.size := hb1.lt
  have hna' : na ≤ 40082 := by have := HNW.out; omega
  clear k0 k1 k2 k3 k4 hsE HBW2 hb1 hbE hsG hna
  obtain ⟨k0, k1, k2, k3, k4⟩ := hb2.five
  go_wp2_with fail
  -- b
  refine (enc_own _ HE.out HC.out HI2.out HX.out HT.out).mono ?_
  rintro e w6 ⟨Ab, nb, cb, rfl, hnb, HOb, hsE⟩
  have HBW4 := Lib.hid (HBW3.out.same hsE)
  have hbG := hbF.same hsE
  have hsI := hsH.same hsE
  have HOa2 := Lib.hid (own_same HOa.out hsE)
  have HNa := Lib.hid (show ∀ g, (Value.slice Aa na ca).ownBlock = some g → g < w5.heap.size from fun g hg => (HOa.out.lt g hg).2)
  have hz4 : w5.heap.size ≤ w6.heap.size := hsE.size
  have HNb := Lib.hid hnb
  have HBb := Lib.hid (show Bytes w6 (fun b => w5.heap.size ≤ b) Ab nb cb E from by
    have h1 := HOb.out
    have h2 := Row.of_own h1
    exact Row.mono h2 fun _ _ hb => hb.2)
  have hnb' : nb ≤ 40082 := by have := HNW.out; omega
  clear k0 k1 k2 k3 k4 hsE HBW3 hb2 hbF hsH HOa HOb HI HI2 hnb
  go_wp2_with fail
  -- a[i] = 0xee
  go_loopw [36] (fun i wr => ∃ k : Nat, k ≤ na ∧ i = .int .i64 k ∧ Hid (Upd (fun b => w4.heap.size ≤ b ∧ b < w5.heap.size) w6 wr) ∧ Hid (∃ xs, wr.ownsRow w4.heap.size 5 1 (.slice Aa na ca) na xs)) (fun i _ => na - (intOf i).toNat)
  case atStart => exact ⟨0, Nat.zero_le _, rfl, Lib.hid (Upd.refl _ _), Lib.hid ⟨_, HOa2.out⟩⟩
  case round =>
    obtain ⟨k, hk, rfl, KU, KO⟩ := hrel
    by_cases hlt : k < na
    · obtain ⟨g, rfl, hB, hgl, ⟨u, hc⟩, hf, hput⟩ := own_put KO.out hlt
      have HP := Lib.hid hput
      have hg5 := HNa.out g rfl
      clear hput
      go_wp2
      go_roundw
      case rel => exact ⟨k + 1, by omega, by go_num, Lib.hid (KU.out.setCell (p := ⟨g, k, none⟩) (.inl ⟨hB, hg5⟩) _), Lib.hid (HP.out _)⟩
      case measure => simp [intOf]; omega
    · have HUa := Lib.hid KU.out
      obtain ⟨xs, KO⟩ := KO.out
      have HO := Lib.hid KO
      clear HOa2 KO
      have hszr : w6.heap.size ≤ wr.heap.size := KU.out.size
      have hlo : ∀ g, (Value.slice Aa na ca).ownBlock = some g → w4.heap.size ≤ g := fun g hg => (HO.out.lt g hg).1
      have HLo := Lib.hid hlo
      clear hlo
      go_wp2_with (at_builtin; go_must (refine wpList_app rfl (.tmp 43) (.tmp 44) _ _ rfl w4.heap.size 5 1 1 _ Try.underlying33 info_u8 rfl (.slice Aa na ca) na _ rfl (HO.out.alloc _) rfl (src_row Try.underlying33 (Row.one _ _ _) (by simp [Value.oneCell'])) (by unfold maxLen; omega) (by omega) (by simp; omega) ?_); intro v' w7 hg; have HG := Lib.hid hg; clear hg)
      have HU := Lib.hid (show Upd (fun b => w4.heap.size ≤ b ∧ b < w5.heap.size) w6 w7 from (HUa.out.alloc _).trans HG.out.upd fun b _ hv => ⟨HLo.out b hv, HNa.out b hv⟩)
      have hbH := hbG.upd HU.out (by omega)
      have hsJ : Same w w7 := hsI.trans HU.out fun b hb hh => by omega
      have HB1 := Lib.hid (Row.mono (Bytes.upd HBb.out HU.out fun b hb hh => by omega) (F' := fun _ => True) fun _ _ _ => trivial)
      have HB2 := Lib.hid (Row.mono (Bytes.upd HBW4.out HU.out fun b hb hh => by omega) (F' := fun _ => True) fun _ _ _ => trivial)
      clear HG HU HO HUa KU hbG hsI HBb HBW4 HNa HLo hszr
      go_wp2_with fail
      refine (lsame_on _ _ (decide_eq_true (rfl : E = E)) (Upd.refl _ _) HB1.out HB2.out).mono ?_
      rintro e w8 ⟨rfl, hsK, _⟩
      have HB3 := Lib.hid (HB2.out.same hsK)
      have hbI := hbH.same hsK
      have hsL := hsJ.same hsK
      clear hsK HB1 HB2 hsJ hbH
      obtain ⟨⟨⟨kx, nx, tx, nsx, tsx⟩, ex⟩, hD⟩ : ∃ D, decD nw (decP E) = D := ⟨_, rfl⟩
      have HD := Lib.hid hD
      clear hD
      go_wp2_with fail
      -- raw
      refine (lclone_spec _ HB3.out (by omega)).mono ?_
      rintro e w9 ⟨v, rfl, ho, hsM⟩
      have ho2 : w9.ownsRow w8.heap.size 5 1 v nw (E.map u8v) := by rw [← HNW.out]; exact ho
      obtain ⟨Ar, cr, rfl⟩ := own_form ho2
      have HOr := Lib.hid ho2
      have hbJ := hbI.same hsM
      have hsN := hsL.same hsM
      have hy1 : w8.heap.size ≤ w9.heap.size := hsM.size
      have hy0 : w.heap.size < w8.heap.size := hbI.lt
      clear ho ho2 hsM hbI hsL HB3
      go_wp2_with fail
      -- x
      refine (dec_own _ HD.out (Row.of_own HOr.out)).mono ?_
      rintro e w10 ⟨X1, x1, y1, X2, x2, y2, rfl, HX1, HX2, hx1, hx2, hsM⟩
      simp only [GVal.val]
      have hu := (Upd.refl (fun _ => False) w10).alloc (.cells #[.int .i64 kx, .int .i64 nx, .string tx, .slice X1 x1 y1, .slice X2 x2 y2] 26)
      have hbx := Blk.new w10 26 #[.int .i64 kx, .int .i64 nx, .string tx, .slice X1 x1 y1, .slice X2 x2 y2]
      have HOr2 := Lib.hid (own_same HOr.out (hsM.same hu))
      have HX3 := Lib.hid (own_same HX1.out hu)
      have HX4 := Lib.hid (own_same HX2.out hu)
      have hbK := (hbJ.same hsM).same hu
      have hsO := (hsN.same hsM).same hu
      have hy2 : w9.heap.size ≤ w10.heap.size := hsM.size
      have hy3 := hbx.lt
      have HXa := Lib.hid (show ∀ g, (Value.slice X1 x1 y1).ownBlock = some g → g < w10.heap.size from fun g hg => (HX1.out.lt g hg).2)
      have HXb := Lib.hid (show ∀ g, (Value.slice X2 x2 y2).ownBlock = some g → g < w10.heap.size from fun g hg => (HX2.out.lt g hg).2)
      have HXr := Lib.hid (show ∀ g, (Value.slice Ar nw cr).ownBlock = some g → g < w9.heap.size from fun g hg => (HOr.out.lt g hg).2)
      clear hu hsM hsN hbJ HX1 HX2 HOr
      go_upto_region 17 with fail
      generalize w10.alloc (.cells #[.int .i64 kx, .int .i64 nx, .string tx, .slice X1 x1 y1, .slice X2 x2 y2] 26) = w11 at *
      go_wp2_with fail
      -- y
      refine (dec_on _ _ HD.out (Upd.refl _ _) (Row.of_own HOr2.out)).mono ?_
      rintro e w12 ⟨Y1, u1, s1, Y2, u2, s2, rfl, hv, hsM, _⟩
      simp only [GVal.val]
      have hu := (Upd.refl (fun _ => False) w12).alloc (.cells #[.int .i64 kx, .int .i64 nx, .string tx, .slice Y1 u1 s1, .slice Y2 u2 s2] 26)
      have hby := Blk.new w12 26 #[.int .i64 kx, .int .i64 nx, .string tx, .slice Y1 u1 s1, .slice Y2 u2 s2]
      have HY := Lib.hid (hv.same hu)
      have HOr3 := Lib.hid (own_same HOr2.out (hsM.same hu))
      have HX5 := Lib.hid (own_same HX3.out (hsM.same hu))
      have HX6 := Lib.hid (own_same HX4.out (hsM.same hu))
      have hbL := (hbK.same hsM).same hu
      have hbx2 := (hbx.same hsM).same hu
      have hsP := (hsO.same hsM).same hu
      have hy4 : w11.heap.size ≤ w12.heap.size := hsM.size
      clear hu hsM hsO hbK hbx HX3 HX4 HOr2 hv
      go_upto_block 49 with fail
      have HBy := Lib.hid hby
      have hy5 := hby.lt
      clear hby
      generalize w12.alloc (.cells #[.int .i64 kx, .int .i64 nx, .string tx, .slice Y1 u1 s1, .slice Y2 u2 s2] 26) = w13 at *
      have HBx := Lib.hid hbx2
      have HBv := Lib.hid hbL
      have HSP := Lib.hid hsP
      clear hbx2 hbL hsP
      go_loopw [64] (fun i wr => ∃ k : Nat, k ≤ nw ∧ i = .int .i64 k ∧ Hid (Upd (fun b => w8.heap.size ≤ b ∧ b < w9.heap.size) w13 wr) ∧ Hid (∃ xs, wr.ownsRow w8.heap.size 5 1 (.slice Ar nw cr) nw xs)) (fun i _ => nw - (intOf i).toNat)
      case atStart => exact ⟨0, Nat.zero_le _, rfl, Lib.hid (Upd.refl _ _), Lib.hid ⟨_, HOr3.out⟩⟩
      case round =>
        obtain ⟨k, hk, rfl, KU, KO⟩ := hrel
        by_cases hlt : k < nw
        · obtain ⟨g, rfl, hB, hgl, ⟨u, hc⟩, hf, hput⟩ := own_put KO.out hlt
          have HP := Lib.hid hput
          have hg5 := HXr.out g rfl
          clear hput
          go_wp2
          go_roundw
          case rel => exact ⟨k + 1, by omega, by go_num, Lib.hid (KU.out.setCell (p := ⟨g, k, none⟩) (.inl ⟨hB, hg5⟩) _), Lib.hid (HP.out _)⟩
          case measure => simp [intOf]; omega
        · have hbv := HBv.out.upd KU.out (by omega)
          have HU1 := Lib.hid (KU.out.mono (S' := fun b => w8.heap.size ≤ b ∧ b < w11.heap.size) fun b _ hh => by omega)
          have HX7 := Lib.hid (own_upd HX5.out KU.out fun g hg hh => by have := (HX5.out.lt g hg).1; omega)
          have HX8 := Lib.hid (own_upd HX6.out KU.out fun g hg hh => by have := (HX6.out.lt g hg).1; omega)
          have hbx := HBx.out.upd KU.out (by omega)
          have hsQ : Same w wr := HSP.out.trans KU.out fun b hb hh => by omega
          have HH2 := Lib.hid (HH.out.same hsQ)
          clear KU KO HX5 HX6 HXr HOr3
          obtain ⟨k0, k1, k2, k3, k4⟩ := hbv.five
          go_wp2_with fail
          refine (rcheck_on _ _ HC.out (Upd.refl _ _) HH2.out HX.out HT.out).mono ?_
          rintro e w15 ⟨rfl, hsR, _⟩
          by_cases hz : C = 0
          · subst hz
            have HU2 := Lib.hid (HU1.out.same hsR)
            have hbx2 := hbx.same hsR
            have HBv2 := Lib.hid (hbv.same hsR)
            have HX9 := Lib.hid (own_same HX7.out hsR)
            have HX10 := Lib.hid (own_same HX8.out hsR)
            clear hsR hbx hbv k0 k1 k2 k3 k4 HX7 HX8 HU1 hsQ HH2
            have hr3 : w15.cell? ⟨w10.heap.size, 3, none⟩ = some (.slice X1 x1 y1) := hbx2.cell 3
            go_wp2_with fail
            have HBx2 := Lib.hid hbx2
            clear hbx2 hr3
            go_loopw [80] (fun i wr => ∃ k : Nat, k ≤ x1 ∧ i = .int .i64 k ∧ Hid (Blk wr w10.heap.size 26 #[.int .i64 kx, .int .i64 nx, .string tx, .slice X1 x1 y1, .slice X2 x2 y2]) ∧ Hid (Upd (fun b => w8.heap.size ≤ b ∧ b < w11.heap.size) w13 wr) ∧ Hid (∃ xs, wr.ownsRow w9.heap.size 2 1 (.slice X1 x1 y1) x1 xs) ∧ Hid (wr.ownsRow w9.heap.size 9 1 (.slice X2 x2 y2) x2 (tsx.map Value.string))) (fun i _ => x1 - (intOf i).toNat)
            case atStart => exact ⟨0, Nat.zero_le _, rfl, HBx2, HU2, Lib.hid ⟨_, HX9.out⟩, HX10⟩
            case round =>
              obtain ⟨k, hk, rfl, KB, KU, KO, KT⟩ := hrel
              have hr3 : wr.cell? ⟨w10.heap.size, 3, none⟩ = some (.slice X1 x1 y1) := KB.out.cell 3
              by_cases hlt : k < x1
              · obtain ⟨g, rfl, hB, hgl, ⟨u, hc⟩, hf, hput⟩ := own_put KO.out hlt
                have HP := Lib.hid hput
                have hg5 := HXa.out g rfl
                have HNE := Lib.hid (show g ≠ w10.heap.size by omega)
                have HUg := Lib.hid (fun u => (Upd.refl (fun b => b = g) wr).put1 (i := k) u)
                have HT2 := Lib.hid (show ∀ g', (Value.slice X2 x2 y2).ownBlock = some g' → g' ≠ g from fun g' hg' e => by
                  obtain ⟨xs, hxs⟩ := KO.out
                  exact own_ne_own KT.out hxs (by decide) g' hg' (by rw [e]; rfl))
                clear hput
                go_wp2
                go_roundw
                case rel => exact ⟨k + 1, by omega, by go_num, Lib.hid (KB.out.far (p := ⟨g, k, none⟩) (Ne.symm HNE.out) _), Lib.hid (KU.out.setCell (p := ⟨g, k, none⟩) (.inl (show w8.heap.size ≤ g ∧ g < w11.heap.size from ⟨by omega, by omega⟩)) _), Lib.hid (HP.out _), Lib.hid (own_upd KT.out (HUg.out _) fun g' hg' => HT2.out g' hg')⟩
                case measure => simp [intOf]; omega
              · obtain ⟨xs, KO⟩ := KO.out
                have HO := Lib.hid KO
                clear KO HU2 HX9 HX10 HBx2
                have HLo := Lib.hid (show ∀ g, (Value.slice X1 x1 y1).ownBlock = some g → w8.heap.size ≤ g ∧ g < w11.heap.size from fun g hg => by have h1 := (HO.out.lt g hg).1; have h2 := HXa.out g hg; omega)
                have hzr : w13.heap.size ≤ wr.heap.size := KU.out.size
                have HNX := Lib.hid (KB.out.ne_own HO.out (by decide))
                go_wp2_with (at_builtin; go_must (refine wpList_app rfl (.tmp 89) (.tmp 90) _ _ rfl w9.heap.size 2 1 8 _ Try.underlying23 info_i64 rfl (.slice X1 x1 y1) x1 _ rfl (HO.out.alloc _) rfl (src_row (m := 3) (c := 3) Try.underlying23 (Row.of_blk (Blk.new _ _ _) rfl (Nat.le_refl _) (by simp [maxLen])) (by simp [Value.oneCell'])) (by unfold maxLen; omega) (by omega) (by simp; omega) ?_); intro v' w16 hg; obtain ⟨A', m', c', rfl⟩ := own_slice hg.own; have s1 : w16.cell? ⟨w10.heap.size, 3, none⟩ = some (.slice X1 x1 y1) := (hg.blk (KB.out.alloc _) HNX.out).cell 3; have s2 : w16.frozen? ⟨w10.heap.size, 3, none⟩ = false := (hg.blk (KB.out.alloc _) HNX.out).frozen 3; have s3 : w16.cell? ⟨w10.heap.size, 4, none⟩ = some (.slice X2 x2 y2) := (hg.blk (KB.out.alloc _) HNX.out).cell 4; have HG := Lib.hid hg; clear hg)
                go_upto_block 72 with fail
                obtain ⟨f1, f2, f3⟩ := field_app (i := 3) KB.out HO.out (by decide) ((Upd.refl _ wr).alloc _) HG.out
                have HF1 := Lib.hid (show Blk _ w10.heap.size 26 #[.int .i64 kx, .int .i64 nx, .string tx, .slice A' m' c', .slice X2 x2 y2] from f1)
                have HF3 := Lib.hid (KU.out.trans f3 fun b _ hh => by
                  rcases hh with hh | hh
                  · omega
                  · exact HLo.out b hh)
                have HT3 := Lib.hid (own_upd KT.out f3 fun g' hg' hh => by
                  rcases hh with hh | hh
                  · exact KB.out.ne_own KT.out (by decide) (hh ▸ hg')
                  · exact own_ne_own KT.out HO.out (by decide) g' hg' hh)
                clear f1 f2 f3 HG HO KB KU KT HLo s1 s2 s3 hr3 HNX
                generalize w16.setCell ⟨w10.heap.size, 3, none⟩ (.slice A' m' c') = w17 at *
                go_loopw [96] (fun i wr => ∃ k : Nat, k ≤ x2 ∧ i = .int .i64 k ∧ Hid (Blk wr w10.heap.size 26 #[.int .i64 kx, .int .i64 nx, .string tx, .slice A' m' c', .slice X2 x2 y2]) ∧ Hid (Upd (fun b => w8.heap.size ≤ b ∧ b < w11.heap.size) w13 wr) ∧ Hid (∃ xs, wr.ownsRow w9.heap.size 9 1 (.slice X2 x2 y2) x2 xs)) (fun i _ => x2 - (intOf i).toNat)
                case atStart => exact ⟨0, Nat.zero_le _, rfl, HF1, HF3, Lib.hid ⟨_, HT3.out⟩⟩
                case round =>
                  obtain ⟨k, hk, rfl, KB, KU, KO⟩ := hrel
                  have hr3 : wr.cell? ⟨w10.heap.size, 4, none⟩ = some (.slice X2 x2 y2) := KB.out.cell 4
                  by_cases hlt : k < x2
                  · obtain ⟨g, rfl, hB, hgl, ⟨u, hc⟩, hf, hput⟩ := own_put KO.out hlt
                    have HP := Lib.hid hput
                    have hg5 := HXb.out g rfl
                    have HNE := Lib.hid (show g ≠ w10.heap.size by omega)
                    clear hput
                    go_wp2
                    go_roundw
                    case rel => exact ⟨k + 1, by omega, by go_num, Lib.hid (KB.out.far (p := ⟨g, k, none⟩) (Ne.symm HNE.out) _), Lib.hid (KU.out.setCell (p := ⟨g, k, none⟩) (.inl (show w8.heap.size ≤ g ∧ g < w11.heap.size from ⟨by omega, by omega⟩)) _), Lib.hid (HP.out _)⟩
                    case measure => simp [intOf]; omega
                  · obtain ⟨xs, KO⟩ := KO.out
                    have HO := Lib.hid KO
                    clear KO HF1 HF3 HT3
                    have HLo := Lib.hid (show ∀ g, (Value.slice X2 x2 y2).ownBlock = some g → w8.heap.size ≤ g ∧ g < w11.heap.size from fun g hg => by have h1 := (HO.out.lt g hg).1; have h2 := HXb.out g hg; omega)
                    have hzr : w13.heap.size ≤ wr.heap.size := KU.out.size
                    have HNX := Lib.hid (KB.out.ne_own HO.out (by decide))
                    go_upto_region 37 with (at_builtin; go_must (refine wpList_app rfl (.tmp 105) (.tmp 106) _ _ rfl w9.heap.size 9 1 16 _ Try.underlying24 info_string rfl (.slice X2 x2 y2) x2 _ rfl (HO.out.alloc _) rfl (src_row (m := 3) (c := 3) Try.underlying24 (Row.of_blk (Blk.new _ _ _) rfl (Nat.le_refl _) (by simp [maxLen])) (by simp [Value.oneCell'])) (by unfold maxLen; omega) (by omega) (by simp; omega) ?_); intro v' w18 hg; obtain ⟨A'', m'', c'', rfl⟩ := own_slice hg.own; have s1 : w18.cell? ⟨w10.heap.size, 4, none⟩ = some (.slice X2 x2 y2) := (hg.blk (KB.out.alloc _) HNX.out).cell 4; have s2 : w18.frozen? ⟨w10.heap.size, 4, none⟩ = false := (hg.blk (KB.out.alloc _) HNX.out).frozen 4; have HG := Lib.hid hg; clear hg)
                    obtain ⟨f1, f2, f3⟩ := field_app (i := 4) KB.out HO.out (by decide) ((Upd.refl _ wr).alloc _) HG.out
                    have HF3 := Lib.hid (KU.out.trans f3 fun b _ hh => by
                      rcases hh with hh | hh
                      · omega
                      · exact HLo.out b hh)
                    clear f1 f2 f3 HG HO KB KU HLo s1 s2 hr3 HNX
                    generalize w18.setCell ⟨w10.heap.size, 4, none⟩ (.slice A'' m'' c'') = w19 at *
                    have hbv := HBv.out.upd HF3.out (by omega)
                    have hby := HBy.out.upd HF3.out (by omega)
                    have hsQ : Same w w19 := HSP.out.trans HF3.out fun b hb hh => by omega
                    have HH2 := Lib.hid ((HH.out.same hsQ).mono (F' := fun _ => True) fun _ _ _ => trivial)
                    have HY2 := Lib.hid ((HY.out.upd HF3.out fun b hb hh => by omega).mono (F' := fun _ => True) fun _ _ _ => trivial)
                    have HSx := Lib.hid (show sameB ⟨kx, nx, tx, nsx, tsx⟩ ⟨kind, num, text, nums, texts⟩ = true from by
                      have h1 := HR.out (by trivial)
                      rw [HNW.out, HD.out] at h1
                      injection h1 with h1 _
                      rw [h1]
                      exact HSE.out)
                    obtain ⟨k0, k1, k2, k3, k4⟩ := hbv.five
                    obtain ⟨q0, q1, q2, q3, q4⟩ := hby.five
                    clear hbv hby HF3
                    go_wp2_with fail
                    refine (rsame_r _ _ HSx.out (Upd.refl _ _) HY2.out HH2.out).mono ?_
                    rintro e w20 ⟨rfl, _, hsR⟩
                    go_wp2
                    go_ret
                    exact ⟨rfl, hsQ.same hsR⟩
          · have HE0 := HZ.out hz
            have hz' : (C != 0) = true := by rw [bne_iff_ne]; exact hz
            have hnb0 : nb = 0 := by rw [← HNb.out, HE0]; rfl
            subst hnb0
            have hsS := hsQ.same hsR
            clear HE0 hsR hsQ
            go_wp2
            go_ret
            exact ⟨rfl, hsS⟩
end Go.Proofs.Ytfgdgpingdgfgaa
