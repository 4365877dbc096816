/- Package slots: Pack. -/
import Derived.Test.YtheinbigegobkaaPackL
import Derived.Test.YtheinbigegobkaaWire5
import Derived.Deep.DeepCutAuto
import Derived.Deep.CutRange
import Derived.Deep.OwnRows
import Derived.Deep.QuietTactic
import Derived.BigQuiet
namespace Go.Proofs.Ytheinbigegobkaa
open Go.RowKit

/-- Encode, its answer in new memory. -/
theorem enc_new {F : Nat → Prop} {A1 A2 : Option Addr} {n1 c1 n2 c2 : Nat} {g : GVal} {E : List UInt8} {C : Int} (w : World) (hE : enc g = E) (hC : chk g = C) (h : RdVal w F A1 n1 c1 A2 n2 c2 g) (hx : g.text.size ≤ 9223372036854775807) (hts : ∀ s ∈ g.texts, s.size ≤ 9223372036854775807) :
    Calls Try.prog 23 #[g.val A1 n1 c1 A2 n2 c2] w fun e w' => ∃ A n c, e = .returned (.tuple #[.slice A n c, .int .i64 C]) ∧ E.length = n ∧ Hid (Bytes w' (fun b => w.heap.size ≤ b ∧ b < w'.heap.size) A n c E) ∧ Same w w' := by
  subst hE hC
  refine (encode_spec w h hx hts).mono ?_
  rintro e w' ⟨v, rfl, ho, h2⟩
  obtain ⟨A, c, rfl⟩ := own_form ho
  exact ⟨A, _, c, rfl, rfl, Lib.hid (Row.mono (Row.of_own ho) fun _ hb hh => ⟨hh.2, hb⟩), h2⟩
theorem inPlace_new {F : Nat → Prop} {A : Option Addr} {n c : Nat} {d : List UInt8} (w : World) (key : Int) (a0 a1 a2 a3 a4 : Value) (hk : 0 ≤ key ∧ key ≤ 199) (hb : Bytes w F A n c d) (hn : n ≤ 1000000) :
    Calls Try.prog 24 #[.agg #[.int .i64 key, a0, a1, a2, a3, a4], .slice A n c] w fun e w' => ∃ A' m c', e = .returned (.slice A' m c') ∧ m = pad8 (2 + n) ∧ Hid (Bytes w' (fun b => w.heap.size ≤ b ∧ b < w'.heap.size) A' m c' (inl key d)) ∧ Same w w' := by
  refine (inPlace_spec w key a0 a1 a2 a3 a4 hk hb hn).mono ?_
  rintro e w' ⟨v, rfl, ho, h2⟩
  obtain ⟨A', c', rfl⟩ := own_form ho
  exact ⟨A', _, c', rfl, by rw [inl_len, hb.len], Lib.hid (Row.mono (Row.of_own ho) fun _ hb hh => ⟨hh.2, hb⟩), h2⟩

theorem made_zeros (n : Nat) : madeCells #[Value.int .u8 0] n = ((padz [] n).map u8v).toArray := by
  apply Array.ext
  · simp [madeCells, padz]
  · intro i h1 h2
    simp [madeCells, padz, u8v, Nat.mod_one]
theorem splice_padz (s d : List UInt8) (m : Nat) (_ : s.length + d.length ≤ m) : splice (((padz s m).map u8v).toArray.toList) s.length (d.map u8v) = (padz (s ++ d) m).map u8v := by
  unfold splice padz
  rw [List.length_map, ← List.map_take, ← List.map_drop, ← List.map_append, ← List.map_append]
  congr 1
  rw [List.take_left' rfl, List.append_assoc]
  congr 1
  congr 1
  rw [Nat.add_comm, List.drop_append, List.drop_eq_nil_of_le (by omega), List.nil_append, Nat.add_sub_cancel, List.drop_replicate, List.length_append]
  congr 1
  omega
theorem padz_len (s : List UInt8) (m : Nat) (h : s.length ≤ m) : (padz s m).length = m := by
  unfold padz
  rw [List.length_append, List.length_replicate]
  omega

theorem pack_bad {w wr : World} (hs : Same w wr) {S O : List UInt8} {E E1 : Int} (hE : (S, O, E) = ([], [], E1)) :
    ∃ v1 v2, Ending.returned (.tuple #[.slice none 0 0, .slice none 0 0, .int .i64 E1]) = .returned (.tuple #[v1, v2, .int .i64 E]) ∧ OwnB wr w.heap.size v1 S ∧ OwnB wr w.heap.size v2 O ∧ (∀ g, v1.ownBlock = some g → v2.ownBlock ≠ some g) ∧ Same w wr := by
  injection hE with h1 h2
  injection h2 with h2 h3
  subst h1 h2 h3
  exact ⟨_, _, rfl, World.ownsRow_nil _ _ _ _, World.ownsRow_nil _ _ _ _, by intro g hg; simp [Value.ownBlock] at hg, hs⟩

set_option maxHeartbeats 8000000 in
set_option maxRecDepth 100000 in
theorem pack_spec {F : Nat → Prop} {A : Option Addr} {n c : Nat} {ls : List KV} (w : World) (h : RdKV w F A n c ls) (hf : KVFit ls) (room : Int) (hr : -9223372036854775808 ≤ room ∧ room ≤ 9223372036854775807) {S O : List UInt8} {E : Int} (hP : packP (ls.map KV.dat) room = (S, O, E)) :
    Calls Try.prog 16 #[.slice A n c, .int .i64 room] w fun e w' => ∃ v1 v2, e = .returned (.tuple #[v1, v2, .int .i64 E]) ∧ OwnB w' w.heap.size v1 S ∧ OwnB w' w.heap.size v2 O ∧ (∀ g, v1.ownBlock = some g → v2.ownBlock ≠ some g) ∧ Same w w' := by
  obtain ⟨hr0, hr1⟩ := hr
  have hmx := h.row.max
  have hle := h.row.le
  unfold maxLen at hmx
  have hn : n ≤ 9223372036854775807 := by omega
  have HL := Lib.hid h.len
  have HR := Lib.hid h
  have HF := Lib.hid hf
  have HP := Lib.hid hP
  clear h hf hP hmx
  by_cases ha : room < 0 ∨ 16 < room
  · have HE := Lib.hid ((HP.out.symm.trans (packP_arg ha)))
    rcases ha with ha | ha
    all_goals
      go_enter Try.func16, Try.ntmps16
      go_wp2
      go_ret3
      exact pack_bad (Upd.refl _ w) HE.out
  have ha0 : 0 ≤ room := by omega
  have ha1 : room ≤ 16 := by omega
  have HA := Lib.hid ha
  clear ha
  by_cases hm : 16 < n
  · have HE := Lib.hid (HP.out.symm.trans (packP_many HA.out (by rw [List.length_map, HL.out]; exact hm)))
    go_enter Try.func16, Try.ntmps16
    go_wp2
    go_ret3
    exact pack_bad (Upd.refl _ w) HE.out
  have hn16 : n ≤ 16 := by omega
  have HM := Lib.hid (show ¬ 16 < (ls.map KV.dat).length by rw [List.length_map, HL.out]; exact hm)
  obtain ⟨E0, hE0⟩ : ∃ E0, packErr (-1) (ls.map KV.dat) = E0 := ⟨_, rfl⟩
  have HErr := Lib.hid (fun hne => HP.out.symm.trans (packP_err HA.out HM.out hE0 hne))
  have HE0 := Lib.hid hE0
  have HE0X := Lib.hid hE0
  clear hm hE0
  obtain ⟨R, rfl⟩ := Int.eq_ofNat_of_zero_le ha0
  have hR16 : R ≤ 16 := by omega
  have hmk := run_make_row' (P := Try.prog) 32 5 (.int .u8 0) 1 Try.underlying32 info_u8 rfl .i64 .i64 (R * 8) (by omega) (by omega)
  have hRe : ((R * 8 : Nat) : Int) = (R : Int) * 8 := by omega
  rw [hRe] at hmk
  clear hRe
  have hs0 := (Upd.refl (fun _ => False) w).alloc (.cells (madeCells #[.int .u8 0] (R * 8)) 5)
  have hb0 := Blk.new w 5 (madeCells #[.int .u8 0] (R * 8))
  rw [made_zeros] at hs0 hb0 hmk
  have HS0 := Lib.hid hs0
  have HB0 := Lib.hid hb0
  clear hs0 hb0
  go_enter Try.func16, Try.ntmps16
  go_wp2_with fail
  refine (newWriter_spec _).mono ?_
  rintro e w2 ⟨r, rfl, hw, hs2⟩
  rw [World.size_alloc] at hw
  have HB2 := Lib.hid (HB0.out.same hs2)
  have HS2 := Lib.hid (HS0.out.same hs2)
  have HW2 := Lib.hid hw
  clear hs2 hw HB0 HS0 hmk
  obtain ⟨G, hG⟩ : ∃ G, w.heap.size = G := ⟨_, rfl⟩
  have HG := Lib.hid hG
  rw [hG] at HB2 HW2 ⊢
  clear hG
  have hsz2 := HB2.out.lt
  go_wp2_with fail
  go_loopg [4, 8, 31] n (fun g sl at8 i wr => ∃ (k m1 : Nat) (s1 s2 : List UInt8), sl = .slice (some ⟨G, 0, none⟩) (R * 8) (R * 8) ∧ k ≤ n ∧ g = n - k ∧ i = .int .i64 k ∧ at8 = .int .i64 m1 ∧ m1 ≤ R * 8 ∧ Hid (s1.length = m1) ∧ Hid (((ls.take k).map KV.dat).foldl (packStep (8 * R)) ([], []) = (s1, s2)) ∧ Hid (packErr (prevK ls k) ((ls.map KV.dat).drop k) = E0) ∧ Hid (Same w wr) ∧ Hid (Blk wr G 5 ((padz s1 (R * 8)).map u8v).toArray) ∧ Hid (Wtr wr (G + 1) r s2))
  case atStart => exact ⟨0, 0, [], [], rfl, Nat.zero_le _, rfl, rfl, rfl, Nat.zero_le _, Lib.hid rfl, Lib.hid rfl, HE0, HS2, HB2, HW2⟩
  case round =>
    obtain ⟨k, m1, s1, s2, rfl, hk, rfl, rfl, rfl, hm1, KL, KST, KE, KS, KB, KW⟩ := hrel
    clear HE0 HS2 HB2 HW2
    obtain ⟨wv, hwv⟩ := KW.out.open
    have hrlt := hwv.lt
    have hrG := hwv.1
    have HWlt := Lib.hid (show ∀ g, wv.ownBlock = some g → G + 1 ≤ g ∧ g < wr.heap.size from hwv.2.2.lt)
    have KV' := Lib.hid hwv
    clear hwv
    have hszr : G < wr.heap.size := KB.out.lt
    by_cases hlt : k < n
    · obtain ⟨b, o, x, rfl, hb, _, hx, hxm, hkv⟩ := (HR.out.same KS.out).at_ hlt
      have HX := Lib.hid hx
      have HV := Lib.hid ((HR.out.same KS.out).val x hxm)
      have HT := Lib.hid (HF.out x hxm)
      have HEx := Lib.hid (packErr_at KE.out hx)
      have HK := Lib.hid (HR.out.key x hxm)
      obtain ⟨kx, ⟨x0, x1, x2, x3, x4⟩, X1, a1, b1, X2, a2, b2⟩ := x
      simp only at hkv
      have hkx0 : -9223372036854775808 ≤ kx := HK.out.1
      have hkx1 : kx ≤ 9223372036854775807 := HK.out.2
      clear hx hxm
      obtain ⟨r0, r1, r2, r3, r4, r5⟩ := hkv
      have r2' : wr.cell? ⟨b, o + k * 6 + 2, none⟩ = some (.int .i64 x1) := r2
      have r3' : wr.cell? ⟨b, o + k * 6 + 3, none⟩ = some (.string x2) := r3
      have r4' : wr.cell? ⟨b, o + k * 6 + 4, none⟩ = some (.slice X1 a1 b1) := r4
      have r5' : wr.cell? ⟨b, o + k * 6 + 5, none⟩ = some (.slice X2 a2 b2) := r5
      have hu := (Upd.refl (fun _ => False) wr).alloc (.cells #[.int .i64 kx, .int .i64 x0, .int .i64 x1, .string x2, .slice X1 a1 b1, .slice X2 a2 b2] 47)
      have hbx := Blk.new wr 47 #[.int .i64 kx, .int .i64 x0, .int .i64 x1, .string x2, .slice X1 a1 b1, .slice X2 a2 b2]
      go_upto_region 11 with fail
      have HU := Lib.hid hu
      have HBX := Lib.hid hbx
      have HRx := Lib.hid ((HR.out.same KS.out).same hu)
      have HS3 := Lib.hid (KS.out.same hu)
      have HB3 := Lib.hid (KB.out.same hu)
      have HW3 := Lib.hid (KV'.out.same hu)
      have HV3 := Lib.hid (HV.out.same hu)
      have hsz3 := hu.size
      have hlt3 := hbx.lt
      clear hu hbx r0 r1 r2 r3 r4 r5 r2' r3' r4' r5' KS KB KW KV' HV
      generalize wr.alloc (.cells #[.int .i64 kx, .int .i64 x0, .int .i64 x1, .string x2, .slice X1 a1 b1, .slice X2 a2 b2] 47) = w3 at *
      have q0 : w3.cell? ⟨wr.heap.size, 0, none⟩ = some (.int .i64 kx) := HBX.out.cell 0
      by_cases hbad : kx < 0 ∨ 200 ≤ kx
      · have HE2 := Lib.hid (HEx.out.trans (if_pos hbad))
        have HE := Lib.hid (HErr.out (by rw [HE2.out]; decide))
        rw [HE2.out] at HE
        rcases hbad with hbad | hbad
        all_goals
          go_wp2
          go_ret3
          exact pack_bad HS3.out HE.out
      have HE2 := Lib.hid (HEx.out.trans (if_neg hbad))
      have hk0 : 0 ≤ kx := by omega
      have hk1 : kx ≤ 199 := by omega
      clear hbad
      go_upto_region 13 with fail
      obtain ⟨Bk, hBk⟩ : ∃ Bk, decide (kx ≤ prevK ls k) = Bk := ⟨_, rfl⟩
      have HBk := Lib.hid hBk
      clear hBk
      go_cut [56] from 44 to 97 (fun s wx => s = .bool Bk ∧ ∃ d, wx = w3.drewN d)
      case first =>
        cases k with
        | zero =>
          have HD := Lib.hid (decide_eq_false (show ¬ kx ≤ prevK ls 0 from by show ¬ kx ≤ -1; omega))
          go_quiet (fail)
          go_wp2
          go_meet
          case rel => exact ⟨by rw [← HBk.out, HD.out], _, rfl⟩
        | succ j =>
          obtain ⟨_, _, y, hA, _, _, hy, hym, q1, _, _, _, _, _⟩ := HRx.out.at_ (i := j) (by omega)
          injection hA with hA
          injection hA with e1 e2 _
          subst e1 e2
          have hyk := HR.out.key y hym
          have hp := prevK_succ hy
          have HPK := Lib.hid hp
          have hj0 : ((j + 1 : Nat) : Int) - 1 = (j : Int) := by omega
          clear hy hym hp
          generalize y.key = ky at *
          by_cases hle2 : kx ≤ ky
          · have hd : decide (kx ≤ ky) = true := decide_eq_true hle2
            have HD := Lib.hid (show decide (kx ≤ prevK ls (j + 1)) = decide (kx ≤ ky) by rw [HPK.out])
            go_quiet (fail)
            go_wp2
            go_meet
            case rel => exact ⟨by rw [← HBk.out, HD.out, decide_eq_true (by omega)], _, rfl⟩
          · have hd : decide (kx ≤ ky) = false := decide_eq_false hle2
            have HD := Lib.hid (show decide (kx ≤ prevK ls (j + 1)) = decide (kx ≤ ky) by rw [HPK.out])
            go_quiet (fail)
            go_wp2
            go_meet
            case rel => exact ⟨by rw [← HBk.out, HD.out, decide_eq_false (by omega)], _, rfl⟩
      case rest =>
        obtain ⟨rfl, d, rfl⟩ := hcut
        have hdr := (Upd.refl (fun _ => False) w3).drewN d
        cases Bk with
        | true =>
          have hord := of_decide_eq_true HBk.out
          have HE3 := Lib.hid (HE2.out.trans (if_pos hord))
          have HE := Lib.hid (HErr.out (by rw [HE3.out]; decide))
          rw [HE3.out] at HE
          have HS4 := Lib.hid (HS3.out.same hdr)
          clear hord hdr
          go_wp2
          go_ret3
          exact pack_bad HS4.out HE.out
        | false =>
        have hord := of_decide_eq_false HBk.out
        have HE3 := Lib.hid (HE2.out.trans (if_neg hord))
        obtain ⟨C, hC⟩ : ∃ C, chk ⟨x0, x1, x2, x3, x4⟩ = C := ⟨_, rfl⟩
        obtain ⟨D, hD⟩ : ∃ D, enc ⟨x0, x1, x2, x3, x4⟩ = D := ⟨_, rfl⟩
        have hDl := enc_len_le (g := ⟨x0, x1, x2, x3, x4⟩)
        rw [hD] at hDl
        have HC := Lib.hid hC
        have HD := Lib.hid hD
        simp only [hC] at HE3
        have HS4 := Lib.hid (HS3.out.same hdr)
        have HB4 := Lib.hid (HB3.out.same hdr)
        have HW4 := Lib.hid (HW3.out.same hdr)
        have HV4 := Lib.hid (HV3.out.same hdr)
        have HBX4 := Lib.hid (HBX.out.same hdr)
        have hsz4 := hdr.size
        clear hC hD hord HEx HE2 hdr HS3 HB3 HW3 HV3 HBX HRx q0 HU
        generalize w3.drewN d = w4 at *
        have q1 : w4.cell? ⟨wr.heap.size, 1, none⟩ = some (.int .i64 x0) := HBX4.out.cell 1
        have q2 : w4.cell? ⟨wr.heap.size, 1 + 1, none⟩ = some (.int .i64 x1) := HBX4.out.cell 2
        have q3 : w4.cell? ⟨wr.heap.size, 1 + 2, none⟩ = some (.string x2) := HBX4.out.cell 3
        have q4 : w4.cell? ⟨wr.heap.size, 1 + 3, none⟩ = some (.slice X1 a1 b1) := HBX4.out.cell 4
        have q5 : w4.cell? ⟨wr.heap.size, 1 + 4, none⟩ = some (.slice X2 a2 b2) := HBX4.out.cell 5
        go_wp2_with fail
        refine (enc_new _ HD.out HC.out HV4.out HT.out.1 HT.out.2).mono ?_
        rintro e w5 ⟨Ad, md, cd, rfl, hmd, HDb, hs5⟩
        have HMd := Lib.hid hmd
        have hmd' : md ≤ 40082 := by omega
        have HS5 := Lib.hid (HS4.out.same hs5)
        have HB5 := Lib.hid (HB4.out.same hs5)
        have HW5 := Lib.hid (HW4.out.same hs5)
        have HBX5 := Lib.hid (HBX4.out.same hs5)
        have hsz5 := hs5.size
        clear hs5 hmd HS4 HB4 HW4 HV4 HBX4 q1 q2 q3 q4 q5
        by_cases hz : C = 0
        · have HE4 := Lib.hid (HE3.out.trans (if_neg (by simpa using hz)))
          subst hz
          have q0 : w5.cell? ⟨wr.heap.size, 0, none⟩ = some (.int .i64 kx) := HBX5.out.cell 0
          have q1 : w5.cell? ⟨wr.heap.size, 1, none⟩ = some (.int .i64 x0) := HBX5.out.cell 1
          have q2 : w5.cell? ⟨wr.heap.size, 2, none⟩ = some (.int .i64 x1) := HBX5.out.cell 2
          have q3 : w5.cell? ⟨wr.heap.size, 3, none⟩ = some (.string x2) := HBX5.out.cell 3
          have q4 : w5.cell? ⟨wr.heap.size, 4, none⟩ = some (.slice X1 a1 b1) := HBX5.out.cell 4
          have q5 : w5.cell? ⟨wr.heap.size, 5, none⟩ = some (.slice X2 a2 b2) := HBX5.out.cell 5
          go_wp2_with fail
          refine (inPlace_new _ kx _ _ _ _ _ ⟨hk0, hk1⟩ HDb.out (by omega)).mono ?_
          rintro e w6 ⟨Ai, mi, ci, rfl, hmi, HIn, hs6⟩
          have hmi8 : 8 ≤ mi ∧ mi ≤ 50000 := by
            have : mi = (2 + md + 7) / 8 * 8 := hmi
            omega
          obtain ⟨hmi1, hmi2⟩ := hmi8
          have HMi := Lib.hid (show (inl kx D).length = mi by rw [inl_len, HMd.out, hmi])
          have HS6 := Lib.hid (HS5.out.same hs6)
          have HB6 := Lib.hid (HB5.out.same hs6)
          have HW6 := Lib.hid (HW5.out.same hs6)
          have HBX6 := Lib.hid (HBX5.out.same hs6)
          have HDb6 := Lib.hid (HDb.out.same hs6)
          have hsz6 := hs6.size
          have HST2 := Lib.hid (show ((ls.take (k + 1)).map KV.dat).foldl (packStep (8 * R)) ([], []) = packStep (8 * R) (s1, s2) ⟨kx, ⟨x0, x1, x2, x3, x4⟩⟩ from by rw [foldl_dat HX.out, KST.out]; rfl)
          have hfits : ∀ b : Bool, decide (mi ≤ R * 8 - m1) = b → packStep (8 * R) (s1, s2) ⟨kx, ⟨x0, x1, x2, x3, x4⟩⟩ = if b = true then (s1 ++ inl kx D, s2) else (s1, s2 ++ bes kx D) := by
            rintro b rfl
            unfold packStep
            simp only [HD.out, HMi.out, KL.out, decide_eq_true_eq, Nat.mul_comm 8 R]
          have HFits := Lib.hid hfits
          clear hs6 hmi hfits HS5 HB5 HW5 HBX5 HDb q0 q1 q2 q3 q4 q5 HE3 KE
          by_cases hfit : mi ≤ R * 8 - m1
          · have HF1 := Lib.hid (HST2.out.trans ((HFits.out true (decide_eq_true hfit)).trans (if_pos rfl)))
            have hne : ¬ R * 8 = m1 := by omega
            have hfi : (mi : Int) ≤ (R : Int) * 8 - m1 := by omega
            have hsp := splice_padz s1 (inl kx D) (R * 8) (by rw [KL.out, HMi.out]; omega)
            rw [KL.out] at hsp
            have HSp := Lib.hid hsp
            clear hsp HFits HST2
            go_wp2_with ((with_reducible refine copy_here ?_); (refine wpList_copy_blk rfl (.tmp 79) (.tmp 80) _ _ rfl 5 Try.underlying32 (by kernel_rfl) G m1 (R * 8 - m1) (R * 8 - m1) rfl rfl HB6.out HIn.out (by omega) (by rw [List.size_toArray, List.length_map, padz_len _ _ (by rw [KL.out]; omega)]; omega) (u8_oneCell _) ?_); intro w7 hb7 hu7; have HB7 := Lib.hid hb7; have HU7 := Lib.hid hu7; clear hb7 hu7)
            go_roundg (n - (k + 1))
            case measure => omega
            case rel =>
              have hb7 := HB7.out
              rw [HSp.out] at hb7
              exact ⟨k + 1, m1 + mi, s1 ++ inl kx D, s2, rfl, by omega, rfl, by go_num, by go_num, by omega, Lib.hid (by rw [List.length_append, KL.out, HMi.out]), HF1, Lib.hid HE4.out.symm, Lib.hid (HS6.out.trans HU7.out fun b hb hh => by have := HG.out; omega), Lib.hid hb7,
                Lib.hid (HW6.out.upd HU7.out (by omega) fun g hg hh => by have := (HWlt.out g hg).1; omega).wtr⟩
          · have HF1 := Lib.hid (HST2.out.trans ((HFits.out false (decide_eq_false hfit)).trans (if_neg (by simp))))
            have hfi : ¬ (mi : Int) ≤ (R : Int) * 8 - m1 := by omega
            have hov := pack_over (8 * R) ((ls.take k).map KV.dat) ([], [])
            rw [KST.out, List.length_map, List.length_take] at hov
            simp only [List.length_nil] at hov
            have hs2l : s2.length ≤ 1000000 := by omega
            have q0 : w6.cell? ⟨wr.heap.size, 0, none⟩ = some (.int .i64 kx) := HBX6.out.cell 0
            clear HFits HST2 hfit hov
            go_wp2_with fail
            refine (wnumV HW6.out 2 (kx + 1) (by decide) (by omega) (by omega)).mono ?_
            rintro e w7 ⟨rfl, hon⟩
            obtain ⟨⟨v7, hv7, hbl7⟩, hu7⟩ := hon
            have HDb7 := Lib.hid (HDb6.out.upd hu7 fun b hb hh => by
              rcases hh with hh | hh
              · omega
              · have := (HWlt.out b hh).2; omega)
            have HV7 := Lib.hid hv7
            have HBl7 := Lib.hid hbl7
            have HU7 := Lib.hid hu7
            have HK2 := Lib.hid (show (s2 ++ beb (2 : Int).toNat (kx + 1).toNat).length = s2.length + 2 by rw [List.length_append, beb_len]; rfl)
            have hsz7 := hu7.size
            clear q0 hv7 hbl7 hu7 HDb6
            go_wp2_with fail
            refine (wnumV HV7.out 2 md (by decide) (by omega) (by rw [HK2.out]; omega)).mono ?_
            rintro e w8 ⟨rfl, hon⟩
            obtain ⟨⟨v8, hv8, hbl8⟩, hu8⟩ := hon
            have HBv7 := Lib.hid (show ∀ b, v7.ownBlock = some b → b < wr.heap.size ∨ w6.heap.size ≤ b from fun b hh => by
              rcases HBl7.out with h1 | ⟨g, h1, h2⟩
              · rw [h1] at hh
                exact .inl (HWlt.out b hh).2
              · rw [h1] at hh
                injection hh with hh
                exact .inr (by omega))
            have HDb8 := Lib.hid (HDb7.out.upd hu8 fun b hb hh => by
              rcases hh with hh | hh
              · omega
              · have := HBv7.out b hh; omega)
            have HV8 := Lib.hid hv8
            have HU8 := Lib.hid (show Upd (fun b => b = r ∨ wv.ownBlock = some b) w6 w8 from HU7.out.trans hu8 fun b hb hh => by
              rcases hh with hh | hh
              · exact .inl hh
              · rcases HBl7.out with h1 | ⟨g, h1, h2⟩
                · rw [h1] at hh
                  exact .inr hh
                · rw [h1] at hh
                  injection hh with hh
                  omega)
            have HBl8 := Lib.hid (show v8.ownBlock = wv.ownBlock ∨ ∃ g, v8.ownBlock = some g ∧ w6.heap.size ≤ g from by
              rcases hbl8 with h1 | ⟨g, h1, h2⟩
              · rw [h1]
                exact HBl7.out
              · exact .inr ⟨g, h1, by omega⟩)
            have HK3 := Lib.hid (show (s2 ++ beb (2 : Int).toNat (kx + 1).toNat ++ beb (2 : Int).toNat (md : Int).toNat).length = s2.length + 4 by rw [List.length_append, HK2.out, beb_len]; rfl)
            have hsz8 := hu8.size
            clear hv8 hbl8 hu8 HDb7 HV7 HU7 HBl7
            go_wp2_with fail
            refine (wrawV HV8.out HDb8.out (by rw [HK3.out]; omega)).mono ?_
            rintro e w9 ⟨rfl, hon⟩
            obtain ⟨⟨v9, hv9, hbl9⟩, hu9⟩ := hon
            have HV9 := Lib.hid hv9
            have HU9 := Lib.hid (show Upd (fun b => b = r ∨ wv.ownBlock = some b) w6 w9 from HU8.out.trans hu9 fun b hb hh => by
              rcases hh with hh | hh
              · exact .inl hh
              · rcases HBl8.out with h1 | ⟨g, h1, h2⟩
                · rw [h1] at hh
                  exact .inr hh
                · rw [h1] at hh
                  injection hh with hh
                  omega)
            clear hv9 hbl9 hu9 HDb8 HV8 HU8 HBl8
            go_wp2
            go_roundg (n - (k + 1))
            case measure => omega
            case rel =>
              have hb4 : s2 ++ beb (2 : Int).toNat (kx + 1).toNat ++ beb (2 : Int).toNat (md : Int).toNat ++ D = s2 ++ bes kx D := by
                unfold bes
                rw [HMd.out, List.append_assoc, List.append_assoc]
                rfl
              have hv9 := HV9.out
              rw [hb4] at hv9
              exact ⟨k + 1, m1, s1, s2 ++ bes kx D, rfl, by omega, rfl, by go_num, rfl, hm1, KL, HF1, Lib.hid HE4.out.symm, Lib.hid (HS6.out.trans HU9.out fun b hb hh => by
                  have := HG.out
                  rcases hh with hh | hh
                  · omega
                  · have := (HWlt.out b hh).1; omega), Lib.hid (HB6.out.upd HU9.out fun hh => by
                  rcases hh with hh | hh
                  · omega
                  · have := (HWlt.out _ hh).1; omega), Lib.hid hv9.wtr⟩
        · have HE4 := Lib.hid (HE3.out.trans (if_pos (by simpa using hz)))
          have HE := Lib.hid (HErr.out (by rw [HE4.out]; exact hz))
          rw [HE4.out] at HE
          have hz' : (C != 0) = true := by rw [bne_iff_ne]; exact hz
          go_wp2
          go_ret3
          exact pack_bad HS5.out HE.out
    · obtain rfl : k = n := by omega
      have hE0 : E0 = 0 := by
        rw [← KE.out, List.drop_eq_nil_of_le (by rw [List.length_map, HL.out]; exact Nat.le_refl _)]
        rfl
      subst hE0
      have hst := KST.out
      rw [List.take_of_length_le (by rw [HL.out]; exact Nat.le_refl _)] at hst
      have hok := HP.out.symm.trans (packP_ok HA.out HM.out HE0X.out)
      rw [Int.toNat_natCast, hst, Nat.mul_comm 8 R] at hok
      have HOK := Lib.hid hok
      have hov := pack_over (8 * R) (ls.map KV.dat) ([], [])
      rw [hst, List.length_map, HL.out] at hov
      simp only [List.length_nil] at hov
      have hs2l : s2.length ≤ 1000000 := by omega
      clear hst hok hov
      go_wp2_with fail
      refine (wbytes_spec KW.out (by omega)).mono ?_
      rintro e w3 ⟨v, rfl, ho, hs⟩
      have HO := Lib.hid ho
      have HS := Lib.hid hs
      clear ho hs
      go_wp2
      go_ret3
      have hE : E = 0 := congrArg (fun x => x.2.2) HOK.out
      have hS : S = padz s1 (R * 8) := congrArg (fun x => x.1) HOK.out
      have hO : O = s2 := congrArg (fun x => x.2.1) HOK.out
      have hpl : (padz s1 (R * 8)).length = R * 8 := padz_len _ _ (by rw [KL.out]; omega)
      refine ⟨_, _, by rw [hE]; rfl, ?_, ?_, ?_, KS.out.same HS.out⟩
      · rw [hS]
        unfold OwnB
        have h1 := own_of_blk (B := w.heap.size) (n := R * 8) (KB.out.same HS.out) (by have := HG.out; omega) (by rw [List.size_toArray, List.length_map, hpl]) (by unfold maxLen; omega)
        rw [hpl]
        exact h1
      · rw [hO]
        exact own_base HO.out KS.out.size
      · intro g hg hh
        have h1 := (HO.out.lt g hh).1
        have h2 := KB.out.lt
        simp [Value.ownBlock] at hg
        omega
end Go.Proofs.Ytheinbigegobkaa
