/- The reference's Pack. -/
import Derived.Test.YtheinbigegobkaaPackL
import Derived.Test.YtheinbigegobkaaOwn
import Derived.Deep.DeepCutAuto
import Derived.Deep.CutRange
import Derived.Deep.QuietTactic
import Derived.BigQuiet
namespace Go.Proofs.Ytheinbigegobkaa
open Go.RowKit

theorem rnum_int (width n : Int) (w : World) (hw : isWidthB width = true) (h0 : 0 ≤ n) (hn : n < 18446744073709551616) :
    Calls Try.prog 32 #[.int .i64 width, .int .u64 n] w fun e w' => ∃ v, e = .returned v ∧ OwnB w' w.heap.size v (beb width.toNat n.toNat) ∧ Same w w' := by
  have hw0 : 0 ≤ width := by
    simp only [isWidthB, Bool.or_eq_true, beq_iff_eq] at hw
    omega
  obtain ⟨k, rfl⟩ := Int.eq_ofNat_of_zero_le hw0
  obtain ⟨m, rfl⟩ := Int.eq_ofNat_of_zero_le h0
  exact rnum_spec k m w hw (by omega)

theorem own_empty (w : World) {B : Nat} (hB : B ≤ w.heap.size) : OwnB (w.alloc (.cells #[] 5)) B (.slice (some ⟨w.heap.size, 0, none⟩) 0 0) [] :=
  World.ownsRow_made w #[] 0 hB (Nat.zero_le _) rfl

theorem Grew.on {w w' w'' : World} {B : Nat} {e : TypeId} {k : Nat} {v : Value} {n : Nat} {xs : List Value} {v' : Value} (h : Grew w B e k v n xs v' w') (hs : Same w' w'') : Grew w B e k v n xs v' w'' :=
  ⟨own_same h.own hs, h.upd.same hs, h.block⟩
/-- A row of the call's own, its block below the world's size. -/
theorem own_range {w : World} {B n c : Nat} {A : Option Addr} {e : TypeId} {k : Nat} {xs : List Value} (h : w.ownsRow B e k (.slice A n c) n xs) : Row w (fun b => B ≤ b ∧ b < w.heap.size) k A n c xs :=
  Row.mono (Row.of_own h) fun _ hb hh => ⟨hh.2, hb⟩
theorem renc_own {F : Nat → Prop} {A1 A2 : Option Addr} {n1 c1 n2 c2 : Nat} {g : GVal} {E : List UInt8} (w : World) (hE : enc g = E) (h : RdVal w F A1 n1 c1 A2 n2 c2 g) (hx : g.text.size ≤ 9223372036854775807) (hts : ∀ s ∈ g.texts, s.size ≤ 9223372036854775807) :
    Calls Try.prog 25 #[g.val A1 n1 c1 A2 n2 c2] w fun e w' => ∃ A n c, e = .returned (.slice A n c) ∧ E.length = n ∧ Hid (Bytes w' (fun b => w.heap.size ≤ b ∧ b < w'.heap.size) A n c E) ∧ Same w w' := by
  subst hE
  refine (rencode_spec w h hx hts).mono ?_
  rintro e w' ⟨v, rfl, ho, h2⟩
  obtain ⟨A, c, rfl⟩ := own_form ho
  exact ⟨A, _, c, rfl, rfl, Lib.hid (own_range ho), h2⟩
theorem rnum_own (width n : Int) (w : World) (hw : isWidthB width = true) (h0 : 0 ≤ n) (hn : n < 18446744073709551616) :
    Calls Try.prog 32 #[.int .i64 width, .int .u64 n] w fun e w' => ∃ A m c, e = .returned (.slice A m c) ∧ m = width.toNat ∧ Hid (Bytes w' (fun b => w.heap.size ≤ b ∧ b < w'.heap.size) A m c (beb width.toNat n.toNat)) ∧ Same w w' := by
  refine (rnum_int width n w hw h0 hn).mono ?_
  rintro e w' ⟨v, rfl, ho, h2⟩
  obtain ⟨A, c, rfl⟩ := own_form ho
  exact ⟨A, _, c, rfl, beb_len _ _, Lib.hid (own_range ho), h2⟩
/-- put, its answer as a growth. -/
theorem put_grew {w0 w : World} {B : Nat} {F : Nat → Prop} {A : Option Addr} {n c : Nat} {v0 v : Value} {bs xs : List UInt8} (hg : Grew w0 B 5 1 v0 bs.length (bs.map u8v) v w) (hB : B ≤ w0.heap.size) (hx : Bytes w F A n c xs) (hF : ∀ b, F b → v.ownBlock ≠ some b) (hl : bs.length + n ≤ 140737488355328) :
    Calls Try.prog 33 #[v, .slice A n c] w fun e w' => ∃ A' m' c', e = .returned (.slice A' m' c') ∧ Hid (Grew w0 B 5 1 v0 (bs ++ xs).length ((bs ++ xs).map u8v) (.slice A' m' c') w') ∧ Hid (Upd (fun b => v.ownBlock = some b) w w') ∧ w.heap.size ≤ w'.heap.size := by
  refine (put_spec w hg.own (Nat.le_trans hB hg.size) hx hF hl).mono ?_
  rintro e w' ⟨v', rfl, h1⟩
  obtain ⟨A', m', c', rfl⟩ := own_slice h1.own
  exact ⟨A', m', c', rfl, Lib.hid (hg.trans h1), Lib.hid h1.upd, h1.size⟩

theorem fitsP_at : ∀ (ds : List GKV) (left : Int) (j : Nat) (p : GKV), ds[j]? = some p → (fitsP left ds)[j]? = some (decide ((needP p.val : Int) ≤ leftP left (ds.take j))) := by
  intro ds
  induction ds with
  | nil => intro left j p h; simp at h
  | cons q l ih =>
    intro left j p h
    cases j with
    | zero =>
      simp only [List.getElem?_cons_zero, Option.some.injEq] at h
      subst h
      simp [fitsP, leftP]
    | succ j =>
      simp only [List.getElem?_cons_succ] at h
      simp only [fitsP, List.getElem?_cons_succ, List.take_succ_cons, leftP]
      exact ih _ j p h
theorem u8_len (bs : List UInt8) : (bs.map u8v).length = bs.length := List.length_map _

theorem pack_err_end {w wr : World} (hs : Same w wr) {S O : List UInt8} {E E1 : Int} (hE : (S, O, E) = ([], [], E1)) :
    ∃ v1 v2, Ending.returned (.tuple #[.slice (some ⟨wr.heap.size, 0, none⟩) 0 0, .slice (some ⟨wr.heap.size + 1, 0, none⟩) 0 0, .int .i64 E1]) = .returned (.tuple #[v1, v2, .int .i64 E]) ∧
      OwnB ((wr.alloc (.cells #[] 5)).alloc (.cells #[] 5)) w.heap.size v1 S ∧ OwnB ((wr.alloc (.cells #[] 5)).alloc (.cells #[] 5)) w.heap.size v2 O ∧ Same w ((wr.alloc (.cells #[] 5)).alloc (.cells #[] 5)) := by
  injection hE with h1 h2
  injection h2 with h2 h3
  subst h1 h2 h3
  refine ⟨_, _, rfl, own_same (own_empty wr hs.size) ((Upd.refl _ _).alloc _), ?_, (hs.alloc _).alloc _⟩
  have := own_empty (wr.alloc (.cells #[] 5)) (B := w.heap.size) (by have := hs.size; simp; omega)
  rw [World.size_alloc] at this
  exact this

set_option maxHeartbeats 8000000 in
set_option maxRecDepth 100000 in
theorem rpack_spec {F : Nat → Prop} {A : Option Addr} {n c : Nat} {ls : List KV} (w : World) (h : RdKV w F A n c ls) (hf : KVFit ls) (room : Int) (hr : -9223372036854775808 ≤ room ∧ room ≤ 9223372036854775807) {S O : List UInt8} {E : Int} (hP : packP (ls.map KV.dat) room = (S, O, E)) :
    Calls Try.prog 17 #[.slice A n c, .int .i64 room] w fun e w' => ∃ v1 v2, e = .returned (.tuple #[v1, v2, .int .i64 E]) ∧ OwnB w' w.heap.size v1 S ∧ OwnB w' w.heap.size v2 O ∧ Same w w' := by
  obtain ⟨hr0, hr1⟩ := hr
  have hmx := h.row.max
  have hle := h.row.le
  unfold maxLen at hmx
  have hn : n ≤ 9223372036854775807 := by omega
  have HL := Lib.hid h.len
  have HR := Lib.hid h
  have HF := Lib.hid hf
  have HP := Lib.hid hP
  clear h hf hP hmx
  by_cases ha : room < 0 ∨ 16 < room
  · have HE := Lib.hid ((HP.out.symm.trans (packP_arg ha)))
    rcases ha with ha | ha
    all_goals
      go_enter Try.func17, Try.ntmps17
      go_wp2
      go_ret3
      exact pack_err_end (Upd.refl _ w) HE.out
  have ha0 : 0 ≤ room := by omega
  have ha1 : room ≤ 16 := by omega
  have HA := Lib.hid ha
  clear ha
  by_cases hm : 16 < n
  · have HE := Lib.hid (HP.out.symm.trans (packP_many HA.out (by rw [List.length_map, HL.out]; exact hm)))
    go_enter Try.func17, Try.ntmps17
    go_wp2
    go_ret3
    exact pack_err_end (Upd.refl _ w) HE.out
  have hn16 : n ≤ 16 := by omega
  have HM := Lib.hid (show ¬ 16 < (ls.map KV.dat).length by rw [List.length_map, HL.out]; exact hm)
  obtain ⟨E0, hE0⟩ : ∃ E0, packErr (-1) (ls.map KV.dat) = E0 := ⟨_, rfl⟩
  have HErr := Lib.hid (fun hne => HP.out.symm.trans (packP_err HA.out HM.out hE0 hne))
  have HE0 := Lib.hid hE0
  clear hm hE0
  go_enter Try.func17, Try.ntmps17
  go_wp2_with fail
  go_loopg [7] n (fun g i wr => ∃ k : Nat, k ≤ n ∧ g = n - k ∧ i = .int .i64 k ∧ Hid (Same w wr) ∧ Hid (packErr (prevK ls k) ((ls.map KV.dat).drop k) = E0))
  case atStart => exact ⟨0, Nat.zero_le _, rfl, rfl, Lib.hid (Upd.refl _ _), HE0⟩
  case round =>
    obtain ⟨k, hk, rfl, rfl, KS, KE⟩ := hrel
    by_cases hlt : k < n
    · obtain ⟨b, o, x, rfl, hb, _, hx, hxm, r0, r1, r2, r3, r4, r5⟩ := (HR.out.same KS.out).at_ hlt
      have HX := Lib.hid hx
      have HV := Lib.hid ((HR.out.same KS.out).val x hxm)
      have HT := Lib.hid (HF.out x hxm)
      have HEx := Lib.hid (packErr_at KE.out hx)
      have HK := Lib.hid (HR.out.key x hxm)
      obtain ⟨kx, ⟨x0, x1, x2, x3, x4⟩, X1, a1, b1, X2, a2, b2⟩ := x
      simp only at r0 r1 r2 r3 r4 r5
      have hkx0 : -9223372036854775808 ≤ kx := HK.out.1
      have hkx1 : kx ≤ 9223372036854775807 := HK.out.2
      clear hx hxm
      by_cases hbad : kx < 0 ∨ 200 ≤ kx
      · have HE2 := Lib.hid (HEx.out.trans (if_pos hbad))
        have HE := Lib.hid (HErr.out (by rw [HE2.out]; decide))
        rw [HE2.out] at HE
        rcases hbad with hbad | hbad
        all_goals
          go_wp2
          go_ret3
          exact pack_err_end KS.out HE.out
      have HE2 := Lib.hid (HEx.out.trans (if_neg hbad))
      have hk0 : 0 ≤ kx := by omega
      have hk1 : kx ≤ 199 := by omega
      clear hbad
      go_upto_region 10 with fail
      obtain ⟨Bk, hBk⟩ : ∃ Bk, decide (kx ≤ prevK ls k) = Bk := ⟨_, rfl⟩
      have HBk := Lib.hid hBk
      clear hBk
      go_cut [65] from 50 to 78 (fun s wx => s = .bool Bk ∧ ∃ d, wx = wr.drewN d)
      case first =>
        cases k with
        | zero =>
          have HD := Lib.hid (decide_eq_false (show ¬ kx ≤ prevK ls 0 from by show ¬ kx ≤ -1; omega))
          go_quiet (fail)
          go_wp2
          go_meet
          case rel => exact ⟨by rw [← HBk.out, HD.out], _, rfl⟩
        | succ j =>
          obtain ⟨_, _, y, hA, _, _, hy, hym, q0, _, _, _, _, _⟩ := (HR.out.same KS.out).at_ (i := j) (by omega)
          injection hA with hA
          injection hA with e1 e2 _
          subst e1 e2
          have hyk := HR.out.key y hym
          have hp := prevK_succ hy
          have HPK := Lib.hid hp
          have hj0 : ((j + 1 : Nat) : Int) - 1 = (j : Int) := by omega
          clear hy hym hp
          generalize y.key = ky at *
          by_cases hle2 : kx ≤ ky
          · have hd : decide (kx ≤ ky) = true := decide_eq_true hle2
            have HD := Lib.hid (show decide (kx ≤ prevK ls (j + 1)) = decide (kx ≤ ky) by rw [HPK.out])
            go_quiet (fail)
            go_wp2
            go_meet
            case rel => exact ⟨by rw [← HBk.out, HD.out, decide_eq_true (by omega)], _, rfl⟩
          · have hd : decide (kx ≤ ky) = false := decide_eq_false hle2
            have HD := Lib.hid (show decide (kx ≤ prevK ls (j + 1)) = decide (kx ≤ ky) by rw [HPK.out])
            go_quiet (fail)
            go_wp2
            go_meet
            case rel => exact ⟨by rw [← HBk.out, HD.out, decide_eq_false (by omega)], _, rfl⟩
      case rest =>
        obtain ⟨rfl, d, rfl⟩ := hcut
        have KS2 := Lib.hid (KS.out.same ((Upd.refl (fun _ => False) wr).drewN d))
        cases Bk with
        | true =>
          have hord := of_decide_eq_true HBk.out
          have HE3 := Lib.hid (HE2.out.trans (if_pos hord))
          have HE := Lib.hid (HErr.out (by rw [HE3.out]; decide))
          rw [HE3.out] at HE
          clear hord
          go_wp2
          go_ret3
          exact pack_err_end KS2.out HE.out
        | false =>
        have hord := of_decide_eq_false HBk.out
        have HE3 := Lib.hid (HE2.out.trans (if_neg hord))
        obtain ⟨C, hC⟩ : ∃ C, chk ⟨x0, x1, x2, x3, x4⟩ = C := ⟨_, rfl⟩
        have HC := Lib.hid hC
        simp only [hC] at HE3
        clear hC hord HEx HE2
        go_wp2_with fail
        refine (rcheck_on _ _ HC.out ((Upd.refl (fun _ => False) wr).drewN d) HV.out HT.out.1 HT.out.2).mono ?_
        rintro e w2 ⟨rfl, hs, _⟩
        have KS3 := Lib.hid (KS2.out.same hs)
        clear hs r0 r1 r2 r3 r4 r5
        by_cases hz : C = 0
        · have HE4 := Lib.hid (HE3.out.trans (if_neg (by simpa using hz)))
          subst hz
          go_wp2
          go_roundg (n - (k + 1))
          case measure => omega
          case rel => exact ⟨k + 1, by omega, rfl, by go_num, KS3, Lib.hid HE4.out.symm⟩
        · have HE4 := Lib.hid (HE3.out.trans (if_pos (by simpa using hz)))
          have HE := Lib.hid (HErr.out (by rw [HE4.out]; exact hz))
          rw [HE4.out] at HE
          have hz' : (C != 0) = true := by rw [bne_iff_ne]; exact hz
          go_wp2
          go_ret3
          exact pack_err_end KS3.out HE.out
    · obtain rfl : k = n := by omega
      have hE0 : E0 = 0 := by
        rw [← KE.out, List.drop_eq_nil_of_le (by rw [List.length_map, HL.out]; exact Nat.le_refl _)]
        rfl
      subst hE0
      have HOK := Lib.hid (HP.out.symm.trans (packP_ok HA.out HM.out HE0.out))
      have HAll := Lib.hid (packErr_all _ _ HE0.out)
      have HR1 := Lib.hid (HR.out.same KS.out)
      clear KE HErr
      go_wp2_with fail
      refine (fits_spec _ HR1.out HF.out room ⟨ha0, ha1⟩ (by omega)).mono ?_
      rintro e w3 ⟨vf, rfl, hof, hs⟩
      have HS3 := Lib.hid (KS.out.same hs)
      obtain ⟨Af, cf, rfl⟩ := own_form hof
      have HOf := Lib.hid hof
      clear hof hs HR1
      go_wp2_with fail
      have hE1 := own_same (own_empty w3 HS3.out.size) ((Upd.refl _ _).alloc (.cells #[] 5))
      have hE2 := own_empty (w3.alloc (.cells #[] 5)) (B := w.heap.size) (by have := HS3.out.size; simp; omega)
      rw [World.size_alloc] at hE2
      have hu := ((Upd.refl (fun _ => False) w3).alloc (.cells #[] 5)).alloc (.cells #[] 5)
      have HE1 := Lib.hid hE1
      have HE2 := Lib.hid hE2
      have HOf2 := Lib.hid (own_same HOf.out hu)
      have HS4 := Lib.hid (HS3.out.same hu)
      clear hE1 hE2 hu HOf HS3 KS
      generalize (w3.alloc (.cells #[] 5)).alloc (.cells #[] 5) = w4 at *
      generalize w3.heap.size = g3 at *
      go_loopg [10, 11, 12] k (fun g v10 v11 i wr => ∃ (j : Nat) (st : List UInt8 × List UInt8), j ≤ k ∧ g = k - j ∧ i = .int .i64 j ∧ Hid (st = ((ls.take j).map KV.dat).foldl (packStep (8 * room.toNat)) ([], [])) ∧ Hid (Same w wr) ∧ Hid (OwnB wr w.heap.size v10 st.1) ∧ Hid (OwnB wr w.heap.size v11 st.2) ∧ Hid (∀ g, v10.ownBlock = some g → v11.ownBlock ≠ some g) ∧ Hid (∃ B, wr.ownsRow B 4 1 (.slice Af k cf) k ((fitsP room (ls.map KV.dat)).map Value.bool)))
      case atStart => exact ⟨0, ([], []), Nat.zero_le _, rfl, rfl, Lib.hid rfl, HS4, HE1, HE2, Lib.hid (by rintro g hg hh; simp [Value.ownBlock] at hg hh; omega), Lib.hid ⟨_, HOf2.out⟩⟩
      case round =>
        obtain ⟨j, ⟨s1, s2⟩, hj, rfl, rfl, JST, JS, JO1, JO2, JD, JF⟩ := hrel
        by_cases hlt : j < k
        · obtain ⟨b, o, x, rfl, hb, _, hx, hxm, hkv⟩ := (HR.out.same JS.out).at_ hlt
          have hdx : x.dat ∈ ls.map KV.dat := List.mem_map_of_mem hxm
          obtain ⟨hk0, hk1, hkc⟩ := HAll.out _ hdx
          have hdj : (ls.map KV.dat)[j]? = some x.dat := by rw [List.getElem?_map, hx]; rfl
          obtain ⟨L, hL⟩ : ∃ L, leftP room ((ls.take j).map KV.dat) = L := ⟨_, rfl⟩
          have hLr := leftP_range ((ls.take j).map KV.dat) room ha0
          rw [hL] at hLr
          obtain ⟨hL0, hL1⟩ := hLr
          have hlen := pack_left room ha0 ((ls.take j).map KV.dat) room ([], []) (fun p hp => (HAll.out p (by
            rw [List.map_take] at hp
            exact List.mem_of_mem_take hp)).2.2) ha0 (by simp)
          rw [← JST.out, hL] at hlen
          have hover := pack_over (8 * room.toNat) ((ls.take j).map KV.dat) ([], [])
          rw [← JST.out, List.length_map, List.length_take] at hover
          simp only [List.length_nil] at hlen hover
          have hs1l : s1.length ≤ 128 := by omega
          have hs18 : s1.length % 8 = 0 := by omega
          have hs2l : s2.length ≤ 1000000 := by omega
          obtain ⟨N, hN⟩ : ∃ N, needP x.g = N := ⟨_, rfl⟩
          obtain ⟨D, hD⟩ : ∃ D, enc x.g = D := ⟨_, rfl⟩
          have hfj0 := fitsP_at _ room j _ hdj
          rw [← List.map_take, hL] at hfj0
          have hfj : (fitsP room (ls.map KV.dat))[j]? = some (decide ((N : Int) ≤ L)) := by rw [← hN]; exact hfj0
          have hst2 : ((ls.take (j + 1)).map KV.dat).foldl (packStep (8 * room.toNat)) ([], []) = packStep (8 * room.toNat) (s1, s2) x.dat := by rw [foldl_dat hx, ← JST.out]
          have hfit0 : (N : Int) ≤ L → packStep (8 * room.toNat) (s1, s2) x.dat = (s1 ++ inl x.key D, s2) := fun hf => by rw [← hN] at hf; rw [← hD]; exact packStep_fit (st := (s1, s2)) hkc hL0 hlen hf
          have hbes0 : ¬ (N : Int) ≤ L → packStep (8 * room.toNat) (s1, s2) x.dat = (s1, s2 ++ bes x.key D) := fun hf => by rw [← hN] at hf; rw [← hD]; exact packStep_beside (st := (s1, s2)) hkc hL0 hlen hf
          have HFit := Lib.hid (fun hf => hst2.trans (hfit0 hf))
          have HBes := Lib.hid (fun hf => hst2.trans (hbes0 hf))
          clear hst2 hfit0 hbes0 hfj0
          have HV := Lib.hid ((HR.out.same JS.out).val x hxm)
          have HT := Lib.hid (HF.out x hxm)
          have hDl := enc_len_le (g := x.g)
          rw [hD] at hDl
          have HD := Lib.hid hD
          have HFj := Lib.hid hfj
          clear hfj hN
          obtain ⟨kx, ⟨x0, x1, x2, x3, x4⟩, X1, a1, b1, X2, a2, b2⟩ := x
          simp only [KV.dat] at hkv hk0 hk1 HFit HBes
          have HKV := Lib.hid hkv
          obtain ⟨A1, m1, q1, rfl⟩ := own_slice JO1.out
          obtain ⟨A2, m2, q2, rfl⟩ := own_slice JO2.out
          have HB1 := Lib.hid (show ∀ g, (Value.slice A1 m1 q1).ownBlock = some g → w.heap.size ≤ g ∧ g < wr.heap.size from JO1.out.lt)
          have HB2 := Lib.hid (show ∀ g, (Value.slice A2 m2 q2).ownBlock = some g → w.heap.size ≤ g ∧ g < wr.heap.size from JO2.out.lt)
          have hsz0 := JS.out.size
          obtain ⟨r0, _, _, _, _, _⟩ := hkv
          clear hx hxm hdx hdj hlen hover hD hkc hL
          go_wp2_with fail
          refine (rnum_own 2 (kx + 1) _ (by decide) (by omega) (by omega)).mono ?_
          rintro e w5 ⟨Ak, mk, ck, rfl, hmk, HKb, hs5⟩
          obtain rfl : mk = 2 := hmk
          have hsz5 := hs5.size
          obtain ⟨_, p1, p2, p3, p4, p5⟩ := HKV.out.same hb hs5
          clear r0
          go_wp2_with fail
          refine (renc_own _ HD.out (HV.out.same hs5) HT.out.1 HT.out.2).mono ?_
          rintro e w6 ⟨Ad, md, cd, rfl, hmd, HDb, hs6⟩
          have HMd := Lib.hid hmd
          have hmd' : md ≤ 40082 := by omega
          have hsz6 := hs6.size
          have HS6 := Lib.hid (JS.out.same (hs5.same hs6))
          have HKb6 := Lib.hid (HKb.out.same hs6)
          have HO1 := Lib.hid (own_same JO1.out (hs5.same hs6))
          have HO2 := Lib.hid (own_same JO2.out (hs5.same hs6))
          obtain ⟨Bf, hof⟩ := JF.out
          have HFo := Lib.hid (own_same hof (hs5.same hs6))
          obtain ⟨gf, u, rfl, _, _, hu, hcu, _, _⟩ := own_cell HFo.out hlt
          rw [List.getElem?_map, HFj.out] at hu
          simp only [Option.map_some, Option.some.injEq] at hu
          clear hmd p1 p2 p3 p4 p5 hs5 hs6 hof JF JO1 JO2 HKb
          by_cases hfit : (N : Int) ≤ L
          · have hu2 : u = .bool true := by rw [← hu, decide_eq_true hfit]
            subst hu2
            have HF1 := Lib.hid (HFit.out (by omega))
            clear hu HFit HBes hfit
            go_wp2_with fail
            refine (put_grew (Grew.refl HO1.out) (by omega) HKb6.out (fun b hb hh => by have := (HB1.out b hh).2; omega) (by omega)).mono ?_
            rintro e w7 ⟨A3, m3, q3, rfl, HG1, HU1, hsz7⟩
            have HDb7 := Lib.hid (HDb.out.upd HU1.out fun b hb hh => by have := (HB1.out b hh).2; omega)
            go_wp2_with fail
            refine (put_grew HG1.out (by omega) HDb7.out (fun b hb hh => by
              rcases HG1.out.block with h1 | ⟨g, h1, h2⟩
              · rw [h1] at hh
                have := (HB1.out b hh).2
                omega
              · rw [h1] at hh
                injection hh with hh
                omega) (by rw [List.length_append, beb_len]; have : ((2 : Int)).toNat = 2 := rfl; omega)).mono ?_
            rintro e w8 ⟨A4, m4, q4, rfl, HG2, _, hsz8⟩
            clear HG1 HU1 HDb7 HDb HKb6 hcu
            go_wp2_with fail
            go_loopg [10] (pad8 (2 + md) - (2 + md)) (fun g y wx => ∃ (i Z : Nat), 2 + md + i = Z ∧ g = pad8 (2 + md) - Z ∧ Z ≤ pad8 (2 + md) ∧ Hid (Grew w6 w.heap.size 5 1 (.slice A1 m1 q1) (s1.length + Z) ((s1 ++ (beb 2 (kx + 1).toNat ++ D ++ List.replicate i 0)).map u8v) y wx))
            case atStart => exact ⟨0, 2 + md, rfl, rfl, by unfold pad8; omega, Lib.hid (by
              have h1 := HG2.out
              rw [List.append_assoc] at h1
              rw [List.replicate_zero, List.append_nil]
              have h2 : (s1 ++ (beb (2 : Int).toNat (kx + 1).toNat ++ D)).length = s1.length + (2 + md) := by
                rw [List.length_append, List.length_append, beb_len, HMd.out]; rfl
              rw [h2] at h1
              exact h1)⟩
            case round =>
              obtain ⟨i, Z, hZ, hg, hZle, KG⟩ := hrel
              have HZ := Lib.hid hZ
              have HG := Lib.hid hg
              have HZle := Lib.hid hZle
              have hZ9 : Z ≤ 50000 := by unfold pad8 at hZle; omega
              obtain ⟨T, hT⟩ : ∃ T, s1.length + Z = T := ⟨_, rfl⟩
              have HTt := Lib.hid hT
              have hT9 : T ≤ 60000 := by omega
              rw [hT] at KG
              obtain ⟨A5, q5, rfl⟩ := own_form KG.out.own
              have hszG := KG.out.size
              clear hZ hg hZle hT HG2
              by_cases h8 : T % 8 = 0
              · have hm : (((T : Int) % 8) != 0) = false := by
                  have : (T : Int) % 8 = 0 := by omega
                  rw [this]; rfl
                have HDone := Lib.hid (show beb 2 (kx + 1).toNat ++ D ++ List.replicate i 0 = inl kx D from inl_done (L := Z) (by rw [HMd.out]; exact HZ.out) (by have := HTt.out; omega) (by rw [HMd.out]; exact HZle.out))
                clear h8
                go_wp2
                go_roundg (k - (j + 1))
                case measure => omega
                case rel =>
                  have h1 := KG.out
                  rw [HDone.out] at h1
                  have hl1 : (s1 ++ inl kx D).length = T := by rw [← HDone.out, ← HTt.out, ← HZ.out, List.length_append, List.length_append, List.length_append, beb_len, List.length_replicate, HMd.out]
                  refine ⟨j + 1, (s1 ++ inl kx D, s2), by omega, rfl, by go_num, Lib.hid HF1.out.symm, Lib.hid (HS6.out.trans h1.upd fun b _ hh => by have := (HB1.out b hh).1; omega), Lib.hid ?_, Lib.hid ?_, Lib.hid ?_, Lib.hid ⟨Bf, ?_⟩⟩
                  · unfold OwnB
                    rw [hl1]
                    exact h1.own
                  · exact own_upd HO2.out h1.upd fun g hg hh => JD.out g hh hg
                  · intro g hg hh
                    rcases h1.block with h2 | ⟨g', h2, h3⟩
                    · rw [h2] at hg
                      exact JD.out g hg hh
                    · rw [h2] at hg
                      injection hg with hg
                      have := (HB2.out g hh).2
                      omega
                  · exact own_upd HFo.out h1.upd fun g hg hh => own_ne_own HFo.out HO1.out (by decide) g hg hh
              · have hm : (((T : Int) % 8) != 0) = true := by rw [bne_iff_ne]; omega
                have H8 := Lib.hid h8
                clear h8
                go_wp2_with (at_builtin; go_must (refine wpList_app rfl (.tmp 118) (.tmp 119) _ _ rfl w.heap.size 5 1 1 _ Try.underlying32 info_u8 rfl (.slice A5 T q5) T _ rfl (KG.out.own.alloc _) rfl (src_row Try.underlying32 (Row.one _ _ _) (by simp [Value.oneCell'])) (by unfold maxLen; omega) (by omega) (by simp; omega) ?_); intro v' w9 hg; have HG9 := Lib.hid hg; clear hg)
                go_roundg (pad8 (2 + md) - (Z + 1))
                case measure =>
                  rw [HG.out]
                  have h1 := HZle.out
                  have h2 := H8.out
                  have h3 := HTt.out
                  unfold pad8 at h1 ⊢
                  omega
                case rel =>
                  refine ⟨i + 1, Z + 1, by rw [← HZ.out]; omega, rfl, ?_, Lib.hid ?_⟩
                  · have h1 := HZle.out
                    have h2 := H8.out
                    have h3 := HTt.out
                    unfold pad8 at h1 ⊢
                    omega
                  · have h1 := (KG.out.alloc _).trans HG9.out
                    rw [← zeros_snoc, ← List.append_assoc s1, ← List.append_assoc s1, List.map_append, ← Nat.add_assoc, HTt.out]
                    rw [← List.append_assoc s1] at h1
                    exact h1
          · have hu2 : u = .bool false := by rw [← hu, decide_eq_false hfit]
            subst hu2
            have HF1 := Lib.hid (HBes.out (by omega))
            clear hu HFit HBes hfit
            go_wp2_with fail
            refine (put_grew (Grew.refl HO2.out) (by omega) HKb6.out (fun b hb hh => by have := (HB2.out b hh).2; omega) (by omega)).mono ?_
            rintro e w7 ⟨A3, m3, q3, rfl, HG1, HU1, hsz7⟩
            go_wp2_with fail
            refine (rnum_own 2 md _ (by decide) (by omega) (by omega)).mono ?_
            rintro e w8 ⟨Al, ml, cl, rfl, hml, HLb, hs8⟩
            obtain rfl : ml = 2 := hml
            have hsz8 := hs8.size
            have HG2 := Lib.hid (HG1.out.on hs8)
            have hblk : ∀ b, (Value.slice A3 m3 q3).ownBlock = some b → b < w7.heap.size ∧ (b < wr.heap.size ∨ w6.heap.size ≤ b) := fun b hh => by
              refine ⟨(HG1.out.own.lt b hh).2, ?_⟩
              rcases HG1.out.block with h1 | ⟨g, h1, h2⟩
              · rw [h1] at hh
                exact .inl (HB2.out b hh).2
              · rw [h1] at hh
                injection hh with hh
                exact .inr (by omega)
            have HBlk := Lib.hid hblk
            have HDb8 := Lib.hid ((HDb.out.upd HU1.out fun b hb hh => by have := (HB2.out b hh).2; omega).same hs8)
            have h22 : ((2 : Int)).toNat = 2 := rfl
            have HK2 := Lib.hid (show (s2 ++ beb (2 : Int).toNat (kx + 1).toNat).length = s2.length + 2 by rw [List.length_append, beb_len]; rfl)
            clear hblk HG1 HU1 HKb6 hcu hs8
            go_wp2_with fail
            refine (put_grew HG2.out (by omega) HLb.out (fun b hb hh => by have := (HBlk.out b hh).1; omega) (by have := HK2.out; omega)).mono ?_
            rintro e w9 ⟨A4, m4, q4, rfl, HG3, HU3, hsz9⟩
            have HDb9 := Lib.hid (HDb8.out.upd HU3.out fun b hb hh => by have := (HBlk.out b hh).2; omega)
            have HBlk2 := Lib.hid (show ∀ b, (Value.slice A4 m4 q4).ownBlock = some b → b < wr.heap.size ∨ w6.heap.size ≤ b from fun b hh => by
              rcases HG3.out.block with h1 | ⟨g, h1, h2⟩
              · rw [h1] at hh
                exact .inl (HB2.out b hh).2
              · rw [h1] at hh
                injection hh with hh
                exact .inr (by omega))
            have HK3 := Lib.hid (show (s2 ++ beb (2 : Int).toNat (kx + 1).toNat ++ beb (2 : Int).toNat (md : Int).toNat).length = s2.length + 4 by rw [List.length_append, HK2.out, beb_len]; rfl)
            clear HG2 HDb8 HLb
            go_wp2_with fail
            refine (put_grew HG3.out (by omega) HDb9.out (fun b hb hh => by have := HBlk2.out b hh; omega) (by have := HK3.out; omega)).mono ?_
            rintro e w10 ⟨A6, m6, q6, rfl, HG4, _, hsz10⟩
            clear HG3 HU3 HDb9 HDb
            go_wp2
            go_roundg (k - (j + 1))
            case measure => omega
            case rel =>
              have h1 := HG4.out
              have hb4 : s2 ++ beb (2 : Int).toNat (kx + 1).toNat ++ beb (2 : Int).toNat (md : Int).toNat ++ D = s2 ++ bes kx D := by
                unfold bes
                rw [HMd.out, List.append_assoc, List.append_assoc]
                rfl
              rw [hb4] at h1
              refine ⟨j + 1, (s1, s2 ++ bes kx D), by omega, rfl, by go_num, Lib.hid HF1.out.symm, Lib.hid (HS6.out.trans h1.upd fun b _ hh => by have := (HB2.out b hh).1; omega), Lib.hid ?_, Lib.hid h1.own, Lib.hid ?_, Lib.hid ⟨Bf, ?_⟩⟩
              · exact own_upd HO1.out h1.upd fun g hg hh => JD.out g hg hh
              · intro g hg hh
                rcases h1.block with h2 | ⟨g', h2, h3⟩
                · rw [h2] at hh
                  exact JD.out g hg hh
                · rw [h2] at hh
                  injection hh with hh
                  have := (HB1.out g hg).2
                  omega
              · exact own_upd HFo.out h1.upd fun g hg hh => own_ne_own HFo.out HO2.out (by decide) g hg hh
        · obtain rfl : j = k := by omega
          have hlen := pack_left room ha0 (ls.map KV.dat) room ([], []) (fun p hp => (HAll.out p hp).2.2) ha0 (by simp)
          have hLr := leftP_range (ls.map KV.dat) room ha0
          have hst := JST.out
          rw [List.take_of_length_le (by rw [HL.out]; exact Nat.le_refl _)] at hst
          rw [← hst] at hlen
          simp only at hlen
          have HOK2 := HOK.out
          rw [← hst] at HOK2
          obtain ⟨R, rfl⟩ := Int.eq_ofNat_of_zero_le ha0
          rw [Int.toNat_natCast] at HOK2
          have hs1l : s1.length ≤ 8 * R := by omega
          have HOK3 := Lib.hid HOK2
          obtain ⟨A1, m1, q1, rfl⟩ := own_slice JO1.out
          obtain ⟨A2, m2, q2, rfl⟩ := own_slice JO2.out
          have HB1 := Lib.hid (show ∀ g, (Value.slice A1 m1 q1).ownBlock = some g → w.heap.size ≤ g ∧ g < wr.heap.size from JO1.out.lt)
          have hsz0 := JS.out.size
          clear hlen hLr hst HOK2 JF
          go_wp2_with fail
          go_loopg [10] (8 * R - s1.length) (fun g y wx => ∃ (i Z : Nat), s1.length + i = Z ∧ g = 8 * R - Z ∧ Z ≤ 8 * R ∧ Hid (Grew wr w.heap.size 5 1 (.slice A1 m1 q1) Z ((s1 ++ List.replicate i 0).map u8v) y wx))
          case atStart => exact ⟨0, s1.length, rfl, rfl, hs1l, Lib.hid (by
            rw [List.replicate_zero, List.append_nil]
            exact Grew.refl JO1.out)⟩
          case round =>
            obtain ⟨i, Z, hZ, hg, hZle, KG⟩ := hrel
            have HZ := Lib.hid hZ
            have HG := Lib.hid hg
            obtain ⟨A5, q5, rfl⟩ := own_form KG.out.own
            have hszG := KG.out.size
            clear hZ hg
            by_cases hlt2 : Z < 8 * R
            · go_wp2_with (at_builtin; go_must (refine wpList_app rfl (.tmp 138) (.tmp 139) _ _ rfl w.heap.size 5 1 1 _ Try.underlying32 info_u8 rfl (.slice A5 Z q5) Z _ rfl (KG.out.own.alloc _) rfl (src_row Try.underlying32 (Row.one _ _ _) (by simp [Value.oneCell'])) (by unfold maxLen; omega) (by omega) (by simp; omega) ?_); intro v' w9 hg; have HG9 := Lib.hid hg; clear hg)
              go_roundg (8 * R - (Z + 1))
              case measure => rw [HG.out]; omega
              case rel =>
                refine ⟨i + 1, Z + 1, by rw [← HZ.out]; omega, rfl, by omega, Lib.hid ?_⟩
                have h1 := (KG.out.alloc _).trans HG9.out
                rw [← zeros_snoc, List.map_append]
                exact h1
            · have hZ8 : Z = 8 * R := by omega
              have HZ8 := Lib.hid hZ8
              clear hZ8
              go_wp2
              go_ret3
              have h1 := KG.out
              have hpad : s1 ++ List.replicate i 0 = padz s1 (8 * R) := by
                unfold padz
                rw [← HZ8.out, ← HZ.out, Nat.add_sub_cancel_left]
              rw [hpad] at h1
              have hpl : (padz s1 (8 * R)).length = Z := by rw [← hpad, ← HZ.out, List.length_append, List.length_replicate]
              have hE : E = 0 := congrArg (fun x => x.2.2) HOK3.out
              have hS : S = padz s1 (8 * R) := congrArg (fun x => x.1) HOK3.out
              have hO : O = s2 := congrArg (fun x => x.2.1) HOK3.out
              refine ⟨_, _, by rw [hE]; rfl, ?_, ?_, JS.out.trans h1.upd fun b _ hh => by have := (HB1.out b hh).1; omega⟩
              · rw [hS]
                unfold OwnB
                rw [hpl]
                exact h1.own
              · rw [hO]
                exact own_upd JO2.out h1.upd fun g hg hh => JD.out g hh hg
end Go.Proofs.Ytheinbigegobkaa
