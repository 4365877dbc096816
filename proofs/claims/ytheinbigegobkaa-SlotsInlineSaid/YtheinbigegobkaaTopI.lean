/- The walk of SlotsInline. -/
import Derived.Test.YtheinbigegobkaaTopP
import Derived.Test.YtheinbigegobkaaInlL
import Derived.Test.YtheinbigegobkaaRInO
namespace Go.Proofs.Ytheinbigegobkaa
open Go.RowKit

set_option maxHeartbeats 8000000 in
set_option maxRecDepth 100000 in
theorem sinline_walk {F : Nat → Prop} {A : Option Addr} {n c : Nat} {ls : List KV} (w : World) (h : RdKV w F A n c ls) {k : Int} (hk : -9223372036854775808 ≤ k ∧ k ≤ 9223372036854775807) (hn : n * 88 ≤ 140737488351232) (hz : ∀ x ∈ ls, x.Sized) :
    Calls Try.prog 9 #[.slice A n c, .int .i64 k] w fun e w' => e = .returned (.bool true) ∧ Same w w' := by
  obtain ⟨S, O, E, hP⟩ : ∃ S O E, packP (ls.map KV.dat) k = (S, O, E) := ⟨_, _, _, rfl⟩
  have HR := Lib.hid h
  have HP := Lib.hid hP
  have HZ := Lib.hid hz
  have HK := Lib.hid hk
  have HN := Lib.hid hn
  clear h hP hz hk hn
  go_enter Try.func9, Try.ntmps9
  go_wp2_with fail
  refine (speaks16_spec _).mono ?_
  rintro e w1 ⟨rfl, hs1⟩
  have HR1 := Lib.hid (HR.out.same hs1)
  have HS1 := Lib.hid hs1
  clear hs1 HR
  go_wp2_with fail
  refine (copyKV_on _ HR1.out (sized_small HZ.out) HN.out).mono ?_
  rintro e w2 ⟨Ac, cc, l, rfl, HL, HC, hs2⟩
  have HR2 := Lib.hid (HR1.out.same hs2)
  have HS2 := Lib.hid (HS1.out.same hs2)
  have HFl := Lib.hid (fit_dat HL.out (sized_fit HZ.out))
  have HPl := Lib.hid (show packP (l.map KV.dat) k = (S, O, E) by rw [HL.out]; exact HP.out)
  clear hs2 HR1 HS1
  go_wp2_with fail
  refine (pack_on _ HC.out HFl.out k HK.out HPl.out).mono ?_
  rintro e w3 ⟨A1, c1, A2, c2, rfl, HB1, HB2, hs3⟩
  have HR3 := Lib.hid (HR2.out.same hs3)
  have HS3 := Lib.hid (HS2.out.same hs3)
  clear hs3 HR2 HS2 HC HFl HL HPl
  by_cases hE : E = 0
  · subst hE
    obtain ⟨hk0, hk16, hn16, herr, -, -⟩ := pack_parts HP.out
    obtain ⟨hl1, hl2⟩ := pack_len HP.out
    have HErr := Lib.hid (packErr_all _ _ herr)
    have HLen := Lib.hid HR3.out.len
    rw [List.length_map, HLen.out] at hn16
    obtain ⟨K, hK⟩ : ∃ K : Nat, k = K := ⟨k.toNat, by omega⟩
    subst hK
    rw [Int.toNat_natCast] at hl1
    obtain ⟨m1, hm1⟩ : ∃ m, S.length = m := ⟨_, rfl⟩
    obtain ⟨m2, hm2⟩ : ∃ m, O.length = m := ⟨_, rfl⟩
    rw [hm1] at HB1 hl1 ⊢
    rw [hm2] at HB2 hl2 ⊢
    have HM1 := Lib.hid hm1
    have HM2 := Lib.hid hm2
    have HM8 := Lib.hid hl1
    have hK16 : K ≤ 16 := by omega
    clear herr hm1 hm2 hk0 hk16 hl1
    go_wp2_with fail
    go_loopg [8, 9, 10, 33] n (fun gh left bes_ at_ ix wr => ∃ (i q r a b : Nat), n - i = gh ∧ i ≤ n ∧ ix = .int .i64 i ∧ r + q = K ∧ 8 * q = a ∧ left = .int .i64 r ∧ at_ = .int .i64 a ∧ bes_ = .int .i64 b ∧ b ≤ m2 ∧ Hid ((laidP (8 * K) (ls.map KV.dat) i).1.length = a) ∧ Hid ((laidP (8 * K) (ls.map KV.dat) i).2.length = b) ∧ Hid (Same w3 wr))
    case atStart => exact ⟨0, 0, K, 0, 0, rfl, Nat.zero_le _, rfl, rfl, rfl, rfl, rfl, rfl, Nat.zero_le _, Lib.hid rfl, Lib.hid rfl, Lib.hid (Upd.refl _ _)⟩
    case round =>
      obtain ⟨i, q, r, a, b, rfl, hi, rfl, hq, ha, rfl, rfl, rfl, hb, KA, KB, KS⟩ := hrel
      by_cases hlt : i < n
      · have HRw := Lib.hid (HR3.out.same KS.out)
        obtain ⟨bb, o, x, rfl, hbb, _, hx, hxm, r0, r1, r2, r3, r4, r5⟩ := HRw.out.at_ hlt
        have HV := Lib.hid ((HRw.out.val x hxm).mono (F' := fun _ => True) fun _ _ _ => trivial)
        have hd : (ls.map KV.dat)[i]? = some x.dat := by rw [List.getElem?_map, hx]; rfl
        have HE := Lib.hid (HErr.out x.dat (List.mem_map_of_mem hxm))
        have hst := inline_step HP.out hd (a := a) (b := b) (by rw [Int.toNat_natCast]; exact KA.out) (by rw [Int.toNat_natCast]; exact KB.out)
        rw [Int.toNat_natCast] at hst
        have HSt := Lib.hid hst
        have HZ1 := Lib.hid (show x.n1 * 8 ≤ 140737488355328 from by have := (HZ.out x hxm).s1; omega)
        have HZ2 := Lib.hid (show x.n2 * 16 ≤ 140737488355328 from by have := (HZ.out x hxm).s2; omega)
        have HZ3 := Lib.hid (show x.g.text.size ≤ 9223372036854775807 from by have := (HZ.out x hxm).s3; omega)
        have HZ4 := Lib.hid (show ∀ s ∈ x.g.texts, s.size ≤ 9223372036854775807 from fun s hs => by have := (HZ.out x hxm).s4 s hs; omega)
        clear hx hxm hd hst HRw
        obtain ⟨kx, ⟨x0, x1, x2, x3, x4⟩, X1, a1, b1, X2, a2, b2⟩ := x
        simp only at r0 r1 r2 r3 r4 r5
        rw [show o + i * 6 + 1 + 1 = o + i * 6 + 2 from rfl] at r2
        rw [show o + i * 6 + 1 + 2 = o + i * 6 + 3 from rfl] at r3
        rw [show o + i * 6 + 1 + 3 = o + i * 6 + 4 from rfl] at r4
        rw [show o + i * 6 + 1 + 4 = o + i * 6 + 5 from rfl] at r5
        have hsA := (Upd.refl (fun _ => False) wr).alloc (.cells #[.int .i64 kx, .int .i64 x0, .int .i64 x1, .string x2, .slice X1 a1 b1, .slice X2 a2 b2] 47)
        have hbA := Blk.new wr 47 #[.int .i64 kx, .int .i64 x0, .int .i64 x1, .string x2, .slice X1 a1 b1, .slice X2 a2 b2]
        have HVA := Lib.hid (HV.out.same hsA)
        have HSA := Lib.hid (KS.out.same hsA)
        have HBA := Lib.hid hbA
        obtain ⟨N, hN⟩ : ∃ N, needP ⟨x0, x1, x2, x3, x4⟩ = N := ⟨_, rfl⟩
        have HNd := Lib.hid hN
        clear hsA hbA hN
        go_wp2_with fail
        refine (copy_on _ _ (Upd.refl _ _) HVA.out HZ1.out HZ2.out).mono ?_
        rintro e w4 ⟨Y1, e1, d1, Y2, e2, d2, rfl, hrd, hs4, _⟩
        have HRd := Lib.hid hrd
        have HS4 := Lib.hid (HSA.out.same hs4)
        have HBk := Lib.hid (HBA.out.same hs4)
        clear hrd hs4 HSA HVA HBA
        go_wp2_with fail
        refine (need_on _ _ HNd.out (Upd.refl _ _) HRd.out HZ3.out HZ4.out).mono ?_
        rintro e w5 ⟨rfl, hs5, _⟩
        have HS5 := Lib.hid (HS4.out.same hs5)
        have hbk := HBk.out.same hs5
        have p0 := hbk.cell 0
        simp at p0
        have HBs := Lib.hid (HB1.out.same HS5.out)
        have HBo := Lib.hid (HB2.out.same HS5.out)
        have hN1 : 1 ≤ N := by
          rw [← HNd.out]
          unfold needP
          rw [if_pos (show chk ⟨x0, x1, x2, x3, x4⟩ = 0 from HE.out.2.2)]
          omega
        have hkx : 0 ≤ kx ∧ kx ≤ 199 := ⟨HE.out.1, HE.out.2.1⟩
        have hst : (8 * N ≤ 8 * K - a ∧ be ((S.drop a).take 2) = (kx + 1).toNat ∧ (laidP (8 * K) (ls.map KV.dat) (i + 1)).1.length = a + 8 * N ∧ (laidP (8 * K) (ls.map KV.dat) (i + 1)).2.length = b) ∨
            (8 * K - a < 8 * N ∧ be ((O.drop b).take 2) = (kx + 1).toNat ∧ (laidP (8 * K) (ls.map KV.dat) (i + 1)).1.length = a ∧ ∃ k, be ((O.drop (b + 2)).take 2) = k ∧ b + 4 + k ≤ O.length ∧ (laidP (8 * K) (ls.map KV.dat) (i + 1)).2.length = b + 4 + k) := by rw [← HNd.out]; exact HSt.out
        clear HBk hbk hs5 HSt HE HS4 HRd HNd HZ1 HZ2 HZ3 HZ4 HV r0 r1 r2 r3 r4 r5 KA KB
        generalize wr.heap.size = g0 at *
        rcases hst with ⟨hle, hkey, l1, l2⟩ | ⟨hgt, hkey, l1, kk, hk1, hk2, l2⟩
        · have hm8 := HM8.out
          have ha2 : a + 8 ≤ m1 := by omega
          have hNr : (N : Int) ≤ r := by omega
          clear hm8
          obtain ⟨b', o', X, Y, rfl, hblt, hX, hY, hN, q0, q1⟩ := two_at HBs.out (p := a) (by omega)
          obtain ⟨ap, hap⟩ : ∃ ap, a + 1 = ap := ⟨_, rfl⟩
          rw [hap] at q1
          have hw1 : IntKind.i64.wrap ((a : Int) + 1) = (ap : Int) := by rw [IntKind.wrap_i64]; omega
          have hapm : ap < m1 := by omega
          have ham : a < m1 := by omega
          have hge : ¬ (m1 : Int) ≤ (ap : Int) := by omega
          have hN1i : ¬ (N : Int) < 1 := by omega
          have HKey := Lib.hid (hN.symm.trans hkey)
          have HL1 := Lib.hid l1
          have HL2 := Lib.hid l2
          clear hkey l1 l2 hN
          go_upto_region 14 with fail
          go_cut [69] from 46 to 69 (fun s69 wx => s69 = .bool false ∧ ∃ d, wx = w5.drewN d)
          case first =>
            go_quiet (fail)
            go_wp2
            go_meet
            case rel =>
              have := HKey.out
              have e1 : IntKind.i64.wrap (kx + 1) = kx + 1 := by rw [IntKind.wrap_i64]; omega
              have e2 : IntKind.i64.wrap (X : Int) = X := by rw [IntKind.wrap_i64]; omega
              have e3 : IntKind.i64.wrap ((X : Int) * 256) = X * 256 := by rw [IntKind.wrap_i64]; omega
              have e4 : IntKind.i64.wrap (Y : Int) = Y := by rw [IntKind.wrap_i64]; omega
              have e5 : IntKind.i64.wrap ((X : Int) * 256 + Y) = kx + 1 := by rw [IntKind.wrap_i64]; omega
              refine ⟨?_, _, rfl⟩
              rw [e1, e2, e3, e4, e5]
              simp [hapm]
          case rest =>
            obtain ⟨rfl, d, rfl⟩ := hcut
            have hsd : Same w5 (w5.drewN d) := (Upd.refl _ w5).drewN d
            have HS6 := Lib.hid (HS5.out.same hsd)
            obtain ⟨r', hr'⟩ : ∃ r', N + r' = r := ⟨r - N, by omega⟩
            have hsub : IntKind.i64.wrap ((r : Int) - N) = (r' : Int) := by rw [IntKind.wrap_i64]; omega
            obtain ⟨N8, hN8⟩ : ∃ x, 8 * N = x := ⟨_, rfl⟩
            have hmul : IntKind.i64.wrap (8 * (N : Int)) = (N8 : Int) := by rw [IntKind.wrap_i64]; omega
            obtain ⟨a', ha'⟩ : ∃ x, a + N8 = x := ⟨_, rfl⟩
            have hadd : IntKind.i64.wrap ((a : Int) + N8) = (a' : Int) := by rw [IntKind.wrap_i64]; omega
            clear hsd HS5 HBs HBo p0 q0 q1 hw1
            go_wp2
            go_roundg (n - (i + 1))
            case measure => omega
            case rel => exact ⟨i + 1, q + N, r', a', b, rfl, by omega, by go_num, by omega, by omega, rfl, rfl, rfl, hb, Lib.hid (by rw [HL1.out]; omega), HL2, HS6⟩
        · have hm8 := HM8.out
          have hrN : ¬ (N : Int) ≤ r := by omega
          have hrN2 : ¬ N ≤ r := by omega
          have hb4 : b + 4 + kk ≤ m2 := by rw [← HM2.out]; exact hk2
          clear hm8
          obtain ⟨b', o', X, Y, rfl, hblt, hX, hY, hN, q0, q1⟩ := two_at HBo.out (p := b) (by omega)
          obtain ⟨b2', o2', X', Y', hA', -, hX', hY', hN', q2, q3⟩ := two_at HBo.out (p := b + 2) (by omega)
          injection hA' with hA'
          injection hA' with ea eb _
          subst ea eb
          obtain ⟨bp, hbp⟩ : ∃ bp, b + 1 = bp := ⟨_, rfl⟩
          obtain ⟨bp2, hbp2⟩ : ∃ bp, b + 2 = bp := ⟨_, rfl⟩
          obtain ⟨bp3, hbp3⟩ : ∃ bp, b + 3 = bp := ⟨_, rfl⟩
          rw [hbp] at q1
          rw [hbp2] at q2
          rw [show b + 2 + 1 = bp3 by omega] at q3
          have hw1 : IntKind.i64.wrap ((b : Int) + 1) = (bp : Int) := by rw [IntKind.wrap_i64]; omega
          have hw2 : IntKind.i64.wrap ((b : Int) + 2) = (bp2 : Int) := by rw [IntKind.wrap_i64]; omega
          have hw3 : IntKind.i64.wrap ((b : Int) + 3) = (bp3 : Int) := by rw [IntKind.wrap_i64]; omega
          have hwd : IntKind.i64.wrap ((m2 : Int) - b) = ((m2 - b : Nat) : Int) := by rw [IntKind.wrap_i64]; omega
          have hbm : b < m2 := by omega
          have hbpm : bp < m2 := by omega
          have hbpm2 : bp2 < m2 := by omega
          have hbpm3 : bp3 < m2 := by omega
          obtain ⟨dm, hdm⟩ : ∃ dm, m2 - b = dm := ⟨_, rfl⟩
          rw [hdm] at hwd
          have hd4 : ¬ (dm : Int) < 4 := by omega
          have hN1i : ¬ (N : Int) < 1 := by omega
          have HKey := Lib.hid (hN.symm.trans hkey)
          have HK2 := Lib.hid (hN'.symm.trans hk1)
          have HL1 := Lib.hid l1
          have HL2 := Lib.hid l2
          clear hkey l1 l2 hN hN' hk1 hk2
          go_upto_region 18 with fail
          go_cut [100] from 77 to 100 (fun s100 wx => s100 = .bool false ∧ ∃ d, wx = w5.drewN d)
          case first =>
            go_quiet (fail)
            go_wp2
            go_meet
            case rel =>
              have := HKey.out
              have e1 : IntKind.i64.wrap (kx + 1) = kx + 1 := by rw [IntKind.wrap_i64]; omega
              have e2 : IntKind.i64.wrap (X : Int) = X := by rw [IntKind.wrap_i64]; omega
              have e3 : IntKind.i64.wrap ((X : Int) * 256) = X * 256 := by rw [IntKind.wrap_i64]; omega
              have e4 : IntKind.i64.wrap (Y : Int) = Y := by rw [IntKind.wrap_i64]; omega
              have e5 : IntKind.i64.wrap ((X : Int) * 256 + Y) = kx + 1 := by rw [IntKind.wrap_i64]; omega
              refine ⟨?_, _, rfl⟩
              rw [e1, e2, e3, e4, e5]
              simp
              omega
          case rest =>
            obtain ⟨rfl, d, rfl⟩ := hcut
            clear q0 q1 hw1 p0
            have q2d : (w5.drewN d).cell? ⟨b', o' + bp2, none⟩ = some (.int .u8 (X' : Nat)) := q2
            have q3d : (w5.drewN d).cell? ⟨b', o' + bp3, none⟩ = some (.int .u8 (Y' : Nat)) := q3
            have hsd : Same w5 (w5.drewN d) := (Upd.refl _ w5).drewN d
            have HS6 := Lib.hid (HS5.out.same hsd)
            clear hsd HS5 HBs HBo q2 q3
            generalize w5.drewN d = w6 at *
            go_upto_region 20 with fail
            have e2 : IntKind.i64.wrap (X' : Int) = X' := by rw [IntKind.wrap_i64]; omega
            obtain ⟨xm, hxm⟩ : ∃ x, X' * 256 = x := ⟨_, rfl⟩
            have e3 : IntKind.i64.wrap ((X' : Int) * 256) = (xm : Int) := by rw [IntKind.wrap_i64]; omega
            have e4 : IntKind.i64.wrap (Y' : Int) = Y' := by rw [IntKind.wrap_i64]; omega
            obtain ⟨xs, hxs⟩ : ∃ x, 4 + xm = x := ⟨_, rfl⟩
            have e5 : IntKind.i64.wrap (4 + (xm : Int)) = (xs : Int) := by rw [IntKind.wrap_i64]; omega
            obtain ⟨xe, hxe⟩ : ∃ x, xs + Y' = x := ⟨_, rfl⟩
            have e6 : IntKind.i64.wrap ((xs : Int) + Y') = (xe : Int) := by rw [IntKind.wrap_i64]; omega
            obtain ⟨bn, hbn⟩ : ∃ x, b + xe = x := ⟨_, rfl⟩
            have e7 : IntKind.i64.wrap ((b : Int) + xe) = (bn : Int) := by have := HK2.out; rw [IntKind.wrap_i64]; omega
            have hbk : bn = b + 4 + kk := by have := HK2.out; omega
            clear hxm hxs hxe hbn
            go_quiet (fail)
            have hsd : Same w6 (w6.drewN nq) := (Upd.refl _ w6).drewN nq
            have HS7 := Lib.hid (HS6.out.same hsd)
            clear hsd HS6 q2d q3d hw2 hw3 hwd
            go_wp2
            go_roundg (n - (i + 1))
            case measure => omega
            case rel => exact ⟨i + 1, q, r, a, bn, rfl, by omega, by go_num, by omega, by omega, rfl, rfl, by rw [hbk]; simp, by omega, HL1, Lib.hid (by rw [HL2.out, hbk]), HS7⟩
      · have hin : i = n := by omega
        subst hin
        obtain ⟨hbe, hae, hzz⟩ := inline_end HP.out (n := i) (a := a) (b := b) (by rw [List.length_map, HLen.out]) (by rw [Int.toNat_natCast]; exact KA.out) (by rw [Int.toNat_natCast]; exact KB.out)
        rw [HM2.out] at hbe
        have HZz := Lib.hid hzz
        have ham : a ≤ m1 := by rw [← HM1.out]; exact hae
        clear hzz hae KA KB
        have HBs := Lib.hid (HB1.out.same KS.out)
        subst hbe
        have hm128 : m1 ≤ 128 := by have := HM8.out; omega
        go_wp2_with fail
        go_loopg [14] (m1 - a) (fun gh ix wx => ∃ j : Nat, m1 - j = gh ∧ a ≤ j ∧ j ≤ m1 ∧ ix = .int .i64 j ∧ wx = wr)
        case atStart => exact ⟨a, rfl, Nat.le_refl _, ham, rfl, rfl⟩
        case round =>
          obtain ⟨j, rfl, haj, hjm, rfl, rfl⟩ := hrel
          by_cases hj : j < m1
          · obtain ⟨bz, oz, rfl, -, -, hz⟩ := HBs.out.at_ hj
            rw [HZz.out j (by rw [HM1.out]; exact hj) haj] at hz
            go_wp2
            go_roundg (m1 - (j + 1))
            case measure => omega
            case rel => exact ⟨j + 1, rfl, by omega, by omega, by go_num, rfl⟩
          · have hw8 : IntKind.i64.wrap (8 * (K : Int)) = (m1 : Int) := by have := HM8.out; rw [IntKind.wrap_i64]; omega
            go_wp2
            go_ret
            exact ⟨rfl, HS3.out.same KS.out⟩
  · have hE2 : (E != 0) = true := by rw [bne_iff_ne]; exact hE
    obtain ⟨rfl, rfl⟩ := pack_refused HP.out hE
    go_wp2
    go_ret
    exact ⟨rfl, HS3.out⟩
end Go.Proofs.Ytheinbigegobkaa
