/- Layer 16's reference: inOver. -/
import Derived.Test.YtheinbigegobkaaInO
namespace Go.Proofs.Ytheinbigegobkaa
open Go.RowKit

theorem u8_le (x : UInt8) : x.toNat ≤ 255 := by have := x.toNat_lt; omega
theorem u8_inj_val {x : UInt8} {X : Nat} (h : x.toNat = X) : Value.int .u8 (x.toNat : Int) = .int .u8 (X : Int) := by rw [h]
/-- Two bytes of a row. -/
theorem two_at {w : World} {F : Nat → Prop} {A : Option Addr} {n c : Nat} {bs : List UInt8} (h : Bytes w F A n c bs) {p : Nat} (hp : p + 2 ≤ n) :
    ∃ b o X Y, A = some ⟨b, o, none⟩ ∧ b < w.heap.size ∧ X ≤ 255 ∧ Y ≤ 255 ∧ be ((bs.drop p).take 2) = X * 256 + Y ∧ w.cell? ⟨b, o + p, none⟩ = some (.int .u8 (X : Nat)) ∧ w.cell? ⟨b, o + (p + 1), none⟩ = some (.int .u8 (Y : Nat)) := by
  obtain ⟨b, o, hA, hb, _, h1⟩ := h.at_ (i := p) (by omega)
  obtain ⟨b', o', hA', _, _, h2⟩ := h.at_ (i := p + 1) (by omega)
  rw [hA] at hA'
  injection hA' with hA'
  injection hA' with e1 e2 _
  subst e1 e2
  have hl := h.len
  refine ⟨b, o, _, _, hA, hb, u8_le _, u8_le _, ?_, h1, h2⟩
  have hd : 2 ≤ (bs.drop p).length := by rw [List.length_drop]; omega
  rw [take_two hd, be_two]
  simp only [List.getElem_drop]
  rfl

theorem rdec_own {F : Nat → Prop} {A : Option Addr} {n c : Nat} {bs : List UInt8} {g : GVal} {er : Int} (w : World) (hD : decD n (decP bs) = (g, er)) (hb : Bytes w F A n c bs) :
    Calls Try.prog 66 #[.slice A n c] w fun e w' => ∃ A1 n1 c1 A2 n2 c2, e = .returned (.tuple #[g.val A1 n1 c1 A2 n2 c2, .int .i64 er]) ∧ Hid (w'.ownsRow w.heap.size 2 1 (.slice A1 n1 c1) n1 (g.nums.map (Value.int .i64))) ∧ Hid (w'.ownsRow w.heap.size 9 1 (.slice A2 n2 c2) n2 (g.texts.map Value.string)) ∧ Same w w' := by
  refine (rdecode_spec w hb (g, er) hD).mono ?_
  rintro e w' ⟨v, rfl, ⟨v1, v2, rfl, h1, h2⟩, h3⟩
  obtain ⟨A1, c1, rfl⟩ := own_form h1
  obtain ⟨A2, c2, rfl⟩ := own_form h2
  exact ⟨A1, _, c1, A2, _, c2, rfl, Lib.hid h1, Lib.hid h2, h3⟩

set_option maxHeartbeats 8000000 in
set_option maxRecDepth 100000 in
theorem rinOver_spec {F : Nat → Prop} {A : Option Addr} {n c : Nat} {bs : List UInt8} (w : World) (hb : Bytes w F A n c bs) (hn : n ≤ 1048576) (R : Option (List GKV)) (hR : inO n bs = R) :
    Calls Try.prog 42 #[.slice A n c] w (InPost w R) := by
  have HB := Lib.hid hb
  have HR := Lib.hid hR
  have HL := Lib.hid hb.len
  have hc := Row.le hb
  have hcm := Row.max hb
  clear hb hR
  go_enter Try.func42, Try.ntmps42
  go_wp2_with fail
  go_loopg [4, 5] n (fun gh out at_ wr => ∃ (p fuel : Nat) (ls : List KV), n - p = gh ∧ p ≤ n ∧ at_ = .int .i64 p ∧ n ≤ fuel + p ∧ ls.length ≤ p ∧ Hid (Same w wr) ∧ Hid (OwnKV wr w.heap.size out ls) ∧ Hid ((inO fuel (bs.drop p)).map (ls.map KV.dat ++ ·) = R))
  case atStart => exact ⟨0, n, [], rfl, Nat.zero_le _, rfl, by omega, Nat.le_refl _, Lib.hid ((Upd.refl _ _).alloc _), Lib.hid ⟨World.ownsRow_made w #[] 0 (Nat.le_refl _) (Nat.zero_le _) rfl, by simp, by simp, by simp, by simp⟩, Lib.hid (by rw [List.drop_zero, HR.out]; simp)⟩
  case round =>
    obtain ⟨p, fuel, ls, rfl, hpn, rfl, hfu, hls, KS, KO, KQ⟩ := hrel
    obtain ⟨Ao, co, rfl⟩ := own_form KO.out.row
    by_cases hp : p < n
    · obtain ⟨fu, rfl⟩ : ∃ fu, fuel = fu + 1 := ⟨fuel - 1, by omega⟩
      by_cases h4 : n - p < 4
      · have HNone := Lib.hid (show R = none from by
          rw [← KQ.out, inO_short (by intro h; have := congrArg List.length h; rw [List.length_drop, HL.out] at this; simp at this; omega) (by rw [List.length_drop, HL.out]; exact h4)]
          rfl)
        have h4i : (n : Int) - p < 4 := by omega
        go_wp2
        go_ret2
        exact InPost.bad HNone.out KS.out
      · have h4i : ¬ (n : Int) - p < 4 := by omega
        have hbw := HB.out.same KS.out
        obtain ⟨b, o, X, Y, rfl, hblt, hX, hY, hN, r0, r1⟩ := two_at hbw (p := p) (by omega)
        obtain ⟨b', o', X', Y', hA', _, hX', hY', hK, r2, r3⟩ := two_at hbw (p := p + 2) (by omega)
        injection hA' with hA'
        injection hA' with e1 e2 _
        subst e1 e2
        obtain ⟨N, hNv⟩ : ∃ N, X * 256 + Y = N := ⟨_, rfl⟩
        obtain ⟨K, hKv⟩ : ∃ K, X' * 256 + Y' = K := ⟨_, rfl⟩
        have hNb : N ≤ 65535 := by omega
        have hKb : K ≤ 65535 := by omega
        rw [hNv] at hN
        rw [hKv] at hK
        have HStep := Lib.hid (inO_next (m := fu) (l := bs.drop p) (N := N) (k := K) (by rw [List.length_drop, HL.out]; omega) hN (by rw [List.drop_drop]; exact hK))
        have HNv := Lib.hid hNv
        have HKv := Lib.hid hKv
        clear hN hK hNv hKv hbw
        go_upto_region 6 with fail
        go_cut [6] from 21 to 33 (fun s6 wx => s6 = .int .i64 N ∧ ∃ d, wx = wr.drewN d)
        case first =>
          go_quiet (fail)
          go_wp2
          go_meet
          case rel => exact ⟨by rw [← HNv.out]; simp, _, rfl⟩
        case rest =>
          obtain ⟨rfl, d, rfl⟩ := hcut
          obtain ⟨q2, hq2⟩ : ∃ q, p + 2 = q := ⟨_, rfl⟩
          obtain ⟨q3, hq3⟩ : ∃ q, p + 3 = q := ⟨_, rfl⟩
          have hw2 : IntKind.i64.wrap ((p : Int) + 2) = (q2 : Int) := by rw [IntKind.wrap_i64]; omega
          have hw3 : IntKind.i64.wrap ((p : Int) + 3) = (q3 : Int) := by rw [IntKind.wrap_i64]; omega
          have hi2 : q2 < n := by omega
          have hi3 : q3 < n := by omega
          have r2' : wr.cell? ⟨b, o + q2, none⟩ = some (.int .u8 (X' : Nat)) := by rw [← hq2]; exact r2
          have r3' : wr.cell? ⟨b, o + q3, none⟩ = some (.int .u8 (Y' : Nat)) := by rw [← hq3]; exact r3
          clear r0 r1 r2 r3 hq2 hq3
          go_upto_region 7 with fail
          go_cut [7] from 34 to 47 (fun s7 wx => s7 = .int .i64 K ∧ ∃ d, wx = wr.drewN d)
          case first =>
            go_quiet (fail)
            go_wp2
            go_meet
            case rel => exact ⟨by rw [← HKv.out]; simp, _, rfl⟩
          case rest =>
            obtain ⟨rfl, d2, rfl⟩ := hcut
            clear r2' r3' HNv HKv hw2 hw3 hi2 hi3
            have hsd : Same wr (wr.drewN d2) := (Upd.refl _ wr).drewN d2
            have HBd := Lib.hid ((HB.out.same KS.out).same hsd)
            have HSd := Lib.hid (KS.out.same hsd)
            have HOd := Lib.hid (KO.out.same hsd)
            have hzd := KS.out.size
            clear hsd KS KO
            generalize hwd : wr.drewN d2 = w1 at *
            have hz1 : w.heap.size ≤ w1.heap.size := HSd.out.size
            clear hwd
            by_cases hbad : N = 0 ∨ 200 < N ∨ n < p + (4 + K)
            · have HNone := Lib.hid (show R = none from by
                rw [← KQ.out, HStep.out, if_pos (by rw [List.length_drop, HL.out]; omega)]
                rfl)
              by_cases h1 : N = 0
              · subst h1
                go_wp2
                go_ret2
                exact InPost.bad HNone.out HSd.out
              · by_cases h2 : 200 < N
                · go_wp2
                  go_ret2
                  exact InPost.bad HNone.out HSd.out
                · have h3 : (n : Int) - (p + 4) < K := by omega
                  go_wp2
                  go_ret2
                  exact InPost.bad HNone.out HSd.out
            · have hN1 : 1 ≤ N := by omega
              have hN2 : N ≤ 200 := by omega
              have hpk : p + (4 + K) ≤ n := by omega
              obtain ⟨⟨g, er⟩, hD⟩ : ∃ x, decD K (decP ((bs.drop (p + 4)).take K)) = x := ⟨_, rfl⟩
              have hst := HStep.out
              rw [if_neg (by rw [List.length_drop, HL.out]; omega), List.drop_drop, List.drop_drop, hD] at hst
              have HSt := Lib.hid hst
              have hfit := decD_fits K ((bs.drop (p + 4)).take K)
              rw [hD] at hfit
              have HFit := Lib.hid hfit
              obtain ⟨q, hq⟩ : ∃ q, p + 4 = q := ⟨_, rfl⟩
              rw [hq] at hD
              have HD := Lib.hid hD
              obtain ⟨q2, hq2⟩ : ∃ q2, q + K = q2 := ⟨_, rfl⟩
              have hcut := HBd.out.cut (j := q) (m := q2) (by omega) (by omega)
              rw [show q2 - q = K by omega, ← hq] at hcut
              rw [hq] at hcut
              have hw4 : IntKind.i64.wrap ((p : Int) + 4) = (q : Int) := by rw [IntKind.wrap_i64]; omega
              have hw5 : IntKind.i64.wrap ((q : Int) + (K : Int)) = (q2 : Int) := by rw [IntKind.wrap_i64]; omega
              have hqn : q2 ≤ n := by omega
              have hqq : q ≤ q2 := by omega
              have hqK : q2 - q = K := by omega
              have hnq : ¬ (n : Int) - q < K := by omega
              have hN1i : ¬ (N : Int) < 1 := by omega
              have hN2i : ¬ (200 : Int) < N := by omega
              have HQ := Lib.hid hq
              have HQ2 := Lib.hid hq2
              clear hst hD hfit HStep hq hq2 hbad
              by_cases hce : c = q
              all_goals
                first
                  | (subst hce; rw [if_pos rfl, Nat.sub_self] at hcut)
                  | rw [if_neg hce, Option.map_some, addr_add] at hcut
                have HCut := Lib.hid hcut
                clear hcut
                go_wp2_with fail
                refine (rdec_own _ HD.out HCut.out).mono ?_
                rintro e w7 ⟨X1, a1, b1, X2, a2, b2, rfl, HX1, HX2, hs7⟩
                obtain ⟨g0, g1, g2, g3, g4⟩ := g
                simp only [GVal.val]
                have hu := (Upd.refl (fun _ => False) w7).alloc (.cells #[.int .i64 g0, .int .i64 g1, .string g2, .slice X1 a1 b1, .slice X2 a2 b2] 26)
                have hbx := Blk.new w7 26 #[.int .i64 g0, .int .i64 g1, .string g2, .slice X1 a1 b1, .slice X2 a2 b2]
                have HY1 := Lib.hid (own_base (own_same HX1.out hu) hz1)
                have HY2 := Lib.hid (own_base (own_same HX2.out hu) hz1)
                have HS8 := Lib.hid ((HSd.out.same hs7).same hu)
                have HO8 := Lib.hid ((HOd.out.same hs7).same hu)
                have hz7 := hs7.size
                have hz8 := hu.size
                clear HX1 HX2 hs7 hu HSd HOd HCut HBd
                go_upto_region 12 with fail
                have HBX := Lib.hid hbx
                clear hbx
                generalize w7.alloc (.cells #[.int .i64 g0, .int .i64 g1, .string g2, .slice X1 a1 b1, .slice X2 a2 b2] 26) = w8 at *
                generalize w7.heap.size = gx at *
                by_cases her : er = 0
                · have hst := HSt.out
                  rw [if_neg (by simpa using her)] at hst
                  have HSt2 := Lib.hid hst
                  clear hst HSt
                  subst her
                  have HQ3 := Lib.hid (show (inO fu (bs.drop (p + (4 + K)))).map ((ls ++ [(⟨(N : Int) - 1, ⟨g0, g1, g2, g3, g4⟩, X1, a1, b1, X2, a2, b2⟩ : KV)]).map KV.dat ++ ·) = R from by
                    rw [← KQ.out, HSt2.out, Option.map_map]
                    congr 1
                    funext t
                    simp [KV.dat])
                  obtain ⟨p0, p1, p2, p3, p4⟩ := HBX.out.five
                  have hsz8 := HS8.out.size
                  go_wp2_with (at_builtin; go_must (refine wpList_app rfl (.tmp 78) (.tmp 83) _ _ rfl w.heap.size 47 6 88 _ Try.underlying30 info_kv rfl (.slice Ao ls.length co) ls.length _ rfl (HO8.out.row.alloc _) rfl (src_row Try.underlying30 (Row.kv _ ⟨(N : Int) - 1, ⟨g0, g1, g2, g3, g4⟩, X1, a1, b1, X2, a2, b2⟩) (kv_one _)) (by unfold maxLen; omega) (by omega) (by simp; omega) ?_); intro v' w10 hg; have HG10 := Lib.hid hg; clear hg)
                  have hq := HQ.out
                  have hq2 := HQ2.out
                  go_roundg (n - (p + (4 + K)))
                  case measure => omega
                  case rel =>
                    have hsA := (Upd.refl (fun _ => False) w8).alloc (.cells (KV.cells ⟨(N : Int) - 1, ⟨g0, g1, g2, g3, g4⟩, X1, a1, b1, X2, a2, b2⟩).toArray 47)
                    have hO10 := (HO8.out.same hsA).snoc (x := ⟨(N : Int) - 1, ⟨g0, g1, g2, g3, g4⟩, X1, a1, b1, X2, a2, b2⟩) HG10.out (own_same HY1.out hsA) (own_same HY2.out hsA) HFit.out ⟨by simp only; omega, by simp only; omega⟩
                    have hup : Upd (fun b => (Value.slice Ao ls.length co).ownBlock = some b) w8 w10 := (hsA.mono fun _ _ f => f.elim).trans HG10.out.upd fun _ _ hh => hh
                    exact ⟨p + (4 + K), fu, ls ++ [⟨(N : Int) - 1, ⟨g0, g1, g2, g3, g4⟩, X1, a1, b1, X2, a2, b2⟩], rfl, hpk, by rw [← hq2, ← hq]; congr 1; omega, by omega, by rw [List.length_append, List.length_singleton]; omega, Lib.hid (HS8.out.trans hup fun b hb hh => by have := (HO8.out.row.lt b hh).1; omega), Lib.hid hO10, HQ3⟩
                · have HNone := Lib.hid (show R = none from by
                    rw [← KQ.out, HSt.out, if_pos (by simpa using her)]
                    rfl)
                  have her2 : (er != 0) = true := by rw [bne_iff_ne]; exact her
                  go_wp2
                  go_ret2
                  exact InPost.bad HNone.out HS8.out
    · have hp0 : p = n := by omega
      have HE := Lib.hid (show R = some (ls.map KV.dat) from by
        rw [← KQ.out, List.drop_of_length_le (by rw [HL.out, hp0]; exact Nat.le_refl _), inO_nil]
        simp)
      go_wp2
      go_ret2
      exact InPost.ok HE.out KO.out KS.out
end Go.Proofs.Ytheinbigegobkaa
