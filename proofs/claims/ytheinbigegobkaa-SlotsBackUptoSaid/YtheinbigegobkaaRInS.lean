/- Layer 16's reference: InSlots. -/
import Derived.Test.YtheinbigegobkaaRInO
import Derived.Test.YtheinbigegobkaaBackL
namespace Go.Proofs.Ytheinbigegobkaa
open Go.RowKit

theorem rpre_own {F : Nat → Prop} {A : Option Addr} {n c k : Nat} {bs : List UInt8} {g : GVal} {er : Int} (w : World) (hD : decP bs = (g, k, er)) (hb : Bytes w F A n c bs) :
    Calls Try.prog 65 #[.slice A n c] w fun e w' => ∃ A1 n1 c1 A2 n2 c2, e = .returned (.tuple #[g.val A1 n1 c1 A2 n2 c2, .int .i64 k, .int .i64 er]) ∧ Hid (w'.ownsRow w.heap.size 2 1 (.slice A1 n1 c1) n1 (g.nums.map (Value.int .i64))) ∧ Hid (w'.ownsRow w.heap.size 9 1 (.slice A2 n2 c2) n2 (g.texts.map Value.string)) ∧ Same w w' := by
  refine (rprefix_spec w hb (g, k, er) hD).mono ?_
  rintro e w' ⟨v, rfl, ⟨v1, v2, rfl, h1, h2⟩, h3⟩
  obtain ⟨A1, c1, rfl⟩ := own_form h1
  obtain ⟨A2, c2, rfl⟩ := own_form h2
  exact ⟨A1, _, c1, A2, _, c2, rfl, Lib.hid h1, Lib.hid h2, h3⟩
/-- One byte of a row; zeros from there on. -/
theorem zero_at {w : World} {F : Nat → Prop} {A : Option Addr} {n c : Nat} {bs : List UInt8} (h : Bytes w F A n c bs) {j e : Nat} (hj : j < n) (he : j < e) :
    ∃ b o X, A = some ⟨b, o, none⟩ ∧ X ≤ 255 ∧ w.cell? ⟨b, o + j, none⟩ = some (.int .u8 (X : Nat)) ∧ zerosB ((bs.drop j).take (e - j)) = (decide (X = 0) && zerosB ((bs.drop (j + 1)).take (e - (j + 1)))) := by
  obtain ⟨b, o, hA, _, _, h1⟩ := h.at_ (i := j) hj
  have hl : j < bs.length := by rw [h.len]; exact hj
  refine ⟨b, o, _, hA, u8_le _, h1, ?_⟩
  have hd : bs.drop j = bs[j] :: bs.drop (j + 1) := List.drop_eq_getElem_cons hl
  have he1 : e - j = (e - (j + 1)) + 1 := by omega
  rw [hd, he1, List.take_succ_cons]
  unfold zerosB
  rw [List.all_cons]
  congr 1
  rw [Bool.eq_iff_iff, beq_iff_eq, decide_eq_true_eq]
  exact ⟨fun h => by rw [h]; rfl, fun h => UInt8.toNat_inj.1 h⟩

theorem pad8_mul (n : Nat) : pad8 n % 8 = 0 := by unfold pad8; omega

set_option maxHeartbeats 8000000 in
set_option maxRecDepth 100000 in
theorem rinSlots_spec {F : Nat → Prop} {A : Option Addr} {n c : Nat} {bs : List UInt8} (w : World) (hb : Bytes w F A n c bs) (h8 : n % 8 = 0) (hn : n ≤ 128) (R : Option (List GKV)) (hR : inS n bs = R) :
    Calls Try.prog 41 #[.slice A n c] w (InPost w R) := by
  have HB := Lib.hid hb
  have HR := Lib.hid hR
  have HL := Lib.hid hb.len
  have H8 := Lib.hid h8
  have hc := Row.le hb
  have hcm := Row.max hb
  clear hb hR h8
  go_enter Try.func41, Try.ntmps41
  go_wp2_with fail
  go_loopg [4, 5] n (fun gh out at_ wr => ∃ (p fuel : Nat) (ls : List KV), n - p = gh ∧ p ≤ n ∧ at_ = .int .i64 p ∧ Hid (p % 8 = 0) ∧ n ≤ fuel + p ∧ ls.length ≤ p ∧ Hid (Same w wr) ∧ Hid (OwnKV wr w.heap.size out ls) ∧ Hid ((inS fuel (bs.drop p)).map (ls.map KV.dat ++ ·) = R))
  case atStart => exact ⟨0, n, [], rfl, Nat.zero_le _, rfl, Lib.hid rfl, by omega, Nat.le_refl _, Lib.hid ((Upd.refl _ _).alloc _), Lib.hid ⟨World.ownsRow_made w #[] 0 (Nat.le_refl _) (Nat.zero_le _) rfl, by simp, by simp, by simp, by simp⟩, Lib.hid (by rw [List.drop_zero, HR.out]; simp)⟩
  case round =>
    obtain ⟨p, fuel, ls, rfl, hpn, rfl, HP8, hfu, hls, KS, KO, KQ⟩ := hrel
    obtain ⟨Ao, co, rfl⟩ := own_form KO.out.row
    by_cases hp : p < n
    · obtain ⟨fu, rfl⟩ : ∃ fu, fuel = fu + 1 := ⟨fuel - 1, by omega⟩
      have hp8 : p + 8 ≤ n := by have := HP8.out; have := H8.out; omega
      have hbw := HB.out.same KS.out
      obtain ⟨b, o, X, Y, rfl, hblt, hX, hY, hN, r0, r1⟩ := two_at hbw (p := p) (by omega)
      obtain ⟨N, hNv⟩ : ∃ N, X * 256 + Y = N := ⟨_, rfl⟩
      have hNb : N ≤ 65535 := by omega
      rw [hNv] at hN
      have hne : bs.drop p ≠ [] := by
        intro h
        have := congrArg List.length h
        rw [List.length_drop, HL.out] at this
        simp at this
        omega
      have HNe := Lib.hid hne
      have HN := Lib.hid hN
      have HNv := Lib.hid hNv
      clear hN hNv hbw hne
      go_upto_region 4 with fail
      go_cut [6] from 15 to 27 (fun s6 wx => s6 = .int .i64 N ∧ ∃ d, wx = wr.drewN d)
      case first =>
        go_quiet (fail)
        go_wp2
        go_meet
        case rel => exact ⟨by rw [← HNv.out]; simp, _, rfl⟩
      case rest =>
        obtain ⟨rfl, d, rfl⟩ := hcut
        have hsd : Same wr (wr.drewN d) := (Upd.refl _ wr).drewN d
        have HBd := Lib.hid ((HB.out.same KS.out).same hsd)
        have HSd := Lib.hid (KS.out.same hsd)
        have HOd := Lib.hid (KO.out.same hsd)
        clear hsd KS KO r0 r1 HNv
        generalize hwd : wr.drewN d = w1 at *
        have hz1 : w.heap.size ≤ w1.heap.size := HSd.out.size
        clear hwd
        by_cases hN0 : N = 0
        · subst hN0
          have HZ := Lib.hid (inS_zero (m := fu) HNe.out HN.out)
          go_wp2_with fail
          go_loopg [5] (n - p) (fun gh at_ wy => ∃ j : Nat, n - j = gh ∧ p ≤ j ∧ j ≤ n ∧ at_ = .int .i64 j ∧ wy = w1 ∧ Hid (zerosB (bs.drop p) = zerosB ((bs.drop j).take (n - j))))
          case atStart => exact ⟨p, rfl, Nat.le_refl _, hpn, rfl, rfl, Lib.hid (by rw [List.take_of_length_le (by rw [List.length_drop, HL.out]; exact Nat.le_refl _)])⟩
          case round =>
            obtain ⟨j, rfl, hpj, hjn, rfl, rfl, KZ⟩ := hrel
            by_cases hj : j < n
            · obtain ⟨b', o', X', hA, hX', q0, hz⟩ := zero_at HBd.out hj hj
              injection hA with hA
              injection hA with e1 e2 _
              subst e1 e2
              have HZ2 := Lib.hid hz
              clear hz
              by_cases hx0 : X' = 0
              · subst hx0
                go_wp2
                go_roundg (n - (j + 1))
                case measure => omega
                case rel => exact ⟨j + 1, rfl, by omega, by omega, by go_num, rfl, Lib.hid (by rw [KZ.out, HZ2.out]; simp)⟩
              · have hxi : ((X' : Int) != 0) = true := by rw [bne_iff_ne]; omega
                have HNone := Lib.hid (show R = none from by
                  rw [← KQ.out, HZ.out, KZ.out, HZ2.out]
                  simp [hx0])
                go_wp2
                go_ret2
                exact InPost.bad HNone.out HSd.out
            · have hjn2 : j = n := by omega
              have HOk := Lib.hid (show R = some (ls.map KV.dat) from by
                rw [← KQ.out, HZ.out, KZ.out, hjn2]
                simp [zerosB])
              go_wp2
              go_ret2
              exact InPost.ok HOk.out HOd.out HSd.out
        · obtain ⟨⟨g, k, er⟩, hP⟩ : ∃ P, decP (bs.drop (p + 2)) = P := ⟨_, rfl⟩
          have hkl := decP_le (bs.drop (p + 2))
          rw [hP, List.length_drop, HL.out] at hkl
          simp only at hkl
          have HNx := Lib.hid (inS_next (m := fu) (g := g) (k := k) (er := er) HNe.out HN.out hN0 (by rw [List.drop_drop]; exact hP))
          have HFit := Lib.hid (show g.Fits from by have := decP_fits (bs.drop (p + 2)); rw [hP] at this; exact this)
          obtain ⟨q, hq⟩ : ∃ q, p + 2 = q := ⟨_, rfl⟩
          have hre := HBd.out.rest (j := q) (by omega)
          rw [if_neg (by omega), Option.map_some, addr_add] at hre
          have HRe := Lib.hid hre
          rw [hq] at hP
          have HP := Lib.hid hP
          have hw2 : IntKind.i64.wrap ((p : Int) + 2) = (q : Int) := by rw [IntKind.wrap_i64]; omega
          have hqn : q ≤ n := by omega
          have hqc : ¬ c = q := by omega
          have HQ := Lib.hid hq
          clear hP hre hq
          go_wp2_with fail
          refine (rpre_own _ HP.out HRe.out).mono ?_
          rintro e w3 ⟨X1, a1, b1, X2, a2, b2, rfl, HX1, HX2, hs3⟩
          obtain ⟨g0, g1, g2, g3, g4⟩ := g
          simp only [GVal.val]
          have hu := (Upd.refl (fun _ => False) w3).alloc (.cells #[.int .i64 g0, .int .i64 g1, .string g2, .slice X1 a1 b1, .slice X2 a2 b2] 26)
          have hbx := Blk.new w3 26 #[.int .i64 g0, .int .i64 g1, .string g2, .slice X1 a1 b1, .slice X2 a2 b2]
          have HY1 := Lib.hid (own_base (own_same HX1.out hu) hz1)
          have HY2 := Lib.hid (own_base (own_same HX2.out hu) hz1)
          have HS8 := Lib.hid ((HSd.out.same hs3).same hu)
          have HO8 := Lib.hid ((HOd.out.same hs3).same hu)
          have HB8 := Lib.hid ((HBd.out.same hs3).same hu)
          have hz7 := hs3.size
          have hz8 := hu.size
          clear HX1 HX2 hs3 hu HSd HOd HRe HBd hw2 hqn hqc
          go_upto_region 12 with fail
          have HBX := Lib.hid hbx
          clear hbx
          generalize w3.alloc (.cells #[.int .i64 g0, .int .i64 g1, .string g2, .slice X1 a1 b1, .slice X2 a2 b2] 26) = w8 at *
          generalize w3.heap.size = gx at *
          by_cases hbad : 200 < N ∨ er ≠ 0
          · have HNone := Lib.hid (show R = none from by
              rw [← KQ.out, HNx.out, if_pos hbad]
              rfl)
            by_cases h2 : 200 < N
            · go_wp2
              go_ret2
              exact InPost.bad HNone.out HS8.out
            · have her2 : (er != 0) = true := by rw [bne_iff_ne]; rcases hbad with h | h; exact absurd h h2; exact h
              go_wp2
              go_ret2
              exact InPost.bad HNone.out HS8.out
          · have hst := HNx.out
            rw [if_neg hbad] at hst
            have h2 : ¬ 200 < N := fun h => hbad (.inl h)
            obtain rfl : er = 0 := Decidable.not_not.1 fun h => hbad (.inr h)
            have hpd := pad8_mul (2 + k)
            have hpl := pad8_le (2 + k)
            obtain ⟨s, hs⟩ : ∃ s, p + (2 + k) = s := ⟨_, rfl⟩
            obtain ⟨e, he⟩ : ∃ e, p + pad8 (2 + k) = e := ⟨_, rfl⟩
            rw [List.drop_take, List.drop_drop, List.drop_drop, hs, he, show pad8 (2 + k) - (2 + k) = e - s by omega] at hst
            have HSt := Lib.hid hst
            have hp8' := HP8.out
            have hn8' := H8.out
            have hse : s ≤ e := by omega
            have hes : e < s + 8 := by omega
            have he8 : e % 8 = 0 := by omega
            have hen : e ≤ n := by omega
            have HSs := Lib.hid hs
            have hpe : p < e := by omega
            have hkb : k ≤ 128 := by omega
            clear hst hbad HNx hpd hpl hs he hp8' hn8'
            go_upto_region 14 with fail
            go_cut [5] from 59 to 62 (fun s5 wx => s5 = .int .i64 s ∧ w8 = wx)
            case first =>
              go_wp2
              go_meet
              case rel => exact ⟨by rw [← HSs.out]; simp, rfl⟩
            case rest =>
              obtain ⟨rfl, rfl⟩ := hcut
              clear HSs
              go_wp2_with fail
              go_loopg [5] (e - s) (fun gh at_ wy => ∃ j : Nat, e - j = gh ∧ s ≤ j ∧ j ≤ e ∧ at_ = .int .i64 j ∧ w8 = wy ∧ Hid (zerosB ((bs.drop s).take (e - s)) = zerosB ((bs.drop j).take (e - j))))
              case atStart => exact ⟨s, rfl, Nat.le_refl _, hse, rfl, rfl, Lib.hid rfl⟩
              case round =>
                obtain ⟨j, rfl, hsj, hje, rfl, rfl, KZ⟩ := hrel
                by_cases hj8 : j % 8 = 0
                · have HJ := Lib.hid (show j = e by omega)
                  have hst := HSt.out
                  rw [KZ.out, HJ.out, Nat.sub_self, if_pos (by simp [zerosB])] at hst
                  have HSt2 := Lib.hid hst
                  clear hst HSt KZ
                  have HQ3 := Lib.hid (show (inS fu (bs.drop e)).map ((ls ++ [(⟨(N : Int) - 1, ⟨g0, g1, g2, g3, g4⟩, X1, a1, b1, X2, a2, b2⟩ : KV)]).map KV.dat ++ ·) = R from by
                    rw [← KQ.out, HSt2.out, Option.map_map]
                    congr 1
                    funext t
                    simp [KV.dat])
                  obtain ⟨p0, p1, p2, p3, p4⟩ := HBX.out.five
                  have hsz8 := HS8.out.size
                  go_wp2_with (at_builtin; go_must (refine wpList_app rfl (.tmp 74) (.tmp 79) _ _ rfl w.heap.size 47 6 88 _ Try.underlying30 info_kv rfl (.slice Ao ls.length co) ls.length _ rfl (HO8.out.row.alloc _) rfl (src_row Try.underlying30 (Row.kv _ ⟨(N : Int) - 1, ⟨g0, g1, g2, g3, g4⟩, X1, a1, b1, X2, a2, b2⟩) (kv_one _)) (by unfold maxLen; omega) (by omega) (by simp; omega) ?_); intro v' w10 hg; have HG10 := Lib.hid hg; clear hg)
                  go_roundg (n - e)
                  case measure => omega
                  case rel =>
                    have hsA := (Upd.refl (fun _ => False) w8).alloc (.cells (KV.cells ⟨(N : Int) - 1, ⟨g0, g1, g2, g3, g4⟩, X1, a1, b1, X2, a2, b2⟩).toArray 47)
                    have hO10 := (HO8.out.same hsA).snoc (x := ⟨(N : Int) - 1, ⟨g0, g1, g2, g3, g4⟩, X1, a1, b1, X2, a2, b2⟩) HG10.out (own_same HY1.out hsA) (own_same HY2.out hsA) HFit.out ⟨by simp only; omega, by simp only; omega⟩
                    have hup : Upd (fun b => (Value.slice Ao ls.length co).ownBlock = some b) w8 w10 := (hsA.mono fun _ _ f => f.elim).trans HG10.out.upd fun _ _ hh => hh
                    exact ⟨e, fu, ls ++ [⟨(N : Int) - 1, ⟨g0, g1, g2, g3, g4⟩, X1, a1, b1, X2, a2, b2⟩], rfl, hen, by rw [HJ.out], Lib.hid he8, by omega, by rw [List.length_append, List.length_singleton]; omega, Lib.hid (HS8.out.trans hup fun b hb hh => by have := (HO8.out.row.lt b hh).1; omega), Lib.hid hO10, HQ3⟩
                · have hjn : j < n := by omega
                  have hje2 : j < e := by omega
                  obtain ⟨b', o', X', hA, hX', q0, hz⟩ := zero_at HB8.out hjn hje2
                  injection hA with hA
                  injection hA with e1 e2 _
                  subst e1 e2
                  have HZ2 := Lib.hid hz
                  clear hz
                  by_cases hx0 : X' = 0
                  · subst hx0
                    go_wp2
                    go_roundg (e - (j + 1))
                    case measure => omega
                    case rel => exact ⟨j + 1, rfl, by omega, by omega, by go_num, rfl, Lib.hid (by rw [KZ.out, HZ2.out]; simp)⟩
                  · have hxi : ((X' : Int) != 0) = true := by rw [bne_iff_ne]; omega
                    have HNone := Lib.hid (show R = none from by
                      rw [← KQ.out, HSt.out, KZ.out, HZ2.out]
                      simp [hx0])
                    go_wp2
                    go_ret2
                    exact InPost.bad HNone.out HS8.out
    · have hp0 : p = n := by omega
      have HE := Lib.hid (show R = some (ls.map KV.dat) from by
        rw [← KQ.out, List.drop_of_length_le (by rw [HL.out, hp0]; exact Nat.le_refl _), inS_nil]
        simp)
      go_wp2
      go_ret2
      exact InPost.ok HE.out KO.out KS.out
end Go.Proofs.Ytheinbigegobkaa
