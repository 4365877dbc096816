/- Package slots: fromSlots. -/
import Derived.Test.YtheinbigegobkaaOwnKV
import Derived.Test.YtheinbigegobkaaZero
import Derived.Deep.DeepCutAuto
import Derived.Deep.CutRange
namespace Go.Proofs.Ytheinbigegobkaa
open Go.RowKit

/-- What is told of the properties read: the list, or that they are wrong. -/
def InRes (w' : World) (B : Nat) (v : Value) (ok : Bool) (R : Option (List GKV)) : Prop :=
  match R with
  | none => ok = false
  | some l => ok = true ∧ ∃ ls : List KV, ls.map KV.dat = l ∧ OwnKV w' B v ls
theorem InRes.bad {w' : World} {B : Nat} {v : Value} {R : Option (List GKV)} (h : R = none) : InRes w' B v false R := by subst h; rfl
theorem InRes.ok {w' : World} {B : Nat} {v : Value} {R : Option (List GKV)} {ls : List KV} (h : R = some (ls.map KV.dat)) (ho : OwnKV w' B v ls) : InRes w' B v true R := by subst h; exact ⟨rfl, ls, rfl, ho⟩

/-- What such a call tells. -/
def InPost (w : World) (R : Option (List GKV)) (e : Ending) (w' : World) : Prop := ∃ v ok, e = .returned (.tuple #[v, .bool ok]) ∧ InRes w' w.heap.size v ok R ∧ Same w w'
theorem InPost.bad {w w' : World} {R : Option (List GKV)} {v : Value} (h : R = none) (hs : Same w w') : InPost w R (.returned (.tuple #[v, .bool false])) w' := ⟨v, false, rfl, InRes.bad h, hs⟩
theorem InPost.ok {w w' : World} {R : Option (List GKV)} {v : Value} {ls : List KV} (h : R = some (ls.map KV.dat)) (ho : OwnKV w' w.heap.size v ls) (hs : Same w w') : InPost w R (.returned (.tuple #[v, .bool true])) w' := ⟨v, true, rfl, InRes.ok h ho, hs⟩

theorem take_two {l : List UInt8} (h : 2 ≤ l.length) : l.take 2 = [l[0], l[1]] := by
  match l, h with
  | a :: b :: t, _ => rfl
theorem be_two (a b : UInt8) : be [a, b] = a.toNat * 256 + b.toNat := by simp [be]

/-- Prefix, its answer owned. -/
theorem pre_own {F : Nat → Prop} {A : Option Addr} {n c k : Nat} {bs : List UInt8} {g : GVal} {er : Int} (w : World) (hD : decP bs = (g, k, er)) (hb : Bytes w F A n c bs) :
    Calls Try.prog 56 #[.slice A n c] w fun e w' => ∃ A1 n1 c1 A2 n2 c2, e = .returned (.tuple #[g.val A1 n1 c1 A2 n2 c2, .int .i64 k, .int .i64 er]) ∧ Hid (w'.ownsRow w.heap.size 2 1 (.slice A1 n1 c1) n1 (g.nums.map (Value.int .i64))) ∧ Hid (w'.ownsRow w.heap.size 9 1 (.slice A2 n2 c2) n2 (g.texts.map Value.string)) ∧ Same w w' := by
  refine (prefix_spec w hb (g, k, er) (by rw [decP_take bs (Nat.le_refl _)]; exact hD)).mono ?_
  rintro e w' ⟨v, rfl, ⟨v1, v2, rfl, h1, h2⟩, h3⟩
  obtain ⟨A1, c1, rfl⟩ := own_form h1
  obtain ⟨A2, c2, rfl⟩ := own_form h2
  exact ⟨A1, _, c1, A2, _, c2, rfl, Lib.hid h1, Lib.hid h2, h3⟩

set_option maxHeartbeats 8000000 in
set_option maxRecDepth 100000 in
theorem fromSlots_spec {F : Nat → Prop} {A : Option Addr} {n c : Nat} {bs : List UInt8} (w : World) (hb : Bytes w F A n c bs) (h8 : n % 8 = 0) (hn : n ≤ 128) (R : Option (List GKV)) (hR : inS n bs = R) :
    Calls Try.prog 35 #[.slice A n c] w (InPost w R) := by
  have HB := Lib.hid hb
  have HR := Lib.hid hR
  have hc0 := Row.le hb
  have H8 := Lib.hid h8
  clear hb hR h8
  go_enter Try.func35, Try.ntmps35
  go_wp2_with fail
  go_loopg [0, 2] n (fun g b out wr => ∃ (A' : Option Addr) (n' c' fuel : Nat) (rest : List UInt8) (ls : List KV), b = .slice A' n' c' ∧ n' ≤ c' ∧ n' = g ∧ n' ≤ 128 ∧ Hid (n' % 8 = 0) ∧ n' ≤ fuel ∧ ls.length ≤ 128 - n' ∧ Hid (Bytes w F A' n' c' rest) ∧ Hid (Same w wr) ∧ Hid (OwnKV wr w.heap.size out ls) ∧ Hid ((inS fuel rest).map (ls.map KV.dat ++ ·) = R))
  case atStart => exact ⟨A, n, c, n, bs, [], rfl, hc0, rfl, hn, H8, Nat.le_refl _, Nat.zero_le _, HB, Lib.hid (Upd.refl _ _), Lib.hid (OwnKV.nil_ _ _), Lib.hid (by rw [HR.out]; simp)⟩
  case round =>
    obtain ⟨A', n', c', fuel, rest, ls, rfl, hnc, rfl, hn', K8, hfu, hls, KB, KS, KO, KR⟩ := hrel
    clear HB HR H8
    have HL := Lib.hid KB.out.len
    by_cases hpos : 0 < n'
    · have hn8 : 8 ≤ n' := by have := K8.out; omega
      obtain ⟨b, o, rfl, hbl, hFb, hc1⟩ := (KB.out.same KS.out).at_ (i := 0) (by omega)
      obtain ⟨_, _, hA, _, _, hc2⟩ := (KB.out.same KS.out).at_ (i := 1) (by omega)
      injection hA with hA
      injection hA with e1 e2 _
      subst e1 e2
      have hT2 := take_two (l := rest) (by rw [HL.out]; omega)
      have hr2 : 2 ≤ rest.length := by rw [HL.out]; omega
      have hbe : be (rest.take 2) = rest[0].toNat * 256 + rest[1].toNat := by rw [hT2, be_two]
      simp only [Nat.add_zero] at hc1
      have hx0 := rest[0].toNat_lt
      have hx1 := rest[1].toNat_lt
      generalize rest[0].toNat = x0 at *
      generalize rest[1].toNat = x1 at *
      have hne : rest ≠ [] := by
        rintro rfl
        have := HL.out
        simp at this
        omega
      obtain ⟨fu, rfl⟩ : ∃ fu, fuel = fu + 1 := ⟨fuel - 1, by omega⟩
      have HBe := Lib.hid hbe
      have HNe := Lib.hid hne
      clear hT2 hbe hne
      by_cases hzz : x0 = 0 ∧ x1 = 0
      · obtain ⟨rfl, rfl⟩ := hzz
        have HZ := Lib.hid (inS_zero (m := fu) HNe.out (by rw [HBe.out]))
        obtain ⟨z, hz⟩ : ∃ z, zerosB rest = z := ⟨_, rfl⟩
        have HZ2 := Lib.hid hz
        clear hz
        go_wp2_with fail
        refine (zero_spec _ (KB.out.same KS.out) HZ2.out).mono ?_
        rintro e w2 ⟨rfl, rfl⟩
        go_wp2
        go_ret2
        have h1 := KR.out
        rw [HZ.out, HZ2.out] at h1
        cases z with
        | true => exact InPost.ok (by rw [← h1]; simp) KO.out KS.out
        | false => exact InPost.bad (by rw [← h1]; rfl) KS.out
      · obtain ⟨N, hN⟩ : ∃ N, x0 * 256 + x1 = N := ⟨_, rfl⟩
        have hN0 : 1 ≤ N := by omega
        have hN1 : N ≤ 65535 := by omega
        rw [hN] at HBe
        clear hN
        go_upto_region 2 with fail
        go_cut [22] from 13 to 65 (fun s wx => s = .bool false ∧ wx = wr)
        case first =>
          by_cases h0 : x0 = 0
          · subst h0
            have h1 : ((x1 : Int) == 0) = false := by rw [beq_eq_false_iff_ne]; omega
            go_wp2
            go_meet
            case rel => exact ⟨rfl, rfl⟩
          · have h1 : ((x0 : Int) == 0) = false := by rw [beq_eq_false_iff_ne]; omega
            go_wp2
            go_meet
            case rel => exact ⟨rfl, rfl⟩
        case rest =>
          obtain ⟨rfl, rfl⟩ := hcut
          obtain ⟨⟨g, k, er⟩, hP⟩ : ∃ P, decP (rest.drop 2) = P := ⟨_, rfl⟩
          have hkl := decP_le (rest.drop 2)
          rw [hP, List.length_drop, HL.out] at hkl
          simp only at hkl
          have HNx := Lib.hid (inS_next (m := fu) HNe.out HBe.out (by omega) hP)
          have HP := Lib.hid hP
          have hre := KB.out.rest (j := 2) (by omega)
          rw [if_neg (by omega), Option.map_some, addr_add] at hre
          have HRe := Lib.hid hre
          obtain ⟨ok, hok⟩ : ∃ ok, decide (1 ≤ N ∧ N ≤ 200) = ok := ⟨_, rfl⟩
          have HOk := Lib.hid hok
          have HFit := Lib.hid (show g.Fits from by have := decP_fits (rest.drop 2); rw [hP] at this; exact this)
          clear hP hre hok hc1 hc2
          go_wp2_with fail
          refine (key_ok _ (KB.out.same KS.out) (by omega) HBe.out HOk.out).mono ?_
          rintro e w2 ⟨rfl, rfl⟩
          go_wp2_with fail
          refine (pre_own _ HP.out (HRe.out.same KS.out)).mono ?_
          rintro e w3 ⟨X1, a1, b1, X2, a2, b2, rfl, HX1, HX2, hs3⟩
          obtain ⟨g0, g1, g2, g3, g4⟩ := g
          simp only [GVal.val]
          have hu := (Upd.refl (fun _ => False) w3).alloc (.cells #[.int .i64 g0, .int .i64 g1, .string g2, .slice X1 a1 b1, .slice X2 a2 b2] 26)
          have hbx := Blk.new w3 26 #[.int .i64 g0, .int .i64 g1, .string g2, .slice X1 a1 b1, .slice X2 a2 b2]
          have HY1 := Lib.hid (own_base (own_same HX1.out hu) KS.out.size)
          have HY2 := Lib.hid (own_base (own_same HX2.out hu) KS.out.size)
          have HS4 := Lib.hid ((KS.out.same hs3).same hu)
          have HO4 := Lib.hid ((KO.out.same hs3).same hu)
          have hsz3 := hs3.size
          clear HX1 HX2 hs3 hu
          go_upto_region 6 with fail
          have HBX := Lib.hid hbx
          clear hbx
          generalize w3.alloc (.cells #[.int .i64 g0, .int .i64 g1, .string g2, .slice X1 a1 b1, .slice X2 a2 b2] 26) = w4 at *
          generalize w3.heap.size = gx at *
          by_cases hbad : 200 < N ∨ er ≠ 0
          · have HNone := Lib.hid (show R = none from by
              rw [← KR.out, HNx.out, if_pos hbad]; rfl)
            by_cases hN2 : 200 < N
            · have hok2 : ok = false := by rw [← HOk.out]; exact decide_eq_false fun hh => by omega
              subst hok2
              go_wp2
              go_ret2
              exact InPost.bad HNone.out HS4.out
            · have hok2 : ok = true := by rw [← HOk.out]; exact decide_eq_true ⟨hN0, by omega⟩
              subst hok2
              have her : er ≠ 0 := by
                rcases hbad with hh | hh
                · exact absurd hh hN2
                · exact hh
              have her' : (er != 0) = true := by rw [bne_iff_ne]; exact her
              clear hbad her
              go_wp2
              go_ret2
              exact InPost.bad HNone.out HS4.out
          · have hN2 : N ≤ 200 := by omega
            have hok2 : ok = true := by rw [← HOk.out]; exact decide_eq_true ⟨hN0, hN2⟩
            have her : er = 0 := by omega
            subst hok2 her
            have HNx2 := Lib.hid (HNx.out.trans (if_neg hbad))
            clear hbad HNx
            go_upto_region 9 with fail
            obtain ⟨P, hPd⟩ : ∃ P, pad8 (2 + k) = P := ⟨_, rfl⟩
            have hP1 : 2 + k ≤ P := by rw [← hPd]; unfold pad8; omega
            have hP2 : P ≤ n' := by rw [← hPd]; unfold pad8; have := K8.out; omega
            have hP8 : P % 8 = 0 := by rw [← hPd]; unfold pad8; omega
            have he : ((2 + (k : Int) + 8 - 1) / 8 * 8) = (P : Int) := by rw [← hPd]; unfold pad8; omega
            rw [he]
            rw [hPd] at HNx2
            have HP8 := Lib.hid hP8
            clear he hPd hP8
            generalize c' - 2 = cq
            obtain ⟨z, hz⟩ : ∃ z, zerosB ((rest.take P).drop (2 + k)) = z := ⟨_, rfl⟩
            have HZ := Lib.hid hz
            clear hz
            go_cut [56] from 50 to 65 (fun s wx => s = .bool (!z) ∧ wx = w4)
            case first =>
              have hcut := KB.out.cut (j := 2 + k) (m := P) (by omega) (by omega)
              have hdt : (rest.drop (2 + k)).take (P - (2 + k)) = (rest.take P).drop (2 + k) := by rw [List.drop_take]
              rw [hdt, Option.map_some, addr_add] at hcut
              clear hdt
              by_cases hce : c' = 2 + k
              · subst hce
                rw [if_pos rfl, Nat.sub_self] at hcut
                have HCut := Lib.hid hcut
                clear hcut
                go_wp2_with fail
                refine (zero_spec _ (HCut.out.same HS4.out) HZ.out).mono ?_
                rintro e w5 ⟨rfl, rfl⟩
                go_wp2
                go_meet
                case rel => exact ⟨rfl, rfl⟩
              · rw [if_neg hce] at hcut
                have HCut := Lib.hid hcut
                clear hcut
                go_wp2_with fail
                refine (zero_spec _ (HCut.out.same HS4.out) HZ.out).mono ?_
                rintro e w5 ⟨rfl, rfl⟩
                go_wp2
                go_meet
                case rel => exact ⟨rfl, rfl⟩
            case rest =>
              obtain ⟨rfl, rfl⟩ := hcut
              cases z with
              | false =>
                have HNone := Lib.hid (show R = none from by
                  rw [← KR.out, HNx2.out, if_neg (by rw [HZ.out]; simp)]; rfl)
                go_wp2
                go_ret2
                exact InPost.bad HNone.out HS4.out
              | true =>
                obtain ⟨Ao, no, co, rfl⟩ := own_slice KO.out.row
                have HR2 := Lib.hid (show (inS fu (rest.drop P)).map ((ls ++ [(⟨(N : Int) - 1, ⟨g0, g1, g2, g3, g4⟩, X1, a1, b1, X2, a2, b2⟩ : KV)]).map KV.dat ++ ·) = R from by
                  rw [← KR.out, HNx2.out, if_pos HZ.out, Option.map_map]
                  congr 1
                  funext t
                  simp [KV.dat])
                have hsz4 := HS4.out.size
                obtain ⟨p0, p1, p2, p3, p4⟩ := HBX.out.five
                go_upto_region 12 with (at_builtin; go_must (refine wpList_app rfl (.tmp 57) (.tmp 61) _ _ rfl w.heap.size 47 6 88 _ Try.underlying30 info_kv rfl (.slice Ao no co) ls.length _ rfl (HO4.out.row.alloc _) rfl (src_row Try.underlying30 (Row.kv _ ⟨(N : Int) - 1, ⟨g0, g1, g2, g3, g4⟩, X1, a1, b1, X2, a2, b2⟩) (kv_one _)) (by unfold maxLen; omega) (by omega) (by simp; omega) ?_); intro v' w6 hg; have HG6 := Lib.hid hg; clear hg)
                have HO6 := Lib.hid ((HO4.out.same ((Upd.refl (fun _ => False) _).alloc _)).snoc (x := ⟨(N : Int) - 1, ⟨g0, g1, g2, g3, g4⟩, X1, a1, b1, X2, a2, b2⟩) HG6.out (own_same HY1.out ((Upd.refl (fun _ => False) _).alloc _)) (own_same HY2.out ((Upd.refl (fun _ => False) _).alloc _)) HFit.out ⟨by simp only; omega, by simp only; omega⟩)
                have HS6 := Lib.hid ((HS4.out.alloc _).trans HG6.out.upd fun b hb hh => by have := (HO4.out.row.lt b hh).1; omega)
                have hre := KB.out.rest (j := P) hP2
                rw [Option.map_some, addr_add] at hre
                clear HG6 HO4 HS4 HY1 HY2 HBX p0 p1 p2 p3 p4
                by_cases hce : c' = P
                · subst hce
                  rw [if_pos rfl, Nat.sub_self] at hre
                  have h00 : n' - c' = 0 := by omega
                  rw [h00] at hre
                  have HRe2 := Lib.hid hre
                  clear hre h00
                  go_wp2
                  go_roundg 0
                  case measure => omega
                  case rel =>
                    exact ⟨_, 0, 0, fu, rest.drop c', ls ++ [⟨(N : Int) - 1, ⟨g0, g1, g2, g3, g4⟩, X1, a1, b1, X2, a2, b2⟩], rfl, by omega, rfl, by omega, Lib.hid rfl, by omega, by rw [List.length_append, List.length_singleton]; omega, HRe2, HS6, HO6, HR2⟩
                · rw [if_neg hce] at hre
                  have HRe2 := Lib.hid hre
                  clear hre
                  go_wp2
                  go_roundg (n' - P)
                  case measure => omega
                  case rel =>
                    exact ⟨_, n' - P, c' - P, fu, rest.drop P, ls ++ [⟨(N : Int) - 1, ⟨g0, g1, g2, g3, g4⟩, X1, a1, b1, X2, a2, b2⟩], rfl, by omega, rfl, by omega, Lib.hid (by have := K8.out; have := HP8.out; omega), by omega, by rw [List.length_append, List.length_singleton]; omega, HRe2, HS6, HO6, HR2⟩
    · have hn0 : n' = 0 := by omega
      subst hn0
      have hr0 : rest = [] := List.eq_nil_of_length_eq_zero HL.out
      subst hr0
      go_wp2
      go_ret2
      refine InPost.ok ?_ KO.out KS.out
      rw [← KR.out, inS_nil]
      simp
end Go.Proofs.Ytheinbigegobkaa
