/- The reference's order: the places of a list in the order of its keys. -/
import Derived.Test.YtlnademnfnhbpaaGreatOrdL
import Derived.Test.YtlnademnfnhbpaaGreatRSorted
import Derived.Test.YtlnademnfnhbpaaGreatCanW
import Derived.Test.YtlnademnfnhbpaaGreatInc
import Derived.BigQuiet
import Derived.Deep.LoopGhost
import Derived.IntWalk
namespace Go.Proofs.YtlnademnfnhbpaaGreat
open Go.RowKit

abbrev natV (p : Nat) : Value := .int .i64 (p : Int)
theorem Ck.ones {α κ : Type} {lt : κ → κ → Prop} {key : α → κ} : ∀ l : List α, Ck lt key 1 l
  | [] => .last _ (by simp) SortO.nil
  | x :: l => .cons [x] l rfl (SortO.one x) (Ck.ones l)
/-- A pass under way: D is merged into m, R is left. -/
def Pss {κ : Type} (lt : κ → κ → Prop) [DecidableEq κ] (key : Nat → κ) (n wd f : Nat) (o D R m : List Nat) : Prop :=
  (f < n → f = D.length ∧ Cf lt key (2 * wd) m ∧ Ck lt key wd R) ∧ (n ≤ f → Ck lt key (2 * wd) m ∧ R = []) ∧ o = D ++ R ∧ SameO key m D
theorem Pss.next {κ : Type} {lt : κ → κ → Prop} [DecidableEq κ] {key : Nat → κ} {n wd f f2 : Nat} {o D R m L M R2 w : List Nat} (h : Pss lt key n wd f o D R m) (hn : o.length = n) (hf : f < n) (hR : R = L ++ (M ++ R2)) (hlm : L.length + M.length = min (2 * wd) R.length) (hk : Ck lt key wd R2) (hs : SortO lt key w) (hw : SameO key w (L ++ M)) (h2 : f2 = f + 2 * wd) :
    Pss lt key n wd f2 o (D ++ (L ++ M)) R2 (m ++ w) := by
  obtain ⟨h1, _, h3, h4⟩ := h
  obtain ⟨e1, e2, e3⟩ := h1 hf
  have hwl := hw.length
  rw [List.length_append] at hwl
  have hol : D.length + R.length = n := by rw [← hn, h3, List.length_append]
  have hRl : R.length = L.length + (M.length + R2.length) := by rw [hR, List.length_append, List.length_append]
  refine ⟨fun hlt => ⟨?_, .snoc _ _ e2 (by omega) hs, hk⟩, fun hge => ⟨e2.ck (.last _ (by omega) hs), List.eq_nil_of_length_eq_zero (by omega)⟩, by rw [h3, hR]; simp, h4.app hw⟩
  rw [List.length_append, List.length_append]
  omega

set_option maxHeartbeats 16000000 in
set_option maxRecDepth 100000 in
theorem orderI_spec {F : Nat → Prop} {A A0 : Option Addr} {n c c0 : Nat} {ids : List Int} (w : World) (h : WRow w F 1 A n c (ids.map (Value.int .i64))) (hn : n ≤ 8796093022208) :
    Calls Tryz.prog 47 #[.slice A n c, .slice A0 0 c0] w fun e w' => ∃ (A' : Option Addr) (c' : Nat), e = .returned (.slice A' n c') ∧ Hid (w'.ownsRow w.heap.size 3 1 (.slice A' n c') n ((places (fun a b : Int => a < b) (fun i => ids[i]?.getD 0) n).map natV)) ∧ Same w w' := by
  obtain ⟨key, hkey⟩ : ∃ key : Nat → Int, key = fun i => ids[i]?.getD 0 := ⟨_, rfl⟩
  rw [← hkey]
  have HR := Lib.hid h
  have HK := Lib.hid hkey
  have HL : Hid (ids.length = n) := Lib.hid (by have := h.len; simpa using this)
  clear h hkey
  go_enter Tryz.func47, Tryz.ntmps47
  go_wp2_with fail
  go_loopg [6, 7] n (fun gh s6 s7 wr => ∃ (i : Nat) (A1 : Option Addr) (c1 : Nat), n - i = gh ∧ i ≤ n ∧ s6 = .slice A1 i c1 ∧ s7 = .int .i64 i ∧ Hid (wr.ownsRow w.heap.size 3 1 (.slice A1 i c1) i ((List.range i).map natV)) ∧ Hid (Same w wr))
  case atStart => exact ⟨0, _, _, rfl, Nat.zero_le _, rfl, rfl, Lib.hid (World.ownsRow_made w #[] 0 (Nat.le_refl _) (Nat.zero_le _) rfl), Lib.hid ((Upd.refl _ _).alloc _)⟩
  case round =>
    obtain ⟨i, A1, c1, rfl, hi, rfl, rfl, KO, KS⟩ := hrel
    by_cases hlt : i < n
    · have hz := KS.out.size
      go_wp2_with (at_builtin; go_must (refine wpList_app rfl (.tmp 27) (.tmp 29) _ _ rfl w.heap.size 3 1 8 _ Tryz.underlying36 info_int rfl (.slice A1 i c1) i _ rfl (KO.out.alloc _) rfl (src_row Tryz.underlying36 (Row.one _ _ _) (by simp [Value.oneCell'])) (by unfold maxLen; omega) (by omega) (by simp; omega) ?_); intro v9 w9 hg; have HG := Lib.hid hg; clear hg)
      obtain ⟨A9, c9, rfl⟩ := own_form HG.out.own
      go_roundg (n - (i + 1))
      case measure => omega
      case rel => exact ⟨i + 1, A9, c9, rfl, by omega, rfl, by go_num, Lib.hid (by have h1 := HG.out.own; rw [List.range_succ, List.map_append]; exact h1), Lib.hid ((KS.out.alloc _).trans HG.out.upd fun b hb hh => by have := (KO.out.lt b hh).1; omega)⟩
    · obtain rfl : i = n := by omega
      have HO1 := KO
      have HS1 := KS
      clear KO KS hlt hi
      go_wp2_with fail
      go_loopg [6, 8, 9, 10, 11, 12, 13, 14, 15] (i - 1) (fun gh s6 s8 s9 s10 s11 s12 s13 s14 s15 wx => ∃ (wd : Nat) (o : List Nat) (A2 : Option Addr) (c2 : Nat), i - wd = gh ∧ 1 ≤ wd ∧ wd ≤ 2 * i + 1 ∧ s6 = .slice A2 i c2 ∧ s8 = .int .i64 wd ∧ Hid (wx.ownsRow w.heap.size 3 1 (.slice A2 i c2) i (o.map natV)) ∧ Hid (Ck (fun a b : Int => a < b) key wd o ∧ SameO key o (List.range i)) ∧ Hid (Same w wx))
      case atStart => exact ⟨1, List.range i, A1, c1, rfl, Nat.le_refl _, by omega, rfl, rfl, HO1, Lib.hid ⟨Ck.ones _, SameO.refl _⟩, HS1⟩
      case round =>
        clear HO1 HS1
        obtain ⟨wd, o, A2, c2, rfl, hwd, hwd2, rfl, rfl, KO, KC, KS⟩ := hrel
        have HOL : Hid (o.length = i) := Lib.hid (by have := KO.out.1; simpa using this)
        by_cases hlt : wd < i
        · obtain ⟨wo, rfl⟩ : ∃ wo : World, wo = wr := ⟨_, rfl⟩
          obtain ⟨w2d, hw2d⟩ : ∃ w2d, w2d = 2 * wd := ⟨_, rfl⟩
          have hm1 : IntKind.i64.wrap (2 * (wd : Int)) = (w2d : Int) := by rw [IntWalk.i64_in _ ⟨by omega, by omega⟩]; omega
          have hm2 : 2 * (wd : Int) = (w2d : Int) := by omega
          have hm3 : IntKind.i64.wrap ((wd : Int) * 2) = (w2d : Int) := by rw [IntWalk.i64_in _ ⟨by omega, by omega⟩]; omega
          have hm4 : (wd : Int) * 2 = (w2d : Int) := by omega
          have HW2 := Lib.hid hw2d
          have hwb : w2d ≤ 2 * i := by omega
          have hwa : 1 ≤ w2d := by omega
          clear hw2d
          have hzo := KS.out.size
          go_wp2_with fail
          go_loopg [9, 10, 11, 12, 13, 14, 15] i (fun gh s9 s10 s11 s12 s13 s14 s15 wx => ∃ (f : Nat) (D R m : List Nat) (An : Option Addr) (cn : Nat), i - f = gh ∧ f ≤ 3 * i ∧ s9 = .slice An m.length cn ∧ s10 = .int .i64 f ∧ Hid (Pss (fun a b : Int => a < b) key i wd f o D R m) ∧ Hid (wx.ownsRow wo.heap.size 3 1 (.slice An m.length cn) m.length (m.map natV)) ∧ Hid (Same wo wx))
          case atStart => exact ⟨0, [], o, [], _, _, rfl, Nat.zero_le _, rfl, rfl, Lib.hid ⟨fun _ => ⟨rfl, .nil, KC.out.1⟩, fun h => by omega, rfl, SameO.refl _⟩, Lib.hid (World.ownsRow_made wo #[] 0 (Nat.le_refl _) (Nat.zero_le _) rfl), Lib.hid ((Upd.refl _ _).alloc _)⟩
          case round =>
            obtain ⟨f, D, R, m, An, cn, rfl, hf3, rfl, rfl, KP, KN, KW⟩ := hrel
            by_cases hfn : f < i
            · obtain ⟨hD, _, hcR⟩ := KP.out.1 hfn
              obtain ⟨L, M, R2, hR, sL, sM, lL, lM, cR⟩ := hcR.split (by omega)
              have hRl : D.length + R.length = i := by have h1 := HOL.out; rw [KP.out.2.2.1, List.length_append] at h1; exact h1
              obtain ⟨md, hmd⟩ : ∃ md, md = f + L.length := ⟨_, rfl⟩
              obtain ⟨en, hen⟩ : ∃ en, en = md + M.length := ⟨_, rfl⟩
              obtain ⟨f1, hf1⟩ : ∃ f1, f1 = f + wd := ⟨_, rfl⟩
              obtain ⟨f2, hf2⟩ : ∃ f2, f2 = f + w2d := ⟨_, rfl⟩
              have hx1 : IntKind.i64.wrap ((f : Int) + (wd : Int)) = (f1 : Int) := by rw [IntWalk.i64_in _ ⟨by omega, by omega⟩]; omega
              have hx2 : (f : Int) + (wd : Int) = (f1 : Int) := by omega
              have hx3 : IntKind.i64.wrap ((f : Int) + (w2d : Int)) = (f2 : Int) := by rw [IntWalk.i64_in _ ⟨by omega, by omega⟩]; omega
              have hx4 : (f : Int) + (w2d : Int) = (f2 : Int) := by omega
              have hx5 : min (f1 : Int) (i : Int) = (md : Int) := by have := HW2.out; omega
              have hx6 : min (f2 : Int) (i : Int) = (en : Int) := by have := HW2.out; omega
              have hfm : f ≤ md ∧ md ≤ en ∧ en ≤ i ∧ f2 ≤ 3 * i := by have := HW2.out; omega
              obtain ⟨hfm1, hfm2, hfm3, hfm4⟩ := hfm
              have HLM : Hid (f = D.length ∧ md = f + L.length ∧ en = md + M.length ∧ f2 = f + w2d) := Lib.hid ⟨hD, hmd, hen, hf2⟩
              have HSL := Lib.hid (And.intro sL sM)
              have HR2 := Lib.hid (And.intro hR (And.intro lM cR))
              have HAT : Hid (∀ k p, (f ≤ k → L[k - f]? = some p → o[k]? = some p) ∧ (md ≤ k → M[k - md]? = some p → o[k]? = some p)) := Lib.hid fun k p => by
                have e := KP.out.2.2.1
                rw [hR] at e
                constructor
                · intro hk hp
                  have h2 := (List.getElem?_eq_some_iff.1 hp).1
                  rw [e, List.getElem?_append_right (by omega), ← hD, List.getElem?_append_left h2]
                  exact hp
                · intro hk hp
                  have h2 := (List.getElem?_eq_some_iff.1 hp).1
                  rw [e, List.getElem?_append_right (by omega), List.getElem?_append_right (by omega), show k - D.length - L.length = k - md from by omega, List.getElem?_append_left h2]
                  exact hp
              have HIN : Hid (∀ k p, o[k]? = some p → k < i ∧ p < i) := Lib.hid fun k p hp => by
                have h1 := (List.getElem?_eq_some_iff.1 hp).1
                have h2 := KC.out.2.mem (List.mem_of_getElem? hp)
                have := HOL.out
                exact ⟨by omega, by simpa using h2⟩
              clear hD hR sL sM lL lM cR hRl hmd hen hf1 hf2 hcR
              have HNm := KN
              have HWm := KW
              clear KN KW
              go_wp2_with fail
              clear hx1 hx2 hx5 hx6
              go_loopg [9, 11, 13, 15] (en - f) (fun gh s9 s11 s13 s15 wx => ∃ (ia jb : Nat) (w mw : List Nat), (md - ia) + (en - jb) = gh ∧ f ≤ ia ∧ ia ≤ md ∧ md ≤ jb ∧ jb ≤ en ∧ s11 = .int .i64 ia ∧ s13 = .int .i64 jb ∧ Hid (mw = m ++ w ∧ Mg (fun a b : Int => a < b) key L M (ia - f) (jb - md) w) ∧ mw.length ≤ i ∧ Hid (wx.ownsRow wo.heap.size 3 1 s9 mw.length (mw.map natV)) ∧ Hid (Same wo wx))
              case atStart => exact ⟨f, md, [], m, by omega, Nat.le_refl _, hfm1, Nat.le_refl _, hfm2, rfl, rfl, Lib.hid ⟨by simp, by rw [Nat.sub_self, Nat.sub_self]; exact Mg.start _ _⟩, by have h1 := KP.out.2.2.2.length; have := HLM.out; omega, HNm, HWm⟩
              case round =>
                clear HNm HWm
                obtain ⟨ia, jb, w3, mw, rfl, hia1, hia2, hjb1, hjb2, rfl, rfl, KM, hml, KN, KW⟩ := hrel
                obtain ⟨An, cn, rfl⟩ := own_form KN.out
                have hzw := KW.out.size
                have HKO := Lib.hid (own_same KO.out KW.out)
                have HRw := Lib.hid (HR.out.same (KS.out.same KW.out))
                have HMLN : Hid (ia < md ∨ jb < en → mw.length < i) := Lib.hid fun hh => by
                  have h1 := KM.out.2.len (by have := HLM.out; omega) (by have := HLM.out; omega)
                  have h2 := KP.out.2.2.2.length
                  have h3 := congrArg List.length KM.out.1
                  rw [List.length_append] at h3
                  have := HLM.out
                  omega
                by_cases h1 : ia < md
                · obtain ⟨p, hp⟩ : ∃ p, L[ia - f]? = some p := ⟨_, List.getElem?_eq_getElem (by have := HLM.out; omega)⟩
                  have hop := (HAT.out ia p).1 hia1 hp
                  obtain ⟨hip, hpi⟩ := HIN.out ia p hop
                  obtain ⟨go, u1, rfl, _, _, hu1, r1, _, _⟩ := own_cell HKO.out hip
                  rw [List.getElem?_map, hop] at hu1
                  cases hu1
                  have HP1 := Lib.hid hp
                  clear hop hp
                  have hz1 : (0 : Int) ≤ (ia : Int) := by omega
                  have hz2 : (ia : Int) < (i : Int) := by omega
                  have hz3 : (0 : Int) ≤ (p : Int) := by omega
                  have hz4 : (p : Int) < (i : Int) := by omega
                  have hz5 : decide (ia < md) = true := decide_eq_true h1
                  by_cases h2 : jb < en
                  · obtain ⟨q, hq⟩ : ∃ q, M[jb - md]? = some q := ⟨_, List.getElem?_eq_getElem (by have := HLM.out; omega)⟩
                    have hoq := (HAT.out jb q).2 hjb1 hq
                    obtain ⟨hiq, hqi⟩ := HIN.out jb q hoq
                    obtain ⟨_, u2, hA, _, _, hu2, r2, _, _⟩ := own_cell HKO.out hiq
                    injection hA with hA
                    injection hA with hA _ _
                    subst hA
                    rw [List.getElem?_map, hoq] at hu2
                    cases hu2
                    have HQ1 := Lib.hid hq
                    clear hoq hq
                    have hy1 : (0 : Int) ≤ (jb : Int) := by omega
                    have hy2 : (jb : Int) < (i : Int) := by omega
                    have hy3 : (0 : Int) ≤ (q : Int) := by omega
                    have hy4 : (q : Int) < (i : Int) := by omega
                    have hy5 : decide (jb < en) = true := decide_eq_true h2
                    have hy6 : ((jb : Int) == (en : Int)) = false := by simp; omega
                    obtain ⟨x, hx⟩ : ∃ x, ids[p]? = some x := ⟨_, List.getElem?_eq_getElem (by rw [HL.out]; exact hpi)⟩
                    obtain ⟨y, hy⟩ : ∃ y, ids[q]? = some y := ⟨_, List.getElem?_eq_getElem (by rw [HL.out]; exact hqi)⟩
                    have hkp : key p = x := by rw [HK.out]; simp only [hx, Option.getD_some]
                    have hkq : key q = y := by rw [HK.out]; simp only [hy, Option.getD_some]
                    obtain ⟨b4, o4, u4, rfl, _, _, hu4, r4⟩ := HRw.out.at_ hpi
                    obtain ⟨_, _, u5, hA, _, _, hu5, r5⟩ := HRw.out.at_ hqi
                    injection hA with hA
                    injection hA with hA1 hA2 _
                    subst hA1 hA2
                    rw [List.getElem?_map, hx] at hu4
                    rw [List.getElem?_map, hy] at hu5
                    cases hu4
                    cases hu5
                    have HKP := Lib.hid (And.intro hkp hkq)
                    clear hx hy hkp hkq
                    have hlen0 : (0 : Int) < (i : Int) := by omega
                    cases hxy : decide (x ≤ y) with
                    | true =>
                      have HMg : Hid (Mg (fun a b : Int => a < b) key L M (ia + 1 - f) (jb - md) (w3 ++ [p])) := Lib.hid (by
                        rw [show ia + 1 - f = ia - f + 1 from by omega]
                        exact KM.out.2.left lin_int HSL.out.1 HSL.out.2 HP1.out fun z hz => by
                          rw [HQ1.out] at hz
                          cases hz
                          rw [HKP.out.1, HKP.out.2]
                          exact by have := of_decide_eq_true hxy; omega)
                      go_upto_region 19 with fail
                      go_quiet (fail)
                      have hmw := HMLN.out (by omega)
                      go_wp2_with (at_builtin; go_must (refine wpList_app rfl (.tmp 114) (.tmp 119) _ _ rfl wo.heap.size 3 1 8 _ Tryz.underlying36 info_int rfl (.slice An mw.length cn) mw.length _ rfl ((own_same KN.out (by first | exact Upd.refl _ _ | exact (Upd.refl _ _).drewN _)).alloc _) rfl (src_row Tryz.underlying36 (Row.one _ _ _) (by simp [Value.oneCell'])) (by unfold maxLen; omega) (by omega) (by simp; omega) ?_); intro v9 w9 hg; have HG := Lib.hid hg; clear hg)
                      go_roundg ((md - (ia + 1)) + (en - jb))
                      case measure => omega
                      case rel => exact ⟨ia + 1, jb, w3 ++ [p], mw ++ [p], rfl, by omega, by omega, by omega, by omega, by go_num, rfl, Lib.hid ⟨by rw [KM.out.1]; simp, HMg.out⟩, by simp; omega, Lib.hid (by have h9 := HG.out.own; simpa using h9), Lib.hid ((KW.out.same (by first | exact (Upd.refl _ _).alloc _ | exact ((Upd.refl _ _).drewN _).alloc _)).trans HG.out.upd fun b hb hh => by have := (KN.out.lt b hh).1; omega)⟩
                    | false =>
                      have HMg : Hid (Mg (fun a b : Int => a < b) key L M (ia - f) (jb + 1 - md) (w3 ++ [q])) := Lib.hid (by
                        rw [show jb + 1 - md = jb - md + 1 from by omega]
                        exact KM.out.2.right lin_int HSL.out.1 HSL.out.2 HQ1.out fun z hz => by
                          rw [HP1.out] at hz
                          cases hz
                          rw [HKP.out.1, HKP.out.2]
                          exact by have := of_decide_eq_false hxy; omega)
                      go_upto_region 19 with fail
                      go_quiet (fail)
                      have hmw := HMLN.out (by omega)
                      go_wp2_with (at_builtin; go_must (refine wpList_app rfl (.tmp 123) (.tmp 128) _ _ rfl wo.heap.size 3 1 8 _ Tryz.underlying36 info_int rfl (.slice An mw.length cn) mw.length _ rfl ((own_same KN.out (by first | exact Upd.refl _ _ | exact (Upd.refl _ _).drewN _)).alloc _) rfl (src_row Tryz.underlying36 (Row.one _ _ _) (by simp [Value.oneCell'])) (by unfold maxLen; omega) (by omega) (by simp; omega) ?_); intro v9 w9 hg; have HG := Lib.hid hg; clear hg)
                      go_roundg ((md - ia) + (en - (jb + 1)))
                      case measure => omega
                      case rel => exact ⟨ia, jb + 1, w3 ++ [q], mw ++ [q], rfl, by omega, by omega, by omega, by omega, rfl, by go_num, Lib.hid ⟨by rw [KM.out.1]; simp, HMg.out⟩, by simp; omega, Lib.hid (by have h9 := HG.out.own; simpa using h9), Lib.hid ((KW.out.same (by first | exact (Upd.refl _ _).alloc _ | exact ((Upd.refl _ _).drewN _).alloc _)).trans HG.out.upd fun b hb hh => by have := (KN.out.lt b hh).1; omega)⟩
                  · have hy5 : decide (jb < en) = false := decide_eq_false h2
                    have hy6 : ((jb : Int) == (en : Int)) = true := by simp; omega
                    have HMg : Hid (Mg (fun a b : Int => a < b) key L M (ia + 1 - f) (jb - md) (w3 ++ [p])) := Lib.hid (by
                      rw [show ia + 1 - f = ia - f + 1 from by omega]
                      exact KM.out.2.left lin_int HSL.out.1 HSL.out.2 HP1.out fun z hz => by
                        have := (List.getElem?_eq_some_iff.1 hz).1
                        have := HLM.out
                        omega)
                    have hmw := HMLN.out (by omega)
                    go_wp2_with (at_builtin; go_must (refine wpList_app rfl (.tmp 114) (.tmp 119) _ _ rfl wo.heap.size 3 1 8 _ Tryz.underlying36 info_int rfl (.slice An mw.length cn) mw.length _ rfl ((own_same KN.out (by first | exact Upd.refl _ _ | exact (Upd.refl _ _).drewN _)).alloc _) rfl (src_row Tryz.underlying36 (Row.one _ _ _) (by simp [Value.oneCell'])) (by unfold maxLen; omega) (by omega) (by simp; omega) ?_); intro v9 w9 hg; have HG := Lib.hid hg; clear hg)
                    go_roundg ((md - (ia + 1)) + (en - jb))
                    case measure => omega
                    case rel => exact ⟨ia + 1, jb, w3 ++ [p], mw ++ [p], rfl, by omega, by omega, by omega, by omega, by go_num, rfl, Lib.hid ⟨by rw [KM.out.1]; simp, HMg.out⟩, by simp; omega, Lib.hid (by have h9 := HG.out.own; simpa using h9), Lib.hid ((KW.out.same (by first | exact (Upd.refl _ _).alloc _ | exact ((Upd.refl _ _).drewN _).alloc _)).trans HG.out.upd fun b hb hh => by have := (KN.out.lt b hh).1; omega)⟩
                · have hz5 : decide (ia < md) = false := decide_eq_false h1
                  by_cases h2 : jb < en
                  · obtain ⟨q, hq⟩ : ∃ q, M[jb - md]? = some q := ⟨_, List.getElem?_eq_getElem (by have := HLM.out; omega)⟩
                    have hoq := (HAT.out jb q).2 hjb1 hq
                    obtain ⟨hiq, hqi⟩ := HIN.out jb q hoq
                    obtain ⟨go, u2, rfl, _, _, hu2, r2, _, _⟩ := own_cell HKO.out hiq
                    rw [List.getElem?_map, hoq] at hu2
                    cases hu2
                    have HQ1 := Lib.hid hq
                    clear hoq hq
                    have hy1 : (0 : Int) ≤ (jb : Int) := by omega
                    have hy2 : (jb : Int) < (i : Int) := by omega
                    have hy5 : decide (jb < en) = true := decide_eq_true h2
                    have hy6 : ((jb : Int) == (en : Int)) = false := by simp; omega
                    have HMg : Hid (Mg (fun a b : Int => a < b) key L M (ia - f) (jb + 1 - md) (w3 ++ [q])) := Lib.hid (by
                      rw [show jb + 1 - md = jb - md + 1 from by omega]
                      exact KM.out.2.right lin_int HSL.out.1 HSL.out.2 HQ1.out fun z hz => by
                        have := (List.getElem?_eq_some_iff.1 hz).1
                        have := HLM.out
                        omega)
                    have hmw := HMLN.out (by omega)
                    go_wp2_with (at_builtin; go_must (refine wpList_app rfl (.tmp 123) (.tmp 128) _ _ rfl wo.heap.size 3 1 8 _ Tryz.underlying36 info_int rfl (.slice An mw.length cn) mw.length _ rfl ((own_same KN.out (by first | exact Upd.refl _ _ | exact (Upd.refl _ _).drewN _)).alloc _) rfl (src_row Tryz.underlying36 (Row.one _ _ _) (by simp [Value.oneCell'])) (by unfold maxLen; omega) (by omega) (by simp; omega) ?_); intro v9 w9 hg; have HG := Lib.hid hg; clear hg)
                    go_roundg ((md - ia) + (en - (jb + 1)))
                    case measure => omega
                    case rel => exact ⟨ia, jb + 1, w3 ++ [q], mw ++ [q], rfl, by omega, by omega, by omega, by omega, rfl, by go_num, Lib.hid ⟨by rw [KM.out.1]; simp, HMg.out⟩, by simp; omega, Lib.hid (by have h9 := HG.out.own; simpa using h9), Lib.hid ((KW.out.same (by first | exact (Upd.refl _ _).alloc _ | exact ((Upd.refl _ _).drewN _).alloc _)).trans HG.out.upd fun b hb hh => by have := (KN.out.lt b hh).1; omega)⟩
                  · have hy5 : decide (jb < en) = false := decide_eq_false h2
                    have HDn := Lib.hid (KM.out.2.done (by have := HLM.out; omega) (by have := HLM.out; omega))
                    have HPn : Hid (Pss (fun a b : Int => a < b) key i wd f2 o (D ++ (L ++ M)) R2 mw) := Lib.hid (by
                      rw [KM.out.1]
                      exact KP.out.next HOL.out hfn HR2.out.1 HR2.out.2.1 HR2.out.2.2 HDn.out.1 HDn.out.2 (by have := HLM.out; have := HW2.out; omega))
                    have hff : f < f2 := by have := HLM.out; omega
                    go_wp2
                    go_roundg (i - f2)
                    case measure => omega
                    case rel => exact ⟨f2, D ++ (L ++ M), R2, mw, An, cn, rfl, hfm4, rfl, by first | rfl | go_num, HPn, KN, KW⟩
            · have hP := KP.out.2.1 (by omega)
              have HM : Hid (Ck (fun a b : Int => a < b) key w2d m ∧ SameO key m (List.range i)) := Lib.hid (by
                rw [HW2.out]
                refine ⟨hP.1, ?_⟩
                have h1 := KP.out.2.2.2
                have h2 := KP.out.2.2.1
                rw [hP.2, List.append_nil] at h2
                rw [← h2] at h1
                exact h1.trans KC.out.2)
              have HML : Hid (m.length = i) := Lib.hid (by have := HM.out.2.length; simpa using this)
              clear hP
              rw [HML.out] at KN ⊢
              go_wp2
              go_roundg (i - w2d)
              case measure => have := HW2.out; omega
              case rel => exact ⟨w2d, m, An, cn, rfl, hwa, by omega, rfl, by first | rfl | go_num, Lib.hid (own_base KN.out hzo), HM, Lib.hid (KS.out.same KW.out)⟩
        · have HF : Hid (o = places (fun a b : Int => a < b) key i) := Lib.hid (sortB_of lin_int (KC.out.1.one (by rw [HOL.out]; omega)) KC.out.2)
          have h1 := HF.out
          subst h1
          go_wp2
          go_ret
          exact ⟨A2, c2, rfl, KO, KS.out⟩

set_option maxHeartbeats 16000000 in
set_option maxRecDepth 100000 in
theorem orderT_spec {F : Nat → Prop} {A A0 : Option Addr} {n c c0 : Nat} {ids : List ByteArray} (w : World) (h : WRow w F 1 A n c (ids.map Value.string)) (hn : n ≤ 8796093022208) :
    Calls Tryz.prog 47 #[.slice A0 0 c0, .slice A n c] w fun e w' => ∃ (A' : Option Addr) (c' : Nat), e = .returned (.slice A' n c') ∧ Hid (w'.ownsRow w.heap.size 3 1 (.slice A' n c') n ((places ltS (fun i => ids[i]?.getD ⟨#[]⟩) n).map natV)) ∧ Same w w' := by
  obtain ⟨key, hkey⟩ : ∃ key : Nat → ByteArray, key = fun i => ids[i]?.getD ⟨#[]⟩ := ⟨_, rfl⟩
  rw [← hkey]
  have HR := Lib.hid h
  have HK := Lib.hid hkey
  have HL : Hid (ids.length = n) := Lib.hid (by have := h.len; simpa using this)
  clear h hkey
  go_enter Tryz.func47, Tryz.ntmps47
  go_wp2_with fail
  go_loopg [6, 7] n (fun gh s6 s7 wr => ∃ (i : Nat) (A1 : Option Addr) (c1 : Nat), n - i = gh ∧ i ≤ n ∧ s6 = .slice A1 i c1 ∧ s7 = .int .i64 i ∧ Hid (wr.ownsRow w.heap.size 3 1 (.slice A1 i c1) i ((List.range i).map natV)) ∧ Hid (Same w wr))
  case atStart => exact ⟨0, _, _, rfl, Nat.zero_le _, rfl, rfl, Lib.hid (World.ownsRow_made w #[] 0 (Nat.le_refl _) (Nat.zero_le _) rfl), Lib.hid ((Upd.refl _ _).alloc _)⟩
  case round =>
    obtain ⟨i, A1, c1, rfl, hi, rfl, rfl, KO, KS⟩ := hrel
    by_cases hlt : i < n
    · have hz := KS.out.size
      go_wp2_with (at_builtin; go_must (refine wpList_app rfl (.tmp 27) (.tmp 29) _ _ rfl w.heap.size 3 1 8 _ Tryz.underlying36 info_int rfl (.slice A1 i c1) i _ rfl (KO.out.alloc _) rfl (src_row Tryz.underlying36 (Row.one _ _ _) (by simp [Value.oneCell'])) (by unfold maxLen; omega) (by omega) (by simp; omega) ?_); intro v9 w9 hg; have HG := Lib.hid hg; clear hg)
      obtain ⟨A9, c9, rfl⟩ := own_form HG.out.own
      go_roundg (n - (i + 1))
      case measure => omega
      case rel => exact ⟨i + 1, A9, c9, rfl, by omega, rfl, by go_num, Lib.hid (by have h1 := HG.out.own; rw [List.range_succ, List.map_append]; exact h1), Lib.hid ((KS.out.alloc _).trans HG.out.upd fun b hb hh => by have := (KO.out.lt b hh).1; omega)⟩
    · obtain rfl : i = n := by omega
      have HO1 := KO
      have HS1 := KS
      clear KO KS hlt hi
      go_wp2_with fail
      go_loopg [6, 8, 9, 10, 11, 12, 13, 14, 15] (i - 1) (fun gh s6 s8 s9 s10 s11 s12 s13 s14 s15 wx => ∃ (wd : Nat) (o : List Nat) (A2 : Option Addr) (c2 : Nat), i - wd = gh ∧ 1 ≤ wd ∧ wd ≤ 2 * i + 1 ∧ s6 = .slice A2 i c2 ∧ s8 = .int .i64 wd ∧ Hid (wx.ownsRow w.heap.size 3 1 (.slice A2 i c2) i (o.map natV)) ∧ Hid (Ck ltS key wd o ∧ SameO key o (List.range i)) ∧ Hid (Same w wx))
      case atStart => exact ⟨1, List.range i, A1, c1, rfl, Nat.le_refl _, by omega, rfl, rfl, HO1, Lib.hid ⟨Ck.ones _, SameO.refl _⟩, HS1⟩
      case round =>
        clear HO1 HS1
        obtain ⟨wd, o, A2, c2, rfl, hwd, hwd2, rfl, rfl, KO, KC, KS⟩ := hrel
        have HOL : Hid (o.length = i) := Lib.hid (by have := KO.out.1; simpa using this)
        by_cases hlt : wd < i
        · obtain ⟨wo, rfl⟩ : ∃ wo : World, wo = wr := ⟨_, rfl⟩
          obtain ⟨w2d, hw2d⟩ : ∃ w2d, w2d = 2 * wd := ⟨_, rfl⟩
          have hm1 : IntKind.i64.wrap (2 * (wd : Int)) = (w2d : Int) := by rw [IntWalk.i64_in _ ⟨by omega, by omega⟩]; omega
          have hm2 : 2 * (wd : Int) = (w2d : Int) := by omega
          have hm3 : IntKind.i64.wrap ((wd : Int) * 2) = (w2d : Int) := by rw [IntWalk.i64_in _ ⟨by omega, by omega⟩]; omega
          have hm4 : (wd : Int) * 2 = (w2d : Int) := by omega
          have HW2 := Lib.hid hw2d
          have hwb : w2d ≤ 2 * i := by omega
          have hwa : 1 ≤ w2d := by omega
          clear hw2d
          have hzo := KS.out.size
          go_wp2_with fail
          go_loopg [9, 10, 11, 12, 13, 14, 15] i (fun gh s9 s10 s11 s12 s13 s14 s15 wx => ∃ (f : Nat) (D R m : List Nat) (An : Option Addr) (cn : Nat), i - f = gh ∧ f ≤ 3 * i ∧ s9 = .slice An m.length cn ∧ s10 = .int .i64 f ∧ Hid (Pss ltS key i wd f o D R m) ∧ Hid (wx.ownsRow wo.heap.size 3 1 (.slice An m.length cn) m.length (m.map natV)) ∧ Hid (Same wo wx))
          case atStart => exact ⟨0, [], o, [], _, _, rfl, Nat.zero_le _, rfl, rfl, Lib.hid ⟨fun _ => ⟨rfl, .nil, KC.out.1⟩, fun h => by omega, rfl, SameO.refl _⟩, Lib.hid (World.ownsRow_made wo #[] 0 (Nat.le_refl _) (Nat.zero_le _) rfl), Lib.hid ((Upd.refl _ _).alloc _)⟩
          case round =>
            obtain ⟨f, D, R, m, An, cn, rfl, hf3, rfl, rfl, KP, KN, KW⟩ := hrel
            by_cases hfn : f < i
            · obtain ⟨hD, _, hcR⟩ := KP.out.1 hfn
              obtain ⟨L, M, R2, hR, sL, sM, lL, lM, cR⟩ := hcR.split (by omega)
              have hRl : D.length + R.length = i := by have h1 := HOL.out; rw [KP.out.2.2.1, List.length_append] at h1; exact h1
              obtain ⟨md, hmd⟩ : ∃ md, md = f + L.length := ⟨_, rfl⟩
              obtain ⟨en, hen⟩ : ∃ en, en = md + M.length := ⟨_, rfl⟩
              obtain ⟨f1, hf1⟩ : ∃ f1, f1 = f + wd := ⟨_, rfl⟩
              obtain ⟨f2, hf2⟩ : ∃ f2, f2 = f + w2d := ⟨_, rfl⟩
              have hx1 : IntKind.i64.wrap ((f : Int) + (wd : Int)) = (f1 : Int) := by rw [IntWalk.i64_in _ ⟨by omega, by omega⟩]; omega
              have hx2 : (f : Int) + (wd : Int) = (f1 : Int) := by omega
              have hx3 : IntKind.i64.wrap ((f : Int) + (w2d : Int)) = (f2 : Int) := by rw [IntWalk.i64_in _ ⟨by omega, by omega⟩]; omega
              have hx4 : (f : Int) + (w2d : Int) = (f2 : Int) := by omega
              have hx5 : min (f1 : Int) (i : Int) = (md : Int) := by have := HW2.out; omega
              have hx6 : min (f2 : Int) (i : Int) = (en : Int) := by have := HW2.out; omega
              have hfm : f ≤ md ∧ md ≤ en ∧ en ≤ i ∧ f2 ≤ 3 * i := by have := HW2.out; omega
              obtain ⟨hfm1, hfm2, hfm3, hfm4⟩ := hfm
              have HLM : Hid (f = D.length ∧ md = f + L.length ∧ en = md + M.length ∧ f2 = f + w2d) := Lib.hid ⟨hD, hmd, hen, hf2⟩
              have HSL := Lib.hid (And.intro sL sM)
              have HR2 := Lib.hid (And.intro hR (And.intro lM cR))
              have HAT : Hid (∀ k p, (f ≤ k → L[k - f]? = some p → o[k]? = some p) ∧ (md ≤ k → M[k - md]? = some p → o[k]? = some p)) := Lib.hid fun k p => by
                have e := KP.out.2.2.1
                rw [hR] at e
                constructor
                · intro hk hp
                  have h2 := (List.getElem?_eq_some_iff.1 hp).1
                  rw [e, List.getElem?_append_right (by omega), ← hD, List.getElem?_append_left h2]
                  exact hp
                · intro hk hp
                  have h2 := (List.getElem?_eq_some_iff.1 hp).1
                  rw [e, List.getElem?_append_right (by omega), List.getElem?_append_right (by omega), show k - D.length - L.length = k - md from by omega, List.getElem?_append_left h2]
                  exact hp
              have HIN : Hid (∀ k p, o[k]? = some p → k < i ∧ p < i) := Lib.hid fun k p hp => by
                have h1 := (List.getElem?_eq_some_iff.1 hp).1
                have h2 := KC.out.2.mem (List.mem_of_getElem? hp)
                have := HOL.out
                exact ⟨by omega, by simpa using h2⟩
              clear hD hR sL sM lL lM cR hRl hmd hen hf1 hf2 hcR
              have HNm := KN
              have HWm := KW
              clear KN KW
              go_wp2_with fail
              clear hx1 hx2 hx5 hx6
              go_loopg [9, 11, 13, 15] (en - f) (fun gh s9 s11 s13 s15 wx => ∃ (ia jb : Nat) (w mw : List Nat), (md - ia) + (en - jb) = gh ∧ f ≤ ia ∧ ia ≤ md ∧ md ≤ jb ∧ jb ≤ en ∧ s11 = .int .i64 ia ∧ s13 = .int .i64 jb ∧ Hid (mw = m ++ w ∧ Mg ltS key L M (ia - f) (jb - md) w) ∧ mw.length ≤ i ∧ Hid (wx.ownsRow wo.heap.size 3 1 s9 mw.length (mw.map natV)) ∧ Hid (Same wo wx))
              case atStart => exact ⟨f, md, [], m, by omega, Nat.le_refl _, hfm1, Nat.le_refl _, hfm2, rfl, rfl, Lib.hid ⟨by simp, by rw [Nat.sub_self, Nat.sub_self]; exact Mg.start _ _⟩, by have h1 := KP.out.2.2.2.length; have := HLM.out; omega, HNm, HWm⟩
              case round =>
                clear HNm HWm
                obtain ⟨ia, jb, w3, mw, rfl, hia1, hia2, hjb1, hjb2, rfl, rfl, KM, hml, KN, KW⟩ := hrel
                obtain ⟨An, cn, rfl⟩ := own_form KN.out
                have hzw := KW.out.size
                have HKO := Lib.hid (own_same KO.out KW.out)
                have HRw := Lib.hid (HR.out.same (KS.out.same KW.out))
                have HMLN : Hid (ia < md ∨ jb < en → mw.length < i) := Lib.hid fun hh => by
                  have h1 := KM.out.2.len (by have := HLM.out; omega) (by have := HLM.out; omega)
                  have h2 := KP.out.2.2.2.length
                  have h3 := congrArg List.length KM.out.1
                  rw [List.length_append] at h3
                  have := HLM.out
                  omega
                by_cases h1 : ia < md
                · obtain ⟨p, hp⟩ : ∃ p, L[ia - f]? = some p := ⟨_, List.getElem?_eq_getElem (by have := HLM.out; omega)⟩
                  have hop := (HAT.out ia p).1 hia1 hp
                  obtain ⟨hip, hpi⟩ := HIN.out ia p hop
                  obtain ⟨go, u1, rfl, _, _, hu1, r1, _, _⟩ := own_cell HKO.out hip
                  rw [List.getElem?_map, hop] at hu1
                  cases hu1
                  have HP1 := Lib.hid hp
                  clear hop hp
                  have hz1 : (0 : Int) ≤ (ia : Int) := by omega
                  have hz2 : (ia : Int) < (i : Int) := by omega
                  have hz3 : (0 : Int) ≤ (p : Int) := by omega
                  have hz4 : (p : Int) < (i : Int) := by omega
                  have hz5 : decide (ia < md) = true := decide_eq_true h1
                  by_cases h2 : jb < en
                  · obtain ⟨q, hq⟩ : ∃ q, M[jb - md]? = some q := ⟨_, List.getElem?_eq_getElem (by have := HLM.out; omega)⟩
                    have hoq := (HAT.out jb q).2 hjb1 hq
                    obtain ⟨hiq, hqi⟩ := HIN.out jb q hoq
                    obtain ⟨_, u2, hA, _, _, hu2, r2, _, _⟩ := own_cell HKO.out hiq
                    injection hA with hA
                    injection hA with hA _ _
                    subst hA
                    rw [List.getElem?_map, hoq] at hu2
                    cases hu2
                    have HQ1 := Lib.hid hq
                    clear hoq hq
                    have hy1 : (0 : Int) ≤ (jb : Int) := by omega
                    have hy2 : (jb : Int) < (i : Int) := by omega
                    have hy3 : (0 : Int) ≤ (q : Int) := by omega
                    have hy4 : (q : Int) < (i : Int) := by omega
                    have hy5 : decide (jb < en) = true := decide_eq_true h2
                    have hy6 : ((jb : Int) == (en : Int)) = false := by simp; omega
                    obtain ⟨x, hx⟩ : ∃ x, ids[p]? = some x := ⟨_, List.getElem?_eq_getElem (by rw [HL.out]; exact hpi)⟩
                    obtain ⟨y, hy⟩ : ∃ y, ids[q]? = some y := ⟨_, List.getElem?_eq_getElem (by rw [HL.out]; exact hqi)⟩
                    have hkp : key p = x := by rw [HK.out]; simp only [hx, Option.getD_some]
                    have hkq : key q = y := by rw [HK.out]; simp only [hy, Option.getD_some]
                    obtain ⟨b4, o4, u4, rfl, _, _, hu4, r4⟩ := HRw.out.at_ hpi
                    obtain ⟨_, _, u5, hA, _, _, hu5, r5⟩ := HRw.out.at_ hqi
                    injection hA with hA
                    injection hA with hA1 hA2 _
                    subst hA1 hA2
                    rw [List.getElem?_map, hx] at hu4
                    rw [List.getElem?_map, hy] at hu5
                    cases hu4
                    cases hu5
                    have HKP := Lib.hid (And.intro hkp hkq)
                    clear hx hy hkp hkq
                    have hlen0 : True := trivial
                    cases hxy : (Op.bytesLess x.toList y.toList || x.toList == y.toList) with
                    | true =>
                      have HMg : Hid (Mg ltS key L M (ia + 1 - f) (jb - md) (w3 ++ [p])) := Lib.hid (by
                        rw [show ia + 1 - f = ia - f + 1 from by omega]
                        exact KM.out.2.left lin_str HSL.out.1 HSL.out.2 HP1.out fun z hz => by
                          rw [HQ1.out] at hz
                          cases hz
                          rw [HKP.out.1, HKP.out.2]
                          exact (leq_iff _ _).1 hxy)
                      go_upto_region 20 with fail
                      go_quiet (fail)
                      have hmw := HMLN.out (by omega)
                      go_wp2_with (at_builtin; go_must (refine wpList_app rfl (.tmp 114) (.tmp 119) _ _ rfl wo.heap.size 3 1 8 _ Tryz.underlying36 info_int rfl (.slice An mw.length cn) mw.length _ rfl ((own_same KN.out (by first | exact Upd.refl _ _ | exact (Upd.refl _ _).drewN _)).alloc _) rfl (src_row Tryz.underlying36 (Row.one _ _ _) (by simp [Value.oneCell'])) (by unfold maxLen; omega) (by omega) (by simp; omega) ?_); intro v9 w9 hg; have HG := Lib.hid hg; clear hg)
                      go_roundg ((md - (ia + 1)) + (en - jb))
                      case measure => omega
                      case rel => exact ⟨ia + 1, jb, w3 ++ [p], mw ++ [p], rfl, by omega, by omega, by omega, by omega, by go_num, rfl, Lib.hid ⟨by rw [KM.out.1]; simp, HMg.out⟩, by simp; omega, Lib.hid (by have h9 := HG.out.own; simpa using h9), Lib.hid ((KW.out.same (by first | exact (Upd.refl _ _).alloc _ | exact ((Upd.refl _ _).drewN _).alloc _)).trans HG.out.upd fun b hb hh => by have := (KN.out.lt b hh).1; omega)⟩
                    | false =>
                      have HMg : Hid (Mg ltS key L M (ia - f) (jb + 1 - md) (w3 ++ [q])) := Lib.hid (by
                        rw [show jb + 1 - md = jb - md + 1 from by omega]
                        exact KM.out.2.right lin_str HSL.out.1 HSL.out.2 HQ1.out fun z hz => by
                          rw [HP1.out] at hz
                          cases hz
                          rw [HKP.out.1, HKP.out.2]
                          exact Classical.byContradiction fun hl => by have h9 := (leq_iff x y).2 hl; rw [hxy] at h9; cases h9)
                      go_upto_region 20 with fail
                      go_quiet (fail)
                      have hmw := HMLN.out (by omega)
                      go_wp2_with (at_builtin; go_must (refine wpList_app rfl (.tmp 123) (.tmp 128) _ _ rfl wo.heap.size 3 1 8 _ Tryz.underlying36 info_int rfl (.slice An mw.length cn) mw.length _ rfl ((own_same KN.out (by first | exact Upd.refl _ _ | exact (Upd.refl _ _).drewN _)).alloc _) rfl (src_row Tryz.underlying36 (Row.one _ _ _) (by simp [Value.oneCell'])) (by unfold maxLen; omega) (by omega) (by simp; omega) ?_); intro v9 w9 hg; have HG := Lib.hid hg; clear hg)
                      go_roundg ((md - ia) + (en - (jb + 1)))
                      case measure => omega
                      case rel => exact ⟨ia, jb + 1, w3 ++ [q], mw ++ [q], rfl, by omega, by omega, by omega, by omega, rfl, by go_num, Lib.hid ⟨by rw [KM.out.1]; simp, HMg.out⟩, by simp; omega, Lib.hid (by have h9 := HG.out.own; simpa using h9), Lib.hid ((KW.out.same (by first | exact (Upd.refl _ _).alloc _ | exact ((Upd.refl _ _).drewN _).alloc _)).trans HG.out.upd fun b hb hh => by have := (KN.out.lt b hh).1; omega)⟩
                  · have hy5 : decide (jb < en) = false := decide_eq_false h2
                    have hy6 : ((jb : Int) == (en : Int)) = true := by simp; omega
                    have HMg : Hid (Mg ltS key L M (ia + 1 - f) (jb - md) (w3 ++ [p])) := Lib.hid (by
                      rw [show ia + 1 - f = ia - f + 1 from by omega]
                      exact KM.out.2.left lin_str HSL.out.1 HSL.out.2 HP1.out fun z hz => by
                        have := (List.getElem?_eq_some_iff.1 hz).1
                        have := HLM.out
                        omega)
                    have hmw := HMLN.out (by omega)
                    go_wp2_with (at_builtin; go_must (refine wpList_app rfl (.tmp 114) (.tmp 119) _ _ rfl wo.heap.size 3 1 8 _ Tryz.underlying36 info_int rfl (.slice An mw.length cn) mw.length _ rfl ((own_same KN.out (by first | exact Upd.refl _ _ | exact (Upd.refl _ _).drewN _)).alloc _) rfl (src_row Tryz.underlying36 (Row.one _ _ _) (by simp [Value.oneCell'])) (by unfold maxLen; omega) (by omega) (by simp; omega) ?_); intro v9 w9 hg; have HG := Lib.hid hg; clear hg)
                    go_roundg ((md - (ia + 1)) + (en - jb))
                    case measure => omega
                    case rel => exact ⟨ia + 1, jb, w3 ++ [p], mw ++ [p], rfl, by omega, by omega, by omega, by omega, by go_num, rfl, Lib.hid ⟨by rw [KM.out.1]; simp, HMg.out⟩, by simp; omega, Lib.hid (by have h9 := HG.out.own; simpa using h9), Lib.hid ((KW.out.same (by first | exact (Upd.refl _ _).alloc _ | exact ((Upd.refl _ _).drewN _).alloc _)).trans HG.out.upd fun b hb hh => by have := (KN.out.lt b hh).1; omega)⟩
                · have hz5 : decide (ia < md) = false := decide_eq_false h1
                  by_cases h2 : jb < en
                  · obtain ⟨q, hq⟩ : ∃ q, M[jb - md]? = some q := ⟨_, List.getElem?_eq_getElem (by have := HLM.out; omega)⟩
                    have hoq := (HAT.out jb q).2 hjb1 hq
                    obtain ⟨hiq, hqi⟩ := HIN.out jb q hoq
                    obtain ⟨go, u2, rfl, _, _, hu2, r2, _, _⟩ := own_cell HKO.out hiq
                    rw [List.getElem?_map, hoq] at hu2
                    cases hu2
                    have HQ1 := Lib.hid hq
                    clear hoq hq
                    have hy1 : (0 : Int) ≤ (jb : Int) := by omega
                    have hy2 : (jb : Int) < (i : Int) := by omega
                    have hy5 : decide (jb < en) = true := decide_eq_true h2
                    have hy6 : ((jb : Int) == (en : Int)) = false := by simp; omega
                    have HMg : Hid (Mg ltS key L M (ia - f) (jb + 1 - md) (w3 ++ [q])) := Lib.hid (by
                      rw [show jb + 1 - md = jb - md + 1 from by omega]
                      exact KM.out.2.right lin_str HSL.out.1 HSL.out.2 HQ1.out fun z hz => by
                        have := (List.getElem?_eq_some_iff.1 hz).1
                        have := HLM.out
                        omega)
                    have hmw := HMLN.out (by omega)
                    go_wp2_with (at_builtin; go_must (refine wpList_app rfl (.tmp 123) (.tmp 128) _ _ rfl wo.heap.size 3 1 8 _ Tryz.underlying36 info_int rfl (.slice An mw.length cn) mw.length _ rfl ((own_same KN.out (by first | exact Upd.refl _ _ | exact (Upd.refl _ _).drewN _)).alloc _) rfl (src_row Tryz.underlying36 (Row.one _ _ _) (by simp [Value.oneCell'])) (by unfold maxLen; omega) (by omega) (by simp; omega) ?_); intro v9 w9 hg; have HG := Lib.hid hg; clear hg)
                    go_roundg ((md - ia) + (en - (jb + 1)))
                    case measure => omega
                    case rel => exact ⟨ia, jb + 1, w3 ++ [q], mw ++ [q], rfl, by omega, by omega, by omega, by omega, rfl, by go_num, Lib.hid ⟨by rw [KM.out.1]; simp, HMg.out⟩, by simp; omega, Lib.hid (by have h9 := HG.out.own; simpa using h9), Lib.hid ((KW.out.same (by first | exact (Upd.refl _ _).alloc _ | exact ((Upd.refl _ _).drewN _).alloc _)).trans HG.out.upd fun b hb hh => by have := (KN.out.lt b hh).1; omega)⟩
                  · have hy5 : decide (jb < en) = false := decide_eq_false h2
                    have HDn := Lib.hid (KM.out.2.done (by have := HLM.out; omega) (by have := HLM.out; omega))
                    have HPn : Hid (Pss ltS key i wd f2 o (D ++ (L ++ M)) R2 mw) := Lib.hid (by
                      rw [KM.out.1]
                      exact KP.out.next HOL.out hfn HR2.out.1 HR2.out.2.1 HR2.out.2.2 HDn.out.1 HDn.out.2 (by have := HLM.out; have := HW2.out; omega))
                    have hff : f < f2 := by have := HLM.out; omega
                    go_wp2
                    go_roundg (i - f2)
                    case measure => omega
                    case rel => exact ⟨f2, D ++ (L ++ M), R2, mw, An, cn, rfl, hfm4, rfl, by first | rfl | go_num, HPn, KN, KW⟩
            · have hP := KP.out.2.1 (by omega)
              have HM : Hid (Ck ltS key w2d m ∧ SameO key m (List.range i)) := Lib.hid (by
                rw [HW2.out]
                refine ⟨hP.1, ?_⟩
                have h1 := KP.out.2.2.2
                have h2 := KP.out.2.2.1
                rw [hP.2, List.append_nil] at h2
                rw [← h2] at h1
                exact h1.trans KC.out.2)
              have HML : Hid (m.length = i) := Lib.hid (by have := HM.out.2.length; simpa using this)
              clear hP
              rw [HML.out] at KN ⊢
              go_wp2
              go_roundg (i - w2d)
              case measure => have := HW2.out; omega
              case rel => exact ⟨w2d, m, An, cn, rfl, hwa, by omega, rfl, by first | rfl | go_num, Lib.hid (own_base KN.out hzo), HM, Lib.hid (KS.out.same KW.out)⟩
        · have HF : Hid (o = places ltS key i) := Lib.hid (sortB_of lin_str (KC.out.1.one (by rw [HOL.out]; omega)) KC.out.2)
          have h1 := HF.out
          subst h1
          go_wp2
          go_ret
          exact ⟨A2, c2, rfl, KO, KS.out⟩
end Go.Proofs.YtlnademnfnhbpaaGreat
