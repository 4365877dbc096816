/- The reference's canonProps. -/
import Derived.Test.YtlnademnfnhbpaaGreatOrdW
import Derived.Test.YtlnademnfnhbpaaGreatCopyG
namespace Go.Proofs.YtlnademnfnhbpaaGreat
open Go.RowKit

def prD : PR := ⟨⟨#[]⟩, ⟨0, 0, ⟨#[]⟩, [], []⟩, none, 0, 0, none, 0, 0⟩
/-- What stands at the places. -/
theorem places_ps (ls : List PR) : (places ltS (fun i => (ls.map PR.key)[i]?.getD ⟨#[]⟩) ls.length).map (fun i => ls[i]?.getD prD) = sortB ltS PR.key ls :=
  places_list lin_str ls prD fun i x h => by rw [List.getElem?_map, h]; rfl
theorem places_len {κ : Type} {lt : κ → κ → Prop} [DecidableRel lt] [DecidableEq κ] (L : Lin lt) (key : Nat → κ) (n : Nat) : (places lt key n).length = n := by
  have := (sortB_same (key := key) L (List.range n)).length
  rw [List.length_range] at this
  exact this
theorem places_lt {κ : Type} {lt : κ → κ → Prop} [DecidableRel lt] [DecidableEq κ] (L : Lin lt) {key : Nat → κ} {n k p : Nat} (h : (places lt key n)[k]? = some p) : p < n := by
  have := (sortB_same (key := key) L (List.range n)).mem (List.mem_of_getElem? h)
  simpa using this
theorem take_app {α : Type} {l : List α} {j : Nat} {x : α} (h : l[j]? = some x) (f : α → List Value) : (l.take j).flatMap f ++ f x = (l.take (j + 1)).flatMap f := by
  rw [List.take_add_one, h, List.flatMap_append]
  simp

set_option maxHeartbeats 8000000 in
set_option maxRecDepth 100000 in
theorem rcanonProps_spec {F : Nat → Prop} {A : Option Addr} {n c : Nat} {ls : List PR} (w : World) (h : RdPs w F A n c ls) (hsm : PsSmall n ls) :
    Calls Tryz.prog 48 #[.slice A n c] w fun e w' => ∃ (A' : Option Addr) (c' : Nat) (l : List PR), e = .returned (.slice A' n c') ∧ Hid (l.map PR.dat = sortB ltS GPr.key (ls.map PR.dat)) ∧ Hid (OwnPs w' w.heap.size (.slice A' n c') l) ∧ Same w w' := by
  have HL := Lib.hid h.len
  have HR := Lib.hid h
  have HF := Lib.hid hsm
  have hn := hsm.1
  clear h hsm
  go_enter Tryz.func48, Tryz.ntmps48
  go_wp2_with fail
  go_loopg [3, 4] n (fun gh s3 s4 wr => ∃ i : Nat, n - i = gh ∧ i ≤ n ∧ s4 = .int .i64 i ∧ Hid (wr.ownsRow w.heap.size 9 1 s3 i (((ls.map PR.key).take i).map Value.string)) ∧ Hid (Same w wr))
  case atStart => exact ⟨0, rfl, Nat.zero_le _, rfl, Lib.hid (World.ownsRow_made w #[] 0 (Nat.le_refl _) (Nat.zero_le _) rfl), Lib.hid ((Upd.refl _ _).alloc _)⟩
  case round =>
    obtain ⟨i, rfl, hi, rfl, KO, KS⟩ := hrel
    obtain ⟨A1, c1, rfl⟩ := own_form KO.out
    have hz := KS.out.size
    by_cases hlt : i < n
    · obtain ⟨b, o, x, rfl, hb, _, hx, hxm, r0, _⟩ := (HR.out.same KS.out).at_ hlt
      have HT := Lib.hid (show ((ls.map PR.key).take (i + 1)).map Value.string = ((ls.map PR.key).take i).map Value.string ++ [.string x.key] from by rw [List.take_add_one, List.getElem?_map, hx]; simp)
      clear hx hxm
      go_wp2_with (at_builtin; go_must (refine wpList_app rfl (.tmp 15) (.tmp 21) _ _ rfl w.heap.size 9 1 16 _ Tryz.underlying37 info_string rfl (.slice A1 i c1) i _ rfl (KO.out.alloc _) rfl (src_row Tryz.underlying37 (Row.one _ _ _) (by simp [Value.oneCell'])) (by unfold maxLen; omega) (by omega) (by simp; omega) ?_); intro v9 w9 hg; have HG := Lib.hid hg; clear hg)
      go_roundg (n - (i + 1))
      case measure => omega
      case rel => exact ⟨i + 1, rfl, by omega, by go_num, Lib.hid (by rw [HT.out]; exact HG.out.own), Lib.hid ((KS.out.alloc _).trans HG.out.upd fun b hb hh => by have := (KO.out.lt b hh).1; omega)⟩
    · obtain rfl : i = n := by omega
      have hO := KO.out
      rw [List.take_of_length_le (by rw [List.length_map, HL.out]; exact Nat.le_refl _)] at hO
      have HO := Lib.hid hO
      clear hO hlt hi
      have hs2 := (Upd.refl (fun _ => False) wr).alloc (.cells #[] 3)
      have HS2 := Lib.hid (KS.out.same hs2)
      have HO2 := Lib.hid (own_rdK (own_same HO.out hs2))
      clear hs2 KO KS
      go_wp2_with fail
      refine (orderT_spec _ HO2.out (by omega)).mono ?_
      rintro e w3 ⟨A3, c3, rfl, HP3, hs3⟩
      have hz2 := HS2.out.size
      have HS3 := Lib.hid (HS2.out.same hs3)
      have HP4 : Hid (w3.ownsRow w.heap.size 3 1 (.slice A3 i c3) i ((places ltS (fun k => (ls.map PR.key)[k]?.getD ⟨#[]⟩) i).map natV)) := Lib.hid (own_base HP3.out hz2)
      obtain ⟨o, ho⟩ : ∃ o, o = places ltS (fun k => (ls.map PR.key)[k]?.getD ⟨#[]⟩) i := ⟨_, rfl⟩
      rw [← ho] at HP4
      obtain ⟨lsp, hlsp⟩ : ∃ lsp, lsp = o.map (fun k => ls[k]?.getD prD) := ⟨_, rfl⟩
      have HLS : Hid (lsp = sortB ltS PR.key ls) := Lib.hid (by
        have h1 := places_ps ls
        rw [HL.out, ← ho, ← hlsp] at h1
        exact h1)
      have HAT : Hid (∀ j p, o[j]? = some p → ∃ x, ls[p]? = some x ∧ lsp[j]? = some x ∧ p < i) := Lib.hid fun j p hp => by
        have h1 : p < i := places_lt lin_str (by rw [← ho]; exact hp)
        obtain ⟨x, hx⟩ : ∃ x, ls[p]? = some x := ⟨_, List.getElem?_eq_getElem (by rw [HL.out]; exact h1)⟩
        exact ⟨x, hx, by rw [hlsp, List.getElem?_map, hp]; simp [hx], h1⟩
      have HOL : Hid (o.length = i) := Lib.hid (by rw [ho]; exact places_len lin_str _ _)
      have HLL : Hid (lsp.length = i) := Lib.hid (by rw [hlsp, List.length_map]; exact HOL.out)
      clear ho hlsp HP3 hs3 HO HO2 HS2 hz hz2
      obtain ⟨wo, rfl⟩ : ∃ wo : World, wo = w3 := ⟨_, rfl⟩
      go_wp2_with fail
      go_loopg [6, 7] i (fun gh s6 s7 wx => ∃ j : Nat, i - j = gh ∧ j ≤ i ∧ s7 = .int .i64 j ∧ Hid (wx.ownsRow wo.heap.size 45 6 s6 j ((lsp.take j).flatMap PR.cells)) ∧ Hid (Same wo wx))
      case atStart => exact ⟨0, rfl, Nat.zero_le _, rfl, Lib.hid (World.ownsRow_made wo #[] 0 (Nat.le_refl _) (Nat.zero_le _) rfl), Lib.hid ((Upd.refl _ _).alloc _)⟩
      case round =>
        obtain ⟨j, rfl, hj, rfl, KO, KS⟩ := hrel
        obtain ⟨A1, c1, rfl⟩ := own_form KO.out
        have hz := KS.out.size
        have hz3 := HS3.out.size
        by_cases hlt : j < i
        · obtain ⟨p, hp⟩ : ∃ p, o[j]? = some p := ⟨_, List.getElem?_eq_getElem (by rw [HOL.out]; exact hlt)⟩
          obtain ⟨x, hx, hlx, hpi⟩ := HAT.out j p hp
          obtain ⟨b, ob, x', rfl, hb, _, hx', hxm, r0, r1, r2, r3, r4, r5⟩ := (HR.out.same (HS3.out.same KS.out)).at_ hpi
          rw [hx] at hx'
          cases hx'
          obtain ⟨ga, ua, rfl, _, _, hua, ra, _, _⟩ := own_cell (own_same HP4.out KS.out) hlt
          rw [List.getElem?_map, hp] at hua
          cases hua
          have hz1 : (0 : Int) ≤ (p : Int) := by omega
          have hz2 : (p : Int) < (i : Int) := by omega
          have HT := Lib.hid (take_app hlx PR.cells)
          clear hp hx hlx hxm
          go_wp2_with (at_builtin; go_must (refine wpList_app rfl (.tmp 33) (.tmp 41) _ _ rfl wo.heap.size 45 6 96 _ Tryz.underlying38 info_Prop rfl (.slice A1 j c1) j _ rfl (KO.out.alloc _) rfl (src_row Tryz.underlying38 (Row.pr wr x) (PR.one _)) (by unfold maxLen; omega) (by omega) (by simp; omega) ?_); intro v9 w9 hg; have HG := Lib.hid hg; clear hg)
          go_roundg (i - (j + 1))
          case measure => omega
          case rel => exact ⟨j + 1, rfl, by omega, by go_num, Lib.hid (by rw [← HT.out]; exact HG.out.own), Lib.hid ((KS.out.alloc _).trans HG.out.upd fun b hb hh => by have := (KO.out.lt b hh).1; omega)⟩
        · obtain rfl : j = i := by omega
          have hO := KO.out
          rw [List.take_of_length_le (by rw [HLL.out]; exact Nat.le_refl _)] at hO
          have hmem : ∀ x ∈ lsp, x ∈ ls := fun x hx => by
            rw [HLS.out] at hx
            exact (sortB_same lin_str ls).mem hx
          have HRD : Hid (RdPs wr (fun _ => True) A1 j c1 lsp) := Lib.hid ⟨(own_rdK hO).mono fun _ _ _ => trivial, fun x hx => ((HR.out.same (HS3.out.same KS.out)).val x (hmem x hx)).mono fun _ _ _ => trivial⟩
          have HSM : Hid (PsSmall j lsp) := Lib.hid ⟨HF.out.1, fun x hx => HF.out.2 x (hmem x hx)⟩
          have HSw := Lib.hid (HS3.out.same KS.out)
          clear hO hmem KO KS
          go_wp2_with fail
          refine (copyProps_spec wr HRD.out HSM.out).mono ?_
          rintro e w9 ⟨A9, c9, l9, rfl, HD9, HO9, hs9⟩
          have HF9 : Hid (l9.map PR.dat = sortB ltS GPr.key (ls.map PR.dat)) := Lib.hid (by rw [HD9.out, HLS.out]; exact (sortB_map (lt := ltS) (key := PR.key) (key' := GPr.key) PR.dat (fun _ => rfl) ls).symm)
          have HO10 := Lib.hid (HO9.out.base (B' := w.heap.size) (by omega))
          have HS9 := Lib.hid (HSw.out.same hs9)
          clear hs9
          go_wp2
          go_ret
          exact ⟨A9, c9, l9, rfl, HF9, HO10, HS9.out⟩
end Go.Proofs.YtlnademnfnhbpaaGreat
