/- Package value: Check. -/
import Derived.Test.YtlnademnfnhbpaaGreatVal1
namespace Go.Proofs.YtlnademnfnhbpaaGreat
open Go.RowKit

/-- Is there a text that is too long? -/
def longAny (ts : List ByteArray) : Bool := ts.any fun s => decide (1000 < s.size)

theorem check1_spec (s : ByteArray) (w : World) (h : s.size ≤ 9223372036854775807) : Calls Tryz.prog 108 #[.string s] w fun e w' => e = .returned (.bool (decide (1000 < s.size))) ∧ w = w' := by
  go_enter Tryz.func108, Tryz.ntmps108
  go_wp2
  go_ret
  exact ⟨ret_bool (decide_eq_decide.2 (by omega)), rfl⟩

set_option maxHeartbeats 1000000 in
theorem indexLong_spec {F : Nat → Prop} {A : Option Addr} {n c : Nat} {ts : List ByteArray} (w : World) (h : WRow w F 1 A n c (ts.map Value.string)) (hts : ∀ s ∈ ts, s.size ≤ 9223372036854775807) :
    Calls Tryz.prog 130 #[.slice A n c, .func (.func 108) #[] #[]] w fun e w' => ∃ r : Int, e = .returned (.int .i64 r) ∧ (longAny ts = decide (0 ≤ r)) ∧ w = w' := by
  have HL := Lib.hid (show ts.length = n from by simpa using h.len)
  have hmx := h.max
  have hle := h.le
  unfold maxLen at hmx
  have hn : n ≤ 9223372036854775807 := by omega
  clear hmx hle
  go_enter Tryz.func130, Tryz.ntmps130
  go_wp2
  go_loop [8] (fun i => ∃ k : Nat, k ≤ n ∧ i = .int .i64 k ∧ longAny (ts.take k) = false) (fun i => n - (intOf i).toNat)
  case atStart => exact ⟨0, Nat.zero_le _, rfl, rfl⟩
  case round =>
    obtain ⟨k, hk, rfl, hno⟩ := hrel
    by_cases hlt : k < n
    · obtain ⟨b, o, u, rfl, hbl, _, hu, hc⟩ := h.at_ hlt
      have hkl : k < ts.length := by rw [HL.out]; exact hlt
      rw [List.getElem?_map, List.getElem?_eq_getElem hkl] at hu
      obtain rfl : Value.string ts[k] = u := by simpa using hu
      have HS := Lib.hid (hts ts[k] (List.getElem_mem hkl))
      have HN := Lib.hid hno
      have HT := Lib.hid (show longAny (ts.take (k + 1)) = (longAny (ts.take k) || decide (1000 < ts[k].size)) from by
        rw [List.take_succ_eq_append_getElem hkl]; unfold longAny; rw [List.any_append, List.any_cons, List.any_nil, Bool.or_false])
      clear hu hno hts
      generalize ts[k] = s at *
      by_cases hs : 1000 < s.size
      · go_wp2_with fail
        refine (check1_spec _ _ HS.out).mono ?_
        rintro e w' ⟨rfl, rfl⟩
        go_wp2
        go_ret
        refine ⟨k, rfl, ?_, rfl⟩
        have h1 := HT.out
        rw [decide_eq_true hs, Bool.or_true] at h1
        have h2 : longAny ts = true := by
          unfold longAny at h1 ⊢
          obtain ⟨x, hx, hx2⟩ := List.any_eq_true.1 h1
          exact List.any_eq_true.2 ⟨x, List.mem_of_mem_take hx, hx2⟩
        rw [h2]
        simp
      · go_wp2_with fail
        refine (check1_spec _ _ HS.out).mono ?_
        rintro e w' ⟨rfl, rfl⟩
        go_wp2
        go_round
        case rel =>
          refine ⟨k + 1, by omega, by go_num, ?_⟩
          rw [HT.out, HN.out, decide_eq_false hs]
          rfl
        case measure => simp [intOf]; omega
    · have hkn : k = n := by omega
      have HN := Lib.hid hno
      clear hno
      go_wp2
      go_ret
      refine ⟨-1, rfl, ?_, rfl⟩
      have h1 := HN.out
      rw [List.take_of_length_le (by rw [HL.out]; omega)] at h1
      rw [h1]
      rfl

theorem containsLong_spec {F : Nat → Prop} {A : Option Addr} {n c : Nat} {ts : List ByteArray} (w : World) (h : WRow w F 1 A n c (ts.map Value.string)) (hts : ∀ s ∈ ts, s.size ≤ 9223372036854775807) {r : Bool} (hr : longAny ts = r) :
    Calls Tryz.prog 107 #[.slice A n c, .func (.func 108) #[] #[]] w fun e w' => e = .returned (.bool r) ∧ w = w' := by
  subst hr
  go_enter Tryz.func107, Tryz.ntmps107
  go_wp2_with fail
  refine (indexLong_spec _ h hts).mono ?_
  rintro e w' ⟨r, rfl, hr, rfl⟩
  have HR := Lib.hid hr
  clear hr
  go_wp2
  go_ret
  exact ⟨ret_bool HR.out.symm, rfl⟩

theorem numErr_base {kind : Int} (x : Int) (h : 4 ≤ kind) : numErr (baseK kind) x = numErr (kind - 4) x := by
  unfold baseK
  split
  · rfl
  · obtain rfl : kind = 4 := by omega
    simp [numErr]

theorem numsErr_take (k : Int) (l : List Int) (i : Nat) (hi : i < l.length) (h : numsErr k (l.take i) = 0) : numsErr k (l.take (i + 1)) = numErr k l[i] := by
  induction l generalizing i with
  | nil => simp at hi
  | cons x l ih =>
    cases i with
    | zero => by_cases hx : numErr k x = 0 <;> simp [numsErr, hx]
    | succ i =>
      simp only [List.take_succ_cons, numsErr, List.getElem_cons_succ] at h ⊢
      split at h
      · exact absurd h (by assumption)
      · rename_i hx
        rw [if_neg hx]
        exact ih i (by simpa using hi) h

theorem numsErr_stop (k : Int) (l : List Int) (i : Nat) (h : numsErr k (l.take i) ≠ 0) : numsErr k l = numsErr k (l.take i) := by
  induction l generalizing i with
  | nil => simp
  | cons x l ih =>
    cases i with
    | zero => simp [numsErr] at h
    | succ i =>
      simp only [List.take_succ_cons, numsErr] at h ⊢
      split
      · rfl
      · rename_i hx
        rw [if_neg hx] at h
        exact ih i h

set_option maxHeartbeats 2000000 in
set_option maxRecDepth 10000 in
theorem check_spec {F : Nat → Prop} {A1 A2 : Option Addr} {n1 c1 n2 c2 : Nat} {g : GVal} (w : World) (h : RdVal w F A1 n1 c1 A2 n2 c2 g) (hx : g.text.size ≤ 9223372036854775807) (hts : ∀ s ∈ g.texts, s.size ≤ 9223372036854775807) :
    Calls Tryz.prog 81 #[g.val A1 n1 c1 A2 n2 c2] w fun e w' => e = .returned (.int .i64 (chk g)) ∧ Same w w' := by
  obtain ⟨kind, num, text, nums, texts⟩ := g
  simp only [GVal.val]
  simp only at hx hts
  have hk := h.kind
  simp only at hk
  have hl1 := h.len1
  have hl2 := h.len2
  simp only at hl1 hl2
  have hm1 := h.nums.max
  have hm2 := h.texts.max
  have hle1 := h.nums.le
  have hle2 := h.texts.le
  unfold maxLen at hm1 hm2
  by_cases hrange : kind < 1 ∨ 8 < kind
  · have e1 : chk ⟨kind, num, text, nums, texts⟩ = 40 := by unfold chk; rw [if_pos hrange]
    rw [e1]
    clear e1 hl1 hl2
    rcases hrange with hr | hr
    · go_enter Tryz.func81, Tryz.ntmps81
      go_wp2
      go_ret
      exact ⟨rfl, (Upd.refl _ w).alloc _⟩
    · have hr' : ¬ kind < 1 := by omega
      go_enter Tryz.func81, Tryz.ntmps81
      go_wp2
      go_ret
      exact ⟨rfl, (Upd.refl _ w).alloc _⟩
  · have hk1 : ¬ kind < 1 := by omega
    have hk8 : ¬ 8 < kind := by omega
    have hu := unused_spec (A1 := A1) (A2 := A2) (n1 := n1) (c1 := c1) (n2 := n2) (c2 := c2) (kind := kind) (num := num) (text := text) (w.alloc (.cells #[.int .i64 kind, .int .i64 num, .string text, .slice A1 n1 c1, .slice A2 n2 c2] 43)) (by omega) (by omega)
    have hfb : fieldBad ⟨kind, num, text, nums, texts⟩ = badB kind num text.size n1 n2 := by
      simp only [fieldBad, badB, hl1, hl2]
    by_cases hf : badB kind num text.size n1 n2 = true
    · have e1 : chk ⟨kind, num, text, nums, texts⟩ = 41 := by
        unfold chk; rw [if_neg hrange, if_pos (by rw [hfb]; exact hf)]
      rw [e1]
      rw [hf] at hu
      have HU := Lib.hid hu
      clear e1 hl1 hl2 hf hu hfb
      go_enter Tryz.func81, Tryz.ntmps81
      go_wp2_with fail
      refine HU.out.mono ?_
      rintro e w1 ⟨rfl, hs⟩
      go_wp2
      go_ret
      exact ⟨rfl, ((Upd.refl _ w).alloc _).same hs⟩
    · have hff : badB kind num text.size n1 n2 = false := by simpa using hf
      rw [hff] at hu
      have HU := Lib.hid hu
      have HC := Lib.hid (show chk ⟨kind, num, text, nums, texts⟩ = (if 40 < nums.length ∨ 40 < texts.length then 45
          else if 1000 < text.size ∨ longAny texts = true then 44
          else if kind < 4 then numErr kind num else numsErr (kind - 4) nums) from by
        unfold chk; rw [if_neg hrange, if_neg (by rw [hfb, hff]; simp)]; rfl)
      clear hu hfb hf hff
      have HR := Lib.hid h
      have HL1 := Lib.hid hl1
      have HL2 := Lib.hid hl2
      by_cases hlist : 40 < nums.length ∨ 40 < texts.length
      · have HC1 := Lib.hid (HC.out.trans (if_pos hlist))
        rw [hl1, hl2] at hlist
        clear h hl1 hl2
        rcases hlist with h40 | h40
        · go_enter Tryz.func81, Tryz.ntmps81
          go_wp2_with fail
          refine HU.out.mono ?_
          rintro e w1 ⟨rfl, hs⟩
          have hb := (Blk.new w 43 #[.int .i64 kind, .int .i64 num, .string text, .slice A1 n1 c1, .slice A2 n2 c2]).same hs
          have c3 : w1.cell? ⟨w.heap.size, 3, none⟩ = some (.slice A1 n1 c1) := hb.cell 3
          go_wp2
          go_ret
          exact ⟨ret_int HC1.out.symm, ((Upd.refl _ w).alloc _).same hs⟩
        · by_cases h41 : 40 < n1
          · go_enter Tryz.func81, Tryz.ntmps81
            go_wp2_with fail
            refine HU.out.mono ?_
            rintro e w1 ⟨rfl, hs⟩
            have hb := (Blk.new w 43 #[.int .i64 kind, .int .i64 num, .string text, .slice A1 n1 c1, .slice A2 n2 c2]).same hs
            have c3 : w1.cell? ⟨w.heap.size, 3, none⟩ = some (.slice A1 n1 c1) := hb.cell 3
            go_wp2
            go_ret
            exact ⟨ret_int HC1.out.symm, ((Upd.refl _ w).alloc _).same hs⟩
          · go_enter Tryz.func81, Tryz.ntmps81
            go_wp2_with fail
            refine HU.out.mono ?_
            rintro e w1 ⟨rfl, hs⟩
            have hb := (Blk.new w 43 #[.int .i64 kind, .int .i64 num, .string text, .slice A1 n1 c1, .slice A2 n2 c2]).same hs
            have c3 : w1.cell? ⟨w.heap.size, 3, none⟩ = some (.slice A1 n1 c1) := hb.cell 3
            have c4 : w1.cell? ⟨w.heap.size, 4, none⟩ = some (.slice A2 n2 c2) := hb.cell 4
            go_wp2
            go_ret
            exact ⟨ret_int HC1.out.symm, ((Upd.refl _ w).alloc _).same hs⟩
      · have HC1 := Lib.hid (HC.out.trans (if_neg hlist))
        rw [hl1, hl2] at hlist
        have h40 : n1 ≤ 40 := by omega
        have h41 : n2 ≤ 40 := by omega
        clear h hl1 hl2 hlist
        by_cases htext : 1000 < text.size
        · have HC2 := Lib.hid (HC1.out.trans (if_pos (.inl htext)))
          go_enter Tryz.func81, Tryz.ntmps81
          go_wp2_with fail
          refine HU.out.mono ?_
          rintro e w1 ⟨rfl, hs⟩
          have hb := (Blk.new w 43 #[.int .i64 kind, .int .i64 num, .string text, .slice A1 n1 c1, .slice A2 n2 c2]).same hs
          have c2' : w1.cell? ⟨w.heap.size, 2, none⟩ = some (.string text) := hb.cell 2
          have c3 : w1.cell? ⟨w.heap.size, 3, none⟩ = some (.slice A1 n1 c1) := hb.cell 3
          have c4 : w1.cell? ⟨w.heap.size, 4, none⟩ = some (.slice A2 n2 c2) := hb.cell 4
          go_wp2
          go_ret
          exact ⟨ret_int HC2.out.symm, ((Upd.refl _ w).alloc _).same hs⟩
        · have HT := Lib.hid (show (1000 < text.size ∨ longAny texts = true) ↔ longAny texts = true from ⟨fun h => h.resolve_left htext, .inr⟩)
          go_enter Tryz.func81, Tryz.ntmps81
          go_wp2_with fail
          refine HU.out.mono ?_
          rintro e w1 ⟨rfl, hs⟩
          have hb := (Blk.new w 43 #[.int .i64 kind, .int .i64 num, .string text, .slice A1 n1 c1, .slice A2 n2 c2]).same hs
          have hsame := ((Upd.refl (fun _ => False) w).alloc (.cells #[.int .i64 kind, .int .i64 num, .string text, .slice A1 n1 c1, .slice A2 n2 c2] 43)).same hs
          have c0 : w1.cell? ⟨w.heap.size, 0, none⟩ = some (.int .i64 kind) := hb.cell 0
          have c1' : w1.cell? ⟨w.heap.size, 1, none⟩ = some (.int .i64 num) := hb.cell 1
          have c2' : w1.cell? ⟨w.heap.size, 2, none⟩ = some (.string text) := hb.cell 2
          have c3 : w1.cell? ⟨w.heap.size, 3, none⟩ = some (.slice A1 n1 c1) := hb.cell 3
          have c4 : w1.cell? ⟨w.heap.size, 4, none⟩ = some (.slice A2 n2 c2) := hb.cell 4
          clear hb
          generalize hB : w.heap.size = B at c0 c1' c2' c3 c4
          clear hB hs
          go_wp2_with fail
          by_cases hlong : longAny texts = true
          · refine (containsLong_spec _ (HR.out.texts.same hsame) hts hlong).mono ?_
            rintro e w2 ⟨rfl, rfl⟩
            have HG := Lib.hid hlong
            clear hlong
            go_wp2
            go_ret
            refine ⟨ret_int ?_, hsame⟩
            exact (HC1.out.trans (if_pos (.inr HG.out))).symm
          · refine (containsLong_spec _ (HR.out.texts.same hsame) hts (r := false) (by simpa using hlong)).mono ?_
            rintro e w2 ⟨rfl, rfl⟩
            have HG := Lib.hid (fun hh => hlong (HT.out.1 hh))
            clear hlong
            by_cases h4 : kind < 4
            · go_wp2_with fail
              refine (checkNum_spec _ _ _ (by omega) (by omega)).mono ?_
              rintro e w3 ⟨rfl, rfl⟩
              go_wp2
              go_ret
              refine ⟨ret_int ?_, hsame⟩
              rw [HC1.out, if_neg HG.out, if_pos h4]
              rw [show baseK kind = kind from by unfold baseK; rw [if_neg (by omega)]]
            · go_wp2
              go_loop [51] (fun i => ∃ k : Nat, k ≤ n1 ∧ i = .int .i64 k ∧ Hid (numsErr (kind - 4) (nums.take k) = 0)) (fun i => n1 - (intOf i).toNat)
              case atStart => exact ⟨0, Nat.zero_le _, rfl, Lib.hid rfl⟩
              case round =>
                obtain ⟨k, hk, rfl, hno⟩ := hrel
                have HK := Lib.hid (show numsErr (kind - 4) nums = chk ⟨kind, num, text, nums, texts⟩ from by
                  rw [HC1.out, if_neg HG.out, if_neg (by omega)])
                by_cases hlt : k < n1
                · have hrow := HR.out.nums.same hsame
                  obtain ⟨b, o, u, rfl, hbl, _, hu, hc⟩ := hrow.at_ hlt
                  have hkl : k < nums.length := by rw [HL1.out]; exact hlt
                  simp only [List.getElem?_map, List.getElem?_eq_getElem hkl, Option.map_some, Option.some.injEq] at hu
                  subst hu
                  have HN := Lib.hid (numsErr_take (kind - 4) nums k hkl hno.out)
                  have HS := Lib.hid (numsErr_stop (kind - 4) nums (k + 1))
                  clear hrow
                  generalize nums[k] = x at *
                  by_cases hz : numErr (kind - 4) x = 0
                  · go_wp2_with fail
                    refine (checkNum_spec _ _ _ (by omega) (by omega)).mono ?_
                    rintro e w3 ⟨rfl, rfl⟩
                    have hz' : numErr (baseK kind) x = 0 := by rw [numErr_base x (by omega)]; exact hz
                    have HZ := Lib.hid hz
                    clear hz
                    go_wp2
                    go_round
                    case rel => exact ⟨k + 1, by omega, by go_num, Lib.hid (HN.out.trans HZ.out)⟩
                    case measure => simp [intOf]; omega
                  · go_wp2_with fail
                    refine (checkNum_spec _ _ _ (by omega) (by omega)).mono ?_
                    rintro e w3 ⟨rfl, rfl⟩
                    have hb' := numErr_base x (show 4 ≤ kind by omega)
                    have hz' : (numErr (baseK kind) x != 0) = true := by rw [hb']; simpa using hz
                    have HZ := Lib.hid hz
                    have HB := Lib.hid hb'
                    clear hz hb'
                    go_wp2
                    go_ret
                    refine ⟨ret_int ?_, hsame⟩
                    rw [← HK.out, HB.out, HS.out (by rw [HN.out]; exact HZ.out), HN.out]
                · obtain rfl : k = n1 := by omega
                  go_wp2
                  go_ret
                  refine ⟨ret_int ?_, hsame⟩
                  rw [← HK.out, ← hno.out, List.take_of_length_le (by rw [HL1.out]; exact Nat.le_refl _)]
end Go.Proofs.YtlnademnfnhbpaaGreat
