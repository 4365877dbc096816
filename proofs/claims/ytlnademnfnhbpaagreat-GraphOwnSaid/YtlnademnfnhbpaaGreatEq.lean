/- Equality of lists of numbers and of texts: slices.Equal at both; value.Same; the reference's. -/
import Derived.Test.YtlnademnfnhbpaaGreatRead
import Derived.Deep.QuietTactic
import Derived.BigQuiet
namespace Go.Proofs.YtlnademnfnhbpaaGreat
open Go.RowKit

/-- Is there a text that is too long? -/
def longAny (ts : List ByteArray) : Bool := ts.any fun s => decide (1000 < s.size)

theorem check1_spec (s : ByteArray) (w : World) (h : s.size ≤ 9223372036854775807) : Calls Tryz.prog 108 #[.string s] w fun e w' => e = .returned (.bool (decide (1000 < s.size))) ∧ w = w' := by
  go_enter Tryz.func108, Tryz.ntmps108
  go_wp2
  go_ret
  exact ⟨ret_bool (decide_eq_decide.2 (by omega)), rfl⟩

set_option maxHeartbeats 1000000 in
theorem indexLong_spec {F : Nat → Prop} {A : Option Addr} {n c : Nat} {ts : List ByteArray} (w : World) (h : WRow w F 1 A n c (ts.map Value.string)) (hts : ∀ s ∈ ts, s.size ≤ 9223372036854775807) :
    Calls Tryz.prog 130 #[.slice A n c, .func (.func 108) #[] #[]] w fun e w' => ∃ r : Int, e = .returned (.int .i64 r) ∧ (longAny ts = decide (0 ≤ r)) ∧ w = w' := by
  have HL := Lib.hid (show ts.length = n from by simpa using h.len)
  have hmx := h.max
  have hle := h.le
  unfold maxLen at hmx
  have hn : n ≤ 9223372036854775807 := by omega
  clear hmx hle
  go_enter Tryz.func130, Tryz.ntmps130
  go_wp2
  go_loop [8] (fun i => ∃ k : Nat, k ≤ n ∧ i = .int .i64 k ∧ longAny (ts.take k) = false) (fun i => n - (intOf i).toNat)
  case atStart => exact ⟨0, Nat.zero_le _, rfl, rfl⟩
  case round =>
    obtain ⟨k, hk, rfl, hno⟩ := hrel
    by_cases hlt : k < n
    · obtain ⟨b, o, u, rfl, hbl, _, hu, hc⟩ := h.at_ hlt
      have hkl : k < ts.length := by rw [HL.out]; exact hlt
      rw [List.getElem?_map, List.getElem?_eq_getElem hkl] at hu
      obtain rfl : Value.string ts[k] = u := by simpa using hu
      have HS := Lib.hid (hts ts[k] (List.getElem_mem hkl))
      have HN := Lib.hid hno
      have HT := Lib.hid (show longAny (ts.take (k + 1)) = (longAny (ts.take k) || decide (1000 < ts[k].size)) from by
        rw [List.take_succ_eq_append_getElem hkl]; unfold longAny; rw [List.any_append, List.any_cons, List.any_nil, Bool.or_false])
      clear hu hno hts
      generalize ts[k] = s at *
      by_cases hs : 1000 < s.size
      · go_wp2_with fail
        refine (check1_spec _ _ HS.out).mono ?_
        rintro e w' ⟨rfl, rfl⟩
        go_wp2
        go_ret
        refine ⟨k, rfl, ?_, rfl⟩
        have h1 := HT.out
        rw [decide_eq_true hs, Bool.or_true] at h1
        have h2 : longAny ts = true := by
          unfold longAny at h1 ⊢
          obtain ⟨x, hx, hx2⟩ := List.any_eq_true.1 h1
          exact List.any_eq_true.2 ⟨x, List.mem_of_mem_take hx, hx2⟩
        rw [h2]
        simp
      · go_wp2_with fail
        refine (check1_spec _ _ HS.out).mono ?_
        rintro e w' ⟨rfl, rfl⟩
        go_wp2
        go_round
        case rel =>
          refine ⟨k + 1, by omega, by go_num, ?_⟩
          rw [HT.out, HN.out, decide_eq_false hs]
          rfl
        case measure => simp [intOf]; omega
    · have hkn : k = n := by omega
      have HN := Lib.hid hno
      clear hno
      go_wp2
      go_ret
      refine ⟨-1, rfl, ?_, rfl⟩
      have h1 := HN.out
      rw [List.take_of_length_le (by rw [HL.out]; omega)] at h1
      rw [h1]
      rfl

theorem containsLong_spec {F : Nat → Prop} {A : Option Addr} {n c : Nat} {ts : List ByteArray} (w : World) (h : WRow w F 1 A n c (ts.map Value.string)) (hts : ∀ s ∈ ts, s.size ≤ 9223372036854775807) {r : Bool} (hr : longAny ts = r) :
    Calls Tryz.prog 107 #[.slice A n c, .func (.func 108) #[] #[]] w fun e w' => e = .returned (.bool r) ∧ w = w' := by
  subst hr
  go_enter Tryz.func107, Tryz.ntmps107
  go_wp2_with fail
  refine (indexLong_spec _ h hts).mono ?_
  rintro e w' ⟨r, rfl, hr, rfl⟩
  have HR := Lib.hid hr
  clear hr
  go_wp2
  go_ret
  exact ⟨ret_bool HR.out.symm, rfl⟩

theorem numErr_base {kind : Int} (x : Int) (h : 4 ≤ kind) : numErr (baseK kind) x = numErr (kind - 4) x := by
  unfold baseK
  split
  · rfl
  · obtain rfl : kind = 4 := by omega
    simp [numErr]

theorem numsErr_take (k : Int) (l : List Int) (i : Nat) (hi : i < l.length) (h : numsErr k (l.take i) = 0) : numsErr k (l.take (i + 1)) = numErr k l[i] := by
  induction l generalizing i with
  | nil => simp at hi
  | cons x l ih =>
    cases i with
    | zero => by_cases hx : numErr k x = 0 <;> simp [numsErr, hx]
    | succ i =>
      simp only [List.take_succ_cons, numsErr, List.getElem_cons_succ] at h ⊢
      split at h
      · exact absurd h (by assumption)
      · rename_i hx
        rw [if_neg hx]
        exact ih i (by simpa using hi) h

theorem numsErr_stop (k : Int) (l : List Int) (i : Nat) (h : numsErr k (l.take i) ≠ 0) : numsErr k l = numsErr k (l.take i) := by
  induction l generalizing i with
  | nil => simp
  | cons x l ih =>
    cases i with
    | zero => simp [numsErr] at h
    | succ i =>
      simp only [List.take_succ_cons, numsErr] at h ⊢
      split
      · rfl
      · rename_i hx
        rw [if_neg hx] at h
        exact ih i h

set_option maxHeartbeats 2000000 in
set_option maxRecDepth 10000 in
theorem check_spec {F : Nat → Prop} {A1 A2 : Option Addr} {n1 c1 n2 c2 : Nat} {g : GVal} (w : World) (h : RdVal w F A1 n1 c1 A2 n2 c2 g) (hx : g.text.size ≤ 9223372036854775807) (hts : ∀ s ∈ g.texts, s.size ≤ 9223372036854775807) :
    Calls Tryz.prog 81 #[g.val A1 n1 c1 A2 n2 c2] w fun e w' => e = .returned (.int .i64 (chk g)) ∧ Same w w' := by
  obtain ⟨kind, num, text, nums, texts⟩ := g
  simp only [GVal.val]
  simp only at hx hts
  have hk := h.kind
  simp only at hk
  have hl1 := h.len1
  have hl2 := h.len2
  simp only at hl1 hl2
  have hm1 := h.nums.max
  have hm2 := h.texts.max
  have hle1 := h.nums.le
  have hle2 := h.texts.le
  unfold maxLen at hm1 hm2
  by_cases hrange : kind < 1 ∨ 8 < kind
  · have e1 : chk ⟨kind, num, text, nums, texts⟩ = 40 := by unfold chk; rw [if_pos hrange]
    rw [e1]
    clear e1 hl1 hl2
    rcases hrange with hr | hr
    · go_enter Tryz.func81, Tryz.ntmps81
      go_wp2
      go_ret
      exact ⟨rfl, (Upd.refl _ w).alloc _⟩
    · have hr' : ¬ kind < 1 := by omega
      go_enter Tryz.func81, Tryz.ntmps81
      go_wp2
      go_ret
      exact ⟨rfl, (Upd.refl _ w).alloc _⟩
  · have hk1 : ¬ kind < 1 := by omega
    have hk8 : ¬ 8 < kind := by omega
    have hu := unused_spec (A1 := A1) (A2 := A2) (n1 := n1) (c1 := c1) (n2 := n2) (c2 := c2) (kind := kind) (num := num) (text := text) (w.alloc (.cells #[.int .i64 kind, .int .i64 num, .string text, .slice A1 n1 c1, .slice A2 n2 c2] 43)) (by omega) (by omega)
    have hfb : fieldBad ⟨kind, num, text, nums, texts⟩ = badB kind num text.size n1 n2 := by
      simp only [fieldBad, badB, hl1, hl2]
    by_cases hf : badB kind num text.size n1 n2 = true
    · have e1 : chk ⟨kind, num, text, nums, texts⟩ = 41 := by
        unfold chk; rw [if_neg hrange, if_pos (by rw [hfb]; exact hf)]
      rw [e1]
      rw [hf] at hu
      have HU := Lib.hid hu
      clear e1 hl1 hl2 hf hu hfb
      go_enter Tryz.func81, Tryz.ntmps81
      go_wp2_with fail
      refine HU.out.mono ?_
      rintro e w1 ⟨rfl, hs⟩
      go_wp2
      go_ret
      exact ⟨rfl, ((Upd.refl _ w).alloc _).same hs⟩
    · have hff : badB kind num text.size n1 n2 = false := by simpa using hf
      rw [hff] at hu
      have HU := Lib.hid hu
      have HC := Lib.hid (show chk ⟨kind, num, text, nums, texts⟩ = (if 40 < nums.length ∨ 40 < texts.length then 45
          else if 1000 < text.size ∨ longAny texts = true then 44
          else if kind < 4 then numErr kind num else numsErr (kind - 4) nums) from by
        unfold chk; rw [if_neg hrange, if_neg (by rw [hfb, hff]; simp)]; rfl)
      clear hu hfb hf hff
      have HR := Lib.hid h
      have HL1 := Lib.hid hl1
      have HL2 := Lib.hid hl2
      by_cases hlist : 40 < nums.length ∨ 40 < texts.length
      · have HC1 := Lib.hid (HC.out.trans (if_pos hlist))
        rw [hl1, hl2] at hlist
        clear h hl1 hl2
        rcases hlist with h40 | h40
        · go_enter Tryz.func81, Tryz.ntmps81
          go_wp2_with fail
          refine HU.out.mono ?_
          rintro e w1 ⟨rfl, hs⟩
          have hb := (Blk.new w 43 #[.int .i64 kind, .int .i64 num, .string text, .slice A1 n1 c1, .slice A2 n2 c2]).same hs
          have c3 : w1.cell? ⟨w.heap.size, 3, none⟩ = some (.slice A1 n1 c1) := hb.cell 3
          go_wp2
          go_ret
          exact ⟨ret_int HC1.out.symm, ((Upd.refl _ w).alloc _).same hs⟩
        · by_cases h41 : 40 < n1
          · go_enter Tryz.func81, Tryz.ntmps81
            go_wp2_with fail
            refine HU.out.mono ?_
            rintro e w1 ⟨rfl, hs⟩
            have hb := (Blk.new w 43 #[.int .i64 kind, .int .i64 num, .string text, .slice A1 n1 c1, .slice A2 n2 c2]).same hs
            have c3 : w1.cell? ⟨w.heap.size, 3, none⟩ = some (.slice A1 n1 c1) := hb.cell 3
            go_wp2
            go_ret
            exact ⟨ret_int HC1.out.symm, ((Upd.refl _ w).alloc _).same hs⟩
          · go_enter Tryz.func81, Tryz.ntmps81
            go_wp2_with fail
            refine HU.out.mono ?_
            rintro e w1 ⟨rfl, hs⟩
            have hb := (Blk.new w 43 #[.int .i64 kind, .int .i64 num, .string text, .slice A1 n1 c1, .slice A2 n2 c2]).same hs
            have c3 : w1.cell? ⟨w.heap.size, 3, none⟩ = some (.slice A1 n1 c1) := hb.cell 3
            have c4 : w1.cell? ⟨w.heap.size, 4, none⟩ = some (.slice A2 n2 c2) := hb.cell 4
            go_wp2
            go_ret
            exact ⟨ret_int HC1.out.symm, ((Upd.refl _ w).alloc _).same hs⟩
      · have HC1 := Lib.hid (HC.out.trans (if_neg hlist))
        rw [hl1, hl2] at hlist
        have h40 : n1 ≤ 40 := by omega
        have h41 : n2 ≤ 40 := by omega
        clear h hl1 hl2 hlist
        by_cases htext : 1000 < text.size
        · have HC2 := Lib.hid (HC1.out.trans (if_pos (.inl htext)))
          go_enter Tryz.func81, Tryz.ntmps81
          go_wp2_with fail
          refine HU.out.mono ?_
          rintro e w1 ⟨rfl, hs⟩
          have hb := (Blk.new w 43 #[.int .i64 kind, .int .i64 num, .string text, .slice A1 n1 c1, .slice A2 n2 c2]).same hs
          have c2' : w1.cell? ⟨w.heap.size, 2, none⟩ = some (.string text) := hb.cell 2
          have c3 : w1.cell? ⟨w.heap.size, 3, none⟩ = some (.slice A1 n1 c1) := hb.cell 3
          have c4 : w1.cell? ⟨w.heap.size, 4, none⟩ = some (.slice A2 n2 c2) := hb.cell 4
          go_wp2
          go_ret
          exact ⟨ret_int HC2.out.symm, ((Upd.refl _ w).alloc _).same hs⟩
        · have HT := Lib.hid (show (1000 < text.size ∨ longAny texts = true) ↔ longAny texts = true from ⟨fun h => h.resolve_left htext, .inr⟩)
          go_enter Tryz.func81, Tryz.ntmps81
          go_wp2_with fail
          refine HU.out.mono ?_
          rintro e w1 ⟨rfl, hs⟩
          have hb := (Blk.new w 43 #[.int .i64 kind, .int .i64 num, .string text, .slice A1 n1 c1, .slice A2 n2 c2]).same hs
          have hsame := ((Upd.refl (fun _ => False) w).alloc (.cells #[.int .i64 kind, .int .i64 num, .string text, .slice A1 n1 c1, .slice A2 n2 c2] 43)).same hs
          have c0 : w1.cell? ⟨w.heap.size, 0, none⟩ = some (.int .i64 kind) := hb.cell 0
          have c1' : w1.cell? ⟨w.heap.size, 1, none⟩ = some (.int .i64 num) := hb.cell 1
          have c2' : w1.cell? ⟨w.heap.size, 2, none⟩ = some (.string text) := hb.cell 2
          have c3 : w1.cell? ⟨w.heap.size, 3, none⟩ = some (.slice A1 n1 c1) := hb.cell 3
          have c4 : w1.cell? ⟨w.heap.size, 4, none⟩ = some (.slice A2 n2 c2) := hb.cell 4
          clear hb
          generalize hB : w.heap.size = B at c0 c1' c2' c3 c4
          clear hB hs
          go_wp2_with fail
          by_cases hlong : longAny texts = true
          · refine (containsLong_spec _ (HR.out.texts.same hsame) hts hlong).mono ?_
            rintro e w2 ⟨rfl, rfl⟩
            have HG := Lib.hid hlong
            clear hlong
            go_wp2
            go_ret
            refine ⟨ret_int ?_, hsame⟩
            exact (HC1.out.trans (if_pos (.inr HG.out))).symm
          · refine (containsLong_spec _ (HR.out.texts.same hsame) hts (r := false) (by simpa using hlong)).mono ?_
            rintro e w2 ⟨rfl, rfl⟩
            have HG := Lib.hid (fun hh => hlong (HT.out.1 hh))
            clear hlong
            by_cases h4 : kind < 4
            · go_wp2_with fail
              refine (checkNum_spec _ _ _ (by omega) (by omega)).mono ?_
              rintro e w3 ⟨rfl, rfl⟩
              go_wp2
              go_ret
              refine ⟨ret_int ?_, hsame⟩
              rw [HC1.out, if_neg HG.out, if_pos h4]
              rw [show baseK kind = kind from by unfold baseK; rw [if_neg (by omega)]]
            · go_wp2
              go_loop [51] (fun i => ∃ k : Nat, k ≤ n1 ∧ i = .int .i64 k ∧ Hid (numsErr (kind - 4) (nums.take k) = 0)) (fun i => n1 - (intOf i).toNat)
              case atStart => exact ⟨0, Nat.zero_le _, rfl, Lib.hid rfl⟩
              case round =>
                obtain ⟨k, hk, rfl, hno⟩ := hrel
                have HK := Lib.hid (show numsErr (kind - 4) nums = chk ⟨kind, num, text, nums, texts⟩ from by
                  rw [HC1.out, if_neg HG.out, if_neg (by omega)])
                by_cases hlt : k < n1
                · have hrow := HR.out.nums.same hsame
                  obtain ⟨b, o, u, rfl, hbl, _, hu, hc⟩ := hrow.at_ hlt
                  have hkl : k < nums.length := by rw [HL1.out]; exact hlt
                  simp only [List.getElem?_map, List.getElem?_eq_getElem hkl, Option.map_some, Option.some.injEq] at hu
                  subst hu
                  have HN := Lib.hid (numsErr_take (kind - 4) nums k hkl hno.out)
                  have HS := Lib.hid (numsErr_stop (kind - 4) nums (k + 1))
                  clear hrow
                  generalize nums[k] = x at *
                  by_cases hz : numErr (kind - 4) x = 0
                  · go_wp2_with fail
                    refine (checkNum_spec _ _ _ (by omega) (by omega)).mono ?_
                    rintro e w3 ⟨rfl, rfl⟩
                    have hz' : numErr (baseK kind) x = 0 := by rw [numErr_base x (by omega)]; exact hz
                    have HZ := Lib.hid hz
                    clear hz
                    go_wp2
                    go_round
                    case rel => exact ⟨k + 1, by omega, by go_num, Lib.hid (HN.out.trans HZ.out)⟩
                    case measure => simp [intOf]; omega
                  · go_wp2_with fail
                    refine (checkNum_spec _ _ _ (by omega) (by omega)).mono ?_
                    rintro e w3 ⟨rfl, rfl⟩
                    have hb' := numErr_base x (show 4 ≤ kind by omega)
                    have hz' : (numErr (baseK kind) x != 0) = true := by rw [hb']; simpa using hz
                    have HZ := Lib.hid hz
                    have HB := Lib.hid hb'
                    clear hz hb'
                    go_wp2
                    go_ret
                    refine ⟨ret_int ?_, hsame⟩
                    rw [← HK.out, HB.out, HS.out (by rw [HN.out]; exact HZ.out), HN.out]
                · obtain rfl : k = n1 := by omega
                  go_wp2
                  go_ret
                  refine ⟨ret_int ?_, hsame⟩
                  rw [← HK.out, ← hno.out, List.take_of_length_le (by rw [HL1.out]; exact Nat.le_refl _)]
end Go.Proofs.YtlnademnfnhbpaaGreat
namespace Go.Proofs.YtlnademnfnhbpaaGreat
open Go.RowKit

theorem take_eq_succ {α : Type} {l m : List α} {k : Nat} (h1 : k < l.length) (h2 : k < m.length) (h : l.take k = m.take k) (he : l[k] = m[k]) : l.take (k + 1) = m.take (k + 1) := by
  rw [List.take_succ_eq_append_getElem h1, List.take_succ_eq_append_getElem h2, h, he]
theorem ne_of_at {α : Type} {l m : List α} {k : Nat} (h1 : k < l.length) (h2 : k < m.length) (he : l[k] ≠ m[k]) : l ≠ m := by
  rintro rfl
  exact he rfl

theorem str_eq_iff (s t : ByteArray) : s.toList = t.toList ↔ s = t := by
  rw [ByteArray.toList_eq, ByteArray.toList_eq]
  constructor
  · intro h
    cases s; cases t
    congr 1
    exact Array.toList_inj.1 h
  · rintro rfl; rfl

instance : DecidableEq ByteArray := fun a b => decidable_of_iff _ (str_eq_iff a b)

theorem same_drewN (w : World) (n : Nat) : Same w (w.drewN n) := (Upd.refl _ w).drewN n

set_option maxHeartbeats 1000000 in
theorem equalInt_spec {F F' : Nat → Prop} {A A' : Option Addr} {n c n' c' : Nat} {xs ys : List Int} (w : World) (h : WRow w F 1 A n c (xs.map (Value.int .i64))) (h' : WRow w F' 1 A' n' c' (ys.map (Value.int .i64))) {r : Bool} (hr : decide (xs = ys) = r) :
    Calls Tryz.prog 128 #[.slice A n c, .slice A' n' c'] w fun e w' => e = .returned (.bool r) ∧ Same w w' := by
  subst hr
  have HL := Lib.hid (show xs.length = n from by simpa using h.len)
  have HL' := Lib.hid (show ys.length = n' from by simpa using h'.len)
  have hmx := h.max
  have hle := h.le
  have hmx' := h'.max
  have hle' := h'.le
  unfold maxLen at hmx hmx'
  have hn : n ≤ 9223372036854775807 := by omega
  have hn' : n' ≤ 9223372036854775807 := by omega
  clear hmx hle hmx' hle'
  by_cases hne : n = n'
  · subst hne
    go_enter Tryz.func128, Tryz.ntmps128
    go_wp2
    go_loopw [13] (fun i wr => ∃ k d : Nat, k ≤ n ∧ i = .int .i64 k ∧ wr = w.drewN d ∧ xs.take k = ys.take k) (fun i _ => n - (intOf i).toNat)
    case atStart => exact ⟨0, 0, Nat.zero_le _, rfl, rfl, rfl⟩
    case round =>
      obtain ⟨k, d, hk, rfl, rfl, hpre⟩ := hrel
      have HP := Lib.hid hpre
      clear hpre
      by_cases hlt : k < n
      · obtain ⟨b, o, u, rfl, hbl, _, hu, hc⟩ := h.at_ hlt
        obtain ⟨b', o', u', rfl, hbl', _, hu', hc'⟩ := h'.at_ hlt
        have hkl : k < xs.length := by rw [HL.out]; exact hlt
        have hkl' : k < ys.length := by rw [HL'.out]; exact hlt
        simp only [List.getElem?_map, List.getElem?_eq_getElem hkl, List.getElem?_eq_getElem hkl', Option.map_some, Option.some.injEq] at hu hu'
        subst hu
        subst hu'
        have HT := Lib.hid (take_eq_succ hkl hkl' HP.out)
        have HN := Lib.hid (ne_of_at hkl hkl')
        generalize xs[k] = x at *
        generalize ys[k] = y at *
        by_cases hxy : x = y
        · subst hxy
          go_wp2_with fail
          go_quiet (fail)
          go_wp2
          go_roundw
          case rel => exact ⟨k + 1, _, by omega, by go_num, rfl, HT.out (by first | rfl | trivial)⟩
          case measure => simp [intOf]; omega
        · have hxy' : (x != y) = true := by simpa using hxy
          go_wp2_with fail
          go_quiet (fail)
          go_wp2
          go_ret
          refine ⟨ret_bool ?_, (same_drewN w d).drewN _⟩
          rw [decide_eq_false (HN.out hxy)]
      · obtain rfl : k = n := by omega
        go_wp2
        go_ret
        refine ⟨ret_bool ?_, same_drewN w d⟩
        have hall := HP.out
        rw [List.take_of_length_le (by rw [HL.out]; exact Nat.le_refl _), List.take_of_length_le (by rw [HL'.out]; exact Nat.le_refl _)] at hall
        rw [decide_eq_true hall]
  · have hne' : ((n : Int) != (n' : Int)) = true := by rw [bne_iff_ne]; omega
    go_enter Tryz.func128, Tryz.ntmps128
    go_wp2
    go_ret
    refine ⟨ret_bool ?_, Upd.refl _ _⟩
    rw [decide_eq_false (by
      rintro rfl
      exact hne (HL.out.symm.trans HL'.out))]
set_option maxHeartbeats 1000000 in
theorem equalStr_spec {F F' : Nat → Prop} {A A' : Option Addr} {n c n' c' : Nat} {xs ys : List ByteArray} (w : World) (h : WRow w F 1 A n c (xs.map Value.string)) (h' : WRow w F' 1 A' n' c' (ys.map Value.string)) {r : Bool} (hr : decide (xs = ys) = r) :
    Calls Tryz.prog 75 #[.slice A n c, .slice A' n' c'] w fun e w' => e = .returned (.bool r) ∧ Same w w' := by
  subst hr
  have HL := Lib.hid (show xs.length = n from by simpa using h.len)
  have HL' := Lib.hid (show ys.length = n' from by simpa using h'.len)
  have hmx := h.max
  have hle := h.le
  have hmx' := h'.max
  have hle' := h'.le
  unfold maxLen at hmx hmx'
  have hn : n ≤ 9223372036854775807 := by omega
  have hn' : n' ≤ 9223372036854775807 := by omega
  clear hmx hle hmx' hle'
  by_cases hne : n = n'
  · subst hne
    go_enter Tryz.func75, Tryz.ntmps75
    go_wp2
    go_loopw [13] (fun i wr => ∃ k d : Nat, k ≤ n ∧ i = .int .i64 k ∧ wr = w.drewN d ∧ xs.take k = ys.take k) (fun i _ => n - (intOf i).toNat)
    case atStart => exact ⟨0, 0, Nat.zero_le _, rfl, rfl, rfl⟩
    case round =>
      obtain ⟨k, d, hk, rfl, rfl, hpre⟩ := hrel
      have HP := Lib.hid hpre
      clear hpre
      by_cases hlt : k < n
      · obtain ⟨b, o, u, rfl, hbl, _, hu, hc⟩ := h.at_ hlt
        obtain ⟨b', o', u', rfl, hbl', _, hu', hc'⟩ := h'.at_ hlt
        have hkl : k < xs.length := by rw [HL.out]; exact hlt
        have hkl' : k < ys.length := by rw [HL'.out]; exact hlt
        simp only [List.getElem?_map, List.getElem?_eq_getElem hkl, List.getElem?_eq_getElem hkl', Option.map_some, Option.some.injEq] at hu hu'
        subst hu
        subst hu'
        have HT := Lib.hid (take_eq_succ hkl hkl' HP.out)
        have HN := Lib.hid (ne_of_at hkl hkl')
        generalize xs[k] = x at *
        generalize ys[k] = y at *
        by_cases hxy : x = y
        · subst hxy
          go_wp2_with fail
          go_quiet (fail)
          go_wp2
          go_roundw
          case rel => exact ⟨k + 1, _, by omega, by go_num, rfl, HT.out (by first | rfl | trivial)⟩
          case measure => simp [intOf]; omega
        · have hxy' : (x.toList == y.toList) = false := by rw [beq_eq_false_iff_ne]; exact fun hh => hxy ((str_eq_iff x y).1 hh)
          go_wp2_with fail
          go_quiet (fail)
          go_wp2
          go_ret
          refine ⟨ret_bool ?_, (same_drewN w d).drewN _⟩
          rw [decide_eq_false (HN.out hxy)]
      · obtain rfl : k = n := by omega
        go_wp2
        go_ret
        refine ⟨ret_bool ?_, same_drewN w d⟩
        have hall := HP.out
        rw [List.take_of_length_le (by rw [HL.out]; exact Nat.le_refl _), List.take_of_length_le (by rw [HL'.out]; exact Nat.le_refl _)] at hall
        rw [decide_eq_true hall]
  · have hne' : ((n : Int) != (n' : Int)) = true := by rw [bne_iff_ne]; omega
    go_enter Tryz.func75, Tryz.ntmps75
    go_wp2
    go_ret
    refine ⟨ret_bool ?_, Upd.refl _ _⟩
    rw [decide_eq_false (by
      rintro rfl
      exact hne (HL.out.symm.trans HL'.out))]
/-- Two values are one. -/
def sameB (g h : GVal) : Bool := g.kind == h.kind && (g.num == h.num && (g.text.toList == h.text.toList && (decide (g.nums = h.nums) && decide (g.texts = h.texts))))

theorem sameB_iff (g h : GVal) : sameB g h = true ↔ g = h := by
  unfold sameB
  simp only [Bool.and_eq_true, beq_iff_eq, decide_eq_true_eq, str_eq_iff]
  cases g; cases h
  simp

set_option maxHeartbeats 2000000 in
theorem vsame_spec {F F' : Nat → Prop} {A1 A2 B1 B2 : Option Addr} {n1 c1 n2 c2 m1 d1 m2 d2 : Nat} {g h : GVal} (w : World) (hg : RdVal w F A1 n1 c1 A2 n2 c2 g) (hh : RdVal w F' B1 m1 d1 B2 m2 d2 h) :
    Calls Tryz.prog 104 #[g.val A1 n1 c1 A2 n2 c2, h.val B1 m1 d1 B2 m2 d2] w fun e w' => e = .returned (.bool (sameB g h)) ∧ Same w w' := by
  obtain ⟨kind, num, text, nums, texts⟩ := g
  obtain ⟨kind', num', text', nums', texts'⟩ := h
  simp only [GVal.val]
  have H1 := Lib.hid hg
  have H2 := Lib.hid hh
  clear hg hh
  by_cases hk : kind = kind'
  · by_cases hn : num = num'
    · by_cases ht : (text.toList == text'.toList) = true
      · have HB := Lib.hid (show sameB ⟨kind, num, text, nums, texts⟩ ⟨kind', num', text', nums', texts'⟩ = (decide (nums = nums') && decide (texts = texts')) from by
          simp [sameB, hk, hn, ht])
        subst hk
        subst hn
        go_enter Tryz.func104, Tryz.ntmps104
        go_wp2_with fail
        have hs0 := ((Upd.refl (fun _ => False) w).alloc (.cells #[.int .i64 kind, .int .i64 num, .string text, .slice A1 n1 c1, .slice A2 n2 c2] 43)).alloc (.cells #[.int .i64 kind, .int .i64 num, .string text', .slice B1 m1 d1, .slice B2 m2 d2] 43)
        have hb0 : Blk _ w.heap.size _ _ := (Blk.new w 43 #[.int .i64 kind, .int .i64 num, .string text, .slice A1 n1 c1, .slice A2 n2 c2]).alloc (.cells #[.int .i64 kind, .int .i64 num, .string text', .slice B1 m1 d1, .slice B2 m2 d2] 43)
        have hb1 := Blk.new (w.alloc (.cells #[.int .i64 kind, .int .i64 num, .string text, .slice A1 n1 c1, .slice A2 n2 c2] 43)) 43 #[.int .i64 kind, .int .i64 num, .string text', .slice B1 m1 d1, .slice B2 m2 d2]
        rw [World.size_alloc] at hb1
        by_cases hx : nums = nums'
        · refine (equalInt_spec _ (H1.out.nums.same hs0) (H2.out.nums.same hs0) (r := true) (by simpa using hx)).mono ?_
          rintro e w1 ⟨rfl, hs1⟩
          have hc0 : w1.cell? ⟨w.heap.size, 4, none⟩ = some (.slice A2 n2 c2) := (hb0.same hs1).cell 4
          have hc1 : w1.cell? ⟨w.heap.size + 1, 4, none⟩ = some (.slice B2 m2 d2) := (hb1.same hs1).cell 4
          have hs2 := hs0.same hs1
          clear hs0 hs1 hb0 hb1
          go_wp2_with fail
          refine (equalStr_spec _ (H1.out.texts.same hs2) (H2.out.texts.same hs2) rfl).mono ?_
          rintro e w2 ⟨rfl, hs3⟩
          go_wp2
          go_ret
          exact ⟨ret_bool (by rw [HB.out]; simp [hx]), hs2.same hs3⟩
        · refine (equalInt_spec _ (H1.out.nums.same hs0) (H2.out.nums.same hs0) (r := false) (by simpa using hx)).mono ?_
          rintro e w1 ⟨rfl, hs1⟩
          have hs2 := hs0.same hs1
          clear hs0 hs1 hb0 hb1
          go_wp2
          go_ret
          exact ⟨ret_bool (by rw [HB.out]; simp [hx]), hs2⟩
      · have ht' : (text.toList == text'.toList) = false := by simpa using ht
        have HB := Lib.hid (show sameB ⟨kind, num, text, nums, texts⟩ ⟨kind', num', text', nums', texts'⟩ = false from by
          simp only [sameB, ht', Bool.false_and, Bool.and_false])
        subst hk
        subst hn
        go_enter Tryz.func104, Tryz.ntmps104
        go_wp2
        go_ret
        exact ⟨ret_bool HB.out.symm, ((Upd.refl _ w).alloc _).alloc _⟩
    · have hn' : (num == num') = false := by simpa using hn
      have HB := Lib.hid (show sameB ⟨kind, num, text, nums, texts⟩ ⟨kind', num', text', nums', texts'⟩ = false from by
        simp only [sameB, hn', Bool.false_and, Bool.and_false])
      subst hk
      go_enter Tryz.func104, Tryz.ntmps104
      go_wp2
      go_ret
      exact ⟨ret_bool HB.out.symm, ((Upd.refl _ w).alloc _).alloc _⟩
  · have hk' : (kind == kind') = false := by simpa using hk
    have HB := Lib.hid (show sameB ⟨kind, num, text, nums, texts⟩ ⟨kind', num', text', nums', texts'⟩ = false from by
      simp only [sameB, hk', Bool.false_and])
    go_enter Tryz.func104, Tryz.ntmps104
    go_wp2
    go_ret
    exact ⟨ret_bool HB.out.symm, ((Upd.refl _ w).alloc _).alloc _⟩
theorem not_beq_of {α : Type} [BEq α] {a b : α} (h : (a == b) = true) : (!(a == b)) = false := by rw [h]; rfl

set_option maxHeartbeats 4000000 in
theorem rsame_spec {F F' : Nat → Prop} {A1 A2 B1 B2 : Option Addr} {n1 c1 n2 c2 m1 d1 m2 d2 : Nat} {g h : GVal} (w : World) (hg : RdVal w F A1 n1 c1 A2 n2 c2 g) (hh : RdVal w F' B1 m1 d1 B2 m2 d2 h) :
    Calls Tryz.prog 64 #[g.val A1 n1 c1 A2 n2 c2, h.val B1 m1 d1 B2 m2 d2] w fun e w' => e = .returned (.bool (sameB g h)) ∧ Same w w' := by
  obtain ⟨kind, num, text, nums, texts⟩ := g
  obtain ⟨kind', num', text', nums', texts'⟩ := h
  simp only [GVal.val]
  have H1 := Lib.hid hg
  have H2 := Lib.hid hh
  have HL1 := Lib.hid (show nums.length = n1 from hg.len1)
  have HL2 := Lib.hid (show texts.length = n2 from hg.len2)
  have HM1 := Lib.hid (show nums'.length = m1 from hh.len1)
  have HM2 := Lib.hid (show texts'.length = m2 from hh.len2)
  have hn1 : n1 ≤ 9223372036854775807 := by have := hg.nums.le; have := hg.nums.max; unfold maxLen at this; omega
  have hn2 : n2 ≤ 9223372036854775807 := by have := hg.texts.le; have := hg.texts.max; unfold maxLen at this; omega
  have hm1 : m1 ≤ 9223372036854775807 := by have := hh.nums.le; have := hh.nums.max; unfold maxLen at this; omega
  have hm2 : m2 ≤ 9223372036854775807 := by have := hh.texts.le; have := hh.texts.max; unfold maxLen at this; omega
  clear hg hh
  by_cases hk : kind = kind'
  case neg =>
    have hk' : (kind != kind') = true := by simpa using hk
    have HB := Lib.hid (show sameB ⟨kind, num, text, nums, texts⟩ ⟨kind', num', text', nums', texts'⟩ = false from by
      have : (kind == kind') = false := by simpa using hk
      simp only [sameB, this, Bool.false_and])
    go_enter Tryz.func64, Tryz.ntmps64
    go_wp2
    go_ret
    exact ⟨ret_bool HB.out.symm, ((Upd.refl _ w).alloc _).alloc _⟩
  subst hk
  by_cases hn : num = num'
  case neg =>
    have hn' : (num != num') = true := by simpa using hn
    have HB := Lib.hid (show sameB ⟨kind, num, text, nums, texts⟩ ⟨kind, num', text', nums', texts'⟩ = false from by
      have : (num == num') = false := by simpa using hn
      simp only [sameB, this, Bool.false_and, Bool.and_false])
    go_enter Tryz.func64, Tryz.ntmps64
    go_wp2
    go_ret
    exact ⟨ret_bool HB.out.symm, ((Upd.refl _ w).alloc _).alloc _⟩
  subst hn
  by_cases ht : (text.toList == text'.toList) = true
  case neg =>
    have ht' : (text.toList == text'.toList) = false := by simpa using ht
    have HB := Lib.hid (show sameB ⟨kind, num, text, nums, texts⟩ ⟨kind, num, text', nums', texts'⟩ = false from by
      simp only [sameB, ht', Bool.false_and, Bool.and_false])
    go_enter Tryz.func64, Tryz.ntmps64
    go_wp2
    go_ret
    exact ⟨ret_bool HB.out.symm, ((Upd.refl _ w).alloc _).alloc _⟩
  have HB := Lib.hid (show sameB ⟨kind, num, text, nums, texts⟩ ⟨kind, num, text', nums', texts'⟩ = (decide (nums = nums') && decide (texts = texts')) from by
    simp [sameB, ht])
  by_cases hl1 : n1 = m1
  case neg =>
    have hl1' : ((n1 : Int) != (m1 : Int)) = true := by rw [bne_iff_ne]; omega
    have hne : nums ≠ nums' := by
      rintro rfl
      exact hl1 (HL1.out.symm.trans HM1.out)
    go_enter Tryz.func64, Tryz.ntmps64
    go_wp2
    go_ret
    exact ⟨ret_bool (by rw [HB.out, decide_eq_false hne]; rfl), ((Upd.refl _ w).alloc _).alloc _⟩
  subst hl1
  by_cases hl2 : n2 = m2
  case neg =>
    have hl2' : ((n2 : Int) != (m2 : Int)) = true := by rw [bne_iff_ne]; omega
    have hne : texts ≠ texts' := by
      rintro rfl
      exact hl2 (HL2.out.symm.trans HM2.out)
    go_enter Tryz.func64, Tryz.ntmps64
    go_wp2
    go_ret
    exact ⟨ret_bool (by rw [HB.out, decide_eq_false hne, Bool.and_false]), ((Upd.refl _ w).alloc _).alloc _⟩
  subst hl2
  go_enter Tryz.func64, Tryz.ntmps64
  go_wp2
  have hs0 := ((Upd.refl (fun _ => False) w).alloc (.cells #[.int .i64 kind, .int .i64 num, .string text, .slice A1 n1 c1, .slice A2 n2 c2] 43)).alloc (.cells #[.int .i64 kind, .int .i64 num, .string text', .slice B1 n1 d1, .slice B2 n2 d2] 43)
  have hb0 : Blk _ w.heap.size _ _ := (Blk.new w 43 #[.int .i64 kind, .int .i64 num, .string text, .slice A1 n1 c1, .slice A2 n2 c2]).alloc (.cells #[.int .i64 kind, .int .i64 num, .string text', .slice B1 n1 d1, .slice B2 n2 d2] 43)
  have hb1 := Blk.new (w.alloc (.cells #[.int .i64 kind, .int .i64 num, .string text, .slice A1 n1 c1, .slice A2 n2 c2] 43)) 43 #[.int .i64 kind, .int .i64 num, .string text', .slice B1 n1 d1, .slice B2 n2 d2]
  rw [World.size_alloc] at hb1
  have hc3 := hb0.cell 3
  have hc4 := hb0.cell 4
  have hd3 := hb1.cell 3
  have hd4 := hb1.cell 4
  simp only [List.getElem?_toArray, List.getElem?_cons_succ, List.getElem?_cons_zero] at hc3 hc4 hd3 hd4
  clear hb0 hb1
  revert hs0 hc3 hc4 hd3 hd4
  generalize (w.alloc (.cells #[.int .i64 kind, .int .i64 num, .string text, .slice A1 n1 c1, .slice A2 n2 c2] 43)).alloc (.cells #[.int .i64 kind, .int .i64 num, .string text', .slice B1 n1 d1, .slice B2 n2 d2] 43) = W
  intro hs0 hc3 hc4 hd3 hd4
  have HW1 := Lib.hid (H1.out.same hs0)
  have HW2 := Lib.hid (H2.out.same hs0)
  have HS := Lib.hid hs0
  clear hs0
  go_loopw [5] (fun i wr => ∃ k d : Nat, k ≤ n1 ∧ i = .int .i64 k ∧ wr = W.drewN d ∧ Hid (nums.take k = nums'.take k)) (fun i _ => n1 - (intOf i).toNat)
  case atStart => exact ⟨0, 0, Nat.zero_le _, rfl, rfl, Lib.hid rfl⟩
  case round =>
    obtain ⟨k, d, hk, rfl, rfl, HP⟩ := hrel
    by_cases hlt : k < n1
    · obtain ⟨b, o, u, rfl, hbl, _, hu, hc⟩ := HW1.out.nums.at_ hlt
      obtain ⟨b', o', u', rfl, hbl', _, hu', hc'⟩ := HW2.out.nums.at_ hlt
      have hkl : k < nums.length := by rw [HL1.out]; exact hlt
      have hkl' : k < nums'.length := by rw [HM1.out]; exact hlt
      simp only [List.getElem?_map, List.getElem?_eq_getElem hkl, List.getElem?_eq_getElem hkl', Option.map_some, Option.some.injEq] at hu hu'
      subst hu
      subst hu'
      have HT := Lib.hid (take_eq_succ hkl hkl' HP.out)
      have HN := Lib.hid (ne_of_at hkl hkl')
      generalize nums[k] = x at *
      generalize nums'[k] = y at *
      by_cases hxy : x = y
      · subst hxy
        go_wp2_with fail
        go_quiet (fail)
        go_wp2
        go_roundw
        case rel => exact ⟨k + 1, _, by omega, by go_num, rfl, Lib.hid (HT.out (by first | rfl | trivial))⟩
        case measure => simp [intOf]; omega
      · have hxy' : (x != y) = true := by simpa using hxy
        go_wp2_with fail
        go_quiet (fail)
        go_wp2
        go_ret
        refine ⟨ret_bool ?_, (HS.out.drewN _).drewN _⟩
        rw [HB.out, decide_eq_false (HN.out hxy)]
        rfl
    · obtain rfl : k = n1 := by omega
      have HE := Lib.hid (show nums = nums' from by
        have hall := HP.out
        rwa [List.take_of_length_le (by rw [HL1.out]; exact Nat.le_refl _), List.take_of_length_le (by rw [HM1.out]; exact Nat.le_refl _)] at hall)
      go_wp2
      go_loopw [6] (fun i wr => ∃ k d : Nat, k ≤ n2 ∧ i = .int .i64 k ∧ wr = W.drewN d ∧ Hid (texts.take k = texts'.take k)) (fun i _ => n2 - (intOf i).toNat)
      case atStart => exact ⟨0, d, Nat.zero_le _, rfl, rfl, Lib.hid rfl⟩
      case round =>
        obtain ⟨k2, d2, hk2, rfl, rfl, HP2⟩ := hrel
        by_cases hlt : k2 < n2
        · obtain ⟨b, o, u, rfl, hbl, _, hu, hc⟩ := HW1.out.texts.at_ hlt
          obtain ⟨b', o', u', rfl, hbl', _, hu', hc'⟩ := HW2.out.texts.at_ hlt
          have hkl : k2 < texts.length := by rw [HL2.out]; exact hlt
          have hkl' : k2 < texts'.length := by rw [HM2.out]; exact hlt
          simp only [List.getElem?_map, List.getElem?_eq_getElem hkl, List.getElem?_eq_getElem hkl', Option.map_some, Option.some.injEq] at hu hu'
          subst hu
          subst hu'
          have HT := Lib.hid (take_eq_succ hkl hkl' HP2.out)
          have HN := Lib.hid (ne_of_at hkl hkl')
          generalize texts[k2] = x at *
          generalize texts'[k2] = y at *
          by_cases hxy : x = y
          · subst hxy
            go_wp2_with fail
            go_quiet (fail)
            go_wp2
            go_roundw
            case rel => exact ⟨k2 + 1, _, by omega, by go_num, rfl, Lib.hid (HT.out (by first | rfl | trivial))⟩
            case measure => simp [intOf]; omega
          · have hxy' : (x.toList == y.toList) = false := by rw [beq_eq_false_iff_ne]; exact fun hh => hxy ((str_eq_iff x y).1 hh)
            go_wp2_with fail
            go_quiet (fail)
            go_wp2
            go_ret
            refine ⟨ret_bool ?_, (HS.out.drewN _).drewN _⟩
            rw [HB.out, decide_eq_false (HN.out hxy), Bool.and_false]
        · obtain rfl : k2 = n2 := by omega
          have HE2 := Lib.hid (show texts = texts' from by
            have hall := HP2.out
            rwa [List.take_of_length_le (by rw [HL2.out]; exact Nat.le_refl _), List.take_of_length_le (by rw [HM2.out]; exact Nat.le_refl _)] at hall)
          go_wp2
          go_ret
          refine ⟨ret_bool ?_, HS.out.drewN _⟩
          rw [HB.out, decide_eq_true HE.out, decide_eq_true HE2.out]
          rfl
end Go.Proofs.YtlnademnfnhbpaaGreat
