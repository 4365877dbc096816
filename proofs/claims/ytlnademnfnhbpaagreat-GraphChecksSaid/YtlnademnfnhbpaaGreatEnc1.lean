/- Package value: the encoder. -/
import Derived.Test.YtlnademnfnhbpaaGreatWire3
import Derived.Test.YtlnademnfnhbpaaGreatVal2
namespace Go.Proofs.YtlnademnfnhbpaaGreat
open Go.RowKit

theorem ret_tuple0 : Ending.returned (.tuple #[]) = .returned (.tuple #[]) := rfl

theorem encNum_len (k n : Int) : (encNum k n).length ≤ 8 := by unfold encNum; split <;> simp [beb_len]

set_option maxHeartbeats 400000 in
theorem putNum_spec {w : World} {B r : Nat} {bs : List UInt8} (h : Wtr w B r bs) (kind n : Int) (hk0 : 1 ≤ kind) (hk : kind ≤ 8) (hl : bs.length + 8 ≤ 140737488355328) :
    Calls Tryz.prog 112 #[.pointer (some ⟨r, 0, none⟩), .int .i64 kind, .int .i64 n] w fun e w' => e = .returned (.tuple #[]) ∧ Wtr w' B r (bs ++ encNum (baseK kind) n) ∧ Upd (fun b => B ≤ b) w w' := by
  have hb := base_spec kind
  have hU := wrapU n
  have HE := Lib.hid (show encNum (baseK kind) n = if baseK kind = 1 then beb 1 (u64 n) else beb 8 (u64 n) from rfl)
  generalize encNum (baseK kind) n = E at HE ⊢
  generalize baseK kind = K at hb HE
  have HB := Lib.hid hb
  have HW := Lib.hid h
  have HU := Lib.hid hU
  clear hb h hU
  by_cases hK : K = 1
  · subst hK
    have HF := Lib.hid (HE.out.trans (if_pos rfl))
    go_enter Tryz.func112, Tryz.ntmps112
    go_wp2_with fail
    refine (HB.out _ (by omega) (by omega)).mono ?_
    rintro e w' ⟨rfl, rfl⟩
    go_wp2_with fail
    rw [HU.out]
    refine (wnum_spec HW.out _ _ rfl (by omega) hl).mono ?_
    rintro e w' ⟨rfl, hw, hu⟩
    go_wp2
    refine bodyPost_ret (results_none rfl _ _ _) rfl ⟨rfl, ?_, hu⟩
    rw [HF.out]; exact hw
  · have hK' : (K == 1) = false := by simpa using hK
    have HF := Lib.hid (HE.out.trans (if_neg hK))
    clear hK
    go_enter Tryz.func112, Tryz.ntmps112
    go_wp2_with fail
    refine (HB.out _ (by omega) (by omega)).mono ?_
    rintro e w' ⟨rfl, rfl⟩
    go_wp2_with fail
    rw [HU.out]
    refine (wnum_spec HW.out _ _ rfl (by omega) hl).mono ?_
    rintro e w' ⟨rfl, hw, hu⟩
    go_wp2
    go_end0
    refine ⟨rfl, ?_, hu⟩
    rw [HF.out]; exact hw

set_option maxHeartbeats 400000 in
theorem putText_spec {w : World} {B r : Nat} {bs : List UInt8} (h : Wtr w B r bs) (s : ByteArray) (hs : s.size ≤ 70368744177664) (hl : bs.length + 8 ≤ 70368744177664) :
    Calls Tryz.prog 113 #[.pointer (some ⟨r, 0, none⟩), .string s] w fun e w' => e = .returned (.tuple #[]) ∧ Wtr w' B r (bs ++ encText s) ∧ Upd (fun b => B ≤ b) w w' := by
  have HW := Lib.hid h
  clear h
  go_enter Tryz.func113, Tryz.ntmps113
  go_wp2_with fail
  refine (wnum_spec HW.out _ _ rfl ?_ ?_).mono ?_
  · omega
  · omega
  rintro e w1 ⟨rfl, hw, hu⟩
  go_wp2_with fail
  refine (wstr_spec hw s ?_).mono ?_
  · rw [List.length_append, beb_len]; simp; omega
  rintro e w2 ⟨rfl, hw2, hu2⟩
  go_wp2
  go_end0
  refine ⟨rfl, ?_, hu.trans hu2 fun _ _ hh => hh⟩
  rw [List.append_assoc] at hw2
  exact hw2

theorem encText_len (s : ByteArray) : (encText s).length = 2 + s.size := by
  unfold encText
  rw [List.length_append, beb_len, toList_size]

/-- What a right value is like. -/
theorem chk_zero {g : GVal} (h : chk g = 0) : 1 ≤ g.kind ∧ g.kind ≤ 8 ∧ fieldBad g = false ∧ g.nums.length ≤ 40 ∧ g.texts.length ≤ 40 ∧ g.text.size ≤ 1000 ∧ (∀ s ∈ g.texts, s.size ≤ 1000) := by
  unfold chk at h
  split at h
  · cases h
  rename_i h1
  split at h
  · cases h
  rename_i h2
  split at h
  · cases h
  rename_i h3
  split at h
  · cases h
  rename_i h4
  refine ⟨by omega, by omega, by simpa using h2, by omega, by omega, by omega, fun s hs => ?_⟩
  have h5 : g.texts.any (fun s => decide (1000 < s.size)) = false := by
    cases hh : g.texts.any (fun s => decide (1000 < s.size)) with
    | false => rfl
    | true => exact absurd (.inr hh) h4
  have := List.any_eq_false.1 h5 s hs
  simpa using this

theorem flat_nums_len (k : Int) (l : List Int) : (l.flatMap (encNum k)).length ≤ 8 * l.length := by
  induction l with
  | nil => simp
  | cons x l ih =>
    rw [List.flatMap_cons, List.length_append, List.length_cons]
    have := encNum_len k x
    omega

theorem flat_texts_len (l : List ByteArray) (h : ∀ s ∈ l, s.size ≤ 1000) : (l.flatMap encText).length ≤ 1002 * l.length := by
  induction l with
  | nil => simp
  | cons x l ih =>
    rw [List.flatMap_cons, List.length_append, List.length_cons, encText_len]
    have h1 := h x (by simp)
    have h2 := ih fun s hs => h s (by simp [hs])
    omega

theorem flatMap_take_succ {α : Type} (f : α → List UInt8) (l : List α) (k : Nat) (h : k < l.length) : (l.take (k + 1)).flatMap f = (l.take k).flatMap f ++ f l[k] := by
  rw [List.take_succ_eq_append_getElem h, List.flatMap_append]
  simp

set_option maxHeartbeats 4000000 in
set_option maxRecDepth 100000 in
theorem encode_spec {F : Nat → Prop} {A1 A2 : Option Addr} {n1 c1 n2 c2 : Nat} {g : GVal} (w : World) (h : RdVal w F A1 n1 c1 A2 n2 c2 g) (hx : g.text.size ≤ 9223372036854775807) (hts : ∀ s ∈ g.texts, s.size ≤ 9223372036854775807) :
    Calls Tryz.prog 82 #[g.val A1 n1 c1 A2 n2 c2] w fun e w' => ∃ v, e = .returned (.tuple #[v, .int .i64 (chk g)]) ∧ OwnB w' w.heap.size v (enc g) ∧ Same w w' := by
  have HC := Lib.hid (check_spec (F := F) (A1 := A1) (A2 := A2) (n1 := n1) (c1 := c1) (n2 := n2) (c2 := c2) (g := g))
  have HZ := Lib.hid (chk_zero (g := g))
  have HE := Lib.hid (show enc g = if chk g = 0 then beb 1 g.kind.toNat ++ encBody g else [] from rfl)
  have HBd := Lib.hid (show encBody g = (if g.kind < 4 then encNum g.kind g.num else if g.kind = 4 then encText g.text
    else beb 1 (g.nums.length + g.texts.length) ++ (g.nums.flatMap (encNum (g.kind - 4)) ++ g.texts.flatMap encText)) from rfl)
  generalize enc g = E at HE ⊢
  generalize encBody g = Bd at HE HBd
  generalize hc : chk g = C at HC HZ HE ⊢
  clear hc
  obtain ⟨kind, num, text, nums, texts⟩ := g
  simp only [GVal.val] at HC ⊢
  have HR := Lib.hid h
  have HL1 := Lib.hid (show nums.length = n1 from h.len1)
  have HL2 := Lib.hid (show texts.length = n2 from h.len2)
  clear h
  have hs0 := (Upd.refl (fun _ => False) w).alloc (.cells #[.int .i64 kind, .int .i64 num, .string text, .slice A1 n1 c1, .slice A2 n2 c2] 43)
  have hb0 := Blk.new w 43 #[.int .i64 kind, .int .i64 num, .string text, .slice A1 n1 c1, .slice A2 n2 c2]
  have HCK := Lib.hid (HC.out _ (HR.out.same hs0) hx hts)
  have HS0 := Lib.hid hs0
  by_cases hz : C = 0
  case neg =>
    have hz' : (C != 0) = true := by simpa using hz
    have HF := Lib.hid (HE.out.trans (if_neg hz))
    have HB0 := Lib.hid hb0
    clear hz hb0 hs0
    go_enter Tryz.func82, Tryz.ntmps82
    go_wp2_with fail
    refine HCK.out.mono ?_
    rintro e w1 ⟨rfl, hs1⟩
    go_wp2
    go_ret2
    exact ⟨_, rfl, by rw [HF.out]; exact World.ownsRow_nil _ _ _ _, HS0.out.same hs1⟩
  subst hz
  have HF := Lib.hid (HE.out.trans (if_pos rfl))
  obtain ⟨hk1, hk8, hfb, hl40, ht40, hxs, htsz⟩ := HZ.out rfl
  simp only at hk1 hk8 hxs
  go_enter Tryz.func82, Tryz.ntmps82
  go_wp2_with fail
  refine HCK.out.mono ?_
  rintro e w1 ⟨rfl, hs1⟩
  have hs2 := hs0.same hs1
  have hb1 := hb0.same hs1
  clear hs0 hb0 hs1
  go_wp2_with fail
  refine (newWriter_spec _).mono ?_
  rintro e w2 ⟨r, rfl, hw, hs3⟩
  have HW := Lib.hid hw
  have hs4 := hs2.same hs3
  have hb2 := hb1.same hs3
  have hB : w.heap.size < w1.heap.size := hb1.lt
  have hle := hs2.size
  have hr := hw.lt
  have hBr := hw.1
  clear hs2 hb1 hs3 hw
  have c0 : w2.cell? ⟨w.heap.size, 0, none⟩ = some (.int .i64 kind) := hb2.cell 0
  go_wp2_with fail
  refine (wnum_spec HW.out _ _ rfl (by omega) (by simp)).mono ?_
  rintro e w3 ⟨rfl, hw3, hu3⟩
  have HW3 := Lib.hid (show Wtr w3 w1.heap.size r (beb 1 kind.toNat) from hw3)
  have hs5 : Same w w3 := hs4.trans hu3 fun b hb hh => by omega
  have hb3 := hb2.upd hu3 (by omega)
  clear hs4 hb2 hw3 c0 HW
  have c0 : w3.cell? ⟨w.heap.size, 0, none⟩ = some (.int .i64 kind) := hb3.cell 0
  have c1' : w3.cell? ⟨w.heap.size, 1, none⟩ = some (.int .i64 num) := hb3.cell 1
  have c2' : w3.cell? ⟨w.heap.size, 2, none⟩ = some (.string text) := hb3.cell 2
  have c3 : w3.cell? ⟨w.heap.size, 3, none⟩ = some (.slice A1 n1 c1) := hb3.cell 3
  have c4 : w3.cell? ⟨w.heap.size, 4, none⟩ = some (.slice A2 n2 c2) := hb3.cell 4
  by_cases h4 : kind < 4
  · have HB4 := Lib.hid (HBd.out.trans (if_pos h4))
    go_wp2_with fail
    refine (putNum_spec HW3.out _ _ hk1 hk8 (by rw [beb_len]; omega)).mono ?_
    rintro e w4 ⟨rfl, hw4, hu4⟩
    have hs6 : Same w w4 := hs5.trans hu4 fun b hb hh => by omega
    clear hs5 hb3 hu3 hu4
    go_wp2_with fail
    refine (wbytes_spec hw4 (by rw [List.length_append, beb_len]; have := encNum_len (baseK kind) num; omega)).mono ?_
    rintro e w5 ⟨v, rfl, ho, hs7⟩
    go_wp2
    go_ret2
    refine ⟨v, rfl, ?_, hs6.same hs7⟩
    rw [HF.out, HB4.out]
    rw [show baseK kind = kind from by unfold baseK; rw [if_neg (by omega)]] at ho
    exact own_base ho hs6.size
  have HB5 := Lib.hid (HBd.out.trans (if_neg h4))
  by_cases h44 : kind = 4
  · have HB4 := Lib.hid (HB5.out.trans (if_pos h44))
    subst h44
    go_wp2_with fail
    refine (putText_spec HW3.out _ (by omega) (by rw [beb_len]; omega)).mono ?_
    rintro e w4 ⟨rfl, hw4, hu4⟩
    have hs6 : Same w w4 := hs5.trans hu4 fun b hb hh => by omega
    clear hs5 hb3 hu3 hu4
    go_wp2_with fail
    refine (wbytes_spec hw4 (by rw [List.length_append, beb_len, encText_len]; omega)).mono ?_
    rintro e w5 ⟨v, rfl, ho, hs7⟩
    go_wp2
    go_ret2
    refine ⟨v, rfl, ?_, hs6.same hs7⟩
    rw [HF.out, HB4.out]
    exact own_base ho hs6.size
  have HB6 := Lib.hid (HB5.out.trans (if_neg h44))
  have h44' : (kind == 4) = false := by simpa using h44
  have hk5 : 4 < kind := by omega
  have hn1 : n1 ≤ 40 := by rw [← HL1.out]; exact hl40
  have hn2 : n2 ≤ 40 := by rw [← HL2.out]; exact ht40
  have HTS := Lib.hid htsz
  have hBK := HL1.out
  have HBK := Lib.hid (show baseK kind = kind - 4 from by unfold baseK; rw [if_pos hk5])
  clear hBK htsz hl40 ht40 hts
  go_wp2_with fail
  refine (wnum_spec HW3.out _ _ rfl (by omega) (by rw [beb_len]; omega)).mono ?_
  rintro e w4 ⟨rfl, hw4, hu4⟩
  have HP := Lib.hid (show (kind.toNat : Nat) = kind.toNat from rfl)
  have hs6 : Same w w4 := hs5.trans hu4 fun b hb hh => by omega
  have hb4 := hb3.upd hu4 (by omega)
  have HW4 := Lib.hid (show Wtr w4 w1.heap.size r (beb 1 kind.toNat ++ beb 1 (nums.length + texts.length)) from by
    rw [HL1.out, HL2.out]
    have := hw4
    rwa [show ((n1 : Int) + (n2 : Int)).toNat = n1 + n2 from by omega] at this)
  clear hs5 hb3 hu3 hu4 hw4 c0 c1' c2' c3 c4
  have c3 : w4.cell? ⟨w.heap.size, 3, none⟩ = some (.slice A1 n1 c1) := hb4.cell 3
  go_wp2
  clear c3
  go_loopw [34] (fun i wr => ∃ k : Nat, k ≤ n1 ∧ i = .int .i64 k ∧ Blk wr w.heap.size 43 #[.int .i64 kind, .int .i64 num, .string text, .slice A1 n1 c1, .slice A2 n2 c2] ∧
      Hid (Wtr wr w1.heap.size r (beb 1 kind.toNat ++ beb 1 (nums.length + texts.length) ++ (nums.take k).flatMap (encNum (kind - 4)))) ∧ Same w wr ∧ r < wr.heap.size) (fun i _ => n1 - (intOf i).toNat)
  case atStart => exact ⟨0, Nat.zero_le _, rfl, hb4, Lib.hid (by simpa using HW4.out), hs6, HW4.out.lt⟩
  case round =>
    obtain ⟨k, hk, rfl, kb, KW, ksame, hr'⟩ := hrel
    clear hb4 hs6 HW4
    by_cases hlt : k < n1
    · have hrow := HR.out.nums.same ksame
      obtain ⟨b, o, u, rfl, hbl, _, hu, hc⟩ := hrow.at_ hlt
      have hkl : k < nums.length := by rw [HL1.out]; exact hlt
      simp only [List.getElem?_map, List.getElem?_eq_getElem hkl, Option.map_some, Option.some.injEq] at hu
      subst hu
      have HT := Lib.hid (flatMap_take_succ (encNum (kind - 4)) nums k hkl)
      have HLn := Lib.hid (flat_nums_len (kind - 4) (nums.take k))
      clear hrow
      generalize nums[k] = x at *
      have e0 : wr.cell? ⟨w.heap.size, 0, none⟩ = some (.int .i64 kind) := kb.cell 0
      go_wp2_with fail
      refine (putNum_spec KW.out _ _ hk1 hk8 (by
        rw [List.length_append, List.length_append, beb_len, beb_len]
        have := HLn.out
        rw [List.length_take] at this
        omega)).mono ?_
      rintro e w5 ⟨rfl, hw5, hu5⟩
      have HW5 := Lib.hid hw5
      have HU5 := Lib.hid hu5
      clear hw5 hu5
      go_wp2
      go_roundw
      case rel =>
        refine ⟨k + 1, by omega, by go_num, kb.upd HU5.out (by omega), Lib.hid ?_, ksame.trans HU5.out fun b hb hh => by omega, by have := HU5.out.size; omega⟩
        have h1 := HW5.out
        rw [HBK.out, List.append_assoc] at h1
        rw [HT.out]
        exact h1
      case measure => simp [intOf]; omega
    · obtain rfl : k = n1 := by omega
      have KW1 := Lib.hid (show Wtr wr w1.heap.size r (beb 1 kind.toNat ++ beb 1 (nums.length + texts.length) ++ nums.flatMap (encNum (kind - 4))) from by
        have h1 := KW.out
        rwa [List.take_of_length_le (by rw [HL1.out]; exact Nat.le_refl _)] at h1)
      have HLn := Lib.hid (flat_nums_len (kind - 4) nums)
      clear KW
      have e4 : wr.cell? ⟨w.heap.size, 4, none⟩ = some (.slice A2 n2 c2) := kb.cell 4
      go_wp2
      clear e4
      go_loopw [47] (fun i wx => ∃ j : Nat, j ≤ n2 ∧ i = .int .i64 j ∧ Blk wx w.heap.size 43 #[.int .i64 kind, .int .i64 num, .string text, .slice A1 k c1, .slice A2 n2 c2] ∧
          Hid (Wtr wx w1.heap.size r (beb 1 kind.toNat ++ beb 1 (nums.length + texts.length) ++ nums.flatMap (encNum (kind - 4)) ++ (texts.take j).flatMap encText)) ∧ Same w wx ∧ r < wx.heap.size) (fun i _ => n2 - (intOf i).toNat)
      case atStart => exact ⟨0, Nat.zero_le _, rfl, kb, Lib.hid (by simpa using KW1.out), ksame, hr'⟩
      case round =>
        obtain ⟨j, hj, rfl, jb, JW, jsame, hr2⟩ := hrel
        clear kb ksame KW1 hr'
        by_cases hlt : j < n2
        · have hrow := HR.out.texts.same jsame
          obtain ⟨b, o, u, rfl, hbl, _, hu, hc⟩ := hrow.at_ hlt
          have hkl : j < texts.length := by rw [HL2.out]; exact hlt
          simp only [List.getElem?_map, List.getElem?_eq_getElem hkl, Option.map_some, Option.some.injEq] at hu
          subst hu
          have HT := Lib.hid (flatMap_take_succ encText texts j hkl)
          have HSz := Lib.hid (HTS.out texts[j] (List.getElem_mem hkl))
          have HLt := Lib.hid (flat_texts_len (texts.take j) fun s hs => HTS.out s (List.mem_of_mem_take hs))
          clear hrow
          generalize texts[j] = x at *
          go_wp2_with fail
          refine (putText_spec JW.out _ (by have := HSz.out; omega) (by
            rw [List.length_append, List.length_append, List.length_append, beb_len, beb_len]
            have h1 := HLt.out
            have h2 := HLn.out
            rw [List.length_take] at h1
            rw [HL1.out] at h2
            omega)).mono ?_
          rintro e w5 ⟨rfl, hw5, hu5⟩
          have HW5 := Lib.hid hw5
          have HU5 := Lib.hid hu5
          clear hw5 hu5
          go_wp2
          go_roundw
          case rel =>
            refine ⟨j + 1, by omega, by go_num, jb.upd HU5.out (by omega), Lib.hid ?_, jsame.trans HU5.out fun b hb hh => by omega, by have := HU5.out.size; omega⟩
            have h1 := HW5.out
            rw [List.append_assoc] at h1
            rw [HT.out]
            exact h1
          case measure => simp [intOf]; omega
        · obtain rfl : j = n2 := by omega
          have JW1 := Lib.hid (show Wtr wr w1.heap.size r (beb 1 kind.toNat ++ beb 1 (nums.length + texts.length) ++ nums.flatMap (encNum (kind - 4)) ++ texts.flatMap encText) from by
            have h1 := JW.out
            rwa [List.take_of_length_le (by rw [HL2.out]; exact Nat.le_refl _)] at h1)
          have HLt := Lib.hid (flat_texts_len texts fun s hs => HTS.out s hs)
          clear JW
          go_wp2_with fail
          refine (wbytes_spec JW1.out (by
            rw [List.length_append, List.length_append, List.length_append, beb_len, beb_len]
            have h1 := HLt.out
            have h2 := HLn.out
            rw [HL2.out] at h1
            rw [HL1.out] at h2
            omega)).mono ?_
          rintro e w5 ⟨v, rfl, ho, hs7⟩
          have HO := Lib.hid ho
          clear ho
          go_wp2
          go_ret2
          refine ⟨v, rfl, ?_, jsame.same hs7⟩
          rw [HF.out, HB6.out]
          have h1 := own_base HO.out jsame.size
          simp only [List.append_assoc] at h1 ⊢
          exact h1

set_option maxHeartbeats 400000 in
theorem weight_spec {F : Nat → Prop} {A1 A2 : Option Addr} {n1 c1 n2 c2 : Nat} {g : GVal} (w : World) (h : RdVal w F A1 n1 c1 A2 n2 c2 g) (hx : g.text.size ≤ 9223372036854775807) (hts : ∀ s ∈ g.texts, s.size ≤ 9223372036854775807) :
    Calls Tryz.prog 61 #[g.val A1 n1 c1 A2 n2 c2] w fun e w' => e = .returned (.int .i64 ((enc g).length : Int)) ∧ Same w w' := by
  have HE := Lib.hid (encode_spec (F := F) (A1 := A1) (A2 := A2) (n1 := n1) (c1 := c1) (n2 := n2) (c2 := c2) (g := g))
  have HR := Lib.hid h
  have HX := Lib.hid hx
  have HT := Lib.hid hts
  clear h hx hts
  generalize chk g = C at HE
  generalize enc g = E at HE ⊢
  obtain ⟨kind, num, text, nums, texts⟩ := g
  simp only [GVal.val] at HE ⊢
  have hs0 := (Upd.refl (fun _ => False) w).alloc (.cells #[.int .i64 kind, .int .i64 num, .string text, .slice A1 n1 c1, .slice A2 n2 c2] 43)
  have HS := Lib.hid hs0
  clear hs0
  go_enter Tryz.func61, Tryz.ntmps61
  go_wp2_with fail
  refine (HE.out _ (HR.out.same HS.out) HX.out HT.out).mono ?_
  rintro e w1 ⟨v, rfl, ho, hs⟩
  obtain ⟨A, m, c, rfl⟩ := own_slice ho
  have HM := Lib.hid (show E.length = m from by
    rcases ho.2 with ⟨hv, hn⟩ | ⟨g, cap, cur, hv, _⟩
    · injection hv with _ h2 _
      rw [hn, h2]
    · injection hv with _ h2 _
      exact h2.symm)
  clear ho
  go_wp2
  go_ret
  exact ⟨ret_int (by rw [HM.out]), HS.out.same hs⟩
end Go.Proofs.YtlnademnfnhbpaaGreat
