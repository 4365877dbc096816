/- Package wire: Writer.Raw, Writer.Len, Get; a slice of bytes all zero. -/
import Derived.Test.YtheinbigegobkaaWire3
import Derived.Test.YtheinbigegobkaaVal1
namespace Go.Proofs.Ytheinbigegobkaa
open Go.RowKit

set_option maxHeartbeats 400000 in
theorem wraw_spec {w : World} {F : Nat → Prop} {B r : Nat} {A : Option Addr} {n c : Nat} {bs xs : List UInt8} (h : Wtr w B r bs) (hx : Bytes w F A n c xs) (hl : bs.length + n ≤ 140737488355328) :
    Calls Try.prog 28 #[.pointer (some ⟨r, 0, none⟩), .slice A n c] w fun e w' => e = .returned (.tuple #[]) ∧ Wtr w' B r (bs ++ xs) ∧ Upd (fun b => B ≤ b) w w' := by
  obtain ⟨hB, v, hb, ho⟩ := h
  have hlt := hb.lt
  have hne : v.ownBlock ≠ some r := hb.ne_own ho (by decide)
  have h0 := hb.cell 0
  simp only [List.getElem?_toArray, List.getElem?_cons_zero] at h0
  have HL := Lib.hid hx.len
  go_enter Try.func28, Try.ntmps28
  go_wp2_with (at_builtin; go_must (refine wpList_app rfl (.tmp 8) (.tmp 9) _ _ rfl B _ _ _ _ Try.underlying32 info_u8 rfl v _ _ rfl ho rfl (src_row Try.underlying32 hx (u8_oneCell xs)) (by unfold maxLen; omega) (by omega) (by omega) ?_); intro v' w1 hg; obtain ⟨A', m', c', rfl⟩ := own_slice hg.own; have f1 : w1.frozen? ⟨r, 0, none⟩ = false := (hg.blk hb hne).frozen 0; have h1 : w1.cell? ⟨r, 0, none⟩ = some v := (hg.blk hb hne).cell 0)
  go_end0
  have hb1 := hg.blk hb hne
  have hne' : (Value.slice A' m' c').ownBlock ≠ some r := hb1.ne_own hg.own (by decide)
  refine ⟨rfl, ⟨hB, _, hb1.put 0 _, ?_⟩, (hg.upd.mono fun b _ hv => (ho.lt b hv).1).put hB _⟩
  have h2 := own_upd hg.own ((Upd.refl (fun b => b = r) w1).put1 (i := 0) (.slice A' m' c')) fun g hgg hgr => hne' (hgr ▸ hgg)
  unfold OwnB
  rw [List.length_append, HL.out, List.map_append]
  exact h2

theorem wlen_spec {w : World} {B r : Nat} {bs : List UInt8} (h : Wtr w B r bs) {n : Nat} (hn : bs.length = n) :
    Calls Try.prog 46 #[.pointer (some ⟨r, 0, none⟩)] w fun e w' => e = .returned (.int .i64 n) ∧ w = w' := by
  obtain ⟨hB, v, hb, ho⟩ := h
  have h0 := hb.cell 0
  simp only [List.getElem?_toArray, List.getElem?_cons_zero] at h0
  obtain ⟨A, c, rfl⟩ := own_form ho
  subst hn
  generalize bs.length = m at h0 ⊢
  go_enter Try.func46, Try.ntmps46
  go_wp2
  go_ret
  exact ⟨rfl, rfl⟩

/-- May a number of that width be read there? -/
theorem room_ok (A : Option Addr) (n c at_ width : Nat) (w : World) (hw : isWidthB width = true) (h : at_ + width ≤ n) (hn : n ≤ 9223372036854775807) :
    Calls Try.prog 86 #[.slice A n c, .int .i64 at_, .int .i64 width] w fun e w' => e = .returned (.int .i64 0) ∧ w = w' := by
  have HW := Lib.hid hw
  clear hw
  go_enter Try.func86, Try.ntmps86
  go_wp2_with fail
  refine (isWidth_spec _ _).mono ?_
  rintro e w' ⟨rfl, rfl⟩
  rw [HW.out]
  go_wp2
  go_ret
  exact ⟨rfl, rfl⟩
theorem room_short (A : Option Addr) (n c at_ width : Nat) (w : World) (hw : isWidthB width = true) (h : n < at_ + width) (hn : n ≤ 9223372036854775807) (ha : at_ ≤ 9223372036854775807) :
    Calls Try.prog 86 #[.slice A n c, .int .i64 at_, .int .i64 width] w fun e w' => e = .returned (.int .i64 10) ∧ w = w' := by
  have hw8 : width ≤ 8 := by
    simp only [isWidthB, Bool.or_eq_true, beq_iff_eq] at hw
    omega
  have HW := Lib.hid hw
  clear hw
  go_enter Try.func86, Try.ntmps86
  go_wp2_with fail
  refine (isWidth_spec _ _).mono ?_
  rintro e w' ⟨rfl, rfl⟩
  rw [HW.out]
  go_wp2
  go_ret
  exact ⟨rfl, rfl⟩

set_option maxHeartbeats 400000 in
theorem get_ok {F : Nat → Prop} {A : Option Addr} {n c : Nat} {bs : List UInt8} (w : World) (hb : Bytes w F A n c bs) (at_ width : Nat) (hw : isWidthB width = true) (h : at_ + width ≤ n) {N : Nat} (hN : be ((bs.drop at_).take width) = N) :
    Calls Try.prog 75 #[.slice A n c, .int .i64 at_, .int .i64 width] w fun e w' => e = .returned (.tuple #[.int .u64 N, .int .i64 0]) ∧ w = w' := by
  have hmx := Row.max hb
  have hle := Row.le hb
  unfold maxLen at hmx
  have hn : n ≤ 9223372036854775807 := by omega
  have hw8 : 1 ≤ width ∧ width ≤ 8 := by
    simp only [isWidthB, Bool.or_eq_true, beq_iff_eq] at hw
    omega
  obtain ⟨b, o, _, rfl, _, _, _, _⟩ := Row.at_ hb (i := at_) (by omega)
  have HN := Lib.hid hN
  have HB := Lib.hid hb
  have HW := Lib.hid hw
  clear hN hb hw
  go_enter Try.func75, Try.ntmps75
  go_wp2_with fail
  refine (room_ok _ _ _ _ _ _ HW.out h hn).mono ?_
  rintro e w' ⟨rfl, rfl⟩
  go_wp2_with fail
  have hc := HB.out.cut (j := at_) (m := at_ + width) (by omega) h
  rw [if_neg (by omega), Option.map_some, addr_add, Nat.add_sub_cancel_left] at hc
  refine (number_spec _ hc (by omega)).mono ?_
  rintro e w' ⟨rfl, rfl⟩
  rw [HN.out]
  go_wp2
  go_ret2
  exact ⟨rfl, rfl⟩
set_option maxHeartbeats 400000 in
theorem get_short {F : Nat → Prop} {A : Option Addr} {n c : Nat} {bs : List UInt8} (w : World) (hb : Bytes w F A n c bs) (at_ width : Nat) (hw : isWidthB width = true) (h : n < at_ + width) (ha : at_ ≤ 9223372036854775807) :
    Calls Try.prog 75 #[.slice A n c, .int .i64 at_, .int .i64 width] w fun e w' => e = .returned (.tuple #[.int .u64 0, .int .i64 10]) ∧ w = w' := by
  have hmx := Row.max hb
  have hle := Row.le hb
  unfold maxLen at hmx
  have hn : n ≤ 9223372036854775807 := by omega
  have HW := Lib.hid hw
  clear hw
  go_enter Try.func75, Try.ntmps75
  go_wp2_with fail
  refine (room_short _ _ _ _ _ _ HW.out h hn ha).mono ?_
  rintro e w' ⟨rfl, rfl⟩
  go_wp2
  go_ret2
  exact ⟨rfl, rfl⟩
end Go.Proofs.Ytheinbigegobkaa
