/- Stable sorting of at most 19 properties; bytes.Equal; the law's same and clone. -/
import Derived.Test.YtheinbigegobkaaInsKV
import Derived.Test.YtheinbigegobkaaEq
import Derived.Test.YtheinbigegobkaaDec1
namespace Go.Proofs.Ytheinbigegobkaa
open Go.RowKit

set_option maxHeartbeats 1000000 in
theorem stable_spec {B n c : Nat} {A : Option Addr} {ls : List KV} (w : World) (h : OwnKV w B (.slice A n c) ls) (hl : ls.length = n) (hn : n < 20) :
    Calls Try.prog 37 #[.slice A n c, .func (.func 38) #[] #[]] w fun e w' => e = .returned (.tuple #[]) ∧
      ∃ l : List KV, OwnKV w' B (.slice A n c) l ∧ SortedK KV.key l ∧ SameK KV.key l ls ∧ l.length = n ∧ Upd (fun b => (Value.slice A n c).ownBlock = some b) w w' := by
  have HO := Lib.hid h
  have HL := Lib.hid hl
  clear h hl
  have hst : ∀ w1 : World, w1 = w → Calls Try.prog 63 #[.slice A n c, .int .i64 n, .func (.func 38) #[] #[]] w1 fun e w' => e = .returned (.tuple #[]) ∧
      ∃ l : List KV, OwnKV w' B (.slice A n c) l ∧ SortedK KV.key l ∧ SameK KV.key l ls ∧ l.length = n ∧ Upd (fun b => (Value.slice A n c).ownBlock = some b) w w' := by
    rintro w1 rfl
    have h20 : ¬ (20 : Int) ≤ (n : Int) := by omega
    have h21 : ¬ (20 : Int) < (n : Int) := by omega
    go_enter Try.func63, Try.ntmps63
    go_wp2_with fail
    go_loopg [7, 8] 0 (fun gh s7 s8 wr => s7 = .int .i64 0 ∧ s8 = .int .i64 20 ∧ wr = w1)
    case atStart => exact ⟨rfl, rfl, rfl⟩
    case round =>
      obtain ⟨rfl, rfl, rfl⟩ := hrel
      go_wp2_with fail
      refine (insort_spec _ HO.out HL.out (by omega)).mono ?_
      rintro e w2 ⟨rfl, l, h1, h2, h3, h4, h5⟩
      have H := Lib.hid (And.intro h1 (And.intro h2 (And.intro h3 (And.intro h4 h5))))
      clear h1 h2 h3 h4 h5
      go_wp2_with fail
      go_loopg [6, 7, 8, 9] 0 (fun gh s6 s7 s8 s9 wr => s6 = .int .i64 20 ∧ wr = w2)
      case atStart => exact ⟨rfl, rfl⟩
      case round =>
        obtain ⟨rfl, rfl⟩ := hrel
        go_wp2
        go_end0
        exact ⟨rfl, l, H.out⟩
  go_enter Try.func37, Try.ntmps37
  go_wp2_with fail
  refine (hst _ rfl).mono ?_
  rintro e w2 ⟨rfl, l, h1, h2, h3, h4, h5⟩
  have H := Lib.hid (And.intro h1 (And.intro h2 (And.intro h3 (And.intro h4 h5))))
  clear h1 h2 h3 h4 h5 hst
  go_wp2
  go_end0
  exact ⟨rfl, l, H.out⟩

theorem str_of_eq (xs ys : List UInt8) {r : Bool} (hr : decide (xs = ys) = r) : ((⟨xs.toArray⟩ : ByteArray).toList == (⟨ys.toArray⟩ : ByteArray).toList) = r := by
  rw [← hr, Bool.eq_iff_iff, beq_iff_eq, str_eq_iff, decide_eq_true_eq]
  constructor
  · intro h
    injection h with h
    exact Array.mk.inj h
  · rintro rfl; rfl

theorem bytesEq_spec {F F' : Nat → Prop} {A A' : Option Addr} {n c n' c' : Nat} {xs ys : List UInt8} (w : World) (h : Bytes w F A n c xs) (h' : Bytes w F' A' n' c' ys) {r : Bool} (hr : decide (xs = ys) = r) :
    Calls Try.prog 40 #[.slice A n c, .slice A' n' c'] w fun e w' => e = .returned (.bool r) ∧ w = w' := by
  have c1 := conv_bytes h
  have c2 := conv_bytes h'
  have hb := str_of_eq xs ys hr
  clear hr
  generalize (⟨xs.toArray⟩ : ByteArray) = X at *
  generalize (⟨ys.toArray⟩ : ByteArray) = Y at *
  go_enter Try.func40, Try.ntmps40
  go_wp2
  go_ret
  exact ⟨rfl, rfl⟩
theorem same16_spec {F F' : Nat → Prop} {A A' : Option Addr} {n c n' c' : Nat} {xs ys : List UInt8} (w : World) (h : Bytes w F A n c xs) (h' : Bytes w F' A' n' c' ys) {r : Bool} (hr : decide (xs = ys) = r) :
    Calls Try.prog 18 #[.slice A n c, .slice A' n' c'] w fun e w' => e = .returned (.bool r) ∧ w = w' := by
  have c1 := conv_bytes h
  have c2 := conv_bytes h'
  have hb := str_of_eq xs ys hr
  clear hr
  generalize (⟨xs.toArray⟩ : ByteArray) = X at *
  generalize (⟨ys.toArray⟩ : ByteArray) = Y at *
  go_enter Try.func18, Try.ntmps18
  go_wp2
  go_ret
  exact ⟨rfl, rfl⟩
set_option maxHeartbeats 400000 in
theorem clone16_spec {F : Nat → Prop} {A : Option Addr} {n c : Nat} {bs : List UInt8} (w : World) (hb : Bytes w F A n c bs) (hn : n ≤ 140737488355328) :
    Calls Try.prog 20 #[.slice A n c] w fun e w' => ∃ A' c', e = .returned (.slice A' n c') ∧ Hid (w'.ownsRow w.heap.size 5 1 (.slice A' n c') n (bs.map u8v)) ∧ Same w w' := by
  have HL := Lib.hid hb.len
  have hmax : n ≤ maxLen := by have := Row.le hb; have := Row.max hb; omega
  go_enter Try.func20, Try.ntmps20
  go_wp2_with (at_builtin; go_must (refine wpList_app rfl (.tmp 3) (.tmp 4) _ _ rfl w.heap.size _ _ _ _ Try.underlying32 info_u8 rfl _ 0 [] rfl (World.ownsRow_made w #[] 0 (Nat.le_refl _) (Nat.zero_le _) rfl) rfl (src_row Try.underlying32 (Row.same hb ((Upd.refl _ w).alloc _)) (u8_oneCell bs)) (by omega) (by omega) (by simp) ?_); intro v' w' happ)
  go_ret
  have ho := happ.own
  rw [Nat.zero_add, List.nil_append] at ho
  obtain ⟨A', c', rfl⟩ := own_form ho
  refine ⟨A', c', rfl, Lib.hid ho, ?_⟩
  exact ((Upd.refl _ w).alloc _).trans happ.upd fun b hb hv => by
    have := Option.some.inj hv
    simp only at this
    omega
end Go.Proofs.Ytheinbigegobkaa
