/- Package wire: the small functions. -/
import Derived.Test.YtlnademnfnhbpaaGreatProg
import Derived.Test.YtlnademnfnhbpaaGreatBase
import Derived.Test.YtlnademnfnhbpaaGreatApp
import Derived.Test.YtlnademnfnhbpaaGreatVal
import Derived.Lib.Hide
import Derived.WalkLawsBesides
namespace Go.Proofs.YtlnademnfnhbpaaGreat
open Go.RowKit

/-- v is a slice of bytes of the call's own that reads bs. -/
abbrev OwnB (w : World) (B : Nat) (v : Value) (bs : List UInt8) : Prop := w.ownsRow B 5 1 v bs.length (bs.map u8v)
/-- v has grown to v', which reads bs. -/
abbrev GrewB (w : World) (B : Nat) (v : Value) (bs : List UInt8) (v' : Value) (w' : World) : Prop := Grew w B 5 1 v bs.length (bs.map u8v) v' w'

theorem own_bytes {w : World} {B : Nat} {A : Option Addr} {m c : Nat} {bs : List UInt8} (h : OwnB w B (.slice A m c) bs) : Bytes w (fun b => A = some ⟨b, 0, none⟩ ∧ B ≤ b) A m c bs := by
  obtain ⟨A', c', hv⟩ := own_form h
  injection hv with h1 h2 h3
  subst h1
  subst h2
  subst h3
  exact Row.of_own h

def isWidthB (n : Int) : Bool := n == 1 || n == 2 || n == 4 || n == 8

theorem isWidth_spec (n : Int) (w : World) : Calls Tryz.prog 131 #[.int .i64 n] w fun e w' => e = .returned (.bool (isWidthB n)) ∧ w = w' := by
  by_cases h1 : n = 1
  · subst h1
    go_enter Tryz.func131, Tryz.ntmps131
    go_wp2
    go_ret
    exact ⟨rfl, rfl⟩
  by_cases h2 : n = 2
  · subst h2
    go_enter Tryz.func131, Tryz.ntmps131
    go_wp2
    go_ret
    exact ⟨rfl, rfl⟩
  by_cases h4 : n = 4
  · subst h4
    go_enter Tryz.func131, Tryz.ntmps131
    go_wp2
    go_ret
    exact ⟨rfl, rfl⟩
  by_cases h8 : n = 8
  · subst h8
    go_enter Tryz.func131, Tryz.ntmps131
    go_wp2
    go_ret
    exact ⟨rfl, rfl⟩
  have e : isWidthB n = false := by simp [isWidthB, h1, h2, h4, h8]
  go_enter Tryz.func131, Tryz.ntmps131
  go_wp2
  go_ret
  exact ⟨by simp [e], rfl⟩

theorem be_snoc (bs : List UInt8) (c : UInt8) : be (bs ++ [c]) = be bs * 256 + c.toNat := by simp [be]

theorem be_lt (bs : List UInt8) : be bs < 256 ^ bs.length := by
  suffices h : ∀ (l : List UInt8) (n k : Nat), n < 256 ^ k → l.foldl (fun n c => n * 256 + c.toNat) n < 256 ^ (k + l.length) from by
    have := h bs 0 0 (by simp)
    simpa [be] using this
  intro l
  induction l with
  | nil => intro n k h; simpa using h
  | cons c l ih =>
    intro n k h
    rw [List.foldl_cons, List.length_cons, show k + (l.length + 1) = (k + 1) + l.length from by omega]
    refine ih _ _ ?_
    rw [Nat.pow_succ]
    have := c.toNat_lt
    omega

theorem take_snoc (bs : List UInt8) (k : Nat) (h : k < bs.length) : bs.take (k + 1) = bs.take k ++ [bs[k]] := List.take_succ_eq_append_getElem h

theorem shl8_or (x c : Nat) (hc : c < 256) (h : x * 256 + c ≤ 18446744073709551615) :
    bits BinOp.or IntKind.u64 (IntKind.u64.wrap ((x : Int) * 256)) (IntKind.u64.wrap (c : Int)) = ((x * 256 + c : Nat) : Int) := by
  have e1 : IntKind.u64.wrap ((x : Int) * 256) = ((x * 256 : Nat) : Int) := by
    rw [IntWalk.u64_in _ ⟨by omega, by omega⟩]; omega
  have e2 : IntKind.u64.wrap (c : Int) = (c : Int) := IntWalk.u64_in _ ⟨by omega, by omega⟩
  rw [e1, e2]
  rw [u64_or_nat (x * 256) c (show x * 256 < 18446744073709551616 from by omega) (show c < 18446744073709551616 from by omega)]
  have h1 : c < 2 ^ 8 := hc
  have h2 := Nat.two_pow_add_eq_or_of_lt h1 x
  rw [show 2 ^ 8 * x = x * 256 from by omega] at h2
  rw [h2]

theorem info_u8 : (Tryz.prog.info? 5).map (fun i => (i.zero, i.size, i.bytes)) = some (some (.int .u8 0), 1, 1) := by kernel_rfl

theorem bytes_eql_nil (w : World) (a : Option Addr) (n c : Nat) : (binOp .eql 109 (.slice a n c) (.slice none 0 0)).run Tryz.prog w = .ok (.bool a.isNone) w :=
  Lib.run_eql_slice_nil (P := Tryz.prog) w 109 5 a n c 0 0 Tryz.underlying109

set_option maxHeartbeats 400000 in
theorem clone_spec {F : Nat → Prop} {A : Option Addr} {n c : Nat} {bs : List UInt8} (w : World) (hb : Bytes w F A n c bs) (hn : n ≤ 140737488355328) :
    Calls Tryz.prog 134 #[.slice A n c] w fun e w' => ∃ v', e = .returned v' ∧ OwnB w' w.heap.size v' bs ∧ Same w w' := by
  have HL := Lib.hid hb.len
  have heq := bytes_eql_nil
  cases A with
  | none =>
    have hc := hb.nil rfl
    have hle := Row.le hb
    obtain rfl : n = 0 := by omega
    obtain rfl : c = 0 := by omega
    have hbs : bs = [] := List.eq_nil_of_length_eq_zero hb.len
    subst hbs
    clear hc
    go_enter Tryz.func134, Tryz.ntmps134
    go_wp2
    go_ret
    exact ⟨_, rfl, World.ownsRow_nil _ _ _ _, Upd.refl _ _⟩
  | some a =>
    have hmax : n ≤ maxLen := by have := Row.le hb; have := Row.max hb; omega
    go_enter Tryz.func134, Tryz.ntmps134
    go_wp2_with (at_builtin; go_must (refine wpList_app rfl (.tmp 5) (.tmp 6) _ _ rfl w.heap.size _ _ _ _ Tryz.underlying109 info_u8 rfl _ 0 [] rfl (World.ownsRow_made w #[] 0 (Nat.le_refl _) (Nat.zero_le _) rfl) rfl (src_row Tryz.underlying109 (Row.same hb ((Upd.refl _ w).alloc _)) (u8_oneCell bs)) (by omega) (by omega) (by simp) ?_); intro v' w' happ)
    go_ret
    refine ⟨v', rfl, ?_, ?_⟩
    · have := happ.own
      unfold OwnB
      rw [HL.out]
      simpa using this
    · exact ((Upd.refl _ w).alloc _).trans happ.upd fun b hb hv => by
        have := Option.some.inj hv
        simp only at this
        omega
end Go.Proofs.YtlnademnfnhbpaaGreat
