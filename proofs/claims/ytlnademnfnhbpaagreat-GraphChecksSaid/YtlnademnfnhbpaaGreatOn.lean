/- The contracts, for every world that is as an earlier one was. -/
import Derived.Test.YtlnademnfnhbpaaGreatRead
import Derived.Test.YtlnademnfnhbpaaGreatRound
import Derived.Test.YtlnademnfnhbpaaGreatCopy
import Derived.Test.YtlnademnfnhbpaaGreatEq
import Derived.Test.YtlnademnfnhbpaaGreatRChk
namespace Go.Proofs.YtlnademnfnhbpaaGreat
open Go.RowKit

section
variable {w0 wx : World} {g1 g2 : Nat} {t1 t2 : TypeId} {a0 a1 a2 a3 a4 b0 b1 b2 b3 b4 : Value}
/-- Two boxes of five cells, in every world that is as w0 was. -/
abbrev Keep2 (w0 : World) (g1 g2 : Nat) (a0 a1 a2 a3 a4 b0 b1 b2 b3 b4 : Value) (wx : World) : Prop :=
  Same w0 wx ∧ (wx.cell? ⟨g1, 0, none⟩ = some a0 ∧ wx.cell? ⟨g1, 1, none⟩ = some a1 ∧ wx.cell? ⟨g1, 2, none⟩ = some a2 ∧ wx.cell? ⟨g1, 3, none⟩ = some a3 ∧ wx.cell? ⟨g1, 4, none⟩ = some a4) ∧
    (wx.cell? ⟨g2, 0, none⟩ = some b0 ∧ wx.cell? ⟨g2, 1, none⟩ = some b1 ∧ wx.cell? ⟨g2, 2, none⟩ = some b2 ∧ wx.cell? ⟨g2, 3, none⟩ = some b3 ∧ wx.cell? ⟨g2, 4, none⟩ = some b4)
theorem keep2 (hb1 : Hid (Blk w0 g1 t1 #[a0, a1, a2, a3, a4])) (hb2 : Hid (Blk w0 g2 t2 #[b0, b1, b2, b3, b4])) (h : Same w0 wx) : Keep2 w0 g1 g2 a0 a1 a2 a3 a4 b0 b1 b2 b3 b4 wx :=
  ⟨h, (hb1.out.same h).five, (hb2.out.same h).five⟩
end

/-- A callee that only makes new memory, in every world that is as w0 was. -/
theorem on_same {w0 : World} {E : Ending → Prop} {n : Nat} {args : Array Value} (h : ∀ wx, Same w0 wx → Calls Tryz.prog n args wx fun x w' => E x ∧ Same wx w') :
    ∀ wx, Same w0 wx → Calls Tryz.prog n args wx fun x w' => E x ∧ Same w0 w' := fun wx hs => (h wx hs).mono fun _ _ ⟨h1, h2⟩ => ⟨h1, hs.same h2⟩

theorem copy_rd {F : Nat → Prop} {A1 A2 : Option Addr} {n1 c1 n2 c2 : Nat} {g : GVal} (w : World) (h : RdVal w F A1 n1 c1 A2 n2 c2 g) (hs1 : n1 * 8 ≤ 140737488355328) (hs2 : n2 * 16 ≤ 140737488355328) :
    Calls Tryz.prog 58 #[g.val A1 n1 c1 A2 n2 c2] w fun e w' => ∃ B1 m1 d1 B2 m2 d2, e = .returned (g.val B1 m1 d1 B2 m2 d2) ∧ RdVal w' (fun b => w.heap.size ≤ b) B1 m1 d1 B2 m2 d2 g ∧ Same w w' := by
  refine (copy_spec w h hs1 hs2).mono ?_
  rintro e w' ⟨v1, v2, rfl, ho1, ho2, hs⟩
  obtain ⟨B1, m1, d1, B2, m2, d2, hv, hrd⟩ := NewVal.rd (g := g) ⟨v1, v2, rfl, by rw [← h.len1] at ho1; exact ho1, by rw [← h.len2] at ho2; exact ho2⟩ ⟨h.kind, h.num, h.range⟩
  exact ⟨B1, m1, d1, B2, m2, d2, by rw [hv], hrd, hs⟩
theorem vsame_r {A1 A2 B1 B2 : Option Addr} {n1 c1 n2 c2 m1 d1 m2 d2 : Nat} {g h : GVal} {r : Bool} (w0 w : World) (hr : sameB g h = r) (hs : Same w0 w) (hg : RdVal w (fun _ => True) A1 n1 c1 A2 n2 c2 g) (hh : RdVal w (fun _ => True) B1 m1 d1 B2 m2 d2 h) :
    Calls Tryz.prog 104 #[g.val A1 n1 c1 A2 n2 c2, h.val B1 m1 d1 B2 m2 d2] w fun e w' => e = .returned (.bool r) ∧ Same w w' ∧ Same w0 w' := by
  subst hr
  exact (vsame_spec w hg hh).mono fun _ _ ⟨h1, h2⟩ => ⟨h1, h2, hs.same h2⟩
theorem rsame_r {A1 A2 B1 B2 : Option Addr} {n1 c1 n2 c2 m1 d1 m2 d2 : Nat} {g h : GVal} {r : Bool} (w0 w : World) (hr : sameB g h = r) (hs : Same w0 w) (hg : RdVal w (fun _ => True) A1 n1 c1 A2 n2 c2 g) (hh : RdVal w (fun _ => True) B1 m1 d1 B2 m2 d2 h) :
    Calls Tryz.prog 64 #[g.val A1 n1 c1 A2 n2 c2, h.val B1 m1 d1 B2 m2 d2] w fun e w' => e = .returned (.bool r) ∧ Same w w' ∧ Same w0 w' := by
  subst hr
  exact (rsame_spec w hg hh).mono fun _ _ ⟨h1, h2⟩ => ⟨h1, h2, hs.same h2⟩
theorem copy_on {F : Nat → Prop} {A1 A2 : Option Addr} {n1 c1 n2 c2 : Nat} {g : GVal} (w0 w : World) (hs : Same w0 w) (h : RdVal w0 F A1 n1 c1 A2 n2 c2 g) (hs1 : n1 * 8 ≤ 140737488355328) (hs2 : n2 * 16 ≤ 140737488355328) :
    Calls Tryz.prog 58 #[g.val A1 n1 c1 A2 n2 c2] w fun e w' => ∃ B1 m1 d1 B2 m2 d2, e = .returned (g.val B1 m1 d1 B2 m2 d2) ∧ RdVal w' (fun _ => True) B1 m1 d1 B2 m2 d2 g ∧ Same w w' ∧ Same w0 w' :=
  (copy_rd w (h.same hs) hs1 hs2).mono fun _ _ ⟨B1, m1, d1, B2, m2, d2, h1, h2, h3⟩ => ⟨B1, m1, d1, B2, m2, d2, h1, h2.mono fun _ _ _ => trivial, h3, hs.same h3⟩

/-- Bytes of the call's own, read. -/
theorem own_bytesT {w : World} {B : Nat} {v : Value} {bs : List UInt8} (h : OwnB w B v bs) : ∃ A c, v = .slice A bs.length c ∧ Bytes w (fun _ => True) A bs.length c bs := by
  obtain ⟨A, c, rfl, hr⟩ := own_row h
  exact ⟨A, c, rfl, Row.mono hr fun _ _ _ => trivial⟩
theorem renc_on {F : Nat → Prop} {A1 A2 : Option Addr} {n1 c1 n2 c2 : Nat} {g : GVal} {E : List UInt8} (w0 w : World) (hE : enc g = E) (hs : Same w0 w) (h : RdVal w0 F A1 n1 c1 A2 n2 c2 g) (hx : g.text.size ≤ 9223372036854775807) (hts : ∀ s ∈ g.texts, s.size ≤ 9223372036854775807) :
    Calls Tryz.prog 84 #[g.val A1 n1 c1 A2 n2 c2] w fun e w' => ∃ A n c, e = .returned (.slice A n c) ∧ E.length = n ∧ Bytes w' (fun _ => True) A n c E ∧ Same w w' ∧ Same w0 w' := by
  subst hE
  refine (rencode_spec w (h.same hs) hx hts).mono ?_
  rintro e w' ⟨v, rfl, ho, h2⟩
  obtain ⟨A, c, rfl, hb⟩ := own_bytesT ho
  exact ⟨A, _, c, rfl, rfl, hb, h2, hs.same h2⟩
theorem enc_on {F : Nat → Prop} {A1 A2 : Option Addr} {n1 c1 n2 c2 : Nat} {g : GVal} {E : List UInt8} {C : Int} (w0 w : World) (hE : enc g = E) (hC : chk g = C) (hs : Same w0 w) (h : RdVal w0 F A1 n1 c1 A2 n2 c2 g) (hx : g.text.size ≤ 9223372036854775807) (hts : ∀ s ∈ g.texts, s.size ≤ 9223372036854775807) :
    Calls Tryz.prog 82 #[g.val A1 n1 c1 A2 n2 c2] w fun e w' => ∃ A n c, e = .returned (.tuple #[.slice A n c, .int .i64 C]) ∧ E.length = n ∧ Bytes w' (fun _ => True) A n c E ∧ Same w w' ∧ Same w0 w' := by
  subst hE
  subst hC
  refine (encode_spec w (h.same hs) hx hts).mono ?_
  rintro e w' ⟨v, rfl, ho, h2⟩
  obtain ⟨A, c, rfl, hb⟩ := own_bytesT ho
  exact ⟨A, _, c, rfl, rfl, hb, h2, hs.same h2⟩
theorem weight_on {F : Nat → Prop} {A1 A2 : Option Addr} {n1 c1 n2 c2 n : Nat} {g : GVal} (w0 w : World) (hn : (enc g).length = n) (hs : Same w0 w) (h : RdVal w0 F A1 n1 c1 A2 n2 c2 g) (hx : g.text.size ≤ 9223372036854775807) (hts : ∀ s ∈ g.texts, s.size ≤ 9223372036854775807) :
    Calls Tryz.prog 61 #[g.val A1 n1 c1 A2 n2 c2] w fun e w' => e = .returned (.int .i64 n) ∧ Same w w' ∧ Same w0 w' := by
  subst hn
  exact (weight_spec w (h.same hs) hx hts).mono fun _ _ ⟨h1, h2⟩ => ⟨h1, h2, hs.same h2⟩
theorem rcheck_on {F : Nat → Prop} {A1 A2 : Option Addr} {n1 c1 n2 c2 : Nat} {g : GVal} {C : Int} (w0 w : World) (hC : chk g = C) (hs : Same w0 w) (h : RdVal w0 F A1 n1 c1 A2 n2 c2 g) (hx : g.text.size ≤ 9223372036854775807) (hts : ∀ s ∈ g.texts, s.size ≤ 9223372036854775807) :
    Calls Tryz.prog 62 #[g.val A1 n1 c1 A2 n2 c2] w fun e w' => e = .returned (.int .i64 C) ∧ Same w w' ∧ Same w0 w' := by
  subst hC
  exact (rcheck_spec w (h.same hs) hx hts).mono fun _ _ ⟨h1, h2⟩ => ⟨h1, h2, hs.same h2⟩

theorem noVal_fits : noVal.Fits := ⟨⟨by simp [noVal], by simp [noVal]⟩, ⟨by simp [noVal], by simp [noVal]⟩, by simp [noVal]⟩
theorem decP_fits (l : List UInt8) : (decP l).1.Fits := by
  cases h : pVal l with
  | error e => rw [decP_err h]; exact noVal_fits
  | ok x =>
    obtain ⟨g, r⟩ := x
    rw [decP_ok h]
    exact (pVal_back h).2.1
theorem decD_fits (n : Nat) (l : List UInt8) : (decD n (decP l)).1.Fits := by
  unfold decD
  split
  · exact noVal_fits
  · exact decP_fits l

theorem check_on {F : Nat → Prop} {A1 A2 : Option Addr} {n1 c1 n2 c2 : Nat} {g : GVal} {C : Int} (w0 w : World) (hC : chk g = C) (hs : Same w0 w) (h : RdVal w0 F A1 n1 c1 A2 n2 c2 g) (hx : g.text.size ≤ 9223372036854775807) (hts : ∀ s ∈ g.texts, s.size ≤ 9223372036854775807) :
    Calls Tryz.prog 81 #[g.val A1 n1 c1 A2 n2 c2] w fun e w' => e = .returned (.int .i64 C) ∧ Same w w' ∧ Same w0 w' := by
  subst hC
  exact (check_spec w (h.same hs) hx hts).mono fun _ _ ⟨h1, h2⟩ => ⟨h1, h2, hs.same h2⟩
end Go.Proofs.YtlnademnfnhbpaaGreat
