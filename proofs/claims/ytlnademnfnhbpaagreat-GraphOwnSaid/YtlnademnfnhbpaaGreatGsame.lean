/- Package graph: Same. -/
import Derived.Test.YtlnademnfnhbpaaGreatRead
import Derived.Test.YtlnademnfnhbpaaGreatRound
import Derived.Test.YtlnademnfnhbpaaGreatCopy
import Derived.Test.YtlnademnfnhbpaaGreatEq
import Derived.Test.YtlnademnfnhbpaaGreatRChk
import Derived.Test.YtlnademnfnhbpaaGreatGr
import Derived.BigQuiet
import Derived.Deep.LoopGhost
import Derived.Deep.QuietTactic
import Derived.Deep.DeepCutAuto
namespace Go.Proofs.YtlnademnfnhbpaaGreat
open Go.RowKit

section
variable {w0 wx : World} {g1 g2 : Nat} {t1 t2 : TypeId} {a0 a1 a2 a3 a4 b0 b1 b2 b3 b4 : Value}
/-- Two boxes of five cells, in every world that is as w0 was. -/
abbrev Keep2 (w0 : World) (g1 g2 : Nat) (a0 a1 a2 a3 a4 b0 b1 b2 b3 b4 : Value) (wx : World) : Prop :=
  Same w0 wx ∧ (wx.cell? ⟨g1, 0, none⟩ = some a0 ∧ wx.cell? ⟨g1, 1, none⟩ = some a1 ∧ wx.cell? ⟨g1, 2, none⟩ = some a2 ∧ wx.cell? ⟨g1, 3, none⟩ = some a3 ∧ wx.cell? ⟨g1, 4, none⟩ = some a4) ∧
    (wx.cell? ⟨g2, 0, none⟩ = some b0 ∧ wx.cell? ⟨g2, 1, none⟩ = some b1 ∧ wx.cell? ⟨g2, 2, none⟩ = some b2 ∧ wx.cell? ⟨g2, 3, none⟩ = some b3 ∧ wx.cell? ⟨g2, 4, none⟩ = some b4)
theorem keep2 (hb1 : Hid (Blk w0 g1 t1 #[a0, a1, a2, a3, a4])) (hb2 : Hid (Blk w0 g2 t2 #[b0, b1, b2, b3, b4])) (h : Same w0 wx) : Keep2 w0 g1 g2 a0 a1 a2 a3 a4 b0 b1 b2 b3 b4 wx :=
  ⟨h, (hb1.out.same h).five, (hb2.out.same h).five⟩
end

/-- A callee that only makes new memory, in every world that is as w0 was. -/
theorem on_same {w0 : World} {E : Ending → Prop} {n : Nat} {args : Array Value} (h : ∀ wx, Same w0 wx → Calls Tryz.prog n args wx fun x w' => E x ∧ Same wx w') :
    ∀ wx, Same w0 wx → Calls Tryz.prog n args wx fun x w' => E x ∧ Same w0 w' := fun wx hs => (h wx hs).mono fun _ _ ⟨h1, h2⟩ => ⟨h1, hs.same h2⟩

theorem copy_rd {F : Nat → Prop} {A1 A2 : Option Addr} {n1 c1 n2 c2 : Nat} {g : GVal} (w : World) (h : RdVal w F A1 n1 c1 A2 n2 c2 g) (hs1 : n1 * 8 ≤ 140737488355328) (hs2 : n2 * 16 ≤ 140737488355328) :
    Calls Tryz.prog 58 #[g.val A1 n1 c1 A2 n2 c2] w fun e w' => ∃ B1 m1 d1 B2 m2 d2, e = .returned (g.val B1 m1 d1 B2 m2 d2) ∧ RdVal w' (fun b => w.heap.size ≤ b) B1 m1 d1 B2 m2 d2 g ∧ Same w w' := by
  refine (copy_spec w h hs1 hs2).mono ?_
  rintro e w' ⟨v1, v2, rfl, ho1, ho2, hs⟩
  obtain ⟨B1, m1, d1, B2, m2, d2, hv, hrd⟩ := NewVal.rd (g := g) ⟨v1, v2, rfl, by rw [← h.len1] at ho1; exact ho1, by rw [← h.len2] at ho2; exact ho2⟩ ⟨h.kind, h.num, h.range⟩
  exact ⟨B1, m1, d1, B2, m2, d2, by rw [hv], hrd, hs⟩
theorem vsame_r {A1 A2 B1 B2 : Option Addr} {n1 c1 n2 c2 m1 d1 m2 d2 : Nat} {g h : GVal} {r : Bool} (w0 w : World) (hr : sameB g h = r) (hs : Same w0 w) (hg : RdVal w (fun _ => True) A1 n1 c1 A2 n2 c2 g) (hh : RdVal w (fun _ => True) B1 m1 d1 B2 m2 d2 h) :
    Calls Tryz.prog 104 #[g.val A1 n1 c1 A2 n2 c2, h.val B1 m1 d1 B2 m2 d2] w fun e w' => e = .returned (.bool r) ∧ Same w w' ∧ Same w0 w' := by
  subst hr
  exact (vsame_spec w hg hh).mono fun _ _ ⟨h1, h2⟩ => ⟨h1, h2, hs.same h2⟩
theorem rsame_r {A1 A2 B1 B2 : Option Addr} {n1 c1 n2 c2 m1 d1 m2 d2 : Nat} {g h : GVal} {r : Bool} (w0 w : World) (hr : sameB g h = r) (hs : Same w0 w) (hg : RdVal w (fun _ => True) A1 n1 c1 A2 n2 c2 g) (hh : RdVal w (fun _ => True) B1 m1 d1 B2 m2 d2 h) :
    Calls Tryz.prog 64 #[g.val A1 n1 c1 A2 n2 c2, h.val B1 m1 d1 B2 m2 d2] w fun e w' => e = .returned (.bool r) ∧ Same w w' ∧ Same w0 w' := by
  subst hr
  exact (rsame_spec w hg hh).mono fun _ _ ⟨h1, h2⟩ => ⟨h1, h2, hs.same h2⟩
theorem copy_on {F : Nat → Prop} {A1 A2 : Option Addr} {n1 c1 n2 c2 : Nat} {g : GVal} (w0 w : World) (hs : Same w0 w) (h : RdVal w0 F A1 n1 c1 A2 n2 c2 g) (hs1 : n1 * 8 ≤ 140737488355328) (hs2 : n2 * 16 ≤ 140737488355328) :
    Calls Tryz.prog 58 #[g.val A1 n1 c1 A2 n2 c2] w fun e w' => ∃ B1 m1 d1 B2 m2 d2, e = .returned (g.val B1 m1 d1 B2 m2 d2) ∧ RdVal w' (fun _ => True) B1 m1 d1 B2 m2 d2 g ∧ Same w w' ∧ Same w0 w' :=
  (copy_rd w (h.same hs) hs1 hs2).mono fun _ _ ⟨B1, m1, d1, B2, m2, d2, h1, h2, h3⟩ => ⟨B1, m1, d1, B2, m2, d2, h1, h2.mono fun _ _ _ => trivial, h3, hs.same h3⟩

/-- Bytes of the call's own, read. -/
theorem own_bytesT {w : World} {B : Nat} {v : Value} {bs : List UInt8} (h : OwnB w B v bs) : ∃ A c, v = .slice A bs.length c ∧ Bytes w (fun _ => True) A bs.length c bs := by
  obtain ⟨A, c, rfl, hr⟩ := own_row h
  exact ⟨A, c, rfl, Row.mono hr fun _ _ _ => trivial⟩
theorem renc_on {F : Nat → Prop} {A1 A2 : Option Addr} {n1 c1 n2 c2 : Nat} {g : GVal} {E : List UInt8} (w0 w : World) (hE : enc g = E) (hs : Same w0 w) (h : RdVal w0 F A1 n1 c1 A2 n2 c2 g) (hx : g.text.size ≤ 9223372036854775807) (hts : ∀ s ∈ g.texts, s.size ≤ 9223372036854775807) :
    Calls Tryz.prog 84 #[g.val A1 n1 c1 A2 n2 c2] w fun e w' => ∃ A n c, e = .returned (.slice A n c) ∧ E.length = n ∧ Bytes w' (fun _ => True) A n c E ∧ Same w w' ∧ Same w0 w' := by
  subst hE
  refine (rencode_spec w (h.same hs) hx hts).mono ?_
  rintro e w' ⟨v, rfl, ho, h2⟩
  obtain ⟨A, c, rfl, hb⟩ := own_bytesT ho
  exact ⟨A, _, c, rfl, rfl, hb, h2, hs.same h2⟩
theorem enc_on {F : Nat → Prop} {A1 A2 : Option Addr} {n1 c1 n2 c2 : Nat} {g : GVal} {E : List UInt8} {C : Int} (w0 w : World) (hE : enc g = E) (hC : chk g = C) (hs : Same w0 w) (h : RdVal w0 F A1 n1 c1 A2 n2 c2 g) (hx : g.text.size ≤ 9223372036854775807) (hts : ∀ s ∈ g.texts, s.size ≤ 9223372036854775807) :
    Calls Tryz.prog 82 #[g.val A1 n1 c1 A2 n2 c2] w fun e w' => ∃ A n c, e = .returned (.tuple #[.slice A n c, .int .i64 C]) ∧ E.length = n ∧ Bytes w' (fun _ => True) A n c E ∧ Same w w' ∧ Same w0 w' := by
  subst hE
  subst hC
  refine (encode_spec w (h.same hs) hx hts).mono ?_
  rintro e w' ⟨v, rfl, ho, h2⟩
  obtain ⟨A, c, rfl, hb⟩ := own_bytesT ho
  exact ⟨A, _, c, rfl, rfl, hb, h2, hs.same h2⟩
theorem weight_on {F : Nat → Prop} {A1 A2 : Option Addr} {n1 c1 n2 c2 n : Nat} {g : GVal} (w0 w : World) (hn : (enc g).length = n) (hs : Same w0 w) (h : RdVal w0 F A1 n1 c1 A2 n2 c2 g) (hx : g.text.size ≤ 9223372036854775807) (hts : ∀ s ∈ g.texts, s.size ≤ 9223372036854775807) :
    Calls Tryz.prog 61 #[g.val A1 n1 c1 A2 n2 c2] w fun e w' => e = .returned (.int .i64 n) ∧ Same w w' ∧ Same w0 w' := by
  subst hn
  exact (weight_spec w (h.same hs) hx hts).mono fun _ _ ⟨h1, h2⟩ => ⟨h1, h2, hs.same h2⟩
theorem rcheck_on {F : Nat → Prop} {A1 A2 : Option Addr} {n1 c1 n2 c2 : Nat} {g : GVal} {C : Int} (w0 w : World) (hC : chk g = C) (hs : Same w0 w) (h : RdVal w0 F A1 n1 c1 A2 n2 c2 g) (hx : g.text.size ≤ 9223372036854775807) (hts : ∀ s ∈ g.texts, s.size ≤ 9223372036854775807) :
    Calls Tryz.prog 62 #[g.val A1 n1 c1 A2 n2 c2] w fun e w' => e = .returned (.int .i64 C) ∧ Same w w' ∧ Same w0 w' := by
  subst hC
  exact (rcheck_spec w (h.same hs) hx hts).mono fun _ _ ⟨h1, h2⟩ => ⟨h1, h2, hs.same h2⟩

theorem noVal_fits : noVal.Fits := ⟨⟨by simp [noVal], by simp [noVal]⟩, ⟨by simp [noVal], by simp [noVal]⟩, by simp [noVal]⟩
theorem decP_fits (l : List UInt8) : (decP l).1.Fits := by
  cases h : pVal l with
  | error e => rw [decP_err h]; exact noVal_fits
  | ok x =>
    obtain ⟨g, r⟩ := x
    rw [decP_ok h]
    exact (pVal_back h).2.1
theorem decD_fits (n : Nat) (l : List UInt8) : (decD n (decP l)).1.Fits := by
  unfold decD
  split
  · exact noVal_fits
  · exact decP_fits l

theorem check_on {F : Nat → Prop} {A1 A2 : Option Addr} {n1 c1 n2 c2 : Nat} {g : GVal} {C : Int} (w0 w : World) (hC : chk g = C) (hs : Same w0 w) (h : RdVal w0 F A1 n1 c1 A2 n2 c2 g) (hx : g.text.size ≤ 9223372036854775807) (hts : ∀ s ∈ g.texts, s.size ≤ 9223372036854775807) :
    Calls Tryz.prog 81 #[g.val A1 n1 c1 A2 n2 c2] w fun e w' => e = .returned (.int .i64 C) ∧ Same w w' ∧ Same w0 w' := by
  subst hC
  exact (check_spec w (h.same hs) hx hts).mono fun _ _ ⟨h1, h2⟩ => ⟨h1, h2, hs.same h2⟩
end Go.Proofs.YtlnademnfnhbpaaGreat
namespace Go.Proofs.YtlnademnfnhbpaaGreat
open Go.RowKit

/-- Two lists alike, element by element. -/
def eqAll {α β : Type} (f : α → β → Bool) : List α → List β → Bool
  | [], [] => true
  | x :: l, y :: m => f x y && eqAll f l m
  | _, _ => false
def eqS (s t : ByteArray) : Bool := s.toList == t.toList
def samePr (p q : GPr) : Bool := eqS p.key q.key && sameB p.val q.val
def sameNo (p q : GNode) : Bool := decide (p.id = q.id) && eqAll eqS p.labels q.labels && eqAll samePr p.props q.props
def sameRe (p q : GRel) : Bool := decide (p.id = q.id) && eqS p.type q.type && decide (p.src = q.src) && decide (p.dst = q.dst) && eqAll samePr p.props q.props

theorem eqAll_len {α β : Type} {f : α → β → Bool} : ∀ {l : List α} {m : List β}, l.length ≠ m.length → eqAll f l m = false
  | [], [], h => absurd rfl h
  | [], _ :: _, _ => rfl
  | _ :: _, [], _ => rfl
  | x :: l, y :: m, h => by simp only [eqAll]; rw [eqAll_len (f := f) (l := l) (m := m) (by intro e; exact h (by simp [e]))]; simp
theorem eqAll_drop {α β : Type} {f : α → β → Bool} {l : List α} {m : List β} {i : Nat} {x : α} {y : β} (hx : l[i]? = some x) (hy : m[i]? = some y) : eqAll f (l.drop i) (m.drop i) = (f x y && eqAll f (l.drop (i + 1)) (m.drop (i + 1))) := by
  obtain ⟨hi, rfl⟩ := List.getElem?_eq_some_iff.1 hx
  obtain ⟨hj, rfl⟩ := List.getElem?_eq_some_iff.1 hy
  rw [List.drop_eq_getElem_cons hi, List.drop_eq_getElem_cons hj]
  rfl
theorem eqAll_map {α β γ δ : Type} {f : γ → δ → Bool} {g : α → γ} {h : β → δ} : ∀ (l : List α) (m : List β), eqAll f (l.map g) (m.map h) = eqAll (fun x y => f (g x) (h y)) l m
  | [], [] => rfl
  | [], _ :: _ => rfl
  | _ :: _, [] => rfl
  | x :: l, y :: m => by simp only [List.map_cons, eqAll]; rw [eqAll_map l m]
theorem eqAll_iff {α : Type} {f : α → α → Bool} (hf : ∀ x y, f x y = true ↔ x = y) : ∀ (l m : List α), eqAll f l m = true ↔ l = m
  | [], [] => by simp [eqAll]
  | [], _ :: _ => by simp [eqAll]
  | _ :: _, [] => by simp [eqAll]
  | x :: l, y :: m => by simp [eqAll, hf, eqAll_iff hf l m]
theorem eqS_iff (s t : ByteArray) : eqS s t = true ↔ s = t := by
  unfold eqS
  rw [beq_iff_eq]
  exact str_eq_iff s t
theorem samePr_iff (p q : GPr) : samePr p q = true ↔ p = q := by
  obtain ⟨k, g⟩ := p
  obtain ⟨k', g'⟩ := q
  simp [samePr, eqS_iff, sameB_iff]
theorem sameNo_iff (p q : GNode) : sameNo p q = true ↔ p = q := by
  obtain ⟨a, b, c⟩ := p
  obtain ⟨a', b', c'⟩ := q
  simp [sameNo, eqAll_iff eqS_iff, eqAll_iff samePr_iff, and_assoc]
theorem sameRe_iff (p q : GRel) : sameRe p q = true ↔ p = q := by
  obtain ⟨a, b, c, d, e⟩ := p
  obtain ⟨a', b', c', d', e'⟩ := q
  simp [sameRe, eqS_iff, eqAll_iff samePr_iff, and_assoc]

abbrev PR.agg (x : PR) : Value := .agg #[.string x.key, .int .i64 x.g.kind, .int .i64 x.g.num, .string x.g.text, .slice x.A1 x.n1 x.c1, .slice x.A2 x.n2 x.c2]

set_option maxHeartbeats 2000000 in
set_option maxRecDepth 100000 in
theorem sameProp1_spec {F : Nat → Prop} (w : World) (x y : PR) (hx : RdVal w F x.A1 x.n1 x.c1 x.A2 x.n2 x.c2 x.g) (hy : RdVal w F y.A1 y.n1 y.c1 y.A2 y.n2 y.c2 y.g) {r : Bool} (hr : samePr x.dat y.dat = r) :
    Calls Tryz.prog 103 #[x.agg, y.agg] w fun e w' => e = .returned (.bool r) ∧ Same w w' := by
  obtain ⟨kx, ⟨x0, x1, x2, x3, x4⟩, X1, a1, b1, X2, a2, b2⟩ := x
  obtain ⟨ky, ⟨y0, y1, y2, y3, y4⟩, Y1, c1, d1, Y2, c2, d2⟩ := y
  replace hr : (kx.toList == ky.toList && sameB ⟨x0, x1, x2, x3, x4⟩ ⟨y0, y1, y2, y3, y4⟩) = r := hr
  have hs := ((Upd.refl (fun _ => False) w).alloc (.cells #[.string kx, .int .i64 x0, .int .i64 x1, .string x2, .slice X1 a1 b1, .slice X2 a2 b2] 45)).alloc (.cells #[.string ky, .int .i64 y0, .int .i64 y1, .string y2, .slice Y1 c1 d1, .slice Y2 c2 d2] 45)
  have HX := Lib.hid ((hx.same hs).mono (F' := fun _ => True) fun _ _ _ => trivial)
  have HY := Lib.hid ((hy.same hs).mono (F' := fun _ => True) fun _ _ _ => trivial)
  have HS := Lib.hid hs
  clear hx hy hs
  cases hk : (kx.toList == ky.toList) with
  | false =>
    rw [hk] at hr
    simp only [Bool.false_and] at hr
    subst hr
    go_enter Tryz.func103, Tryz.ntmps103
    go_wp2
    go_ret
    exact ⟨rfl, HS.out⟩
  | true =>
    rw [hk] at hr
    simp only [Bool.true_and] at hr
    have HRr := Lib.hid hr
    clear hr
    go_enter Tryz.func103, Tryz.ntmps103
    go_wp2_with fail
    refine (vsame_r _ _ HRr.out (Upd.refl _ _) HX.out HY.out).mono ?_
    rintro e w2 ⟨rfl, hs2, _⟩
    have HS2 := Lib.hid (HS.out.same hs2)
    clear hs2
    go_wp2
    go_ret
    exact ⟨rfl, HS2.out⟩

set_option maxHeartbeats 4000000 in
set_option maxRecDepth 100000 in
theorem eqProps_spec {F F' : Nat → Prop} {A A' : Option Addr} {n c n' c' : Nat} {ps qs : List PR} (w : World) (h : RdPs w F A n c ps) (h' : RdPs w F' A' n' c' qs) {r : Bool} (hr : eqAll samePr (ps.map PR.dat) (qs.map PR.dat) = r) :
    Calls Tryz.prog 102 #[.slice A n c, .slice A' n' c', .func (.func 103) #[] #[]] w fun e w' => e = .returned (.bool r) ∧ Same w w' := by
  have hl := h.len
  have hl' := h'.len
  have hmx := h.row.max
  have hle := h.row.le
  have hmx' := h'.row.max
  have hle' := h'.row.le
  unfold maxLen at hmx hmx'
  have HL := Lib.hid hl
  have HL' := Lib.hid hl'
  have HA := Lib.hid h
  have HB := Lib.hid h'
  have HRr := Lib.hid hr
  clear h h' hl hl' hr
  by_cases hne : n = n'
  · subst hne
    go_enter Tryz.func102, Tryz.ntmps102
    go_wp2_with fail
    go_loopg [17] n (fun gh ix wr => ∃ i : Nat, n - i = gh ∧ i ≤ n ∧ ix = .int .i64 i ∧ Hid (Same w wr) ∧ Hid (eqAll samePr ((ps.map PR.dat).drop i) ((qs.map PR.dat).drop i) = r))
    case atStart => exact ⟨0, rfl, Nat.zero_le _, rfl, Lib.hid (Upd.refl _ _), HRr⟩
    case round =>
      obtain ⟨i, rfl, hi, rfl, KS, KE⟩ := hrel
      by_cases hlt : i < n
      · have HAw := Lib.hid (HA.out.same KS.out)
        have HBw := Lib.hid (HB.out.same KS.out)
        obtain ⟨b, o, x, rfl, hb, _, hx, hxm, r0, r1, r2, r3, r4, r5⟩ := HAw.out.at_ hlt
        obtain ⟨b', o', y, rfl, hb', _, hy, hym, q0, q1, q2, q3, q4, q5⟩ := HBw.out.at_ hlt
        have HX := Lib.hid (HAw.out.val x hxm)
        have HY := Lib.hid (HBw.out.val y hym)
        have hke := KE.out
        rw [eqAll_drop (f := samePr) (x := x.dat) (y := y.dat) (by rw [List.getElem?_map, hx]; rfl) (by rw [List.getElem?_map, hy]; rfl)] at hke
        have HK := Lib.hid hke
        clear hx hy hxm hym hke HAw HBw
        obtain ⟨kx, ⟨x0, x1, x2, x3, x4⟩, X1, a1, b1, X2, a2, b2⟩ := x
        obtain ⟨ky, ⟨y0, y1, y2, y3, y4⟩, Y1, c1, d1, Y2, c2, d2⟩ := y
        simp only at r0 r1 r2 r3 r4 r5 q0 q1 q2 q3 q4 q5
        have hs1 := (Upd.refl (fun _ => False) wr).alloc (.cells #[.string kx, .int .i64 x0, .int .i64 x1, .string x2, .slice X1 a1 b1, .slice X2 a2 b2] 45)
        have hs2 := hs1.alloc (.cells #[.string ky, .int .i64 y0, .int .i64 y1, .string y2, .slice Y1 c1 d1, .slice Y2 c2 d2] 45)
        have q0' := (hs1.cell (p := ⟨b', o' + i * 6, none⟩) hb' fun f => f).trans q0
        have q1' := (hs1.cell (p := ⟨b', o' + i * 6 + 1, none⟩) hb' fun f => f).trans q1
        have q2' := (hs1.cell (p := ⟨b', o' + i * 6 + 2, none⟩) hb' fun f => f).trans q2
        have q3' := (hs1.cell (p := ⟨b', o' + i * 6 + 3, none⟩) hb' fun f => f).trans q3
        have q4' := (hs1.cell (p := ⟨b', o' + i * 6 + 4, none⟩) hb' fun f => f).trans q4
        have q5' := (hs1.cell (p := ⟨b', o' + i * 6 + 5, none⟩) hb' fun f => f).trans q5
        have HX2 := Lib.hid (((HX.out.same hs2).mono (F' := fun _ => True) fun _ _ _ => trivial))
        have HY2 := Lib.hid (((HY.out.same hs2).mono (F' := fun _ => True) fun _ _ _ => trivial))
        have HS2 := Lib.hid (KS.out.same hs2)
        clear hs1 hs2 HX HY KS KE q0 q1 q2 q3 q4 q5
        obtain ⟨s, hs⟩ : ∃ s, samePr (PR.dat ⟨kx, ⟨x0, x1, x2, x3, x4⟩, X1, a1, b1, X2, a2, b2⟩) (PR.dat ⟨ky, ⟨y0, y1, y2, y3, y4⟩, Y1, c1, d1, Y2, c2, d2⟩) = s := ⟨_, rfl⟩
        have HSs := Lib.hid hs
        rw [hs] at HK
        clear hs
        go_wp2_with fail
        refine (sameProp1_spec _ ⟨kx, ⟨x0, x1, x2, x3, x4⟩, X1, a1, b1, X2, a2, b2⟩ ⟨ky, ⟨y0, y1, y2, y3, y4⟩, Y1, c1, d1, Y2, c2, d2⟩ HX2.out HY2.out HSs.out).mono ?_
        rintro e w3 ⟨rfl, hs3⟩
        have HS3 := Lib.hid (HS2.out.same hs3)
        clear hs3
        have hk := HK.out
        cases s with
        | false =>
          rw [Bool.false_and] at hk
          subst hk
          go_wp2
          go_ret
          exact ⟨rfl, HS3.out⟩
        | true =>
          rw [Bool.true_and] at hk
          have HK2 := Lib.hid hk
          clear hk HK
          go_wp2
          go_roundg (n - (i + 1))
          case measure => omega
          case rel => exact ⟨i + 1, rfl, by omega, by go_num, HS3, HK2⟩
      · have hk := KE.out
        rw [List.drop_of_length_le (by rw [List.length_map, HL.out]; omega), List.drop_of_length_le (by rw [List.length_map, HL'.out]; omega)] at hk
        obtain rfl : true = r := hk
        clear KE HRr
        go_wp2
        go_ret
        exact ⟨rfl, KS.out⟩
  · have hk := HRr.out
    rw [eqAll_len (by rw [List.length_map, List.length_map, HL.out, HL'.out]; exact hne)] at hk
    subst hk
    have hnb : ((n : Int) != (n' : Int)) = true := by rw [bne_iff_ne]; omega
    go_enter Tryz.func102, Tryz.ntmps102
    go_wp2
    go_ret
    exact ⟨rfl, Upd.refl _ _⟩

set_option maxHeartbeats 2000000 in
set_option maxRecDepth 100000 in
theorem eqStrs_spec {F F' : Nat → Prop} {A A' : Option Addr} {n c n' c' : Nat} {ps qs : List ByteArray} (w : World) (h : WRow w F 1 A n c (ps.map Value.string)) (h' : WRow w F' 1 A' n' c' (qs.map Value.string)) {r : Bool} (hr : eqAll eqS ps qs = r) :
    Calls Tryz.prog 75 #[.slice A n c, .slice A' n' c'] w fun e w' => e = .returned (.bool r) ∧ Same w w' := by
  have hl : ps.length = n := by have := h.len; simpa using this
  have hl' : qs.length = n' := by have := h'.len; simpa using this
  have hmx := h.max
  have hle := h.le
  have hmx' := h'.max
  have hle' := h'.le
  unfold maxLen at hmx hmx'
  have HL := Lib.hid hl
  have HL' := Lib.hid hl'
  have HA := Lib.hid h
  have HB := Lib.hid h'
  have HRr := Lib.hid hr
  clear h h' hl hl' hr
  by_cases hne : n = n'
  · subst hne
    go_enter Tryz.func75, Tryz.ntmps75
    go_wp2_with fail
    go_loopg [13] n (fun gh ix wr => ∃ i : Nat, n - i = gh ∧ i ≤ n ∧ ix = .int .i64 i ∧ Hid (Same w wr) ∧ Hid (eqAll eqS (ps.drop i) (qs.drop i) = r))
    case atStart => exact ⟨0, rfl, Nat.zero_le _, rfl, Lib.hid (Upd.refl _ _), HRr⟩
    case round =>
      obtain ⟨i, rfl, hi, rfl, KS, KE⟩ := hrel
      by_cases hlt : i < n
      · have hli : i < ps.length := by rw [HL.out]; exact hlt
        have hli' : i < qs.length := by rw [HL'.out]; exact hlt
        obtain ⟨b, o, u, rfl, hb, _, hu, r0⟩ := (HA.out.same KS.out).at_ hlt
        obtain ⟨b', o', u', rfl, hb', _, hu', q0⟩ := (HB.out.same KS.out).at_ hlt
        have hx : ps[i]? = some ps[i] := List.getElem?_eq_getElem hli
        have hy : qs[i]? = some qs[i] := List.getElem?_eq_getElem hli'
        rw [List.getElem?_map, hx] at hu
        rw [List.getElem?_map, hy] at hu'
        injection hu with hu
        injection hu' with hu'
        subst hu hu'
        have hke := KE.out
        rw [eqAll_drop hx hy] at hke
        generalize ps[i] = x at *
        generalize qs[i] = y at *
        have HK := Lib.hid hke
        clear hx hy hke hli hli'
        obtain ⟨s, hs⟩ : ∃ s, eqS x y = s := ⟨_, rfl⟩
        rw [hs] at HK
        have hs2 : (x.toList == y.toList) = s := hs
        clear hs
        go_upto_region 6 with fail
        go_cut [24] from 16 to 24 (fun s24 wx => s24 = .bool (!s) ∧ ∃ d, wx = wr.drewN d)
        case first =>
          go_quiet (fail)
          go_wp2
          go_meet
          case rel => exact ⟨by first | rfl | rw [hs2] | simp [hs2], _, rfl⟩
        case rest =>
          obtain ⟨rfl, d, rfl⟩ := hcut
          have HS3 := Lib.hid (KS.out.same ((Upd.refl _ wr).drewN d))
          clear r0 q0 hs2
          have hk := HK.out
          cases s with
          | false =>
            rw [Bool.false_and] at hk
            subst hk
            go_wp2
            go_ret
            exact ⟨rfl, HS3.out⟩
          | true =>
            rw [Bool.true_and] at hk
            have HK2 := Lib.hid hk
            clear hk HK
            go_wp2
            go_roundg (n - (i + 1))
            case measure => omega
            case rel => exact ⟨i + 1, rfl, by omega, by go_num, HS3, HK2⟩
      · have hk := KE.out
        rw [List.drop_of_length_le (by rw [HL.out]; omega), List.drop_of_length_le (by rw [HL'.out]; omega)] at hk
        obtain rfl : true = r := hk
        clear KE HRr
        go_wp2
        go_ret
        exact ⟨rfl, KS.out⟩
  · have hk := HRr.out
    rw [eqAll_len (by rw [HL.out, HL'.out]; exact hne)] at hk
    subst hk
    have hnb : ((n : Int) != (n' : Int)) = true := by rw [bne_iff_ne]; omega
    go_enter Tryz.func75, Tryz.ntmps75
    go_wp2
    go_ret
    exact ⟨rfl, Upd.refl _ _⟩

theorem sameProps_spec {F F' : Nat → Prop} {A A' : Option Addr} {n c n' c' : Nat} {ps qs : List PR} (w : World) (h : RdPs w F A n c ps) (h' : RdPs w F' A' n' c' qs) {r : Bool} (hr : eqAll samePr (ps.map PR.dat) (qs.map PR.dat) = r) :
    Calls Tryz.prog 76 #[.slice A n c, .slice A' n' c'] w fun e w' => e = .returned (.bool r) ∧ Same w w' := by
  go_enter Tryz.func76, Tryz.ntmps76
  go_wp2_with fail
  refine (eqProps_spec _ h h' hr).mono ?_
  rintro e w2 ⟨rfl, hs⟩
  go_wp2
  go_ret
  exact ⟨rfl, hs⟩

abbrev ND.agg (x : ND) : Value := .agg #[.int .i64 x.id, .slice x.AL x.nL x.cL, .slice x.AP x.nP x.cP]
abbrev RL.agg (x : RL) : Value := .agg #[.int .i64 x.id, .string x.type, .int .i64 x.src, .int .i64 x.dst, .slice x.AP x.nP x.cP]

set_option maxHeartbeats 2000000 in
set_option maxRecDepth 100000 in
theorem sameNode_spec {F F' : Nat → Prop} (w : World) (x y : ND) (hxl : WRow w F 1 x.AL x.nL x.cL (x.labels.map Value.string)) (hxp : RdPs w F x.AP x.nP x.cP x.props) (hyl : WRow w F' 1 y.AL y.nL y.cL (y.labels.map Value.string)) (hyp : RdPs w F' y.AP y.nP y.cP y.props) {r : Bool} (hr : sameNo x.dat y.dat = r) :
    Calls Tryz.prog 50 #[x.agg, y.agg] w fun e w' => e = .returned (.bool r) ∧ Same w w' := by
  obtain ⟨ix, lx, AL, nL, cL, px, AP, nP, cP⟩ := x
  obtain ⟨iy, ly, AL', nL', cL', py, AP', nP', cP'⟩ := y
  replace hr : (decide (ix = iy) && eqAll eqS lx ly && eqAll samePr (px.map PR.dat) (py.map PR.dat)) = r := hr
  have hs1 := (Upd.refl (fun _ => False) w).alloc (.cells #[.int .i64 ix, .slice AL nL cL, .slice AP nP cP] 40)
  have hs2 := hs1.alloc (.cells #[.int .i64 iy, .slice AL' nL' cL', .slice AP' nP' cP'] 40)
  have hb1 := (Blk.new w 40 #[.int .i64 ix, .slice AL nL cL, .slice AP nP cP]).alloc (.cells #[.int .i64 iy, .slice AL' nL' cL', .slice AP' nP' cP'] 40)
  have hb2 := Blk.new (w.alloc (.cells #[.int .i64 ix, .slice AL nL cL, .slice AP nP cP] 40)) 40 #[.int .i64 iy, .slice AL' nL' cL', .slice AP' nP' cP']
  rw [World.size_alloc] at hb2
  have HB1 := Lib.hid hb1
  have HB2 := Lib.hid hb2
  have HXL := Lib.hid (hxl.same hs2)
  have HXP := Lib.hid (hxp.same hs2)
  have HYL := Lib.hid (hyl.same hs2)
  have HYP := Lib.hid (hyp.same hs2)
  have HS := Lib.hid hs2
  clear hxl hxp hyl hyp hs1 hs2 hb1 hb2
  by_cases hi : ix = iy
  · subst hi
    rw [decide_eq_true rfl, Bool.true_and] at hr
    obtain ⟨s, hs⟩ : ∃ s, eqAll eqS lx ly = s := ⟨_, rfl⟩
    rw [hs] at hr
    have HRr := Lib.hid hr
    have HSs := Lib.hid hs
    clear hr hs
    go_enter Tryz.func50, Tryz.ntmps50
    go_wp2_with fail
    refine (eqStrs_spec _ HXL.out HYL.out HSs.out).mono ?_
    rintro e w2 ⟨rfl, hs2⟩
    have HS2 := Lib.hid (HS.out.same hs2)
    have HXP2 := Lib.hid (HXP.out.same hs2)
    have HYP2 := Lib.hid (HYP.out.same hs2)
    have p2 : w2.cell? ⟨w.heap.size, 2, none⟩ = some (.slice AP nP cP) := (HB1.out.same hs2).cell 2
    have q2 : w2.cell? ⟨w.heap.size + 1, 2, none⟩ = some (.slice AP' nP' cP') := (HB2.out.same hs2).cell 2
    clear hs2 HS HB1 HB2
    have hk := HRr.out
    cases s with
    | false =>
      rw [Bool.false_and] at hk
      subst hk
      go_wp2
      go_ret
      exact ⟨rfl, HS2.out⟩
    | true =>
      rw [Bool.true_and] at hk
      have HK := Lib.hid hk
      clear hk
      go_wp2_with fail
      refine (sameProps_spec _ HXP2.out HYP2.out HK.out).mono ?_
      rintro e w3 ⟨rfl, hs3⟩
      have HS3 := Lib.hid (HS2.out.same hs3)
      clear hs3
      go_wp2
      go_ret
      exact ⟨rfl, HS3.out⟩
  · rw [decide_eq_false hi, Bool.false_and, Bool.false_and] at hr
    subst hr
    have hib : (ix == iy) = false := by rw [beq_eq_false_iff_ne]; exact hi
    go_enter Tryz.func50, Tryz.ntmps50
    go_wp2
    go_ret
    exact ⟨rfl, HS.out⟩

set_option maxHeartbeats 2000000 in
set_option maxRecDepth 100000 in
theorem sameRel_spec {F F' : Nat → Prop} (w : World) (x y : RL) (hxp : RdPs w F x.AP x.nP x.cP x.props) (hyp : RdPs w F' y.AP y.nP y.cP y.props) {r : Bool} (hr : sameRe x.dat y.dat = r) :
    Calls Tryz.prog 52 #[x.agg, y.agg] w fun e w' => e = .returned (.bool r) ∧ Same w w' := by
  obtain ⟨ix, tx, sx, dx, px, AP, nP, cP⟩ := x
  obtain ⟨iy, ty, sy, dy, py, AP', nP', cP'⟩ := y
  replace hr : (decide (ix = iy) && eqS tx ty && decide (sx = sy) && decide (dx = dy) && eqAll samePr (px.map PR.dat) (py.map PR.dat)) = r := hr
  have hs1 := (Upd.refl (fun _ => False) w).alloc (.cells #[.int .i64 ix, .string tx, .int .i64 sx, .int .i64 dx, .slice AP nP cP] 47)
  have hs2 := hs1.alloc (.cells #[.int .i64 iy, .string ty, .int .i64 sy, .int .i64 dy, .slice AP' nP' cP'] 47)
  have HXP := Lib.hid (hxp.same hs2)
  have HYP := Lib.hid (hyp.same hs2)
  have HS := Lib.hid hs2
  clear hxp hyp hs1 hs2
  obtain ⟨b1, h1⟩ : ∃ b, (ix == iy) = b := ⟨_, rfl⟩
  obtain ⟨b2, h2⟩ : ∃ b, (tx.toList == ty.toList) = b := ⟨_, rfl⟩
  obtain ⟨b3, h3⟩ : ∃ b, (sx == sy) = b := ⟨_, rfl⟩
  obtain ⟨b4, h4⟩ : ∃ b, (dx == dy) = b := ⟨_, rfl⟩
  have hr2 : (b1 && b2 && b3 && b4 && eqAll samePr (px.map PR.dat) (py.map PR.dat)) = r := by
    rw [← hr, ← h1, ← h2, ← h3, ← h4]
    rfl
  have HRr := Lib.hid hr2
  clear hr hr2
  cases b1 with
  | false =>
    obtain rfl : false = r := HRr.out
    go_enter Tryz.func52, Tryz.ntmps52
    go_wp2
    go_ret
    exact ⟨rfl, HS.out⟩
  | true => cases b2 with
    | false =>
      obtain rfl : false = r := HRr.out
      go_enter Tryz.func52, Tryz.ntmps52
      go_wp2
      go_ret
      exact ⟨rfl, HS.out⟩
    | true => cases b3 with
      | false =>
        obtain rfl : false = r := HRr.out
        go_enter Tryz.func52, Tryz.ntmps52
        go_wp2
        go_ret
        exact ⟨rfl, HS.out⟩
      | true => cases b4 with
        | false =>
          obtain rfl : false = r := HRr.out
          go_enter Tryz.func52, Tryz.ntmps52
          go_wp2
          go_ret
          exact ⟨rfl, HS.out⟩
        | true =>
          have HK := Lib.hid (show eqAll samePr (px.map PR.dat) (py.map PR.dat) = r from HRr.out)
          go_enter Tryz.func52, Tryz.ntmps52
          go_wp2_with fail
          refine (sameProps_spec _ HXP.out HYP.out HK.out).mono ?_
          rintro e w3 ⟨rfl, hs3⟩
          have HS3 := Lib.hid (HS.out.same hs3)
          clear hs3
          go_wp2
          go_ret
          exact ⟨rfl, HS3.out⟩

set_option maxHeartbeats 4000000 in
set_option maxRecDepth 100000 in
theorem eqNodes_spec {F F' : Nat → Prop} {A A' : Option Addr} {n c n' c' : Nat} {ps qs : List ND} (w : World) (h : RdNs w F A n c ps) (h' : RdNs w F' A' n' c' qs) {r : Bool} (hr : eqAll sameNo (ps.map ND.dat) (qs.map ND.dat) = r) :
    Calls Tryz.prog 49 #[.slice A n c, .slice A' n' c', .func (.func 50) #[] #[]] w fun e w' => e = .returned (.bool r) ∧ Same w w' := by
  have hl := h.len
  have hl' := h'.len
  have hmx := h.row.max
  have hle := h.row.le
  have hmx' := h'.row.max
  have hle' := h'.row.le
  unfold maxLen at hmx hmx'
  have HL := Lib.hid hl
  have HL' := Lib.hid hl'
  have HA := Lib.hid h
  have HB := Lib.hid h'
  have HRr := Lib.hid hr
  clear h h' hl hl' hr
  by_cases hne : n = n'
  · subst hne
    go_enter Tryz.func49, Tryz.ntmps49
    go_wp2_with fail
    go_loopg [17] n (fun gh ix wr => ∃ i : Nat, n - i = gh ∧ i ≤ n ∧ ix = .int .i64 i ∧ Hid (Same w wr) ∧ Hid (eqAll sameNo ((ps.map ND.dat).drop i) ((qs.map ND.dat).drop i) = r))
    case atStart => exact ⟨0, rfl, Nat.zero_le _, rfl, Lib.hid (Upd.refl _ _), HRr⟩
    case round =>
      obtain ⟨i, rfl, hi, rfl, KS, KE⟩ := hrel
      by_cases hlt : i < n
      · have HAw := Lib.hid (HA.out.same KS.out)
        have HBw := Lib.hid (HB.out.same KS.out)
        obtain ⟨b, o, x, rfl, hb, _, hx, hxm, r0, r1, r2⟩ := HAw.out.at_ hlt
        obtain ⟨b', o', y, rfl, hb', _, hy, hym, q0, q1, q2⟩ := HBw.out.at_ hlt
        have HX := Lib.hid (HAw.out.pro x hxm)
        have HY := Lib.hid (HBw.out.pro y hym)
        have HXl := Lib.hid (HAw.out.lab x hxm)
        have HYl := Lib.hid (HBw.out.lab y hym)
        have hke := KE.out
        rw [eqAll_drop (f := sameNo) (x := x.dat) (y := y.dat) (by rw [List.getElem?_map, hx]; rfl) (by rw [List.getElem?_map, hy]; rfl)] at hke
        have HK := Lib.hid hke
        clear hx hy hxm hym hke HAw HBw
        obtain ⟨ix, lx, AL, nL, cL, px, AP, nP, cP⟩ := x
        obtain ⟨iy, ly, AL2, nL2, cL2, py, AP2, nP2, cP2⟩ := y
        simp only at r0 r1 r2 q0 q1 q2
        have hs1 := (Upd.refl (fun _ => False) wr).alloc (.cells #[.int .i64 ix, .slice AL nL cL, .slice AP nP cP] 40)
        have hs2 := hs1.alloc (.cells #[.int .i64 iy, .slice AL2 nL2 cL2, .slice AP2 nP2 cP2] 40)
        have q0' := (hs1.cell (p := ⟨b', o' + i * 3, none⟩) hb' fun f => f).trans q0
        have q1' := (hs1.cell (p := ⟨b', o' + i * 3 + 1, none⟩) hb' fun f => f).trans q1
        have q2' := (hs1.cell (p := ⟨b', o' + i * 3 + 2, none⟩) hb' fun f => f).trans q2
        have HX2 := Lib.hid (((HX.out.same hs2).mono (F' := fun _ => True) fun _ _ _ => trivial))
        have HY2 := Lib.hid (((HY.out.same hs2).mono (F' := fun _ => True) fun _ _ _ => trivial))
        have HXl2 := Lib.hid ((HXl.out.same hs2).mono (F' := fun _ => True) fun _ _ _ => trivial)
        have HYl2 := Lib.hid ((HYl.out.same hs2).mono (F' := fun _ => True) fun _ _ _ => trivial)
        have HS2 := Lib.hid (KS.out.same hs2)
        clear hs1 hs2 HX HY KS KE q0 q1 q2
        obtain ⟨s, hs⟩ : ∃ s, sameNo (ND.dat ⟨ix, lx, AL, nL, cL, px, AP, nP, cP⟩) (ND.dat ⟨iy, ly, AL2, nL2, cL2, py, AP2, nP2, cP2⟩) = s := ⟨_, rfl⟩
        have HSs := Lib.hid hs
        rw [hs] at HK
        clear hs
        go_wp2_with fail
        refine (sameNode_spec _ ⟨ix, lx, AL, nL, cL, px, AP, nP, cP⟩ ⟨iy, ly, AL2, nL2, cL2, py, AP2, nP2, cP2⟩ HXl2.out HX2.out HYl2.out HY2.out HSs.out).mono ?_
        rintro e w3 ⟨rfl, hs3⟩
        have HS3 := Lib.hid (HS2.out.same hs3)
        clear hs3
        have hk := HK.out
        cases s with
        | false =>
          rw [Bool.false_and] at hk
          subst hk
          go_wp2
          go_ret
          exact ⟨rfl, HS3.out⟩
        | true =>
          rw [Bool.true_and] at hk
          have HK2 := Lib.hid hk
          clear hk HK
          go_wp2
          go_roundg (n - (i + 1))
          case measure => omega
          case rel => exact ⟨i + 1, rfl, by omega, by go_num, HS3, HK2⟩
      · have hk := KE.out
        rw [List.drop_of_length_le (by rw [List.length_map, HL.out]; omega), List.drop_of_length_le (by rw [List.length_map, HL'.out]; omega)] at hk
        obtain rfl : true = r := hk
        clear KE HRr
        go_wp2
        go_ret
        exact ⟨rfl, KS.out⟩
  · have hk := HRr.out
    rw [eqAll_len (by rw [List.length_map, List.length_map, HL.out, HL'.out]; exact hne)] at hk
    subst hk
    have hnb : ((n : Int) != (n' : Int)) = true := by rw [bne_iff_ne]; omega
    go_enter Tryz.func49, Tryz.ntmps49
    go_wp2
    go_ret
    exact ⟨rfl, Upd.refl _ _⟩

set_option maxHeartbeats 4000000 in
set_option maxRecDepth 100000 in
theorem eqRels_spec {F F' : Nat → Prop} {A A' : Option Addr} {n c n' c' : Nat} {ps qs : List RL} (w : World) (h : RdRs w F A n c ps) (h' : RdRs w F' A' n' c' qs) {r : Bool} (hr : eqAll sameRe (ps.map RL.dat) (qs.map RL.dat) = r) :
    Calls Tryz.prog 51 #[.slice A n c, .slice A' n' c', .func (.func 52) #[] #[]] w fun e w' => e = .returned (.bool r) ∧ Same w w' := by
  have hl := h.len
  have hl' := h'.len
  have hmx := h.row.max
  have hle := h.row.le
  have hmx' := h'.row.max
  have hle' := h'.row.le
  unfold maxLen at hmx hmx'
  have HL := Lib.hid hl
  have HL' := Lib.hid hl'
  have HA := Lib.hid h
  have HB := Lib.hid h'
  have HRr := Lib.hid hr
  clear h h' hl hl' hr
  by_cases hne : n = n'
  · subst hne
    go_enter Tryz.func51, Tryz.ntmps51
    go_wp2_with fail
    go_loopg [17] n (fun gh ix wr => ∃ i : Nat, n - i = gh ∧ i ≤ n ∧ ix = .int .i64 i ∧ Hid (Same w wr) ∧ Hid (eqAll sameRe ((ps.map RL.dat).drop i) ((qs.map RL.dat).drop i) = r))
    case atStart => exact ⟨0, rfl, Nat.zero_le _, rfl, Lib.hid (Upd.refl _ _), HRr⟩
    case round =>
      obtain ⟨i, rfl, hi, rfl, KS, KE⟩ := hrel
      by_cases hlt : i < n
      · have HAw := Lib.hid (HA.out.same KS.out)
        have HBw := Lib.hid (HB.out.same KS.out)
        obtain ⟨b, o, x, rfl, hb, _, hx, hxm, r0, r1, r2, r3, r4⟩ := HAw.out.at_ hlt
        obtain ⟨b', o', y, rfl, hb', _, hy, hym, q0, q1, q2, q3, q4⟩ := HBw.out.at_ hlt
        have HX := Lib.hid (HAw.out.pro x hxm)
        have HY := Lib.hid (HBw.out.pro y hym)
        have hke := KE.out
        rw [eqAll_drop (f := sameRe) (x := x.dat) (y := y.dat) (by rw [List.getElem?_map, hx]; rfl) (by rw [List.getElem?_map, hy]; rfl)] at hke
        have HK := Lib.hid hke
        clear hx hy hxm hym hke HAw HBw
        obtain ⟨ix, tx, sx, dx, px, AP, nP, cP⟩ := x
        obtain ⟨iy, ty, sy, dy, py, AP2, nP2, cP2⟩ := y
        simp only at r0 r1 r2 r3 r4 q0 q1 q2 q3 q4
        have hs1 := (Upd.refl (fun _ => False) wr).alloc (.cells #[.int .i64 ix, .string tx, .int .i64 sx, .int .i64 dx, .slice AP nP cP] 47)
        have hs2 := hs1.alloc (.cells #[.int .i64 iy, .string ty, .int .i64 sy, .int .i64 dy, .slice AP2 nP2 cP2] 47)
        have q0' := (hs1.cell (p := ⟨b', o' + i * 5, none⟩) hb' fun f => f).trans q0
        have q1' := (hs1.cell (p := ⟨b', o' + i * 5 + 1, none⟩) hb' fun f => f).trans q1
        have q2' := (hs1.cell (p := ⟨b', o' + i * 5 + 2, none⟩) hb' fun f => f).trans q2
        have q3' := (hs1.cell (p := ⟨b', o' + i * 5 + 3, none⟩) hb' fun f => f).trans q3
        have q4' := (hs1.cell (p := ⟨b', o' + i * 5 + 4, none⟩) hb' fun f => f).trans q4
        have HX2 := Lib.hid (((HX.out.same hs2).mono (F' := fun _ => True) fun _ _ _ => trivial))
        have HY2 := Lib.hid (((HY.out.same hs2).mono (F' := fun _ => True) fun _ _ _ => trivial))
        have HS2 := Lib.hid (KS.out.same hs2)
        clear hs1 hs2 HX HY KS KE q0 q1 q2 q3 q4
        obtain ⟨s, hs⟩ : ∃ s, sameRe (RL.dat ⟨ix, tx, sx, dx, px, AP, nP, cP⟩) (RL.dat ⟨iy, ty, sy, dy, py, AP2, nP2, cP2⟩) = s := ⟨_, rfl⟩
        have HSs := Lib.hid hs
        rw [hs] at HK
        clear hs
        go_wp2_with fail
        refine (sameRel_spec _ ⟨ix, tx, sx, dx, px, AP, nP, cP⟩ ⟨iy, ty, sy, dy, py, AP2, nP2, cP2⟩ HX2.out HY2.out HSs.out).mono ?_
        rintro e w3 ⟨rfl, hs3⟩
        have HS3 := Lib.hid (HS2.out.same hs3)
        clear hs3
        have hk := HK.out
        cases s with
        | false =>
          rw [Bool.false_and] at hk
          subst hk
          go_wp2
          go_ret
          exact ⟨rfl, HS3.out⟩
        | true =>
          rw [Bool.true_and] at hk
          have HK2 := Lib.hid hk
          clear hk HK
          go_wp2
          go_roundg (n - (i + 1))
          case measure => omega
          case rel => exact ⟨i + 1, rfl, by omega, by go_num, HS3, HK2⟩
      · have hk := KE.out
        rw [List.drop_of_length_le (by rw [List.length_map, HL.out]; omega), List.drop_of_length_le (by rw [List.length_map, HL'.out]; omega)] at hk
        obtain rfl : true = r := hk
        clear KE HRr
        go_wp2
        go_ret
        exact ⟨rfl, KS.out⟩
  · have hk := HRr.out
    rw [eqAll_len (by rw [List.length_map, List.length_map, HL.out, HL'.out]; exact hne)] at hk
    subst hk
    have hnb : ((n : Int) != (n' : Int)) = true := by rw [bne_iff_ne]; omega
    go_enter Tryz.func51, Tryz.ntmps51
    go_wp2
    go_ret
    exact ⟨rfl, Upd.refl _ _⟩

/-- A graph. -/
structure GGraph where
  nodes : List GNode
  rels : List GRel
structure GR where
  ns : List ND
  AN : Option Addr
  nN : Nat
  cN : Nat
  rs : List RL
  AR : Option Addr
  nR : Nat
  cR : Nat
abbrev GR.agg (g : GR) : Value := .agg #[.slice g.AN g.nN g.cN, .slice g.AR g.nR g.cR]
def GR.dat (g : GR) : GGraph := ⟨g.ns.map ND.dat, g.rs.map RL.dat⟩
structure RdG (w : World) (F : Nat → Prop) (g : GR) : Prop where
  nodes : RdNs w F g.AN g.nN g.cN g.ns
  rels : RdRs w F g.AR g.nR g.cR g.rs
theorem RdG.upd {w w' : World} {F S : Nat → Prop} {g : GR} (h : RdG w F g) (hu : Upd S w w') (hs : ∀ b, F b → ¬ S b) : RdG w' F g := ⟨h.nodes.upd hu hs, h.rels.upd hu hs⟩
theorem RdG.same {w w' : World} {F : Nat → Prop} {g : GR} (h : RdG w F g) (hu : Same w w') : RdG w' F g := h.upd hu fun _ _ f => f
theorem RdG.mono {w : World} {F F' : Nat → Prop} {g : GR} (h : RdG w F g) (hf : ∀ b, b < w.heap.size → F b → F' b) : RdG w F' g := ⟨h.nodes.mono hf, h.rels.mono hf⟩
def sameG (a b : GGraph) : Bool := eqAll sameNo a.nodes b.nodes && eqAll sameRe a.rels b.rels
theorem sameG_iff (a b : GGraph) : sameG a b = true ↔ a = b := by
  obtain ⟨n, r⟩ := a
  obtain ⟨n', r'⟩ := b
  simp [sameG, eqAll_iff sameNo_iff, eqAll_iff sameRe_iff]

set_option maxHeartbeats 2000000 in
set_option maxRecDepth 100000 in
theorem gsame_spec {F F' : Nat → Prop} (w : World) (g g' : GR) (h : RdG w F g) (h' : RdG w F' g') {r : Bool} (hr : sameG g.dat g'.dat = r) :
    Calls Tryz.prog 22 #[g.agg, g'.agg] w fun e w' => e = .returned (.bool r) ∧ Same w w' := by
  obtain ⟨ns, AN, nN, cN, rs, AR, nR, cR⟩ := g
  obtain ⟨ns', AN', nN', cN', rs', AR', nR', cR'⟩ := g'
  replace hr : (eqAll sameNo (ns.map ND.dat) (ns'.map ND.dat) && eqAll sameRe (rs.map RL.dat) (rs'.map RL.dat)) = r := hr
  have hs1 := (Upd.refl (fun _ => False) w).alloc (.cells #[.slice AN nN cN, .slice AR nR cR] 27)
  have hs2 := hs1.alloc (.cells #[.slice AN' nN' cN', .slice AR' nR' cR'] 27)
  have HB1 := Lib.hid ((Blk.new w 27 #[.slice AN nN cN, .slice AR nR cR]).alloc (.cells #[.slice AN' nN' cN', .slice AR' nR' cR'] 27))
  have hb2 := Blk.new (w.alloc (.cells #[.slice AN nN cN, .slice AR nR cR] 27)) 27 #[.slice AN' nN' cN', .slice AR' nR' cR']
  rw [World.size_alloc] at hb2
  have HB2 := Lib.hid hb2
  have HA := Lib.hid (h.same hs2)
  have HA' := Lib.hid (h'.same hs2)
  have HS := Lib.hid hs2
  clear h h' hs1 hs2 hb2
  obtain ⟨s, hs⟩ : ∃ s, eqAll sameNo (ns.map ND.dat) (ns'.map ND.dat) = s := ⟨_, rfl⟩
  rw [hs] at hr
  have HRr := Lib.hid hr
  have HSs := Lib.hid hs
  clear hr hs
  go_enter Tryz.func22, Tryz.ntmps22
  go_wp2_with fail
  refine (eqNodes_spec _ HA.out.nodes HA'.out.nodes HSs.out).mono ?_
  rintro e w2 ⟨rfl, hs2⟩
  have HS2 := Lib.hid (HS.out.same hs2)
  have HA2 := Lib.hid (HA.out.same hs2)
  have HA2' := Lib.hid (HA'.out.same hs2)
  have p1 : w2.cell? ⟨w.heap.size, 1, none⟩ = some (.slice AR nR cR) := (HB1.out.same hs2).cell 1
  have q1 : w2.cell? ⟨w.heap.size + 1, 1, none⟩ = some (.slice AR' nR' cR') := (HB2.out.same hs2).cell 1
  clear hs2 HS HA HA' HB1 HB2
  have hk := HRr.out
  cases s with
  | false =>
    rw [Bool.false_and] at hk
    subst hk
    go_wp2
    go_ret
    exact ⟨rfl, HS2.out⟩
  | true =>
    rw [Bool.true_and] at hk
    have HK := Lib.hid hk
    clear hk
    go_wp2_with fail
    refine (eqRels_spec _ HA2.out.rels HA2'.out.rels HK.out).mono ?_
    rintro e w3 ⟨rfl, hs3⟩
    have HS3 := Lib.hid (HS2.out.same hs3)
    clear hs3
    go_wp2
    go_ret
    exact ⟨rfl, HS3.out⟩
end Go.Proofs.YtlnademnfnhbpaaGreat
