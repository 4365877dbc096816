/- A map of ints by ints that the call makes. -/
import Derived.Test.YtlnademnfnhbpaaGreatWire1
import Derived.Maps.Own
import Derived.Maps.OwnSet
import Derived.Maps.OwnOps
import Derived.Maps.Views
namespace Go.Proofs.YtlnademnfnhbpaaGreat
open Go.RowKit Go.Maps

theorem keyI : Keyed Tryz.prog 3 := int_keyed Tryz.underlying3
theorem zeroI (w : World) : (zeroValue 3).run Tryz.prog w = .ok (.int .i64 0) w := by kernel_rfl
theorem wfI {x : Int} (h : -9223372036854775808 ≤ x ∧ x ≤ 9223372036854775807) : (Lit.int .i64 x).wf = true := by
  simp [Lit.wf, IntKind.min, IntKind.max, IntKind.signed, IntKind.bits]
  exact h
theorem wfI_back {x : Int} (h : (Lit.int .i64 x).wf = true) : -9223372036854775808 ≤ x ∧ x ≤ 9223372036854775807 := by
  simp [Lit.wf, IntKind.min, IntKind.max, IntKind.signed, IntKind.bits] at h
  exact h

/-- Block b is a map of the call's own: f x stands at x. -/
def MapI (w : World) (b n : Nat) (f : Int → Int) : Prop :=
  ∃ D : DataW Unit, w.ownsMap Tryz.prog 3 (plainElem Tryz.prog 3) b n D ∧ ∀ x, D.atKey (.int .i64 x) (.lit (.int .i64 0)) = .lit (.int .i64 (f x))

section
variable {w w' : World} {b n : Nat} {f : Int → Int}
theorem MapI.made (w : World) : MapI (w.alloc (.map #[] 0)) w.heap.size 0 fun _ => 0 := ⟨_, World.ownsMap_made w _ _ _, fun _ => rfl⟩
theorem MapI.lt (h : MapI w b n f) : b < w.heap.size := by obtain ⟨D, h1, _⟩ := h; exact h1.lt
theorem MapI.upd {S : Nat → Prop} (h : MapI w b n f) (hu : Upd S w w') (hs : ¬ S b) : MapI w' b n f := by
  obtain ⟨D, h1, h2⟩ := h
  have hb := h1.lt
  obtain ⟨es, clock, h3, h4⟩ := h1
  exact ⟨D, ⟨es, clock, (hu.block b hb hs).trans h3, h4⟩, h2⟩
theorem MapI.same (h : MapI w b n f) (hu : Same w w') : MapI w' b n f := h.upd hu fun f => f
theorem MapI.fit (h : MapI w b n f) {x : Int} (hx : -9223372036854775808 ≤ x ∧ x ≤ 9223372036854775807) : (Instr.lookup 61 (.map (some b)) (.int .i64 x) false).run Tryz.prog w = .ok (.int .i64 (f x)) w ∧ -9223372036854775808 ≤ f x ∧ f x ≤ 9223372036854775807 := by
  obtain ⟨D, h1, h2⟩ := h
  obtain ⟨c, hrun, hat, hw⟩ := h1.lookup_int keyI Tryz.underlying61 Tryz.underlying3 (zeroI w) (keyOf_int_mk Tryz.underlying3 (wfI hx))
  rw [h2] at hat
  injection hat with hat
  injection hat with _ hat
  subst hat
  exact ⟨hrun, wfI_back hw⟩
set_option maxRecDepth 100000 in
theorem MapI.put (h : MapI w b n f) (hn : n < maxLen) {x v : Int} (hx : -9223372036854775808 ≤ x ∧ x ≤ 9223372036854775807) (hv : -9223372036854775808 ≤ v ∧ v ≤ 9223372036854775807) :
    ∃ w', (Instr.mapUpdate 61 (.map (some b)) (.int .i64 x) (.int .i64 v)).run Tryz.prog w = .ok () w' ∧ MapI w' b (n + 1) (fun y => if y = x then v else f y) ∧ Upd (fun k => k = b) w w' := by
  obtain ⟨D, h1, h2⟩ := h
  obtain ⟨w', hrun, h3, h4⟩ := h1.update keyI Tryz.underlying61 hn (keyOf_int_mk Tryz.underlying3 (wfI hx)) (plainElem_int Tryz.underlying3 (wfI hv))
  refine ⟨w', hrun, ⟨_, h3, fun y => ?_⟩, (Upd.refl _ w).grown h4 fun k hk => .inl (by injection hk with hk; exact hk.symm)⟩
  show _ = DataW.lit (Lit.int .i64 (if y = x then v else f y))
  by_cases hy : y = x
  · subst hy
    rw [atKey_put_same h1.isMap (by simp [WideAt.IsKeyLit]), if_pos rfl]
  · rw [atKey_put_other (by intro h; injection h with _ h; exact hy h), if_neg hy]
    exact h2 y
end
/-- The store, where its run is known. -/
theorem wpList_mapUpdate_run {P : Program} {w w' : World} {ops : Array Oper} {rest : List Oper} {o : Oper} {a : Act} {Q : Exit → Act → World → Prop}
    (hg : o.guard = none) (m x v : Operand) (t : TypeId) (hop : o.op = Op.mapUpdate t m x v) {mv xv vv : Value} (hm : a.eval m = mv) (hx : a.eval x = xv) (hv : a.eval v = vv)
    (hrun : (Instr.mapUpdate t mv xv vv).run P w = .ok () w') (hK : wpList P ops Q rest (a.put o.dst undef) w') : wpList P ops Q (o :: rest) a w := by
  refine wpList_plain hg fun K' hK' => ?_
  unfold Oper.wp
  simp [execOp, hop, hm, hx, hv, hrun, Result.andThen]
  exact hK' _ _ hK
end Go.Proofs.YtlnademnfnhbpaaGreat
