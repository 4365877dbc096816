/- Package graph: Weight (a range over a function; its body draws). -/
import Derived.Test.YtlnademnfnhbpaaGreatPropsI
import Derived.Test.YtlnademnfnhbpaaGreatRWeight
namespace Go.Proofs.YtlnademnfnhbpaaGreat
open Go.RowKit Go.Shelf
attribute [local go_sem] Oper.semAt_some

theorem wrap_add (a b : Int) : IntKind.i64.wrap (IntKind.i64.wrap a + b) = IntKind.i64.wrap (a + b) := by
  simp only [IntKind.wrap_i64]
  omega
theorem own_from_updW {β : Type} {B : Nat} {I : β → World → Prop} (h : ∀ s W W', I s W → Upd (fun k => B ≤ k) W W' → I s W') : OwnFrom B I := fun s W W' row hs hg hr =>
  h s W W' hs ⟨hg.os, hg.tape, hg.output, hg.size, fun k _ hn => hg.block k (by assumption) fun e => hn (hr k e.symm).1⟩
theorem props_specW (g : GR) (w : World) : Calls Tryz.prog 54 #[g.agg] w fun e w' => e = .returned (.func (.func 77) #[] #[.pointer (some ⟨w.heap.size, 0, none⟩)]) ∧ w' = w.alloc (.cells #[.slice g.AN g.nN g.cN, .slice g.AR g.nR g.cR] 27) := by
  obtain ⟨ns, AN, nN, cN, rs, AR, nR, cR⟩ := g
  go_enter Tryz.func54, Tryz.ntmps54
  go_wp2
  go_ret
  exact ⟨rfl, rfl⟩

set_option maxRecDepth 100000 in
set_option maxHeartbeats 4000000 in
theorem weightG_spec {F : Nat → Prop} (w : World) (g : GR) (h : RdG w F g) (hf : GFit g) (hs : wsum (g.ns.flatMap ND.props) + wsum (g.rs.flatMap RL.props) ≤ 4611686018427387904) :
    Calls Tryz.prog 32 #[g.agg] w fun e w' => e = .returned (.int .i64 ((wsum (g.ns.flatMap ND.props) + wsum (g.rs.flatMap RL.props) : Nat) : Int)) ∧ Same w w' := by
  obtain ⟨T, hT⟩ : ∃ T, wsum (g.ns.flatMap ND.props) + wsum (g.rs.flatMap RL.props) = T := ⟨_, rfl⟩
  rw [hT] at hs ⊢
  have HT := Lib.hid (show wsum (allP g) = T by unfold allP; rw [wsum_app]; exact hT)
  have hag : g.agg = .agg #[.slice g.AN g.nN g.cN, .slice g.AR g.nR g.cR] := rfl
  have hs0 := ((Upd.refl (fun _ => False) w).alloc (.cells #[.slice g.AN g.nN g.cN, .slice g.AR g.nR g.cR] 27)).alloc (.cells #[.int .i64 0] 3)
  have hb0 := (Blk.new w 27 #[.slice g.AN g.nN g.cN, .slice g.AR g.nR g.cR]).alloc (.cells #[.int .i64 0] 3)
  have hb5 := Blk.new (w.alloc (.cells #[.slice g.AN g.nN g.cN, .slice g.AR g.nR g.cR] 27)) 3 #[.int .i64 0]
  simp only [World.size_alloc] at hb5
  have hsz : ((w.alloc (.cells #[.slice g.AN g.nN g.cN, .slice g.AR g.nR g.cR] 27)).alloc (.cells #[.int .i64 0] 3)).heap.size = w.heap.size + 1 + 1 := by simp only [World.size_alloc]
  have HSZ := Lib.hid hsz
  have HS1 := Lib.hid hs0
  have HB0 := Lib.hid hb0
  have HB5 := Lib.hid hb5
  have HF := Lib.hid (show ∀ x ∈ allP g, x.g.text.size ≤ 9223372036854775807 ∧ ∀ s ∈ x.g.texts, s.size ≤ 9223372036854775807 from fun x hx => by
    unfold allP at hx
    rcases List.mem_append.1 hx with hx | hx
    · obtain ⟨y, hy, hxy⟩ := List.mem_flatMap.1 hx
      exact hf.nodes y hy x hxy
    · obtain ⟨y, hy, hxy⟩ := List.mem_flatMap.1 hx
      exact hf.rels y hy x hxy)
  have HVal := Lib.hid (show ∀ (W : World), Same w W → ∀ x ∈ allP g, RdVal W F x.A1 x.n1 x.c1 x.A2 x.n2 x.c2 x.g from fun W hW x hx => by
    have hR := h.same hW
    unfold allP at hx
    rcases List.mem_append.1 hx with hx | hx
    · obtain ⟨y, hy, hxy⟩ := List.mem_flatMap.1 hx
      exact (hR.nodes.pro y hy).val x hxy
    · obtain ⟨y, hy, hxy⟩ := List.mem_flatMap.1 hx
      exact (hR.rels.pro y hy).val x hxy)
  have HR1 := Lib.hid ((h.mono (F' := fun b => b < w.heap.size) fun b hb _ => by first | exact hb | exact hb).same hs0)
  have HS := Lib.hid hs
  clear h hs0 hb0 hb5 hsz hf hs hT
  rw [hag]
  refine (callsIn_wide (n := 5)).1 ?_
  have hf1 : Fence.wide.fn 54 := trivial
  have hf2 : Fence.wide.fn 77 := trivial
  have hf3 : Fence.wide.fn 61 := trivial
  refine callsIn_of_wp_marks Tryz.func32 rfl trivial ?_ rfl
  simp only [Tryz.ntmps32, List.size_toArray, List.length_cons, List.length_nil, Nat.reduceAdd, Nat.reduceSub, Array.replicate_succ, Array.replicate_zero, List.push_toArray, List.append_toArray, List.nil_append, List.cons_append]
  gi_wp2_with (gi_at_call 54; refine (callsIn_wide.2 (props_specW g _)).mono ?_; rintro e w2 ⟨rfl, rfl⟩)
  generalize (w.alloc (.cells #[.slice g.AN g.nN g.cN, .slice g.AR g.nR g.cR] 27)).alloc (.cells #[.int .i64 0] 3) = w1 at *
  have hsz := HSZ.out
  have sA := (Upd.refl (fun _ => False) w1).alloc (.cells #[.slice g.AN g.nN g.cN, .slice g.AR g.nR g.cR] 27)
  have hBn := Blk.new w1 27 #[.slice g.AN g.nN g.cN, .slice g.AR g.nR g.cR]
  rw [hsz] at hBn
  have hR2 := HR1.out.same sA
  have hB5 := HB5.out.same sA
  have hS2 : Same w (w1.alloc (.cells #[.slice g.AN g.nN g.cN, .slice g.AR g.nR g.cR] 27)) := HS1.out.same sA
  have hz2 : (w1.alloc (.cells #[.slice g.AN g.nN g.cN, .slice g.AR g.nR g.cR] 27)).heap.size = w.heap.size + 1 + 1 + 1 := by rw [World.size_alloc, hsz]
  obtain ⟨w2, hw2⟩ : ∃ w2, w1.alloc (.cells #[.slice g.AN g.nN g.cN, .slice g.AR g.nR g.cR] 27) = w2 := ⟨_, rfl⟩
  rw [hw2] at sA hBn hR2 hB5 hS2 hz2 ⊢
  clear hw2
  refine wpIn_rangeFunc_ownH rfl (by omega) (gf := 77) (lb := #[.pointer (some ⟨w.heap.size + 1 + 1, 0, none⟩)]) rfl hf2 (enters_of Tryz.func77 (by kernel_rfl) rfl)
    (props_stops Fence.wide _ hf2 rfl (by omega) (w.heap.size + 1 + 1) g (fun k => k = w.heap.size + 1 ∨ w2.heap.size ≤ k) (fun b => b < w.heap.size) (by omega) (fun b hb => by omega) w2 (fun b hb => .inr hb) hBn hR2) updK_t (updK_b fun k hk => .inr hk) (Below.refl _ _) (fun _ => rfl)
    (fun pre W => Hid (Blk W (w.heap.size + 1) 3 #[.int .i64 (IntKind.i64.wrap (wsum (pre.map Subtype.val) : Int))]) ∧ Hid (Upd (fun k => k = w.heap.size + 1) w2 W))
    (fun _ _ _ => False)
    (own_from_updW fun pre W W' ⟨h3, h4⟩ hu => ⟨Lib.hid (h3.out.upd hu (by omega)), Lib.hid (h4.out.trans hu fun b hb hh => by omega)⟩)
    (fun _ _ _ _ _ hs _ _ => hs)
    ⟨Lib.hid hB5, Lib.hid (Upd.refl _ _)⟩
    (fun x a' W => ∃ bp : Nat, a' = { tmps := #[.agg #[.slice g.AN g.nN g.cN, .slice g.AR g.nR g.cR], .pointer (some ⟨w.heap.size, 0, none⟩), .pointer (some ⟨w.heap.size + 1, 0, none⟩), .pointer (some ⟨bp, 0, none⟩), .agg #[.slice g.AN g.nN g.cN, .slice g.AR g.nR g.cR], .func (.func 77) #[] #[.pointer (some ⟨w.heap.size + 1 + 1, 0, none⟩)], PR.agg x.1, undef, undef, undef, undef, undef, undef], defers := [] } ∧ Hid (Blk W bp 45 x.1.cells.toArray))
    (fun x a' => fun _ W W' row ⟨bp, h1, h2⟩ hg hr => ⟨bp, h1, Lib.hid ((hg.block bp h2.out.lt fun e => by
      obtain ⟨o, ho, hc⟩ := (hr bp e.symm).2
      have h3 := h2.out
      unfold Blk at h3
      rw [h3] at ho
      cases ho
      cases hc).trans h2.out)⟩) ?assign ?body ?done ?stop
  case assign =>
    rintro l pre x W K ⟨h3, h4⟩ hK
    have hAl := (Upd.refl (fun k => w2.heap.size ≤ k) W).alloc (.cells x.1.cells.toArray 45)
    have HKK := Lib.hid (hK _ (W.alloc (.cells x.1.cells.toArray 45)) (KeepsOthers.from (KeepsOthers.alloc W _) _) ((Upd.refl _ W).alloc _) ⟨Lib.hid (h3.out.upd hAl (by omega)), Lib.hid (h4.out.alloc _)⟩ ⟨_, rfl, Lib.hid (Blk.new W _ _)⟩)
    clear hK hAl
    gi_wp2
    exact HKK.out
  case body =>
    rintro l' pre x a' W hl' hlo ⟨h3, h4⟩ ⟨bp, rfl, hbx⟩ hlt
    have hx := HF.out x.1 x.2
    have hSW : Same w W := hS2.trans h4.out fun b hb hh => by omega
    have hV := HVal.out W hSW x.1 x.2
    obtain ⟨⟨kx, ⟨x0, x1, x2, x3, x4⟩, X1, a1, b1, X2, a2, b2⟩, hxm⟩ := x
    have hB : Blk W bp 45 #[.string kx, .int .i64 x0, .int .i64 x1, .string x2, .slice X1 a1 b1, .slice X2 a2 b2] := hbx.out
    have p1 : W.cell? ⟨bp, 1, none⟩ = some (.int .i64 x0) := hB.cell 1
    have p2 : W.cell? ⟨bp, 2, none⟩ = some (.int .i64 x1) := hB.cell 2
    have p3 : W.cell? ⟨bp, 3, none⟩ = some (.string x2) := hB.cell 3
    have p4 : W.cell? ⟨bp, 4, none⟩ = some (.slice X1 a1 b1) := hB.cell 4
    have p5 : W.cell? ⟨bp, 5, none⟩ = some (.slice X2 a2 b2) := hB.cell 5
    obtain ⟨sm, hsm⟩ : ∃ sm, IntKind.i64.wrap (wsum (pre.map Subtype.val) : Int) = sm := ⟨_, rfl⟩
    rw [hsm] at h3
    have c2 : W.cell? ⟨w.heap.size + 1, 0, none⟩ = some (.int .i64 sm) := h3.out.cell 0
    have f2 : W.frozen? ⟨w.heap.size + 1, 0, none⟩ = false := h3.out.frozen 0
    have hmo : Tryz.prog.follows .mixedOrders = true := by kernel_rfl
    have HX := Lib.hid hx
    have HV := Lib.hid hV
    have HB := Lib.hid hB
    obtain ⟨ln, hln⟩ : ∃ ln, (enc ⟨x0, x1, x2, x3, x4⟩).length = ln := ⟨_, rfl⟩
    have HLn := Lib.hid hln
    obtain ⟨sm2, hsm2⟩ : ∃ sm2, IntKind.i64.wrap (sm + (ln : Int)) = sm2 := ⟨_, rfl⟩
    have HSm2 := Lib.hid (show IntKind.i64.wrap (wsum ((pre ++ [(⟨⟨kx, ⟨x0, x1, x2, x3, x4⟩, X1, a1, b1, X2, a2, b2⟩, hxm⟩ : { x : PR // x ∈ allP g })]).map Subtype.val) : Int) = sm2 from by
      rw [List.map_append, wsum_app, ← hsm2, ← hsm, wrap_add, ← hln]
      simp [wsum])
    clear hx hV hbx hB hsm hln
    gi_wp2
    gi_region_with_o (gi_at_call 61; refine (CallsIn.inRound l' (callsIn_wide.2 (weight_spec _ (HV.out.same (by first | exact Upd.refl _ _ | exact (Upd.refl _ _).drew)) HX.out.1 HX.out.2))).mono ?_; rintro e w3 ⟨rfl, hs3⟩; rw [HLn.out]; have hs4 : Same W w3 := (by first | exact hs3 | exact ((Upd.refl (fun _ => False) _).drew).same hs3); have c3 : w3.cell? ⟨w.heap.size + 1, 0, none⟩ = some (.int .i64 sm) := (h3.out.same hs4).cell 0; have f3 : w3.frozen? ⟨w.heap.size + 1, 0, none⟩ = false := (h3.out.same hs4).frozen 0)
    all_goals
      have hu : Upd (fun k => k = w.heap.size + 1) W (w3.setCell ⟨w.heap.size + 1, 0, none⟩ (.int .i64 sm2)) := (hs4.mono fun _ _ f => f.elim).put1 (.int .i64 sm2)
      refine ⟨⟨hu.size, fun k o hB hk _ => (hu.block k (Array.getElem?_eq_some_iff.1 hk).1 (by omega)).trans hk⟩, ⟨hu.os, hu.tape, hu.output, hu.size, fun k hk hn => hu.block k hk fun e => hn (.inl e)⟩, Lib.hid ?_, Lib.hid (h4.out.trans hu fun b hb hh => hh)⟩
      rw [HSm2.out]
      exact (h3.out.same hs4).put 0 (.int .i64 sm2)
  case done =>
    rintro D ys W hD hys ⟨h3, h4⟩ hK
    have he : IntKind.i64.wrap (wsum (ys.map Subtype.val) : Int) = (T : Int) := by
      have h9 : ys.map Subtype.val = allP g := hys
      rw [h9, HT.out, IntKind.wrap_i64]
      have := HS.out
      omega
    rw [he] at h3
    have c2 : W.cell? ⟨w.heap.size + 1, 0, none⟩ = some (.int .i64 (T : Int)) := h3.out.cell 0
    have f2 : W.frozen? ⟨w.heap.size + 1, 0, none⟩ = false := h3.out.frozen 0
    have HSW := Lib.hid (show Same w W from hS2.trans h4.out fun b hb hh => by omega)
    clear hys he
    gi_wp2
    have hK' := (KeepsOthers.setCell W ⟨w.heap.size + 1, 0, none⟩ (.int .i64 (T : Int))).same D _ hK rfl
    refine ⟨by simp, .inl ⟨_, _, rfl, run_takeDeferred hK', ?_⟩⟩
    have hc5 := cell_kept (World.cell?_setCell_same' W ⟨w.heap.size + 1, 0, none⟩ (.int .i64 (T : Int)) (by rw [c2]; rfl)) (grownBy_putObj' _ D (.deferred none)) (fun r e => by cases e; exact ⟨_, hK', rfl⟩)
    have hup := (Upd.refl (fun k => k = D) (W.setCell ⟨w.heap.size + 1, 0, none⟩ (.int .i64 (T : Int)))).grown (grownBy_putObj' _ D (.deferred none)) fun k hk => .inl (by injection hk with hk; exact hk.symm)
    refine ⟨.int .i64 (T : Int), ?_, rfl, (HSW.out.putNew (r := w.heap.size + 1) (i := 0) (Nat.le_succ _) (.int .i64 (T : Int))).trans hup fun b hb hh => by omega⟩
    simp [results, Tryz.f32, go_sem, hc5]
  case stop =>
    rintro D c pre W _ _ h _
    exact h.elim
end Go.Proofs.YtlnademnfnhbpaaGreat
