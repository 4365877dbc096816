/- Package graph: Names of keys (a range over a function that stores into a map). -/
import Derived.Test.YtlnademnfnhbpaaGreatPropsI
import Derived.Maps.OwnIn
namespace Go.Proofs.YtlnademnfnhbpaaGreat
open Go.RowKit Go.Shelf Go.Maps
attribute [local go_sem] Oper.semAt_some

theorem wpListIn_mapUpdate_run {F : Fence} {nF : Nat} {P : Program} {w w' : World} {ops : Array Oper} {rest : List Oper} {o : Oper} {a : Act} {Q : Exit → Act → World → Prop}
    (hg : o.guard = none) (m x v : Operand) (t : TypeId) (hop : o.op = Op.mapUpdate t m x v) {mv xv vv : Value} (hm : a.eval m = mv) (hx : a.eval x = xv) (hv : a.eval v = vv)
    (hrun : (Instr.mapUpdate t mv xv vv).run P w = .ok () w') (hK : wpListIn F nF P ops Q rest (a.put o.dst undef) w') : wpListIn F nF P ops Q (o :: rest) a w := by
  refine wpListIn_plain hg fun K' hK' => ?_
  unfold Oper.wpIn
  refine ⟨by simp [Oper.about, hop], ?_⟩
  rw [Oper.semAt_plain F _ _ (by rw [hop]; intro c hc'; cases hc')]
  simp [execOp, hop, hm, hx, hv, hrun, Result.andThen]
  exact hK' _ _ hK

theorem props_spec (g : GR) (w : World) : Calls Tryz.prog 54 #[g.agg] w fun e w' => e = .returned (.func (.func 77) #[] #[.pointer (some ⟨w.heap.size, 0, none⟩)]) ∧ w' = w.alloc (.cells #[.slice g.AN g.nN g.cN, .slice g.AR g.nR g.cR] 27) := by
  obtain ⟨ns, AN, nN, cN, rs, AR, nR, cR⟩ := g
  go_enter Tryz.func54, Tryz.ntmps54
  go_wp2
  go_ret
  exact ⟨rfl, rfl⟩

/-- What hangs on the elder blocks alone. -/
theorem own_from_upd {β : Type} {B : Nat} {I : β → World → Prop} (h : ∀ s W W', I s W → Upd (fun k => B ≤ k) W W' → I s W') : OwnFrom B I := fun s W W' row hs hg hr =>
  h s W W' hs ⟨hg.os, hg.tape, hg.output, hg.size, fun k _ hn => hg.block k (by assumption) fun e => hn (hr k e.symm).1⟩

theorem keepsFrom_upd {S : Nat → Prop} {B : Nat} {W W' : World} (hu : Upd S W W') (h : ∀ k, S k → k < B) : KeepsFrom B W W' :=
  ⟨hu.size, fun k o hB hk _ => (hu.block k (Array.getElem?_eq_some_iff.1 hk).1 fun hs => absurd (h k hs) (by omega)).trans hk⟩

theorem keys_all (g : GR) : (allP g).map (fun x => x.key) = allNames g.dat 3 := by
  unfold allP allNames
  rw [if_neg (by decide), if_neg (by decide), if_pos rfl]
  simp only [List.map_append, List.map_flatMap, GR.dat, List.flatMap_map, ND.dat, RL.dat, List.map_map]
  rfl

set_option maxRecDepth 100000 in
set_option maxHeartbeats 4000000 in
theorem names3_spec {F : Nat → Prop} (w : World) (g : GR) (h : RdG w F g) (hT : (allNames g.dat 3).length ≤ 8796093022208) (hk : ∀ x ∈ allP g, x.key.size ≤ 9223372036854775807) :
    Calls Tryz.prog 25 #[g.agg, .int .i64 3] w fun e w' => ∃ (v : Value) (l : List (List UInt8)), e = .returned v ∧ IsNames (allNames g.dat 3) l ∧ w'.ownsRow w.heap.size 9 1 v l.length (l.map strV) ∧ Same w w' := by
  have hall := keys_all g
  have hlen : (allP g).length ≤ 8796093022208 := by rw [← hall, List.length_map] at hT; exact hT
  have hag : g.agg = .agg #[.slice g.AN g.nN g.cN, .slice g.AR g.nR g.cR] := rfl
  have hs0 := (((Upd.refl (fun _ => False) w).alloc (.cells #[.slice g.AN g.nN g.cN, .slice g.AR g.nR g.cR] 27)).alloc (.map #[] 0)).alloc (.cells #[.map (some (w.heap.size + 1))] 83)
  have hm0 := (MapS.made (w.alloc (.cells #[.slice g.AN g.nN g.cN, .slice g.AR g.nR g.cR] 27))).same ((Upd.refl (fun _ => False) _).alloc (.cells #[.map (some (w.heap.size + 1))] 83))
  have hb0 := ((Blk.new w 27 #[.slice g.AN g.nN g.cN, .slice g.AR g.nR g.cR]).alloc (.map #[] 0)).alloc (.cells #[.map (some (w.heap.size + 1))] 83)
  have hb5 := Blk.new ((w.alloc (.cells #[.slice g.AN g.nN g.cN, .slice g.AR g.nR g.cR] 27)).alloc (.map #[] 0)) 83 #[.map (some (w.heap.size + 1))]
  have hmm := @run_makeMap Tryz.prog
  simp only [World.size_alloc] at hm0 hb5
  have hsz : (((w.alloc (.cells #[.slice g.AN g.nN g.cN, .slice g.AR g.nR g.cR] 27)).alloc (.map #[] 0)).alloc (.cells #[.map (some (w.heap.size + 1))] 83)).heap.size = w.heap.size + 1 + 1 + 1 := by simp only [World.size_alloc]
  have HSZ := Lib.hid hsz
  clear hsz
  have HS1 := Lib.hid hs0
  have HM1 := Lib.hid hm0
  have HB0 := Lib.hid hb0
  have HB5 := Lib.hid hb5
  have HR1 := Lib.hid ((h.mono (F' := fun b => b < w.heap.size) fun b hb _ => by first | exact hb | exact hb).same hs0)
  have HAll := Lib.hid hall
  have HK := Lib.hid hk
  clear h hs0 hm0 hb0 hb5 hall hk hT
  rw [hag]
  refine (callsIn_wide (n := 5)).1 ?_
  have hf1 : Fence.wide.fn 54 := trivial
  have hf2 : Fence.wide.fn 77 := trivial
  have hf3 : Fence.wide.fn 56 := trivial
  have hf4 : Fence.wide.fn 55 := trivial
  refine callsIn_of_wp_marks Tryz.func25 rfl trivial ?_ rfl
  simp only [Tryz.ntmps25, List.size_toArray, List.length_cons, List.length_nil, Nat.reduceAdd, Nat.reduceSub, Array.replicate_succ, Array.replicate_zero, List.push_toArray, List.append_toArray, List.nil_append, List.cons_append]
  gi_wp2_with (gi_at_call 54; refine (callsIn_wide.2 (props_spec g _)).mono ?_; rintro e w2 ⟨rfl, rfl⟩)
  clear hmm
  generalize ((w.alloc (.cells #[.slice g.AN g.nN g.cN, .slice g.AR g.nR g.cR] 27)).alloc (.map #[] 0)).alloc (.cells #[.map (some (w.heap.size + 1))] 83) = w1 at *
  have hsz := HSZ.out
  have sA := (Upd.refl (fun _ => False) w1).alloc (.cells #[.slice g.AN g.nN g.cN, .slice g.AR g.nR g.cR] 27)
  have hBn := Blk.new w1 27 #[.slice g.AN g.nN g.cN, .slice g.AR g.nR g.cR]
  rw [hsz] at hBn
  have hR2 := HR1.out.same sA
  have hM2 := HM1.out.same sA
  have hB5 := HB5.out.same sA
  have hz := HB5.out.lt
  have hzw := sA.size
  have hS2 : Same w (w1.alloc (.cells #[.slice g.AN g.nN g.cN, .slice g.AR g.nR g.cR] 27)) := HS1.out.same sA
  obtain ⟨w2, hw2⟩ : ∃ w2, w1.alloc (.cells #[.slice g.AN g.nN g.cN, .slice g.AR g.nR g.cR] 27) = w2 := ⟨_, rfl⟩
  rw [hw2] at sA hBn hR2 hM2 hB5 hzw hS2 ⊢
  have hz2 : w1.heap.size + 1 = w2.heap.size := by rw [← hw2, World.size_alloc]
  clear hw2
  refine wpIn_rangeFunc_ownH rfl (by omega) (gf := 77) (lb := #[.pointer (some ⟨w.heap.size + 1 + 1 + 1, 0, none⟩)]) rfl hf2 (enters_of Tryz.func77 (by kernel_rfl) rfl)
    (props_stops Fence.wide _ hf2 rfl (by omega) (w.heap.size + 1 + 1 + 1) g (fun k => k = w.heap.size + 1 ∨ w2.heap.size ≤ k) (fun b => b < w.heap.size) (by omega) (fun b hb => by omega) w2 (fun b hb => .inr hb) hBn hR2) updK_t (updK_b fun k hk => .inr hk) (Below.refl _ _) (fun _ => rfl)
    (fun pre W => Hid (MapS W (w.heap.size + 1) pre.length (pre.map fun x => x.1.key)) ∧ Hid (Blk W (w.heap.size + 1 + 1) 83 #[.map (some (w.heap.size + 1))]) ∧ Hid (Upd (fun k => k = w.heap.size + 1) w2 W))
    (fun _ _ _ => False)
    (own_from_upd fun pre W W' ⟨h1, h3, h4⟩ hu => ⟨Lib.hid (h1.out.upd hu (by omega)), Lib.hid (h3.out.upd hu (by omega)), Lib.hid (h4.out.trans hu fun b hb hh => by omega)⟩)
    (fun _ _ _ _ _ hs _ _ => hs)
    ⟨Lib.hid hM2, Lib.hid hB5, Lib.hid (Upd.refl _ _)⟩
    (fun x a' W => ∃ bp : Nat, a' = { tmps := #[.agg #[.slice g.AN g.nN g.cN, .slice g.AR g.nR g.cR], .int .i64 3, .pointer (some ⟨w.heap.size, 0, none⟩), undef, .slice none 0 0, .pointer (some ⟨w.heap.size + 1 + 1, 0, none⟩), undef, undef, undef, undef, undef, undef, .pointer (some ⟨bp, 0, none⟩), .map (some (w.heap.size + 1)), .int .i64 3, .bool false, .bool false, undef, undef, undef, undef, undef, undef, undef, undef, undef, undef, undef, undef, undef, undef, undef, undef, undef, undef, undef, undef, .bool false, .bool false, undef, undef, undef, undef, undef, undef, undef, undef, undef, undef, undef, undef, undef, .bool true, .bool true, .agg #[.slice g.AN g.nN g.cN, .slice g.AR g.nR g.cR], .func (.func 77) #[] #[.pointer (some ⟨w.heap.size + 1 + 1 + 1, 0, none⟩)], PR.agg x.1, undef, undef, undef, undef, undef, undef, undef, undef], defers := [] } ∧ Hid (Blk W bp 45 x.1.cells.toArray))
    (fun x a' => fun _ W W' row ⟨bp, h1, h2⟩ hg hr => ⟨bp, h1, Lib.hid ((hg.block bp h2.out.lt fun e => by
      obtain ⟨o, ho, hc⟩ := (hr bp e.symm).2
      have h3 := h2.out
      unfold Blk at h3
      rw [h3] at ho
      cases ho
      cases hc).trans h2.out)⟩) ?assign ?body ?done ?stop
  case assign =>
    rintro l pre x W K ⟨h1, h3, h4⟩ hK
    have hAl := (Upd.refl (fun k => w2.heap.size ≤ k) W).alloc (.cells x.1.cells.toArray 45)
    have HKK := Lib.hid (hK _ (W.alloc (.cells x.1.cells.toArray 45)) (KeepsOthers.from (KeepsOthers.alloc W _) _) ((Upd.refl _ W).alloc _) ⟨Lib.hid (h1.out.upd hAl (by omega)), Lib.hid (h3.out.upd hAl (by omega)), Lib.hid (h4.out.alloc _)⟩ ⟨_, rfl, Lib.hid (Blk.new W _ _)⟩)
    clear hK hAl
    gi_wp2
    exact HKK.out
  case body =>
    rintro l' pre x a' W hl' hlo ⟨h1, h3, h4⟩ ⟨bp, rfl, hbx⟩ hlt
    have hx := HK.out x.1 x.2
    obtain ⟨c, W', hlook, hput, hm', hu'⟩ := h1.out.put (x := x.1.key) (by unfold maxLen; omega) (by unfold maxLen; omega)
    obtain ⟨c1, hc1⟩ : ∃ c1, IntKind.i64.wrap (c + 1) = c1 := ⟨_, rfl⟩
    rw [hc1] at hput
    have HM7 := Lib.hid hm'
    have HU7 := Lib.hid hu'
    have p1 : W.cell? ⟨bp, 0, none⟩ = some (.string x.1.key) := hbx.out.cell 0
    have p5 : W.cell? ⟨w.heap.size + 1 + 1, 0, none⟩ = some (.map (some (w.heap.size + 1))) := h3.out.cell 0
    clear hm' hu'
    gi_wp2_with (gi_at_mapUpdate; go_must (refine wpListIn_mapUpdate_run rfl _ _ _ _ rfl rfl rfl rfl hput ?_))
    have hu := HU7.out
    exact ⟨keepsFrom_upd hu fun k hk => by omega, ⟨hu.os, hu.tape, hu.output, hu.size, fun k hk hn => hu.block k hk fun e => hn (.inl e)⟩, Lib.hid (by rw [List.length_append, List.map_append]; exact HM7.out), Lib.hid (h3.out.upd hu (by omega)), Lib.hid (h4.out.trans hu fun b hb hh => hh)⟩
  case done =>
    rintro D ys W hD hys ⟨h1, h3, h4⟩ hK
    have hyl : ys.length ≤ 8796093022208 := by
      have h9 := congrArg List.length hys
      rw [List.length_map] at h9
      omega
    have HY := Lib.hid (show ys.map (fun x => x.1.key) = allNames g.dat 3 by have h9 := congrArg (List.map fun x => x.key) hys; rw [List.map_map] at h9; exact h9.trans HAll.out)
    have HD := Lib.hid (Array.getElem?_eq_some_iff.1 hK).1
    have HKd := Lib.hid hK
    have p5 : W.cell? ⟨w.heap.size + 1 + 1, 0, none⟩ = some (.map (some (w.heap.size + 1))) := h3.out.cell 0
    have HLo := Lib.hid (show w.heap.size ≤ D by omega)
    clear hK hys hD
    gi_wp2_with (gi_at_call 56; refine (callsIn_wide.2 (keys_spec _ _)).mono ?_; rintro e w8 ⟨rfl, rfl⟩)
    gi_wp2_with (gi_at_call 55; refine (callsIn_wide.2 (sorted_spec _ h1.out hyl)).mono ?_; rintro e w9 ⟨v, l, rfl, hnm, hrow, hs9⟩; have H := Lib.hid (And.intro hnm (And.intro hrow hs9)); clear hnm hrow hs9)
    have hK' : w9.heap[D]? = some (.deferred (some [])) := (H.out.2.2.block D HD.out fun h => h).trans HKd.out
    refine ⟨by simp, .inl ⟨_, _, rfl, run_takeDeferred hK', ?_⟩⟩
    have hW : Same w W := (hS2.trans h4.out fun b hb hh => by omega)
    have hW9 := hW.trans H.out.2.2 fun _ _ h => h
    have hlo := HLo.out
    have hup := (Upd.refl (fun k => k = D) w9).grown (grownBy_putObj' w9 D (.deferred none)) fun k hk => .inl (by injection hk with hk; exact hk.symm)
    have hrow := H.out.2.1
    have hDl := HD.out
    have hzW := hW.size
    have hrow' := hrow.kept (grownBy_putObj' w9 D (.deferred none)) (by
      by_cases hb : v.ownBlock = some D
      · have h8 := (hrow.lt D hb).1
        omega
      · exact .inr hb)
    refine ⟨v, ?_, v, l, rfl, by rw [← HY.out]; exact H.out.1, own_base hrow' hzW, hW9.trans hup fun b hb hh => by omega⟩
    simp [results, Tryz.f25, go_sem]
  case stop =>
    rintro D c pre W _ _ h _
    exact h.elim
end Go.Proofs.YtlnademnfnhbpaaGreat
