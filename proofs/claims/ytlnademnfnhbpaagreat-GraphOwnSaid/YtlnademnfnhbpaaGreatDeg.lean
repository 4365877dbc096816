/- Package graph: Degree; slices.Values' closure. -/
import Derived.RangeFuncNested
import Derived.RangeFuncBound
import Derived.RangeFuncCalls
import Derived.RangeFuncLeaves
import Derived.RangeFuncBox
import Derived.Shelf.Abstract
import Derived.Shelf.RegionOpen
import Derived.OwnWalkIn
import Derived.TacticsInMore
import Derived.LoopNIn
import Derived.LoopIn
import Derived.Test.YtlnademnfnhbpaaGreatInc
namespace Go.Proofs.YtlnademnfnhbpaaGreat
open Go.RowKit Go.Shelf
attribute [local go_sem] Oper.semAt_some

/-- What has come when k rounds are over. -/
def upto {α : Type} (f : Nat → α) (k : Nat) : List α := (List.range k).map f
theorem upto_succ {α : Type} (f : Nat → α) (k : Nat) : upto f (k + 1) = upto f k ++ [f k] := by simp [upto, List.range_succ]
theorem upto_length {α : Type} (f : Nat → α) (k : Nat) : (upto f k).length = k := by simp [upto]
theorem upto_all (zs : List Int) : upto (fun j => zs[j]?.getD 0) zs.length = zs := by
  apply List.ext_getElem
  · simp [upto]
  · intro i h1 h2
    simp [upto, h2]
theorem upto_take (zs : List Int) {k : Nat} (hk : k ≤ zs.length) : upto (fun j => zs[j]?.getD 0) k = zs.take k := by
  apply List.ext_getElem
  · simp [upto, hk]
  · intro i h1 h2
    have : i < zs.length := by simp [upto] at h1; omega
    simp [upto, this]

set_option maxRecDepth 100000 in
set_option maxHeartbeats 2000000 in
/-- slices.Values' closure, whatever the loop's body does, if it keeps all blocks but S's. -/
theorem values1_in (F : Fence) (n : Nat) (h7 : F.fn 80) (hro : F.round = none) (hn : 1 ≤ n) (l Bs b off len cap : Nat) (zs : List Int) (hreach : len * 8 ≤ 140737488351232) (S : Nat → Prop) (hSb : ¬ S b) (J Jx : List Int → World → Prop)
    (hY : ∀ pre x W, J pre W → pre.length < len → YieldAt F (n - 1) Tryz.prog l #[.int .i64 x] W fun e W' =>
      (e = .returned (.bool true) ∧ J (pre ++ [x]) W' ∧ Upd S W W') ∨ (e = .returned (.bool false) ∧ Jx (pre ++ [x]) W'))
    (W : World) (hb : b < W.heap.size) (hBs : W.cell? ⟨Bs, 0, none⟩ = some (.slice (some ⟨b, off, none⟩) len cap)) (hc : ∀ j, j < len → W.cell? ⟨b, off + j, none⟩ = some (.int .i64 (zs[j]?.getD 0))) (h0 : J [] W) :
    CallsIn F n Tryz.prog 80 #[.func (.yield l) #[] #[], .pointer (some ⟨Bs, 0, none⟩)] W fun e W' => (∃ v, e = .returned v) ∧
      ((∃ ys, ys = upto (fun j => zs[j]?.getD 0) len ∧ J ys W') ∨ (∃ pre, (∃ k, k ≤ len ∧ pre = upto (fun j => zs[j]?.getD 0) k) ∧ Jx pre W')) := by
  refine callsIn_of_wp Tryz.func80 rfl h7 ?_ hro
  simp only [Tryz.ntmps80, List.size_toArray, List.length_cons, List.length_nil, Nat.reduceAdd, Nat.reduceSub, Array.replicate_succ, Array.replicate_zero, List.push_toArray, List.append_toArray, List.nil_append, List.cons_append]
  gi_wp2
  gi_loopw [7] (fun i wr => ∃ k : Nat, k ≤ len ∧ i = .int .i64 k ∧ J (upto (fun j => zs[j]?.getD 0) k) wr ∧ Hid (Upd S W wr))
    (fun i _ => len - (intOf i).toNat)
  case atStart => exact ⟨0, Nat.zero_le _, rfl, h0, Lib.hid (Upd.refl _ _)⟩
  case round =>
    obtain ⟨k, hk, rfl, hJs, hnx⟩ := hrel
    have hcx : k < len → wr.cell? ⟨b, off + k, none⟩ = some (.int .i64 (zs[k]?.getD 0)) := fun h => (hnx.out.cell (p := ⟨b, off + k, none⟩) hb hSb).trans (hc k h)
    by_cases hlt : k < len
    · obtain ⟨fn, tmps, assign, body, hy, hR⟩ := hY _ (zs[k]?.getD 0) wr hJs (by rw [upto_length]; exact hlt)
      have hcx' := hcx hlt
      gi_wp2
      refine hR.mono ?_
      rintro e W3 (⟨rfl, hJ3, hk3⟩ | ⟨rfl, hJx3⟩)
      · gi_wp2
        go_roundw
        case rel => exact ⟨k + 1, by omega, by simp, by rw [upto_succ]; exact hJ3, Lib.hid (hnx.out.trans hk3 fun _ _ h => h)⟩
        case measure => simp [intOf]; omega
      · gi_wp2
        refine bodyPost_ret (results_none rfl _ _ _) rfl ?_
        exact ⟨⟨_, rfl⟩, .inr ⟨_, ⟨k + 1, by omega, (upto_succ _ _).symm⟩, hJx3⟩⟩
    · obtain rfl : k = len := by omega
      gi_wp2
      go_end0
      exact ⟨⟨_, rfl⟩, .inl ⟨_, rfl, hJs⟩⟩

/-- The slice value holds the ints zs, in a block that is none of S's; or it is nil and there are none. -/
def Ints (S : Nat → Prop) (W : World) (sv : Value) (zs : List Int) : Prop :=
  (sv = .slice none 0 0 ∧ zs = []) ∨ ∃ b off cap, sv = .slice (some ⟨b, off, none⟩) zs.length cap ∧ b < W.heap.size ∧ ¬ S b ∧ ∀ j, j < zs.length → W.cell? ⟨b, off + j, none⟩ = some (.int .i64 (zs[j]?.getD 0))
theorem Ints.below {S : Nat → Prop} {A B : World} (h : Below A.heap.size A B) {sv : Value} {zs : List Int} : Ints S A sv zs → Ints S B sv zs
  | .inl e => .inl e
  | .inr ⟨b, off, cap, e, hb, hs, hc⟩ => .inr ⟨b, off, cap, e, Nat.lt_of_lt_of_le hb h.size, hs, fun j hj => (h.cell (p := ⟨b, off + j, none⟩) hb).trans (hc j hj)⟩
theorem Ints.of_own {S : Nat → Prop} {w : World} {B c : Nat} {A : Option Addr} {l : List Int} (h : w.ownsRow B 3 1 (.slice A l.length c) l.length (l.map (Value.int .i64))) (hS : ∀ b, B ≤ b → b < w.heap.size → ¬ S b) : Ints S w (.slice A l.length c) l := by
  have hr := Row.of_own h
  cases hA : A with
  | none =>
    have h1 := hr.nil hA
    have h2 := hr.le
    have h3 : l.length = 0 := by omega
    have h4 : l = [] := List.length_eq_zero_iff.1 h3
    subst h4
    subst h1
    exact .inl ⟨rfl, rfl⟩
  | some a =>
    obtain ⟨h1, h2, h3, h4⟩ := hr.cell a hA
    obtain ⟨b, o, s⟩ := a
    subst h1
    refine .inr ⟨b, o, c, rfl, h2, hS _ h3.2 h2, fun j hj => ?_⟩
    have := h4 j (.int .i64 (l[j]?.getD 0)) (by rw [List.getElem?_map, List.getElem?_eq_getElem hj]; rfl)
    exact this

set_option maxRecDepth 100000 in
set_option maxHeartbeats 1000000 in
theorem values1_nil_in (F : Fence) (n : Nat) (h7 : F.fn 80) (hro : F.round = none) (l Bs : Nat) (J : List Int → World → Prop) (W : World) (hBs : W.cell? ⟨Bs, 0, none⟩ = some (.slice none 0 0)) (h0 : J [] W) :
    CallsIn F n Tryz.prog 80 #[.func (.yield l) #[] #[], .pointer (some ⟨Bs, 0, none⟩)] W fun e W' => (∃ v, e = .returned v) ∧ J [] W' := by
  refine callsIn_of_wp Tryz.func80 rfl h7 ?_ hro
  simp only [Tryz.ntmps80, List.size_toArray, List.length_cons, List.length_nil, Nat.reduceAdd, Nat.reduceSub, Array.replicate_succ, Array.replicate_zero, List.push_toArray, List.append_toArray, List.nil_append, List.cons_append]
  gi_wp2
  gi_loopw [7] (fun i wr => i = .int .i64 0 ∧ J [] wr) (fun _ _ => 0)
  case atStart => exact ⟨rfl, h0⟩
  case round =>
    obtain ⟨rfl, hJs⟩ := hrel
    gi_wp2
    go_end0
    exact ⟨⟨_, rfl⟩, hJs⟩

/-- What slices.Values hands back hands on all of zs, in order; or a part that stands at its head. -/
theorem values_stops (F : Fence) (n : Nat) (h7 : F.fn 80) (hro : F.round = none) (hn : 1 ≤ n) (Bs : Nat) (S : Nat → Prop) (sv : Value) (zs : List Int) (hreach : zs.length * 8 ≤ 140737488351232) (w : World) (hBs : Bs < w.heap.size)
    (hc : w.cell? ⟨Bs, 0, none⟩ = some sv) (hI : Ints S w sv zs) :
    SeqStopsK F n Tryz.prog 80 #[.pointer (some ⟨Bs, 0, none⟩)] (fun x : Int => #[Value.int .i64 x]) (Upd S) (fun ys => ys = zs) (fun pre => pre <+: zs) zs.length w := fun l J Jx W hW _ _ hY h0 => by
  have hc' := (hW.cell (p := ⟨Bs, 0, none⟩) hBs).trans hc
  rcases hI.below hW with ⟨rfl, rfl⟩ | ⟨b, off, cap, rfl, hb, hs, hcs⟩
  · exact (values1_nil_in F n h7 hro l Bs J W hc' h0).mono fun e W' ⟨he, hj⟩ => ⟨he, .inl ⟨_, rfl, hj⟩⟩
  · refine (values1_in F n h7 hro hn l Bs b off zs.length cap zs hreach S hs J Jx hY W hb hc' hcs h0).mono ?_
    rintro e W' ⟨he, ⟨ys, rfl, hj⟩ | ⟨pre, ⟨k, hk, rfl⟩, hj⟩⟩
    · exact ⟨he, .inl ⟨_, upto_all zs, hj⟩⟩
    · exact ⟨he, .inr ⟨_, by rw [upto_take zs hk]; exact List.take_prefix _ _, hj⟩⟩

/-- Two conditions on a range-func loop's keeping. -/
theorem updK_t {S : Nat → Prop} {A B C : World} (h : Upd S A B) (k : Upd S B C) : Upd S A C := h.trans k fun _ _ h => h
theorem updK_b {S : Nat → Prop} {w : World} (hS : ∀ k, w.heap.size ≤ k → S k) (W : World) (l : Nat) (o o' : Obj) (hl : w.heap.size ≤ l) (_ : W.heap[l]? = some o) (_ : o.isCells = false) (_ : o.isWalk = false) : Upd S W (W.putObj l o') :=
  (Upd.refl S W).grown (grownBy_putObj' W l o') fun k e => .inl (by injection e with e; subst e; exact hS _ hl)

set_option maxRecDepth 100000 in
set_option maxHeartbeats 2000000 in
theorem degree_spec {F : Nat → Prop} (w : World) (g : GR) (h : RdG w F g) (hn : g.nR * 8 ≤ 140737488351232) (node : Int) {k : Nat} (hk : (incP g.dat node).length = k) :
    Calls Tryz.prog 23 #[g.agg, .int .i64 node] w fun e w' => e = .returned (.int .i64 k) ∧ Same w w' := by
  obtain ⟨ns, AN, nN, cN, rs, AR, nR, cR⟩ := g
  obtain ⟨l, hl⟩ : ∃ l, incP (GR.dat ⟨ns, AN, nN, cN, rs, AR, nR, cR⟩) node = l := ⟨_, rfl⟩
  rw [hl] at hk
  have hs0 := ((Upd.refl (fun _ => False) w).alloc (.cells #[.slice AN nN cN, .slice AR nR cR] 27)).alloc (.cells #[.int .i64 0] 3)
  have HC := Lib.hid (incident_spec _ ⟨ns, AN, nN, cN, rs, AR, nR, cR⟩ (h.same hs0) hn node hl)
  have hll : l.length ≤ nR := by
    rw [← hl]
    unfold incP
    rw [List.length_map]
    refine Nat.le_trans (List.length_filter_le _ _) ?_
    simp only [GR.dat, List.length_map]
    rw [h.rels.len]
    exact Nat.le_refl _
  simp only at hn
  clear h
  refine (callsIn_wide (n := 5)).1 ?_
  have hf1 : Fence.wide.fn 27 := trivial
  have hf2 : Fence.wide.fn 80 := trivial
  refine callsIn_of_wp_marks Tryz.func23 rfl trivial ?_ rfl
  simp only [Tryz.ntmps23, List.size_toArray, List.length_cons, List.length_nil, Nat.reduceAdd, Nat.reduceSub, Array.replicate_succ, Array.replicate_zero, List.push_toArray, List.append_toArray, List.nil_append, List.cons_append]
  gi_wp2_with (gi_at_call 27; refine (callsIn_wide.2 HC.out).mono ?_; rintro e w2 ⟨B, A5, c5, rfl, hB, hb5, ho5, hs5⟩)
  have hz2 := hs5.size
  simp only [World.size_alloc] at hB hz2
  have hbN := ((Blk.new (w.alloc (.cells #[.slice AN nN cN, .slice AR nR cR] 27)) 3 #[.int .i64 0]).same hs5)
  rw [World.size_alloc] at hbN
  have hBel : Below w.heap.size w w2 := Same.below (hs0.same hs5)
  have hI : Ints (fun k => k = w.heap.size + 1 ∨ w2.heap.size ≤ k) w2 (.slice A5 l.length c5) l := Ints.of_own ho5 fun b h1 h2 h3 => by
    simp only [World.size_alloc] at h1
    omega
  refine wpIn_rangeFunc_ownG rfl (by omega) (gf := 80) (lb := #[.pointer (some ⟨B, 0, none⟩)]) rfl hf2 (enters_of Tryz.func80 (by kernel_rfl) rfl)
    (values_stops Fence.wide _ hf2 rfl (by omega) B (fun k => k = w.heap.size + 1 ∨ w2.heap.size ≤ k) _ l (by omega) w2 hb5.lt (hb5.cell 0) hI) updK_t (updK_b fun k hk => .inr hk) (Below.refl _ _) (fun _ => rfl)
    (fun pre W => (W.cell? ⟨w.heap.size + 1, 0, none⟩ = some (.int .i64 (pre.length : Int)) ∧ W.frozen? ⟨w.heap.size + 1, 0, none⟩ = false) ∧ Below w.heap.size w W)
    (fun _ _ _ => False)
    (OwnFrom.and (Own.from (fun s A B row hs hg hr => ⟨cell_kept hs.1 hg hr, (frozen_kept hs.1 hg hr).trans hs.2⟩) _) (ownFrom_below (Nat.le_refl _) (by omega)))
    (fun _ _ _ _ _ hs _ _ => hs)
    ⟨⟨hbN.cell 0, hbN.frozen 0⟩, hBel⟩
    (fun x => { tmps := #[.agg #[.slice AN nN cN, .slice AR nR cR], .int .i64 node, .pointer (some ⟨w.heap.size, 0, none⟩), undef, .pointer (some ⟨w.heap.size + 1, 0, none⟩), .agg #[.slice AN nN cN, .slice AR nR cR], .int .i64 node, .func (.func 80) #[] #[.pointer (some ⟨B, 0, none⟩)], .int .i64 x, undef, undef, undef], defers := [] }) ?assign ?body ?done ?stop
  case assign =>
    intro l x W K hK
    gi_wp2
    simpa using hK
  case body =>
    rintro l' pre x W ⟨⟨hc, hf⟩, hB2⟩ hlt
    have hw : IntKind.i64.wrap ((pre.length : Int) + 1) = (pre.length : Int) + 1 := by rw [IntKind.wrap_i64]; omega
    gi_wp2
    exact ⟨(KeepsOthers.setCell _ _ _).from _, (Upd.refl _ W).setCell (p := ⟨w.heap.size + 1, 0, none⟩) (.inl (.inl rfl)) _, ⟨by rw [World.cell?_setCell_same' _ _ _ (by rw [hc]; rfl), List.length_append, List.length_singleton]; simp, by rw [World.frozen?_setCell]; exact hf⟩, hB2.setCell (p := ⟨w.heap.size + 1, 0, none⟩) (by simp) _⟩
  case done =>
    rintro D ys W hD rfl ⟨⟨hc, hf⟩, hB2⟩ hK
    rw [hk] at hc
    gi_wp2
    have hK' := (KeepsOthers.setCell W ⟨w.heap.size + 1, 0, none⟩ (.int .i64 (k : Int))).same D _ hK rfl
    refine ⟨by simp, .inl ⟨_, _, rfl, run_takeDeferred hK', ?_⟩⟩
    have hc5 := cell_kept (World.cell?_setCell_same' W ⟨w.heap.size + 1, 0, none⟩ (.int .i64 (k : Int)) (by rw [hc]; rfl)) (grownBy_putObj' _ D (.deferred none)) (fun r e => by cases e; exact ⟨_, hK', rfl⟩)
    refine ⟨.int .i64 (k : Int), ?_, rfl, Same.of_below ((hB2.setCell (p := ⟨w.heap.size + 1, 0, none⟩) (by simp) _).trans (belowK_b (w := w) (Nat.le_refl _) _ D _ _ (by omega) hK' rfl rfl))⟩
    simp [results, Tryz.f23, go_sem, hc5]
  case stop =>
    rintro D c pre W _ _ h _
    exact h.elim
end Go.Proofs.YtlnademnfnhbpaaGreat
