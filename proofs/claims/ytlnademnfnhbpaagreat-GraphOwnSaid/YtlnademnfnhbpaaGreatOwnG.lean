/- Graphs of the call's own: every list in them is new memory. -/
import Derived.Test.YtlnademnfnhbpaaGreatApp
import Derived.Test.YtlnademnfnhbpaaGreatGr
import Derived.Test.YtlnademnfnhbpaaGreatGsame
namespace Go.Proofs.YtlnademnfnhbpaaGreat
open Go.RowKit

/-- Element i of an owned row of one-cell elements: it may be read and written. -/
theorem own_cell {w : World} {B n c i : Nat} {e : TypeId} {A : Option Addr} {xs : List Value} (h : w.ownsRow B e 1 (.slice A n c) n xs) (hi : i < n) :
    ∃ g u, A = some ⟨g, 0, none⟩ ∧ B ≤ g ∧ g < w.heap.size ∧ xs[i]? = some u ∧ w.cell? ⟨g, i, none⟩ = some u ∧ w.frozen? ⟨g, i, none⟩ = false ∧ ∀ u', (w.setCell ⟨g, i, none⟩ u').ownsRow B e 1 (.slice A n c) n (xs.set i u') := by
  have hl := h.1
  rcases h.2 with ⟨hv, hn⟩ | ⟨g, cap, cur, hv, hb, hg, hle, hm, hs, ht⟩
  · omega
  · injection hv with h1 h2 h3
    subst h1 h3
    have hlt : g < w.heap.size := (Array.getElem?_eq_some_iff.1 hg).1
    have hix : i < xs.length := by omega
    have hic : i < cur.size := by omega
    have hcell : cur[i]? = some xs[i] := by
      rw [← Array.getElem?_toList]
      have h2 : (cur.toList.take (n * 1))[i]? = some xs[i] := by rw [ht]; exact List.getElem?_eq_getElem hix
      rw [List.getElem?_take, if_pos (by omega)] at h2
      exact h2
    refine ⟨g, xs[i], rfl, hb, hlt, List.getElem?_eq_getElem hix, ?_, ?_, fun u' => ?_⟩
    · rw [cell_of_row w g i cur e (0, 0) hg]
      exact hcell
    · simp [World.frozen?, hg]
    · refine ⟨by rw [List.length_set]; exact hl, .inr ⟨g, c, cur.setIfInBounds i u', rfl, hb, ?_, hle, hm, by simpa using hs, ?_⟩⟩
      · simp [World.setCell, Array.getElem?_modify, hg]
      · rw [Array.toList_setIfInBounds, List.take_set, ht]

/-- Cell i of an owned row of structs. -/
theorem own_cellK {w : World} {B n c k i : Nat} {e : TypeId} {A : Option Addr} {xs : List Value} (h : w.ownsRow B e k (.slice A n c) n xs) (hi : i < n * k) :
    ∃ g u, A = some ⟨g, 0, none⟩ ∧ B ≤ g ∧ g < w.heap.size ∧ xs[i]? = some u ∧ w.cell? ⟨g, i, none⟩ = some u ∧ w.frozen? ⟨g, i, none⟩ = false ∧ ∀ u', (w.setCell ⟨g, i, none⟩ u').ownsRow B e k (.slice A n c) n (xs.set i u') := by
  have hl := h.1
  rcases h.2 with ⟨hv, hn⟩ | ⟨g, cap, cur, hv, hb, hg, hle, hm, hs, ht⟩
  · subst hn; omega
  · injection hv with h1 h2 h3
    subst h1 h3
    have hlt : g < w.heap.size := (Array.getElem?_eq_some_iff.1 hg).1
    have hix : i < xs.length := by omega
    have hck : n * k ≤ c * k := Nat.mul_le_mul_right k hle
    have hic : i < cur.size := by omega
    have hcell : cur[i]? = some xs[i] := by
      rw [← Array.getElem?_toList]
      have h2 : (cur.toList.take (n * k))[i]? = some xs[i] := by rw [ht]; exact List.getElem?_eq_getElem hix
      rw [List.getElem?_take, if_pos hi] at h2
      exact h2
    refine ⟨g, xs[i], rfl, hb, hlt, List.getElem?_eq_getElem hix, ?_, ?_, fun u' => ?_⟩
    · rw [cell_of_row w g i cur e (0, 0) hg]
      exact hcell
    · simp [World.frozen?, hg]
    · refine ⟨by rw [List.length_set]; exact hl, .inr ⟨g, c, cur.setIfInBounds i u', rfl, hb, ?_, hle, hm, by simpa using hs, ?_⟩⟩
      · simp [World.setCell, Array.getElem?_modify, hg]
      · rw [Array.toList_setIfInBounds, List.take_set, ht]

/-- The same, with nothing said of what is read. -/
theorem own_put {w : World} {B n c i : Nat} {e : TypeId} {A : Option Addr} (h : ∃ xs, w.ownsRow B e 1 (.slice A n c) n xs) (hi : i < n) :
    ∃ g, A = some ⟨g, 0, none⟩ ∧ B ≤ g ∧ g < w.heap.size ∧ (∃ u, w.cell? ⟨g, i, none⟩ = some u) ∧ w.frozen? ⟨g, i, none⟩ = false ∧ ∀ u', ∃ xs, (w.setCell ⟨g, i, none⟩ u').ownsRow B e 1 (.slice A n c) n xs := by
  obtain ⟨xs, h⟩ := h
  obtain ⟨g, u, h1, h2, h3, _, h4, h5, h6⟩ := own_cell h hi
  exact ⟨g, h1, h2, h3, ⟨u, h4⟩, h5, fun u' => ⟨_, h6 u'⟩⟩
end Go.Proofs.YtlnademnfnhbpaaGreat
namespace Go.Proofs.YtlnademnfnhbpaaGreat
open Go.RowKit

theorem info_Node : (Tryz.prog.info? 40).map (fun i => (i.zero, i.size, i.bytes)) = some (some (.agg #[.int .i64 0, .slice none 0 0, .slice none 0 0]), 3, 56) := by kernel_rfl
theorem ND_one (l : List ND) : ∀ u ∈ l.flatMap ND.cells, u.oneCell' = true := by
  intro u hu
  obtain ⟨x, _, hx⟩ := List.mem_flatMap.1 hu
  simp only [ND.cells, List.mem_cons, List.not_mem_nil, or_false] at hx
  rcases hx with rfl | rfl | rfl
  all_goals rfl
set_option maxHeartbeats 1000000 in
set_option maxRecDepth 100000 in
theorem cloneNode_spec {F : Nat → Prop} {A : Option Addr} {n c : Nat} {l : List ND} (w : World) (h : Row w F 3 A n c (l.flatMap ND.cells)) (hn : n ≤ 1099511627776) :
    Calls Tryz.prog 37 #[.slice A n c] w fun e w' => ∃ A' c', e = .returned (.slice A' n c') ∧ Hid (w'.ownsRow w.heap.size 40 3 (.slice A' n c') n (l.flatMap ND.cells)) ∧ Same w w' := by
  have heq := fun (w : World) (a : Option Addr) (n c : Nat) => Lib.run_eql_slice_nil (P := Tryz.prog) w 24 40 a n c 0 0 Tryz.underlying24
  have hmx := h.max
  have hle := h.le
  cases A with
  | none =>
    have hc := h.nil rfl
    obtain rfl : c = 0 := hc
    obtain rfl : n = 0 := by omega
    have hl : l.flatMap ND.cells = [] := List.length_eq_zero_iff.1 (by rw [h.len])
    rw [hl]
    go_enter Tryz.func37, Tryz.ntmps37
    go_wp2
    go_ret
    exact ⟨none, 0, rfl, Lib.hid (World.ownsRow_nil _ _ _ _), Upd.refl _ _⟩
  | some a =>
    have hw0 : n ≤ maxLen := by unfold maxLen; omega
    go_enter Tryz.func37, Tryz.ntmps37
    go_wp2_with (at_builtin; go_must (refine wpList_app rfl (.tmp 5) (.tmp 6) _ _ rfl w.heap.size _ _ _ _ Tryz.underlying24 info_Node rfl _ 0 [] rfl (World.ownsRow_made w #[] 0 (Nat.le_refl _) (Nat.zero_le _) rfl) rfl (src_row Tryz.underlying24 (Row.same h ((Upd.refl _ w).alloc _)) (ND_one l)) (by omega) (by omega) (by simp) ?_); intro v' w' happ)
    go_ret
    have ho := happ.own
    rw [Nat.zero_add, List.nil_append] at ho
    obtain ⟨A', c', rfl⟩ := own_form ho
    refine ⟨A', c', rfl, Lib.hid ho, ?_⟩
    exact ((Upd.refl _ w).alloc _).trans happ.upd fun b hb hv => by
      have := Option.some.inj hv
      simp only at this
      omega

theorem info_Rel : (Tryz.prog.info? 47).map (fun i => (i.zero, i.size, i.bytes)) = some (some (.agg #[.int .i64 0, .string ⟨#[]⟩, .int .i64 0, .int .i64 0, .slice none 0 0]), 5, 64) := by kernel_rfl
theorem RL_one (l : List RL) : ∀ u ∈ l.flatMap RL.cells, u.oneCell' = true := by
  intro u hu
  obtain ⟨x, _, hx⟩ := List.mem_flatMap.1 hu
  simp only [RL.cells, List.mem_cons, List.not_mem_nil, or_false] at hx
  rcases hx with rfl | rfl | rfl | rfl | rfl
  all_goals rfl
set_option maxHeartbeats 1000000 in
set_option maxRecDepth 100000 in
theorem cloneRel_spec {F : Nat → Prop} {A : Option Addr} {n c : Nat} {l : List RL} (w : World) (h : Row w F 5 A n c (l.flatMap RL.cells)) (hn : n ≤ 1099511627776) :
    Calls Tryz.prog 38 #[.slice A n c] w fun e w' => ∃ A' c', e = .returned (.slice A' n c') ∧ Hid (w'.ownsRow w.heap.size 47 5 (.slice A' n c') n (l.flatMap RL.cells)) ∧ Same w w' := by
  have heq := fun (w : World) (a : Option Addr) (n c : Nat) => Lib.run_eql_slice_nil (P := Tryz.prog) w 25 47 a n c 0 0 Tryz.underlying25
  have hmx := h.max
  have hle := h.le
  cases A with
  | none =>
    have hc := h.nil rfl
    obtain rfl : c = 0 := hc
    obtain rfl : n = 0 := by omega
    have hl : l.flatMap RL.cells = [] := List.length_eq_zero_iff.1 (by rw [h.len])
    rw [hl]
    go_enter Tryz.func38, Tryz.ntmps38
    go_wp2
    go_ret
    exact ⟨none, 0, rfl, Lib.hid (World.ownsRow_nil _ _ _ _), Upd.refl _ _⟩
  | some a =>
    have hw0 : n ≤ maxLen := by unfold maxLen; omega
    go_enter Tryz.func38, Tryz.ntmps38
    go_wp2_with (at_builtin; go_must (refine wpList_app rfl (.tmp 5) (.tmp 6) _ _ rfl w.heap.size _ _ _ _ Tryz.underlying25 info_Rel rfl _ 0 [] rfl (World.ownsRow_made w #[] 0 (Nat.le_refl _) (Nat.zero_le _) rfl) rfl (src_row Tryz.underlying25 (Row.same h ((Upd.refl _ w).alloc _)) (RL_one l)) (by omega) (by omega) (by simp) ?_); intro v' w' happ)
    go_ret
    have ho := happ.own
    rw [Nat.zero_add, List.nil_append] at ho
    obtain ⟨A', c', rfl⟩ := own_form ho
    refine ⟨A', c', rfl, Lib.hid ho, ?_⟩
    exact ((Upd.refl _ w).alloc _).trans happ.upd fun b hb hv => by
      have := Option.some.inj hv
      simp only at this
      omega
end Go.Proofs.YtlnademnfnhbpaaGreat
namespace Go.Proofs.YtlnademnfnhbpaaGreat
open Go.RowKit

theorem PR.one (x : PR) : ∀ u ∈ x.cells, u.oneCell' = true := by
  intro u hu
  simp only [PR.cells, List.mem_cons, List.not_mem_nil, or_false] at hu
  rcases hu with rfl | rfl | rfl | rfl | rfl | rfl <;> rfl
theorem ND.one (x : ND) : ∀ u ∈ x.cells, u.oneCell' = true := by
  intro u hu
  simp only [ND.cells, List.mem_cons, List.not_mem_nil, or_false] at hu
  rcases hu with rfl | rfl | rfl <;> rfl
theorem RL.one (x : RL) : ∀ u ∈ x.cells, u.oneCell' = true := by
  intro u hu
  simp only [RL.cells, List.mem_cons, List.not_mem_nil, or_false] at hu
  rcases hu with rfl | rfl | rfl | rfl | rfl <;> rfl
theorem info_Prop : (Tryz.prog.info? 45).map (fun i => (i.zero, i.size, i.bytes)) = some (some (.agg #[.string ⟨#[]⟩, .int .i64 0, .int .i64 0, .string ⟨#[]⟩, .slice none 0 0, .slice none 0 0]), 6, 96) := by kernel_rfl
theorem PR_one (l : List PR) : ∀ u ∈ l.flatMap PR.cells, u.oneCell' = true := by
  intro u hu
  obtain ⟨x, _, hx⟩ := List.mem_flatMap.1 hu
  exact x.one u hx
/-- An element laid into a block of its own, to be appended. -/
theorem Row.pr (w : World) (x : PR) : Row (w.alloc (.cells x.cells.toArray 45)) (fun b => b = w.heap.size) 6 (some ⟨w.heap.size, 0, none⟩) 1 1 x.cells :=
  Row.of_blk (Blk.new w _ x.cells.toArray) rfl (Nat.le_refl _) (by simp [maxLen])
theorem Row.nd (w : World) (x : ND) : Row (w.alloc (.cells x.cells.toArray 40)) (fun b => b = w.heap.size) 3 (some ⟨w.heap.size, 0, none⟩) 1 1 x.cells :=
  Row.of_blk (Blk.new w _ x.cells.toArray) rfl (Nat.le_refl _) (by simp [maxLen])
theorem Row.rl (w : World) (x : RL) : Row (w.alloc (.cells x.cells.toArray 47)) (fun b => b = w.heap.size) 5 (some ⟨w.heap.size, 0, none⟩) 1 1 x.cells :=
  Row.of_blk (Blk.new w _ x.cells.toArray) rfl (Nat.le_refl _) (by simp [maxLen])

/-- A value's lists of the call's own. -/
structure OwnVal (w : World) (B : Nat) (x : PR) : Prop where
  nums : w.ownsRow B 2 1 (.slice x.A1 x.n1 x.c1) x.n1 (x.g.nums.map (Value.int .i64))
  texts : w.ownsRow B 9 1 (.slice x.A2 x.n2 x.c2) x.n2 (x.g.texts.map Value.string)
  fits : x.g.Fits
/-- v is a slice of properties of the call's own that reads ps; so are all lists in them. -/
structure OwnPs (w : World) (B : Nat) (v : Value) (ps : List PR) : Prop where
  row : w.ownsRow B 45 6 v ps.length (ps.flatMap PR.cells)
  each : ∀ x ∈ ps, OwnVal w B x
structure OwnNd (w : World) (B : Nat) (x : ND) : Prop where
  lab : w.ownsRow B 9 1 (.slice x.AL x.nL x.cL) x.nL (x.labels.map Value.string)
  pro : OwnPs w B (.slice x.AP x.nP x.cP) x.props
  id : Fit64 x.id
structure OwnRl (w : World) (B : Nat) (x : RL) : Prop where
  pro : OwnPs w B (.slice x.AP x.nP x.cP) x.props
  id : Fit64 x.id ∧ Fit64 x.src ∧ Fit64 x.dst
structure OwnNs (w : World) (B : Nat) (v : Value) (ns : List ND) : Prop where
  row : w.ownsRow B 40 3 v ns.length (ns.flatMap ND.cells)
  each : ∀ x ∈ ns, OwnNd w B x
structure OwnRs (w : World) (B : Nat) (v : Value) (rs : List RL) : Prop where
  row : w.ownsRow B 47 5 v rs.length (rs.flatMap RL.cells)
  each : ∀ x ∈ rs, OwnRl w B x

section
variable {w w' : World} {B B' : Nat} {v : Value} {ps : List PR} {ns : List ND} {rs : List RL}
theorem OwnVal.upd {S : Nat → Prop} {x : PR} (h : OwnVal w B x) (hu : Upd S w w') (h1 : ∀ g, S g → (Value.slice x.A1 x.n1 x.c1).ownBlock ≠ some g) (h2 : ∀ g, S g → (Value.slice x.A2 x.n2 x.c2).ownBlock ≠ some g) : OwnVal w' B x :=
  ⟨own_upd h.nums hu fun g hg hs => h1 g hs hg, own_upd h.texts hu fun g hg hs => h2 g hs hg, h.fits⟩
theorem OwnVal.same {x : PR} (h : OwnVal w B x) (hu : Same w w') : OwnVal w' B x := h.upd hu (fun _ f => f.elim) (fun _ f => f.elim)
theorem OwnVal.base {x : PR} (h : OwnVal w B x) (hB : B' ≤ B) : OwnVal w B' x := ⟨own_base h.nums hB, own_base h.texts hB, h.fits⟩
theorem OwnPs.nil_ (w : World) (B : Nat) : OwnPs w B (.slice none 0 0) [] := ⟨World.ownsRow_nil _ _ _ _, by simp⟩
theorem OwnPs.same (h : OwnPs w B v ps) (hu : Same w w') : OwnPs w' B v ps := ⟨own_same h.row hu, fun x hx => (h.each x hx).same hu⟩
theorem OwnPs.base (h : OwnPs w B v ps) (hB : B' ≤ B) : OwnPs w B' v ps := ⟨own_base h.row hB, fun x hx => (h.each x hx).base hB⟩
theorem OwnNd.same {x : ND} (h : OwnNd w B x) (hu : Same w w') : OwnNd w' B x := ⟨own_same h.lab hu, h.pro.same hu, h.id⟩
theorem OwnNd.base {x : ND} (h : OwnNd w B x) (hB : B' ≤ B) : OwnNd w B' x := ⟨own_base h.lab hB, h.pro.base hB, h.id⟩
theorem OwnRl.same {x : RL} (h : OwnRl w B x) (hu : Same w w') : OwnRl w' B x := ⟨h.pro.same hu, h.id⟩
theorem OwnRl.base {x : RL} (h : OwnRl w B x) (hB : B' ≤ B) : OwnRl w B' x := ⟨h.pro.base hB, h.id⟩
theorem OwnNs.nil_ (w : World) (B : Nat) : OwnNs w B (.slice none 0 0) [] := ⟨World.ownsRow_nil _ _ _ _, by simp⟩
theorem OwnRs.nil_ (w : World) (B : Nat) : OwnRs w B (.slice none 0 0) [] := ⟨World.ownsRow_nil _ _ _ _, by simp⟩
theorem OwnNs.same (h : OwnNs w B v ns) (hu : Same w w') : OwnNs w' B v ns := ⟨own_same h.row hu, fun x hx => (h.each x hx).same hu⟩
theorem OwnNs.base (h : OwnNs w B v ns) (hB : B' ≤ B) : OwnNs w B' v ns := ⟨own_base h.row hB, fun x hx => (h.each x hx).base hB⟩
theorem OwnRs.same (h : OwnRs w B v rs) (hu : Same w w') : OwnRs w' B v rs := ⟨own_same h.row hu, fun x hx => (h.each x hx).same hu⟩
theorem OwnRs.base (h : OwnRs w B v rs) (hB : B' ≤ B) : OwnRs w B' v rs := ⟨own_base h.row hB, fun x hx => (h.each x hx).base hB⟩

/-- Blocks of the element type e. -/
def OfT (w : World) (e : TypeId) (g : Nat) : Prop := ∃ cs, Blk w g e cs
theorem own_ofT {base k n : Nat} {e : TypeId} {xs : List Value} (h : w.ownsRow base e k v n xs) {g : Nat} (hg : v.ownBlock = some g) : OfT w e g := by
  rcases h.2 with ⟨rfl, _⟩ | ⟨b, cap, cur, rfl, _, hh, _⟩
  · simp [Value.ownBlock] at hg
  · obtain rfl : b = g := by simpa [Value.ownBlock] using hg
    exact ⟨cur, hh⟩
theorem OfT.ne {e e' : TypeId} {g : Nat} (h : OfT w e g) (h' : OfT w e' g) : e = e' := by
  obtain ⟨c, h1⟩ := h
  obtain ⟨c', h2⟩ := h'
  unfold Blk at h1 h2
  rw [h1] at h2
  injection h2 with h2
  injection h2
/-- What stands in blocks of one element type has turned: all of other types stays. -/
theorem own_type {S : Nat → Prop} {e e' : TypeId} {base k n : Nat} {xs : List Value} (h : w.ownsRow base e k v n xs) (hu : Upd S w w') (hS : ∀ g, g < w.heap.size → S g → OfT w e' g) (hne : e ≠ e') : w'.ownsRow base e k v n xs :=
  own_upd h hu fun g hg hs => hne ((own_ofT h hg).ne (hS g (by obtain ⟨c, hc⟩ := own_ofT h hg; exact hc.lt) hs))
theorem OwnVal.type {S : Nat → Prop} {e' : TypeId} {x : PR} (h : OwnVal w B x) (hu : Upd S w w') (hS : ∀ g, g < w.heap.size → S g → OfT w e' g) (h1 : 2 ≠ e') (h2 : 9 ≠ e') : OwnVal w' B x :=
  ⟨own_type h.nums hu hS h1, own_type h.texts hu hS h2, h.fits⟩
theorem OwnPs.type {S : Nat → Prop} {e' : TypeId} (h : OwnPs w B v ps) (hu : Upd S w w') (hS : ∀ g, g < w.heap.size → S g → OfT w e' g) (h0 : 45 ≠ e') (h1 : 2 ≠ e') (h2 : 9 ≠ e') : OwnPs w' B v ps :=
  ⟨own_type h.row hu hS h0, fun x hx => (h.each x hx).type hu hS h1 h2⟩
theorem OwnNd.type {S : Nat → Prop} {e' : TypeId} {x : ND} (h : OwnNd w B x) (hu : Upd S w w') (hS : ∀ g, g < w.heap.size → S g → OfT w e' g) (h0 : 45 ≠ e') (h1 : 2 ≠ e') (h2 : 9 ≠ e') : OwnNd w' B x :=
  ⟨own_type h.lab hu hS h2, h.pro.type hu hS h0 h1 h2, h.id⟩
theorem OwnRl.type {S : Nat → Prop} {e' : TypeId} {x : RL} (h : OwnRl w B x) (hu : Upd S w w') (hS : ∀ g, g < w.heap.size → S g → OfT w e' g) (h0 : 45 ≠ e') (h1 : 2 ≠ e') (h2 : 9 ≠ e') : OwnRl w' B x :=
  ⟨h.pro.type hu hS h0 h1 h2, h.id⟩

theorem OwnNs.type {S : Nat → Prop} {e' : TypeId} (h : OwnNs w B v ns) (hu : Upd S w w') (hS : ∀ g, g < w.heap.size → S g → OfT w e' g) (hn : 40 ≠ e') (h0 : 45 ≠ e') (h1 : 2 ≠ e') (h2 : 9 ≠ e') : OwnNs w' B v ns :=
  ⟨own_type h.row hu hS hn, fun x hx => (h.each x hx).type hu hS h0 h1 h2⟩
theorem OwnRs.type {S : Nat → Prop} {e' : TypeId} (h : OwnRs w B v rs) (hu : Upd S w w') (hS : ∀ g, g < w.heap.size → S g → OfT w e' g) (hn : 47 ≠ e') (h0 : 45 ≠ e') (h1 : 2 ≠ e') (h2 : 9 ≠ e') : OwnRs w' B v rs :=
  ⟨own_type h.row hu hS hn, fun x hx => (h.each x hx).type hu hS h0 h1 h2⟩
/-- One element more. -/
theorem OwnPs.snoc {v' : Value} {x : PR} (h : OwnPs w B v ps) (hg : Grew w B 45 6 v (ps.length + 1) (ps.flatMap PR.cells ++ x.cells) v' w') (hx : OwnVal w B x) : OwnPs w' B v' (ps ++ [x]) := by
  have hS : ∀ g, g < w.heap.size → v.ownBlock = some g → OfT w 45 g := fun g _ hg => own_ofT h.row hg
  refine ⟨?_, fun y hy => ?_⟩
  · rw [List.length_append, List.flatMap_append]
    simpa using hg.own
  · rcases List.mem_append.1 hy with hy | hy
    · exact (h.each y hy).type hg.upd hS (by decide) (by decide)
    · obtain rfl : y = x := by simpa using hy
      exact hx.type hg.upd hS (by decide) (by decide)
theorem OwnNs.snoc {v' : Value} {x : ND} (h : OwnNs w B v ns) (hg : Grew w B 40 3 v (ns.length + 1) (ns.flatMap ND.cells ++ x.cells) v' w') (hx : OwnNd w B x) : OwnNs w' B v' (ns ++ [x]) := by
  have hS : ∀ g, g < w.heap.size → v.ownBlock = some g → OfT w 40 g := fun g _ hg => own_ofT h.row hg
  refine ⟨?_, fun y hy => ?_⟩
  · rw [List.length_append, List.flatMap_append]
    simpa using hg.own
  · rcases List.mem_append.1 hy with hy | hy
    · exact (h.each y hy).type hg.upd hS (by decide) (by decide) (by decide)
    · obtain rfl : y = x := by simpa using hy
      exact hx.type hg.upd hS (by decide) (by decide) (by decide)
theorem OwnRs.snoc {v' : Value} {x : RL} (h : OwnRs w B v rs) (hg : Grew w B 47 5 v (rs.length + 1) (rs.flatMap RL.cells ++ x.cells) v' w') (hx : OwnRl w B x) : OwnRs w' B v' (rs ++ [x]) := by
  have hS : ∀ g, g < w.heap.size → v.ownBlock = some g → OfT w 47 g := fun g _ hg => own_ofT h.row hg
  refine ⟨?_, fun y hy => ?_⟩
  · rw [List.length_append, List.flatMap_append]
    simpa using hg.own
  · rcases List.mem_append.1 hy with hy | hy
    · exact (h.each y hy).type hg.upd hS (by decide) (by decide) (by decide)
    · obtain rfl : y = x := by simpa using hy
      exact hx.type hg.upd hS (by decide) (by decide) (by decide)

/-- What is owned, read. -/
theorem own_rdK {base k n c : Nat} {A : Option Addr} {e : TypeId} {xs : List Value} (h : w.ownsRow base e k (.slice A n c) n xs) : WRow w (fun b => base ≤ b ∧ b < w.heap.size) k A n c xs :=
  (Row.mono (Row.of_own h) fun _ hb hh => ⟨hh.2, hb⟩).weak
theorem OwnVal.rd {x : PR} (h : OwnVal w B x) : RdVal w (fun b => B ≤ b ∧ b < w.heap.size) x.A1 x.n1 x.c1 x.A2 x.n2 x.c2 x.g :=
  ⟨own_rdK h.nums, own_rdK h.texts, h.fits.kind, h.fits.num, h.fits.range⟩
theorem OwnPs.rd {A : Option Addr} {n c : Nat} (h : OwnPs w B (.slice A n c) ps) : RdPs w (fun b => B ≤ b ∧ b < w.heap.size) A n c ps := by
  have h1 := h.row
  obtain ⟨A', c', e⟩ := own_form h1
  injection e with e1 e2 e3
  subst e1 e3
  rw [← e2] at h1
  exact ⟨own_rdK h1, fun x hx => (h.each x hx).rd⟩
theorem OwnNs.rd {A : Option Addr} {n c : Nat} (h : OwnNs w B (.slice A n c) ns) : RdNs w (fun b => B ≤ b ∧ b < w.heap.size) A n c ns := by
  have h1 := h.row
  obtain ⟨A', c', e⟩ := own_form h1
  injection e with e1 e2 e3
  subst e1 e3
  rw [← e2] at h1
  exact ⟨own_rdK h1, fun x hx => own_rdK (h.each x hx).lab, fun x hx => (h.each x hx).pro.rd, fun x hx => (h.each x hx).id⟩
theorem OwnRs.rd {A : Option Addr} {n c : Nat} (h : OwnRs w B (.slice A n c) rs) : RdRs w (fun b => B ≤ b ∧ b < w.heap.size) A n c rs := by
  have h1 := h.row
  obtain ⟨A', c', e⟩ := own_form h1
  injection e with e1 e2 e3
  subst e1 e3
  rw [← e2] at h1
  exact ⟨own_rdK h1, fun x hx => (h.each x hx).pro.rd, fun x hx => (h.each x hx).id⟩
end

/-- A graph of the call's own. -/
structure OwnG (w : World) (B : Nat) (g : GR) : Prop where
  nodes : OwnNs w B (.slice g.AN g.nN g.cN) g.ns
  rels : OwnRs w B (.slice g.AR g.nR g.cR) g.rs
section
variable {w w' : World} {B B' : Nat} {g : GR}
theorem OwnG.same (h : OwnG w B g) (hu : Same w w') : OwnG w' B g := ⟨h.nodes.same hu, h.rels.same hu⟩
theorem OwnG.base (h : OwnG w B g) (hB : B' ≤ B) : OwnG w B' g := ⟨h.nodes.base hB, h.rels.base hB⟩
theorem OwnG.rd (h : OwnG w B g) : RdG w (fun b => B ≤ b ∧ b < w.heap.size) g := ⟨h.nodes.rd, h.rels.rd⟩
end
/-- A weak row as what is appended. -/
theorem src_wrow {P : Program} {w : World} {F : Nat → Prop} {k : Nat} {tx e : TypeId} (ht : P.underlying tx = some (.slice e)) {A : Option Addr} {m c : Nat} {news : List Value} (h : WRow w F k A m c news) (hone : ∀ u ∈ news, u.oneCell' = true) :
    Src P k tx (.slice A m c) m news w := by
  by_cases h0 : 0 < m
  · exact src_row ht (h.row h0) hone
  · obtain rfl : m = 0 := by omega
    have hn : news = [] := List.eq_nil_of_length_eq_zero (by simpa using h.len)
    subst hn
    cases A with
    | none =>
      have hc := h.nil rfl
      subst hc
      exact Src.ofNil w ht 0
    | some a => exact Src.ofSlice w ht a 0 c [] (by simp) (by simp) (by simp)
/-- 'x.f = append(x.f, ..)' behind other new memory: what is known. -/
theorem same_app {w wr w' : World} {g : Nat} {v : Value} (hs : Same w wr) (hu : Upd (fun b => b = g ∨ v.ownBlock = some b) wr w') (hg : w.heap.size ≤ g) (hv : ∀ b, v.ownBlock = some b → w.heap.size ≤ b) : Same w w' :=
  hs.trans hu fun b hb hh => by
    rcases hh with hh | hh
    · omega
    · have := hv b hh
      omega
end Go.Proofs.YtlnademnfnhbpaaGreat
