/- Graphs of the call's own: every list in them is new memory. -/
import Derived.Test.YtlnademnfnhbpaaGreatClone
import Derived.Test.YtlnademnfnhbpaaGreatGsame
import Derived.Test.YtlnademnfnhbpaaGreatOwn
namespace Go.Proofs.YtlnademnfnhbpaaGreat
open Go.RowKit

theorem PR.one (x : PR) : ∀ u ∈ x.cells, u.oneCell' = true := by
  intro u hu
  simp only [PR.cells, List.mem_cons, List.not_mem_nil, or_false] at hu
  rcases hu with rfl | rfl | rfl | rfl | rfl | rfl <;> rfl
theorem ND.one (x : ND) : ∀ u ∈ x.cells, u.oneCell' = true := by
  intro u hu
  simp only [ND.cells, List.mem_cons, List.not_mem_nil, or_false] at hu
  rcases hu with rfl | rfl | rfl <;> rfl
theorem RL.one (x : RL) : ∀ u ∈ x.cells, u.oneCell' = true := by
  intro u hu
  simp only [RL.cells, List.mem_cons, List.not_mem_nil, or_false] at hu
  rcases hu with rfl | rfl | rfl | rfl | rfl <;> rfl
theorem info_Prop : (Tryz.prog.info? 45).map (fun i => (i.zero, i.size, i.bytes)) = some (some (.agg #[.string ⟨#[]⟩, .int .i64 0, .int .i64 0, .string ⟨#[]⟩, .slice none 0 0, .slice none 0 0]), 6, 96) := by kernel_rfl
theorem PR_one (l : List PR) : ∀ u ∈ l.flatMap PR.cells, u.oneCell' = true := by
  intro u hu
  obtain ⟨x, _, hx⟩ := List.mem_flatMap.1 hu
  exact x.one u hx
/-- An element laid into a block of its own, to be appended. -/
theorem Row.pr (w : World) (x : PR) : Row (w.alloc (.cells x.cells.toArray 45)) (fun b => b = w.heap.size) 6 (some ⟨w.heap.size, 0, none⟩) 1 1 x.cells :=
  Row.of_blk (Blk.new w _ x.cells.toArray) rfl (Nat.le_refl _) (by simp [maxLen])
theorem Row.nd (w : World) (x : ND) : Row (w.alloc (.cells x.cells.toArray 40)) (fun b => b = w.heap.size) 3 (some ⟨w.heap.size, 0, none⟩) 1 1 x.cells :=
  Row.of_blk (Blk.new w _ x.cells.toArray) rfl (Nat.le_refl _) (by simp [maxLen])
theorem Row.rl (w : World) (x : RL) : Row (w.alloc (.cells x.cells.toArray 47)) (fun b => b = w.heap.size) 5 (some ⟨w.heap.size, 0, none⟩) 1 1 x.cells :=
  Row.of_blk (Blk.new w _ x.cells.toArray) rfl (Nat.le_refl _) (by simp [maxLen])

/-- A value's lists of the call's own. -/
structure OwnVal (w : World) (B : Nat) (x : PR) : Prop where
  nums : w.ownsRow B 2 1 (.slice x.A1 x.n1 x.c1) x.n1 (x.g.nums.map (Value.int .i64))
  texts : w.ownsRow B 9 1 (.slice x.A2 x.n2 x.c2) x.n2 (x.g.texts.map Value.string)
  fits : x.g.Fits
/-- v is a slice of properties of the call's own that reads ps; so are all lists in them. -/
structure OwnPs (w : World) (B : Nat) (v : Value) (ps : List PR) : Prop where
  row : w.ownsRow B 45 6 v ps.length (ps.flatMap PR.cells)
  each : ∀ x ∈ ps, OwnVal w B x
structure OwnNd (w : World) (B : Nat) (x : ND) : Prop where
  lab : w.ownsRow B 9 1 (.slice x.AL x.nL x.cL) x.nL (x.labels.map Value.string)
  pro : OwnPs w B (.slice x.AP x.nP x.cP) x.props
  id : Fit64 x.id
structure OwnRl (w : World) (B : Nat) (x : RL) : Prop where
  pro : OwnPs w B (.slice x.AP x.nP x.cP) x.props
  id : Fit64 x.id ∧ Fit64 x.src ∧ Fit64 x.dst
structure OwnNs (w : World) (B : Nat) (v : Value) (ns : List ND) : Prop where
  row : w.ownsRow B 40 3 v ns.length (ns.flatMap ND.cells)
  each : ∀ x ∈ ns, OwnNd w B x
structure OwnRs (w : World) (B : Nat) (v : Value) (rs : List RL) : Prop where
  row : w.ownsRow B 47 5 v rs.length (rs.flatMap RL.cells)
  each : ∀ x ∈ rs, OwnRl w B x

section
variable {w w' : World} {B B' : Nat} {v : Value} {ps : List PR} {ns : List ND} {rs : List RL}
theorem OwnVal.upd {S : Nat → Prop} {x : PR} (h : OwnVal w B x) (hu : Upd S w w') (h1 : ∀ g, S g → (Value.slice x.A1 x.n1 x.c1).ownBlock ≠ some g) (h2 : ∀ g, S g → (Value.slice x.A2 x.n2 x.c2).ownBlock ≠ some g) : OwnVal w' B x :=
  ⟨own_upd h.nums hu fun g hg hs => h1 g hs hg, own_upd h.texts hu fun g hg hs => h2 g hs hg, h.fits⟩
theorem OwnVal.same {x : PR} (h : OwnVal w B x) (hu : Same w w') : OwnVal w' B x := h.upd hu (fun _ f => f.elim) (fun _ f => f.elim)
theorem OwnVal.base {x : PR} (h : OwnVal w B x) (hB : B' ≤ B) : OwnVal w B' x := ⟨own_base h.nums hB, own_base h.texts hB, h.fits⟩
theorem OwnPs.nil_ (w : World) (B : Nat) : OwnPs w B (.slice none 0 0) [] := ⟨World.ownsRow_nil _ _ _ _, by simp⟩
theorem OwnPs.same (h : OwnPs w B v ps) (hu : Same w w') : OwnPs w' B v ps := ⟨own_same h.row hu, fun x hx => (h.each x hx).same hu⟩
theorem OwnPs.base (h : OwnPs w B v ps) (hB : B' ≤ B) : OwnPs w B' v ps := ⟨own_base h.row hB, fun x hx => (h.each x hx).base hB⟩
theorem OwnNd.same {x : ND} (h : OwnNd w B x) (hu : Same w w') : OwnNd w' B x := ⟨own_same h.lab hu, h.pro.same hu, h.id⟩
theorem OwnNd.base {x : ND} (h : OwnNd w B x) (hB : B' ≤ B) : OwnNd w B' x := ⟨own_base h.lab hB, h.pro.base hB, h.id⟩
theorem OwnRl.same {x : RL} (h : OwnRl w B x) (hu : Same w w') : OwnRl w' B x := ⟨h.pro.same hu, h.id⟩
theorem OwnRl.base {x : RL} (h : OwnRl w B x) (hB : B' ≤ B) : OwnRl w B' x := ⟨h.pro.base hB, h.id⟩
theorem OwnNs.nil_ (w : World) (B : Nat) : OwnNs w B (.slice none 0 0) [] := ⟨World.ownsRow_nil _ _ _ _, by simp⟩
theorem OwnRs.nil_ (w : World) (B : Nat) : OwnRs w B (.slice none 0 0) [] := ⟨World.ownsRow_nil _ _ _ _, by simp⟩
theorem OwnNs.same (h : OwnNs w B v ns) (hu : Same w w') : OwnNs w' B v ns := ⟨own_same h.row hu, fun x hx => (h.each x hx).same hu⟩
theorem OwnNs.base (h : OwnNs w B v ns) (hB : B' ≤ B) : OwnNs w B' v ns := ⟨own_base h.row hB, fun x hx => (h.each x hx).base hB⟩
theorem OwnRs.same (h : OwnRs w B v rs) (hu : Same w w') : OwnRs w' B v rs := ⟨own_same h.row hu, fun x hx => (h.each x hx).same hu⟩
theorem OwnRs.base (h : OwnRs w B v rs) (hB : B' ≤ B) : OwnRs w B' v rs := ⟨own_base h.row hB, fun x hx => (h.each x hx).base hB⟩

/-- Blocks of the element type e. -/
def OfT (w : World) (e : TypeId) (g : Nat) : Prop := ∃ cs, Blk w g e cs
theorem own_ofT {base k n : Nat} {e : TypeId} {xs : List Value} (h : w.ownsRow base e k v n xs) {g : Nat} (hg : v.ownBlock = some g) : OfT w e g := by
  rcases h.2 with ⟨rfl, _⟩ | ⟨b, cap, cur, rfl, _, hh, _⟩
  · simp [Value.ownBlock] at hg
  · obtain rfl : b = g := by simpa [Value.ownBlock] using hg
    exact ⟨cur, hh⟩
theorem OfT.ne {e e' : TypeId} {g : Nat} (h : OfT w e g) (h' : OfT w e' g) : e = e' := by
  obtain ⟨c, h1⟩ := h
  obtain ⟨c', h2⟩ := h'
  unfold Blk at h1 h2
  rw [h1] at h2
  injection h2 with h2
  injection h2
/-- What stands in blocks of one element type has turned: all of other types stays. -/
theorem own_type {S : Nat → Prop} {e e' : TypeId} {base k n : Nat} {xs : List Value} (h : w.ownsRow base e k v n xs) (hu : Upd S w w') (hS : ∀ g, g < w.heap.size → S g → OfT w e' g) (hne : e ≠ e') : w'.ownsRow base e k v n xs :=
  own_upd h hu fun g hg hs => hne ((own_ofT h hg).ne (hS g (by obtain ⟨c, hc⟩ := own_ofT h hg; exact hc.lt) hs))
theorem OwnVal.type {S : Nat → Prop} {e' : TypeId} {x : PR} (h : OwnVal w B x) (hu : Upd S w w') (hS : ∀ g, g < w.heap.size → S g → OfT w e' g) (h1 : 2 ≠ e') (h2 : 9 ≠ e') : OwnVal w' B x :=
  ⟨own_type h.nums hu hS h1, own_type h.texts hu hS h2, h.fits⟩
theorem OwnPs.type {S : Nat → Prop} {e' : TypeId} (h : OwnPs w B v ps) (hu : Upd S w w') (hS : ∀ g, g < w.heap.size → S g → OfT w e' g) (h0 : 45 ≠ e') (h1 : 2 ≠ e') (h2 : 9 ≠ e') : OwnPs w' B v ps :=
  ⟨own_type h.row hu hS h0, fun x hx => (h.each x hx).type hu hS h1 h2⟩
theorem OwnNd.type {S : Nat → Prop} {e' : TypeId} {x : ND} (h : OwnNd w B x) (hu : Upd S w w') (hS : ∀ g, g < w.heap.size → S g → OfT w e' g) (h0 : 45 ≠ e') (h1 : 2 ≠ e') (h2 : 9 ≠ e') : OwnNd w' B x :=
  ⟨own_type h.lab hu hS h2, h.pro.type hu hS h0 h1 h2, h.id⟩
theorem OwnRl.type {S : Nat → Prop} {e' : TypeId} {x : RL} (h : OwnRl w B x) (hu : Upd S w w') (hS : ∀ g, g < w.heap.size → S g → OfT w e' g) (h0 : 45 ≠ e') (h1 : 2 ≠ e') (h2 : 9 ≠ e') : OwnRl w' B x :=
  ⟨h.pro.type hu hS h0 h1 h2, h.id⟩

theorem OwnNs.type {S : Nat → Prop} {e' : TypeId} (h : OwnNs w B v ns) (hu : Upd S w w') (hS : ∀ g, g < w.heap.size → S g → OfT w e' g) (hn : 40 ≠ e') (h0 : 45 ≠ e') (h1 : 2 ≠ e') (h2 : 9 ≠ e') : OwnNs w' B v ns :=
  ⟨own_type h.row hu hS hn, fun x hx => (h.each x hx).type hu hS h0 h1 h2⟩
theorem OwnRs.type {S : Nat → Prop} {e' : TypeId} (h : OwnRs w B v rs) (hu : Upd S w w') (hS : ∀ g, g < w.heap.size → S g → OfT w e' g) (hn : 47 ≠ e') (h0 : 45 ≠ e') (h1 : 2 ≠ e') (h2 : 9 ≠ e') : OwnRs w' B v rs :=
  ⟨own_type h.row hu hS hn, fun x hx => (h.each x hx).type hu hS h0 h1 h2⟩
/-- One element more. -/
theorem OwnPs.snoc {v' : Value} {x : PR} (h : OwnPs w B v ps) (hg : Grew w B 45 6 v (ps.length + 1) (ps.flatMap PR.cells ++ x.cells) v' w') (hx : OwnVal w B x) : OwnPs w' B v' (ps ++ [x]) := by
  have hS : ∀ g, g < w.heap.size → v.ownBlock = some g → OfT w 45 g := fun g _ hg => own_ofT h.row hg
  refine ⟨?_, fun y hy => ?_⟩
  · rw [List.length_append, List.flatMap_append]
    simpa using hg.own
  · rcases List.mem_append.1 hy with hy | hy
    · exact (h.each y hy).type hg.upd hS (by decide) (by decide)
    · obtain rfl : y = x := by simpa using hy
      exact hx.type hg.upd hS (by decide) (by decide)
theorem OwnNs.snoc {v' : Value} {x : ND} (h : OwnNs w B v ns) (hg : Grew w B 40 3 v (ns.length + 1) (ns.flatMap ND.cells ++ x.cells) v' w') (hx : OwnNd w B x) : OwnNs w' B v' (ns ++ [x]) := by
  have hS : ∀ g, g < w.heap.size → v.ownBlock = some g → OfT w 40 g := fun g _ hg => own_ofT h.row hg
  refine ⟨?_, fun y hy => ?_⟩
  · rw [List.length_append, List.flatMap_append]
    simpa using hg.own
  · rcases List.mem_append.1 hy with hy | hy
    · exact (h.each y hy).type hg.upd hS (by decide) (by decide) (by decide)
    · obtain rfl : y = x := by simpa using hy
      exact hx.type hg.upd hS (by decide) (by decide) (by decide)
theorem OwnRs.snoc {v' : Value} {x : RL} (h : OwnRs w B v rs) (hg : Grew w B 47 5 v (rs.length + 1) (rs.flatMap RL.cells ++ x.cells) v' w') (hx : OwnRl w B x) : OwnRs w' B v' (rs ++ [x]) := by
  have hS : ∀ g, g < w.heap.size → v.ownBlock = some g → OfT w 47 g := fun g _ hg => own_ofT h.row hg
  refine ⟨?_, fun y hy => ?_⟩
  · rw [List.length_append, List.flatMap_append]
    simpa using hg.own
  · rcases List.mem_append.1 hy with hy | hy
    · exact (h.each y hy).type hg.upd hS (by decide) (by decide) (by decide)
    · obtain rfl : y = x := by simpa using hy
      exact hx.type hg.upd hS (by decide) (by decide) (by decide)

/-- What is owned, read. -/
theorem own_rdK {base k n c : Nat} {A : Option Addr} {e : TypeId} {xs : List Value} (h : w.ownsRow base e k (.slice A n c) n xs) : WRow w (fun b => base ≤ b ∧ b < w.heap.size) k A n c xs :=
  (Row.mono (Row.of_own h) fun _ hb hh => ⟨hh.2, hb⟩).weak
theorem OwnVal.rd {x : PR} (h : OwnVal w B x) : RdVal w (fun b => B ≤ b ∧ b < w.heap.size) x.A1 x.n1 x.c1 x.A2 x.n2 x.c2 x.g :=
  ⟨own_rdK h.nums, own_rdK h.texts, h.fits.kind, h.fits.num, h.fits.range⟩
theorem OwnPs.rd {A : Option Addr} {n c : Nat} (h : OwnPs w B (.slice A n c) ps) : RdPs w (fun b => B ≤ b ∧ b < w.heap.size) A n c ps := by
  have h1 := h.row
  obtain ⟨A', c', e⟩ := own_form h1
  injection e with e1 e2 e3
  subst e1 e3
  rw [← e2] at h1
  exact ⟨own_rdK h1, fun x hx => (h.each x hx).rd⟩
theorem OwnNs.rd {A : Option Addr} {n c : Nat} (h : OwnNs w B (.slice A n c) ns) : RdNs w (fun b => B ≤ b ∧ b < w.heap.size) A n c ns := by
  have h1 := h.row
  obtain ⟨A', c', e⟩ := own_form h1
  injection e with e1 e2 e3
  subst e1 e3
  rw [← e2] at h1
  exact ⟨own_rdK h1, fun x hx => own_rdK (h.each x hx).lab, fun x hx => (h.each x hx).pro.rd, fun x hx => (h.each x hx).id⟩
theorem OwnRs.rd {A : Option Addr} {n c : Nat} (h : OwnRs w B (.slice A n c) rs) : RdRs w (fun b => B ≤ b ∧ b < w.heap.size) A n c rs := by
  have h1 := h.row
  obtain ⟨A', c', e⟩ := own_form h1
  injection e with e1 e2 e3
  subst e1 e3
  rw [← e2] at h1
  exact ⟨own_rdK h1, fun x hx => (h.each x hx).pro.rd, fun x hx => (h.each x hx).id⟩
end

/-- A graph of the call's own. -/
structure OwnG (w : World) (B : Nat) (g : GR) : Prop where
  nodes : OwnNs w B (.slice g.AN g.nN g.cN) g.ns
  rels : OwnRs w B (.slice g.AR g.nR g.cR) g.rs
section
variable {w w' : World} {B B' : Nat} {g : GR}
theorem OwnG.same (h : OwnG w B g) (hu : Same w w') : OwnG w' B g := ⟨h.nodes.same hu, h.rels.same hu⟩
theorem OwnG.base (h : OwnG w B g) (hB : B' ≤ B) : OwnG w B' g := ⟨h.nodes.base hB, h.rels.base hB⟩
theorem OwnG.rd (h : OwnG w B g) : RdG w (fun b => B ≤ b ∧ b < w.heap.size) g := ⟨h.nodes.rd, h.rels.rd⟩
end
/-- A weak row as what is appended. -/
theorem src_wrow {P : Program} {w : World} {F : Nat → Prop} {k : Nat} {tx e : TypeId} (ht : P.underlying tx = some (.slice e)) {A : Option Addr} {m c : Nat} {news : List Value} (h : WRow w F k A m c news) (hone : ∀ u ∈ news, u.oneCell' = true) :
    Src P k tx (.slice A m c) m news w := by
  by_cases h0 : 0 < m
  · exact src_row ht (h.row h0) hone
  · obtain rfl : m = 0 := by omega
    have hn : news = [] := List.eq_nil_of_length_eq_zero (by simpa using h.len)
    subst hn
    cases A with
    | none =>
      have hc := h.nil rfl
      subst hc
      exact Src.ofNil w ht 0
    | some a => exact Src.ofSlice w ht a 0 c [] (by simp) (by simp) (by simp)
/-- 'x.f = append(x.f, ..)' behind other new memory: what is known. -/
theorem same_app {w wr w' : World} {g : Nat} {v : Value} (hs : Same w wr) (hu : Upd (fun b => b = g ∨ v.ownBlock = some b) wr w') (hg : w.heap.size ≤ g) (hv : ∀ b, v.ownBlock = some b → w.heap.size ≤ b) : Same w w' :=
  hs.trans hu fun b hb hh => by
    rcases hh with hh | hh
    · omega
    · have := hv b hh
      omega
end Go.Proofs.YtlnademnfnhbpaaGreat
