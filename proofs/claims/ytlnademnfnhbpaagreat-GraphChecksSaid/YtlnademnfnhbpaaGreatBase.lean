/- Words for memory that all proofs of this family use: what a slice reads as, a block known whole, which blocks may have turned. No program here. -/
import Derived.WalkKit
import Derived.WalkSpells
import Derived.Laws.Rows
import Derived.Deep.Draws
namespace Go.Proofs.YtlnademnfnhbpaaGreat
open Go.RowKit

/-- The world w' is as w was on all blocks that w had, but for those of S. -/
structure Upd (S : Nat → Prop) (w w' : World) : Prop where
  os : w'.os = w.os
  tape : w'.tape = w.tape
  output : w'.output = w.output
  size : w.heap.size ≤ w'.heap.size
  block : ∀ k, k < w.heap.size → ¬ S k → w'.heap[k]? = w.heap[k]?

/-- No old block has turned. -/
abbrev Same (w w' : World) : Prop := Upd (fun _ => False) w w'

section upd
variable {S S' : Nat → Prop} {w w1 w' : World}
theorem Upd.refl (S : Nat → Prop) (w : World) : Upd S w w := ⟨rfl, rfl, rfl, Nat.le_refl _, fun _ _ _ => rfl⟩
theorem Upd.mono (h : Upd S w w') (hs : ∀ k, k < w.heap.size → S k → S' k) : Upd S' w w' :=
  ⟨h.os, h.tape, h.output, h.size, fun k hk hn => h.block k hk (fun hh => hn (hs k hk hh))⟩
theorem Upd.trans (h : Upd S w w1) (h' : Upd S' w1 w') (hs : ∀ k, k < w.heap.size → S' k → S k) : Upd S w w' :=
  ⟨h'.os.trans h.os, h'.tape.trans h.tape, h'.output.trans h.output, Nat.le_trans h.size h'.size,
    fun k hk hn => (h'.block k (Nat.lt_of_lt_of_le hk h.size) (fun hh => hn (hs k hk hh))).trans (h.block k hk hn)⟩
theorem Upd.same (h : Upd S w w1) (h' : Same w1 w') : Upd S w w' := h.trans h' fun _ _ f => f.elim
theorem Upd.drew (h : Upd S w w') : Upd S w w'.drew := ⟨h.os, h.tape, h.output, h.size, h.block⟩
theorem Upd.drewN (h : Upd S w w') (n : Nat) : Upd S w (w'.drewN n) := ⟨h.os, h.tape, h.output, h.size, h.block⟩
theorem Upd.alloc (h : Upd S w w') (o : Obj) : Upd S w (w'.alloc o) :=
  ⟨h.os, h.tape, h.output, Nat.le_trans h.size (by simp), fun k hk hn => (Below.heap_alloc w' o k (Nat.lt_of_lt_of_le hk h.size)).trans (h.block k hk hn)⟩
theorem Upd.setCell (h : Upd S w w') {p : Addr} (hp : S p.block ∨ w.heap.size ≤ p.block) (u : Value) : Upd S w (w'.setCell p u) :=
  ⟨h.os, h.tape, h.output, by simpa [World.setCell] using h.size, fun k hk hn => (Below.heap_setCell w' p u k (by
    rintro rfl
    rcases hp with hp | hp
    · exact hn hp
    · omega)).trans (h.block k hk hn)⟩
theorem Upd.put {r i : Nat} (h : Upd S w w') (hr : S r) (u : Value) : Upd S w (w'.setCell ⟨r, i, none⟩ u) := h.setCell (p := ⟨r, i, none⟩) (.inl hr) u
theorem Upd.put1 {r i : Nat} {w w' : World} (h : Upd (fun b => b = r) w w') (u : Value) : Upd (fun b => b = r) w (w'.setCell ⟨r, i, none⟩ u) := h.put rfl u
theorem Upd.putNew {r i : Nat} (h : Upd S w w') (hr : w.heap.size ≤ r) (u : Value) : Upd S w (w'.setCell ⟨r, i, none⟩ u) := h.setCell (p := ⟨r, i, none⟩) (.inr hr) u
theorem Upd.grown (h : Upd S w w1) {row : Option Nat} (g : w1.grownBy w' row) (hr : ∀ k, row = some k → S k ∨ w.heap.size ≤ k) : Upd S w w' :=
  ⟨g.os.trans h.os, g.tape.trans h.tape, g.output.trans h.output, Nat.le_trans h.size g.size,
    fun k hk hn => (g.block k (Nat.lt_of_lt_of_le hk h.size) (fun e => by
      rcases hr k e.symm with hh | hh
      · exact hn hh
      · omega)).trans (h.block k hk hn)⟩
theorem Upd.cell (h : Upd S w w') {p : Addr} (hp : p.block < w.heap.size) (hs : ¬ S p.block) : w'.cell? p = w.cell? p := World.cell?_of_block (w := w) (h.block _ hp hs)
theorem Upd.frozen (h : Upd S w w') {p : Addr} (hp : p.block < w.heap.size) (hs : ¬ S p.block) : w'.frozen? p = w.frozen? p := World.frozen?_of_block (w := w) (h.block _ hp hs)
theorem Upd.below {B : Nat} (h : Upd S w w') (hB : B ≤ w.heap.size) (hs : ∀ k, k < B → ¬ S k) : Below B w w' :=
  ⟨h.os, h.tape, h.output, h.size, fun k hk => h.block k (by omega) (hs k hk)⟩
theorem Same.below (h : Same w w') : Below w.heap.size w w' := Upd.below h (Nat.le_refl _) fun _ _ f => f
theorem Same.of_below (h : Below w.heap.size w w') : Same w w' := ⟨h.os, h.tape, h.output, h.size, fun k hk _ => h.block k hk⟩
theorem Upd.of_below {B : Nat} (h : Below B w w') : Upd (fun k => B ≤ k) w w' := ⟨h.os, h.tape, h.output, h.size, fun k _ hn => h.block k (by omega)⟩
end upd

/-- Block g is just the cells cs of element type t; none is frozen. -/
def Blk (w : World) (g : Nat) (t : TypeId) (cs : Array Value) : Prop := w.heap[g]? = some (.cells cs t (0, 0))

section blk
variable {w w' : World} {g : Nat} {t : TypeId} {cs : Array Value}
theorem Blk.lt (h : Blk w g t cs) : g < w.heap.size := (Array.getElem?_eq_some_iff.1 h).1
theorem Blk.cell (h : Blk w g t cs) (i : Nat) : w.cell? ⟨g, i, none⟩ = cs[i]? := cell_of_row w g i cs t (0, 0) h
theorem Blk.frozen (h : Blk w g t cs) (i : Nat) : w.frozen? ⟨g, i, none⟩ = false := by
  have h' : w.heap[g]? = some (.cells cs t (0, 0)) := h
  simp [World.frozen?, h']
theorem Blk.new (w : World) (t : TypeId) (cs : Array Value) : Blk (w.alloc (.cells cs t)) w.heap.size t cs := heap_alloc_new w _
theorem Blk.drew (h : Blk w g t cs) : Blk w.drew g t cs := h
theorem Blk.drewN (h : Blk w g t cs) (n : Nat) : Blk (w.drewN n) g t cs := h
theorem Blk.alloc (h : Blk w g t cs) (o : Obj) : Blk (w.alloc o) g t cs := (Below.heap_alloc w o g h.lt).trans h
theorem Blk.put (h : Blk w g t cs) (i : Nat) (u : Value) : Blk (w.setCell ⟨g, i, none⟩ u) g t (cs.setIfInBounds i u) := by
  have h' : w.heap[g]? = some (.cells cs t (0, 0)) := h
  show (w.setCell ⟨g, i, none⟩ u).heap[g]? = _
  simp [World.setCell, Array.getElem?_modify, h']
theorem Blk.far (h : Blk w g t cs) {p : Addr} (hp : g ≠ p.block) (u : Value) : Blk (w.setCell p u) g t cs := (Below.heap_setCell w p u g hp).trans h
theorem Blk.upd {S : Nat → Prop} (h : Blk w g t cs) (hu : Upd S w w') (hs : ¬ S g) : Blk w' g t cs := (hu.block g h.lt hs).trans h
theorem Blk.same (h : Blk w g t cs) (hu : Same w w') : Blk w' g t cs := h.upd hu fun f => f
theorem Blk.grown {row : Option Nat} (h : Blk w g t cs) (hb : w.grownBy w' row) (hg : some g ≠ row) : Blk w' g t cs := (hb.block g h.lt hg).trans h
theorem Blk.ne_own {base : Nat} {e : TypeId} {size n : Nat} {v : Value} {xs : List Value} (h : Blk w g t cs) (ho : w.ownsRow base e size v n xs) (hne : e ≠ t) : v.ownBlock ≠ some g := by
  rcases ho.2 with ⟨rfl, _⟩ | ⟨g', cap, cur, rfl, _, hh, _⟩
  · simp [Value.ownBlock]
  · intro he
    obtain rfl : g' = g := by simpa [Value.ownBlock] using he
    have h' : w.heap[g']? = some (.cells cs t (0, 0)) := h
    rw [hh] at h'
    injection h' with h'
    injection h' with _ ht
    exact hne ht
end blk

/-- The slice value '.slice A n c', elements of k cells, reads as the cells xs; its array is one of F's blocks. -/
structure Row (w : World) (F : Nat → Prop) (k : Nat) (A : Option Addr) (n c : Nat) (xs : List Value) : Prop where
  len : xs.length = n * k
  le : n ≤ c
  max : c ≤ maxLen
  nil : A = none → c = 0
  cell : ∀ a, A = some a → a.spot = none ∧ a.block < w.heap.size ∧ F a.block ∧ ∀ i u, xs[i]? = some u → w.cell? ⟨a.block, a.off + i, none⟩ = some u

section row
variable {w w' : World} {F F' : Nat → Prop} {k n c : Nat} {A : Option Addr} {xs : List Value}
theorem Row.nil_ (w : World) (F : Nat → Prop) (k : Nat) : Row w F k none 0 0 [] := ⟨by simp, Nat.le_refl _, Nat.zero_le _, fun _ => rfl, fun _ h => by cases h⟩
theorem Row.upd {S : Nat → Prop} (h : Row w F k A n c xs) (hu : Upd S w w') (hs : ∀ b, F b → ¬ S b) : Row w' F k A n c xs :=
  ⟨h.len, h.le, h.max, h.nil, fun a ha => by
    obtain ⟨h1, h2, h3, h4⟩ := h.cell a ha
    exact ⟨h1, Nat.lt_of_lt_of_le h2 hu.size, h3, fun i u hi => (hu.cell (p := ⟨a.block, a.off + i, Option.none⟩) h2 (hs _ h3)).trans (h4 i u hi)⟩⟩
theorem Row.same (h : Row w F k A n c xs) (hu : Same w w') : Row w' F k A n c xs := h.upd hu fun _ _ f => f
theorem Row.mono (h : Row w F k A n c xs) (hf : ∀ b, b < w.heap.size → F b → F' b) : Row w F' k A n c xs :=
  ⟨h.len, h.le, h.max, h.nil, fun a ha => by
    obtain ⟨h1, h2, h3, h4⟩ := h.cell a ha
    exact ⟨h1, h2, hf _ h2 h3, h4⟩⟩
theorem Row.at_ (h : Row w F 1 A n c xs) {i : Nat} (hi : i < n) : ∃ b o u, A = some ⟨b, o, Option.none⟩ ∧ b < w.heap.size ∧ F b ∧ xs[i]? = some u ∧ w.cell? ⟨b, o + i, Option.none⟩ = some u := by
  have hl : i < xs.length := by have := h.len; omega
  cases hA : A with
  | none => have := h.nil hA; have := h.le; omega
  | some a =>
    obtain ⟨h1, h2, h3, h4⟩ := h.cell a hA
    obtain ⟨b, o, s⟩ := a
    subst h1
    exact ⟨b, o, xs[i], rfl, h2, h3, List.getElem?_eq_getElem hl, h4 i _ (List.getElem?_eq_getElem hl)⟩
theorem Row.atK (h : Row w F k A n c xs) {i : Nat} (hi : i < n) : ∃ b o, A = some ⟨b, o, Option.none⟩ ∧ b < w.heap.size ∧ F b ∧ ∀ j, j < k → ∃ u, xs[i * k + j]? = some u ∧ w.cell? ⟨b, o + (i * k + j), Option.none⟩ = some u := by
  cases hA : A with
  | none => have := h.nil hA; have := h.le; omega
  | some a =>
    obtain ⟨h1, h2, h3, h4⟩ := h.cell a hA
    obtain ⟨b, o, s⟩ := a
    subst h1
    refine ⟨b, o, rfl, h2, h3, fun j hj => ?_⟩
    have hl : i * k + j < xs.length := by
      rw [h.len]
      have h5 : (i + 1) * k ≤ n * k := Nat.mul_le_mul_right k hi
      rw [Nat.succ_mul] at h5
      omega
    exact ⟨xs[i * k + j], List.getElem?_eq_getElem hl, h4 _ _ (List.getElem?_eq_getElem hl)⟩
/-- What the call owns, read. -/
theorem Row.of_own {base : Nat} {e : TypeId} (h : w.ownsRow base e k (.slice A n c) n xs) : Row w (fun b => A = some ⟨b, 0, Option.none⟩ ∧ base ≤ b) k A n c xs := by
  rcases h.2 with ⟨hv, hn⟩ | ⟨g, cap, cur, hv, hb, hg, hle, hm, hs, ht⟩
  · injection hv with h1 h2 h3
    subst h1; subst h3; subst hn
    exact ⟨h.1, Nat.le_refl _, Nat.zero_le _, fun _ => rfl, fun a ha => by cases ha⟩
  · injection hv with h1 h2 h3
    subst h1; subst h3
    refine ⟨h.1, hle, hm, fun hh => by (cases hh), fun a ha => ?_⟩
    cases ha
    refine ⟨rfl, (Array.getElem?_eq_some_iff.1 hg).1, ⟨rfl, hb⟩, fun i u hi => ?_⟩
    have hc := h.cells (g := g) rfl i u hi
    have hadd : (⟨g, 0, Option.none⟩ : Addr).add i = ⟨g, 0 + i, Option.none⟩ := by
      unfold Addr.add; split <;> simp_all
    rwa [hadd] at hc
/-- The cut 's[j:m]' as the model has it. -/
theorem Row.cut (h : Row w F k A n c xs) {j m : Nat} (hj : j ≤ m) (hm : m ≤ n) :
    Row w F k (if c = j then A else A.map (·.add (j * k))) (m - j) (c - j) ((xs.drop (j * k)).take ((m - j) * k)) := by
  have hle := h.le
  have hmul : m * k ≤ n * k := Nat.mul_le_mul_right k hm
  have hmj : (m - j) * k = m * k - j * k := Nat.sub_mul m j k
  refine ⟨?_, by omega, by have := h.max; omega, fun hn => ?_, fun a ha => ?_⟩
  · rw [List.length_take, List.length_drop, h.len]
    omega
  · split at hn
    · omega
    · cases hA : A with
      | none => have := h.nil hA; omega
      | some a => rw [hA] at hn; cases hn
  · split at ha
    · rename_i hc
      obtain ⟨h1, h2, h3, h4⟩ := h.cell a ha
      refine ⟨h1, h2, h3, fun i u hi => ?_⟩
      have hz : (m - j) * k = 0 := by
        have : m - j = 0 := by omega
        rw [this]; simp
      rw [hz] at hi
      simp at hi
    · cases hA : A with
      | none => rw [hA] at ha; cases ha
      | some a0 =>
        rw [hA] at ha
        obtain ⟨h1, h2, h3, h4⟩ := h.cell a0 hA
        obtain ⟨b, o, s⟩ := a0
        subst h1
        have hadd : (⟨b, o, Option.none⟩ : Addr).add (j * k) = ⟨b, o + j * k, Option.none⟩ := by
          unfold Addr.add; split <;> simp_all
        simp only [Option.map_some, Option.some.injEq, hadd] at ha
        subst ha
        refine ⟨rfl, h2, h3, fun i u hi => ?_⟩
        rw [List.getElem?_take] at hi
        split at hi
        · rw [List.getElem?_drop] at hi
          have := h4 _ _ hi
          simpa [Nat.add_assoc] using this
        · cases hi
/-- As a row is read; where it is empty, nothing is asked of its address. -/
structure WRow (w : World) (F : Nat → Prop) (k : Nat) (A : Option Addr) (n c : Nat) (xs : List Value) : Prop where
  len : xs.length = n * k
  le : n ≤ c
  max : c ≤ maxLen
  nil : A = none → c = 0
  row : 0 < n → Row w F k A n c xs
theorem Row.weak (h : Row w F k A n c xs) : WRow w F k A n c xs := ⟨h.len, h.le, h.max, h.nil, fun _ => h⟩
theorem WRow.upd {S : Nat → Prop} (h : WRow w F k A n c xs) (hu : Upd S w w') (hs : ∀ b, F b → ¬ S b) : WRow w' F k A n c xs := ⟨h.len, h.le, h.max, h.nil, fun h0 => (h.row h0).upd hu hs⟩
theorem WRow.same (h : WRow w F k A n c xs) (hu : Same w w') : WRow w' F k A n c xs := h.upd hu fun _ _ f => f
theorem WRow.mono (h : WRow w F k A n c xs) (hf : ∀ b, b < w.heap.size → F b → F' b) : WRow w F' k A n c xs := ⟨h.len, h.le, h.max, h.nil, fun h0 => (h.row h0).mono hf⟩
theorem WRow.at_ (h : WRow w F 1 A n c xs) {i : Nat} (hi : i < n) : ∃ b o u, A = some ⟨b, o, Option.none⟩ ∧ b < w.heap.size ∧ F b ∧ xs[i]? = some u ∧ w.cell? ⟨b, o + i, Option.none⟩ = some u := (h.row (by omega)).at_ hi
end row

/-- A byte as a value. -/
abbrev u8v (x : UInt8) : Value := .int .u8 (x.toNat : Int)
/-- The slice value reads as the bytes bs. -/
def Bytes (w : World) (F : Nat → Prop) (A : Option Addr) (n c : Nat) (bs : List UInt8) : Prop := Row w F 1 A n c (bs.map u8v)

section bytes
variable {w w' : World} {F F' : Nat → Prop} {n c : Nat} {A : Option Addr} {bs : List UInt8}
theorem Bytes.len (h : Bytes w F A n c bs) : bs.length = n := by have := Row.len h; simpa using this
theorem Bytes.nil_ (w : World) (F : Nat → Prop) : Bytes w F Option.none 0 0 [] := Row.nil_ w F 1
theorem Bytes.upd {S : Nat → Prop} (h : Bytes w F A n c bs) (hu : Upd S w w') (hs : ∀ b, F b → ¬ S b) : Bytes w' F A n c bs := Row.upd h hu hs
theorem Bytes.same (h : Bytes w F A n c bs) (hu : Same w w') : Bytes w' F A n c bs := Row.same h hu
theorem Bytes.mono (h : Bytes w F A n c bs) (hf : ∀ b, b < w.heap.size → F b → F' b) : Bytes w F' A n c bs := Row.mono h hf
theorem Bytes.at_ (h : Bytes w F A n c bs) {i : Nat} (hi : i < n) : ∃ b o, A = some ⟨b, o, Option.none⟩ ∧ b < w.heap.size ∧ F b ∧ w.cell? ⟨b, o + i, Option.none⟩ = some (.int .u8 ((bs[i]'(by rw [h.len]; exact hi)).toNat : Int)) := by
  obtain ⟨b, o, u, h1, h2, h3, h4, h5⟩ := Row.at_ h hi
  refine ⟨b, o, h1, h2, h3, ?_⟩
  have hl : i < bs.length := by rw [h.len]; exact hi
  rw [h5]
  rw [List.getElem?_map, List.getElem?_eq_getElem hl] at h4
  simpa using h4.symm
theorem Bytes.cut (h : Bytes w F A n c bs) {j m : Nat} (hj : j ≤ m) (hm : m ≤ n) : Bytes w F (if c = j then A else A.map (·.add j)) (m - j) (c - j) ((bs.drop j).take (m - j)) := by
  have := Row.cut h hj hm
  simpa [Bytes, List.map_take, List.map_drop] using this
theorem Bytes.rest (h : Bytes w F A n c bs) {j : Nat} (hj : j ≤ n) : Bytes w F (if c = j then A else A.map (·.add j)) (n - j) (c - j) (bs.drop j) := by
  have := h.cut hj (Nat.le_refl n)
  rwa [List.take_of_length_le (by rw [List.length_drop, h.len]; exact Nat.le_refl _)] at this
theorem Bytes.head (h : Bytes w F A n c bs) {m : Nat} (hm : m ≤ n) : Bytes w F A m c (bs.take m) := by
  have := h.cut (Nat.zero_le m) hm
  simp only [List.drop_zero, Nat.sub_zero] at this
  split at this
  · exact this
  · cases A with
    | none => simpa using this
    | some a => simpa [Addr.add] using this
end bytes

/-- Values of one cell each. -/
theorem u8_oneCell (bs : List UInt8) : ∀ u ∈ bs.map u8v, u.oneCell' = true := by
  intro u hu
  obtain ⟨_, _, rfl⟩ := List.mem_map.1 hu
  rfl
end Go.Proofs.YtlnademnfnhbpaaGreat
