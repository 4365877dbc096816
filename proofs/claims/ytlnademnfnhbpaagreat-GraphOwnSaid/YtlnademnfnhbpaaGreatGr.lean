/- Graphs, read: properties, nodes, relationships as they lie in memory. -/
import Derived.Test.YtlnademnfnhbpaaGreatRead
namespace Go.Proofs.YtlnademnfnhbpaaGreat
open Go.RowKit

section
variable {α : Type} {f : α → List Value} {k : Nat}
theorem flatK_len (hf : ∀ x, (f x).length = k) (l : List α) : (l.flatMap f).length = l.length * k := by
  induction l with
  | nil => simp
  | cons x l ih => rw [List.flatMap_cons, List.length_append, ih, hf, List.length_cons, Nat.succ_mul]; omega
theorem flatK_get (hf : ∀ x, (f x).length = k) : ∀ (l : List α) (i j : Nat) (h : i < l.length), j < k → (l.flatMap f)[i * k + j]? = (f l[i])[j]? := by
  intro l
  induction l with
  | nil => intro i j h; simp at h
  | cons x l ih =>
    intro i j h hj
    rw [List.flatMap_cons]
    cases i with
    | zero =>
      rw [List.getElem?_append_left (by rw [hf]; omega)]
      simp
    | succ i =>
      have e : (i + 1) * k + j - (f x).length = i * k + j := by rw [hf, Nat.succ_mul]; omega
      rw [List.getElem?_append_right (by rw [hf, Nat.succ_mul]; omega), e, ih i j (by simpa using h) hj]
      rfl
/-- Element i of a row of structs. -/
theorem WRow.atF {w : World} {F : Nat → Prop} {A : Option Addr} {n c : Nat} {l : List α} (h : WRow w F k A n c (l.flatMap f)) (hf : ∀ x, (f x).length = k) (hk : 0 < k) {i : Nat} (hi : i < n) :
    ∃ b o x, A = some ⟨b, o, none⟩ ∧ b < w.heap.size ∧ F b ∧ l[i]? = some x ∧ x ∈ l ∧ ∀ j u, (f x)[j]? = some u → w.cell? ⟨b, o + i * k + j, none⟩ = some u := by
  have hl : l.length = n := by
    have h1 := h.len
    rw [flatK_len hf] at h1
    exact Nat.eq_of_mul_eq_mul_right hk h1
  have hil : i < l.length := by omega
  obtain ⟨b, o, hA, hb, hF, hc⟩ := (h.row (by omega)).atK hi
  refine ⟨b, o, l[i], hA, hb, hF, List.getElem?_eq_getElem hil, List.getElem_mem hil, fun j u hu => ?_⟩
  have hj : j < k := by
    have := (List.getElem?_eq_some_iff.1 hu).1
    rw [hf] at this
    exact this
  obtain ⟨v, h1, h2⟩ := hc j hj
  rw [flatK_get hf l i j hil hj, hu] at h1
  cases h1
  rw [Nat.add_assoc]
  exact h2
theorem WRow.lenF {w : World} {F : Nat → Prop} {A : Option Addr} {n c : Nat} {l : List α} (h : WRow w F k A n c (l.flatMap f)) (hf : ∀ x, (f x).length = k) (hk : 0 < k) : l.length = n := by
  have h1 := h.len
  rw [flatK_len hf] at h1
  exact Nat.eq_of_mul_eq_mul_right hk h1
end

/-- A property: its key, its value. -/
structure GPr where
  key : ByteArray
  val : GVal
/-- A property as it lies in memory. -/
structure PR where
  key : ByteArray
  g : GVal
  A1 : Option Addr
  n1 : Nat
  c1 : Nat
  A2 : Option Addr
  n2 : Nat
  c2 : Nat
def PR.cells (x : PR) : List Value := [.string x.key, .int .i64 x.g.kind, .int .i64 x.g.num, .string x.g.text, .slice x.A1 x.n1 x.c1, .slice x.A2 x.n2 x.c2]
def PR.dat (x : PR) : GPr := ⟨x.key, x.g⟩
theorem PR.six (x : PR) : x.cells.length = 6 := rfl
/-- A node: its id, its labels, its properties. -/
structure GNode where
  id : Int
  labels : List ByteArray
  props : List GPr
structure ND where
  id : Int
  labels : List ByteArray
  AL : Option Addr
  nL : Nat
  cL : Nat
  props : List PR
  AP : Option Addr
  nP : Nat
  cP : Nat
def ND.cells (x : ND) : List Value := [.int .i64 x.id, .slice x.AL x.nL x.cL, .slice x.AP x.nP x.cP]
def ND.dat (x : ND) : GNode := ⟨x.id, x.labels, x.props.map PR.dat⟩
theorem ND.three (x : ND) : x.cells.length = 3 := rfl
/-- A relationship. -/
structure GRel where
  id : Int
  type : ByteArray
  src : Int
  dst : Int
  props : List GPr
structure RL where
  id : Int
  type : ByteArray
  src : Int
  dst : Int
  props : List PR
  AP : Option Addr
  nP : Nat
  cP : Nat
def RL.cells (x : RL) : List Value := [.int .i64 x.id, .string x.type, .int .i64 x.src, .int .i64 x.dst, .slice x.AP x.nP x.cP]
def RL.dat (x : RL) : GRel := ⟨x.id, x.type, x.src, x.dst, x.props.map PR.dat⟩
theorem RL.five (x : RL) : x.cells.length = 5 := rfl

/-- A number fits. -/
abbrev Fit64 (n : Int) : Prop := -9223372036854775808 ≤ n ∧ n ≤ 9223372036854775807

/-- A slice of properties reads as ps. -/
structure RdPs (w : World) (F : Nat → Prop) (A : Option Addr) (n c : Nat) (ps : List PR) : Prop where
  row : WRow w F 6 A n c (ps.flatMap PR.cells)
  val : ∀ x ∈ ps, RdVal w F x.A1 x.n1 x.c1 x.A2 x.n2 x.c2 x.g
/-- A slice of nodes reads as ns. -/
structure RdNs (w : World) (F : Nat → Prop) (A : Option Addr) (n c : Nat) (ns : List ND) : Prop where
  row : WRow w F 3 A n c (ns.flatMap ND.cells)
  lab : ∀ x ∈ ns, WRow w F 1 x.AL x.nL x.cL (x.labels.map Value.string)
  pro : ∀ x ∈ ns, RdPs w F x.AP x.nP x.cP x.props
  id : ∀ x ∈ ns, Fit64 x.id
/-- A slice of relationships reads as rs. -/
structure RdRs (w : World) (F : Nat → Prop) (A : Option Addr) (n c : Nat) (rs : List RL) : Prop where
  row : WRow w F 5 A n c (rs.flatMap RL.cells)
  pro : ∀ x ∈ rs, RdPs w F x.AP x.nP x.cP x.props
  id : ∀ x ∈ rs, Fit64 x.id ∧ Fit64 x.src ∧ Fit64 x.dst

section
variable {w w' : World} {F F' : Nat → Prop} {A : Option Addr} {n c : Nat} {ps : List PR} {ns : List ND} {rs : List RL}
theorem RdPs.len (h : RdPs w F A n c ps) : ps.length = n := h.row.lenF PR.six (by omega)
theorem RdPs.upd {S : Nat → Prop} (h : RdPs w F A n c ps) (hu : Upd S w w') (hs : ∀ b, F b → ¬ S b) : RdPs w' F A n c ps := ⟨h.row.upd hu hs, fun x hx => (h.val x hx).upd hu hs⟩
theorem RdPs.same (h : RdPs w F A n c ps) (hu : Same w w') : RdPs w' F A n c ps := h.upd hu fun _ _ f => f
theorem RdPs.mono (h : RdPs w F A n c ps) (hf : ∀ b, b < w.heap.size → F b → F' b) : RdPs w F' A n c ps := ⟨h.row.mono hf, fun x hx => (h.val x hx).mono hf⟩
theorem RdNs.len (h : RdNs w F A n c ns) : ns.length = n := h.row.lenF ND.three (by omega)
theorem RdNs.upd {S : Nat → Prop} (h : RdNs w F A n c ns) (hu : Upd S w w') (hs : ∀ b, F b → ¬ S b) : RdNs w' F A n c ns := ⟨h.row.upd hu hs, fun x hx => (h.lab x hx).upd hu hs, fun x hx => (h.pro x hx).upd hu hs, h.id⟩
theorem RdNs.same (h : RdNs w F A n c ns) (hu : Same w w') : RdNs w' F A n c ns := h.upd hu fun _ _ f => f
theorem RdNs.mono (h : RdNs w F A n c ns) (hf : ∀ b, b < w.heap.size → F b → F' b) : RdNs w F' A n c ns := ⟨h.row.mono hf, fun x hx => (h.lab x hx).mono hf, fun x hx => (h.pro x hx).mono hf, h.id⟩
theorem RdRs.len (h : RdRs w F A n c rs) : rs.length = n := h.row.lenF RL.five (by omega)
theorem RdRs.upd {S : Nat → Prop} (h : RdRs w F A n c rs) (hu : Upd S w w') (hs : ∀ b, F b → ¬ S b) : RdRs w' F A n c rs := ⟨h.row.upd hu hs, fun x hx => (h.pro x hx).upd hu hs, h.id⟩
theorem RdRs.same (h : RdRs w F A n c rs) (hu : Same w w') : RdRs w' F A n c rs := h.upd hu fun _ _ f => f
theorem RdRs.mono (h : RdRs w F A n c rs) (hf : ∀ b, b < w.heap.size → F b → F' b) : RdRs w F' A n c rs := ⟨h.row.mono hf, fun x hx => (h.pro x hx).mono hf, h.id⟩
/-- Property i. -/
theorem RdPs.at_ (h : RdPs w F A n c ps) {i : Nat} (hi : i < n) : ∃ b o x, A = some ⟨b, o, none⟩ ∧ b < w.heap.size ∧ F b ∧ ps[i]? = some x ∧ x ∈ ps ∧
    w.cell? ⟨b, o + i * 6, none⟩ = some (.string x.key) ∧ w.cell? ⟨b, o + i * 6 + 1, none⟩ = some (.int .i64 x.g.kind) ∧ w.cell? ⟨b, o + i * 6 + 2, none⟩ = some (.int .i64 x.g.num) ∧ w.cell? ⟨b, o + i * 6 + 3, none⟩ = some (.string x.g.text) ∧
    w.cell? ⟨b, o + i * 6 + 4, none⟩ = some (.slice x.A1 x.n1 x.c1) ∧ w.cell? ⟨b, o + i * 6 + 5, none⟩ = some (.slice x.A2 x.n2 x.c2) := by
  obtain ⟨b, o, x, hA, hb, hF, hx, hm, hc⟩ := h.row.atF PR.six (by omega) hi
  exact ⟨b, o, x, hA, hb, hF, hx, hm, hc 0 _ rfl, hc 1 _ rfl, hc 2 _ rfl, hc 3 _ rfl, hc 4 _ rfl, hc 5 _ rfl⟩
/-- Node i. -/
theorem RdNs.at_ (h : RdNs w F A n c ns) {i : Nat} (hi : i < n) : ∃ b o x, A = some ⟨b, o, none⟩ ∧ b < w.heap.size ∧ F b ∧ ns[i]? = some x ∧ x ∈ ns ∧
    w.cell? ⟨b, o + i * 3, none⟩ = some (.int .i64 x.id) ∧ w.cell? ⟨b, o + i * 3 + 1, none⟩ = some (.slice x.AL x.nL x.cL) ∧ w.cell? ⟨b, o + i * 3 + 2, none⟩ = some (.slice x.AP x.nP x.cP) := by
  obtain ⟨b, o, x, hA, hb, hF, hx, hm, hc⟩ := h.row.atF ND.three (by omega) hi
  exact ⟨b, o, x, hA, hb, hF, hx, hm, hc 0 _ rfl, hc 1 _ rfl, hc 2 _ rfl⟩
/-- Relationship i. -/
theorem RdRs.at_ (h : RdRs w F A n c rs) {i : Nat} (hi : i < n) : ∃ b o x, A = some ⟨b, o, none⟩ ∧ b < w.heap.size ∧ F b ∧ rs[i]? = some x ∧ x ∈ rs ∧
    w.cell? ⟨b, o + i * 5, none⟩ = some (.int .i64 x.id) ∧ w.cell? ⟨b, o + i * 5 + 1, none⟩ = some (.string x.type) ∧ w.cell? ⟨b, o + i * 5 + 2, none⟩ = some (.int .i64 x.src) ∧ w.cell? ⟨b, o + i * 5 + 3, none⟩ = some (.int .i64 x.dst) ∧ w.cell? ⟨b, o + i * 5 + 4, none⟩ = some (.slice x.AP x.nP x.cP) := by
  obtain ⟨b, o, x, hA, hb, hF, hx, hm, hc⟩ := h.row.atF RL.five (by omega) hi
  exact ⟨b, o, x, hA, hb, hF, hx, hm, hc 0 _ rfl, hc 1 _ rfl, hc 2 _ rfl, hc 3 _ rfl, hc 4 _ rfl⟩
end
end Go.Proofs.YtlnademnfnhbpaaGreat
