/- Plain laws of the library's stable sort: sorted chunks, the step of a merge; a list of structs in memory whose elements change places. No program here. -/
import Derived.Test.YtlnademnfnhbpaaGreatMergeS
import Derived.Test.YtlnademnfnhbpaaGreatGr
namespace Go.Proofs.YtlnademnfnhbpaaGreat
open Go.RowKit

section
variable {α κ : Type} {lt : κ → κ → Prop} {key : α → κ}
def Nlt (lt : κ → κ → Prop) (a b : κ) : Prop := ¬ lt a b
/-- Sorted chunks of bs elements; the last may be shorter. -/
inductive Ck (lt : κ → κ → Prop) (key : α → κ) (bs : Nat) : List α → Prop
  | last (c : List α) : c.length ≤ bs → SortO lt key c → Ck lt key bs c
  | cons (c l : List α) : c.length = bs → SortO lt key c → Ck lt key bs l → Ck lt key bs (c ++ l)
/-- Sorted chunks of bs elements, all of them whole. -/
inductive Cf (lt : κ → κ → Prop) (key : α → κ) (bs : Nat) : List α → Prop
  | nil : Cf lt key bs []
  | snoc (l c : List α) : Cf lt key bs l → c.length = bs → SortO lt key c → Cf lt key bs (l ++ c)
theorem Cf.ck {bs : Nat} {d : List α} (h : Cf lt key bs d) : ∀ {r : List α}, Ck lt key bs r → Ck lt key bs (d ++ r) := by
  induction h with
  | nil => intro r hr; exact hr
  | snoc l c _ hc hs ih =>
    intro r hr
    rw [List.append_assoc]
    exact ih (.cons c r hc hs hr)
theorem Ck.two {bs : Nat} {r : List α} (h : Ck lt key bs r) (hb : 0 < bs) (hr : 2 * bs ≤ r.length) : ∃ c1 c2 r', r = c1 ++ (c2 ++ r') ∧ c1.length = bs ∧ c2.length = bs ∧ SortO lt key c1 ∧ SortO lt key c2 ∧ Ck lt key bs r' := by
  cases h with
  | last _ hl _ => omega
  | cons c l hc hs hl =>
    rw [List.length_append] at hr
    cases hl with
    | last _ hl2 hs2 => exact ⟨c, l, [], by simp, hc, by omega, hs, hs2, .last _ (by simp) SortO.nil⟩
    | cons c2 l2 hc2 hs2 hl2 => exact ⟨c, c2, l2, rfl, hc, hc2, hs, hs2, hl2⟩
theorem Ck.half {bs : Nat} {r : List α} (h : Ck lt key bs r) (h1 : bs < r.length) (h2 : r.length < 2 * bs) : ∃ c1 c2, r = c1 ++ c2 ∧ c1.length = bs ∧ SortO lt key c1 ∧ SortO lt key c2 := by
  cases h with
  | last _ hl _ => omega
  | cons c l hc hs hl =>
    rw [List.length_append] at h1 h2
    cases hl with
    | last _ hl2 hs2 => exact ⟨c, l, rfl, hc, hs, hs2⟩
    | cons c2 l2 hc2 hs2 hl2 => rw [List.length_append] at h1 h2; omega
theorem Ck.one {bs : Nat} {r : List α} (h : Ck lt key bs r) (h1 : r.length ≤ bs) : SortO lt key r := by
  cases h with
  | last _ _ hs => exact hs
  | cons c l hc hs hl =>
    rw [List.length_append] at h1
    have : l = [] := List.eq_nil_of_length_eq_zero (by omega)
    subst this
    rw [List.append_nil]
    exact hs

/-- A cut through two sorted lists, told at its two corners. -/
theorem cross {l r : List α} {i j : Nat} (L : Lin lt) (hl : SortO lt key l) (hr : SortO lt key r) (hi : i ≤ l.length) (hj : j ≤ r.length) (c1 : ∀ y z, 0 < i → l[i - 1]? = some y → r[j]? = some z → ¬ lt (key z) (key y)) (c2 : ∀ y z, 0 < j → l[i]? = some y → r[j - 1]? = some z → lt (key z) (key y)) :
    (∀ x ∈ l.take i, ∀ y ∈ r.drop j, ¬ lt (key y) (key x)) ∧ ∀ x ∈ l.drop i, ∀ y ∈ r.take j, lt (key y) (key x) := by
  have sl := List.pairwise_iff_getElem.1 hl
  have sr := List.pairwise_iff_getElem.1 hr
  have rl : ∀ (a b : Nat) (ha : a < l.length) (hb : b < l.length), a ≤ b → ¬ lt (key l[b]) (key l[a]) := fun a b ha hb h => by
    by_cases e : a = b
    · subst e; exact L.irr _
    · exact sl a b ha hb (by omega)
  have rr : ∀ (a b : Nat) (ha : a < r.length) (hb : b < r.length), a ≤ b → ¬ lt (key r[b]) (key r[a]) := fun a b ha hb h => by
    by_cases e : a = b
    · subst e; exact L.irr _
    · exact sr a b ha hb (by omega)
  constructor
  · intro x hx y hy
    obtain ⟨a, ha, rfl⟩ := List.getElem_of_mem hx
    obtain ⟨b, hb, rfl⟩ := List.getElem_of_mem hy
    rw [List.length_take] at ha
    rw [List.length_drop] at hb
    rw [List.getElem_take, List.getElem_drop]
    have h1 := c1 (l[i - 1]'(by omega)) (r[j]'(by omega)) (by omega) (List.getElem?_eq_getElem (by omega)) (List.getElem?_eq_getElem (by omega))
    exact L.le_tr (L.le_tr (rl a (i - 1) (by omega) (by omega) (by omega)) h1) (rr j (j + b) (by omega) (by omega) (by omega))
  · intro x hx y hy
    obtain ⟨a, ha, rfl⟩ := List.getElem_of_mem hx
    obtain ⟨b, hb, rfl⟩ := List.getElem_of_mem hy
    rw [List.length_drop] at ha
    rw [List.length_take] at hb
    rw [List.getElem_take, List.getElem_drop]
    have h1 := c2 (l[i]'(by omega)) (r[j - 1]'(by omega)) (by omega) (List.getElem?_eq_getElem (by omega)) (List.getElem?_eq_getElem (by omega))
    exact L.lt_le (L.le_lt (rr b (j - 1) (by omega) (by omega) (by omega)) h1) (rl i (i + a) (by omega) (by omega) (by omega))

/-- Two neighbours change places. -/
theorem el_at {α : Type} (P Q : List α) (x : α) {j : Nat} (h : P.length = j) : (P ++ x :: Q)[j]? = some x := by
  rw [List.getElem?_append_right (by omega), h, Nat.sub_self]
  rfl
theorem el_set {α : Type} (P Q : List α) (x y : α) {j : Nat} (h : P.length = j) : (P ++ x :: Q).set j y = P ++ y :: Q := by
  rw [List.set_append_right _ _ (by omega), h, Nat.sub_self]
  rfl
/-- Two elements change places. -/
theorem el_swap {α : Type} (P M Q : List α) (x y : α) {i j : Nat} (hi : P.length = i) (hj : i + 1 + M.length = j) : ((P ++ x :: (M ++ y :: Q)).set i y).set j x = P ++ y :: (M ++ x :: Q) := by
  rw [el_set P _ x y hi]
  have e : P ++ y :: (M ++ y :: Q) = (P ++ y :: M) ++ y :: Q := by simp
  rw [e, el_set (P ++ y :: M) Q y x (by simp; omega)]
  simp
theorem el_swap' {α : Type} (P M Q : List α) (x y : α) {i j : Nat} (hi : P.length = i) (hj : i + 1 + M.length = j) : ((P ++ x :: (M ++ y :: Q)).set j x).set i y = P ++ y :: (M ++ x :: Q) := by
  rw [List.set_comm _ _ (by omega)]
  exact el_swap P M Q x y hi hj
theorem el_at2 {α : Type} (P M Q : List α) (x y : α) {i j : Nat} (hi : P.length = i) (hj : i + 1 + M.length = j) : (P ++ x :: (M ++ y :: Q))[j]? = some y := by
  have e : P ++ x :: (M ++ y :: Q) = (P ++ x :: M) ++ y :: Q := by simp
  rw [e]
  exact el_at _ _ _ (by simp; omega)

/-- The place of x in a sorted piece is found. -/
theorem el_ins {S1 P1 P2 : List α} {x : α} (L : Lin lt) [DecidableEq κ] (hs : SortO lt key (P1 ++ P2)) (hm : SameO key (P1 ++ P2) S1) (h1 : ∀ y ∈ P1, ¬ lt (key x) (key y)) (h2 : ∀ y ∈ P2, lt (key x) (key y)) :
    SortO lt key (P1 ++ x :: P2) ∧ SameO key (P1 ++ x :: P2) (S1 ++ [x]) :=
  ⟨hs.ins h1 fun y hy => L.asym (h2 y hy), (SameO.back L P1 P2 x h2).trans (hm.app (SameO.refl _))⟩
end

section
variable {α : Type} {f : α → List Value} {k : Nat}
theorem flatK_set (hf : ∀ x, (f x).length = k) : ∀ (l : List α) (i : Nat) (x : α) (_ : i < l.length), ((l.set i x).flatMap f) = (l.flatMap f).take (i * k) ++ (f x ++ (l.flatMap f).drop (i * k + k)) := by
  intro l
  induction l with
  | nil => intro i x h; simp at h
  | cons y l ih =>
    intro i x h
    cases i with
    | zero =>
      simp only [List.set_cons_zero, List.flatMap_cons, Nat.zero_mul, List.take_zero, List.nil_append, Nat.zero_add]
      rw [List.drop_left' (hf y)]
    | succ i =>
      rw [List.set_cons_succ, List.flatMap_cons, List.flatMap_cons, ih i x (by simpa using h)]
      have e1 : (f y ++ l.flatMap f).take ((i + 1) * k) = f y ++ (l.flatMap f).take (i * k) := by
        rw [List.take_append, hf, Nat.succ_mul, List.take_of_length_le (by rw [hf]; omega)]
        congr 2
        omega
      have e2 : (f y ++ l.flatMap f).drop ((i + 1) * k + k) = (l.flatMap f).drop (i * k + k) := by
        rw [List.drop_append, hf, Nat.succ_mul, List.drop_of_length_le (by rw [hf]; omega), List.nil_append]
        congr 1
        omega
      rw [e1, e2, List.append_assoc]
theorem arr_len {w : World} {B n c : Nat} {T : TypeId} {A : Option Addr} {l : List α} (h : w.ownsRow B T k (.slice A n c) n (l.flatMap f)) (hf : ∀ x, (f x).length = k) (hk : 0 < k) : l.length = n := by
  have h1 := h.1
  rw [flatK_len hf] at h1
  exact Nat.eq_of_mul_eq_mul_right hk h1
theorem arr_blk {w : World} {B n c g : Nat} {e : TypeId} {k : Nat} {xs : List Value} (h : w.ownsRow B e k (.slice (some ⟨g, 0, none⟩) n c) n xs) :
    ∃ cur, B ≤ g ∧ Blk w g e cur ∧ n ≤ c ∧ c ≤ maxLen ∧ cur.size = c * k ∧ cur.toList.take (n * k) = xs := by
  rcases h.2 with ⟨hv, _⟩ | ⟨g', cap, cur, hv, hb, hg, hle, hm, hs, ht⟩
  · cases hv
  · injection hv with h1 h2 h3
    injection h1 with h1
    injection h1 with h1 _ _
    subst h1 h3
    exact ⟨cur, hb, hg, hle, hm, hs, ht⟩
/-- Element i may be read and written. -/
theorem arr_cell {w : World} {B n c g i : Nat} {T : TypeId} {l : List α} {x : α} (h : w.ownsRow B T k (.slice (some ⟨g, 0, none⟩) n c) n (l.flatMap f)) (hf : ∀ x, (f x).length = k) (hk : 0 < k) (hx : l[i]? = some x) :
    i < n ∧ g < w.heap.size ∧ (∀ j u, (f x)[j]? = some u → w.cell? ⟨g, i * k + j, none⟩ = some u) ∧ ∀ j, w.frozen? ⟨g, j, none⟩ = false := by
  have hl := arr_len h hf hk
  obtain ⟨hil, hxe⟩ := List.getElem?_eq_some_iff.1 hx
  obtain ⟨cur, _, hb, _, _, _, ht⟩ := arr_blk h
  refine ⟨by omega, hb.lt, fun j u hu => ?_, hb.frozen⟩
  have hj : j < k := by
    have := (List.getElem?_eq_some_iff.1 hu).1
    rw [hf] at this
    exact this
  have h5 := flatK_get hf l i j hil hj
  rw [hxe, hu, ← ht, List.getElem?_take] at h5
  split at h5
  · rw [hb.cell, ← Array.getElem?_toList]
    exact h5
  · cases h5

/-- Cells written one behind the other. -/
def putL (w : World) (g p : Nat) : List Value → World
  | [] => w
  | u :: us => putL (w.setCell ⟨g, p, none⟩ u) g (p + 1) us
theorem putL_blk : ∀ (us : List Value) {w : World} {g p : Nat} {T : TypeId} {cur : Array Value}, Blk w g T cur → p + us.length ≤ cur.size → ∃ cur', Blk (putL w g p us) g T cur' ∧ cur'.toList = cur.toList.take p ++ (us ++ cur.toList.drop (p + us.length))
  | [], w, g, p, T, cur, h, _ => ⟨cur, h, by simp⟩
  | u :: us, w, g, p, T, cur, h, hp => by
    rw [List.length_cons] at hp
    obtain ⟨cur', h1, h2⟩ := putL_blk us (h.put p u) (p := p + 1) (by rw [Array.size_setIfInBounds]; omega)
    refine ⟨cur', h1, ?_⟩
    rw [h2, Array.toList_setIfInBounds]
    have hpl : p < cur.toList.length := by rw [Array.length_toList]; omega
    have e1 : (cur.toList.set p u).take (p + 1) = cur.toList.take p ++ [u] := by
      rw [List.set_eq_take_append_cons_drop, if_pos hpl, List.take_append, List.length_take, Nat.min_eq_left (Nat.le_of_lt hpl), List.take_of_length_le (by rw [List.length_take]; omega), Nat.add_sub_cancel_left]
      rfl
    have e2 : (cur.toList.set p u).drop (p + 1 + us.length) = cur.toList.drop (p + (us.length + 1)) := by
      rw [List.drop_set_of_lt (by omega)]
      congr 1
      omega
    rw [e1, e2, List.append_assoc, List.length_cons]
    rfl
theorem putL_upd : ∀ (us : List Value) (w : World) (g p : Nat), Upd (fun b => b = g) w (putL w g p us)
  | [], _, _, _ => Upd.refl _ _
  | u :: us, w, g, p => ((Upd.refl (fun b => b = g) w).put1 (i := p) u).trans (putL_upd us _ g (p + 1)) fun _ _ h => h
/-- Element i written. -/
theorem arr_put {w : World} {B n c g i : Nat} {T : TypeId} {l : List α} (h : w.ownsRow B T k (.slice (some ⟨g, 0, none⟩) n c) n (l.flatMap f)) (hf : ∀ x, (f x).length = k) (hk : 0 < k) (hi : i < n) (x : α) :
    (putL w g (i * k) (f x)).ownsRow B T k (.slice (some ⟨g, 0, none⟩) n c) n ((l.set i x).flatMap f) := by
  have hl := arr_len h hf hk
  obtain ⟨cur, hB, hb, hle, hm, hs, ht⟩ := arr_blk h
  have hin : i * k + k ≤ n * k := by
    have := Nat.mul_le_mul_right k (show i + 1 ≤ n from hi)
    rw [Nat.succ_mul] at this
    exact this
  have hnc : n * k ≤ c * k := Nat.mul_le_mul_right k hle
  obtain ⟨cur', h1, h2⟩ := putL_blk (f x) hb (p := i * k) (by rw [hf]; omega)
  have hcl : cur.toList.length = c * k := by rw [Array.length_toList]; exact hs
  have hsz : cur'.size = c * k := by
    rw [← Array.length_toList, h2, List.length_append, List.length_append, List.length_take, List.length_drop, hf, hcl]
    omega
  have hfl : ((l.set i x).flatMap f).length = n * k := by rw [flatK_len hf, List.length_set, hl]
  refine ⟨hfl, .inr ⟨g, c, cur', rfl, hB, h1, hle, hm, hsz, ?_⟩⟩
  rw [flatK_set hf l i x (by omega), h2, ← ht, hf]
  have e1 : (cur.toList.take (n * k)).take (i * k) = cur.toList.take (i * k) := by rw [List.take_take, Nat.min_eq_left (by omega)]
  have e2 : (cur.toList.take (n * k)).drop (i * k + k) = (cur.toList.drop (i * k + k)).take (n * k - (i * k + k)) := by rw [List.drop_take]
  rw [e1, e2]
  have l1 : (cur.toList.take (i * k)).length = i * k := by rw [List.length_take, hcl]; omega
  have l2 := hf x
  generalize cur.toList.take (i * k) = X at *
  generalize f x = Y at *
  generalize cur.toList.drop (i * k + k) = Z at *
  generalize i * k = ik at *
  generalize n * k = nk at *
  rw [List.take_append, l1, List.take_of_length_le (by omega), List.take_append, l2, List.take_of_length_le (by omega)]
  congr 3
  omega
/-- Elements i and j written, in this order. -/
theorem arr_put2 {w : World} {B n c g i j : Nat} {T : TypeId} {l l' : List α} (h : w.ownsRow B T k (.slice (some ⟨g, 0, none⟩) n c) n (l.flatMap f)) (hf : ∀ x, (f x).length = k) (hk : 0 < k) (hi : i < n) (hj : j < n) (x y : α) (he : (l.set i x).set j y = l') :
    (putL (putL w g (i * k) (f x)) g (j * k) (f y)).drew.ownsRow B T k (.slice (some ⟨g, 0, none⟩) n c) n (l'.flatMap f) ∧ Upd (fun b => b = g) w (putL (putL w g (i * k) (f x)) g (j * k) (f y)).drew := by
  subst he
  exact ⟨arr_put (arr_put h hf hk hi x) hf hk hj y, ((putL_upd _ w g _).trans (putL_upd _ _ g _) fun _ _ h => h).drew⟩
end
end Go.Proofs.YtlnademnfnhbpaaGreat
