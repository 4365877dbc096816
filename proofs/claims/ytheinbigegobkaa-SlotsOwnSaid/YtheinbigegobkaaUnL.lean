/- Plain laws of unpacking: what has been read is right; sorting. No program here. -/
import Derived.Test.YtheinbigegobkaaOwnKV
import Derived.Test.YtheinbigegobkaaSorted
namespace Go.Proofs.Ytheinbigegobkaa
open Go.RowKit

/-- A property that has been read. -/
structure GKV.Good (p : GKV) : Prop where
  lo : 0 ≤ p.key
  hi : p.key < 200
  chk : chk p.val = 0
  fits : p.val.Fits

theorem decP_good {l : List UInt8} {g : GVal} {k : Nat} (h : decP l = (g, k, 0)) : chk g = 0 ∧ g.Fits ∧ ∃ r, enc g ++ r = l ∧ k = (enc g).length := by
  unfold decP at h
  cases hp : pVal l with
  | error e => rw [hp] at h; injection h with _ h; injection h with _ h; subst h; exact absurd hp pVal_zero
  | ok x =>
    obtain ⟨g', r⟩ := x
    rw [hp] at h
    injection h with h1 h2
    injection h2 with h2 _
    subst h1
    obtain ⟨h3, h4, h5⟩ := pVal_back hp
    have hc := right_chk h3
    rw [← enc_right hc] at h5
    refine ⟨hc, h4, r, h5, ?_⟩
    rw [← h2, ← h5, List.length_append]
    omega
theorem decD_good {l : List UInt8} {k : Nat} (h : (decD k (decP l)).2 = 0) : chk (decD k (decP l)).1 = 0 ∧ (decD k (decP l)).1.Fits := by
  unfold decD at h ⊢
  split at h
  · simp at h
  · rename_i hn
    rw [if_neg hn]
    obtain ⟨h1, h2, _⟩ := decP_good (l := l) (g := (decP l).1) (k := (decP l).2.1) (by
      apply Prod.ext
      · rfl
      apply Prod.ext
      · rfl
      · exact h)
    exact ⟨h1, h2⟩
theorem inS_good : ∀ (m : Nat) (l : List UInt8) (r : List GKV), inS m l = some r → (∀ p ∈ r, p.Good) ∧ r.length ≤ m := by
  intro m
  induction m with
  | zero => intro l r h; simp only [inS] at h; injection h with h; subst h; simp
  | succ m ih =>
    intro l r h
    by_cases hl : l = []
    · subst hl
      rw [inS_nil] at h
      injection h with h; subst h; simp
    by_cases h0 : be (l.take 2) = 0
    · rw [inS_zero hl h0] at h
      split at h
      · injection h with h; subst h; simp
      · cases h
    · rw [inS_next hl rfl h0 (g := (decP (l.drop 2)).1) (k := (decP (l.drop 2)).2.1) (er := (decP (l.drop 2)).2.2) rfl] at h
      split at h
      · cases h
      rename_i hn
      split at h
      · cases hr : inS m (l.drop (pad8 (2 + (decP (l.drop 2)).2.1))) with
        | none => rw [hr] at h; cases h
        | some r' =>
          rw [hr] at h
          injection h with h
          subst h
          obtain ⟨h1, h2⟩ := ih _ _ hr
          have he : (decP (l.drop 2)).2.2 = 0 := by
            by_cases he : (decP (l.drop 2)).2.2 = 0
            · exact he
            · exact absurd (.inr he) hn
          obtain ⟨g1, g2, _⟩ := decP_good (l := l.drop 2) (g := (decP (l.drop 2)).1) (k := (decP (l.drop 2)).2.1) (by
            apply Prod.ext
            · rfl
            apply Prod.ext
            · rfl
            · exact he)
          refine ⟨fun p hp => ?_, by simp; omega⟩
          rcases List.mem_cons.1 hp with rfl | hp
          · have hn2 : ¬ 200 < be (l.take 2) := fun h => hn (.inl h)
            exact ⟨by simp only; omega, by simp only; omega, g1, g2⟩
          · exact h1 p hp
      · cases h
theorem inO_good : ∀ (m : Nat) (l : List UInt8) (r : List GKV), inO m l = some r → (∀ p ∈ r, p.Good) ∧ r.length ≤ m := by
  intro m
  induction m with
  | zero => intro l r h; simp only [inO] at h; injection h with h; subst h; simp
  | succ m ih =>
    intro l r h
    by_cases hl : l = []
    · subst hl
      rw [inO_nil] at h
      injection h with h; subst h; simp
    by_cases h4 : l.length < 4
    · rw [inO_short hl h4] at h
      cases h
    · rw [inO_next (by omega) rfl rfl] at h
      split at h
      · cases h
      rename_i hn
      split at h
      · cases h
      rename_i he
      cases hr : inO m (l.drop (4 + be ((l.drop 2).take 2))) with
      | none => rw [hr] at h; cases h
      | some r' =>
        rw [hr] at h
        injection h with h
        subst h
        obtain ⟨h1, h2⟩ := ih _ _ hr
        obtain ⟨g1, g2⟩ := decD_good (Decidable.not_not.1 he)
        refine ⟨fun p hp => ?_, by simp; omega⟩
        rcases List.mem_cons.1 hp with rfl | hp
        · have hn1 : ¬ be (l.take 2) = 0 := fun h => hn (.inl h)
          have hn2 : ¬ 200 < be (l.take 2) := fun h => hn (.inr (.inl h))
          exact ⟨by simp only; omega, by simp only; omega, g1, g2⟩
        · exact h1 p hp

theorem filter_dat (ls : List KV) (k : Int) : (ls.map KV.dat).filter (fun p => p.key == k) = (ls.filter fun x => KV.key x == k).map KV.dat := by
  rw [List.filter_map]; rfl
/-- What the stable sort leaves. -/
theorem sorted_byKey {l ls : List KV} (h1 : SortedK KV.key l) (h2 : SameK KV.key l ls) (h3 : ∀ x ∈ ls, 0 ≤ x.key ∧ x.key < 200) : l.map KV.dat = byKey (ls.map KV.dat) := by
  have h4 := h1.flat 200 0 fun x hx => by have := h3 x (h2.mem hx); omega
  unfold byKey
  rw [List.range_eq_range', h4, List.map_flatMap]
  rw [List.flatMap_def, List.flatMap_def]
  congr 1
  apply List.map_congr_left
  intro k _
  rw [filter_dat, ← h2]
theorem good_fit {ls : List KV} (h : ∀ p ∈ ls.map KV.dat, p.Good) : KVFit ls := by
  intro x hx
  have hr := chk_right (h x.dat (List.mem_map_of_mem hx)).chk
  have hc := (h x.dat (List.mem_map_of_mem hx)).chk
  unfold chk at hc
  split at hc
  · cases hc
  split at hc
  · cases hc
  split at hc
  · cases hc
  split at hc
  · cases hc
  rename_i hn
  refine ⟨?_, fun s hs => ?_⟩
  · have : ¬ 1000 < x.g.text.size := fun h => hn (.inl h)
    omega
  · have : ¬ 1000 < s.size := fun h => hn (.inr (List.any_eq_true.2 ⟨s, hs, by simpa using h⟩))
    omega

section
variable {w w' : World} {B : Nat} {v v2 : Value} {ls ls2 : List KV}
/-- Two lists of properties, joined. -/
theorem OwnKV.app {v' : Value} (h : OwnKV w B v ls) (h2 : OwnKV w B v2 ls2) (hg : Grew w B 47 6 v (ls.length + ls2.length) (ls.flatMap KV.cells ++ ls2.flatMap KV.cells) v' w') : OwnKV w' B v' (ls ++ ls2) := by
  obtain ⟨u1, u2⟩ := h.upd_row hg.upd fun b hb => hb
  have t1 : ∀ x ∈ ls2, w'.ownsRow B 2 1 (.slice x.A1 x.n1 x.c1) x.n1 (x.g.nums.map (Value.int .i64)) := fun x hx => own_upd (h2.nums x hx) hg.upd fun g hg' hh => own_ne_own (h2.nums x hx) h.row (by decide) g hg' hh
  have t2 : ∀ x ∈ ls2, w'.ownsRow B 9 1 (.slice x.A2 x.n2 x.c2) x.n2 (x.g.texts.map Value.string) := fun x hx => own_upd (h2.texts x hx) hg.upd fun g hg' hh => own_ne_own (h2.texts x hx) h.row (by decide) g hg' hh
  refine ⟨?_, ?_, ?_, ?_, ?_⟩
  · rw [List.length_append, List.flatMap_append]
    exact hg.own
  all_goals
    intro y hy
    rcases List.mem_append.1 hy with hy | hy
    · first
        | exact u1 y hy
        | exact u2 y hy
        | exact h.fits y hy
        | exact h.key y hy
    · first
        | exact t1 y hy
        | exact t2 y hy
        | exact h2.fits y hy
        | exact h2.key y hy
end
end Go.Proofs.Ytheinbigegobkaa
