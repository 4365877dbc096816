/- The reference's loop in plain words: one element a round. No program here. -/
import Derived.Test.YtheinbigegobkaaVal
namespace Go.Proofs.Ytheinbigegobkaa

/-- One element: a number into num or nums, a text into text or texts. -/
def step (K kk : Int) (l : List UInt8) (g : GVal) : Except Int (GVal × List UInt8) :=
  if kk < 4 then match pNum kk l with
    | .error e => .error e
    | .ok (n, r) => .ok (if 4 < K then { g with nums := g.nums ++ [n] } else { g with num := n }, r)
  else match pText l with
    | .error e => .error e
    | .ok (s, r) => .ok (if 4 < K then { g with texts := g.texts ++ [s] } else { g with text := s }, r)

/-- So many elements. -/
def run (K kk : Int) : Nat → List UInt8 → GVal → Except Int (GVal × List UInt8)
  | 0, l, g => .ok (g, l)
  | m + 1, l, g => match step K kk l g with
    | .error e => .error e
    | .ok (g', r) => run K kk m r g'

theorem run_err {K kk : Int} {m : Nat} {l : List UInt8} {g : GVal} {e : Int} (hm : 0 < m) (h : step K kk l g = .error e) : run K kk m l g = .error e := by
  cases m with
  | zero => omega
  | succ m => simp only [run, h]
theorem run_ok {K kk : Int} {m : Nat} {l r : List UInt8} {g g' : GVal} (hm : 0 < m) (h : step K kk l g = .ok (g', r)) : run K kk m l g = run K kk (m - 1) r g' := by
  cases m with
  | zero => omega
  | succ m => simp only [run, h, Nat.add_sub_cancel]

theorem run_texts (K : Int) (hK : 4 < K) : ∀ (m : Nat) (l : List UInt8) (g : GVal), run K 4 m l g = match pMany pText m l with
    | .error e => .error e
    | .ok (xs, r) => .ok ({ g with texts := g.texts ++ xs }, r) := by
  intro m
  induction m with
  | zero => intro l g; simp [run, pMany]
  | succ m ih =>
    intro l g
    simp only [run, step, pMany, if_neg (show ¬ (4 : Int) < 4 by omega), if_pos hK]
    cases pText l with
    | error e => rfl
    | ok x =>
      obtain ⟨s, r⟩ := x
      simp only [ih]
      cases pMany pText m r with
      | error e => rfl
      | ok y => obtain ⟨ys, r'⟩ := y; simp
theorem run_nums (K kk : Int) (hK : 4 < K) (hk : kk < 4) : ∀ (m : Nat) (l : List UInt8) (g : GVal), run K kk m l g = match pMany (pNum kk) m l with
    | .error e => .error e
    | .ok (xs, r) => .ok ({ g with nums := g.nums ++ xs }, r) := by
  intro m
  induction m with
  | zero => intro l g; simp [run, pMany]
  | succ m ih =>
    intro l g
    simp only [run, step, pMany, if_pos hk, if_pos hK]
    cases pNum kk l with
    | error e => rfl
    | ok x =>
      obtain ⟨s, r⟩ := x
      simp only [ih]
      cases pMany (pNum kk) m r with
      | error e => rfl
      | ok y => obtain ⟨ys, r'⟩ := y; simp

/-- A value of the kind N with nothing in it. -/
def g0 (N : Int) : GVal := ⟨N, 0, ⟨#[]⟩, [], []⟩

theorem pVal_run (c : UInt8) (l : List UInt8) : pVal (c :: l) = if c.toNat < 1 ∨ 8 < c.toNat then .error 40
    else if 4 < c.toNat then (match l with
      | [] => .error 10
      | d :: l => if 40 < d.toNat then .error 45 else run c.toNat ((c.toNat : Int) - 4) d.toNat l (g0 c.toNat))
    else run c.toNat c.toNat 1 l (g0 c.toNat) := by
  simp only [pVal]
  generalize c.toNat = N
  split
  · rfl
  · rename_i h1
    split
    · rename_i h2
      cases l with
      | nil => rfl
      | cons d l =>
        simp only [pList]
        split
        · rfl
        · split
          · rename_i h8
            obtain rfl : N = 8 := by omega
            rw [show (((8 : Nat) : Int) - 4) = 4 from rfl, run_texts _ (by omega)]
            cases pMany pText d.toNat l <;> rfl
          · rename_i h8
            rw [run_nums _ _ (by omega) (by omega)]
            cases pMany (pNum ((N : Int) - 4)) d.toNat l <;> rfl
    · rename_i h2
      split
      · rename_i h4
        subst h4
        simp only [run, step]
        rw [if_neg (by omega)]
        cases pText l with
        | error e => rfl
        | ok x => simp [g0]
      · rename_i h4
        simp only [run, step]
        rw [if_pos (by omega)]
        cases pNum (N : Int) l with
        | error e => rfl
        | ok x => simp [g0]; omega
end Go.Proofs.Ytheinbigegobkaa
