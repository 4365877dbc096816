/- Plain laws of packing. -/
import Derived.Test.YtheinbigegobkaaPut
namespace Go.Proofs.Ytheinbigegobkaa

/-- The key ahead of place k; -1: none. -/
def prevK (ls : List KV) : Nat → Int
  | 0 => -1
  | k + 1 => match ls[k]? with
    | some x => x.key
    | none => -1
theorem drop_dat {ls : List KV} {k : Nat} {x : KV} (h : ls[k]? = some x) : (ls.map KV.dat).drop k = x.dat :: (ls.map KV.dat).drop (k + 1) := by
  have hk : k < (ls.map KV.dat).length := by
    rw [List.length_map]
    exact (List.getElem?_eq_some_iff.1 h).1
  rw [List.drop_eq_getElem_cons hk]
  congr 1
  rw [List.getElem_map]
  congr 1
  exact (List.getElem?_eq_some_iff.1 h).2
theorem prevK_succ {ls : List KV} {k : Nat} {x : KV} (h : ls[k]? = some x) : prevK ls (k + 1) = x.key := by simp only [prevK, h]
/-- Where nothing is wrong up to k, the error is that of the rest. -/
theorem packErr_at {ls : List KV} {k : Nat} {x : KV} {E : Int} (h : packErr (prevK ls k) ((ls.map KV.dat).drop k) = E) (hx : ls[k]? = some x) :
    E = if x.key < 0 ∨ 200 ≤ x.key then 110 else if x.key ≤ prevK ls k then 6 else if chk x.g ≠ 0 then chk x.g else packErr (prevK ls (k + 1)) ((ls.map KV.dat).drop (k + 1)) := by
  rw [← h, drop_dat hx, prevK_succ hx]
  rfl
theorem packErr_all : ∀ (l : List GKV) (prev : Int), packErr prev l = 0 → ∀ p ∈ l, 0 ≤ p.key ∧ p.key ≤ 199 ∧ chk p.val = 0 := by
  intro l
  induction l with
  | nil => intro _ _ p hp; cases hp
  | cons q l ih =>
    intro prev h p hp
    simp only [packErr] at h
    split at h
    · cases h
    split at h
    · cases h
    split at h
    · rename_i h1 _ h2
      exact absurd h h2
    · rename_i h1 _ h2
      rcases List.mem_cons.1 hp with rfl | hp
      · exact ⟨by omega, by omega, Decidable.not_not.1 h2⟩
      · exact ih _ h p hp

theorem needP_len {g : GVal} (h : chk g = 0) (k : Int) : (inl k (enc g)).length = 8 * needP g := by
  rw [inl_len]
  unfold needP pad8
  rw [if_pos h]
  omega
/-- The slots that are left, and the bytes that are laid. -/
theorem pack_left (room : Int) (hr : 0 ≤ room) : ∀ (l : List GKV) (left : Int) (st : List UInt8 × List UInt8), (∀ p ∈ l, chk p.val = 0) → 0 ≤ left → (st.1.length : Int) + 8 * left = 8 * room →
    ((l.foldl (packStep (8 * room.toNat)) st).1.length : Int) + 8 * leftP left l = 8 * room := by
  intro l
  induction l with
  | nil => intro left st _ _ h; exact h
  | cons q l ih =>
    intro left st hc h0 h
    have hq := needP_len (hc q (by simp)) q.key
    simp only [List.foldl_cons, leftP]
    by_cases hf : (needP q.val : Int) ≤ left
    · rw [if_pos hf]
      refine ih _ _ (fun p hp => hc p (by simp [hp])) (by omega) ?_
      unfold packStep
      rw [if_pos (by rw [hq]; omega)]
      simp only [List.length_append, hq]
      omega
    · rw [if_neg hf]
      refine ih _ _ (fun p hp => hc p (by simp [hp])) h0 ?_
      unfold packStep
      rw [if_neg (by rw [hq]; omega)]
      exact h
theorem packStep_fit {room L : Int} {st : List UInt8 × List UInt8} {p : GKV} (hc : chk p.val = 0) (h0 : 0 ≤ L) (h : (st.1.length : Int) + 8 * L = 8 * room) (hf : (needP p.val : Int) ≤ L) :
    packStep (8 * room.toNat) st p = (st.1 ++ inl p.key (enc p.val), st.2) := by
  unfold packStep
  rw [if_pos (by rw [needP_len hc]; omega)]
theorem packStep_beside {room L : Int} {st : List UInt8 × List UInt8} {p : GKV} (hc : chk p.val = 0) (h0 : 0 ≤ L) (h : (st.1.length : Int) + 8 * L = 8 * room) (hf : ¬ (needP p.val : Int) ≤ L) :
    packStep (8 * room.toNat) st p = (st.1, st.2 ++ bes p.key (enc p.val)) := by
  unfold packStep
  rw [if_neg (by rw [needP_len hc]; omega)]
theorem bes_len (k : Int) (d : List UInt8) : (bes k d).length = 4 + d.length := by
  unfold bes
  rw [List.length_append, List.length_append, beb_len, beb_len]
  omega
/-- What stands beside is not long. -/
theorem pack_over (m : Nat) : ∀ (l : List GKV) (st : List UInt8 × List UInt8), (l.foldl (packStep m) st).2.length ≤ st.2.length + 50000 * l.length := by
  intro l
  induction l with
  | nil => intro st; simp
  | cons q l ih =>
    intro st
    rw [List.foldl_cons, List.length_cons]
    have h1 := ih (packStep m st q)
    have h2 : (packStep m st q).2.length ≤ st.2.length + 50000 := by
      unfold packStep
      split
      · simp
      · simp only [List.length_append, bes_len]
        have := enc_len_le (g := q.val)
        omega
    omega
theorem foldl_dat {ls : List KV} {k : Nat} {x : KV} {m : Nat} (h : ls[k]? = some x) (st : List UInt8 × List UInt8) : ((ls.take (k + 1)).map KV.dat).foldl (packStep m) st = packStep m (((ls.take k).map KV.dat).foldl (packStep m) st) x.dat := by
  rw [dat_take_succ h, List.foldl_append]
  rfl

/-- packP, step by step. -/
theorem packP_arg {l : List GKV} {room : Int} (h : room < 0 ∨ 16 < room) : packP l room = ([], [], 2) := by unfold packP; rw [if_pos h]
theorem packP_many {l : List GKV} {room : Int} (h : ¬ (room < 0 ∨ 16 < room)) (h2 : 16 < l.length) : packP l room = ([], [], 64) := by unfold packP; rw [if_neg h, if_pos h2]
theorem packP_err {l : List GKV} {room : Int} (h : ¬ (room < 0 ∨ 16 < room)) (h2 : ¬ 16 < l.length) {E : Int} (h3 : packErr (-1) l = E) (hE : E ≠ 0) : packP l room = ([], [], E) := by
  unfold packP; rw [if_neg h, if_neg h2, if_pos (by rw [h3]; exact hE), h3]
theorem packP_ok {l : List GKV} {room : Int} (h : ¬ (room < 0 ∨ 16 < room)) (h2 : ¬ 16 < l.length) (h3 : packErr (-1) l = 0) :
    packP l room = (padz (l.foldl (packStep (8 * room.toNat)) ([], [])).1 (8 * room.toNat), (l.foldl (packStep (8 * room.toNat)) ([], [])).2, 0) := by
  unfold packP; rw [if_neg h, if_neg h2, if_neg (by rw [h3]; simp)]
end Go.Proofs.Ytheinbigegobkaa
