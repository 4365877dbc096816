/- Plain laws: where what is packed stands. No program here. -/
import Derived.Test.YtheinbigegobkaaBackL
namespace Go.Proofs.Ytheinbigegobkaa
open Go.RowKit

/-- What is laid of the first i properties. -/
def laidP (m : Nat) (l : List GKV) (i : Nat) : List UInt8 × List UInt8 := (l.take i).foldl (packStep m) ([], [])
theorem laid_succ {m : Nat} {l : List GKV} {i : Nat} {p : GKV} (h : l[i]? = some p) : laidP m l (i + 1) = packStep m (laidP m l i) p := by
  unfold laidP
  rw [List.take_add_one, h, Option.toList_some, List.foldl_append]
  rfl
theorem laid_all (m : Nat) (l : List GKV) (i : Nat) : ∃ a b, l.foldl (packStep m) ([], []) = ((laidP m l i).1 ++ a, (laidP m l i).2 ++ b) := by
  have h := part_fold m (l.drop i) (laidP m l i)
  have e : (l.drop i).foldl (packStep m) (laidP m l i) = l.foldl (packStep m) ([], []) := by unfold laidP; rw [← List.foldl_append, List.take_append_drop]
  exact ⟨_, _, e.symm.trans h⟩
theorem laid_fit (m : Nat) (l : List GKV) (i : Nat) : (laidP m l i).1.length ≤ m := part_fit m _ _ (Nat.zero_le _)

/-- What is packed without error. -/
theorem pack_parts {l : List GKV} {room : Int} {S O : List UInt8} (hP : packP l room = (S, O, 0)) :
    0 ≤ room ∧ room ≤ 16 ∧ l.length ≤ 16 ∧ packErr (-1) l = 0 ∧ S = padz (l.foldl (packStep (8 * room.toNat)) ([], [])).1 (8 * room.toNat) ∧ O = (l.foldl (packStep (8 * room.toNat)) ([], [])).2 := by
  by_cases h1 : room < 0 ∨ 16 < room
  · rw [packP_arg h1] at hP
    injection hP with _ h; injection h with _ h; cases h
  by_cases h2 : 16 < l.length
  · rw [packP_many h1 h2] at hP
    injection hP with _ h; injection h with _ h; cases h
  by_cases h3 : packErr (-1) l = 0
  · rw [packP_ok h1 h2 h3] at hP
    injection hP with e1 e2
    injection e2 with e2 _
    exact ⟨by omega, by omega, by omega, h3, e1.symm, e2.symm⟩
  · rw [packP_err h1 h2 rfl h3] at hP
    injection hP with _ h; injection h with _ h
    exact absurd h h3
theorem pack_len {l : List GKV} {room : Int} {S O : List UInt8} (hP : packP l room = (S, O, 0)) : S.length = 8 * room.toNat ∧ O.length ≤ 800000 := by
  obtain ⟨h1, h2, h3, h4, h5, h6⟩ := pack_parts hP
  have hov := pack_over (8 * room.toNat) l ([], [])
  rw [← h6] at hov
  simp only [List.length_nil] at hov
  refine ⟨?_, by omega⟩
  rw [h5]
  exact padz_len _ _ (part_fit _ l ([], []) (Nat.zero_le _))

theorem drop_mid {a b c : List UInt8} {n : Nat} (h : a.length = n) : (a ++ b ++ c).drop n = b ++ c := by
  rw [List.append_assoc, List.drop_left' h]
theorem two_app {b c : List UInt8} (h : b.length = 2) (r : List UInt8) : (b ++ c ++ r).take 2 = b := by
  rw [List.append_assoc, List.take_left' h]

/-- One property: in place, or beside. -/
theorem inline_step {l : List GKV} {room : Int} {S O : List UInt8} (hP : packP l room = (S, O, 0)) {i : Nat} {p : GKV} (h : l[i]? = some p) {a b : Nat} (ha : (laidP (8 * room.toNat) l i).1.length = a) (hb : (laidP (8 * room.toNat) l i).2.length = b) :
    (8 * needP p.val ≤ 8 * room.toNat - a ∧ be ((S.drop a).take 2) = (p.key + 1).toNat ∧ (laidP (8 * room.toNat) l (i + 1)).1.length = a + 8 * needP p.val ∧ (laidP (8 * room.toNat) l (i + 1)).2.length = b) ∨
    (8 * room.toNat - a < 8 * needP p.val ∧ be ((O.drop b).take 2) = (p.key + 1).toNat ∧ (laidP (8 * room.toNat) l (i + 1)).1.length = a ∧ ∃ k, be ((O.drop (b + 2)).take 2) = k ∧ b + 4 + k ≤ O.length ∧ (laidP (8 * room.toNat) l (i + 1)).2.length = b + 4 + k) := by
  obtain ⟨h1, h2, h3, h4, h5, h6⟩ := pack_parts hP
  have hmem : p ∈ l := List.mem_of_getElem? h
  obtain ⟨k1, k2, k3⟩ := packErr_all l _ h4 p hmem
  have hn := needP_len k3 p.key
  obtain ⟨x, y, hxy⟩ := laid_all (8 * room.toNat) l (i + 1)
  rw [hxy] at h5 h6
  simp only at h5 h6
  have hs := laid_succ (m := 8 * room.toNat) h
  have hkey : be (beb 2 (p.key + 1).toNat) = (p.key + 1).toNat := be_beb2 ⟨k1, by omega⟩
  have hl2 : (beb 2 (p.key + 1).toNat).length = 2 := beb_len _ _
  by_cases hf : (inl p.key (enc p.val)).length ≤ 8 * room.toNat - (laidP (8 * room.toNat) l i).1.length
  · left
    have hstep : packStep (8 * room.toNat) (laidP (8 * room.toNat) l i) p = ((laidP (8 * room.toNat) l i).1 ++ inl p.key (enc p.val), (laidP (8 * room.toNat) l i).2) := by unfold packStep; rw [if_pos hf]
    rw [hstep] at hs
    refine ⟨by rw [hn, ha] at hf; exact hf, ?_, by rw [hs]; simp only [List.length_append]; rw [hn, ha], by rw [hs]; exact hb⟩
    rw [h5, hs]
    unfold padz
    simp only
    rw [List.append_assoc, drop_mid ha, inl_eq, two_app hl2, hkey]
  · right
    have hstep : packStep (8 * room.toNat) (laidP (8 * room.toNat) l i) p = ((laidP (8 * room.toNat) l i).1, (laidP (8 * room.toNat) l i).2 ++ bes p.key (enc p.val)) := by unfold packStep; rw [if_neg hf]
    rw [hstep] at hs
    have hd : (enc p.val).length ≤ 40082 := enc_len_le
    have hm2 : (beb 2 (enc p.val).length).length = 2 := beb_len _ _
    have hm : be (beb 2 (enc p.val).length) = (enc p.val).length := by rw [be_beb]; omega
    have hO : O = (laidP (8 * room.toNat) l i).2 ++ (beb 2 (p.key + 1).toNat ++ (beb 2 (enc p.val).length ++ enc p.val)) ++ y := by rw [h6, hs]; rfl
    refine ⟨by rw [hn, ha] at hf; omega, ?_, by rw [hs]; exact ha, (enc p.val).length, ?_, ?_, ?_⟩
    · rw [hO, drop_mid hb, two_app hl2, hkey]
    · rw [hO, ← List.drop_drop, drop_mid hb, List.append_assoc, List.drop_left' hl2, two_app hm2, hm]
    · rw [hO]
      simp only [List.length_append, hl2, hm2, hb]
      omega
    · rw [hs]
      simp only [List.length_append, hb, bes, hl2, hm2]
      omega
/-- Behind the last one. -/
theorem inline_end {l : List GKV} {room : Int} {S O : List UInt8} (hP : packP l room = (S, O, 0)) {n a b : Nat} (hn : l.length = n) (ha : (laidP (8 * room.toNat) l n).1.length = a) (hb : (laidP (8 * room.toNat) l n).2.length = b) :
    b = O.length ∧ a ≤ S.length ∧ ∀ j (h : j < S.length), a ≤ j → S[j] = 0 := by
  obtain ⟨h1, h2, h3, h4, h5, h6⟩ := pack_parts hP
  have hla : laidP (8 * room.toNat) l n = l.foldl (packStep (8 * room.toNat)) ([], []) := by unfold laidP; rw [List.take_of_length_le (by omega)]
  have hfit := laid_fit (8 * room.toNat) l n
  rw [← hla] at h5 h6
  refine ⟨by rw [← hb, h6], by rw [(pack_len hP).1]; omega, fun j hj hja => ?_⟩
  have h7 : S[j]? = some 0 := by
    rw [h5]
    unfold padz
    rw [List.getElem?_append_right (by omega), List.getElem?_replicate, if_pos]
    rw [(pack_len hP).1] at hj
    omega
  rw [List.getElem?_eq_getElem hj] at h7
  exact Option.some.inj h7
end Go.Proofs.Ytheinbigegobkaa
