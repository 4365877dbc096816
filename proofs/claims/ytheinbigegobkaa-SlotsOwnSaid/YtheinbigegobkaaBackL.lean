/- Plain laws: what is packed is unpacked again. No program here. -/
import Derived.Test.YtheinbigegobkaaUnL
import Derived.Test.YtheinbigegobkaaPack
namespace Go.Proofs.Ytheinbigegobkaa
open Go.RowKit

/-- The properties in place, and those beside. -/
def partK (m : Nat) : List UInt8 × List UInt8 → List GKV → List GKV × List GKV
  | _, [] => ([], [])
  | st, p :: l =>
    if (inl p.key (enc p.val)).length ≤ m - st.1.length then (p :: (partK m (packStep m st p) l).1, (partK m (packStep m st p) l).2)
    else ((partK m (packStep m st p) l).1, p :: (partK m (packStep m st p) l).2)

theorem part_fold (m : Nat) : ∀ (l : List GKV) (st : List UInt8 × List UInt8), l.foldl (packStep m) st = (st.1 ++ (partK m st l).1.flatMap (fun p => inl p.key (enc p.val)), st.2 ++ (partK m st l).2.flatMap (fun p => bes p.key (enc p.val))) := by
  intro l
  induction l with
  | nil => intro st; simp [partK]
  | cons p l ih =>
    intro st
    rw [List.foldl_cons, ih]
    simp only [partK]
    by_cases h : (inl p.key (enc p.val)).length ≤ m - st.1.length
    · rw [if_pos h]
      have h1 : packStep m st p = (st.1 ++ inl p.key (enc p.val), st.2) := by unfold packStep; rw [if_pos h]
      simp only [h1, List.flatMap_cons, List.append_assoc]
    · rw [if_neg h]
      have h1 : packStep m st p = (st.1, st.2 ++ bes p.key (enc p.val)) := by unfold packStep; rw [if_neg h]
      simp only [h1, List.flatMap_cons, List.append_assoc]
theorem part_mem (m : Nat) : ∀ (l : List GKV) (st : List UInt8 × List UInt8), (∀ p ∈ (partK m st l).1, p ∈ l) ∧ (∀ p ∈ (partK m st l).2, p ∈ l) ∧ (partK m st l).1.length + (partK m st l).2.length = l.length := by
  intro l
  induction l with
  | nil => intro st; simp [partK]
  | cons p l ih =>
    intro st
    obtain ⟨h1, h2, h3⟩ := ih (packStep m st p)
    simp only [partK]
    split
    · refine ⟨fun q hq => ?_, fun q hq => List.mem_cons_of_mem _ (h2 q hq), by simp only [List.length_cons]; omega⟩
      rcases List.mem_cons.1 hq with rfl | hq
      · exact List.mem_cons_self ..
      · exact List.mem_cons_of_mem _ (h1 q hq)
    · refine ⟨fun q hq => List.mem_cons_of_mem _ (h1 q hq), fun q hq => ?_, by simp only [List.length_cons]; omega⟩
      rcases List.mem_cons.1 hq with rfl | hq
      · exact List.mem_cons_self ..
      · exact List.mem_cons_of_mem _ (h2 q hq)
/-- Key by key they are the same. -/
theorem part_filter (m : Nat) (k : Int) : ∀ (l : List GKV) (st : List UInt8 × List UInt8), (l.Pairwise fun a b => a.key < b.key) → ((partK m st l).1 ++ (partK m st l).2).filter (fun p => p.key == k) = l.filter fun p => p.key == k := by
  intro l
  induction l with
  | nil => intro st _; simp [partK]
  | cons p l ih =>
    intro st hs
    have hs' := List.pairwise_cons.1 hs
    have h1 := ih (packStep m st p) hs'.2
    have h2 := (part_mem m l (packStep m st p)).1
    simp only [partK]
    split
    · rw [List.cons_append, List.filter_cons, List.filter_cons, h1]
    · rw [List.filter_append, List.filter_cons, List.filter_cons]
      rw [List.filter_append] at h1
      by_cases hk : (p.key == k) = true
      · rw [if_pos hk, if_pos hk, ← h1]
        have h3 : ((partK m (packStep m st p) l).1.filter fun p => p.key == k) = [] := List.filter_eq_nil_iff.2 fun q hq => by
          have h4 := hs'.1 q (h2 q hq)
          simp only [beq_iff_eq] at hk ⊢
          omega
        rw [h3]
        rfl
      · rw [if_neg hk, if_neg hk, h1]
/-- What is in place fits. -/
theorem part_fit (m : Nat) : ∀ (l : List GKV) (st : List UInt8 × List UInt8), st.1.length ≤ m → (l.foldl (packStep m) st).1.length ≤ m := by
  intro l
  induction l with
  | nil => intro st h; exact h
  | cons p l ih =>
    intro st h
    rw [List.foldl_cons]
    refine ih _ ?_
    unfold packStep
    split
    · rw [List.length_append]; omega
    · exact h

theorem packErr_sorted : ∀ (l : List GKV) (prev : Int), packErr prev l = 0 → (∀ p ∈ l, prev < p.key) ∧ l.Pairwise fun a b => a.key < b.key := by
  intro l
  induction l with
  | nil => intro prev _; simp
  | cons p l ih =>
    intro prev h
    simp only [packErr] at h
    split at h
    · cases h
    split at h
    · cases h
    split at h
    · rename_i h1 _ h2
      exact absurd h h2
    · rename_i h1 hp h2
      obtain ⟨h3, h4⟩ := ih _ h
      refine ⟨fun q hq => ?_, List.pairwise_cons.2 ⟨h3, h4⟩⟩
      rcases List.mem_cons.1 hq with rfl | hq
      · omega
      · have := h3 q hq; omega

theorem zeros_all (n : Nat) : zerosB (List.replicate n 0) = true := by
  unfold zerosB
  rw [List.all_eq_true]
  intro x hx
  rw [List.eq_of_mem_replicate hx]
  rfl
theorem pad8_le (n : Nat) : n ≤ pad8 n ∧ pad8 n < n + 8 := by unfold pad8; omega
theorem inl_eq (k : Int) (d : List UInt8) : inl k d = beb 2 (k + 1).toNat ++ (d ++ List.replicate (pad8 (2 + d.length) - (2 + d.length)) 0) := by
  unfold inl padz
  rw [List.append_assoc, List.length_append, beb_len]
theorem be_beb2 {k : Int} (h : 0 ≤ k ∧ k < 200) : be (beb 2 (k + 1).toNat) = (k + 1).toNat := by
  rw [be_beb]
  omega

/-- What stands in place, read. -/
theorem inS_laid : ∀ (a : List GKV) (f z : Nat), (∀ p ∈ a, p.Good) → a.length ≤ f → inS f (a.flatMap (fun p => inl p.key (enc p.val)) ++ List.replicate z 0) = some a := by
  intro a
  induction a with
  | nil =>
    intro f z _ _
    rw [List.flatMap_nil, List.nil_append]
    cases f with
    | zero => rfl
    | succ f =>
      cases z with
      | zero => exact inS_nil _
      | succ z =>
        rw [inS_zero (by simp) (by cases z <;> simp [List.replicate_succ, be]), if_pos (zeros_all _)]
  | cons p a ih =>
    intro f z hg hf
    obtain ⟨h1, h2, h3, h4⟩ := hg p (by simp)
    cases f with
    | zero => simp at hf
    | succ f =>
      rw [List.flatMap_cons]
      obtain ⟨Z, hZ⟩ : ∃ Z, a.flatMap (fun p => inl p.key (enc p.val)) ++ List.replicate z 0 = Z := ⟨_, rfl⟩
      have ih2 := ih f z (fun q hq => hg q (by simp [hq])) (by simp at hf; omega)
      rw [hZ] at ih2
      rw [List.append_assoc, hZ, inl_eq, List.append_assoc, List.append_assoc]
      obtain ⟨d, hd⟩ : ∃ d, enc p.val = d := ⟨_, rfl⟩
      have hP : ∀ t, decP (d ++ t) = (p.val, d.length, 0) := fun t => by rw [← hd]; exact decP_enc h3 h4 t
      rw [hd]
      have hl2 : (beb 2 (p.key + 1).toNat).length = 2 := beb_len _ _
      have hp := pad8_le (2 + d.length)
      generalize hb : beb 2 (p.key + 1).toNat = b at hl2 ⊢
      have ht : be (List.take 2 (b ++ (d ++ (List.replicate (pad8 (2 + d.length) - (2 + d.length)) 0 ++ Z)))) = (p.key + 1).toNat := by
        rw [List.take_left' hl2, ← hb, be_beb2 ⟨h1, h2⟩]
      rw [inS_next (k := d.length) (g := p.val) (er := 0) (by intro h; have := congrArg List.length h; simp [hl2] at this) ht (by omega) (by rw [List.drop_left' hl2]; exact hP _)]
      rw [if_neg (by omega)]
      have hq : pad8 (2 + d.length) = (b ++ (d ++ List.replicate (pad8 (2 + d.length) - (2 + d.length)) 0)).length := by
        simp only [List.length_append, hl2, List.length_replicate]; omega
      have e1 : b ++ (d ++ (List.replicate (pad8 (2 + d.length) - (2 + d.length)) 0 ++ Z)) = (b ++ (d ++ List.replicate (pad8 (2 + d.length) - (2 + d.length)) 0)) ++ Z := by simp
      rw [e1, List.take_left' hq.symm, List.drop_left' hq.symm, ih2]
      have e2 : (b ++ (d ++ List.replicate (pad8 (2 + d.length) - (2 + d.length)) 0)).drop (2 + d.length) = List.replicate (pad8 (2 + d.length) - (2 + d.length)) 0 := by
        rw [← List.append_assoc, List.drop_left' (by rw [List.length_append, hl2])]
      rw [e2, if_pos (zeros_all _)]
      simp only [Option.map_some]
      congr 2
      obtain ⟨pk, pv⟩ := p
      simp only at h1 ⊢
      congr 1
      omega
/-- What stands beside, read. -/
theorem inO_laid : ∀ (a : List GKV) (f : Nat), (∀ p ∈ a, p.Good) → a.length ≤ f → inO f (a.flatMap (fun p => bes p.key (enc p.val))) = some a := by
  intro a
  induction a with
  | nil => intro f _ _; exact inO_nil _
  | cons p a ih =>
    intro f hg hf
    obtain ⟨h1, h2, h3, h4⟩ := hg p (by simp)
    cases f with
    | zero => simp at hf
    | succ f =>
      rw [List.flatMap_cons]
      have ih2 := ih f (fun q hq => hg q (by simp [hq])) (by simp at hf; omega)
      obtain ⟨Z, hZ⟩ : ∃ Z, a.flatMap (fun p => bes p.key (enc p.val)) = Z := ⟨_, rfl⟩
      rw [hZ] at ih2 ⊢
      obtain ⟨d, hd⟩ : ∃ d, enc p.val = d := ⟨_, rfl⟩
      have hD : decD d.length (decP d) = (p.val, 0) := by rw [← hd]; exact decD_enc h3 h4
      have hdl : d.length ≤ 40082 := by rw [← hd]; have := enc_len_le (g := p.val); omega
      rw [hd]
      unfold bes
      have hl2 : (beb 2 (p.key + 1).toNat).length = 2 := beb_len _ _
      have hm2 : (beb 2 d.length).length = 2 := beb_len _ _
      have hm : be (beb 2 d.length) = d.length := by rw [be_beb]; omega
      have hk := be_beb2 ⟨h1, h2⟩
      generalize beb 2 (p.key + 1).toNat = b at hl2 hk ⊢
      generalize beb 2 d.length = c at hm2 hm ⊢
      rw [List.append_assoc, List.append_assoc]
      have e1 : b ++ (c ++ (d ++ Z)) = (b ++ c) ++ (d ++ Z) := by simp
      have e4 : (b ++ c).length = 4 := by rw [List.length_append, hl2, hm2]
      rw [inO_next (N := (p.key + 1).toNat) (k := d.length) (by simp only [List.length_append, hl2, hm2]; omega) (by rw [List.take_left' hl2, hk]) (by rw [List.drop_left' hl2, List.take_left' hm2, hm])]
      rw [if_neg (by simp only [List.length_append, hl2, hm2]; omega)]
      have e2 : (b ++ (c ++ (d ++ Z))).drop 4 = d ++ Z := by rw [e1, List.drop_left' e4]
      have e3 : (b ++ (c ++ (d ++ Z))).drop (4 + d.length) = Z := by rw [← List.drop_drop, e2, List.drop_left' rfl]
      rw [e2, e3, List.take_left' rfl, hD, ih2, if_neg (by simp)]
      simp only [Option.map_some]
      congr 2
      obtain ⟨pk, pv⟩ := p
      simp only at h1 ⊢
      congr 1
      omega

theorem byKey_congr {l m : List GKV} (h : ∀ k : Int, (l.filter fun p => p.key == k) = m.filter fun p => p.key == k) : byKey l = byKey m := by
  unfold byKey
  rw [List.flatMap_def, List.flatMap_def]
  congr 1
  exact List.map_congr_left fun k _ => h k
theorem byKey_sorted {l : List GKV} (hs : l.Pairwise fun a b => a.key < b.key) (h : ∀ p ∈ l, 0 ≤ p.key ∧ p.key ≤ 199) : byKey l = l := by
  have h1 : SortedK GKV.key l := hs.imp fun h => by omega
  have h2 := h1.flat 200 0 fun x hx => by have := h x hx; omega
  unfold byKey
  rw [List.range_eq_range']
  exact h2.symm

/-- What is packed is unpacked again. -/
theorem unpack_pack {l : List GKV} {room : Int} {S O : List UInt8} (hP : packP l room = (S, O, 0)) (hf : ∀ p ∈ l, p.val.Fits) :
    unpackP S O = (l, 0) ∧ (S.length : Int) = 8 * room ∧ S.length ≤ 128 ∧ O.length ≤ 800000 := by
  by_cases h1 : room < 0 ∨ 16 < room
  · rw [packP_arg h1] at hP
    injection hP with _ h; injection h with _ h; cases h
  by_cases h2 : 16 < l.length
  · rw [packP_many h1 h2] at hP
    injection hP with _ h; injection h with _ h; cases h
  by_cases h3 : packErr (-1) l = 0
  · have hP0 := hP
    rw [packP_ok h1 h2 h3] at hP
    injection hP with e1 e2
    injection e2 with e2 _
    obtain ⟨m, hm⟩ : ∃ m, 8 * room.toNat = m := ⟨_, rfl⟩
    rw [hm] at e1 e2
    obtain ⟨_, hsort⟩ := packErr_sorted l _ h3
    have hall := packErr_all l _ h3
    have hgood : ∀ p ∈ l, p.Good := fun p hp => ⟨(hall p hp).1, by have := (hall p hp).2.1; omega, (hall p hp).2.2, hf p hp⟩
    have hfit := part_fit m l ([], []) (Nat.zero_le _)
    have hov := pack_over m l ([], [])
    rw [e2] at hov
    simp only [List.length_nil] at hov
    have hlen : S.length = m := by rw [← e1]; exact padz_len _ _ hfit
    obtain ⟨m1, m2, m3⟩ := part_mem m l ([], [])
    have hfo := part_fold m l ([], [])
    simp only [List.nil_append] at hfo
    rw [hfo] at e1 e2 hfit
    simp only at e1 e2 hfit
    have hA : inS S.length S = some (partK m ([], []) l).1 := by
      rw [← e1]
      unfold padz
      refine inS_laid _ _ _ (fun p hp => hgood p (m1 p hp)) ?_
      rw [List.length_append, List.length_replicate]
      have h8 : ∀ a : List GKV, a.length ≤ (a.flatMap fun p => inl p.key (enc p.val)).length := by
        intro a
        induction a with
        | nil => simp
        | cons p a ih =>
          rw [List.flatMap_cons, List.length_append, List.length_cons, inl_len]
          have := pad8_le (2 + (enc p.val).length)
          omega
      have := h8 (partK m ([], []) l).1
      omega
    have hB : inO O.length O = some (partK m ([], []) l).2 := by
      rw [← e2]
      refine inO_laid _ _ (fun p hp => hgood p (m2 p hp)) ?_
      have h8 : ∀ a : List GKV, a.length ≤ (a.flatMap fun p => bes p.key (enc p.val)).length := by
        intro a
        induction a with
        | nil => simp
        | cons p a ih =>
          rw [List.flatMap_cons, List.length_append, List.length_cons, bes_len]
          omega
      exact h8 _
    have hby : byKey ((partK m ([], []) l).1 ++ (partK m ([], []) l).2) = l :=
      (byKey_congr fun k => part_filter m k l ([], []) hsort).trans (byKey_sorted hsort fun p hp => ⟨(hall p hp).1, (hall p hp).2.1⟩)
    have hroom : ((S.length : Int) / 8) = room := by omega
    refine ⟨?_, by omega, by omega, by omega⟩
    have hU : unpackP S O = if 16 < (partK m ([], []) l).1.length + (partK m ([], []) l).2.length then ([], 64) else if packP (byKey ((partK m ([], []) l).1 ++ (partK m ([], []) l).2)) (S.length / 8) = (S, O, 0) then (byKey ((partK m ([], []) l).1 ++ (partK m ([], []) l).2), 0) else ([], 162) := by
      unfold unpackP
      rw [if_neg (by omega), hA, hB]
    rw [hU, if_neg (by omega), hby, hroom, if_pos hP0]
  · rw [packP_err h1 h2 rfl h3] at hP
    injection hP with _ h; injection h with _ h
    exact absurd h h3
/-- What is refused has no bytes. -/
theorem pack_refused {l : List GKV} {room : Int} {S O : List UInt8} {E : Int} (hP : packP l room = (S, O, E)) (hE : E ≠ 0) : S = [] ∧ O = [] := by
  by_cases h1 : room < 0 ∨ 16 < room
  · rw [packP_arg h1] at hP
    injection hP with h2 h; injection h with h3 _
    exact ⟨h2.symm, h3.symm⟩
  by_cases h2 : 16 < l.length
  · rw [packP_many h1 h2] at hP
    injection hP with h2 h; injection h with h3 _
    exact ⟨h2.symm, h3.symm⟩
  by_cases h3 : packErr (-1) l = 0
  · rw [packP_ok h1 h2 h3] at hP
    injection hP with _ h; injection h with _ h
    exact absurd h.symm hE
  · rw [packP_err h1 h2 rfl h3] at hP
    injection hP with h2 h; injection h with h3 _
    exact ⟨h2.symm, h3.symm⟩
end Go.Proofs.Ytheinbigegobkaa
