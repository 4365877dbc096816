/- Package wire: Reader. -/
import Derived.Test.YtheinbigegobkaaWire1
namespace Go.Proofs.Ytheinbigegobkaa
open Go.RowKit

/-- What a Reader holds: what is left, and the first error. -/
structure RS where
  left : List UInt8
  err : Int

def RS.take (s : RS) (n : Int) (right : Bool) : List UInt8 × RS :=
  if s.err = 0 then
    if right = false ∨ n < 0 then ([], ⟨[], 2⟩)
    else if (s.left.length : Int) < n then ([], ⟨[], 10⟩)
    else (s.left.take n.toNat, ⟨s.left.drop n.toNat, 0⟩)
  else ([], s)

theorem RS.take_short {left : List UInt8} {k : Nat} (h : left.length < k) : RS.take ⟨left, 0⟩ k true = ([], ⟨[], 10⟩) := by
  have h1 : ¬ ((k : Int) < 0) := by omega
  simp [RS.take, h1, h]
theorem RS.take_ok {left : List UInt8} {k : Nat} (h : k ≤ left.length) : RS.take ⟨left, 0⟩ k true = (left.take k, ⟨left.drop k, 0⟩) := by
  have h1 : ¬ ((k : Int) < 0) := by omega
  have h2 : ¬ (left.length < k) := by omega
  simp [RS.take, h1, h2]
theorem RS.take_err {s : RS} (h : s.err ≠ 0) (n : Int) (right : Bool) : s.take n right = ([], s) := by simp [RS.take, h]

/-- Block r is a Reader in the state s; the bytes that are left lie in one of F's blocks. -/
def Rdr (w : World) (F : Nat → Prop) (r : Nat) (s : RS) : Prop :=
  ∃ A n c, Blk w r 112 #[.slice A n c, .int .i64 s.err] ∧ Bytes w F A n c s.left

theorem Rdr.upd {w w' : World} {F S : Nat → Prop} {r : Nat} {s : RS} (h : Rdr w F r s) (hu : Upd S w w') (hr : ¬ S r) (hf : ∀ b, F b → ¬ S b) : Rdr w' F r s := by
  obtain ⟨A, n, c, hb, hy⟩ := h
  exact ⟨A, n, c, hb.upd hu hr, hy.upd hu hf⟩
theorem Rdr.same {w w' : World} {F : Nat → Prop} {r : Nat} {s : RS} (h : Rdr w F r s) (hu : Same w w') : Rdr w' F r s := h.upd hu (fun f => f) fun _ _ f => f
theorem Rdr.lt {w : World} {F : Nat → Prop} {r : Nat} {s : RS} (h : Rdr w F r s) : r < w.heap.size := by
  obtain ⟨A, n, c, hb, hy⟩ := h
  exact hb.lt

theorem err_spec {w : World} {F : Nat → Prop} {r : Nat} {s : RS} (h : Rdr w F r s) :
    Calls Try.prog 62 #[.pointer (some ⟨r, 0, none⟩)] w fun e w' => e = .returned (.int .i64 s.err) ∧ w = w' := by
  obtain ⟨A, n, c, hb, hy⟩ := h
  have h1 := hb.cell 1
  simp only [List.getElem?_toArray, List.getElem?_cons_succ, List.getElem?_cons_zero] at h1
  go_enter Try.func62, Try.ntmps62
  go_wp2
  go_ret
  exact ⟨rfl, rfl⟩

theorem left_spec {w : World} {F : Nat → Prop} {r : Nat} {s : RS} (h : Rdr w F r s) :
    Calls Try.prog 58 #[.pointer (some ⟨r, 0, none⟩)] w fun e w' => e = .returned (.int .i64 s.left.length) ∧ w = w' := by
  obtain ⟨A, n, c, hb, hy⟩ := h
  have h1 := hb.cell 0
  simp only [List.getElem?_toArray, List.getElem?_cons_zero] at h1
  have HL := Lib.hid hy.len
  go_enter Try.func58, Try.ntmps58
  go_wp2
  go_ret
  exact ⟨by rw [HL.out]; rfl, rfl⟩

set_option maxHeartbeats 400000 in
theorem take_spec {w : World} {F : Nat → Prop} {r : Nat} {s : RS} (h : Rdr w F r s) (hF : ¬ F r) (n : Int) (right : Bool) :
    Calls Try.prog 79 #[.pointer (some ⟨r, 0, none⟩), .int .i64 n, .bool right] w fun e w' =>
      ∃ A' n' c', e = .returned (.slice A' n' c') ∧ Bytes w' F A' n' c' (s.take n right).1 ∧ Rdr w' F r (s.take n right).2 ∧ Upd (fun b => b = r) w w' := by
  have hrdr := h
  obtain ⟨A, m, c, hb, hy⟩ := h
  have h0 := hb.cell 0
  simp only [List.getElem?_toArray, List.getElem?_cons_zero] at h0
  have h1 := hb.cell 1
  simp only [List.getElem?_toArray, List.getElem?_cons_succ, List.getElem?_cons_zero] at h1
  have f0 := hb.frozen 0
  have f1 := hb.frozen 1
  have HL := Lib.hid hy.len
  by_cases he : s.err = 0
  · obtain ⟨left, err⟩ := s
    obtain rfl : err = 0 := he
    simp only at h1 HL
    by_cases ha : right = false ∨ n < 0
    · have e1 : RS.take ⟨left, 0⟩ n right = ([], ⟨[], 2⟩) := by simp [RS.take, ha]
      rw [e1]
      have hr : right = false ∨ (right = true ∧ n < 0) := by
        rcases ha with ha | ha
        · exact .inl ha
        · cases right
          · exact .inl rfl
          · exact .inr ⟨rfl, ha⟩
      clear ha e1
      rcases hr with rfl | ⟨rfl, hn⟩
      all_goals
        go_enter Try.func79, Try.ntmps79
        go_wp2
        go_ret
        exact ⟨none, 0, 0, rfl, Bytes.nil_ _ _, ⟨none, 0, 0, (hb.put 1 _).put 0 _, Bytes.nil_ _ _⟩, ((Upd.refl _ w).put1 _).put1 _⟩
    · have hr : right = true := by cases right <;> simp_all
      subst hr
      have hn : ¬ n < 0 := fun hh => ha (.inr hh)
      obtain ⟨k, rfl⟩ : ∃ k : Nat, n = k := ⟨n.toNat, by omega⟩
      clear ha
      by_cases hk : m < k
      · have e1 : RS.take ⟨left, 0⟩ k true = ([], ⟨[], 10⟩) := by
          exact RS.take_short (by rw [HL.out]; exact hk)
        rw [e1]
        clear e1
        go_enter Try.func79, Try.ntmps79
        go_wp2
        go_ret
        exact ⟨none, 0, 0, rfl, Bytes.nil_ _ _, ⟨none, 0, 0, (hb.put 1 _).put 0 _, Bytes.nil_ _ _⟩, ((Upd.refl _ w).put1 _).put1 _⟩
      · have e1 : RS.take ⟨left, 0⟩ k true = (left.take k, ⟨left.drop k, 0⟩) := by
          exact RS.take_ok (by rw [HL.out]; omega)
        rw [e1]
        clear e1
        have hkm : k ≤ m := by omega
        have hle := Row.le hy
        have hmx := Row.max hy
        unfold maxLen at hmx
        have hhead := hy.head hkm
        have hrest := hy.rest hkm
        by_cases hck : c = k
        · rw [if_pos hck] at hrest
          obtain rfl : m = k := by omega
          obtain rfl := hck
          simp only [Nat.sub_self] at hrest
          have HR := Lib.hid hrest
          clear hrest
          go_enter Try.func79, Try.ntmps79
          go_wp2
          go_ret
          refine ⟨_, _, _, rfl, hhead.upd ((Upd.refl _ w).put1 _) (fun b hb h => hF (h ▸ hb)), ⟨_, _, _, hb.put 0 _, ?_⟩, (Upd.refl _ w).put1 _⟩
          exact HR.out.upd ((Upd.refl _ w).put1 _) (fun b hb h => hF (h ▸ hb))
        · rw [if_neg hck] at hrest
          have HR := Lib.hid hrest
          clear hrest
          go_enter Try.func79, Try.ntmps79
          go_wp2
          go_ret
          exact ⟨_, _, _, rfl, hhead.upd ((Upd.refl _ w).put1 _) (fun b hb h => hF (h ▸ hb)), ⟨_, _, _, hb.put 0 _, HR.out.upd ((Upd.refl _ w).put1 _) (fun b hb h => hF (h ▸ hb))⟩, (Upd.refl _ w).put1 _⟩
  · have e1 : RS.take s n right = ([], s) := by simp [RS.take, he]
    rw [e1]
    clear e1
    have he' : (s.err != 0) = true := by simpa using he
    go_enter Try.func79, Try.ntmps79
    go_wp2
    go_ret
    exact ⟨none, 0, 0, rfl, Bytes.nil_ _ _, hrdr, Upd.refl _ _⟩

def RS.num (s : RS) (width : Int) : Nat × RS := (be (s.take width (isWidthB width)).1, (s.take width (isWidthB width)).2)

theorem RS.take_len (s : RS) (width : Int) : (s.take width (isWidthB width)).1.length ≤ 8 := by
  unfold RS.take
  split
  · split
    · simp
    · split
      · simp
      · rename_i h1 h2
        have h3 : isWidthB width = true := by cases h : isWidthB width <;> simp_all
        simp only [isWidthB, Bool.or_eq_true, beq_iff_eq] at h3
        simp only [List.length_take]
        omega
  · simp

theorem Rdr.here {w : World} {F : Nat → Prop} {r : Nat} {s : RS} (h : Rdr w F r s) : ∃ A n c, w.cell? ⟨r, 0, none⟩ = some (.slice A n c) := by
  obtain ⟨A, n, c, hb, hy⟩ := h
  exact ⟨A, n, c, hb.cell 0⟩

set_option maxHeartbeats 400000 in
theorem num_spec {w : World} {F : Nat → Prop} {r : Nat} {s : RS} (h : Rdr w F r s) (hF : ¬ F r) (width : Int) :
    Calls Try.prog 61 #[.pointer (some ⟨r, 0, none⟩), .int .i64 width] w fun e w' =>
      e = .returned (.int .u64 ((s.num width).1 : Int)) ∧ Rdr w' F r (s.num width).2 ∧ Upd (fun b => b = r) w w' := by
  go_enter Try.func61, Try.ntmps61
  go_wp2_with fail
  refine (isWidth_spec _ _).mono ?_
  rintro e w' ⟨rfl, rfl⟩
  go_wp2_with fail
  refine (take_spec h hF _ _).mono ?_
  rintro e w1 ⟨A', n', c', rfl, hb, hr, hu⟩
  go_wp2_with fail
  refine (number_spec _ hb (by rw [← hb.len]; exact RS.take_len s width)).mono ?_
  rintro e w' ⟨rfl, rfl⟩
  go_wp2_with fail
  go_ret
  exact ⟨rfl, hr, hu⟩

set_option maxHeartbeats 400000 in
theorem raw_spec {w : World} {F : Nat → Prop} {r : Nat} {s : RS} (h : Rdr w F r s) (hF : ¬ F r) (hs : s.left.length ≤ 140737488355328) (n : Int) :
    Calls Try.prog 59 #[.pointer (some ⟨r, 0, none⟩), .int .i64 n] w fun e w' =>
      ∃ v, e = .returned v ∧ OwnB w' w.heap.size v (s.take n true).1 ∧ Rdr w' F r (s.take n true).2 ∧ Upd (fun b => b = r) w w' := by
  have hlen : (s.take n true).1.length ≤ 140737488355328 := by
    unfold RS.take
    split
    · split
      · simp
      · split
        · simp
        · simp only [List.length_take]; omega
    · simp
  go_enter Try.func59, Try.ntmps59
  go_wp2_with fail
  refine (take_spec h hF _ _).mono ?_
  rintro e w1 ⟨A', n', c', rfl, hb, hr, hu⟩
  go_wp2_with fail
  refine (clone_spec _ hb (by rw [← hb.len]; exact hlen)).mono ?_
  rintro e w2 ⟨v, rfl, ho, hs⟩
  go_wp2_with fail
  go_ret
  exact ⟨v, rfl, own_base ho hu.size, hr.same hs, hu.same hs⟩

set_option maxHeartbeats 400000 in
theorem newReader_spec {w : World} {F : Nat → Prop} {A : Option Addr} {n c : Nat} {bs : List UInt8} (hb : Bytes w F A n c bs) (hn : n ≤ 140737488355328) :
    Calls Try.prog 57 #[.slice A n c] w fun e w' => ∃ r, e = .returned (.pointer (some ⟨r, 0, none⟩)) ∧ w.heap.size ≤ r ∧ Rdr w' (fun b => w.heap.size ≤ b ∧ b ≠ r) r ⟨bs, 0⟩ ∧ Same w w' := by
  go_enter Try.func57, Try.ntmps57
  go_wp2_with fail
  refine (clone_spec _ hb hn).mono ?_
  rintro e w1 ⟨v, rfl, ho, hs⟩
  obtain ⟨A', c', rfl⟩ := own_form ho
  go_wp2
  go_ret
  refine ⟨w1.heap.size, rfl, hs.size, ⟨A', _, c', Blk.new _ _ _, ?_⟩, hs.alloc _⟩
  have hrow := Row.of_own ho
  exact (hrow.mono (F' := fun b => w.heap.size ≤ b ∧ b ≠ w1.heap.size) (fun b hlt hb => ⟨hb.2, by omega⟩)).same ((Upd.refl _ w1).alloc _)
end Go.Proofs.Ytheinbigegobkaa
