/- Package wire: Writer. -/
import Derived.Test.YtlnademnfnhbpaaGreatWire1
import Derived.Test.YtlnademnfnhbpaaGreatVal
namespace Go.Proofs.YtlnademnfnhbpaaGreat
open Go.RowKit

theorem beb_len (k n : Nat) : (beb k n).length = k := by
  induction k with
  | zero => rfl
  | succ k ih => simp [beb, ih]

theorem beb_at : ∀ (k n j : Nat) (h : j < k), (beb k n)[j]'(by rw [beb_len]; exact h) = UInt8.ofNat (n / 256 ^ (k - 1 - j)) := by
  intro k
  induction k with
  | zero => intro n j h; omega
  | succ k ih =>
    intro n j h
    cases j with
    | zero => simp [beb]
    | succ j =>
      have h2 := ih n j (by omega)
      simp only [beb, List.getElem_cons_succ]
      rw [h2]
      congr 3
      omega

theorem shr_byte (n s : Nat) : IntKind.u8.wrap ((n : Int) / 2 ^ (8 * s)) = (((UInt8.ofNat (n / 256 ^ s)).toNat : Nat) : Int) := by
  rw [IntKind.wrap_u8']
  have : (256 : Nat) ^ s = 2 ^ (8 * s) := by rw [Nat.pow_mul]
  simp [this]

set_option maxHeartbeats 800000 in
theorem lay_spec {B : Nat} {v : Value} {bs : List UInt8} (w : World) (hv : OwnB w B v bs) (hB : B ≤ w.heap.size) (width n : Nat) (hw : 1 ≤ width ∧ width ≤ 8) (hx : bs.length + 8 ≤ 140737488355328) :
    Calls Tryz.prog 132 #[v, .int .i64 width, .int .u64 n] w fun e w' =>
      ∃ v', e = .returned v' ∧ GrewB w B v (bs ++ beb width n) v' w' := by
  go_enter Tryz.func132, Tryz.ntmps132
  go_wp2
  go_loopw [0, 7] (fun u i wr => ∃ k : Nat, k ≤ width ∧ i = .int .i64 (8 * ((width : Int) - 1) - 8 * k) ∧ Grew w B 5 1 v (bs.length + k) (bs.map u8v ++ ((beb width n).take k).map u8v) u wr) (fun _ i _ => (intOf i + 8).toNat)
  case atStart => exact ⟨0, by omega, by go_num, Grew.refl (by simpa using hv)⟩
  case round =>
    obtain ⟨k, hk, rfl, hg⟩ := hrel
    have hown := hg.own
    by_cases hlt : k < width
    · go_wp2_with (at_builtin; go_must (refine wpList_app rfl (.tmp 15) (.tmp 20) _ _ rfl B _ _ _ _ Tryz.underlying109 info_u8 rfl u0 _ _ rfl (hown.alloc _) rfl (src_row Tryz.underlying109 (Row.one _ _ _) (by simp [Value.oneCell'])) (by unfold maxLen; omega) (by omega) (by have := hg.size; simp; omega) ?_); intro v' w1 happ)
      go_roundw
      case rel =>
        refine ⟨k + 1, by omega, by go_num, ?_⟩
        have h1 := (hg.alloc _).trans happ
        have h2 : (beb width n).take (k + 1) = (beb width n).take k ++ [UInt8.ofNat (n / 256 ^ (width - 1 - k))] := by
          rw [take_snoc _ k (by rw [beb_len]; exact hlt), beb_at width n k hlt]
        have h3 := shr_byte n (width - 1 - k)
        rw [IntKind.wrap_u8', show 8 * (width - 1 - k) = 8 * (width - 1) - 8 * k from by omega] at h3
        rw [h2, List.map_append, List.map_singleton, ← List.append_assoc, ← Nat.add_assoc]
        rwa [h3] at h1
      case measure => simp [intOf]; omega
    · obtain rfl : k = width := by omega
      go_wp2
      go_ret
      refine ⟨_, rfl, ?_⟩
      rw [List.take_of_length_le (by rw [beb_len]; exact Nat.le_refl _)] at hg
      unfold GrewB
      rwa [List.length_append, beb_len, List.map_append]

/-- Block r is a Writer that has gathered bs; its array is one of the blocks from B on. -/
def Wtr (w : World) (B r : Nat) (bs : List UInt8) : Prop :=
  B ≤ r ∧ ∃ v, Blk w r 158 #[v] ∧ OwnB w B v bs

theorem Wtr.same {w w' : World} {B r : Nat} {bs : List UInt8} (h : Wtr w B r bs) (hu : Same w w') : Wtr w' B r bs := by
  obtain ⟨hB, v, hb, ho⟩ := h
  exact ⟨hB, v, hb.same hu, own_same ho hu⟩
theorem Wtr.upd {w w' : World} {S : Nat → Prop} {B r : Nat} {bs : List UInt8} (h : Wtr w B r bs) (hu : Upd S w w') (hs : ∀ b, B ≤ b → ¬ S b) : Wtr w' B r bs := by
  obtain ⟨hB, v, hb, ho⟩ := h
  exact ⟨hB, v, hb.upd hu (hs r hB), own_upd ho hu fun g hg => hs g (ho.lt g hg).1⟩
theorem Wtr.lt {w : World} {B r : Nat} {bs : List UInt8} (h : Wtr w B r bs) : r < w.heap.size := by
  obtain ⟨hB, v, hb, ho⟩ := h
  exact hb.lt

theorem newWriter_spec (w : World) : Calls Tryz.prog 110 #[] w fun e w' => ∃ r, e = .returned (.pointer (some ⟨r, 0, none⟩)) ∧ Wtr w' w.heap.size r [] ∧ Same w w' := by
  go_enter Tryz.func110, Tryz.ntmps110
  go_wp2
  go_ret
  exact ⟨w.heap.size, rfl, ⟨Nat.le_refl _, _, Blk.new _ _ _, World.ownsRow_nil _ _ _ _⟩, (Upd.refl _ w).alloc _⟩

set_option maxHeartbeats 400000 in
theorem wnum_nat {w : World} {B r : Nat} {bs : List UInt8} (h : Wtr w B r bs) (width n : Nat) (hw : isWidthB width = true) (hl : bs.length + 8 ≤ 140737488355328) :
    Calls Tryz.prog 111 #[.pointer (some ⟨r, 0, none⟩), .int .i64 width, .int .u64 n] w fun e w' => e = .returned (.tuple #[]) ∧ Wtr w' B r (bs ++ beb width n) ∧ Upd (fun b => B ≤ b) w w' := by
  obtain ⟨hB, v, hb, ho⟩ := h
  have hlt := hb.lt
  have hne : v.ownBlock ≠ some r := hb.ne_own ho (by decide)
  have h0 := hb.cell 0
  simp only [List.getElem?_toArray, List.getElem?_cons_zero] at h0
  have hwid : 1 ≤ width ∧ width ≤ 8 := by
    simp only [isWidthB, Bool.or_eq_true, beq_iff_eq] at hw
    omega
  have HW := Lib.hid hw
  clear hw
  go_enter Tryz.func111, Tryz.ntmps111
  go_wp2_with fail
  refine (isWidth_spec _ _).mono ?_
  rintro e w' ⟨rfl, rfl⟩
  rw [HW.out]
  go_wp2_with fail
  refine (lay_spec _ ho (by omega) width n hwid hl).mono ?_
  rintro e w1 ⟨v', rfl, hg⟩
  have hb1 := hg.blk hb hne
  have f1 := hb1.frozen 0
  have h1 := hb1.cell 0
  simp only [List.getElem?_toArray, List.getElem?_cons_zero] at h1
  obtain ⟨A, m, c, rfl⟩ := own_slice hg.own
  go_wp2
  go_end0
  have hne' : (Value.slice A m c).ownBlock ≠ some r := hb1.ne_own hg.own (by decide)
  refine ⟨rfl, ⟨hB, _, hb1.put 0 _, ?_⟩, (hg.upd.mono fun b _ hv => (ho.lt b hv).1).put hB _⟩
  exact own_upd hg.own ((Upd.refl (fun b => b = r) w1).put1 _) fun g hgg hgr => hne' (hgr ▸ hgg)

/-- As 'wnum_nat', the two numbers as they come. -/
theorem wnum_spec {w : World} {B r : Nat} {bs : List UInt8} (h : Wtr w B r bs) (width n : Int) (hw : isWidthB width = true) (hn : 0 ≤ n) (hl : bs.length + 8 ≤ 140737488355328) :
    Calls Tryz.prog 111 #[.pointer (some ⟨r, 0, none⟩), .int .i64 width, .int .u64 n] w fun e w' => e = .returned (.tuple #[]) ∧ Wtr w' B r (bs ++ beb width.toNat n.toNat) ∧ Upd (fun b => B ≤ b) w w' := by
  have h0 : 0 ≤ width := by
    simp only [isWidthB, Bool.or_eq_true, beq_iff_eq] at hw
    omega
  obtain ⟨k, rfl⟩ := Int.eq_ofNat_of_zero_le h0
  obtain ⟨m, rfl⟩ := Int.eq_ofNat_of_zero_le hn
  exact wnum_nat h k m hw hl

theorem toList_size (s : ByteArray) : s.data.toList.length = s.size := by rw [Array.length_toList]; rfl

set_option maxHeartbeats 400000 in
theorem wstr_spec {w : World} {B r : Nat} {bs : List UInt8} (h : Wtr w B r bs) (s : ByteArray) (hl : bs.length + s.size ≤ 140737488355328) :
    Calls Tryz.prog 133 #[.pointer (some ⟨r, 0, none⟩), .string s] w fun e w' => e = .returned (.tuple #[]) ∧ Wtr w' B r (bs ++ s.data.toList) ∧ Upd (fun b => B ≤ b) w w' := by
  obtain ⟨hB, v, hb, ho⟩ := h
  have hlt := hb.lt
  have hne : v.ownBlock ≠ some r := hb.ne_own ho (by decide)
  have h0 := hb.cell 0
  simp only [List.getElem?_toArray, List.getElem?_cons_zero] at h0
  go_enter Tryz.func133, Tryz.ntmps133
  go_wp2_with (at_builtin; go_must (refine wpList_app rfl (.tmp 8) (.tmp 9) _ _ rfl B _ _ _ _ Tryz.underlying109 info_u8 rfl v _ _ rfl ho rfl (Src.ofString w Tryz.underlying9 s) (by unfold maxLen; omega) (by omega) (by omega) ?_); intro v' w1 hg; obtain ⟨A, m, c, rfl⟩ := own_slice hg.own; have f1 : w1.frozen? ⟨r, 0, none⟩ = false := (hg.blk hb hne).frozen 0; have h1 : w1.cell? ⟨r, 0, none⟩ = some v := (hg.blk hb hne).cell 0)
  go_end0
  have hb1 := hg.blk hb hne
  have hne' : (Value.slice A m c).ownBlock ≠ some r := hb1.ne_own hg.own (by decide)
  refine ⟨rfl, ⟨hB, _, hb1.put 0 _, ?_⟩, (hg.upd.mono fun b _ hv => (ho.lt b hv).1).put hB _⟩
  have h2 := own_upd hg.own ((Upd.refl (fun b => b = r) w1).put1 (i := 0) (.slice A m c)) fun g hgg hgr => hne' (hgr ▸ hgg)
  unfold OwnB
  rw [List.length_append, toList_size, List.map_append]
  exact h2

set_option maxHeartbeats 400000 in
theorem wbytes_spec {w : World} {B r : Nat} {bs : List UInt8} (h : Wtr w B r bs) (hl : bs.length ≤ 140737488355328) :
    Calls Tryz.prog 114 #[.pointer (some ⟨r, 0, none⟩)] w fun e w' => ∃ v, e = .returned v ∧ OwnB w' w.heap.size v bs ∧ Same w w' := by
  obtain ⟨hB, v, hb, ho⟩ := h
  have h0 := hb.cell 0
  simp only [List.getElem?_toArray, List.getElem?_cons_zero] at h0
  obtain ⟨A, c, rfl⟩ := own_form ho
  have hrow := Row.of_own ho
  generalize bs.length = m at h0 hrow hl
  go_enter Tryz.func114, Tryz.ntmps114
  go_wp2_with fail
  refine (clone_spec _ hrow hl).mono ?_
  rintro e w1 ⟨v', rfl, ho', hs⟩
  go_wp2
  go_ret
  exact ⟨v', rfl, ho', hs⟩
end Go.Proofs.YtlnademnfnhbpaaGreat
