/- The reference's put and Fits. -/
import Derived.Test.YtheinbigegobkaaInp
import Derived.Test.YtheinbigegobkaaKV
import Derived.Test.YtheinbigegobkaaEnc2
namespace Go.Proofs.Ytheinbigegobkaa
open Go.RowKit

set_option maxHeartbeats 1000000 in
theorem put_spec {B : Nat} {F : Nat → Prop} {A : Option Addr} {n c : Nat} {v : Value} {bs xs : List UInt8} (w : World) (hv : OwnB w B v bs) (hB : B ≤ w.heap.size) (hx : Bytes w F A n c xs) (hF : ∀ b, F b → v.ownBlock ≠ some b) (hl : bs.length + n ≤ 140737488355328) :
    Calls Try.prog 33 #[v, .slice A n c] w fun e w' => ∃ v', e = .returned v' ∧ GrewB w B v (bs ++ xs) v' w' := by
  have hmx := Row.max hx
  have hle := Row.le hx
  unfold maxLen at hmx
  have hn : n ≤ 9223372036854775807 := by omega
  have HL := Lib.hid hx.len
  have HX := Lib.hid hx
  have HV := Lib.hid hv
  have HF := Lib.hid hF
  clear hx hv hF hmx
  go_enter Try.func33, Try.ntmps33
  go_wp2_with fail
  go_loopg [0, 5] n (fun g y i wr => ∃ k : Nat, k ≤ n ∧ g = n - k ∧ i = .int .i64 k ∧ Hid (Grew w B 5 1 v (bs.length + k) (bs.map u8v ++ (xs.take k).map u8v) y wr))
  case atStart => exact ⟨0, Nat.zero_le _, rfl, rfl, Lib.hid (Grew.refl (by simpa using HV.out))⟩
  case round =>
    obtain ⟨k, hk, rfl, rfl, KG⟩ := hrel
    by_cases hlt : k < n
    · obtain ⟨b, o, rfl, hbl, hbF, hc⟩ := Bytes.at_ (HX.out.upd KG.out.upd HF.out) hlt
      have hkl : k < xs.length := by rw [HL.out]; exact hlt
      have HT := Lib.hid (take_map_succ xs k hkl)
      generalize xs[k] = z at *
      go_wp2_with (at_builtin; go_must (refine wpList_app rfl (.tmp 12) (.tmp 17) _ _ rfl B _ _ _ _ Try.underlying32 info_u8 rfl u0 _ _ rfl (KG.out.own.alloc _) rfl (src_row Try.underlying32 (Row.one _ _ _) (by simp [Value.oneCell'])) (by unfold maxLen; omega) (by omega) (by have := KG.out.size; simp; omega) ?_); intro v' w2 hg; have HG := Lib.hid hg; clear hg)
      go_roundg (n - (k + 1))
      case measure => omega
      case rel =>
        refine ⟨k + 1, by omega, rfl, by go_num, Lib.hid ?_⟩
        have h1 := (KG.out.alloc _).trans HG.out
        rw [HT.out, ← List.append_assoc, ← Nat.add_assoc]
        exact h1
    · obtain rfl : k = n := by omega
      go_wp2
      go_ret
      refine ⟨_, rfl, ?_⟩
      have h1 := KG.out
      rw [List.take_of_length_le (by rw [HL.out]; exact Nat.le_refl _)] at h1
      unfold GrewB
      rw [List.length_append, HL.out, List.map_append]
      exact h1

/-- Which properties stand in place, room slots left. -/
def fitsP : Int → List GKV → List Bool
  | _, [] => []
  | left, p :: l => decide ((needP p.val : Int) ≤ left) :: fitsP (if (needP p.val : Int) ≤ left then left - needP p.val else left) l
def leftP : Int → List GKV → Int
  | left, [] => left
  | left, p :: l => leftP (if (needP p.val : Int) ≤ left then left - needP p.val else left) l
theorem fitsP_snoc (p : GKV) : ∀ (l : List GKV) (left : Int), fitsP left (l ++ [p]) = fitsP left l ++ [decide ((needP p.val : Int) ≤ leftP left l)] := by
  intro l
  induction l with
  | nil => intro left; rfl
  | cons q l ih => intro left; simp only [List.cons_append, fitsP, leftP, ih]; rfl
theorem leftP_snoc (p : GKV) : ∀ (l : List GKV) (left : Int), leftP left (l ++ [p]) = if (needP p.val : Int) ≤ leftP left l then leftP left l - needP p.val else leftP left l := by
  intro l
  induction l with
  | nil => intro left; rfl
  | cons q l ih => intro left; simp only [List.cons_append, leftP, ih]; rfl
theorem fitsP_len (l : List GKV) : ∀ left, (fitsP left l).length = l.length := by
  induction l with
  | nil => intro left; rfl
  | cons q l ih => intro left; simp only [fitsP, List.length_cons, ih]
theorem leftP_range (l : List GKV) : ∀ left, 0 ≤ left → 0 ≤ leftP left l ∧ leftP left l ≤ left := by
  induction l with
  | nil => intro left h; exact ⟨h, Int.le_refl _⟩
  | cons q l ih =>
    intro left h
    simp only [leftP]
    split
    · have := ih (left - needP q.val) (by omega)
      omega
    · exact ih left h
theorem needP_le (g : GVal) : needP g ≤ 6000 := by
  unfold needP
  have := enc_len_le (g := g)
  split <;> omega

theorem info_bool : (Try.prog.info? 4).map (fun i => (i.zero, i.size, i.bytes)) = some (some (.bool false), 1, 1) := by kernel_rfl
theorem dat_take_succ {ls : List KV} {k : Nat} {x : KV} (h : ls[k]? = some x) : (ls.take (k + 1)).map KV.dat = (ls.take k).map KV.dat ++ [x.dat] := by
  rw [List.take_add_one, h, List.map_append]
  rfl

/-- The texts of a list of properties are no longer than a Go int tells. -/
def KVFit (ls : List KV) : Prop := ∀ x ∈ ls, x.g.text.size ≤ 9223372036854775807 ∧ ∀ s ∈ x.g.texts, s.size ≤ 9223372036854775807

set_option maxHeartbeats 2000000 in
set_option maxRecDepth 100000 in
theorem fits_spec {F : Nat → Prop} {A : Option Addr} {n c : Nat} {ls : List KV} (w : World) (h : RdKV w F A n c ls) (hf : KVFit ls) (room : Int) (hr : 0 ≤ room ∧ room ≤ 16) (hn : n ≤ 1000000) :
    Calls Try.prog 31 #[.slice A n c, .int .i64 room] w fun e w' => ∃ v, e = .returned v ∧ w'.ownsRow w.heap.size 4 1 v n ((fitsP room (ls.map KV.dat)).map Value.bool) ∧ Same w w' := by
  obtain ⟨hr0, hr1⟩ := hr
  have HL := Lib.hid h.len
  have HR := Lib.hid h
  have HF := Lib.hid hf
  clear h hf
  go_enter Try.func31, Try.ntmps31
  go_wp2_with fail
  go_loopg [5, 6, 7] n (fun g out left i wr => ∃ (k : Nat) (L : Int), k ≤ n ∧ g = n - k ∧ i = .int .i64 k ∧ left = .int .i64 L ∧ 0 ≤ L ∧ L ≤ 16 ∧ Hid (L = leftP room ((ls.take k).map KV.dat)) ∧ Hid (Same w wr) ∧ Hid (wr.ownsRow w.heap.size 4 1 out k ((fitsP room ((ls.take k).map KV.dat)).map Value.bool)))
  case atStart => exact ⟨0, room, Nat.zero_le _, rfl, rfl, rfl, hr0, hr1, Lib.hid rfl, Lib.hid ((Upd.refl _ _).alloc _), Lib.hid (World.ownsRow_made w #[] 0 (Nat.le_refl _) (Nat.zero_le _) rfl)⟩
  case round =>
    obtain ⟨k, L, hk, rfl, rfl, rfl, hL0, hL1, KL, KS, KO⟩ := hrel
    by_cases hlt : k < n
    · obtain ⟨b, o, x, rfl, hb, _, hx, hxm, r0, r1, r2, r3, r4, r5⟩ := (HR.out.same KS.out).at_ hlt
      have HX := Lib.hid hx
      have HV := Lib.hid ((HR.out.same KS.out).val x hxm)
      have HT := Lib.hid (HF.out x hxm)
      obtain ⟨N, hN⟩ : ∃ N, needP x.g = N := ⟨_, rfl⟩
      have hN6 := needP_le x.g
      rw [hN] at hN6
      have HN := Lib.hid hN
      clear hx hxm hN
      obtain ⟨kx, ⟨x0, x1, x2, x3, x4⟩, X1, a1, b1, X2, a2, b2⟩ := x
      simp only at r0 r1 r2 r3 r4 r5
      go_wp2_with fail
      refine (rneed_spec _ HV.out HT.out.1 HT.out.2 HN.out).mono ?_
      rintro e w2 ⟨rfl, hs⟩
      have HS2 := Lib.hid (KS.out.same hs)
      have HO2 := Lib.hid (own_same KO.out hs)
      obtain ⟨A1, c1, rfl⟩ := own_form KO.out
      clear hs r0 r1 r2 r3 r4 r5
      have HF2 := Lib.hid (show fitsP room ((ls.take (k + 1)).map KV.dat) = fitsP room ((ls.take k).map KV.dat) ++ [decide ((N : Int) ≤ L)] from by
        rw [dat_take_succ HX.out, fitsP_snoc, ← KL.out]
        simp only [KV.dat, HN.out])
      have HL2 := Lib.hid (show leftP room ((ls.take (k + 1)).map KV.dat) = if (N : Int) ≤ L then L - N else L from by
        rw [dat_take_succ HX.out, leftP_snoc, ← KL.out]
        simp only [KV.dat, HN.out])
      by_cases hfit : (N : Int) ≤ L
      · have HF3 := Lib.hid (HF2.out.trans (by rw [decide_eq_true hfit]))
        have HL3 := Lib.hid (HL2.out.trans (if_pos hfit))
        have hd : decide ((N : Int) ≤ L) = true := decide_eq_true hfit
        clear HF2 HL2
        go_wp2_with (at_builtin; go_must (refine wpList_app rfl (.tmp 23) (.tmp 27) _ _ rfl w.heap.size 4 1 1 _ Try.underlying58 info_bool rfl (.slice A1 k c1) k _ rfl (HO2.out.alloc _) rfl (src_row Try.underlying58 (Row.one _ _ _) (by simp [Value.oneCell'])) (by unfold maxLen; omega) (by omega) (by have := HS2.out.size; simp; omega) ?_); intro v' w3 hg; have HG := Lib.hid hg; clear hg)
        go_roundg (n - (k + 1))
        case measure => omega
        case rel =>
          refine ⟨k + 1, L - N, by omega, rfl, by go_num, rfl, by omega, by omega, Lib.hid HL3.out.symm, Lib.hid (((HS2.out.alloc _)).trans HG.out.upd fun b hb hh => by have := (HO2.out.lt b hh).1; omega), Lib.hid ?_⟩
          rw [HF3.out, List.map_append]
          exact HG.out.own
      · have HF3 := Lib.hid (HF2.out.trans (by rw [decide_eq_false hfit]))
        have HL3 := Lib.hid (HL2.out.trans (if_neg hfit))
        have hd : decide ((N : Int) ≤ L) = false := decide_eq_false hfit
        clear HF2 HL2
        go_wp2_with (at_builtin; go_must (refine wpList_app rfl (.tmp 23) (.tmp 27) _ _ rfl w.heap.size 4 1 1 _ Try.underlying58 info_bool rfl (.slice A1 k c1) k _ rfl (HO2.out.alloc _) rfl (src_row Try.underlying58 (Row.one _ _ _) (by simp [Value.oneCell'])) (by unfold maxLen; omega) (by omega) (by have := HS2.out.size; simp; omega) ?_); intro v' w3 hg; have HG := Lib.hid hg; clear hg)
        go_roundg (n - (k + 1))
        case measure => omega
        case rel =>
          refine ⟨k + 1, L, by omega, rfl, by go_num, rfl, by omega, by omega, Lib.hid HL3.out.symm, Lib.hid (((HS2.out.alloc _)).trans HG.out.upd fun b hb hh => by have := (HO2.out.lt b hh).1; omega), Lib.hid ?_⟩
          rw [HF3.out, List.map_append]
          exact HG.out.own
    · obtain rfl : k = n := by omega
      go_wp2
      go_ret
      refine ⟨_, rfl, ?_, KS.out⟩
      have h1 := KO.out
      rw [List.take_of_length_le (by rw [HL.out]; exact Nat.le_refl _)] at h1
      exact h1
end Go.Proofs.Ytheinbigegobkaa
