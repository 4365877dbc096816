/- Package value: lists. -/
import Derived.Test.YtheinbigegobkaaDec1
import Derived.Test.YtheinbigegobkaaCopy
namespace Go.Proofs.Ytheinbigegobkaa
open Go.RowKit

/-- Behind i of count elements: those that were read are xs, and rest is left. -/
structure Pre {α : Type} (p : List UInt8 → Except Int (α × List UInt8)) (count : Nat) (l : List UInt8) (i : Nat) (xs : List α) (rest : List UInt8) : Prop where
  le : i ≤ count
  len : xs.length = i
  short : rest.length ≤ l.length
  eq : pMany p count l = match pMany p (count - i) rest with
    | .error e => .error e
    | .ok (ys, r') => .ok (xs ++ ys, r')

section
variable {α : Type} {p : List UInt8 → Except Int (α × List UInt8)} {count i : Nat} {l rest : List UInt8} {xs : List α}
theorem Pre.zero (p : List UInt8 → Except Int (α × List UInt8)) (count : Nat) (l : List UInt8) : Pre p count l 0 [] l := by
  refine ⟨Nat.zero_le _, rfl, Nat.le_refl _, ?_⟩
  rw [Nat.sub_zero]
  cases pMany p count l <;> rfl
theorem Pre.next (h : Pre p count l i xs rest) (hi : i < count) {x : α} {r2 : List UInt8} (hp : p rest = .ok (x, r2)) (hs : r2.length ≤ rest.length) : Pre p count l (i + 1) (xs ++ [x]) r2 := by
  refine ⟨hi, by simp [h.len], Nat.le_trans hs h.short, ?_⟩
  rw [h.eq, show count - i = (count - (i + 1)) + 1 from by omega]
  simp only [pMany, hp]
  cases pMany p (count - (i + 1)) r2 with
  | error e => rfl
  | ok y => obtain ⟨ys, r'⟩ := y; simp
theorem Pre.stop (h : Pre p count l i xs rest) (hi : i < count) {e : Int} (hp : p rest = .error e) : pMany p count l = .error e := by
  rw [h.eq, show count - i = (count - (i + 1)) + 1 from by omega]
  simp only [pMany, hp]
theorem Pre.done (h : Pre p count l i xs rest) (hi : i = count) : pMany p count l = .ok (xs, rest) := by
  rw [h.eq, hi, Nat.sub_self]
  simp [pMany]
end

theorem pNum_short {k : Int} {l r : List UInt8} {n : Int} (h : pNum k l = .ok (n, r)) : r.length ≤ l.length := by
  unfold pNum at h
  simp only at h
  generalize (if k = 1 then 1 else 8) = W at h
  split at h
  · cases h
  · split at h
    · cases h
    · injection h with h
      injection h with _ h
      rw [← h, List.length_drop]
      omega
theorem pText_short {l r : List UInt8} {s : ByteArray} (h : pText l = .ok (s, r)) : r.length ≤ l.length := by
  unfold pText at h
  split at h
  · cases h
  · split at h
    · cases h
    · split at h
      · cases h
      · injection h with h
        injection h with _ h
        rw [← h, List.length_drop, List.length_drop]
        omega

theorem NumRes.ok {K : Int} {l : List UInt8} {n : Int} {s' : RS} (h : NumRes K l n 0 s') : ∃ r, pNum K l = .ok (n, r) ∧ s' = ⟨r, 0⟩ := by
  unfold NumRes at h
  split at h
  · exact absurd rfl h.2
  · rename_i m r hp
    obtain ⟨_, rfl, rfl⟩ := h
    exact ⟨_, hp, rfl⟩
theorem NumRes.err {K : Int} {l : List UInt8} {n e : Int} {s' : RS} (h : NumRes K l n e s') (he : e ≠ 0) : pNum K l = .error e := by
  unfold NumRes at h
  split at h
  · rename_i e0 hp
    rw [hp, h.1]
  · exact absurd h.1 he
theorem TextRes.ok {l : List UInt8} {s : ByteArray} {s' : RS} (h : TextRes l s 0 s') : ∃ r, pText l = .ok (s, r) ∧ s' = ⟨r, 0⟩ := by
  unfold TextRes at h
  split at h
  · exact absurd rfl h.2
  · rename_i m r hp
    obtain ⟨_, rfl, rfl⟩ := h
    exact ⟨_, hp, rfl⟩
theorem TextRes.err {l : List UInt8} {s : ByteArray} {e : Int} {s' : RS} (h : TextRes l s e s') (he : e ≠ 0) : pText l = .error e := by
  unfold TextRes at h
  split at h
  · rename_i e0 hp
    rw [hp, h.1]
  · exact absurd h.1 he

/-- What getList answers, and what it leaves in the value. -/
def ListRes (k : Int) (l : List UInt8) (B pv : Nat) (er : Int) (s' : RS) (w' : World) : Prop :=
  match pList k l with
  | .error e0 => er = e0 ∧ er ≠ 0
  | .ok (g, r) => er = 0 ∧ s' = ⟨r, 0⟩ ∧ ∃ v1 v2, Blk w' pv 26 #[.int .i64 k, .int .i64 0, .string ⟨#[]⟩, v1, v2] ∧
      w'.ownsRow B 2 1 v1 g.nums.length (g.nums.map (Value.int .i64)) ∧ w'.ownsRow B 9 1 v2 g.texts.length (g.texts.map Value.string)

set_option maxHeartbeats 4000000 in
theorem getList_spec {w : World} {F : Nat → Prop} {r pv : Nat} {l : List UInt8} (h : Rdr w F r ⟨l, 0⟩) (hF : ¬ F r) (hl : l.length ≤ 140737488355328) (kind : Int) (hk5 : 4 < kind) (hk : kind ≤ 8)
    (hv : Blk w pv 26 #[.int .i64 kind, .int .i64 0, .string ⟨#[]⟩, .slice none 0 0, .slice none 0 0]) (hne : pv ≠ r) (hFp : ¬ F pv) (hFB : ∀ b, F b → b < w.heap.size) :
    Calls Try.prog 76 #[.pointer (some ⟨r, 0, none⟩), .pointer (some ⟨pv, 0, none⟩)] w fun e w' => ∃ (er : Int) (s' : RS), e = .returned (.int .i64 er) ∧ ListRes kind l w.heap.size pv er s' w' ∧ Rdr w' F r s' ∧ Upd (fun b => b = r ∨ b = pv) w w' := by
  have HR := Lib.hid h
  clear h
  cases hlc : l with
  | nil =>
    subst hlc
    have HP : Hid (pList kind [] = .error 10) := Lib.hid rfl
    have hm := num_spec HR.out hF 1
    have hx := RS.num_short (l := []) (k := 1) rfl (by simp)
    rw [show ((1 : Nat) : Int) = 1 from rfl] at hx
    rw [hx] at hm
    have HM := Lib.hid hm
    clear hm hx
    go_enter Try.func76, Try.ntmps76
    go_wp2_with fail
    refine HM.out.mono ?_
    rintro e w1 ⟨rfl, hr, hu⟩
    have HR1 := Lib.hid hr
    have HU1 := Lib.hid (hu.mono (S' := fun b => b = r ∨ b = pv) fun _ _ hh => .inl hh)
    clear hr hu
    go_wp2_with fail
    refine (err_spec HR1.out).mono ?_
    rintro e w2 ⟨rfl, rfl⟩
    go_wp2
    go_ret
    exact ⟨_, _, rfl, by unfold ListRes; rw [HP.out]; exact ⟨rfl, by decide⟩, HR1.out, HU1.out⟩
  | cons c l =>
    subst hlc
    have HP := Lib.hid (show pList kind (c :: l) = if 40 < c.toNat then .error 45
      else if kind = 8 then match pMany pText c.toNat l with
        | .error e => .error e
        | .ok (xs, r) => .ok (⟨kind, 0, ⟨#[]⟩, [], xs⟩, r)
      else match pMany (pNum (kind - 4)) c.toNat l with
        | .error e => .error e
        | .ok (xs, r) => .ok (⟨kind, 0, ⟨#[]⟩, xs, []⟩, r) from rfl)
    have hm := num_spec HR.out hF 1
    have hx := RS.num_ok (l := c :: l) (k := 1) rfl (by simp)
    rw [show ((1 : Nat) : Int) = 1 from rfl] at hx
    rw [hx] at hm
    have hbe : be ((c :: l).take 1) = c.toNat := by simp [be]
    rw [hbe] at hm
    have HM := Lib.hid hm
    have hc := c.toNat_lt
    have hl' : l.length ≤ 140737488355328 := by simp at hl; omega
    clear hm hx hbe hl
    generalize c.toNat = N at *
    by_cases hbig : 40 < N
    · have HP1 := Lib.hid (HP.out.trans (if_pos hbig))
      go_enter Try.func76, Try.ntmps76
      go_wp2_with fail
      refine HM.out.mono ?_
      rintro e w1 ⟨rfl, hr, hu⟩
      have HR1 := Lib.hid hr
      have HU1 := Lib.hid (hu.mono (S' := fun b => b = r ∨ b = pv) fun _ _ hh => .inl hh)
      clear hr hu
      go_wp2_with fail
      refine (err_spec HR1.out).mono ?_
      rintro e w2 ⟨rfl, rfl⟩
      go_wp2
      go_ret
      exact ⟨_, _, rfl, by unfold ListRes; rw [HP1.out]; exact ⟨rfl, by decide⟩, HR1.out, HU1.out⟩
    · have HP1 := Lib.hid (HP.out.trans (if_neg hbig))
      go_enter Try.func76, Try.ntmps76
      go_wp2_with fail
      refine HM.out.mono ?_
      rintro e w1 ⟨rfl, hr, hu⟩
      have HR1 := Lib.hid (show Rdr w1 F r ⟨l, 0⟩ from hr)
      have HU1 := Lib.hid (hu.mono (S' := fun b => b = r ∨ b = pv) fun _ _ hh => .inl hh)
      have hv1 := hv.upd hu hne
      clear hr hu
      go_wp2_with fail
      refine (err_spec HR1.out).mono ?_
      rintro e w2 ⟨rfl, rfl⟩
      by_cases h8 : kind = 8
      · have HP2 := Lib.hid (HP1.out.trans (if_pos h8))
        have h8' : (kind == 8) = true := by simpa using h8
        have H8 := Lib.hid h8
        have hrw := HR1.out.lt
        have hsz := HU1.out.size
        clear h8
        go_wp2
        go_loopw [22] (fun i wr => ∃ (i0 : Nat) (xs : List ByteArray) (rest : List UInt8) (v : Value), i0 ≤ N ∧ i = .int .i64 i0 ∧ Hid (Pre pText N l i0 xs rest) ∧ Hid (Rdr wr F r ⟨rest, 0⟩) ∧
            Hid (Blk wr pv 26 #[.int .i64 kind, .int .i64 0, .string ⟨#[]⟩, .slice none 0 0, v]) ∧ Hid (wr.ownsRow w.heap.size 9 1 v i0 (xs.map Value.string)) ∧ Hid (Upd (fun b => b = r ∨ b = pv) w wr)) (fun i _ => N - (intOf i).toNat)
        case atStart => exact ⟨0, [], l, _, Nat.zero_le _, rfl, Lib.hid (Pre.zero _ _ _), HR1, Lib.hid hv1, Lib.hid (World.ownsRow_nil _ _ _ _), HU1⟩
        case round =>
          obtain ⟨i0, xs, rest, v, hi, rfl, JP, JR, JB, JO, JU⟩ := hrel
          clear hv1 HR1 HU1 hrw hsz
          have hrw := JB.out.lt
          have hsz := JU.out.size
          have e0 : wr.cell? ⟨pv, 0, none⟩ = some (.int .i64 kind) := JB.out.cell 0
          by_cases hlt : i0 < N
          · have HR2 := JR
            have hl2 : rest.length ≤ 140737488355328 := Nat.le_trans JP.out.short hl'
            go_wp2_with fail
            refine (getText_spec HR2.out hF hl2).mono ?_
            rintro e w3 ⟨x, er, s', rfl, hres, hr3, hu3⟩
            have HRes := Lib.hid hres
            have HR3 := Lib.hid hr3
            have HU3 := Lib.hid hu3
            have hle3 := hu3.size
            clear hres hr3 hu3
            by_cases hz : er = 0
            · subst hz
              have JB3 := Lib.hid (JB.out.upd HU3.out hne)
              have JO3 := Lib.hid (own_upd JO.out HU3.out fun g hg hh => by
                obtain ⟨A, n, c, hb, _⟩ := JR.out
                exact hb.ne_own JO.out (by decide) (hh ▸ hg))
              obtain ⟨A, m, c, rfl⟩ := own_slice JO3.out
              have HNE := Lib.hid (JB3.out.ne_own JO3.out (by decide))
              have b4 : w3.cell? ⟨pv, 4, none⟩ = some (.slice A m c) := JB3.out.cell 4
              go_wp2_with (at_builtin; go_must (refine wpList_app rfl (.tmp 41) (.tmp 43) _ _ rfl w.heap.size 9 1 16 _ Try.underlying24 info_string rfl (.slice A m c) i0 _ rfl (JO3.out.alloc _) rfl (src_row Try.underlying24 (Row.one _ _ _) (by simp [Value.oneCell'])) (by unfold maxLen; omega) (by omega) (by simp; omega) ?_); intro v' w4 hg; obtain ⟨A', m', c', rfl⟩ := own_slice hg.own; have s1 : w4.cell? ⟨pv, 4, none⟩ = some (.slice A m c) := (hg.blk (JB3.out.alloc _) HNE.out).cell 4; have s2 : w4.frozen? ⟨pv, 4, none⟩ = false := (hg.blk (JB3.out.alloc _) HNE.out).frozen 4; have HG := Lib.hid hg; clear hg)
              go_roundw
              case rel =>
                obtain ⟨f1, f2, f3⟩ := field_app (i := 4) JB3.out JO3.out (by decide) ((Upd.refl _ w3).alloc _) HG.out
                obtain ⟨r2, hp, rfl⟩ := HRes.out.ok
                refine ⟨i0 + 1, xs ++ [x], r2, _, by omega, by go_num, Lib.hid (JP.out.next hlt hp (pText_short hp)), Lib.hid (HR3.out.upd f3 ?_ ?_), Lib.hid f1, Lib.hid (by rw [List.map_append]; exact f2), Lib.hid ((JU.out.trans (HU3.out.mono (S' := fun b => b = r ∨ b = pv) fun _ _ hh => .inl hh) fun _ _ hh => hh).trans f3 ?_)⟩
                · rintro (hh | hh)
                  · exact hne hh.symm
                  · obtain ⟨A0, n0, c0, hb0, _⟩ := HR3.out
                    exact hb0.ne_own JO3.out (by decide) hh
                · rintro b hb (hh | hh)
                  · exact hFp (hh ▸ hb)
                  · have := hFB b hb; have := (JO3.out.lt b hh).1; omega
                · rintro b hb (hh | hh)
                  · exact .inr hh
                  · have := (JO3.out.lt b hh).1
                    omega
              case measure => simp [intOf]; omega
            · have hz' : (er != 0) = true := by simpa using hz
              have HZ := Lib.hid hz
              clear hz
              go_wp2
              go_ret
              refine ⟨er, s', rfl, ?_, HR3.out, JU.out.trans (HU3.out.mono (S' := fun b => b = r ∨ b = pv) fun _ _ hh => .inl hh) fun _ _ hh => hh⟩
              unfold ListRes
              rw [HP2.out, JP.out.stop hlt (HRes.out.err HZ.out)]
              exact ⟨rfl, HZ.out⟩
          · have hiN : i0 = N := by omega
            have HD := Lib.hid (JP.out.done hiN)
            clear hiN
            go_wp2
            go_ret
            refine ⟨0, _, rfl, ?_, JR.out, JU.out⟩
            unfold ListRes
            rw [HP2.out, HD.out]
            exact ⟨rfl, rfl, ⟨.slice none 0 0, _, JB.out, World.ownsRow_nil _ _ _ _, by have h1 := JO.out; rw [← JP.out.len] at h1; exact h1⟩⟩
      · have HP2 := Lib.hid (HP1.out.trans (if_neg h8))
        have h8' : (kind == 8) = false := by simpa using h8
        have H8 := Lib.hid h8
        have HBK := Lib.hid (show baseK kind = kind - 4 from by unfold baseK; rw [if_pos hk5])
        have hrw := HR1.out.lt
        have hsz := HU1.out.size
        clear h8
        go_wp2
        go_loopw [22] (fun i wr => ∃ (i0 : Nat) (xs : List Int) (rest : List UInt8) (v : Value), i0 ≤ N ∧ i = .int .i64 i0 ∧ Hid (Pre (pNum (kind - 4)) N l i0 xs rest) ∧ Hid (Rdr wr F r ⟨rest, 0⟩) ∧
            Hid (Blk wr pv 26 #[.int .i64 kind, .int .i64 0, .string ⟨#[]⟩, v, .slice none 0 0]) ∧ Hid (wr.ownsRow w.heap.size 2 1 v i0 (xs.map (Value.int .i64))) ∧ Hid (Upd (fun b => b = r ∨ b = pv) w wr)) (fun i _ => N - (intOf i).toNat)
        case atStart => exact ⟨0, [], l, _, Nat.zero_le _, rfl, Lib.hid (Pre.zero _ _ _), HR1, Lib.hid hv1, Lib.hid (World.ownsRow_nil _ _ _ _), HU1⟩
        case round =>
          obtain ⟨i0, xs, rest, v, hi, rfl, JP, JR, JB, JO, JU⟩ := hrel
          clear hv1 HR1 HU1 hrw hsz
          have hrw := JB.out.lt
          have hsz := JU.out.size
          have e0 : wr.cell? ⟨pv, 0, none⟩ = some (.int .i64 kind) := JB.out.cell 0
          by_cases hlt : i0 < N
          · have HR2 := JR
            have hl2 : rest.length ≤ 140737488355328 := Nat.le_trans JP.out.short hl'
            go_wp2_with fail
            refine (getNum_spec HR2.out hF kind (by omega) (by omega)).mono ?_
            rintro e w3 ⟨x, er, s', rfl, hres, hr3, hu3⟩
            rw [HBK.out] at hres
            have HRes := Lib.hid hres
            have HR3 := Lib.hid hr3
            have HU3 := Lib.hid hu3
            have hle3 := hu3.size
            clear hres hr3 hu3
            by_cases hz : er = 0
            · subst hz
              have JB3 := Lib.hid (JB.out.upd HU3.out hne)
              have JO3 := Lib.hid (own_upd JO.out HU3.out fun g hg hh => by
                obtain ⟨A, n, c, hb, _⟩ := JR.out
                exact hb.ne_own JO.out (by decide) (hh ▸ hg))
              obtain ⟨A, m, c, rfl⟩ := own_slice JO3.out
              have HNE := Lib.hid (JB3.out.ne_own JO3.out (by decide))
              have b3 : w3.cell? ⟨pv, 3, none⟩ = some (.slice A m c) := JB3.out.cell 3
              go_wp2_with (at_builtin; go_must (refine wpList_app rfl (.tmp 63) (.tmp 65) _ _ rfl w.heap.size 2 1 8 _ Try.underlying23 info_i64 rfl (.slice A m c) i0 _ rfl (JO3.out.alloc _) rfl (src_row Try.underlying23 (Row.one _ _ _) (by simp [Value.oneCell'])) (by unfold maxLen; omega) (by omega) (by simp; omega) ?_); intro v' w4 hg; obtain ⟨A', m', c', rfl⟩ := own_slice hg.own; have s1 : w4.cell? ⟨pv, 3, none⟩ = some (.slice A m c) := (hg.blk (JB3.out.alloc _) HNE.out).cell 3; have s2 : w4.frozen? ⟨pv, 3, none⟩ = false := (hg.blk (JB3.out.alloc _) HNE.out).frozen 3; have HG := Lib.hid hg; clear hg)
              go_roundw
              case rel =>
                obtain ⟨f1, f2, f3⟩ := field_app (i := 3) JB3.out JO3.out (by decide) ((Upd.refl _ w3).alloc _) HG.out
                obtain ⟨r2, hp, rfl⟩ := HRes.out.ok
                refine ⟨i0 + 1, xs ++ [x], r2, _, by omega, by go_num, Lib.hid (JP.out.next hlt hp (pNum_short hp)), Lib.hid (HR3.out.upd f3 ?_ ?_), Lib.hid f1, Lib.hid (by rw [List.map_append]; exact f2), Lib.hid ((JU.out.trans (HU3.out.mono (S' := fun b => b = r ∨ b = pv) fun _ _ hh => .inl hh) fun _ _ hh => hh).trans f3 ?_)⟩
                · rintro (hh | hh)
                  · exact hne hh.symm
                  · obtain ⟨A0, n0, c0, hb0, _⟩ := HR3.out
                    exact hb0.ne_own JO3.out (by decide) hh
                · rintro b hb (hh | hh)
                  · exact hFp (hh ▸ hb)
                  · have := hFB b hb; have := (JO3.out.lt b hh).1; omega
                · rintro b hb (hh | hh)
                  · exact .inr hh
                  · have := (JO3.out.lt b hh).1
                    omega
              case measure => simp [intOf]; omega
            · have hz' : (er != 0) = true := by simpa using hz
              have HZ := Lib.hid hz
              clear hz
              go_wp2
              go_ret
              refine ⟨er, s', rfl, ?_, HR3.out, JU.out.trans (HU3.out.mono (S' := fun b => b = r ∨ b = pv) fun _ _ hh => .inl hh) fun _ _ hh => hh⟩
              unfold ListRes
              rw [HP2.out, JP.out.stop hlt (HRes.out.err HZ.out)]
              exact ⟨rfl, HZ.out⟩
          · have hiN : i0 = N := by omega
            have HD := Lib.hid (JP.out.done hiN)
            clear hiN
            go_wp2
            go_ret
            refine ⟨0, _, rfl, ?_, JR.out, JU.out⟩
            unfold ListRes
            rw [HP2.out, HD.out]
            exact ⟨rfl, rfl, ⟨_, .slice none 0 0, JB.out, by have h1 := JO.out; rw [← JP.out.len] at h1; exact h1, World.ownsRow_nil _ _ _ _⟩⟩
end Go.Proofs.Ytheinbigegobkaa
