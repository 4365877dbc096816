/- Package value: the decoder's parts. -/
import Derived.Test.YtheinbigegobkaaWire2
import Derived.Test.YtheinbigegobkaaVal2
import Derived.Laws.BytesArg
namespace Go.Proofs.Ytheinbigegobkaa
open Go.RowKit

set_option maxRecDepth 100000 in
theorem conv_bytes {F : Nat → Prop} {A : Option Addr} {n c : Nat} {bs : List UInt8} {w : World} (hb : Bytes w F A n c bs) :
    (convert 32 9 (.slice A n c)).run Try.prog w = .ok (.string ⟨bs.toArray⟩) w := by
  have hl := hb.len
  cases hA : A with
  | none =>
    have hc := hb.nil hA
    have hle := Row.le hb
    obtain rfl : n = 0 := by omega
    obtain rfl : c = 0 := by omega
    have : bs = [] := List.eq_nil_of_length_eq_zero hl
    subst this
    exact run_convert_bytes_nil (P := Try.prog) w 32 5 Try.underlying32 Try.underlying5 0 0 9 Try.underlying9
  | some a =>
    obtain ⟨h1, h2, h3, h4⟩ := Row.cell hb a hA
    obtain ⟨b, o, s⟩ := a
    subst h1
    have h := run_convert_bytes_arg (P := Try.prog) w 32 5 Try.underlying32 Try.underlying5 b o n c (bs.map fun x => (x.toNat : Int)) (by simpa using hl) (fun i hi => by
      have hil : i < bs.length := by omega
      have := h4 i (u8v bs[i]) (by simp [List.getElem?_eq_getElem hil])
      simp only at this
      rw [this]
      simp [u8v, List.getD, List.getElem?_eq_getElem hil]) 9 Try.underlying9
    rw [h]
    congr 2
    unfold strOfNums
    congr 2
    rw [List.map_map]
    conv => rhs; rw [← List.map_id bs]
    apply List.map_congr_left
    intro x _
    simp

theorem i64_wrap (n : Nat) (h : n < 18446744073709551616) : wrap64 (n : Int) = i64 n := by
  unfold wrap64 i64
  split <;> omega

theorem RS.num_short {l : List UInt8} {k : Nat} (hk : isWidthB k = true) (h : l.length < k) : RS.num ⟨l, 0⟩ k = (0, ⟨[], 10⟩) := by
  unfold RS.num
  rw [hk, RS.take_short h]
  rfl
theorem RS.num_ok {l : List UInt8} {k : Nat} (hk : isWidthB k = true) (h : k ≤ l.length) : RS.num ⟨l, 0⟩ k = (be (l.take k), ⟨l.drop k, 0⟩) := by
  unfold RS.num
  rw [hk, RS.take_ok h]

theorem be_take_lt (l : List UInt8) (k : Nat) (hk : k ≤ 8) : be (l.take k) < 18446744073709551616 := by
  have h := be_lt (l.take k)
  have h2 : 256 ^ (l.take k).length ≤ 256 ^ 8 := Nat.pow_le_pow_right (by omega) (by rw [List.length_take]; omega)
  have h3 : 256 ^ 8 = 18446744073709551616 := by decide
  omega

theorem i64_range (n : Nat) (h : n < 18446744073709551616) : -9223372036854775808 ≤ i64 n ∧ i64 n ≤ 9223372036854775807 := by
  unfold i64
  split <;> omega

/-- What getNum answers. -/
def NumRes (K : Int) (l : List UInt8) (n e : Int) (s' : RS) : Prop :=
  match pNum K l with
  | .error e0 => e = e0 ∧ e ≠ 0
  | .ok (m, r) => e = 0 ∧ n = m ∧ s' = ⟨r, 0⟩

set_option maxHeartbeats 1000000 in
theorem getNum_spec {w : World} {F : Nat → Prop} {r : Nat} {l : List UInt8} (h : Rdr w F r ⟨l, 0⟩) (hF : ¬ F r) (kind : Int) (hk0 : 1 ≤ kind) (hk : kind ≤ 8) :
    Calls Try.prog 78 #[.pointer (some ⟨r, 0, none⟩), .int .i64 kind] w fun e w' => ∃ (n er : Int) (s' : RS), e = .returned (.tuple #[.int .i64 n, .int .i64 er]) ∧ NumRes (baseK kind) l n er s' ∧ Rdr w' F r s' ∧ Upd (fun b => b = r) w w' := by
  have hb := base_spec kind
  have hcn := fun (n : Int) (w : World) => checkNum_spec kind n w hk0 hk
  have HN := Lib.hid (show ∀ (width : Nat), width = (if baseK kind = 1 then 1 else 8) → pNum (baseK kind) l = if l.length < width then .error 10
    else if numErr (baseK kind) (i64 (be (l.take width))) ≠ 0 then .error (numErr (baseK kind) (i64 (be (l.take width))))
    else .ok (i64 (be (l.take width)), l.drop width) from fun width hw => by subst hw; rfl)
  generalize baseK kind = K at hb hcn HN ⊢
  have HB := Lib.hid hb
  have HCN := Lib.hid hcn
  have HR := Lib.hid h
  clear hb hcn h
  by_cases hK : K = 1
  · subst hK
    have HWD' := Lib.hid (show 1 = (if (1 : Int) = 1 then 1 else 8) from rfl)
    by_cases hs : l.length < 1
    · have HP := Lib.hid ((HN.out 1 HWD'.out).trans (if_pos hs))
      have hm := num_spec HR.out hF 1
      have hx := RS.num_short (l := l) (k := 1) rfl hs
      rw [show ((1 : Nat) : Int) = 1 from rfl] at hx
      rw [hx] at hm
      have HM := Lib.hid hm
      clear hs hm hx
      go_enter Try.func78, Try.ntmps78
      go_wp2_with fail
      refine (HB.out _ (by omega) (by omega)).mono ?_
      rintro e w' ⟨rfl, rfl⟩
      go_wp2_with fail
      refine HM.out.mono ?_
      rintro e w1 ⟨rfl, hr, hu⟩
      have HR1 := Lib.hid hr
      have HU1 := Lib.hid hu
      clear hr hu
      go_wp2_with fail
      refine (err_spec HR1.out).mono ?_
      rintro e w2 ⟨rfl, rfl⟩
      go_wp2
      go_ret2
      exact ⟨_, _, _, rfl, by unfold NumRes; rw [HP.out]; exact ⟨rfl, by decide⟩, HR1.out, HU1.out⟩
    · have HP := Lib.hid ((HN.out 1 HWD'.out).trans (if_neg hs))
      have hm := num_spec HR.out hF 1
      have hx := RS.num_ok (l := l) (k := 1) rfl (by omega)
      rw [show ((1 : Nat) : Int) = 1 from rfl] at hx
      rw [hx] at hm
      have HM := Lib.hid hm
      have HLT := Lib.hid (be_take_lt l 1 (by omega))
      clear hs hm hx
      generalize be (l.take 1) = N at *
      have HI := Lib.hid (i64_wrap N HLT.out)
      have HI2 := Lib.hid (i64_range N HLT.out)
      go_enter Try.func78, Try.ntmps78
      go_wp2_with fail
      refine (HB.out _ (by omega) (by omega)).mono ?_
      rintro e w' ⟨rfl, rfl⟩
      go_wp2_with fail
      refine HM.out.mono ?_
      rintro e w1 ⟨rfl, hr, hu⟩
      have HR1 := Lib.hid hr
      have HU1 := Lib.hid hu
      clear hr hu
      go_wp2_with fail
      refine (err_spec HR1.out).mono ?_
      rintro e w2 ⟨rfl, rfl⟩
      go_wp2_with fail
      rw [HI.out]
      refine (HCN.out _ _).mono ?_
      rintro e w3 ⟨rfl, rfl⟩
      have HP2 := HP
      generalize i64 N = m at *
      by_cases hz : numErr 1 m = 0
      · have HZ := Lib.hid hz
        go_wp2
        go_ret2
        refine ⟨_, _, _, rfl, ?_, HR1.out, HU1.out⟩
        unfold NumRes
        rw [HP2.out, if_neg (fun h => h HZ.out)]
        exact ⟨rfl, rfl, rfl⟩
      · have HZ := Lib.hid hz
        clear hz
        go_wp2
        go_ret2
        refine ⟨_, _, _, rfl, ?_, HR1.out, HU1.out⟩
        unfold NumRes
        rw [HP2.out, if_pos HZ.out]
        exact ⟨rfl, HZ.out⟩
  · have HWD : 8 = (if K = 1 then 1 else 8) := by rw [if_neg hK]
    have HWD' := Lib.hid HWD
    have hK' : (K == 1) = false := by simpa using hK
    have HK := Lib.hid hK
    clear hK HWD
    by_cases hs : l.length < 8
    · have HP := Lib.hid ((HN.out 8 HWD'.out).trans (if_pos hs))
      have hm := num_spec HR.out hF 8
      have hx := RS.num_short (l := l) (k := 8) rfl hs
      rw [show ((8 : Nat) : Int) = 8 from rfl] at hx
      rw [hx] at hm
      have HM := Lib.hid hm
      clear hs hm hx
      go_enter Try.func78, Try.ntmps78
      go_wp2_with fail
      refine (HB.out _ (by omega) (by omega)).mono ?_
      rintro e w' ⟨rfl, rfl⟩
      go_wp2_with fail
      refine HM.out.mono ?_
      rintro e w1 ⟨rfl, hr, hu⟩
      have HR1 := Lib.hid hr
      have HU1 := Lib.hid hu
      clear hr hu
      go_wp2_with fail
      refine (err_spec HR1.out).mono ?_
      rintro e w2 ⟨rfl, rfl⟩
      go_wp2
      go_ret2
      exact ⟨_, _, _, rfl, by unfold NumRes; rw [HP.out]; exact ⟨rfl, by decide⟩, HR1.out, HU1.out⟩
    · have HP := Lib.hid ((HN.out 8 HWD'.out).trans (if_neg hs))
      have hm := num_spec HR.out hF 8
      have hx := RS.num_ok (l := l) (k := 8) rfl (by omega)
      rw [show ((8 : Nat) : Int) = 8 from rfl] at hx
      rw [hx] at hm
      have HM := Lib.hid hm
      have HLT := Lib.hid (be_take_lt l 8 (by omega))
      clear hs hm hx
      generalize be (l.take 8) = N at *
      have HI := Lib.hid (i64_wrap N HLT.out)
      have HI2 := Lib.hid (i64_range N HLT.out)
      go_enter Try.func78, Try.ntmps78
      go_wp2_with fail
      refine (HB.out _ (by omega) (by omega)).mono ?_
      rintro e w' ⟨rfl, rfl⟩
      go_wp2_with fail
      refine HM.out.mono ?_
      rintro e w1 ⟨rfl, hr, hu⟩
      have HR1 := Lib.hid hr
      have HU1 := Lib.hid hu
      clear hr hu
      go_wp2_with fail
      refine (err_spec HR1.out).mono ?_
      rintro e w2 ⟨rfl, rfl⟩
      go_wp2_with fail
      rw [HI.out]
      refine (HCN.out _ _).mono ?_
      rintro e w3 ⟨rfl, rfl⟩
      have HP2 := HP
      generalize i64 N = m at *
      by_cases hz : numErr K m = 0
      · have HZ := Lib.hid hz
        go_wp2
        go_ret2
        refine ⟨_, _, _, rfl, ?_, HR1.out, HU1.out⟩
        unfold NumRes
        rw [HP2.out, if_neg (fun h => h HZ.out)]
        exact ⟨rfl, rfl, rfl⟩
      · have HZ := Lib.hid hz
        clear hz
        go_wp2
        go_ret2
        refine ⟨_, _, _, rfl, ?_, HR1.out, HU1.out⟩
        unfold NumRes
        rw [HP2.out, if_pos HZ.out]
        exact ⟨rfl, HZ.out⟩

/-- What getText answers. -/
def TextRes (l : List UInt8) (s : ByteArray) (e : Int) (s' : RS) : Prop :=
  match pText l with
  | .error e0 => e = e0 ∧ e ≠ 0
  | .ok (t, r) => e = 0 ∧ s = t ∧ s' = ⟨r, 0⟩

theorem be_take_lt2 (l : List UInt8) : be (l.take 2) ≤ 65535 := by
  have h := be_lt (l.take 2)
  have h2 : 256 ^ (l.take 2).length ≤ 256 ^ 2 := Nat.pow_le_pow_right (by omega) (by rw [List.length_take]; omega)
  have h3 : 256 ^ 2 = 65536 := by decide
  omega

set_option maxHeartbeats 1000000 in
theorem getText_spec {w : World} {F : Nat → Prop} {r : Nat} {l : List UInt8} (h : Rdr w F r ⟨l, 0⟩) (hF : ¬ F r) (hl : l.length ≤ 140737488355328) :
    Calls Try.prog 77 #[.pointer (some ⟨r, 0, none⟩)] w fun e w' => ∃ (s : ByteArray) (er : Int) (s' : RS), e = .returned (.tuple #[.string s, .int .i64 er]) ∧ TextRes l s er s' ∧ Rdr w' F r s' ∧ Upd (fun b => b = r) w w' := by
  have HP := Lib.hid (show pText l = if l.length < 2 then .error 10 else if 1000 < be (l.take 2) then .error 44 else if (l.drop 2).length < be (l.take 2) then .error 10
    else .ok (⟨((l.drop 2).take (be (l.take 2))).toArray⟩, (l.drop 2).drop (be (l.take 2))) from rfl)
  have HR := Lib.hid h
  clear h
  by_cases hs : l.length < 2
  · have HP1 := Lib.hid (HP.out.trans (if_pos hs))
    have hm := num_spec HR.out hF 2
    have hx := RS.num_short (l := l) (k := 2) rfl hs
    rw [show ((2 : Nat) : Int) = 2 from rfl] at hx
    rw [hx] at hm
    have HM := Lib.hid hm
    clear hs hm hx
    go_enter Try.func77, Try.ntmps77
    go_wp2_with fail
    refine HM.out.mono ?_
    rintro e w1 ⟨rfl, hr, hu⟩
    have HR1 := Lib.hid hr
    have HU1 := Lib.hid hu
    clear hr hu
    go_wp2_with fail
    refine (err_spec HR1.out).mono ?_
    rintro e w2 ⟨rfl, rfl⟩
    go_wp2
    go_ret2
    exact ⟨_, _, _, rfl, by unfold TextRes; rw [HP1.out]; exact ⟨rfl, by decide⟩, HR1.out, HU1.out⟩
  have HP1 := Lib.hid (HP.out.trans (if_neg hs))
  have hm := num_spec HR.out hF 2
  have hx := RS.num_ok (l := l) (k := 2) rfl (by omega)
  rw [show ((2 : Nat) : Int) = 2 from rfl] at hx
  rw [hx] at hm
  have HM := Lib.hid hm
  have hlt := be_take_lt2 l
  have hdl : (l.drop 2).length ≤ 140737488355328 := by rw [List.length_drop]; omega
  clear hs hm hx
  generalize be (l.take 2) = N at *
  by_cases hb : 1000 < N
  · have HP2 := Lib.hid (HP1.out.trans (if_pos hb))
    go_enter Try.func77, Try.ntmps77
    go_wp2_with fail
    refine HM.out.mono ?_
    rintro e w1 ⟨rfl, hr, hu⟩
    have HR1 := Lib.hid hr
    have HU1 := Lib.hid hu
    clear hr hu
    go_wp2_with fail
    refine (err_spec HR1.out).mono ?_
    rintro e w2 ⟨rfl, rfl⟩
    go_wp2
    go_ret2
    exact ⟨_, _, _, rfl, by unfold TextRes; rw [HP2.out]; exact ⟨rfl, by decide⟩, HR1.out, HU1.out⟩
  have HP2 := Lib.hid (HP1.out.trans (if_neg hb))
  by_cases hsh : (l.drop 2).length < N
  · have HP3 := Lib.hid (HP2.out.trans (if_pos hsh))
    have HT := Lib.hid (RS.take_short hsh)
    clear hsh
    go_enter Try.func77, Try.ntmps77
    go_wp2_with fail
    refine HM.out.mono ?_
    rintro e w1 ⟨rfl, hr, hu⟩
    have hraw := raw_spec hr hF hdl N
    rw [HT.out] at hraw
    have HRaw := Lib.hid hraw
    have HR1 := Lib.hid hr
    have HU1 := Lib.hid hu
    clear hr hu hraw
    go_wp2_with fail
    refine (err_spec HR1.out).mono ?_
    rintro e w2 ⟨rfl, rfl⟩
    go_wp2_with fail
    refine HRaw.out.mono ?_
    rintro e w3 ⟨v, rfl, ho, hr2, hu2⟩
    obtain ⟨A, m, c, rfl⟩ := own_slice ho
    have hconv := conv_bytes (own_bytes ho)
    have HR2 := Lib.hid hr2
    have HU2 := Lib.hid hu2
    clear ho hr2 hu2
    go_wp2_with fail
    refine (err_spec HR2.out).mono ?_
    rintro e w4 ⟨rfl, rfl⟩
    go_wp2
    go_ret2
    exact ⟨_, _, _, rfl, by unfold TextRes; rw [HP3.out]; exact ⟨rfl, by decide⟩, HR2.out, HU1.out.trans HU2.out fun _ _ hh => hh⟩
  · have HP3 := Lib.hid (HP2.out.trans (if_neg hsh))
    have HT := Lib.hid (RS.take_ok (show N ≤ (l.drop 2).length by omega))
    clear hsh
    go_enter Try.func77, Try.ntmps77
    go_wp2_with fail
    refine HM.out.mono ?_
    rintro e w1 ⟨rfl, hr, hu⟩
    have hraw := raw_spec hr hF hdl N
    rw [HT.out] at hraw
    have HRaw := Lib.hid hraw
    have HR1 := Lib.hid hr
    have HU1 := Lib.hid hu
    clear hr hu hraw
    go_wp2_with fail
    refine (err_spec HR1.out).mono ?_
    rintro e w2 ⟨rfl, rfl⟩
    go_wp2_with fail
    refine HRaw.out.mono ?_
    rintro e w3 ⟨v, rfl, ho, hr2, hu2⟩
    obtain ⟨A, m, c, rfl⟩ := own_slice ho
    have hconv := conv_bytes (own_bytes ho)
    have HR2 := Lib.hid hr2
    have HU2 := Lib.hid hu2
    clear ho hr2 hu2
    generalize (l.drop 2).take N = Y at *
    go_wp2_with fail
    refine (err_spec HR2.out).mono ?_
    rintro e w4 ⟨rfl, rfl⟩
    go_wp2
    go_ret2
    exact ⟨_, _, _, rfl, by unfold TextRes; rw [HP3.out]; exact ⟨rfl, rfl, rfl⟩, HR2.out, HU1.out.trans HU2.out fun _ _ hh => hh⟩
end Go.Proofs.Ytheinbigegobkaa
