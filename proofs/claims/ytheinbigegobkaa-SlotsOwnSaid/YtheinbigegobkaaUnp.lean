/- Package slots: Unpack. -/
import Derived.Test.YtheinbigegobkaaUnL
import Derived.Test.YtheinbigegobkaaInO
import Derived.Test.YtheinbigegobkaaPack
import Derived.Test.YtheinbigegobkaaStable
namespace Go.Proofs.Ytheinbigegobkaa
open Go.RowKit

/-- What Unpack tells. -/
def UnPost (w : World) (l : List GKV) (E : Int) (e : Ending) (w' : World) : Prop := ∃ v, e = .returned (.tuple #[v, .int .i64 E]) ∧ (∃ ls : List KV, ls.map KV.dat = l ∧ OwnKV w' w.heap.size v ls) ∧ Same w w'
theorem UnPost.bad {w w' : World} {l : List GKV} {E E' : Int} (h : ([], E') = (l, E)) (hs : Same w w') : UnPost w l E (.returned (.tuple #[.slice none 0 0, .int .i64 E'])) w' := by
  injection h with h1 h2
  subst h1 h2
  exact ⟨_, rfl, ⟨[], rfl, OwnKV.nil_ _ _⟩, hs⟩

theorem unpackP_size {s o : List UInt8} (h : s.length % 8 ≠ 0 ∨ 128 < s.length) : unpackP s o = ([], 4) := by unfold unpackP; rw [if_pos h]
theorem unpackP_in {s o : List UInt8} (h : ¬ (s.length % 8 ≠ 0 ∨ 128 < s.length)) (hR : inS s.length s = none) : unpackP s o = ([], 160) := by unfold unpackP; rw [if_neg h, hR]
theorem unpackP_over {s o : List UInt8} {a : List GKV} (h : ¬ (s.length % 8 ≠ 0 ∨ 128 < s.length)) (hR : inS s.length s = some a) (hO : inO o.length o = none) : unpackP s o = ([], 161) := by unfold unpackP; rw [if_neg h, hR, hO]
theorem unpackP_all {s o : List UInt8} {a b : List GKV} (h : ¬ (s.length % 8 ≠ 0 ∨ 128 < s.length)) (hR : inS s.length s = some a) (hO : inO o.length o = some b) :
    unpackP s o = if 16 < a.length + b.length then ([], 64) else if packP (byKey (a ++ b)) (s.length / 8) = (s, o, 0) then (byKey (a ++ b), 0) else ([], 162) := by unfold unpackP; rw [if_neg h, hR, hO]

theorem OwnKV.rd' {w : World} {B : Nat} {A : Option Addr} {n c : Nat} {ls : List KV} (h : OwnKV w B (.slice A n c) ls) : RdKV w (fun b => B ≤ b ∧ b < w.heap.size) A n c ls := by
  obtain ⟨A', n', c', he, h'⟩ := h.rd
  injection he with h1 h2 h3
  subst h1 h2 h3
  exact h'

set_option maxHeartbeats 4000000 in
set_option maxRecDepth 100000 in
theorem unpack_spec {F F' : Nat → Prop} {A A' : Option Addr} {n c n' c' : Nat} {s o : List UInt8} (w : World) (hb : Bytes w F A n c s) (hb' : Bytes w F' A' n' c' o) (hn : n' ≤ 1048576) {l : List GKV} {E : Int} (hP : unpackP s o = (l, E)) :
    Calls Try.prog 21 #[.slice A n c, .slice A' n' c'] w (UnPost w l E) := by
  have HB := Lib.hid hb
  have HB' := Lib.hid hb'
  have HP := Lib.hid hP
  have HN := Lib.hid (Bytes.len hb)
  have HN' := Lib.hid (Bytes.len hb')
  clear hb hb' hP
  go_enter Try.func21, Try.ntmps21
  by_cases hsz : n % 8 ≠ 0 ∨ 128 < n
  · have HE := Lib.hid ((unpackP_size (o := o) (by rw [HN.out]; exact hsz)).symm.trans HP.out)
    by_cases h8 : n % 8 = 0
    · have h1 : 128 < n := by omega
      go_wp2
      go_ret2
      exact UnPost.bad HE.out (Upd.refl _ _)
    · go_wp2
      go_ret2
      exact UnPost.bad HE.out (Upd.refl _ _)
  · have h8 : n % 8 = 0 := by omega
    have h128 : n ≤ 128 := by omega
    have HC := Lib.hid (show ¬ (s.length % 8 ≠ 0 ∨ 128 < s.length) by rw [HN.out]; exact hsz)
    clear hsz
    cases hR : inS s.length s with
    | none =>
      have HE := Lib.hid ((unpackP_in (o := o) HC.out hR).symm.trans HP.out)
      go_wp2_with fail
      refine (fromSlots_spec _ HB.out h8 h128 none (by rw [← HN.out]; exact hR)).mono ?_
      rintro e w1 ⟨v, ok, rfl, hres, hs1⟩
      obtain rfl : ok = false := hres
      go_wp2
      go_ret2
      exact UnPost.bad HE.out hs1
    | some ra =>
      obtain ⟨hga, hla⟩ := inS_good _ _ _ hR
      have HRa := Lib.hid hR
      have HGa := Lib.hid hga
      go_wp2_with fail
      refine (fromSlots_spec _ HB.out h8 h128 (some ra) (by rw [← HN.out]; exact hR)).mono ?_
      rintro e w1 ⟨v, ok, rfl, ⟨rfl, ls, hls, hown⟩, hs1⟩
      have HLs := Lib.hid hls
      have HO1 := Lib.hid hown
      have HS1 := Lib.hid hs1
      have HB1 := Lib.hid (HB'.out.same hs1)
      have hz1 := hs1.size
      have HLen1 := Lib.hid (show ls.length = ra.length by rw [← hls, List.length_map])
      rw [HN.out] at hla
      have hl1 : ls.length ≤ 128 := by have := HLen1.out; omega
      clear hR hga hls hown hs1
      obtain ⟨Ao, co, rfl⟩ := own_form HO1.out.row
      cases hR2 : inO o.length o with
      | none =>
        have HE := Lib.hid ((unpackP_over HC.out HRa.out hR2).symm.trans HP.out)
        go_wp2_with fail
        refine (fromOver_spec _ HB1.out hn none (by rw [← HN'.out]; exact hR2)).mono ?_
        rintro e w2 ⟨v, ok, rfl, hres, hs2⟩
        obtain rfl : ok = false := hres
        go_wp2
        go_ret2
        exact UnPost.bad HE.out (HS1.out.trans hs2 fun _ _ f => f)
      | some rb =>
        obtain ⟨hgb, hlb⟩ := inO_good _ _ _ hR2
        have HRb := Lib.hid hR2
        have HGb := Lib.hid hgb
        rw [HN'.out] at hlb
        go_wp2_with fail
        refine (fromOver_spec _ HB1.out hn (some rb) (by rw [← HN'.out]; exact hR2)).mono ?_
        rintro e w2 ⟨v2, ok, rfl, ⟨rfl, ls2, hls2, hown2⟩, hs2⟩
        have HLs2 := Lib.hid hls2
        have HO2 := Lib.hid (hown2.base (B' := w.heap.size) (by omega))
        have HO1' := Lib.hid (HO1.out.same hs2)
        have HS2 := Lib.hid (HS1.out.trans hs2 fun _ _ f => f)
        have HLen2 := Lib.hid (show ls2.length = rb.length by rw [← hls2, List.length_map])
        have hl2 : ls2.length ≤ 1048576 := by have := HLen2.out; omega
        have hz2 := hs2.size
        clear hR2 hgb hls2 hown2 hs2 HO1 HS1 HB1
        obtain ⟨A2, n2, c2, rfl, hrd2⟩ := HO2.out.rd
        obtain rfl : n2 = ls2.length := hrd2.len.symm
        have HRd2 := Lib.hid hrd2
        clear hrd2
        have hkv1 : ∀ u ∈ ls2.flatMap KV.cells, u.oneCell' = true := fun u hu => by
          obtain ⟨x, _, hx⟩ := List.mem_flatMap.1 hu
          exact kv_one x u hx
        go_upto_region 10 with (at_builtin; go_must (refine wpList_app rfl (.tmp 35) (.tmp 36) _ _ rfl w.heap.size 47 6 88 _ Try.underlying30 info_kv rfl (.slice Ao ls.length co) ls.length _ rfl HO1'.out.row rfl (src_row Try.underlying30 HRd2.out.row hkv1) (by unfold maxLen; omega) (by omega) (by omega) ?_); intro v' w3 hg; have HG3 := Lib.hid hg; clear hg)
        obtain ⟨A3, c3, rfl⟩ := own_form HG3.out.own
        have HO3 := Lib.hid (HO1'.out.app HO2.out HG3.out)
        have HS3 := Lib.hid (HS2.out.trans HG3.out.upd fun b hb hh => by have := (HO1'.out.row.lt b hh).1; omega)
        have HAll := Lib.hid ((unpackP_all HC.out HRa.out HRb.out).symm.trans HP.out)
        rw [← HLen1.out, ← HLen2.out] at HAll
        have HN3 := Lib.hid (show (ls ++ ls2).length = ls.length + ls2.length from List.length_append)
        clear HG3 HO1' HO2 HRd2 HRa HRb HP HS2 hkv1
        generalize ls.length + ls2.length = N3 at *
        by_cases h16 : 16 < N3
        · have HE := Lib.hid ((if_pos h16).symm.trans HAll.out)
          go_wp2
          go_ret2
          exact UnPost.bad HE.out HS3.out
        · have HAll2 := Lib.hid ((if_neg h16).symm.trans HAll.out)
          clear HAll
          go_wp2_with fail
          refine (stable_spec _ HO3.out HN3.out (by omega)).mono ?_
          rintro e w4 ⟨rfl, l', ho4, hs, hsk, hl4, hu4⟩
          have HGd := Lib.hid (show ∀ p ∈ (ls ++ ls2).map KV.dat, p.Good by
            rw [List.map_append, HLs.out, HLs2.out]
            intro p hp
            rcases List.mem_append.1 hp with hp | hp
            · exact HGa.out p hp
            · exact HGb.out p hp)
          have HGl := Lib.hid (show ∀ p ∈ l'.map KV.dat, p.Good by
            intro p hp
            obtain ⟨x, hx, rfl⟩ := List.mem_map.1 hp
            exact HGd.out _ (List.mem_map_of_mem (hsk.mem hx)))
          have HBy := Lib.hid (show byKey (ra ++ rb) = l'.map KV.dat by
            rw [sorted_byKey hs hsk fun x hx => ⟨(HGd.out _ (List.mem_map_of_mem hx)).lo, (HGd.out _ (List.mem_map_of_mem hx)).hi⟩, List.map_append, HLs.out, HLs2.out])
          rw [HBy.out] at HAll2
          have HO4 := Lib.hid ho4
          have HS4 := Lib.hid (HS3.out.trans hu4 fun b hb hh => by have := (HO3.out.row.lt b hh).1; omega)
          have HB4 := Lib.hid (HB.out.same HS4.out)
          have HB4' := Lib.hid (HB'.out.same HS4.out)
          clear hs hsk ho4 hu4 HO3 HS3 HN3 HGd HBy HLs HLs2 HGa HGb
          have hpk : ∃ S O E0, packP (l'.map KV.dat) ((s.length : Int) / 8) = (S, O, E0) := ⟨_, _, _, rfl⟩
          obtain ⟨S, O, E0, hpk⟩ := hpk
          rw [hpk] at HAll2
          rw [HN.out] at hpk
          have HPk := Lib.hid hpk
          clear hpk
          go_wp2_with fail
          refine (pack_spec _ HO4.out.rd' (good_fit HGl.out) _ (by omega) HPk.out).mono ?_
          rintro e w5 ⟨v1, v2, rfl, ho1, ho2, _, hs5⟩
          obtain ⟨a1, k1, rfl, hb1⟩ := own_bytesT ho1
          obtain ⟨a2, k2, rfl, hb2⟩ := own_bytesT ho2
          have HV1 := Lib.hid hb1
          have HV2 := Lib.hid hb2
          have HS5 := Lib.hid (HS4.out.trans hs5 fun _ _ f => f)
          have HO5 := Lib.hid (HO4.out.same hs5)
          have HB5 := Lib.hid (HB4.out.same hs5)
          have HB5' := Lib.hid (HB4'.out.same hs5)
          clear ho1 ho2 hs5 hb1 hb2 HO4 HS4 HB4 HB4'
          generalize S.length = m1 at *
          generalize O.length = m2 at *
          by_cases hE : E0 = 0
          · subst hE
            cases hS : decide (S = s) with
            | false =>
              have HE := Lib.hid ((if_neg (by rintro h; injection h with h; simp [h] at hS)).symm.trans HAll2.out)
              go_wp2_with fail
              refine (bytesEq_spec _ HV1.out HB5.out hS).mono ?_
              rintro e w6 ⟨rfl, rfl⟩
              go_wp2
              go_ret2
              exact UnPost.bad HE.out HS5.out
            | true =>
              cases hO : decide (O = o) with
              | false =>
                have HE := Lib.hid ((if_neg (by rintro h; injection h with _ h; injection h with h; simp [h] at hO)).symm.trans HAll2.out)
                go_wp2_with fail
                refine (bytesEq_spec _ HV1.out HB5.out hS).mono ?_
                rintro e w6 ⟨rfl, rfl⟩
                go_wp2_with fail
                refine (bytesEq_spec _ HV2.out HB5'.out hO).mono ?_
                rintro e w7 ⟨rfl, rfl⟩
                go_wp2
                go_ret2
                exact UnPost.bad HE.out HS5.out
              | true =>
                have HE := Lib.hid ((if_pos (by rw [of_decide_eq_true hS, of_decide_eq_true hO])).symm.trans HAll2.out)
                go_wp2_with fail
                refine (bytesEq_spec _ HV1.out HB5.out hS).mono ?_
                rintro e w6 ⟨rfl, rfl⟩
                go_wp2_with fail
                refine (bytesEq_spec _ HV2.out HB5'.out hO).mono ?_
                rintro e w7 ⟨rfl, rfl⟩
                go_wp2
                go_ret2
                have hE := HE.out
                injection hE with hE1 hE2
                subst hE1 hE2
                exact ⟨_, rfl, ⟨l', rfl, HO5.out⟩, HS5.out⟩
          · have HE := Lib.hid ((if_neg (by rintro h; injection h with _ h; injection h with _ h; exact hE h)).symm.trans HAll2.out)
            have hE2 : (E0 != 0) = true := by rw [bne_iff_ne]; exact hE
            go_wp2
            go_ret2
            exact UnPost.bad HE.out HS5.out
end Go.Proofs.Ytheinbigegobkaa
