/- Layer 16's reference: Unpack. -/
import Derived.Test.YtheinbigegobkaaRInS
import Derived.Test.YtheinbigegobkaaTopP
namespace Go.Proofs.Ytheinbigegobkaa
open Go.RowKit

/-- The properties laid out key by key, up to key k. -/
def keyed (la lb : List KV) (k : Nat) : List KV := (List.range k).flatMap fun (i : Nat) => (la ++ lb).filter fun x => x.key == (i : Int)
theorem keyed_succ (la lb : List KV) (k : Nat) : keyed la lb (k + 1) = keyed la lb k ++ (la.filter fun x => x.key == (k : Int)) ++ (lb.filter fun x => x.key == (k : Int)) := by
  unfold keyed
  rw [List.range_succ, List.flatMap_append, List.flatMap_singleton, List.filter_append, List.append_assoc]
theorem keyed_dat (la lb : List KV) : (keyed la lb 200).map KV.dat = byKey (la.map KV.dat ++ lb.map KV.dat) := by
  unfold keyed byKey
  rw [List.map_flatMap, List.flatMap_def, List.flatMap_def]
  congr 1
  apply List.map_congr_left
  intro k _
  rw [← filter_dat, List.map_append]
theorem take_filter_succ {ls : List KV} {i : Nat} {x : KV} (h : ls[i]? = some x) (k : Int) : (ls.take (i + 1)).filter (fun x => x.key == k) = (ls.take i).filter (fun x => x.key == k) ++ (if x.key = k then [x] else []) := by
  rw [List.take_add_one, h, List.filter_append]
  congr 1
  by_cases hk : x.key = k
  · simp [hk]
  · simp [hk]
theorem mem_byKey {l : List GKV} {p : GKV} (h : p ∈ byKey l) : p ∈ l := by
  unfold byKey at h
  obtain ⟨k, _, h⟩ := List.mem_flatMap.1 h
  exact (List.mem_filter.1 h).1

/-- One property of the call's own, appended. -/
theorem own_snoc {w2 wr w' : World} {B : Nat} {A : Option Addr} {c : Nat} {v v' : Value} {lo ls : List KV} {x : KV} {o : Obj} (hS : Same w2 wr) (hO : OwnKV wr B (.slice A lo.length c) lo) (hb : ∀ g, (Value.slice A lo.length c).ownBlock = some g → w2.heap.size ≤ g)
    (hl : OwnKV wr B v ls) (hx : x ∈ ls) (hg : Grew (wr.alloc o) B 47 6 (.slice A lo.length c) (lo.length + 1) (lo.flatMap KV.cells ++ x.cells) v' w') :
    Same w2 w' ∧ OwnKV w' B v' (lo ++ [x]) ∧ ∀ g, v'.ownBlock = some g → w2.heap.size ≤ g := by
  have hA := (Upd.refl (fun _ => False) wr).alloc o
  refine ⟨(hS.same hA).trans hg.upd fun b hb' hh => by have := hb b hh; omega, (hO.same hA).snoc hg (own_same (hl.nums x hx) hA) (own_same (hl.texts x hx) hA) (hl.fits x hx) (hl.key x hx), fun g hg' => ?_⟩
  rcases hg.block with h | ⟨g', h, hle⟩
  · rw [h] at hg'; exact hb g hg'
  · rw [h] at hg'
    injection hg' with e
    subst e
    have := hS.size
    have := hA.size
    omega

set_option maxHeartbeats 8000000 in
set_option maxRecDepth 100000 in
theorem runpack_spec {F F' : Nat → Prop} {A A' : Option Addr} {n c n' c' : Nat} {s o : List UInt8} (w : World) (hb : Bytes w F A n c s) (hb' : Bytes w F' A' n' c' o) (hn : n' ≤ 1048576) {l : List GKV} {E : Int} (hP : unpackP s o = (l, E)) :
    Calls Try.prog 22 #[.slice A n c, .slice A' n' c'] w (UnPost w l E) := by
  have HB := Lib.hid hb
  have HB' := Lib.hid hb'
  have HP := Lib.hid hP
  have HN := Lib.hid (Bytes.len hb)
  have HN' := Lib.hid (Bytes.len hb')
  clear hb hb' hP
  have hs0 := (Upd.refl (fun _ => False) w).alloc (.cells #[] 47)
  have HO0 := Lib.hid (show OwnKV (w.alloc (.cells #[] 47)) w.heap.size (.slice (some ⟨w.heap.size, 0, none⟩) 0 0) [] from ⟨World.ownsRow_made w #[] 0 (Nat.le_refl _) (Nat.zero_le _) rfl, by simp, by simp, by simp, by simp⟩)
  have HS0 := Lib.hid hs0
  have HB0 := Lib.hid (HB.out.same hs0)
  have HB0' := Lib.hid (HB'.out.same hs0)
  have hz0 := hs0.size
  clear hs0
  go_enter Try.func22, Try.ntmps22
  go_upto_region 2 with fail
  generalize w.alloc (.cells #[] 47) = w0 at *
  have bad : ∀ (w' : World) (E' : Int), ([], E') = (l, E) → Same w0 w' → UnPost w l E (.returned (.tuple #[.slice (some ⟨w.heap.size, 0, none⟩) 0 0, .int .i64 E'])) w' := by
    intro w' E' h hs
    injection h with h1 h2
    subst h1 h2
    exact ⟨_, rfl, ⟨[], rfl, HO0.out.same hs⟩, HS0.out.same hs⟩
  have Bad := Lib.hid bad
  clear bad
  by_cases hsz : n % 8 ≠ 0 ∨ 128 < n
  · have HE := Lib.hid ((unpackP_size (o := o) (by rw [HN.out]; exact hsz)).symm.trans HP.out)
    by_cases h8 : n % 8 = 0
    · have h1 : 128 < n := by omega
      go_wp2
      go_ret2
      exact Bad.out _ _ HE.out (Upd.refl _ _)
    · go_wp2
      go_ret2
      exact Bad.out _ _ HE.out (Upd.refl _ _)
  · have h8 : n % 8 = 0 := by omega
    have h128 : n ≤ 128 := by omega
    have HC := Lib.hid (show ¬ (s.length % 8 ≠ 0 ∨ 128 < s.length) by rw [HN.out]; exact hsz)
    clear hsz
    cases hR : inS s.length s with
    | none =>
      have HE := Lib.hid ((unpackP_in (o := o) HC.out hR).symm.trans HP.out)
      go_wp2_with fail
      refine (rinSlots_spec _ HB0.out h8 h128 none (by rw [← HN.out]; exact hR)).mono ?_
      rintro e w1 ⟨v, ok, rfl, hres, hs1⟩
      obtain rfl : ok = false := hres
      go_wp2
      go_ret2
      exact Bad.out _ _ HE.out hs1
    | some ra =>
      obtain ⟨hga, hla⟩ := inS_good _ _ _ hR
      have HRa := Lib.hid hR
      have HGa := Lib.hid hga
      go_wp2_with fail
      refine (rinSlots_spec _ HB0.out h8 h128 (some ra) (by rw [← HN.out]; exact hR)).mono ?_
      rintro e w1 ⟨v, ok, rfl, ⟨rfl, la, hls, hown⟩, hs1⟩
      have HLs := Lib.hid hls
      have HO1 := Lib.hid (hown.base (B' := w.heap.size) hz0)
      have HS1 := Lib.hid hs1
      have HB1 := Lib.hid (HB0'.out.same hs1)
      have hz1 := hs1.size
      have HLen1 := Lib.hid (show la.length = ra.length by rw [← hls, List.length_map])
      rw [HN.out] at hla
      have hl1 : la.length ≤ 128 := by have := HLen1.out; omega
      clear hR hga hls hown hs1
      obtain ⟨Aa, ca, rfl⟩ := own_form HO1.out.row
      cases hR2 : inO o.length o with
      | none =>
        have HE := Lib.hid ((unpackP_over HC.out HRa.out hR2).symm.trans HP.out)
        go_wp2_with fail
        refine (rinOver_spec _ HB1.out hn none (by rw [← HN'.out]; exact hR2)).mono ?_
        rintro e w2 ⟨v, ok, rfl, hres, hs2⟩
        obtain rfl : ok = false := hres
        go_wp2
        go_ret2
        exact Bad.out _ _ HE.out (HS1.out.same hs2)
      | some rb =>
        obtain ⟨hgb, hlb⟩ := inO_good _ _ _ hR2
        have HRb := Lib.hid hR2
        have HGb := Lib.hid hgb
        rw [HN'.out] at hlb
        go_wp2_with fail
        refine (rinOver_spec _ HB1.out hn (some rb) (by rw [← HN'.out]; exact hR2)).mono ?_
        rintro e w2 ⟨v2, ok, rfl, ⟨rfl, lb, hls2, hown2⟩, hs2⟩
        have HLs2 := Lib.hid hls2
        have HOb := Lib.hid (hown2.base (B' := w.heap.size) (by omega))
        have HOa := Lib.hid (HO1.out.same hs2)
        have HS2 := Lib.hid (HS1.out.same hs2)
        have HLen2 := Lib.hid (show lb.length = rb.length by rw [← hls2, List.length_map])
        have hl2 : lb.length ≤ 1048576 := by have := HLen2.out; omega
        have hz2 := hs2.size
        clear hR2 hgb hls2 hown2 hs2 HO1 HS1 HB1
        obtain ⟨Ab, cb, rfl⟩ := own_form HOb.out.row
        have HAll := Lib.hid ((unpackP_all HC.out HRa.out HRb.out).symm.trans HP.out)
        rw [← HLen1.out, ← HLen2.out] at HAll
        clear HRa HRb HP
        obtain ⟨na, hna⟩ : ∃ na, la.length = na := ⟨_, rfl⟩
        obtain ⟨nb, hnb⟩ : ∃ nb, lb.length = nb := ⟨_, rfl⟩
        have HNa := Lib.hid hna
        have HNb := Lib.hid hnb
        rw [hna, hnb] at HAll
        rw [hna] at HOa hl1 ⊢
        rw [hnb] at HOb hl2 ⊢
        clear hna hnb
        by_cases h16 : 16 < na + nb
        · have HE := Lib.hid ((if_pos h16).symm.trans HAll.out)
          have h16i : (16 : Int) < (na : Int) + nb := by omega
          go_wp2
          go_ret2
          exact Bad.out _ _ HE.out HS2.out
        · have HAll2 := Lib.hid ((if_neg h16).symm.trans HAll.out)
          have h16i : ¬ (16 : Int) < (na : Int) + nb := by omega
          clear HAll
          go_wp2_with fail
          have hzA := (Upd.refl (fun _ => False) w2).alloc (.cells #[] 47)
          go_loopg [10, 11] 200 (fun gh out kk wr => ∃ (κ : Nat) (lo : List KV), 200 - κ = gh ∧ κ ≤ 200 ∧ kk = .int .i64 κ ∧ lo.length ≤ 32 * κ ∧ Hid (lo = keyed la lb κ) ∧ Hid (Same w2 wr) ∧ Hid (OwnKV wr w.heap.size out lo) ∧ Hid (∀ g, out.ownBlock = some g → w2.heap.size ≤ g))
          case atStart => exact ⟨0, [], rfl, Nat.zero_le _, rfl, Nat.zero_le _, Lib.hid rfl, Lib.hid hzA, Lib.hid ⟨World.ownsRow_made w2 #[] 0 (Nat.le_refl _) (Nat.zero_le _) rfl |> fun h => own_base h (by omega), by simp, by simp, by simp, by simp⟩, Lib.hid fun g hg => by have := Option.some.inj hg; simp only at this; omega⟩
          case round =>
            obtain ⟨κ, lo, rfl, hκ, rfl, hlo, KL, KS, KO, KG⟩ := hrel
            by_cases hlt : κ < 200
            · obtain ⟨Ao, co, rfl⟩ := own_form KO.out.row
              have h200 : (κ : Int) < 200 := by omega
              go_wp2_with fail
              go_loopg [10, 12] na (fun gh out ix wx => ∃ (i : Nat) (lq : List KV), na - i = gh ∧ i ≤ na ∧ ix = .int .i64 i ∧ lq.length ≤ 32 * κ + i ∧ Hid (lq = lo ++ (la.take i).filter fun x => x.key == (κ : Int)) ∧ Hid (Same w2 wx) ∧ Hid (OwnKV wx w.heap.size out lq) ∧ Hid (∀ g, out.ownBlock = some g → w2.heap.size ≤ g))
              case atStart => exact ⟨0, lo, rfl, Nat.zero_le _, rfl, by omega, Lib.hid (by simp), KS, KO, KG⟩
              case round =>
                clear KS KO KG
                obtain ⟨i, lq, rfl, hi, rfl, hlq, KQ, KS, KO, KG⟩ := hrel
                obtain ⟨Ao, co, rfl⟩ := own_form KO.out.row
                by_cases hlt : i < na
                · have HOx := Lib.hid (HOa.out.same KS.out)
                  obtain ⟨b, o', x, rfl, hb, _, hx, hxm, r0, r1, r2, r3, r4, r5⟩ := HOx.out.rd'.at_ hlt
                  have HT := Lib.hid (take_filter_succ hx (κ : Int))
                  have HM := Lib.hid hxm
                  clear hx hxm
                  obtain ⟨kx, ⟨x0, x1, x2, x3, x4⟩, X1, a1, b1, X2, a2, b2⟩ := x
                  simp only at r0 r1 r2 r3 r4 r5
                  have r2' := r2
                  have r3' := r3
                  have r4' := r4
                  have r5' := r5
                  rw [show o' + i * 6 + 1 + 1 = o' + i * 6 + 2 from rfl] at r2'
                  rw [show o' + i * 6 + 1 + 2 = o' + i * 6 + 3 from rfl] at r3'
                  rw [show o' + i * 6 + 1 + 3 = o' + i * 6 + 4 from rfl] at r4'
                  rw [show o' + i * 6 + 1 + 4 = o' + i * 6 + 5 from rfl] at r5'
                  have hsz := KS.out.size
                  by_cases hk : kx = (κ : Int)
                  · subst hk
                    go_wp2_with (at_builtin; go_must (refine wpList_app rfl (.tmp 69) (.tmp 74) _ _ rfl w.heap.size 47 6 88 _ Try.underlying30 info_kv rfl (.slice Ao lq.length co) lq.length _ rfl (KO.out.row.alloc _) rfl (src_row Try.underlying30 (Row.kv _ ⟨(κ : Int), ⟨x0, x1, x2, x3, x4⟩, X1, a1, b1, X2, a2, b2⟩) (kv_one _)) (by unfold maxLen; omega) (by omega) (by simp; omega) ?_); intro v' w10 hg; have HG10 := Lib.hid hg; clear hg)
                    go_roundg (na - (i + 1))
                    case measure => omega
                    case rel =>
                      obtain ⟨e1, e2, e3⟩ := own_snoc KS.out KO.out KG.out HOx.out HM.out HG10.out
                      have hT := HT.out
                      rw [if_pos (by trivial)] at hT
                      exact ⟨i + 1, lq ++ [⟨(κ : Int), ⟨x0, x1, x2, x3, x4⟩, X1, a1, b1, X2, a2, b2⟩], rfl, by omega, by go_num, by rw [List.length_append, List.length_singleton]; omega, Lib.hid (by rw [hT, KQ.out, List.append_assoc]), Lib.hid e1, Lib.hid e2, Lib.hid e3⟩
                  · have hd : decide (kx = (κ : Int)) = false := decide_eq_false hk
                    go_wp2
                    go_roundg (na - (i + 1))
                    case measure => omega
                    case rel =>
                      have hT := HT.out
                      rw [if_neg hk, List.append_nil] at hT
                      exact ⟨i + 1, lq, rfl, by omega, by go_num, by omega, Lib.hid (by rw [hT, KQ.out]), KS, KO, KG⟩
                · have HLq := Lib.hid (show lq = lo ++ la.filter fun x => x.key == (κ : Int) from by
                    rw [KQ.out, List.take_of_length_le (by rw [HNa.out]; omega)])
                  have hlq2 : lq.length ≤ 32 * κ + na := by omega
                  clear KQ hlq
                  have HLa := HLq
                  clear HLq
                  have hla3 : lq.length ≤ 32 * κ + 16 := by omega
                  obtain ⟨la2, hla2⟩ : ∃ q, q = lq := ⟨_, rfl⟩
                  subst hla2
                  clear hlq2
                  go_wp2_with fail
                  clear hlt hi
                  go_loopg [10, 13] nb (fun gh out ix wx => ∃ (i : Nat) (lq : List KV), nb - i = gh ∧ i ≤ nb ∧ ix = .int .i64 i ∧ lq.length ≤ (32 * κ + 16) + i ∧ Hid (lq = la2 ++ (lb.take i).filter fun x => x.key == (κ : Int)) ∧ Hid (Same w2 wx) ∧ Hid (OwnKV wx w.heap.size out lq) ∧ Hid (∀ g, out.ownBlock = some g → w2.heap.size ≤ g))
                  case atStart => exact ⟨0, la2, rfl, Nat.zero_le _, rfl, by omega, Lib.hid (by simp), KS, KO, KG⟩
                  case round =>
                    clear KS KO KG
                    obtain ⟨i, lq, rfl, hi, rfl, hlq, KQ, KS, KO, KG⟩ := hrel
                    obtain ⟨Ao, co, rfl⟩ := own_form KO.out.row
                    by_cases hlt : i < nb
                    · have HOx := Lib.hid (HOb.out.same KS.out)
                      obtain ⟨b, o', x, rfl, hb, _, hx, hxm, r0, r1, r2, r3, r4, r5⟩ := HOx.out.rd'.at_ hlt
                      have HT := Lib.hid (take_filter_succ hx (κ : Int))
                      have HM := Lib.hid hxm
                      clear hx hxm
                      obtain ⟨kx, ⟨x0, x1, x2, x3, x4⟩, X1, a1, b1, X2, a2, b2⟩ := x
                      simp only at r0 r1 r2 r3 r4 r5
                      have r2' := r2
                      have r3' := r3
                      have r4' := r4
                      have r5' := r5
                      rw [show o' + i * 6 + 1 + 1 = o' + i * 6 + 2 from rfl] at r2'
                      rw [show o' + i * 6 + 1 + 2 = o' + i * 6 + 3 from rfl] at r3'
                      rw [show o' + i * 6 + 1 + 3 = o' + i * 6 + 4 from rfl] at r4'
                      rw [show o' + i * 6 + 1 + 4 = o' + i * 6 + 5 from rfl] at r5'
                      have hsz := KS.out.size
                      by_cases hk : kx = (κ : Int)
                      · subst hk
                        go_wp2_with (at_builtin; go_must (refine wpList_app rfl (.tmp 89) (.tmp 94) _ _ rfl w.heap.size 47 6 88 _ Try.underlying30 info_kv rfl (.slice Ao lq.length co) lq.length _ rfl (KO.out.row.alloc _) rfl (src_row Try.underlying30 (Row.kv _ ⟨(κ : Int), ⟨x0, x1, x2, x3, x4⟩, X1, a1, b1, X2, a2, b2⟩) (kv_one _)) (by unfold maxLen; omega) (by omega) (by simp; omega) ?_); intro v' w10 hg; have HG10 := Lib.hid hg; clear hg)
                        go_roundg (nb - (i + 1))
                        case measure => omega
                        case rel =>
                          obtain ⟨e1, e2, e3⟩ := own_snoc KS.out KO.out KG.out HOx.out HM.out HG10.out
                          have hT := HT.out
                          rw [if_pos (by trivial)] at hT
                          exact ⟨i + 1, lq ++ [⟨(κ : Int), ⟨x0, x1, x2, x3, x4⟩, X1, a1, b1, X2, a2, b2⟩], rfl, by omega, by go_num, by rw [List.length_append, List.length_singleton]; omega, Lib.hid (by rw [hT, KQ.out, List.append_assoc]), Lib.hid e1, Lib.hid e2, Lib.hid e3⟩
                      · have hd : decide (kx = (κ : Int)) = false := decide_eq_false hk
                        go_wp2
                        go_roundg (nb - (i + 1))
                        case measure => omega
                        case rel =>
                          have hT := HT.out
                          rw [if_neg hk, List.append_nil] at hT
                          exact ⟨i + 1, lq, rfl, by omega, by go_num, by omega, Lib.hid (by rw [hT, KQ.out]), KS, KO, KG⟩
                    · have HLq := Lib.hid (show lq = la2 ++ lb.filter fun x => x.key == (κ : Int) from by
                        rw [KQ.out, List.take_of_length_le (by rw [HNb.out]; omega)])
                      have hlq2 : lq.length ≤ (32 * κ + 16) + nb := by omega
                      clear KQ hlq
                      go_wp2
                      go_roundg (200 - (κ + 1))
                      case measure => omega
                      case rel => exact ⟨κ + 1, lq, rfl, by omega, by go_num, by omega, Lib.hid (by rw [HLq.out, HLa.out, keyed_succ, KL.out]), KS, KO, KG⟩
            · have hκ2 : κ = 200 := by omega
              subst hκ2
              obtain ⟨Ao, co, rfl⟩ := own_form KO.out.row
              have HD := Lib.hid (show lo.map KV.dat = byKey (ra ++ rb) from by rw [KL.out, keyed_dat, HLs.out, HLs2.out])
              have HFit := Lib.hid (good_fit (ls := lo) (by
                rw [HD.out]
                intro p hp
                rcases List.mem_append.1 (mem_byKey hp) with h | h
                · exact HGa.out p h
                · exact HGb.out p h))
              obtain ⟨S, O, E', hP⟩ : ∃ S O E', packP (lo.map KV.dat) ((n : Int) / 8) = (S, O, E') := ⟨_, _, _, rfl⟩
              have HPk := Lib.hid hP
              obtain ⟨k8, hk8⟩ : ∃ k : Int, (n : Int) / 8 = k := ⟨_, rfl⟩
              have hq : IntKind.i64.wrap (Int.tdiv (n : Int) 8) = k8 := by rw [IntKind.wrap_i64, Int.tdiv_eq_ediv_of_nonneg (Int.natCast_nonneg n)]; omega
              rw [hk8] at HPk
              clear hP KL KG
              generalize hnl : lo.length = nl at *
              have HNl := Lib.hid hnl
              clear hnl
              go_wp2_with fail
              refine (rpack_spec _ KO.out.rd' HFit.out k8 (by omega) HPk.out).mono ?_
              rintro e w3 ⟨v1, v2, rfl, h1, h2, hs3⟩
              obtain ⟨A1, c1, rfl, b1⟩ := own_bytesT h1
              obtain ⟨A2, c2, rfl, b2⟩ := own_bytesT h2
              have HS3 := Lib.hid ((HS2.out.same KS.out).same hs3)
              have HO3 := Lib.hid (KO.out.same hs3)
              have HIf := HAll2.out
              have cS := conv_bytes b1
              have cO := conv_bytes b2
              have cs := conv_bytes ((HB0.out.same (HS2.out.same KS.out)).same hs3)
              have co' := conv_bytes ((HB0'.out.same (HS2.out.same KS.out)).same hs3)
              rw [HN.out, ← HD.out, hk8, HPk.out] at HIf
              obtain ⟨r1, hr1⟩ : ∃ r, decide (S = s) = r := ⟨_, rfl⟩
              obtain ⟨r2, hr2⟩ : ∃ r, decide (O = o) = r := ⟨_, rfl⟩
              have e1 := str_of_eq S s hr1
              have e2 := str_of_eq O o hr2
              have HI := Lib.hid HIf
              have HR1 := Lib.hid hr1
              have HR2 := Lib.hid hr2
              clear HIf hr1 hr2 hs3 h1 h2 b1 b2
              generalize S.length = mS at *
              generalize O.length = mO at *
              generalize (⟨S.toArray⟩ : ByteArray) = XS at *
              generalize (⟨O.toArray⟩ : ByteArray) = XO at *
              generalize (⟨s.toArray⟩ : ByteArray) = Xs at *
              generalize (⟨o.toArray⟩ : ByteArray) = Xo at *
              by_cases hE : E' = 0
              · subst hE
                cases r1 with
                | false =>
                  have HE := Lib.hid ((if_neg (by intro h; injection h with h _; exact absurd h (of_decide_eq_false HR1.out))).symm.trans HI.out)
                  go_wp2
                  go_ret2
                  exact Bad.out _ _ HE.out HS3.out
                | true => cases r2 with
                  | false =>
                    have HE := Lib.hid ((if_neg (by intro h; injection h with _ h; injection h with h _; exact absurd h (of_decide_eq_false HR2.out))).symm.trans HI.out)
                    go_wp2
                    go_ret2
                    exact Bad.out _ _ HE.out HS3.out
                  | true =>
                    have hI := (if_pos (by rw [of_decide_eq_true HR1.out, of_decide_eq_true HR2.out])).symm.trans HI.out
                    injection hI with i1 i2
                    have HF1 := Lib.hid i1
                    have HF2 := Lib.hid i2
                    clear i1 i2
                    go_wp2
                    go_ret2
                    obtain rfl : 0 = E := HF2.out
                    rw [← HNl.out] at HO3 ⊢
                    exact ⟨_, rfl, ⟨lo, HF1.out, HO3.out⟩, HS0.out.same HS3.out⟩
              · have hE2 : (E' != 0) = true := by rw [bne_iff_ne]; exact hE
                have HE := Lib.hid ((if_neg (by intro h; injection h with _ h; injection h with _ h; exact absurd h hE)).symm.trans HI.out)
                go_wp2
                go_ret2
                exact Bad.out _ _ HE.out HS3.out
end Go.Proofs.Ytheinbigegobkaa
