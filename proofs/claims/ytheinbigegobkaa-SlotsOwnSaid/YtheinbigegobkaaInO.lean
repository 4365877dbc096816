/- Package slots: fromOver. -/
import Derived.Test.YtheinbigegobkaaInS
namespace Go.Proofs.Ytheinbigegobkaa
open Go.RowKit

theorem raw_new {w : World} {F : Nat → Prop} {r : Nat} {l l1 : List UInt8} {e : Int} {s' : RS} (h : Rdr w F r ⟨l, e⟩) (hF : ¬ F r) (hs : l.length ≤ 140737488355328) (n : Int) (ht : RS.take ⟨l, e⟩ n true = (l1, s')) :
    Calls Try.prog 59 #[.pointer (some ⟨r, 0, none⟩), .int .i64 n] w fun e w' =>
      ∃ A m c, e = .returned (.slice A m c) ∧ l1.length = m ∧ Hid (Bytes w' (fun b => w.heap.size ≤ b ∧ b < w'.heap.size) A m c l1) ∧ Hid (Rdr w' F r s') ∧ Upd (fun b => b = r) w w' := by
  refine (raw_spec h hF hs n).mono ?_
  rintro e w' ⟨v, rfl, ho, hr, hu⟩
  rw [ht] at ho hr
  obtain ⟨A, c, rfl⟩ := own_form ho
  exact ⟨A, _, c, rfl, rfl, Lib.hid (Row.mono (Row.of_own ho) fun _ hb hh => ⟨hh.2, hb⟩), Lib.hid hr, hu⟩
theorem num_new {w : World} {F : Nat → Prop} {r N : Nat} {l : List UInt8} {e : Int} {s' : RS} (h : Rdr w F r ⟨l, e⟩) (hF : ¬ F r) (width : Int) (ht : RS.num ⟨l, e⟩ width = (N, s')) :
    Calls Try.prog 61 #[.pointer (some ⟨r, 0, none⟩), .int .i64 width] w fun e w' => e = .returned (.int .u64 N) ∧ Hid (Rdr w' F r s') ∧ Upd (fun b => b = r) w w' := by
  refine (num_spec h hF width).mono ?_
  rintro e w' ⟨rfl, hr, hu⟩
  rw [ht] at hr
  rw [ht]
  exact ⟨rfl, Lib.hid hr, hu⟩

/-- What the two calls that read a value make of the bytes, whatever has gone wrong before. -/
theorem decN_own {F : Nat → Prop} {A : Option Addr} {n c : Nat} {bs : List UInt8} {g : GVal} {er : Int} (w : World) (hD : decD n (decP bs) = (g, er)) (hb : Bytes w F A n c bs) :
    Calls Try.prog 60 #[.slice A n c] w fun e w' => ∃ A1 n1 c1 A2 n2 c2, e = .returned (.tuple #[g.val A1 n1 c1 A2 n2 c2, .int .i64 er]) ∧ Hid (w'.ownsRow w.heap.size 2 1 (.slice A1 n1 c1) n1 (g.nums.map (Value.int .i64))) ∧ Hid (w'.ownsRow w.heap.size 9 1 (.slice A2 n2 c2) n2 (g.texts.map Value.string)) ∧ Same w w' := by
  refine (decode_spec w hb (g, er) (by rw [decP_take bs (Nat.le_refl _)]; exact hD)).mono ?_
  rintro e w' ⟨v, rfl, ⟨v1, v2, rfl, h1, h2⟩, h3⟩
  obtain ⟨A1, c1, rfl⟩ := own_form h1
  obtain ⟨A2, c2, rfl⟩ := own_form h2
  exact ⟨A1, _, c1, A2, _, c2, rfl, Lib.hid h1, Lib.hid h2, h3⟩

/-- A write to another box. -/
theorem OwnKV.far {w w' : World} {B r : Nat} {v : Value} {ls : List KV} {t : TypeId} {cs : Array Value} (h : OwnKV w B v ls) (hb : Blk w r t cs) (hu : Upd (fun b => b = r) w w') (h1 : 47 ≠ t) (h2 : 2 ≠ t) (h3 : 9 ≠ t) : OwnKV w' B v ls :=
  ⟨own_upd h.row hu fun _ hg e => hb.ne_own h.row h1 (e ▸ hg), fun x hx => own_upd (h.nums x hx) hu fun _ hg e => hb.ne_own (h.nums x hx) h2 (e ▸ hg), fun x hx => own_upd (h.texts x hx) hu fun _ hg e => hb.ne_own (h.texts x hx) h3 (e ▸ hg), h.fits, h.key⟩
theorem OwnKV.rdr {w w' : World} {F : Nat → Prop} {B r : Nat} {v : Value} {ls : List KV} {s : RS} (h : OwnKV w B v ls) (hr : Rdr w F r s) (hu : Upd (fun b => b = r) w w') : OwnKV w' B v ls := by
  obtain ⟨_, _, _, hb, _⟩ := hr
  exact h.far hb hu (by decide) (by decide) (by decide)

theorem key_any {F : Nat → Prop} {A : Option Addr} {n c : Nat} {bs : List UInt8} (w : World) (hb : Bytes w F A n c bs) {r : Bool} (hr : decide (bs.length = 2 ∧ 1 ≤ be bs ∧ be bs ≤ 200) = r) (h2 : n = 2 ∨ n = 0) :
    Calls Try.prog 55 #[.slice A n c] w fun e w' => ∃ k : Int, e = .returned (.tuple #[.int .i64 k, .bool r]) ∧ (r = true → k = (be bs : Int) - 1) ∧ w = w' := by
  have hl := hb.len
  rcases h2 with rfl | rfl
  · have ht : bs.take 2 = bs := List.take_of_length_le (by omega)
    refine (key_ok w hb (Nat.le_refl _) (N := be bs) (by rw [ht]) (r := r) (by
      rw [← hr]
      exact decide_eq_decide.2 ⟨fun h => ⟨hl, h⟩, fun h => h.2⟩)).mono ?_
    rintro e w' ⟨rfl, rfl⟩
    exact ⟨_, rfl, fun _ => rfl, rfl⟩
  · have hr0 : r = false := by rw [← hr]; exact decide_eq_false fun h => by omega
    subst hr0
    refine (key_short w hb (by omega)).mono ?_
    rintro e w' ⟨⟨k, rfl⟩, rfl⟩
    exact ⟨k, rfl, (fun h => by cases h), rfl⟩

theorem RS.num_err {s : RS} (h : s.err ≠ 0) (k : Int) : s.num k = (0, s) := by
  unfold RS.num
  rw [RS.take_err h]
  rfl
/-- One property beside, as the Reader's calls tell it. -/
theorem inO_step {l t1 t3 : List UInt8} {s1 s2 s3 : RS} {M m : Nat} {g : GVal} {er : Int} (hl : l ≠ []) (h1 : RS.take ⟨l, 0⟩ 2 true = (t1, s1)) (h2 : s1.num 2 = (M, s2)) (h3 : s2.take M true = (t3, s3)) (h4 : decD t3.length (decP t3) = (g, er)) :
    (inO (m + 1) l = if (t1.length = 2 ∧ 1 ≤ be t1 ∧ be t1 ≤ 200) ∧ s3.err = 0 ∧ er = 0 then (inO m s3.left).map (⟨(be t1 : Int) - 1, g⟩ :: ·) else none) ∧ (s3.err = 0 → s3.left.length + 4 ≤ l.length) ∧ (t1.length = 2 ∨ t1.length = 0) ∧ M ≤ 65535 ∧ s1.left.length ≤ l.length ∧ s2.left.length ≤ l.length := by
  by_cases hs : l.length < 2
  · rw [show (2 : Int) = ((2 : Nat) : Int) from rfl, RS.take_short hs] at h1
    injection h1 with e1 e2
    subst e1 e2
    rw [RS.num_err (by decide)] at h2
    injection h2 with e1 e2
    subst e1 e2
    rw [RS.take_err (by decide)] at h3
    injection h3 with e1 e2
    subst e1 e2
    rw [inO_short hl (by omega), if_neg (by rintro ⟨_, h, _⟩; cases h)]
    refine ⟨rfl, (fun h => by cases h), .inr rfl, by omega, ?_, ?_⟩ <;> simp
  · rw [show (2 : Int) = ((2 : Nat) : Int) from rfl, RS.take_ok (by omega)] at h1
    injection h1 with e1 e2
    subst e1 e2
    by_cases hs4 : l.length < 4
    · rw [show (2 : Int) = ((2 : Nat) : Int) from rfl, RS.num_short (by decide) (by rw [List.length_drop]; omega)] at h2
      injection h2 with e1 e2
      subst e1 e2
      rw [RS.take_err (by decide)] at h3
      injection h3 with e1 e2
      subst e1 e2
      rw [inO_short hl hs4, if_neg (by rintro ⟨_, h, _⟩; cases h)]
      refine ⟨rfl, (fun h => by cases h), .inl (by rw [List.length_take]; omega), by omega, by simp only [List.length_drop]; omega, by simp⟩
    · rw [show (2 : Int) = ((2 : Nat) : Int) from rfl, RS.num_ok (by decide) (by rw [List.length_drop]; omega)] at h2
      injection h2 with e1 e2
      subst e1 e2
      have hM := be_take_lt2 (l.drop 2)
      have hd : (l.drop 2).drop 2 = l.drop 4 := by rw [List.drop_drop]
      rw [hd] at h3 ⊢
      generalize hMM : be ((l.drop 2).take 2) = M at *
      have htl : (l.take 2).length = 2 := by rw [List.length_take]; omega
      have hinx := inO_next (m := m) (l := l) (by omega) rfl hMM
      by_cases hs5 : (l.drop 4).length < M
      · rw [RS.take_short hs5] at h3
        injection h3 with e1 e2
        subst e1 e2
        rw [hinx, if_pos (by rw [List.length_drop] at hs5; omega), if_neg (by rintro ⟨_, h, _⟩; cases h)]
        exact ⟨rfl, (fun h => by cases h), .inl htl, hM, by simp, by simp⟩
      · rw [RS.take_ok (by omega)] at h3
        injection h3 with e1 e2
        subst e1 e2
        have htl3 : ((l.drop 4).take M).length = M := by rw [List.length_take]; omega
        rw [htl3] at h4
        rw [List.length_drop] at hs5
        refine ⟨?_, fun _ => by simp only [List.length_drop]; omega, .inl htl, hM, by simp, by simp⟩
        rw [hinx, h4, List.drop_drop]
        simp only
        by_cases hbad : be (l.take 2) = 0 ∨ 200 < be (l.take 2)
        · rw [if_pos (by omega), if_neg (by rintro ⟨⟨_, h, h'⟩, _⟩; omega)]
        · rw [if_neg (by omega)]
          by_cases he : er = 0
          · rw [if_neg (by simpa using he), if_pos ⟨⟨htl, by omega, by omega⟩, by trivial, he⟩]
          · rw [if_pos he, if_neg (by rintro ⟨_, _, h⟩; exact he h)]

set_option maxHeartbeats 8000000 in
set_option maxRecDepth 100000 in
theorem fromOver_spec {F : Nat → Prop} {A : Option Addr} {n c : Nat} {bs : List UInt8} (w : World) (hb : Bytes w F A n c bs) (hn : n ≤ 1048576) (R : Option (List GKV)) (hR : inO n bs = R) :
    Calls Try.prog 36 #[.slice A n c] w (InPost w R) := by
  have HB := Lib.hid hb
  have HR := Lib.hid hR
  have HL0 := Lib.hid hb.len
  clear hb hR
  go_enter Try.func36, Try.ntmps36
  go_wp2_with fail
  refine (newReader_spec HB.out (by omega)).mono ?_
  rintro e w1 ⟨r, rfl, hr, hrd, hs1⟩
  have HRd := Lib.hid hrd
  have HS1 := Lib.hid hs1
  have hw01 := hs1.size
  clear hrd hs1
  go_wp2_with fail
  go_loopg [2] n (fun gh out wr => ∃ (n' fuel : Nat) (rest : List UInt8) (ls : List KV), n' = gh ∧ n' ≤ n ∧ n' ≤ fuel ∧ ls.length ≤ n - n' ∧ Hid (rest.length = n') ∧ Hid (Rdr wr (fun b => w.heap.size ≤ b ∧ b < w1.heap.size ∧ b ≠ r) r ⟨rest, 0⟩) ∧ Hid (Same w wr) ∧ w1.heap.size ≤ wr.heap.size ∧ Hid (OwnKV wr w1.heap.size out ls) ∧ Hid ((inO fuel rest).map (ls.map KV.dat ++ ·) = R))
  case atStart => exact ⟨n, n, bs, [], rfl, Nat.le_refl _, Nat.le_refl _, Nat.zero_le _, HL0, Lib.hid (HRd.out.mono fun b hb hh => ⟨hh.1, hb, hh.2⟩), HS1, Nat.le_refl _, Lib.hid (OwnKV.nil_ _ _), Lib.hid (by rw [HR.out]; simp)⟩
  case round =>
    obtain ⟨n', fuel, rest, ls, rfl, hnn, hfu, hls, HL, KR, KS, hzr, KO, KQ⟩ := hrel
    clear HRd HS1 HB HR HL0
    have hrlt := KR.out.lt
    by_cases hpos : 0 < n'
    · obtain ⟨fu, rfl⟩ : ∃ fu, fuel = fu + 1 := ⟨fuel - 1, by omega⟩
      have HNe := Lib.hid (show rest ≠ [] from by
        rintro rfl
        have := HL.out
        simp at this
        omega)
      go_wp2_with fail
      refine (left_spec KR.out).mono ?_
      rintro e w2 ⟨rfl, rfl⟩
      simp only [HL.out]
      obtain ⟨⟨t1, ⟨l1, e1⟩⟩, h1⟩ : ∃ x, RS.take ⟨rest, 0⟩ 2 true = x := ⟨_, rfl⟩
      obtain ⟨⟨M, ⟨l2, e2⟩⟩, h2⟩ : ∃ x, RS.num ⟨l1, e1⟩ 2 = x := ⟨_, rfl⟩
      obtain ⟨⟨t3, ⟨l3, e3⟩⟩, h3⟩ : ∃ x, RS.take ⟨l2, e2⟩ M true = x := ⟨_, rfl⟩
      obtain ⟨⟨g, er⟩, h4⟩ : ∃ x, decD t3.length (decP t3) = x := ⟨_, rfl⟩
      obtain ⟨hstep, hleft, htl, hM, hl1, hl2⟩ := inO_step (m := fu) HNe.out h1 h2 h3 h4
      simp only at hleft hl1 hl2
      rw [HL.out] at hleft hl1 hl2
      have HSt := Lib.hid hstep
      have HLf := Lib.hid hleft
      have HTl := Lib.hid htl
      have H1 := Lib.hid h1
      have H2 := Lib.hid h2
      have H3 := Lib.hid h3
      have H4 := Lib.hid h4
      have HFit := Lib.hid (show g.Fits from by have := decD_fits t3.length t3; rw [h4] at this; exact this)
      obtain ⟨ok, hok⟩ : ∃ ok, decide (t1.length = 2 ∧ 1 ≤ be t1 ∧ be t1 ≤ 200) = ok := ⟨_, rfl⟩
      have HOk := Lib.hid hok
      clear hstep hleft htl h1 h2 h3 h4 hok
      go_wp2_with fail
      refine (raw_new KR.out (fun hh => hh.2.2 rfl) (by rw [HL.out]; omega) 2 H1.out).mono ?_
      rintro e w3 ⟨A1, m1, c1, rfl, hm1, HY, HR3, hu3⟩
      have HS3 := Lib.hid (show Same w w3 from KS.out.trans hu3 fun b hb hh => by omega)
      have hz3 := hu3.size
      have HO3 := Lib.hid (KO.out.rdr KR.out hu3)
      clear hu3 KO KR KS
      go_wp2_with fail
      refine (key_any _ HY.out HOk.out (by have := HTl.out; omega)).mono ?_
      rintro e w4 ⟨ky, rfl, hky, rfl⟩
      have HKy := Lib.hid hky
      clear hky
      go_wp2_with fail
      refine (num_new HR3.out (fun hh => hh.2.2 rfl) 2 H2.out).mono ?_
      rintro e w5 ⟨rfl, HR5, hu5⟩
      have HS5 := Lib.hid (show Same w w5 from HS3.out.trans hu5 fun b hb hh => by omega)
      have HO5 := Lib.hid (HO3.out.rdr HR3.out hu5)
      have hz5 := hu5.size
      clear hu5 HO3 HR3 HS3 HY
      go_wp2_with fail
      refine (raw_new HR5.out (fun hh => hh.2.2 rfl) (by omega) M H3.out).mono ?_
      rintro e w6 ⟨A3, m3, c3, rfl, hm3, HY, HR6, hu6⟩
      have HM3 := Lib.hid hm3
      have HS6 := Lib.hid (show Same w w6 from HS5.out.trans hu6 fun b hb hh => by omega)
      have HO6 := Lib.hid (HO5.out.rdr HR5.out hu6)
      have hz6 := hu6.size
      clear hu6 HO5 HR5 HS5 hm3
      go_wp2_with fail
      refine (decN_own (g := g) (er := er) _ (by rw [← HM3.out]; exact H4.out) HY.out).mono ?_
      rintro e w7 ⟨X1, a1, b1, X2, a2, b2, rfl, HX1, HX2, hs7⟩
      obtain ⟨g0, g1, g2, g3, g4⟩ := g
      simp only [GVal.val]
      have hu := (Upd.refl (fun _ => False) w7).alloc (.cells #[.int .i64 g0, .int .i64 g1, .string g2, .slice X1 a1 b1, .slice X2 a2 b2] 26)
      have hbx := Blk.new w7 26 #[.int .i64 g0, .int .i64 g1, .string g2, .slice X1 a1 b1, .slice X2 a2 b2]
      have HY1 := Lib.hid (own_base (own_same HX1.out hu) (show w1.heap.size ≤ w6.heap.size by omega))
      have HY2 := Lib.hid (own_base (own_same HX2.out hu) (show w1.heap.size ≤ w6.heap.size by omega))
      have HS8 := Lib.hid ((HS6.out.same hs7).same hu)
      have HO8 := Lib.hid ((HO6.out.same hs7).same hu)
      have HR8 := Lib.hid ((HR6.out.same hs7).same hu)
      have hz7 := hs7.size
      have hz8 := hu.size
      clear HX1 HX2 hs7 hu HS6 HO6 HR6 HY
      go_upto_region 5 with fail
      have HBX := Lib.hid hbx
      clear hbx
      generalize w7.alloc (.cells #[.int .i64 g0, .int .i64 g1, .string g2, .slice X1 a1 b1, .slice X2 a2 b2] 26) = w8 at *
      generalize w7.heap.size = gx at *
      by_cases hgood : (t1.length = 2 ∧ 1 ≤ be t1 ∧ be t1 ≤ 200) ∧ e3 = 0 ∧ er = 0
      · obtain ⟨hg1, hg2, hg3⟩ := hgood
        have hok2 : ok = true := by rw [← HOk.out]; exact decide_eq_true hg1
        have hSt := HSt.out
        rw [if_pos ⟨hg1, hg2, hg3⟩] at hSt
        obtain ⟨hg11, hg12, hg13⟩ := hg1
        have HSt2 := Lib.hid hSt
        have hlf := HLf.out hg2
        have HK2 := Lib.hid (HKy.out hok2)
        clear hSt HSt HOk HKy HLf hg11
        subst hok2 hg2 hg3
        obtain ⟨Ao, no, co, rfl⟩ := own_slice HO8.out.row
        have HQ2 := Lib.hid (show (inO fu l3).map ((ls ++ [(⟨ky, ⟨g0, g1, g2, g3, g4⟩, X1, a1, b1, X2, a2, b2⟩ : KV)]).map KV.dat ++ ·) = R from by
          rw [← KQ.out, HSt2.out, Option.map_map]
          congr 1
          funext t
          simp [KV.dat, HK2.out])
        have hky1 : -9223372036854775808 ≤ ky ∧ ky ≤ 9223372036854775807 := by have := HK2.out; omega
        have HKy1 := Lib.hid hky1
        clear hky1
        obtain ⟨p0, p1, p2, p3, p4⟩ := HBX.out.five
        go_wp2_with fail
        refine (err_spec HR8.out).mono ?_
        rintro e w9 ⟨rfl, rfl⟩
        have hsz8 := HS8.out.size
        go_wp2_with (at_builtin; go_must (refine wpList_app rfl (.tmp 40) (.tmp 44) _ _ rfl w1.heap.size 47 6 88 _ Try.underlying30 info_kv rfl (.slice Ao no co) ls.length _ rfl (HO8.out.row.alloc _) rfl (src_row Try.underlying30 (Row.kv _ ⟨ky, ⟨g0, g1, g2, g3, g4⟩, X1, a1, b1, X2, a2, b2⟩) (kv_one _)) (by unfold maxLen; omega) (by omega) (by simp; omega) ?_); intro v' w10 hg; have HG10 := Lib.hid hg; clear hg)
        go_roundg l3.length
        case measure => omega
        case rel =>
          have hsA := (Upd.refl (fun _ => False) w8).alloc (.cells (KV.cells ⟨ky, ⟨g0, g1, g2, g3, g4⟩, X1, a1, b1, X2, a2, b2⟩).toArray 47)
          have hO10 := (HO8.out.same hsA).snoc (x := ⟨ky, ⟨g0, g1, g2, g3, g4⟩, X1, a1, b1, X2, a2, b2⟩) HG10.out (own_same HY1.out hsA) (own_same HY2.out hsA) HFit.out HKy1.out
          have hup : Upd (fun b => (Value.slice Ao no co).ownBlock = some b) w8 w10 := (hsA.mono fun _ _ f => f.elim).trans HG10.out.upd fun _ _ hh => hh
          obtain ⟨Ar, nr, cr, hbr, hyr⟩ := HR8.out
          refine ⟨l3.length, fu, l3, ls ++ [⟨ky, ⟨g0, g1, g2, g3, g4⟩, X1, a1, b1, X2, a2, b2⟩], rfl, by omega, by omega, by rw [List.length_append, List.length_singleton]; omega, Lib.hid rfl, Lib.hid ⟨Ar, nr, cr, hbr.upd hup fun hh => hbr.ne_own HO8.out.row (by decide) hh, hyr.upd hup fun b hb hh => by have := (HO8.out.row.lt b hh).1; omega⟩, Lib.hid (HS8.out.trans hup fun b hb hh => by have := (HO8.out.row.lt b hh).1; omega), by have := hup.size; omega, Lib.hid hO10, HQ2⟩
      · have HNone := Lib.hid (show R = none from by rw [← KQ.out, HSt.out, if_neg hgood]; rfl)
        cases ok with
        | false =>
          go_wp2
          go_ret2
          exact InPost.bad HNone.out HS8.out
        | true =>
          have hg1 := of_decide_eq_true HOk.out
          by_cases hg2 : e3 = 0
          · have hg3 : er ≠ 0 := fun h => hgood ⟨hg1, hg2, h⟩
            have her : (er != 0) = true := by rw [bne_iff_ne]; exact hg3
            subst hg2
            clear hgood hg1 hg3
            go_wp2_with fail
            refine (err_spec HR8.out).mono ?_
            rintro e w9 ⟨rfl, rfl⟩
            go_wp2
            go_ret2
            exact InPost.bad HNone.out HS8.out
          · have her : (e3 != 0) = true := by rw [bne_iff_ne]; exact hg2
            clear hgood hg1 hg2
            go_wp2_with fail
            refine (err_spec HR8.out).mono ?_
            rintro e w9 ⟨rfl, rfl⟩
            go_wp2
            go_ret2
            exact InPost.bad HNone.out HS8.out
    · have hn0 : n' = 0 := by omega
      subst hn0
      have hr0 : rest = [] := List.eq_nil_of_length_eq_zero HL.out
      subst hr0
      go_wp2_with fail
      refine (left_spec KR.out).mono ?_
      rintro e w2 ⟨rfl, rfl⟩
      go_wp2_with fail
      refine (err_spec KR.out).mono ?_
      rintro e w3 ⟨rfl, rfl⟩
      go_wp2
      go_ret2
      refine InPost.ok ?_ (KO.out.base hw01) KS.out
      rw [← KQ.out, inO_nil]
      simp
end Go.Proofs.Ytheinbigegobkaa
