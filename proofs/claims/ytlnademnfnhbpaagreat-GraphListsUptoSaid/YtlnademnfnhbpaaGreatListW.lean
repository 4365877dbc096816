/- The walk of GraphLists. -/
import Derived.Test.YtlnademnfnhbpaaGreatOpenV
import Derived.Test.YtlnademnfnhbpaaGreatOpenG
import Derived.Test.YtlnademnfnhbpaaGreatGspk2
import Derived.Test.YtlnademnfnhbpaaGreatCopyG
import Derived.Test.YtlnademnfnhbpaaGreatRSameG
import Derived.Test.YtlnademnfnhbpaaGreatNm1
import Derived.Test.YtlnademnfnhbpaaGreatOwn
namespace Go.Proofs.YtlnademnfnhbpaaGreat
open Go.ChangeShapes Go.WideShapes Go.ChangeAt Go.RowKit

theorem isNames_of {s m : List ByteArray} (h : Srt s m) : IsNames s (m.map fun x => x.data.toList) where
  sorted := by
    rw [List.pairwise_map]
    exact h.sorted.imp fun {a b} (hh : ltS a b) => List.le_of_lt hh
  nodup := by
    rw [List.nodup_iff_pairwise_ne, List.pairwise_map]
    refine h.sorted.imp fun {a b} (hh : ltS a b) e => ?_
    have h2 : a.data.toList < b.data.toList := hh
    rw [e] at h2
    exact List.lt_irrefl _ h2
  mem := fun x => by
    rw [List.mem_map, ← h.mem]
    constructor
    · rintro ⟨y, hy, rfl⟩
      simpa using hy
    · intro hx
      exact ⟨_, hx, by simp⟩
theorem names_eq {s m : List ByteArray} {l : List (List UInt8)} (h : IsNames s l) (h' : Srt s m) : l.map strV = m.map Value.string ∧ l.length = m.length := by
  rw [h.unique (isNames_of h'), List.map_map, List.length_map]
  exact ⟨List.map_congr_left fun x _ => by simp [strV], rfl⟩

/-- Names, where the reference's are known. -/
theorem names_on {F : Nat → Prop} (w0 w : World) (g : GR) (hs : Same w0 w) (h : RdG w0 F g) (ht : GTexts g) (k : Int) (hT : (allNames g.dat k).length ≤ 8796093022208) {m : List ByteArray} (hm : Srt (allNames g.dat k) m) :
    Calls Tryz.prog 25 #[g.agg, .int .i64 k] w fun e w' => ∃ (A : Option Addr) (c : Nat), e = .returned (.slice A m.length c) ∧ Hid (w'.ownsRow w.heap.size 9 1 (.slice A m.length c) m.length (m.map Value.string)) ∧ Same w w' ∧ Same w0 w' := by
  refine (names_spec w g (h.same hs) ht k hT).mono ?_
  rintro e w' ⟨v, l, rfl, h1, h2, h3⟩
  obtain ⟨h4, h5⟩ := names_eq h1 hm
  rw [h4, h5] at h2
  obtain ⟨A, c, rfl⟩ := own_form h2
  exact ⟨A, c, rfl, Lib.hid h2, h3, hs.same h3⟩

theorem eqAll_refl (m : List ByteArray) : eqAll eqS m m = true := by
  induction m with
  | nil => rfl
  | cons x m ih => simp [eqAll, eqS, ih]

theorem keep1G {w0 wx : World} {g1 : Nat} {t : TypeId} {a b : Value} (h1 : Hid (Blk w0 g1 t #[a, b])) (hs : Same w0 wx) :
    Same w0 wx ∧ wx.cell? ⟨g1, 0, none⟩ = some a ∧ wx.cell? ⟨g1, 1, none⟩ = some b :=
  ⟨hs, (h1.out.same hs).cell 0, (h1.out.same hs).cell 1⟩

set_option maxHeartbeats 8000000 in
set_option maxRecDepth 100000 in
theorem glists_walk {F : Nat → Prop} (w : World) {g : GR} (h : RdG w F g) (hz : GSized g) (k : Int) (hT : (allNames g.dat k).length ≤ 1048576) :
    Calls Tryz.prog 10 #[g.agg, .int .i64 k] w fun e w' => e = .returned (.bool true) ∧ Same w w' := by
  have hs2 := (Upd.refl (fun _ => False) w).alloc (.cells #[.slice g.AN g.nN g.cN, .slice g.AR g.nR g.cR] 27)
  have hb1 := Blk.new w 27 #[.slice g.AN g.nN g.cN, .slice g.AR g.nR g.cR]
  have H1 := Lib.hid h
  have Z1 := Lib.hid hz
  have HT := Lib.hid hT
  clear h hz hT
  obtain ⟨ns, AN, nN, cN, rs, AR, nR, cR⟩ := g
  simp only at hs2 hb1
  go_enter Tryz.func10, Tryz.ntmps10
  go_wp2_with fail
  refine (gspeaks_true _).mono ?_
  rintro e w3 ⟨rfl, hs3⟩
  have S3 := Lib.hid (hs2.same hs3)
  have B1 := Lib.hid (hb1.same hs3)
  have R1 := Lib.hid (H1.out.same S3.out)
  have p20 : w3.cell? ⟨w.heap.size, 0, none⟩ = some (.slice AN nN cN) := B1.out.cell 0
  have p21 : w3.cell? ⟨w.heap.size, 1, none⟩ = some (.slice AR nR cR) := B1.out.cell 1
  clear hs2 hs3 hb1 H1
  go_wp2_with fail
  refine (copyG_on w3 _ ⟨ns, AN, nN, cN, rs, AR, nR, cR⟩ (Upd.refl _ _) R1.out Z1.out).mono ?_
  rintro e w4 ⟨⟨nsA, A1, n1, c1, rsA, A2, n2, c2⟩, rfl, DA, RA, hs4, _⟩
  have hs5 := (Upd.refl (fun _ => False) w4).alloc (.cells #[.slice A1 n1 c1, .slice A2 n2 c2] 27)
  have S5 := Lib.hid (hs4.same hs5)
  have B5 := Lib.hid (B1.out.same S5.out)
  have C5 := Lib.hid (Blk.new w4 27 #[.slice A1 n1 c1, .slice A2 n2 c2])
  have R5 := Lib.hid (R1.out.same S5.out)
  have RA5 := Lib.hid (RA.out.same hs5)
  have GT5 := Lib.hid (gtexts_dat Z1.out.texts DA.out)
  have HTA := Lib.hid (show (allNames (GR.dat ⟨nsA, A1, n1, c1, rsA, A2, n2, c2⟩) k).length ≤ 1048576 by rw [DA.out]; exact HT.out)
  clear p20 p21 hs4 hs5
  go_upto_region 4 with fail
  generalize w4.alloc (.cells #[.slice A1 n1 c1, .slice A2 n2 c2] 27) = w5 at *
  generalize w4.heap.size = g5 at *
  have p20 : w5.cell? ⟨w.heap.size, 0, none⟩ = some (.slice AN nN cN) := B5.out.cell 0
  have p21 : w5.cell? ⟨w.heap.size, 1, none⟩ = some (.slice AR nR cR) := B5.out.cell 1
  go_wp2_with fail
  refine (rnames_spec k w5 ⟨ns, AN, nN, cN, rs, AR, nR, cR⟩ R5.out (by have := HT.out; omega)).mono ?_
  rintro e w6 ⟨AM, cM, m, rfl, hml, hsrt, hrow, hs6⟩
  have S6 := Lib.hid (S5.out.same hs6)
  have B6 := Lib.hid (B5.out.same hs6)
  have C6 := Lib.hid (C5.out.same hs6)
  have R6 := Lib.hid (R5.out.same hs6)
  have RA6 := Lib.hid (RA5.out.same hs6)
  have HSrt := Lib.hid (show Srt (allNames (GR.dat ⟨nsA, A1, n1, c1, rsA, A2, n2, c2⟩) k) m by rw [DA.out]; exact hsrt.out)
  have HMl := Lib.hid (show m.length ≤ 1048576 from Nat.le_trans hml HT.out)
  clear p20 p21 hs6 hml hsrt B5 C5 R5 RA5
  go_upto_region 5 with fail
  have h00 : Same w6 w6.drew := (Upd.refl _ w6).drew
  have tok1 : True := trivial
  go_region_held3 (fun wx => Same w6 wx ∧ wx.cell? ⟨g5, 0, none⟩ = some (.slice A1 n1 c1) ∧ wx.cell? ⟨g5, 1, none⟩ = some (.slice A2 n2 c2)) (exact keep1G C6 (by assumption)) (first
    | (go_at_call 25; (have _t := tok1); clear tok1; with_reducible refine (names_on w6 _ ⟨nsA, A1, n1, c1, rsA, A2, n2, c2⟩ (by assumption) RA6.out GT5.out k (by have := HTA.out; omega) HSrt.out).mono ?_; rintro e w7 ⟨AB, cB, rfl, HB7, hs7, hsa7⟩)
    | (go_at_call 25; with_reducible refine (names_on w6 _ ⟨nsA, A1, n1, c1, rsA, A2, n2, c2⟩ (by assumption) RA6.out GT5.out k (by have := HTA.out; omega) HSrt.out).mono ?_; rintro e w8 ⟨AC, cC, rfl, HC8, hs8, hsa8⟩))
  have OB8 := Lib.hid (show w8.ownsRow w6.heap.size 9 1 (.slice AB m.length cB) m.length (m.map Value.string) from own_same HB7.out hs8)
  have OM8 := Lib.hid (own_same hrow.out hsa8)
  have HLB := Lib.hid (show ∀ b, (Value.slice AB m.length cB).ownBlock = some b → w6.heap.size ≤ b ∧ b < w7.heap.size from HB7.out.lt)
  have HLC := Lib.hid HC8.out.lt
  have HLM := Lib.hid (hrow.out.lt)
  have HSm := HMl.out
  clear hs7 hsa7 hs8 HB7
  go_wp2_with (go_at_call 26; refine (sameTexts_spec w8 (own_rdK OB8.out) (own_rdK OM8.out) (r := true) (eqAll_refl m)).mono ?_; rintro e w9 ⟨rfl, hs9⟩; have HS9 := Lib.hid hs9; clear hs9)
  have HC9 := Lib.hid (own_same HC8.out HS9.out)
  have OM9 := Lib.hid (own_same OM8.out HS9.out)
  have HL9 := Lib.hid (Upd.same hsa8 HS9.out)
  have OB9 := Lib.hid (own_same OB8.out HS9.out)
  clear OB8 OM8
  go_loopg [29, 9] m.length (fun gh ix s9 wr => ∃ i : Nat, m.length - i = gh ∧ i ≤ m.length ∧ ix = .int .i64 i ∧ Hid (∃ xs, wr.ownsRow w6.heap.size 9 1 (.slice AB m.length cB) m.length xs) ∧ Hid (Upd (fun b => (Value.slice AB m.length cB).ownBlock = some b) w9 wr))
  case atStart => exact ⟨0, rfl, Nat.zero_le _, rfl, Lib.hid ⟨_, OB9.out⟩, Lib.hid (Upd.refl _ _)⟩
  case round =>
    obtain ⟨i, rfl, hi, rfl, KO, KU⟩ := hrel
    by_cases hlt : i < m.length
    · obtain ⟨gB, rfl, hgB, hgl, ⟨u, hu⟩, hfr, hput⟩ := own_put KO.out hlt
      have KO1 := Lib.hid (hput (.string ⟨#[42]⟩))
      have KU1 := Lib.hid (KU.out.setCell (p := ⟨gB, i, none⟩) (.inl rfl) (.string ⟨#[42]⟩))
      clear hput KO KU
      go_wp2_with fail
      go_roundg (m.length - (i + 1))
      case measure => omega
      case rel => exact ⟨i + 1, rfl, by omega, by go_num, KO1, KU1⟩
    · have hin : i = m.length := by omega
      subst hin
      clear hlt
      obtain ⟨xs, hxs⟩ := KO.out
      have HXs := Lib.hid hxs
      have hw6 : w6.heap.size ≤ wr.heap.size := by
        have h1 := hsa8.size
        have h2 := HS9.out.size
        have h3 := KU.out.size
        omega
      clear KO hxs
      have hAl := (Upd.refl (fun b => (Value.slice AB m.length cB).ownBlock = some b) wr).alloc (.cells #[.string ⟨#[42]⟩, .string ⟨#[42]⟩, .string ⟨#[42]⟩] 9)
      have KU1 := Lib.hid (KU.out.trans hAl fun _ _ hh => hh)
      have R9 := Lib.hid ((R6.out.mono (F' := fun b => b < w6.heap.size) fun b hb _ => hb).same HL9.out)
      have RA9 := Lib.hid ((RA6.out.mono (F' := fun b => b < w6.heap.size) fun b hb _ => hb).same HL9.out)
      have hb6 := B6.out.lt
      have hc6 := C6.out.lt
      have B9 := Lib.hid (B6.out.same HL9.out)
      have C9 := Lib.hid (C6.out.same HL9.out)
      clear hAl KU
      go_wp2_with (first
        | (at_builtin; go_must (refine wpList_app rfl (.tmp 36) (.tmp 37) _ _ rfl w6.heap.size 9 1 16 _ Tryz.underlying37 info_string rfl (.slice AB m.length cB) m.length _ rfl (HXs.out.alloc _) rfl (src_row Tryz.underlying37 (Row.of_blk (k := 1) (n := 3) (Blk.new _ _ _) rfl (Nat.le_refl _) (by simp [maxLen])) (by simp [Value.oneCell'])) (by unfold maxLen; omega) (by omega) (by simp; omega) ?_); intro v1 w12 hg
           have U12 := Lib.hid (KU1.out.trans hg.upd fun _ _ hh => hh)
           have OC12 := Lib.hid (own_upd HC9.out U12.out fun g h1 h2 => by have h3 := HLB.out g h2; have h4 := HLC.out g h1; omega)
           have OM12 := Lib.hid (own_upd OM9.out U12.out fun g h1 h2 => by have h3 := HLB.out g h2; have h4 := HLM.out g h1; omega)
           have R12 := Lib.hid (R9.out.upd U12.out fun b h1 h2 => by have h3 := HLB.out b h2; omega)
           have RA12 := Lib.hid (RA9.out.upd U12.out fun b h1 h2 => by have h3 := HLB.out b h2; omega)
           have B12 := Lib.hid (B9.out.upd U12.out fun h2 => by have h3 := HLB.out _ h2; omega)
           have C12 := Lib.hid (C9.out.upd U12.out fun h2 => by have h3 := HLB.out _ h2; omega)
           clear hg)
        | (go_at_call 26; refine (sameTexts_spec w12 (own_rdK OC12.out) (own_rdK OM12.out) (r := true) (eqAll_refl m)).mono ?_; rintro e w13 ⟨rfl, hs13⟩
           have p20 : w13.cell? ⟨w.heap.size, 0, none⟩ = some (.slice AN nN cN) := (B12.out.same hs13).cell 0
           have p21 : w13.cell? ⟨w.heap.size, 1, none⟩ = some (.slice AR nR cR) := (B12.out.same hs13).cell 1
           have p22 : w13.cell? ⟨g5, 0, none⟩ = some (.slice A1 n1 c1) := (C12.out.same hs13).cell 0
           have p23 : w13.cell? ⟨g5, 1, none⟩ = some (.slice A2 n2 c2) := (C12.out.same hs13).cell 1
           have U13 := Lib.hid (Upd.same U12.out hs13)
           have R13 := Lib.hid (R12.out.same hs13)
           have RA13 := Lib.hid (RA12.out.same hs13)
           clear hs13)
        | (go_at_call 19; refine (rsameG_spec w13 ⟨nsA, A1, n1, c1, rsA, A2, n2, c2⟩ ⟨ns, AN, nN, cN, rs, AR, nR, cR⟩ RA13.out R13.out (r := true) (by rw [DA.out]; exact (sameG_iff _ _).2 rfl)).mono ?_; rintro e w14 ⟨rfl, hs14⟩; have HS14 := Lib.hid hs14; clear hs14))
      go_ret
      refine ⟨rfl, ?_⟩
      have hz1 := S3.out.size
      have hz2 := S6.out.size
      have hA := (S3.out.same S6.out).same HL9.out
      exact (hA.trans U13.out fun b hb hh => by have h3 := HLB.out b hh; omega).same HS14.out
end Go.Proofs.YtlnademnfnhbpaaGreat
