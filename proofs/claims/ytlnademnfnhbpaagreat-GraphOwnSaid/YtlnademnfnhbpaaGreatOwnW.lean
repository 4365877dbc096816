/- The walk of GraphOwn. -/
import Derived.Test.YtlnademnfnhbpaaGreatOwnS
import Derived.Deep.DeepCutAuto
import Derived.Deep.CutRange
import Derived.BigRegion
namespace Go.Proofs.YtlnademnfnhbpaaGreat
open Go.RowKit

theorem canonG_ownx {F : Nat → Prop} (w0 w : World) (g : GR) (hs : Same w0 w) (h : RdG w0 F g) (hz : GSized g) :
    Calls Tryz.prog 20 #[g.agg] w fun e w' => ∃ g' : GR, e = .returned g'.agg ∧ Hid (g'.dat = canonD g.dat) ∧ Hid (OwnG w' w.heap.size g') ∧ Hid (ApartG g') ∧ Same w w' ∧ Same w0 w' :=
  (canonG_spec w g (h.same hs) hz).mono fun _ _ ⟨g', h1, h2, h3, h4, h5⟩ => ⟨g', h1, h2, h3, h4, h5, hs.same h5⟩
theorem Blk.new2 (w : World) (o : Obj) (t : TypeId) (cs : Array Value) : Blk ((w.alloc o).alloc (.cells cs t)) (w.heap.size + 1) t cs := by
  have h := Blk.new (w.alloc o) t cs
  rwa [World.size_alloc] at h
/-- Two graphs of the call's own, laid into two boxes. -/
structure PairS (w7 w : World) (ga gb : GR) : Prop where
  oa : OwnG w w7.heap.size ga
  ob : OwnG w w7.heap.size gb
  sm : Same w7 w
section
variable {w7 w : World} {ga gb : GR}
theorem PairS.alloc (h : PairS w7 w ga gb) (o : Obj) : PairS w7 (w.alloc o) ga gb := ⟨h.oa.same ((Upd.refl _ w).alloc o), h.ob.same ((Upd.refl _ w).alloc o), h.sm.alloc o⟩
theorem OwnG.typeG {S : Nat → Prop} {w' : World} {B : Nat} {g : GR} (h : OwnG w B g) (hu : Upd S w w') (hT : ∀ k, k < w.heap.size → S k → OfT w 27 k) : OwnG w' B g :=
  ⟨h.nodes.type hu hT (by decide) (by decide) (by decide) (by decide), h.rels.type hu hT (by decide) (by decide) (by decide) (by decide)⟩
theorem PairS.put2 {k : Nat} {cs : Array Value} (h : PairS w7 w ga gb) (hb : Blk w k 27 cs) (hk : w7.heap.size ≤ k) (a b : Value) : PairS w7 ((w.setCell ⟨k, 0, none⟩ a).setCell ⟨k, 1, none⟩ b) ga gb := by
  have hu : Upd (fun x => x = k) w ((w.setCell ⟨k, 0, none⟩ a).setCell ⟨k, 1, none⟩ b) := ((Upd.refl (fun x => x = k) w).put1 a).put1 b
  have hT : ∀ x, x < w.heap.size → x = k → OfT w 27 x := fun x _ hx => by rw [hx]; exact ⟨cs, hb⟩
  exact ⟨h.oa.typeG hu hT, h.ob.typeG hu hT, (h.sm.putNew hk a).putNew hk b⟩
theorem Blk.two {k : Nat} {t : TypeId} {x y : Value} (h : Blk w k t #[x, y]) (a b : Value) : Blk ((w.setCell ⟨k, 0, none⟩ a).setCell ⟨k, 1, none⟩ b) k t #[a, b] := (h.put 0 a).put 1 b
theorem Blk.far2 {g k : Nat} {t : TypeId} {cs : Array Value} (h : Blk w g t cs) (hk : g ≠ k) (a b : Value) : Blk ((w.setCell ⟨k, 0, none⟩ a).setCell ⟨k, 1, none⟩ b) g t cs := (h.far (p := ⟨k, 0, none⟩) hk a).far (p := ⟨k, 1, none⟩) hk b
theorem Blk.newS (w : World) (p p' : Addr) (u u' : Value) (t : TypeId) (cs : Array Value) : Blk (((w.setCell p u).setCell p' u').alloc (.cells cs t)) w.heap.size t cs := by
  have h := Blk.new ((w.setCell p u).setCell p' u') t cs
  have e : ((w.setCell p u).setCell p' u').heap.size = w.heap.size := by simp [World.setCell]
  rwa [e] at h
theorem PairS.fin {b5 b6 : Nat} {D : GGraph} (h : PairS w7 w ga gb) (h5 : Blk w b5 27 #[.slice ga.AN ga.nN ga.cN, .slice ga.AR ga.nR ga.cR]) (h6 : Blk w b6 27 #[.slice gb.AN gb.nN gb.cN, .slice gb.AR gb.nR gb.cR]) (d1 : Hid (ga.dat = D)) (d2 : Hid (gb.dat = D)) (ap : Hid (ApartG ga)) (hd : ∀ k, gb.blk k → ¬ ga.blk k) (k5 : w7.heap.size ≤ b5) (k56 : b5 ≠ b6) :
    ∃ (c5 c6 : Nat) (ga gb : GR), Value.pointer (some ⟨b5, 0, none⟩) = .pointer (some ⟨c5, 0, none⟩) ∧ Value.pointer (some ⟨b6, 0, none⟩) = .pointer (some ⟨c6, 0, none⟩) ∧ Hid (Blk w c5 27 #[.slice ga.AN ga.nN ga.cN, .slice ga.AR ga.nR ga.cR]) ∧ Hid (Blk w c6 27 #[.slice gb.AN gb.nN gb.cN, .slice gb.AR gb.nR gb.cR]) ∧
      Hid (ga.dat = D) ∧ Hid (gb.dat = D) ∧ Hid (OwnG w w7.heap.size ga) ∧ Hid (ApartG ga) ∧ Hid (RdG w (fun k => ¬ ga.blk k ∧ k ≠ c5) gb) ∧ Hid (Same w7 w) ∧ Hid (w7.heap.size ≤ c5 ∧ c5 ≠ c6) :=
  ⟨b5, b6, ga, gb, rfl, rfl, Lib.hid h5, Lib.hid h6, d1, d2, Lib.hid h.oa, ap, Lib.hid (h.ob.rdX.mono fun k _ hk => ⟨hd k hk, fun e => h.ob.ne_box h5 (e ▸ hk)⟩), Lib.hid h.sm, Lib.hid ⟨k5, k56⟩⟩
end
/-- A mark of a property of '*'. -/
def starP : PR := ⟨⟨#[42]⟩, ⟨0, 0, ⟨#[]⟩, [], []⟩, none, 0, 0, none, 0, 0⟩
def starN : ND := ⟨-7, [], none, 0, 0, [], none, 0, 0⟩
def starR : RL := ⟨-7, ⟨#[]⟩, 0, 0, [], none, 0, 0⟩

set_option maxHeartbeats 32000000 in
set_option maxRecDepth 100000 in
theorem gown_walk {F : Nat → Prop} (w : World) {g : GR} (h : RdG w F g) (hz : GSized g) :
    Calls Tryz.prog 12 #[g.agg] w fun e w' => e = .returned (.bool true) ∧ Same w w' := by
  have hs2 := (Upd.refl (fun _ => False) w).alloc (.cells #[.slice g.AN g.nN g.cN, .slice g.AR g.nR g.cR] 27)
  have hb1 := Blk.new w 27 #[.slice g.AN g.nN g.cN, .slice g.AR g.nR g.cR]
  have H1 := Lib.hid h
  have Z1 := Lib.hid hz
  clear h hz
  obtain ⟨ns, AN, nN, cN, rs, AR, nR, cR⟩ := g
  simp only at hs2 hb1
  go_enter Tryz.func12, Tryz.ntmps12
  go_wp2_with fail
  refine (gspeaks_true _).mono ?_
  rintro x w3 ⟨rfl, hs3⟩
  have S3 := Lib.hid (hs2.same hs3)
  have B1 := Lib.hid (hb1.same hs3)
  have R1 := Lib.hid (H1.out.same S3.out)
  have p20 : w3.cell? ⟨w.heap.size, 0, none⟩ = some (.slice AN nN cN) := B1.out.cell 0
  have p21 : w3.cell? ⟨w.heap.size, 1, none⟩ = some (.slice AR nR cR) := B1.out.cell 1
  clear hs2 hs3 hb1 H1
  go_wp2_with fail
  refine (copyG_on w3 _ ⟨ns, AN, nN, cN, rs, AR, nR, cR⟩ (Upd.refl _ _) R1.out Z1.out).mono ?_
  rintro x w4 ⟨⟨nsA, A1, n1, c1, rsA, A2, n2, c2⟩, rfl, DA, RA, hs4, _⟩
  have hs5 := (Upd.refl (fun _ => False) w4).alloc (.cells #[.slice A1 n1 c1, .slice A2 n2 c2] 27)
  have S5 := Lib.hid (S3.out.same (hs4.same hs5))
  have B5 := Lib.hid (B1.out.same (hs4.same hs5))
  have C5 := Lib.hid (Blk.new w4 27 #[.slice A1 n1 c1, .slice A2 n2 c2])
  have R5 := Lib.hid (R1.out.same (hs4.same hs5))
  have RA5 := Lib.hid (RA.out.same hs5)
  have ZA := Lib.hid (gsized_dat R1.out RA.out Z1.out DA.out)
  clear p20 p21 hs4 hs5
  go_upto_region 4 with fail
  generalize w4.alloc (.cells #[.slice A1 n1 c1, .slice A2 n2 c2] 27) = w5 at *
  generalize w4.heap.size = g5 at *
  have p20 : w5.cell? ⟨w.heap.size, 0, none⟩ = some (.slice AN nN cN) := B5.out.cell 0
  have p21 : w5.cell? ⟨w.heap.size, 1, none⟩ = some (.slice AR nR cR) := B5.out.cell 1
  go_wp2_with fail
  refine (rcanonG_on w5 _ ⟨ns, AN, nN, cN, rs, AR, nR, cR⟩ (Upd.refl _ _) R5.out Z1.out).mono ?_
  rintro x w6 ⟨⟨nsC, A5, n5, c5, rsC, A6, n6, c6⟩, rfl, DC, RC, hs6, _⟩
  have hs7 := (Upd.refl (fun _ => False) w6).alloc (.cells #[.slice A5 n5 c5, .slice A6 n6 c6] 27)
  have S7 := Lib.hid (S5.out.same (hs6.same hs7))
  have B7 := Lib.hid (B5.out.same (hs6.same hs7))
  have C7 := Lib.hid (C5.out.same (hs6.same hs7))
  have D7 := Lib.hid (Blk.new w6 27 #[.slice A5 n5 c5, .slice A6 n6 c6])
  have R7 := Lib.hid (R5.out.same (hs6.same hs7))
  have RA7 := Lib.hid (RA5.out.same (hs6.same hs7))
  have RC7 := Lib.hid (RC.out.same hs7)
  clear p20 p21 hs6 hs7
  go_upto_region 5 with fail
  generalize w6.alloc (.cells #[.slice A5 n5 c5, .slice A6 n6 c6] 27) = w7 at *
  generalize w6.heap.size = g6 at *
  have h00 : Same w7 w7.drew := (Upd.refl _ w7).drew
  have tok1 : True := trivial
  go_cut [5, 6] from 20 to 23 (fun s5 s6 wx => ∃ (b5 b6 : Nat) (ga gb : GR), s5 = .pointer (some ⟨b5, 0, none⟩) ∧ s6 = .pointer (some ⟨b6, 0, none⟩) ∧ Hid (Blk wx b5 27 #[.slice ga.AN ga.nN ga.cN, .slice ga.AR ga.nR ga.cR]) ∧ Hid (Blk wx b6 27 #[.slice gb.AN gb.nN gb.cN, .slice gb.AR gb.nR gb.cR]) ∧
      Hid (ga.dat = canonD (GR.dat ⟨nsA, A1, n1, c1, rsA, A2, n2, c2⟩)) ∧ Hid (gb.dat = canonD (GR.dat ⟨nsA, A1, n1, c1, rsA, A2, n2, c2⟩)) ∧ Hid (OwnG wx w7.heap.size ga) ∧ Hid (ApartG ga) ∧ Hid (RdG wx (fun k => ¬ ga.blk k ∧ k ≠ b5) gb) ∧ Hid (Same w7 wx) ∧ Hid (w7.heap.size ≤ b5 ∧ b5 ≠ b6))
  case first =>
    go_region_held3 (fun wx => Same w7 wx ∧ wx.cell? ⟨g5, 0, none⟩ = some (.slice A1 n1 c1) ∧ wx.cell? ⟨g5, 1, none⟩ = some (.slice A2 n2 c2)) (exact keepC C7 (by repeat first | assumption | exact Upd.refl _ _ | refine Upd.drew ?_ | refine Upd.alloc ?_ _ | refine Upd.putNew ?_ (by first | omega | (simp; done) | (simp; omega)) _)) (first
      | (go_at_call 20; (have _t := tok1); clear tok1; with_reducible refine (canonG_ownx w7 _ ⟨nsA, A1, n1, c1, rsA, A2, n2, c2⟩ (by repeat first | assumption | exact Upd.refl _ _ | refine Upd.drew ?_ | refine Upd.alloc ?_ _ | refine Upd.putNew ?_ (by first | omega | (simp; done) | (simp; omega)) _) RA7.out ZA.out).mono ?_; rintro e w8 ⟨⟨nsB, A3, n3, c3, rsB, A4, n4, c4⟩, rfl, D8, O8, P8, hs8, hsa8⟩; have hz8 := hsa8.size; have hz8' := hs8.size; (try simp at hz8'); (try (have qx1 : w7.heap.size < w8.heap.size := by omega)); (try (have qx2 : w7.heap.size + 1 < w8.heap.size := by omega)); (try (have qa : Blk w8 (w7.heap.size) 27 _ := Blk.same (by first | exact Blk.new _ _ _ | exact (Blk.new _ _ _).alloc _ | exact (Blk.new _ _ _).drew | exact ((Blk.new _ _ _).alloc _).drew) hs8; have qa0 := qa.cell 0; have qa1 := qa.cell 1; have qa2 := qa.frozen 0; have qa3 := qa.frozen 1)); (try (have qb : Blk w8 (w7.heap.size + 1) 27 _ := Blk.same (by first | exact Blk.new2 _ _ _ _ | exact (Blk.new2 _ _ _ _).drew) hs8; have qb0 := qb.cell 0; have qb1 := qb.cell 1; have qb2 := qb.frozen 0; have qb3 := qb.frozen 1)))
      | (go_at_call 20; with_reducible refine (canonG_ownx w7 _ ⟨nsA, A1, n1, c1, rsA, A2, n2, c2⟩ (by repeat first | assumption | exact Upd.refl _ _ | refine Upd.drew ?_ | refine Upd.alloc ?_ _ | refine Upd.putNew ?_ (by first | omega | (simp; done) | (simp; omega)) _) RA7.out ZA.out).mono ?_; rintro e w9 ⟨⟨nsD, A7, n7, c7, rsD, A8, n8, c8⟩, rfl, D9, O9, P9, hs9, hsa9⟩; have hz9 := hsa9.size; have hz9' := hs9.size; (try simp at hz9'); (try (have qx3 : w7.heap.size < w9.heap.size := by omega)); (try (have qx4 : w7.heap.size + 1 < w9.heap.size := by omega)); (try (have qx5 : w8.heap.size < w9.heap.size := by omega)); (try (have qx6 : w8.heap.size + 1 < w9.heap.size := by omega)); (try (have qa' : Blk w9 (w7.heap.size) 27 _ := Blk.same (by first | exact qa | exact qa.alloc _ | exact (qa.alloc _).alloc _) hs9; have qa'0 := qa'.cell 0; have qa'1 := qa'.cell 1; have qa'2 := qa'.frozen 0; have qa'3 := qa'.frozen 1)); (try (have qb' : Blk w9 (w7.heap.size + 1) 27 _ := Blk.same (by first | exact qb | exact qb.alloc _ | exact (qb.alloc _).alloc _) hs9; have qb'0 := qb'.cell 0; have qb'1 := qb'.cell 1; have qb'2 := qb'.frozen 0; have qb'3 := qb'.frozen 1)); (try (have qc : Blk w9 (w8.heap.size) 27 _ := Blk.same (by first | exact Blk.new _ _ _ | exact (Blk.new _ _ _).alloc _) hs9; have qc0 := qc.cell 0; have qc1 := qc.cell 1; have qc2 := qc.frozen 0; have qc3 := qc.frozen 1)); (try (have qd : Blk w9 (w8.heap.size + 1) 27 _ := Blk.same (by first | exact Blk.new2 _ _ _ _) hs9; have qd0 := qd.cell 0; have qd1 := qd.cell 1; have qd2 := qd.frozen 0; have qd3 := qd.frozen 1))))
    all_goals go_wp2
    all_goals go_meet
    all_goals have hO8 : OwnG w8 w7.heap.size ⟨nsB, A3, n3, c3, rsB, A4, n4, c4⟩ := O8.out.base (by first | exact Nat.le_refl _ | (simp; done) | (simp; omega))
    all_goals have hO9 : OwnG w9 w8.heap.size ⟨nsD, A7, n7, c7, rsD, A8, n8, c8⟩ := O9.out.base (by first | exact Nat.le_refl _ | (simp; done) | (simp; omega))
    all_goals have hs89 : Same w8 w9 := by first | exact hs9 | exact ((Upd.refl (fun _ => False) w8).alloc _).same hs9 | exact (((Upd.refl (fun _ => False) w8).alloc _).alloc _).same hs9
    all_goals have HP9 : PairS w7 w9 ⟨nsB, A3, n3, c3, rsB, A4, n4, c4⟩ ⟨nsD, A7, n7, c7, rsD, A8, n8, c8⟩ := ⟨hO8.same hs89, hO9.base hz8, hsa9⟩
    all_goals refine PairS.fin (ga := ⟨nsB, A3, n3, c3, rsB, A4, n4, c4⟩) (gb := ⟨nsD, A7, n7, c7, rsD, A8, n8, c8⟩) ?_ ?_ ?_ D8 D9 P8 (fun k h1 h2 => by have h3 := (hO8.blk h2).2; have h4 := (hO9.blk h1).1; omega) ?_ ?_
    all_goals clear S3 B1 R1 S5 B5 R5 RA5 C5 S7 B7 C7 D7 R7 RA7 RC7 Z1 ZA DA DC RA RC D8 D9 O8 O9 P8 P9
    all_goals first
      | (with_reducible exact (HP9.alloc _).alloc _)
      | ((with_reducible refine (HP9.put2 qa' ?_ _ _).alloc _) <;> omega)
      | ((with_reducible refine (HP9.put2 qb' ?_ _ _).alloc _) <;> omega)
      | ((with_reducible refine (HP9.put2 qc ?_ _ _).alloc _) <;> omega)
      | ((with_reducible refine (HP9.put2 qd ?_ _ _).alloc _) <;> omega)
      | ((with_reducible refine (HP9.put2 qa' ?_ _ _).put2 (qb'.far2 ?_ _ _) ?_ _ _) <;> omega)
      | ((with_reducible refine (HP9.put2 qa' ?_ _ _).put2 (qc.far2 ?_ _ _) ?_ _ _) <;> omega)
      | ((with_reducible refine (HP9.put2 qa' ?_ _ _).put2 (qd.far2 ?_ _ _) ?_ _ _) <;> omega)
      | ((with_reducible refine (HP9.put2 qb' ?_ _ _).put2 (qa'.far2 ?_ _ _) ?_ _ _) <;> omega)
      | ((with_reducible refine (HP9.put2 qb' ?_ _ _).put2 (qc.far2 ?_ _ _) ?_ _ _) <;> omega)
      | ((with_reducible refine (HP9.put2 qb' ?_ _ _).put2 (qd.far2 ?_ _ _) ?_ _ _) <;> omega)
      | ((with_reducible refine (HP9.put2 qc ?_ _ _).put2 (qa'.far2 ?_ _ _) ?_ _ _) <;> omega)
      | ((with_reducible refine (HP9.put2 qc ?_ _ _).put2 (qb'.far2 ?_ _ _) ?_ _ _) <;> omega)
      | ((with_reducible refine (HP9.put2 qc ?_ _ _).put2 (qd.far2 ?_ _ _) ?_ _ _) <;> omega)
      | ((with_reducible refine (HP9.put2 qd ?_ _ _).put2 (qa'.far2 ?_ _ _) ?_ _ _) <;> omega)
      | ((with_reducible refine (HP9.put2 qd ?_ _ _).put2 (qb'.far2 ?_ _ _) ?_ _ _) <;> omega)
      | ((with_reducible refine (HP9.put2 qd ?_ _ _).put2 (qc.far2 ?_ _ _) ?_ _ _) <;> omega)
      | (with_reducible exact Blk.new _ _ _)
      | (with_reducible exact (Blk.new _ _ _).alloc _)
      | (with_reducible exact Blk.new2 _ _ _ _)
      | (with_reducible exact (qa'.two _ _).alloc _)
      | ((with_reducible refine (qa'.two _ _).far2 ?_ _ _) <;> omega)
      | ((with_reducible refine (qa'.far2 ?_ _ _).two _ _) <;> omega)
      | (with_reducible exact (qb'.two _ _).alloc _)
      | ((with_reducible refine (qb'.two _ _).far2 ?_ _ _) <;> omega)
      | ((with_reducible refine (qb'.far2 ?_ _ _).two _ _) <;> omega)
      | (with_reducible exact (qc.two _ _).alloc _)
      | ((with_reducible refine (qc.two _ _).far2 ?_ _ _) <;> omega)
      | ((with_reducible refine (qc.far2 ?_ _ _).two _ _) <;> omega)
      | (with_reducible exact (qd.two _ _).alloc _)
      | ((with_reducible refine (qd.two _ _).far2 ?_ _ _) <;> omega)
      | ((with_reducible refine (qd.far2 ?_ _ _).two _ _) <;> omega)
      | (with_reducible exact Blk.newS _ _ _ _ _ _ _)
      | omega
      | (simp; done)
      | (simp; omega)
  case rest =>
    obtain ⟨b5, b6, ga, gb, rfl, rfl, KB5, KB6, DGA, DGB, KO, KA, KR, KS, KN⟩ := hcut
    clear tok1 h00
    have HSEP := Lib.hid (KO.out.sep KB5.out)
    have HSEP6 := Lib.hid (KO.out.ne_box KB6.out)
    have HZA := Lib.hid (gsized_canon RA7.out KO.out.rd ZA.out DGA.out)
    have HLN := Lib.hid KO.out.rd.nodes.len
    have HLR := Lib.hid KO.out.rd.rels.len
    have KM0 := Lib.hid (MkN.start KO.out KB5.out)
    obtain ⟨nsB, A3, n3, c3, rsB, A4, n4, c4⟩ := ga
    simp only at HLN HLR
    have hn3 : n3 * 56 ≤ 140737488351232 := HZA.out.nN
    have hn4 : n4 * 64 ≤ 140737488351232 := HZA.out.nR
    have p0 : wc.cell? ⟨b5, 0, none⟩ = some (.slice A3 n3 c3) := KB5.out.cell 0
    have hz7 := KS.out.size
    obtain ⟨B, hBB⟩ : ∃ B, w7.heap.size = B := ⟨_, rfl⟩
    rw [hBB] at hz7 KM0 KO KN
    have HBB := Lib.hid hBB
    clear hBB
    go_wp2_with fail
    clear p0
    go_loopg [27] n3 (fun gh s27 wr => ∃ i : Nat, n3 - i = gh ∧ i ≤ n3 ∧ s27 = .int .i64 i ∧ Hid (MkN wc B b5 ⟨nsB, A3, n3, c3, rsB, A4, n4, c4⟩ i wr))
    case atStart => exact ⟨0, rfl, Nat.zero_le _, rfl, KM0⟩
    case round =>
      clear KM0
      obtain ⟨i, rfl, hi, rfl, KM⟩ := hrel
      have p0 : wr.cell? ⟨b5, 0, none⟩ = some (.slice A3 n3 c3) := KM.out.s.box.cell 0
      have hzr := KM.out.s.upd.size
      by_cases hlt : i < n3
      · obtain ⟨x, hx⟩ : ∃ x, nsB[i]? = some x := ⟨_, List.getElem?_eq_getElem (by rw [HLN.out]; exact hlt)⟩
        have hxm : x ∈ nsB := List.mem_of_getElem? hx
        obtain ⟨l1, hl1, hrow⟩ := KM.out.row
        simp only at hrow
        rw [nd_drop hx] at hrow
        obtain ⟨h, rfl, hB, hh, _, hAx, -, -, -⟩ := own_nd hrow hl1
        have HXO := Lib.hid (KM.out.s.rest x (by simp only; rw [nd_drop hx]; simp))
        have HXS := Lib.hid (HZA.out.ns x hxm)
        have HXF := Lib.hid (KA.out.nprops x hxm)
        have HXN := Lib.hid (HSEP.out.n1 x hxm)
        have HXP := Lib.hid (HSEP.out.np x hxm)
        have HXL := Lib.hid (HSEP.out.lp x hxm)
        have HX := Lib.hid hx
        have HL1 := Lib.hid hl1
        have HROW := Lib.hid hrow
        obtain ⟨xid, xlab, AL, nL, cL, xps, AP, nP, cP⟩ := x
        have e1 : wr.cell? ⟨h, i * 3 + 1, none⟩ = some (.slice AL nL cL) := hAx.2.1
        have k1 : (0 : Int) ≤ (i : Int) := by omega
        have k2 : (i : Int) < (n3 : Int) := by omega
        have hnL : nL * 16 ≤ 140737488351232 := HXS.out.nL
        have hnP : nP * 96 ≤ 140737488351232 := HXS.out.pro.n
        have HL0 : Hid (wr.ownsRow B 9 1 (.slice AL nL cL) nL (xlab.map Value.string)) := Lib.hid HXO.out.lab
        have HNH : Hid (∀ b, (Value.slice AL nL cL).ownBlock = some b → b ≠ h) := Lib.hid fun b hb e => (HXN.out b (.inl hb)).1 (by rw [e]; rfl)
        have HNP : Hid (∀ b, ((Value.slice AP nP cP).ownBlock = some b ∨ ∃ p ∈ xps, p.blocks b) → b ≠ h ∧ (Value.slice AL nL cL).ownBlock ≠ some b) := Lib.hid fun b hb => ⟨fun e => (HXN.out b (.inr hb)).1 (by rw [e]; rfl), fun hl => by
          rcases hb with hb | ⟨p, hp, hb⟩
          · exact HXL.out b hl hb
          · exact HXF.out.2 b hl p hp hb⟩
        clear hx hxm hl1 hrow hAx
        go_wp2_with fail
        clear e1 p0
        obtain ⟨wo, rfl⟩ : ∃ wo : World, wo = wr := ⟨_, rfl⟩
        go_loopg [39] nL (fun gh s39 wr => ∃ k : Nat, nL - k = gh ∧ k ≤ nL ∧ s39 = .int .i64 k ∧ Hid (∃ xs, wr.ownsRow B 9 1 (.slice AL nL cL) nL xs) ∧ Hid (Upd (fun b => (Value.slice AL nL cL).ownBlock = some b) wo wr))
        case atStart => exact ⟨0, rfl, Nat.zero_le _, rfl, Lib.hid ⟨_, HL0.out⟩, Lib.hid (Upd.refl _ _)⟩
        case round =>
          obtain ⟨k, rfl, hk, rfl, KQ, KU⟩ := hrel
          have hzq := KU.out.size
          have HRr := Lib.hid (own_upd HROW.out KU.out fun b hb hs => HNH.out b hs (by injection hb with hb; exact hb.symm))
          obtain ⟨_, hA0, _, _, _, hA1, hF1, _, _⟩ := own_nd HRr.out HL1.out
          injection hA0 with hA0
          injection hA0 with hA0 _ _
          subst hA0
          have e1 : wr.cell? ⟨h, i * 3 + 1, none⟩ = some (.slice AL nL cL) := hA1.2.1
          by_cases hkl : k < nL
          · obtain ⟨gi, rfl, hBi, hgi, ⟨u, r0⟩, f0, t0⟩ := own_put KQ.out hkl
            have HT0 := Lib.hid (t0 (.string ⟨#[42]⟩))
            have HU0 := Lib.hid (KU.out.trans ((Upd.refl (fun b => b = gi) wr).put1 (i := k) (.string ⟨#[42]⟩)) fun b _ hb => by rw [hb]; rfl)
            have k3 : (0 : Int) ≤ (k : Int) := by omega
            have k4 : (k : Int) < (nL : Int) := by omega
            clear t0 hA1 hF1
            go_wp2
            go_roundg (nL - (k + 1))
            case measure => omega
            case rel => exact ⟨k + 1, rfl, by omega, by go_num, HT0, HU0⟩
          · obtain rfl : k = nL := by omega
            obtain ⟨xs, hxs⟩ := KQ.out
            have HXS1 := Lib.hid hxs
            clear hxs KQ hkl hk hA1 hF1
            obtain ⟨w1, rfl⟩ : ∃ w1 : World, w1 = wr := ⟨_, rfl⟩
            clear e1
            have HNN := Lib.hid (show (Value.slice AL k cL).ownBlock ≠ some h from fun e => HNH.out h e rfl)
            go_upto_region 15 with fail
            have hsa := (Upd.refl (fun _ => False) w1).alloc (.cells #[.string ⟨#[42]⟩, .string ⟨#[42]⟩] 9)
            have HRa := Lib.hid (own_same HRr.out hsa)
            have HUa := Lib.hid (KU.out.same hsa)
            have hza := hsa.size
            have e1 : w1.cell? ⟨h, i * 3 + 1, none⟩ = some (.slice AL k cL) := (own_nd HRr.out HL1.out).elim fun g hg => by
              obtain ⟨hA0, _, _, _, hA1, _⟩ := hg
              injection hA0 with hA0
              injection hA0 with hA0 _ _
              subst hA0
              exact hA1.2.1
            clear hsa
            go_upto_region 16 with (at_builtin; go_must (refine wpList_app rfl (.tmp 53) (.tmp 54) _ _ rfl B 9 1 16 _ Tryz.underlying37 info_string rfl (.slice AL k cL) k _ rfl (HXS1.out.alloc _) rfl (src_row Tryz.underlying37 (Row.of_blk (k := 1) (n := 2) (Blk.new _ _ _) rfl (Nat.le_refl _) (by simp [maxLen])) (by simp [Value.oneCell'])) (by unfold maxLen; omega) (by omega) (by simp; omega) ?_); intro v9 w9 hg; have hsz9 := hg.upd.size; have hR9 := own_upd HRa.out hg.upd (fun b hb hh => HNN.out (by rw [hh]; exact hb.symm ▸ rfl)); obtain ⟨_, hA9, _, _, _, hC9, hF9, _, _⟩ := own_nd hR9 HL1.out; injection hA9 with hA9; injection hA9 with hA9 _ _; subst hA9; clear e1; have e1 : w9.cell? ⟨h, i * 3 + 1, none⟩ = some (.slice AL k cL) := hC9.2.1; have f1 : w9.frozen? ⟨h, i * 3 + 1, none⟩ = false := hF9.2.1; obtain ⟨A9, c9, rfl⟩ := own_form hg.own; have HU9 := Lib.hid (HUa.out.trans hg.upd fun b _ hb => hb); have HR9 := Lib.hid hR9; clear hg hC9 hF9 hR9)
            have HRp : Hid ((w9.setCell ⟨h, i * 3 + 1, none⟩ (.slice A9 (k + 2) c9)).ownsRow B 40 3 (.slice (some ⟨h, 0, none⟩) n3 c3) n3 ((l1 ++ (⟨xid, xlab, A9, k + 2, c9, xps, AP, nP, cP⟩ : ND) :: nsB.drop (i + 1)).flatMap ND.cells)) := Lib.hid (own_ndc (j := 1) HR9.out HL1.out (by omega) rfl)
            have HUp : Hid (Upd (fun b => b = h ∨ (Value.slice AL k cL).ownBlock = some b) wo (w9.setCell ⟨h, i * 3 + 1, none⟩ (.slice A9 (k + 2) c9))) := Lib.hid ((HU9.out.mono fun b _ hb => .inr hb).trans ((Upd.refl (fun b => b = h) w9).put1 (i := i * 3 + 1) (.slice A9 (k + 2) c9)) fun b _ hb => .inl hb)
            have HPp : Hid (OwnPs (w9.setCell ⟨h, i * 3 + 1, none⟩ (.slice A9 (k + 2) c9)) B (.slice AP nP cP) xps) := Lib.hid (HXO.out.pro.far HUp.out fun b hb hpb => by
              rcases hb with hb | hb
              · exact (HNP.out b hpb).1 hb
              · exact (HNP.out b hpb).2 hb)
            have hzp := HUp.out.size
            clear e1 f1 hza hsz9 HU9 HR9 HRa HUa HXS1 HRr KU HL0 HNN
            generalize w9.setCell ⟨h, i * 3 + 1, none⟩ (.slice A9 (k + 2) c9) = wp at *
            obtain ⟨nL2, hnL2⟩ : ∃ nL2, k + 2 = nL2 := ⟨_, rfl⟩
            rw [hnL2] at HRp
            clear hnL2
            have KP0 := Lib.hid (PMk.start HPp.out)
            have HPL := Lib.hid (show xps.length = nP from HPp.out.rd.len)
            have e2 : wp.cell? ⟨h, i * 3 + 2, none⟩ = some (.slice AP nP cP) := (own_nd HRp.out HL1.out).elim fun g hg => by
              obtain ⟨hA0, _, _, _, hA1, _⟩ := hg
              injection hA0 with hA0
              injection hA0 with hA0 _ _
              subst hA0
              exact hA1.2.2
            go_wp2_with fail
            clear e2
            go_loopg [63] nP (fun gh s63 wr => ∃ j : Nat, nP - j = gh ∧ j ≤ nP ∧ s63 = .int .i64 j ∧ Hid (PMk wp B AP nP cP xps j wr))
            case atStart => exact ⟨0, rfl, Nat.zero_le _, rfl, KP0⟩
            case round =>
              clear KP0
              obtain ⟨j, rfl, hj, rfl, KP⟩ := hrel
              have hzq := KP.out.upd.size
              have HRr := Lib.hid (own_upd HRp.out KP.out.upd fun b hb hs => (HNP.out b hs).1 (by injection hb with hb; exact hb.symm))
              have e2 : wr.cell? ⟨h, i * 3 + 2, none⟩ = some (.slice AP nP cP) := (own_nd HRr.out HL1.out).elim fun g hg => by
                obtain ⟨hA0, _, _, _, hA1, _⟩ := hg
                injection hA0 with hA0
                injection hA0 with hA0 _ _
                subst hA0
                exact hA1.2.2
              obtain ⟨lp, hlp, hrp⟩ := KP.out.row
              by_cases hjl : j < nP
              · obtain ⟨q, hq⟩ : ∃ q, xps[j]? = some q := ⟨_, List.getElem?_eq_getElem (by rw [HPL.out]; exact hjl)⟩
                have hqm : q ∈ xps := List.mem_of_getElem? hq
                rw [ps_drop hq] at hrp
                obtain ⟨h2, _, hA2, _, _, -, -, -, -⟩ := own_cellK (i := j * 6) hrp (by omega)
                have HA2 := Lib.hid hA2
                subst hA2
                have HQ := Lib.hid hq
                have HQO := Lib.hid (KP.out.rest q (by rw [ps_drop hq]; simp))
                have HQS := Lib.hid (HXS.out.pro.each q hqm)
                have HRP := Lib.hid hrp
                have HLP := Lib.hid hlp
                have k3 : (0 : Int) ≤ (j : Int) := by omega
                have k4 : (j : Int) < (nP : Int) := by omega
                clear hq hqm hrp hlp
                go_wp2_with fail
                refine (mark_spec wr HRP.out HLP.out HQO.out HQS.out.s1 HQS.out.s2 (by omega)).mono ?_
                rintro e w2 ⟨rfl, y, hy, hu⟩
                have KPn := Lib.hid (KP.out.next HXF.out.1 HXP.out HQ.out rfl HLP.out hy hu)
                clear hy hu e2
                go_wp2_with fail
                go_roundg (nP - (j + 1))
                case measure => omega
                case rel => exact ⟨j + 1, rfl, by omega, by go_num, KPn⟩
              · obtain rfl : j = nP := by omega
                have hrp' : wr.ownsRow B 45 6 (.slice AP j cP) j (lp.flatMap PR.cells) := by
                  have h9 := hrp
                  rw [List.drop_of_length_le (by rw [HPL.out]; exact Nat.le_refl _), List.append_nil] at h9
                  exact h9
                have HRP := Lib.hid hrp'
                have HU7 : Hid (Upd (fun b => b = h ∨ ND.blocks ⟨xid, xlab, AL, k, cL, xps, AP, j, cP⟩ b) wo wr) := Lib.hid ((HUp.out.mono fun b _ hb => hb.elim .inl fun hb => .inr (.inl hb)).trans KP.out.upd fun b _ hb => .inr (.inr hb))
                have HNA : Hid ((Value.slice AP j cP).ownBlock ≠ some h) := Lib.hid fun e => (HNP.out h (.inl e)).1 rfl
                clear hrp hrp' hlp hjl hj KP
                obtain ⟨w1, rfl⟩ : ∃ w1 : World, w1 = wr := ⟨_, rfl⟩
                go_upto_region 21 with fail
                have hsa := (Upd.refl (fun _ => False) w1).alloc (.cells starP.cells.toArray 45)
                have HRa := Lib.hid (own_same HRr.out hsa)
                have HUa := Lib.hid (HU7.out.same hsa)
                have hza := hsa.size
                have HNa := Lib.hid (HRP.out.alloc (.cells starP.cells.toArray 45))
                clear hsa
                go_upto_region 22 with (at_builtin; go_must (refine wpList_app rfl (.tmp 78) (.tmp 80) _ _ rfl B 45 6 96 _ Tryz.underlying38 info_Prop rfl (.slice AP j cP) j _ rfl HNa.out rfl (src_row Tryz.underlying38 (Row.pr w1 starP) (PR.one _)) (by unfold maxLen; omega) (by omega) (by simp; omega) ?_); intro v9 w9 hg; have hsz9 := hg.upd.size; have hR9 := own_upd HRa.out hg.upd (fun b hb hh => HNA.out (by rw [hh]; exact hb.symm ▸ rfl)); obtain ⟨_, hA9, _, _, _, hC9, hF9, _, _⟩ := own_nd hR9 HL1.out; injection hA9 with hA9; injection hA9 with hA9 _ _; subst hA9; clear e2; have e2 : w9.cell? ⟨h, i * 3 + 2, none⟩ = some (.slice AP j cP) := hC9.2.2; have f2 : w9.frozen? ⟨h, i * 3 + 2, none⟩ = false := hF9.2.2; obtain ⟨A9, c9, rfl⟩ := own_form hg.own; have HU9 := Lib.hid (HUa.out.trans hg.upd fun b _ hb => .inr (.inr (.inl hb))); have HR9 := Lib.hid hR9; clear hg hC9 hF9 hR9)
                have HRq := Lib.hid (own_ndc (j := 2) (y := ⟨xid, xlab, _, _, _, xps, A9, j + 1, c9⟩) HR9.out HL1.out (by omega) rfl)
                have HUq := Lib.hid (HU9.out.trans ((Upd.refl (fun b => b = h) w9).put1 (i := i * 3 + 2) (.slice A9 (j + 1) c9)) fun b _ hb => .inl hb)
                clear e2 f2 hza hsz9 HU9 HR9 HRa HUa HNa HRP HNA HU7 HRr
                generalize w9.setCell ⟨h, i * 3 + 2, none⟩ (.slice A9 (j + 1) c9) = wq at *
                have e0 : wq.cell? ⟨h, i * 3, none⟩ = some (.int .i64 xid) ∧ wq.frozen? ⟨h, i * 3, none⟩ = false := (own_nd HRq.out HL1.out).elim fun g hg => by
                  obtain ⟨hA0, _, _, _, hA1, hF1, _⟩ := hg
                  injection hA0 with hA0
                  injection hA0 with hA0 _ _
                  subst hA0
                  exact ⟨hA1.1, hF1.1⟩
                obtain ⟨e0, f0⟩ := e0
                have HRz := Lib.hid (own_ndc (j := 0) (y := ⟨-7, xlab, _, _, _, xps, A9, j + 1, c9⟩) HRq.out HL1.out (by omega) rfl)
                have HUz := Lib.hid (HUq.out.trans ((Upd.refl (fun b => b = h) wq).put1 (i := i * 3) (.int .i64 (-7))) fun b _ hb => .inl hb)
                have KMn := Lib.hid (KM.out.next HSEP.out KA.out HX.out HL1.out HRz.out (HUz.out.mono fun b _ hb => hb.elim (fun hb => .inl (by rw [hb]; rfl)) .inr))
                clear HRz HUz HRq HUq
                go_wp2
                go_roundg (n3 - (i + 1))
                case measure => omega
                case rel => exact ⟨i + 1, rfl, by omega, by go_num, KMn⟩
      · obtain rfl : i = n3 := by omega
        have KR0 := Lib.hid (MkR.start KM.out HLR.out)
        have p1 : wr.cell? ⟨b5, 1, none⟩ = some (.slice A4 n4 c4) := KM.out.s.box.cell 1
        clear p0 KM hlt hi
        obtain ⟨wo, rfl⟩ : ∃ wo : World, wo = wr := ⟨_, rfl⟩
        go_wp2_with fail
        clear p1
        go_loopg [91] n4 (fun gh s91 wr => ∃ m : Nat, n4 - m = gh ∧ m ≤ n4 ∧ s91 = .int .i64 m ∧ Hid (MkR wc B b5 ⟨nsB, A3, i, c3, rsB, A4, n4, c4⟩ m wr))
        case atStart => exact ⟨0, rfl, Nat.zero_le _, rfl, KR0⟩
        case round =>
          clear KR0
          obtain ⟨m, rfl, hm, rfl, KM⟩ := hrel
          have p1 : wr.cell? ⟨b5, 1, none⟩ = some (.slice A4 n4 c4) := KM.out.box.cell 1
          have hzr := KM.out.upd.size
          by_cases hlt : m < n4
          · obtain ⟨x, hx⟩ : ∃ x, rsB[m]? = some x := ⟨_, List.getElem?_eq_getElem (by rw [HLR.out]; exact hlt)⟩
            have hxm : x ∈ rsB := List.mem_of_getElem? hx
            obtain ⟨l1, hl1, hrow⟩ := KM.out.row
            simp only at hrow
            rw [rl_drop hx] at hrow
            obtain ⟨h, rfl, hB, hh, _, hAx, -, -⟩ := own_rl hrow hl1
            have HXO := Lib.hid (KM.out.rest x (by simp only; rw [rl_drop hx]; simp))
            have HXS := Lib.hid (HZA.out.rs x hxm)
            have HXF := Lib.hid (KA.out.rprops x hxm)
            have HXN := Lib.hid (HSEP.out.r1 x hxm)
            have HXP := Lib.hid (HSEP.out.rp x hxm)
            have HX := Lib.hid hx
            have HL1 := Lib.hid hl1
            have HROW := Lib.hid hrow
            obtain ⟨xid, xty, xsr, xds, xps, AP, nP, cP⟩ := x
            have e2 : wr.cell? ⟨h, m * 5 + 4, none⟩ = some (.slice AP nP cP) := hAx.2.2.2.2
            have k1 : (0 : Int) ≤ (m : Int) := by omega
            have k2 : (m : Int) < (n4 : Int) := by omega
            have hnP : nP * 96 ≤ 140737488351232 := HXS.out.pro.n
            have HNP : Hid (∀ b, ((Value.slice AP nP cP).ownBlock = some b ∨ ∃ p ∈ xps, p.blocks b) → b ≠ h) := Lib.hid fun b hb e => (HXN.out b hb).2 (by rw [e]; rfl)
            have KP0 := Lib.hid (PMk.start HXO.out.pro)
            have HPL := Lib.hid (show xps.length = nP from HXO.out.pro.rd.len)
            clear hx hxm hl1 hrow hAx
            go_wp2_with fail
            clear e2 p1
            obtain ⟨wn, rfl⟩ : ∃ wn : World, wn = wr := ⟨_, rfl⟩
            go_loopg [103] nP (fun gh s103 wr => ∃ j : Nat, nP - j = gh ∧ j ≤ nP ∧ s103 = .int .i64 j ∧ Hid (PMk wn B AP nP cP xps j wr))
            case atStart => exact ⟨0, rfl, Nat.zero_le _, rfl, KP0⟩
            case round =>
              clear KP0
              obtain ⟨j, rfl, hj, rfl, KP⟩ := hrel
              have hzq := KP.out.upd.size
              have HRr := Lib.hid (own_upd HROW.out KP.out.upd fun b hb hs => HNP.out b hs (by injection hb with hb; exact hb.symm))
              have e2 : wr.cell? ⟨h, m * 5 + 4, none⟩ = some (.slice AP nP cP) := (own_rl HRr.out HL1.out).elim fun g hg => by
                obtain ⟨hA0, _, _, _, hA1, _⟩ := hg
                injection hA0 with hA0
                injection hA0 with hA0 _ _
                subst hA0
                exact hA1.2.2.2.2
              obtain ⟨lp, hlp, hrp⟩ := KP.out.row
              by_cases hjl : j < nP
              · obtain ⟨q, hq⟩ : ∃ q, xps[j]? = some q := ⟨_, List.getElem?_eq_getElem (by rw [HPL.out]; exact hjl)⟩
                have hqm : q ∈ xps := List.mem_of_getElem? hq
                rw [ps_drop hq] at hrp
                obtain ⟨h2, _, hA2, _, _, -, -, -, -⟩ := own_cellK (i := j * 6) hrp (by omega)
                subst hA2
                have HQ := Lib.hid hq
                have HQO := Lib.hid (KP.out.rest q (by rw [ps_drop hq]; simp))
                have HQS := Lib.hid (HXS.out.pro.each q hqm)
                have HRP := Lib.hid hrp
                have HLP := Lib.hid hlp
                have k3 : (0 : Int) ≤ (j : Int) := by omega
                have k4 : (j : Int) < (nP : Int) := by omega
                clear hq hqm hrp hlp
                go_wp2_with fail
                refine (mark_spec wr HRP.out HLP.out HQO.out HQS.out.s1 HQS.out.s2 (by omega)).mono ?_
                rintro e w2 ⟨rfl, y, hy, hu⟩
                have KPn := Lib.hid (KP.out.next HXF.out HXP.out HQ.out rfl HLP.out hy hu)
                clear hy hu e2
                go_wp2_with fail
                go_roundg (nP - (j + 1))
                case measure => omega
                case rel => exact ⟨j + 1, rfl, by omega, by go_num, KPn⟩
              · obtain rfl : j = nP := by omega
                have hrp' : wr.ownsRow B 45 6 (.slice AP j cP) j (lp.flatMap PR.cells) := by
                  have h9 := hrp
                  rw [List.drop_of_length_le (by rw [HPL.out]; exact Nat.le_refl _), List.append_nil] at h9
                  exact h9
                have HRP := Lib.hid hrp'
                have HU7 : Hid (Upd (fun b => b = h ∨ RL.blocks ⟨xid, xty, xsr, xds, xps, AP, j, cP⟩ b) wn wr) := Lib.hid (KP.out.upd.mono fun b _ hb => .inr hb)
                have HNA : Hid ((Value.slice AP j cP).ownBlock ≠ some h) := Lib.hid fun e => HNP.out h (.inl e) rfl
                clear hrp hrp' hlp hjl hj KP
                obtain ⟨w1, rfl⟩ : ∃ w1 : World, w1 = wr := ⟨_, rfl⟩
                go_upto_region 33 with fail
                have hsa := (Upd.refl (fun _ => False) w1).alloc (.cells starP.cells.toArray 45)
                have HRa := Lib.hid (own_same HRr.out hsa)
                have HUa := Lib.hid (HU7.out.same hsa)
                have hza := hsa.size
                have HNa := Lib.hid (HRP.out.alloc (.cells starP.cells.toArray 45))
                clear hsa
                go_upto_region 34 with (at_builtin; go_must (refine wpList_app rfl (.tmp 118) (.tmp 120) _ _ rfl B 45 6 96 _ Tryz.underlying38 info_Prop rfl (.slice AP j cP) j _ rfl HNa.out rfl (src_row Tryz.underlying38 (Row.pr w1 starP) (PR.one _)) (by unfold maxLen; omega) (by omega) (by simp; omega) ?_); intro v9 w9 hg; have hsz9 := hg.upd.size; have hR9 := own_upd HRa.out hg.upd (fun b hb hh => HNA.out (by rw [hh]; exact hb.symm ▸ rfl)); obtain ⟨_, hA9, _, _, _, hC9, hF9, _⟩ := own_rl hR9 HL1.out; injection hA9 with hA9; injection hA9 with hA9 _ _; subst hA9; clear e2; have e2 : w9.cell? ⟨h, m * 5 + 4, none⟩ = some (.slice AP j cP) := hC9.2.2.2.2; have f2 : w9.frozen? ⟨h, m * 5 + 4, none⟩ = false := hF9.2.2.2.2; obtain ⟨A9, c9, rfl⟩ := own_form hg.own; have HU9 := Lib.hid (HUa.out.trans hg.upd fun b _ hb => .inr (.inl hb)); have HR9 := Lib.hid hR9; clear hg hC9 hF9 hR9)
                have HRq := Lib.hid (own_rlc (j := 4) (y := ⟨xid, xty, xsr, xds, xps, A9, j + 1, c9⟩) HR9.out HL1.out (by omega) rfl)
                have HUq := Lib.hid (HU9.out.trans ((Upd.refl (fun b => b = h) w9).put1 (i := m * 5 + 4) (.slice A9 (j + 1) c9)) fun b _ hb => .inl hb)
                clear e2 f2 hza hsz9 HU9 HR9 HRa HUa HNa HRP HNA HU7 HRr
                generalize w9.setCell ⟨h, m * 5 + 4, none⟩ (.slice A9 (j + 1) c9) = wq at *
                have e0 : wq.cell? ⟨h, m * 5 + 1, none⟩ = some (.string xty) ∧ wq.frozen? ⟨h, m * 5 + 1, none⟩ = false := (own_rl HRq.out HL1.out).elim fun g hg => by
                  obtain ⟨hA0, _, _, _, hA1, hF1, _⟩ := hg
                  injection hA0 with hA0
                  injection hA0 with hA0 _ _
                  subst hA0
                  exact ⟨hA1.2.1, hF1.2.1⟩
                obtain ⟨e0, f0⟩ := e0
                have HRz := Lib.hid (own_rlc (j := 1) (y := ⟨xid, ⟨#[42]⟩, xsr, xds, xps, A9, j + 1, c9⟩) HRq.out HL1.out (by omega) rfl)
                have HUz := Lib.hid (HUq.out.trans ((Upd.refl (fun b => b = h) wq).put1 (i := m * 5 + 1) (.string ⟨#[42]⟩)) fun b _ hb => .inl hb)
                have KMn := Lib.hid (KM.out.next HSEP.out KA.out HX.out HL1.out HRz.out (HUz.out.mono fun b _ hb => hb.elim (fun hb => .inl (by rw [hb]; rfl)) .inr))
                clear HRz HUz HRq HUq
                go_wp2
                go_roundg (n4 - (m + 1))
                case measure => omega
                case rel => exact ⟨m + 1, rfl, by omega, by go_num, KMn⟩
          · obtain rfl : m = n4 := by omega
            obtain ⟨ln, hn⟩ := KM.out.nodes
            obtain ⟨lr, hlr, hr⟩ := KM.out.row
            simp only at hr hn
            rw [List.drop_of_length_le (by rw [HLR.out]; exact Nat.le_refl _), List.append_nil] at hr
            have HN := Lib.hid hn
            have HR := Lib.hid hr
            have KB := Lib.hid KM.out.box
            have KU := Lib.hid KM.out.upd
            have HB5 : Hid (¬ GR.blk ⟨nsB, A3, i, c3, rsB, A4, m, c4⟩ b5) := Lib.hid HSEP.out.bx
            clear hn hr hlr p1 hm hlt KM
            obtain ⟨w1, rfl⟩ : ∃ w1 : World, w1 = wr := ⟨_, rfl⟩
            have p0 : w1.cell? ⟨b5, 0, none⟩ = some (.slice A3 i c3) := KB.out.cell 0
            go_upto_region 36 with fail
            have hsa := (Upd.refl (fun _ => False) w1).alloc (.cells starN.cells.toArray 40)
            have HRa := Lib.hid (own_same HR.out hsa)
            have KBa := Lib.hid (KB.out.same hsa)
            have HUa := Lib.hid (KU.out.same hsa)
            have hza := hsa.size
            have HNa := Lib.hid (HN.out.alloc (.cells starN.cells.toArray 40))
            clear hsa
            go_upto_region 37 with (at_builtin; go_must (refine wpList_app rfl (.tmp 129) (.tmp 131) _ _ rfl B 40 3 56 _ Tryz.underlying24 info_Node rfl (.slice A3 i c3) i _ rfl HNa.out rfl (src_row Tryz.underlying24 (Row.nd w1 starN) (ND.one _)) (by unfold maxLen; omega) (by omega) (by simp; omega) ?_); intro v9 w9 hg; have hsz9 := hg.upd.size; have hR9 := own_type HRa.out hg.upd (fun b _ hb => own_ofT HNa.out hb) (by decide); have hB9 := KBa.out.upd hg.upd (fun hb => HB5.out (.inl hb)); clear p0; have p0 : w9.cell? ⟨b5, 0, none⟩ = some (.slice A3 i c3) := hB9.cell 0; have f0 : w9.frozen? ⟨b5, 0, none⟩ = false := hB9.frozen 0; obtain ⟨A9, c9, rfl⟩ := own_form hg.own; have HU9 := Lib.hid (HUa.out.trans hg.upd fun b _ hb => .inl hb); have HR9 := Lib.hid hR9; have HB9 := Lib.hid hB9; clear hg hR9 hB9)
            have HRp := Lib.hid (own_type HR9.out ((Upd.refl (fun b => b = b5) w9).put1 (i := 0) (.slice A9 (i + 1) c9)) (fun b _ hb => by rw [hb]; exact ⟨_, HB9.out⟩) (by decide))
            have HBp := Lib.hid (HB9.out.put 0 (.slice A9 (i + 1) c9))
            have HUp : Hid (Upd (fun b => GR.blk ⟨nsB, A3, i, c3, rsB, A4, m, c4⟩ b ∨ b = b5) wc (w9.setCell ⟨b5, 0, none⟩ (.slice A9 (i + 1) c9))) := Lib.hid ((HU9.out.mono fun b _ hb => .inl hb).trans ((Upd.refl (fun b => b = b5) w9).put1 (i := 0) (.slice A9 (i + 1) c9)) fun b _ hb => .inr hb)
            have hzp := HUp.out.size
            clear p0 f0 hza hsz9 HU9 HR9 HB9 HRa HUa HNa KBa HN HR KB KU
            generalize w9.setCell ⟨b5, 0, none⟩ (.slice A9 (i + 1) c9) = wp at *
            have p1 : wp.cell? ⟨b5, 1, none⟩ = some (.slice A4 m c4) := HBp.out.cell 1
            have hsa := (Upd.refl (fun _ => False) wp).alloc (.cells starR.cells.toArray 47)
            have KBa := Lib.hid (HBp.out.same hsa)
            have HUa := Lib.hid (HUp.out.same hsa)
            have hza := hsa.size
            have HNa := Lib.hid (HRp.out.alloc (.cells starR.cells.toArray 47))
            clear hsa
            go_upto_region 38 with (at_builtin; go_must (refine wpList_app rfl (.tmp 135) (.tmp 137) _ _ rfl B 47 5 64 _ Tryz.underlying25 info_Rel rfl (.slice A4 m c4) m _ rfl HNa.out rfl (src_row Tryz.underlying25 (Row.rl wp starR) (RL.one _)) (by unfold maxLen; omega) (by omega) (by simp; omega) ?_); intro v9 w9 hg; have hsz9 := hg.upd.size; have hB9 := KBa.out.upd hg.upd (fun hb => HB5.out (.inr (.inl hb))); clear p1; have p1 : w9.cell? ⟨b5, 1, none⟩ = some (.slice A4 m c4) := hB9.cell 1; have f1 : w9.frozen? ⟨b5, 1, none⟩ = false := hB9.frozen 1; obtain ⟨A9, c9, rfl⟩ := own_form hg.own; have HU9 := Lib.hid (HUa.out.trans hg.upd fun b _ hb => .inl (.inr (.inl hb))); clear hg hB9)
            have HUq := Lib.hid (HU9.out.trans ((Upd.refl (fun b => b = b5) w9).put1 (i := 1) (.slice A9 (m + 1) c9)) fun b _ hb => .inr hb)
            clear p1 f1 hza hsz9 HU9 KBa HUa HNa HRp HBp HUp
            generalize w9.setCell ⟨b5, 1, none⟩ (.slice A9 (m + 1) c9) = wf at *
            have HSF : Hid (Same w7 wf) := Lib.hid (KS.out.trans HUq.out fun b hb hh => by
              have h1 := HBB.out
              rcases hh with hh | hh
              · have h2 := (KO.out.blk hh).1
                omega
              · have h2 := KN.out.1
                omega)
            have RB9 := Lib.hid (KR.out.upd HUq.out fun b hb hh => by
              rcases hh with hh | hh
              · exact hb.1 hh
              · exact hb.2 hh)
            have hb6 := KB6.out.upd HUq.out (by
              rintro (hh | hh)
              · exact HSEP6.out hh
              · exact KN.out.2 hh.symm)
            have D9 := D7.out.same HSF.out
            have C9 := Lib.hid (C7.out.same HSF.out)
            have B9 := Lib.hid (B7.out.same HSF.out)
            have p60 := hb6.cell 0
            have p61 := hb6.cell 1
            have p40 := D9.cell 0
            have p41 := D9.cell 1
            obtain ⟨nsD, A7, n7, c7, rsD, A8, n8, c8⟩ := gb
            simp only at p60 p61
            clear hb6 D9 hn3 hn4 hz7 hzp
            go_wp2_with fail
            refine (rsameG_spec wf ⟨nsD, A7, n7, c7, rsD, A8, n8, c8⟩ ⟨nsC, A5, n5, c5, rsC, A6, n6, c6⟩ RB9.out (RC7.out.same HSF.out) (r := true) (by rw [DGB.out, DC.out, DA.out]; exact (sameG_iff _ _).2 rfl)).mono ?_
            rintro e w2 ⟨rfl, hs2⟩
            have p30 := (C9.out.same hs2).cell 0
            have p31 := (C9.out.same hs2).cell 1
            have p10 := (B9.out.same hs2).cell 0
            have p11 := (B9.out.same hs2).cell 1
            have HS2 := Lib.hid (HSF.out.same hs2)
            clear p60 p61 p40 p41 hs2
            go_wp2_with fail
            refine (rsameG_spec w2 ⟨nsA, A1, n1, c1, rsA, A2, n2, c2⟩ ⟨ns, AN, nN, cN, rs, AR, nR, cR⟩ (RA7.out.same HS2.out) (R7.out.same HS2.out) (r := true) (by rw [DA.out]; exact (sameG_iff _ _).2 rfl)).mono ?_
            rintro e w3 ⟨rfl, hs3⟩
            have HS3 := Lib.hid (S7.out.same (HS2.out.same hs3))
            clear p30 p31 p10 p11 hs3
            go_wp2
            go_ret
            exact ⟨rfl, HS3.out⟩
end Go.Proofs.YtlnademnfnhbpaaGreat
