/- The walk of GraphIncident. -/
import Derived.Test.YtlnademnfnhbpaaGreatOpenG
import Derived.Test.YtlnademnfnhbpaaGreatGspk2
import Derived.Test.YtlnademnfnhbpaaGreatCopyG
import Derived.Test.YtlnademnfnhbpaaGreatDeg
import Derived.Test.YtlnademnfnhbpaaGreatOwn
namespace Go.Proofs.YtlnademnfnhbpaaGreat
open Go.RowKit Go.Shelf
attribute [local go_sem] Oper.semAt_some

theorem keepsFrom_upd' {S : Nat → Prop} {B : Nat} {W W' : World} (hu : Upd S W W') (h : ∀ k, S k → B ≤ k → ∀ o, W.heap[k]? = some o → o.isCells = true) : KeepsFrom B W W' :=
  ⟨hu.size, fun k o hB hk ho => by
    by_cases hs : S k
    · rw [h k hs hB o hk] at ho; cases ho
    · exact (hu.block k (Array.getElem?_eq_some_iff.1 hk).1 hs).trans hk⟩

/-- The marks that ranges over functions have left. -/
def Marks (B : Nat) (W : World) (ds : List Deferred) : Prop := ∃ Ds : List Nat, ds = Ds.map (fun D => { target := .collected D, args := #[] }) ∧ Ds.Nodup ∧ ∀ D ∈ Ds, B ≤ D ∧ W.heap[D]? = some (.deferred (some []))
theorem Marks.nil (B : Nat) (W : World) : Marks B W [] := ⟨[], rfl, List.nodup_nil, fun _ h => by cases h⟩
theorem Marks.upd {S : Nat → Prop} {B : Nat} {W W' : World} {ds : List Deferred} (h : Marks B W ds) (hu : Upd S W W') (hS : ∀ D, S D → W.heap[D]? ≠ some (.deferred (some []))) : Marks B W' ds := by
  obtain ⟨Ds, h1, h2, h3⟩ := h
  refine ⟨Ds, h1, h2, fun D hD => ?_⟩
  obtain ⟨h4, h5⟩ := h3 D hD
  exact ⟨h4, (hu.block D (Array.getElem?_eq_some_iff.1 h5).1 fun hs => hS D hs h5).trans h5⟩
theorem Marks.alloc {B : Nat} {W : World} {ds : List Deferred} (h : Marks B W ds) (o : Obj) : Marks B (W.alloc o) ds := h.upd ((Upd.refl (fun _ => False) W).alloc o) fun _ f => f.elim
theorem Marks.put {B : Nat} {W : World} {ds : List Deferred} (h : Marks B W ds) {g : Nat} {t : TypeId} {cs : Array Value} (hb : Blk W g t cs) (u : Value) : Marks B (W.setCell ⟨g, 0, none⟩ u) ds :=
  h.upd ((Upd.refl (fun k => k = g) W).put1 u) fun D hD h' => by
    subst hD
    have h1 : W.heap[D]? = some (.cells cs t (0, 0)) := hb
    rw [h1] at h'
    cases h'
theorem Marks.cons {B D : Nat} {W : World} {ds : List Deferred} (h : Marks B W ds) {B' : Nat} (hlt : ∀ D', W.heap[D']? = some (.deferred (some [])) → { target := .collected D', args := #[] } ∈ ds → D' < B') (hD : B' ≤ D) (hB : B ≤ D) (hk : W.heap[D]? = some (.deferred (some []))) : Marks B W ({ target := .collected D, args := #[] } :: ds) := by
  obtain ⟨Ds, h1, h2, h3⟩ := h
  refine ⟨D :: Ds, by rw [h1]; rfl, List.nodup_cons.2 ⟨fun hm => ?_, h2⟩, fun D' hD' => ?_⟩
  · have h4 := hlt D (h3 D hm).2 (by rw [h1]; exact List.mem_map.2 ⟨D, hm, rfl⟩)
    omega
  · rcases List.mem_cons.1 hD' with rfl | hD'
    · exact ⟨hB, hk⟩
    · exact h3 D' hD'
theorem Marks.lt {B : Nat} {W : World} {ds : List Deferred} (h : Marks B W ds) : ∀ D', { target := .collected D', args := #[] } ∈ ds → D' < W.heap.size := fun D' hD' => by
  obtain ⟨Ds, h1, h2, h3⟩ := h
  rw [h1] at hD'
  obtain ⟨D, hD, he⟩ := List.mem_map.1 hD'
  injection he with he _
  injection he with he
  subst he
  exact (Array.getElem?_eq_some_iff.1 (h3 D hD).2).1

theorem leaves_marks {F : Fence} {n : Nat} {P : Program} {fn : Func} {tmps : Array Value} {R : Ending → World → Prop} : ∀ (Ds : List Nat) (W : World), Ds.Nodup → (∀ D ∈ Ds, W.heap[D]? = some (.deferred (some []))) →
    (∀ W', Upd (fun k => k ∈ Ds) W W' → LeavesIn F n P fn tmps R [] .returning W') → LeavesInM F n P fn tmps R (Ds.map (fun D => { target := .collected D, args := #[] })) .returning W
  | [], W, _, _, h => h W (Upd.refl _ _)
  | D :: Ds, W, hn, hd, h => by
    obtain ⟨hn1, hn2⟩ := List.nodup_cons.1 hn
    have hup := (Upd.refl (fun k => k = D) W).grown (grownBy_putObj' W D (.deferred none)) fun k hk => .inl (by injection hk with hk; exact hk.symm)
    refine ⟨by simp, .inl ⟨_, _, rfl, run_takeDeferred (hd D (by simp)), ?_⟩⟩
    refine leaves_marks Ds _ hn2 (fun D' hD' => ?_) fun W' hu => h W' ((hup.mono (S' := fun k => k ∈ D :: Ds) fun k _ hk => by subst hk; simp).trans hu fun k _ hk => by simp [hk])
    have h1 := hd D' (by simp [hD'])
    exact (hup.block D' (Array.getElem?_eq_some_iff.1 h1).1 fun e => hn1 (e ▸ hD')).trans h1
theorem Marks.leaves {F : Fence} {n : Nat} {P : Program} {fn : Func} {tmps : Array Value} {R : Ending → World → Prop} {B : Nat} {W : World} {ds : List Deferred} (hm : Marks B W ds)
    (h : ∀ W' : World, Upd (fun k => B ≤ k) W W' → (∀ k : Nat, (∃ c t f, W.heap[k]? = some (Obj.cells c t f)) → W'.heap[k]? = W.heap[k]?) → LeavesIn F n P fn tmps R [] .returning W') : LeavesInM F n P fn tmps R ds .returning W := by
  obtain ⟨Ds, rfl, h2, h3⟩ := hm
  refine leaves_marks Ds W h2 (fun D hD => (h3 D hD).2) fun W' hu => h W' (hu.mono fun k _ hk => (h3 k hk).1) fun k ⟨c, t, f, hk⟩ => hu.block k (Array.getElem?_eq_some_iff.1 hk).1 fun hm => ?_
  have h4 := (h3 k hm).2
  rw [hk] at h4
  cases h4
theorem own_from_upd2 {β : Type} {B : Nat} {I : β → World → Prop} (h : ∀ s W W', I s W → Upd (fun k => B ≤ k) W W' → I s W') : OwnFrom B I := fun s W W' row hs hg hr =>
  h s W W' hs ⟨hg.os, hg.tape, hg.output, hg.size, fun k _ hn => hg.block k (by assumption) fun e => hn (hr k e.symm).1⟩
theorem Ints.of_own' {S : Nat → Prop} {w : World} {B c : Nat} {A : Option Addr} {l : List Int} (h : w.ownsRow B 3 1 (.slice A l.length c) l.length (l.map (Value.int .i64))) (hS : ∀ b, (Value.slice A l.length c).ownBlock = some b → ¬ S b) : Ints S w (.slice A l.length c) l := by
  have hr := Row.of_own h
  cases hA : A with
  | none =>
    have h1 := hr.nil hA
    have h2 := hr.le
    have h3 : l.length = 0 := by omega
    have h4 : l = [] := List.length_eq_zero_iff.1 h3
    subst h4
    subst h1
    exact .inl ⟨rfl, rfl⟩
  | some a =>
    obtain ⟨h1, h2, h3, h4⟩ := hr.cell a hA
    obtain ⟨b, o, s⟩ := a
    subst h1
    refine .inr ⟨b, o, c, rfl, h2, hS _ (by rw [hA]; rfl), fun j hj => ?_⟩
    have := h4 j (.int .i64 (l[j]?.getD 0)) (by rw [List.getElem?_map, List.getElem?_eq_getElem hj]; rfl)
    exact this

theorem seq_nil (f : Fn) (c : Array Value) (b : Array Value) (w : World) : (binOp .eql 54 (.func f c b) .nilFunc).run Tryz.prog w = .ok (.bool false) w := by kernel_rfl

set_option maxHeartbeats 8000000 in
set_option maxRecDepth 100000 in
theorem gincident_walk {F : Nat → Prop} (w : World) {g : GR} (h : RdG w F g) (hz : GSized g) (node : Int) :
    Calls Tryz.prog 11 #[g.agg, .int .i64 node] w fun e w' => e = .returned (.bool true) ∧ Same w w' := by
  have hs2 := ((Upd.refl (fun _ => False) w).alloc (.cells #[.slice g.AN g.nN g.cN, .slice g.AR g.nR g.cR] 27)).alloc (.cells #[.bool false] 4)
  have hb1 := (Blk.new w 27 #[.slice g.AN g.nN g.cN, .slice g.AR g.nR g.cR]).alloc (.cells #[.bool false] 4)
  have hb4 := Blk.new (w.alloc (.cells #[.slice g.AN g.nN g.cN, .slice g.AR g.nR g.cR] 27)) 4 #[.bool false]
  simp only [World.size_alloc] at hb4
  have HZN := Lib.hid (show g.nR * 8 ≤ 140737488351232 by have := hz.nR; omega)
  have H1 := Lib.hid h
  have Z1 := Lib.hid hz
  have S0 := Lib.hid hs2
  have R0 := Lib.hid (h.same hs2)
  have B0 := Lib.hid hb1
  have B4 := Lib.hid hb4
  clear h hz hs2 hb1 hb4
  obtain ⟨ns, AN, nN, cN, rs, AR, nR, cR⟩ := g
  simp only at S0 B0 B4 HZN R0
  refine (callsIn_wide (n := 5)).1 ?_
  refine callsIn_of_wp_marks Tryz.func11 rfl trivial ?_ rfl
  simp only [Tryz.ntmps11, List.size_toArray, List.length_cons, List.length_nil, Nat.reduceAdd, Nat.reduceSub, Array.replicate_succ, Array.replicate_zero, List.push_toArray, List.append_toArray, List.nil_append, List.cons_append]
  refine wpIn_wide.2 ?_
  go_upto_region 1 with fail
  generalize (w.alloc (.cells #[.slice AN nN cN, .slice AR nR cR] 27)).alloc (.cells #[.bool false] 4) = w1 at *
  have p20 : w1.cell? ⟨w.heap.size, 0, none⟩ = some (.slice AN nN cN) := B0.out.cell 0
  have p21 : w1.cell? ⟨w.heap.size, 1, none⟩ = some (.slice AR nR cR) := B0.out.cell 1
  go_wp2_with fail
  refine (copyG_spec w1 ⟨ns, AN, nN, cN, rs, AR, nR, cR⟩ R0.out Z1.out).mono ?_
  rintro e w2 ⟨⟨nsA, A1, n1, c1, rsA, A2, n2, c2⟩, rfl, DA, OA, hs2⟩
  have hs3 := hs2.alloc (.cells #[.slice A1 n1 c1, .slice A2 n2 c2] 27)
  have S3 := Lib.hid (S0.out.same hs3)
  have B3 := Lib.hid (B0.out.same hs3)
  have B43 := Lib.hid (B4.out.same hs3)
  have C3 := Lib.hid (Blk.new w2 27 #[.slice A1 n1 c1, .slice A2 n2 c2])
  have OA3 := Lib.hid (OA.out.same ((Upd.refl (fun _ => False) w2).alloc (.cells #[.slice A1 n1 c1, .slice A2 n2 c2] 27)))
  have HB1 := Lib.hid (show w.heap.size + 1 < w1.heap.size from B4.out.lt)
  have HG5 := Lib.hid (show w2.heap.size < (w2.alloc (.cells #[.slice A1 n1 c1, .slice A2 n2 c2] 27)).heap.size by rw [World.size_alloc]; omega)
  have HRlen := Lib.hid (show rs.length = nR from R0.out.rels.len)
  have R3 := Lib.hid ((R0.out.mono (F' := fun b => b < w1.heap.size) fun b hb _ => hb).same hs3)
  have Hz12 := Lib.hid hs2.size
  have HA2 := Lib.hid (show ∀ b, (Value.slice A2 n2 c2).ownBlock = some b → w1.heap.size ≤ b ∧ b < w2.heap.size from OA.out.rels.row.lt)
  clear hs2 hs3 p20 p21 B0 B4 R0 H1
  go_upto_region 2 with fail
  generalize w2.alloc (.cells #[.slice A1 n1 c1, .slice A2 n2 c2] 27) = w3 at *
  generalize w2.heap.size = g5 at *
  have p20 : w3.cell? ⟨g5, 0, none⟩ = some (.slice A1 n1 c1) := C3.out.cell 0
  have p21 : w3.cell? ⟨g5, 1, none⟩ = some (.slice A2 n2 c2) := C3.out.cell 1
  obtain ⟨l, hl⟩ : ∃ l, incP (GR.dat ⟨ns, AN, nN, cN, rs, AR, nR, cR⟩) node = l := ⟨_, rfl⟩
  have HL := Lib.hid hl
  have HLA := Lib.hid (show incP (GR.dat ⟨nsA, A1, n1, c1, rsA, A2, n2, c2⟩) node = l by rw [DA.out]; exact hl)
  have hn2 : n2 = nR := by
    have h1 := congrArg (fun x : GGraph => x.rels.length) DA.out
    simp only [GR.dat, List.length_map] at h1
    have h2 : rsA.length = n2 := OA3.out.rd.rels.len
    have h3 := HRlen.out
    omega
  subst hn2
  clear hl
  go_wp2_with fail
  refine (incident_spec w3 ⟨nsA, A1, n1, c1, rsA, A2, n2, c2⟩ OA3.out.rd HZN.out node HLA.out).mono ?_
  rintro e w4 ⟨gI, AI, cI, rfl, hgI, hbI, hoI, hs4⟩
  have S4 := Lib.hid (S3.out.same hs4)
  have B44 := Lib.hid (B43.out.same hs4)
  have BG4 := Lib.hid (B3.out.same hs4)
  have C4 := Lib.hid (C3.out.same hs4)
  have R4 := Lib.hid (R3.out.same hs4)
  have OA4 := Lib.hid (OA3.out.same hs4)
  have BI4 := Lib.hid hbI
  have OI4 := Lib.hid hoI
  clear hbI hoI hs4 p20 p21 B3 B43 C3 R3 OA3
  have hnil := seq_nil (.func 80) #[] #[.pointer (some ⟨gI, 0, none⟩)]
  go_wp2_with (go_at_call 13; refine (gspeaks_true _).mono ?_; rintro e w5 ⟨rfl, hs5⟩; have HS5 := Lib.hid hs5; have p21 : w5.cell? ⟨g5, 1, none⟩ = some (.slice A2 n2 c2) := (C4.out.same hs5).cell 1)
  clear hnil p21
  have hR2 : rsA.length = n2 := OA4.out.rd.rels.len
  have OR5 := Lib.hid (show w5.ownsRow w1.heap.size 47 5 (.slice A2 n2 c2) n2 (rsA.flatMap RL.cells) from by
    have h1 := (OA4.out.same HS5.out).rels.row
    rw [hR2] at h1
    exact h1)
  have C5 := Lib.hid (C4.out.same HS5.out)
  have BG5 := Lib.hid (BG4.out.same HS5.out)
  have R5 := Lib.hid (R4.out.same HS5.out)
  have hn8 := HZN.out
  have hwg : w.heap.size < w1.heap.size := by have := HB1.out; omega
  clear hR2
  go_loopg [28, 7] n2 (fun gh ix s7 wr => ∃ i : Nat, n2 - i = gh ∧ i ≤ n2 ∧ ix = .int .i64 i ∧ Hid (∃ xs, wr.ownsRow w1.heap.size 47 5 (.slice A2 n2 c2) n2 xs) ∧ Hid (Upd (fun b => (Value.slice A2 n2 c2).ownBlock = some b) w5 wr))
  case atStart => exact ⟨0, rfl, Nat.zero_le _, rfl, Lib.hid ⟨_, OR5.out⟩, Lib.hid (Upd.refl _ _)⟩
  case round =>
    obtain ⟨i, rfl, hi, rfl, KO, KU⟩ := hrel
    have p21 : wr.cell? ⟨g5, 1, none⟩ = some (.slice A2 n2 c2) := (C5.out.upd KU.out fun hh => by have := (HA2.out _ hh).2; omega).cell 1
    by_cases hlt : i < n2
    · obtain ⟨xs, hxs⟩ := KO.out
      obtain ⟨gB, u1, rfl, hgB, hgl, _, hu1, hf1, hput1⟩ := own_cellK hxs (i := i * 5 + 2) (by omega)
      obtain ⟨gB', u2, hgB', _, _, _, hu2, hf2, hput2⟩ := own_cellK (hput1 (.int .i64 node)) (i := i * 5) (by omega)
      injection hgB' with e1
      injection e1 with e1
      subst e1
      have hne : gB ≠ g5 := by have := (HA2.out gB rfl).2; omega
      have hne' : g5 ≠ gB := fun e => hne e.symm
      have KO1 := Lib.hid (hput2 (.int .i64 (-5)))
      have KU1 := Lib.hid ((KU.out.setCell (p := ⟨gB, i * 5 + 2, none⟩) (.inl rfl) (.int .i64 node)).setCell (p := ⟨gB, i * 5, none⟩) (.inl rfl) (.int .i64 (-5)))
      clear hput1 hput2 KO KU hxs
      go_wp2_with fail
      go_roundg (n2 - (i + 1))
      case measure => omega
      case rel => exact ⟨i + 1, rfl, by omega, by go_num, Lib.hid ⟨_, KO1.out⟩, KU1⟩
    · have hin : i = n2 := by omega
      subst hin
      clear hlt
      have p31 : wr.cell? ⟨w.heap.size, 1, none⟩ = some (.slice AR i cR) := (BG5.out.upd KU.out fun hh => by have := (HA2.out _ hh).1; omega).cell 1
      have RW := Lib.hid (R5.out.upd KU.out fun b hb hh => by have := (HA2.out _ hh).1; omega)
      have BG6 := Lib.hid (BG5.out.upd KU.out fun hh => by have := (HA2.out _ hh).1; omega)
      have B46 := Lib.hid ((B44.out.same HS5.out).upd KU.out fun hh => by have := (HA2.out _ hh).1; have := HB1.out; omega)
      have HAI := Lib.hid (show ∀ b, (Value.slice A2 i c2).ownBlock = some b → b < w3.heap.size from fun b hb => by have h1 := (HA2.out b hb).2; have h2 := HG5.out; omega)
      have BI6 := Lib.hid ((BI4.out.same HS5.out).upd KU.out fun hh => by have := HAI.out _ hh; omega)
      have OI6 := Lib.hid (own_upd (own_same OI4.out HS5.out) KU.out fun g hg hh => by have h1 := HAI.out _ hh; have h2 := (OI4.out.lt g hg).1; omega)
      have S6 := Lib.hid (show Same w wr from (S4.out.same HS5.out).trans KU.out fun b hb hh => by have := (HA2.out _ hh).1; omega)
      have hw16 : w1.heap.size ≤ wr.heap.size := by
        have h1 := (R5.out.upd KU.out fun b hb hh => by have := (HA2.out _ hh).1; omega).nodes
        have h2 := B46.out.lt
        have h3 := KU.out.size
        have h4 := HS5.out.size
        have h5 := BI4.out.lt
        have h6 := HG5.out
        have h7 := Hz12.out
        omega
      have hs8 := ((Upd.refl (fun _ => False) wr).alloc (.cells #[] 3)).alloc (.cells #[.slice (some ⟨wr.heap.size, 0, none⟩) 0 0] 36)
      have BW := Blk.new (wr.alloc (.cells #[] 3)) 36 #[.slice (some ⟨wr.heap.size, 0, none⟩) 0 0]
      rw [World.size_alloc] at BW
      have OW := (World.ownsRow_made (base := wr.heap.size) (e := 3) (size := 1) wr #[] 0 (Nat.le_refl _) (Nat.zero_le _) rfl).alloc (.cells #[.slice (some ⟨wr.heap.size, 0, none⟩) 0 0] 36)
      have S8 := Lib.hid (S6.out.same hs8)
      have BG8 := Lib.hid (BG6.out.same hs8)
      have B48 := Lib.hid (B46.out.same hs8)
      have BI8 := Lib.hid (BI6.out.same hs8)
      have OI6' := Lib.hid (show ∀ g, (Value.slice AI l.length cI).ownBlock = some g → g < wr.heap.size from fun g hg => (OI6.out.lt g hg).2)
      have OI8 := Lib.hid (own_same OI6.out hs8)
      have R8 := Lib.hid ((RW.out.same hs8).rels)
      have BW8 := Lib.hid BW
      have OW8 := Lib.hid OW
      have HBI := Lib.hid BI6.out.lt
      clear hs8 BW OW OR5 C5 BG5 R5 KU KO p21 p31 RW BG6 B46 BI6 OI6 S6
      go_upto_region 12 with fail
      generalize (wr.alloc (.cells #[] 3)).alloc (.cells #[.slice (some ⟨wr.heap.size, 0, none⟩) 0 0] 36) = w8 at *
      generalize wr.heap.size = b0 at *
      generalize i = nR at *
      have p31 : w8.cell? ⟨w.heap.size, 1, none⟩ = some (.slice AR nR cR) := BG8.out.cell 1
      have HLR := Lib.hid (show ((rs.map RL.dat).filter (touches node)).map GRel.id = l from HL.out)
      generalize wr = wz at *
      go_wp2_with fail
      clear p31
      go_loopg [47] nR (fun gh ix wx => ∃ (i : Nat) (m : List Int) (v : Value), nR - i = gh ∧ i ≤ nR ∧ ix = .int .i64 i ∧ m.length ≤ i ∧ Hid (m = (((rs.map RL.dat).take i).filter (touches node)).map GRel.id) ∧ Hid (Blk wx (b0 + 1) 36 #[v]) ∧ Hid (wx.ownsRow b0 3 1 v m.length (m.map (Value.int .i64))) ∧ Hid (Upd (fun b => b0 ≤ b) w8 wx))
      case atStart => exact ⟨0, [], _, rfl, Nat.zero_le _, rfl, Nat.le_refl _, Lib.hid (by simp), BW8, OW8, Lib.hid (Upd.refl _ _)⟩
      case round =>
        generalize wr = wx at *
        obtain ⟨i, m, v, rfl, hi, rfl, hm, KM, KB, KO, KU⟩ := hrel
        by_cases hlt : i < nR
        · have HRw := Lib.hid (R8.out.upd KU.out fun b hb hh => by omega)
          obtain ⟨b, o, x, rfl, hb, _, hx, hxm, r0, r1, r2, r3, r4⟩ := HRw.out.at_ hlt
          have hxd : (rs.map RL.dat)[i]? = some x.dat := by rw [List.getElem?_map, hx]; rfl
          have HT := Lib.hid (show (((rs.map RL.dat).take (i + 1)).filter (touches node)).map GRel.id = (((rs.map RL.dat).take i).filter (touches node)).map GRel.id ++ (if touches node x.dat = true then [x.id] else []) from by
            rw [List.take_add_one, hxd, Option.toList_some, List.filter_append, List.map_append]
            congr 1
            by_cases ht : touches node x.dat = true
            · rw [if_pos ht, List.filter_cons_of_pos ht]; rfl
            · rw [if_neg ht, List.filter_cons_of_neg ht]; rfl)
          obtain ⟨tt, htt⟩ : ∃ tt, touches node x.dat = tt := ⟨_, rfl⟩
          rw [htt] at HT
          have HTt := Lib.hid htt
          clear hx hxm hxd HRw htt
          obtain ⟨ix, tx, sx, dx, px, AP, nP, cP⟩ := x
          simp only at r0 r1 r2 r3 r4
          obtain ⟨A5, c5, rfl⟩ := own_form KO.out
          have hsA := (Upd.refl (fun _ => False) wx).alloc (.cells #[.int .i64 ix, .string tx, .int .i64 sx, .int .i64 dx, .slice AP nP cP] 47)
          have HSA := Lib.hid (KU.out.same hsA)
          have HOA := Lib.hid (own_same KO.out hsA)
          have HWA := Lib.hid (KB.out.same hsA)
          have HBA := Lib.hid (Blk.new wx 47 #[.int .i64 ix, .string tx, .int .i64 sx, .int .i64 dx, .slice AP nP cP])
          have hzA := KB.out.lt
          have hz2 := hsA.size
          clear hsA KU KO KB
          obtain ⟨b1, h1⟩ : ∃ b, (sx == node) = b := ⟨_, rfl⟩
          obtain ⟨b2, h2⟩ : ∃ b, (dx == node) = b := ⟨_, rfl⟩
          have hbb : (b1 || b2) = tt := by rw [← HTt.out, ← h1, ← h2]; rfl
          have HBB := Lib.hid hbb
          clear hbb HTt
          cases tt with
          | true =>
            have HT2 := Lib.hid (show (((rs.map RL.dat).take (i + 1)).filter (touches node)).map GRel.id = m ++ [ix] from by rw [HT.out, KM.out]; rfl)
            clear HT
            by_cases hb1 : b1 = true
            · subst hb1
              go_upto_region 16 with fail
              have p0 : (wx.alloc (.cells #[.int .i64 ix, .string tx, .int .i64 sx, .int .i64 dx, .slice AP nP cP] 47)).cell? ⟨wx.heap.size, 0, none⟩ = some (.int .i64 ix) := HBA.out.cell 0
              have p1 : (wx.alloc (.cells #[.int .i64 ix, .string tx, .int .i64 sx, .int .i64 dx, .slice AP nP cP] 47)).cell? ⟨b0 + 1, 0, none⟩ = some (.slice A5 m.length c5) := HWA.out.cell 0
              clear r0 r1 r2 r3 r4 HBA
              generalize wx.alloc (.cells #[.int .i64 ix, .string tx, .int .i64 sx, .int .i64 dx, .slice AP nP cP] 47) = w6 at *
              generalize wx.heap.size = g6 at *
              go_wp2_with (at_builtin; go_must (refine wpList_app rfl (.tmp 61) (.tmp 64) _ _ rfl b0 3 1 8 _ Tryz.underlying36 info_int rfl (.slice A5 m.length c5) m.length _ rfl (HOA.out.alloc _) rfl (src_row Tryz.underlying36 (Row.one _ _ _) (by simp [Value.oneCell'])) (by unfold maxLen; omega) (by omega) (by simp; omega) ?_); intro v7 w8 hg; obtain ⟨A7, n7, c7, rfl⟩ := own_slice hg.own; have hbw := HWA.out.alloc (.cells #[.int .i64 ix] 3); have how := HOA.out.alloc (.cells #[.int .i64 ix] 3); have s1 : w8.cell? ⟨b0 + 1, 0, none⟩ = some (.slice A5 m.length c5) := (hg.blk hbw (Blk.ne_own hbw how (by decide))).cell 0; have s2 := (hg.blk hbw (Blk.ne_own hbw how (by decide))).frozen 0; clear hbw how; have HF := Lib.hid (field_app (i := 0) HWA.out HOA.out (by decide) ((Upd.refl (fun _ => False) _).alloc _) hg); clear hg)
              go_roundg (nR - (i + 1))
              case measure => omega
              case rel =>
                obtain ⟨f1, f2, f3⟩ := HF.out
                exact ⟨i + 1, m ++ [ix], _, rfl, by omega, by go_num, by simp; omega, Lib.hid HT2.out.symm, Lib.hid f1, Lib.hid (by simpa using f2), Lib.hid (HSA.out.trans f3 fun b _ hh => by
                  rcases hh with rfl | hh
                  · exact Nat.le_succ _
                  · exact (HOA.out.lt b hh).1)⟩
            · obtain rfl : b1 = false := by simpa using hb1
              obtain rfl : b2 = true := HBB.out
              clear hb1
              go_upto_region 16 with fail
              have p0 : (wx.alloc (.cells #[.int .i64 ix, .string tx, .int .i64 sx, .int .i64 dx, .slice AP nP cP] 47)).cell? ⟨wx.heap.size, 0, none⟩ = some (.int .i64 ix) := HBA.out.cell 0
              have p1 : (wx.alloc (.cells #[.int .i64 ix, .string tx, .int .i64 sx, .int .i64 dx, .slice AP nP cP] 47)).cell? ⟨b0 + 1, 0, none⟩ = some (.slice A5 m.length c5) := HWA.out.cell 0
              clear r0 r1 r2 r3 r4 HBA
              generalize wx.alloc (.cells #[.int .i64 ix, .string tx, .int .i64 sx, .int .i64 dx, .slice AP nP cP] 47) = w6 at *
              generalize wx.heap.size = g6 at *
              go_wp2_with (at_builtin; go_must (refine wpList_app rfl (.tmp 61) (.tmp 64) _ _ rfl b0 3 1 8 _ Tryz.underlying36 info_int rfl (.slice A5 m.length c5) m.length _ rfl (HOA.out.alloc _) rfl (src_row Tryz.underlying36 (Row.one _ _ _) (by simp [Value.oneCell'])) (by unfold maxLen; omega) (by omega) (by simp; omega) ?_); intro v7 w8 hg; obtain ⟨A7, n7, c7, rfl⟩ := own_slice hg.own; have hbw := HWA.out.alloc (.cells #[.int .i64 ix] 3); have how := HOA.out.alloc (.cells #[.int .i64 ix] 3); have s1 : w8.cell? ⟨b0 + 1, 0, none⟩ = some (.slice A5 m.length c5) := (hg.blk hbw (Blk.ne_own hbw how (by decide))).cell 0; have s2 := (hg.blk hbw (Blk.ne_own hbw how (by decide))).frozen 0; clear hbw how; have HF := Lib.hid (field_app (i := 0) HWA.out HOA.out (by decide) ((Upd.refl (fun _ => False) _).alloc _) hg); clear hg)
              go_roundg (nR - (i + 1))
              case measure => omega
              case rel =>
                obtain ⟨f1, f2, f3⟩ := HF.out
                exact ⟨i + 1, m ++ [ix], _, rfl, by omega, by go_num, by simp; omega, Lib.hid HT2.out.symm, Lib.hid f1, Lib.hid (by simpa using f2), Lib.hid (HSA.out.trans f3 fun b _ hh => by
                  rcases hh with rfl | hh
                  · exact Nat.le_succ _
                  · exact (HOA.out.lt b hh).1)⟩
          | false =>
            obtain ⟨rfl, rfl⟩ : b1 = false ∧ b2 = false := by have := HBB.out; simpa using this
            have HT2 := Lib.hid (show (((rs.map RL.dat).take (i + 1)).filter (touches node)).map GRel.id = m from by rw [HT.out, KM.out]; simp)
            clear HT
            go_wp2
            go_roundg (nR - (i + 1))
            case measure => omega
            case rel => exact ⟨i + 1, m, _, rfl, by omega, by go_num, by omega, Lib.hid HT2.out.symm, HWA, HOA, HSA⟩
        · have hml := KM.out
          rw [List.take_of_length_le (by rw [List.length_map, HRlen.out]; omega), HLR.out] at hml
          subst hml
          obtain ⟨A5, c5, rfl⟩ := own_form KO.out
          -- THE THIRD LOOP
          have hzx := KB.out.lt
          have HKB := Lib.hid KB.out
          have BIx := Lib.hid (BI8.out.upd KU.out fun hh => by have := HBI.out; omega)
          have B4x := Lib.hid (B48.out.upd KU.out fun hh => by have := HB1.out; omega)
          have OIx := Lib.hid (own_upd OI8.out KU.out fun g hg hh => by have h1 := (OI6'.out g hg); omega)
          have Sx := Lib.hid (show Same w wx from S8.out.trans KU.out fun b hb hh => by omega)
          have hs9 := (Upd.refl (fun _ => False) wx).alloc (.cells #[.int .i64 0] 3)
          have HS9 := Lib.hid hs9
          have HB9 := Lib.hid (Blk.new wx 3 #[.int .i64 0])
          have HOx := Lib.hid KO.out
          have hgI0 : gI < wx.heap.size := BIx.out.lt
          clear hs9 KB KO KU OI6' OI8 BI8 B48 BG8 R8 BW8 OW8 HBI S8
          go_wp2_with fail
          refine wp_loop_ghost_k (fun k a w' => ∃ (r g11 : Nat) (ds : List Deferred) (u0 u1 u2 u3 u5 u7 u9 u10 u12 u13 u14 u15 u16 u17 u18 u19 u20 u21 u22 u23 u24 u25 u26 u27 u28 u29 u30 u31 u32 u33 u34 u35 u36 u37 u38 u39 u40 u41 u42 u43 u44 u45 u46 u47 u48 u49 u50 u51 u52 u53 u54 u55 u56 u57 u58 u59 u60 u61 u62 u63 u64 u65 u66 u67 u68 u69 u70 u71 u72 u73 u74 u75 u76 u77 u78 u79 u80 u81 u82 u83 u84 u85 u86 u87 u88 u89 u90 u91 u92 u93 u94 u95 u96 u97 u98 u99 u100 u101 u102 u103 u104 u105 u106 u107 u108 : Value), (3 - r = k ∧ r ≤ 3 ∧ Hid (Blk w' g11 3 #[.int .i64 (r : Int)]) ∧ Hid (Same wx w') ∧ Hid (wx.heap.size ≤ g11) ∧ Hid (Marks wx.heap.size w' ds)) ∧ a = { tmps := #[u0, u1, u2, u3, .pointer (some ⟨w.heap.size + 1, 0, none⟩), u5, .func (.func 80) #[] #[.pointer (some ⟨gI, 0, none⟩)], u7, .pointer (some ⟨b0 + 1, 0, none⟩), u9, u10, .pointer (some ⟨g11, 0, none⟩), u12, u13, u14, u15, u16, u17, u18, u19, u20, u21, u22, u23, u24, u25, u26, u27, u28, u29, u30, u31, u32, u33, u34, u35, u36, u37, u38, u39, u40, u41, u42, u43, u44, u45, u46, u47, u48, u49, u50, u51, u52, u53, u54, u55, u56, u57, u58, u59, u60, u61, u62, u63, u64, u65, u66, u67, u68, u69, u70, u71, u72, u73, u74, u75, u76, u77, u78, u79, u80, u81, u82, u83, u84, u85, u86, u87, u88, u89, u90, u91, u92, u93, u94, u95, u96, u97, u98, u99, u100, u101, u102, u103, u104, u105, u106, u107, u108], defers := ds }) 3 ?_ ?_
          · (repeat apply Exists.intro)
            exact ⟨⟨rfl, Nat.zero_le _, HB9, HS9, Lib.hid (Nat.le_refl _), Lib.hid (Marks.nil _ _)⟩, rfl⟩
          intro gk a wr hinv
          obtain ⟨r, g11, ds, hinv⟩ := hinv
          obtain ⟨u0, hinv⟩ := hinv
          obtain ⟨u1, hinv⟩ := hinv
          obtain ⟨u2, hinv⟩ := hinv
          obtain ⟨u3, hinv⟩ := hinv
          obtain ⟨u5, hinv⟩ := hinv
          obtain ⟨u7, hinv⟩ := hinv
          obtain ⟨u9, hinv⟩ := hinv
          obtain ⟨u10, hinv⟩ := hinv
          obtain ⟨u12, hinv⟩ := hinv
          obtain ⟨u13, hinv⟩ := hinv
          obtain ⟨u14, hinv⟩ := hinv
          obtain ⟨u15, hinv⟩ := hinv
          obtain ⟨u16, hinv⟩ := hinv
          obtain ⟨u17, hinv⟩ := hinv
          obtain ⟨u18, hinv⟩ := hinv
          obtain ⟨u19, hinv⟩ := hinv
          obtain ⟨u20, hinv⟩ := hinv
          obtain ⟨u21, hinv⟩ := hinv
          obtain ⟨u22, hinv⟩ := hinv
          obtain ⟨u23, hinv⟩ := hinv
          obtain ⟨u24, hinv⟩ := hinv
          obtain ⟨u25, hinv⟩ := hinv
          obtain ⟨u26, hinv⟩ := hinv
          obtain ⟨u27, hinv⟩ := hinv
          obtain ⟨u28, hinv⟩ := hinv
          obtain ⟨u29, hinv⟩ := hinv
          obtain ⟨u30, hinv⟩ := hinv
          obtain ⟨u31, hinv⟩ := hinv
          obtain ⟨u32, hinv⟩ := hinv
          obtain ⟨u33, hinv⟩ := hinv
          obtain ⟨u34, hinv⟩ := hinv
          obtain ⟨u35, hinv⟩ := hinv
          obtain ⟨u36, hinv⟩ := hinv
          obtain ⟨u37, hinv⟩ := hinv
          obtain ⟨u38, hinv⟩ := hinv
          obtain ⟨u39, hinv⟩ := hinv
          obtain ⟨u40, hinv⟩ := hinv
          obtain ⟨u41, hinv⟩ := hinv
          obtain ⟨u42, hinv⟩ := hinv
          obtain ⟨u43, hinv⟩ := hinv
          obtain ⟨u44, hinv⟩ := hinv
          obtain ⟨u45, hinv⟩ := hinv
          obtain ⟨u46, hinv⟩ := hinv
          obtain ⟨u47, hinv⟩ := hinv
          obtain ⟨u48, hinv⟩ := hinv
          obtain ⟨u49, hinv⟩ := hinv
          obtain ⟨u50, hinv⟩ := hinv
          obtain ⟨u51, hinv⟩ := hinv
          obtain ⟨u52, hinv⟩ := hinv
          obtain ⟨u53, hinv⟩ := hinv
          obtain ⟨u54, hinv⟩ := hinv
          obtain ⟨u55, hinv⟩ := hinv
          obtain ⟨u56, hinv⟩ := hinv
          obtain ⟨u57, hinv⟩ := hinv
          obtain ⟨u58, hinv⟩ := hinv
          obtain ⟨u59, hinv⟩ := hinv
          obtain ⟨u60, hinv⟩ := hinv
          obtain ⟨u61, hinv⟩ := hinv
          obtain ⟨u62, hinv⟩ := hinv
          obtain ⟨u63, hinv⟩ := hinv
          obtain ⟨u64, hinv⟩ := hinv
          obtain ⟨u65, hinv⟩ := hinv
          obtain ⟨u66, hinv⟩ := hinv
          obtain ⟨u67, hinv⟩ := hinv
          obtain ⟨u68, hinv⟩ := hinv
          obtain ⟨u69, hinv⟩ := hinv
          obtain ⟨u70, hinv⟩ := hinv
          obtain ⟨u71, hinv⟩ := hinv
          obtain ⟨u72, hinv⟩ := hinv
          obtain ⟨u73, hinv⟩ := hinv
          obtain ⟨u74, hinv⟩ := hinv
          obtain ⟨u75, hinv⟩ := hinv
          obtain ⟨u76, hinv⟩ := hinv
          obtain ⟨u77, hinv⟩ := hinv
          obtain ⟨u78, hinv⟩ := hinv
          obtain ⟨u79, hinv⟩ := hinv
          obtain ⟨u80, hinv⟩ := hinv
          obtain ⟨u81, hinv⟩ := hinv
          obtain ⟨u82, hinv⟩ := hinv
          obtain ⟨u83, hinv⟩ := hinv
          obtain ⟨u84, hinv⟩ := hinv
          obtain ⟨u85, hinv⟩ := hinv
          obtain ⟨u86, hinv⟩ := hinv
          obtain ⟨u87, hinv⟩ := hinv
          obtain ⟨u88, hinv⟩ := hinv
          obtain ⟨u89, hinv⟩ := hinv
          obtain ⟨u90, hinv⟩ := hinv
          obtain ⟨u91, hinv⟩ := hinv
          obtain ⟨u92, hinv⟩ := hinv
          obtain ⟨u93, hinv⟩ := hinv
          obtain ⟨u94, hinv⟩ := hinv
          obtain ⟨u95, hinv⟩ := hinv
          obtain ⟨u96, hinv⟩ := hinv
          obtain ⟨u97, hinv⟩ := hinv
          obtain ⟨u98, hinv⟩ := hinv
          obtain ⟨u99, hinv⟩ := hinv
          obtain ⟨u100, hinv⟩ := hinv
          obtain ⟨u101, hinv⟩ := hinv
          obtain ⟨u102, hinv⟩ := hinv
          obtain ⟨u103, hinv⟩ := hinv
          obtain ⟨u104, hinv⟩ := hinv
          obtain ⟨u105, hinv⟩ := hinv
          obtain ⟨u106, hinv⟩ := hinv
          obtain ⟨u107, hinv⟩ := hinv
          obtain ⟨u108, hinv⟩ := hinv
          obtain ⟨⟨hgk, hr3, KB, KS, KG, KM⟩, ha⟩ := hinv
          subst ha
          subst hgk
          intro _ _ _ _
          have p11 : wr.cell? ⟨g11, 0, none⟩ = some (.int .i64 (r : Int)) := KB.out.cell 0
          have hzr := KS.out.size
          have hgl := KB.out.lt
          by_cases hlt : r < 3
          · have hsA := (Upd.refl (fun _ => False) wr).alloc (.cells #[.int .i64 0] 3)
            have SA := Lib.hid (KS.out.same hsA)
            have B11 := Lib.hid (KB.out.alloc (.cells #[.int .i64 0] 3))
            have B12 := Lib.hid (Blk.new wr 3 #[.int .i64 0])
            have MA := Lib.hid (KM.out.alloc (.cells #[.int .i64 0] 3))
            clear hsA
            go_wp2_with fail
            generalize wr.alloc (.cells #[.int .i64 0] 3) = Ws at *
            generalize wr.heap.size = g12 at *
            have hz12 := B12.out.lt
            have hf2 : Fence.wide.fn 80 := trivial
            have BIs := Lib.hid (BIx.out.same SA.out)
            have hgIs : gI < Ws.heap.size := BIs.out.lt
            have OIs := Lib.hid (own_same OIx.out SA.out)
            have HII : Ints (fun k => k = g12 ∨ Ws.heap.size ≤ k) Ws (.slice AI m.length cI) m := Ints.of_own' OIs.out fun b hb hh => by
              have h1 := (OIx.out.lt b hb).2
              omega
            have hml8 : m.length * 8 ≤ 140737488351232 := by omega
            refine (wpIn_wide (n := 5)).1 ?_
            refine wpIn_rangeFunc_ownG rfl (by omega) (gf := 80) (lb := #[.pointer (some ⟨gI, 0, none⟩)]) rfl hf2 (enters_of Tryz.func80 (by kernel_rfl) rfl)
              (values_stops Fence.wide _ hf2 rfl (by omega) gI (fun k => k = g12 ∨ Ws.heap.size ≤ k) _ m hml8 Ws hgIs (BIs.out.cell 0) HII) updK_t (updK_b fun k hk => .inr hk) (Below.refl _ _) (fun _ => rfl)
              (fun pre W => Hid (pre <+: m) ∧ Hid (r = 1 → pre = []) ∧ Hid (Blk W g12 3 #[.int .i64 (pre.length : Int)]) ∧ Hid (Upd (fun k => k = g12) Ws W))
              (fun c pre W => (c = .ret ∧ Hid (¬ pre <+: m)) ∨ (c = .exit 6 ∧ r = 1 ∧ Hid (pre.length = 1) ∧ Hid (Blk W g12 3 #[.int .i64 1]) ∧ Hid (Upd (fun k => k = g12) Ws W)))
              (own_from_upd2 fun pre W W' ⟨h1, h2, h3, h4⟩ hu => ⟨h1, h2, Lib.hid (h3.out.upd hu (by omega)), Lib.hid (h4.out.trans hu fun b hb hh => by omega)⟩)
              (fun c => own_from_upd2 fun pre W W' hh hu => by
                rcases hh with hh | ⟨h1, h2, h3, h4, h5⟩
                · exact .inl hh
                · exact .inr ⟨h1, h2, h3, Lib.hid (h4.out.upd hu (by omega)), Lib.hid (h5.out.trans hu fun b hb hh => by omega)⟩)
              ⟨Lib.hid List.nil_prefix, Lib.hid fun _ => rfl, B12, Lib.hid (Upd.refl _ _)⟩
              (fun x => { tmps := #[u0, u1, u2, u3, .pointer (some ⟨w.heap.size + 1, 0, none⟩), u5, .func (.func 80) #[] #[.pointer (some ⟨gI, 0, none⟩)], u7, .pointer (some ⟨b0 + 1, 0, none⟩), u9, u10, .pointer (some ⟨g11, 0, none⟩), .pointer (some ⟨g12, 0, none⟩), .int .i64 x, u14, u15, u16, u17, u18, u19, u20, u21, u22, u23, u24, u25, u26, u27, u28, u29, u30, u31, u32, u33, u34, u35, u36, u37, u38, u39, u40, u41, u42, u43, u44, u45, u46, u47, u48, u49, u50, u51, u52, u53, u54, u55, u56, u57, u58, u59, u60, u61, u62, u63, u64, u65, u66, .int .i64 (r : Int), .bool true, u69, u70, .func (.func 80) #[] #[.pointer (some ⟨gI, 0, none⟩)], .int .i64 x, u73, u74, u75, u76, u77, u78, u79, u80, u81, u82, u83, u84, u85, u86, u87, u88, u89, u90, u91, u92, u93, u94, u95, u96, u97, u98, u99, u100, u101, u102, u103, u104, u105, u106, u107, u108], defers := [] }) ?assign ?body ?done ?stop
            case assign =>
              intro l x W K hK
              gi_wp2
              simpa using hK
            case body =>
              rintro l' pre x W ⟨h1, h2, h3, h4⟩ hlt'
              have UW := h4.out
              have p12 : W.cell? ⟨g12, 0, none⟩ = some (.int .i64 (pre.length : Int)) := h3.out.cell 0
              have f12 : W.frozen? ⟨g12, 0, none⟩ = false := h3.out.frozen 0
              have pW : W.cell? ⟨b0 + 1, 0, none⟩ = some (.slice A5 m.length c5) := ((HKB.out.same SA.out).upd UW (by omega)).cell 0
              have p11 : W.cell? ⟨g11, 0, none⟩ = some (.int .i64 (r : Int)) := (B11.out.upd UW (by omega)).cell 0
              have hB4w := (B4x.out.same SA.out).upd UW (by have := B4x.out.lt; omega)
              have p4 : W.cell? ⟨w.heap.size + 1, 0, none⟩ = some (.bool false) := hB4w.cell 0
              have f4 : W.frozen? ⟨w.heap.size + 1, 0, none⟩ = false := hB4w.frozen 0
              have hOw := own_upd (own_same HOx.out SA.out) UW fun g hg hh => by have := (HOx.out.lt g hg).2; omega
              obtain ⟨gA, u, hA5, _, hgA, hxu, hcu, _, _⟩ := own_cell hOw hlt'
              rw [List.getElem?_map] at hxu
              obtain ⟨y, hy, rfl⟩ := Option.map_eq_some_iff.1 hxu
              subst hA5
              have hw : IntKind.i64.wrap ((pre.length : Int) + 1) = (pre.length : Int) + 1 := by rw [IntKind.wrap_i64]; omega
              clear hOw hB4w
              by_cases hxy : x = y
              · subst hxy
                have hpre := Lib.hid (show pre ++ [x] <+: m from by
                  have h9 := h1.out
                  rw [List.prefix_iff_eq_take] at h9
                  rw [List.prefix_iff_eq_take, List.length_append, List.length_singleton, List.take_add_one, hy, ← h9]
                  rfl)
                have HBk := Lib.hid (h3.out.put 0 (.int .i64 ((pre.length : Int) + 1)))
                have HUk := Lib.hid (UW.put (r := g12) (i := 0) rfl (.int .i64 ((pre.length : Int) + 1)))
                by_cases hr1 : r = 1
                · have hri : (r : Int) = 1 := by omega
                  gi_wp2
                  have hp0 := h2.out hr1
                  refine ⟨(KeepsOthers.setCell _ _ _).from _, .inr ⟨rfl, hr1, Lib.hid (by rw [hp0]; rfl), Lib.hid ?_, HUk⟩⟩
                  have h9 := HBk.out
                  rw [hp0] at h9 ⊢
                  exact h9
                · have hri : ¬ ((r : Int) = 1) := by omega
                  gi_wp2
                  refine ⟨(KeepsOthers.setCell _ _ _).from _, (Upd.refl _ W).setCell (p := ⟨g12, 0, none⟩) (.inl (.inl rfl)) _, hpre, Lib.hid fun e => absurd e hr1, Lib.hid ?_, HUk⟩
                  rw [List.length_append, List.length_singleton]
                  exact HBk.out
              · have hnp := Lib.hid (show ¬ pre ++ [x] <+: m from fun h9 => hxy (by
                  obtain ⟨t, ht⟩ := h9
                  rw [← ht] at hy
                  simpa using hy))
                have hxb : (x != y) = true := by simpa using hxy
                gi_wp2
                exact ⟨(KeepsOthers.setCell _ _ _).from _, .inl ⟨rfl, hnp⟩⟩
            case done =>
              rintro D ys W hD hys ⟨h1, h2, h3, h4⟩ hK
              have e := hys.symm
              subst e
              have pW : W.cell? ⟨b0 + 1, 0, none⟩ = some (.slice A5 m.length c5) := ((HKB.out.same SA.out).upd h4.out (by omega)).cell 0
              have p11 : W.cell? ⟨g11, 0, none⟩ = some (.int .i64 (r : Int)) := (B11.out.upd h4.out (by omega)).cell 0
              have SW := Lib.hid (show Same wx W from SA.out.trans h4.out fun b hb hh => by omega)
              have MW := Lib.hid (show Marks wx.heap.size W ({ target := .collected D, args := #[] } :: ds) from Marks.cons (B' := Ws.heap.size) (MA.out.upd h4.out fun k hk => by subst hk; have h9 : Ws.heap[k]? = some (.cells #[.int .i64 0] 3 (0, 0)) := B12.out; rw [h9]; simp) (fun D' _ hm => MA.out.lt D' hm) hD (by omega) hK)
              have hw : IntKind.i64.wrap ((r : Int) + 1) = (r : Int) + 1 := by rw [IntKind.wrap_i64]; omega
              have hzW := SW.out.size
              have p12 : W.cell? ⟨g12, 0, none⟩ = some (.int .i64 (m.length : Int)) := h3.out.cell 0
              by_cases hr1 : r = 1
              · have hm0 := h2.out hr1
                have hri : (r : Int) = 1 := by omega
                simp only [hm0, List.length_nil] at p12 pW
                clear h1 h2 h3 h4 hK
                go_wp2_with fail
                go_roundg (3 - (r + 1))
                case measure => omega
                case rel => exact ⟨show 3 - (r + 1) = _ from rfl, hlt, Lib.hid (show Blk _ _ _ #[.int .i64 ((r + 1 : Nat) : Int)] from by rw [show ((r + 1 : Nat) : Int) = 2 by omega]; exact Blk.new W _ _), Lib.hid (SW.out.alloc _), Lib.hid hzW, Lib.hid (MW.out.alloc _)⟩
              · have hri : ¬ ((r : Int) = 1) := by omega
                clear h1 h2 h3 h4 hK
                go_wp2_with fail
                go_roundg (3 - (r + 1))
                case measure => omega
                case rel => exact ⟨show 3 - (r + 1) = _ from rfl, hlt, Lib.hid (Blk.new W 3 #[.int .i64 ((r : Int) + 1)]), Lib.hid (SW.out.alloc _), Lib.hid hzW, Lib.hid (MW.out.alloc _)⟩
            case stop =>
              rintro D c pre W hD hsp hix hK
              rcases hix with ⟨_, hn⟩ | ⟨rfl, hr1, h3, h4, h5⟩
              · exact absurd hsp hn.out
              · have hlt := hlt
                have pW : W.cell? ⟨b0 + 1, 0, none⟩ = some (.slice A5 m.length c5) := ((HKB.out.same SA.out).upd h5.out (by omega)).cell 0
                have p11 : W.cell? ⟨g11, 0, none⟩ = some (.int .i64 (r : Int)) := (B11.out.upd h5.out (by omega)).cell 0
                have SW := Lib.hid (show Same wx W from SA.out.trans h5.out fun b hb hh => by omega)
                have MW := Lib.hid (show Marks wx.heap.size W ({ target := .collected D, args := #[] } :: ds) from Marks.cons (B' := Ws.heap.size) (MA.out.upd h5.out fun k hk => by subst hk; have h9 : Ws.heap[k]? = some (.cells #[.int .i64 0] 3 (0, 0)) := B12.out; rw [h9]; simp) (fun D' _ hm => MA.out.lt D' hm) hD (by omega) hK)
                have hw : IntKind.i64.wrap ((r : Int) + 1) = (r : Int) + 1 := by rw [IntKind.wrap_i64]; omega
                have hzW := SW.out.size
                have p12 : W.cell? ⟨g12, 0, none⟩ = some (.int .i64 1) := h4.out.cell 0
                have hmin : min (1 : Int) (m.length : Int) = 1 := by
                  have h8 := hsp.length_le
                  have h9 := h3.out
                  omega
                refine wpIn_wide.2 ?_
                have hri : (r : Int) = 1 := by omega
                clear h3 h4 h5 hK
                go_wp2_with fail
                go_roundg (3 - (r + 1))
                case measure => omega
                case rel => exact ⟨show 3 - (r + 1) = _ from rfl, hlt, Lib.hid (show Blk _ _ _ #[.int .i64 ((r + 1 : Nat) : Int)] from by rw [show ((r + 1 : Nat) : Int) = 2 by omega]; exact Blk.new W _ _), Lib.hid (SW.out.alloc _), Lib.hid hzW, Lib.hid (MW.out.alloc _)⟩
          · have hr : r = 3 := by omega
            subst hr
            have p4 : wr.cell? ⟨w.heap.size + 1, 0, none⟩ = some (.bool false) := (B4x.out.same KS.out).cell 0
            have f4 : wr.frozen? ⟨w.heap.size + 1, 0, none⟩ = false := (B4x.out.same KS.out).frozen 0
            go_wp2_with fail
            refine Marks.leaves (B := wx.heap.size) (KM.out.put (B4x.out.same KS.out) (.bool true)) fun W' hu hc => ?_
            have hbx := (B4x.out.same KS.out).put 0 (.bool true)
            have hb9 : W'.heap[w.heap.size + 1]? = (wr.setCell ⟨w.heap.size + 1, 0, none⟩ (.bool true)).heap[w.heap.size + 1]? := hc _ ⟨_, _, _, hbx⟩
            have hb8 : Blk W' (w.heap.size + 1) 4 #[.bool true] := hb9.trans hbx
            have p9 : W'.cell? ⟨w.heap.size + 1, 0, none⟩ = some (.bool true) := hb8.cell 0
            have hSm := ((Sx.out.trans KS.out fun _ _ hh => hh).putNew (r := w.heap.size + 1) (i := 0) (Nat.le_succ _) (.bool true)).trans hu fun b hb hh => by have := Sx.out.size; omega
            refine ⟨.bool true, ?_, rfl, hSm⟩
            simp [results, Tryz.f11, go_sem, p9]
end Go.Proofs.YtlnademnfnhbpaaGreat
