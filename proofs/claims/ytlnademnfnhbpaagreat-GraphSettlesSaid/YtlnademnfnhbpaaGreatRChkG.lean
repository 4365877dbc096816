/- The reference's Check of a graph. -/
import Derived.Test.YtlnademnfnhbpaaGreatRWrong
import Derived.Test.YtlnademnfnhbpaaGreatRSorted
import Derived.Test.YtlnademnfnhbpaaGreatGchkOk
import Derived.Deep.WholeRow
namespace Go.Proofs.YtlnademnfnhbpaaGreat
def isFalseV : Value → Bool
  | .bool b => !b
  | _ => false
theorem zero_list : (Tryz.zeroCells65).toList.all isFalseV = true := by kernel_rfl
theorem zero_mem : ∀ v ∈ (Tryz.zeroCells65).toList, v = .bool false := fun v hv => by
  have h1 := List.all_eq_true.1 zero_list v hv
  cases v <;> simp [isFalseV] at h1
  subst h1
  rfl
theorem zero_one : (Tryz.zeroCells65).all (·.oneCell') = true := by
  rw [← Array.all_toList, List.all_eq_true]
  intro v hv
  rw [zero_mem v hv]
  rfl
theorem zero_at {y : Nat} (hy : y < 1024) : (Tryz.zeroCells65)[y]? = some (.bool false) := by
  have hs : y < (Tryz.zeroCells65).size := by rw [Tryz.zeroCells65_size]; exact hy
  rw [Array.getElem?_eq_getElem hs]
  congr 1
  exact zero_mem _ (Array.getElem_mem_toList hs)
theorem zero_info : (Tryz.prog.info? 65).map (·.size) = some (Tryz.zeroCells65).size := by
  rw [Tryz.zeroCells65_size]
  kernel_rfl
end Go.Proofs.YtlnademnfnhbpaaGreat
namespace Go.Proofs.YtlnademnfnhbpaaGreat
open Go.RowKit

/-- How many names the reference tells. -/
theorem rnamesL_spec {F : Nat → Prop} {g : GR} (k : Int) (w : World) (h : RdG w F g) (hT : (allNames g.dat k).length ≤ 8796093022208) {m : List ByteArray} (hm : Srt (allNames g.dat k) m) :
    Calls Tryz.prog 24 #[g.agg, .int .i64 k] w fun e w' => ∃ (A : Option Addr) (c : Nat), e = .returned (.slice A m.length c) ∧ Same w w' := by
  refine (rnames_spec k w g h hT).mono ?_
  rintro e w' ⟨A, c, m', rfl, _, h2, _, h4⟩
  have h5 := (names_eq (isNames_of h2.out) hm).2
  rw [List.length_map] at h5
  rw [h5]
  exact ⟨A, c, rfl, h4⟩

def lastI : Option Int → Int
  | none => -1
  | some q => q
/-- What a graph's Check tells, where its tail tells tl. -/
def fullErr (g : GGraph) (tl : Int) : Int × Nat :=
  match headErr g with
  | some x => x
  | none => (tl, 0)
/-- Which ids have come. -/
structure Bits (w : World) (gT : Nat) (l : List Int) : Prop where
  blk : ∃ cs, Blk w gT 65 cs ∧ cs.size = 1024 ∧ ∀ y : Nat, y < 1024 → cs[y]? = some (.bool (decide ((y : Int) ∈ l)))
theorem Bits.upd {S : Nat → Prop} {w w' : World} {gT : Nat} {l : List Int} (h : Bits w gT l) (hu : Upd S w w') (hs : ¬ S gT) : Bits w' gT l := by
  obtain ⟨cs, h1, h2, h3⟩ := h.blk
  exact ⟨cs, h1.upd hu hs, h2, h3⟩
theorem Bits.same {w w' : World} {gT : Nat} {l : List Int} (h : Bits w gT l) (hu : Same w w') : Bits w' gT l := h.upd hu fun f => f
theorem Bits.lt {w : World} {gT : Nat} {l : List Int} (h : Bits w gT l) : gT < w.heap.size := by
  obtain ⟨cs, h1, _⟩ := h.blk
  exact h1.lt
theorem Bits.cell {w : World} {gT : Nat} {l : List Int} (h : Bits w gT l) {y : Nat} (hy : y < 1024) : w.cell? ⟨gT, y, none⟩ = some (.bool (decide ((y : Int) ∈ l))) := by
  obtain ⟨cs, h1, _, h3⟩ := h.blk
  exact (h1.cell y).trans (h3 y hy)
theorem Bits.frozen {w : World} {gT : Nat} {l : List Int} (h : Bits w gT l) (y : Nat) : w.frozen? ⟨gT, y, none⟩ = false := by
  obtain ⟨cs, h1, _⟩ := h.blk
  exact h1.frozen y
theorem Bits.put {w : World} {gT : Nat} {l : List Int} (h : Bits w gT l) {d : Nat} (hd : d < 1024) : Bits (w.setCell ⟨gT, d, none⟩ (.bool true)) gT (l ++ [(d : Int)]) := by
  obtain ⟨cs, h1, h2, h3⟩ := h.blk
  refine ⟨_, h1.put d (.bool true), by simpa using h2, fun y hy => ?_⟩
  rw [Array.getElem?_setIfInBounds]
  by_cases e : d = y
  · subst e
    rw [if_pos rfl, if_pos (by omega)]
    simp
  · rw [if_neg e, h3 y hy]
    have hn : ¬ (y : Int) = (d : Int) := by omega
    simp [hn]
theorem Bits.zero {w : World} {gT : Nat} (h : Blk w gT 65 Tryz.zeroCells65) : Bits w gT [] := ⟨_, h, Tryz.zeroCells65_size, fun y hy => by
  rw [zero_at hy]
  simp⟩

set_option maxHeartbeats 8000000 in
set_option maxRecDepth 100000 in
theorem rcheckG_spec {F : Nat → Prop} (w : World) (g : GR) (h : RdG w F g) (hf : GFit g) {m : Int → List ByteArray} (hm : ∀ k, Srt (allNames g.dat k) (m k)) (hT : headErr g.dat = none → ∀ k, (allNames g.dat k).length ≤ 8796093022208)
    (hW : headErr g.dat = none → wsum (g.ns.flatMap ND.props) + wsum (g.rs.flatMap RL.props) ≤ 4611686018427387904) {tl : Int} (htl : tailErr (m 1).length (m 2).length (m 3).length (wsum (g.ns.flatMap ND.props) + wsum (g.rs.flatMap RL.props)) = tl) {e : Int} {at_ : Nat} (hE : fullErr g.dat tl = (e, at_)) :
    Calls Tryz.prog 18 #[g.agg] w fun x w' => x = .returned (.tuple #[.int .i64 e, .int .i64 at_]) ∧ Same w w' := by
  obtain ⟨ns, AN, nN, cN, rs, AR, nR, cR⟩ := g
  have HE := Lib.hid hE
  have HM := Lib.hid hm
  have HT := Lib.hid hT
  have HW := Lib.hid hW
  have HTl := Lib.hid htl
  have HF := Lib.hid hf
  have hmx := h.nodes.row.max
  have hle := h.nodes.row.le
  have hmx' := h.rels.row.max
  have hle' := h.rels.row.le
  have hnN := hf.nN
  have hnR := hf.nR
  unfold maxLen at hmx hmx'
  have HL := Lib.hid h.nodes.len
  have HL' := Lib.hid h.rels.len
  simp only at hmx hle hmx' hle' hnN hnR HL HL'
  have hs0 := ((Upd.refl (fun _ => False) w).alloc (.cells #[.slice AN nN cN, .slice AR nR cR] 27)).alloc (.cells Tryz.zeroCells65 65)
  have hb0 := (Blk.new w 27 #[.slice AN nN cN, .slice AR nR cR]).alloc (.cells Tryz.zeroCells65 65)
  have hbT := Blk.new (w.alloc (.cells #[.slice AN nN cN, .slice AR nR cR] 27)) 65 Tryz.zeroCells65
  rw [World.size_alloc] at hbT
  have HBits := Lib.hid (Bits.zero hbT)
  have HS1 := Lib.hid hs0
  have HB1 := Lib.hid hb0
  have HG1 := Lib.hid ((h.mono (F' := fun b => b < w.heap.size) fun b hb _ => hb).same hs0)
  have hst := run_storeCells_new (P := Tryz.prog) (w.alloc (.cells #[.slice AN nN cN, .slice AR nR cR] 27)) 65 Tryz.zeroCells65 Tryz.zeroCells65 zero_info rfl zero_one
  rw [World.size_alloc] at hst
  clear h hf hE hm hT hW htl hs0 hb0 hbT
  go_enter Tryz.func18, Tryz.ntmps18
  go_upto_region 2 with fail
  clear hst
  generalize (w.alloc (.cells #[.slice AN nN cN, .slice AR nR cR] 27)).alloc (.cells Tryz.zeroCells65 65) = w1 at *
  go_wp2_with fail
  go_loopg [6, 5] nN (fun gh ix s5 wr => ∃ i : Nat, nN - i = gh ∧ i ≤ nN ∧ ix = .int .i64 i ∧ s5 = .int .i64 (lastI (aheadK ND.id ns i)) ∧ Hid (Bits wr (w.heap.size + 1) ((ns.take i).map ND.id)) ∧ Hid (Upd (fun k => k = w.heap.size + 1) w1 wr) ∧ Hid (∀ y ∈ (ns.take i).map ND.id, 0 ≤ y ∧ y < 1024) ∧ Hid (nodesErr none 0 (ns.map ND.dat) = nodesErr (aheadK ND.id ns i) i ((ns.map ND.dat).drop i)))
  case atStart => exact ⟨0, rfl, Nat.zero_le _, rfl, rfl, HBits, Lib.hid (Upd.refl _ _), Lib.hid (by simp), Lib.hid rfl⟩
  case round =>
    obtain ⟨i, rfl, hi, rfl, rfl, KB, KU, KI, KE⟩ := hrel
    have HSw := Lib.hid (show Same w wr from HS1.out.trans KU.out fun b hb hh => by omega)
    have HGw := Lib.hid (HG1.out.upd KU.out fun b hb hh => by omega)
    have HBw := Lib.hid (HB1.out.upd KU.out (by omega))
    by_cases hlt : i < nN
    · obtain ⟨b, o, x, hA, _, hb, hx, hxm, r0, r1, r2⟩ := HGw.out.nodes.at_ hlt
      simp only at hA
      subst hA
      have hke := KE.out
      have hxd : (ns.map ND.dat)[i]? = some x.dat := by rw [List.getElem?_map, hx]; rfl
      rw [drop_cons hxd] at hke
      simp only [nodesErr] at hke
      have HLab := Lib.hid (HGw.out.nodes.lab x hxm)
      have HPro := Lib.hid (HGw.out.nodes.pro x hxm)
      have HPf := Lib.hid (HF.out.nodes x hxm)
      have HAk := Lib.hid (show aheadK ND.id ns (i + 1) = some x.id from by simp only [aheadK, hx]; rfl)
      have HTk := Lib.hid (show (ns.take (i + 1)).map ND.id = (ns.take i).map ND.id ++ [x.id] from by rw [List.take_add_one, hx, Option.toList_some, List.map_append]; rfl)
      have hret := fun (C : Int) (h1 : nodeErr (aheadK ND.id ns i) x.dat = C) (h2 : C ≠ 0) => show C = e ∧ i = at_ from by
        have hee := HE.out
        unfold fullErr headErr at hee
        simp only [GR.dat] at hee
        rw [hke, h1, if_pos h2] at hee
        injection hee with h3 h4
        exact ⟨h3, h4⟩
      have HRet := Lib.hid hret
      have HOn := Lib.hid (fun h1 : nodeErr (aheadK ND.id ns i) x.dat = 0 => show nodesErr none 0 (ns.map ND.dat) = nodesErr (some x.id) (i + 1) ((ns.map ND.dat).drop (i + 1)) from by
        rw [hke, if_neg (by rw [h1]; simp)]
        rfl)
      obtain ⟨pv, hpv⟩ : ∃ pv, aheadK ND.id ns i = pv := ⟨_, rfl⟩
      rw [hpv] at HRet HOn ⊢
      have p0 : wr.cell? ⟨w.heap.size, 0, none⟩ = some (.slice (some ⟨b, o, none⟩) nN cN) := HBw.out.cell 0
      obtain ⟨id, lb, AL, nL, cL, px, AP, nP, cP⟩ := x
      simp only [ND.dat] at r0 r1 r2 HLab HPro HPf HAk HTk HRet HOn
      clear hx hxm hxd hke hret hpv
      obtain ⟨lv, hlv⟩ : ∃ lv, lastI pv = lv := ⟨_, rfl⟩
      rw [hlv]
      by_cases hrange : id < 0 ∨ 1024 ≤ id
      · have HR := HRet.out 61 (by unfold nodeErr; rw [if_pos hrange]) (by decide)
        obtain ⟨rfl, rfl⟩ := HR
        clear r1 r2
        by_cases hneg : id < 0
        · go_wp2
          go_ret2
          exact ⟨rfl, HSw.out⟩
        · have hbig : 1023 < id := by omega
          go_wp2
          go_ret2
          exact ⟨rfl, HSw.out⟩
      · have hn1 : ¬ id < 0 := by omega
        have hn2 : ¬ 1023 < id := by omega
        obtain ⟨d, rfl⟩ : ∃ d : Nat, id = d := ⟨id.toNat, by omega⟩
        have hd : d < 1024 := by omega
        by_cases hord : notAfterI (d : Int) pv = true
        · obtain ⟨rfl, rfl⟩ := HRet.out 6 (by unfold nodeErr; rw [if_neg hrange, if_pos hord]) (by decide)
          have hle5 : (d : Int) ≤ lv := by
            rw [← hlv]
            cases pv with
            | none => simp [notAfterI] at hord
            | some q => simpa [notAfterI, lastI] using hord
          clear r1 r2
          go_wp2
          go_ret2
          exact ⟨rfl, HSw.out⟩
        · have hle5 : ¬ (d : Int) ≤ lv := by
            rw [← hlv]
            cases pv with
            | none => simp [lastI]; omega
            | some q => simpa [notAfterI, lastI] using hord
          have c4 : wr.cell? ⟨w.heap.size + 1, d, none⟩ = some (.bool (decide ((d : Int) ∈ (ns.take i).map ND.id))) := KB.out.cell hd
          have f4 : wr.frozen? ⟨w.heap.size + 1, d, none⟩ = false := KB.out.frozen d
          have HB' := Lib.hid (KB.out.put hd)
          have HIds := Lib.hid (show ∀ y ∈ (ns.take i).map ND.id ++ [(d : Int)], 0 ≤ y ∧ y < 1024 from fun y hy => by
            rcases List.mem_append.1 hy with hy | hy
            · exact KI.out y hy
            · rw [List.mem_singleton] at hy; omega)
          have hu := KU.out.put (r := w.heap.size + 1) (i := d) rfl (.bool true)
          have HU' := Lib.hid hu
          have hu0 := (Upd.refl (fun k => k = w.heap.size + 1) wr).put1 (i := d) (.bool true)
          have HS' := Lib.hid (show Same w (wr.setCell ⟨w.heap.size + 1, d, none⟩ (.bool true)) from HS1.out.trans hu fun b hb hh => by omega)
          have HLab' := Lib.hid (HLab.out.upd hu0 fun b hb hh => by omega)
          have HPro' := Lib.hid (HPro.out.upd hu0 fun b hb hh => by omega)
          obtain ⟨C, hC⟩ : ∃ C, insideErr lb (px.map PR.dat) = C := ⟨_, rfl⟩
          have HC := Lib.hid hC
          have HNE := Lib.hid (show nodeErr pv ⟨(d : Int), lb, px.map PR.dat⟩ = C from by
            unfold nodeErr
            rw [if_neg hrange, if_neg hord]
            exact hC)
          obtain ⟨bt, hbt⟩ : ∃ bt, decide ((d : Int) ∈ (ns.take i).map ND.id) = bt := ⟨_, rfl⟩
          rw [hbt] at c4
          have hwb : b < w.heap.size := hb
          have hne1 : b ≠ w.heap.size + 1 := by omega
          have hne2 : w.heap.size ≠ w.heap.size + 1 := by omega
          clear hC hu hu0 hbt KB
          go_wp2_with fail
          refine (nodeWrong_spec _ HLab'.out HPro'.out HPf.out HC.out).mono ?_
          rintro y w7 ⟨rfl, hs7⟩
          have HS7 := Lib.hid (HS'.out.same hs7)
          have HB7 := Lib.hid (HB'.out.same hs7)
          have HU7 := Lib.hid (HU'.out.same hs7)
          clear hs7 r0 r1 r2 p0 c4 f4
          by_cases hz : C = 0
          · subst hz
            have HN := Lib.hid (HOn.out HNE.out)
            go_wp2
            go_roundg (nN - (i + 1))
            case measure => omega
            case rel => exact ⟨i + 1, rfl, by omega, by go_num, by rw [HAk.out]; rfl, Lib.hid (by rw [HTk.out]; exact HB7.out), HU7, Lib.hid (by rw [HTk.out]; exact HIds.out), Lib.hid (by rw [HAk.out]; exact HN.out)⟩
          · obtain ⟨rfl, rfl⟩ := HRet.out C HNE.out hz
            have hcn : (C != 0) = true := by rw [bne_iff_ne]; exact hz
            go_wp2
            go_ret2
            exact ⟨rfl, HS7.out⟩
    · have hin : i = nN := by omega
      have htk : (ns.take i).map ND.id = ns.map ND.id := by rw [List.take_of_length_le (by rw [HL.out]; omega)]
      rw [htk] at KB KI
      have hke := KE.out
      rw [List.drop_of_length_le (by rw [List.length_map, HL.out]; omega)] at hke
      simp only [nodesErr] at hke
      obtain ⟨th, hth⟩ : ∃ th, thereP (GR.dat ⟨ns, AN, nN, cN, rs, AR, nR, cR⟩) = th := ⟨_, rfl⟩
      have HTh := Lib.hid (show ∀ y, th y = decide (y ∈ ns.map ND.id) from fun y => by
        rw [← hth]
        unfold thereP
        simp only [GR.dat, List.map_map]
        have hcomp : (ns.map (GNode.id ∘ ND.dat)) = ns.map ND.id := List.map_congr_left fun _ _ => rfl
        rw [hcomp])
      have HHead := Lib.hid (show headErr (GR.dat ⟨ns, AN, nN, cN, rs, AR, nR, cR⟩) = (relsErr th none 0 (rs.map RL.dat)).map fun e => (e.1, nN + e.2) from by
        unfold headErr
        rw [hth]
        simp only [GR.dat]
        rw [hke]
        simp only [List.length_map]
        rw [HL.out])
      clear hin htk hke hth KE
      generalize wr = w2 at *
      have p0 : w2.cell? ⟨w.heap.size, 0, none⟩ = some (.slice AN nN cN) := HBw.out.cell 0
      go_wp2_with fail
      clear p0
      go_loopg [9, 5, 10] nR (fun gh jx s5 s10 wr => ∃ j : Nat, nR - j = gh ∧ j ≤ nR ∧ jx = .int .i64 j ∧ s5 = .int .i64 (lastI (aheadK RL.id rs j)) ∧ Hid (Same w2 wr) ∧ Hid (relsErr th none 0 (rs.map RL.dat) = relsErr th (aheadK RL.id rs j) j ((rs.map RL.dat).drop j)))
      case atStart => exact ⟨0, rfl, Nat.zero_le _, rfl, rfl, Lib.hid (Upd.refl _ _), Lib.hid rfl⟩
      case round =>
        obtain ⟨j, rfl, hj, rfl, rfl, KS, KE⟩ := hrel
        have HGx := Lib.hid (HGw.out.same KS.out)
        have HBx := Lib.hid (HBw.out.same KS.out)
        have HSx := Lib.hid (HSw.out.same KS.out)
        have HTx := Lib.hid (KB.out.same KS.out)
        by_cases hltj : j < nR
        · obtain ⟨b, o, x, hA, _, hb, hx, hxm, r0, r1, r2, r3, r4⟩ := HGx.out.rels.at_ hltj
          simp only at hA
          subst hA
          have hke := KE.out
          have hxd : (rs.map RL.dat)[j]? = some x.dat := by rw [List.getElem?_map, hx]; rfl
          rw [drop_cons hxd] at hke
          simp only [relsErr] at hke
          have HAk := Lib.hid (show aheadK RL.id rs (j + 1) = some x.id from by simp only [aheadK, hx]; rfl)
          have HPf := Lib.hid (HF.out.rels x hxm)
          have hret := fun (C : Int) (h1 : relErr th (aheadK RL.id rs j) x.dat = C) (h2 : C ≠ 0) => show C = e ∧ nN + j = at_ from by
            have hee := HE.out
            unfold fullErr at hee
            rw [HHead.out, hke, h1, if_pos h2] at hee
            injection hee with h3 h4
            exact ⟨h3, h4⟩
          have HRet := Lib.hid hret
          have HOn := Lib.hid (fun h1 : relErr th (aheadK RL.id rs j) x.dat = 0 => show relsErr th none 0 (rs.map RL.dat) = relsErr th (some x.id) (j + 1) ((rs.map RL.dat).drop (j + 1)) from by
            rw [hke, if_neg (by rw [h1]; simp)]
            rfl)
          obtain ⟨pv, hpv⟩ : ∃ pv, aheadK RL.id rs j = pv := ⟨_, rfl⟩
          rw [hpv] at HRet HOn ⊢
          have p1 : wr.cell? ⟨w.heap.size, 1, none⟩ = some (.slice (some ⟨b, o, none⟩) nR cR) := HBx.out.cell 1
          have HProX := Lib.hid (HGx.out.rels.pro x hxm)
          obtain ⟨id, tx, sx, dx, px, AP, nP, cP⟩ := x
          simp only [RL.dat] at r0 r1 r2 r3 r4 HPf HAk HRet HOn HProX
          clear hx hxm hxd hke hret hpv
          obtain ⟨lv, hlv⟩ : ∃ lv, lastI pv = lv := ⟨_, rfl⟩
          rw [hlv]
          have hsA := (Upd.refl (fun _ => False) wr).alloc (.cells #[.int .i64 id, .string tx, .int .i64 sx, .int .i64 dx, .slice AP nP cP] 47)
          have HBA := Lib.hid (Blk.new wr 47 #[.int .i64 id, .string tx, .int .i64 sx, .int .i64 dx, .slice AP nP cP])
          have HSA := Lib.hid (HSx.out.same hsA)
          have HKA := Lib.hid (KS.out.same hsA)
          have HB0A := Lib.hid (HBx.out.same hsA)
          have HTA := Lib.hid (HTx.out.same hsA)
          have HPA := Lib.hid (HProX.out.same hsA)
          clear hsA
          go_upto_region 21 with fail
          clear r0 r1 r2 r3 r4 p1
          generalize wr.alloc (.cells #[.int .i64 id, .string tx, .int .i64 sx, .int .i64 dx, .slice AP nP cP] 47) = w6 at *
          generalize wr.heap.size = g6 at *
          have p0 : w6.cell? ⟨w.heap.size, 0, none⟩ = some (.slice AN nN cN) := HB0A.out.cell 0
          have q0 : w6.cell? ⟨g6, 0, none⟩ = some (.int .i64 id) := HBA.out.cell 0
          have hwj : IntKind.i64.wrap ((nN : Int) + (j : Int)) = ((nN + j : Nat) : Int) := by rw [IntKind.wrap_i64]; omega
          obtain ⟨pl, hpl⟩ : ∃ pl, nN + j = pl := ⟨_, rfl⟩
          rw [hpl] at hwj HRet
          by_cases hrange : id < 0 ∨ 2048 ≤ id
          · obtain ⟨rfl, rfl⟩ := HRet.out 62 (by unfold relErr; rw [if_pos hrange]) (by decide)
            by_cases hneg : id < 0
            · go_wp2
              go_ret2
              exact ⟨rfl, HSA.out⟩
            · have hbig : 2047 < id := by omega
              go_wp2
              go_ret2
              exact ⟨rfl, HSA.out⟩
          · have hn1 : ¬ id < 0 := by omega
            have hn2 : ¬ 2047 < id := by omega
            by_cases hord : notAfterI id pv = true
            · obtain ⟨rfl, rfl⟩ := HRet.out 6 (by unfold relErr; rw [if_neg hrange, if_pos hord]) (by decide)
              have hle5 : id ≤ lv := by
                rw [← hlv]
                cases pv with
                | none => simp [notAfterI] at hord
                | some q => simpa [notAfterI, lastI] using hord
              go_wp2
              go_ret2
              exact ⟨rfl, HSA.out⟩
            · have hle5 : ¬ id ≤ lv := by
                rw [← hlv]
                cases pv with
                | none => simp [lastI]; omega
                | some q => simpa [notAfterI, lastI] using hord
              have q1 : w6.cell? ⟨g6, 1, none⟩ = some (.string tx) := HBA.out.cell 1
              have HHF := Lib.hid (show ∀ y, (y < 0 ∨ 1023 < y) → th y = false from fun y hy => by
                rw [HTh.out y, decide_eq_false_iff_not]
                intro hm
                have h9 := KI.out y hm
                omega)
              go_wp2_with fail
              refine (rgood_spec tx _).mono ?_
              rintro y w7 ⟨rfl, hs7⟩
              have HS7 := Lib.hid (HSA.out.same hs7)
              have HK7 := Lib.hid (HKA.out.same hs7)
              have HT7 := Lib.hid (HTA.out.same hs7)
              have HP7 := Lib.hid (HPA.out.same hs7)
              have hbx7 := HBA.out.same hs7
              have q2 : w7.cell? ⟨g6, 2, none⟩ = some (.int .i64 sx) := hbx7.cell 2
              have q3 : w7.cell? ⟨g6, 3, none⟩ = some (.int .i64 dx) := hbx7.cell 3
              have q4 : w7.cell? ⟨g6, 4, none⟩ = some (.slice AP nP cP) := hbx7.cell 4
              clear hs7 hbx7 p0 q0 q1 HSA HKA HTA HPA HBA HB0A
              cases hg : goodN tx with
              | false =>
                obtain ⟨rfl, rfl⟩ := HRet.out 60 (by unfold relErr; rw [if_neg hrange, if_neg hord, if_pos hg]) (by decide)
                clear hg
                go_wp2
                go_ret2
                exact ⟨rfl, HS7.out⟩
              | true =>
                have H65 := Lib.hid (fun hh : th sx = false ∨ th dx = false => HRet.out 65 (by unfold relErr; rw [if_neg hrange, if_neg hord, if_neg (by rw [hg]; simp), if_pos hh]) (by decide))
                have HPE := Lib.hid (fun hh : ¬ (th sx = false ∨ th dx = false) => show relErr th pv ⟨id, tx, sx, dx, px.map PR.dat⟩ = propsErr (px.map PR.dat) from by unfold relErr; rw [if_neg hrange, if_neg hord, if_neg (by rw [hg]; simp), if_neg hh])
                clear hg hrange hord hle5
                by_cases hs0 : sx < 0
                · skip
                  obtain ⟨rfl, rfl⟩ := H65.out (.inl (HHF.out sx (.inl hs0)))
                  go_wp2
                  go_ret2
                  exact ⟨rfl, HS7.out⟩
                by_cases hd0 : dx < 0
                · skip
                  obtain ⟨rfl, rfl⟩ := H65.out (.inr (HHF.out dx (.inl hd0)))
                  go_wp2
                  go_ret2
                  exact ⟨rfl, HS7.out⟩
                by_cases hs1 : 1023 < sx
                · skip
                  obtain ⟨rfl, rfl⟩ := H65.out (.inl (HHF.out sx (.inr hs1)))
                  go_wp2
                  go_ret2
                  exact ⟨rfl, HS7.out⟩
                by_cases hd1 : 1023 < dx
                · skip
                  obtain ⟨rfl, rfl⟩ := H65.out (.inr (HHF.out dx (.inr hd1)))
                  go_wp2
                  go_ret2
                  exact ⟨rfl, HS7.out⟩
                obtain ⟨s', rfl⟩ : ∃ s' : Nat, sx = s' := ⟨sx.toNat, by omega⟩
                obtain ⟨d', rfl⟩ : ∃ d' : Nat, dx = d' := ⟨dx.toNat, by omega⟩
                have hs' : s' < 1024 := by omega
                have hd' : d' < 1024 := by omega
                have c1 : w7.cell? ⟨w.heap.size + 1, s', none⟩ = some (.bool (th (s' : Int))) := by rw [HTh.out]; exact HT7.out.cell hs'
                have c2 : w7.cell? ⟨w.heap.size + 1, d', none⟩ = some (.bool (th (d' : Int))) := by rw [HTh.out]; exact HT7.out.cell hd'
                obtain ⟨ts, hts⟩ : ∃ ts, th (s' : Int) = ts := ⟨_, rfl⟩
                obtain ⟨td, htd⟩ : ∃ td, th (d' : Int) = td := ⟨_, rfl⟩
                rw [hts] at c1
                rw [htd] at c2
                rw [hts, htd] at H65 HPE
                clear hts htd HHF
                cases ts with
                | false =>
                  obtain ⟨rfl, rfl⟩ := H65.out (.inl rfl)
                  go_wp2
                  go_ret2
                  exact ⟨rfl, HS7.out⟩
                | true =>
                cases td with
                | false =>
                  obtain ⟨rfl, rfl⟩ := H65.out (.inr rfl)
                  go_wp2
                  go_ret2
                  exact ⟨rfl, HS7.out⟩
                | true =>
                obtain ⟨C, hC⟩ : ∃ C, propsErr (px.map PR.dat) = C := ⟨_, rfl⟩
                have HC := Lib.hid hC
                have HRe := Lib.hid ((HPE.out (by simp)).trans hC)
                clear hC H65 HPE
                go_wp2_with fail
                refine (propsWrong_spec _ HP7.out HPf.out HC.out).mono ?_
                rintro y w8 ⟨rfl, hs8⟩
                have HS8 := Lib.hid (HS7.out.same hs8)
                have HK8 := Lib.hid (HK7.out.same hs8)
                clear hs8 q2 q3 q4 c1 c2
                by_cases hz : C = 0
                · subst hz
                  have HN := Lib.hid (HOn.out HRe.out)
                  go_wp2
                  go_roundg (nR - (j + 1))
                  case measure => omega
                  case rel => exact ⟨j + 1, rfl, by omega, by go_num, by rw [HAk.out]; rfl, HK8, Lib.hid (by rw [HAk.out]; exact HN.out)⟩
                · obtain ⟨rfl, rfl⟩ := HRet.out C HRe.out hz
                  have hcn : (C != 0) = true := by rw [bne_iff_ne]; exact hz
                  go_wp2
                  go_ret2
                  exact ⟨rfl, HS8.out⟩
        · have hke := KE.out
          rw [List.drop_of_length_le (by rw [List.length_map, HL'.out]; omega)] at hke
          simp only [relsErr] at hke
          have hnone : headErr (GR.dat ⟨ns, AN, nN, cN, rs, AR, nR, cR⟩) = none := by rw [HHead.out, hke]; rfl
          have hfe := HE.out
          unfold fullErr at hfe
          rw [hnone] at hfe
          injection hfe with he1 he2
          subst he1 he2
          have HTT := Lib.hid (HT.out hnone)
          have HWW := Lib.hid (HW.out hnone)
          have p0 : wr.cell? ⟨w.heap.size, 0, none⟩ = some (.slice AN nN cN) := HBx.out.cell 0
          have p1 : wr.cell? ⟨w.heap.size, 1, none⟩ = some (.slice AR nR cR) := HBx.out.cell 1
          obtain ⟨T, hT⟩ : ∃ T, wsum (ns.flatMap ND.props) + wsum (rs.flatMap RL.props) = T := ⟨_, rfl⟩
          have htl := HTl.out
          rw [hT] at htl
          have HTeq := Lib.hid hT
          obtain ⟨a1, ha1⟩ : ∃ a, (m 1).length = a := ⟨_, rfl⟩
          obtain ⟨a2, ha2⟩ : ∃ a, (m 2).length = a := ⟨_, rfl⟩
          obtain ⟨a3, ha3⟩ : ∃ a, (m 3).length = a := ⟨_, rfl⟩
          rw [ha1, ha2, ha3] at htl
          have HA1 := Lib.hid ha1
          have HA2 := Lib.hid ha2
          have HA3 := Lib.hid ha3
          have hWb : T ≤ 4611686018427387904 := by
            have h9 := HWW.out
            rw [hT] at h9
            exact h9
          unfold tailErr at htl
          have HTL := Lib.hid htl
          clear hke hnone hT ha1 ha2 ha3 htl KE
          by_cases g1 : 200 < a1
          · have g1i : (200 : Int) < a1 := by omega
            have h66 := HTL.out
            rw [if_pos (.inl g1)] at h66
            subst h66
            go_wp2_with (go_at_call 24; refine (rnamesL_spec 1 _ HGx.out (HTT.out 1) (HM.out 1)).mono ?_; rintro x w9 ⟨A9, c9, rfl, hs9⟩; rw [HA1.out]; have HS9 := Lib.hid (HSx.out.same hs9); clear hs9)
            go_ret2
            exact ⟨rfl, HS9.out⟩
          have g1i : ¬ (200 : Int) < a1 := by omega
          by_cases g2 : 200 < a2
          · have g2i : (200 : Int) < a2 := by omega
            have h66 := HTL.out
            rw [if_pos (.inr (.inl g2))] at h66
            subst h66
            have tok : True := trivial
            go_wp2_with (first
              | (go_at_call 24; (have _t := tok); clear tok; refine (rnamesL_spec 1 _ HGx.out (HTT.out 1) (HM.out 1)).mono ?_; rintro x w9 ⟨A9, c9, rfl, hs9⟩; rw [HA1.out]; have HS9 := Lib.hid (HSx.out.same hs9); have HG9 := Lib.hid (HGx.out.same hs9); have q0 : w9.cell? ⟨w.heap.size, 0, none⟩ = some (.slice AN nN cN) := (HBx.out.same hs9).cell 0; have q1 : w9.cell? ⟨w.heap.size, 1, none⟩ = some (.slice AR nR cR) := (HBx.out.same hs9).cell 1; clear hs9)
              | (go_at_call 24; refine (rnamesL_spec 2 _ HG9.out (HTT.out 2) (HM.out 2)).mono ?_; rintro x w10 ⟨A10, c10, rfl, hs10⟩; rw [HA2.out]; have HS10 := Lib.hid (HS9.out.same hs10); clear hs10))
            go_ret2
            exact ⟨rfl, HS10.out⟩
          have g2i : ¬ (200 : Int) < a2 := by omega
          have tok : True := trivial
          have tok2 : True := trivial
          by_cases g3 : 200 < a3
          · have g3i : (200 : Int) < a3 := by omega
            have h66 := HTL.out
            rw [if_pos (.inr (.inr g3))] at h66
            subst h66
            go_wp2_with (first
              | (go_at_call 24; (have _t := tok); clear tok; refine (rnamesL_spec 1 _ HGx.out (HTT.out 1) (HM.out 1)).mono ?_; rintro x w9 ⟨A9, c9, rfl, hs9⟩; rw [HA1.out]; have HS9 := Lib.hid (HSx.out.same hs9); have HG9 := Lib.hid (HGx.out.same hs9); have HB9 := Lib.hid (HBx.out.same hs9); have q0 : w9.cell? ⟨w.heap.size, 0, none⟩ = some (.slice AN nN cN) := HB9.out.cell 0; have q1 : w9.cell? ⟨w.heap.size, 1, none⟩ = some (.slice AR nR cR) := HB9.out.cell 1; clear hs9)
              | (go_at_call 24; (have _t := tok2); clear tok2; refine (rnamesL_spec 2 _ HG9.out (HTT.out 2) (HM.out 2)).mono ?_; rintro x w10 ⟨A10, c10, rfl, hs10⟩; rw [HA2.out]; have HS10 := Lib.hid (HS9.out.same hs10); have HG10 := Lib.hid (HG9.out.same hs10); have q2 : w10.cell? ⟨w.heap.size, 0, none⟩ = some (.slice AN nN cN) := (HB9.out.same hs10).cell 0; have q3 : w10.cell? ⟨w.heap.size, 1, none⟩ = some (.slice AR nR cR) := (HB9.out.same hs10).cell 1; clear hs10)
              | (go_at_call 24; refine (rnamesL_spec 3 _ HG10.out (HTT.out 3) (HM.out 3)).mono ?_; rintro x w11 ⟨A11, c11, rfl, hs11⟩; rw [HA3.out]; have HS11 := Lib.hid (HS10.out.same hs11); clear hs11))
            go_ret2
            exact ⟨rfl, HS11.out⟩
          have g3i : ¬ (200 : Int) < a3 := by omega
          have h67 := HTL.out
          rw [if_neg (by omega)] at h67
          obtain ⟨bw, hbw⟩ : ∃ bw, decide (262144 < T) = bw := ⟨_, rfl⟩
          go_wp2_with (first
            | (go_at_call 24; (have _t := tok); clear tok; refine (rnamesL_spec 1 _ HGx.out (HTT.out 1) (HM.out 1)).mono ?_; rintro x w9 ⟨A9, c9, rfl, hs9⟩; rw [HA1.out]; have HS9 := Lib.hid (HSx.out.same hs9); have HG9 := Lib.hid (HGx.out.same hs9); have HB9 := Lib.hid (HBx.out.same hs9); have q0 : w9.cell? ⟨w.heap.size, 0, none⟩ = some (.slice AN nN cN) := HB9.out.cell 0; have q1 : w9.cell? ⟨w.heap.size, 1, none⟩ = some (.slice AR nR cR) := HB9.out.cell 1; clear hs9)
            | (go_at_call 24; (have _t := tok2); clear tok2; refine (rnamesL_spec 2 _ HG9.out (HTT.out 2) (HM.out 2)).mono ?_; rintro x w10 ⟨A10, c10, rfl, hs10⟩; rw [HA2.out]; have HS10 := Lib.hid (HS9.out.same hs10); have HG10 := Lib.hid (HG9.out.same hs10); have HB10 := Lib.hid (HB9.out.same hs10); have q2 : w10.cell? ⟨w.heap.size, 0, none⟩ = some (.slice AN nN cN) := HB10.out.cell 0; have q3 : w10.cell? ⟨w.heap.size, 1, none⟩ = some (.slice AR nR cR) := HB10.out.cell 1; clear hs10)
            | (go_at_call 24; refine (rnamesL_spec 3 _ HG10.out (HTT.out 3) (HM.out 3)).mono ?_; rintro x w11 ⟨A11, c11, rfl, hs11⟩; rw [HA3.out]; have HS11 := Lib.hid (HS10.out.same hs11); have HG11 := Lib.hid (HG10.out.same hs11); have HB11 := Lib.hid (HB10.out.same hs11); have q4 : w11.cell? ⟨w.heap.size, 0, none⟩ = some (.slice AN nN cN) := HB11.out.cell 0; have q5 : w11.cell? ⟨w.heap.size, 1, none⟩ = some (.slice AR nR cR) := HB11.out.cell 1; clear hs11))
          refine (rweight_spec w11 ⟨ns, AN, nN, cN, rs, AR, nR, cR⟩ HG11.out HF.out HWW.out).mono ?_
          rintro x w12 ⟨rfl, hs12⟩
          have HS12 := Lib.hid (HS11.out.same hs12)
          have hTT := HTeq.out
          rw [hTT]
          clear hs12 hTT
          by_cases hbig : 262144 < T
          · have hbi : (262144 : Int) < (T : Int) := by omega
            rw [if_pos hbig] at h67
            subst h67
            go_wp2
            go_ret2
            exact ⟨rfl, HS12.out⟩
          · have hbi : ¬ (262144 : Int) < (T : Int) := by omega
            rw [if_neg hbig] at h67
            subst h67
            go_wp2
            go_ret2
            exact ⟨rfl, HS12.out⟩
end Go.Proofs.YtlnademnfnhbpaaGreat
