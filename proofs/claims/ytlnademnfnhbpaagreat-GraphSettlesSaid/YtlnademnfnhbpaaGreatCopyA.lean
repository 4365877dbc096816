/- The reference's Copy of a graph: its lists lie apart. -/
import Derived.Test.YtlnademnfnhbpaaGreatCanG
import Derived.Test.YtlnademnfnhbpaaGreatCopyG
namespace Go.Proofs.YtlnademnfnhbpaaGreat
open Go.RowKit

set_option maxHeartbeats 4000000 in
set_option maxRecDepth 100000 in
theorem copyPropsA_spec {F : Nat → Prop} {A : Option Addr} {n c : Nat} {ls : List PR} (w : World) (h : RdPs w F A n c ls) (hsm : PsSmall n ls) :
    Calls Tryz.prog 29 #[.slice A n c] w fun e w' => ∃ (A' : Option Addr) (c' : Nat) (l : List PR), e = .returned (.slice A' n c') ∧ Hid (l.map PR.dat = ls.map PR.dat) ∧ Hid (OwnPs w' w.heap.size (.slice A' n c') l) ∧ Hid (l.Pairwise PR.Apart) ∧ Same w w' := by
  have HL := Lib.hid h.len
  have HR := Lib.hid h
  have HF := Lib.hid hsm.2
  have hn := hsm.1
  clear h hsm
  go_enter Tryz.func29, Tryz.ntmps29
  go_wp2_with fail
  go_loopg [3, 4] n (fun g out i wr => ∃ (k : Nat) (l : List PR), k ≤ n ∧ g = n - k ∧ i = .int .i64 k ∧ l.length = k ∧ Hid (l.map PR.dat = (ls.take k).map PR.dat) ∧ Hid (Same w wr) ∧ Hid (OwnPs wr w.heap.size out l) ∧ Hid (l.Pairwise PR.Apart))
  case atStart => exact ⟨0, [], Nat.zero_le _, rfl, rfl, rfl, Lib.hid rfl, Lib.hid ((Upd.refl _ _).alloc _), Lib.hid ⟨World.ownsRow_made w #[] 0 (Nat.le_refl _) (Nat.zero_le _) rfl, by simp⟩, Lib.hid List.Pairwise.nil⟩
  case round =>
    obtain ⟨k, l, hk, rfl, rfl, rfl, KD, KS, KO, KA⟩ := hrel
    obtain ⟨k, hlk⟩ : ∃ k, l.length = k := ⟨_, rfl⟩
    have HLk := Lib.hid hlk
    rw [hlk] at KD hk ⊢
    clear hlk
    by_cases hlt : k < n
    · obtain ⟨b, o, x, rfl, hb, _, hx, hxm, r0, r1, r2, r3, r4, r5⟩ := (HR.out.same KS.out).at_ hlt
      have hv := (HR.out.same KS.out).val x hxm
      have HV := Lib.hid hv
      have HFx := Lib.hid (show x.g.Fits from ⟨hv.kind, hv.num, hv.range⟩)
      have HT := Lib.hid (HF.out x hxm)
      have HD := Lib.hid (pr_take_succ hx)
      clear hx hxm hv
      obtain ⟨Ao, co, rfl⟩ := own_form KO.out.row
      have HOw := Lib.hid KO.out.row
      rw [HLk.out] at HOw KO ⊢
      obtain ⟨kx, ⟨x0, x1, x2, x3, x4⟩, X1, a1, b1, X2, a2, b2⟩ := x
      simp only at r0 r1 r2 r3 r4 r5
      have hsd : Same wr wr.drew := (Upd.refl _ wr).drew
      have HVd := Lib.hid (HV.out.same hsd)
      have c1 := copy_own wr.drew HVd.out (by have := HT.out.1; omega) (by have := HT.out.2; omega)
      simp only [GVal.val] at c1
      have hKd : Hid (PrAt wr.drew b (o + k * 6) (.string kx) (.int .i64 x0) (.int .i64 x1) (.string x2) (.slice X1 a1 b1) (.slice X2 a2 b2)) := Lib.hid (PrAt.same ⟨r0, r1, r2, r3, r4, r5⟩ hb hsd)
      have HOd := Lib.hid (own_same HOw.out hsd)
      have hbw : b < w.heap.size := (HR.out.row.row (by omega)).cell _ rfl |>.2.1
      have hzd := KS.out.size
      clear hsd
      go_upto_region 5 with fail
      go_region_held_law (fun wx => PrAt wx b (o + k * 6) (.string kx) (.int .i64 x0) (.int .i64 x1) (.string x2) (.slice X1 a1 b1) (.slice X2 a2 b2)) (first | exact hKd.out | assumption | exact PrAt.same (by assumption) (by omega) ((Upd.refl (fun _ => False) _).alloc _)) (first
        | (go_at_call 58; refine c1.mono ?_; rintro e w2 ⟨Y1, d1, Y2, d2, rfl, HY1, HY2, hs2⟩; have hq := hKd.out.same hb hs2; have hz2 := hs2.size; simp only [World.size_drew] at hz2)
        | (refine step_app rfl (.tmp 12) (.tmp 25) _ _ rfl w.heap.size 45 6 96 _ Tryz.underlying38 info_Prop rfl (.slice Ao k co) k _ rfl ((own_same HOd.out (by assumption)).alloc _) rfl (src_row Tryz.underlying38 (Row.pr _ ⟨kx, ⟨x0, x1, x2, x3, x4⟩, Y1, a1, d1, Y2, a2, d2⟩) (PR.one _)) (by unfold maxLen; omega) (by omega) (by simp; omega) ?_; intro v' w6 hg; have hq6 := (PrAt.same hq (by omega) ((Upd.refl (fun _ => False) w2).alloc _)).upd (by simp; omega) hg.upd fun hh => by have := (HOd.out.lt b hh).1; omega))
      have hsA := (Upd.refl (fun _ => False) w2).alloc (.cells (PR.cells ⟨kx, ⟨x0, x1, x2, x3, x4⟩, Y1, a1, d1, Y2, a2, d2⟩).toArray 45)
      have hO := (KO.out.same ((Upd.refl (fun _ => False) wr).drew.trans (hs2.trans hsA fun _ _ f => f) fun _ _ f => f)).snoc (x := ⟨kx, ⟨x0, x1, x2, x3, x4⟩, Y1, a1, d1, Y2, a2, d2⟩) (by rw [HLk.out]; exact hg) ⟨own_base (own_same HY1.out hsA) (by simp only [World.size_drew]; omega), own_base (own_same HY2.out hsA) (by simp only [World.size_drew]; omega), HFx.out⟩
      have hS := (KS.out.same ((Upd.refl (fun _ => False) wr).drew.trans (hs2.trans hsA fun _ _ f => f) fun _ _ f => f)).trans hg.upd fun b hb hh => by have := (HOd.out.lt b hh).1; omega
      have HNB : Hid (∀ k, PR.blocks ⟨kx, ⟨x0, x1, x2, x3, x4⟩, Y1, a1, d1, Y2, a2, d2⟩ k → wr.heap.size ≤ k) := Lib.hid fun k hk => by
        rcases hk with hk | hk
        · exact (HY1.out.lt k hk).1
        · exact (HY2.out.lt k hk).1
      have HKO := KO
      have HO6 := Lib.hid hO
      have HS6 := Lib.hid hS
      clear hO hS hg hsA
      go_wp2
      go_roundg (n - (k + 1))
      case measure => have := HLk.out; omega
      case rel =>
        exact ⟨k + 1, l ++ [⟨kx, ⟨x0, x1, x2, x3, x4⟩, Y1, a1, d1, Y2, a2, d2⟩], by omega, rfl, by go_num, by rw [List.length_append, HLk.out]; rfl, Lib.hid (by rw [List.map_append, KD.out, HD.out]; rfl), HS6, HO6, Lib.hid (pw_snoc KA.out fun y hy k h1 h2 => by have h3 := ((HKO.out.each y hy).blk h1).2; have h4 := HNB.out k h2; omega)⟩
    · obtain rfl : k = n := by omega
      rw [List.take_of_length_le (by rw [HL.out]; exact Nat.le_refl _)] at KD
      obtain ⟨Ao, co, rfl⟩ := own_form KO.out.row
      rw [HLk.out] at KO ⊢
      go_wp2
      go_ret
      exact ⟨_, _, l, rfl, KD, KO, KA, KS.out⟩
set_option maxHeartbeats 8000000 in
set_option maxRecDepth 100000 in
theorem copyGA_spec {F : Nat → Prop} (w : World) (g : GR) (h : RdG w F g) (hz : GSized g) :
    Calls Tryz.prog 16 #[g.agg] w fun e w' => ∃ g' : GR, e = .returned g'.agg ∧ Hid (g'.dat = g.dat) ∧ Hid (OwnG w' w.heap.size g') ∧ Hid (ApartG g') ∧ Same w w' := by
  obtain ⟨ns, AN, nN, cN, rs, AR, nR, cR⟩ := g
  have HZ := Lib.hid hz
  have hnN := hz.nN
  have hnR := hz.nR
  simp only at hnN hnR
  have HL := Lib.hid h.nodes.len
  have HL' := Lib.hid h.rels.len
  simp only at HL HL'
  have hs0 := ((Upd.refl (fun _ => False) w).alloc (.cells #[.slice AN nN cN, .slice AR nR cR] 27)).alloc (.cells #[.slice none 0 0, .slice none 0 0] 27) |>.alloc (.cells #[.slice none 0 0, .slice none 0 0] 27)
  have b1 := ((Blk.new w 27 #[.slice AN nN cN, .slice AR nR cR]).alloc (.cells #[.slice none 0 0, .slice none 0 0] 27)).alloc (.cells #[.slice none 0 0, .slice none 0 0] 27)
  have b2 := (Blk.new (w.alloc (.cells #[.slice AN nN cN, .slice AR nR cR] 27)) 27 #[.slice none 0 0, .slice none 0 0]).alloc (.cells #[.slice none 0 0, .slice none 0 0] 27)
  have b3 := Blk.new ((w.alloc (.cells #[.slice AN nN cN, .slice AR nR cR] 27)).alloc (.cells #[.slice none 0 0, .slice none 0 0] 27)) 27 #[.slice none 0 0, .slice none 0 0]
  simp only [World.size_alloc] at b2 b3
  have HS1 := Lib.hid hs0
  have HB1 := Lib.hid b1
  have HB2 := Lib.hid b2
  have HB3 := Lib.hid b3
  have HRN := Lib.hid h.nodes
  have HRR := Lib.hid h.rels
  simp only at HRN HRR
  clear h hz hs0 b1 b2 b3
  go_enter Tryz.func16, Tryz.ntmps16
  go_upto_region 2 with fail
  generalize ((w.alloc (.cells #[.slice AN nN cN, .slice AR nR cR] 27)).alloc (.cells #[.slice none 0 0, .slice none 0 0] 27)).alloc (.cells #[.slice none 0 0, .slice none 0 0] 27) = w1 at *
  go_wp2_with fail
  go_loopg [4] nN (fun gh ix wr => ∃ (i : Nat) (A : Option Addr) (c : Nat) (l : List ND), nN - i = gh ∧ i ≤ nN ∧ ix = .int .i64 i ∧ l.length = i ∧ Hid (l.map ND.dat = (ns.take i).map ND.dat) ∧ Hid (OwnNs wr w.heap.size (.slice A i c) l) ∧ Hid (l.Pairwise ND.Apart ∧ ∀ x ∈ l, x.Fine) ∧
    Hid (Blk wr w.heap.size 27 #[.slice AN nN cN, .slice AR nR cR]) ∧ Hid (Blk wr (w.heap.size + 1) 27 #[.slice none 0 0, .slice none 0 0]) ∧ Hid (Blk wr (w.heap.size + 1 + 1) 27 #[.slice A i c, .slice none 0 0]) ∧ Hid (Same w wr))
  case atStart => exact ⟨0, none, 0, [], rfl, Nat.zero_le _, rfl, rfl, Lib.hid rfl, Lib.hid (OwnNs.nil_ _ _), Lib.hid ⟨List.Pairwise.nil, by simp⟩, HB1, HB2, HB3, HS1⟩
  case round =>
    clear HB1 HB2 HB3 HS1
    obtain ⟨i, A, c, l, rfl, hi, rfl, hl, KD, KO, KA, KB1, KB2, KB3, KS⟩ := hrel
    have HLi := Lib.hid hl
    clear hl
    have p1 : wr.cell? ⟨w.heap.size, 0, none⟩ = some (.slice AN nN cN) := KB1.out.cell 0
    have hzr := KS.out.size
    by_cases hlt : i < nN
    · obtain ⟨b, o, x, rfl, hb, _, hx, hxm, r0, r1, r2⟩ := (HRN.out.same KS.out).at_ hlt
      have HXL := Lib.hid ((HRN.out.same KS.out).lab x hxm)
      have HXP := Lib.hid ((HRN.out.same KS.out).pro x hxm)
      have HXI := Lib.hid (HRN.out.id x hxm)
      have HXZ := Lib.hid (HZ.out.ns x hxm)
      have HXD := Lib.hid (show (ns.take (i + 1)).map ND.dat = (ns.take i).map ND.dat ++ [x.dat] from by rw [List.take_add_one, hx]; simp)
      clear hx hxm
      obtain ⟨ix, lb, AL, nL, cL, ps, AP, nP, cP⟩ := x
      simp only at r0 r1 r2
      have sA := (Upd.refl (fun _ => False) wr).alloc (.cells #[.int .i64 ix, .slice AL nL cL, .slice AP nP cP] 40)
      have SA := Lib.hid sA
      have HB5 := Lib.hid (Blk.new wr 40 #[.int .i64 ix, .slice AL nL cL, .slice AP nP cP])
      have HB3 := Lib.hid (KB3.out.same sA)
      clear sA
      go_upto_region 6 with fail
      clear p1 r0 r1 r2
      generalize hw6 : wr.alloc (.cells #[.int .i64 ix, .slice AL nL cL, .slice AP nP cP] 40) = w6 at *
      have HW6 := Lib.hid hw6
      clear hw6
      have s0 : Same w6 w6.drew := (Upd.refl _ w6).drew
      refine wp_region_E 15 (fun wx => wx.cell? ⟨w.heap.size + 1 + 1, 0, none⟩ = some (.slice A i c) ∧ wx.cell? ⟨wr.heap.size, 0, none⟩ = some (.int .i64 ix) ∧ wx.cell? ⟨wr.heap.size, 1, none⟩ = some (.slice AL nL cL) ∧ wx.cell? ⟨wr.heap.size, 2, none⟩ = some (.slice AP nP cP)) (by kernel_rfl) (keepE HB3 HB5 s0) (fun hHeld => ?_)
      repeat
        first
          | refine ESt.take (i := 0) (v := ?_) (by decide +kernel) rfl (by decide +kernel) (fun _ _ _ h => h) (Or.inl ⟨by rfl, ?_⟩) (by assumption) ?_
          | refine ESt.take (i := 1) (v := ?_) (by decide +kernel) rfl (by decide +kernel) (fun _ _ _ h => h) (Or.inl ⟨by rfl, ?_⟩) (by assumption) ?_
          | refine ESt.take (i := 2) (v := ?_) (by decide +kernel) rfl (by decide +kernel) (fun _ _ _ h => h) (Or.inl ⟨by rfl, ?_⟩) (by assumption) ?_
          | refine ESt.take (i := 3) (v := ?_) (by decide +kernel) rfl (by decide +kernel) (fun _ _ _ h => h) (Or.inl ⟨by rfl, ?_⟩) (by assumption) ?_
          | refine ESt.take (i := 5) (v := ?_) (by decide +kernel) rfl (by decide +kernel) (fun _ _ _ h => h) (Or.inl ⟨by rfl, ?_⟩) (by assumption) ?_
          | refine ESt.take (i := 6) (v := ?_) (by decide +kernel) rfl (by decide +kernel) (fun _ _ _ h => h) (Or.inl ⟨by rfl, ?_⟩) (by assumption) ?_
          | refine ESt.take (i := 8) (v := ?_) (by decide +kernel) rfl (by decide +kernel) (fun _ _ _ h => h) (Or.inl ⟨by rfl, ?_⟩) (by assumption) ?_
          | refine ESt.take (i := 9) (v := ?_) (by decide +kernel) rfl (by decide +kernel) (fun _ _ _ h => h) (Or.inl ⟨by rfl, ?_⟩) (by assumption) ?_
          | refine ESt.take (i := 14) (v := ?_) (by decide +kernel) rfl (by decide +kernel) (fun _ _ _ h => h) (Or.inl ⟨by rfl, ?_⟩) (by assumption) ?_
        rotate_left
        · intro wx hSw; obtain ⟨h0, h1, h2, h3⟩ := hSw; go_simp; try with_reducible rfl
        simp only [Act.put, List.setIfInBounds_toArray]
      refine ESt.branch (rs := [4]) (by decide +kernel) (by decide +kernel) ?_
      refine AllE.cons rfl (fun K hK => ?_) AllE.nil
      go_simp
      have s4 : Same w6 (w6.alloc (.cells #[] 9)).drew := ((Upd.refl _ w6).alloc _).drew
      have z6 := SA.out.size
      have o4 : (w6.alloc (.cells #[] 9)).drew.ownsRow w6.heap.size 9 1 (.slice (some ⟨w6.heap.size, 0, none⟩) 0 0) 0 [] := World.ownsRow_made w6 #[] 0 (Nat.le_refl _) (Nat.zero_le _) rfl
      refine hK.out _ _ (keepE HB3 HB5 s4) (fun hHeld => ?_)
      clear hK K
      refine ESt.branch (rs := [7]) (by decide +kernel) (by decide +kernel) ?_
      refine AllE.cons rfl (fun K hK => ?_) AllE.nil
      have hnL : nL * 16 ≤ 140737488351232 := HXZ.out.nL
      refine step_app rfl (.tmp 25) (.tmp 27) _ _ rfl w6.heap.size 9 1 16 _ Tryz.underlying37 info_string rfl (.slice (some ⟨w6.heap.size, 0, none⟩) 0 0) 0 [] rfl o4 rfl (src_wrow Tryz.underlying37 (HXL.out.same (SA.out.same s4)) (str_one _)) (by unfold maxLen; omega) (by omega) (by have := s4.size; omega) ?_
      intro v4 w7 hg7
      have s7 : Same w6 w7 := s4.trans hg7.upd fun b hb hh => by
        have h1 := Option.some.inj hh
        simp only at h1
        omega
      have o7 := hg7.own
      rw [Nat.zero_add, List.nil_append] at o7
      obtain ⟨A4, c4, rfl⟩ := own_form o7
      have HNB1 : Hid (∀ k, (Value.slice A4 nL c4).ownBlock = some k → wr.heap.size ≤ k) := Lib.hid fun k hk => by have h1 := (o7.lt k hk).1; have h2 := SA.out.size; omega
      have O7 : Hid (w7.ownsRow w.heap.size 9 1 (.slice A4 nL c4) nL (lb.map Value.string)) := Lib.hid (own_base o7 (by omega))
      clear o4 o7 hg7 s4
      refine hK.out _ _ (keepE HB3 HB5 s7) (fun hHeld => ?_)
      clear hK K
      refine ESt.branch (rs := [10]) (by decide +kernel) (by decide +kernel) ?_
      refine AllE.cons rfl (fun K hK => ?_) AllE.nil
      go_simp
      refine (copyPropsA_spec w7 (HXP.out.same (SA.out.same s7)) HXZ.out.pro.small).mono ?_
      rintro e w10 ⟨A5, c5, ps5, rfl, hd5, O10, HPA, hs10⟩
      have s10 : Same w6 w10 := s7.same hs10
      have HFN : Hid (ND.Fine ⟨ix, lb, A4, nL, c4, ps5, A5, nP, c5⟩) := Lib.hid ⟨HPA.out, fun k hk p hp hb => by
        have h1 := (O7.out.lt k hk).2
        have h2 := ((O10.out.each p hp).blk hb).1
        omega⟩
      have HNB : Hid (∀ k, ND.blocks ⟨ix, lb, A4, nL, c4, ps5, A5, nP, c5⟩ k → wr.heap.size ≤ k) := Lib.hid fun k hk => by
        rcases hk with hk | hk
        · exact HNB1.out k hk
        · have h1 := (O10.out.blk hk).1
          have h2 := s7.size
          have h3 := SA.out.size
          omega
      have HOLD : Hid (∀ y ∈ l, ∀ k, y.blocks k → k < wr.heap.size) := Lib.hid fun y hy k hk => ((KO.out.each y hy).blk hk).2
      have O7' := Lib.hid (own_same O7.out hs10)
      have z7 := s7.size
      have O10' := Lib.hid (O10.out.base (B' := w.heap.size) (by omega))
      clear O7 s7 O10 hs10
      go_wp2_with fail
      refine hK.out _ _ (keepE HB3 HB5 s10) (fun hHeld => ?_)
      clear hK K
      refine ESt.take (i := 11) (v := ?_) (by decide +kernel) rfl (by decide +kernel) (fun _ _ _ h => h) (Or.inl ⟨by rfl, ?_⟩) (by assumption) ?_
      rotate_left
      · intro wx hSw; obtain ⟨h0, h1, h2, h3⟩ := hSw; go_simp; try with_reducible rfl
      simp only [Act.put, List.setIfInBounds_toArray]
      refine ESt.branch (rs := [12]) (by decide +kernel) (by decide +kernel) ?_
      refine AllE.cons rfl (fun K hK => ?_) AllE.nil
      go_simp
      have sB := (Upd.refl (fun _ => False) w10).alloc (.cells #[.int .i64 ix, .slice A4 nL c4, .slice A5 nP c5] 40)
      have s12 := s10.same sB
      refine hK.out _ _ (keepE HB3 HB5 s12) (fun hHeld => ?_)
      clear hK K
      refine ESt.branch (rs := [13]) (by decide +kernel) (by decide +kernel) ?_
      refine AllE.cons rfl (fun K hK => ?_) AllE.nil
      have sR : Same wr (w10.alloc (.cells #[.int .i64 ix, .slice A4 nL c4, .slice A5 nP c5] 40)) := SA.out.same s12
      have KO' := KO.out.same sR
      have hrow := KO'.row
      rw [HLi.out] at hrow
      refine step_app rfl (.tmp 22) (.tmp 33) _ _ rfl w.heap.size 40 3 56 _ Tryz.underlying24 info_Node rfl (.slice A i c) i _ rfl hrow rfl (src_row Tryz.underlying24 (Row.nd w10 ⟨ix, lb, A4, nL, c4, ps5, A5, nP, c5⟩) (ND.one _)) (by unfold maxLen; omega) (by omega) (by have := sR.size; omega) ?_
      intro v9 w9 hg9
      have KOr := KO.out.row
      rw [HLi.out] at KOr
      have hO9 := KO'.snoc (x := ⟨ix, lb, A4, nL, c4, ps5, A5, nP, c5⟩) (by rw [HLi.out]; exact hg9) ⟨own_same O7'.out sB, O10'.out.same sB, HXI.out⟩
      have q3 := (HB3.out.same s12).upd hg9.upd fun hh => (HB3.out.same s12).ne_own hrow (by decide) hh
      have q5 := (HB5.out.same s12).upd hg9.upd fun hh => by have := (KOr.lt _ hh).2; omega
      obtain ⟨f1, _, f3⟩ := field_app (i := 0) KB3.out KOr (by decide) sR hg9
      obtain ⟨A9, c9, rfl⟩ := own_form hg9.own
      have hO := hO9.type ((Upd.refl (fun b => b = w.heap.size + 1 + 1) w9).put1 (i := 0) (.slice A9 (i + 1) c9)) (fun g _ hg => by rw [hg]; exact ⟨_, q3⟩) (by decide) (by decide) (by decide) (by decide)
      have hS := same_app KS.out f3 (by omega) fun b hb => (KOr.lt b hb).1
      have k1 := KB1.out.upd f3 (by rintro (hh | hh); · omega
                                    · exact KB1.out.ne_own KOr (by decide) hh)
      have k2 := KB2.out.upd f3 (by rintro (hh | hh); · omega
                                    · exact KB2.out.ne_own KOr (by decide) hh)
      have F1 := Lib.hid f1
      have FO := Lib.hid hO
      have FS := Lib.hid hS
      have K1 := Lib.hid k1
      have K2 := Lib.hid k2
      have Q3 := Lib.hid q3
      clear f1 f3 hO hS k1 k2 hO9 hg9 hrow KO' KOr
      refine hK.out _ _ ⟨q3.cell 0, q5.cell 0, q5.cell 1, q5.cell 2⟩ (fun hHeld => ?_)
      clear hK K q3 q5
      simp only [Act.put]
      refine ESt.take (i := 14) (v := ?_) (by decide +kernel) rfl (by decide +kernel) (fun _ _ _ h => h) (Or.inl ⟨by rfl, ?_⟩) (by assumption) ?_
      rotate_left
      · intro wx hSw; obtain ⟨h0, h1, h2, h3⟩ := hSw; go_simp; try with_reducible rfl
      simp only [Act.put, List.setIfInBounds_toArray]
      refine ESt.last (by decide +kernel) (by decide +kernel) rfl (fun K hK => ?_) _
      have r3 := Q3.out.cell 0
      have z3 := Q3.out.frozen 0
      go_simp
      refine hK.out _ _ ?_
      clear hK K r3 z3 hHeld s0 s10 s12 sB sR
      go_wp2
      go_roundg (nN - (i + 1))
      case measure => omega
      case rel => exact ⟨i + 1, A9, c9, l ++ [⟨ix, lb, A4, nL, c4, ps5, A5, nP, c5⟩], rfl, by omega, by go_num, by rw [List.length_append, HLi.out]; rfl, Lib.hid (by rw [List.map_append, KD.out, HXD.out]; simp only [List.map_cons, List.map_nil, ND.dat, hd5.out]), FO, Lib.hid ⟨pw_snoc KA.out.1 fun y hy k h1 h2 => by have h3 := HOLD.out y hy k h1; have h4 := HNB.out k h2; omega, fun y hy => by
        rcases List.mem_append.1 hy with hy | hy
        · exact KA.out.2 y hy
        · obtain rfl := List.mem_singleton.1 hy
          exact HFN.out⟩, K1, K2, F1, FS⟩
    · have hin : i = nN := by omega
      subst hin
      clear hlt
      rw [List.take_of_length_le (by rw [HL.out]; exact Nat.le_refl _)] at KD
      obtain ⟨wo, rfl⟩ : ∃ wo : World, wo = wr := ⟨_, rfl⟩
      have HNL : Hid (∀ x ∈ l, ∀ k, x.blocks k → k < wo.heap.size) := Lib.hid fun y hy k hk => ((KO.out.each y hy).blk hk).2
      go_wp2_with fail
      go_loopg [6] nR (fun gh ix wr => ∃ (j : Nat) (A' : Option Addr) (c' : Nat) (l' : List RL), nR - j = gh ∧ j ≤ nR ∧ ix = .int .i64 j ∧ l'.length = j ∧ Hid (l'.map RL.dat = (rs.take j).map RL.dat) ∧ Hid (OwnRs wr w.heap.size (.slice A' j c') l') ∧ Hid (l'.Pairwise RL.Apart ∧ (∀ y ∈ l', y.props.Pairwise PR.Apart) ∧ ∀ y ∈ l', ∀ k, y.blocks k → wo.heap.size ≤ k) ∧ wo.heap.size ≤ wr.heap.size ∧ Hid (OwnNs wr w.heap.size (.slice A i c) l) ∧
        Hid (Blk wr w.heap.size 27 #[.slice AN i cN, .slice AR nR cR]) ∧ Hid (Blk wr (w.heap.size + 1) 27 #[.slice none 0 0, .slice none 0 0]) ∧ Hid (Blk wr (w.heap.size + 1 + 1) 27 #[.slice A i c, .slice A' j c']) ∧ Hid (Same w wr))
      case atStart => exact ⟨0, none, 0, [], rfl, Nat.zero_le _, rfl, rfl, Lib.hid rfl, Lib.hid (OwnRs.nil_ _ _), Lib.hid ⟨List.Pairwise.nil, by simp, by simp⟩, Nat.le_refl _, KO, KB1, KB2, KB3, KS⟩
      case round =>
        clear KO KB1 KB2 KB3 KS p1 hzr
        obtain ⟨j, A', c', l', rfl, hj, rfl, hl', KD', KO', KA2, hwo, KO, KB1, KB2, KB3, KS⟩ := hrel
        have HLj := Lib.hid hl'
        clear hl'
        have p1 : wr.cell? ⟨w.heap.size, 1, none⟩ = some (.slice AR nR cR) := KB1.out.cell 1
        have hzr := KS.out.size
        by_cases hlt : j < nR
        · obtain ⟨b, o, x, rfl, hb, _, hx, hxm, r0, r1, r2, r3, r4⟩ := (HRR.out.same KS.out).at_ hlt
          have HXP := Lib.hid ((HRR.out.same KS.out).pro x hxm)
          have HXI := Lib.hid (HRR.out.id x hxm)
          have HXZ := Lib.hid (HZ.out.rs x hxm)
          have HXD := Lib.hid (show (rs.take (j + 1)).map RL.dat = (rs.take j).map RL.dat ++ [x.dat] from by rw [List.take_add_one, hx]; simp)
          clear hx hxm
          obtain ⟨ix, tx, sx, dx, ps, AP, nP, cP⟩ := x
          simp only at r0 r1 r2 r3 r4
          have sA := (Upd.refl (fun _ => False) wr).alloc (.cells #[.int .i64 ix, .string tx, .int .i64 sx, .int .i64 dx, .slice AP nP cP] 47)
          have SA := Lib.hid sA
          have HB5 := Lib.hid (Blk.new wr 47 #[.int .i64 ix, .string tx, .int .i64 sx, .int .i64 dx, .slice AP nP cP])
          have HB3 := Lib.hid (KB3.out.same sA)
          clear sA
          go_upto_region 11 with fail
          clear p1 r0 r1 r2 r3 r4
          generalize wr.alloc (.cells #[.int .i64 ix, .string tx, .int .i64 sx, .int .i64 dx, .slice AP nP cP] 47) = w6 at *
          have s0 : Same w6 w6.drew := (Upd.refl _ w6).drew
          have z6 := SA.out.size
          refine wp_region_E 17 (fun wx => wx.cell? ⟨w.heap.size + 1 + 1, 1, none⟩ = some (.slice A' j c') ∧ wx.cell? ⟨wr.heap.size, 0, none⟩ = some (.int .i64 ix) ∧ wx.cell? ⟨wr.heap.size, 1, none⟩ = some (.string tx) ∧ wx.cell? ⟨wr.heap.size, 2, none⟩ = some (.int .i64 sx) ∧ wx.cell? ⟨wr.heap.size, 3, none⟩ = some (.int .i64 dx) ∧ wx.cell? ⟨wr.heap.size, 4, none⟩ = some (.slice AP nP cP)) (by kernel_rfl) (keepE5 HB3 HB5 s0) (fun hHeld => ?_)
          repeat
            first
              | refine ESt.take (i := 0) (v := ?_) (by decide +kernel) rfl (by decide +kernel) (fun _ _ _ h => h) (Or.inl ⟨by rfl, ?_⟩) (by assumption) ?_
              | refine ESt.take (i := 1) (v := ?_) (by decide +kernel) rfl (by decide +kernel) (fun _ _ _ h => h) (Or.inl ⟨by rfl, ?_⟩) (by assumption) ?_
              | refine ESt.take (i := 2) (v := ?_) (by decide +kernel) rfl (by decide +kernel) (fun _ _ _ h => h) (Or.inl ⟨by rfl, ?_⟩) (by assumption) ?_
              | refine ESt.take (i := 3) (v := ?_) (by decide +kernel) rfl (by decide +kernel) (fun _ _ _ h => h) (Or.inl ⟨by rfl, ?_⟩) (by assumption) ?_
              | refine ESt.take (i := 4) (v := ?_) (by decide +kernel) rfl (by decide +kernel) (fun _ _ _ h => h) (Or.inl ⟨by rfl, ?_⟩) (by assumption) ?_
              | refine ESt.take (i := 5) (v := ?_) (by decide +kernel) rfl (by decide +kernel) (fun _ _ _ h => h) (Or.inl ⟨by rfl, ?_⟩) (by assumption) ?_
              | refine ESt.take (i := 6) (v := ?_) (by decide +kernel) rfl (by decide +kernel) (fun _ _ _ h => h) (Or.inl ⟨by rfl, ?_⟩) (by assumption) ?_
              | refine ESt.take (i := 7) (v := ?_) (by decide +kernel) rfl (by decide +kernel) (fun _ _ _ h => h) (Or.inl ⟨by rfl, ?_⟩) (by assumption) ?_
              | refine ESt.take (i := 8) (v := ?_) (by decide +kernel) rfl (by decide +kernel) (fun _ _ _ h => h) (Or.inl ⟨by rfl, ?_⟩) (by assumption) ?_
              | refine ESt.take (i := 9) (v := ?_) (by decide +kernel) rfl (by decide +kernel) (fun _ _ _ h => h) (Or.inl ⟨by rfl, ?_⟩) (by assumption) ?_
              | refine ESt.take (i := 10) (v := ?_) (by decide +kernel) rfl (by decide +kernel) (fun _ _ _ h => h) (Or.inl ⟨by rfl, ?_⟩) (by assumption) ?_
              | refine ESt.take (i := 11) (v := ?_) (by decide +kernel) rfl (by decide +kernel) (fun _ _ _ h => h) (Or.inl ⟨by rfl, ?_⟩) (by assumption) ?_
            rotate_left
            · intro wx hSw; obtain ⟨h0, h1, h2, h3, h4, h5⟩ := hSw; go_simp; try with_reducible rfl
            simp only [Act.put, List.setIfInBounds_toArray]
          refine ESt.branch (rs := [12]) (by decide +kernel) (by decide +kernel) ?_
          refine AllE.cons rfl (fun K hK => ?_) AllE.nil
          go_simp
          refine (copyPropsA_spec _ (HXP.out.same (SA.out.same s0)) HXZ.out.pro.small).mono ?_
          rintro e w10 ⟨A5, c5, ps5, rfl, hd5, O10, HPA, hs10⟩
          have s10 : Same w6 w10 := s0.same hs10
          have HNB : Hid (∀ k, RL.blocks ⟨ix, tx, sx, dx, ps5, A5, nP, c5⟩ k → wr.heap.size ≤ k) := Lib.hid fun k hk => by
            have h1 := (O10.out.blk hk).1
            have h3 := SA.out.size
            simp only [World.size_drew] at h1
            omega
          have HOLD : Hid (∀ y ∈ l', ∀ k, y.blocks k → k < wr.heap.size) := Lib.hid fun y hy k hk => ((KO'.out.each y hy).blk hk).2
          have O10' := Lib.hid (O10.out.base (B' := w.heap.size) (by simp only [World.size_drew]; omega))
          clear O10 hs10
          go_wp2_with fail
          refine hK.out _ _ (keepE5 HB3 HB5 s10) (fun hHeld => ?_)
          clear hK K
          refine ESt.take (i := 13) (v := ?_) (by decide +kernel) rfl (by decide +kernel) (fun _ _ _ h => h) (Or.inl ⟨by rfl, ?_⟩) (by assumption) ?_
          rotate_left
          · intro wx hSw; obtain ⟨h0, h1, h2, h3, h4, h5⟩ := hSw; go_simp; try with_reducible rfl
          simp only [Act.put, List.setIfInBounds_toArray]
          refine ESt.branch (rs := [14]) (by decide +kernel) (by decide +kernel) ?_
          refine AllE.cons rfl (fun K hK => ?_) AllE.nil
          go_simp
          have sB := (Upd.refl (fun _ => False) w10).alloc (.cells #[.int .i64 ix, .string tx, .int .i64 sx, .int .i64 dx, .slice A5 nP c5] 47)
          have s12 := s10.same sB
          refine hK.out _ _ (keepE5 HB3 HB5 s12) (fun hHeld => ?_)
          clear hK K
          refine ESt.branch (rs := [15]) (by decide +kernel) (by decide +kernel) ?_
          refine AllE.cons rfl (fun K hK => ?_) AllE.nil
          have sR : Same wr (w10.alloc (.cells #[.int .i64 ix, .string tx, .int .i64 sx, .int .i64 dx, .slice A5 nP c5] 47)) := SA.out.same s12
          have KO2 := KO'.out.same sR
          have hrow := KO2.row
          rw [HLj.out] at hrow
          refine step_app rfl (.tmp 49) (.tmp 62) _ _ rfl w.heap.size 47 5 64 _ Tryz.underlying25 info_Rel rfl (.slice A' j c') j _ rfl hrow rfl (src_row Tryz.underlying25 (Row.rl w10 ⟨ix, tx, sx, dx, ps5, A5, nP, c5⟩) (RL.one _)) (by unfold maxLen; omega) (by omega) (by have := sR.size; omega) ?_
          intro v9 w9 hg9
          have KOr := KO'.out.row
          rw [HLj.out] at KOr
          have hO9 := KO2.snoc (x := ⟨ix, tx, sx, dx, ps5, A5, nP, c5⟩) (by rw [HLj.out]; exact hg9) ⟨O10'.out.same sB, HXI.out⟩
          have hN9 := (KO.out.same sR).type hg9.upd (fun g _ hg => own_ofT hrow hg) (by decide) (by decide) (by decide) (by decide)
          have q3 := (HB3.out.same s12).upd hg9.upd fun hh => (HB3.out.same s12).ne_own hrow (by decide) hh
          have q5 := (HB5.out.same s12).upd hg9.upd fun hh => by have := (KOr.lt _ hh).2; omega
          obtain ⟨f1, _, f3⟩ := field_app (i := 1) KB3.out KOr (by decide) sR hg9
          obtain ⟨A9, c9, rfl⟩ := own_form hg9.own
          have hU3 := (Upd.refl (fun b => b = w.heap.size + 1 + 1) w9).put1 (i := 1) (.slice A9 (j + 1) c9)
          have hO := hO9.type hU3 (fun g _ hg => by rw [hg]; exact ⟨_, q3⟩) (by decide) (by decide) (by decide) (by decide)
          have hN := hN9.type hU3 (fun g _ hg => by rw [hg]; exact ⟨_, q3⟩) (by decide) (by decide) (by decide) (by decide)
          have hS := same_app KS.out f3 (by omega) fun b hb => (KOr.lt b hb).1
          have k1 := KB1.out.upd f3 (by rintro (hh | hh); · omega
                                        · exact KB1.out.ne_own KOr (by decide) hh)
          have k2 := KB2.out.upd f3 (by rintro (hh | hh); · omega
                                        · exact KB2.out.ne_own KOr (by decide) hh)
          have hwo2 : wo.heap.size ≤ (w9.setCell ⟨w.heap.size + 1 + 1, 1, none⟩ (.slice A9 (j + 1) c9)).heap.size := Nat.le_trans hwo f3.size
          have F1 := Lib.hid f1
          have FO := Lib.hid hO
          have FN := Lib.hid hN
          have FS := Lib.hid hS
          have K1 := Lib.hid k1
          have K2 := Lib.hid k2
          have Q3 := Lib.hid q3
          clear f1 f3 hO hN hS k1 k2 hO9 hN9 hg9 hrow KO2 KOr hU3
          refine hK.out _ _ ⟨q3.cell 1, q5.cell 0, q5.cell 1, q5.cell 2, q5.cell 3, q5.cell 4⟩ (fun hHeld => ?_)
          clear hK K q3 q5
          simp only [Act.put]
          refine ESt.take (i := 16) (v := ?_) (by decide +kernel) rfl (by decide +kernel) (fun _ _ _ h => h) (Or.inl ⟨by rfl, ?_⟩) (by assumption) ?_
          rotate_left
          · intro wx hSw; obtain ⟨h0, h1, h2, h3, h4, h5⟩ := hSw; go_simp; try with_reducible rfl
          simp only [Act.put, List.setIfInBounds_toArray]
          refine ESt.last (by decide +kernel) (by decide +kernel) rfl (fun K hK => ?_) _
          have r3 := Q3.out.cell 1
          have z3 := Q3.out.frozen 1
          go_simp
          refine hK.out _ _ ?_
          clear hK K r3 z3 hHeld s0 s10 s12 sB sR
          go_wp2
          go_roundg (nR - (j + 1))
          case measure => omega
          case rel => exact ⟨j + 1, A9, c9, l' ++ [⟨ix, tx, sx, dx, ps5, A5, nP, c5⟩], rfl, by omega, by go_num, by rw [List.length_append, HLj.out]; rfl, Lib.hid (by rw [List.map_append, KD'.out, HXD.out]; simp only [List.map_cons, List.map_nil, RL.dat, hd5.out]), FO, Lib.hid ⟨pw_snoc KA2.out.1 fun y hy k h1 h2 => by have h3 := HOLD.out y hy k h1; have h4 := HNB.out k h2; omega, fun y hy => by
            rcases List.mem_append.1 hy with hy | hy
            · exact KA2.out.2.1 y hy
            · obtain rfl := List.mem_singleton.1 hy
              exact HPA.out, fun y hy k hk => by
            rcases List.mem_append.1 hy with hy | hy
            · exact KA2.out.2.2 y hy k hk
            · obtain rfl := List.mem_singleton.1 hy
              exact Nat.le_trans hwo (HNB.out k hk)⟩, hwo2, FN, K1, K2, F1, FS⟩
        · have hjn : j = nR := by omega
          subst hjn
          clear hlt
          rw [List.take_of_length_le (by rw [HL'.out]; exact Nat.le_refl _)] at KD'
          have e0 : wr.cell? ⟨w.heap.size + 1 + 1, 0, none⟩ = some (.slice A i c) := KB3.out.cell 0
          have e1 : wr.cell? ⟨w.heap.size + 1 + 1, 1, none⟩ = some (.slice A' j c') := KB3.out.cell 1
          have g0 := KB2.out.cell 0
          have g1 := KB2.out.cell 1
          have z0 := KB2.out.frozen 0
          have z1 := KB2.out.frozen 1
          go_wp2
          have hB := (KB2.out.put 0 (.slice A i c)).put 1 (.slice A' j c')
          have hU := ((Upd.refl (fun b => b = w.heap.size + 1) wr).put1 (i := 0) (.slice A i c)).put1 (i := 1) (.slice A' j c')
          have v0 := hB.cell 0
          have v1 := hB.cell 1
          have hT : ∀ g, g < wr.heap.size → g = w.heap.size + 1 → OfT wr 27 g := fun g _ hg => by rw [hg]; exact ⟨_, KB2.out⟩
          have r1 := KO.out.type hU hT (by decide) (by decide) (by decide) (by decide)
          have r2 := KO'.out.type hU hT (by decide) (by decide) (by decide) (by decide)
          refine bodyPost_ret (v := .agg #[.slice A i c, .slice A' j c']) ?_ rfl ⟨⟨l, A, i, c, l', A', j, c'⟩, rfl, Lib.hid ?_, Lib.hid ⟨r1, r2⟩, Lib.hid ⟨KA.out.1, KA2.out.1, KA.out.2, KA2.out.2.1, fun y hy z hz k h1 h2 => by have h3 := HNL.out y hy k h1; have h4 := KA2.out.2.2 z hz k h2; omega⟩, KS.out.trans hU fun b hb hh => by omega⟩
          · simp at v0 v1
            simp [results, Tryz.results16, go_sem, v0, v1]
          · simp only [GR.dat, KD.out, KD'.out]

end Go.Proofs.YtlnademnfnhbpaaGreat
