/- The reference's Canon of any graph. -/
import Derived.Test.YtlnademnfnhbpaaGreatRCanP
import Derived.StillTailTactics
namespace Go.Proofs.YtlnademnfnhbpaaGreat
open Go.RowKit

def ndD : ND := ⟨0, [], none, 0, 0, [], none, 0, 0⟩
def rlD : RL := ⟨0, ⟨#[]⟩, 0, 0, [], none, 0, 0⟩
theorem places_ns (ns : List ND) : (places (fun a b : Int => a < b) (fun i => (ns.map ND.id)[i]?.getD 0) ns.length).map (fun i => ns[i]?.getD ndD) = sortB (fun a b : Int => a < b) ND.id ns :=
  places_list lin_int ns ndD fun i x h => by rw [List.getElem?_map, h]; rfl
theorem places_rs (rs : List RL) : (places (fun a b : Int => a < b) (fun i => (rs.map RL.id)[i]?.getD 0) rs.length).map (fun i => rs[i]?.getD rlD) = sortB (fun a b : Int => a < b) RL.id rs :=
  places_list lin_int rs rlD fun i x h => by rw [List.getElem?_map, h]; rfl
theorem places_ts (l : List ByteArray) : (places ltS (fun i => l[i]?.getD ⟨#[]⟩) l.length).map (fun i => l[i]?.getD ⟨#[]⟩) = sortT l :=
  places_list lin_str l ⟨#[]⟩ fun i x h => by rw [h]; rfl

/-- What the copy of an element reads. -/
def RcQ5 (w : World) (g b o ga j : Nat) (v0 v1 v2 v3 v4 : Value) : Prop :=
  w.cell? ⟨g, 0, none⟩ = some v0 ∧ w.cell? ⟨ga, j, none⟩ = some v1 ∧ w.cell? ⟨b, o, none⟩ = some v2 ∧ w.cell? ⟨b, o + 1, none⟩ = some v3 ∧ w.cell? ⟨b, o + 2, none⟩ = some v4
theorem keepRcQ5 {w wx : World} {g b o ga j : Nat} {v0 v1 v2 v3 v4 : Value} (h : Hid (RcQ5 w g b o ga j v0 v1 v2 v3 v4)) (hb : g < w.heap.size ∧ ga < w.heap.size ∧ b < w.heap.size) (hs : Same w wx) : RcQ5 wx g b o ga j v0 v1 v2 v3 v4 := by
  obtain ⟨a0, a1, a2, a3, a4⟩ := h.out
  obtain ⟨b1, b2, b3⟩ := hb
  exact ⟨(hs.cell (p := ⟨g, 0, none⟩) b1 fun f => f).trans a0, (hs.cell (p := ⟨ga, j, none⟩) b2 fun f => f).trans a1, (hs.cell (p := ⟨b, o, none⟩) b3 fun f => f).trans a2, (hs.cell (p := ⟨b, o + 1, none⟩) b3 fun f => f).trans a3, (hs.cell (p := ⟨b, o + 2, none⟩) b3 fun f => f).trans a4⟩
def RcQ7 (w : World) (g b o ga j : Nat) (v0 v1 v2 v3 v4 v5 v6 : Value) : Prop :=
  w.cell? ⟨g, 1, none⟩ = some v0 ∧ w.cell? ⟨ga, j, none⟩ = some v1 ∧ w.cell? ⟨b, o, none⟩ = some v2 ∧ w.cell? ⟨b, o + 1, none⟩ = some v3 ∧ w.cell? ⟨b, o + 2, none⟩ = some v4 ∧ w.cell? ⟨b, o + 3, none⟩ = some v5 ∧ w.cell? ⟨b, o + 4, none⟩ = some v6
theorem keepRcQ7 {w wx : World} {g b o ga j : Nat} {v0 v1 v2 v3 v4 v5 v6 : Value} (h : Hid (RcQ7 w g b o ga j v0 v1 v2 v3 v4 v5 v6)) (hb : g < w.heap.size ∧ ga < w.heap.size ∧ b < w.heap.size) (hs : Same w wx) : RcQ7 wx g b o ga j v0 v1 v2 v3 v4 v5 v6 := by
  obtain ⟨a0, a1, a2, a3, a4, a5, a6⟩ := h.out
  obtain ⟨b1, b2, b3⟩ := hb
  have hk : ∀ i, wx.cell? ⟨b, i, none⟩ = w.cell? ⟨b, i, none⟩ := fun i => hs.cell (p := ⟨b, i, none⟩) b3 fun f => f
  exact ⟨(hs.cell (p := ⟨g, 1, none⟩) b1 fun f => f).trans a0, (hs.cell (p := ⟨ga, j, none⟩) b2 fun f => f).trans a1, (hk _).trans a2, (hk _).trans a3, (hk _).trans a4, (hk _).trans a5, (hk _).trans a6⟩
def RcQ3 (w : World) (g g8 k bl o : Nat) (v0 v1 v2 : Value) : Prop :=
  w.cell? ⟨g, 1, none⟩ = some v0 ∧ w.cell? ⟨g8, k, none⟩ = some v1 ∧ w.cell? ⟨bl, o, none⟩ = some v2
theorem keepRcQ3 {S : Nat → Prop} {n : Nat} {w wx : World} {g g8 k bl o : Nat} {v0 v1 v2 : Value} (h : Hid (RcQ3 w g g8 k bl o v0 v1 v2)) (hb : g < n ∧ g8 < n ∧ bl < n) (hn : n ≤ w.heap.size) (hs : Upd S w wx) (hS : ∀ b, b < n → ¬ S b) : RcQ3 wx g g8 k bl o v0 v1 v2 := by
  obtain ⟨a0, a1, a2⟩ := h.out
  obtain ⟨b1, b2, b3⟩ := hb
  exact ⟨(hs.cell (p := ⟨g, 1, none⟩) (Nat.lt_of_lt_of_le b1 hn) (hS _ b1)).trans a0, (hs.cell (p := ⟨g8, k, none⟩) (Nat.lt_of_lt_of_le b2 hn) (hS _ b2)).trans a1, (hs.cell (p := ⟨bl, o, none⟩) (Nat.lt_of_lt_of_le b3 hn) (hS _ b3)).trans a2⟩
theorem Row.drewR {w : World} {F : Nat → Prop} {k n c : Nat} {A : Option Addr} {xs : List Value} (h : Row w F k A n c xs) : Row w.drew F k A n c xs := h.upd ((Upd.refl (fun _ => False) w).drew) fun _ _ f => f
set_option maxHeartbeats 32000000 in
set_option maxRecDepth 100000 in
theorem rcanonG_spec {F : Nat → Prop} (w : World) (g : GR) (h : RdG w F g) (hz : GSized g) :
    Calls Tryz.prog 21 #[g.agg] w fun e w' => ∃ g' : GR, e = .returned g'.agg ∧ Hid (g'.dat = canonD g.dat) ∧ Hid (OwnG w' w.heap.size g') ∧ Same w w' := by
  obtain ⟨ns, AN, nN, cN, rs, AR, nR, cR⟩ := g
  have HZ := Lib.hid hz
  have hnN := hz.nN
  have hnR := hz.nR
  simp only at hnN hnR
  have HL := Lib.hid h.nodes.len
  have HL' := Lib.hid h.rels.len
  simp only at HL HL'
  have hs0 := ((Upd.refl (fun _ => False) w).alloc (.cells #[.slice AN nN cN, .slice AR nR cR] 27)).alloc (.cells #[.slice none 0 0, .slice none 0 0] 27) |>.alloc (.cells #[.slice none 0 0, .slice none 0 0] 27)
  have b1 := ((Blk.new w 27 #[.slice AN nN cN, .slice AR nR cR]).alloc (.cells #[.slice none 0 0, .slice none 0 0] 27)).alloc (.cells #[.slice none 0 0, .slice none 0 0] 27)
  have b2 := (Blk.new (w.alloc (.cells #[.slice AN nN cN, .slice AR nR cR] 27)) 27 #[.slice none 0 0, .slice none 0 0]).alloc (.cells #[.slice none 0 0, .slice none 0 0] 27)
  have b3 := Blk.new ((w.alloc (.cells #[.slice AN nN cN, .slice AR nR cR] 27)).alloc (.cells #[.slice none 0 0, .slice none 0 0] 27)) 27 #[.slice none 0 0, .slice none 0 0]
  simp only [World.size_alloc] at b2 b3
  have HS1 := Lib.hid hs0
  have HB1 := Lib.hid b1
  have HB2 := Lib.hid b2
  have HB3 := Lib.hid b3
  have HRN := Lib.hid h.nodes
  have HRR := Lib.hid h.rels
  simp only at HRN HRR
  have hz1 := hs0.size
  clear h hz hs0 b1 b2 b3
  go_enter Tryz.func21, Tryz.ntmps21
  go_upto_region 2 with fail
  generalize ((w.alloc (.cells #[.slice AN nN cN, .slice AR nR cR] 27)).alloc (.cells #[.slice none 0 0, .slice none 0 0] 27)).alloc (.cells #[.slice none 0 0, .slice none 0 0] 27) = w1 at *
  go_wp2_with fail
  go_loopg [4, 5] nN (fun gh s4 s5 wr => ∃ i : Nat, nN - i = gh ∧ i ≤ nN ∧ s5 = .int .i64 i ∧ Hid (wr.ownsRow w1.heap.size 3 1 s4 i (((ns.map ND.id).take i).map (Value.int .i64))) ∧ Hid (Same w1 wr))
  case atStart => exact ⟨0, rfl, Nat.zero_le _, rfl, Lib.hid (World.ownsRow_made w1 #[] 0 (Nat.le_refl _) (Nat.zero_le _) rfl), Lib.hid ((Upd.refl _ _).alloc _)⟩
  case round =>
    obtain ⟨i, rfl, hi, rfl, KO, KS⟩ := hrel
    obtain ⟨A1, c1, rfl⟩ := own_form KO.out
    have hz := KS.out.size
    have p1 : wr.cell? ⟨w.heap.size, 0, none⟩ = some (.slice AN nN cN) := (HB1.out.same KS.out).cell 0
    by_cases hlt : i < nN
    · obtain ⟨b, o, x, rfl, hb, _, hx, hxm, r0, _⟩ := (HRN.out.same (HS1.out.same KS.out)).at_ hlt
      have HT := Lib.hid (show ((ns.map ND.id).take (i + 1)).map (Value.int .i64) = ((ns.map ND.id).take i).map (Value.int .i64) ++ [.int .i64 x.id] from by rw [List.take_add_one, List.getElem?_map, hx]; simp)
      clear hx hxm
      go_wp2_with (at_builtin; go_must (refine wpList_app rfl (.tmp 24) (.tmp 31) _ _ rfl w1.heap.size 3 1 8 _ Tryz.underlying36 info_int rfl (.slice A1 i c1) i _ rfl (KO.out.alloc _) rfl (src_row Tryz.underlying36 (Row.one _ _ _) (by simp [Value.oneCell'])) (by unfold maxLen; omega) (by omega) (by simp; omega) ?_); intro v9 w9 hg; have HG := Lib.hid hg; clear hg)
      go_roundg (nN - (i + 1))
      case measure => omega
      case rel => exact ⟨i + 1, rfl, by omega, by go_num, Lib.hid (by rw [HT.out]; exact HG.out.own), Lib.hid ((KS.out.alloc _).trans HG.out.upd fun b hb hh => by have := (KO.out.lt b hh).1; omega)⟩
    · obtain rfl : i = nN := by omega
      have hO := KO.out
      rw [List.take_of_length_le (by rw [List.length_map, HL.out]; exact Nat.le_refl _)] at hO
      have hs2 := (Upd.refl (fun _ => False) wr).alloc (.cells #[] 9)
      have HS2 := Lib.hid (KS.out.same hs2)
      have HO2 := Lib.hid (own_rdK (own_same hO hs2))
      clear hs2 hO hlt hi KO KS
      go_wp2_with fail
      clear p1
      refine (orderI_spec _ HO2.out (by omega)).mono ?_
      rintro e w3 ⟨A3, c3, rfl, HP3, hs3⟩
      have hz2 := HS2.out.size
      have HS3 := Lib.hid (HS2.out.same hs3)
      have HP4 : Hid (w3.ownsRow w.heap.size 3 1 (.slice A3 i c3) i ((places (fun a b : Int => a < b) (fun k => (ns.map ND.id)[k]?.getD 0) i).map natV)) := Lib.hid (own_base HP3.out (by omega))
      obtain ⟨o, ho⟩ : ∃ o, o = places (fun a b : Int => a < b) (fun k => (ns.map ND.id)[k]?.getD 0) i := ⟨_, rfl⟩
      rw [← ho] at HP4
      obtain ⟨lsp, hlsp⟩ : ∃ lsp, lsp = o.map (fun k => ns[k]?.getD ndD) := ⟨_, rfl⟩
      have HLS : Hid (lsp = sortB (fun a b : Int => a < b) ND.id ns) := Lib.hid (by
        have h1 := places_ns ns
        rw [HL.out, ← ho, ← hlsp] at h1
        exact h1)
      have HAT : Hid (∀ j p, o[j]? = some p → ∃ x, ns[p]? = some x ∧ lsp[j]? = some x ∧ p < i) := Lib.hid fun j p hp => by
        have h1 : p < i := places_lt lin_int (by rw [← ho]; exact hp)
        obtain ⟨x, hx⟩ : ∃ x, ns[p]? = some x := ⟨_, List.getElem?_eq_getElem (by rw [HL.out]; exact h1)⟩
        exact ⟨x, hx, by rw [hlsp, List.getElem?_map, hp]; simp [hx], h1⟩
      have HOL : Hid (o.length = i) := Lib.hid (by rw [ho]; exact places_len lin_int _ _)
      have HLL : Hid (lsp.length = i) := Lib.hid (by rw [hlsp, List.length_map]; exact HOL.out)
      have KB1 := Lib.hid (HB1.out.same HS3.out)
      have KB2 := Lib.hid (HB2.out.same HS3.out)
      have KB3 := Lib.hid (HB3.out.same HS3.out)
      have KSS := Lib.hid (HS1.out.same HS3.out)
      clear ho hlsp HP3 hs3 HO2 HS2 hz hz2 hz1 HB1 HB2 HB3 HS1 HS3
      go_wp2_with fail
      go_loopg [7, 8, 9, 10, 11] i (fun gh s7 s8 s9 s10 s11 wx => ∃ (j : Nat) (A : Option Addr) (c : Nat) (l : List ND), i - j = gh ∧ j ≤ i ∧ s7 = .int .i64 j ∧ Hid (l.length = j) ∧ Hid (l.map ND.dat = (lsp.take j).map fun x => canN x.dat) ∧ Hid (OwnNs wx w.heap.size (.slice A j c) l) ∧
        Hid (wx.ownsRow w.heap.size 3 1 (.slice A3 i c3) i (o.map natV)) ∧ Hid (Blk wx w.heap.size 27 #[.slice AN i cN, .slice AR nR cR]) ∧ Hid (Blk wx (w.heap.size + 1) 27 #[.slice none 0 0, .slice none 0 0]) ∧ Hid (Blk wx (w.heap.size + 1 + 1) 27 #[.slice A j c, .slice none 0 0]) ∧ Hid (Same w wx))
      case atStart => exact ⟨0, none, 0, [], rfl, Nat.zero_le _, rfl, Lib.hid rfl, Lib.hid rfl, Lib.hid (OwnNs.nil_ _ _), HP4, KB1, KB2, KB3, KSS⟩
      case round =>
        clear HP4 KB1 KB2 KB3 KSS
        obtain ⟨j, A, c, l, rfl, hj, rfl, KL, KD, KO, KAt, KB1, KB2, KB3, KS⟩ := hrel
        obtain ⟨wq, rfl⟩ : ∃ wq : World, wq = wr := ⟨_, rfl⟩
        have hzr := KS.out.size
        by_cases hlt : j < i
        · obtain ⟨p, hp⟩ : ∃ p, o[j]? = some p := ⟨_, List.getElem?_eq_getElem (by rw [HOL.out]; exact hlt)⟩
          obtain ⟨x, hx, hlx, hpi⟩ := HAT.out j p hp
          obtain ⟨b, ob, x', rfl, hb, _, hx', hxm, r0, r1, r2⟩ := (HRN.out.same KS.out).at_ hpi
          rw [hx] at hx'
          cases hx'
          obtain ⟨ga, ua, rfl, _, hga, hua, ra, _, _⟩ := own_cell KAt.out hlt
          rw [List.getElem?_map, hp] at hua
          cases hua
          have p1 : wq.cell? ⟨w.heap.size, 0, none⟩ = some (.slice (some ⟨b, ob, none⟩) i cN) := KB1.out.cell 0
          have HXL := Lib.hid ((HRN.out.same KS.out).lab x hxm)
          have HXP := Lib.hid ((HRN.out.same KS.out).pro x hxm)
          have HXI := Lib.hid (HRN.out.id x hxm)
          have HXZ := Lib.hid (HZ.out.ns x hxm)
          have HXD := Lib.hid (show (lsp.take (j + 1)).map (fun x => canN x.dat) = (lsp.take j).map (fun x => canN x.dat) ++ [canN x.dat] from by rw [List.take_add_one, hlx]; simp)
          have y1 : (0 : Int) ≤ (p : Int) := by omega
          have y2 : (p : Int) < (i : Int) := by omega
          have y3 : (0 : Int) ≤ (j : Int) := by omega
          have y4 : (j : Int) < (i : Int) := by omega
          clear hp hx hlx hxm
          have sA := ((Upd.refl (fun _ => False) wq).alloc (.cells #[.int .i64 x.id, .slice x.AL x.nL x.cL, .slice x.AP x.nP x.cP] 40)).drew
          have SA := Lib.hid sA
          have HB5 : Hid (Blk (wq.alloc (.cells #[.int .i64 x.id, .slice x.AL x.nL x.cL, .slice x.AP x.nP x.cP] 40)).drew wq.heap.size 40 #[.int .i64 x.id, .slice x.AL x.nL x.cL, .slice x.AP x.nP x.cP]) := Lib.hid (Blk.new wq 40 #[.int .i64 x.id, .slice x.AL x.nL x.cL, .slice x.AP x.nP x.cP]).drew
          clear sA
          go_upto_region 11 with fail
          have s0 : Same wq wq.drew := (Upd.refl _ wq).drew
          have HQ5 : Hid (RcQ5 wq w.heap.size b (ob + p * 3) ga j (.slice (some ⟨b, ob, none⟩) i cN) (natV p) (.int .i64 x.id) (.slice x.AL x.nL x.cL) (.slice x.AP x.nP x.cP)) := Lib.hid ⟨p1, ra, r0, r1, r2⟩
          have hbs : w.heap.size < wq.heap.size ∧ ga < wq.heap.size ∧ b < wq.heap.size := ⟨KB1.out.lt, hga, hb⟩
          refine wp_region_E 9 (fun wx => RcQ5 wx w.heap.size b (ob + p * 3) ga j (.slice (some ⟨b, ob, none⟩) i cN) (natV p) (.int .i64 x.id) (.slice x.AL x.nL x.cL) (.slice x.AP x.nP x.cP)) (by kernel_rfl) (keepRcQ5 HQ5 hbs s0) (fun hHeld => ?_)
          repeat
            first
              | refine ESt.take (i := 0) (v := ?_) (by decide +kernel) rfl (by decide +kernel) (fun _ _ _ h => h) (Or.inl ⟨by rfl, ?_⟩) (by assumption) ?_
              | refine ESt.take (i := 1) (v := ?_) (by decide +kernel) rfl (by decide +kernel) (fun _ _ _ h => h) (Or.inl ⟨by rfl, ?_⟩) (by assumption) ?_
              | refine ESt.take (i := 2) (v := ?_) (by decide +kernel) rfl (by decide +kernel) (fun _ _ _ h => h) (Or.inl ⟨by rfl, ?_⟩) (by assumption) ?_
              | refine ESt.take (i := 3) (v := ?_) (by decide +kernel) rfl (by decide +kernel) (fun _ _ _ h => h) (Or.inl ⟨by rfl, ?_⟩) (by assumption) ?_
              | refine ESt.take (i := 4) (v := ?_) (by decide +kernel) rfl (by decide +kernel) (fun _ _ _ h => h) (Or.inl ⟨by rfl, ?_⟩) (by assumption) ?_
              | refine ESt.take (i := 5) (v := ?_) (by decide +kernel) rfl (by decide +kernel) (fun _ _ _ h => h) (Or.inl ⟨by rfl, ?_⟩) (by assumption) ?_
              | refine ESt.take (i := 6) (v := ?_) (by decide +kernel) rfl (by decide +kernel) (fun _ _ _ h => h) (Or.inl ⟨by rfl, ?_⟩) (by assumption) ?_
              | refine ESt.take (i := 7) (v := ?_) (by decide +kernel) rfl (by decide +kernel) (fun _ _ _ h => h) (Or.inl ⟨by rfl, ?_⟩) (by assumption) ?_
            rotate_left
            · intro wx hSw; obtain ⟨h0, h1, h2, h3, h4⟩ := hSw; go_simp; try with_reducible rfl
            simp only [Act.put, List.setIfInBounds_toArray]
          refine ESt.branch (rs := [8]) (by decide +kernel) (by decide +kernel) ?_
          refine AllE.cons rfl (fun K hK => ?_) AllE.nil
          go_simp
          have s4 : Same wq (wq.alloc (.cells #[.int .i64 0, .slice none 0 0, .slice none 0 0] 40)).drew := ((Upd.refl _ wq).alloc _).drew
          refine hK.out _ _ (keepRcQ5 HQ5 hbs s4) (fun hHeld => ?_)
          clear hK K
          refine ESt.last (by decide +kernel) (by decide +kernel) rfl (fun K hK => ?_) _
          go_simp
          refine hK.out _ _ ?_
          clear hK K hHeld s0 s4 HQ5 hbs
          go_upto_region 12 with fail
          clear p1 r0 r1 r2 ra
          generalize hw6 : (wq.alloc (.cells #[.int .i64 x.id, .slice x.AL x.nL x.cL, .slice x.AP x.nP x.cP] 40)).drew = w6 at *
          clear hw6
          have hs7 := (Upd.refl (fun _ => False) w6).alloc (.cells #[] 3)
          have S7 := Lib.hid (SA.out.same hs7)
          have HX7 := Lib.hid (HXL.out.same S7.out)
          have HB7 := Lib.hid (HB5.out.same hs7)
          have e1 : (w6.alloc (.cells #[] 3)).cell? ⟨wq.heap.size, 1, none⟩ = some (.slice x.AL x.nL x.cL) := HB7.out.cell 1
          have hnL : x.nL * 16 ≤ 140737488351232 := HXZ.out.nL
          have HLb : Hid (x.labels.length = x.nL) := Lib.hid (by have := HXL.out.len; simpa using this)
          clear hs7
          go_wp2_with fail
          clear e1
          refine (orderT_spec _ HX7.out (by omega)).mono ?_
          rintro e w8 ⟨A8, c8, rfl, HP8, hs8⟩
          have S8 := Lib.hid (S7.out.same hs8)
          have HB8 := Lib.hid (HB7.out.same hs8)
          have HX8 := Lib.hid (HX7.out.same hs8)
          obtain ⟨o2, ho2⟩ : ∃ o2, o2 = places ltS (fun k => x.labels[k]?.getD ⟨#[]⟩) x.nL := ⟨_, rfl⟩
          rw [← ho2] at HP8
          have HA2 : Hid (∀ k q, o2[k]? = some q → ∃ s, x.labels[q]? = some s ∧ (sortT x.labels)[k]? = some s ∧ q < x.nL) := Lib.hid fun k q hq => by
            have h1 : q < x.nL := places_lt lin_str (by rw [← ho2]; exact hq)
            obtain ⟨s, hs⟩ : ∃ s, x.labels[q]? = some s := ⟨_, List.getElem?_eq_getElem (by rw [HLb.out]; exact h1)⟩
            have h2 := places_ts x.labels
            rw [HLb.out, ← ho2] at h2
            exact ⟨s, hs, by rw [← h2, List.getElem?_map, hq]; simp [hs], h1⟩
          have HO2L : Hid (o2.length = x.nL) := Lib.hid (by rw [ho2]; exact places_len lin_str _ _)
          have HSL : Hid ((sortT x.labels).length = x.nL) := Lib.hid (by have := (sortB_same (key := fun x => x) lin_str x.labels).length; rw [HLb.out] at this; exact this)
          clear ho2 hs8 HX7 HB7 S7
          obtain ⟨wo, rfl⟩ : ∃ wo : World, wo = w8 := ⟨_, rfl⟩
          go_wp2_with fail
          go_loopg [10, 11] x.nL (fun gh s10 s11 wx => ∃ k : Nat, x.nL - k = gh ∧ k ≤ x.nL ∧ s11 = .int .i64 k ∧ Hid (wx.ownsRow wo.heap.size 9 1 s10 k (((sortT x.labels).take k).map Value.string)) ∧ Hid (Same wo wx))
          case atStart => exact ⟨0, rfl, Nat.zero_le _, rfl, Lib.hid (World.ownsRow_made wo #[] 0 (Nat.le_refl _) (Nat.zero_le _) rfl), Lib.hid ((Upd.refl _ _).alloc _)⟩
          case round =>
            obtain ⟨k, rfl, hk, rfl, LO, LS⟩ := hrel
            obtain ⟨A9, c9, rfl⟩ := own_form LO.out
            have hzl := LS.out.size
            by_cases hlt2 : k < x.nL
            · obtain ⟨q, hq⟩ : ∃ q, o2[k]? = some q := ⟨_, List.getElem?_eq_getElem (by rw [HO2L.out]; exact hlt2)⟩
              obtain ⟨s, hs, hss, hqn⟩ := HA2.out k q hq
              obtain ⟨bl, ol, ul, hAL, _, _, hul, r5⟩ := (HX8.out.same LS.out).at_ hqn
              obtain ⟨bl', ol', _, hAL', hbl, _, _, _⟩ := HX8.out.at_ hqn
              have hbe : bl' = bl := by rw [hAL] at hAL'; injection hAL' with e; injection e with e _ _; exact e.symm
              rw [hbe] at hbl
              rw [List.getElem?_map, hs] at hul
              cases hul
              obtain ⟨g8, u8, hA8, _, _, hu8, r6, _, _⟩ := own_cell (own_same HP8.out LS.out) hlt2
              have hg8 : g8 < wo.heap.size := (HP8.out.lt g8 (by rw [hA8]; rfl)).2
              rw [List.getElem?_map, hq] at hu8
              cases hu8
              have e8 : wr.cell? ⟨wq.heap.size, 1, none⟩ = some (.slice x.AL x.nL x.cL) := (HB8.out.same LS.out).cell 1
              rw [hAL] at e8
              have HTk := Lib.hid (show ((sortT x.labels).take (k + 1)).map Value.string = ((sortT x.labels).take k).map Value.string ++ [.string s] from by rw [List.take_add_one, hss]; simp)
              have z1 : (0 : Int) ≤ (q : Int) := by omega
              have z2 : (q : Int) < (x.nL : Int) := by omega
              have z3 : (0 : Int) ≤ (k : Int) := by omega
              have z4 : (k : Int) < (x.nL : Int) := by omega
              subst hA8
              clear hq hs hss hAL hAL' hbe
              go_upto_region 17 with fail
              have hbs : wq.heap.size < wo.heap.size ∧ g8 < wo.heap.size ∧ bl < wo.heap.size := ⟨HB8.out.lt, hg8, hbl⟩
              have HQ3 : Hid (RcQ3 wr wq.heap.size g8 k bl (ol + q) (.slice (some ⟨bl, ol, none⟩) x.nL x.cL) (natV q) (.string s)) := Lib.hid ⟨e8, r6, r5⟩
              have s0 : Same wr wr.drew := (Upd.refl _ wr).drew
              refine wp_region_E 11 (fun wx => RcQ3 wx wq.heap.size g8 k bl (ol + q) (.slice (some ⟨bl, ol, none⟩) x.nL x.cL) (natV q) (.string s)) (by kernel_rfl) (keepRcQ3 HQ3 hbs hzl s0 (fun _ _ f => f)) (fun hHeld => ?_)
              repeat
                first
                  | refine ESt.take (i := 0) (v := ?_) (by decide +kernel) rfl (by decide +kernel) (fun _ _ _ h => h) (Or.inl ⟨by rfl, ?_⟩) (by assumption) ?_
                  | refine ESt.take (i := 1) (v := ?_) (by decide +kernel) rfl (by decide +kernel) (fun _ _ _ h => h) (Or.inl ⟨by rfl, ?_⟩) (by assumption) ?_
                  | refine ESt.take (i := 2) (v := ?_) (by decide +kernel) rfl (by decide +kernel) (fun _ _ _ h => h) (Or.inl ⟨by rfl, ?_⟩) (by assumption) ?_
                  | refine ESt.take (i := 3) (v := ?_) (by decide +kernel) rfl (by decide +kernel) (fun _ _ _ h => h) (Or.inl ⟨by rfl, ?_⟩) (by assumption) ?_
                  | refine ESt.take (i := 4) (v := ?_) (by decide +kernel) rfl (by decide +kernel) (fun _ _ _ h => h) (Or.inl ⟨by rfl, ?_⟩) (by assumption) ?_
                  | refine ESt.take (i := 5) (v := ?_) (by decide +kernel) rfl (by decide +kernel) (fun _ _ _ h => h) (Or.inl ⟨by rfl, ?_⟩) (by assumption) ?_
                  | refine ESt.take (i := 6) (v := ?_) (by decide +kernel) rfl (by decide +kernel) (fun _ _ _ h => h) (Or.inl ⟨by rfl, ?_⟩) (by assumption) ?_
                  | refine ESt.take (i := 7) (v := ?_) (by decide +kernel) rfl (by decide +kernel) (fun _ _ _ h => h) (Or.inl ⟨by rfl, ?_⟩) (by assumption) ?_
                  | refine ESt.take (i := 8) (v := ?_) (by decide +kernel) rfl (by decide +kernel) (fun _ _ _ h => h) (Or.inl ⟨by rfl, ?_⟩) (by assumption) ?_
                rotate_left
                · intro wx hSw; obtain ⟨h0, h1, h2⟩ := hSw; go_simp; try with_reducible rfl
                simp only [Act.put, List.setIfInBounds_toArray]
              refine ESt.branch (rs := [9]) (by decide +kernel) (by decide +kernel) ?_
              refine AllE.cons rfl (fun K hK => ?_) AllE.nil
              go_simp
              have s4 : Same wr (wr.alloc (.cells #[.string s] 9)).drew := ((Upd.refl _ wr).alloc _).drew
              refine hK.out _ _ (keepRcQ3 HQ3 hbs hzl s4 (fun _ _ f => f)) (fun hHeld => ?_)
              clear hK K
              refine ESt.branch (rs := [10]) (by decide +kernel) (by decide +kernel) ?_
              refine AllE.cons rfl (fun K hK => ?_) AllE.nil
              refine step_app rfl (.tmp 61) (.tmp 70) _ _ rfl wo.heap.size 9 1 16 _ Tryz.underlying37 info_string rfl (.slice A9 k c9) k _ rfl (own_same LO.out s4) rfl (src_row Tryz.underlying37 (Row.drewR (Row.one _ _ _)) (by simp [Value.oneCell'])) (by unfold maxLen; omega) (by omega) (by have := s4.size; omega) ?_
              intro v9 w9 hg
              have s9 : Upd (fun b => (Value.slice A9 k c9).ownBlock = some b) wr w9 := (s4.mono (S' := fun b => (Value.slice A9 k c9).ownBlock = some b) fun _ _ f => f.elim).trans hg.upd fun _ _ h => h
              have hk9 := keepRcQ3 HQ3 hbs hzl s9 (fun b hb hh => by have := (LO.out.lt b hh).1; omega)
              have HG := Lib.hid hg.own
              have HS9 := Lib.hid (LS.out.trans s9 fun b hb hh => by have := (LO.out.lt b hh).1; omega)
              refine hK.out _ _ hk9 (fun hHeld => ?_)
              clear hK K s0 s4 s9 hg hk9
              simp only [Act.put, List.setIfInBounds_toArray]
              refine ESt.last (by decide +kernel) (by decide +kernel) rfl (fun K hK => ?_) _
              go_simp
              refine hK.out _ _ ?_
              clear hK K hHeld HQ3 hbs e8 r5 r6
              go_wp2
              go_roundg (x.nL - (k + 1))
              case measure => omega
              case rel => exact ⟨k + 1, rfl, by omega, by go_num, Lib.hid (by rw [HTk.out]; exact HG.out), HS9⟩
            · obtain rfl : k = x.nL := by omega
              have hO := LO.out
              rw [List.take_of_length_le (by rw [HSL.out]; exact Nat.le_refl _)] at hO
              have O7' : Hid (wr.ownsRow w.heap.size 9 1 (.slice A9 x.nL c9) x.nL ((sortT x.labels).map Value.string)) := Lib.hid (own_base hO (by have := S8.out.size; omega))
              have SW := Lib.hid (S8.out.same LS.out)
              have HB3w := Lib.hid (KB3.out.same SW.out)
              have HB5w := Lib.hid (HB8.out.same LS.out)
              have hzw := SW.out.size
              clear hO LO LS HP8 HB8 HX8 S8 HA2 HO2L HSL HB5 SA HXL
              go_upto_region 18 with fail
              have s0 : Same wr wr.drew := (Upd.refl _ wr).drew
              refine wp_region_E 12 (fun wx => wx.cell? ⟨w.heap.size + 1 + 1, 0, none⟩ = some (.slice A j c) ∧ wx.cell? ⟨wq.heap.size, 0, none⟩ = some (.int .i64 x.id) ∧ wx.cell? ⟨wq.heap.size, 1, none⟩ = some (.slice x.AL x.nL x.cL) ∧ wx.cell? ⟨wq.heap.size, 2, none⟩ = some (.slice x.AP x.nP x.cP)) (by kernel_rfl) (keepE HB3w HB5w s0) (fun hHeld => ?_)
              repeat
                first
                  | refine ESt.take (i := 0) (v := ?_) (by decide +kernel) rfl (by decide +kernel) (fun _ _ _ h => h) (Or.inl ⟨by rfl, ?_⟩) (by assumption) ?_
                  | refine ESt.take (i := 1) (v := ?_) (by decide +kernel) rfl (by decide +kernel) (fun _ _ _ h => h) (Or.inl ⟨by rfl, ?_⟩) (by assumption) ?_
                  | refine ESt.take (i := 2) (v := ?_) (by decide +kernel) rfl (by decide +kernel) (fun _ _ _ h => h) (Or.inl ⟨by rfl, ?_⟩) (by assumption) ?_
                  | refine ESt.take (i := 3) (v := ?_) (by decide +kernel) rfl (by decide +kernel) (fun _ _ _ h => h) (Or.inl ⟨by rfl, ?_⟩) (by assumption) ?_
                  | refine ESt.take (i := 4) (v := ?_) (by decide +kernel) rfl (by decide +kernel) (fun _ _ _ h => h) (Or.inl ⟨by rfl, ?_⟩) (by assumption) ?_
                  | refine ESt.take (i := 5) (v := ?_) (by decide +kernel) rfl (by decide +kernel) (fun _ _ _ h => h) (Or.inl ⟨by rfl, ?_⟩) (by assumption) ?_
                  | refine ESt.take (i := 6) (v := ?_) (by decide +kernel) rfl (by decide +kernel) (fun _ _ _ h => h) (Or.inl ⟨by rfl, ?_⟩) (by assumption) ?_
                rotate_left
                · intro wx hSw; obtain ⟨h0, h1, h2, h3⟩ := hSw; go_simp; try with_reducible rfl
                simp only [Act.put, List.setIfInBounds_toArray]
              refine ESt.branch (rs := [7]) (by decide +kernel) (by decide +kernel) ?_
              refine AllE.cons rfl (fun K hK => ?_) AllE.nil
              go_simp
              refine (rcanonProps_spec _ (HXP.out.same (SW.out.same s0)) HXZ.out.pro.small).mono ?_
              rintro e w10 ⟨A5, c5, ps5, rfl, hd5, O10, hs10⟩
              have s10 : Same wr w10 := s0.same hs10
              have O7x := Lib.hid (own_same O7'.out s10)
              have O10' := Lib.hid (O10.out.base (B' := w.heap.size) (by simp only [World.size_drew]; omega))
              clear O10 hs10
              go_wp2_with fail
              refine hK.out _ _ (keepE HB3w HB5w s10) (fun hHeld => ?_)
              clear hK K
              refine ESt.take (i := 8) (v := ?_) (by decide +kernel) rfl (by decide +kernel) (fun _ _ _ h => h) (Or.inl ⟨by rfl, ?_⟩) (by assumption) ?_
              rotate_left
              · intro wx hSw; obtain ⟨h0, h1, h2, h3⟩ := hSw; go_simp; try with_reducible rfl
              simp only [Act.put, List.setIfInBounds_toArray]
              refine ESt.branch (rs := [9]) (by decide +kernel) (by decide +kernel) ?_
              refine AllE.cons rfl (fun K hK => ?_) AllE.nil
              go_simp
              have sB := (Upd.refl (fun _ => False) w10).alloc (.cells #[.int .i64 x.id, .slice A9 x.nL c9, .slice A5 x.nP c5] 40)
              have s12 := s10.same sB
              refine hK.out _ _ (keepE HB3w HB5w s12) (fun hHeld => ?_)
              clear hK K
              refine ESt.branch (rs := [10]) (by decide +kernel) (by decide +kernel) ?_
              refine AllE.cons rfl (fun K hK => ?_) AllE.nil
              have sR : Same wq (w10.alloc (.cells #[.int .i64 x.id, .slice A9 x.nL c9, .slice A5 x.nP c5] 40)) := SW.out.same s12
              have KO' := KO.out.same sR
              have hrow := KO'.row
              rw [KL.out] at hrow
              refine step_app rfl (.tmp 73) (.tmp 81) _ _ rfl w.heap.size 40 3 56 _ Tryz.underlying24 info_Node rfl (.slice A j c) j _ rfl hrow rfl (src_row Tryz.underlying24 (Row.nd w10 ⟨x.id, sortT x.labels, A9, x.nL, c9, ps5, A5, x.nP, c5⟩) (ND.one _)) (by unfold maxLen; omega) (by omega) (by have := sR.size; omega) ?_
              intro v9 w9 hg9
              have KOr := KO.out.row
              rw [KL.out] at KOr
              have hO9 := KO'.snoc (x := ⟨x.id, sortT x.labels, A9, x.nL, c9, ps5, A5, x.nP, c5⟩) (by rw [KL.out]; exact hg9) ⟨own_same O7x.out sB, O10'.out.same sB, HXI.out⟩
              have q3 := (HB3w.out.same s12).upd hg9.upd fun hh => (HB3w.out.same s12).ne_own hrow (by decide) hh
              have q5 := (HB5w.out.same s12).upd hg9.upd fun hh => by have := (KOr.lt _ hh).2; omega
              obtain ⟨f1, _, f3⟩ := field_app (i := 0) KB3.out KOr (by decide) sR hg9
              obtain ⟨AZ, cZ, rfl⟩ := own_form hg9.own
              have hO := hO9.type ((Upd.refl (fun b => b = w.heap.size + 1 + 1) w9).put1 (i := 0) (.slice AZ (j + 1) cZ)) (fun g _ hg => by rw [hg]; exact ⟨_, q3⟩) (by decide) (by decide) (by decide) (by decide)
              have hS := same_app KS.out f3 (by omega) fun b hb => (KOr.lt b hb).1
              have k1 := KB1.out.upd f3 (by rintro (hh | hh); · omega
                                            · exact KB1.out.ne_own KOr (by decide) hh)
              have k2 := KB2.out.upd f3 (by rintro (hh | hh); · omega
                                            · exact KB2.out.ne_own KOr (by decide) hh)
              have kat := own_upd KAt.out f3 fun g hg hs => by
                rcases hs with hs | hs
                · exact KB3.out.ne_own KAt.out (by decide) (by rw [hg, hs])
                · exact absurd ((own_ofT KAt.out hg).ne (own_ofT KOr hs)) (by decide)
              have F1 := Lib.hid f1
              have FO := Lib.hid hO
              have FS := Lib.hid hS
              have K1 := Lib.hid k1
              have K2 := Lib.hid k2
              have Q3 := Lib.hid q3
              have KA2 := Lib.hid kat
              clear f1 f3 hO hS k1 k2 kat hO9 hg9 hrow KO' KOr
              refine hK.out _ _ ⟨q3.cell 0, q5.cell 0, q5.cell 1, q5.cell 2⟩ (fun hHeld => ?_)
              clear hK K q3 q5
              simp only [Act.put]
              refine ESt.take (i := 11) (v := ?_) (by decide +kernel) rfl (by decide +kernel) (fun _ _ _ h => h) (Or.inl ⟨by rfl, ?_⟩) (by assumption) ?_
              rotate_left
              · intro wx hSw; obtain ⟨h0, h1, h2, h3⟩ := hSw; go_simp; try with_reducible rfl
              simp only [Act.put, List.setIfInBounds_toArray]
              refine ESt.last (by decide +kernel) (by decide +kernel) rfl (fun K hK => ?_) _
              have r3 := Q3.out.cell 0
              have z3 := Q3.out.frozen 0
              go_simp
              refine hK.out _ _ ?_
              clear hK K r3 z3 hHeld s0 s10 s12 sB sR
              go_wp2
              go_roundg (i - (j + 1))
              case measure => omega
              case rel => exact ⟨j + 1, AZ, cZ, l ++ [⟨x.id, sortT x.labels, A9, x.nL, c9, ps5, A5, x.nP, c5⟩], rfl, by omega, by go_num, Lib.hid (by rw [List.length_append, KL.out]; rfl), Lib.hid (by rw [List.map_append, KD.out, HXD.out]; simp only [List.map_cons, List.map_nil, ND.dat, canN, hd5.out]), FO, KA2, K1, K2, F1, FS⟩
        · obtain rfl : j = i := by omega
          have hD := KD.out
          rw [List.take_of_length_le (by rw [HLL.out]; exact Nat.le_refl _)] at hD
          have KDn := Lib.hid hD
          clear hD KD KAt hlt hj
          go_wp2_with fail
          go_loopg [4, 12] nR (fun gh s4 s12 wx => ∃ k : Nat, nR - k = gh ∧ k ≤ nR ∧ s12 = .int .i64 k ∧ Hid (wx.ownsRow wq.heap.size 3 1 s4 k (((rs.map RL.id).take k).map (Value.int .i64))) ∧ Hid (Same wq wx))
          case atStart => exact ⟨0, rfl, Nat.zero_le _, rfl, Lib.hid (World.ownsRow_made wq #[] 0 (Nat.le_refl _) (Nat.zero_le _) rfl), Lib.hid ((Upd.refl _ _).alloc _)⟩
          case round =>
            obtain ⟨k, rfl, hk, rfl, LO, LS⟩ := hrel
            obtain ⟨A4, c4, rfl⟩ := own_form LO.out
            have hzl := LS.out.size
            have p1 : wr.cell? ⟨w.heap.size, 1, none⟩ = some (.slice AR nR cR) := (KB1.out.same LS.out).cell 1
            by_cases hlt : k < nR
            · obtain ⟨b, ob, x, rfl, hb, _, hx, hxm, r0, _⟩ := (HRR.out.same (KS.out.same LS.out)).at_ hlt
              have HT := Lib.hid (show ((rs.map RL.id).take (k + 1)).map (Value.int .i64) = ((rs.map RL.id).take k).map (Value.int .i64) ++ [.int .i64 x.id] from by rw [List.take_add_one, List.getElem?_map, hx]; simp)
              clear hx hxm
              go_wp2_with (at_builtin; go_must (refine wpList_app rfl (.tmp 92) (.tmp 99) _ _ rfl wq.heap.size 3 1 8 _ Tryz.underlying36 info_int rfl (.slice A4 k c4) k _ rfl (LO.out.alloc _) rfl (src_row Tryz.underlying36 (Row.one _ _ _) (by simp [Value.oneCell'])) (by unfold maxLen; omega) (by omega) (by simp; omega) ?_); intro v9 w9 hg; have HG := Lib.hid hg; clear hg)
              go_roundg (nR - (k + 1))
              case measure => omega
              case rel => exact ⟨k + 1, rfl, by omega, by go_num, Lib.hid (by rw [HT.out]; exact HG.out.own), Lib.hid ((LS.out.alloc _).trans HG.out.upd fun b hb hh => by have := (LO.out.lt b hh).1; omega)⟩
            · obtain rfl : k = nR := by omega
              have hO := LO.out
              rw [List.take_of_length_le (by rw [List.length_map, HL'.out]; exact Nat.le_refl _)] at hO
              have hs2 := (Upd.refl (fun _ => False) wr).alloc (.cells #[] 9)
              have HS2 := Lib.hid (LS.out.same hs2)
              have HO2 := Lib.hid (own_rdK (own_same hO hs2))
              clear hs2 hO hlt hk LO LS
              go_wp2_with fail
              clear p1
              refine (orderI_spec _ HO2.out (by omega)).mono ?_
              rintro e w3 ⟨A3, c3, rfl, HP3, hs3⟩
              have hz2 := HS2.out.size
              have hzq := KS.out.size
              have HS3 := Lib.hid (HS2.out.same hs3)
              have HP4 : Hid (w3.ownsRow w.heap.size 3 1 (.slice A3 k c3) k ((places (fun a b : Int => a < b) (fun m => (rs.map RL.id)[m]?.getD 0) k).map natV)) := Lib.hid (own_base HP3.out (by omega))
              obtain ⟨oR, ho⟩ : ∃ oR, oR = places (fun a b : Int => a < b) (fun m => (rs.map RL.id)[m]?.getD 0) k := ⟨_, rfl⟩
              rw [← ho] at HP4
              obtain ⟨lsr, hlsr⟩ : ∃ lsr, lsr = oR.map (fun m => rs[m]?.getD rlD) := ⟨_, rfl⟩
              have HLSR : Hid (lsr = sortB (fun a b : Int => a < b) RL.id rs) := Lib.hid (by
                have h1 := places_rs rs
                rw [HL'.out, ← ho, ← hlsr] at h1
                exact h1)
              have HATR : Hid (∀ j p, oR[j]? = some p → ∃ x, rs[p]? = some x ∧ lsr[j]? = some x ∧ p < k) := Lib.hid fun j p hp => by
                have h1 : p < k := places_lt lin_int (by rw [← ho]; exact hp)
                obtain ⟨x, hx⟩ : ∃ x, rs[p]? = some x := ⟨_, List.getElem?_eq_getElem (by rw [HL'.out]; exact h1)⟩
                exact ⟨x, hx, by rw [hlsr, List.getElem?_map, hp]; simp [hx], h1⟩
              have HORL : Hid (oR.length = k) := Lib.hid (by rw [ho]; exact places_len lin_int _ _)
              have HLRL : Hid (lsr.length = k) := Lib.hid (by rw [hlsr, List.length_map]; exact HORL.out)
              have MB1 := Lib.hid (KB1.out.same HS3.out)
              have MB2 := Lib.hid (KB2.out.same HS3.out)
              have MB3 := Lib.hid (KB3.out.same HS3.out)
              have MS := Lib.hid (KS.out.same HS3.out)
              have MO := Lib.hid (KO.out.same HS3.out)
              clear ho hlsr HP3 hs3 HO2 HS2 hz2 hzl HS3 KB1 KB2 KB3 KS KO
              go_wp2_with fail
              go_loopg [13, 14] k (fun gh s13 s14 wx => ∃ (m : Nat) (A' : Option Addr) (c' : Nat) (l' : List RL), k - m = gh ∧ m ≤ k ∧ s13 = .int .i64 m ∧ Hid (l'.length = m) ∧ Hid (l'.map RL.dat = (lsr.take m).map fun x => canR x.dat) ∧ Hid (OwnRs wx w.heap.size (.slice A' m c') l') ∧ Hid (OwnNs wx w.heap.size (.slice A j c) l) ∧
                Hid (wx.ownsRow w.heap.size 3 1 (.slice A3 k c3) k (oR.map natV)) ∧ Hid (Blk wx w.heap.size 27 #[.slice AN j cN, .slice AR k cR]) ∧ Hid (Blk wx (w.heap.size + 1) 27 #[.slice none 0 0, .slice none 0 0]) ∧ Hid (Blk wx (w.heap.size + 1 + 1) 27 #[.slice A j c, .slice A' m c']) ∧ Hid (Same w wx))
              case atStart => exact ⟨0, none, 0, [], rfl, Nat.zero_le _, rfl, Lib.hid rfl, Lib.hid rfl, Lib.hid (OwnRs.nil_ _ _), MO, HP4, MB1, MB2, MB3, MS⟩
              case round =>
                clear HP4 MB1 MB2 MB3 MS MO
                obtain ⟨m, A', c', l', rfl, hm, rfl, KL', KD', KO', KO, KAt, KB1, KB2, KB3, KS⟩ := hrel
                obtain ⟨wp, rfl⟩ : ∃ wp : World, wp = wr := ⟨_, rfl⟩
                have hzr := KS.out.size
                by_cases hlt : m < k
                · obtain ⟨p, hp⟩ : ∃ p, oR[m]? = some p := ⟨_, List.getElem?_eq_getElem (by rw [HORL.out]; exact hlt)⟩
                  obtain ⟨x, hx, hlx, hpi⟩ := HATR.out m p hp
                  obtain ⟨b, ob, x', rfl, hb, _, hx', hxm, r0, r1, r2, r3, r4⟩ := (HRR.out.same KS.out).at_ hpi
                  rw [hx] at hx'
                  cases hx'
                  obtain ⟨ga, ua, rfl, _, hga, hua, ra, _, _⟩ := own_cell KAt.out hlt
                  rw [List.getElem?_map, hp] at hua
                  cases hua
                  have p1 : wp.cell? ⟨w.heap.size, 1, none⟩ = some (.slice (some ⟨b, ob, none⟩) k cR) := KB1.out.cell 1
                  have HXP := Lib.hid ((HRR.out.same KS.out).pro x hxm)
                  have HXI := Lib.hid (HRR.out.id x hxm)
                  have HXZ := Lib.hid (HZ.out.rs x hxm)
                  have HXD := Lib.hid (show (lsr.take (m + 1)).map (fun x => canR x.dat) = (lsr.take m).map (fun x => canR x.dat) ++ [canR x.dat] from by rw [List.take_add_one, hlx]; simp)
                  have y1 : (0 : Int) ≤ (p : Int) := by omega
                  have y2 : (p : Int) < (k : Int) := by omega
                  have y3 : (0 : Int) ≤ (m : Int) := by omega
                  have y4 : (m : Int) < (k : Int) := by omega
                  clear hp hx hlx hxm
                  have sA := ((Upd.refl (fun _ => False) wp).alloc (.cells #[.int .i64 x.id, .string x.type, .int .i64 x.src, .int .i64 x.dst, .slice x.AP x.nP x.cP] 47)).drew
                  have SA := Lib.hid sA
                  have HB5 : Hid (Blk (wp.alloc (.cells #[.int .i64 x.id, .string x.type, .int .i64 x.src, .int .i64 x.dst, .slice x.AP x.nP x.cP] 47)).drew wp.heap.size 47 #[.int .i64 x.id, .string x.type, .int .i64 x.src, .int .i64 x.dst, .slice x.AP x.nP x.cP]) := Lib.hid (Blk.new wp 47 #[.int .i64 x.id, .string x.type, .int .i64 x.src, .int .i64 x.dst, .slice x.AP x.nP x.cP]).drew
                  have HB3w := Lib.hid (KB3.out.same sA)
                  clear sA
                  go_upto_region 28 with fail
                  have s0 : Same wp wp.drew := (Upd.refl _ wp).drew
                  have HQ7 : Hid (RcQ7 wp w.heap.size b (ob + p * 5) ga m (.slice (some ⟨b, ob, none⟩) k cR) (natV p) (.int .i64 x.id) (.string x.type) (.int .i64 x.src) (.int .i64 x.dst) (.slice x.AP x.nP x.cP)) := Lib.hid ⟨p1, ra, r0, r1, r2, r3, r4⟩
                  have hbs : w.heap.size < wp.heap.size ∧ ga < wp.heap.size ∧ b < wp.heap.size := ⟨KB1.out.lt, hga, hb⟩
                  refine wp_region_E 9 (fun wx => RcQ7 wx w.heap.size b (ob + p * 5) ga m (.slice (some ⟨b, ob, none⟩) k cR) (natV p) (.int .i64 x.id) (.string x.type) (.int .i64 x.src) (.int .i64 x.dst) (.slice x.AP x.nP x.cP)) (by kernel_rfl) (keepRcQ7 HQ7 hbs s0) (fun hHeld => ?_)
                  repeat
                    first
                      | refine ESt.take (i := 0) (v := ?_) (by decide +kernel) rfl (by decide +kernel) (fun _ _ _ h => h) (Or.inl ⟨by rfl, ?_⟩) (by assumption) ?_
                      | refine ESt.take (i := 1) (v := ?_) (by decide +kernel) rfl (by decide +kernel) (fun _ _ _ h => h) (Or.inl ⟨by rfl, ?_⟩) (by assumption) ?_
                      | refine ESt.take (i := 2) (v := ?_) (by decide +kernel) rfl (by decide +kernel) (fun _ _ _ h => h) (Or.inl ⟨by rfl, ?_⟩) (by assumption) ?_
                      | refine ESt.take (i := 3) (v := ?_) (by decide +kernel) rfl (by decide +kernel) (fun _ _ _ h => h) (Or.inl ⟨by rfl, ?_⟩) (by assumption) ?_
                      | refine ESt.take (i := 4) (v := ?_) (by decide +kernel) rfl (by decide +kernel) (fun _ _ _ h => h) (Or.inl ⟨by rfl, ?_⟩) (by assumption) ?_
                      | refine ESt.take (i := 5) (v := ?_) (by decide +kernel) rfl (by decide +kernel) (fun _ _ _ h => h) (Or.inl ⟨by rfl, ?_⟩) (by assumption) ?_
                      | refine ESt.take (i := 6) (v := ?_) (by decide +kernel) rfl (by decide +kernel) (fun _ _ _ h => h) (Or.inl ⟨by rfl, ?_⟩) (by assumption) ?_
                      | refine ESt.take (i := 7) (v := ?_) (by decide +kernel) rfl (by decide +kernel) (fun _ _ _ h => h) (Or.inl ⟨by rfl, ?_⟩) (by assumption) ?_
                    rotate_left
                    · intro wx hSw; obtain ⟨h0, h1, h2, h3, h4, h5, h6⟩ := hSw; go_simp; try with_reducible rfl
                    simp only [Act.put, List.setIfInBounds_toArray]
                  refine ESt.branch (rs := [8]) (by decide +kernel) (by decide +kernel) ?_
                  refine AllE.cons rfl (fun K hK => ?_) AllE.nil
                  go_simp
                  have s4 : Same wp (wp.alloc (.cells #[.int .i64 0, .string ⟨#[]⟩, .int .i64 0, .int .i64 0, .slice none 0 0] 47)).drew := ((Upd.refl _ wp).alloc _).drew
                  refine hK.out _ _ (keepRcQ7 HQ7 hbs s4) (fun hHeld => ?_)
                  clear hK K
                  refine ESt.last (by decide +kernel) (by decide +kernel) rfl (fun K hK => ?_) _
                  go_simp
                  refine hK.out _ _ ?_
                  clear hK K hHeld s0 s4 HQ7 hbs
                  go_upto_region 29 with fail
                  clear p1 r0 r1 r2 r3 r4 ra
                  generalize hw6 : (wp.alloc (.cells #[.int .i64 x.id, .string x.type, .int .i64 x.src, .int .i64 x.dst, .slice x.AP x.nP x.cP] 47)).drew = w6 at *
                  clear hw6
                  have s0 : Same w6 w6.drew := (Upd.refl _ w6).drew
                  have z6 := SA.out.size
                  refine wp_region_E 17 (fun wx => wx.cell? ⟨w.heap.size + 1 + 1, 1, none⟩ = some (.slice A' m c') ∧ wx.cell? ⟨wp.heap.size, 0, none⟩ = some (.int .i64 x.id) ∧ wx.cell? ⟨wp.heap.size, 1, none⟩ = some (.string x.type) ∧ wx.cell? ⟨wp.heap.size, 2, none⟩ = some (.int .i64 x.src) ∧ wx.cell? ⟨wp.heap.size, 3, none⟩ = some (.int .i64 x.dst) ∧ wx.cell? ⟨wp.heap.size, 4, none⟩ = some (.slice x.AP x.nP x.cP)) (by kernel_rfl) (keepE5 HB3w HB5 s0) (fun hHeld => ?_)
                  repeat
                    first
                      | refine ESt.take (i := 0) (v := ?_) (by decide +kernel) rfl (by decide +kernel) (fun _ _ _ h => h) (Or.inl ⟨by rfl, ?_⟩) (by assumption) ?_
                      | refine ESt.take (i := 1) (v := ?_) (by decide +kernel) rfl (by decide +kernel) (fun _ _ _ h => h) (Or.inl ⟨by rfl, ?_⟩) (by assumption) ?_
                      | refine ESt.take (i := 2) (v := ?_) (by decide +kernel) rfl (by decide +kernel) (fun _ _ _ h => h) (Or.inl ⟨by rfl, ?_⟩) (by assumption) ?_
                      | refine ESt.take (i := 3) (v := ?_) (by decide +kernel) rfl (by decide +kernel) (fun _ _ _ h => h) (Or.inl ⟨by rfl, ?_⟩) (by assumption) ?_
                      | refine ESt.take (i := 4) (v := ?_) (by decide +kernel) rfl (by decide +kernel) (fun _ _ _ h => h) (Or.inl ⟨by rfl, ?_⟩) (by assumption) ?_
                      | refine ESt.take (i := 5) (v := ?_) (by decide +kernel) rfl (by decide +kernel) (fun _ _ _ h => h) (Or.inl ⟨by rfl, ?_⟩) (by assumption) ?_
                      | refine ESt.take (i := 6) (v := ?_) (by decide +kernel) rfl (by decide +kernel) (fun _ _ _ h => h) (Or.inl ⟨by rfl, ?_⟩) (by assumption) ?_
                      | refine ESt.take (i := 7) (v := ?_) (by decide +kernel) rfl (by decide +kernel) (fun _ _ _ h => h) (Or.inl ⟨by rfl, ?_⟩) (by assumption) ?_
                      | refine ESt.take (i := 8) (v := ?_) (by decide +kernel) rfl (by decide +kernel) (fun _ _ _ h => h) (Or.inl ⟨by rfl, ?_⟩) (by assumption) ?_
                      | refine ESt.take (i := 9) (v := ?_) (by decide +kernel) rfl (by decide +kernel) (fun _ _ _ h => h) (Or.inl ⟨by rfl, ?_⟩) (by assumption) ?_
                      | refine ESt.take (i := 10) (v := ?_) (by decide +kernel) rfl (by decide +kernel) (fun _ _ _ h => h) (Or.inl ⟨by rfl, ?_⟩) (by assumption) ?_
                      | refine ESt.take (i := 11) (v := ?_) (by decide +kernel) rfl (by decide +kernel) (fun _ _ _ h => h) (Or.inl ⟨by rfl, ?_⟩) (by assumption) ?_
                    rotate_left
                    · intro wx hSw; obtain ⟨h0, h1, h2, h3, h4, h5⟩ := hSw; go_simp; try with_reducible rfl
                    simp only [Act.put, List.setIfInBounds_toArray]
                  refine ESt.branch (rs := [12]) (by decide +kernel) (by decide +kernel) ?_
                  refine AllE.cons rfl (fun K hK => ?_) AllE.nil
                  go_simp
                  refine (rcanonProps_spec _ (HXP.out.same (SA.out.same s0)) HXZ.out.pro.small).mono ?_
                  rintro e w10 ⟨A5, c5, ps5, rfl, hd5, O10, hs10⟩
                  have s10 : Same w6 w10 := s0.same hs10
                  have O10' := Lib.hid (O10.out.base (B' := w.heap.size) (by simp only [World.size_drew]; omega))
                  clear O10 hs10
                  go_wp2_with fail
                  refine hK.out _ _ (keepE5 HB3w HB5 s10) (fun hHeld => ?_)
                  clear hK K
                  refine ESt.take (i := 13) (v := ?_) (by decide +kernel) rfl (by decide +kernel) (fun _ _ _ h => h) (Or.inl ⟨by rfl, ?_⟩) (by assumption) ?_
                  rotate_left
                  · intro wx hSw; obtain ⟨h0, h1, h2, h3, h4, h5⟩ := hSw; go_simp; try with_reducible rfl
                  simp only [Act.put, List.setIfInBounds_toArray]
                  refine ESt.branch (rs := [14]) (by decide +kernel) (by decide +kernel) ?_
                  refine AllE.cons rfl (fun K hK => ?_) AllE.nil
                  go_simp
                  have sB := (Upd.refl (fun _ => False) w10).alloc (.cells #[.int .i64 x.id, .string x.type, .int .i64 x.src, .int .i64 x.dst, .slice A5 x.nP c5] 47)
                  have s12 := s10.same sB
                  refine hK.out _ _ (keepE5 HB3w HB5 s12) (fun hHeld => ?_)
                  clear hK K
                  refine ESt.branch (rs := [15]) (by decide +kernel) (by decide +kernel) ?_
                  refine AllE.cons rfl (fun K hK => ?_) AllE.nil
                  have sR : Same wp (w10.alloc (.cells #[.int .i64 x.id, .string x.type, .int .i64 x.src, .int .i64 x.dst, .slice A5 x.nP c5] 47)) := SA.out.same s12
                  have KO2 := KO'.out.same sR
                  have hrow := KO2.row
                  rw [KL'.out] at hrow
                  refine step_app rfl (.tmp 119) (.tmp 132) _ _ rfl w.heap.size 47 5 64 _ Tryz.underlying25 info_Rel rfl (.slice A' m c') m _ rfl hrow rfl (src_row Tryz.underlying25 (Row.rl w10 ⟨x.id, x.type, x.src, x.dst, ps5, A5, x.nP, c5⟩) (RL.one _)) (by unfold maxLen; omega) (by omega) (by have := sR.size; omega) ?_
                  intro v9 w9 hg9
                  have KOr := KO'.out.row
                  rw [KL'.out] at KOr
                  have hO9 := KO2.snoc (x := ⟨x.id, x.type, x.src, x.dst, ps5, A5, x.nP, c5⟩) (by rw [KL'.out]; exact hg9) ⟨O10'.out.same sB, HXI.out⟩
                  have hN9 := (KO.out.same sR).type hg9.upd (fun g _ hg => own_ofT hrow hg) (by decide) (by decide) (by decide) (by decide)
                  have q3 := (HB3w.out.same s12).upd hg9.upd fun hh => (HB3w.out.same s12).ne_own hrow (by decide) hh
                  have q5 := (HB5.out.same s12).upd hg9.upd fun hh => by have := (KOr.lt _ hh).2; omega
                  obtain ⟨f1, _, f3⟩ := field_app (i := 1) KB3.out KOr (by decide) sR hg9
                  obtain ⟨A9, c9, rfl⟩ := own_form hg9.own
                  have hU3 := (Upd.refl (fun b => b = w.heap.size + 1 + 1) w9).put1 (i := 1) (.slice A9 (m + 1) c9)
                  have hO := hO9.type hU3 (fun g _ hg => by rw [hg]; exact ⟨_, q3⟩) (by decide) (by decide) (by decide) (by decide)
                  have hN := hN9.type hU3 (fun g _ hg => by rw [hg]; exact ⟨_, q3⟩) (by decide) (by decide) (by decide) (by decide)
                  have hS := same_app KS.out f3 (by omega) fun b hb => (KOr.lt b hb).1
                  have k1 := KB1.out.upd f3 (by rintro (hh | hh); · omega
                                                · exact KB1.out.ne_own KOr (by decide) hh)
                  have k2 := KB2.out.upd f3 (by rintro (hh | hh); · omega
                                                · exact KB2.out.ne_own KOr (by decide) hh)
                  have kat := own_upd KAt.out f3 fun g hg hs => by
                    rcases hs with hs | hs
                    · exact KB3.out.ne_own KAt.out (by decide) (by rw [hg, hs])
                    · exact absurd ((own_ofT KAt.out hg).ne (own_ofT KOr hs)) (by decide)
                  have F1 := Lib.hid f1
                  have FO := Lib.hid hO
                  have FN := Lib.hid hN
                  have FS := Lib.hid hS
                  have K1 := Lib.hid k1
                  have K2 := Lib.hid k2
                  have Q3 := Lib.hid q3
                  have KA2 := Lib.hid kat
                  clear f1 f3 hO hN hS k1 k2 kat hO9 hN9 hg9 hrow KO2 KOr hU3
                  refine hK.out _ _ ⟨q3.cell 1, q5.cell 0, q5.cell 1, q5.cell 2, q5.cell 3, q5.cell 4⟩ (fun hHeld => ?_)
                  clear hK K q3 q5
                  simp only [Act.put]
                  refine ESt.take (i := 16) (v := ?_) (by decide +kernel) rfl (by decide +kernel) (fun _ _ _ h => h) (Or.inl ⟨by rfl, ?_⟩) (by assumption) ?_
                  rotate_left
                  · intro wx hSw; obtain ⟨h0, h1, h2, h3, h4, h5⟩ := hSw; go_simp; try with_reducible rfl
                  simp only [Act.put, List.setIfInBounds_toArray]
                  refine ESt.last (by decide +kernel) (by decide +kernel) rfl (fun K hK => ?_) _
                  have r3 := Q3.out.cell 1
                  have z3 := Q3.out.frozen 1
                  go_simp
                  refine hK.out _ _ ?_
                  clear hK K r3 z3 hHeld s0 s10 s12 sB sR
                  go_wp2
                  go_roundg (k - (m + 1))
                  case measure => omega
                  case rel => exact ⟨m + 1, A9, c9, l' ++ [⟨x.id, x.type, x.src, x.dst, ps5, A5, x.nP, c5⟩], rfl, by omega, by go_num, Lib.hid (by rw [List.length_append, KL'.out]; rfl), Lib.hid (by rw [List.map_append, KD'.out, HXD.out]; simp only [List.map_cons, List.map_nil, RL.dat, canR, hd5.out]), FO, FN, KA2, K1, K2, F1, FS⟩
                · obtain rfl : m = k := by omega
                  have hD := KD'.out
                  rw [List.take_of_length_le (by rw [HLRL.out]; exact Nat.le_refl _)] at hD
                  have KDr := Lib.hid hD
                  clear hlt hD
                  have e0 : wp.cell? ⟨w.heap.size + 1 + 1, 0, none⟩ = some (.slice A j c) := KB3.out.cell 0
                  have e1 : wp.cell? ⟨w.heap.size + 1 + 1, 1, none⟩ = some (.slice A' m c') := KB3.out.cell 1
                  have g0 := KB2.out.cell 0
                  have g1 := KB2.out.cell 1
                  have z0 := KB2.out.frozen 0
                  have z1 := KB2.out.frozen 1
                  go_wp2
                  have hB := (KB2.out.put 0 (.slice A j c)).put 1 (.slice A' m c')
                  have hU := ((Upd.refl (fun b => b = w.heap.size + 1) wp).put1 (i := 0) (.slice A j c)).put1 (i := 1) (.slice A' m c')
                  have v0 := hB.cell 0
                  have v1 := hB.cell 1
                  have hT : ∀ g, g < wp.heap.size → g = w.heap.size + 1 → OfT wp 27 g := fun g _ hg => by rw [hg]; exact ⟨_, KB2.out⟩
                  have r1 := KO.out.type hU hT (by decide) (by decide) (by decide) (by decide)
                  have r2 := KO'.out.type hU hT (by decide) (by decide) (by decide) (by decide)
                  refine bodyPost_ret (v := .agg #[.slice A j c, .slice A' m c']) ?_ rfl ⟨⟨l, A, j, c, l', A', m, c'⟩, rfl, Lib.hid ?_, Lib.hid ⟨r1, r2⟩, KS.out.trans hU fun b hb hh => by omega⟩
                  · simp at v0 v1
                    simp [results, Tryz.results21, go_sem, v0, v1]
                  · simp only [GR.dat, canonD]
                    rw [KDn.out, KDr.out, HLS.out, HLSR.out]
                    have e1 := (sortB_map (lt := fun a b : Int => a < b) (key := ND.id) (key' := GNode.id) (fun x : ND => canN x.dat) (fun _ => rfl) ns).symm
                    have e2 := (sortB_map (lt := fun a b : Int => a < b) (key := RL.id) (key' := GRel.id) (fun x : RL => canR x.dat) (fun _ => rfl) rs).symm
                    rw [e1, e2, List.map_map, List.map_map]
                    rfl
end Go.Proofs.YtlnademnfnhbpaaGreat
