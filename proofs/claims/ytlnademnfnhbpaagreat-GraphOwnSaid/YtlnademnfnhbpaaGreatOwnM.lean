/- GraphOwn: graphs of the call's own, block by block; mark. -/
import Derived.Test.YtlnademnfnhbpaaGreatGCanons
import Derived.Test.YtlnademnfnhbpaaGreatFar
namespace Go.Proofs.YtlnademnfnhbpaaGreat
open Go.RowKit

/-- The blocks of a graph's lists. -/
def GR.blk (g : GR) (k : Nat) : Prop :=
  (Value.slice g.AN g.nN g.cN).ownBlock = some k ∨ (Value.slice g.AR g.nR g.cR).ownBlock = some k ∨ (∃ x ∈ g.ns, x.blocks k) ∨ ∃ y ∈ g.rs, y.blocks k
theorem OwnG.blk {w : World} {B : Nat} {g : GR} (h : OwnG w B g) {k : Nat} (hk : g.blk k) : B ≤ k ∧ k < w.heap.size := by
  have e1 := h.nodes.row
  have e2 := h.rels.row
  rcases hk with hk | hk | ⟨x, hx, hk⟩ | ⟨y, hy, hk⟩
  · exact e1.lt k hk
  · exact e2.lt k hk
  · exact (h.nodes.each x hx).blk hk
  · exact (h.rels.each y hy).blk hk
theorem OwnVal.ty {w : World} {B : Nat} {x : PR} (h : OwnVal w B x) {k : Nat} (hk : x.blocks k) : OfT w 2 k ∨ OfT w 9 k := by
  rcases hk with hk | hk
  · exact .inl (own_ofT h.nums hk)
  · exact .inr (own_ofT h.texts hk)
theorem OwnPs.ty {w : World} {B : Nat} {v : Value} {ps : List PR} (h : OwnPs w B v ps) {k : Nat} (hk : v.ownBlock = some k ∨ ∃ p ∈ ps, p.blocks k) : OfT w 45 k ∨ OfT w 2 k ∨ OfT w 9 k := by
  rcases hk with hk | ⟨p, hp, hk⟩
  · exact .inl (own_ofT h.row hk)
  · exact .inr ((h.each p hp).ty hk)
/-- No box is among them. -/
theorem OwnG.ne_box {w : World} {B k : Nat} {g : GR} {cs : Array Value} (h : OwnG w B g) (hb : Blk w k 27 cs) : ¬ g.blk k := by
  have hG : OfT w 27 k := ⟨cs, hb⟩
  have no : ∀ {e : TypeId}, OfT w e k → e ≠ 27 → False := fun h1 h2 => h2 (h1.ne hG)
  have ps : ∀ {v : Value} {l : List PR}, OwnPs w B v l → (v.ownBlock = some k ∨ ∃ p ∈ l, p.blocks k) → False := fun h1 h2 => by
    rcases h1.ty h2 with h | h | h
    · exact no h (by decide)
    · exact no h (by decide)
    · exact no h (by decide)
  rintro (hk | hk | ⟨x, hx, hk | hk⟩ | ⟨y, hy, hk⟩)
  · exact no (own_ofT h.nodes.row hk) (by decide)
  · exact no (own_ofT h.rels.row hk) (by decide)
  · exact no (own_ofT (h.nodes.each x hx).lab hk) (by decide)
  · exact ps (h.nodes.each x hx).pro hk
  · exact ps (h.rels.each y hy).pro hk
theorem own_rdX {w : World} {base k n c : Nat} {A : Option Addr} {e : TypeId} {xs : List Value} {F : Nat → Prop} (h : w.ownsRow base e k (.slice A n c) n xs) (hF : ∀ b, (Value.slice A n c).ownBlock = some b → F b) : WRow w F k A n c xs :=
  (Row.mono (Row.of_own h) fun b _ hh => hF b (by rw [hh.1]; rfl)).weak
/-- Read, in its own blocks alone. -/
theorem OwnG.rdX {w : World} {B : Nat} {g : GR} (h : OwnG w B g) : RdG w g.blk g := by
  have l1 : g.ns.length = g.nN := h.rd.nodes.len
  have l2 : g.rs.length = g.nR := h.rd.rels.len
  have hN := h.nodes.row
  have hR := h.rels.row
  rw [l1] at hN
  rw [l2] at hR
  have ps : ∀ {A : Option Addr} {n c : Nat} {l : List PR}, OwnPs w B (.slice A n c) l → (∀ k, ((Value.slice A n c).ownBlock = some k ∨ ∃ p ∈ l, p.blocks k) → g.blk k) → RdPs w g.blk A n c l := fun {A n c l} h1 h2 => by
    have hr := h1.row
    have hl : l.length = n := h1.rd.len
    rw [hl] at hr
    refine ⟨own_rdX hr fun b hb => h2 b (.inl hb), fun x hx => ?_⟩
    have e := h1.each x hx
    exact ⟨own_rdX e.nums fun b hb => h2 b (.inr ⟨x, hx, .inl hb⟩), own_rdX e.texts fun b hb => h2 b (.inr ⟨x, hx, .inr hb⟩), e.fits.kind, e.fits.num, e.fits.range⟩
  refine ⟨⟨own_rdX hN fun b hb => .inl hb, fun x hx => own_rdX (h.nodes.each x hx).lab fun b hb => .inr (.inr (.inl ⟨x, hx, .inl hb⟩)), fun x hx => ps (h.nodes.each x hx).pro fun k hk => .inr (.inr (.inl ⟨x, hx, .inr hk⟩)), fun x hx => (h.nodes.each x hx).id⟩,
    ⟨own_rdX hR fun b hb => .inr (.inl hb), fun y hy => ps (h.rels.each y hy).pro fun k hk => .inr (.inr (.inr ⟨y, hy, hk⟩)), fun y hy => (h.rels.each y hy).id⟩⟩
theorem canonG_own {F : Nat → Prop} (w0 w : World) (g : GR) (hs : Same w0 w) (h : RdG w0 F g) (hz : GSized g) :
    Calls Tryz.prog 20 #[g.agg] w fun e w' => ∃ g' : GR, e = .returned g'.agg ∧ Hid (g'.dat = canonD g.dat) ∧ Hid (OwnG w' w.heap.size g') ∧ Hid (ApartG g') ∧ Same w w' :=
  canonG_spec w g (h.same hs) hz

/-- A cell of an owned row of properties turned into a slice's head. -/
theorem own_prc {w : World} {B n c k j h : Nat} {l1 Q : List PR} {x y : PR} {u : Value} (hr : w.ownsRow B 45 6 (.slice (some ⟨h, 0, none⟩) n c) n ((l1 ++ x :: Q).flatMap PR.cells)) (hl : l1.length = k) (hj : j < 6) (he : y.cells = x.cells.set j u) :
    (w.setCell ⟨h, k * 6 + j, none⟩ u).ownsRow B 45 6 (.slice (some ⟨h, 0, none⟩) n c) n ((l1 ++ y :: Q).flatMap PR.cells) := by
  have hlen := arr_len hr PR.six (by omega)
  rw [List.length_append, List.length_cons] at hlen
  obtain ⟨g, _, hA, _, _, _, _, _, s4⟩ := own_cellK (i := k * 6 + j) hr (by omega)
  injection hA with hA
  injection hA with hA _ _
  subst hA
  have := s4 u
  rwa [flat_one PR.six l1 Q x y hj he hl] at this

set_option maxHeartbeats 8000000 in
set_option maxRecDepth 100000 in
/-- mark turns one property and its lists, and nothing else. -/
theorem mark_spec {B h n c k : Nat} {l1 Q : List PR} {x : PR} (w : World) (hr : w.ownsRow B 45 6 (.slice (some ⟨h, 0, none⟩) n c) n ((l1 ++ x :: Q).flatMap PR.cells)) (hl : l1.length = k) (hx : OwnVal w B x) (hs1 : x.n1 * 8 ≤ 140737488351232) (hs2 : x.n2 * 16 ≤ 140737488351232) (hB : B ≤ w.heap.size) :
    Calls Tryz.prog 28 #[.pointer (some ⟨h, k * 6, none⟩)] w fun e w' => e = .returned (.tuple #[]) ∧ ∃ y : PR, w'.ownsRow B 45 6 (.slice (some ⟨h, 0, none⟩) n c) n ((l1 ++ y :: Q).flatMap PR.cells) ∧ Upd (fun b => b = h ∨ x.blocks b) w w' := by
  obtain ⟨hkn, hg, hA, hF⟩ := OwnP.at_ hr (el_at l1 Q x hl)
  have HR := Lib.hid hr
  have HX := Lib.hid hx
  have HKL := Lib.hid hl
  have HK0 := Lib.hid hl
  obtain ⟨A1, n1, c1, hLL⟩ : ∃ A1 n1 c1, x.A1 = A1 ∧ x.n1 = n1 ∧ x.c1 = c1 := ⟨_, _, _, rfl, rfl, rfl⟩
  obtain ⟨A2, n2, c2, hMM⟩ : ∃ A2 n2 c2, x.A2 = A2 ∧ x.n2 = n2 ∧ x.c2 = c2 := ⟨_, _, _, rfl, rfl, rfl⟩
  have e4 : w.cell? ⟨h, k * 6 + 1 + 3, none⟩ = some (.slice A1 n1 c1) := by have := hA.2.2.2.2.1; rw [hLL.1, hLL.2.1, hLL.2.2] at this; exact this
  have HN : Hid (w.ownsRow B 2 1 (.slice A1 n1 c1) n1 (x.g.nums.map (Value.int .i64))) := Lib.hid (by have := hx.nums; rw [hLL.1, hLL.2.1, hLL.2.2] at this; exact this)
  have HT : Hid (w.ownsRow B 9 1 (.slice A2 n2 c2) n2 (x.g.texts.map Value.string)) := Lib.hid (by have := hx.texts; rw [hMM.1, hMM.2.1, hMM.2.2] at this; exact this)
  rw [hLL.2.1] at hs1
  rw [hMM.2.1] at hs2
  have HLL := Lib.hid hLL
  have HMM := Lib.hid hMM
  have HB1 : Hid (∀ b, (Value.slice A1 n1 c1).ownBlock = some b → b = h ∨ x.blocks b) := Lib.hid fun b hb => .inr (.inl (by rw [hLL.1, hLL.2.1, hLL.2.2]; exact hb))
  have HB2 : Hid (∀ b, (Value.slice A2 n2 c2).ownBlock = some b → b = h ∨ x.blocks b) := Lib.hid fun b hb => .inr (.inr (by rw [hMM.1, hMM.2.1, hMM.2.2]; exact hb))
  clear hr hx hA hF hl hLL hMM
  go_enter Tryz.func28, Tryz.ntmps28
  go_wp2_with fail
  clear e4
  go_loopg [10] n1 (fun gh s10 wr => ∃ i : Nat, n1 - i = gh ∧ i ≤ n1 ∧ s10 = .int .i64 i ∧ Hid (∃ xs, wr.ownsRow B 2 1 (.slice A1 n1 c1) n1 xs) ∧ Hid (Upd (fun b => (Value.slice A1 n1 c1).ownBlock = some b) w wr))
  case atStart => exact ⟨0, rfl, Nat.zero_le _, rfl, Lib.hid ⟨_, HN.out⟩, Lib.hid (Upd.refl _ _)⟩
  case round =>
    obtain ⟨i, rfl, hi, rfl, KO, KU⟩ := hrel
    have hzr := KU.out.size
    have HRr : Hid (wr.ownsRow B 45 6 (.slice (some ⟨h, 0, none⟩) n c) n ((l1 ++ x :: Q).flatMap PR.cells)) := Lib.hid (own_upd HR.out KU.out fun b hb hh => own_ne_own HN.out HR.out (by decide) b hh hb)
    obtain ⟨_, hg', hA', hF'⟩ := OwnP.at_ HRr.out (el_at l1 Q x HKL.out)
    have e4 : wr.cell? ⟨h, k * 6 + 1 + 3, none⟩ = some (.slice A1 n1 c1) := by have := hA'.2.2.2.2.1; rw [HLL.out.1, HLL.out.2.1, HLL.out.2.2] at this; exact this
    clear hA' hF'
    by_cases hlt : i < n1
    · obtain ⟨gi, rfl, hBi, hgi, ⟨u, r0⟩, f0, t0⟩ := own_put KO.out hlt
      have HT0 := Lib.hid (t0 (.int .i64 (-7)))
      have HU0 := Lib.hid (KU.out.trans ((Upd.refl (fun b => b = gi) wr).put1 (i := i) (.int .i64 (-7))) fun b _ hb => by rw [hb]; rfl)
      have k1 : (0 : Int) ≤ (i : Int) := by omega
      have k2 : (i : Int) < (n1 : Int) := by omega
      clear t0
      go_wp2
      go_roundg (n1 - (i + 1))
      case measure => omega
      case rel => exact ⟨i + 1, rfl, by omega, by go_num, HT0, HU0⟩
    · obtain rfl : i = n1 := by omega
      obtain ⟨xs, hxs⟩ := KO.out
      have HXS := Lib.hid hxs
      clear hxs KO hlt hi
      obtain ⟨wo, rfl⟩ : ∃ wo : World, wo = wr := ⟨_, rfl⟩
      have HTo := Lib.hid (own_type HT.out KU.out (fun b _ hb => own_ofT HN.out hb) (by decide))
      go_upto_region 5 with fail
      have hsa := (Upd.refl (fun _ => False) wo).alloc (.cells #[.int .i64 (-7), .int .i64 (-7)] 2)
      have HRa := Lib.hid (own_same HRr.out hsa)
      have HTa := Lib.hid (own_same HTo.out hsa)
      have HUa := Lib.hid (KU.out.same hsa)
      have HNa := Lib.hid (HXS.out.alloc (.cells #[.int .i64 (-7), .int .i64 (-7)] 2))
      have hza := hsa.size
      clear hsa
      go_upto_region 6 with (at_builtin; go_must (refine wpList_app rfl (.tmp 26) (.tmp 27) _ _ rfl B 2 1 8 _ Tryz.underlying41 info_i64 rfl (.slice A1 i c1) i _ rfl (HXS.out.alloc _) rfl (src_row Tryz.underlying41 (Row.of_blk (k := 1) (n := 2) (Blk.new _ _ _) rfl (Nat.le_refl _) (by simp [maxLen])) (by simp [Value.oneCell'])) (by unfold maxLen; omega) (by omega) (by simp; omega) ?_); intro v9 w9 hg; have hsz9 := hg.upd.size; have hR9 := own_upd HRa.out hg.upd (fun b hb hh => own_ne_own HN.out HR.out (by decide) b hh hb); have hT9 := own_type HTa.out hg.upd (fun b _ hb => own_ofT HNa.out hb) (by decide); obtain ⟨_, _, hA9, hF9⟩ := OwnP.at_ hR9 (el_at l1 Q x HKL.out); clear e4; have e4 : w9.cell? ⟨h, k * 6 + 1 + 3, none⟩ = some (.slice A1 i c1) := (by have := hA9.2.2.2.2.1; rw [HLL.out.1, HLL.out.2.1, HLL.out.2.2] at this; exact this); have f4 : w9.frozen? ⟨h, k * 6 + 1 + 3, none⟩ = false := hF9.2.2.2.2.1; obtain ⟨A9, c9, rfl⟩ := own_form hg.own; have HU9 := Lib.hid (HUa.out.trans hg.upd fun b _ hb => hb); have HO9 := Lib.hid hg.own; have HR9 := Lib.hid hR9; have HT9 := Lib.hid hT9; clear hg hA9 hF9 hR9 hT9)
      have HRp : Hid ((w9.setCell ⟨h, k * 6 + 1 + 3, none⟩ (.slice A9 (i + 2) c9)).ownsRow B 45 6 (.slice (some ⟨h, 0, none⟩) n c) n ((l1 ++ ({ x with A1 := A9, n1 := i + 2, c1 := c9 } : PR) :: Q).flatMap PR.cells)) := Lib.hid (own_prc (j := 4) HR9.out HKL.out (by omega) rfl)
      have HTp : Hid ((w9.setCell ⟨h, k * 6 + 1 + 3, none⟩ (.slice A9 (i + 2) c9)).ownsRow B 9 1 (.slice A2 n2 c2) n2 (x.g.texts.map Value.string)) := Lib.hid (own_type HT9.out ((Upd.refl (fun b => b = h) w9).put1 (i := k * 6 + 1 + 3) (.slice A9 (i + 2) c9)) (fun b _ hb => by rw [hb]; exact own_ofT HR9.out rfl) (by decide))
      have HUp : Hid (Upd (fun b => b = h ∨ x.blocks b) w (w9.setCell ⟨h, k * 6 + 1 + 3, none⟩ (.slice A9 (i + 2) c9))) := Lib.hid ((HU9.out.mono fun b _ hb => HB1.out b hb).trans ((Upd.refl (fun b => b = h) w9).put1 (i := k * 6 + 1 + 3) (.slice A9 (i + 2) c9)) fun b _ hb => .inl hb)
      have hzp := HUp.out.size
      clear e4 f4 hza hsz9 HO9 HU9 HR9 HT9 HRa HTa HUa HNa HXS HTo HRr KU HX
      generalize w9.setCell ⟨h, k * 6 + 1 + 3, none⟩ (.slice A9 (i + 2) c9) = wp at *
      obtain ⟨y1, hy1⟩ : ∃ y1 : PR, y1 = { x with A1 := A9, n1 := i + 2, c1 := c9 } := ⟨_, rfl⟩
      rw [← hy1] at HRp
      have HY1 : Hid (y1.A2 = A2 ∧ y1.n2 = n2 ∧ y1.c2 = c2) := Lib.hid (by rw [hy1]; exact HMM.out)
      clear hy1
      clear HB1 HN HLL hs1 hzr hg' HKL hkn HMM
      have HKL : Hid (l1.length = k) := Lib.hid HK0.out
      obtain ⟨hkn, hg, hA, hF⟩ := OwnP.at_ HRp.out (el_at l1 Q y1 HKL.out)
      have e5 : wp.cell? ⟨h, k * 6 + 1 + 4, none⟩ = some (.slice A2 n2 c2) := by have := hA.2.2.2.2.2; rw [HY1.out.1, HY1.out.2.1, HY1.out.2.2] at this; exact this
      clear hA hF
      go_wp2_with fail
      clear e5
      go_loopg [38] n2 (fun gh s38 wr => ∃ j : Nat, n2 - j = gh ∧ j ≤ n2 ∧ s38 = .int .i64 j ∧ Hid (∃ xs, wr.ownsRow B 9 1 (.slice A2 n2 c2) n2 xs) ∧ Hid (Upd (fun b => (Value.slice A2 n2 c2).ownBlock = some b) wp wr))
      case atStart => exact ⟨0, rfl, Nat.zero_le _, rfl, Lib.hid ⟨_, HTp.out⟩, Lib.hid (Upd.refl _ _)⟩
      case round =>
        obtain ⟨j, rfl, hj, rfl, KO, KU⟩ := hrel
        have hzr := KU.out.size
        have HRr : Hid (wr.ownsRow B 45 6 (.slice (some ⟨h, 0, none⟩) n c) n ((l1 ++ y1 :: Q).flatMap PR.cells)) := Lib.hid (own_upd HRp.out KU.out fun b hb hh => own_ne_own HTp.out HRp.out (by decide) b hh hb)
        obtain ⟨_, hg', hA', hF'⟩ := OwnP.at_ HRr.out (el_at l1 Q y1 HKL.out)
        have e5 : wr.cell? ⟨h, k * 6 + 1 + 4, none⟩ = some (.slice A2 n2 c2) := by have := hA'.2.2.2.2.2; rw [HY1.out.1, HY1.out.2.1, HY1.out.2.2] at this; exact this
        clear hA' hF'
        by_cases hlt : j < n2
        · obtain ⟨gi, rfl, hBi, hgi, ⟨u, r0⟩, f0, t0⟩ := own_put KO.out hlt
          have HT0 := Lib.hid (t0 (.string ⟨#[42]⟩))
          have HU0 := Lib.hid (KU.out.trans ((Upd.refl (fun b => b = gi) wr).put1 (i := j) (.string ⟨#[42]⟩)) fun b _ hb => by rw [hb]; rfl)
          have k1 : (0 : Int) ≤ (j : Int) := by omega
          have k2 : (j : Int) < (n2 : Int) := by omega
          clear t0
          go_wp2
          go_roundg (n2 - (j + 1))
          case measure => omega
          case rel => exact ⟨j + 1, rfl, by omega, by go_num, HT0, HU0⟩
        · obtain rfl : j = n2 := by omega
          obtain ⟨xs2, hxs⟩ := KO.out
          have HXS := Lib.hid hxs
          clear hxs KO hlt hj
          obtain ⟨wo2, rfl⟩ : ∃ wo2 : World, wo2 = wr := ⟨_, rfl⟩
          go_upto_region 11 with fail
          have hsa := (Upd.refl (fun _ => False) wo2).alloc (.cells #[.string ⟨#[42]⟩, .string ⟨#[42]⟩] 9)
          have HRa := Lib.hid (own_same HRr.out hsa)
          have HUa := Lib.hid (KU.out.same hsa)
          have hza := hsa.size
          clear hsa
          go_upto_region 12 with (at_builtin; go_must (refine wpList_app rfl (.tmp 54) (.tmp 55) _ _ rfl B 9 1 16 _ Tryz.underlying37 info_string rfl (.slice A2 j c2) j _ rfl (HXS.out.alloc _) rfl (src_row Tryz.underlying37 (Row.of_blk (k := 1) (n := 2) (Blk.new _ _ _) rfl (Nat.le_refl _) (by simp [maxLen])) (by simp [Value.oneCell'])) (by unfold maxLen; omega) (by omega) (by simp; omega) ?_); intro v9 w9 hg; have hsz9 := hg.upd.size; have hR9 := own_upd HRa.out hg.upd (fun b hb hh => own_ne_own HTp.out HRp.out (by decide) b hh hb); obtain ⟨_, _, hA9, hF9⟩ := OwnP.at_ hR9 (el_at l1 Q y1 HKL.out); clear e5; have e5 : w9.cell? ⟨h, k * 6 + 1 + 4, none⟩ = some (.slice A2 j c2) := (by have := hA9.2.2.2.2.2; rw [HY1.out.1, HY1.out.2.1, HY1.out.2.2] at this; exact this); have f5 : w9.frozen? ⟨h, k * 6 + 1 + 4, none⟩ = false := hF9.2.2.2.2.2; obtain ⟨A9, c9, rfl⟩ := own_form hg.own; have HU9 := Lib.hid (HUa.out.trans hg.upd fun b _ hb => hb); have HR9 := Lib.hid hR9; clear hg hA9 hF9 hR9)
          have HRq : Hid ((w9.setCell ⟨h, k * 6 + 1 + 4, none⟩ (.slice A9 (j + 2) c9)).ownsRow B 45 6 (.slice (some ⟨h, 0, none⟩) n c) n ((l1 ++ ({ y1 with A2 := A9, n2 := j + 2, c2 := c9 } : PR) :: Q).flatMap PR.cells)) := Lib.hid (own_prc (j := 5) HR9.out HKL.out (by omega) rfl)
          have HUq : Hid (Upd (fun b => b = h ∨ x.blocks b) w (w9.setCell ⟨h, k * 6 + 1 + 4, none⟩ (.slice A9 (j + 2) c9))) := Lib.hid (HUp.out.trans ((HU9.out.mono fun b _ hb => HB2.out b hb).trans ((Upd.refl (fun b => b = h) w9).put1 (i := k * 6 + 1 + 4) (.slice A9 (j + 2) c9)) fun b _ hb => .inl hb) fun b _ hb => hb)
          clear e5 f5 hza hsz9 HU9 HR9 HRa HUa HXS HRr KU HTp HB2 HRp HUp HT hs2
          generalize w9.setCell ⟨h, k * 6 + 1 + 4, none⟩ (.slice A9 (j + 2) c9) = wq at *
          obtain ⟨y2, hy2⟩ : ∃ y2 : PR, y2 = { y1 with A2 := A9, n2 := j + 2, c2 := c9 } := ⟨_, rfl⟩
          rw [← hy2] at HRq
          clear hy2
          obtain ⟨_, hg, hA, hF⟩ := OwnP.at_ HRq.out (el_at l1 Q y2 HKL.out)
          have e6 : wq.cell? ⟨h, k * 6, none⟩ = some (.string y2.key) := hA.1
          have f6 : wq.frozen? ⟨h, k * 6, none⟩ = false := hF.1
          clear hA hF
          go_wp2
          refine bodyPost_end (results_none rfl _ _ _) rfl ?_
          exact ⟨rfl, { y2 with key := ⟨#[42]⟩ }, own_prc (j := 0) HRq.out HKL.out (by omega) rfl, HUq.out.trans ((Upd.refl (fun b => b = h) wq).put1 (i := k * 6) (.string ⟨#[42]⟩)) fun b _ hb => .inl hb⟩
end Go.Proofs.YtlnademnfnhbpaaGreat
