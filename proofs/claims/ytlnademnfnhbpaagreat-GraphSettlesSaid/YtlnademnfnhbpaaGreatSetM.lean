/- A graph of the call's own whose lists are changed about: the state, its steps. -/
import Derived.Test.YtlnademnfnhbpaaGreatSetL
import Derived.Test.YtlnademnfnhbpaaGreatCopyA
namespace Go.Proofs.YtlnademnfnhbpaaGreat
open Go.RowKit

theorem and_mask (m : Int) (c : Nat) (hc : c < 9223372036854775808) : ∃ a : Nat, bits .and .i64 m (c : Int) = (a : Int) ∧ a ≤ c := by
  refine ⟨(BitVec.ofInt 64 m &&& BitVec.ofInt 64 (c : Int)).toNat, ?_, ?_⟩
  · have h : (BitVec.ofInt 64 m &&& BitVec.ofInt 64 (c : Int)).toNat ≤ c := by
      rw [BitVec.toNat_and, BitVec.ofInt_natCast, BitVec.toNat_ofNat, Nat.mod_eq_of_lt (by omega)]
      exact Nat.and_le_right
    have e : bits .and .i64 m (c : Int) = IntKind.i64.wrap ((BitVec.ofInt 64 m &&& BitVec.ofInt 64 (c : Int)).toNat : Int) := rfl
    rw [e, IntKind.wrap_i64]
    generalize (BitVec.ofInt 64 m &&& BitVec.ofInt 64 (c : Int)).toNat = a at *
    omega
  · rw [BitVec.toNat_and, BitVec.ofInt_natCast, BitVec.toNat_ofNat, Nat.mod_eq_of_lt (by omega)]
    exact Nat.and_le_right

/-- The state of the mixing. -/
structure SetS (w : World) (g : GGraph) (B g5 : Nat) (c : GR) (wx : World) : Prop where
  row1 : wx.ownsRow B 40 3 (.slice c.AN c.nN c.cN) c.nN (c.ns.flatMap ND.cells)
  e1 : ∀ x ∈ c.ns, OwnNd wx B x
  row2 : wx.ownsRow B 47 5 (.slice c.AR c.nR c.cR) c.nR (c.rs.flatMap RL.cells)
  e2 : ∀ x ∈ c.rs, OwnRl wx B x
  ap : ApartG c
  mix : Mixed g c.dat
  box : Blk wx g5 27 #[.slice c.AN c.nN c.cN, .slice c.AR c.nR c.cR]
  same : Same w wx
  base : w.heap.size ≤ B
  siz : GSized c

section
variable {w wx w' : World} {g : GGraph} {B g5 : Nat} {c : GR}
theorem SetS.on (h : SetS w g B g5 c wx) (hs : Same wx w') : SetS w g B g5 c w' :=
  ⟨own_same h.row1 hs, fun x hx => (h.e1 x hx).same hs, own_same h.row2 hs, fun x hx => (h.e2 x hx).same hs, h.ap, h.mix, h.box.same hs, h.same.same hs, h.base, h.siz⟩
theorem put_upd (w : World) (h i k : Nat) (us : List Value) : Upd (fun b => b = h) w (putL w h (i * k) us) := putL_upd us w h (i * k)
/-- Nodes i and j change places. -/
theorem SetS.swapN {h i j : Nat} {x y : ND} (hS : SetS w g B g5 c wx) (hA : c.AN = some ⟨h, 0, none⟩) (hi : c.ns[i]? = some x) (hj : c.ns[j]? = some y) :
    SetS w g B g5 { c with ns := (c.ns.set i y).set j x } (putN (putN wx h i y) h j x).drew := by
  have hp := swap_perm hi hj
  have hr := hS.row1
  rw [hA] at hr
  have hl := arr_len hr ND.three (by omega)
  have li := (List.getElem?_eq_some_iff.1 hi).1
  have lj := (List.getElem?_eq_some_iff.1 hj).1
  obtain ⟨q1, q2⟩ := OwnN.put2 hr (by omega) (by omega) y x (l' := (c.ns.set i y).set j x) rfl
  have hT : ∀ k, k < wx.heap.size → k = h → OfT wx 40 k := fun k _ hk => by rw [hk]; exact own_ofT hr rfl
  have hB := (hr.lt h rfl).1
  refine ⟨by rw [hA]; exact q1, fun z hz => (hS.e1 z (hp.mem_iff.1 hz)).type q2 hT (by decide) (by decide) (by decide), own_type hS.row2 q2 hT (by decide), fun z hz => (hS.e2 z hz).type q2 hT (by decide) (by decide) (by decide), ?_, ?_, hS.box.upd q2 (fun e => hS.box.ne_own hr (by decide) (by rw [e]; rfl)), hS.same.trans q2 (fun b hb hh => by have := hS.base; omega), hS.base, ⟨hS.siz.nN, hS.siz.nR, fun z hz => hS.siz.ns z (hp.mem_iff.1 hz), hS.siz.rs⟩⟩
  · exact ⟨pw_perm ND.Apart.symm hS.ap.nodes hp, hS.ap.rels, fun z hz => hS.ap.nprops z (hp.mem_iff.1 hz), hS.ap.rprops, fun z hz => hS.ap.cross z (hp.mem_iff.1 hz)⟩
  · exact hS.mix.nodes (hp.map ND.dat)
/-- Relationships i and j change places. -/
theorem SetS.swapR {h i j : Nat} {x y : RL} (hS : SetS w g B g5 c wx) (hA : c.AR = some ⟨h, 0, none⟩) (hi : c.rs[i]? = some x) (hj : c.rs[j]? = some y) :
    SetS w g B g5 { c with rs := (c.rs.set i y).set j x } (putR (putR wx h i y) h j x).drew := by
  have hp := swap_perm hi hj
  have hr := hS.row2
  rw [hA] at hr
  have hl := arr_len hr RL.five (by omega)
  have li := (List.getElem?_eq_some_iff.1 hi).1
  have lj := (List.getElem?_eq_some_iff.1 hj).1
  obtain ⟨q1, q2⟩ := OwnR.put2 hr (by omega) (by omega) y x (l' := (c.rs.set i y).set j x) rfl
  have hT : ∀ k, k < wx.heap.size → k = h → OfT wx 47 k := fun k _ hk => by rw [hk]; exact own_ofT hr rfl
  have hB := (hr.lt h rfl).1
  refine ⟨own_type hS.row1 q2 hT (by decide), fun z hz => (hS.e1 z hz).type q2 hT (by decide) (by decide) (by decide), by rw [hA]; exact q1, fun z hz => (hS.e2 z (hp.mem_iff.1 hz)).type q2 hT (by decide) (by decide) (by decide), ?_, ?_, hS.box.upd q2 (fun e => hS.box.ne_own hr (by decide) (by rw [e]; rfl)), hS.same.trans q2 (fun b hb hh => by have := hS.base; omega), hS.base, ⟨hS.siz.nN, hS.siz.nR, hS.siz.ns, fun z hz => hS.siz.rs z (hp.mem_iff.1 hz)⟩⟩
  · exact ⟨hS.ap.nodes, pw_perm RL.Apart.symm hS.ap.rels hp, hS.ap.nprops, fun z hz => hS.ap.rprops z (hp.mem_iff.1 hz), fun z hz y hy => hS.ap.cross z hz y (hp.mem_iff.1 hy)⟩
  · exact hS.mix.rels (hp.map RL.dat)

theorem pw_mid {α : Type} {R : α → α → Prop} (hs : ∀ x y, R x y → R y x) {P Q : List α} {x : α} (h : (P ++ x :: Q).Pairwise R) : ∀ y ∈ P ++ Q, R x y := by
  obtain ⟨_, h2, h3⟩ := List.pairwise_append.1 h
  intro y hy
  rcases List.mem_append.1 hy with hy | hy
  · exact hs _ _ (h3 y hy x (by simp))
  · exact (List.pairwise_cons.1 h2).1 y hy
theorem pw_same {α : Type} {R : α → α → Prop} {P Q : List α} {x y : α} (h : (P ++ x :: Q).Pairwise R) (h1 : ∀ z, R z x → R z y) (h2 : ∀ z, R x z → R y z) : (P ++ y :: Q).Pairwise R := by
  obtain ⟨a, b, c⟩ := List.pairwise_append.1 h
  obtain ⟨b1, b2⟩ := List.pairwise_cons.1 b
  refine List.pairwise_append.2 ⟨a, List.pairwise_cons.2 ⟨fun z hz => h2 z (b1 z hz), b2⟩, fun z hz u hu => ?_⟩
  rcases List.mem_cons.1 hu with rfl | hu
  · exact h1 z (c z hz x (by simp))
  · exact c z hz u (by simp [hu])
/-- What lies in other blocks stays. -/
theorem OwnVal.far {S : Nat → Prop} {x : PR} (h : OwnVal wx B x) (hu : Upd S wx w') (hn : ∀ k, S k → ¬ x.blocks k) : OwnVal w' B x := h.upd hu (fun k hk e => hn k hk (.inl e)) (fun k hk e => hn k hk (.inr e))
theorem OwnNd.far {S : Nat → Prop} {x : ND} (h : OwnNd wx B x) (hu : Upd S wx w') (hn : ∀ k, S k → ¬ x.blocks k) : OwnNd w' B x :=
  ⟨own_upd h.lab hu fun k hk hs => hn k hs (.inl hk), ⟨own_upd h.pro.row hu fun k hk hs => hn k hs (.inr (.inl hk)), fun p hp => (h.pro.each p hp).far hu fun k hk hb => hn k hk (.inr (.inr ⟨p, hp, hb⟩))⟩, h.id⟩
theorem OwnRl.far {S : Nat → Prop} {x : RL} (h : OwnRl wx B x) (hu : Upd S wx w') (hn : ∀ k, S k → ¬ x.blocks k) : OwnRl w' B x :=
  ⟨⟨own_upd h.pro.row hu fun k hk hs => hn k hs (.inl hk), fun p hp => (h.pro.each p hp).far hu fun k hk hb => hn k hk (.inr ⟨p, hp, hb⟩)⟩, h.id⟩

/-- One node's labels change in place. -/
theorem SetS.labs {h : Nat} {P Q : List ND} {x : ND} {lb : List ByteArray} (hS : SetS w g B g5 c wx) (hns : c.ns = P ++ x :: Q) (hA : (Value.slice x.AL x.nL x.cL).ownBlock = some h) (hu : Upd (fun b => b = h) wx w') (hr : w'.ownsRow B 9 1 (.slice x.AL x.nL x.cL) x.nL (lb.map Value.string)) (hp : lb.Perm x.labels) :
    SetS w g B g5 { c with ns := P ++ { x with labels := lb } :: Q } w' := by
  have hxm : x ∈ c.ns := by rw [hns]; simp
  have hbl : ∀ k, k = h → x.blocks k := fun k hk => by rw [hk]; exact .inl hA
  have hap := hS.ap.nodes
  rw [hns] at hap
  have hfar : ∀ z ∈ P ++ Q, ∀ k, k = h → ¬ z.blocks k := fun z hz k hk => pw_mid ND.Apart.symm hap z hz k (hbl k hk)
  have hT : ∀ k, k < wx.heap.size → k = h → OfT wx 9 k := fun k _ hk => by rw [hk]; exact own_ofT (hS.e1 x hxm).lab hA
  have hB := ((hS.e1 x hxm).lab.lt h hA).1
  refine ⟨?_, fun z hz => ?_, own_type hS.row2 hu hT (by decide), fun z hz => (hS.e2 z hz).far hu (fun k hk hb => hS.ap.cross x hxm z hz k (hbl k hk) hb), ⟨pw_same hap (fun z hz => hz) (fun z hz => hz), hS.ap.rels, fun z hz => ?_, hS.ap.rprops, fun z hz y hy => ?_⟩, ?_, hS.box.upd hu (fun e => hS.box.ne_own (hS.e1 x hxm).lab (by decide) (by rw [e]; exact hA)), hS.same.trans hu (fun b hb hh => by have := hS.base; omega), hS.base, ⟨hS.siz.nN, hS.siz.nR, fun z hz => ?_, hS.siz.rs⟩⟩
  · have h1 := own_type hS.row1 hu hT (by decide)
    rw [hns] at h1
    simpa only [List.flatMap_append, List.flatMap_cons, ND.cells] using h1
  · rcases List.mem_append.1 hz with hz | hz
    · exact (hS.e1 z (by rw [hns]; simp [hz])).far hu fun k hk => hfar z (by simp [hz]) k hk
    · rcases List.mem_cons.1 hz with rfl | hz
      · have e := hS.e1 x hxm
        exact ⟨hr, ⟨own_type e.pro.row hu hT (by decide), fun p hp' => (e.pro.each p hp').far hu fun k hk hb => (hS.ap.nprops x hxm).2 h hA p hp' (by rw [← hk]; exact hb)⟩, e.id⟩
      · exact (hS.e1 z (by rw [hns]; simp [hz])).far hu fun k hk => hfar z (by simp [hz]) k hk
  · rcases List.mem_append.1 hz with hz | hz
    · exact hS.ap.nprops z (by rw [hns]; simp [hz])
    · rcases List.mem_cons.1 hz with rfl | hz
      · exact hS.ap.nprops x hxm
      · exact hS.ap.nprops z (by rw [hns]; simp [hz])
  · rcases List.mem_append.1 hz with hz | hz
    · exact hS.ap.cross z (by rw [hns]; simp [hz]) y hy
    · rcases List.mem_cons.1 hz with rfl | hz
      · exact hS.ap.cross x hxm y hy
      · exact hS.ap.cross z (by rw [hns]; simp [hz]) y hy
  · have h1 := hS.mix
    simp only [GR.dat, hns, List.map_append, List.map_cons] at h1 ⊢
    exact h1.one rfl hp (List.Perm.refl _)
  · rcases List.mem_append.1 hz with hz | hz
    · exact hS.siz.ns z (by rw [hns]; simp [hz])
    · rcases List.mem_cons.1 hz with rfl | hz
      · have s := hS.siz.ns x hxm
        exact ⟨s.nL, fun y hy => s.lab y (hp.mem_iff.1 hy), s.pro⟩
      · exact hS.siz.ns z (by rw [hns]; simp [hz])
/-- One node's properties change places. -/
theorem SetS.props {h : Nat} {P Q : List ND} {x : ND} {ps : List PR} (hS : SetS w g B g5 c wx) (hns : c.ns = P ++ x :: Q) (hA : (Value.slice x.AP x.nP x.cP).ownBlock = some h) (hu : Upd (fun b => b = h) wx w') (hr : w'.ownsRow B 45 6 (.slice x.AP x.nP x.cP) ps.length (ps.flatMap PR.cells)) (hp : ps.Perm x.props) :
    SetS w g B g5 { c with ns := P ++ { x with props := ps } :: Q } w' := by
  have hxm : x ∈ c.ns := by rw [hns]; simp
  have hbl : ∀ k, k = h → x.blocks k := fun k hk => by rw [hk]; exact .inr (.inl hA)
  have hap := hS.ap.nodes
  rw [hns] at hap
  have hT : ∀ k, k < wx.heap.size → k = h → OfT wx 45 k := fun k _ hk => by rw [hk]; exact own_ofT (hS.e1 x hxm).pro.row hA
  have hfar : ∀ z ∈ P ++ Q, ∀ k, k = h → ¬ z.blocks k := fun z hz k hk => pw_mid ND.Apart.symm hap z hz k (hbl k hk)
  have hB := ((hS.e1 x hxm).pro.row.lt h hA).1
  have hbk : ∀ k, ND.blocks { x with props := ps } k ↔ x.blocks k := fun k => by
    constructor
    · rintro (h1 | h1 | ⟨p, h1, h2⟩)
      · exact .inl h1
      · exact .inr (.inl h1)
      · exact .inr (.inr ⟨p, hp.mem_iff.1 h1, h2⟩)
    · rintro (h1 | h1 | ⟨p, h1, h2⟩)
      · exact .inl h1
      · exact .inr (.inl h1)
      · exact .inr (.inr ⟨p, hp.mem_iff.2 h1, h2⟩)
  refine ⟨?_, fun z hz => ?_, own_type hS.row2 hu hT (by decide), fun z hz => (hS.e2 z hz).far hu (fun k hk hb => hS.ap.cross x hxm z hz k (hbl k hk) hb), ⟨pw_same hap (fun z hz k h1 h2 => hz k h1 ((hbk k).1 h2)) (fun z hz k h1 h2 => hz k ((hbk k).1 h1) h2), hS.ap.rels, fun z hz => ?_, hS.ap.rprops, fun z hz y hy => ?_⟩, ?_, hS.box.upd hu (fun e => hS.box.ne_own (hS.e1 x hxm).pro.row (by decide) (by rw [e]; exact hA)), hS.same.trans hu (fun b hb hh => by have := hS.base; omega), hS.base, ⟨hS.siz.nN, hS.siz.nR, fun z hz => ?_, hS.siz.rs⟩⟩
  · have h1 := own_type hS.row1 hu hT (by decide)
    rw [hns] at h1
    simpa only [List.flatMap_append, List.flatMap_cons, ND.cells] using h1
  · rcases List.mem_append.1 hz with hz | hz
    · exact (hS.e1 z (by rw [hns]; simp [hz])).far hu fun k hk => hfar z (by simp [hz]) k hk
    · rcases List.mem_cons.1 hz with rfl | hz
      · have e := hS.e1 x hxm
        exact ⟨own_type e.lab hu hT (by decide), ⟨hr, fun p hp' => (e.pro.each p (hp.mem_iff.1 hp')).type hu hT (by decide) (by decide)⟩, e.id⟩
      · exact (hS.e1 z (by rw [hns]; simp [hz])).far hu fun k hk => hfar z (by simp [hz]) k hk
  · rcases List.mem_append.1 hz with hz | hz
    · exact hS.ap.nprops z (by rw [hns]; simp [hz])
    · rcases List.mem_cons.1 hz with rfl | hz
      · exact ⟨pw_perm PR.Apart.symm (hS.ap.nprops x hxm).1 hp, fun k hk p hp' => (hS.ap.nprops x hxm).2 k hk p (hp.mem_iff.1 hp')⟩
      · exact hS.ap.nprops z (by rw [hns]; simp [hz])
  · rcases List.mem_append.1 hz with hz | hz
    · exact hS.ap.cross z (by rw [hns]; simp [hz]) y hy
    · rcases List.mem_cons.1 hz with rfl | hz
      · exact fun k hk => hS.ap.cross x hxm y hy k ((hbk k).1 hk)
      · exact hS.ap.cross z (by rw [hns]; simp [hz]) y hy
  · have h1 := hS.mix
    simp only [GR.dat, hns, List.map_append, List.map_cons] at h1 ⊢
    exact h1.one rfl (List.Perm.refl _) (hp.map _)
  · rcases List.mem_append.1 hz with hz | hz
    · exact hS.siz.ns z (by rw [hns]; simp [hz])
    · rcases List.mem_cons.1 hz with rfl | hz
      · have s := hS.siz.ns x hxm
        exact ⟨s.nL, s.lab, ⟨s.pro.n, fun p hp' => s.pro.each p (hp.mem_iff.1 hp')⟩⟩
      · exact hS.siz.ns z (by rw [hns]; simp [hz])
end
end Go.Proofs.YtlnademnfnhbpaaGreat
