/- Layer 6's law: its own helper 'speaks'. -/
import Derived.Test.YtlnademnfnhbpaaGreatGchk
import Derived.Test.YtlnademnfnhbpaaGreatDeg
import Derived.Test.YtlnademnfnhbpaaGreatNm
import Derived.Test.YtlnademnfnhbpaaGreatSmall
import Derived.Test.YtlnademnfnhbpaaGreatOwnG
import Derived.Deep.RegionHeld3
import Derived.BigQuiet
namespace Go.Proofs.YtlnademnfnhbpaaGreat
open Go.RowKit

/-- copyProps of nil. -/
theorem copyProps_nil (w : World) : Calls Tryz.prog 41 #[.slice none 0 0] w fun e w' => e = .returned (.slice none 0 0) ∧ w' = w := by
  go_enter Tryz.func41, Tryz.ntmps41
  go_wp2_with fail
  refine (cloneProps_nil _).mono ?_
  rintro e w1 ⟨rfl, rfl⟩
  go_wp2_with fail
  go_loopg [9] 0 (fun gh ix wr => ix = .int .i64 0 ∧ wr = w1)
  case atStart => exact ⟨rfl, rfl⟩
  case round =>
    obtain ⟨rfl, rfl⟩ := hrel
    go_wp2_with fail
    refine (stable1_Prop _ none 0 0 _ (by omega)).mono ?_
    rintro e w2 ⟨rfl, rfl⟩
    go_wp2
    go_ret
    exact ⟨rfl, rfl⟩

def spkN : ND := ⟨0, [], none, 0, 0, [], none, 0, 0⟩
def spkR : RL := ⟨5, ⟨#[84]⟩, 0, 7, [], none, 0, 0⟩

theorem cloneNode_on {F : Nat → Prop} {A : Option Addr} {n c : Nat} {l : List ND} (w0 w : World) (hs : Same w0 w) (h : Row w0 F 3 A n c (l.flatMap ND.cells)) (hn : n ≤ 1099511627776) :
    Calls Tryz.prog 37 #[.slice A n c] w fun e w' => ∃ A' c', e = .returned (.slice A' n c') ∧ Hid (w'.ownsRow w.heap.size 40 3 (.slice A' n c') n (l.flatMap ND.cells)) ∧ Same w w' ∧ Same w0 w' :=
  (cloneNode_spec w (h.same hs) hn).mono fun _ _ ⟨A', c', h1, h2, h3⟩ => ⟨A', c', h1, h2, h3, hs.same h3⟩
theorem cloneRel_on {F : Nat → Prop} {A : Option Addr} {n c : Nat} {l : List RL} (w0 w : World) (hs : Same w0 w) (h : Row w0 F 5 A n c (l.flatMap RL.cells)) (hn : n ≤ 1099511627776) :
    Calls Tryz.prog 38 #[.slice A n c] w fun e w' => ∃ A' c', e = .returned (.slice A' n c') ∧ Hid (w'.ownsRow w.heap.size 47 5 (.slice A' n c') n (l.flatMap RL.cells)) ∧ Same w w' ∧ Same w0 w' :=
  (cloneRel_spec w (h.same hs) hn).mono fun _ _ ⟨A', c', h1, h2, h3⟩ => ⟨A', c', h1, h2, h3, hs.same h3⟩

theorem own_put2 {w : World} {B k n g : Nat} {e : TypeId} {v a b : Value} {xs : List Value} (h : w.ownsRow B e k v n xs) (hg : v.ownBlock ≠ some g) : ((w.setCell ⟨g, 0, none⟩ a).setCell ⟨g, 1, none⟩ b).ownsRow B e k v n xs :=
  own_upd h (((Upd.refl (fun x => x = g) w).put1 (i := 0) a).put1 (i := 1) b) fun x hx hh => hg (by rw [hx, hh])
theorem same_gap {w w' : World} {P : World → Prop} (h : P w') (_ : Same w w') : P w' := h
/-- Where Canon stands: the new box, the new rows. -/
structure StC (w1 w : World) (g b1 b2 c1 c2 : Nat) : Prop where
  box : Blk w g 27 #[.slice (some ⟨b1, 0, none⟩) 1 c1, .slice (some ⟨b2, 0, none⟩) 1 c2]
  n : w.ownsRow w1.heap.size 40 3 (.slice (some ⟨b1, 0, none⟩) 1 c1) 1 [.int .i64 0, .slice none 0 0, .slice none 0 0]
  r : w.ownsRow w1.heap.size 47 5 (.slice (some ⟨b2, 0, none⟩) 1 c2) 1 [.int .i64 5, .string ⟨#[84]⟩, .int .i64 0, .int .i64 7, .slice none 0 0]
  same : Same w1 w
theorem StC.put {w1 w : World} {g b1 b2 c1 c2 i b : Nat} {u : Value} (h : StC w1 w g b1 b2 c1 c2) (hb : b = b1 ∨ b = b2) (hn : b = b1 → (w.setCell ⟨b, i, none⟩ u).ownsRow w1.heap.size 40 3 (.slice (some ⟨b1, 0, none⟩) 1 c1) 1 [.int .i64 0, .slice none 0 0, .slice none 0 0])
    (hr : b = b2 → (w.setCell ⟨b, i, none⟩ u).ownsRow w1.heap.size 47 5 (.slice (some ⟨b2, 0, none⟩) 1 c2) 1 [.int .i64 5, .string ⟨#[84]⟩, .int .i64 0, .int .i64 7, .slice none 0 0]) (h1 : w1.heap.size ≤ b) : StC w1 (w.setCell ⟨b, i, none⟩ u) g b1 b2 c1 c2 := by
  have hu := (Upd.refl (fun k => k = b) w).put1 (i := i) u
  have h12 : b1 ≠ b2 := fun e => own_ne_own h.n h.r (by decide) b1 rfl (by rw [e]; rfl)
  have hg1 : b1 ≠ g := fun e => h.box.ne_own h.n (by decide) (by rw [← e]; rfl)
  have hg2 : b2 ≠ g := fun e => h.box.ne_own h.r (by decide) (by rw [← e]; rfl)
  rcases hb with rfl | rfl
  · exact ⟨h.box.upd hu (fun e => hg1 e.symm), hn rfl, own_upd h.r hu (fun k hk e => h12 (e.symm.trans (Option.some.inj hk).symm)), h.same.putNew h1 u⟩
  · exact ⟨h.box.upd hu (fun e => hg2 e.symm), own_upd h.n hu (fun k hk e => h12 ((Option.some.inj hk).trans e)), hr rfl, h.same.putNew h1 u⟩
theorem StC.n1 {w1 w : World} {g b1 b2 c1 c2 : Nat} (h : StC w1 w g b1 b2 c1 c2) : w.cell? ⟨b1, 1, none⟩ = some (.slice none 0 0) ∧ w.frozen? ⟨b1, 1, none⟩ = false ∧ StC w1 (w.setCell ⟨b1, 1, none⟩ (.slice none 0 0)) g b1 b2 c1 c2 := by
  obtain ⟨b, _, hA, hb, _, e1, r1, f1, s1⟩ := own_cellK (i := 1) h.n (by omega)
  injection hA with hA
  injection hA with hA _ _
  subst hA
  cases e1
  exact ⟨r1, f1, h.put (.inl rfl) (fun _ => s1 _) (fun e => absurd e fun e => own_ne_own h.n h.r (by decide) b1 rfl (by rw [e]; rfl)) hb⟩
theorem StC.n2 {w1 w : World} {g b1 b2 c1 c2 : Nat} (h : StC w1 w g b1 b2 c1 c2) : w.cell? ⟨b1, 2, none⟩ = some (.slice none 0 0) ∧ w.frozen? ⟨b1, 2, none⟩ = false ∧ StC w1 (w.setCell ⟨b1, 2, none⟩ (.slice none 0 0)) g b1 b2 c1 c2 := by
  obtain ⟨b, _, hA, hb, _, e1, r1, f1, s1⟩ := own_cellK (i := 2) h.n (by omega)
  injection hA with hA
  injection hA with hA _ _
  subst hA
  cases e1
  exact ⟨r1, f1, h.put (.inl rfl) (fun _ => s1 _) (fun e => absurd e fun e => own_ne_own h.n h.r (by decide) b1 rfl (by rw [e]; rfl)) hb⟩
theorem StC.r4 {w1 w : World} {g b1 b2 c1 c2 : Nat} (h : StC w1 w g b1 b2 c1 c2) : w.cell? ⟨b2, 4, none⟩ = some (.slice none 0 0) ∧ w.frozen? ⟨b2, 4, none⟩ = false ∧ StC w1 (w.setCell ⟨b2, 4, none⟩ (.slice none 0 0)) g b1 b2 c1 c2 := by
  obtain ⟨b, _, hA, hb, _, e1, r1, f1, s1⟩ := own_cellK (i := 4) h.r (by omega)
  injection hA with hA
  injection hA with hA _ _
  subst hA
  cases e1
  exact ⟨r1, f1, h.put (.inr rfl) (fun e => absurd e.symm fun e => own_ne_own h.n h.r (by decide) b1 rfl (by rw [e]; rfl)) (fun _ => s1 _) hb⟩
theorem keepC {w1 wx : World} {g : Nat} {t : TypeId} {a b : Value} (hb : Hid (Blk w1 g t #[a, b])) (h : Same w1 wx) : Same w1 wx ∧ wx.cell? ⟨g, 0, none⟩ = some a ∧ wx.cell? ⟨g, 1, none⟩ = some b := ⟨h, (hb.out.same h).cell 0, (hb.out.same h).cell 1⟩

theorem StC.on {w1 w wx : World} {g b1 b2 c1 c2 : Nat} (hk : StC w1 w g b1 b2 c1 c2) (h : Same w wx) : StC w1 wx g b1 b2 c1 c2 := ⟨hk.box.same h, own_same hk.n h, own_same hk.r h, hk.same.same h⟩
theorem keepR {w1 w wx : World} {g b1 b2 c1 c2 : Nat} (hk : Hid (StC w1 w g b1 b2 c1 c2)) (h : Same w wx) : Hid (StC w1 wx g b1 b2 c1 c2) ∧ wx.cell? ⟨g, 1, none⟩ = some (.slice (some ⟨b2, 0, none⟩) 1 c2) ∧ wx.cell? ⟨b2, 4, none⟩ = some (.slice none 0 0) ∧ wx.frozen? ⟨b2, 4, none⟩ = false :=
  ⟨Lib.hid (hk.out.on h), (hk.out.on h).box.cell 1, (hk.out.on h).r4.1, (hk.out.on h).r4.2.1⟩
theorem keepP {w1 w wx : World} {g b1 b2 c1 c2 : Nat} (hk : Hid (StC w1 w g b1 b2 c1 c2)) (h : Same (w.setCell ⟨b2, 4, none⟩ (.slice none 0 0)) wx) : Hid (StC w1 wx g b1 b2 c1 c2) ∧ wx.cell? ⟨g, 1, none⟩ = some (.slice (some ⟨b2, 0, none⟩) 1 c2) ∧ wx.cell? ⟨b2, 4, none⟩ = some (.slice none 0 0) ∧ wx.frozen? ⟨b2, 4, none⟩ = false :=
  keepR (Lib.hid hk.out.r4.2.2) h

set_option maxHeartbeats 4000000 in
set_option maxRecDepth 100000 in
theorem canon1_spec {F : Nat → Prop} {AN AR : Option Addr} {cN cR : Nat} (w : World) (h1 : Row w F 3 AN 1 cN [.int .i64 0, .slice none 0 0, .slice none 0 0]) (h2 : Row w F 5 AR 1 cR [.int .i64 5, .string ⟨#[84]⟩, .int .i64 0, .int .i64 7, .slice none 0 0]) :
    Calls Tryz.prog 20 #[.agg #[.slice AN 1 cN, .slice AR 1 cR]] w fun e w' => ∃ A c A' c', e = .returned (.agg #[.slice A 1 c, .slice A' 1 c']) ∧ Same w w' := by
  have hs0 := ((Upd.refl (fun _ => False) w).alloc (.cells #[.slice AN 1 cN, .slice AR 1 cR] 27)).alloc (.cells #[.slice none 0 0, .slice none 0 0] 27)
  have HB0 := Lib.hid ((Blk.new w 27 #[.slice AN 1 cN, .slice AR 1 cR]).alloc (.cells #[.slice none 0 0, .slice none 0 0] 27))
  have hb2 := Blk.new (w.alloc (.cells #[.slice AN 1 cN, .slice AR 1 cR] 27)) 27 #[.slice none 0 0, .slice none 0 0]
  rw [World.size_alloc] at hb2
  have HB2 := Lib.hid hb2
  have H1 := Lib.hid (show Row _ F 3 AN 1 cN ([spkN].flatMap ND.cells) from h1.same hs0)
  have H2 := Lib.hid (show Row _ F 5 AR 1 cR ([spkR].flatMap RL.cells) from h2.same hs0)
  have HS0 := Lib.hid hs0
  clear h1 h2 hs0 hb2
  go_enter Tryz.func20, Tryz.ntmps20
  go_upto_region 1 with fail
  generalize (w.alloc (.cells #[.slice AN 1 cN, .slice AR 1 cR] 27)).alloc (.cells #[.slice none 0 0, .slice none 0 0] 27) = w1 at *
  have h00 : Same w1 w1.drew := (Upd.refl _ w1).drew
  go_cut [3] from 3 to 13 (fun s3 wx => ∃ g A1 c1 A2 c2, s3 = .pointer (some ⟨g, 0, none⟩) ∧ Hid (Blk wx g 27 #[.slice A1 1 c1, .slice A2 1 c2]) ∧ Hid (wx.ownsRow w1.heap.size 40 3 (.slice A1 1 c1) 1 ([spkN].flatMap ND.cells)) ∧ Hid (wx.ownsRow w1.heap.size 47 5 (.slice A2 1 c2) 1 ([spkR].flatMap RL.cells)) ∧ Hid (Same w1 wx) ∧ w1.heap.size ≤ g)
  case first =>
    go_region_held3 (fun wx => Same w1 wx ∧ wx.cell? ⟨w.heap.size, 0, none⟩ = some (.slice AN 1 cN) ∧ wx.cell? ⟨w.heap.size, 1, none⟩ = some (.slice AR 1 cR)) (exact keepC HB0 (by first | assumption | exact Upd.alloc (by assumption) _ | exact Upd.putNew (Upd.putNew (by assumption) (by first | omega | (simp; done) | (simp; omega)) _) (by first | omega | (simp; done) | (simp; omega)) _ | exact Upd.putNew (Upd.putNew (Upd.alloc (by assumption) _) (by first | omega | (simp; done) | (simp; omega)) _) (by first | omega | (simp; done) | (simp; omega)) _)) (first
      | (go_at_call 37; refine (cloneNode_on w1 _ (by first | assumption | exact Upd.alloc (by assumption) _) H1.out (by omega)).mono ?_; rintro e w' ⟨A1, c1, rfl, hO1, hs, hs3⟩; (have hz := hs3.size); (try (have q2 := (by first | exact qb.same hs | exact qb.drew.same hs : Blk w' _ 27 _); have u0 := q2.cell 0; have u1 := q2.cell 1; have v0 := q2.frozen 0; have v1 := q2.frozen 1)); (try (have qb := (by first | exact (Blk.new _ 27 _).same hs | exact (Blk.new _ 27 _).drew.same hs : Blk w' _ 27 _); have q0 := qb.cell 0; have q1 := qb.cell 1; have f0 := qb.frozen 0; have f1 := qb.frozen 1)))
      | (go_at_call 38; refine (cloneRel_on w1 _ (by first | assumption | exact Upd.alloc (by assumption) _) H2.out (by omega)).mono ?_; rintro e w' ⟨A2, c2, rfl, hO2, hs, hs3⟩; (have hz := hs3.size); (try (have q2 := (by first | exact qb.same hs | exact qb.drew.same hs : Blk w' _ 27 _); have u0 := q2.cell 0; have u1 := q2.cell 1; have v0 := q2.frozen 0; have v1 := q2.frozen 1)); (try (have qb := (by first | exact (Blk.new _ 27 _).same hs | exact (Blk.new _ 27 _).drew.same hs : Blk w' _ 27 _); have q0 := qb.cell 0; have q1 := qb.cell 1; have f0 := qb.frozen 0; have f1 := qb.frozen 1))))
    all_goals go_wp2
    all_goals go_meet
    all_goals refine ⟨_, A1, c1, A2, c2, rfl, Lib.hid ?_, Lib.hid ?_, Lib.hid ?_, Lib.hid ?_, ?_⟩
    all_goals first
      | exact Blk.new _ _ _
      | exact ((q2.put 0 _).put 1 _)
      | exact ((qb.put 0 _).put 1 _)
      | exact (own_base hO1.out (by first | omega | (simp; done) | (simp; omega))).alloc _
      | exact own_put2 (own_base hO1.out (by first | omega | (simp; done) | (simp; omega))) (Blk.ne_own qb hO1.out (by decide))
      | exact own_put2 (own_base hO1.out (by first | omega | (simp; done) | (simp; omega))) (Blk.ne_own q2 hO1.out (by decide))
      | exact (own_base (own_same hO1.out hs) (by first | omega | (simp; done) | (simp; omega))).alloc _
      | exact own_put2 (own_base (own_same hO1.out hs) (by first | omega | (simp; done) | (simp; omega))) (Blk.ne_own qb (own_same hO1.out hs) (by decide))
      | exact own_put2 (own_base (own_same hO1.out hs) (by first | omega | (simp; done) | (simp; omega))) (Blk.ne_own q2 (own_same hO1.out hs) (by decide))
      | exact (own_base (own_same hO1.out (((Upd.refl _ _).alloc _).same hs)) (by first | omega | (simp; done) | (simp; omega))).alloc _
      | exact own_put2 (own_base (own_same hO1.out (((Upd.refl _ _).alloc _).same hs)) (by first | omega | (simp; done) | (simp; omega))) (Blk.ne_own qb (own_same hO1.out (((Upd.refl _ _).alloc _).same hs)) (by decide))
      | exact own_put2 (own_base (own_same hO1.out (((Upd.refl _ _).alloc _).same hs)) (by first | omega | (simp; done) | (simp; omega))) (Blk.ne_own q2 (own_same hO1.out (((Upd.refl _ _).alloc _).same hs)) (by decide))
      | exact (own_base (own_same hO1.out (((Upd.refl _ _).drew).same hs)) (by first | omega | (simp; done) | (simp; omega))).alloc _
      | exact own_put2 (own_base (own_same hO1.out (((Upd.refl _ _).drew).same hs)) (by first | omega | (simp; done) | (simp; omega))) (Blk.ne_own qb (own_same hO1.out (((Upd.refl _ _).drew).same hs)) (by decide))
      | exact own_put2 (own_base (own_same hO1.out (((Upd.refl _ _).drew).same hs)) (by first | omega | (simp; done) | (simp; omega))) (Blk.ne_own q2 (own_same hO1.out (((Upd.refl _ _).drew).same hs)) (by decide))
      | exact (own_base (own_same hO1.out ((((Upd.refl _ _).alloc _).drew).same hs)) (by first | omega | (simp; done) | (simp; omega))).alloc _
      | exact own_put2 (own_base (own_same hO1.out ((((Upd.refl _ _).alloc _).drew).same hs)) (by first | omega | (simp; done) | (simp; omega))) (Blk.ne_own qb (own_same hO1.out ((((Upd.refl _ _).alloc _).drew).same hs)) (by decide))
      | exact own_put2 (own_base (own_same hO1.out ((((Upd.refl _ _).alloc _).drew).same hs)) (by first | omega | (simp; done) | (simp; omega))) (Blk.ne_own q2 (own_same hO1.out ((((Upd.refl _ _).alloc _).drew).same hs)) (by decide))
      | exact (own_base hO2.out (by first | omega | (simp; done) | (simp; omega))).alloc _
      | exact own_put2 (own_base hO2.out (by first | omega | (simp; done) | (simp; omega))) (Blk.ne_own qb hO2.out (by decide))
      | exact own_put2 (own_base hO2.out (by first | omega | (simp; done) | (simp; omega))) (Blk.ne_own q2 hO2.out (by decide))
      | exact (own_base (own_same hO2.out hs) (by first | omega | (simp; done) | (simp; omega))).alloc _
      | exact own_put2 (own_base (own_same hO2.out hs) (by first | omega | (simp; done) | (simp; omega))) (Blk.ne_own qb (own_same hO2.out hs) (by decide))
      | exact own_put2 (own_base (own_same hO2.out hs) (by first | omega | (simp; done) | (simp; omega))) (Blk.ne_own q2 (own_same hO2.out hs) (by decide))
      | exact (own_base (own_same hO2.out (((Upd.refl _ _).alloc _).same hs)) (by first | omega | (simp; done) | (simp; omega))).alloc _
      | exact own_put2 (own_base (own_same hO2.out (((Upd.refl _ _).alloc _).same hs)) (by first | omega | (simp; done) | (simp; omega))) (Blk.ne_own qb (own_same hO2.out (((Upd.refl _ _).alloc _).same hs)) (by decide))
      | exact own_put2 (own_base (own_same hO2.out (((Upd.refl _ _).alloc _).same hs)) (by first | omega | (simp; done) | (simp; omega))) (Blk.ne_own q2 (own_same hO2.out (((Upd.refl _ _).alloc _).same hs)) (by decide))
      | exact (own_base (own_same hO2.out (((Upd.refl _ _).drew).same hs)) (by first | omega | (simp; done) | (simp; omega))).alloc _
      | exact own_put2 (own_base (own_same hO2.out (((Upd.refl _ _).drew).same hs)) (by first | omega | (simp; done) | (simp; omega))) (Blk.ne_own qb (own_same hO2.out (((Upd.refl _ _).drew).same hs)) (by decide))
      | exact own_put2 (own_base (own_same hO2.out (((Upd.refl _ _).drew).same hs)) (by first | omega | (simp; done) | (simp; omega))) (Blk.ne_own q2 (own_same hO2.out (((Upd.refl _ _).drew).same hs)) (by decide))
      | exact (own_base (own_same hO2.out ((((Upd.refl _ _).alloc _).drew).same hs)) (by first | omega | (simp; done) | (simp; omega))).alloc _
      | exact own_put2 (own_base (own_same hO2.out ((((Upd.refl _ _).alloc _).drew).same hs)) (by first | omega | (simp; done) | (simp; omega))) (Blk.ne_own qb (own_same hO2.out ((((Upd.refl _ _).alloc _).drew).same hs)) (by decide))
      | exact own_put2 (own_base (own_same hO2.out ((((Upd.refl _ _).alloc _).drew).same hs)) (by first | omega | (simp; done) | (simp; omega))) (Blk.ne_own q2 (own_same hO2.out ((((Upd.refl _ _).alloc _).drew).same hs)) (by decide))
      | exact Upd.alloc (by assumption) _
      | exact Upd.putNew (Upd.putNew (by assumption) (by first | omega | (simp; done) | (simp; omega)) _) (by first | omega | (simp; done) | (simp; omega)) _
      | omega
      | (simp; done)
      | (simp; omega)
  case rest =>
    obtain ⟨g, A1, c1, A2, c2, rfl, KB, KO1, KO2, KS, hg⟩ := hcut
    have HS2 := Lib.hid (HS0.out.same KS.out)
    clear HB0 H1 H2
    obtain ⟨b1, _, rfl, hb1, -⟩ := own_cellK (i := 0) KO1.out (by omega)
    obtain ⟨b2, _, rfl, hb2, -⟩ := own_cellK (i := 0) KO2.out (by omega)
    have HC := Lib.hid (show StC w1 wc g b1 b2 c1 c2 from ⟨KB.out, KO1.out, KO2.out, KS.out⟩)
    have p0 : wc.cell? ⟨g, 0, none⟩ = some (.slice (some ⟨b1, 0, none⟩) 1 c1) := KB.out.cell 0
    go_wp2_with fail
    clear p0 KB KO1 KO2 KS
    go_loopg [17] 1 (fun gh ix wr => ∃ i : Nat, 1 - i = gh ∧ i ≤ 1 ∧ ix = .int .i64 i ∧ Hid (StC w1 wr g b1 b2 c1 c2))
    case atStart => exact ⟨0, rfl, Nat.zero_le _, rfl, HC⟩
    case round =>
      obtain ⟨i, rfl, hi, rfl, KC⟩ := hrel
      have p0 : wr.cell? ⟨g, 0, none⟩ = some (.slice (some ⟨b1, 0, none⟩) 1 c1) := KC.out.box.cell 0
      by_cases hlt : i = 0
      · subst hlt
        obtain ⟨r1, f1, s1⟩ := KC.out.n1
        have KC2 := Lib.hid s1
        clear s1
        go_wp2_with fail
        refine (cloneStrs_nil _).mono ?_
        rintro e w2 ⟨rfl, rfl⟩
        go_upto_region 7 with fail
        clear KC p0 r1 f1
        generalize w2.setCell ⟨b1, 1, none⟩ (.slice none 0 0) = w3 at *
        obtain ⟨r1, f1, s1⟩ := KC2.out.n1
        clear s1
        go_wp2_with fail
        refine (sort_none _ _ _).mono ?_
        rintro e w4 ⟨rfl, rfl⟩
        obtain ⟨r2, f2, s2⟩ := KC2.out.n2
        have KC3 := Lib.hid s2
        clear s2 r1 f1
        go_wp2_with fail
        refine (copyProps_nil _).mono ?_
        rintro e w5 ⟨rfl, rfl⟩
        go_wp2
        go_roundg 0
        case measure => omega
        case rel => exact ⟨1, rfl, by omega, by go_num, KC3⟩
      · have hi1 : i = 1 := by omega
        subst hi1
        have p1 : wr.cell? ⟨g, 1, none⟩ = some (.slice (some ⟨b2, 0, none⟩) 1 c2) := KC.out.box.cell 1
        clear p0 HC
        go_wp2_with fail
        clear p1
        generalize wr = w7 at *
        go_loopg [49] 1 (fun gh ix wr => ∃ i : Nat, 1 - i = gh ∧ i ≤ 1 ∧ ix = .int .i64 i ∧ Hid (StC w1 wr g b1 b2 c1 c2))
        case atStart => exact ⟨0, rfl, Nat.zero_le _, rfl, KC⟩
        case round =>
          clear KC
          obtain ⟨i, rfl, hi, rfl, KC⟩ := hrel
          have p1 : wr.cell? ⟨g, 1, none⟩ = some (.slice (some ⟨b2, 0, none⟩) 1 c2) := KC.out.box.cell 1
          by_cases hlt : i = 0
          · subst hlt
            obtain ⟨r4, f4, s4⟩ := KC.out.r4
            have KC2 := Lib.hid s4
            clear s4
            go_upto_region 13 with fail
            go_region_held3 (fun wx => Hid (StC w1 wx g b1 b2 c1 c2) ∧ wx.cell? ⟨g, 1, none⟩ = some (.slice (some ⟨b2, 0, none⟩) 1 c2) ∧ wx.cell? ⟨b2, 4, none⟩ = some (.slice none 0 0) ∧ wx.frozen? ⟨b2, 4, none⟩ = false) (first | exact keepR (by assumption) ((Upd.refl _ _).drew) | exact keepP (by assumption) ((Upd.refl _ _).drew) | exact keepR (by assumption) (Upd.refl _ _) | exact keepP (by assumption) (Upd.refl _ _)) (first
              | (go_at_call 41; refine (copyProps_nil _).mono ?_; rintro e w' ⟨rfl, rfl⟩))
            all_goals go_wp2
            all_goals go_roundg 0
            case measure => omega
            case rel => exact ⟨1, rfl, by omega, by go_num, by first | assumption | exact (keepP (by assumption) ((Upd.refl _ _).drew)).1 | exact (keepR (by assumption) ((Upd.refl _ _).drew)).1 | exact (keepP (by assumption) (Upd.refl _ _)).1⟩
          · have hi1 : i = 1 := by omega
            subst hi1
            have p0 : wr.cell? ⟨g, 0, none⟩ = some (.slice (some ⟨b1, 0, none⟩) 1 c1) := KC.out.box.cell 0
            have hb9 := HB2.out.same KC.out.same
            have q0 : wr.cell? ⟨w.heap.size + 1, 0, none⟩ = some (.slice none 0 0) := hb9.cell 0
            have q1 : wr.cell? ⟨w.heap.size + 1, 1, none⟩ = some (.slice none 0 0) := hb9.cell 1
            have f0 := hb9.frozen 0
            have f1 := hb9.frozen 1
            clear hb9
            go_wp2_with fail
            refine (stable1_Node _ _ 1 _ _ (by omega)).mono ?_
            rintro e w9 ⟨rfl, rfl⟩
            go_wp2_with fail
            refine (stable1_Rel _ _ 1 _ _ (by omega)).mono ?_
            rintro e w10 ⟨rfl, rfl⟩
            go_wp2_with fail
            have hn9 := (HB2.out.same KC.out.same).put 0 (.slice (some ⟨b1, 0, none⟩) 1 c1) |>.put 1 (.slice (some ⟨b2, 0, none⟩) 1 c2)
            have v0 := hn9.cell 0
            have v1 := hn9.cell 1
            refine bodyPost_ret (v := .agg #[.slice (some ⟨b1, 0, none⟩) 1 c1, .slice (some ⟨b2, 0, none⟩) 1 c2]) ?_ rfl ⟨_, _, _, _, rfl, ?_⟩
            · simp [results, Tryz.results20, go_sem, v0, v1]
            · have hz := (HS0.out.same KC.out.same)
              exact Upd.putNew (Upd.putNew hz (by omega) _) (by omega) _
end Go.Proofs.YtlnademnfnhbpaaGreat
namespace Go.Proofs.YtlnademnfnhbpaaGreat
open Go.RowKit

def spkG (h : Nat) : GR := ⟨[spkN], some ⟨h, 0, none⟩, 1, 1, [spkR], some ⟨h + 1, 0, none⟩, 1, 1⟩
theorem spk_head (h : Nat) : headErr (spkG h).dat = some (65, 1) := by
  first | rfl | decide
theorem spk_same (h : Nat) : sameG (spkG h).dat (spkG h).dat = true := (sameG_iff _ _).2 rfl
theorem spk_good : goodN ⟨#[84]⟩ = true := by first | rfl | decide
theorem spk_inc (h : Nat) : (incP (spkG h).dat 7).length = 1 := by first | rfl | decide
theorem spk_names {h : Nat} {l : List (List UInt8)} (hl : IsNames (allNames (spkG h).dat 2) l) : l.length = 1 := by
  have h2 : IsNames (allNames (spkG h).dat 2) [[84]] := by
    constructor <;> simp [allNames, spkG, GR.dat, spkN, spkR, ND.dat, RL.dat]
  rw [hl.unique h2]
  rfl
theorem spk_fit (h : Nat) : GFit (spkG h) := by
  constructor <;> simp [spkG, spkN, spkR, PsFit]

theorem blk_row {w : World} {h : Nat} {t : TypeId} {k : Nat} {a : Array Value} (hb : Blk w h t a) (hk : a.size = k) : Row w (fun _ => True) k (some ⟨h, 0, none⟩) 1 1 a.toList := by
  refine ⟨by simp [hk], Nat.le_refl _, by decide, (fun e => by cases e), fun x hx => ?_⟩
  cases hx
  refine ⟨rfl, hb.lt, trivial, fun i u hu => ?_⟩
  simp only [Nat.zero_add]
  rw [hb.cell i]
  simpa using hu
theorem nil_row {w : World} {k : Nat} : WRow w (fun _ => True) k none 0 0 [] := ⟨by simp, Nat.le_refl _, by decide, fun _ => rfl, fun h => absurd h (by omega)⟩
theorem nil_ps {w : World} : RdPs w (fun _ => True) none 0 0 [] := ⟨nil_row, fun _ h => by simp at h⟩
theorem spk_rd {w : World} {h : Nat} (h1 : Blk w h 40 #[.int .i64 0, .slice none 0 0, .slice none 0 0]) (h2 : Blk w (h + 1) 47 #[.int .i64 5, .string ⟨#[84]⟩, .int .i64 0, .int .i64 7, .slice none 0 0]) : RdG w (fun _ => True) (spkG h) := by
  constructor
  · refine ⟨(blk_row h1 rfl).weak, ?_, ?_, ?_⟩ <;> intro x hx <;> simp only [spkG, List.mem_singleton] at hx <;> subst hx
    · exact nil_row
    · exact nil_ps
    · decide
  · refine ⟨(blk_row h2 rfl).weak, ?_, ?_⟩ <;> intro x hx <;> simp only [spkG, List.mem_singleton] at hx <;> subst hx
    · exact nil_ps
    · decide

/-- The callees at this graph, in every world that is as w0 was. -/
abbrev spkA (h : Nat) : Value := .agg #[.slice (some ⟨h, 0, none⟩) 1 1, .slice (some ⟨h + 1, 0, none⟩) 1 1]
section
variable {w0 w : World} {h : Nat}
theorem spk_check (hR : RdG w0 (fun _ => True) (spkG h)) (hs : Same w0 w) : Calls Tryz.prog 17 #[spkA h] w fun e w' => e = .returned (.tuple #[.int .i64 65, .int .i64 1]) ∧ Same w0 w' :=
  (gcheck_head w (spkG h) (hR.same hs) (spk_fit _) (spk_head _)).mono fun _ _ ⟨h1, h2⟩ => ⟨h1, hs.same h2⟩
theorem spk_degree (hR : RdG w0 (fun _ => True) (spkG h)) (hs : Same w0 w) : Calls Tryz.prog 23 #[spkA h, .int .i64 7] w fun e w' => e = .returned (.int .i64 1) ∧ Same w0 w' :=
  (degree_spec w (spkG h) (hR.same hs) (by simp [spkG]) 7 (spk_inc h)).mono fun _ _ ⟨h1, h2⟩ => ⟨h1, hs.same h2⟩
theorem spk_sameC (hR : RdG w0 (fun _ => True) (spkG h)) (hs : Same w0 w) : Calls Tryz.prog 22 #[spkA h, spkA h] w fun e w' => e = .returned (.bool true) ∧ Same w0 w' :=
  (gsame_spec w (spkG h) (spkG h) (hR.same hs) (hR.same hs) (spk_same h)).mono fun _ _ ⟨h1, h2⟩ => ⟨h1, hs.same h2⟩
theorem spk_goodC (hs : Same w0 w) : Calls Tryz.prog 14 #[.string ⟨#[84]⟩] w fun e w' => e = .returned (.bool true) ∧ Same w0 w' :=
  (goodName_spec ⟨#[84]⟩ w).mono fun _ _ ⟨h1, h2⟩ => ⟨by rw [h1, spk_good], h2 ▸ hs⟩
theorem spk_namesC (hR : RdG w0 (fun _ => True) (spkG h)) (hs : Same w0 w) : Calls Tryz.prog 25 #[spkA h, .int .i64 2] w fun e w' => ∃ A c, e = .returned (.slice A 1 c) ∧ Same w0 w' := by
  refine (names2_spec w (spkG h) (hR.same hs) ?_ (by simp [spkG])).mono ?_
  · refine ⟨fun x hx => ?_, fun x hx => ?_, fun x hx => ?_, fun x hx => ?_⟩ <;> simp only [spkG, List.mem_singleton] at hx <;> subst hx
    · decide
    · simp [spkN]
    · simp [spkN]
    · simp [spkR]
  · rintro e w' ⟨v, l, rfl, h1, h2, h3⟩
    have hl := spk_names h1
    rw [hl] at h2
    obtain ⟨A, c, rfl⟩ := own_form h2
    exact ⟨A, c, rfl, hs.same h3⟩
theorem spk_canonC (hR : RdG w0 (fun _ => True) (spkG h)) (hs : Same w0 w) : Calls Tryz.prog 20 #[spkA h] w fun e w' => ∃ A c A' c', e = .returned (.agg #[.slice A 1 c, .slice A' 1 c']) ∧ Same w0 w' :=
  (canon1_spec w ((hR.same hs).nodes.row.row (by simp [spkG])) ((hR.same hs).rels.row.row (by simp [spkG]))).mono fun _ _ ⟨A, c, A', c', h1, h2⟩ => ⟨A, c, A', c', h1, hs.same h2⟩
end
theorem keepS {w1 wx : World} {g : Nat} {t : TypeId} {a b : Value} (hb : Hid (Blk w1 g t #[a, b])) (h : Same w1 wx) : Same w1 wx ∧ wx.cell? ⟨g, 0, none⟩ = some a ∧ wx.cell? ⟨g, 1, none⟩ = some b := ⟨h, (hb.out.same h).cell 0, (hb.out.same h).cell 1⟩

set_option maxHeartbeats 4000000 in
set_option maxRecDepth 100000 in
theorem gspeaks_true (w : World) : Calls Tryz.prog 13 #[] w fun e w' => e = .returned (.bool true) ∧ Same w w' := by
  have hs0 := (((Upd.refl (fun _ => False) w).alloc (.cells #[.int .i64 0, .slice none 0 0, .slice none 0 0] 40)).alloc (.cells #[.int .i64 5, .string ⟨#[84]⟩, .int .i64 0, .int .i64 7, .slice none 0 0] 47)).alloc (.cells #[.slice (some ⟨w.heap.size, 0, none⟩) 1 1, .slice (some ⟨w.heap.size + 1, 0, none⟩) 1 1] 27)
  have b1 := ((Blk.new w 40 #[.int .i64 0, .slice none 0 0, .slice none 0 0]).alloc (.cells #[.int .i64 5, .string ⟨#[84]⟩, .int .i64 0, .int .i64 7, .slice none 0 0] 47)).alloc (.cells #[.slice (some ⟨w.heap.size, 0, none⟩) 1 1, .slice (some ⟨w.heap.size + 1, 0, none⟩) 1 1] 27)
  have b2 := (Blk.new (w.alloc (.cells #[.int .i64 0, .slice none 0 0, .slice none 0 0] 40)) 47 #[.int .i64 5, .string ⟨#[84]⟩, .int .i64 0, .int .i64 7, .slice none 0 0]).alloc (.cells #[.slice (some ⟨w.heap.size, 0, none⟩) 1 1, .slice (some ⟨w.heap.size + 1, 0, none⟩) 1 1] 27)
  have b3 := Blk.new ((w.alloc (.cells #[.int .i64 0, .slice none 0 0, .slice none 0 0] 40)).alloc (.cells #[.int .i64 5, .string ⟨#[84]⟩, .int .i64 0, .int .i64 7, .slice none 0 0] 47)) 27 #[.slice (some ⟨w.heap.size, 0, none⟩) 1 1, .slice (some ⟨w.heap.size + 1, 0, none⟩) 1 1]
  rw [World.size_alloc] at b2 b3
  rw [World.size_alloc] at b3
  have HS := Lib.hid hs0
  have HR := Lib.hid (spk_rd b1 b2)
  have HB := Lib.hid b3
  clear hs0 b1 b2 b3
  go_enter Tryz.func13, Tryz.ntmps13
  go_upto_region 2 with fail
  generalize (((w.alloc (.cells #[.int .i64 0, .slice none 0 0, .slice none 0 0] 40)).alloc (.cells #[.int .i64 5, .string ⟨#[84]⟩, .int .i64 0, .int .i64 7, .slice none 0 0] 47)).alloc (.cells #[.slice (some ⟨w.heap.size, 0, none⟩) 1 1, .slice (some ⟨w.heap.size + 1, 0, none⟩) 1 1] 27)) = w1 at *
  have p0 : w1.cell? ⟨w.heap.size + 2, 0, none⟩ = some (.slice (some ⟨w.heap.size, 0, none⟩) 1 1) := HB.out.cell 0
  have p1 : w1.cell? ⟨w.heap.size + 2, 1, none⟩ = some (.slice (some ⟨w.heap.size + 1, 0, none⟩) 1 1) := HB.out.cell 1
  go_wp2_with fail
  refine (spk_check HR.out (Upd.refl _ _)).mono ?_
  rintro e w2 ⟨rfl, hs2⟩
  clear p0 p1
  obtain ⟨_, p0, p1⟩ := keepS HB hs2
  go_wp2_with fail
  refine (spk_degree HR.out hs2).mono ?_
  rintro e w3 ⟨rfl, hs3⟩
  clear p0 p1 hs2
  obtain ⟨_, p0, p1⟩ := keepS HB hs3
  go_wp2_with fail
  refine (spk_sameC HR.out hs3).mono ?_
  rintro e w4 ⟨rfl, hs4⟩
  clear p0 p1 hs3
  go_wp2_with fail
  refine (spk_goodC hs4).mono ?_
  rintro e w5 ⟨rfl, hs5⟩
  clear hs4
  obtain ⟨_, p0, p1⟩ := keepS HB hs5
  go_wp2_with fail
  refine (spk_namesC HR.out hs5).mono ?_
  rintro e w6 ⟨A1, c1, rfl, hs6⟩
  clear p0 p1 hs5
  obtain ⟨_, p0, p1⟩ := keepS HB hs6
  go_wp2_with fail
  refine (spk_canonC HR.out hs6).mono ?_
  rintro e w7 ⟨A2, c2, A3, c3, rfl, hs7⟩
  clear p0 p1 hs6
  have hfd : (Instr.field 27 (.agg #[.slice A2 1 c2, .slice A3 1 c3]) 1).run Tryz.prog w7 = .ok (.slice A3 1 c3) w7 := by kernel_rfl
  go_wp2
  go_ret
  exact ⟨rfl, HS.out.same hs7⟩
end Go.Proofs.YtlnademnfnhbpaaGreat
