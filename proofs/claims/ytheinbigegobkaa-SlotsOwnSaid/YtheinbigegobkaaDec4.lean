/- Package value: Decode. -/
import Derived.Test.YtheinbigegobkaaDec3
import Derived.Deep.DeepCutAuto
namespace Go.Proofs.Ytheinbigegobkaa
open Go.RowKit

/-- What Decode makes of Prefix's answer: n the number of all bytes. -/
def decD (n : Nat) (P : GVal × Nat × Int) : GVal × Int := if P.2.2 = 0 ∧ P.2.1 < n then (noVal, 11) else (P.1, P.2.2)

theorem NewVal.none (w : World) (B : Nat) : NewVal w B (.agg #[.int .i64 0, .int .i64 0, .string ⟨#[]⟩, .slice none 0 0, .slice none 0 0]) noVal :=
  ⟨_, _, rfl, World.ownsRow_nil _ _ _ _, World.ownsRow_nil _ _ _ _⟩

theorem decode_end {tmps : Array Value} {wE : World} {B : Nat} {a0 a1 a2 a3 a4 u0 u1 u2 u3 u4 : Value} {ee : Int} {R : Ending → World → Prop} (h2 : tmps.getD 2 undef = .pointer (some ⟨B, 0, none⟩)) (h3 : tmps.getD 3 undef = .int .i64 ee)
    (hb : Blk wE B 26 #[a0, a1, a2, a3, a4]) (hR : R (.returned (.tuple #[.agg #[u0, u1, u2, u3, u4], .int .i64 ee])) (put5 wE B u0 u1 u2 u3 u4)) :
    bodyPost Try.prog Try.f60 R Exit.ret ⟨tmps, []⟩ (put5 wE B u0 u1 u2 u3 u4) := by
  obtain ⟨r0, r1, r2, r3, r4⟩ := (hb.put5 u0 u1 u2 u3 u4).five
  generalize put5 wE B u0 u1 u2 u3 u4 = W at *
  refine bodyPost_ret (v := .tuple #[.agg #[u0, u1, u2, u3, u4], .int .i64 ee]) ?_ rfl hR
  simp only [Array.getD_eq_getD_getElem?] at h2 h3
  simp [results, Try.results60, go_sem, h2, h3, r0, r1, r2, r3, r4]

set_option maxHeartbeats 4000000 in
set_option maxRecDepth 100000 in
theorem decode_spec {F : Nat → Prop} {A : Option Addr} {n c : Nat} {bs : List UInt8} (w : World) (hb : Bytes w F A n c bs) (D : GVal × Int) (hD : decD n (decP (bs.take 40082)) = D) :
    Calls Try.prog 60 #[.slice A n c] w fun e w' => ∃ v, e = .returned (.tuple #[v, .int .i64 D.2]) ∧ NewVal w' w.heap.size v D.1 ∧ Same w w' := by
  have HB := Lib.hid hb
  have hc0 := Row.le hb
  have hc1 := Row.max hb
  unfold maxLen at hc1
  have HD := Lib.hid hD
  clear hb hD
  go_enter Try.func60, Try.ntmps60
  have hs0 := (Upd.refl (fun _ => False) w).alloc (.cells #[.int .i64 0, .int .i64 0, .string ⟨#[]⟩, .slice none 0 0, .slice none 0 0] 26)
  have hb0 := Blk.new w 26 #[.int .i64 0, .int .i64 0, .string ⟨#[]⟩, .slice none 0 0, .slice none 0 0]
  have HX := Lib.hid (HB.out.same hs0)
  go_wp2_with fail
  refine (prefix_spec _ HX.out _ rfl).mono ?_
  rintro e w1 ⟨v, rfl, ⟨v1, v2, rfl, ho1, ho2⟩, hs1⟩
  have hs2 := hs0.same hs1
  have hb1 := hb0.same hs1
  have hsz := hs1.size
  rw [World.size_alloc] at ho1 ho2 hsz
  clear hs0 hb0 hs1
  generalize decP (bs.take 40082) = P at *
  obtain ⟨⟨gk, gn, gt, gns, gts⟩, k, er⟩ := P
  simp only at ho1 ho2
  obtain ⟨A1, m1, q1, rfl⟩ := own_slice ho1
  obtain ⟨A2, m2, q2, rfl⟩ := own_slice ho2
  have hs3 := hs2.alloc (.cells #[.int .i64 gk, .int .i64 gn, .string gt, .slice A1 m1 q1, .slice A2 m2 q2] 26)
  have hb2 := hb1.alloc (.cells #[.int .i64 gk, .int .i64 gn, .string gt, .slice A1 m1 q1, .slice A2 m2 q2] 26)
  have hb3 := Blk.new w1 26 #[.int .i64 gk, .int .i64 gn, .string gt, .slice A1 m1 q1, .slice A2 m2 q2]
  have hu := (Upd.refl (fun _ => False) w1).alloc (.cells #[.int .i64 gk, .int .i64 gn, .string gt, .slice A1 m1 q1, .slice A2 m2 q2] 26)
  have ho3 := own_upd ho1 hu fun _ _ f => f
  have ho4 := own_upd ho2 hu fun _ _ f => f
  have HN1 := Lib.hid (hb2.ne_own ho3 (by decide))
  have HN2 := Lib.hid (hb2.ne_own ho4 (by decide))
  have HO1 := Lib.hid (own_base ho3 (Nat.le_succ _))
  have HO2 := Lib.hid (own_base ho4 (Nat.le_succ _))
  have HS := Lib.hid hs3
  clear ho1 ho2 ho3 ho4 hs2 hs3 hb1 hu HX
  obtain ⟨b0, b1, b2, b3, b4⟩ := hb2.five
  obtain ⟨z0, z1, z2, z3, z4⟩ := hb2.five_free
  obtain ⟨k0, k1, k2, k3, k4⟩ := hb3.five
  clear hb3
  by_cases he : er = 0
  · subst he
    by_cases hk : k < n
    · have HE := Lib.hid (HD.out.symm.trans (if_pos ⟨rfl, hk⟩))
      go_wp2
      exact decode_end rfl rfl hb2 ⟨_, by rw [HE.out], by rw [HE.out]; exact NewVal.none _ _, HS.out.trans ((Upd.refl (fun b => b = w.heap.size) _).put5 _ _ _ _ _) fun b hb hh => by omega⟩
    · have HE := Lib.hid (HD.out.symm.trans (if_neg (fun hh => hk hh.2)))
      go_wp2
      exact decode_end rfl rfl hb2 ⟨_, by rw [HE.out], by rw [HE.out]; exact ⟨_, _, rfl, own_upd HO1.out ((Upd.refl (fun b => b = w.heap.size) _).put5 _ _ _ _ _) (fun g hg e => HN1.out (e ▸ hg)), own_upd HO2.out ((Upd.refl (fun b => b = w.heap.size) _).put5 _ _ _ _ _) (fun g hg e => HN2.out (e ▸ hg))⟩, HS.out.trans ((Upd.refl (fun b => b = w.heap.size) _).put5 _ _ _ _ _) fun b hb hh => by omega⟩
  · have HE := Lib.hid (HD.out.symm.trans (if_neg (fun hh => he hh.1)))
    have he' : (er == 0) = false := by rw [beq_eq_false_iff_ne]; exact he
    go_wp2
    exact decode_end rfl rfl hb2 ⟨_, by rw [HE.out], by rw [HE.out]; exact ⟨_, _, rfl, own_upd HO1.out ((Upd.refl (fun b => b = w.heap.size) _).put5 _ _ _ _ _) (fun g hg e => HN1.out (e ▸ hg)), own_upd HO2.out ((Upd.refl (fun b => b = w.heap.size) _).put5 _ _ _ _ _) (fun g hg e => HN2.out (e ▸ hg))⟩, HS.out.trans ((Upd.refl (fun b => b = w.heap.size) _).put5 _ _ _ _ _) fun b hb hh => by omega⟩
end Go.Proofs.Ytheinbigegobkaa
