/- Layer 6's law: its own helper 'speaks'. -/
import Derived.Test.YtlnademnfnhbpaaGreatGspk
import Derived.BigQuiet
namespace Go.Proofs.YtlnademnfnhbpaaGreat
open Go.RowKit

def spkG (h : Nat) : GR := ⟨[spkN], some ⟨h, 0, none⟩, 1, 1, [spkR], some ⟨h + 1, 0, none⟩, 1, 1⟩
theorem spk_head (h : Nat) : headErr (spkG h).dat = some (65, 1) := by
  first | rfl | decide
theorem spk_same (h : Nat) : sameG (spkG h).dat (spkG h).dat = true := (sameG_iff _ _).2 rfl
theorem spk_good : goodN ⟨#[84]⟩ = true := by first | rfl | decide
theorem spk_inc (h : Nat) : (incP (spkG h).dat 7).length = 1 := by first | rfl | decide
theorem spk_names {h : Nat} {l : List (List UInt8)} (hl : IsNames (allNames (spkG h).dat 2) l) : l.length = 1 := by
  have h2 : IsNames (allNames (spkG h).dat 2) [[84]] := by
    constructor <;> simp [allNames, spkG, GR.dat, spkN, spkR, ND.dat, RL.dat]
  rw [hl.unique h2]
  rfl
theorem spk_fit (h : Nat) : GFit (spkG h) := by
  constructor <;> simp [spkG, spkN, spkR, PsFit]

theorem blk_row {w : World} {h : Nat} {t : TypeId} {k : Nat} {a : Array Value} (hb : Blk w h t a) (hk : a.size = k) : Row w (fun _ => True) k (some ⟨h, 0, none⟩) 1 1 a.toList := by
  refine ⟨by simp [hk], Nat.le_refl _, by decide, (fun e => by cases e), fun x hx => ?_⟩
  cases hx
  refine ⟨rfl, hb.lt, trivial, fun i u hu => ?_⟩
  simp only [Nat.zero_add]
  rw [hb.cell i]
  simpa using hu
theorem nil_row {w : World} {k : Nat} : WRow w (fun _ => True) k none 0 0 [] := ⟨by simp, Nat.le_refl _, by decide, fun _ => rfl, fun h => absurd h (by omega)⟩
theorem nil_ps {w : World} : RdPs w (fun _ => True) none 0 0 [] := ⟨nil_row, fun _ h => by simp at h⟩
theorem spk_rd {w : World} {h : Nat} (h1 : Blk w h 40 #[.int .i64 0, .slice none 0 0, .slice none 0 0]) (h2 : Blk w (h + 1) 47 #[.int .i64 5, .string ⟨#[84]⟩, .int .i64 0, .int .i64 7, .slice none 0 0]) : RdG w (fun _ => True) (spkG h) := by
  constructor
  · refine ⟨(blk_row h1 rfl).weak, ?_, ?_, ?_⟩ <;> intro x hx <;> simp only [spkG, List.mem_singleton] at hx <;> subst hx
    · exact nil_row
    · exact nil_ps
    · decide
  · refine ⟨(blk_row h2 rfl).weak, ?_, ?_⟩ <;> intro x hx <;> simp only [spkG, List.mem_singleton] at hx <;> subst hx
    · exact nil_ps
    · decide

/-- The callees at this graph, in every world that is as w0 was. -/
abbrev spkA (h : Nat) : Value := .agg #[.slice (some ⟨h, 0, none⟩) 1 1, .slice (some ⟨h + 1, 0, none⟩) 1 1]
section
variable {w0 w : World} {h : Nat}
theorem spk_check (hR : RdG w0 (fun _ => True) (spkG h)) (hs : Same w0 w) : Calls Tryz.prog 17 #[spkA h] w fun e w' => e = .returned (.tuple #[.int .i64 65, .int .i64 1]) ∧ Same w0 w' :=
  (gcheck_head w (spkG h) (hR.same hs) (spk_fit _) (spk_head _)).mono fun _ _ ⟨h1, h2⟩ => ⟨h1, hs.same h2⟩
theorem spk_degree (hR : RdG w0 (fun _ => True) (spkG h)) (hs : Same w0 w) : Calls Tryz.prog 23 #[spkA h, .int .i64 7] w fun e w' => e = .returned (.int .i64 1) ∧ Same w0 w' :=
  (degree_spec w (spkG h) (hR.same hs) (by simp [spkG]) 7 (spk_inc h)).mono fun _ _ ⟨h1, h2⟩ => ⟨h1, hs.same h2⟩
theorem spk_sameC (hR : RdG w0 (fun _ => True) (spkG h)) (hs : Same w0 w) : Calls Tryz.prog 22 #[spkA h, spkA h] w fun e w' => e = .returned (.bool true) ∧ Same w0 w' :=
  (gsame_spec w (spkG h) (spkG h) (hR.same hs) (hR.same hs) (spk_same h)).mono fun _ _ ⟨h1, h2⟩ => ⟨h1, hs.same h2⟩
theorem spk_goodC (hs : Same w0 w) : Calls Tryz.prog 14 #[.string ⟨#[84]⟩] w fun e w' => e = .returned (.bool true) ∧ Same w0 w' :=
  (goodName_spec ⟨#[84]⟩ w).mono fun _ _ ⟨h1, h2⟩ => ⟨by rw [h1, spk_good], h2 ▸ hs⟩
theorem spk_namesC (hR : RdG w0 (fun _ => True) (spkG h)) (hs : Same w0 w) : Calls Tryz.prog 25 #[spkA h, .int .i64 2] w fun e w' => ∃ A c, e = .returned (.slice A 1 c) ∧ Same w0 w' := by
  refine (names2_spec w (spkG h) (hR.same hs) ?_ (by simp [spkG])).mono ?_
  · refine ⟨fun x hx => ?_, fun x hx => ?_, fun x hx => ?_, fun x hx => ?_⟩ <;> simp only [spkG, List.mem_singleton] at hx <;> subst hx
    · decide
    · simp [spkN]
    · simp [spkN]
    · simp [spkR]
  · rintro e w' ⟨v, l, rfl, h1, h2, h3⟩
    have hl := spk_names h1
    rw [hl] at h2
    obtain ⟨A, c, rfl⟩ := own_form h2
    exact ⟨A, c, rfl, hs.same h3⟩
theorem spk_canonC (hR : RdG w0 (fun _ => True) (spkG h)) (hs : Same w0 w) : Calls Tryz.prog 20 #[spkA h] w fun e w' => ∃ A c A' c', e = .returned (.agg #[.slice A 1 c, .slice A' 1 c']) ∧ Same w0 w' :=
  (canon1_spec w ((hR.same hs).nodes.row.row (by simp [spkG])) ((hR.same hs).rels.row.row (by simp [spkG]))).mono fun _ _ ⟨A, c, A', c', h1, h2⟩ => ⟨A, c, A', c', h1, hs.same h2⟩
end
theorem keepS {w1 wx : World} {g : Nat} {t : TypeId} {a b : Value} (hb : Hid (Blk w1 g t #[a, b])) (h : Same w1 wx) : Same w1 wx ∧ wx.cell? ⟨g, 0, none⟩ = some a ∧ wx.cell? ⟨g, 1, none⟩ = some b := ⟨h, (hb.out.same h).cell 0, (hb.out.same h).cell 1⟩

set_option maxHeartbeats 4000000 in
set_option maxRecDepth 100000 in
theorem gspeaks_true (w : World) : Calls Tryz.prog 13 #[] w fun e w' => e = .returned (.bool true) ∧ Same w w' := by
  have hs0 := (((Upd.refl (fun _ => False) w).alloc (.cells #[.int .i64 0, .slice none 0 0, .slice none 0 0] 40)).alloc (.cells #[.int .i64 5, .string ⟨#[84]⟩, .int .i64 0, .int .i64 7, .slice none 0 0] 47)).alloc (.cells #[.slice (some ⟨w.heap.size, 0, none⟩) 1 1, .slice (some ⟨w.heap.size + 1, 0, none⟩) 1 1] 27)
  have b1 := ((Blk.new w 40 #[.int .i64 0, .slice none 0 0, .slice none 0 0]).alloc (.cells #[.int .i64 5, .string ⟨#[84]⟩, .int .i64 0, .int .i64 7, .slice none 0 0] 47)).alloc (.cells #[.slice (some ⟨w.heap.size, 0, none⟩) 1 1, .slice (some ⟨w.heap.size + 1, 0, none⟩) 1 1] 27)
  have b2 := (Blk.new (w.alloc (.cells #[.int .i64 0, .slice none 0 0, .slice none 0 0] 40)) 47 #[.int .i64 5, .string ⟨#[84]⟩, .int .i64 0, .int .i64 7, .slice none 0 0]).alloc (.cells #[.slice (some ⟨w.heap.size, 0, none⟩) 1 1, .slice (some ⟨w.heap.size + 1, 0, none⟩) 1 1] 27)
  have b3 := Blk.new ((w.alloc (.cells #[.int .i64 0, .slice none 0 0, .slice none 0 0] 40)).alloc (.cells #[.int .i64 5, .string ⟨#[84]⟩, .int .i64 0, .int .i64 7, .slice none 0 0] 47)) 27 #[.slice (some ⟨w.heap.size, 0, none⟩) 1 1, .slice (some ⟨w.heap.size + 1, 0, none⟩) 1 1]
  rw [World.size_alloc] at b2 b3
  rw [World.size_alloc] at b3
  have HS := Lib.hid hs0
  have HR := Lib.hid (spk_rd b1 b2)
  have HB := Lib.hid b3
  clear hs0 b1 b2 b3
  go_enter Tryz.func13, Tryz.ntmps13
  go_upto_region 2 with fail
  generalize (((w.alloc (.cells #[.int .i64 0, .slice none 0 0, .slice none 0 0] 40)).alloc (.cells #[.int .i64 5, .string ⟨#[84]⟩, .int .i64 0, .int .i64 7, .slice none 0 0] 47)).alloc (.cells #[.slice (some ⟨w.heap.size, 0, none⟩) 1 1, .slice (some ⟨w.heap.size + 1, 0, none⟩) 1 1] 27)) = w1 at *
  have p0 : w1.cell? ⟨w.heap.size + 2, 0, none⟩ = some (.slice (some ⟨w.heap.size, 0, none⟩) 1 1) := HB.out.cell 0
  have p1 : w1.cell? ⟨w.heap.size + 2, 1, none⟩ = some (.slice (some ⟨w.heap.size + 1, 0, none⟩) 1 1) := HB.out.cell 1
  go_wp2_with fail
  refine (spk_check HR.out (Upd.refl _ _)).mono ?_
  rintro e w2 ⟨rfl, hs2⟩
  clear p0 p1
  obtain ⟨_, p0, p1⟩ := keepS HB hs2
  go_wp2_with fail
  refine (spk_degree HR.out hs2).mono ?_
  rintro e w3 ⟨rfl, hs3⟩
  clear p0 p1 hs2
  obtain ⟨_, p0, p1⟩ := keepS HB hs3
  go_wp2_with fail
  refine (spk_sameC HR.out hs3).mono ?_
  rintro e w4 ⟨rfl, hs4⟩
  clear p0 p1 hs3
  go_wp2_with fail
  refine (spk_goodC hs4).mono ?_
  rintro e w5 ⟨rfl, hs5⟩
  clear hs4
  obtain ⟨_, p0, p1⟩ := keepS HB hs5
  go_wp2_with fail
  refine (spk_namesC HR.out hs5).mono ?_
  rintro e w6 ⟨A1, c1, rfl, hs6⟩
  clear p0 p1 hs5
  obtain ⟨_, p0, p1⟩ := keepS HB hs6
  go_wp2_with fail
  refine (spk_canonC HR.out hs6).mono ?_
  rintro e w7 ⟨A2, c2, A3, c3, rfl, hs7⟩
  clear p0 p1 hs6
  have hfd : (Instr.field 27 (.agg #[.slice A2 1 c2, .slice A3 1 c3]) 1).run Tryz.prog w7 = .ok (.slice A3 1 c3) w7 := by kernel_rfl
  go_wp2
  go_ret
  exact ⟨rfl, HS.out.same hs7⟩
end Go.Proofs.YtlnademnfnhbpaaGreat
