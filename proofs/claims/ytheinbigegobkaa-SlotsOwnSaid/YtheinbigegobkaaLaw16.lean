/- Layer 16's law: its own helper 'speaks'. -/
import Derived.Test.YtheinbigegobkaaUnL
import Derived.Test.YtheinbigegobkaaUnp
import Derived.Test.YtheinbigegobkaaInp
import Derived.Test.YtheinbigegobkaaKVsame
namespace Go.Proofs.Ytheinbigegobkaa

def spkT : ByteArray := ⟨#[97, 98, 99, 100, 101, 102, 103, 104, 105, 106, 107, 108, 109, 110, 111, 112]⟩
def spk : List GKV := [⟨0, ⟨2, 258, ⟨#[]⟩, [], []⟩⟩, ⟨1, ⟨4, 0, spkT, [], []⟩⟩, ⟨2, ⟨1, 1, ⟨#[]⟩, [], []⟩⟩]
def spkS : List UInt8 := [0, 1, 2, 0, 0, 0, 0, 0, 0, 1, 2, 0, 0, 0, 0, 0, 0, 3, 1, 1, 0, 0, 0, 0, 0, 0, 0, 0, 0, 0, 0, 0]
def spkO : List UInt8 := [0, 2, 0, 19, 4, 0, 16, 97, 98, 99, 100, 101, 102, 103, 104, 105, 106, 107, 108, 109, 110, 111, 112]
theorem spk_pack : packP spk 4 = (spkS, spkO, 0) := by decide +kernel
theorem spk_unpack : unpackP spkS spkO = (spk, 0) := by kernel_rfl
theorem spk_need : needP ⟨4, 0, spkT, [], []⟩ = 3 := by decide +kernel
end Go.Proofs.Ytheinbigegobkaa
namespace Go.Proofs.Ytheinbigegobkaa
open Go.RowKit

/-- The example's three properties, as they are built. -/
def spkK : List KV := [⟨0, ⟨2, 258, ⟨#[]⟩, [], []⟩, none, 0, 0, none, 0, 0⟩, ⟨1, ⟨4, 0, spkT, [], []⟩, none, 0, 0, none, 0, 0⟩, ⟨2, ⟨1, 1, ⟨#[]⟩, [], []⟩, none, 0, 0, none, 0, 0⟩]
def spkC : Array Value := #[.int .i64 0, .int .i64 2, .int .i64 258, .string ⟨#[]⟩, .slice none 0 0, .slice none 0 0, .int .i64 1, .int .i64 4, .int .i64 0, .string ⟨#[97, 98, 99, 100, 101, 102, 103, 104, 105, 106, 107, 108, 109, 110, 111, 112]⟩, .slice none 0 0, .slice none 0 0, .int .i64 2, .int .i64 1, .int .i64 1, .string ⟨#[]⟩, .slice none 0 0, .slice none 0 0]
theorem spk_rd (w : World) : RdKV (w.alloc (.cells spkC 47)) (fun b => b = w.heap.size) (some ⟨w.heap.size, 0, none⟩) 3 3 spkK := by
  refine ⟨Row.of_blk (Blk.new w 47 spkC) rfl (Nat.le_refl _) (by simp [maxLen]), fun x hx => ?_, fun x hx => ?_⟩
  all_goals
    simp only [spkK, List.mem_cons, List.not_mem_nil, or_false] at hx
    rcases hx with rfl | rfl | rfl
  all_goals first
    | exact RdVal.mono (RdVal.empty _ _ _ _ (by decide) (by decide)) fun _ _ h => h.elim
    | exact ⟨by decide, by decide⟩
theorem spk_fit : KVFit spkK := by
  intro x hx
  simp only [spkK, List.mem_cons, List.not_mem_nil, or_false] at hx
  rcases hx with rfl | rfl | rfl
  all_goals exact ⟨by decide, by simp⟩

set_option maxHeartbeats 2000000 in
set_option maxRecDepth 100000 in
theorem speaks16_spec (w : World) : Calls Try.prog 11 #[] w fun e w' => e = .returned (.bool true) ∧ Same w w' := by
  have HR := Lib.hid (spk_rd w)
  have hs := (Upd.refl (fun _ => False) w).alloc (.cells spkC 47)
  have HN := Lib.hid fun (w' : World) => need_spec w' (RdVal.empty w' 4 0 spkT (by decide) (by decide)) (by decide) (by simp) spk_need
  go_enter Try.func11, Try.ntmps11
  go_wp2_with fail
  refine (pack_spec _ HR.out spk_fit 4 (by omega) spk_pack).mono ?_
  rintro e w2 ⟨v1, v2, rfl, ho1, ho2, -, hs2⟩
  obtain ⟨A1, c1, rfl, hb1⟩ := own_bytesT ho1
  obtain ⟨A2, c2, rfl, hb2⟩ := own_bytesT ho2
  have hl1 : spkS.length = 32 := rfl
  have hl2 : spkO.length = 23 := rfl
  rw [hl1] at hb1 ⊢
  rw [hl2] at hb2 ⊢
  have HB1 := Lib.hid hb1
  have HB2 := Lib.hid hb2
  have HR2 := Lib.hid (HR.out.same hs2)
  have HS2 := Lib.hid (hs.same hs2)
  clear ho1 ho2 hb1 hb2 hs hs2 HR hl1 hl2
  generalize w.heap.size = G0 at *
  obtain ⟨b1, o1, rfl, hlt1, -, -⟩ := HB1.out.at_ (i := 0) (by omega)
  obtain ⟨b2, o2, rfl, hlt2, -, -⟩ := HB2.out.at_ (i := 0) (by omega)
  have hle1 := Row.le HB1.out
  have hle2 := Row.le HB2.out
  have HX1 := Lib.hid (show Bytes w2 (fun _ => True) (some ⟨b1, o1, none⟩) 11 c1 [0, 1, 2, 0, 0, 0, 0, 0, 0, 1, 2] from HB1.out.head (by omega))
  have hx2 := HB1.out.cut (j := 16) (m := 20) (by omega) (by omega)
  rw [if_neg (by omega), Option.map_some, addr_add] at hx2
  have HX2 := Lib.hid (show Bytes w2 (fun _ => True) (some ⟨b1, o1 + 16, none⟩) 4 (c1 - 16) [0, 3, 1, 1] from hx2)
  have HX3 := Lib.hid (show Bytes w2 (fun _ => True) (some ⟨b2, o2, none⟩) 8 c2 [0, 2, 0, 19, 4, 0, 16, 97] from HB2.out.head (by omega))
  clear hx2
  have s1 := (Upd.refl (fun _ => False) w2).alloc (.cells #[.int .u8 0, .int .u8 1, .int .u8 2, .int .u8 0, .int .u8 0, .int .u8 0, .int .u8 0, .int .u8 0, .int .u8 0, .int .u8 1, .int .u8 2] 5)
  have HY1 := Lib.hid (show Bytes _ _ _ 11 11 [0, 1, 2, 0, 0, 0, 0, 0, 0, 1, 2] from Row.of_blk (k := 1) (n := 11) (c := 11) (Blk.new w2 5 #[.int .u8 0, .int .u8 1, .int .u8 2, .int .u8 0, .int .u8 0, .int .u8 0, .int .u8 0, .int .u8 0, .int .u8 0, .int .u8 1, .int .u8 2]) rfl (Nat.le_refl _) (by simp [maxLen]))
  have HX1' := Lib.hid (HX1.out.same s1)
  have hc16 : ¬ c1 = 16 := by omega
  go_wp2_with fail
  refine (same16_spec _ HX1'.out HY1.out (r := true) (by decide)).mono ?_
  rintro e w3 ⟨rfl, rfl⟩
  have HS3 := Lib.hid (HS2.out.same s1)
  have HR3 := Lib.hid (HR2.out.same s1)
  have HB1' := Lib.hid (HB1.out.same s1)
  have HB2' := Lib.hid (HB2.out.same s1)
  have HX2' := Lib.hid (HX2.out.same s1)
  have HX3' := Lib.hid (HX3.out.same s1)
  have hz3 := s1.size
  clear s1 HY1 HX1 HX1' HX2 HX3 HS2 HR2 HB1 HB2
  generalize w2.alloc (.cells #[.int .u8 0, .int .u8 1, .int .u8 2, .int .u8 0, .int .u8 0, .int .u8 0, .int .u8 0, .int .u8 0, .int .u8 0, .int .u8 1, .int .u8 2] 5) = w3 at *
  generalize w2.heap.size = G2 at *
  have s1 := (Upd.refl (fun _ => False) w3).alloc (.cells #[.int .u8 0, .int .u8 3, .int .u8 1, .int .u8 1] 5)
  have HY1 := Lib.hid (show Bytes _ _ _ 4 4 [0, 3, 1, 1] from Row.of_blk (k := 1) (n := 4) (c := 4) (Blk.new w3 5 #[.int .u8 0, .int .u8 3, .int .u8 1, .int .u8 1]) rfl (Nat.le_refl _) (by simp [maxLen]))
  have HX1' := Lib.hid (HX2'.out.same s1)
  go_wp2_with fail
  refine (same16_spec _ HX1'.out HY1.out (r := true) (by decide)).mono ?_
  rintro e w4 ⟨rfl, rfl⟩
  have HS4 := Lib.hid (HS3.out.same s1)
  have HR4 := Lib.hid (HR3.out.same s1)
  have HB1 := Lib.hid (HB1'.out.same s1)
  have HB2 := Lib.hid (HB2'.out.same s1)
  have HX3 := Lib.hid (HX3'.out.same s1)
  clear s1 HY1 HX1' HX2' HX3' HS3 HR3 HB1' HB2'
  generalize w3.alloc (.cells #[.int .u8 0, .int .u8 3, .int .u8 1, .int .u8 1] 5) = w4 at *
  generalize w3.heap.size = G3 at *
  have s1 := (Upd.refl (fun _ => False) w4).alloc (.cells #[.int .u8 0, .int .u8 2, .int .u8 0, .int .u8 19, .int .u8 4, .int .u8 0, .int .u8 16, .int .u8 97] 5)
  have HY1 := Lib.hid (show Bytes _ _ _ 8 8 [0, 2, 0, 19, 4, 0, 16, 97] from Row.of_blk (k := 1) (n := 8) (c := 8) (Blk.new w4 5 #[.int .u8 0, .int .u8 2, .int .u8 0, .int .u8 19, .int .u8 4, .int .u8 0, .int .u8 16, .int .u8 97]) rfl (Nat.le_refl _) (by simp [maxLen]))
  have HX1' := Lib.hid (HX3.out.same s1)
  go_wp2_with fail
  refine (same16_spec _ HX1'.out HY1.out (r := true) (by decide)).mono ?_
  rintro e w5 ⟨rfl, rfl⟩
  have HS5 := Lib.hid (HS4.out.same s1)
  have HR5 := Lib.hid (HR4.out.same s1)
  have HB1' := Lib.hid (HB1.out.same s1)
  have HB2' := Lib.hid (HB2.out.same s1)
  clear s1 HY1 HX1' HX3 HS4 HR4 HB1 HB2
  generalize w4.alloc (.cells #[.int .u8 0, .int .u8 2, .int .u8 0, .int .u8 19, .int .u8 4, .int .u8 0, .int .u8 16, .int .u8 97] 5) = w5 at *
  generalize w4.heap.size = G4 at *
  go_wp2_with fail
  refine (unpack_spec _ HB1'.out HB2'.out (by omega) spk_unpack).mono ?_
  rintro e w6 ⟨v, rfl, ⟨ls, hls, hown⟩, hs6⟩
  have HR6 := Lib.hid (HR5.out.same hs6)
  have HS6 := Lib.hid (HS5.out.same hs6)
  have hl3 : ls.length = 3 := by
    have := congrArg List.length hls
    rwa [List.length_map] at this
  obtain ⟨Ao, co, rfl⟩ := own_form hown.row
  rw [hl3] at hown ⊢
  have HO6 := Lib.hid hown.rd'
  have HLs := Lib.hid hls
  clear HR5 HS5 hs6 hls hown hl3
  go_wp2_with fail
  refine (kvsame_spec _ HR6.out HO6.out (r := true) (by rw [HLs.out]; exact ⟨fun _ => rfl, fun _ => rfl⟩)).mono ?_
  rintro e w7 ⟨rfl, hs7⟩
  have HS7 := Lib.hid (HS6.out.same hs7)
  obtain ⟨b, o, x, hA, hb, _, hx, _, r0, r1, r2, r3, r4, r5⟩ := (HR6.out.same hs7).at_ (i := 1) (by omega)
  obtain rfl : _ = x := Option.some.inj hx
  injection hA with hA
  injection hA with e1 e2 _
  subst e1 e2
  simp only at r0 r1 r2 r3 r4 r5
  clear HR6 HO6 HS6 hs7 HB1' HB2'
  go_wp2_with fail
  refine (HN.out _).mono ?_
  rintro e w8 ⟨rfl, hs8⟩
  go_wp2
  go_ret
  exact ⟨rfl, HS7.out.same hs8⟩
end Go.Proofs.Ytheinbigegobkaa
