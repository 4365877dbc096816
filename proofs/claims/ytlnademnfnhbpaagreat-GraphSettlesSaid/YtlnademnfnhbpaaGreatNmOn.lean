/- Names, where the reference's are known. -/
import Derived.Test.YtlnademnfnhbpaaGreatNm1
namespace Go.Proofs.YtlnademnfnhbpaaGreat
open Go.RowKit

theorem isNames_of {s m : List ByteArray} (h : Srt s m) : IsNames s (m.map fun x => x.data.toList) where
  sorted := by
    rw [List.pairwise_map]
    exact h.sorted.imp fun {a b} (hh : ltS a b) => List.le_of_lt hh
  nodup := by
    rw [List.nodup_iff_pairwise_ne, List.pairwise_map]
    refine h.sorted.imp fun {a b} (hh : ltS a b) e => ?_
    have h2 : a.data.toList < b.data.toList := hh
    rw [e] at h2
    exact List.lt_irrefl _ h2
  mem := fun x => by
    rw [List.mem_map, ← h.mem]
    constructor
    · rintro ⟨y, hy, rfl⟩
      simpa using hy
    · intro hx
      exact ⟨_, hx, by simp⟩
theorem names_eq {s m : List ByteArray} {l : List (List UInt8)} (h : IsNames s l) (h' : Srt s m) : l.map strV = m.map Value.string ∧ l.length = m.length := by
  rw [h.unique (isNames_of h'), List.map_map, List.length_map]
  exact ⟨List.map_congr_left fun x _ => by simp [strV], rfl⟩

/-- Names, where the reference's are known. -/
theorem names_on {F : Nat → Prop} (w0 w : World) (g : GR) (hs : Same w0 w) (h : RdG w0 F g) (ht : GTexts g) (k : Int) (hT : (allNames g.dat k).length ≤ 8796093022208) {m : List ByteArray} (hm : Srt (allNames g.dat k) m) :
    Calls Tryz.prog 25 #[g.agg, .int .i64 k] w fun e w' => ∃ (A : Option Addr) (c : Nat), e = .returned (.slice A m.length c) ∧ Hid (w'.ownsRow w.heap.size 9 1 (.slice A m.length c) m.length (m.map Value.string)) ∧ Same w w' ∧ Same w0 w' := by
  refine (names_spec w g (h.same hs) ht k hT).mono ?_
  rintro e w' ⟨v, l, rfl, h1, h2, h3⟩
  obtain ⟨h4, h5⟩ := names_eq h1 hm
  rw [h4, h5] at h2
  obtain ⟨A, c, rfl⟩ := own_form h2
  exact ⟨A, c, rfl, Lib.hid h2, h3, hs.same h3⟩
end Go.Proofs.YtlnademnfnhbpaaGreat
