/- A map of ints by texts that the call makes; its keys in order. -/
import Derived.Test.YtlnademnfnhbpaaGreatMapI
import Derived.Test.YtlnademnfnhbpaaGreatIter
import Derived.StringKeys
namespace Go.Proofs.YtlnademnfnhbpaaGreat
open Go.RowKit Go.Maps Go.Sort

theorem keyS : Keyed Tryz.prog 9 := string_keyed Tryz.underlying9

/-- Block b is a map of the call's own; its keys are the texts of seen. -/
def MapS (w : World) (b n : Nat) (seen : List ByteArray) : Prop :=
  ∃ D : DataW Unit, w.ownsMap Tryz.prog 9 (plainElem Tryz.prog 3) b n D ∧ ∀ x : ByteArray, Maps.has D (.string x.data.toList) = true ↔ x ∈ seen

section
variable {w w' : World} {b n : Nat} {seen : List ByteArray}
theorem MapS.made (w : World) : MapS (w.alloc (.map #[] 0)) w.heap.size 0 [] := ⟨_, World.ownsMap_made w _ _ _, fun _ => by simp [Maps.has]⟩
theorem MapS.lt (h : MapS w b n seen) : b < w.heap.size := by obtain ⟨D, h1, _⟩ := h; exact h1.lt
theorem MapS.upd {S : Nat → Prop} (h : MapS w b n seen) (hu : Upd S w w') (hs : ¬ S b) : MapS w' b n seen := by
  obtain ⟨D, h1, h2⟩ := h
  have hb := h1.lt
  obtain ⟨es, clock, h3, h4⟩ := h1
  exact ⟨D, ⟨es, clock, (hu.block b hb hs).trans h3, h4⟩, h2⟩
theorem MapS.same (h : MapS w b n seen) (hu : Same w w') : MapS w' b n seen := h.upd hu fun f => f
theorem bytes_eq {x y : ByteArray} (h : x.data.toList = y.data.toList) : x = y := by
  cases x; cases y
  simp only at h
  congr 1
  exact Array.toList_inj.1 h
set_option maxRecDepth 100000 in
/-- One text more: looked up, stored. -/
theorem MapS.put (h : MapS w b n seen) (hn : n < maxLen) {x : ByteArray} (hx : x.size ≤ maxLen) :
    ∃ c w', (Instr.lookup 83 (.map (some b)) (.string x) false).run Tryz.prog w = .ok (.int .i64 c) w ∧ (Instr.mapUpdate 83 (.map (some b)) (.string x) (.int .i64 (IntKind.i64.wrap (c + 1)))).run Tryz.prog w = .ok () w' ∧ MapS w' b (n + 1) (seen ++ [x]) ∧ Upd (fun k => k = b) w w' := by
  obtain ⟨D, h1, h2⟩ := h
  obtain ⟨c, hrun, hat, hw⟩ := h1.lookup_int keyS Tryz.underlying83 Tryz.underlying3 (zeroI w) (Go.WideMaps.keyOf_string_mk Tryz.underlying9 hx)
  have hwf : (Lit.int .i64 (IntKind.i64.wrap (c + 1))).wf = true := wfI (by rw [IntKind.wrap_i64]; omega)
  obtain ⟨w', hput, h3, h4⟩ := h1.update keyS Tryz.underlying83 hn (Go.WideMaps.keyOf_string_mk Tryz.underlying9 hx) (plainElem_int Tryz.underlying3 hwf)
  refine ⟨c, w', hrun, hput, ⟨_, h3, fun y => ?_⟩, (Upd.refl _ w).grown h4 fun k hk => .inl (by injection hk with hk; exact hk.symm)⟩
  by_cases hy : y = x
  · subst hy
    rw [has_put_same h1.isMap (by simp [WideAt.IsKeyLit])]
    simp
  · rw [has_put_other (by intro h; injection h with h; exact hy (bytes_eq h)), h2]
    simp [hy]
end

/-- A list of texts in order, each once; the texts are those of seen. -/
structure IsNames (seen : List ByteArray) (l : List (List UInt8)) : Prop where
  sorted : l.Pairwise (fun x y => x ≤ y)
  nodup : l.Nodup
  mem : ∀ x : List UInt8, x ∈ l ↔ (⟨x.toArray⟩ : ByteArray) ∈ seen
theorem IsNames.unique {seen : List ByteArray} {l m : List (List UInt8)} (h : IsNames seen l) (h' : IsNames seen m) : l = m :=
  List.Perm.eq_of_pairwise (le := fun a b => a ≤ b) (fun _ _ _ _ h1 h2 => List.le_antisymm h1 h2) h.sorted h'.sorted ((List.perm_ext_iff_of_nodup h.nodup h'.nodup).2 fun x => (h.mem x).trans (h'.mem x).symm)

theorem names_of {w : World} {b n : Nat} {R : Value → Option (DataW Unit × List MemPlace)} {D : DataW Unit} {seen : List ByteArray} (h : w.ownsMap Tryz.prog 9 R b n D) (hm : ∀ x : ByteArray, Maps.has D (.string x.data.toList) = true ↔ x ∈ seen) {ss : List (List UInt8)} (hp : ss.Perm (strKeys D)) :
    IsNames seen (ss.mergeSort fun x y => decide (x ≤ y)) := by
  obtain ⟨es, rfl, hne, hkl⟩ := h.entries keyS
  obtain ⟨es', he, hks⟩ := h.keysOf
  injection he with he
  subst he
  have hstr : ∀ p ∈ es, ∃ x, p.1 = .string x := fun p hp' => by
    obtain ⟨key, hk⟩ := hks p hp'
    obtain ⟨x, _, hx, _⟩ := Maps.keyOf_str Tryz.underlying9 hk
    exact ⟨x, hx⟩
  have hnd : (strKeys (.map es : DataW Unit)).Nodup := by
    show (es.map fun p => strOf p.1).Nodup
    refine List.pairwise_map.2 (hne.imp_of_mem fun {p q} hp' hq' hne' e => hne' ?_)
    obtain ⟨a, ha⟩ := hstr p hp'
    obtain ⟨b, hb⟩ := hstr q hq'
    rw [ha, hb] at e ⊢
    exact congrArg _ e
  have hmem : ∀ x, x ∈ strKeys (.map es : DataW Unit) ↔ Maps.has (.map es : DataW Unit) (.string x) = true := fun x => by
    show x ∈ (es.map fun p => strOf p.1) ↔ (es.any fun p => p.1.sameKey (.string x)) = true
    rw [List.any_eq_true, List.mem_map]
    constructor
    · rintro ⟨p, hp', rfl⟩
      obtain ⟨a, ha⟩ := hstr p hp'
      refine ⟨p, hp', ?_⟩
      rw [ha]
      exact WideAt.sameKey_self (by simp [WideAt.IsKeyLit])
    · rintro ⟨p, hp', h2⟩
      exact ⟨p, hp', by rw [WideAt.sameKey_eq h2]; rfl⟩
  have hpm := (List.mergeSort_perm ss fun x y => decide (x ≤ y)).trans hp
  refine ⟨?_, hpm.nodup_iff.2 hnd, fun x => ?_⟩
  · have h1 := List.pairwise_mergeSort (le := fun x y : List UInt8 => decide (x ≤ y)) (fun a b c h1 h2 => by simp only [decide_eq_true_eq] at *; exact List.le_trans h1 h2) (fun a b => by simp only [Bool.or_eq_true, decide_eq_true_eq]; exact List.le_total a b) ss
    exact h1.imp fun h => by simpa using h
  · rw [hpm.mem_iff, hmem]
    exact hm ⟨x.toArray⟩
end Go.Proofs.YtlnademnfnhbpaaGreat
