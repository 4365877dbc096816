/- The zero value of [1024]bool. -/
import Derived.Test.YtlnademnfnhbpaaGreatRWeight
namespace Go.Proofs.YtlnademnfnhbpaaGreat
def isFalseV : Value → Bool
  | .bool b => !b
  | _ => false
theorem zero_list : (Tryz.zeroCells65).toList.all isFalseV = true := by kernel_rfl
theorem zero_mem : ∀ v ∈ (Tryz.zeroCells65).toList, v = .bool false := fun v hv => by
  have h1 := List.all_eq_true.1 zero_list v hv
  cases v <;> simp [isFalseV] at h1
  subst h1
  rfl
theorem zero_one : (Tryz.zeroCells65).all (·.oneCell') = true := by
  rw [← Array.all_toList, List.all_eq_true]
  intro v hv
  rw [zero_mem v hv]
  rfl
theorem zero_at {y : Nat} (hy : y < 1024) : (Tryz.zeroCells65)[y]? = some (.bool false) := by
  have hs : y < (Tryz.zeroCells65).size := by rw [Tryz.zeroCells65_size]; exact hy
  rw [Array.getElem?_eq_getElem hs]
  congr 1
  exact zero_mem _ (Array.getElem_mem_toList hs)
theorem zero_info : (Tryz.prog.info? 65).map (·.size) = some (Tryz.zeroCells65).size := by
  rw [Tryz.zeroCells65_size]
  kernel_rfl
end Go.Proofs.YtlnademnfnhbpaaGreat
