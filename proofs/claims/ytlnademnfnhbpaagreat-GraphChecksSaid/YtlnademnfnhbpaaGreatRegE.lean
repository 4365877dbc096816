/- A region that draws its order, and whose last operation writes what the region reads: the held walk (Derived/OrdersHeld) with nothing asked behind that last one. No program here. -/
import Derived.WalkKit
import Derived.OrdersHeld
import Derived.StillTail
import Derived.Deep.RegionHeld3
namespace Go.Proofs.YtlnademnfnhbpaaGreat
open Go.RowKit

section
variable {P : Program} {ops : Array Oper} {Q : Exit → Act → World → Prop} {md : Region.Mode} {S : World → Prop} {n : Nat}

def wpAnyE (P : Program) (md : Region.Mode) (ops : Array Oper) (Q : Exit → Act → World → Prop) (S : World → Prop) (n : Nat) : Nat → Array Bool → Act → World → Prop
  | 0, listed, a, w => Region.ready md ops listed = [] ∧ Q .normal a w
  | f + 1, listed, a, w =>
    (Region.ready md ops listed = [] → Q .normal a w) ∧
    ∀ i ∈ Region.ready md ops listed, wpOp P ops Q i (fun a' w' => (i = n ∨ S w') ∧ wpAnyE P md ops Q S n f (listed.setIfInBounds i true) a' w') a w

theorem wpAny_of_E : ∀ (f : Nat) (listed : Array Bool) (a : Act) (w : World), wpAnyE P md ops Q S n f listed a w → wpAny P md ops Q f listed a w
  | 0, _, _, _, h => h
  | f + 1, _, _, _, h => ⟨h.1, fun i hi => wpOp_mono (fun a' w' h' => wpAny_of_E f _ a' w' h'.2) (h.2 i hi)⟩

theorem wpAnyE_first {i : Nat} {oi : Oper} {v : Value} (hs : Region.sinkB md ops n = true) (hc : Region.chainB md ops n = true) (hn : n + 1 = ops.size) (hin : i < n) (hi : ops[i]? = some oi) (hsel : ∀ (j : Nat) (o : Oper) cs b, ops[j]? = some o → o.op ≠ .select cs b)
    (hQ : ∀ c a w, Q (.panic c) (a.put oi.dst v) w → Q (.panic c) a w) :
    ∀ (f : Nat) (listed : Array Bool) (a : Act) (w : World), HeadInv md ops n listed →
      (∀ j oj, ops[j]? = some oj → j ≠ i → listed.getD j true = false → (∀ e ∈ oj.after, Region.binds md e = true → e.on ≠ i) → oi.apart ops oj = true) →
      i ∈ Region.ready md ops listed → YieldsIf P ops S oi v a → S w →
      wpAnyE P md ops Q S n f (listed.setIfInBounds i true) (a.put oi.dst v) w → wpAnyE P md ops Q S n (f + 1) listed a w := by
  intro f
  induction f with
  | zero =>
    intro listed a w _ _ hr hy hS H
    refine ⟨fun h => (by rw [h] at hr; cases hr), fun j hj => ?_⟩
    by_cases hji : j = i
    · subst hji; exact hy.wpOp hi hS ⟨.inr hS, H⟩
    · have := ready_mono hj hji
      rw [H.1] at this
      cases this
  | succ f ih =>
    intro listed a w inv hfree hr hy hS H
    refine ⟨fun h => (by rw [h] at hr; cases hr), fun j hj => ?_⟩
    by_cases hji : j = i
    · subst hji; exact hy.wpOp hi hS ⟨.inr hS, H⟩
    · have h1 := H.2 j (ready_mono hj hji)
      obtain ⟨hjun, oj, hoj, hall⟩ := mem_ready.1 hj
      have hjn : j < n := by
        have hlt : j < ops.size := (Array.getElem?_eq_some_iff.1 hoj).1
        have hne : j ≠ n := fun e => tail_waits hs hc (by omega) inv _ i rfl hin (mem_ready.1 hr).1 j (by omega) hj
        omega
      have hnot : ∀ e ∈ oj.after, Region.binds md e = true → e.on ≠ i := fun e he hb heq => by
        have h1 := hall e he hb
        have h0 := (mem_ready.1 hr).1
        rw [heq, getD_both h0] at h1
        cases h1
      have h2 := wpOp_putIf hoj (hfree j oj hoj hji hjun hnot) (fun cs b => hsel i oi cs b hi) (fun cs b => hsel j oj cs b hoj) hQ hy h1
      have hfree' : ∀ k ok, ops[k]? = some ok → k ≠ i → (listed.setIfInBounds j true).getD k true = false →
          (∀ e ∈ ok.after, Region.binds md e = true → e.on ≠ i) → oi.apart ops ok = true := fun k ok hk hki hun hno => by
        refine hfree k ok hk hki ?_ hno
        by_cases hjk : j = k
        · subst hjk; exact hjun
        · rw [getD_set_ne true hjk] at hun; exact hun
      refine wpOp_mono (fun a' w' h3 => ?_) h2
      have hS' : S w' := h3.2.1.resolve_left (by omega)
      refine ⟨.inr hS', ih (listed.setIfInBounds j true) a' w' (inv.set hj hjn) hfree' (ready_mono hr (Ne.symm hji)) h3.1 hS' ?_⟩
      rw [Array.setIfInBounds_comm _ _ hji]
      exact h3.2.2

/-- The walk's state. -/
def ESt (P : Program) (md : Region.Mode) (ops : Array Oper) (Q : Exit → Act → World → Prop) (S : World → Prop) (n f : Nat) (listed : Array Bool) (a : Act) (w : World) : Prop :=
  HeadInv md ops n listed → wpAnyE P md ops Q S n f listed a w
def Region.okE (md : Region.Mode) (ops : Array Oper) (n : Nat) : Bool := Region.noSelect ops && Region.sinkB md ops n && Region.chainB md ops n && decide (n + 1 = ops.size)

/-- Number i is taken first: what it yields hangs on S alone. -/
theorem ESt.take {i : Nat} {oi : Oper} {v : Value} {f : Nat} {listed : Array Bool} {a : Act} {w : World} (hok : Region.okE md ops n = true) (hi : ops[i]? = some oi)
    (hf : (decide (i < n) && Region.free md ops listed i && (Region.ready md ops listed).contains i) = true) (hQ : ∀ c a w, Q (.panic c) (a.put oi.dst v) w → Q (.panic c) a w) (hy : YieldsIf P ops S oi v a) (hS : S w)
    (h : ESt P md ops Q S n f (listed.setIfInBounds i true) (a.put oi.dst v) w) : ESt P md ops Q S n (f + 1) listed a w := fun inv => by
  simp only [Region.okE, Bool.and_eq_true, decide_eq_true_eq] at hok hf
  obtain ⟨⟨⟨k1, k2⟩, k3⟩, k4⟩ := hok
  obtain ⟨⟨f1, f2⟩, f3⟩ := hf
  have hr : i ∈ Region.ready md ops listed := by simpa using f3
  exact wpAnyE_first k2 k3 k4 f1 hi (Region.noSelect_spec k1) hQ f listed a w inv (Region.free_spec hi f2) hr hy hS (h (inv.set hr f1))

def AllE (P : Program) (md : Region.Mode) (ops : Array Oper) (Q : Exit → Act → World → Prop) (S : World → Prop) (n f : Nat) (listed : Array Bool) (a : Act) (w : World) (rs : List Nat) : Prop :=
  ∀ i ∈ rs, wpOp P ops Q i (fun a' w' => S w' ∧ ESt P md ops Q S n f (listed.setIfInBounds i true) a' w') a w
theorem AllE.nil {f : Nat} {listed : Array Bool} {a : Act} {w : World} : AllE P md ops Q S n f listed a w [] := fun _ h => by cases h
theorem AllE.cons {f : Nat} {listed : Array Bool} {a : Act} {w : World} {i : Nat} {o : Oper} {rs : List Nat} (ho : ops[i]? = some o)
    (h : ∀ K' : Act → World → Prop, Shut (∀ a w, S w → (S w → ESt P md ops Q S n f (listed.setIfInBounds i true) a w) → K' a w) → if Region.wanted o (yielded ops a.tmps) = true then Oper.wp P o a w K' Q else K' (a.put o.dst undef) w)
    (hs : AllE P md ops Q S n f listed a w rs) : AllE P md ops Q S n f listed a w (i :: rs) := fun j hj => by
  rcases List.mem_cons.1 hj with rfl | hj
  · exact wpOp_step ho (fun K' hK => h K' (fun a w hS hW => hK a w ⟨hS, hW hS⟩))
  · exact hs j hj
/-- Whichever comes up. -/
theorem ESt.branch {rs : List Nat} {f : Nat} {listed : Array Bool} {a : Act} {w : World} (hr : Region.ready md ops listed = rs) (hne : (!rs.isEmpty && rs.all fun i => decide (i < n)) = true) (h : AllE P md ops Q S n f listed a w rs) :
    ESt P md ops Q S n (f + 1) listed a w := fun inv => by
  simp only [Bool.and_eq_true, Bool.not_eq_true', List.all_eq_true, decide_eq_true_eq, List.isEmpty_eq_false_iff] at hne
  refine ⟨fun h0 => absurd (hr ▸ h0) hne.1, fun i hi => ?_⟩
  have hi' : i ∈ rs := hr ▸ hi
  exact wpOp_mono (fun a' w' h3 => ⟨.inr h3.1, h3.2 (inv.set hi (hne.2 i hi'))⟩) (h i hi')
/-- The last one. -/
theorem ESt.last {listed : Array Bool} {a : Act} {w : World} {o : Oper} (hr : Region.ready md ops listed = [n]) (hr2 : Region.ready md ops (listed.setIfInBounds n true) = []) (ho : ops[n]? = some o)
    (h : ∀ K' : Act → World → Prop, Shut (∀ a w, Q .normal a w → K' a w) → if Region.wanted o (yielded ops a.tmps) = true then Oper.wp P o a w K' Q else K' (a.put o.dst undef) w) (f : Nat) : ESt P md ops Q S n (f + 1) listed a w := fun _ => by
  refine ⟨fun h0 => (by rw [hr] at h0; cases h0), fun i hi => ?_⟩
  rw [hr] at hi
  obtain rfl : i = n := by simpa using hi
  refine wpOp_step ho (fun K' hK => h K' (fun a w hq => hK a w ⟨.inl rfl, ?_⟩))
  cases f with
  | zero => exact ⟨hr2, hq⟩
  | succ f => exact ⟨fun _ => hq, by rw [hr2]; simp⟩
/-- The beginning. -/
theorem wp_region_E {id : Nat} {a : Act} {w : World} (n : Nat) (S : World → Prop) (hm : P.follows .mixedOrders = true) (hS : S w.drew) (h : S w.drew → ESt P .any ops Q S n ops.size (Array.replicate ops.size false) a w.drew) : (Code.region id ops true).wp P Q a w := by
  refine wp_region_any hm (wpAny_of_E _ _ _ _ (h hS ?_))
  exact ⟨by simp, fun j oj _ hl => (by rw [getD_replicate_false] at hl; cases hl), fun t _ ht => getD_in (by simpa using ht) (getD_replicate_false _ _)⟩
end
end Go.Proofs.YtlnademnfnhbpaaGreat
