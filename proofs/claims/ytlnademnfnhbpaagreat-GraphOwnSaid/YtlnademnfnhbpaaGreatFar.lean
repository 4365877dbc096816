/- Owned lists keep what lies in other blocks. -/
import Derived.Test.YtlnademnfnhbpaaGreatCanG
namespace Go.Proofs.YtlnademnfnhbpaaGreat
open Go.RowKit
section
variable {wx w' : World} {B : Nat}
theorem pw_mid {α : Type} {R : α → α → Prop} (hs : ∀ x y, R x y → R y x) {P Q : List α} {x : α} (h : (P ++ x :: Q).Pairwise R) : ∀ y ∈ P ++ Q, R x y := by
  obtain ⟨_, h2, h3⟩ := List.pairwise_append.1 h
  intro y hy
  rcases List.mem_append.1 hy with hy | hy
  · exact hs _ _ (h3 y hy x (by simp))
  · exact (List.pairwise_cons.1 h2).1 y hy
theorem pw_same {α : Type} {R : α → α → Prop} {P Q : List α} {x y : α} (h : (P ++ x :: Q).Pairwise R) (h1 : ∀ z, R z x → R z y) (h2 : ∀ z, R x z → R y z) : (P ++ y :: Q).Pairwise R := by
  obtain ⟨a, b, c⟩ := List.pairwise_append.1 h
  obtain ⟨b1, b2⟩ := List.pairwise_cons.1 b
  refine List.pairwise_append.2 ⟨a, List.pairwise_cons.2 ⟨fun z hz => h2 z (b1 z hz), b2⟩, fun z hz u hu => ?_⟩
  rcases List.mem_cons.1 hu with rfl | hu
  · exact h1 z (c z hz x (by simp))
  · exact c z hz u (by simp [hu])
/-- What lies in other blocks stays. -/
theorem OwnVal.far {S : Nat → Prop} {x : PR} (h : OwnVal wx B x) (hu : Upd S wx w') (hn : ∀ k, S k → ¬ x.blocks k) : OwnVal w' B x := h.upd hu (fun k hk e => hn k hk (.inl e)) (fun k hk e => hn k hk (.inr e))
theorem OwnNd.far {S : Nat → Prop} {x : ND} (h : OwnNd wx B x) (hu : Upd S wx w') (hn : ∀ k, S k → ¬ x.blocks k) : OwnNd w' B x :=
  ⟨own_upd h.lab hu fun k hk hs => hn k hs (.inl hk), ⟨own_upd h.pro.row hu fun k hk hs => hn k hs (.inr (.inl hk)), fun p hp => (h.pro.each p hp).far hu fun k hk hb => hn k hk (.inr (.inr ⟨p, hp, hb⟩))⟩, h.id⟩
theorem OwnRl.far {S : Nat → Prop} {x : RL} (h : OwnRl wx B x) (hu : Upd S wx w') (hn : ∀ k, S k → ¬ x.blocks k) : OwnRl w' B x :=
  ⟨⟨own_upd h.pro.row hu fun k hk hs => hn k hs (.inl hk), fun p hp => (h.pro.each p hp).far hu fun k hk hb => hn k hk (.inr ⟨p, hp, hb⟩)⟩, h.id⟩

end
end Go.Proofs.YtlnademnfnhbpaaGreat
