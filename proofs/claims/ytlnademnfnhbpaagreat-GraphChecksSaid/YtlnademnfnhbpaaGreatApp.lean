/- append onto a slice of the call's own, whatever the source: nil, empty or not; in a plain region and in one that draws its order. No program here. -/
import Derived.Test.YtlnademnfnhbpaaGreatBase
import Derived.Deep.AppendLies
import Derived.Laws.AppendOwnNone
import Derived.Deep.AppendSrc
import Derived.Deep.DeepAppendWide
namespace Go.Proofs.YtlnademnfnhbpaaGreat
open Go.RowKit

theorem addr_add (b o j : Nat) : (⟨b, o, none⟩ : Addr).add j = ⟨b, o + j, none⟩ := by
  unfold Addr.add; split <;> simp_all

/-- growslice's own test, wide: three halves of 2^47 bytes. -/
theorem app_fits {need old bytes : Nat} (h : old < need) (hb : (need + 1000) * bytes ≤ 211106232532992) : Builtin.nextslicecap need old * bytes ≤ 281474976710656 := by
  refine growslice_fits_wide h ?_
  have h1 : (4 * (need + need / 4 + 192)) * bytes ≤ (5 * (need + 1000)) * bytes := Nat.mul_le_mul_right _ (by omega)
  rw [Nat.mul_assoc, Nat.mul_assoc] at h1
  omega

/-- What an owned value and the world have become behind any number of appends onto it. -/
structure Grew (w : World) (base : Nat) (e : TypeId) (k : Nat) (v : Value) (n : Nat) (xs : List Value) (v' : Value) (w' : World) : Prop where
  own : w'.ownsRow base e k v' n xs
  upd : Upd (fun b => v.ownBlock = some b) w w'
  block : v'.ownBlock = v.ownBlock ∨ ∃ g, v'.ownBlock = some g ∧ w.heap.size ≤ g

section
variable {P : Program}
/-- What is appended is known by its cells: a string's bytes, or a slice's cells. -/
theorem run_app_src (w : World) (t tx ty : TypeId) (base : Nat) (e : TypeId) (i : TypeInfo) (z : Value) (ht : P.underlying t = some (.slice e)) (hi : P.info? e = some i) (hz : i.zero = some z)
    (hzs : z.cells.size = i.size) (v : Value) (n : Nat) (xs : List Value) (hown : w.ownsRow base e i.size v n xs)
    (x : Value) (m : Nat) (news : List Value) (hsrc : Src P i.size tx x m news w)
    (h63 : n + m ≤ maxLen) (hbytes : (n + m + 1000) * i.bytes ≤ 211106232532992) (hbase : base ≤ w.heap.size) :
    ∃ v' w', (Builtin.append_ #[t, tx] ty #[v, x]).run P w = .ok v' w' ∧ Grew w base e i.size v (n + m) (xs ++ news) v' w' := by
  have hsmall : n + m ≤ 9223372036854775807 := by simp only [maxLen] at h63; omega
  have hlen : (xs ++ news).length = (n + m) * i.size := by rw [List.length_append, hown.1, hsrc.newsLen, Nat.add_mul]
  have fresh : ∀ (old : Nat), (w.drew.alloc (.cells ((xs ++ news).toArray ++ Builtin.zeroCells z.cells (grownCap w (n + m) old e - (n + m))) e)).ownsRow base e i.size
        (.slice (some ⟨w.heap.size, 0, none⟩) (n + m) (grownCap w (n + m) old e)) (n + m) (xs ++ news) := by
    intro old
    have hge := grownCap_ge w (n + m) old e
    have hcm := grownCap_le_maxLen w (n + m) old e h63
    refine ⟨hlen, .inr ⟨w.heap.size, _, _, rfl, hbase, heap_alloc_new w.drew _, hge, hcm, ?_, ?_⟩⟩
    · rw [Array.size_append, size_zeroCells, hzs, List.size_toArray, hlen, ← Nat.add_mul]
      congr 1
      omega
    · rw [Array.toList_append, ← hlen]
      exact List.take_left
  rcases hown.2 with ⟨rfl, rfl⟩ | ⟨g, cap, cur, rfl, hbg, hg, hnc, hcm, hcs, htake⟩
  · have hx : xs = [] := List.eq_nil_of_length_eq_zero (by simpa using hown.1)
    subst hx
    by_cases hm : m = 0
    · subst hm
      have hn : news = [] := List.eq_nil_of_length_eq_zero (by simpa using hsrc.newsLen)
      subst hn
      refine ⟨.slice none 0 0, w, ?_, ⟨World.ownsRow_nil w base e i.size, Upd.refl _ _, .inl rfl⟩⟩
      rcases hsrc.kind with ⟨e', hk⟩ | hk <;> simp [Builtin.append_, run_underlying ht, run_underlying hk, sizeOf, typeInfo, hi, hsrc.len, hsrc.cells]
    · have hr := run_append_grow_src (P := P) w t tx ty e i z ht hi hz none 0 0 [] (by simpa using run_firstCells_none w.drew i.size 0 0 0) x m news hsrc (by omega) (by omega) (app_fits (by omega) hbytes)
      exact ⟨_, _, hr, ⟨fresh 0, (Upd.refl _ w).drew.alloc _, .inr ⟨w.heap.size, rfl, Nat.le_refl _⟩⟩⟩
  · by_cases hroom : n + m ≤ cap
    · have hfit : n * i.size + news.length ≤ cur.size := by rw [hsrc.newsLen, hcs, ← Nat.add_mul]; exact Nat.mul_le_mul_right _ hroom
      have hst := run_storeCells_at P g (n * i.size) e news 0 cur w hg (by simpa using hfit) hsrc.one
      simp only [Nat.add_zero] at hst
      have hr : (Builtin.append_ #[t, tx] ty #[.slice (some ⟨g, 0, none⟩) n cap, x]).run P w = .ok (.slice (some ⟨g, 0, none⟩) (n + m) cap) (w.setRow g (cur.toList.take (n * i.size) ++ news ++ cur.toList.drop (n * i.size + news.length)).toArray) := by
        rcases hsrc.kind with ⟨e', hk⟩ | hk <;> simp [Builtin.append_, run_underlying ht, run_underlying hk, sizeOf, typeInfo, hi, hsrc.len, hroom, hsrc.cells, Addr.add_lit, hst]
      refine ⟨_, _, hr, ⟨⟨hlen, .inr ⟨g, cap, _, rfl, hbg, setRow_heap w g cur _ e _ hg, hroom, hcm, ?_, ?_⟩⟩, ⟨rfl, rfl, rfl, by simp, fun b _ hb => setRow_other w g b _ (fun e => hb (by simp [Value.ownBlock, e]))⟩, .inl rfl⟩⟩
      · simp only [List.size_toArray, List.length_append, List.length_take, List.length_drop, Array.length_toList]
        omega
      · rw [htake, ← hlen]
        exact List.take_left
    · have holds : ∀ j u, xs[j]? = some u → w.drew.cell? ((⟨g, 0, none⟩ : Addr).add j) = some u := hown.cells (g := g) rfl
      have hr := run_append_grow_src (P := P) w t tx ty e i z ht hi hz (some ⟨g, 0, none⟩) n cap xs (run_firstCells_some w.drew i.size n ⟨g, 0, none⟩ n cap xs hown.1 holds) x m news hsrc (by omega) (by omega) (app_fits (by omega) hbytes)
      exact ⟨_, _, hr, ⟨fresh cap, (Upd.refl _ w).drew.alloc _, .inr ⟨w.heap.size, rfl, Nat.le_refl _⟩⟩⟩

/-- A slice as what is appended. -/
theorem src_row {w : World} {F : Nat → Prop} {k : Nat} {tx e : TypeId} (ht : P.underlying tx = some (.slice e)) {A : Option Addr} {m c : Nat} {news : List Value} (h : Row w F k A m c news) (hone : ∀ u ∈ news, u.oneCell' = true) :
    Src P k tx (.slice A m c) m news w := by
  cases hA : A with
  | none =>
    have hc := h.nil hA
    have hle := h.le
    obtain rfl : m = 0 := by omega
    obtain rfl : c = 0 := by omega
    have hn : news = [] := List.eq_nil_of_length_eq_zero (by simpa using h.len)
    subst hn
    exact Src.ofNil w ht 0
  | some a =>
    obtain ⟨hs, _, _, hcell⟩ := h.cell a hA
    obtain ⟨b, o, s⟩ := a
    subst hs
    exact Src.ofSlice w ht ⟨b, o, none⟩ m c news h.len (fun j u hu => by rw [addr_add]; exact hcell j u hu) hone

theorem wp_app {w : World} {o : Oper} {a : Act} {K : Act → World → Prop} {Q : Exit → Act → World → Prop} (s x : Operand) (t tx : TypeId)
    (ho : o.op = .call { callee := .builtin .append, args := #[s, x], argTypes := #[t, tx] })
    (base : Nat) (e : TypeId) (k bytes : Nat) (z : Value) (ht : P.underlying t = some (.slice e)) (hi : (P.info? e).map (fun i => (i.zero, i.size, i.bytes)) = some (some z, k, bytes))
    (hzs : z.cells.size = k)
    (v : Value) (n : Nat) (xs : List Value) (hs : a.eval s = v) (hown : w.ownsRow base e k v n xs)
    {xv : Value} {m : Nat} {news : List Value} (hx : a.eval x = xv) (hsrc : Src P k tx xv m news w)
    (h63 : n + m ≤ maxLen) (hbytes : (n + m + 1000) * bytes ≤ 211106232532992) (hbase : base ≤ w.heap.size)
    (h : ∀ v' w', Grew w base e k v (n + m) (xs ++ news) v' w' → K (a.put o.dst v') w') : o.wp P a w K Q := by
  obtain ⟨i, hi', hz, hk, hby⟩ := info_parts hi
  clear hi
  subst hk
  subst hby
  obtain ⟨v', w', hr, h2⟩ := run_app_src (P := P) w t tx o.type base e i z ht hi' hz hzs v n xs hown xv m news hsrc h63 hbytes hbase
  unfold Oper.wp execOp
  simp only [ho, resolve, invoke, builtin, Sem.run_bind, Sem.run_pure, Result.andThen_ok, List.map_toArray, List.map_cons, List.map_nil, hs, hx, hr]
  exact h v' w' h2

/-- In a plain region. -/
theorem wpList_app {w : World} {ops : Array Oper} {rest : List Oper} {o : Oper} {a : Act} {Q : Exit → Act → World → Prop} (hgd : o.guard = none) (s x : Operand) (t tx : TypeId)
    (ho : o.op = .call { callee := .builtin .append, args := #[s, x], argTypes := #[t, tx] })
    (base : Nat) (e : TypeId) (k bytes : Nat) (z : Value) (ht : P.underlying t = some (.slice e)) (hi : (P.info? e).map (fun i => (i.zero, i.size, i.bytes)) = some (some z, k, bytes))
    (hzs : z.cells.size = k)
    (v : Value) (n : Nat) (xs : List Value) (hs : a.eval s = v) (hown : w.ownsRow base e k v n xs)
    {xv : Value} {m : Nat} {news : List Value} (hx : a.eval x = xv) (hsrc : Src P k tx xv m news w)
    (h63 : n + m ≤ maxLen) (hbytes : (n + m + 1000) * bytes ≤ 211106232532992) (hbase : base ≤ w.heap.size)
    (h : ∀ v' w', Grew w base e k v (n + m) (xs ++ news) v' w' → wpList P ops Q rest (a.put o.dst v') w') : wpList P ops Q (o :: rest) a w :=
  wpList_plain hgd fun _ hK => wp_app s x t tx ho base e k bytes z ht hi hzs v n xs hs hown hx hsrc h63 hbytes hbase fun v' w' h' => hK _ _ (h v' w' h')

/-- As a step of a region that draws its order. -/
theorem step_app {w : World} {ops : Array Oper} {o : Oper} {a : Act} {K : Act → World → Prop} {Q : Exit → Act → World → Prop} {E : Prop} (hgd : o.guard = none) (s x : Operand) (t tx : TypeId)
    (ho : o.op = .call { callee := .builtin .append, args := #[s, x], argTypes := #[t, tx] })
    (base : Nat) (e : TypeId) (k bytes : Nat) (z : Value) (ht : P.underlying t = some (.slice e)) (hi : (P.info? e).map (fun i => (i.zero, i.size, i.bytes)) = some (some z, k, bytes))
    (hzs : z.cells.size = k)
    (v : Value) (n : Nat) (xs : List Value) (hs : a.eval s = v) (hown : w.ownsRow base e k v n xs)
    {xv : Value} {m : Nat} {news : List Value} (hx : a.eval x = xv) (hsrc : Src P k tx xv m news w)
    (h63 : n + m ≤ maxLen) (hbytes : (n + m + 1000) * bytes ≤ 211106232532992) (hbase : base ≤ w.heap.size)
    (h : ∀ v' w', Grew w base e k v (n + m) (xs ++ news) v' w' → K (a.put o.dst v') w') :
    if Region.wanted o (yielded ops a.tmps) = true then Oper.wp P o a w K Q else E := by
  have hw : Region.wanted o (yielded ops a.tmps) = true := by simp [Region.wanted, hgd]
  rw [if_pos hw]
  exact wp_app s x t tx ho base e k bytes z ht hi hzs v n xs hs hown hx hsrc h63 hbytes hbase h
end

/-- A block known whole is a row. -/
theorem Row.of_blk {w : World} {g : Nat} {t : TypeId} {cs : Array Value} {k n c : Nat} (h : Blk w g t cs) (hs : cs.size = n * k) (hn : n ≤ c) (hc : c ≤ maxLen) : Row w (fun b => b = g) k (some ⟨g, 0, none⟩) n c cs.toList :=
  ⟨by simpa using hs, hn, hc, fun hh => by (cases hh), fun a ha => by
    cases ha
    exact ⟨rfl, h.lt, rfl, fun i u hi => by rw [h.cell]; simpa using hi⟩⟩
/-- 'append(x, u)' lays u into a new block of one cell first. -/
theorem Row.one (w : World) (t : TypeId) (u : Value) : Row (w.alloc (.cells #[u] t)) (fun b => b = w.heap.size) 1 (some ⟨w.heap.size, 0, none⟩) 1 1 [u] :=
  Row.of_blk (Blk.new w t #[u]) rfl (Nat.le_refl _) (by simp [maxLen])
theorem Row.drew {w : World} {F : Nat → Prop} {k n c : Nat} {A : Option Addr} {xs : List Value} (h : Row w F k A n c xs) : Row w.drew F k A n c xs := ⟨h.len, h.le, h.max, h.nil, h.cell⟩

section
variable {w w' : World} {base : Nat} {e : TypeId} {k : Nat} {v : Value} {n : Nat} {xs : List Value} {v' : Value}
theorem own_upd {S : Nat → Prop} (h : w.ownsRow base e k v n xs) (hu : Upd S w w') (hs : ∀ g, v.ownBlock = some g → ¬ S g) : w'.ownsRow base e k v n xs := by
  refine ⟨h.1, ?_⟩
  rcases h.2 with hh | ⟨g, cap, cur, hv, hb, hg, r⟩
  · exact .inl hh
  · exact .inr ⟨g, cap, cur, hv, hb, (hu.block g (Array.getElem?_eq_some_iff.1 hg).1 (hs g (by rw [hv]; rfl))).trans hg, r⟩
theorem own_same (h : w.ownsRow base e k v n xs) (hu : Same w w') : w'.ownsRow base e k v n xs := own_upd h hu fun _ _ f => f
/-- The length is left a letter, so that no walk rewrites it. -/
theorem own_slice (h : w.ownsRow base e k v n xs) : ∃ A m c, v = .slice A m c := by
  rcases h.2 with ⟨hv, hn⟩ | ⟨g, cap, cur, hv, _⟩
  · exact ⟨none, 0, 0, hv⟩
  · exact ⟨_, _, _, hv⟩
theorem own_form (h : w.ownsRow base e k v n xs) : ∃ A c, v = .slice A n c := by
  rcases h.2 with ⟨hv, hn⟩ | ⟨g, cap, cur, hv, _⟩
  · exact ⟨none, 0, by rw [hv, hn]⟩
  · exact ⟨_, _, hv⟩
theorem own_base {base' : Nat} (h : w.ownsRow base e k v n xs) (hb : base' ≤ base) : w.ownsRow base' e k v n xs := by
  refine ⟨h.1, ?_⟩
  rcases h.2 with hh | ⟨g, cap, cur, hv, hg, r⟩
  · exact .inl hh
  · exact .inr ⟨g, cap, cur, hv, by omega, r⟩
theorem own_rebase {base' : Nat} (h : w.ownsRow base e k v n xs) (hb : ∀ g, v.ownBlock = some g → base' ≤ g) : w.ownsRow base' e k v n xs := by
  refine ⟨h.1, ?_⟩
  rcases h.2 with hh | ⟨g, cap, cur, hv, hg, r⟩
  · exact .inl hh
  · exact .inr ⟨g, cap, cur, hv, hb g (by rw [hv]; rfl), r⟩
theorem Grew.size (h : Grew w base e k v n xs v' w') : w.heap.size ≤ w'.heap.size := h.upd.size
theorem Grew.blk {g : Nat} {t : TypeId} {cs : Array Value} (h : Grew w base e k v n xs v' w') (hb : Blk w g t cs) (hne : v.ownBlock ≠ some g) : Blk w' g t cs := hb.upd h.upd fun e => hne e
theorem Grew.refl (h : w.ownsRow base e k v n xs) : Grew w base e k v n xs v w := ⟨h, Upd.refl _ _, .inl rfl⟩
theorem Grew.alloc (h : Grew w base e k v n xs v' w') (o : Obj) : Grew w base e k v n xs v' (w'.alloc o) := ⟨h.own.alloc o, h.upd.alloc o, h.block⟩
theorem Grew.drew (h : Grew w base e k v n xs v' w') : Grew w base e k v n xs v' w'.drew := ⟨h.own, h.upd.drew, h.block⟩
theorem Grew.trans {w1 : World} {v1 : Value} {n1 : Nat} {xs1 : List Value} (h : Grew w base e k v n1 xs1 v1 w1) (h' : Grew w1 base e k v1 n xs v' w') : Grew w base e k v n xs v' w' := by
  refine ⟨h'.own, h.upd.trans h'.upd fun b hb hv => ?_, ?_⟩
  · rcases h.block with hh | ⟨g, hg, hle⟩
    · rw [← hh]; exact hv
    · rw [hg] at hv
      have := Option.some.inj hv
      omega
  · rcases h'.block with hh | ⟨g, hg, hle⟩
    · rw [hh]; exact h.block
    · exact .inr ⟨g, hg, Nat.le_trans h.size hle⟩
/-- If nothing old was owned, no old block has turned. -/
theorem Grew.same (h : Grew w base e k v n xs v' w') (hv : ∀ g, v.ownBlock = some g → w.heap.size ≤ g) : Same w w' := h.upd.mono fun b hb hh => absurd (hv b hh) (by omega)
end

/-- 'x.f = append(x.f, ..)': what is known behind the store. -/
theorem field_app {wr wa w1 : World} {g i : Nat} {t e : TypeId} {cs : Array Value} {base k n0 n : Nat} {v v' : Value} {xs0 xs : List Value} (kb : Blk wr g t cs) (hown : wr.ownsRow base e k v n0 xs0) (hne : e ≠ t)
    (hu : Same wr wa) (hg : Grew wa base e k v n xs v' w1) :
    Blk (w1.setCell ⟨g, i, none⟩ v') g t (cs.setIfInBounds i v') ∧ (w1.setCell ⟨g, i, none⟩ v').ownsRow base e k v' n xs ∧ Upd (fun b => b = g ∨ v.ownBlock = some b) wr (w1.setCell ⟨g, i, none⟩ v') := by
  have h1 := hg.blk (kb.same hu) (kb.ne_own hown hne)
  refine ⟨h1.put i v', own_upd hg.own ((Upd.refl (fun b => b = g) w1).put1 v') fun b hb hh => h1.ne_own hg.own hne (hh ▸ hb), ?_⟩
  have h2 : Upd (fun b => b = g ∨ v.ownBlock = some b) wr wa := hu.mono fun _ _ f => f.elim
  exact Upd.put (h2.trans (hg.upd.mono (S' := fun b => b = g ∨ v.ownBlock = some b) fun _ _ hh => .inr hh) fun _ _ hh => hh) (.inl rfl) v'

/-- Rows of different element types never share a block. -/
theorem own_ne_own {w : World} {base base' k k' n n' : Nat} {e e' : TypeId} {v v' : Value} {xs xs' : List Value} (h : w.ownsRow base e k v n xs) (h' : w.ownsRow base' e' k' v' n' xs') (hne : e ≠ e') : ∀ g, v.ownBlock = some g → v'.ownBlock ≠ some g := by
  intro g hg hg'
  rcases h.2 with ⟨rfl, _⟩ | ⟨b, cap, cur, rfl, _, hh, _⟩
  · simp [Value.ownBlock] at hg
  rcases h'.2 with ⟨rfl, _⟩ | ⟨b', cap', cur', rfl, _, hh', _⟩
  · simp [Value.ownBlock] at hg'
  obtain rfl : b = g := by simpa [Value.ownBlock] using hg
  obtain rfl : b' = b := by simpa [Value.ownBlock] using hg'
  rw [hh] at hh'
  injection hh' with hh'
  injection hh' with _ ht
  exact hne ht
end Go.Proofs.YtlnademnfnhbpaaGreat
