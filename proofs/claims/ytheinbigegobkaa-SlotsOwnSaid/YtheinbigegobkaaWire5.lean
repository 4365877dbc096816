/- Package wire: the Writer's calls, its row by name; the builtin copy into a block known whole. -/
import Derived.Test.YtheinbigegobkaaWire4
import Derived.Laws.CopyOwn
namespace Go.Proofs.Ytheinbigegobkaa
open Go.RowKit

/-- As Wtr, the Writer's slice by name. -/
def WtrV (w : World) (B r : Nat) (v : Value) (bs : List UInt8) : Prop := B ≤ r ∧ Blk w r 75 #[v] ∧ OwnB w B v bs
theorem Wtr.open {w : World} {B r : Nat} {bs : List UInt8} (h : Wtr w B r bs) : ∃ v, WtrV w B r v bs := by
  obtain ⟨h1, v, h2, h3⟩ := h
  exact ⟨v, h1, h2, h3⟩
theorem WtrV.wtr {w : World} {B r : Nat} {v : Value} {bs : List UInt8} (h : WtrV w B r v bs) : Wtr w B r bs := ⟨h.1, v, h.2.1, h.2.2⟩
theorem WtrV.upd {w w' : World} {S : Nat → Prop} {B r : Nat} {v : Value} {bs : List UInt8} (h : WtrV w B r v bs) (hu : Upd S w w') (hr : ¬ S r) (hs : ∀ g, v.ownBlock = some g → ¬ S g) : WtrV w' B r v bs :=
  ⟨h.1, h.2.1.upd hu hr, own_upd h.2.2 hu hs⟩
theorem WtrV.same {w w' : World} {B r : Nat} {v : Value} {bs : List UInt8} (h : WtrV w B r v bs) (hu : Same w w') : WtrV w' B r v bs := h.upd hu (fun f => f) fun _ _ f => f
theorem WtrV.lt {w : World} {B r : Nat} {v : Value} {bs : List UInt8} (h : WtrV w B r v bs) : r < w.heap.size := h.2.1.lt

/-- What a Writer's call leaves: only its own blocks have turned. -/
structure WOn (w : World) (B r : Nat) (v : Value) (bs : List UInt8) (w' : World) : Prop where
  ex : ∃ v', WtrV w' B r v' bs ∧ (v'.ownBlock = v.ownBlock ∨ ∃ g, v'.ownBlock = some g ∧ w.heap.size ≤ g)
  upd : Upd (fun b => b = r ∨ v.ownBlock = some b) w w'

set_option maxHeartbeats 400000 in
theorem wnumV {w : World} {B r : Nat} {v : Value} {bs : List UInt8} (h : WtrV w B r v bs) (width n : Int) (hw : isWidthB width = true) (hn : 0 ≤ n) (hl : bs.length + 8 ≤ 140737488355328) :
    Calls Try.prog 27 #[.pointer (some ⟨r, 0, none⟩), .int .i64 width, .int .u64 n] w fun e w' => e = .returned (.tuple #[]) ∧ WOn w B r v (bs ++ beb width.toNat n.toNat) w' := by
  have h0w : 0 ≤ width := by
    simp only [isWidthB, Bool.or_eq_true, beq_iff_eq] at hw
    omega
  obtain ⟨width, rfl⟩ := Int.eq_ofNat_of_zero_le h0w
  obtain ⟨n, rfl⟩ := Int.eq_ofNat_of_zero_le hn
  rw [Int.toNat_natCast, Int.toNat_natCast]
  clear h0w hn
  obtain ⟨hB, hb, ho⟩ := h
  have hlt := hb.lt
  have hne : v.ownBlock ≠ some r := hb.ne_own ho (by decide)
  have h0 := hb.cell 0
  simp only [List.getElem?_toArray, List.getElem?_cons_zero] at h0
  have hwid : 1 ≤ width ∧ width ≤ 8 := by
    simp only [isWidthB, Bool.or_eq_true, beq_iff_eq] at hw
    omega
  have HW := Lib.hid hw
  clear hw
  go_enter Try.func27, Try.ntmps27
  go_wp2_with fail
  refine (isWidth_spec _ _).mono ?_
  rintro e w' ⟨rfl, rfl⟩
  rw [HW.out]
  go_wp2_with fail
  refine (lay_spec _ ho (by omega) width n hwid hl).mono ?_
  rintro e w1 ⟨v', rfl, hg⟩
  have hb1 := hg.blk hb hne
  have f1 := hb1.frozen 0
  have h1 := hb1.cell 0
  simp only [List.getElem?_toArray, List.getElem?_cons_zero] at h1
  obtain ⟨A, m, c, rfl⟩ := own_slice hg.own
  go_wp2
  go_end0
  have hne' : (Value.slice A m c).ownBlock ≠ some r := hb1.ne_own hg.own (by decide)
  refine ⟨rfl, ⟨_, ⟨hB, hb1.put 0 _, ?_⟩, hg.block⟩, (hg.upd.mono fun b _ hv => .inr hv).put (.inl rfl) _⟩
  exact own_upd hg.own ((Upd.refl (fun b => b = r) w1).put1 _) fun g hgg hgr => hne' (hgr ▸ hgg)

set_option maxHeartbeats 400000 in
theorem wrawV {w : World} {F : Nat → Prop} {B r : Nat} {v : Value} {A : Option Addr} {n c : Nat} {bs xs : List UInt8} (h : WtrV w B r v bs) (hx : Bytes w F A n c xs) (hl : bs.length + n ≤ 140737488355328) :
    Calls Try.prog 28 #[.pointer (some ⟨r, 0, none⟩), .slice A n c] w fun e w' => e = .returned (.tuple #[]) ∧ WOn w B r v (bs ++ xs) w' := by
  obtain ⟨hB, hb, ho⟩ := h
  have hlt := hb.lt
  have hne : v.ownBlock ≠ some r := hb.ne_own ho (by decide)
  have h0 := hb.cell 0
  simp only [List.getElem?_toArray, List.getElem?_cons_zero] at h0
  have HL := Lib.hid hx.len
  go_enter Try.func28, Try.ntmps28
  go_wp2_with (at_builtin; go_must (refine wpList_app rfl (.tmp 8) (.tmp 9) _ _ rfl B _ _ _ _ Try.underlying32 info_u8 rfl v _ _ rfl ho rfl (src_row Try.underlying32 hx (u8_oneCell xs)) (by unfold maxLen; omega) (by omega) (by omega) ?_); intro v' w1 hg; obtain ⟨A', m', c', rfl⟩ := own_slice hg.own; have f1 : w1.frozen? ⟨r, 0, none⟩ = false := (hg.blk hb hne).frozen 0; have h1 : w1.cell? ⟨r, 0, none⟩ = some v := (hg.blk hb hne).cell 0)
  go_end0
  have hb1 := hg.blk hb hne
  have hne' : (Value.slice A' m' c').ownBlock ≠ some r := hb1.ne_own hg.own (by decide)
  refine ⟨rfl, ⟨_, ⟨hB, hb1.put 0 _, ?_⟩, hg.block⟩, (hg.upd.mono fun b _ hv => .inr hv).put (.inl rfl) _⟩
  have h2 := own_upd hg.own ((Upd.refl (fun b => b = r) w1).put1 (i := 0) (.slice A' m' c')) fun g hgg hgr => hne' (hgr ▸ hgg)
  unfold OwnB
  rw [List.length_append, HL.out, List.map_append]
  exact h2

/-- 'copy(dst, src)', all of src, into a block known whole. -/
theorem wpList_copy_blk {P : Program} {w : World} {ops : Array Oper} {rest : List Oper} {o : Oper} {a : Act} {Q : Exit → Act → World → Prop} (hgd : o.guard = none) (d s : Operand) (dT sT : TypeId)
    (ho : o.op = .call { callee := .builtin .copy, args := #[d, s], argTypes := #[dT, sT] }) (elem : TypeId) (hu : P.underlying dT = some (.slice elem)) (hsz : (P.info? elem).map (·.size) = some 1)
    (g off dLen dCap : Nat) {F : Nat → Prop} {sp : Option Addr} {sLen sCap : Nat} (hd : a.eval d = .slice (some ⟨g, off, none⟩) dLen dCap) (hs : a.eval s = .slice sp sLen sCap)
    {cur : Array Value} {t : TypeId} (hg : Blk w g t cur) {cs : List Value} (hrow : Row w F 1 sp sLen sCap cs) (hle : sLen ≤ dLen) (hfit : off + sLen ≤ cur.size) (h1 : ∀ v ∈ cs, v.oneCell' = true)
    (h : ∀ w', Blk w' g t (splice cur.toList off cs).toArray → Upd (fun b => b = g) w w' → wpList P ops Q rest (a.put o.dst (.int .i64 sLen)) w') : wpList P ops Q (o :: rest) a w := by
  have hl : cs.length = sLen := by have := hrow.len; omega
  by_cases h0 : sLen = 0
  · subst h0
    obtain rfl : cs = [] := List.eq_nil_of_length_eq_zero hl
    refine wpList_copy_nothing hgd d s dT sT ho elem hu hsz _ _ _ _ _ _ hd hs (by simp) ?_
    exact h w (by simpa [splice] using hg) (Upd.refl _ _)
  · cases hA : sp with
    | none => have := hrow.nil hA; have := hrow.le; omega
    | some ad =>
      obtain ⟨e1, _, _, hc⟩ := hrow.cell ad hA
      obtain ⟨b, o', sp'⟩ := ad
      subst e1 hA
      refine wpList_copy_own hgd d s dT sT ho elem hu hsz g off dLen dCap ⟨b, o', none⟩ sLen sCap hd hs cur t hg cs (by rw [hl]; exact (Nat.min_eq_left hle).symm) (fun j v hj => by rw [addr_add]; exact hc j v hj) (by omega) h1 ?_
      rw [hl]
      refine h _ ?_ ⟨rfl, rfl, rfl, by simp [World.setRow], fun k _ hk => setRow_other w g k _ hk⟩
      have := setRow_heap w g cur (splice cur.toList off cs).toArray t (0, 0) hg
      unfold splice at this ⊢
      rw [hl] at this ⊢
      exact this
/-- For 'with_reducible refine copy_here ?_': it fails at once where the next operation is no builtin copy. -/
theorem copy_here {P : Program} {w : World} {ops : Array Oper} {rest : List Oper} {a : Act} {Q : Exit → Act → World → Prop} {o1 o3 o4 o5 o6 xs ts}
    (h : wpList P ops Q (⟨o1, .call { callee := .builtin .copy, args := xs, argTypes := ts }, o3, o4, o5, o6⟩ :: rest) a w) : wpList P ops Q (⟨o1, .call { callee := .builtin .copy, args := xs, argTypes := ts }, o3, o4, o5, o6⟩ :: rest) a w := h
/-- A block known whole is a row of the call's own. -/
theorem own_of_blk {w : World} {B g n : Nat} {t : TypeId} {cs : Array Value} (h : Blk w g t cs) (hB : B ≤ g) (hn : cs.size = n) (hm : n ≤ maxLen) : w.ownsRow B t 1 (.slice (some ⟨g, 0, none⟩) n n) n cs.toList :=
  ⟨by simpa using hn, .inr ⟨g, n, cs, rfl, hB, h, Nat.le_refl _, hm, by omega, by rw [← hn, Nat.mul_one, ← Array.length_toList, List.take_length]⟩⟩
end Go.Proofs.Ytheinbigegobkaa
