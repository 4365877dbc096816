/- GraphOwn: what a round of its marking keeps. -/
import Derived.Test.YtlnademnfnhbpaaGreatOwnM
namespace Go.Proofs.YtlnademnfnhbpaaGreat
open Go.RowKit

theorem OwnPs.far {w w' : World} {B : Nat} {v : Value} {ps : List PR} {S : Nat → Prop} (h : OwnPs w B v ps) (hu : Upd S w w') (hn : ∀ k, S k → ¬ (v.ownBlock = some k ∨ ∃ p ∈ ps, p.blocks k)) : OwnPs w' B v ps :=
  ⟨own_upd h.row hu fun k hk hs => hn k hs (.inl hk), fun p hp => (h.each p hp).far hu fun k hk hb => hn k hk (.inr ⟨p, hp, hb⟩)⟩
theorem OwnNd.ty {w : World} {B : Nat} {x : ND} (h : OwnNd w B x) {k : Nat} (hk : x.blocks k) : OfT w 45 k ∨ OfT w 2 k ∨ OfT w 9 k := by
  rcases hk with hk | hk
  · exact .inr (.inr (own_ofT h.lab hk))
  · exact h.pro.ty hk
theorem OwnRl.ty {w : World} {B : Nat} {x : RL} (h : OwnRl w B x) {k : Nat} (hk : x.blocks k) : OfT w 45 k ∨ OfT w 2 k ∨ OfT w 9 k := h.pro.ty hk

/-- The blocks of a graph's lists are other ones, by number. -/
structure SepG (a : GR) (b5 : Nat) : Prop where
  nr : ∀ k, (Value.slice a.AN a.nN a.cN).ownBlock = some k → (Value.slice a.AR a.nR a.cR).ownBlock ≠ some k
  n1 : ∀ x ∈ a.ns, ∀ k, x.blocks k → (Value.slice a.AN a.nN a.cN).ownBlock ≠ some k ∧ (Value.slice a.AR a.nR a.cR).ownBlock ≠ some k
  r1 : ∀ y ∈ a.rs, ∀ k, y.blocks k → (Value.slice a.AN a.nN a.cN).ownBlock ≠ some k ∧ (Value.slice a.AR a.nR a.cR).ownBlock ≠ some k
  bx : ¬ a.blk b5
  np : ∀ x ∈ a.ns, ∀ p ∈ x.props, ∀ k, p.blocks k → (Value.slice x.AP x.nP x.cP).ownBlock ≠ some k
  rp : ∀ x ∈ a.rs, ∀ p ∈ x.props, ∀ k, p.blocks k → (Value.slice x.AP x.nP x.cP).ownBlock ≠ some k
  lp : ∀ x ∈ a.ns, ∀ k, (Value.slice x.AL x.nL x.cL).ownBlock = some k → (Value.slice x.AP x.nP x.cP).ownBlock ≠ some k
theorem OwnG.sep {w : World} {B b5 : Nat} {a : GR} {cs : Array Value} (h : OwnG w B a) (hb : Blk w b5 27 cs) : SepG a b5 := by
  have three : ∀ {k : Nat} {e : TypeId}, (OfT w 45 k ∨ OfT w 2 k ∨ OfT w 9 k) → OfT w e k → 45 ≠ e → 2 ≠ e → 9 ≠ e → False := fun h1 h2 n1 n2 n3 => by
    rcases h1 with h1 | h1 | h1
    · exact n1 (h1.ne h2)
    · exact n2 (h1.ne h2)
    · exact n3 (h1.ne h2)
  refine ⟨fun k h1 h2 => own_ne_own h.nodes.row h.rels.row (by decide) k h1 h2, fun x hx k hk => ⟨fun h1 => ?_, fun h1 => ?_⟩, fun x hx k hk => ⟨fun h1 => ?_, fun h1 => ?_⟩, h.ne_box hb, fun x hx p hp k hk h1 => ?_, fun x hx p hp k hk h1 => ?_, fun x hx k h1 h2 => own_ne_own (h.nodes.each x hx).lab (h.nodes.each x hx).pro.row (by decide) k h1 h2⟩
  · exact three ((h.nodes.each x hx).ty hk) (own_ofT h.nodes.row h1) (by decide) (by decide) (by decide)
  · exact three ((h.nodes.each x hx).ty hk) (own_ofT h.rels.row h1) (by decide) (by decide) (by decide)
  · exact three ((h.rels.each x hx).ty hk) (own_ofT h.nodes.row h1) (by decide) (by decide) (by decide)
  · exact three ((h.rels.each x hx).ty hk) (own_ofT h.rels.row h1) (by decide) (by decide) (by decide)
  · rcases ((h.nodes.each x hx).pro.each p hp).ty hk with h2 | h2
    · exact absurd (h2.ne (own_ofT (h.nodes.each x hx).pro.row h1)) (by decide)
    · exact absurd (h2.ne (own_ofT (h.nodes.each x hx).pro.row h1)) (by decide)
  · rcases ((h.rels.each x hx).pro.each p hp).ty hk with h2 | h2
    · exact absurd (h2.ne (own_ofT (h.rels.each x hx).pro.row h1)) (by decide)
    · exact absurd (h2.ne (own_ofT (h.rels.each x hx).pro.row h1)) (by decide)

/-- The marking of a list of properties, k of them marked. -/
structure PMk (w3 : World) (B : Nat) (A : Option Addr) (n c : Nat) (ps : List PR) (k : Nat) (wr : World) : Prop where
  row : ∃ lp : List PR, lp.length = k ∧ wr.ownsRow B 45 6 (.slice A n c) n ((lp ++ ps.drop k).flatMap PR.cells)
  rest : ∀ p ∈ ps.drop k, OwnVal wr B p
  upd : Upd (fun b => (Value.slice A n c).ownBlock = some b ∨ ∃ p ∈ ps, p.blocks b) w3 wr
section
variable {w3 wr w' : World} {B : Nat} {A : Option Addr} {n c : Nat} {ps : List PR} {k : Nat}
theorem PMk.start (h : OwnPs w3 B (.slice A n c) ps) : PMk w3 B A n c ps 0 w3 := by
  have hr := h.row
  have hl : ps.length = n := h.rd.len
  rw [hl] at hr
  exact ⟨⟨[], rfl, hr⟩, fun p hp => h.each p hp, Upd.refl _ _⟩
theorem PMk.next (h : PMk w3 B A n c ps k wr) (hap : ps.Pairwise PR.Apart) (hsp : ∀ p ∈ ps, ∀ b, p.blocks b → (Value.slice A n c).ownBlock ≠ some b) {x y : PR} {g : Nat} {lp : List PR} (hx : ps[k]? = some x) (hA : A = some ⟨g, 0, none⟩) (hl : lp.length = k)
    (hr : w'.ownsRow B 45 6 (.slice A n c) n ((lp ++ y :: ps.drop (k + 1)).flatMap PR.cells)) (hu : Upd (fun b => b = g ∨ x.blocks b) wr w') : PMk w3 B A n c ps (k + 1) w' := by
  have hd := ps_drop hx
  have hxm : x ∈ ps := List.mem_of_getElem? hx
  have hob : (Value.slice A n c).ownBlock = some g := by rw [hA]; rfl
  have hpw : (x :: ps.drop (k + 1)).Pairwise PR.Apart := by rw [← hd]; exact List.Pairwise.sublist (List.drop_sublist k ps) hap
  refine ⟨⟨lp ++ [y], by simp [hl], by rw [List.append_assoc]; exact hr⟩, fun p hp => ?_, h.upd.trans hu fun b _ hb => ?_⟩
  · refine (h.rest p (by rw [hd]; exact List.mem_cons_of_mem _ hp)).far hu fun b hb hpb => ?_
    rcases hb with hb | hb
    · subst hb
      exact hsp p (List.mem_of_mem_drop hp) _ hpb hob
    · exact (List.pairwise_cons.1 hpw).1 p hp b hb hpb
  · rcases hb with hb | hb
    · subst hb
      exact .inl hob
    · exact .inr ⟨x, hxm, hb⟩
end

/-- All but the nodes' row, while node x is marked; Q: the nodes behind it. -/
structure MkS (w0 : World) (B b5 : Nat) (a : GR) (Q : List ND) (wr : World) : Prop where
  rest : ∀ y ∈ Q, OwnNd wr B y
  rels : OwnRs wr B (.slice a.AR a.nR a.cR) a.rs
  box : Blk wr b5 27 #[.slice a.AN a.nN a.cN, .slice a.AR a.nR a.cR]
  upd : Upd a.blk w0 wr
/-- The marking of the nodes, i of them marked. -/
structure MkN (w0 : World) (B b5 : Nat) (a : GR) (i : Nat) (wr : World) : Prop where
  row : ∃ l1 : List ND, l1.length = i ∧ wr.ownsRow B 40 3 (.slice a.AN a.nN a.cN) a.nN ((l1 ++ a.ns.drop i).flatMap ND.cells)
  s : MkS w0 B b5 a (a.ns.drop i) wr
/-- The marking of the relationships. -/
structure MkR (w0 : World) (B b5 : Nat) (a : GR) (i : Nat) (wr : World) : Prop where
  nodes : ∃ l1 : List ND, wr.ownsRow B 40 3 (.slice a.AN a.nN a.cN) a.nN (l1.flatMap ND.cells)
  row : ∃ l1 : List RL, l1.length = i ∧ wr.ownsRow B 47 5 (.slice a.AR a.nR a.cR) a.nR ((l1 ++ a.rs.drop i).flatMap RL.cells)
  rest : ∀ y ∈ a.rs.drop i, OwnRl wr B y
  box : Blk wr b5 27 #[.slice a.AN a.nN a.cN, .slice a.AR a.nR a.cR]
  upd : Upd a.blk w0 wr
section
variable {w0 wr w' : World} {B b5 : Nat} {a : GR} {i : Nat}
theorem MkN.start (h : OwnG w0 B a) (hb : Blk w0 b5 27 #[.slice a.AN a.nN a.cN, .slice a.AR a.nR a.cR]) : MkN w0 B b5 a 0 w0 := by
  have hr := h.nodes.row
  have hl : a.ns.length = a.nN := h.rd.nodes.len
  rw [hl] at hr
  exact ⟨⟨[], rfl, hr⟩, ⟨h.nodes.each, h.rels, hb, Upd.refl _ _⟩⟩
theorem MkN.next {x : ND} (h : MkN w0 B b5 a i wr) (hp : SepG a b5) (hap : ApartG a) (hx : a.ns[i]? = some x) {l1 : List ND} {y : ND} (hl : l1.length = i)
    (hr : w'.ownsRow B 40 3 (.slice a.AN a.nN a.cN) a.nN ((l1 ++ y :: a.ns.drop (i + 1)).flatMap ND.cells)) (hu : Upd (fun b => (Value.slice a.AN a.nN a.cN).ownBlock = some b ∨ x.blocks b) wr w') : MkN w0 B b5 a (i + 1) w' := by
  have hd := nd_drop hx
  have hxm : x ∈ a.ns := List.mem_of_getElem? hx
  have hpw : (x :: a.ns.drop (i + 1)).Pairwise ND.Apart := by rw [← hd]; exact List.Pairwise.sublist (List.drop_sublist i _) hap.nodes
  refine ⟨⟨l1 ++ [y], by simp [hl], by rw [List.append_assoc]; exact hr⟩, ⟨fun z hz => ?_, ⟨?_, fun z hz => ?_⟩, h.s.box.upd hu ?_, h.s.upd.trans hu fun b _ hb => ?_⟩⟩
  · refine (h.s.rest z (by rw [hd]; exact List.mem_cons_of_mem _ hz)).far hu fun b hb hzb => ?_
    rcases hb with hb | hb
    · exact (hp.n1 z (List.mem_of_mem_drop hz) b hzb).1 hb
    · exact (List.pairwise_cons.1 hpw).1 z hz b hb hzb
  · refine own_upd h.s.rels.row hu fun b hb hs => ?_
    rcases hs with hs | hs
    · exact hp.nr b hs hb
    · exact (hp.n1 x hxm b hs).2 hb
  · refine (h.s.rels.each z hz).far hu fun b hb hzb => ?_
    rcases hb with hb | hb
    · exact (hp.r1 z hz b hzb).1 hb
    · exact hap.cross x hxm z hz b hb hzb
  · rintro (hb | hb)
    · exact hp.bx (.inl hb)
    · exact hp.bx (.inr (.inr (.inl ⟨x, hxm, hb⟩)))
  · rcases hb with hb | hb
    · exact .inl hb
    · exact .inr (.inr (.inl ⟨x, hxm, hb⟩))
theorem MkR.start (h : MkN w0 B b5 a a.nN wr) (hl2 : a.rs.length = a.nR) : MkR w0 B b5 a 0 wr := by
  obtain ⟨l1, _, h2⟩ := h.row
  have hr := h.s.rels.row
  rw [hl2] at hr
  exact ⟨⟨_, h2⟩, ⟨[], rfl, hr⟩, h.s.rels.each, h.s.box, h.s.upd⟩
theorem MkR.next {x : RL} (h : MkR w0 B b5 a i wr) (hp : SepG a b5) (hap : ApartG a) (hx : a.rs[i]? = some x) {l1 : List RL} {y : RL} (hl : l1.length = i)
    (hr : w'.ownsRow B 47 5 (.slice a.AR a.nR a.cR) a.nR ((l1 ++ y :: a.rs.drop (i + 1)).flatMap RL.cells)) (hu : Upd (fun b => (Value.slice a.AR a.nR a.cR).ownBlock = some b ∨ x.blocks b) wr w') : MkR w0 B b5 a (i + 1) w' := by
  have hd := rl_drop hx
  have hxm : x ∈ a.rs := List.mem_of_getElem? hx
  have hpw : (x :: a.rs.drop (i + 1)).Pairwise RL.Apart := by rw [← hd]; exact List.Pairwise.sublist (List.drop_sublist i _) hap.rels
  obtain ⟨ln, hn⟩ := h.nodes
  refine ⟨⟨ln, own_upd hn hu fun b hb hs => ?_⟩, ⟨l1 ++ [y], by simp [hl], by rw [List.append_assoc]; exact hr⟩, fun z hz => ?_, h.box.upd hu ?_, h.upd.trans hu fun b _ hb => ?_⟩
  · rcases hs with hs | hs
    · exact hp.nr b hb hs
    · exact (hp.r1 x hxm b hs).1 hb
  · refine (h.rest z (by rw [hd]; exact List.mem_cons_of_mem _ hz)).far hu fun b hb hzb => ?_
    rcases hb with hb | hb
    · exact (hp.r1 z (List.mem_of_mem_drop hz) b hzb).2 hb
    · exact (List.pairwise_cons.1 hpw).1 z hz b hb hzb
  · rintro (hb | hb)
    · exact hp.bx (.inr (.inl hb))
    · exact hp.bx (.inr (.inr (.inr ⟨x, hxm, hb⟩)))
  · rcases hb with hb | hb
    · exact .inr (.inl hb)
    · exact .inr (.inr (.inr ⟨x, hxm, hb⟩))
end

/-- A cell of an owned row of nodes, of relationships, turned. -/
theorem own_ndc {w : World} {B n c k j h : Nat} {l1 Q : List ND} {x y : ND} {u : Value} (hr : w.ownsRow B 40 3 (.slice (some ⟨h, 0, none⟩) n c) n ((l1 ++ x :: Q).flatMap ND.cells)) (hl : l1.length = k) (hj : j < 3) (he : y.cells = x.cells.set j u) :
    (w.setCell ⟨h, k * 3 + j, none⟩ u).ownsRow B 40 3 (.slice (some ⟨h, 0, none⟩) n c) n ((l1 ++ y :: Q).flatMap ND.cells) := by
  have hlen := arr_len hr ND.three (by omega)
  rw [List.length_append, List.length_cons] at hlen
  obtain ⟨g, _, hA, _, _, _, _, _, s4⟩ := own_cellK (i := k * 3 + j) hr (by omega)
  injection hA with hA
  injection hA with hA _ _
  subst hA
  have := s4 u
  rwa [flat_one ND.three l1 Q x y hj he hl] at this
theorem own_rlc {w : World} {B n c k j h : Nat} {l1 Q : List RL} {x y : RL} {u : Value} (hr : w.ownsRow B 47 5 (.slice (some ⟨h, 0, none⟩) n c) n ((l1 ++ x :: Q).flatMap RL.cells)) (hl : l1.length = k) (hj : j < 5) (he : y.cells = x.cells.set j u) :
    (w.setCell ⟨h, k * 5 + j, none⟩ u).ownsRow B 47 5 (.slice (some ⟨h, 0, none⟩) n c) n ((l1 ++ y :: Q).flatMap RL.cells) := by
  have hlen := arr_len hr RL.five (by omega)
  rw [List.length_append, List.length_cons] at hlen
  obtain ⟨g, _, hA, _, _, _, _, _, s4⟩ := own_cellK (i := k * 5 + j) hr (by omega)
  injection hA with hA
  injection hA with hA _ _
  subst hA
  have := s4 u
  rwa [flat_one RL.five l1 Q x y hj he hl] at this

theorem psized_perm {w w' : World} {F F' : Nat → Prop} {A A' : Option Addr} {n c n' c' : Nat} {ps ps' : List PR} (h : RdPs w F A n c ps) (h' : RdPs w' F' A' n' c' ps') (hz : PsSized n ps) (hd : (ps'.map PR.dat).Perm (ps.map PR.dat)) : PsSized n' ps' := by
  have hl : ps'.length = ps.length := by have := hd.length_eq; simpa using this
  refine ⟨by rw [← h'.len, hl, h.len]; exact hz.n, fun x hx => ?_⟩
  have h1 : x.dat ∈ ps'.map PR.dat := List.mem_map_of_mem hx
  obtain ⟨y, hy, he⟩ := List.mem_map.1 (hd.mem_iff.1 h1)
  have hk : y.key = x.key := congrArg GPr.key he
  have hg : y.g = x.g := congrArg GPr.val he
  have z := hz.each y hy
  have r := h.val y hy
  have r' := h'.val x hx
  have e1 : y.g.nums.length = y.n1 := by have := r.nums.len; simpa using this
  have e2 : y.g.texts.length = y.n2 := by have := r.texts.len; simpa using this
  have e1' : x.g.nums.length = x.n1 := by have := r'.nums.len; simpa using this
  have e2' : x.g.texts.length = x.n2 := by have := r'.texts.len; simpa using this
  rw [hg] at e1 e2
  exact ⟨by rw [← e1', e1]; exact z.s1, by rw [← e2', e2]; exact z.s2, by rw [← hg]; exact z.s3, by rw [← hg]; exact z.s4, by rw [← hk]; exact z.s5⟩
theorem sortB_perm {α κ : Type} {lt : κ → κ → Prop} [DecidableRel lt] [DecidableEq κ] (L : Lin lt) {key : α → κ} (l : List α) : (sortB lt key l).Perm l := (sortB_same L l).perm
/-- Canon of a graph of fair size is of fair size. -/
theorem gsized_canon {w w' : World} {F F' : Nat → Prop} {g g' : GR} (h : RdG w F g) (h' : RdG w' F' g') (hz : GSized g) (hd : g'.dat = canonD g.dat) : GSized g' := by
  have dn : g'.dat.nodes = (canonD g.dat).nodes := by rw [hd]
  have dr : g'.dat.rels = (canonD g.dat).rels := by rw [hd]
  have pn : (g'.ns.map ND.dat).Perm ((g.ns.map ND.dat).map canN) := by
    rw [show g'.ns.map ND.dat = (canonD g.dat).nodes from dn]
    exact sortB_perm lin_int _
  have pr : (g'.rs.map RL.dat).Perm ((g.rs.map RL.dat).map canR) := by
    rw [show g'.rs.map RL.dat = (canonD g.dat).rels from dr]
    exact sortB_perm lin_int _
  have hln : g'.ns.length = g.ns.length := by have := pn.length_eq; simpa using this
  have hlr : g'.rs.length = g.rs.length := by have := pr.length_eq; simpa using this
  refine ⟨by rw [← h'.nodes.len, hln, h.nodes.len]; exact hz.nN, by rw [← h'.rels.len, hlr, h.rels.len]; exact hz.nR, fun x hx => ?_, fun x hx => ?_⟩
  · have h1 : x.dat ∈ (g.ns.map ND.dat).map canN := pn.mem_iff.1 (List.mem_map_of_mem hx)
    obtain ⟨u, hu, he⟩ := List.mem_map.1 h1
    obtain ⟨y, hy, rfl⟩ := List.mem_map.1 hu
    have hl : (sortT y.labels) = x.labels := congrArg GNode.labels he
    have hp : sortB ltS GPr.key (y.props.map PR.dat) = x.props.map PR.dat := congrArg GNode.props he
    have pl : x.labels.Perm y.labels := by rw [← hl]; exact sortB_perm lin_str _
    have z := hz.ns y hy
    have e1 : y.labels.length = y.nL := by have := (h.nodes.lab y hy).len; simpa using this
    have e2 : x.labels.length = x.nL := by have := (h'.nodes.lab x hx).len; simpa using this
    rw [← pl.length_eq] at e1
    exact ⟨by rw [← e2, e1]; exact z.nL, fun s hs => z.lab s (pl.mem_iff.1 hs), psized_perm (h.nodes.pro y hy) (h'.nodes.pro x hx) z.pro (by rw [← hp]; exact sortB_perm lin_str _)⟩
  · have h1 : x.dat ∈ (g.rs.map RL.dat).map canR := pr.mem_iff.1 (List.mem_map_of_mem hx)
    obtain ⟨u, hu, he⟩ := List.mem_map.1 h1
    obtain ⟨y, hy, rfl⟩ := List.mem_map.1 hu
    have ht : y.type = x.type := congrArg GRel.type he
    have hp : sortB ltS GPr.key (y.props.map PR.dat) = x.props.map PR.dat := congrArg GRel.props he
    have z := hz.rs y hy
    exact ⟨by rw [← ht]; exact z.type, psized_perm (h.rels.pro y hy) (h'.rels.pro x hx) z.pro (by rw [← hp]; exact sortB_perm lin_str _)⟩
end Go.Proofs.YtlnademnfnhbpaaGreat
