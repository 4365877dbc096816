/- Plain laws: a right graph whose lists are changed about comes out in order as it was. No program here. -/
import Derived.Test.YtlnademnfnhbpaaGreatGChecks
import Derived.Test.YtlnademnfnhbpaaGreatCanG
namespace Go.Proofs.YtlnademnfnhbpaaGreat
theorem nodes_incS : ∀ (prev : Option Int) (i : Nat) (l : List GNode), nodesErr prev i l = none → (l.map GNode.id).Pairwise (fun a b => a < b) ∧ ∀ y ∈ l.map GNode.id, ∀ q, prev = some q → q < y
  | _, _, [], _ => ⟨by simp, by simp⟩
  | prev, i, x :: l, h => by
    simp only [nodesErr] at h
    by_cases hz : nodeErr prev x = 0
    · rw [if_neg (by rw [hz]; simp)] at h
      obtain ⟨h2, h3⟩ := nodes_incS (some x.id) (i + 1) l h
      unfold nodeErr at hz
      by_cases ha : x.id < 0 ∨ 1024 ≤ x.id
      · rw [if_pos ha] at hz; cases hz
      rw [if_neg ha] at hz
      by_cases hb : notAfterI x.id prev = true
      · rw [if_pos hb] at hz; cases hz
      have hpv : ∀ q, prev = some q → q < x.id := fun q hq => by
        subst hq
        simpa [notAfterI] using hb
      rw [List.map_cons]
      refine ⟨List.pairwise_cons.2 ⟨fun y hy => h3 y hy x.id rfl, h2⟩, fun y hy q hq => ?_⟩
      rcases List.mem_cons.1 hy with rfl | hy
      · exact hpv q hq
      · have h5 := h3 y hy x.id rfl
        have h6 := hpv q hq
        omega
    · rw [if_pos hz] at h; cases h
theorem nodesErr_neS : ∀ (prev : Option Int) (i : Nat) (l : List GNode) (x : Int × Nat), nodesErr prev i l = some x → x.1 ≠ 0
  | _, _, [], _, h => by cases h
  | prev, i, y :: l, x, h => by
    simp only [nodesErr] at h
    by_cases hz : nodeErr prev y = 0
    · rw [if_neg (by rw [hz]; simp)] at h
      exact nodesErr_neS _ _ l x h
    · rw [if_pos hz] at h
      injection h with h
      subst h
      exact hz
theorem relsErr_neS (th : Int → Bool) : ∀ (prev : Option Int) (i : Nat) (l : List GRel) (x : Int × Nat), relsErr th prev i l = some x → x.1 ≠ 0
  | _, _, [], _, h => by cases h
  | prev, i, y :: l, x, h => by
    simp only [relsErr] at h
    by_cases hz : relErr th prev y = 0
    · rw [if_neg (by rw [hz]; simp)] at h
      exact relsErr_neS th _ _ l x h
    · rw [if_pos hz] at h
      injection h with h
      subst h
      exact hz
theorem headErr_neS {g : GGraph} {x : Int × Nat} (h : headErr g = some x) : x.1 ≠ 0 := by
  unfold headErr at h
  cases hn : nodesErr none 0 g.nodes with
  | some y =>
    rw [hn] at h
    injection h with h
    subst h
    exact nodesErr_neS _ _ _ _ hn
  | none =>
    rw [hn] at h
    obtain ⟨y, hy, he⟩ := Option.map_eq_some_iff.1 h
    subst he
    have h9 := relsErr_neS _ _ _ _ y hy
    exact h9

theorem full_zeroS {g : GGraph} {tl : Int} {at_ : Nat} (h : fullErr g tl = (0, at_)) : headErr g = none := by
  unfold fullErr at h
  cases hh : headErr g with
  | none => rfl
  | some x =>
    rw [hh] at h
    have h1 := headErr_neS hh
    simp only at h
    rw [h] at h1
    exact absurd rfl h1

section
variable {α κ : Type} {lt : κ → κ → Prop} {key : α → κ}
theorem swap_perm {l : List α} {i j : Nat} {x y : α} (hi : l[i]? = some x) (hj : l[j]? = some y) : ((l.set i y).set j x).Perm l := by
  obtain ⟨h1, rfl⟩ := List.getElem?_eq_some_iff.1 hi
  obtain ⟨h2, rfl⟩ := List.getElem?_eq_some_iff.1 hj
  exact List.set_set_perm h1 h2
theorem SameO.of_nodup [DecidableEq κ] {l m : List α} (h : l.Perm m) (hn : (m.map key).Nodup) : SameO key l m := fun k => by
  have hp := h.filter fun x => decide (key x = k)
  have hl : (m.filter fun x => decide (key x = k)).length ≤ 1 := by
    clear hp h
    induction m with
    | nil => simp
    | cons x m ih =>
      obtain ⟨h1, h2⟩ := List.nodup_cons.1 hn
      by_cases hk : key x = k
      · have h3 : (m.filter fun x => decide (key x = k)) = [] := List.filter_eq_nil_iff.2 fun y hy => by
          simp only [decide_eq_true_eq]
          exact fun e => h1 (List.mem_map.2 ⟨y, hy, e.trans hk.symm⟩)
        rw [List.filter_cons_of_pos (by simpa using hk), h3]
        simp
      · rw [List.filter_cons_of_neg (by simpa using hk)]
        exact ih h2
  match hm : (m.filter fun x => decide (key x = k)), hl with
  | [], _ => rw [hm] at hp; exact hp.eq_nil
  | [x], _ => rw [hm] at hp; exact List.perm_singleton.1 hp
  | _ :: _ :: _, h => simp at h
theorem SortO.of_lt (L : Lin lt) {l : List α} (h : (l.map key).Pairwise lt) : SortO lt key l ∧ (l.map key).Nodup := by
  constructor
  · rw [List.pairwise_map] at h
    exact h.imp fun h => L.asym h
  · exact h.imp fun {a b} h e => by subst e; exact L.irr _ h
theorem sort_perm [DecidableRel lt] [DecidableEq κ] (L : Lin lt) {l m : List α} (h : l.Perm m) (hn : (m.map key).Nodup) : sortB lt key l = sortB lt key m := sortB_congr L (SameO.of_nodup h hn)
end

theorem leB_false {p q : ByteArray} (h : leB p q = false) : ltS q p := Classical.byContradiction fun hn => by
  have h1 := (leq_iff p q).2 hn
  unfold leB at h
  rw [h] at h1
  cases h1
theorem labs_lt : ∀ (prev : Option ByteArray) (l : List ByteArray), labErrs prev l = 0 → l.Pairwise ltS ∧ ∀ y ∈ l, ∀ q, prev = some q → ltS q y
  | _, [], _ => ⟨List.Pairwise.nil, by simp⟩
  | prev, p :: l, h => by
    unfold labErrs at h
    by_cases h1 : goodN p = false
    · rw [if_pos h1] at h; cases h
    rw [if_neg h1] at h
    by_cases h2 : notAfter p prev = true
    · rw [if_pos h2] at h; cases h
    rw [if_neg h2] at h
    obtain ⟨h3, h4⟩ := labs_lt (some p) l h
    have hp : ∀ q, prev = some q → ltS q p := fun q hq => by
      subst hq
      have h5 : leB p q = false := by simpa [notAfter] using h2
      exact leB_false h5
    refine ⟨List.pairwise_cons.2 ⟨fun y hy => h4 y hy p rfl, h3⟩, fun y hy q hq => ?_⟩
    rcases List.mem_cons.1 hy with rfl | hy
    · exact hp q hq
    · exact lin_str.tr (hp q hq) (h4 y hy p rfl)
theorem props_lt : ∀ (prev : Option ByteArray) (l : List GPr), propErrs prev l = 0 → (l.map GPr.key).Pairwise ltS ∧ ∀ y ∈ l.map GPr.key, ∀ q, prev = some q → ltS q y
  | _, [], _ => ⟨List.Pairwise.nil, by simp⟩
  | prev, p :: l, h => by
    unfold propErrs at h
    by_cases h1 : goodN p.key = false
    · rw [if_pos h1] at h; cases h
    rw [if_neg h1] at h
    by_cases h2 : notAfter p.key prev = true
    · rw [if_pos h2] at h; cases h
    rw [if_neg h2] at h
    by_cases h0 : chk p.val ≠ 0
    · rw [if_pos h0] at h; exact absurd h h0
    rw [if_neg h0] at h
    obtain ⟨h3, h4⟩ := props_lt (some p.key) l h
    have hp : ∀ q, prev = some q → ltS q p.key := fun q hq => by
      subst hq
      have h5 : leB p.key q = false := by simpa [notAfter] using h2
      exact leB_false h5
    rw [List.map_cons]
    refine ⟨List.pairwise_cons.2 ⟨fun y hy => h4 y hy p.key rfl, h3⟩, fun y hy q hq => ?_⟩
    rcases List.mem_cons.1 hy with rfl | hy
    · exact hp q hq
    · exact lin_str.tr (hp q hq) (h4 y hy p.key rfl)
theorem propsErr_lt {l : List GPr} (h : propsErr l = 0) : (l.map GPr.key).Pairwise ltS := by
  unfold propsErr at h
  by_cases h1 : 16 < l.length
  · rw [if_pos h1] at h; cases h
  · rw [if_neg h1] at h; exact (props_lt _ _ h).1
theorem labelsErr_lt {l : List ByteArray} (h : labelsErr l = 0) : l.Pairwise ltS := by
  unfold labelsErr at h
  by_cases h1 : 8 < l.length
  · rw [if_pos h1] at h; cases h
  · rw [if_neg h1] at h; exact (labs_lt _ _ h).1
theorem nodeErr_zero {prev : Option Int} {x : GNode} (h : nodeErr prev x = 0) : notAfterI x.id prev = false ∧ labelsErr x.labels = 0 ∧ propsErr x.props = 0 := by
  unfold nodeErr at h
  by_cases ha : x.id < 0 ∨ 1024 ≤ x.id
  · rw [if_pos ha] at h; cases h
  rw [if_neg ha] at h
  by_cases hb : notAfterI x.id prev = true
  · rw [if_pos hb] at h; cases h
  rw [if_neg hb] at h
  by_cases hc : labelsErr x.labels ≠ 0
  · rw [if_pos hc] at h; exact absurd h hc
  rw [if_neg hc] at h
  exact ⟨by simpa using hb, by simpa using hc, h⟩
theorem relErr_zero {th : Int → Bool} {prev : Option Int} {x : GRel} (h : relErr th prev x = 0) : notAfterI x.id prev = false ∧ propsErr x.props = 0 := by
  unfold relErr at h
  by_cases ha : x.id < 0 ∨ 2048 ≤ x.id
  · rw [if_pos ha] at h; cases h
  rw [if_neg ha] at h
  by_cases hb : notAfterI x.id prev = true
  · rw [if_pos hb] at h; cases h
  rw [if_neg hb] at h
  by_cases hc : goodN x.type = false
  · rw [if_pos hc] at h; cases h
  rw [if_neg hc] at h
  by_cases hd : th x.src = false ∨ th x.dst = false
  · rw [if_pos hd] at h; cases h
  rw [if_neg hd] at h
  exact ⟨by simpa using hb, h⟩
theorem nodes_fine : ∀ (prev : Option Int) (i : Nat) (l : List GNode), nodesErr prev i l = none → ∀ x ∈ l, labelsErr x.labels = 0 ∧ propsErr x.props = 0
  | _, _, [], _ => by simp
  | prev, i, y :: l, h => by
    simp only [nodesErr] at h
    by_cases hz : nodeErr prev y = 0
    · rw [if_neg (by rw [hz]; simp)] at h
      intro x hx
      rcases List.mem_cons.1 hx with rfl | hx
      · exact (nodeErr_zero hz).2
      · exact nodes_fine _ _ l h x hx
    · rw [if_pos hz] at h; cases h
theorem rels_fine (th : Int → Bool) : ∀ (prev : Option Int) (i : Nat) (l : List GRel), relsErr th prev i l = none → ((l.map GRel.id).Pairwise (fun a b => a < b) ∧ ∀ y ∈ l.map GRel.id, ∀ q, prev = some q → q < y) ∧ ∀ x ∈ l, propsErr x.props = 0
  | _, _, [], _ => ⟨⟨List.Pairwise.nil, by simp⟩, by simp⟩
  | prev, i, y :: l, h => by
    simp only [relsErr] at h
    by_cases hz : relErr th prev y = 0
    · rw [if_neg (by rw [hz]; simp)] at h
      obtain ⟨h1, h2⟩ := relErr_zero hz
      obtain ⟨⟨h3, h4⟩, h5⟩ := rels_fine th _ _ l h
      have hp : ∀ q, prev = some q → q < y.id := fun q hq => by
        subst hq
        simpa [notAfterI] using h1
      rw [List.map_cons]
      refine ⟨⟨List.pairwise_cons.2 ⟨fun z hz => h4 z hz y.id rfl, h3⟩, fun z hz q hq => ?_⟩, fun x hx => ?_⟩
      · rcases List.mem_cons.1 hz with rfl | hz
        · exact hp q hq
        · have h6 := h4 z hz y.id rfl
          have h7 := hp q hq
          omega
      · rcases List.mem_cons.1 hx with rfl | hx
        · exact h2
        · exact h5 x hx
    · rw [if_pos hz] at h; cases h

/-- c is g with its lists changed about. -/
structure Mixed (g c : GGraph) : Prop where
  can : canonD c = canonD g
  ids : (c.nodes.map GNode.id).Nodup
  rids : (c.rels.map GRel.id).Nodup
  keys : ∀ x ∈ c.nodes, (x.props.map GPr.key).Nodup
theorem right_canon {g : GGraph} (h : headErr g = none) : canonD g = g ∧ Mixed g g := by
  obtain ⟨h1, h2⟩ := head_split h
  have hn := (nodes_incS _ _ _ h1).1
  have hf := nodes_fine _ _ _ h1
  obtain ⟨⟨hr, _⟩, hrf⟩ := rels_fine _ _ _ _ h2
  have en : g.nodes.map canN = g.nodes := by
    conv => rhs; rw [← List.map_id g.nodes]
    refine List.map_congr_left fun x hx => ?_
    obtain ⟨a, b⟩ := hf x hx
    have e1 : sortT x.labels = x.labels := sortB_id lin_str (SortO.of_lt (key := fun y : ByteArray => y) lin_str (by simpa using labelsErr_lt a)).1
    have e2 : sortB ltS GPr.key x.props = x.props := sortB_id lin_str (SortO.of_lt lin_str (propsErr_lt b)).1
    simp only [canN, e1, e2, id]
  have er : g.rels.map canR = g.rels := by
    conv => rhs; rw [← List.map_id g.rels]
    refine List.map_congr_left fun x hx => ?_
    have e2 : sortB ltS GPr.key x.props = x.props := sortB_id lin_str (SortO.of_lt lin_str (propsErr_lt (hrf x hx))).1
    simp only [canR, e2, id]
  have e : canonD g = g := by
    unfold canonD
    rw [en, er, sortB_id lin_int (SortO.of_lt (key := GNode.id) lin_int hn).1, sortB_id lin_int (SortO.of_lt (key := GRel.id) lin_int hr).1]
  exact ⟨e, rfl, (SortO.of_lt (key := GNode.id) lin_int hn).2, (SortO.of_lt (key := GRel.id) lin_int hr).2, fun x hx => (SortO.of_lt lin_str (propsErr_lt (hf x hx).2)).2⟩
/-- Nodes change places. -/
theorem Mixed.nodes {g c : GGraph} {l : List GNode} (h : Mixed g c) (hp : l.Perm c.nodes) : Mixed g ⟨l, c.rels⟩ := by
  refine ⟨?_, (hp.map _).nodup_iff.2 h.ids, h.rids, fun x hx => h.keys x (hp.mem_iff.1 hx)⟩
  rw [← h.can]
  unfold canonD
  simp only
  congr 1
  refine sort_perm lin_int (hp.map _) ?_
  rw [List.map_map]
  exact h.ids
/-- Relationships change places. -/
theorem Mixed.rels {g c : GGraph} {l : List GRel} (h : Mixed g c) (hp : l.Perm c.rels) : Mixed g ⟨c.nodes, l⟩ := by
  refine ⟨?_, h.ids, (hp.map _).nodup_iff.2 h.rids, h.keys⟩
  rw [← h.can]
  unfold canonD
  simp only
  congr 1
  refine sort_perm lin_int (hp.map _) ?_
  rw [List.map_map]
  exact h.rids
/-- One node's lists are changed about. -/
theorem Mixed.one {g : GGraph} {P Q : List GNode} {rs : List GRel} {x y : GNode} (h : Mixed g ⟨P ++ x :: Q, rs⟩) (hi : y.id = x.id) (hl : y.labels.Perm x.labels) (hp : y.props.Perm x.props) : Mixed g ⟨P ++ y :: Q, rs⟩ := by
  have hk := h.keys x (by simp)
  have e : canN y = canN x := by
    unfold canN
    rw [hi, sort_perm lin_str hp hk, show sortT y.labels = sortT x.labels from sortB_congr lin_str (SameO.of_perm hl)]
  refine ⟨?_, ?_, h.rids, fun z hz => ?_⟩
  · rw [← h.can]
    unfold canonD
    simp only [List.map_append, List.map_cons, e]
  · have := h.ids
    simp only [List.map_append, List.map_cons] at this ⊢
    rw [hi]
    exact this
  · rcases List.mem_append.1 hz with hz | hz
    · exact h.keys z (by simp [hz])
    · rcases List.mem_cons.1 hz with rfl | hz
      · exact (hp.map _).nodup_iff.2 hk
      · exact h.keys z (by simp [hz])
end Go.Proofs.YtlnademnfnhbpaaGreat
