/- GraphChecks: for every input it returns true, and the input reads as it did. -/
import Derived.Test.YtlnademnfnhbpaaGreatMergeS
import Derived.Test.YtlnademnfnhbpaaGreatGchk
import Derived.Test.YtlnademnfnhbpaaGreatRWrong
import Derived.Test.YtlnademnfnhbpaaGreatNm1
import Derived.Test.YtlnademnfnhbpaaGreatOpenG
import Derived.Test.YtlnademnfnhbpaaGreatGspk2
import Derived.Test.YtlnademnfnhbpaaGreatCopyG
import Derived.Test.YtlnademnfnhbpaaGreatRSameG
import Derived.Test.YtlnademnfnhbpaaGreatRChkG
namespace Go.Proofs.YtlnademnfnhbpaaGreat

theorem srt_insert (x : ByteArray) : ∀ m : List ByteArray, m.Pairwise ltS → ∃ m' : List ByteArray, m'.Pairwise ltS ∧ ∀ y, y ∈ m' ↔ y = x ∨ y ∈ m
  | [], _ => ⟨[x], by simp, by simp⟩
  | a :: m, h => by
    obtain ⟨h1, h2⟩ := List.pairwise_cons.1 h
    rcases lin_str.tot x a with hh | hh | hh
    · exact ⟨x :: a :: m, List.pairwise_cons.2 ⟨fun y hy => by
        rcases List.mem_cons.1 hy with rfl | hy
        · exact hh
        · exact lin_str.tr hh (h1 y hy), h⟩, fun y => by simp⟩
    · subst hh
      exact ⟨x :: m, h, fun y => by simp⟩
    · obtain ⟨m', h3, h4⟩ := srt_insert x m h2
      refine ⟨a :: m', List.pairwise_cons.2 ⟨fun y hy => ?_, h3⟩, fun y => ?_⟩
      · rcases (h4 y).1 hy with rfl | hy
        · exact hh
        · exact h1 y hy
      · rw [List.mem_cons, h4, List.mem_cons]
        constructor
        · rintro (h | h | h)
          · exact .inr (.inl h)
          · exact .inl h
          · exact .inr (.inr h)
        · rintro (h | h | h)
          · exact .inr (.inl h)
          · exact .inl h
          · exact .inr (.inr h)
theorem srt_exists : ∀ l : List ByteArray, ∃ m, Srt l m
  | [] => ⟨[], List.Pairwise.nil, fun _ => Iff.rfl⟩
  | x :: l => by
    obtain ⟨m, h1, h2⟩ := srt_exists l
    obtain ⟨m', h3, h4⟩ := srt_insert x m h1
    exact ⟨m', h3, fun y => by rw [h4, h2, List.mem_cons]⟩
theorem srt_all (f : Int → List ByteArray) : ∃ m : Int → List ByteArray, ∀ k, Srt (f k) (m k) := Classical.axiomOfChoice fun k => srt_exists (f k)
end Go.Proofs.YtlnademnfnhbpaaGreat
namespace Go.Proofs.YtlnademnfnhbpaaGreat

theorem enc_le (g : GVal) : (enc g).length ≤ 65536 := by
  unfold enc
  split
  · rename_i h
    obtain ⟨_, _, _, h4, h5, h6, h7⟩ := chk_zero h
    rw [List.length_append, beb_len]
    unfold encBody
    split
    · have := encNum_len g.kind g.num
      omega
    · split
      · rw [encText_len]
        omega
      · rw [List.length_append, List.length_append, beb_len]
        have h1 := flat_nums_len (g.kind - 4) g.nums
        have h2 := flat_texts_len g.texts h7
        omega
  · simp
theorem wsum_bound (ps : List PR) : wsum ps ≤ 65536 * ps.length := by
  induction ps with
  | nil => simp [wsum]
  | cons x l ih =>
    have h := enc_le x.g
    have e : wsum (x :: l) = (enc x.g).length + wsum l := by simp [wsum]
    rw [e, List.length_cons]
    omega

def nextI : Option Int → Int
  | none => 0
  | some q => q + 1
/-- Ids that rise and stay below n are at most n. -/
theorem nodes_right : ∀ (prev : Option Int) (i : Nat) (l : List GNode), nodesErr prev i l = none → (l ≠ [] → (l.length : Int) ≤ 1024 - nextI prev) ∧ ∀ x ∈ l, (0 ≤ x.id ∧ x.id < 1024) ∧ x.labels.length ≤ 8 ∧ x.props.length ≤ 16
  | _, _, [], _ => ⟨by simp, by simp⟩
  | prev, i, x :: l, h => by
    simp only [nodesErr] at h
    by_cases hz : nodeErr prev x = 0
    · rw [if_neg (by rw [hz]; simp)] at h
      obtain ⟨h2, h3⟩ := nodes_right (some x.id) (i + 1) l h
      unfold nodeErr at hz
      by_cases ha : x.id < 0 ∨ 1024 ≤ x.id
      · rw [if_pos ha] at hz; cases hz
      rw [if_neg ha] at hz
      by_cases hb : notAfterI x.id prev = true
      · rw [if_pos hb] at hz; cases hz
      rw [if_neg hb] at hz
      by_cases hc : labelsErr x.labels ≠ 0
      · rw [if_pos hc] at hz; exact absurd hz hc
      rw [if_neg hc] at hz
      have hl : x.labels.length ≤ 8 := by
        by_cases h9 : 8 < x.labels.length
        · exact absurd (by unfold labelsErr; rw [if_pos h9]; decide) hc
        · omega
      have hp : x.props.length ≤ 16 := by
        by_cases h9 : 16 < x.props.length
        · unfold propsErr at hz; rw [if_pos h9] at hz; cases hz
        · omega
      refine ⟨fun _ => ?_, fun y hy => ?_⟩
      · rw [List.length_cons]
        have hpv : nextI prev ≤ x.id := by
          cases prev with
          | none => simp only [nextI]; omega
          | some q => simp [notAfterI] at hb; simp only [nextI]; omega
        by_cases hnil : l = []
        · subst hnil
          simp only [List.length_nil]
          omega
        · have h4 := h2 hnil
          simp only [nextI] at h4
          omega
      · rcases List.mem_cons.1 hy with rfl | hy
        · exact ⟨by omega, hl, hp⟩
        · exact h3 y hy
    · rw [if_pos hz] at h; cases h

theorem rels_right (th : Int → Bool) : ∀ (prev : Option Int) (i : Nat) (l : List GRel), relsErr th prev i l = none → (l ≠ [] → (l.length : Int) ≤ 2048 - nextI prev) ∧ ∀ x ∈ l, th x.src = true ∧ th x.dst = true ∧ x.props.length ≤ 16
  | _, _, [], _ => ⟨by simp, by simp⟩
  | prev, i, x :: l, h => by
    simp only [relsErr] at h
    by_cases hz : relErr th prev x = 0
    · rw [if_neg (by rw [hz]; simp)] at h
      obtain ⟨h2, h3⟩ := rels_right th (some x.id) (i + 1) l h
      unfold relErr at hz
      by_cases ha : x.id < 0 ∨ 2048 ≤ x.id
      · rw [if_pos ha] at hz; cases hz
      rw [if_neg ha] at hz
      by_cases hb : notAfterI x.id prev = true
      · rw [if_pos hb] at hz; cases hz
      rw [if_neg hb] at hz
      by_cases hg : goodN x.type = false
      · rw [if_pos hg] at hz; cases hz
      rw [if_neg hg] at hz
      by_cases ht : th x.src = false ∨ th x.dst = false
      · rw [if_pos ht] at hz; cases hz
      rw [if_neg ht] at hz
      have hp : x.props.length ≤ 16 := by
        by_cases h9 : 16 < x.props.length
        · unfold propsErr at hz; rw [if_pos h9] at hz; cases hz
        · omega
      refine ⟨fun _ => ?_, fun y hy => ?_⟩
      · rw [List.length_cons]
        have hpv : nextI prev ≤ x.id := by
          cases prev with
          | none => simp only [nextI]; omega
          | some q => simp [notAfterI] at hb; simp only [nextI]; omega
        by_cases hnil : l = []
        · subst hnil
          simp only [List.length_nil]
          omega
        · have h4 := h2 hnil
          simp only [nextI] at h4
          omega
      · rcases List.mem_cons.1 hy with rfl | hy
        · refine ⟨?_, ?_, hp⟩
          · cases e : th y.src with
            | true => rfl
            | false => exact absurd (.inl e) ht
          · cases e : th y.dst with
            | true => rfl
            | false => exact absurd (.inr e) ht
        · exact h3 y hy
    · rw [if_pos hz] at h; cases h
end Go.Proofs.YtlnademnfnhbpaaGreat
namespace Go.Proofs.YtlnademnfnhbpaaGreat

theorem flat_const {α β : Type} (f : α → List β) (c : Nat) (l : List α) (h : ∀ x ∈ l, (f x).length ≤ c) : (l.flatMap f).length ≤ c * l.length := by
  induction l with
  | nil => simp
  | cons x l ih =>
    have h1 := h x (by simp)
    have h2 := ih fun y hy => h y (by simp [hy])
    rw [List.flatMap_cons, List.length_append, List.length_cons, Nat.mul_succ]
    omega
theorem head_split {g : GGraph} (h : headErr g = none) : nodesErr none 0 g.nodes = none ∧ relsErr (thereP g) none 0 g.rels = none := by
  unfold headErr at h
  cases hn : nodesErr none 0 g.nodes with
  | some e => rw [hn] at h; cases h
  | none =>
    rw [hn] at h
    exact ⟨rfl, Option.map_eq_none_iff.1 h⟩
theorem head_len {g : GGraph} (h : headErr g = none) : g.nodes.length ≤ 1024 ∧ g.rels.length ≤ 2048 := by
  obtain ⟨h1, h2⟩ := head_split h
  obtain ⟨h3, _⟩ := nodes_right _ _ _ h1
  obtain ⟨h4, _⟩ := rels_right _ _ _ _ h2
  constructor
  · by_cases hn : g.nodes = []
    · rw [hn]; simp
    · have h9 := h3 hn
      simp only [nextI] at h9
      omega
  · by_cases hn : g.rels = []
    · rw [hn]; simp
    · have h9 := h4 hn
      simp only [nextI] at h9
      omega
theorem head_names {g : GGraph} (h : headErr g = none) (k : Int) : (allNames g k).length ≤ 8796093022208 := by
  obtain ⟨h1, h2⟩ := head_split h
  obtain ⟨hl1, hl2⟩ := head_len h
  obtain ⟨_, h3⟩ := nodes_right _ _ _ h1
  obtain ⟨_, h4⟩ := rels_right _ _ _ _ h2
  unfold allNames
  split
  · have := flat_const GNode.labels 8 g.nodes fun x hx => (h3 x hx).2.1
    omega
  · split
    · rw [List.length_map]
      omega
    · split
      · rw [List.length_append]
        have e1 := flat_const (fun n : GNode => n.props.map GPr.key) 16 g.nodes fun x hx => by rw [List.length_map]; exact (h3 x hx).2.2
        have e2 := flat_const (fun r : GRel => r.props.map GPr.key) 16 g.rels fun x hx => by rw [List.length_map]; exact (h4 x hx).2.2
        omega
      · simp
theorem head_weight {g : GR} (h : headErr g.dat = none) : wsum (g.ns.flatMap ND.props) + wsum (g.rs.flatMap RL.props) ≤ 4611686018427387904 := by
  obtain ⟨h1, h2⟩ := head_split h
  obtain ⟨hl1, hl2⟩ := head_len h
  obtain ⟨_, h3⟩ := nodes_right _ _ _ h1
  obtain ⟨_, h4⟩ := rels_right _ _ _ _ h2
  simp only [GR.dat, List.length_map] at hl1 hl2 h3 h4
  have e1 := flat_const ND.props 16 g.ns fun x hx => by
    have h9 := (h3 x.dat (List.mem_map_of_mem hx)).2.2
    simpa [ND.dat] using h9
  have e2 := flat_const RL.props 16 g.rs fun x hx => by
    have h9 := (h4 x.dat (List.mem_map_of_mem hx)).2.2
    simpa [RL.dat] using h9
  have w1 := wsum_bound (g.ns.flatMap ND.props)
  have w2 := wsum_bound (g.rs.flatMap RL.props)
  omega
end Go.Proofs.YtlnademnfnhbpaaGreat
namespace Go.Proofs.YtlnademnfnhbpaaGreat
open Go.RowKit

theorem psfit_dat {ps ps' : List PR} (h : PsFit ps) (hd : ps'.map PR.dat = ps.map PR.dat) : PsFit ps' := fun x hx => by
  have h1 : x.dat ∈ ps'.map PR.dat := List.mem_map_of_mem hx
  rw [hd] at h1
  obtain ⟨y, hy, he⟩ := List.mem_map.1 h1
  have h2 : y.g = x.g := congrArg GPr.val he
  rw [← h2]
  exact h y hy
theorem gfit_dat {g g' : GR} (h : GFit g) (hd : g'.dat = g.dat) (hn : g'.nN = g.nN) (hr : g'.nR = g.nR) : GFit g' := by
  refine ⟨fun x hx => ?_, fun x hx => ?_, by rw [hn]; exact h.nN, by rw [hr]; exact h.nR⟩
  · have h1 : x.dat ∈ g'.dat.nodes := List.mem_map_of_mem hx
    rw [hd] at h1
    obtain ⟨y, hy, he⟩ := List.mem_map.1 h1
    exact psfit_dat (h.nodes y hy) (congrArg GNode.props he).symm
  · have h1 : x.dat ∈ g'.dat.rels := List.mem_map_of_mem hx
    rw [hd] at h1
    obtain ⟨y, hy, he⟩ := List.mem_map.1 h1
    exact psfit_dat (h.rels y hy) (congrArg GRel.props he).symm
theorem wsum_map {ps ps' : List PR} (h : ps.map PR.dat = ps'.map PR.dat) : wsum ps = wsum ps' := by
  have e : ∀ l : List PR, wsum l = ((l.map PR.dat).map fun p => (enc p.val).length).sum := fun l => by rw [List.map_map]; rfl
  rw [e, e, h]

/-- graph.Check, whole. -/
theorem gcheck_full {F : Nat → Prop} (w : World) (g : GR) (h : RdG w F g) (hf : GFit g) (ht : GTexts g) {m : Int → List ByteArray} (hm : ∀ k, Srt (allNames g.dat k) (m k)) {tl : Int} (htl : tailErr (m 1).length (m 2).length (m 3).length (wsum (g.ns.flatMap ND.props) + wsum (g.rs.flatMap RL.props)) = tl)
    {e : Int} {at_ : Nat} (hE : fullErr g.dat tl = (e, at_)) : Calls Tryz.prog 17 #[g.agg] w fun x w' => x = .returned (.tuple #[.int .i64 e, .int .i64 at_]) ∧ Same w w' := by
  cases hh : headErr g.dat with
  | some x =>
    unfold fullErr at hE
    rw [hh] at hE
    exact gcheck_head w g h hf (by rw [hh]; exact congrArg some hE)
  | none =>
    unfold fullErr at hE
    rw [hh] at hE
    injection hE with h1 h2
    subst h1 h2
    exact gcheck_ok w g h hf ht hh (head_names hh) hm (head_weight hh) htl

theorem wsum_dat {g g' : GR} (hd : g'.dat = g.dat) : wsum (g'.ns.flatMap ND.props) + wsum (g'.rs.flatMap RL.props) = wsum (g.ns.flatMap ND.props) + wsum (g.rs.flatMap RL.props) := by
  have e1 : ∀ g : GR, (g.ns.flatMap ND.props).map PR.dat = g.dat.nodes.flatMap GNode.props := fun g => by
    simp only [GR.dat, List.map_flatMap, List.flatMap_map]
    rfl
  have e2 : ∀ g : GR, (g.rs.flatMap RL.props).map PR.dat = g.dat.rels.flatMap GRel.props := fun g => by
    simp only [GR.dat, List.map_flatMap, List.flatMap_map]
    rfl
  rw [wsum_map (show (g'.ns.flatMap ND.props).map PR.dat = (g.ns.flatMap ND.props).map PR.dat by rw [e1, e1, hd]), wsum_map (show (g'.rs.flatMap RL.props).map PR.dat = (g.rs.flatMap RL.props).map PR.dat by rw [e2, e2, hd])]

set_option maxHeartbeats 8000000 in
set_option maxRecDepth 100000 in
theorem gchecks_walk {F : Nat → Prop} (w : World) {g : GR} (h : RdG w F g) (hz : GSized g) :
    Calls Tryz.prog 5 #[g.agg] w fun e w' => e = .returned (.bool true) ∧ Same w w' := by
  obtain ⟨m, hm⟩ := srt_all (allNames g.dat)
  obtain ⟨tl, htl⟩ : ∃ tl, tailErr (m 1).length (m 2).length (m 3).length (wsum (g.ns.flatMap ND.props) + wsum (g.rs.flatMap RL.props)) = tl := ⟨_, rfl⟩
  obtain ⟨⟨e, at_⟩, hE⟩ : ∃ x, fullErr g.dat tl = x := ⟨_, rfl⟩
  have hs2 := (Upd.refl (fun _ => False) w).alloc (.cells #[.slice g.AN g.nN g.cN, .slice g.AR g.nR g.cR] 27)
  have hb1 := Blk.new w 27 #[.slice g.AN g.nN g.cN, .slice g.AR g.nR g.cR]
  have H1 := Lib.hid h
  have Z1 := Lib.hid hz
  have HM := Lib.hid hm
  have HTl := Lib.hid htl
  have HE := Lib.hid hE
  clear h hz hm htl hE
  obtain ⟨ns, AN, nN, cN, rs, AR, nR, cR⟩ := g
  simp only at hs2 hb1
  go_enter Tryz.func5, Tryz.ntmps5
  go_wp2_with fail
  refine (gspeaks_true _).mono ?_
  rintro x w3 ⟨rfl, hs3⟩
  have S3 := Lib.hid (hs2.same hs3)
  have B1 := Lib.hid (hb1.same hs3)
  have R1 := Lib.hid (H1.out.same S3.out)
  have p20 : w3.cell? ⟨w.heap.size, 0, none⟩ = some (.slice AN nN cN) := B1.out.cell 0
  have p21 : w3.cell? ⟨w.heap.size, 1, none⟩ = some (.slice AR nR cR) := B1.out.cell 1
  clear hs2 hs3 hb1 H1
  go_wp2_with fail
  refine (copyG_on w3 _ ⟨ns, AN, nN, cN, rs, AR, nR, cR⟩ (Upd.refl _ _) R1.out Z1.out).mono ?_
  rintro x w4 ⟨⟨nsA, A1, n1, c1, rsA, A2, n2, c2⟩, rfl, DA, RA, hs4, _⟩
  have hs5 := (Upd.refl (fun _ => False) w4).alloc (.cells #[.slice A1 n1 c1, .slice A2 n2 c2] 27)
  have S5 := Lib.hid (hs4.same hs5)
  have B5 := Lib.hid (B1.out.same S5.out)
  have C5 := Lib.hid (Blk.new w4 27 #[.slice A1 n1 c1, .slice A2 n2 c2])
  have R5 := Lib.hid (R1.out.same S5.out)
  have RA5 := Lib.hid (RA.out.same hs5)
  have hl1 : n1 = nN := by
    have e1 := congrArg (fun x : GGraph => x.nodes.length) DA.out
    simp only [GR.dat, List.length_map] at e1
    have e2 : nsA.length = n1 := RA.out.nodes.len
    have e3 : ns.length = nN := R1.out.nodes.len
    omega
  have hl2 : n2 = nR := by
    have e1 := congrArg (fun x : GGraph => x.rels.length) DA.out
    simp only [GR.dat, List.length_map] at e1
    have e2 : rsA.length = n2 := RA.out.rels.len
    have e3 : rs.length = nR := R1.out.rels.len
    omega
  have GF := Lib.hid (gfit_dat (g' := ⟨nsA, A1, n1, c1, rsA, A2, n2, c2⟩) Z1.out.fit DA.out hl1 hl2)
  have GT := Lib.hid (gtexts_dat Z1.out.texts DA.out)
  have HMA := Lib.hid (show ∀ k, Srt (allNames (GR.dat ⟨nsA, A1, n1, c1, rsA, A2, n2, c2⟩) k) (m k) from fun k => by rw [DA.out]; exact HM.out k)
  have HTlA := Lib.hid (show tailErr (m 1).length (m 2).length (m 3).length (wsum (nsA.flatMap ND.props) + wsum (rsA.flatMap RL.props)) = tl from by
    have e9 := wsum_dat DA.out
    simp only at e9
    rw [e9]
    exact HTl.out)
  have HEA := Lib.hid (show fullErr (GR.dat ⟨nsA, A1, n1, c1, rsA, A2, n2, c2⟩) tl = (e, at_) by rw [DA.out]; exact HE.out)
  clear p20 p21 hs4 hs5 hl1 hl2
  go_upto_region 4 with fail
  generalize w4.alloc (.cells #[.slice A1 n1 c1, .slice A2 n2 c2] 27) = w5 at *
  generalize w4.heap.size = g5 at *
  have p22 : w5.cell? ⟨g5, 0, none⟩ = some (.slice A1 n1 c1) := C5.out.cell 0
  have p23 : w5.cell? ⟨g5, 1, none⟩ = some (.slice A2 n2 c2) := C5.out.cell 1
  go_wp2_with (first
    | (go_at_call 17; refine (gcheck_full w5 ⟨nsA, A1, n1, c1, rsA, A2, n2, c2⟩ RA5.out GF.out GT.out HMA.out HTlA.out HEA.out).mono ?_; rintro x w6 ⟨rfl, hs6⟩; have S6 := Lib.hid (S5.out.same hs6); have B6 := Lib.hid (B5.out.same hs6); have C6 := Lib.hid (C5.out.same hs6); have R6 := Lib.hid (R5.out.same hs6); have RA6 := Lib.hid (RA5.out.same hs6); have p20 : w6.cell? ⟨w.heap.size, 0, none⟩ = some (.slice AN nN cN) := B6.out.cell 0; have p21 : w6.cell? ⟨w.heap.size, 1, none⟩ = some (.slice AR nR cR) := B6.out.cell 1; clear hs6)
    | (go_at_call 18; refine (rcheckG_spec w6 ⟨ns, AN, nN, cN, rs, AR, nR, cR⟩ R6.out Z1.out.fit HM.out (fun hh => head_names hh) (fun hh => head_weight hh) HTl.out HE.out).mono ?_; rintro x w7 ⟨rfl, hs7⟩; have S7 := Lib.hid (S6.out.same hs7); have R7 := Lib.hid (R6.out.same hs7); have RA7 := Lib.hid (RA6.out.same hs7); have q0 : w7.cell? ⟨w.heap.size, 0, none⟩ = some (.slice AN nN cN) := (B6.out.same hs7).cell 0; have q1 : w7.cell? ⟨w.heap.size, 1, none⟩ = some (.slice AR nR cR) := (B6.out.same hs7).cell 1; have q2 : w7.cell? ⟨g5, 0, none⟩ = some (.slice A1 n1 c1) := (C6.out.same hs7).cell 0; have q3 : w7.cell? ⟨g5, 1, none⟩ = some (.slice A2 n2 c2) := (C6.out.same hs7).cell 1; clear hs7)
    | (go_at_call 19; refine (rsameG_spec w7 ⟨nsA, A1, n1, c1, rsA, A2, n2, c2⟩ ⟨ns, AN, nN, cN, rs, AR, nR, cR⟩ RA7.out R7.out (r := true) (by rw [DA.out]; exact (sameG_iff _ _).2 rfl)).mono ?_; rintro x w8 ⟨rfl, hs8⟩; have S8 := Lib.hid (S7.out.same hs8); clear hs8))
  go_ret
  exact ⟨rfl, S3.out.same S8.out⟩
end Go.Proofs.YtlnademnfnhbpaaGreat
namespace Go.Proofs.YtlnademnfnhbpaaGreat
open Go.ChangeShapes Go.WideShapes Go.ChangeAt Go.RowKit

set_option maxRecDepth 100000 in
theorem graphChecks_lifted (os : Os) (started : os.Started) (H : Type) (enc : TypeId × Value → H) :
    ReturnsInHanded {} Tryz.checked os 5 .any (Rows.graphChecksSpec.pre6 enc Tryz.prog Tryz.f5 Rows.graphChecksRow.domain false) (Rows.graphChecksSpec.post enc Tryz.prog Tryz.f5 false true false false) := by
  refine returnsInHanded_of_change_sized (C := Tryz.checked) ownTry started (by kernel_rfl) Tryz.func5
    (ChangeSpec.witness6 (enc := enc) (C := Tryz.checked) false ⟨#[], #[.agg #[.slice none 0 0, .slice none 0 0]], []⟩ 8 (by kernel_rfl) (by kernel_rfl) (by kernel_rfl) (by kernel_rfl)) ?_
  intro W base args ds gs before hval hW _ hsz _
  obtain ⟨p, hA⟩ := whole_args (P := Tryz.prog) (ts := [27]) (by rw [Tryz.params5]) hW
  obtain ⟨v0, d0, rfl, rfl, h0⟩ := trodAll_one hA
  obtain ⟨g0, rfl, hr0, z0⟩ := open_graph (hval 0 27 v0 (by rw [Tryz.params5]; rfl) rfl) h0 (weights_of hsz (j := 0) (by rw [Tryz.params5]; rfl) rfl)
  refine (gchecks_walk W hr0 z0).mono ?_
  rintro e W' ⟨rfl, hs⟩
  exact ⟨_, rfl, law_post laidTry (ts := [27]) (by rw [Tryz.params5]) (tb := 4) (by kernel_rfl) Tryz.underlying4 (by kernel_rfl) rfl (by rintro rfl; exact ⟨rfl, rfl, rfl⟩) hW hs.below⟩

theorem graphChecks_holds : Rows.GraphChecksSaid :=
  OpenClaim.holds_of_wide 5 Tryz.f5 rfl rfl rfl rfl rfl rfl rfl ⟨rfl, rfl, rfl, rfl, rfl⟩ rfl rfl rfl rfl rfl (by kernel_rfl) Tryz.func5 (by kernel_rfl)
    (of_decide_eq_true (by kernel_rfl)) (by unfold Func.isWrapper; first | (rw [if_pos (by decide +kernel)]; kernel_rfl) | (rw [if_neg (by decide +kernel)]; exact ⟨rfl, rfl⟩))
    (fun os started H enc _ => graphChecks_lifted os started H enc)
end Go.Proofs.YtlnademnfnhbpaaGreat
