/- Package graph: props: all properties of a graph, one by one. -/
import Derived.Test.YtlnademnfnhbpaaGreatDeg
import Derived.Test.YtlnademnfnhbpaaGreatRNames
namespace Go.Proofs.YtlnademnfnhbpaaGreat
open Go.RowKit Go.Shelf
attribute [local go_sem] Oper.semAt_some

/-- All properties, as they come. -/
def allP (g : GR) : List PR := g.ns.flatMap ND.props ++ g.rs.flatMap RL.props
theorem flat_succ {α β : Type} {f : α → List β} {l : List α} {i : Nat} {x : α} (h : l[i]? = some x) : (l.take (i + 1)).flatMap f = (l.take i).flatMap f ++ f x := by
  rw [List.take_add_one, h, Option.toList_some, List.flatMap_append]
  simp
theorem flat_le {α β : Type} {f : α → List β} {l : List α} {i : Nat} {x : α} (h : l[i]? = some x) : ((l.take i).flatMap f).length + (f x).length ≤ (l.flatMap f).length := by
  have h1 : (l.take (i + 1)).flatMap f ++ (l.drop (i + 1)).flatMap f = l.flatMap f := by rw [← List.flatMap_append, List.take_append_drop]
  rw [← h1, flat_succ h, List.length_append, List.length_append]
  omega
theorem flat_pre {α β : Type} {f : α → List β} {l : List α} {i : Nat} {x : α} (h : l[i]? = some x) (j : Nat) : ((l.take i).flatMap f ++ (f x).take j) <+: l.flatMap f := by
  refine ⟨(f x).drop j ++ (l.drop (i + 1)).flatMap f, ?_⟩
  rw [List.append_assoc, ← List.append_assoc ((f x).take j), List.take_append_drop, ← List.append_assoc, ← flat_succ h, ← List.flatMap_append, List.take_append_drop]
theorem alloc_J {β : Type} {B : Nat} {J : β → World → Prop} (hJ : AbidesFrom B J) {s : β} {W : World} (o : Obj) (h : J s W) : J s (W.alloc o) :=
  hJ s W (W.alloc o) none h (World.grownBy_alloc W o none) (fun r e => by cases e)
theorem drop_eq_cons' {α : Type} {l : List α} {j : Nat} {y : α} (h : l[j]? = some y) : l.take (j + 1) = l.take j ++ [y] := by rw [List.take_add_one, h, Option.toList_some]

set_option maxRecDepth 100000 in
set_option maxHeartbeats 4000000 in
/-- The closure of props, whatever the loop's body does, if it keeps all blocks but S's. -/
theorem props1_in (F : Fence) (n : Nat) (h7 : F.fn 77) (hro : F.round = none) (hn : 1 ≤ n) (l Bs : Nat) (g : GR) (S Fg : Nat → Prop) (hSb : ¬ S Bs) (hFS : ∀ b, Fg b → ¬ S b) (J Jx : List PR → World → Prop) (W : World) (hJ : AbidesFrom W.heap.size J) (hJx : AbidesFrom W.heap.size Jx) (hnew : ∀ b, W.heap.size ≤ b → S b)
    (hY : ∀ pre x W1, J pre W1 → pre ++ [x] <+: allP g → YieldAt F (n - 1) Tryz.prog l #[PR.agg x] W1 fun e W' =>
      (e = .returned (.bool true) ∧ J (pre ++ [x]) W' ∧ Upd S W1 W') ∨ (e = .returned (.bool false) ∧ Jx (pre ++ [x]) W'))
    (hB : Blk W Bs 27 #[.slice g.AN g.nN g.cN, .slice g.AR g.nR g.cR]) (hR : RdG W Fg g) (h0 : J [] W) :
    CallsIn F n Tryz.prog 77 #[.func (.yield l) #[] #[], .pointer (some ⟨Bs, 0, none⟩)] W fun e W' => (∃ v, e = .returned v) ∧
      ((∃ ys, ys = allP g ∧ J ys W') ∨ (∃ pre, pre <+: allP g ∧ Jx pre W')) := by
  obtain ⟨ns, AN, nN, cN, rs, AR, nR, cR⟩ := g
  simp only at hB
  have hmx := hR.nodes.row.max
  have hle := hR.nodes.row.le
  have hmx' := hR.rels.row.max
  have hle' := hR.rels.row.le
  unfold maxLen at hmx hmx'
  simp only at hmx hle hmx' hle'
  have HL := Lib.hid (show ns.length = nN from hR.nodes.len)
  have HL' := Lib.hid (show rs.length = nR from hR.rels.len)
  have HRg := Lib.hid hR
  have HBg := Lib.hid hB
  have HA := Lib.hid (show allP ⟨ns, AN, nN, cN, rs, AR, nR, cR⟩ = ns.flatMap ND.props ++ rs.flatMap RL.props from rfl)
  have HJa := Lib.hid hJ
  have HJb := Lib.hid hJx
  have HNew := Lib.hid hnew
  have HY := Lib.hid hY
  have HFS := Lib.hid hFS
  clear hR hB hJ hJx hnew hY hFS
  refine callsIn_of_wp Tryz.func77 rfl h7 ?_ hro
  simp only [Tryz.ntmps77, List.size_toArray, List.length_cons, List.length_nil, Nat.reduceAdd, Nat.reduceSub, Array.replicate_succ, Array.replicate_zero, List.push_toArray, List.append_toArray, List.nil_append, List.cons_append]
  have p0 : W.cell? ⟨Bs, 0, none⟩ = some (.slice AN nN cN) := HBg.out.cell 0
  gi_wp2
  clear p0
  gi_loopw [14] (fun ix wr => ∃ i : Nat, i ≤ nN ∧ ix = .int .i64 i ∧ Hid (J ((ns.take i).flatMap ND.props) wr) ∧ Hid (Upd S W wr)) (fun ix _ => nN - (intOf ix).toNat)
  case atStart => exact ⟨0, Nat.zero_le _, rfl, Lib.hid (by simpa using h0), Lib.hid (Upd.refl _ _)⟩
  case round =>
    obtain ⟨i, hi, rfl, KJ, KU⟩ := hrel
    by_cases hlt : i < nN
    · obtain ⟨b, o, x, rfl, hb, _, hx, hxm, r0, r1, r2⟩ := (HRg.out.upd KU.out HFS.out).nodes.at_ hlt
      have HP := Lib.hid (fun (w9 : World) (hu : Upd S W w9) => (HRg.out.upd hu HFS.out).nodes.pro x hxm)
      have HX1 := Lib.hid (flat_succ (f := ND.props) hx)
      have HX2 := Lib.hid (flat_le (f := ND.props) hx)
      have HX3 := Lib.hid (flat_pre (f := ND.props) hx)
      clear hx hxm
      obtain ⟨ix, lb, AL, nL, cL, ps, AP, nP, cP⟩ := x
      simp only at r0 r1 r2
      have KJ1 := Lib.hid (alloc_J HJa.out (.cells #[.int .i64 ix, .slice AL nL cL, .slice AP nP cP] 40) KJ.out)
      have KU1 := Lib.hid (KU.out.alloc (.cells #[.int .i64 ix, .slice AL nL cL, .slice AP nP cP] 40))
      have hP0 := HP.out wr KU.out
      have hmp : cP ≤ maxLen := hP0.row.max
      have hlp : nP ≤ cP := hP0.row.le
      have HPl := Lib.hid (show ps.length = nP from hP0.len)
      unfold maxLen at hmp
      clear hP0
      obtain ⟨wo, rfl⟩ : ∃ wo : World, wo = wr := ⟨_, rfl⟩
      gi_wp2
      clear r0 r1 r2
      generalize wo.alloc (.cells #[.int .i64 ix, .slice AL nL cL, .slice AP nP cP] 40) = w7 at *
      gi_loopw [21] (fun jx wr => ∃ j : Nat, j ≤ nP ∧ jx = .int .i64 j ∧ Hid (J ((ns.take i).flatMap ND.props ++ ps.take j) wr) ∧ Hid (Upd S W wr)) (fun jx _ => nP - (intOf jx).toNat)
      case atStart => exact ⟨0, Nat.zero_le _, rfl, Lib.hid (by simpa using KJ1.out), KU1⟩
      case round =>
        clear KJ1 KU1 KJ KU
        obtain ⟨j, hj, rfl, KJ, KU⟩ := hrel
        by_cases hjl : j < nP
        · obtain ⟨b2, o2, y, rfl, _, _, hy, _, q0, q1, q2, q3, q4, q5⟩ := (HP.out wr KU.out).at_ hjl
          have hjps : j < ps.length := by rw [HPl.out]; exact hjl
          have hT := drop_eq_cons' hy
          have HT := Lib.hid hT
          obtain ⟨yk, ⟨y0, y1, y2, y3, y4⟩, yA, yn, yc, yA2, yn2, yc2⟩ := y
          simp only at q0 q1 q2 q3 q4 q5
          have KJ1 := alloc_J HJa.out (.cells #[.string yk, .int .i64 y0, .int .i64 y1, .string y2, .slice yA yn yc, .slice yA2 yn2 yc2] 45) KJ.out
          have KU1 := Lib.hid (KU.out.alloc (.cells #[.string yk, .int .i64 y0, .int .i64 y1, .string y2, .slice yA yn yc, .slice yA2 yn2 yc2] 45))
          have hlen : (ns.take i).flatMap ND.props ++ ps.take j ++ [⟨yk, ⟨y0, y1, y2, y3, y4⟩, yA, yn, yc, yA2, yn2, yc2⟩] <+: allP ⟨ns, some ⟨b, o, none⟩, nN, cN, rs, AR, nR, cR⟩ := by
            rw [HA.out, List.append_assoc, ← hT]
            exact (HX3.out (j + 1)).trans (List.prefix_append _ _)
          obtain ⟨fn, tmps, assign, body, hy9, hR9⟩ := HY.out _ ⟨yk, ⟨y0, y1, y2, y3, y4⟩, yA, yn, yc, yA2, yn2, yc2⟩ _ KJ1 hlen
          clear hy hT KJ1 hlen
          gi_wp2
          refine hR9.mono ?_
          rintro e W3 (⟨rfl, hJ3, hk3⟩ | ⟨rfl, hJx3⟩)
          · have KJ3 := Lib.hid (show J ((ns.take i).flatMap ND.props ++ ps.take (j + 1)) W3 from by rw [HT.out, ← List.append_assoc]; exact hJ3)
            have KU3 := Lib.hid (KU1.out.trans hk3 fun _ _ h => h)
            clear hJ3 hk3 q0 q1 q2 q3 q4 q5
            gi_wp2
            go_roundw
            case rel => exact ⟨j + 1, by omega, by simp, KJ3, KU3⟩
            case measure => simp [intOf]; omega
          · have hpre := HX3.out (j + 1)
            have KJ3 := Lib.hid (show ∃ pre, pre <+: allP ⟨ns, some ⟨b, o, none⟩, nN, cN, rs, AR, nR, cR⟩ ∧ Jx pre W3 from ⟨(ns.take i).flatMap ND.props ++ ps.take (j + 1), by rw [HA.out]; exact hpre.trans (List.prefix_append _ _), by rw [HT.out, ← List.append_assoc]; exact hJx3⟩)
            clear hJx3 hpre q0 q1 q2 q3 q4 q5
            gi_wp2
            refine bodyPost_ret (results_none rfl _ _ _) rfl ?_
            exact ⟨⟨_, rfl⟩, .inr KJ3.out⟩
        · have hjn : j = nP := by omega
          subst hjn
          have KJ3 := Lib.hid (show J ((ns.take (i + 1)).flatMap ND.props) wr from by
            rw [HX1.out]
            have h1 := KJ.out
            rw [List.take_of_length_le (l := ps) (by rw [HPl.out]; exact Nat.le_refl _)] at h1
            exact h1)
          gi_wp2
          go_roundw
          case rel => exact ⟨i + 1, by omega, by simp, KJ3, KU⟩
          case measure => simp [intOf]; omega
    · have hin : i = nN := by omega
      subst hin
      have p1 : wr.cell? ⟨Bs, 1, none⟩ = some (.slice AR nR cR) := (HBg.out.upd KU.out hSb).cell 1
      have KJ2 := Lib.hid (show J (ns.flatMap ND.props ++ (rs.take 0).flatMap RL.props) wr from by
        have h1 := KJ.out
        rw [List.take_of_length_le (by rw [HL.out]; exact Nat.le_refl _)] at h1
        simpa using h1)
      have hNl : ((ns.flatMap ND.props).length) ≤ (allP ⟨ns, AN, i, cN, rs, AR, nR, cR⟩).length := by rw [HA.out, List.length_append]; omega
      clear hlt hNl KJ
      obtain ⟨wo, rfl⟩ : ∃ wo : World, wo = wr := ⟨_, rfl⟩
      gi_wp2
      clear p1
      gi_loopw [34] (fun ix wr => ∃ i : Nat, i ≤ nR ∧ ix = .int .i64 i ∧ Hid (J (ns.flatMap ND.props ++ (rs.take i).flatMap RL.props) wr) ∧ Hid (Upd S W wr)) (fun ix _ => nR - (intOf ix).toNat)
      case atStart => exact ⟨0, Nat.zero_le _, rfl, KJ2, KU⟩
      case round =>
        clear KJ2 KU
        obtain ⟨q, hq, rfl, KJ, KU⟩ := hrel
        by_cases hlt : q < nR
        · obtain ⟨b, o, x, rfl, hb, _, hx, hxm, r0, r1, r2, r3, r4⟩ := (HRg.out.upd KU.out HFS.out).rels.at_ hlt
          have HP := Lib.hid (fun (w9 : World) (hu : Upd S W w9) => (HRg.out.upd hu HFS.out).rels.pro x hxm)
          have HX1 := Lib.hid (flat_succ (f := RL.props) hx)
          have HX2 := Lib.hid (flat_le (f := RL.props) hx)
          have HX3 := Lib.hid (flat_pre (f := RL.props) hx)
          clear hx hxm
          obtain ⟨ix, tx, sx, dx, ps, AP, nP, cP⟩ := x
          simp only at r0 r1 r2 r3 r4
          have KJ1 := Lib.hid (alloc_J HJa.out (.cells #[.int .i64 ix, .string tx, .int .i64 sx, .int .i64 dx, .slice AP nP cP] 47) KJ.out)
          have KU1 := Lib.hid (KU.out.alloc (.cells #[.int .i64 ix, .string tx, .int .i64 sx, .int .i64 dx, .slice AP nP cP] 47))
          have hP0 := HP.out wr KU.out
          have hmp : cP ≤ maxLen := hP0.row.max
          have hlp : nP ≤ cP := hP0.row.le
          have HPl := Lib.hid (show ps.length = nP from hP0.len)
          unfold maxLen at hmp
          clear hP0
          obtain ⟨wo, rfl⟩ : ∃ wo : World, wo = wr := ⟨_, rfl⟩
          gi_wp2
          clear r0 r1 r2 r3 r4
          generalize wo.alloc (.cells #[.int .i64 ix, .string tx, .int .i64 sx, .int .i64 dx, .slice AP nP cP] 47) = w7 at *
          gi_loopw [41] (fun jx wr => ∃ j : Nat, j ≤ nP ∧ jx = .int .i64 j ∧ Hid (J (ns.flatMap ND.props ++ (rs.take q).flatMap RL.props ++ ps.take j) wr) ∧ Hid (Upd S W wr)) (fun jx _ => nP - (intOf jx).toNat)
          case atStart => exact ⟨0, Nat.zero_le _, rfl, Lib.hid (by simpa using KJ1.out), KU1⟩
          case round =>
            clear KJ1 KU1 KJ KU
            obtain ⟨j, hj, rfl, KJ, KU⟩ := hrel
            by_cases hjl : j < nP
            · obtain ⟨b2, o2, y, rfl, _, _, hy, _, q0, q1, q2, q3, q4, q5⟩ := (HP.out wr KU.out).at_ hjl
              have hjps : j < ps.length := by rw [HPl.out]; exact hjl
              have hT := drop_eq_cons' hy
              have HT := Lib.hid hT
              obtain ⟨yk, ⟨y0, y1, y2, y3, y4⟩, yA, yn, yc, yA2, yn2, yc2⟩ := y
              simp only at q0 q1 q2 q3 q4 q5
              have KJ1 := alloc_J HJa.out (.cells #[.string yk, .int .i64 y0, .int .i64 y1, .string y2, .slice yA yn yc, .slice yA2 yn2 yc2] 45) KJ.out
              have KU1 := Lib.hid (KU.out.alloc (.cells #[.string yk, .int .i64 y0, .int .i64 y1, .string y2, .slice yA yn yc, .slice yA2 yn2 yc2] 45))
              have hlen : ns.flatMap ND.props ++ (rs.take q).flatMap RL.props ++ ps.take j ++ [⟨yk, ⟨y0, y1, y2, y3, y4⟩, yA, yn, yc, yA2, yn2, yc2⟩] <+: allP ⟨ns, AN, i, cN, rs, some ⟨b, o, none⟩, nR, cR⟩ := by
                rw [HA.out, List.append_assoc, List.append_assoc, ← hT]
                exact (List.prefix_append_right_inj _).2 (HX3.out (j + 1))
              obtain ⟨fn, tmps, assign, body, hy9, hR9⟩ := HY.out _ ⟨yk, ⟨y0, y1, y2, y3, y4⟩, yA, yn, yc, yA2, yn2, yc2⟩ _ KJ1 hlen
              clear hy hT KJ1 hlen
              gi_wp2
              refine hR9.mono ?_
              rintro e W3 (⟨rfl, hJ3, hk3⟩ | ⟨rfl, hJx3⟩)
              · have KJ3 := Lib.hid (show J (ns.flatMap ND.props ++ (rs.take q).flatMap RL.props ++ ps.take (j + 1)) W3 from by rw [HT.out, ← List.append_assoc]; exact hJ3)
                have KU3 := Lib.hid (KU1.out.trans hk3 fun _ _ h => h)
                clear hJ3 hk3 q0 q1 q2 q3 q4 q5
                gi_wp2
                go_roundw
                case rel => exact ⟨j + 1, by omega, by simp, KJ3, KU3⟩
                case measure => simp [intOf]; omega
              · have hpre := HX3.out (j + 1)
                have KJ3 := Lib.hid (show ∃ pre, pre <+: allP ⟨ns, AN, i, cN, rs, some ⟨b, o, none⟩, nR, cR⟩ ∧ Jx pre W3 from ⟨ns.flatMap ND.props ++ (rs.take q).flatMap RL.props ++ ps.take (j + 1), by rw [HA.out, List.append_assoc]; exact (List.prefix_append_right_inj _).2 hpre, by rw [HT.out, ← List.append_assoc]; exact hJx3⟩)
                clear hJx3 hpre q0 q1 q2 q3 q4 q5
                gi_wp2
                refine bodyPost_ret (results_none rfl _ _ _) rfl ?_
                exact ⟨⟨_, rfl⟩, .inr KJ3.out⟩
            · have hjn : j = nP := by omega
              subst hjn
              have KJ3 := Lib.hid (show J (ns.flatMap ND.props ++ (rs.take (q + 1)).flatMap RL.props) wr from by
                rw [HX1.out]
                have h1 := KJ.out
                rw [List.take_of_length_le (l := ps) (by rw [HPl.out]; exact Nat.le_refl _), List.append_assoc] at h1
                exact h1)
              gi_wp2
              go_roundw
              case rel => exact ⟨q + 1, by omega, by simp, KJ3, KU⟩
              case measure => simp [intOf]; omega
        · have hqn : q = nR := by omega
          subst hqn
          have h1 := KJ.out
          rw [List.take_of_length_le (by rw [HL'.out]; exact Nat.le_refl _), ← HA.out] at h1
          have KJ3 := Lib.hid h1
          clear h1
          gi_wp2
          go_end0
          exact ⟨⟨_, rfl⟩, .inl ⟨_, rfl, KJ3.out⟩⟩

/-- What props hands back hands on all properties, in order; or a part that stands at the head. -/
theorem props_stops (F : Fence) (n : Nat) (h7 : F.fn 77) (hro : F.round = none) (hn : 1 ≤ n) (Bs : Nat) (g : GR) (S Fg : Nat → Prop) (hSb : ¬ S Bs) (hFS : ∀ b, Fg b → ¬ S b) (w : World) (hnew : ∀ b, w.heap.size ≤ b → S b)
    (hB : Blk w Bs 27 #[.slice g.AN g.nN g.cN, .slice g.AR g.nR g.cR]) (hR : RdG w Fg g) :
    SeqStopsK F n Tryz.prog 77 #[.pointer (some ⟨Bs, 0, none⟩)] (fun x : { x : PR // x ∈ allP g } => #[PR.agg x.1]) (Upd S) (fun ys => ys.map (fun x => x.1) = allP g) (fun pre => pre.map (fun x => x.1) <+: allP g) (allP g).length w := fun l J Jx W hW hJ hJx hY h0 =>
  have hs : Same w W := Same.of_below hW
  (props1_in F n h7 hro hn l Bs g S Fg hSb hFS (fun pre W => ∃ q, q.map (fun x : { x : PR // x ∈ allP g } => x.1) = pre ∧ J q W) (fun pre W => ∃ q, q.map (fun x : { x : PR // x ∈ allP g } => x.1) = pre ∧ Jx q W) W
    (fun s A B row hh hg hr => by obtain ⟨q, h1, h2⟩ := hh; exact ⟨q, h1, hJ q A B row h2 hg hr⟩) (fun s A B row hh hg hr => by obtain ⟨q, h1, h2⟩ := hh; exact ⟨q, h1, hJx q A B row h2 hg hr⟩) (fun b hb => hnew b (Nat.le_trans hW.size hb))
    (fun pre x W1 hh hp => by
      obtain ⟨q, h1, h2⟩ := hh
      have hm : x ∈ allP g := hp.subset (by simp)
      have hl : q.length < (allP g).length := by
        have h3 := hp.length_le
        rw [← h1] at h3
        simp only [List.length_append, List.length_map, List.length_singleton] at h3
        omega
      obtain ⟨fn, tmps, assign, body, hy, hR⟩ := hY q ⟨x, hm⟩ W1 h2 hl
      refine ⟨fn, tmps, assign, body, hy, hR.mono fun e W' h => ?_⟩
      rcases h with ⟨he, hj, hk⟩ | ⟨he, hj⟩
      · exact .inl ⟨he, ⟨q ++ [⟨x, hm⟩], by rw [List.map_append, h1]; rfl, hj⟩, hk⟩
      · exact .inr ⟨he, ⟨q ++ [⟨x, hm⟩], by rw [List.map_append, h1]; rfl, hj⟩⟩)
    (hB.same hs) (hR.same hs) ⟨[], rfl, h0⟩).mono fun e W' hh => ⟨hh.1, by
      rcases hh.2 with ⟨ys, rfl, q, hq, hj⟩ | ⟨pre, hpre, q, hq, hj⟩
      · exact .inl ⟨q, hq, hj⟩
      · exact .inr ⟨q, by simp only [hq]; exact hpre, hj⟩⟩
end Go.Proofs.YtlnademnfnhbpaaGreat
