-- laid by a program of this session: the print's own machine, with the functions that are proved by hand
import Derived.Test.YtfnikmkjhbbbgaaDoorHExprx0
import Derived.Test.YtfnikmkjhbbbgaaDoorA
import Derived.Test.YtfnikmkjhbbbgaaDoorClone
import Derived.Test.YtfnikmkjhbbbgaaDoorCheck
import Derived.Test.YtfnikmkjhbbbgaaDoorEval
import Derived.Test.YtfnikmkjhbbbgaaDoorParse
import Derived.Deep.CutRange
namespace Go.Proofs.YtfnikmkjhbbbgaaDoor.HExpr
open Go.RowKit Go.Proofs.YtfnikmkjhbbbgaaDoorW.PrintWords Go.Proofs.YtfnikmkjhbbbgaaDoorW.PrintLast Go.Proofs.YtfnikmkjhbbbgaaDoorW.PrintMore
attribute [local go_sem] max2_int min2_int max_two min_two max_three min_three max_four min_four   -- for this text's walks alone
set_option linter.unusedVariables false
set_option linter.unusedSimpArgs false
attribute [local go_sem] nil_eq nil_ne

/-! ### expr_both: function 40 -/
def expr_both.l0 : Nat → Int → List (S51) → List (S51) → List (S51) → Int → Int → Option ((List (S51)))
  | 0, _, _, _, _, _, _ => none
  | k + 1, x0, x1, x7, x12, x13, x14 => if x14 < x13 then (if 0 ≤ x14 then (if x14 < (x12.length : Int) then (if ((rd_T51 x12 x14).f0) > 0 then (if ((rd_T51 x12 x14).f0) > 1 then (if x7.length < 3518437208883 then (expr_both.l0 k x0 x1 (x7 ++ [(⟨(rd_T51 x12 x14).f0, (rd_T51 x12 x14).f1, wrap64 (((rd_T51 x12 x14).f2) + (x1.length : Int)), wrap64 (((rd_T51 x12 x14).f3) + (x1.length : Int))⟩ : S51)]) x12 x13 (wrap64 (x14 + 1))) else (none)) else (if x7.length < 3518437208883 then (expr_both.l0 k x0 x1 (x7 ++ [(⟨(rd_T51 x12 x14).f0, (rd_T51 x12 x14).f1, wrap64 (((rd_T51 x12 x14).f2) + (x1.length : Int)), (rd_T51 x12 x14).f3⟩ : S51)]) x12 x13 (wrap64 (x14 + 1))) else (none))) else (if ((rd_T51 x12 x14).f0) > 1 then (if x7.length < 3518437208883 then (expr_both.l0 k x0 x1 (x7 ++ [(⟨(rd_T51 x12 x14).f0, (rd_T51 x12 x14).f1, (rd_T51 x12 x14).f2, wrap64 (((rd_T51 x12 x14).f3) + (x1.length : Int))⟩ : S51)]) x12 x13 (wrap64 (x14 + 1))) else (none)) else (if x7.length < 3518437208883 then (expr_both.l0 k x0 x1 (x7 ++ [(⟨(rd_T51 x12 x14).f0, (rd_T51 x12 x14).f1, (rd_T51 x12 x14).f2, (rd_T51 x12 x14).f3⟩ : S51)]) x12 x13 (wrap64 (x14 + 1))) else (none)))) else (none)) else (none)) else (if x7.length < 3518437208883 then (some (x7 ++ [(⟨x0, (⟨#[]⟩ : ByteArray), wrap64 ((x1.length : Int) - 1), wrap64 ((x7.length : Int) - 1)⟩ : S51)])) else (none))
def expr_both.f (k : Nat) (a0 : Int) (l1 : List (S51)) (l2 : List (S51)) : Option ((List (S51))) := (expr_Node.f l1).bind fun t165 => (expr_both.l0 k a0 l1 t165 l2 (l2.length : Int) 0)
theorem expr_both.mono_l : ∀ k, (∀ y0 y1 y2 y3 y4 y5, LeO (expr_both.l0 k y0 y1 y2 y3 y4 y5) (expr_both.l0 (k + 1) y0 y1 y2 y3 y4 y5))
  | 0 => fun _ _ _ _ _ _ r h => by simp [expr_both.l0] at h
  | k + 1 => by
    have ih0 := expr_both.mono_l k
    · intro y0 y1 y2 y3 y4 y5
      unfold expr_both.l0
      repeat' first
      | (with_reducible exact ih0 _ _ _ _ _ _)
      | (with_reducible exact LeO.refl _)
      | (with_reducible exact LeO.none _)
      | (with_reducible refine LeO.ite ?_ ?_)
      | (with_reducible refine LeO.bind ?_ (fun _ => ?_))
      | exact ih0 _ _ _ _ _ _
      | exact LeO.none _
      | refine LeO.ite ?_ ?_
      | refine LeO.bind ?_ (fun _ => ?_)
theorem expr_both.mono : ∀ a0 a1 a2 k, LeO (expr_both.f k a0 a1 a2) (expr_both.f (k + 1) a0 a1 a2) := by
  intro a0 a1 a2 k
  have ih0 := expr_both.mono_l k
  unfold expr_both.f
  repeat' first
      | (with_reducible exact ih0 _ _ _ _ _ _)
      | (with_reducible exact LeO.refl _)
      | (with_reducible exact LeO.none _)
      | (with_reducible refine LeO.ite ?_ ?_)
      | (with_reducible refine LeO.bind ?_ (fun _ => ?_))
      | exact ih0 _ _ _ _ _ _
      | exact LeO.none _
      | refine LeO.ite ?_ ?_
      | refine LeO.bind ?_ (fun _ => ?_)
/-- a round of the loop, its four ways in one -/
theorem both_step {k : Nat} {a0 : Int} {l1 x7 l2 r : List S51} {x14 : Int} (h : expr_both.l0 (k + 1) a0 l1 x7 l2 (l2.length : Int) x14 = some r) (hlt : x14 < (l2.length : Int)) :
    0 ≤ x14 ∧ x7.length < 3518437208883 ∧ expr_both.l0 k a0 l1 (x7 ++ [(⟨(rd_T51 l2 x14).f0, (rd_T51 l2 x14).f1, if (rd_T51 l2 x14).f0 > 0 then wrap64 ((rd_T51 l2 x14).f2 + (l1.length : Int)) else (rd_T51 l2 x14).f2, if (rd_T51 l2 x14).f0 > 1 then wrap64 ((rd_T51 l2 x14).f3 + (l1.length : Int)) else (rd_T51 l2 x14).f3⟩ : S51)]) l2 (l2.length : Int) (wrap64 (x14 + 1)) = some r := by
  simp only [expr_both.l0] at h
  rw [if_pos hlt] at h
  by_cases h0 : 0 ≤ x14
  case neg => rw [if_neg h0] at h; cases h
  rw [if_pos h0, if_pos hlt] at h
  refine ⟨h0, ?_⟩
  by_cases h1 : (rd_T51 l2 x14).f0 > 0 <;> by_cases h2 : (rd_T51 l2 x14).f0 > 1 <;> by_cases h3 : x7.length < 3518437208883 <;>
    first | (rw [if_pos h1, if_pos h2, if_pos h3] at h; rw [if_pos h1, if_pos h2]; exact ⟨h3, h⟩) | (rw [if_pos h1, if_neg h2, if_pos h3] at h; rw [if_pos h1, if_neg h2]; exact ⟨h3, h⟩) | (rw [if_neg h1, if_pos h2, if_pos h3] at h; rw [if_neg h1, if_pos h2]; exact ⟨h3, h⟩) | (rw [if_neg h1, if_neg h2, if_pos h3] at h; rw [if_neg h1, if_neg h2]; exact ⟨h3, h⟩) | (exfalso; simp [h1, h2, h3] at h)
set_option maxHeartbeats 8000000 in
set_option maxRecDepth 100000 in
theorem expr_both.calls (k : Nat) (a0 : Int) (A1 : Option Addr) (c1 : Nat) (l1 : List (S51)) (A2 : Option Addr) (c2 : Nat) (l2 : List (S51)) (r : List (S51)) (w : World) (hr1 : Kd.C k51 w A1 l1.length l1) (hc1 : l1.length ≤ c1) (hr2 : Kd.C k51 w A2 l2.length l2) (hc2 : l2.length ≤ c2) (h : expr_both.f k a0 l1 l2 = some r) :
    Calls Tryd.prog 40 #[.int .i64 a0, .slice A1 l1.length c1, .slice A2 l2.length c2] w fun e w' => ∃ v0_ : Value, e = .returned (v0_) ∧ Kd.R k51 51 w' w.heap.size (fun _ => True) v0_ r ∧ Below w.heap.size w w' := by
  have hu51 := Tryd.underlying51
  have HR1 := Aside0.mk hr1
  have HC1 := Aside0.mk hc1
  clear hr1 hc1
  have HR2 := Aside0.mk hr2
  have HC2 := Aside0.mk hc2
  clear hr2 hc2
  have HB := Aside0.mk (Below.refl w.heap.size w)
  have H : ((expr_Node.f l1).bind fun t165 => (expr_both.l0 k a0 l1 t165 l2 (l2.length : Int) 0)) = some r := h
  clear h
  replace H := Option.bind_eq_some_iff.mp H
  obtain ⟨t165, A40, H⟩ := H
  replace H : (expr_both.l0 k a0 l1 t165 l2 (l2.length : Int) 0) = some r := H
  have A4 := Aside0.mk A40
  clear A40
  have H' := Aside0.mk H
  clear H
  go_enter Tryd.func40, Tryd.ntmps40
  go_wp2_with (first | ((with_reducible refine gate_callee (f := 30) rfl ?_); refine goesL_ (some 11) rfl rfl Tryd.func30 (by kernel_rfl) rfl #[.slice A1 l1.length c1] rfl (by (try simp only [List.map_toArray, List.map_cons, List.map_nil]); first | done | rfl | (simp only [List.length_drop, List.length_take]; rfl)) ?_; (with_reducible refine (expr_Node.calls _ _ l1 t165 _ ?side1 ?side2 A4.out).mono ?_); (case side1 => repeat (first | exact HR1.out | (with_reducible refine Kd.C_alloc ?_ _) | (with_reducible refine Kd.C_drewN ?_ _) | (with_reducible refine Kd.C_drew ?_))); (case side2 => exact HC1.out); rintro e w5 ⟨v166, rfl, ho0, hb⟩; clear A4; refine ⟨_, rfl, ?_⟩; have n0_ := Aside0.mk (Kd.R_lower ho0 (below_size (by repeat (first | (with_reducible first | exact HB.out | apply below_alloc | apply pw_below_drewN | apply below_drew1) | exact HB.out)))); have n1_ := Aside0.mk (below_step (by repeat (first | (with_reducible first | exact HB.out | apply below_alloc | apply pw_below_drewN | apply below_drew1) | exact HB.out)) hb); clear HB; have HO167 := n0_; have HB := n1_; clear n0_ n1_; (try clear hb); (try clear hb2); (try clear hk); (try clear hi); (try clear ho0)))
  go_loopg [7, 14] k (fun kq v7 v14 w' => ∃ (x7_1 : List (S51)) (x14_1 : Int), v14 = .int .i64 x14_1 ∧ Aside0 (expr_both.l0 kq a0 l1 x7_1 l2 (l2.length : Int) x14_1 = some r) ∧ Aside0 (kq ≤ k) ∧ Aside0 (Kd.R k51 51 w' w.heap.size (fun _ => True) v7 x7_1) ∧ Aside0 (Below w.heap.size w w'))
  case atStart => exact ⟨(t165), (0), (by first | rfl | (simp; done) | (simp [*]; done)), H', ⟨Nat.le_refl _⟩, ⟨by (with_reducible repeat (first | apply Kd.R_alloc | apply Kd.R_drewN | apply Kd.R_drew)); exact HO167.out⟩, ⟨by repeat (first | (with_reducible first | exact HB.out | apply below_alloc | apply pw_below_drewN | apply below_drew1) | exact HB.out)⟩⟩
  case round =>
    clear H'
    try clear c1
    try clear c2
    try clear p2
    try clear c3
    try clear c4
    obtain ⟨x7_1, x14_1, rfl, HA, HK1, HO_7, HB⟩ := hrel
    cases gk with
    | zero => exact absurd HA.out (by simp [expr_both.l0])
    | succ k1 =>
      have H := HA.out
      clear HA
      by_cases c6 : x14_1 < (l2.length : Int)
      · obtain ⟨p171, c11, H⟩ := both_step H c6
        have cb0 : decide (x14_1 < (l2.length : Int)) = true := decide_eq_true c6
        have q171 := c6
        clear c6
        have LM := Aside0.mk c11
        clear c11
        obtain ⟨ad171, e171, hx0, hx1, hx2, hx3⟩ := at_T51 HR2.out x14_1 p171 q171
        cases e171
        replace hx0 := (HB.out.cell (World.block_lt_of_cell? w _ hx0)).trans hx0
        replace hx1 := (HB.out.cell (World.block_lt_of_cell? w _ hx1)).trans hx1
        replace hx2 := (HB.out.cell (World.block_lt_of_cell? w _ hx2)).trans hx2
        replace hx3 := (HB.out.cell (World.block_lt_of_cell? w _ hx3)).trans hx3
        obtain ⟨x, hx⟩ : ∃ x, x = rd_T51 l2 x14_1 := ⟨_, rfl⟩
        rw [← hx] at hx0 hx1 hx2 hx3 H
        clear hx
        obtain ⟨A_, hA_⟩ : ∃ y_, y_ = (if x.f0 > 0 then wrap64 (x.f2 + (l1.length : Int)) else x.f2) := ⟨_, rfl⟩
        obtain ⟨B_, hB_⟩ : ∃ y_, y_ = (if x.f0 > 1 then wrap64 (x.f3 + (l1.length : Int)) else x.f3) := ⟨_, rfl⟩
        rw [← hA_, ← hB_] at H
        have H' := Aside0.mk H
        have HA_ := Aside0.mk hA_
        have HB_ := Aside0.mk hB_
        clear H hA_ hB_
        replace p171 := eq_true p171
        replace q171 := eq_true q171
        go_upto_region 5 with (first | ((with_reducible refine gate_dst (N := 9) rfl ?_); refine box_event ?hg (N := 9) ?hd (cs := #[.int .i64 0, .string (⟨#[]⟩ : ByteArray), .int .i64 0, .int .i64 0]) (t := 51) ?hr ?_; (case hd => rfl); (case hg => rfl); (case hr => first | (go_simp; done) | (go_simp; rfl)); intro gb hgb w9 hbox hb; have HM9 := Aside0.mk (Kd.R_below (Kd.R_elderB (by (with_reducible repeat (first | apply Kd.R_alloc | apply Kd.R_drewN | apply Kd.R_drew)); exact HO_7.out) gb (Nat.le_of_eq hgb.symm)) hb); have HB9 := Aside0.mk (below_step (by repeat (first | (with_reducible first | exact HB.out | apply below_alloc | apply pw_below_drewN | apply below_drew1) | exact HB.out)) hb); have BK := Aside0.mk hbox; have HG := Aside0.mk ((by rw [hgb]; exact (below_size (by repeat (first | (with_reducible first | exact HB.out | apply below_alloc | apply pw_below_drewN | apply below_drew1) | exact HB.out)))) : w.heap.size ≤ gb); clear HO_7 HB hb hbox hgb; have hcz0 : w9.cell? ⟨gb, 0, none⟩ = some (.int .i64 0) := (blk_cell BK.out 0).trans rfl; have hcz1 : w9.cell? ⟨gb, 1, none⟩ = some (.string (⟨#[]⟩ : ByteArray)) := (blk_cell BK.out 1).trans rfl; have hcz2 : w9.cell? ⟨gb, 2, none⟩ = some (.int .i64 0) := (blk_cell BK.out 2).trans rfl; have hcz3 : w9.cell? ⟨gb, 3, none⟩ = some (.int .i64 0) := (blk_cell BK.out 3).trans rfl; have hfz0 := blk_frozen BK.out 0; have hfz1 := blk_frozen BK.out 1; have hfz2 := blk_frozen BK.out 2; have hfz3 := blk_frozen BK.out 3))
        have n0_ := Aside0.mk (Kd.R_far (p := ⟨gb, 3, none⟩) (Kd.R_far (p := ⟨gb, 2, none⟩) (Kd.R_far (p := ⟨gb, 1, none⟩) (Kd.R_far (p := ⟨gb, 0, none⟩) HM9.out (fun _ hk => hk.2) (.int .i64 x.f0)) (fun _ hk => hk.2) (.string x.f1)) (fun _ hk => hk.2) (.int .i64 x.f2)) (fun _ hk => hk.2) (.int .i64 x.f3))
        have n1_ := Aside0.mk (node_copied BK.out x)
        have n2_ := Aside0.mk (below_set (j := 3) (v := .int .i64 x.f3) (below_set (j := 2) (v := .int .i64 x.f2) (below_set (j := 1) (v := .string x.f1) (below_set (j := 0) (v := .int .i64 x.f0) HB9.out HG.out) HG.out) HG.out) HG.out)
        clear HM9 BK HB9 hcz0 hcz1 hcz2 hcz3 hfz0 hfz1 hfz2 hfz3 hx0 hx1 hx2 hx3 p171 q171
        generalize ((((w9.setCell ⟨gb, 0, none⟩ (.int .i64 x.f0)).setCell ⟨gb, 1, none⟩ (.string x.f1)).setCell ⟨gb, 2, none⟩ (.int .i64 x.f2)).setCell ⟨gb, 3, none⟩ (.int .i64 x.f3)) = w14 at n0_ n1_ n2_ ⊢
        have hk0 : w14.cell? ⟨gb, 0, none⟩ = some (.int .i64 x.f0) := (blk_cell n1_.out 0).trans rfl
        have hk1 : w14.cell? ⟨gb, 1, none⟩ = some (.string x.f1) := (blk_cell n1_.out 1).trans rfl
        have hk2 : w14.cell? ⟨gb, 2, none⟩ = some (.int .i64 x.f2) := (blk_cell n1_.out 2).trans rfl
        have hk3 : w14.cell? ⟨gb, 3, none⟩ = some (.int .i64 x.f3) := (blk_cell n1_.out 3).trans rfl
        have hf2 := blk_frozen n1_.out 2
        have hf3 := blk_frozen n1_.out 3
        go_upto_if 20 with fail
        go_cut [20] from 15 to 40 (fun v20 wc => Aside0 (wc.heap[gb]? = some (.cells #[.int .i64 x.f0, .string x.f1, .int .i64 A_, .int .i64 x.f3] 51 (0, 0)) ∧ Kd.R k51 51 wc w.heap.size (fun k_ => True ∧ k_ ≠ gb) u7 x7_1 ∧ Below w.heap.size w wc))
        case first =>
          go_wp2
          all_goals go_meet
          all_goals
            have eh0 := HA_.out
            by_cases h0 : x.f0 > 0
            · try (exfalso; omega)
              all_goals
                rw [if_pos h0] at eh0
                subst eh0
                refine ⟨?_, ?_, ?_⟩
                · (with_reducible repeat (first | refine blk_drewN ?_ _ | refine blk_drew ?_ | refine blk_alloc ?_ _)); refine blk_put (cs := #[.int .i64 x.f0, .string x.f1, .int .i64 x.f2, .int .i64 x.f3]) ?_ 2 _ rfl; (with_reducible repeat (first | refine blk_drewN ?_ _ | refine blk_drew ?_ | refine blk_alloc ?_ _)); exact n1_.out
                · (with_reducible repeat (first | apply Kd.R_alloc | apply Kd.R_drewN | apply Kd.R_drew)); refine Kd.R_far (p := ⟨gb, 2, none⟩) ?_ (fun _ hk => hk.2) _; (with_reducible repeat (first | apply Kd.R_alloc | apply Kd.R_drewN | apply Kd.R_drew)); exact n0_.out
                · repeat (first | (with_reducible first | exact n2_.out | apply below_alloc | apply pw_below_drewN | apply below_drew1 | refine below_set ?_ HG.out) | exact n2_.out)
            · try (exfalso; omega)
              all_goals
                rw [if_neg h0] at eh0
                subst eh0
                refine ⟨?_, ?_, ?_⟩
                · (with_reducible repeat (first | refine blk_drewN ?_ _ | refine blk_drew ?_ | refine blk_alloc ?_ _)); exact n1_.out
                · (with_reducible repeat (first | apply Kd.R_alloc | apply Kd.R_drewN | apply Kd.R_drew)); exact n0_.out
                · repeat (first | (with_reducible first | exact n2_.out | apply below_alloc | apply pw_below_drewN | apply below_drew1) | exact n2_.out)
        case rest =>
          have m0_ := Aside0.mk hcut.out.2.1
          have m1_ := Aside0.mk hcut.out.1
          have m2_ := Aside0.mk hcut.out.2.2
          clear hcut n0_ n1_ n2_ hk0 hk1 hk2 hk3 hf2 hf3
          have n0_ := m0_
          have n1_ := m1_
          have n2_ := m2_
          clear m0_ m1_ m2_
          have hk0 : wc.cell? ⟨gb, 0, none⟩ = some (.int .i64 x.f0) := (blk_cell n1_.out 0).trans rfl
          have hk1 : wc.cell? ⟨gb, 1, none⟩ = some (.string x.f1) := (blk_cell n1_.out 1).trans rfl
          have hk2 : wc.cell? ⟨gb, 2, none⟩ = some (.int .i64 A_) := (blk_cell n1_.out 2).trans rfl
          have hk3 : wc.cell? ⟨gb, 3, none⟩ = some (.int .i64 x.f3) := (blk_cell n1_.out 3).trans rfl
          have hf2 := blk_frozen n1_.out 2
          have hf3 := blk_frozen n1_.out 3
          go_upto_if 29 with fail
          go_cut [29] from 15 to 40 (fun v29 wc => Aside0 (wc.heap[gb]? = some (.cells #[.int .i64 x.f0, .string x.f1, .int .i64 A_, .int .i64 B_] 51 (0, 0)) ∧ Kd.R k51 51 wc w.heap.size (fun k_ => True ∧ k_ ≠ gb) u7 x7_1 ∧ Below w.heap.size w wc))
          case first =>
            go_wp2
            all_goals go_meet
            all_goals
              have eh1 := HB_.out
              by_cases h1 : x.f0 > 1
              · try (exfalso; omega)
                all_goals
                  rw [if_pos h1] at eh1
                  subst eh1
                  refine ⟨?_, ?_, ?_⟩
                  · (with_reducible repeat (first | refine blk_drewN ?_ _ | refine blk_drew ?_ | refine blk_alloc ?_ _)); refine blk_put (cs := #[.int .i64 x.f0, .string x.f1, .int .i64 A_, .int .i64 x.f3]) ?_ 3 _ rfl; (with_reducible repeat (first | refine blk_drewN ?_ _ | refine blk_drew ?_ | refine blk_alloc ?_ _)); exact n1_.out
                  · (with_reducible repeat (first | apply Kd.R_alloc | apply Kd.R_drewN | apply Kd.R_drew)); refine Kd.R_far (p := ⟨gb, 3, none⟩) ?_ (fun _ hk => hk.2) _; (with_reducible repeat (first | apply Kd.R_alloc | apply Kd.R_drewN | apply Kd.R_drew)); exact n0_.out
                  · repeat (first | (with_reducible first | exact n2_.out | apply below_alloc | apply pw_below_drewN | apply below_drew1 | refine below_set ?_ HG.out) | exact n2_.out)
              · try (exfalso; omega)
                all_goals
                  rw [if_neg h1] at eh1
                  subst eh1
                  refine ⟨?_, ?_, ?_⟩
                  · (with_reducible repeat (first | refine blk_drewN ?_ _ | refine blk_drew ?_ | refine blk_alloc ?_ _)); exact n1_.out
                  · (with_reducible repeat (first | apply Kd.R_alloc | apply Kd.R_drewN | apply Kd.R_drew)); exact n0_.out
                  · repeat (first | (with_reducible first | exact n2_.out | apply below_alloc | apply pw_below_drewN | apply below_drew1) | exact n2_.out)
          case rest =>
            have m0_ := Aside0.mk hcut.out.2.1
            have m1_ := Aside0.mk hcut.out.1
            have m2_ := Aside0.mk hcut.out.2.2
            clear hcut n0_ n1_ n2_ hk0 hk1 hk2 hk3 hf2 hf3
            have n0_ := m0_
            have n1_ := m1_
            have n2_ := m2_
            clear m0_ m1_ m2_
            have hk0 : wc.cell? ⟨gb, 0, none⟩ = some (.int .i64 x.f0) := (blk_cell n1_.out 0).trans rfl
            have hk1 : wc.cell? ⟨gb, 1, none⟩ = some (.string x.f1) := (blk_cell n1_.out 1).trans rfl
            have hk2 : wc.cell? ⟨gb, 2, none⟩ = some (.int .i64 A_) := (blk_cell n1_.out 2).trans rfl
            have hk3 : wc.cell? ⟨gb, 3, none⟩ = some (.int .i64 B_) := (blk_cell n1_.out 3).trans rfl
            have hf2 := blk_frozen n1_.out 2
            have hf3 := blk_frozen n1_.out 3
            go_wp2_with (first | ((with_reducible refine gate_builtin (b := .append) (xs := #[.tmp 36, .tmp 38]) rfl ?_); at_builtin; refine Kd.R_append k51 (w0 := w) w.heap.size rfl (.tmp 36) (.tmp 38) 22 51 (.agg #[(.int .i64 0), (.string ⟨#[]⟩), (.int .i64 0), (.int .i64 0)]) 40 rfl Tryd.underlying22 info51 rfl (by decide) (by omega) u7 x7_1 (⟨x.f0, x.f1, A_, B_⟩ : S51) [.int .i64 x.f0, .string x.f1, .int .i64 A_, .int .i64 B_] (fun k_ => k_ ≠ gb) (fun _ => False) rfl (by first | (go_simp; done) | (go_simp; rfl)) ?aP (fun _ hk => hk.elim) ?aF ?aO ?aB ?aS ?aL ?_; (case aP => exact k51_mkM _ _ _ (⟨x.f0, x.f1, A_, B_⟩ : S51)); (case aB => exact (by repeat (first | (with_reducible first | exact n2_.out | apply below_alloc | apply pw_below_drewN | apply below_drew1) | exact n2_.out))); (case aF => exact (fun k_ hk => Kd.freshB (g := gb) (o := .cells #[.int .i64 x.f0, .string x.f1, .int .i64 A_, .int .i64 B_] 51 (0, 0)) (by (with_reducible repeat (first | refine blk_drewN ?_ _ | refine blk_drew ?_ | refine blk_alloc ?_ _)); exact n1_.out) k_ hk)); (case aO => exact (by (with_reducible repeat (first | apply Kd.R_alloc | apply Kd.R_drewN | apply Kd.R_drew)); exact Kd.R_mono n0_.out (fun _ hk => hk.2))); (case aS => exact (below_size (by repeat (first | (with_reducible first | exact n2_.out | apply below_alloc | apply pw_below_drewN | apply below_drew1) | exact n2_.out)))); (case aL => have := LM.out; omega); intro v174 wz ho hb hg hat; have HBz := Aside0.mk hb; have HOz := Aside0.mk ho; clear n0_ n1_ n2_ hk0 hk1 hk2 hk3 hf2 hf3; clear ho hb hg hat))
            go_roundg k1
            case measure => have := HK1.out; omega
            case rel => exact ⟨(x7_1 ++ [(⟨x.f0, x.f1, A_, B_⟩ : S51)]), (wrap64 (x14_1 + 1)), (by first | rfl | (simp; done) | (simp [*]; done)), H', ⟨by have := HK1.out; omega⟩, ⟨by (with_reducible repeat (first | apply Kd.R_alloc | apply Kd.R_drewN | apply Kd.R_drew)); exact Kd.R_mono HOz.out (fun _ hk => trivial)⟩, ⟨by repeat (first | (with_reducible first | exact HBz.out | apply below_alloc | apply pw_below_drewN | apply below_drew1) | exact HBz.out)⟩⟩
      · simp only [expr_both.l0] at H
        rw [if_neg c6] at H
        have c6b0 : decide (x14_1 < (l2.length : Int)) = false := decide_eq_false c6
        clear c6
        by_cases c28 : x7_1.length < 3518437208883
        · rw [if_pos c28] at H
          have LMc28 := Aside0.mk c28
          clear c28
          obtain ⟨y168, hy168⟩ : ∃ y_ : List (S51), y_ = (x7_1 ++ [(⟨a0, (⟨#[]⟩ : ByteArray), wrap64 ((l1.length : Int) - 1), wrap64 ((x7_1.length : Int) - 1)⟩ : S51)]) := ⟨_, rfl⟩
          replace H : (some y168) = some r := by first | (rw [hy168]; with_reducible exact H) | (have H2_ := (Option.bind_some _ _).symm.trans H; rw [hy168]; with_reducible exact H2_) | (have H2_ := (Option.bind_some _ _).symm.trans H; with_reducible exact H2_) | with_reducible exact H | (rw [hy168]; exact H) | exact H
          have Ny168 := Aside0.mk hy168
          clear hy168
          obtain rfl := Option.some.inj H
          obtain ⟨Ao29, co29, eo29⟩ := Kd.R_slice HO_7.out
          subst eo29
          go_wp2_with (first | ((with_reducible refine gate_builtin (b := .append) (xs := #[.tmp 41, .tmp 50]) rfl ?_); at_builtin; refine Kd.R_append k51 (w0 := w) w.heap.size rfl (.tmp 41) (.tmp 50) 22 51 (.agg #[(.int .i64 0), (.string ⟨#[]⟩), (.int .i64 0), (.int .i64 0)]) 40 rfl Tryd.underlying22 info51 rfl (by decide) (by omega) (.slice Ao29 x7_1.length co29) x7_1 (⟨a0, (⟨#[]⟩ : ByteArray), wrap64 ((l1.length : Int) - 1), wrap64 ((x7_1.length : Int) - 1)⟩ : S51) [.int .i64 a0, .string (⟨#[]⟩ : ByteArray), .int .i64 (wrap64 ((l1.length : Int) - 1)), .int .i64 (wrap64 ((x7_1.length : Int) - 1))] (fun _ => True) (fun _ => False) rfl rfl ?aP (fun _ hk => hk.elim) ?aF ?aO ?aB ?aS ?aL ?_; (case aP => exact k51_mkM _ _ _ (⟨a0, (⟨#[]⟩ : ByteArray), wrap64 ((l1.length : Int) - 1), wrap64 ((x7_1.length : Int) - 1)⟩ : S51)); (case aB => exact (by repeat (first | (with_reducible first | exact HB.out | apply below_alloc | apply pw_below_drewN | apply below_drew1) | exact HB.out))); (case aF => exact (fun _ _ => trivial)); (case aO => exact (by (with_reducible repeat (first | apply Kd.R_alloc | apply Kd.R_drewN | apply Kd.R_drew)); exact HO_7.out)); (case aS => exact (below_size (by repeat (first | (with_reducible first | exact HB.out | apply below_alloc | apply pw_below_drewN | apply below_drew1) | exact HB.out)))); (case aL => have := LMc28.out; omega); intro v169 w30 ho hb hg hat; rw [← Ny168.out] at ho; have n0_ := Aside0.mk (hb); have n1_ := Aside0.mk (ho); clear HB; clear HO_7; have HB := n0_; have HO170 := n1_; clear n0_ n1_; clear ho hb hg hat))
          go_ret
          exact ⟨_, by first | rfl | (simp [errW_none, errW_some] <;> rfl) | (simp [*, errW_none, errW_some] <;> rfl), by (with_reducible repeat (first | apply Kd.R_alloc | apply Kd.R_drewN | apply Kd.R_drew)); exact HO170.out, by repeat (first | (with_reducible first | exact HB.out | apply below_alloc | apply pw_below_drewN | apply below_drew1) | exact HB.out)⟩
        · rw [if_neg c28] at H
          exact absurd H (by simp)

/-! ### expr_And: function 18 -/
def expr_And.f (k : Nat) (l0 : List (S51)) (l1 : List (S51)) : Option ((List (S51))) := (expr_both.f k 2 l0 l1).bind fun t185 => (some t185)
theorem expr_And.mono : ∀ a0 a1 k, LeO (expr_And.f k a0 a1) (expr_And.f (k + 1) a0 a1) := by
  intro a0 a1 k
  unfold expr_And.f
  repeat' first
      | (with_reducible exact expr_both.mono _ _ _ _)
      | (with_reducible exact LeO.refl _)
      | (with_reducible exact LeO.none _)
      | (with_reducible refine LeO.ite ?_ ?_)
      | (with_reducible refine LeO.bind ?_ (fun _ => ?_))
      | exact expr_both.mono _ _ _ _
      | exact LeO.none _
      | refine LeO.ite ?_ ?_
      | refine LeO.bind ?_ (fun _ => ?_)
set_option maxHeartbeats 8000000 in
set_option maxRecDepth 100000 in
theorem expr_And.calls (k : Nat) (A0 : Option Addr) (c0 : Nat) (l0 : List (S51)) (A1 : Option Addr) (c1 : Nat) (l1 : List (S51)) (r : List (S51)) (w : World) (hr0 : Kd.C k51 w A0 l0.length l0) (hc0 : l0.length ≤ c0) (hr1 : Kd.C k51 w A1 l1.length l1) (hc1 : l1.length ≤ c1) (h : expr_And.f k l0 l1 = some r) :
    Calls Tryd.prog 18 #[.slice A0 l0.length c0, .slice A1 l1.length c1] w fun e w' => ∃ v0_ : Value, e = .returned (v0_) ∧ Kd.R k51 51 w' w.heap.size (fun _ => True) v0_ r ∧ Below w.heap.size w w' := by
  have HR0 := Aside0.mk hr0
  have HC0 := Aside0.mk hc0
  clear hr0 hc0
  have HR1 := Aside0.mk hr1
  have HC1 := Aside0.mk hc1
  clear hr1 hc1
  have HB := Aside0.mk (Below.refl w.heap.size w)
  have H : ((expr_both.f k 2 l0 l1).bind fun t185 => (some t185)) = some r := h
  clear h
  replace H := Option.bind_eq_some_iff.mp H
  obtain ⟨t185, A30, H⟩ := H
  replace H : (some t185) = some r := H
  have A3 := Aside0.mk A30
  clear A30
  obtain rfl := Option.some.inj H
  go_enter Tryd.func18, Tryd.ntmps18
  go_wp2_with (first | ((with_reducible refine gate_callee (f := 40) rfl ?_); refine goesL_ (some 7) rfl rfl Tryd.func40 (by kernel_rfl) rfl #[.int .i64 2, .slice A0 l0.length c0, .slice A1 l1.length c1] rfl (by (try simp only [List.map_toArray, List.map_cons, List.map_nil]); first | done | rfl | (simp only [List.length_drop, List.length_take]; rfl)) ?_; (with_reducible refine (expr_both.calls k 2 _ _ l0 _ _ l1 t185 _ ?side1 ?side2 ?side3 ?side4 A3.out).mono ?_); (case side1 => repeat (first | exact HR0.out | (with_reducible refine Kd.C_alloc ?_ _) | (with_reducible refine Kd.C_drewN ?_ _) | (with_reducible refine Kd.C_drew ?_))); (case side2 => exact HC0.out); (case side3 => repeat (first | exact HR1.out | (with_reducible refine Kd.C_alloc ?_ _) | (with_reducible refine Kd.C_drewN ?_ _) | (with_reducible refine Kd.C_drew ?_))); (case side4 => exact HC1.out); rintro e w4 ⟨v186, rfl, ho0, hb⟩; clear A3; refine ⟨_, rfl, ?_⟩; have n0_ := Aside0.mk (Kd.R_lower ho0 (below_size (by repeat (first | (with_reducible first | exact HB.out | apply below_alloc | apply pw_below_drewN | apply below_drew1) | exact HB.out)))); have n1_ := Aside0.mk (below_step (by repeat (first | (with_reducible first | exact HB.out | apply below_alloc | apply pw_below_drewN | apply below_drew1) | exact HB.out)) hb); clear HB; have HO187 := n0_; have HB := n1_; clear n0_ n1_; (try clear hb); (try clear hb2); (try clear hk); (try clear hi); (try clear ho0)))
  go_ret
  exact ⟨_, by first | rfl | (simp [errW_none, errW_some] <;> rfl) | (simp [*, errW_none, errW_some] <;> rfl), by (with_reducible repeat (first | apply Kd.R_alloc | apply Kd.R_drewN | apply Kd.R_drew)); exact HO187.out, by repeat (first | (with_reducible first | exact HB.out | apply below_alloc | apply pw_below_drewN | apply below_drew1) | exact HB.out)⟩

/-! ### expr_Or: function 19 -/
def expr_Or.f (k : Nat) (l0 : List (S51)) (l1 : List (S51)) : Option ((List (S51))) := (expr_both.f k 3 l0 l1).bind fun t188 => (some t188)
theorem expr_Or.mono : ∀ a0 a1 k, LeO (expr_Or.f k a0 a1) (expr_Or.f (k + 1) a0 a1) := by
  intro a0 a1 k
  unfold expr_Or.f
  repeat' first
      | (with_reducible exact expr_both.mono _ _ _ _)
      | (with_reducible exact LeO.refl _)
      | (with_reducible exact LeO.none _)
      | (with_reducible refine LeO.ite ?_ ?_)
      | (with_reducible refine LeO.bind ?_ (fun _ => ?_))
      | exact expr_both.mono _ _ _ _
      | exact LeO.none _
      | refine LeO.ite ?_ ?_
      | refine LeO.bind ?_ (fun _ => ?_)
set_option maxHeartbeats 8000000 in
set_option maxRecDepth 100000 in
theorem expr_Or.calls (k : Nat) (A0 : Option Addr) (c0 : Nat) (l0 : List (S51)) (A1 : Option Addr) (c1 : Nat) (l1 : List (S51)) (r : List (S51)) (w : World) (hr0 : Kd.C k51 w A0 l0.length l0) (hc0 : l0.length ≤ c0) (hr1 : Kd.C k51 w A1 l1.length l1) (hc1 : l1.length ≤ c1) (h : expr_Or.f k l0 l1 = some r) :
    Calls Tryd.prog 19 #[.slice A0 l0.length c0, .slice A1 l1.length c1] w fun e w' => ∃ v0_ : Value, e = .returned (v0_) ∧ Kd.R k51 51 w' w.heap.size (fun _ => True) v0_ r ∧ Below w.heap.size w w' := by
  have HR0 := Aside0.mk hr0
  have HC0 := Aside0.mk hc0
  clear hr0 hc0
  have HR1 := Aside0.mk hr1
  have HC1 := Aside0.mk hc1
  clear hr1 hc1
  have HB := Aside0.mk (Below.refl w.heap.size w)
  have H : ((expr_both.f k 3 l0 l1).bind fun t188 => (some t188)) = some r := h
  clear h
  replace H := Option.bind_eq_some_iff.mp H
  obtain ⟨t188, A30, H⟩ := H
  replace H : (some t188) = some r := H
  have A3 := Aside0.mk A30
  clear A30
  obtain rfl := Option.some.inj H
  go_enter Tryd.func19, Tryd.ntmps19
  go_wp2_with (first | ((with_reducible refine gate_callee (f := 40) rfl ?_); refine goesL_ (some 7) rfl rfl Tryd.func40 (by kernel_rfl) rfl #[.int .i64 3, .slice A0 l0.length c0, .slice A1 l1.length c1] rfl (by (try simp only [List.map_toArray, List.map_cons, List.map_nil]); first | done | rfl | (simp only [List.length_drop, List.length_take]; rfl)) ?_; (with_reducible refine (expr_both.calls k 3 _ _ l0 _ _ l1 t188 _ ?side1 ?side2 ?side3 ?side4 A3.out).mono ?_); (case side1 => repeat (first | exact HR0.out | (with_reducible refine Kd.C_alloc ?_ _) | (with_reducible refine Kd.C_drewN ?_ _) | (with_reducible refine Kd.C_drew ?_))); (case side2 => exact HC0.out); (case side3 => repeat (first | exact HR1.out | (with_reducible refine Kd.C_alloc ?_ _) | (with_reducible refine Kd.C_drewN ?_ _) | (with_reducible refine Kd.C_drew ?_))); (case side4 => exact HC1.out); rintro e w4 ⟨v189, rfl, ho0, hb⟩; clear A3; refine ⟨_, rfl, ?_⟩; have n0_ := Aside0.mk (Kd.R_lower ho0 (below_size (by repeat (first | (with_reducible first | exact HB.out | apply below_alloc | apply pw_below_drewN | apply below_drew1) | exact HB.out)))); have n1_ := Aside0.mk (below_step (by repeat (first | (with_reducible first | exact HB.out | apply below_alloc | apply pw_below_drewN | apply below_drew1) | exact HB.out)) hb); clear HB; have HO190 := n0_; have HB := n1_; clear n0_ n1_; (try clear hb); (try clear hb2); (try clear hk); (try clear hi); (try clear ho0)))
  go_ret
  exact ⟨_, by first | rfl | (simp [errW_none, errW_some] <;> rfl) | (simp [*, errW_none, errW_some] <;> rfl), by (with_reducible repeat (first | apply Kd.R_alloc | apply Kd.R_drewN | apply Kd.R_drew)); exact HO190.out, by repeat (first | (with_reducible first | exact HB.out | apply below_alloc | apply pw_below_drewN | apply below_drew1) | exact HB.out)⟩

end Go.Proofs.YtfnikmkjhbbbgaaDoor.HExpr
