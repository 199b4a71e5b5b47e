-- laid by a program of this session: the print's own machine, with the functions that are proved by hand
import Derived.Test.YtfnikmkjhbbbgaaDoorHExprx0
import Derived.Test.YtfnikmkjhbbbgaaDoorHExprx1
import Derived.Deep.CutRange
namespace Go.Proofs.YtfnikmkjhbbbgaaDoor.HExpr
open Go.RowKit Go.Proofs.YtfnikmkjhbbbgaaDoorW.PrintWords Go.Proofs.YtfnikmkjhbbbgaaDoorW.PrintLast Go.Proofs.YtfnikmkjhbbbgaaDoorW.PrintMore
attribute [local go_sem] max2_int min2_int max_two min_two max_three min_three max_four min_four   -- for this text's walks alone
set_option linter.unusedVariables false
set_option linter.unusedSimpArgs false

attribute [local go_sem high] eqA57
/-! ### graftbedref12_Same: function 20 -/
def graftbedref12_Same.l0 : Nat → List (S57) → List (S57) → Int → Option (Bool)
  | 0, _, _, _ => none
  | k + 1, x0, x1, x5 => if x5 < (x0.length : Int) then (if 0 ≤ x5 then (if x5 < (x1.length : Int) then (if (!(((rd_T57 x0 x5).f0) == ((rd_T57 x1 x5).f0)) || (!((((rd_T57 x0 x5).f1).toList) == (((rd_T57 x1 x5).f1).toList)) || (!(((rd_T57 x0 x5).f2) == ((rd_T57 x1 x5).f2)) || (!(((rd_T57 x0 x5).f3) == ((rd_T57 x1 x5).f3)))))) = true then (some false) else (graftbedref12_Same.l0 k x0 x1 (wrap64 (x5 + 1)))) else (none)) else (none)) else (some true)
def graftbedref12_Same.f (k : Nat) (l0 : List (S57)) (l1 : List (S57)) : Option (Bool) := if (l0.length : Int) = (l1.length : Int) then (graftbedref12_Same.l0 k l0 l1 0) else (some false)
theorem graftbedref12_Same.mono_l : ∀ k, (∀ y0 y1 y2, LeO (graftbedref12_Same.l0 k y0 y1 y2) (graftbedref12_Same.l0 (k + 1) y0 y1 y2))
  | 0 => fun _ _ _ r h => by simp [graftbedref12_Same.l0] at h
  | k + 1 => by
    have ih0 := graftbedref12_Same.mono_l k
    · intro y0 y1 y2
      unfold graftbedref12_Same.l0
      repeat' first
      | (with_reducible exact ih0 _ _ _)
      | (with_reducible exact LeO.refl _)
      | (with_reducible exact LeO.none _)
      | (with_reducible refine LeO.ite ?_ ?_)
      | (with_reducible refine LeO.bind ?_ (fun _ => ?_))
      | exact ih0 _ _ _
      | exact LeO.none _
      | refine LeO.ite ?_ ?_
      | refine LeO.bind ?_ (fun _ => ?_)
theorem graftbedref12_Same.mono : ∀ a0 a1 k, LeO (graftbedref12_Same.f k a0 a1) (graftbedref12_Same.f (k + 1) a0 a1) := by
  intro a0 a1 k
  have ih0 := graftbedref12_Same.mono_l k
  unfold graftbedref12_Same.f
  repeat' first
      | (with_reducible exact ih0 _ _ _)
      | (with_reducible exact LeO.refl _)
      | (with_reducible exact LeO.none _)
      | (with_reducible refine LeO.ite ?_ ?_)
      | (with_reducible refine LeO.bind ?_ (fun _ => ?_))
      | exact ih0 _ _ _
      | exact LeO.none _
      | refine LeO.ite ?_ ?_
      | refine LeO.bind ?_ (fun _ => ?_)
set_option maxHeartbeats 8000000 in
set_option maxRecDepth 100000 in
theorem graftbedref12_Same.calls (k : Nat) (A0 : Option Addr) (c0 : Nat) (l0 : List (S57)) (A1 : Option Addr) (c1 : Nat) (l1 : List (S57)) (r : Bool) (w : World) (hr0 : Kd.C k57 w A0 l0.length l0) (hc0 : l0.length ≤ c0) (hr1 : Kd.C k57 w A1 l1.length l1) (hc1 : l1.length ≤ c1) (h : graftbedref12_Same.f k l0 l1 = some r) :
    Calls Tryd.prog 20 #[.slice A0 l0.length c0, .slice A1 l1.length c1] w fun e w' => e = .returned (.bool r) ∧ Drawn0 w w' := by
  have hu57 := Tryd.underlying57
  have HR0 := Aside0.mk hr0
  have HC0 := Aside0.mk hc0
  clear hr0 hc0
  have HR1 := Aside0.mk hr1
  have HC1 := Aside0.mk hc1
  clear hr1 hc1
  have H : (if (l0.length : Int) = (l1.length : Int) then (graftbedref12_Same.l0 k l0 l1 0) else (some false)) = some r := h
  clear h
  by_cases c3 : (l0.length : Int) = (l1.length : Int)
  · rw [if_pos c3] at H
    have c3b0 : ((l0.length : Int) == (l1.length : Int)) = true := beq_iff_eq.mpr c3
    have c3b1 : ((l0.length : Int) != (l1.length : Int)) = false := bne_eq_false_iff_eq.mpr c3
    have c3b2 : (l0.length == l1.length) = true := by first | simpa using c3 | (simp at c3 ⊢; omega)
    clear c3
    have H' := Aside0.mk H
    clear H
    go_enter Tryd.func20, Tryd.ntmps20
    go_wp2
    repeat (go_quiet (fail); try go_wp2)
    go_loopg [5] k (fun kq v5 w' => ∃ (x5_1 : Int), v5 = .int .i64 x5_1 ∧ Aside0 (graftbedref12_Same.l0 kq l0 l1 x5_1 = some r) ∧ Aside0 (kq ≤ k) ∧ Drawn0 w w')
    case atStart => exact ⟨(0), (by first | rfl | (simp; done) | (simp [*]; done)), H', ⟨Nat.le_refl _⟩, by repeat (first | exact Drawn0.refl _ | apply Drawn0.step)⟩
    case round =>
      clear H'
      try clear c1
      try clear c2
      try clear p2
      try clear c3
      try clear c3b0
      try clear c3b1
      try clear c3b2
      obtain ⟨x5_1, rfl, HA, HK1, ⟨m1, rfl⟩⟩ := hrel
      cases gk with
      | zero => exact absurd HA.out (by simp [graftbedref12_Same.l0])
      | succ k1 =>
        have H := HA.out
        clear HA
        simp only [graftbedref12_Same.l0] at H
        by_cases c4 : x5_1 < (l0.length : Int)
        · rw [if_pos c4] at H
          have c4b0 : decide (x5_1 < (l0.length : Int)) = true := decide_eq_true c4
          clear c4
          by_cases c5 : 0 ≤ x5_1
          · rw [if_pos c5] at H
            have c5b0 : decide (0 ≤ x5_1) = true := decide_eq_true c5
            clear c5
            by_cases c6 : x5_1 < (l1.length : Int)
            · rw [if_pos c6] at H
              have c6b0 : decide (x5_1 < (l1.length : Int)) = true := decide_eq_true c6
              clear c6
              by_cases c7 : (!(((rd_T57 l0 x5_1).f0) == ((rd_T57 l1 x5_1).f0)) || (!((((rd_T57 l0 x5_1).f1).toList) == (((rd_T57 l1 x5_1).f1).toList)) || (!(((rd_T57 l0 x5_1).f2) == ((rd_T57 l1 x5_1).f2)) || (!(((rd_T57 l0 x5_1).f3) == ((rd_T57 l1 x5_1).f3)))))) = true
              · rw [if_pos c7] at H
                have c7b0 : (!(((rd_T57 l0 x5_1).f0) == ((rd_T57 l1 x5_1).f0)) || (!((((rd_T57 l0 x5_1).f1).toList) == (((rd_T57 l1 x5_1).f1).toList)) || (!(((rd_T57 l0 x5_1).f2) == ((rd_T57 l1 x5_1).f2)) || (!(((rd_T57 l0 x5_1).f3) == ((rd_T57 l1 x5_1).f3)))))) = true := c7
                clear c7
                obtain rfl := Option.some.inj H
                have p234 : 0 ≤ (x5_1 : Int) := of_decide_eq_true (by first | (with_reducible assumption) | assumption)
                have q234 : x5_1 < (l0.length : Int) := of_decide_eq_true (by first | (with_reducible assumption) | assumption)
                obtain ⟨ad234, e234, hx234_0, hx234_1, hx234_2, hx234_3⟩ := at_T57 HR0.out x5_1 p234 q234
                cases e234
                replace p234 := eq_true p234
                replace q234 := eq_true q234
                have p235 : 0 ≤ (x5_1 : Int) := of_decide_eq_true (by first | (with_reducible assumption) | assumption)
                have q235 : x5_1 < (l1.length : Int) := of_decide_eq_true (by first | (with_reducible assumption) | assumption)
                obtain ⟨ad235, e235, hx235_0, hx235_1, hx235_2, hx235_3⟩ := at_T57 HR1.out x5_1 p235 q235
                cases e235
                replace p235 := eq_true p235
                replace q235 := eq_true q235
                go_wp2
                repeat (go_quiet (fail); try go_wp2)
                go_ret
                exact ⟨by first | rfl | (simp; done) | (simp [*]; done), by repeat (first | exact Drawn0.refl _ | apply Drawn0.step)⟩
              · rw [if_neg c7] at H
                have c7b0 : (!(((rd_T57 l0 x5_1).f0) == ((rd_T57 l1 x5_1).f0)) || (!((((rd_T57 l0 x5_1).f1).toList) == (((rd_T57 l1 x5_1).f1).toList)) || (!(((rd_T57 l0 x5_1).f2) == ((rd_T57 l1 x5_1).f2)) || (!(((rd_T57 l0 x5_1).f3) == ((rd_T57 l1 x5_1).f3)))))) = false := by simpa using c7
                clear c7
                have H' := Aside0.mk H
                clear H
                have p234 : 0 ≤ (x5_1 : Int) := of_decide_eq_true (by first | (with_reducible assumption) | assumption)
                have q234 : x5_1 < (l0.length : Int) := of_decide_eq_true (by first | (with_reducible assumption) | assumption)
                obtain ⟨ad234, e234, hx234_0, hx234_1, hx234_2, hx234_3⟩ := at_T57 HR0.out x5_1 p234 q234
                cases e234
                replace p234 := eq_true p234
                replace q234 := eq_true q234
                have p235 : 0 ≤ (x5_1 : Int) := of_decide_eq_true (by first | (with_reducible assumption) | assumption)
                have q235 : x5_1 < (l1.length : Int) := of_decide_eq_true (by first | (with_reducible assumption) | assumption)
                obtain ⟨ad235, e235, hx235_0, hx235_1, hx235_2, hx235_3⟩ := at_T57 HR1.out x5_1 p235 q235
                cases e235
                replace p235 := eq_true p235
                replace q235 := eq_true q235
                go_wp2
                repeat (go_quiet (fail); try go_wp2)
                go_roundg k1
                case measure => have := HK1.out; omega
                case rel => exact ⟨(wrap64 (x5_1 + 1)), (by first | rfl | (simp; done) | (simp [*]; done)), H', ⟨by have := HK1.out; omega⟩, by repeat (first | exact Drawn0.refl _ | apply Drawn0.step)⟩
            · rw [if_neg c6] at H
              exact absurd H (by simp)
          · rw [if_neg c5] at H
            exact absurd H (by simp)
        · rw [if_neg c4] at H
          have c4b0 : decide (x5_1 < (l0.length : Int)) = false := decide_eq_false c4
          clear c4
          obtain rfl := Option.some.inj H
          go_wp2
          repeat (go_quiet (fail); try go_wp2)
          go_ret
          exact ⟨by first | rfl | (simp; done) | (simp [*]; done), by repeat (first | exact Drawn0.refl _ | apply Drawn0.step)⟩
  · rw [if_neg c3] at H
    have c3b0 : ((l0.length : Int) == (l1.length : Int)) = false := beq_eq_false_iff_ne.mpr c3
    have c3b1 : ((l0.length : Int) != (l1.length : Int)) = true := bne_iff_ne.mpr c3
    have c3b2 : (l0.length == l1.length) = false := by first | simpa using c3 | (simp at c3 ⊢; omega)
    obtain rfl := Option.some.inj H
    go_enter Tryd.func20, Tryd.ntmps20
    go_wp2
    repeat (go_quiet (fail); try go_wp2)
    go_ret
    exact ⟨by first | rfl | (simp; done) | (simp [*]; done), by repeat (first | exact Drawn0.refl _ | apply Drawn0.step)⟩

/-! ### graftbedref12_moved: function 59 -/
def graftbedref12_moved.l0 : Nat → List (S57) → Int → List (S57) → Int → Option ((List (S57)))
  | 0, _, _, _, _ => none
  | k + 1, x0, x1, x5, x6 => if x6 < (x0.length : Int) then (if 0 ≤ x6 then (if ((rd_T57 x0 x6).f0) > 0 then (if ((rd_T57 x0 x6).f0) > 1 then (if x5.length < 3518437208883 then (graftbedref12_moved.l0 k x0 x1 (x5 ++ [(⟨(rd_T57 x0 x6).f0, (rd_T57 x0 x6).f1, wrap64 (((rd_T57 x0 x6).f2) + x1), wrap64 (((rd_T57 x0 x6).f3) + x1)⟩ : S57)]) (wrap64 (x6 + 1))) else (none)) else (if x5.length < 3518437208883 then (graftbedref12_moved.l0 k x0 x1 (x5 ++ [(⟨(rd_T57 x0 x6).f0, (rd_T57 x0 x6).f1, wrap64 (((rd_T57 x0 x6).f2) + x1), (rd_T57 x0 x6).f3⟩ : S57)]) (wrap64 (x6 + 1))) else (none))) else (if ((rd_T57 x0 x6).f0) > 1 then (if x5.length < 3518437208883 then (graftbedref12_moved.l0 k x0 x1 (x5 ++ [(⟨(rd_T57 x0 x6).f0, (rd_T57 x0 x6).f1, (rd_T57 x0 x6).f2, wrap64 (((rd_T57 x0 x6).f3) + x1)⟩ : S57)]) (wrap64 (x6 + 1))) else (none)) else (if x5.length < 3518437208883 then (graftbedref12_moved.l0 k x0 x1 (x5 ++ [(⟨(rd_T57 x0 x6).f0, (rd_T57 x0 x6).f1, (rd_T57 x0 x6).f2, (rd_T57 x0 x6).f3⟩ : S57)]) (wrap64 (x6 + 1))) else (none)))) else (none)) else (some x5)
def graftbedref12_moved.f (k : Nat) (l0 : List (S57)) (a1 : Int) : Option ((List (S57))) := graftbedref12_moved.l0 k l0 a1 (([] : List (S57))) 0
theorem graftbedref12_moved.mono_l : ∀ k, (∀ y0 y1 y2 y3, LeO (graftbedref12_moved.l0 k y0 y1 y2 y3) (graftbedref12_moved.l0 (k + 1) y0 y1 y2 y3))
  | 0 => fun _ _ _ _ r h => by simp [graftbedref12_moved.l0] at h
  | k + 1 => by
    have ih0 := graftbedref12_moved.mono_l k
    · intro y0 y1 y2 y3
      unfold graftbedref12_moved.l0
      repeat' first
      | (with_reducible exact ih0 _ _ _ _)
      | (with_reducible exact LeO.refl _)
      | (with_reducible exact LeO.none _)
      | (with_reducible refine LeO.ite ?_ ?_)
      | (with_reducible refine LeO.bind ?_ (fun _ => ?_))
      | exact ih0 _ _ _ _
      | exact LeO.none _
      | refine LeO.ite ?_ ?_
      | refine LeO.bind ?_ (fun _ => ?_)
theorem graftbedref12_moved.mono : ∀ a0 a1 k, LeO (graftbedref12_moved.f k a0 a1) (graftbedref12_moved.f (k + 1) a0 a1) := by
  intro a0 a1 k
  have ih0 := graftbedref12_moved.mono_l k
  unfold graftbedref12_moved.f
  repeat' first
      | (with_reducible exact ih0 _ _ _ _)
      | (with_reducible exact LeO.refl _)
      | (with_reducible exact LeO.none _)
      | (with_reducible refine LeO.ite ?_ ?_)
      | (with_reducible refine LeO.bind ?_ (fun _ => ?_))
      | exact ih0 _ _ _ _
      | exact LeO.none _
      | refine LeO.ite ?_ ?_
      | refine LeO.bind ?_ (fun _ => ?_)
theorem node_copied57 {w9 : World} {gb : Nat} (BK : w9.heap[gb]? = some (.cells #[.int .i64 0, .string (⟨#[]⟩ : ByteArray), .int .i64 0, .int .i64 0] 57 (0, 0))) (x : S57) :
    ((((w9.setCell ⟨gb, 0, none⟩ (.int .i64 x.f0)).setCell ⟨gb, 1, none⟩ (.string x.f1)).setCell ⟨gb, 2, none⟩ (.int .i64 x.f2)).setCell ⟨gb, 3, none⟩ (.int .i64 x.f3)).heap[gb]? = some (.cells #[.int .i64 x.f0, .string x.f1, .int .i64 x.f2, .int .i64 x.f3] 57 (0, 0)) := by
  refine blk_put (cs := #[.int .i64 x.f0, .string x.f1, .int .i64 x.f2, .int .i64 0]) ?_ 3 _ rfl
  refine blk_put (cs := #[.int .i64 x.f0, .string x.f1, .int .i64 0, .int .i64 0]) ?_ 2 _ rfl
  refine blk_put (cs := #[.int .i64 x.f0, .string (⟨#[]⟩ : ByteArray), .int .i64 0, .int .i64 0]) ?_ 1 _ rfl
  exact blk_put (cs := #[.int .i64 0, .string (⟨#[]⟩ : ByteArray), .int .i64 0, .int .i64 0]) BK 0 _ rfl
/-- a round of the loop, its four ways in one -/
theorem moved_step {k : Nat} {a1 : Int} {l0 x5 r : List S57} {x6 : Int} (h : graftbedref12_moved.l0 (k + 1) l0 a1 x5 x6 = some r) (hlt : x6 < (l0.length : Int)) :
    0 ≤ x6 ∧ x5.length < 3518437208883 ∧ graftbedref12_moved.l0 k l0 a1 (x5 ++ [(⟨(rd_T57 l0 x6).f0, (rd_T57 l0 x6).f1, if (rd_T57 l0 x6).f0 > 0 then wrap64 ((rd_T57 l0 x6).f2 + a1) else (rd_T57 l0 x6).f2, if (rd_T57 l0 x6).f0 > 1 then wrap64 ((rd_T57 l0 x6).f3 + a1) else (rd_T57 l0 x6).f3⟩ : S57)]) (wrap64 (x6 + 1)) = some r := by
  simp only [graftbedref12_moved.l0] at h
  rw [if_pos hlt] at h
  by_cases h0 : 0 ≤ x6
  case neg => rw [if_neg h0] at h; cases h
  rw [if_pos h0] at h
  refine ⟨h0, ?_⟩
  by_cases h1 : (rd_T57 l0 x6).f0 > 0 <;> by_cases h2 : (rd_T57 l0 x6).f0 > 1 <;> by_cases h3 : x5.length < 3518437208883 <;>
    first | (rw [if_pos h1, if_pos h2, if_pos h3] at h; rw [if_pos h1, if_pos h2]; exact ⟨h3, h⟩) | (rw [if_pos h1, if_neg h2, if_pos h3] at h; rw [if_pos h1, if_neg h2]; exact ⟨h3, h⟩) | (rw [if_neg h1, if_pos h2, if_pos h3] at h; rw [if_neg h1, if_pos h2]; exact ⟨h3, h⟩) | (rw [if_neg h1, if_neg h2, if_pos h3] at h; rw [if_neg h1, if_neg h2]; exact ⟨h3, h⟩) | (exfalso; simp [h1, h2, h3] at h)
set_option maxHeartbeats 8000000 in
set_option maxRecDepth 100000 in
theorem graftbedref12_moved.calls (k : Nat) (A0 : Option Addr) (c0 : Nat) (l0 : List (S57)) (a1 : Int) (r : List (S57)) (w : World) (hr0 : Kd.C k57 w A0 l0.length l0) (hc0 : l0.length ≤ c0) (h : graftbedref12_moved.f k l0 a1 = some r) :
    Calls Tryd.prog 59 #[.slice A0 l0.length c0, .int .i64 a1] w fun e w' => ∃ v0_ : Value, e = .returned (v0_) ∧ Kd.R k57 57 w' w.heap.size (fun _ => True) v0_ r ∧ Below w.heap.size w w' := by
  have hu57 := Tryd.underlying57
  have HR0 := Aside0.mk hr0
  have HC0 := Aside0.mk hc0
  clear hr0 hc0
  have HB := Aside0.mk (Below.refl w.heap.size w)
  have H : (graftbedref12_moved.l0 k l0 a1 (([] : List (S57))) 0) = some r := h
  clear h
  obtain ⟨y236, hy236⟩ : ∃ y_ : List (S57), y_ = (([] : List (S57))) := ⟨_, rfl⟩
  replace H : (graftbedref12_moved.l0 k l0 a1 y236 0) = some r := by first | (rw [hy236]; with_reducible exact H) | (have H2_ := (Option.bind_some _ _).symm.trans H; rw [hy236]; with_reducible exact H2_) | (have H2_ := (Option.bind_some _ _).symm.trans H; with_reducible exact H2_) | with_reducible exact H | (rw [hy236]; exact H) | exact H
  have Ny236 := Aside0.mk hy236
  clear hy236
  have H' := Aside0.mk H
  clear H
  go_enter Tryd.func59, Tryd.ntmps59
  go_wp2_with (first | ((with_reducible refine gate_dst (N := 8) rfl ?_); refine Kd.R_lit k57 _ 57 ?hg (N := 8) ?hd (xs := ([] : List (S57))) (inner := []) (ok := fun _ => True) (okp := fun _ => True) ?hr ?hp (fun _ hk => hk) trivial (Below.refl _ _) (Nat.le_refl _) (by simp) ?_; (case hd => rfl); (case hg => rfl); (case hr => first | (go_simp; done) | (go_simp; rfl)); (case hp => exact (Reps.none _ _)); intro v237 w3 ho4 hb hg_ hnew_; clear hg_ hnew_; (first | rw [← Ny236.out] at ho4 | (simp only [Int.reduceToNat] at ho4; rw [← Ny236.out] at ho4)); have n0_ := Aside0.mk (Kd.R_lower ho4 (below_size (by repeat (first | (with_reducible first | exact HB.out | apply below_alloc | apply pw_below_drewN | apply below_drew1) | exact HB.out)))); have n1_ := Aside0.mk (below_step (by repeat (first | (with_reducible first | exact HB.out | apply below_alloc | apply pw_below_drewN | apply below_drew1) | exact HB.out)) hb); clear HB; have HO238 := n0_; have HB := n1_; clear n0_ n1_; clear hb ho4))
  go_loopg [5, 6] k (fun kq v5 v6 w' => ∃ (x5_1 : List (S57)) (x6_1 : Int), v6 = .int .i64 x6_1 ∧ Aside0 (graftbedref12_moved.l0 kq l0 a1 x5_1 x6_1 = some r) ∧ Aside0 (kq ≤ k) ∧ Aside0 (Kd.R k57 57 w' w.heap.size (fun _ => True) v5 x5_1) ∧ Aside0 (Below w.heap.size w w'))
  case atStart => exact ⟨(y236), (0), (by first | rfl | (simp; done) | (simp [*]; done)), H', ⟨Nat.le_refl _⟩, ⟨by (with_reducible repeat (first | apply Kd.R_alloc | apply Kd.R_drewN | apply Kd.R_drew)); exact HO238.out⟩, ⟨by repeat (first | (with_reducible first | exact HB.out | apply below_alloc | apply pw_below_drewN | apply below_drew1) | exact HB.out)⟩⟩
  case round =>
    clear H'
    try clear p2
    obtain ⟨x5_1, x6_1, rfl, HA, HK1, HO_5, HB⟩ := hrel
    cases gk with
    | zero => exact absurd HA.out (by simp [graftbedref12_moved.l0])
    | succ k1 =>
      have H := HA.out
      clear HA
      by_cases c5 : x6_1 < (l0.length : Int)
      · obtain ⟨p171, c11, H⟩ := moved_step H c5
        have cb0 : decide (x6_1 < (l0.length : Int)) = true := decide_eq_true c5
        have q171 := c5
        clear c5
        have LM := Aside0.mk c11
        clear c11
        obtain ⟨ad171, e171, hx0, hx1, hx2, hx3⟩ := at_T57 HR0.out x6_1 p171 q171
        cases e171
        replace hx0 := (HB.out.cell (World.block_lt_of_cell? w _ hx0)).trans hx0
        replace hx1 := (HB.out.cell (World.block_lt_of_cell? w _ hx1)).trans hx1
        replace hx2 := (HB.out.cell (World.block_lt_of_cell? w _ hx2)).trans hx2
        replace hx3 := (HB.out.cell (World.block_lt_of_cell? w _ hx3)).trans hx3
        obtain ⟨x, hx⟩ : ∃ x, x = rd_T57 l0 x6_1 := ⟨_, rfl⟩
        rw [← hx] at hx0 hx1 hx2 hx3 H
        clear hx
        obtain ⟨A_, hA_⟩ : ∃ y_, y_ = (if x.f0 > 0 then wrap64 (x.f2 + a1) else x.f2) := ⟨_, rfl⟩
        obtain ⟨B_, hB_⟩ : ∃ y_, y_ = (if x.f0 > 1 then wrap64 (x.f3 + a1) else x.f3) := ⟨_, rfl⟩
        rw [← hA_, ← hB_] at H
        have H' := Aside0.mk H
        have HA_ := Aside0.mk hA_
        have HB_ := Aside0.mk hB_
        clear H hA_ hB_
        replace p171 := eq_true p171
        replace q171 := eq_true q171
        go_upto_region 6 with (first | ((with_reducible refine gate_dst (N := 7) rfl ?_); refine box_event ?hg (N := 7) ?hd (cs := #[.int .i64 0, .string (⟨#[]⟩ : ByteArray), .int .i64 0, .int .i64 0]) (t := 57) ?hr ?_; (case hd => rfl); (case hg => rfl); (case hr => first | (go_simp; done) | (go_simp; rfl)); intro gb hgb w9 hbox hb; have HM9 := Aside0.mk (Kd.R_below (Kd.R_elderB (by (with_reducible repeat (first | apply Kd.R_alloc | apply Kd.R_drewN | apply Kd.R_drew)); exact HO_5.out) gb (Nat.le_of_eq hgb.symm)) hb); have HB9 := Aside0.mk (below_step (by repeat (first | (with_reducible first | exact HB.out | apply below_alloc | apply pw_below_drewN | apply below_drew1) | exact HB.out)) hb); have BK := Aside0.mk hbox; have HG := Aside0.mk ((by rw [hgb]; exact (below_size (by repeat (first | (with_reducible first | exact HB.out | apply below_alloc | apply pw_below_drewN | apply below_drew1) | exact HB.out)))) : w.heap.size ≤ gb); clear HO_5 HB hb hbox hgb; have hcz0 : w9.cell? ⟨gb, 0, none⟩ = some (.int .i64 0) := (blk_cell BK.out 0).trans rfl; have hcz1 : w9.cell? ⟨gb, 1, none⟩ = some (.string (⟨#[]⟩ : ByteArray)) := (blk_cell BK.out 1).trans rfl; have hcz2 : w9.cell? ⟨gb, 2, none⟩ = some (.int .i64 0) := (blk_cell BK.out 2).trans rfl; have hcz3 : w9.cell? ⟨gb, 3, none⟩ = some (.int .i64 0) := (blk_cell BK.out 3).trans rfl; have hfz0 := blk_frozen BK.out 0; have hfz1 := blk_frozen BK.out 1; have hfz2 := blk_frozen BK.out 2; have hfz3 := blk_frozen BK.out 3))
        have n0_ := Aside0.mk (Kd.R_far (p := ⟨gb, 3, none⟩) (Kd.R_far (p := ⟨gb, 2, none⟩) (Kd.R_far (p := ⟨gb, 1, none⟩) (Kd.R_far (p := ⟨gb, 0, none⟩) HM9.out (fun _ hk => hk.2) (.int .i64 x.f0)) (fun _ hk => hk.2) (.string x.f1)) (fun _ hk => hk.2) (.int .i64 x.f2)) (fun _ hk => hk.2) (.int .i64 x.f3))
        have n1_ := Aside0.mk (node_copied57 BK.out x)
        have n2_ := Aside0.mk (below_set (j := 3) (v := .int .i64 x.f3) (below_set (j := 2) (v := .int .i64 x.f2) (below_set (j := 1) (v := .string x.f1) (below_set (j := 0) (v := .int .i64 x.f0) HB9.out HG.out) HG.out) HG.out) HG.out)
        clear HM9 BK HB9 hcz0 hcz1 hcz2 hcz3 hfz0 hfz1 hfz2 hfz3 hx0 hx1 hx2 hx3 p171 q171
        generalize ((((w9.setCell ⟨gb, 0, none⟩ (.int .i64 x.f0)).setCell ⟨gb, 1, none⟩ (.string x.f1)).setCell ⟨gb, 2, none⟩ (.int .i64 x.f2)).setCell ⟨gb, 3, none⟩ (.int .i64 x.f3)) = w14 at n0_ n1_ n2_ ⊢
        have hk0 : w14.cell? ⟨gb, 0, none⟩ = some (.int .i64 x.f0) := (blk_cell n1_.out 0).trans rfl
        have hk1 : w14.cell? ⟨gb, 1, none⟩ = some (.string x.f1) := (blk_cell n1_.out 1).trans rfl
        have hk2 : w14.cell? ⟨gb, 2, none⟩ = some (.int .i64 x.f2) := (blk_cell n1_.out 2).trans rfl
        have hk3 : w14.cell? ⟨gb, 3, none⟩ = some (.int .i64 x.f3) := (blk_cell n1_.out 3).trans rfl
        have hf2 := blk_frozen n1_.out 2
        have hf3 := blk_frozen n1_.out 3
        go_upto_if 21 with fail
        go_cut [21] from 9 to 38 (fun v21 wc => Aside0 (wc.heap[gb]? = some (.cells #[.int .i64 x.f0, .string x.f1, .int .i64 A_, .int .i64 x.f3] 57 (0, 0)) ∧ Kd.R k57 57 wc w.heap.size (fun k_ => True ∧ k_ ≠ gb) u5 x5_1 ∧ Below w.heap.size w wc))
        case first =>
          go_wp2
          all_goals go_meet
          all_goals
            have eh0 := HA_.out
            by_cases h0 : x.f0 > 0
            · try (exfalso; omega)
              all_goals
                rw [if_pos h0] at eh0
                subst eh0
                refine ⟨?_, ?_, ?_⟩
                · (with_reducible repeat (first | refine blk_drewN ?_ _ | refine blk_drew ?_ | refine blk_alloc ?_ _)); refine blk_put (cs := #[.int .i64 x.f0, .string x.f1, .int .i64 x.f2, .int .i64 x.f3]) ?_ 2 _ rfl; (with_reducible repeat (first | refine blk_drewN ?_ _ | refine blk_drew ?_ | refine blk_alloc ?_ _)); exact n1_.out
                · (with_reducible repeat (first | apply Kd.R_alloc | apply Kd.R_drewN | apply Kd.R_drew)); refine Kd.R_far (p := ⟨gb, 2, none⟩) ?_ (fun _ hk => hk.2) _; (with_reducible repeat (first | apply Kd.R_alloc | apply Kd.R_drewN | apply Kd.R_drew)); exact n0_.out
                · repeat (first | (with_reducible first | exact n2_.out | apply below_alloc | apply pw_below_drewN | apply below_drew1 | refine below_set ?_ HG.out) | exact n2_.out)
            · try (exfalso; omega)
              all_goals
                rw [if_neg h0] at eh0
                subst eh0
                refine ⟨?_, ?_, ?_⟩
                · (with_reducible repeat (first | refine blk_drewN ?_ _ | refine blk_drew ?_ | refine blk_alloc ?_ _)); exact n1_.out
                · (with_reducible repeat (first | apply Kd.R_alloc | apply Kd.R_drewN | apply Kd.R_drew)); exact n0_.out
                · repeat (first | (with_reducible first | exact n2_.out | apply below_alloc | apply pw_below_drewN | apply below_drew1) | exact n2_.out)
        case rest =>
          have m0_ := Aside0.mk hcut.out.2.1
          have m1_ := Aside0.mk hcut.out.1
          have m2_ := Aside0.mk hcut.out.2.2
          clear hcut n0_ n1_ n2_ hk0 hk1 hk2 hk3 hf2 hf3
          have n0_ := m0_
          have n1_ := m1_
          have n2_ := m2_
          clear m0_ m1_ m2_
          have hk0 : wc.cell? ⟨gb, 0, none⟩ = some (.int .i64 x.f0) := (blk_cell n1_.out 0).trans rfl
          have hk1 : wc.cell? ⟨gb, 1, none⟩ = some (.string x.f1) := (blk_cell n1_.out 1).trans rfl
          have hk2 : wc.cell? ⟨gb, 2, none⟩ = some (.int .i64 A_) := (blk_cell n1_.out 2).trans rfl
          have hk3 : wc.cell? ⟨gb, 3, none⟩ = some (.int .i64 x.f3) := (blk_cell n1_.out 3).trans rfl
          have hf2 := blk_frozen n1_.out 2
          have hf3 := blk_frozen n1_.out 3
          go_upto_if 29 with fail
          go_cut [29] from 9 to 38 (fun v29 wc => Aside0 (wc.heap[gb]? = some (.cells #[.int .i64 x.f0, .string x.f1, .int .i64 A_, .int .i64 B_] 57 (0, 0)) ∧ Kd.R k57 57 wc w.heap.size (fun k_ => True ∧ k_ ≠ gb) u5 x5_1 ∧ Below w.heap.size w wc))
          case first =>
            go_wp2
            all_goals go_meet
            all_goals
              have eh1 := HB_.out
              by_cases h1 : x.f0 > 1
              · try (exfalso; omega)
                all_goals
                  rw [if_pos h1] at eh1
                  subst eh1
                  refine ⟨?_, ?_, ?_⟩
                  · (with_reducible repeat (first | refine blk_drewN ?_ _ | refine blk_drew ?_ | refine blk_alloc ?_ _)); refine blk_put (cs := #[.int .i64 x.f0, .string x.f1, .int .i64 A_, .int .i64 x.f3]) ?_ 3 _ rfl; (with_reducible repeat (first | refine blk_drewN ?_ _ | refine blk_drew ?_ | refine blk_alloc ?_ _)); exact n1_.out
                  · (with_reducible repeat (first | apply Kd.R_alloc | apply Kd.R_drewN | apply Kd.R_drew)); refine Kd.R_far (p := ⟨gb, 3, none⟩) ?_ (fun _ hk => hk.2) _; (with_reducible repeat (first | apply Kd.R_alloc | apply Kd.R_drewN | apply Kd.R_drew)); exact n0_.out
                  · repeat (first | (with_reducible first | exact n2_.out | apply below_alloc | apply pw_below_drewN | apply below_drew1 | refine below_set ?_ HG.out) | exact n2_.out)
              · try (exfalso; omega)
                all_goals
                  rw [if_neg h1] at eh1
                  subst eh1
                  refine ⟨?_, ?_, ?_⟩
                  · (with_reducible repeat (first | refine blk_drewN ?_ _ | refine blk_drew ?_ | refine blk_alloc ?_ _)); exact n1_.out
                  · (with_reducible repeat (first | apply Kd.R_alloc | apply Kd.R_drewN | apply Kd.R_drew)); exact n0_.out
                  · repeat (first | (with_reducible first | exact n2_.out | apply below_alloc | apply pw_below_drewN | apply below_drew1) | exact n2_.out)
          case rest =>
            have m0_ := Aside0.mk hcut.out.2.1
            have m1_ := Aside0.mk hcut.out.1
            have m2_ := Aside0.mk hcut.out.2.2
            clear hcut n0_ n1_ n2_ hk0 hk1 hk2 hk3 hf2 hf3
            have n0_ := m0_
            have n1_ := m1_
            have n2_ := m2_
            clear m0_ m1_ m2_
            have hk0 : wc.cell? ⟨gb, 0, none⟩ = some (.int .i64 x.f0) := (blk_cell n1_.out 0).trans rfl
            have hk1 : wc.cell? ⟨gb, 1, none⟩ = some (.string x.f1) := (blk_cell n1_.out 1).trans rfl
            have hk2 : wc.cell? ⟨gb, 2, none⟩ = some (.int .i64 A_) := (blk_cell n1_.out 2).trans rfl
            have hk3 : wc.cell? ⟨gb, 3, none⟩ = some (.int .i64 B_) := (blk_cell n1_.out 3).trans rfl
            have hf2 := blk_frozen n1_.out 2
            have hf3 := blk_frozen n1_.out 3
            go_wp2_with (first | ((with_reducible refine gate_builtin (b := .append) (xs := #[.tmp 35, .tmp 37]) rfl ?_); at_builtin; refine Kd.R_append k57 (w0 := w) w.heap.size rfl (.tmp 35) (.tmp 37) 30 57 (.agg #[(.int .i64 0), (.string ⟨#[]⟩), (.int .i64 0), (.int .i64 0)]) 40 rfl Tryd.underlying30 info57 rfl (by decide) (by omega) u5 x5_1 (⟨x.f0, x.f1, A_, B_⟩ : S57) [.int .i64 x.f0, .string x.f1, .int .i64 A_, .int .i64 B_] (fun k_ => k_ ≠ gb) (fun _ => False) rfl (by first | (go_simp; done) | (go_simp; rfl)) ?aP (fun _ hk => hk.elim) ?aF ?aO ?aB ?aS ?aL ?_; (case aP => exact k57_mkM _ _ _ (⟨x.f0, x.f1, A_, B_⟩ : S57)); (case aB => exact (by repeat (first | (with_reducible first | exact n2_.out | apply below_alloc | apply pw_below_drewN | apply below_drew1) | exact n2_.out))); (case aF => exact (fun k_ hk => Kd.freshB (g := gb) (o := .cells #[.int .i64 x.f0, .string x.f1, .int .i64 A_, .int .i64 B_] 57 (0, 0)) (by (with_reducible repeat (first | refine blk_drewN ?_ _ | refine blk_drew ?_ | refine blk_alloc ?_ _)); exact n1_.out) k_ hk)); (case aO => exact (by (with_reducible repeat (first | apply Kd.R_alloc | apply Kd.R_drewN | apply Kd.R_drew)); exact Kd.R_mono n0_.out (fun _ hk => hk.2))); (case aS => exact (below_size (by repeat (first | (with_reducible first | exact n2_.out | apply below_alloc | apply pw_below_drewN | apply below_drew1) | exact n2_.out)))); (case aL => have := LM.out; omega); intro v174 wz ho hb hg hat; have HBz := Aside0.mk hb; have HOz := Aside0.mk ho; clear n0_ n1_ n2_ hk0 hk1 hk2 hk3 hf2 hf3; clear ho hb hg hat))
            go_roundg k1
            case measure => have := HK1.out; omega
            case rel => exact ⟨(x5_1 ++ [(⟨x.f0, x.f1, A_, B_⟩ : S57)]), (wrap64 (x6_1 + 1)), (by first | rfl | (simp; done) | (simp [*]; done)), H', ⟨by have := HK1.out; omega⟩, ⟨by (with_reducible repeat (first | apply Kd.R_alloc | apply Kd.R_drewN | apply Kd.R_drew)); exact Kd.R_mono HOz.out (fun _ hk => trivial)⟩, ⟨by repeat (first | (with_reducible first | exact HBz.out | apply below_alloc | apply pw_below_drewN | apply below_drew1) | exact HBz.out)⟩⟩
      · simp only [graftbedref12_moved.l0] at H
        rw [if_neg c5] at H
        have c5b0 : decide (x6_1 < (l0.length : Int)) = false := decide_eq_false c5
        clear c5
        obtain rfl := Option.some.inj H
        go_wp2
        go_ret
        exact ⟨_, by first | rfl | (simp [errW_none, errW_some] <;> rfl) | (simp [*, errW_none, errW_some] <;> rfl), by (with_reducible repeat (first | apply Kd.R_alloc | apply Kd.R_drewN | apply Kd.R_drew)); exact HO_5.out, by repeat (first | (with_reducible first | exact HB.out | apply below_alloc | apply pw_below_drewN | apply below_drew1) | exact HB.out)⟩

/-! ### graftbedref12_both: function 41 -/
def graftbedref12_both.f (k : Nat) (a0 : Int) (l1 : List (S57)) (l2 : List (S57)) : Option ((List (S57))) := (some (([] : List (S57)) : List (S57))).bind fun y253 => (if y253.length + l1.length < 3518437208883 then ((some (y253 ++ l1 : List (S57))).bind fun y256 => ((graftbedref12_moved.f k l2 (l1.length : Int)).bind fun t259 => (if y256.length + t259.length < 3518437208883 then ((some (y256 ++ t259 : List (S57))).bind fun y262 => (if y262.length < 3518437208883 then (some (y262 ++ [(⟨a0, (⟨#[]⟩ : ByteArray), wrap64 ((l1.length : Int) - 1), wrap64 ((wrap64 ((l1.length : Int) + (l2.length : Int))) - 1)⟩ : S57)])) else (none))) else (none)))) else (none))
theorem graftbedref12_both.mono : ∀ a0 a1 a2 k, LeO (graftbedref12_both.f k a0 a1 a2) (graftbedref12_both.f (k + 1) a0 a1 a2) := by
  intro a0 a1 a2 k
  unfold graftbedref12_both.f
  repeat' first
      | (with_reducible exact graftbedref12_moved.mono _ _ _)
      | (with_reducible exact LeO.refl _)
      | (with_reducible exact LeO.none _)
      | (with_reducible refine LeO.ite ?_ ?_)
      | (with_reducible refine LeO.bind ?_ (fun _ => ?_))
      | exact graftbedref12_moved.mono _ _ _
      | exact LeO.none _
      | refine LeO.ite ?_ ?_
      | refine LeO.bind ?_ (fun _ => ?_)
set_option maxHeartbeats 8000000 in
set_option maxRecDepth 100000 in
theorem graftbedref12_both.calls (k : Nat) (a0 : Int) (A1 : Option Addr) (c1 : Nat) (l1 : List (S57)) (A2 : Option Addr) (c2 : Nat) (l2 : List (S57)) (r : List (S57)) (w : World) (hr1 : Kd.C k57 w A1 l1.length l1) (hc1 : l1.length ≤ c1) (hr2 : Kd.C k57 w A2 l2.length l2) (hc2 : l2.length ≤ c2) (h : graftbedref12_both.f k a0 l1 l2 = some r) :
    Calls Tryd.prog 41 #[.int .i64 a0, .slice A1 l1.length c1, .slice A2 l2.length c2] w fun e w' => ∃ v0_ : Value, e = .returned (v0_) ∧ Kd.R k57 57 w' w.heap.size (fun _ => True) v0_ r ∧ Below w.heap.size w w' := by
  have hu57 := Tryd.underlying57
  have HR1 := Aside0.mk hr1
  have HC1 := Aside0.mk hc1
  clear hr1 hc1
  have HR2 := Aside0.mk hr2
  have HC2 := Aside0.mk hc2
  clear hr2 hc2
  have HB := Aside0.mk (Below.refl w.heap.size w)
  have H : ((some (([] : List (S57)) : List (S57))).bind fun y253 => (if y253.length + l1.length < 3518437208883 then ((some (y253 ++ l1 : List (S57))).bind fun y256 => ((graftbedref12_moved.f k l2 (l1.length : Int)).bind fun t259 => (if y256.length + t259.length < 3518437208883 then ((some (y256 ++ t259 : List (S57))).bind fun y262 => (if y262.length < 3518437208883 then (some (y262 ++ [(⟨a0, (⟨#[]⟩ : ByteArray), wrap64 ((l1.length : Int) - 1), wrap64 ((wrap64 ((l1.length : Int) + (l2.length : Int))) - 1)⟩ : S57)])) else (none))) else (none)))) else (none))) = some r := h
  clear h
  obtain ⟨y253, hy253⟩ : ∃ y_ : List (S57), y_ = (([] : List (S57))) := ⟨_, rfl⟩
  replace H : (if y253.length + l1.length < 3518437208883 then ((some (y253 ++ l1 : List (S57))).bind fun y256 => ((graftbedref12_moved.f k l2 (l1.length : Int)).bind fun t259 => (if y256.length + t259.length < 3518437208883 then ((some (y256 ++ t259 : List (S57))).bind fun y262 => (if y262.length < 3518437208883 then (some (y262 ++ [(⟨a0, (⟨#[]⟩ : ByteArray), wrap64 ((l1.length : Int) - 1), wrap64 ((wrap64 ((l1.length : Int) + (l2.length : Int))) - 1)⟩ : S57)])) else (none))) else (none)))) else (none)) = some r := by first | (rw [hy253]; with_reducible exact H) | (have H2_ := (Option.bind_some _ _).symm.trans H; rw [hy253]; with_reducible exact H2_) | (have H2_ := (Option.bind_some _ _).symm.trans H; with_reducible exact H2_) | with_reducible exact H | (rw [hy253]; exact H) | exact H
  have Ny253 := Aside0.mk hy253
  clear hy253
  by_cases c4 : y253.length + l1.length < 3518437208883
  · rw [if_pos c4] at H
    have LMc4 := Aside0.mk c4
    clear c4
    obtain ⟨y256, hy256⟩ : ∃ y_ : List (S57), y_ = (y253 ++ l1) := ⟨_, rfl⟩
    replace H : ((graftbedref12_moved.f k l2 (l1.length : Int)).bind fun t259 => (if y256.length + t259.length < 3518437208883 then ((some (y256 ++ t259 : List (S57))).bind fun y262 => (if y262.length < 3518437208883 then (some (y262 ++ [(⟨a0, (⟨#[]⟩ : ByteArray), wrap64 ((l1.length : Int) - 1), wrap64 ((wrap64 ((l1.length : Int) + (l2.length : Int))) - 1)⟩ : S57)])) else (none))) else (none))) = some r := by first | (rw [hy256]; with_reducible exact H) | (have H2_ := (Option.bind_some _ _).symm.trans H; rw [hy256]; with_reducible exact H2_) | (have H2_ := (Option.bind_some _ _).symm.trans H; with_reducible exact H2_) | with_reducible exact H | (rw [hy256]; exact H) | exact H
    have Ny256 := Aside0.mk hy256
    clear hy256
    replace H := Option.bind_eq_some_iff.mp H
    obtain ⟨t259, A50, H⟩ := H
    replace H : (if y256.length + t259.length < 3518437208883 then ((some (y256 ++ t259 : List (S57))).bind fun y262 => (if y262.length < 3518437208883 then (some (y262 ++ [(⟨a0, (⟨#[]⟩ : ByteArray), wrap64 ((l1.length : Int) - 1), wrap64 ((wrap64 ((l1.length : Int) + (l2.length : Int))) - 1)⟩ : S57)])) else (none))) else (none)) = some r := H
    have A5 := Aside0.mk A50
    clear A50
    by_cases c6 : y256.length + t259.length < 3518437208883
    · rw [if_pos c6] at H
      have LMc6 := Aside0.mk c6
      clear c6
      obtain ⟨y262, hy262⟩ : ∃ y_ : List (S57), y_ = (y256 ++ t259) := ⟨_, rfl⟩
      replace H : (if y262.length < 3518437208883 then (some (y262 ++ [(⟨a0, (⟨#[]⟩ : ByteArray), wrap64 ((l1.length : Int) - 1), wrap64 ((wrap64 ((l1.length : Int) + (l2.length : Int))) - 1)⟩ : S57)])) else (none)) = some r := by first | (rw [hy262]; with_reducible exact H) | (have H2_ := (Option.bind_some _ _).symm.trans H; rw [hy262]; with_reducible exact H2_) | (have H2_ := (Option.bind_some _ _).symm.trans H; with_reducible exact H2_) | with_reducible exact H | (rw [hy262]; exact H) | exact H
      have Ny262 := Aside0.mk hy262
      clear hy262
      by_cases c7 : y262.length < 3518437208883
      · rw [if_pos c7] at H
        have LMc7 := Aside0.mk c7
        clear c7
        obtain ⟨y265, hy265⟩ : ∃ y_ : List (S57), y_ = (y262 ++ [(⟨a0, (⟨#[]⟩ : ByteArray), wrap64 ((l1.length : Int) - 1), wrap64 ((wrap64 ((l1.length : Int) + (l2.length : Int))) - 1)⟩ : S57)]) := ⟨_, rfl⟩
        replace H : (some y265) = some r := by first | (rw [hy265]; with_reducible exact H) | (have H2_ := (Option.bind_some _ _).symm.trans H; rw [hy265]; with_reducible exact H2_) | (have H2_ := (Option.bind_some _ _).symm.trans H; with_reducible exact H2_) | with_reducible exact H | (rw [hy265]; exact H) | exact H
        have Ny265 := Aside0.mk hy265
        clear hy265
        obtain rfl := Option.some.inj H
        go_enter Tryd.func41, Tryd.ntmps41
        go_wp2_with (first | ((with_reducible refine gate_dst (N := 8) rfl ?_); refine Kd.R_lit k57 _ 57 ?hg (N := 8) ?hd (xs := ([] : List (S57))) (inner := []) (ok := fun _ => True) (okp := fun _ => True) ?hr ?hp (fun _ hk => hk) trivial (Below.refl _ _) (Nat.le_refl _) (by simp) ?_; (case hd => rfl); (case hg => rfl); (case hr => first | (go_simp; done) | (go_simp; rfl)); (case hp => exact (Reps.none _ _)); intro v254 w8 ho9 hb hg_ hnew_; clear hg_ hnew_; (first | rw [← Ny253.out] at ho9 | (simp only [Int.reduceToNat] at ho9; rw [← Ny253.out] at ho9)); have n0_ := Aside0.mk (Kd.R_lower ho9 (below_size (by repeat (first | (with_reducible first | exact HB.out | apply below_alloc | apply pw_below_drewN | apply below_drew1) | exact HB.out)))); have n1_ := Aside0.mk (below_step (by repeat (first | (with_reducible first | exact HB.out | apply below_alloc | apply pw_below_drewN | apply below_drew1) | exact HB.out)) hb); clear HB; have HO255 := n0_; have HB := n1_; clear n0_ n1_; clear hb ho9) | ((with_reducible refine gate_builtin (b := .append) (xs := #[.tmp 9, .tmp 10]) rfl ?_); at_builtin; refine Kd.R_append_rows k57 (w0 := w) w.heap.size rfl (.tmp 9) (.tmp 10) 30 57 (.agg #[(.int .i64 0), (.string ⟨#[]⟩), (.int .i64 0), (.int .i64 0)]) 40 rfl Tryd.underlying30 info57 rfl (by decide) (by omega) v254 y253 l1 _ _ _ (fun _ => True) (fun _ => False) rfl rfl ?aO ?aR (fun _ _ h => h) (fun _ h => h.elim) ?aF ?aB ?aS ?aL ?_; (case aR => repeat (first | exact (Kd.C_below HR1.out HB.out) | (with_reducible refine Kd.C_alloc ?_ _) | (with_reducible refine Kd.C_drewN ?_ _) | (with_reducible refine Kd.C_drew ?_))); (case aB => exact (by repeat (first | (with_reducible first | exact HB.out | apply below_alloc | apply pw_below_drewN | apply below_drew1) | exact HB.out))); (case aF => exact (fun _ _ => trivial)); (case aO => exact (by (with_reducible repeat (first | apply Kd.R_alloc | apply Kd.R_drewN | apply Kd.R_drew)); exact HO255.out)); (case aS => exact (below_size (by repeat (first | (with_reducible first | exact HB.out | apply below_alloc | apply pw_below_drewN | apply below_drew1) | exact HB.out)))); (case aL => have := LMc4.out; omega); intro v257 w10 ho hb hg hat; rw [← Ny256.out] at ho; have n0_ := Aside0.mk (hb); have n1_ := Aside0.mk (ho); clear HB; clear HO255; have HB := n0_; have HO258 := n1_; clear n0_ n1_; clear ho hb hg hat) | ((with_reducible refine gate_callee (f := 59) rfl ?_); refine goesL_ (some 16) rfl rfl Tryd.func59 (by kernel_rfl) rfl #[.slice A2 l2.length c2, .int .i64 (l1.length : Int)] rfl (by (try simp only [List.map_toArray, List.map_cons, List.map_nil]); first | done | rfl | (simp only [List.length_drop, List.length_take]; rfl)) ?_; (with_reducible refine (graftbedref12_moved.calls k _ _ l2 (l1.length : Int) t259 _ ?side1 ?side2 A5.out).mono ?_); (case side1 => repeat (first | exact (Kd.C_below HR2.out HB.out) | (with_reducible refine Kd.C_alloc ?_ _) | (with_reducible refine Kd.C_drewN ?_ _) | (with_reducible refine Kd.C_drew ?_))); (case side2 => exact HC2.out); rintro e w11 ⟨v260, rfl, ho0, hb⟩; refine ⟨_, rfl, ?_⟩; have n0_ := Aside0.mk (Kd.R_elder' (by (with_reducible repeat (first | apply Kd.R_alloc | apply Kd.R_drewN | apply Kd.R_drew)); exact HO258.out) (Kd.R_base ho0) hb); have n1_ := Aside0.mk (Kd.R_lower (Kd.R_new' ho0 (Kd.R_lt (by (with_reducible repeat (first | apply Kd.R_alloc | apply Kd.R_drewN | apply Kd.R_drew)); exact HO258.out))) (below_size (by repeat (first | (with_reducible first | exact HB.out | apply below_alloc | apply pw_below_drewN | apply below_drew1) | exact HB.out)))); have n2_ := Aside0.mk (below_step (by repeat (first | (with_reducible first | exact HB.out | apply below_alloc | apply pw_below_drewN | apply below_drew1) | exact HB.out)) hb); clear HO258; clear HB; have HO258 := n0_; have HO261 := n1_; have HB := n2_; clear n0_ n1_ n2_; (try clear hb); (try clear hb2); (try clear hk); (try clear hi); (try clear ho0); obtain ⟨Ao13, co13, eo13⟩ := Kd.R_slice HO261.out; subst eo13) | ((with_reducible refine gate_builtin (b := .append) (xs := #[.tmp 12, .tmp 16]) rfl ?_); at_builtin; refine Kd.R_append_rows k57 (w0 := w) w.heap.size rfl (.tmp 12) (.tmp 16) 30 57 (.agg #[(.int .i64 0), (.string ⟨#[]⟩), (.int .i64 0), (.int .i64 0)]) 40 rfl Tryd.underlying30 info57 rfl (by decide) (by omega) v257 y256 t259 _ _ _ (fun k_ => some k_ ≠ (.slice Ao13 t259.length co13 : Value).ownBlock) (fun _ => False) rfl rfl ?aO ?aR (fun _ _ h => h) (fun _ h => h.elim) ?aF ?aB ?aS ?aL ?_; (case aR => repeat (first | exact (Kd.R_reads' HO261.out).2.2 | (with_reducible refine Kd.C_alloc ?_ _) | (with_reducible refine Kd.C_drewN ?_ _) | (with_reducible refine Kd.C_drew ?_))); (case aB => exact (by repeat (first | (with_reducible first | exact HB.out | apply below_alloc | apply pw_below_drewN | apply below_drew1) | exact HB.out))); (case aF => exact (fun k_ hk => Kd.fresh' (Kd.R_lt (by (with_reducible repeat (first | apply Kd.R_alloc | apply Kd.R_drewN | apply Kd.R_drew)); exact HO261.out)) k_ hk)); (case aO => exact (by (with_reducible repeat (first | apply Kd.R_alloc | apply Kd.R_drewN | apply Kd.R_drew)); exact Kd.R_mono HO258.out (fun _ hk => hk.2))); (case aS => exact (below_size (by repeat (first | (with_reducible first | exact HB.out | apply below_alloc | apply pw_below_drewN | apply below_drew1) | exact HB.out)))); (case aL => have := LMc6.out; omega); intro v263 w12 ho hb hg hat; rw [← Ny262.out] at ho; have n0_ := Aside0.mk (Kd.R_after (ok := (fun _ => True)) (by (with_reducible repeat (first | apply Kd.R_alloc | apply Kd.R_drewN | apply Kd.R_drew)); exact HO261.out) hg hat); have n1_ := Aside0.mk (hb); have n2_ := Aside0.mk (ho); clear HO261; clear HB; clear HO258; have HO261 := n0_; have HB := n1_; have HO264 := n2_; clear n0_ n1_ n2_; clear ho hb hg hat) | ((with_reducible refine gate_builtin (b := .append) (xs := #[.tmp 18, .tmp 30]) rfl ?_); at_builtin; refine Kd.R_append k57 (w0 := w) w.heap.size rfl (.tmp 18) (.tmp 30) 30 57 (.agg #[(.int .i64 0), (.string ⟨#[]⟩), (.int .i64 0), (.int .i64 0)]) 40 rfl Tryd.underlying30 info57 rfl (by decide) (by omega) v263 y262 (⟨a0, (⟨#[]⟩ : ByteArray), wrap64 ((l1.length : Int) - 1), wrap64 ((wrap64 ((l1.length : Int) + (l2.length : Int))) - 1)⟩ : S57) [.int .i64 a0, .string (⟨#[]⟩ : ByteArray), .int .i64 (wrap64 ((l1.length : Int) - 1)), .int .i64 (wrap64 ((wrap64 ((l1.length : Int) + (l2.length : Int))) - 1))] (fun k_ => some k_ ≠ (.slice Ao13 t259.length co13 : Value).ownBlock) (fun _ => False) rfl rfl ?aP (fun _ hk => hk.elim) ?aF ?aO ?aB ?aS ?aL ?_; (case aP => exact k57_mkM _ _ _ (⟨a0, (⟨#[]⟩ : ByteArray), wrap64 ((l1.length : Int) - 1), wrap64 ((wrap64 ((l1.length : Int) + (l2.length : Int))) - 1)⟩ : S57)); (case aB => exact (by repeat (first | (with_reducible first | exact HB.out | apply below_alloc | apply pw_below_drewN | apply below_drew1) | exact HB.out))); (case aF => exact (fun k_ hk => Kd.fresh' (Kd.R_lt (by (with_reducible repeat (first | apply Kd.R_alloc | apply Kd.R_drewN | apply Kd.R_drew)); exact HO261.out)) k_ hk)); (case aO => exact (by (with_reducible repeat (first | apply Kd.R_alloc | apply Kd.R_drewN | apply Kd.R_drew)); exact HO264.out)); (case aS => exact (below_size (by repeat (first | (with_reducible first | exact HB.out | apply below_alloc | apply pw_below_drewN | apply below_drew1) | exact HB.out)))); (case aL => have := LMc7.out; omega); intro v266 w14 ho hb hg hat; rw [← Ny265.out] at ho; have n0_ := Aside0.mk (Kd.R_after (ok := (fun _ => True)) (by (with_reducible repeat (first | apply Kd.R_alloc | apply Kd.R_drewN | apply Kd.R_drew)); exact HO261.out) hg hat); have n1_ := Aside0.mk (hb); have n2_ := Aside0.mk (ho); clear HO261; clear HB; clear HO264; have HO261 := n0_; have HB := n1_; have HO267 := n2_; clear n0_ n1_ n2_; clear ho hb hg hat))
        go_ret
        exact ⟨_, by first | rfl | (simp [errW_none, errW_some] <;> rfl) | (simp [*, errW_none, errW_some] <;> rfl), by (with_reducible repeat (first | apply Kd.R_alloc | apply Kd.R_drewN | apply Kd.R_drew)); exact Kd.R_mono HO267.out (fun _ hk => trivial), by repeat (first | (with_reducible first | exact HB.out | apply below_alloc | apply pw_below_drewN | apply below_drew1) | exact HB.out)⟩
      · rw [if_neg c7] at H
        exact absurd H (by simp)
    · rw [if_neg c6] at H
      exact absurd H (by simp)
  · rw [if_neg c4] at H
    exact absurd H (by simp)

/-! ### graftbedref12_And: function 21 -/
def graftbedref12_And.f (k : Nat) (l0 : List (S57)) (l1 : List (S57)) : Option ((List (S57))) := (graftbedref12_both.f k 2 l0 l1).bind fun t268 => (some t268)
theorem graftbedref12_And.mono : ∀ a0 a1 k, LeO (graftbedref12_And.f k a0 a1) (graftbedref12_And.f (k + 1) a0 a1) := by
  intro a0 a1 k
  unfold graftbedref12_And.f
  repeat' first
      | (with_reducible exact graftbedref12_both.mono _ _ _ _)
      | (with_reducible exact LeO.refl _)
      | (with_reducible exact LeO.none _)
      | (with_reducible refine LeO.ite ?_ ?_)
      | (with_reducible refine LeO.bind ?_ (fun _ => ?_))
      | exact graftbedref12_both.mono _ _ _ _
      | exact LeO.none _
      | refine LeO.ite ?_ ?_
      | refine LeO.bind ?_ (fun _ => ?_)
set_option maxHeartbeats 8000000 in
set_option maxRecDepth 100000 in
theorem graftbedref12_And.calls (k : Nat) (A0 : Option Addr) (c0 : Nat) (l0 : List (S57)) (A1 : Option Addr) (c1 : Nat) (l1 : List (S57)) (r : List (S57)) (w : World) (hr0 : Kd.C k57 w A0 l0.length l0) (hc0 : l0.length ≤ c0) (hr1 : Kd.C k57 w A1 l1.length l1) (hc1 : l1.length ≤ c1) (h : graftbedref12_And.f k l0 l1 = some r) :
    Calls Tryd.prog 21 #[.slice A0 l0.length c0, .slice A1 l1.length c1] w fun e w' => ∃ v0_ : Value, e = .returned (v0_) ∧ Kd.R k57 57 w' w.heap.size (fun _ => True) v0_ r ∧ Below w.heap.size w w' := by
  have HR0 := Aside0.mk hr0
  have HC0 := Aside0.mk hc0
  clear hr0 hc0
  have HR1 := Aside0.mk hr1
  have HC1 := Aside0.mk hc1
  clear hr1 hc1
  have HB := Aside0.mk (Below.refl w.heap.size w)
  have H : ((graftbedref12_both.f k 2 l0 l1).bind fun t268 => (some t268)) = some r := h
  clear h
  replace H := Option.bind_eq_some_iff.mp H
  obtain ⟨t268, A30, H⟩ := H
  replace H : (some t268) = some r := H
  have A3 := Aside0.mk A30
  clear A30
  obtain rfl := Option.some.inj H
  go_enter Tryd.func21, Tryd.ntmps21
  go_wp2_with (first | ((with_reducible refine gate_callee (f := 41) rfl ?_); refine goesL_ (some 7) rfl rfl Tryd.func41 (by kernel_rfl) rfl #[.int .i64 2, .slice A0 l0.length c0, .slice A1 l1.length c1] rfl (by (try simp only [List.map_toArray, List.map_cons, List.map_nil]); first | done | rfl | (simp only [List.length_drop, List.length_take]; rfl)) ?_; (with_reducible refine (graftbedref12_both.calls k 2 _ _ l0 _ _ l1 t268 _ ?side1 ?side2 ?side3 ?side4 A3.out).mono ?_); (case side1 => repeat (first | exact HR0.out | (with_reducible refine Kd.C_alloc ?_ _) | (with_reducible refine Kd.C_drewN ?_ _) | (with_reducible refine Kd.C_drew ?_))); (case side2 => exact HC0.out); (case side3 => repeat (first | exact HR1.out | (with_reducible refine Kd.C_alloc ?_ _) | (with_reducible refine Kd.C_drewN ?_ _) | (with_reducible refine Kd.C_drew ?_))); (case side4 => exact HC1.out); rintro e w4 ⟨v269, rfl, ho0, hb⟩; refine ⟨_, rfl, ?_⟩; have n0_ := Aside0.mk (Kd.R_lower ho0 (below_size (by repeat (first | (with_reducible first | exact HB.out | apply below_alloc | apply pw_below_drewN | apply below_drew1) | exact HB.out)))); have n1_ := Aside0.mk (below_step (by repeat (first | (with_reducible first | exact HB.out | apply below_alloc | apply pw_below_drewN | apply below_drew1) | exact HB.out)) hb); clear HB; have HO270 := n0_; have HB := n1_; clear n0_ n1_; (try clear hb); (try clear hb2); (try clear hk); (try clear hi); (try clear ho0)))
  go_ret
  exact ⟨_, by first | rfl | (simp [errW_none, errW_some] <;> rfl) | (simp [*, errW_none, errW_some] <;> rfl), by (with_reducible repeat (first | apply Kd.R_alloc | apply Kd.R_drewN | apply Kd.R_drew)); exact HO270.out, by repeat (first | (with_reducible first | exact HB.out | apply below_alloc | apply pw_below_drewN | apply below_drew1) | exact HB.out)⟩

/-! ### graftbedref12_Or: function 22 -/
def graftbedref12_Or.f (k : Nat) (l0 : List (S57)) (l1 : List (S57)) : Option ((List (S57))) := (graftbedref12_both.f k 3 l0 l1).bind fun t271 => (some t271)
theorem graftbedref12_Or.mono : ∀ a0 a1 k, LeO (graftbedref12_Or.f k a0 a1) (graftbedref12_Or.f (k + 1) a0 a1) := by
  intro a0 a1 k
  unfold graftbedref12_Or.f
  repeat' first
      | (with_reducible exact graftbedref12_both.mono _ _ _ _)
      | (with_reducible exact LeO.refl _)
      | (with_reducible exact LeO.none _)
      | (with_reducible refine LeO.ite ?_ ?_)
      | (with_reducible refine LeO.bind ?_ (fun _ => ?_))
      | exact graftbedref12_both.mono _ _ _ _
      | exact LeO.none _
      | refine LeO.ite ?_ ?_
      | refine LeO.bind ?_ (fun _ => ?_)
set_option maxHeartbeats 8000000 in
set_option maxRecDepth 100000 in
theorem graftbedref12_Or.calls (k : Nat) (A0 : Option Addr) (c0 : Nat) (l0 : List (S57)) (A1 : Option Addr) (c1 : Nat) (l1 : List (S57)) (r : List (S57)) (w : World) (hr0 : Kd.C k57 w A0 l0.length l0) (hc0 : l0.length ≤ c0) (hr1 : Kd.C k57 w A1 l1.length l1) (hc1 : l1.length ≤ c1) (h : graftbedref12_Or.f k l0 l1 = some r) :
    Calls Tryd.prog 22 #[.slice A0 l0.length c0, .slice A1 l1.length c1] w fun e w' => ∃ v0_ : Value, e = .returned (v0_) ∧ Kd.R k57 57 w' w.heap.size (fun _ => True) v0_ r ∧ Below w.heap.size w w' := by
  have HR0 := Aside0.mk hr0
  have HC0 := Aside0.mk hc0
  clear hr0 hc0
  have HR1 := Aside0.mk hr1
  have HC1 := Aside0.mk hc1
  clear hr1 hc1
  have HB := Aside0.mk (Below.refl w.heap.size w)
  have H : ((graftbedref12_both.f k 3 l0 l1).bind fun t271 => (some t271)) = some r := h
  clear h
  replace H := Option.bind_eq_some_iff.mp H
  obtain ⟨t271, A30, H⟩ := H
  replace H : (some t271) = some r := H
  have A3 := Aside0.mk A30
  clear A30
  obtain rfl := Option.some.inj H
  go_enter Tryd.func22, Tryd.ntmps22
  go_wp2_with (first | ((with_reducible refine gate_callee (f := 41) rfl ?_); refine goesL_ (some 7) rfl rfl Tryd.func41 (by kernel_rfl) rfl #[.int .i64 3, .slice A0 l0.length c0, .slice A1 l1.length c1] rfl (by (try simp only [List.map_toArray, List.map_cons, List.map_nil]); first | done | rfl | (simp only [List.length_drop, List.length_take]; rfl)) ?_; (with_reducible refine (graftbedref12_both.calls k 3 _ _ l0 _ _ l1 t271 _ ?side1 ?side2 ?side3 ?side4 A3.out).mono ?_); (case side1 => repeat (first | exact HR0.out | (with_reducible refine Kd.C_alloc ?_ _) | (with_reducible refine Kd.C_drewN ?_ _) | (with_reducible refine Kd.C_drew ?_))); (case side2 => exact HC0.out); (case side3 => repeat (first | exact HR1.out | (with_reducible refine Kd.C_alloc ?_ _) | (with_reducible refine Kd.C_drewN ?_ _) | (with_reducible refine Kd.C_drew ?_))); (case side4 => exact HC1.out); rintro e w4 ⟨v272, rfl, ho0, hb⟩; refine ⟨_, rfl, ?_⟩; have n0_ := Aside0.mk (Kd.R_lower ho0 (below_size (by repeat (first | (with_reducible first | exact HB.out | apply below_alloc | apply pw_below_drewN | apply below_drew1) | exact HB.out)))); have n1_ := Aside0.mk (below_step (by repeat (first | (with_reducible first | exact HB.out | apply below_alloc | apply pw_below_drewN | apply below_drew1) | exact HB.out)) hb); clear HB; have HO273 := n0_; have HB := n1_; clear n0_ n1_; (try clear hb); (try clear hb2); (try clear hk); (try clear hi); (try clear ho0)))
  go_ret
  exact ⟨_, by first | rfl | (simp [errW_none, errW_some] <;> rfl) | (simp [*, errW_none, errW_some] <;> rfl), by (with_reducible repeat (first | apply Kd.R_alloc | apply Kd.R_drewN | apply Kd.R_drew)); exact HO273.out, by repeat (first | (with_reducible first | exact HB.out | apply below_alloc | apply pw_below_drewN | apply below_drew1) | exact HB.out)⟩

/-! ### graftbedref12_Not: function 23 -/
def graftbedref12_Not.f (l0 : List (S57)) : Option ((List (S57))) := (some (([] : List (S57)) : List (S57))).bind fun y274 => (if y274.length + l0.length < 3518437208883 then ((some (y274 ++ l0 : List (S57))).bind fun y277 => (if y277.length < 3518437208883 then (some (y277 ++ [(⟨1, (⟨#[]⟩ : ByteArray), wrap64 ((l0.length : Int) - 1), 0⟩ : S57)])) else (none))) else (none))
set_option maxHeartbeats 8000000 in
set_option maxRecDepth 100000 in
theorem graftbedref12_Not.calls (A0 : Option Addr) (c0 : Nat) (l0 : List (S57)) (r : List (S57)) (w : World) (hr0 : Kd.C k57 w A0 l0.length l0) (hc0 : l0.length ≤ c0) (h : graftbedref12_Not.f l0 = some r) :
    Calls Tryd.prog 23 #[.slice A0 l0.length c0] w fun e w' => ∃ v0_ : Value, e = .returned (v0_) ∧ Kd.R k57 57 w' w.heap.size (fun _ => True) v0_ r ∧ Below w.heap.size w w' := by
  have hu57 := Tryd.underlying57
  have HR0 := Aside0.mk hr0
  have HC0 := Aside0.mk hc0
  clear hr0 hc0
  have HB := Aside0.mk (Below.refl w.heap.size w)
  have H : ((some (([] : List (S57)) : List (S57))).bind fun y274 => (if y274.length + l0.length < 3518437208883 then ((some (y274 ++ l0 : List (S57))).bind fun y277 => (if y277.length < 3518437208883 then (some (y277 ++ [(⟨1, (⟨#[]⟩ : ByteArray), wrap64 ((l0.length : Int) - 1), 0⟩ : S57)])) else (none))) else (none))) = some r := h
  clear h
  obtain ⟨y274, hy274⟩ : ∃ y_ : List (S57), y_ = (([] : List (S57))) := ⟨_, rfl⟩
  replace H : (if y274.length + l0.length < 3518437208883 then ((some (y274 ++ l0 : List (S57))).bind fun y277 => (if y277.length < 3518437208883 then (some (y277 ++ [(⟨1, (⟨#[]⟩ : ByteArray), wrap64 ((l0.length : Int) - 1), 0⟩ : S57)])) else (none))) else (none)) = some r := by first | (rw [hy274]; with_reducible exact H) | (have H2_ := (Option.bind_some _ _).symm.trans H; rw [hy274]; with_reducible exact H2_) | (have H2_ := (Option.bind_some _ _).symm.trans H; with_reducible exact H2_) | with_reducible exact H | (rw [hy274]; exact H) | exact H
  have Ny274 := Aside0.mk hy274
  clear hy274
  by_cases c2 : y274.length + l0.length < 3518437208883
  · rw [if_pos c2] at H
    have LMc2 := Aside0.mk c2
    clear c2
    obtain ⟨y277, hy277⟩ : ∃ y_ : List (S57), y_ = (y274 ++ l0) := ⟨_, rfl⟩
    replace H : (if y277.length < 3518437208883 then (some (y277 ++ [(⟨1, (⟨#[]⟩ : ByteArray), wrap64 ((l0.length : Int) - 1), 0⟩ : S57)])) else (none)) = some r := by first | (rw [hy277]; with_reducible exact H) | (have H2_ := (Option.bind_some _ _).symm.trans H; rw [hy277]; with_reducible exact H2_) | (have H2_ := (Option.bind_some _ _).symm.trans H; with_reducible exact H2_) | with_reducible exact H | (rw [hy277]; exact H) | exact H
    have Ny277 := Aside0.mk hy277
    clear hy277
    by_cases c3 : y277.length < 3518437208883
    · rw [if_pos c3] at H
      have LMc3 := Aside0.mk c3
      clear c3
      obtain ⟨y280, hy280⟩ : ∃ y_ : List (S57), y_ = (y277 ++ [(⟨1, (⟨#[]⟩ : ByteArray), wrap64 ((l0.length : Int) - 1), 0⟩ : S57)]) := ⟨_, rfl⟩
      replace H : (some y280) = some r := by first | (rw [hy280]; with_reducible exact H) | (have H2_ := (Option.bind_some _ _).symm.trans H; rw [hy280]; with_reducible exact H2_) | (have H2_ := (Option.bind_some _ _).symm.trans H; with_reducible exact H2_) | with_reducible exact H | (rw [hy280]; exact H) | exact H
      have Ny280 := Aside0.mk hy280
      clear hy280
      obtain rfl := Option.some.inj H
      go_enter Tryd.func23, Tryd.ntmps23
      go_wp2_with (first | ((with_reducible refine gate_dst (N := 4) rfl ?_); refine Kd.R_lit k57 _ 57 ?hg (N := 4) ?hd (xs := ([] : List (S57))) (inner := []) (ok := fun _ => True) (okp := fun _ => True) ?hr ?hp (fun _ hk => hk) trivial (Below.refl _ _) (Nat.le_refl _) (by simp) ?_; (case hd => rfl); (case hg => rfl); (case hr => first | (go_simp; done) | (go_simp; rfl)); (case hp => exact (Reps.none _ _)); intro v275 w4 ho5 hb hg_ hnew_; clear hg_ hnew_; (first | rw [← Ny274.out] at ho5 | (simp only [Int.reduceToNat] at ho5; rw [← Ny274.out] at ho5)); have n0_ := Aside0.mk (Kd.R_lower ho5 (below_size (by repeat (first | (with_reducible first | exact HB.out | apply below_alloc | apply pw_below_drewN | apply below_drew1) | exact HB.out)))); have n1_ := Aside0.mk (below_step (by repeat (first | (with_reducible first | exact HB.out | apply below_alloc | apply pw_below_drewN | apply below_drew1) | exact HB.out)) hb); clear HB; have HO276 := n0_; have HB := n1_; clear n0_ n1_; clear hb ho5) | ((with_reducible refine gate_builtin (b := .append) (xs := #[.tmp 5, .tmp 6]) rfl ?_); at_builtin; refine Kd.R_append_rows k57 (w0 := w) w.heap.size rfl (.tmp 5) (.tmp 6) 30 57 (.agg #[(.int .i64 0), (.string ⟨#[]⟩), (.int .i64 0), (.int .i64 0)]) 40 rfl Tryd.underlying30 info57 rfl (by decide) (by omega) v275 y274 l0 _ _ _ (fun _ => True) (fun _ => False) rfl rfl ?aO ?aR (fun _ _ h => h) (fun _ h => h.elim) ?aF ?aB ?aS ?aL ?_; (case aR => repeat (first | exact (Kd.C_below HR0.out HB.out) | (with_reducible refine Kd.C_alloc ?_ _) | (with_reducible refine Kd.C_drewN ?_ _) | (with_reducible refine Kd.C_drew ?_))); (case aB => exact (by repeat (first | (with_reducible first | exact HB.out | apply below_alloc | apply pw_below_drewN | apply below_drew1) | exact HB.out))); (case aF => exact (fun _ _ => trivial)); (case aO => exact (by (with_reducible repeat (first | apply Kd.R_alloc | apply Kd.R_drewN | apply Kd.R_drew)); exact HO276.out)); (case aS => exact (below_size (by repeat (first | (with_reducible first | exact HB.out | apply below_alloc | apply pw_below_drewN | apply below_drew1) | exact HB.out)))); (case aL => have := LMc2.out; omega); intro v278 w6 ho hb hg hat; rw [← Ny277.out] at ho; have n0_ := Aside0.mk (hb); have n1_ := Aside0.mk (ho); clear HB; clear HO276; have HB := n0_; have HO279 := n1_; clear n0_ n1_; clear ho hb hg hat) | ((with_reducible refine gate_builtin (b := .append) (xs := #[.tmp 8, .tmp 13]) rfl ?_); at_builtin; refine Kd.R_append k57 (w0 := w) w.heap.size rfl (.tmp 8) (.tmp 13) 30 57 (.agg #[(.int .i64 0), (.string ⟨#[]⟩), (.int .i64 0), (.int .i64 0)]) 40 rfl Tryd.underlying30 info57 rfl (by decide) (by omega) v278 y277 (⟨1, (⟨#[]⟩ : ByteArray), wrap64 ((l0.length : Int) - 1), 0⟩ : S57) [.int .i64 1, .string (⟨#[]⟩ : ByteArray), .int .i64 (wrap64 ((l0.length : Int) - 1)), .int .i64 0] (fun _ => True) (fun _ => False) rfl rfl ?aP (fun _ hk => hk.elim) ?aF ?aO ?aB ?aS ?aL ?_; (case aP => exact k57_mkM _ _ _ (⟨1, (⟨#[]⟩ : ByteArray), wrap64 ((l0.length : Int) - 1), 0⟩ : S57)); (case aB => exact (by repeat (first | (with_reducible first | exact HB.out | apply below_alloc | apply pw_below_drewN | apply below_drew1) | exact HB.out))); (case aF => exact (fun _ _ => trivial)); (case aO => exact (by (with_reducible repeat (first | apply Kd.R_alloc | apply Kd.R_drewN | apply Kd.R_drew)); exact HO279.out)); (case aS => exact (below_size (by repeat (first | (with_reducible first | exact HB.out | apply below_alloc | apply pw_below_drewN | apply below_drew1) | exact HB.out)))); (case aL => have := LMc3.out; omega); intro v281 w7 ho hb hg hat; rw [← Ny280.out] at ho; have n0_ := Aside0.mk (hb); have n1_ := Aside0.mk (ho); clear HB; clear HO279; have HB := n0_; have HO282 := n1_; clear n0_ n1_; clear ho hb hg hat))
      go_ret
      exact ⟨_, by first | rfl | (simp [errW_none, errW_some] <;> rfl) | (simp [*, errW_none, errW_some] <;> rfl), by (with_reducible repeat (first | apply Kd.R_alloc | apply Kd.R_drewN | apply Kd.R_drew)); exact HO282.out, by repeat (first | (with_reducible first | exact HB.out | apply below_alloc | apply pw_below_drewN | apply below_drew1) | exact HB.out)⟩
    · rw [if_neg c3] at H
      exact absurd H (by simp)
  · rw [if_neg c2] at H
    exact absurd H (by simp)

end Go.Proofs.YtfnikmkjhbbbgaaDoor.HExpr
