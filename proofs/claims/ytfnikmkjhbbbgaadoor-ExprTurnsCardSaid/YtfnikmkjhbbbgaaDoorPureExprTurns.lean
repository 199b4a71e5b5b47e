/- ExprTurns answers true for every input: the plain law; no conditions beyond the row's own. -/
import Derived.Test.YtfnikmkjhbbbgaaDoorHTurns
import Derived.Test.YtfnikmkjhbbbgaaDoorJoin
set_option linter.unusedVariables false
set_option linter.unusedSimpArgs false
namespace Go.Proofs.YtfnikmkjhbbbgaaDoor.Pure
open Go.RowKit Go.Proofs.YtfnikmkjhbbbgaaDoor Go.Proofs.YtfnikmkjhbbbgaaDoor.HExpr Go.Proofs.YtfnikmkjhbbbgaaDoorW.PrintWords Go.Proofs.YtfnikmkjhbbbgaaDoorW.PrintLast Go.Proofs.YtfnikmkjhbbbgaaDoorW.PrintMore
theorem anN_up (pre : List (Bool × Bool)) (hp : 0 < pre.length) : ∀ (l : List S51) (is r : List (Bool × Bool)), (∀ (j : Nat) x, l[j]? = some x → nameOk (is.length + j) x) → anN l is = some r → anN (l.map (sh (pre.length : Int))) (pre ++ is) = some (pre ++ r)
  | [], is, r, _, h => by simp only [anN, Option.some.injEq] at h; subst h; rfl
  | x :: l, is, r, hn, h => by
    have hx := hn 0 x rfl
    have hl : ∀ c : Bool × Bool, ∀ (j : Nat) y, l[j]? = some y → nameOk ((is ++ [c]).length + j) y := by
      intro c j y hj
      have := hn (j + 1) y (by simpa using hj)
      simp only [List.length_append, List.length_cons, List.length_nil]
      rw [show ((is.length + (0 + 1) : Nat) : Int) + j = is.length + ((j + 1 : Nat) : Int) by omega]; exact this
    simp only [anN] at h
    simp only [List.map_cons, anN]
    have e0 : (sh (pre.length : Int) x).f0 = x.f0 := rfl
    have e1 : (sh (pre.length : Int) x).f1 = x.f1 := rfl
    have e2 : (sh (pre.length : Int) x).f2 = if 0 < x.f0 then x.f2 + (pre.length : Int) else x.f2 := rfl
    have e3 : (sh (pre.length : Int) x).f3 = if 1 < x.f0 then x.f3 + (pre.length : Int) else x.f3 := rfl
    rcases hx with ⟨h0, z2, z3⟩ | ⟨h0, h1, h2, h3⟩ | ⟨h0, h1, h2, h3, h4⟩
    · rw [if_pos h0, if_pos ⟨z2, z3⟩] at h
      rw [if_pos (by rw [e0]; exact h0), if_pos (by rw [e2, e3, if_neg (by omega), if_neg (by omega)]; exact ⟨z2, z3⟩), e1, List.append_assoc]
      exact anN_up pre hp l _ r (hl _) h
    · rw [if_neg (by omega), if_pos (by omega)] at h
      rw [if_neg (by rw [e0]; omega), if_pos (by rw [e0]; omega), e0, e2, e3, if_pos (by omega), if_neg (by omega), gi_up pre is x.f2 h1]
      obtain ⟨a, ha, h⟩ := Option.bind_eq_some_iff.1 h
      obtain ⟨b, hb, h⟩ := Option.bind_eq_some_iff.1 h
      rw [ha]
      obtain ⟨c, hc⟩ := gi_some (pre ++ is) x.f3 (by omega) (by rw [h3]; simp; omega)
      rw [hc]
      simp only [Option.bind_some]
      have hj : join2 x.f0 a c = join2 x.f0 a b := by unfold join2; rw [if_pos h0, if_pos h0]
      rw [hj, List.append_assoc]
      exact anN_up pre hp l _ r (hl _) h
    · rw [if_neg (by omega), if_pos (by omega)] at h
      rw [if_neg (by rw [e0]; omega), if_pos (by rw [e0]; omega), e0, e2, e3, if_pos (by omega), if_pos (by omega), gi_up pre is x.f2 h1, gi_up pre is x.f3 h3]
      obtain ⟨a, ha, h⟩ := Option.bind_eq_some_iff.1 h
      obtain ⟨b, hb, h⟩ := Option.bind_eq_some_iff.1 h
      rw [ha, hb]
      simp only [Option.bind_some]
      rw [List.append_assoc]
      exact anN_up pre hp l _ r (hl _) h
/-- the run of what an expression may be -/
def anT (l : List S51) (v : Bool × Bool) : Prop := ∃ is, anN l [] = some is ∧ is.length = l.length ∧ is.getLast? = some v
theorem anT_some {l : List S51} {d : Int} (h : treeD l d) : ∃ v, anT l v := by
  obtain ⟨r, h1, h2, _⟩ := anN_ends l [] (by intro j x hj; simpa using tree_names h j x hj)
  have la := tree_len h
  simp only [List.length_nil, Nat.zero_add] at h2
  have hr : r ≠ [] := by intro e; rw [e] at h2; simp at h2; omega
  exact ⟨r.getLast hr, r, h1, h2, List.getLast?_eq_some_getLast hr⟩
theorem any_f {l : List S51} {v : Bool × Bool} (h : small l) (hc : chk l = 0) (hv : anT l v) : expr_Any.f l = some v.1 := by
  obtain ⟨is, h1, _, h3⟩ := hv
  unfold expr_Any.f anF; rw [if_pos h, if_pos hc, h1]
  simp only [Option.bind_some, h3, Option.map_some]
theorem an1_b (n : S51) (is : List (Bool × Bool)) (a b : Bool × Bool) (h0 : n.f0 = 1 ∨ n.f0 = 2 ∨ n.f0 = 3) (h2 : gi is n.f2 = some a) (h3 : gi is n.f3 = some b) : anN [n] is = some (is ++ [join2 n.f0 a b]) := by
  unfold anN
  rw [if_neg (by omega), if_pos h0, h2, h3]
  rfl
theorem an_both {kind : Int} (hk : kind = 2 ∨ kind = 3) {a b : List S51} {da db : Int} {va vb : Bool × Bool} (ha : treeD a da) (hb : treeD b db) (ea : anT a va) (eb : anT b vb) :
    anT (bothL kind a b) (join2 kind va vb) := by
  have la := tree_len ha
  have lb := tree_len hb
  obtain ⟨ia, a1, a2, a3⟩ := ea
  obtain ⟨ib, b1, b2, b3⟩ := eb
  refine ⟨ia ++ ib ++ [join2 kind va vb], ?_, by simp [bothL, a2, b2], by simp⟩
  unfold bothL
  rw [anN_append, anN_append, a1]
  simp only [Option.bind_some]
  have h1 := anN_up ia (by omega) b [] ib (by intro j x hj; simpa using tree_names hb j x hj) b1
  rw [List.append_nil, a2] at h1
  rw [h1]
  simp only [Option.bind_some]
  have g1 : gi (ia ++ ib) ((a.length : Int) - 1) = some va := gi_front _ _ _ _ (gi_last ia va _ a3 (by rw [a2]))
  have g2 : gi (ia ++ ib) ((a.length : Int) + (b.length : Int) - 1) = some vb := gi_last _ _ _ (by rw [List.getLast?_append, b3]; rfl) (by simp [a2, b2])
  exact an1_b _ _ va vb (.inr hk) g1 g2
theorem an_not {a : List S51} {da : Int} {va : Bool × Bool} (ha : treeD a da) (ea : anT a va) : anT (notL a) (va.2, va.1) := by
  have la := tree_len ha
  obtain ⟨ia, a1, a2, a3⟩ := ea
  refine ⟨ia ++ [(va.2, va.1)], ?_, by simp [notL, a2], by simp⟩
  unfold notL
  rw [anN_append, a1]
  simp only [Option.bind_some]
  obtain ⟨c, hc⟩ := gi_some ia 0 (by omega) (by omega)
  exact an1_b _ _ va c (.inl rfl) (gi_last ia va _ a3 (by rw [a2])) hc
theorem turns_end (x y : List S51) (tags : List ByteArray) (hx : chk x = 0) (hy : chk y = 0) (sx : small x) (sy : small y) (hl : x.length + y.length ≤ 50) (k : Nat) (hk : 70 ≤ k) :
    graftbedlaw12_ExprTurns.j1 (k + 1) tags x y false = some true := by
  obtain ⟨dx, tx, dx40, lx⟩ := tree_of hx
  obtain ⟨dy, ty, dy40, ly⟩ := tree_of hy
  obtain ⟨vx, ex⟩ := evT_some tags tx
  obtain ⟨vy, ey⟩ := evT_some tags ty
  obtain ⟨mx, ax⟩ := anT_some tx
  obtain ⟨my, ay⟩ := anT_some ty
  have nx := tree_names tx
  have ny := tree_names ty
  have nny := tree_names (tree_not ty)
  rw [graftbedlaw12_ExprTurns.j1, if_neg (by decide), and_ends x y (by omega) (by omega) ny k (by omega)]
  simp only [Option.bind_some]
  rw [not_ends (bothL 2 x y) (by rw [both_len]; omega)]
  simp only [Option.bind_some]
  rw [or_ends x y (by omega) (by omega) ny k (by omega)]
  simp only [Option.bind_some]
  rw [not_ends (bothL 3 x y) (by rw [both_len]; omega)]
  simp only [Option.bind_some]
  rw [check_f (small_not (small_both sx sy))]
  simp only [Option.bind_some]
  by_cases hc : chk (notL (bothL 2 x y)) = 0
  case neg => rw [if_neg hc]
  have hd := (tree_chk (tree_not (tree_both (.inl rfl) tx ty))).1 hc
  have c1 : ∀ kind : Int, kind = 2 ∨ kind = 3 → chk (notL (bothL kind x y)) = 0 := fun kind hk => (tree_chk (tree_not (tree_both hk tx ty))).2 ⟨hd.1, by rw [not_len, both_len] at hd ⊢; exact hd.2⟩
  have c2 : ∀ kind : Int, kind = 2 ∨ kind = 3 → chk (bothL kind (notL x) (notL y)) = 0 := fun kind hk => (tree_chk (tree_both hk (tree_not tx) (tree_not ty))).2 ⟨by have := hd.1; omega, by rw [both_len, not_len, not_len]; omega⟩
  rw [if_pos hc, not_ends x (by omega)]
  simp only [Option.bind_some]
  rw [not_ends y (by omega)]
  simp only [Option.bind_some]
  rw [or_ends (notL x) (notL y) (by rw [not_len]; omega) (by rw [not_len]; omega) nny k (by rw [not_len]; omega)]
  simp only [Option.bind_some]
  rw [and_ends (notL x) (notL y) (by rw [not_len]; omega) (by rw [not_len]; omega) nny k (by rw [not_len]; omega)]
  simp only [Option.bind_some]
  rw [eval_f (small_not (small_both sx sy)) hc (ev_not (tree_both (.inl rfl) tx ty) (ev_both (.inl rfl) tx ty ex ey))]
  simp only [Option.bind_some]
  rw [eval_f (small_both (small_not sx) (small_not sy)) (c2 3 (.inr rfl)) (ev_both (.inr rfl) (tree_not tx) (tree_not ty) (ev_not tx ex) (ev_not ty ey))]
  simp only [Option.bind_some]
  rw [if_pos (by cases vx <;> cases vy <;> rfl), eval_f (small_not (small_both sx sy)) (c1 3 (.inr rfl)) (ev_not (tree_both (.inr rfl) tx ty) (ev_both (.inr rfl) tx ty ex ey))]
  simp only [Option.bind_some]
  rw [eval_f (small_both (small_not sx) (small_not sy)) (c2 2 (.inl rfl)) (ev_both (.inl rfl) (tree_not tx) (tree_not ty) (ev_not tx ex) (ev_not ty ey))]
  simp only [Option.bind_some]
  rw [if_pos (by cases vx <;> cases vy <;> rfl), any_f (small_not (small_both sx sy)) hc (an_not (tree_both (.inl rfl) tx ty) (an_both (.inl rfl) tx ty ax ay))]
  simp only [Option.bind_some]
  rw [any_f (small_both (small_not sx) (small_not sy)) (c2 3 (.inr rfl)) (an_both (.inr rfl) (tree_not tx) (tree_not ty) (an_not tx ax) (an_not ty ay))]
  simp only [Option.bind_some]
  obtain ⟨mx1, mx2⟩ := mx
  obtain ⟨my1, my2⟩ := my
  rw [if_pos (by cases mx1 <;> cases mx2 <;> cases my1 <;> cases my2 <;> rfl), any_f (small_not (small_both sx sy)) (c1 3 (.inr rfl)) (an_not (tree_both (.inr rfl) tx ty) (an_both (.inr rfl) tx ty ax ay))]
  simp only [Option.bind_some]
  rw [any_f (small_both (small_not sx) (small_not sy)) (c2 2 (.inl rfl)) (an_both (.inl rfl) (tree_not tx) (tree_not ty) (an_not tx ax) (an_not ty ay))]
  simp only [Option.bind_some]
  rw [if_pos (by cases mx1 <;> cases mx2 <;> cases my1 <;> cases my2 <;> rfl), not_len, both_len, w64 ((x.length : Int) + (y.length : Int)) (by omega) (by omega), w64 _ (by omega) (by omega)]
  simp
  omega
theorem ExprTurns : ∀ (a0 : ByteArray) (a1 : ByteArray) (l2 : List ByteArray), (a0.size ≤ 140737488351232) → (a1.size ≤ 140737488351232) → ((l2.length ≤ maxLen ∧ l2.length * 16 ≤ 140737488351232 ∧ ∀ x0 ∈ l2, x0.size ≤ 140737488351232)) → ∃ k, graftbedlaw12_ExprTurns.f k a0 a1 l2 = some true := by
  intro a0 a1 l2 h0 h1 h2
  refine ⟨200 + 1 + 1, ?_⟩
  have ha : graftbedlaw12_a.f = some [aNode] := rfl
  have hj : graftbedlaw12_ExprTurns.j0 (200 + 1 + 1) a0 a1 l2 true = some true := by
    rw [graftbedlaw12_ExprTurns.j0, if_pos rfl, ha]; rfl
  unfold graftbedlaw12_ExprTurns.f
  by_cases s0 : (a0.size : Int) > 128
  · rw [if_pos s0]; exact hj
  rw [if_neg s0]
  by_cases s1 : (a1.size : Int) > 128
  · rw [if_pos s1]; exact hj
  rw [if_neg s1]
  by_cases s2 : (l2.length : Int) > 50
  · rw [if_pos s2]; exact hj
  rw [if_neg s2, ha]
  simp only [Option.bind_some]
  obtain ⟨x, e, hx, cx⟩ := parse_ends a0 (by omega)
  obtain ⟨y, f, hy, cy⟩ := parse_ends a1 (by omega)
  rw [graftbedlaw12_ExprTurns.j0, if_neg (by decide), hx (200 + 1) (by omega)]
  simp only [Option.bind_some]
  rw [hy (200 + 1) (by omega)]
  simp only [Option.bind_some]
  have hj1 : graftbedlaw12_ExprTurns.j1 (200 + 1) l2 x y true = some true := by rw [graftbedlaw12_ExprTurns.j1, if_pos rfl, ha]; rfl
  by_cases he : e = 0
  · rw [if_pos he]
    by_cases hf : f = 0
    · rw [if_pos hf]
      obtain ⟨ce, se⟩ := cx he
      obtain ⟨cf, sf⟩ := cy hf
      have lx := (chk_zero ce).1
      have ly := (chk_zero cf).1
      rw [w64 _ (by omega) (by omega)]
      by_cases hl : (x.length : Int) + (y.length : Int) > 50
      · rw [decide_eq_true hl]; exact hj1
      · rw [decide_eq_false hl]
        exact turns_end x y l2 ce cf se sf (by omega) 200 (by omega)
    · rw [if_neg hf]; exact hj1
  · rw [if_neg he]; exact hj1
end Go.Proofs.YtfnikmkjhbbbgaaDoor.Pure
