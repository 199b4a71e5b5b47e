/- ExprEither answers true for every input: the plain law; no conditions beyond the row's own. -/
import Derived.Test.YtfnikmkjhbbbgaaDoorHExprx9
import Derived.Test.YtfnikmkjhbbbgaaDoorJoin
set_option linter.unusedVariables false
set_option linter.unusedSimpArgs false
namespace Go.Proofs.YtfnikmkjhbbbgaaDoor.Pure
open Go.RowKit Go.Proofs.YtfnikmkjhbbbgaaDoor Go.Proofs.YtfnikmkjhbbbgaaDoor.HExpr Go.Proofs.YtfnikmkjhbbbgaaDoorW.PrintWords Go.Proofs.YtfnikmkjhbbbgaaDoorW.PrintLast Go.Proofs.YtfnikmkjhbbbgaaDoorW.PrintMore
theorem either_end (x y : List S51) (tags : List ByteArray) (hx : chk x = 0) (hy : chk y = 0) (sx : small x) (sy : small y) (hl : x.length + y.length ≤ 50) (hx25 : x.length ≤ 25) (k : Nat) (hk : 70 ≤ k) :
    graftbedlaw12_ExprEither.j1 (k + 1) tags x y false = some true := by
  obtain ⟨dx, tx, dx40, lx⟩ := tree_of hx
  obtain ⟨dy, ty, dy40, ly⟩ := tree_of hy
  obtain ⟨vx, ex⟩ := evT_some tags tx
  obtain ⟨vy, ey⟩ := evT_some tags ty
  have nx := tree_names tx
  have ny := tree_names ty
  rw [graftbedlaw12_ExprEither.j1, if_neg (by decide), and_ends x y (by omega) (by omega) ny k (by omega)]
  simp only [Option.bind_some]
  rw [or_ends x y (by omega) (by omega) ny k (by omega)]
  simp only [Option.bind_some]
  rw [check_f (small_both sx sy)]
  simp only [Option.bind_some]
  by_cases hc : chk (bothL 2 x y) = 0
  · rw [if_pos hc, eval_f sx hx ex]
    simp only [Option.bind_some]
    have hd := (tree_chk (tree_both (.inl rfl) tx ty)).1 hc
    have c2 : ∀ kind : Int, kind = 2 ∨ kind = 3 → chk (bothL kind x y) = 0 := fun kind hk => (tree_chk (tree_both hk tx ty)).2 ⟨hd.1, by rw [both_len] at hd ⊢; exact hd.2⟩
    have c3 : ∀ kind : Int, kind = 2 ∨ kind = 3 → chk (bothL kind y x) = 0 := fun kind hk => (tree_chk (tree_both hk ty tx)).2 ⟨by have := hd.1; omega, by have := hd.2; rw [both_len] at this ⊢; omega⟩
    have c4 : ∀ kind : Int, kind = 2 ∨ kind = 3 → chk (bothL kind x x) = 0 := fun kind hk => (tree_chk (tree_both hk tx tx)).2 ⟨by have := hd.1; omega, by rw [both_len]; omega⟩
    rw [eval_f (small_both sx sy) hc (ev_both (.inl rfl) tx ty ex ey)]
    simp only [Option.bind_some]
    rw [and_ends y x (by omega) (by omega) nx k (by omega)]
    simp only [Option.bind_some]
    rw [eval_f (small_both sy sx) (c3 2 (.inl rfl)) (ev_both (.inl rfl) ty tx ey ex)]
    simp only [Option.bind_some]
    rw [if_pos (by cases vx <;> cases vy <;> rfl), eval_f (small_both sx sy) (c2 3 (.inr rfl)) (ev_both (.inr rfl) tx ty ex ey)]
    simp only [Option.bind_some]
    rw [or_ends y x (by omega) (by omega) nx k (by omega)]
    simp only [Option.bind_some]
    rw [eval_f (small_both sy sx) (c3 3 (.inr rfl)) (ev_both (.inr rfl) ty tx ey ex)]
    simp only [Option.bind_some]
    rw [if_pos (by cases vx <;> cases vy <;> rfl), and_ends x x (by omega) (by omega) nx k (by omega)]
    simp only [Option.bind_some]
    rw [eval_f (small_both sx sx) (c4 2 (.inl rfl)) (ev_both (.inl rfl) tx tx ex ex)]
    simp only [Option.bind_some]
    rw [if_pos (by cases vx <;> rfl), or_ends x x (by omega) (by omega) nx k (by omega)]
    simp only [Option.bind_some]
    rw [eval_f (small_both sx sx) (c4 3 (.inr rfl)) (ev_both (.inr rfl) tx tx ex ex)]
    simp only [Option.bind_some]
    rw [if_pos (by cases vx <;> rfl), both_len, w64 ((x.length : Int) + (y.length : Int)) (by omega) (by omega), w64 _ (by omega) (by omega)]
    simp
  · rw [if_neg hc]
theorem ExprEither : ∀ (a0 : ByteArray) (a1 : ByteArray) (l2 : List ByteArray), (a0.size ≤ 140737488351232) → (a1.size ≤ 140737488351232) → ((l2.length ≤ maxLen ∧ l2.length * 16 ≤ 140737488351232 ∧ ∀ x0 ∈ l2, x0.size ≤ 140737488351232)) → ∃ k, graftbedlaw12_ExprEither.f k a0 a1 l2 = some true := by
  intro a0 a1 l2 h0 h1 h2
  refine ⟨200 + 1 + 1, ?_⟩
  have ha : graftbedlaw12_a.f = some [aNode] := rfl
  have hj : graftbedlaw12_ExprEither.j0 (200 + 1 + 1) a0 a1 l2 true = some true := by
    rw [graftbedlaw12_ExprEither.j0, if_pos rfl, ha]; rfl
  unfold graftbedlaw12_ExprEither.f
  by_cases s0 : (a0.size : Int) > 128
  · rw [if_pos s0]; exact hj
  rw [if_neg s0]
  by_cases s1 : (a1.size : Int) > 128
  · rw [if_pos s1]; exact hj
  rw [if_neg s1]
  by_cases s2 : (l2.length : Int) > 50
  · rw [if_pos s2]; exact hj
  rw [if_neg s2, ha]
  simp only [Option.bind_some]
  obtain ⟨x, e, hx, cx⟩ := parse_ends a0 (by omega)
  obtain ⟨y, f, hy, cy⟩ := parse_ends a1 (by omega)
  rw [graftbedlaw12_ExprEither.j0, if_neg (by decide), hx (200 + 1) (by omega)]
  simp only [Option.bind_some]
  rw [hy (200 + 1) (by omega)]
  simp only [Option.bind_some]
  have hj1 : graftbedlaw12_ExprEither.j1 (200 + 1) l2 x y true = some true := by rw [graftbedlaw12_ExprEither.j1, if_pos rfl, ha]; rfl
  by_cases he : e = 0
  · rw [if_pos he]
    by_cases hf : f = 0
    · rw [if_pos hf]
      obtain ⟨ce, se⟩ := cx he
      obtain ⟨cf, sf⟩ := cy hf
      have lx := (chk_zero ce).1
      have ly := (chk_zero cf).1
      rw [w64 _ (by omega) (by omega)]
      by_cases hl : (x.length : Int) + (y.length : Int) > 50
      · rw [if_pos hl]; exact hj1
      · rw [if_neg hl]
        by_cases h25 : (x.length : Int) > 25
        · rw [decide_eq_true h25]; exact hj1
        · rw [decide_eq_false h25]
          exact either_end x y l2 ce cf se sf (by omega) (by omega) 200 (by omega)
    · rw [if_neg hf]; exact hj1
  · rw [if_neg he]; exact hj1
end Go.Proofs.YtfnikmkjhbbbgaaDoor.Pure
