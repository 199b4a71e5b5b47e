/- ExprLogic answers true for every input: the plain law; no conditions beyond the row's own. -/
import Derived.Test.YtfnikmkjhbbbgaaDoorHExprx8
import Derived.Test.YtfnikmkjhbbbgaaDoorJoin
set_option linter.unusedVariables false
set_option linter.unusedSimpArgs false
namespace Go.Proofs.YtfnikmkjhbbbgaaDoor.Pure
open Go.RowKit Go.Proofs.YtfnikmkjhbbbgaaDoor Go.Proofs.YtfnikmkjhbbbgaaDoor.HExpr Go.Proofs.YtfnikmkjhbbbgaaDoorW.PrintWords Go.Proofs.YtfnikmkjhbbbgaaDoorW.PrintLast Go.Proofs.YtfnikmkjhbbbgaaDoorW.PrintMore
/-- the document's node -/
def cv (x : S51) : S57 := ⟨x.f0, x.f1, x.f2, x.f3⟩
theorem rd57 (l : List S57) (i : Nat) (h : i < l.length) : rd_T57 l (i : Int) = l[i] := by unfold rd_T57; simp [List.getD, h]
theorem th_loop (l : List S51) (hl : l.length ≤ 1000) : ∀ (n i : Nat), i + n = l.length → ∀ k, n < k → ∀ out : List S57, out.length ≤ i → graftbedlaw12_theirs.l0 k l out (i : Int) = some (out ++ (l.drop i).map cv)
  | 0, i, hi, k, hk, out, ho => by
    obtain ⟨k, rfl⟩ : ∃ k', k = k' + 1 := ⟨k - 1, by omega⟩
    rw [graftbedlaw12_theirs.l0, if_neg (by omega), List.drop_eq_nil_of_le (by omega)]; simp
  | n + 1, i, hi, k, hk, out, ho => by
    obtain ⟨k, rfl⟩ : ∃ k', k = k' + 1 := ⟨k - 1, by omega⟩
    have hil : i < l.length := by omega
    rw [graftbedlaw12_theirs.l0, if_pos (by omega), if_pos (by omega), if_pos (by omega), rd51 l i hil, w64 _ (by omega) (by omega), show ((i : Int) + 1) = ((i + 1 : Nat) : Int) by omega,
      th_loop l hl n (i + 1) (by omega) k (by omega) _ (by simp; omega), List.drop_eq_getElem_cons hil, List.map_cons, List.append_assoc]
    rfl
theorem th_ends (l : List S51) (hl : l.length ≤ 1000) (k : Nat) (hk : l.length < k) : graftbedlaw12_theirs.f k l = some (l.map cv) := by
  unfold graftbedlaw12_theirs.f
  have := th_loop l hl l.length 0 (by omega) k hk [] (by simp)
  simpa using this
theorem moved_loop (b : List S51) (m : Nat) (hm : m ≤ 1000) (hb : b.length ≤ 1000) (hn : ∀ (j : Nat) x, b[j]? = some x → nameOk j x) : ∀ (n i : Nat), i + n = b.length → ∀ k, n < k → ∀ out : List S57, out.length = i →
    graftbedref12_moved.l0 k (b.map cv) (m : Int) out (i : Int) = some (out ++ ((b.drop i).map (sh (m : Int))).map cv)
  | 0, i, hi, k, hk, out, ho => by
    obtain ⟨k, rfl⟩ : ∃ k', k = k' + 1 := ⟨k - 1, by omega⟩
    rw [graftbedref12_moved.l0, if_neg (by simp; omega), List.drop_eq_nil_of_le (by omega)]
    simp only [List.map_nil, List.append_nil]
  | n + 1, i, hi, k, hk, out, ho => by
    obtain ⟨k, rfl⟩ : ∃ k', k = k' + 1 := ⟨k - 1, by omega⟩
    have hil : i < b.length := by omega
    have hil2 : i < (b.map cv).length := by simp; omega
    have hx := hn i b[i] (List.getElem?_eq_getElem hil)
    have step : ∀ y : S57, y = cv (sh (m : Int) b[i]) → graftbedref12_moved.l0 k (b.map cv) (m : Int) (out ++ [y]) (wrap64 ((i : Int) + 1)) = some (out ++ ((b.drop i).map (sh (m : Int))).map cv) := by
      rintro y rfl
      rw [w64 _ (by omega) (by omega), show ((i : Int) + 1) = ((i + 1 : Nat) : Int) by omega, moved_loop b m hm hb hn n (i + 1) (by omega) k (by omega) _ (by simp; omega), List.drop_eq_getElem_cons hil, List.map_cons, List.map_cons]
      simp only [List.append_assoc, List.cons_append, List.nil_append]
    rw [graftbedref12_moved.l0, if_pos (by simp; omega), if_pos (by omega), rd57 (b.map cv) i hil2, List.getElem_map]
    generalize b[i] = x at *
    show (if x.f0 > 0 then _ else _) = _
    by_cases h0 : x.f0 > 0
    · rw [if_pos h0]
      have b2 : 0 ≤ x.f2 ∧ x.f2 < 1000 := by rcases hx with h | h | h <;> omega
      show (if x.f0 > 1 then _ else _) = _
      by_cases h1 : x.f0 > 1
      · rw [if_pos h1, if_pos (by omega)]
        have b3 : 0 ≤ x.f3 ∧ x.f3 < 1000 := by rcases hx with h | h | h <;> omega
        refine step _ ?_
        show (⟨x.f0, x.f1, wrap64 (x.f2 + (m : Int)), wrap64 (x.f3 + (m : Int))⟩ : S57) = _
        rw [w64 _ (by omega) (by omega), w64 _ (by omega) (by omega)]
        unfold sh cv; rw [if_pos (by omega), if_pos (by omega)]
      · rw [if_neg h1, if_pos (by omega)]
        refine step _ ?_
        show (⟨x.f0, x.f1, wrap64 (x.f2 + (m : Int)), x.f3⟩ : S57) = _
        rw [w64 _ (by omega) (by omega)]
        unfold sh cv; rw [if_pos (by omega), if_neg (by omega)]
    · rw [if_neg h0]
      show (if x.f0 > 1 then _ else _) = _
      rw [if_neg (by omega), if_pos (by omega)]
      refine step _ ?_
      show (⟨x.f0, x.f1, x.f2, x.f3⟩ : S57) = _
      unfold sh cv; rw [if_neg (by omega), if_neg (by omega)]
theorem rboth_ends (kind : Int) (a b : List S51) (ha : a.length ≤ 1000) (hb : b.length ≤ 1000) (hn : ∀ (j : Nat) x, b[j]? = some x → nameOk j x) (k : Nat) (hk : b.length < k) : graftbedref12_both.f k kind (a.map cv) (b.map cv) = some ((bothL kind a b).map cv) := by
  have hm : graftbedref12_moved.f k (b.map cv) ((a.map cv).length : Int) = some ((b.map (sh (a.length : Int))).map cv) := by
    unfold graftbedref12_moved.f
    rw [List.length_map]
    have := moved_loop b a.length ha hb hn b.length 0 (by omega) k hk [] rfl
    simpa using this
  unfold graftbedref12_both.f
  simp only [Option.bind_some]
  rw [if_pos (by simp; omega), hm]
  simp only [Option.bind_some]
  rw [if_pos (by simp; omega), if_pos (by simp; omega)]
  simp only [List.length_map, List.nil_append]
  rw [w64 ((a.length : Int) - 1) (by omega) (by omega), w64 ((a.length : Int) + (b.length : Int)) (by omega) (by omega), w64 _ (by omega) (by omega)]
  simp only [bothL, List.map_append, List.map_cons, List.map_nil, cv]
theorem rand_ends (a b : List S51) (ha : a.length ≤ 1000) (hb : b.length ≤ 1000) (hn : ∀ (j : Nat) x, b[j]? = some x → nameOk j x) (k : Nat) (hk : b.length < k) : graftbedref12_And.f k (a.map cv) (b.map cv) = some ((bothL 2 a b).map cv) := by
  unfold graftbedref12_And.f; rw [rboth_ends 2 a b ha hb hn k hk]; rfl
theorem ror_ends (a b : List S51) (ha : a.length ≤ 1000) (hb : b.length ≤ 1000) (hn : ∀ (j : Nat) x, b[j]? = some x → nameOk j x) (k : Nat) (hk : b.length < k) : graftbedref12_Or.f k (a.map cv) (b.map cv) = some ((bothL 3 a b).map cv) := by
  unfold graftbedref12_Or.f; rw [rboth_ends 3 a b ha hb hn k hk]; rfl
theorem rnot_ends (a : List S51) (ha : a.length ≤ 1000) : graftbedref12_Not.f (a.map cv) = some ((notL a).map cv) := by
  unfold graftbedref12_Not.f
  simp only [Option.bind_some]
  rw [if_pos (by simp; omega)]
  rw [if_pos (by simp; omega)]
  simp only [List.length_map, List.nil_append]
  rw [w64 _ (by omega) (by omega)]
  simp only [notL, List.map_append, List.map_cons, List.map_nil, cv]
theorem same_loop (l : List S57) (hl : l.length ≤ 10000) : ∀ (n i : Nat), i + n = l.length → ∀ k, n < k → graftbedref12_Same.l0 k l l (i : Int) = some true
  | 0, i, hi, k, hk => by
    obtain ⟨k, rfl⟩ : ∃ k', k = k' + 1 := ⟨k - 1, by omega⟩
    rw [graftbedref12_Same.l0, if_neg (by omega)]
  | n + 1, i, hi, k, hk => by
    obtain ⟨k, rfl⟩ : ∃ k', k = k' + 1 := ⟨k - 1, by omega⟩
    rw [graftbedref12_Same.l0, if_pos (by omega), if_pos (by omega), if_pos (by omega), if_neg (by simp), w64 _ (by omega) (by omega), show ((i : Int) + 1) = ((i + 1 : Nat) : Int) by omega]
    exact same_loop l hl n (i + 1) (by omega) k (by omega)
theorem same_ends (l : List S57) (hl : l.length ≤ 10000) (k : Nat) (hk : l.length < k) : graftbedref12_Same.f k l l = some true := by
  unfold graftbedref12_Same.f
  rw [if_pos rfl]
  exact same_loop l hl l.length 0 (by omega) k hk
theorem logic_3 (x y : List S51) (tags : List ByteArray) (hx : chk x = 0) (hy : chk y = 0) (sx : small x) (sy : small y) (vx vy : Bool) (ex : evT tags x vx) (ey : evT tags y vy) (k : Nat) :
    graftbedlaw12_ExprLogic.j3 (k + 1) tags (bothL 2 x y) (bothL 3 x y) vx vy false = some true := by
  obtain ⟨dx, tx, dx40, lx⟩ := tree_of hx
  obtain ⟨dy, ty, dy40, ly⟩ := tree_of hy
  rw [graftbedlaw12_ExprLogic.j3, if_neg (by decide), check_f (small_both sx sy)]
  simp only [Option.bind_some]
  by_cases hc : chk (bothL 2 x y) = 0
  case neg => rw [if_neg hc]
  have hd := (tree_chk (tree_both (.inl rfl) tx ty)).1 hc
  have hc3 : chk (bothL 3 x y) = 0 := (tree_chk (tree_both (.inr rfl) tx ty)).2 ⟨hd.1, by rw [both_len] at hd ⊢; exact hd.2⟩
  rw [if_pos hc, check_f (small_both sx sy)]
  simp only [Option.bind_some]
  rw [if_pos hc3, eval_f (small_both sx sy) hc (ev_both (.inl rfl) tx ty ex ey)]
  simp only [Option.bind_some]
  rw [eval_f (small_both sx sy) hc3 (ev_both (.inr rfl) tx ty ex ey)]
  cases vx <;> cases vy <;> rfl
theorem logic_2 (x y : List S51) (tags : List ByteArray) (hx : chk x = 0) (hy : chk y = 0) (sx : small x) (sy : small y) (k : Nat) :
    graftbedlaw12_ExprLogic.j2 (k + 1 + 1) tags x y (bothL 2 x y) (bothL 3 x y) (notL x) false = some true := by
  obtain ⟨dx, tx, dx40, lx⟩ := tree_of hx
  obtain ⟨dy, ty, dy40, ly⟩ := tree_of hy
  obtain ⟨vx, ex⟩ := evT_some tags tx
  obtain ⟨vy, ey⟩ := evT_some tags ty
  rw [graftbedlaw12_ExprLogic.j2, if_neg (by decide), eval_f sx hx ex, eval_f sy hy ey]
  simp only [Option.bind_some]
  rw [check_f (small_not sx)]
  simp only [Option.bind_some]
  by_cases hc : chk (notL x) = 0
  · rw [if_pos hc, eval_f (small_not sx) hc (ev_not tx ex)]
    simp only [Option.bind_some]
    rw [show ((!vx) == vx) = false by cases vx <;> rfl]
    exact logic_3 x y tags hx hy sx sy vx vy ex ey k
  · rw [if_neg hc]
    exact logic_3 x y tags hx hy sx sy vx vy ex ey k
theorem logic_1 (x y : List S51) (tags : List ByteArray) (hx : chk x = 0) (hy : chk y = 0) (sx : small x) (sy : small y) (k : Nat) (hk : 200 ≤ k) :
    graftbedlaw12_ExprLogic.j1 (k + 1 + 1 + 1) tags x y false = some true := by
  obtain ⟨dx, tx, dx40, lx⟩ := tree_of hx
  obtain ⟨dy, ty, dy40, ly⟩ := tree_of hy
  have nx := tree_names tx
  have ny := tree_names ty
  have lb : ∀ kind, ((bothL kind x y).map cv).length ≤ 121 := by intro kind; rw [List.length_map, both_len]; omega
  rw [graftbedlaw12_ExprLogic.j1, if_neg (by decide), and_ends x y (by omega) (by omega) ny (k + 1 + 1) (by omega)]
  simp only [Option.bind_some]
  rw [or_ends x y (by omega) (by omega) ny (k + 1 + 1) (by omega)]
  simp only [Option.bind_some]
  rw [not_ends x (by omega)]
  simp only [Option.bind_some]
  rw [th_ends (bothL 2 x y) (by rw [both_len]; omega) _ (by rw [both_len]; omega)]
  simp only [Option.bind_some]
  rw [th_ends x (by omega) _ (by omega), th_ends y (by omega) _ (by omega)]
  simp only [Option.bind_some]
  rw [rand_ends x y (by omega) (by omega) ny _ (by omega)]
  simp only [Option.bind_some]
  rw [same_ends _ (by have := lb 2; omega) _ (by have := lb 2; omega)]
  simp only [Option.bind_some]
  rw [if_pos trivial, th_ends (bothL 3 x y) (by rw [both_len]; omega) _ (by rw [both_len]; omega)]
  simp only [Option.bind_some]
  rw [ror_ends x y (by omega) (by omega) ny _ (by omega)]
  simp only [Option.bind_some]
  rw [same_ends _ (by have := lb 3; omega) _ (by have := lb 3; omega)]
  simp only [Option.bind_some]
  rw [if_pos trivial, th_ends (notL x) (by rw [not_len]; omega) _ (by rw [not_len]; omega)]
  simp only [Option.bind_some]
  rw [rnot_ends x (by omega)]
  simp only [Option.bind_some]
  rw [same_ends _ (by rw [List.length_map, not_len]; omega) _ (by rw [List.length_map, not_len]; omega)]
  simp only [Option.bind_some]
  exact logic_2 x y tags hx hy sx sy k
theorem ExprLogic : ∀ (a0 : ByteArray) (a1 : ByteArray) (l2 : List ByteArray), (a0.size ≤ 140737488351232) → (a1.size ≤ 140737488351232) → ((l2.length ≤ maxLen ∧ l2.length * 16 ≤ 140737488351232 ∧ ∀ x0 ∈ l2, x0.size ≤ 140737488351232)) → ∃ k, graftbedlaw12_ExprLogic.f k a0 a1 l2 = some true := by
  intro a0 a1 l2 h0 h1 h2
  refine ⟨300 + 1 + 1 + 1 + 1, ?_⟩
  have ha : graftbedlaw12_a.f = some [aNode] := rfl
  have hj : graftbedlaw12_ExprLogic.j0 (300 + 1 + 1 + 1 + 1) a0 a1 l2 true = some true := by
    rw [graftbedlaw12_ExprLogic.j0, if_pos rfl, ha]; rfl
  unfold graftbedlaw12_ExprLogic.f
  by_cases s0 : (a0.size : Int) > 256
  · rw [if_pos s0]; exact hj
  rw [if_neg s0]
  by_cases s1 : (a1.size : Int) > 256
  · rw [if_pos s1]; exact hj
  rw [if_neg s1]
  by_cases s2 : (l2.length : Int) > 50
  · rw [if_pos s2]; exact hj
  rw [if_neg s2, ha]
  simp only [Option.bind_some]
  obtain ⟨x, e, hx, cx⟩ := parse_ends a0 (by omega)
  obtain ⟨y, f, hy, cy⟩ := parse_ends a1 (by omega)
  rw [graftbedlaw12_ExprLogic.j0, if_neg (by decide), hx (300 + 1 + 1 + 1) (by omega)]
  simp only [Option.bind_some]
  rw [hy (300 + 1 + 1 + 1) (by omega)]
  simp only [Option.bind_some]
  have hj1 : graftbedlaw12_ExprLogic.j1 (300 + 1 + 1 + 1) l2 x y true = some true := by rw [graftbedlaw12_ExprLogic.j1, if_pos rfl, ha]; rfl
  by_cases he : e = 0
  · rw [if_pos he]
    by_cases hf : f = 0
    · rw [show (f != 0) = false by rw [hf]; rfl]
      obtain ⟨ce, se⟩ := cx he
      obtain ⟨cf, sf⟩ := cy hf
      exact logic_1 x y l2 ce cf se sf 300 (by omega)
    · rw [show (f != 0) = true from bne_iff_ne.2 hf]; exact hj1
  · rw [if_neg he]; exact hj1
end Go.Proofs.YtfnikmkjhbbbgaaDoor.Pure
