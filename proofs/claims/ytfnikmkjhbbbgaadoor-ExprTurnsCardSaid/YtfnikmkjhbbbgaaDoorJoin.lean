/- And, Or and Not of the program make the nodes that the plain law says; no conditions. -/
import Derived.Test.YtfnikmkjhbbbgaaDoorHExprx6
import Derived.Test.YtfnikmkjhbbbgaaDoorHExprx2
import Derived.Test.YtfnikmkjhbbbgaaDoorLogic
import Derived.Test.YtfnikmkjhbbbgaaDoorEnds
set_option linter.unusedVariables false
set_option linter.unusedSimpArgs false
namespace Go.Proofs.YtfnikmkjhbbbgaaDoor
open HExpr Go.RowKit Go.Proofs.YtfnikmkjhbbbgaaDoorW.PrintWords
theorem rd51 (l : List S51) (i : Nat) (h : i < l.length) : rd_T51 l (i : Int) = l[i] := by unfold rd_T51; simp [List.getD, h]
theorem both_loop (kind : Int) (a b : List S51) (ha : a.length ≤ 1000) (hb : b.length ≤ 1000) (hn : ∀ (j : Nat) x, b[j]? = some x → nameOk j x) : ∀ (n i : Nat), i + n = b.length → ∀ k, n < k → ∀ out : List S51, out.length = a.length + i →
    expr_both.l0 k kind a out b (b.length : Int) (i : Int) = some (out ++ (b.drop i).map (sh (a.length : Int)) ++ [⟨kind, ⟨#[]⟩, (a.length : Int) - 1, (a.length : Int) + (b.length : Int) - 1⟩])
  | 0, i, hi, k, hk, out, ho => by
    obtain ⟨k, rfl⟩ : ∃ k', k = k' + 1 := ⟨k - 1, by omega⟩
    rw [expr_both.l0, if_neg (by omega), if_pos (by omega), List.drop_eq_nil_of_le (by omega), w64 _ (by omega) (by omega), w64 _ (by omega) (by omega)]
    simp only [List.map_nil, List.append_nil]
    rw [show (out.length : Int) - 1 = (a.length : Int) + (b.length : Int) - 1 by omega]
  | n + 1, i, hi, k, hk, out, ho => by
    obtain ⟨k, rfl⟩ : ∃ k', k = k' + 1 := ⟨k - 1, by omega⟩
    have hil : i < b.length := by omega
    have hx := hn i b[i] (List.getElem?_eq_getElem hil)
    have step : ∀ y : S51, y = sh (a.length : Int) b[i] → expr_both.l0 k kind a (out ++ [y]) b (b.length : Int) (wrap64 ((i : Int) + 1)) = some (out ++ (b.drop i).map (sh (a.length : Int)) ++ [⟨kind, ⟨#[]⟩, (a.length : Int) - 1, (a.length : Int) + (b.length : Int) - 1⟩]) := by
      rintro y rfl
      rw [w64 _ (by omega) (by omega), show ((i : Int) + 1) = ((i + 1 : Nat) : Int) by omega, both_loop kind a b ha hb hn n (i + 1) (by omega) k (by omega) _ (by simp; omega), List.drop_eq_getElem_cons hil, List.map_cons]
      simp only [List.append_assoc, List.cons_append, List.nil_append]
    rw [expr_both.l0, if_pos (by omega), if_pos (by omega), if_pos (by omega), rd51 b i hil]
    generalize b[i] = x at *
    by_cases h0 : x.f0 > 0
    · rw [if_pos h0]
      have b2 : 0 ≤ x.f2 ∧ x.f2 < 1000 := by rcases hx with h | h | h <;> omega
      by_cases h1 : x.f0 > 1
      · rw [if_pos h1, if_pos (by omega)]
        have b3 : 0 ≤ x.f3 ∧ x.f3 < 1000 := by rcases hx with h | h | h <;> omega
        refine step _ ?_
        rw [w64 _ (by omega) (by omega), w64 _ (by omega) (by omega)]
        unfold sh; rw [if_pos (by omega), if_pos (by omega)]
      · rw [if_neg h1, if_pos (by omega)]
        refine step _ ?_
        rw [w64 _ (by omega) (by omega)]
        unfold sh; rw [if_pos (by omega), if_neg (by omega)]
    · rw [if_neg h0]
      rw [if_neg (by omega), if_pos (by omega)]
      refine step _ ?_
      unfold sh; rw [if_neg (by omega), if_neg (by omega)]
theorem both_ends (kind : Int) (a b : List S51) (ha : a.length ≤ 1000) (hb : b.length ≤ 1000) (hn : ∀ (j : Nat) x, b[j]? = some x → nameOk j x) (k : Nat) (hk : b.length < k) : expr_both.f k kind a b = some (bothL kind a b) := by
  unfold expr_both.f expr_Node.f
  rw [if_pos (by omega)]
  simp only [Option.bind_some]
  have := both_loop kind a b ha hb hn b.length 0 (by omega) k hk a (by omega)
  simpa [bothL] using this
theorem and_ends (a b : List S51) (ha : a.length ≤ 1000) (hb : b.length ≤ 1000) (hn : ∀ (j : Nat) x, b[j]? = some x → nameOk j x) (k : Nat) (hk : b.length < k) : expr_And.f k a b = some (bothL 2 a b) := by
  unfold expr_And.f; rw [both_ends 2 a b ha hb hn k hk]; rfl
theorem or_ends (a b : List S51) (ha : a.length ≤ 1000) (hb : b.length ≤ 1000) (hn : ∀ (j : Nat) x, b[j]? = some x → nameOk j x) (k : Nat) (hk : b.length < k) : expr_Or.f k a b = some (bothL 3 a b) := by
  unfold expr_Or.f; rw [both_ends 3 a b ha hb hn k hk]; rfl
theorem not_ends (l : List S51) (hl : l.length ≤ 1000) : expr_Not.f l = some (notL l) := by
  unfold expr_Not.f expr_Node.f
  rw [if_pos (by omega)]
  simp only [Option.bind_some]
  rw [if_pos (by omega), w64 _ (by omega) (by omega)]
  rfl
theorem small_both {kind : Int} {a b : List S51} (ha : small a) (hb : small b) : small (bothL kind a b) := by
  intro x hx
  unfold bothL at hx
  rcases List.mem_append.1 hx with hx | hx
  · rcases List.mem_append.1 hx with hx | hx
    · exact ha x hx
    · obtain ⟨y, hy, rfl⟩ := List.mem_map.1 hx
      exact hb y hy
  · rw [List.mem_singleton.1 hx]; show (⟨#[]⟩ : ByteArray).size ≤ _; decide
theorem small_not {a : List S51} (ha : small a) : small (notL a) := by
  intro x hx
  unfold notL at hx
  rcases List.mem_append.1 hx with hx | hx
  · exact ha x hx
  · rw [List.mem_singleton.1 hx]; show (⟨#[]⟩ : ByteArray).size ≤ _; decide
theorem check_f {l : List S51} (h : small l) : expr_Check.f l = some (chk l) := by unfold expr_Check.f; rw [if_pos h]
theorem eval_f {l : List S51} {tags : List ByteArray} {v : Bool} (h : small l) (hc : chk l = 0) (hv : evT tags l v) : expr_Eval.f l tags = some v := by unfold expr_Eval.f; rw [if_pos h]; exact evF_of hv hc
end Go.Proofs.YtfnikmkjhbbbgaaDoor
