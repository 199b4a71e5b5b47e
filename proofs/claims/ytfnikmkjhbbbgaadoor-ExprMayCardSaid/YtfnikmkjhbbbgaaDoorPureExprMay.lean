/- ExprMay answers true for every input: the plain law; no conditions beyond the row's own. -/
import Derived.Test.YtfnikmkjhbbbgaaDoorHExprx5
import Derived.Test.YtfnikmkjhbbbgaaDoorRefChk
set_option linter.unusedVariables false
set_option linter.unusedSimpArgs false
namespace Go.Proofs.YtfnikmkjhbbbgaaDoor.Pure
open Go.RowKit Go.Proofs.YtfnikmkjhbbbgaaDoor Go.Proofs.YtfnikmkjhbbbgaaDoor.HExpr Go.Proofs.YtfnikmkjhbbbgaaDoorW.PrintWords Go.Proofs.YtfnikmkjhbbbgaaDoorW.PrintLast Go.Proofs.YtfnikmkjhbbbgaaDoorW.PrintMore

theorem tags_bound : ∀ l : List S51, ∃ S, ∀ x ∈ l, x.f1.size < S
  | [] => ⟨0, fun x h => by cases h⟩
  | a :: l => by
    obtain ⟨S, h⟩ := tags_bound l
    refine ⟨S + a.f1.size + 1, fun x hx => ?_⟩
    rcases List.mem_cons.1 hx with rfl | hx
    · omega
    · have := h x hx; omega
theorem heavy_loop (l : List S51) (hl : l.length ≤ 70) : ∀ (n i : Nat), i + n = l.length → ∀ k, n < k → ∃ b, graftbedlaw12_heavy.l0 k l (i : Int) = some b
  | 0, i, hi, k, hk => by
    obtain ⟨k, rfl⟩ : ∃ k', k = k' + 1 := ⟨k - 1, by omega⟩
    rw [graftbedlaw12_heavy.l0, if_neg (by omega)]; exact ⟨false, rfl⟩
  | n + 1, i, hi, k, hk => by
    obtain ⟨k, rfl⟩ : ∃ k', k = k' + 1 := ⟨k - 1, by omega⟩
    rw [graftbedlaw12_heavy.l0, if_pos (by omega), if_pos (by omega)]
    split
    · exact ⟨true, rfl⟩
    · rw [w64 _ (by omega) (by omega), show ((i : Int) + 1) = ((i + 1 : Nat) : Int) by omega]
      exact heavy_loop l hl n (i + 1) (by omega) k (by omega)
theorem heavy_ends (l : List S51) (k : Nat) (hk : 72 ≤ k) : ∃ b, graftbedlaw12_heavy.f k l = some b ∧ (b = false → l.length ≤ 70) := by
  unfold graftbedlaw12_heavy.f
  by_cases h : (l.length : Int) > 70
  · rw [if_pos h]; exact ⟨true, rfl, fun h => by cases h⟩
  · rw [if_neg h]
    obtain ⟨b, hb⟩ := heavy_loop l (by omega) l.length 0 (by omega) k (by omega)
    exact ⟨b, hb, fun _ => by omega⟩
theorem rd51 (l : List S51) (i : Nat) (h : i < l.length) : rd_T51 l (i : Int) = l[i] := by unfold rd_T51; simp [List.getD, h]
theorem theirs_loop (l : List S51) (hl : l.length ≤ 1000) : ∀ (n i : Nat), i + n = l.length → ∀ k, n < k → ∀ out : List S57, out.length ≤ i → graftbedlaw12_theirs.l0 k l out (i : Int) = some (out ++ (l.drop i).map conv)
  | 0, i, hi, k, hk, out, ho => by
    obtain ⟨k, rfl⟩ : ∃ k', k = k' + 1 := ⟨k - 1, by omega⟩
    rw [graftbedlaw12_theirs.l0, if_neg (by omega), List.drop_eq_nil_of_le (by omega)]; simp
  | n + 1, i, hi, k, hk, out, ho => by
    obtain ⟨k, rfl⟩ : ∃ k', k = k' + 1 := ⟨k - 1, by omega⟩
    have hil : i < l.length := by omega
    rw [graftbedlaw12_theirs.l0, if_pos (by omega), if_pos (by omega), if_pos (by omega), rd51 l i hil, w64 _ (by omega) (by omega), show ((i : Int) + 1) = ((i + 1 : Nat) : Int) by omega,
      theirs_loop l hl n (i + 1) (by omega) k (by omega) _ (by simp; omega), List.drop_eq_getElem_cons hil, List.map_cons, List.append_assoc]
    rfl
theorem theirs_ends (l : List S51) (hl : l.length ≤ 1000) (k : Nat) (hk : l.length < k) : graftbedlaw12_theirs.f k l = some (l.map conv) := by
  unfold graftbedlaw12_theirs.f
  have := theirs_loop l hl l.length 0 (by omega) k hk [] (by simp)
  simpa using this
theorem not_f (l : List S51) (hl : l.length ≤ 1000) : expr_Not.f l = some (l ++ [⟨1, ⟨#[]⟩, (l.length : Int) - 1, 0⟩]) := by
  unfold expr_Not.f expr_Node.f
  rw [if_pos (by omega)]
  simp only [Option.bind_some]
  rw [if_pos (by omega), w64 _ (by omega) (by omega)]
theorem rdB (l : List ByteArray) (i : Nat) (h : i < l.length) : rdOf ByteArray.empty l (i : Int) = l[i] := by unfold rdOf; simp [List.getD, h]
theorem ignore_l : ([105, 103, 110, 111, 114, 101] : List UInt8) = ignoreT.toList := by rw [show ignoreT.toList = [105, 103, 110, 111, 114, 101] by kernel_rfl]
theorem tags_loop (x0 : List S51) (x1 : List ByteArray) (hx : x1.length ≤ 1000) (K0 : Nat) (hE : (∀ t ∈ x1, t.toList ≠ ignoreT.toList) → ∀ k, K0 ≤ k → graftbedlaw12_ExprMay.l0 (k + 1) x0 x1 (x1.length : Int) = some true) :
    ∀ (n i : Nat), i + n = x1.length → (∀ j (h : j < x1.length), j < i → x1[j].toList ≠ ignoreT.toList) → ∀ k, K0 + n + 1 ≤ k → graftbedlaw12_ExprMay.l0 k x0 x1 (i : Int) = some true
  | 0, i, hi, hno, k, hk => by
    obtain ⟨k, rfl⟩ : ∃ k', k = k' + 1 := ⟨k - 1, by omega⟩
    obtain rfl : i = x1.length := by omega
    refine hE (fun t ht => ?_) k (by omega)
    obtain ⟨j, hj, rfl⟩ := List.getElem_of_mem ht
    exact hno j hj hj
  | n + 1, i, hi, hno, k, hk => by
    obtain ⟨k, rfl⟩ : ∃ k', k = k' + 1 := ⟨k - 1, by omega⟩
    have hil : i < x1.length := by omega
    rw [graftbedlaw12_ExprMay.l0, if_pos (by omega), if_pos (by omega), rdB x1 i hil]
    split
    · rfl
    · rename_i h
      rw [ignore_l] at h
      rw [w64 _ (by omega) (by omega), show ((i : Int) + 1) = ((i + 1 : Nat) : Int) by omega]
      refine tags_loop x0 x1 hx K0 hE n (i + 1) (by omega) (fun j hj h2 => ?_) k (by omega)
      rcases Nat.lt_or_ge j i with h3 | h3
      · exact hno j hj h3
      · obtain rfl : j = i := by omega
        exact h
theorem may_end (x0 : List S51) (x1 : List ByteArray) (hl : x0.length ≤ 70) (hsm : small x0) (S : Nat) (hS : ∀ x ∈ x0, x.f1.size < S) (h0 : 0 < S) (hno : ∀ t ∈ x1, t.toList ≠ ignoreT.toList) (k : Nat) (hk : 3 * 72 + S + 10 ≤ k) :
    graftbedlaw12_ExprMay.l0 (k + 1) x0 x1 (x1.length : Int) = some true := by
  rw [graftbedlaw12_ExprMay.l0, if_neg (by omega), not_f x0 (by omega)]
  obtain ⟨n, hn⟩ : ∃ n : S51, n = ⟨1, ⟨#[]⟩, (x0.length : Int) - 1, 0⟩ := ⟨_, rfl⟩
  rw [← hn]
  have n1 : n.f1.size = 0 := by rw [hn]; rfl
  have hsn : small (x0 ++ [n]) := by
    intro x hx
    rcases List.mem_append.1 hx with hx | hx
    · exact hsm x hx
    · rw [List.mem_singleton.1 hx, n1]; omega
  have hSn : ∀ x ∈ x0 ++ [n], x.f1.size < S := by
    intro x hx
    rcases List.mem_append.1 hx with hx | hx
    · exact hS x hx
    · rw [List.mem_singleton.1 hx, n1]; exact h0
  have hln : (x0 ++ [n]).length = x0.length + 1 := by simp
  have c0 : expr_Check.f x0 = some (chk x0) := by unfold expr_Check.f; rw [if_pos hsm]
  have c1 : expr_Check.f (x0 ++ [n]) = some (chk (x0 ++ [n])) := by unfold expr_Check.f; rw [if_pos hsn]
  have v0 : expr_Eval.f x0 x1 = evF x0 x1 := by unfold expr_Eval.f; rw [if_pos hsm]
  have a0 : expr_Any.f x0 = anF x0 := by unfold expr_Any.f; rw [if_pos hsm]
  have a1 : expr_Any.f (x0 ++ [n]) = anF (x0 ++ [n]) := by unfold expr_Any.f; rw [if_pos hsn]
  obtain ⟨k, rfl⟩ : ∃ k', k = k' + 1 := ⟨k - 1, by omega⟩
  have hbad : (chk x0 ≠ 0 ∨ chk (x0 ++ [n]) ≠ 0) → graftbedlaw12_ExprMay.j2 (k + 1) x0 x1 (x0 ++ [n]) true = some true := by
    intro hb
    obtain ⟨r0, e0, s0⟩ := refCheck_sound x0 (by omega) S hS hsm k (by omega)
    obtain ⟨r1, e1, s1⟩ := refCheck_sound (x0 ++ [n]) (by omega) S hSn hsn k (by omega)
    rw [graftbedlaw12_ExprMay.j2, if_pos rfl, theirs_ends x0 (by omega) k (by omega)]
    simp only [Option.bind_some]
    rw [e0]
    simp only [Option.bind_some]
    split
    · rename_i h
      rw [theirs_ends (x0 ++ [n]) (by omega) k (by omega)]
      simp only [Option.bind_some]
      rw [e1]
      simp only [Option.bind_some]
      have : r1 ≠ 0 := fun h2 => by
        rcases hb with hb | hb
        · exact hb (s0 h)
        · exact hb (s1 h2)
      simp [this]
    · rfl
  simp only [Option.bind_some]
  rw [c0]
  simp only [Option.bind_some]
  by_cases hc : chk x0 = 0
  · rw [if_pos hc, c1]
    simp only [Option.bind_some]
    by_cases hc1 : chk (x0 ++ [n]) = 0
    · rw [show (chk (x0 ++ [n]) != 0) = false by simp [hc1], graftbedlaw12_ExprMay.j2, if_neg (by decide)]
      obtain ⟨e, m, m', h1, h2, h3, h4, h5, h6⟩ := may_law x0 x1 hno n (by rw [hn]) (by rw [hn]) hc hc1
      rw [v0, h1, a0, h2, a1, h3]
      have hw : (((x0 ++ [n]).length : Int) == wrap64 ((x0.length : Int) + 1)) = true := by rw [hln, w64 _ (by omega) (by omega)]; simp
      simp only [Option.bind_some, hw]
      cases e <;> cases m <;> cases m' <;> simp_all
    · rw [show (chk (x0 ++ [n]) != 0) = true by simp [hc1]]
      exact hbad (.inr hc1)
  · rw [if_neg hc]
    exact hbad (.inl hc)
theorem ExprMay : ∀ (l0 : List (S51)) (l1 : List ByteArray), ((l0.length ≤ maxLen ∧ l0.length * 40 ≤ 140737488351232 ∧ ∀ x0 ∈ l0, ((Lit.int .i64 x0.f0).wf = true) ∧ (x0.f1.size ≤ 140737488351232) ∧ ((Lit.int .i64 x0.f2).wf = true) ∧ ((Lit.int .i64 x0.f3).wf = true))) → ((l1.length ≤ maxLen ∧ l1.length * 16 ≤ 140737488351232 ∧ ∀ x0 ∈ l1, x0.size ≤ 140737488351232)) → ∃ k, graftbedlaw12_ExprMay.f k l0 l1 = some true := by
  intro l0 l1 h0 h1
  obtain ⟨S, hS⟩ := tags_bound l0
  refine ⟨3 * 72 + (S + 1) + 10 + 100, ?_⟩
  generalize hK : 3 * 72 + (S + 1) + 10 + 100 = K
  obtain ⟨b, hb, hl⟩ := heavy_ends l0 K (by omega)
  unfold graftbedlaw12_ExprMay.f
  rw [hb]
  simp only [Option.bind_some]
  have ha : graftbedlaw12_a.f = some [aNode] := rfl
  obtain ⟨K, rfl⟩ : ∃ k', K = k' + 1 := ⟨K - 1, by omega⟩
  have hj : graftbedlaw12_ExprMay.j0 (K + 1) l0 l1 true = some true := by
    rw [graftbedlaw12_ExprMay.j0, if_pos rfl, ha]; rfl
  cases b with
  | true => rw [if_pos rfl]; exact hj
  | false =>
    rw [if_neg (by decide)]
    by_cases h5 : (l1.length : Int) > 50
    · rw [if_pos h5]; exact hj
    · rw [if_neg h5, ha]
      simp only [Option.bind_some]
      rw [graftbedlaw12_ExprMay.j0, if_neg (by decide)]
      have hsm : small l0 := fun x hx => (h0.2.2 x hx).2.1
      have := tags_loop l0 l1 (by omega) (3 * 72 + (S + 1) + 10) (fun hno k hk => may_end l0 l1 (hl rfl) hsm (S + 1) (fun x hx => by have := hS x hx; omega) (by omega) hno k hk) l1.length 0 (by omega) (fun j _ h => by omega) K (by omega)
      exact this
end Go.Proofs.YtfnikmkjhbbbgaaDoor.Pure
