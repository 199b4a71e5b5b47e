/- HeaderPaths answers true for every input: the plain law; no conditions beyond the row's own. -/
import Derived.Test.YtggeahplncijbaaPathsPure
set_option linter.unusedVariables false
set_option linter.unusedSimpArgs false
namespace Go.Proofs.Ytggeahplncijbaa.Pure
open Go.RowKit Go.Proofs.Ytggeahplncijbaa.HHeaderPaths Go.Proofs.Ytggeahplncijbaa.PathsOrd Go.Proofs.Ytggeahplncijbaa.PathsPure Go.Proofs.YtggeahplncijbaaW.PrintWords Go.Proofs.YtggeahplncijbaaW.PrintLast Go.Proofs.YtggeahplncijbaaW.PrintMore

theorem ofL_of (p : ByteArray) : ofL p.toList = p := by rw [Lib.toList_data]; unfold ofL; cases p; simp
theorem of_ofL (l : List UInt8) : (ofL l).toList = l := by rw [Lib.toList_data]; simp [ofL]
theorem insB_map (p : ByteArray) : ∀ l : List ByteArray, (insB p false l).map (·.toList) = insS p.toList (l.map (·.toList))
  | [] => rfl
  | y :: t => by
    rw [insB, List.map_cons, insS]
    split
    · split <;> simp
    · rw [List.map_cons, insB_map p t]
theorem fold_map : ∀ (L : List S85) (o : List ByteArray), (L.foldl stepB o).map (·.toList) = (L.map (·.f1.toList)).foldl (fun o p => if (p == [67]) = true then o else insS p o) (o.map (·.toList))
  | [], o => rfl
  | s :: t, o => by
    rw [List.foldl_cons, fold_map t, List.map_cons, List.foldl_cons]
    congr 1
    unfold stepB
    cases h : s.f1.toList == [67]
    · rw [if_neg (by decide)]; exact insB_map _ _
    · rw [if_pos rfl]; cases o <;> rfl
theorem filt_lists (l : List S47) : (filt l).map (·.data.toList) = (l.map (·.f1.toList)).filter fun p => !(p == [67]) := by
  unfold filt
  induction l with
  | nil => rfl
  | cons s t ih =>
    rw [List.map_cons, List.map_cons]
    cases h : s.f1.toList == [67]
    · rw [List.filter_cons_of_pos (by rw [h]; rfl), List.filter_cons_of_pos (by rw [h]; rfl), List.map_cons, ih, Lib.toList_data]
    · rw [List.filter_cons_of_neg (by rw [h]; decide), List.filter_cons_of_neg (by rw [h]; decide), ih]
theorem comp_lists (l : List S47) : compL (sortC (filt l)) = ((l.map conv).foldl stepB []).map (·.toList) := by
  rw [fold_map]
  have h := both (fun p => p == [67]) (l.map (·.f1.toList))
  rw [List.map_map]
  unfold compL sortC sortL
  rw [List.map_map, filt_lists]
  rw [show ((·.data.toList) ∘ ofL : List UInt8 → List UInt8) = id from funext fun x => by simp [ofL], List.map_id]
  exact h
theorem comp_ref (l : List S47) : compC (sortC (filt l)) = (l.map conv).foldl stepB [] := by
  unfold compC
  rw [comp_lists, List.map_map]
  rw [show (ofL ∘ (·.toList) : ByteArray → ByteArray) = id from funext ofL_of, List.map_id]
theorem comp_rises (l : List S47) : (compL (sortC (filt l))).Pairwise (· < ·) ∧ ∀ x ∈ compL (sortC (filt l)), x ≠ [67] := by
  rw [comp_lists, fold_map]
  obtain ⟨h1, h2⟩ := ins_all (fun p => p == [67]) ((l.map conv).map (·.f1.toList)) [] List.Pairwise.nil
  refine ⟨h1, fun x hx => ?_⟩
  rcases (h2 x).1 hx with h | ⟨_, h⟩
  · cases h
  · intro e; subst e; exact absurd h (by decide)
theorem one_paths : (compC (sortC (filt [⟨⟨#[]⟩, ⟨#[120]⟩, 0⟩]))).length = 1 := by
  rw [comp_ref]
  have h : ((⟨#[120]⟩ : ByteArray).toList == [67]) = false := by rw [Lib.toList_data]; rfl
  show (stepB [] (conv ⟨⟨#[]⟩, ⟨#[120]⟩, 0⟩)).length = 1
  unfold stepB conv
  rw [h]
  rfl
theorem law_l1 (X : List ByteArray) (hX : X.length ≤ 1000) (h1 : ∀ j (hj : j < X.length), X[j].toList ≠ [67]) (h2 : ∀ j (hj : j + 1 < X.length), Op.bytesLess X[j].toList X[j + 1].toList = true) :
    ∀ (n j k : Nat), j + n = X.length → n + 5 ≤ k → graftbedlaw11_HeaderPaths.l1 k X (j : Int) = some true
  | _, _, 0, _, hk => by omega
  | 0, j, k + 1, hj, hk => by
    have h := paths_l0 [⟨⟨#[]⟩, ⟨#[120]⟩, 0⟩] (by simp) 1 0 [] k rfl (by omega) (by simp)
    simp only [Int.natCast_zero] at h
    rw [graftbedlaw11_HeaderPaths.l1, if_neg (by omega), header_Paths.f, h, Option.bind_some, List.nil_append, List.drop_zero, one_paths]
    rfl
  | n + 1, j, k + 1, hj, hk => by
    have hlt : j < X.length := by omega
    rw [graftbedlaw11_HeaderPaths.l1, if_pos (by omega), if_pos (by omega), rdS X j hlt, if_neg (h1 j hlt), next j (by omega)]
    cases j with
    | zero =>
      rw [if_neg (by decide)]
      exact law_l1 X hX h1 h2 n 1 k (by omega) (by omega)
    | succ i =>
      have e : wrap64 (((i + 1 : Nat) : Int) - 1) = (i : Int) := by rw [w64 _ (by omega) (by omega)]; omega
      rw [if_pos (by omega), e, if_pos (by omega), if_pos (by omega), rdS X i (by omega), if_pos (h2 i hlt)]
      exact law_l1 X hX h1 h2 n (i + 1 + 1) k (by omega) (by omega)

theorem HeaderPaths : ∀ (a0_0 : ByteArray) (l0_1 : List (S47)) (a0_2 : ByteArray) (l0_3 : List ByteArray) (l0_4 : List (S88)), ((a0_0.size ≤ 140737488351232) ∧ ((l0_1.length ≤ maxLen ∧ l0_1.length * 40 ≤ 140737488351232 ∧ ∀ x0 ∈ l0_1, (x0.f0.size ≤ 140737488351232) ∧ (x0.f1.size ≤ 140737488351232) ∧ ((Lit.int .i64 x0.f2).wf = true))) ∧ (a0_2.size ≤ 140737488351232) ∧ ((l0_3.length ≤ maxLen ∧ l0_3.length * 16 ≤ 140737488351232 ∧ ∀ x0 ∈ l0_3, x0.size ≤ 140737488351232)) ∧ ((l0_4.length ≤ maxLen ∧ l0_4.length * 24 ≤ 140737488351232 ∧ ∀ x0 ∈ l0_4, (x0.f0.size ≤ 140737488351232) ∧ ((Lit.int .i64 x0.f1).wf = true)))) → ∃ k, graftbedlaw11_HeaderPaths.f k a0_0 l0_1 a0_2 l0_3 l0_4 = some true := by
  intro a0 l a2 l3 l4 hyp
  have h4 : l4.length ≤ 5864062014634 := by have := hyp.2.2.2.2.2.1; omega
  by_cases hl : (l.length : Int) > 60
  · exact ⟨0, if_pos hl⟩
  have hl60 : l.length ≤ 60 := by omega
  obtain ⟨X, hXd⟩ : ∃ X, X = compC (sortC (filt l)) := ⟨_, rfl⟩
  have hXL : X.map (·.toList) = compL (sortC (filt l)) := by
    rw [hXd, compC, List.map_map, show ((·.toList) ∘ ofL : List UInt8 → List UInt8) = id from funext of_ofL, List.map_id]
  have hXref : X = (l.map conv).foldl stepB [] := by rw [hXd, comp_ref]
  obtain ⟨r1, r2⟩ := comp_rises l
  rw [← hXL] at r1 r2
  have hXlen : X.length ≤ 60 := by
    have e1 : X.length = (compL (sortC (filt l))).length := by rw [← hXL, List.length_map]
    have e2 := compL_length (sortC (filt l))
    have e3 : (sortC (filt l)).length = (filt l).length := by simp [sortC, sortL_length]
    have e4 : (filt l).length ≤ l.length := by
      have := List.length_filter_le (fun p : ByteArray => !(p.toList == [67])) (l.map (·.f1))
      simpa [filt] using this
    omega
  have g1 : ∀ j (hj : j < X.length), X[j].toList ≠ [67] := fun j hj => r2 _ (List.mem_map_of_mem (List.getElem_mem hj))
  have g2 : ∀ j (hj : j + 1 < X.length), Op.bytesLess X[j].toList X[j + 1].toList = true := fun j hj => by
    rw [Go.Proofs.bytesLess_eq, decide_eq_true_eq]
    have := List.pairwise_iff_getElem.1 r1 j (j + 1) (by simp; omega) (by simpa using hj) (by omega)
    simpa using this
  obtain ⟨K, hK⟩ := ref_l0 a0 (l.map conv) (by simpa using hl60) a2 l3 (l4.map conv8) l.length 0 [] (by simp) (by simp)
  rw [List.drop_zero, ← hXref] at hK
  simp only [Int.natCast_zero] at hK
  have loop : ∀ (n i : Nat), i + n = l.length → ∀ k, K + 200 + l4.length + n ≤ k → graftbedlaw11_HeaderPaths.l0 k (i : Int) a0 l a2 l3 l4 = some true := by
    intro n
    induction n with
    | zero =>
      intro i hi k hk
      obtain ⟨k, rfl⟩ : ∃ k', k = k' + 1 := ⟨k - 1, by omega⟩
      have p1 := paths_l0 l hl60 l.length 0 [] k (by omega) (by omega) (by simp)
      have p2 := theirs_l0 l hl60 l4 h4 l.length 0 [] k a0 a2 l3 a0 a2 l3 (by omega) (by omega) rfl
      have p3 := same_l0 X (by omega) X.length 0 k (by omega) (by omega)
      have p4 := law_l1 X (by omega) g1 g2 X.length 0 k (by omega) (by omega)
      have p5 := hK k (by omega)
      simp only [Int.natCast_zero, List.nil_append, List.drop_zero] at p1 p2 p3 p4
      rw [← hXd] at p1
      rw [graftbedlaw11_HeaderPaths.l0, if_neg (by omega), header_Paths.f, p1, Option.bind_some, graftbedlaw11_theirs.f, p2, Option.bind_some, graftbedref11_Paths.f, p5, Option.bind_some, graftbedlaw11_same.f, if_pos rfl, p3, Option.bind_some, if_pos rfl, p4]
    | succ n ih =>
      intro i hi k hk
      obtain ⟨k, rfl⟩ : ∃ k', k = k' + 1 := ⟨k - 1, by omega⟩
      rw [graftbedlaw11_HeaderPaths.l0, if_pos (by omega), if_pos (by omega)]
      split
      · rfl
      · rw [next i (by omega)]
        exact ih (i + 1) (by omega) k (by omega)
  refine ⟨K + 200 + l4.length + l.length, ?_⟩
  rw [graftbedlaw11_HeaderPaths.f, if_neg hl]
  exact loop l.length 0 (by omega) _ (Nat.le_refl _)

end Go.Proofs.Ytggeahplncijbaa.Pure
