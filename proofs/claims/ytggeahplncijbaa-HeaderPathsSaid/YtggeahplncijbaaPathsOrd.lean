/- Plain facts on sorted rows of strings: sorting and compacting is inserting one by one. -/
import Derived.Test.YtggeahplncijbaaHHeaderPathsSort
import Derived.Test.YtggeahplncijbaaHHeaderPathsRef
set_option linter.unusedVariables false
set_option linter.unusedSimpArgs false
namespace Go.Proofs.Ytggeahplncijbaa.PathsOrd
abbrev Str := List UInt8
theorem lt_tri (a b : Str) (h : ¬ a < b) (h2 : a ≠ b) : b < a := by
  rcases (List.le_iff_lt_or_eq (l₁ := b) (l₂ := a)).1 (List.not_lt.1 h) with k | k
  · exact k
  · exact absurd k.symm h2
theorem le_or (a b : Str) (h : a ≤ b) : a < b ∨ a = b := (List.le_iff_lt_or_eq).1 h
theorem lt_le (a b c : Str) (h : a < b) (h2 : b ≤ c) : a < c := by
  rcases le_or _ _ h2 with k | rfl
  · exact List.lt_trans h k
  · exact h
theorem le_lt (a b c : Str) (h : a ≤ b) (h2 : b < c) : a < c := by
  rcases le_or _ _ h with k | rfl
  · exact List.lt_trans k h2
  · exact h2
/-- Two rows that rise, with the same members, are the same. -/
theorem same_of_mem : ∀ (a b : List Str), a.Pairwise (· < ·) → b.Pairwise (· < ·) → (∀ x, x ∈ a ↔ x ∈ b) → a = b
  | [], [], _, _, _ => rfl
  | [], y :: t, _, _, h => by have := (h y).2 (List.mem_cons_self ..); cases this
  | x :: s, [], _, _, h => by have := (h x).1 (List.mem_cons_self ..); cases this
  | x :: s, y :: t, ha, hb, h => by
    rw [List.pairwise_cons] at ha hb
    have hxy : x = y := by
      rcases List.mem_cons.1 ((h x).1 (List.mem_cons_self ..)) with e | hx
      · exact e
      · rcases List.mem_cons.1 ((h y).2 (List.mem_cons_self ..)) with e | hy
        · exact e.symm
        · exact absurd (List.lt_trans (ha.1 y hy) (hb.1 x hx)) (List.lt_irrefl _)
    subst hxy
    congr 1
    refine same_of_mem s t ha.2 hb.2 (fun z => ⟨fun hz => ?_, fun hz => ?_⟩)
    · rcases List.mem_cons.1 ((h z).1 (List.mem_cons_of_mem _ hz)) with e | k
      · subst e; exact absurd (ha.1 z hz) (List.lt_irrefl _)
      · exact k
    · rcases List.mem_cons.1 ((h z).2 (List.mem_cons_of_mem _ hz)) with e | k
      · subst e; exact absurd (hb.1 z hz) (List.lt_irrefl _)
      · exact k
/-- What is compacted out of a sorted row rises, and has its members. -/
theorem comp_upto (d : Array Str) (hs : ∀ i j, i ≤ j → j < d.size → d[i]! ≤ d[j]!) : ∀ m, m ≤ d.size → (∀ x, x ∈ Lib.compactUpTo d m ↔ ∃ j, j < m ∧ d[j]! = x) ∧ (Lib.compactUpTo d m).Pairwise (· < ·)
  | 0, _ => by simp [Lib.compactUpTo]
  | m + 1, hm => by
    obtain ⟨h1, h2⟩ := comp_upto d hs m (by omega)
    rw [Lib.compactUpTo_succ]
    by_cases hk : Lib.keeps d m = true
    · rw [if_pos hk]
      refine ⟨fun x => ?_, ?_⟩
      · rw [List.mem_append, h1]
        constructor
        · rintro (⟨j, hj, e⟩ | hx)
          · exact ⟨j, by omega, e⟩
          · rw [List.mem_singleton] at hx; exact ⟨m, by omega, hx.symm⟩
        · rintro ⟨j, hj, e⟩
          rcases Nat.lt_or_ge j m with h | h
          · exact .inl ⟨j, h, e⟩
          · obtain rfl : j = m := by omega
            exact .inr (by rw [List.mem_singleton]; exact e.symm)
      · rw [List.pairwise_append]
        refine ⟨h2, List.pairwise_singleton _ _, fun x hx y hy => ?_⟩
        rw [List.mem_singleton] at hy
        subst hy
        obtain ⟨j, hj, rfl⟩ := (h1 x).1 hx
        have hne : d[m]! ≠ d[m - 1]! := by
          have := hk
          simp only [Lib.keeps, decide_eq_true_eq] at this
          rcases this with h | h
          · omega
          · exact h
        have a1 := hs j (m - 1) (by omega) (by omega)
        have a2 := hs (m - 1) m (by omega) (by omega)
        refine le_lt _ _ _ a1 ?_
        rcases le_or _ _ a2 with h | h
        · exact h
        · exact absurd h.symm hne
    · rw [if_neg hk, List.append_nil]
      refine ⟨fun x => ?_, h2⟩
      rw [h1]
      have hz : ¬ (m = 0 ∨ d[m]! ≠ d[m - 1]!) := by
        intro h; apply hk; simp only [Lib.keeps, decide_eq_true_eq]; exact h
      have hz0 : m ≠ 0 := fun h => hz (.inl h)
      have hz1 : d[m]! = d[m - 1]! := Classical.byContradiction fun h => hz (.inr h)
      constructor
      · rintro ⟨j, hj, e⟩; exact ⟨j, by omega, e⟩
      · rintro ⟨j, hj, e⟩
        rcases Nat.lt_or_ge j m with h | h
        · exact ⟨j, h, e⟩
        · obtain rfl : j = m := by omega
          exact ⟨j - 1, by omega, by rw [← hz1]; exact e⟩
theorem comp_sorted (zs : List Str) (hs : zs.Pairwise (· ≤ ·)) : (∀ x, x ∈ Lib.compact zs ↔ x ∈ zs) ∧ (Lib.compact zs).Pairwise (· < ·) := by
  have hg : ∀ i j, i ≤ j → j < zs.toArray.size → zs.toArray[i]! ≤ zs.toArray[j]! := by
    intro i j hij hj
    have hj' : j < zs.length := by simpa using hj
    rw [getElem!_pos _ i (by simp; omega), getElem!_pos _ j hj]
    simp only [List.getElem_toArray]
    rcases Nat.lt_or_ge i j with h | h
    · exact List.pairwise_iff_getElem.1 hs i j (by omega) hj' h
    · obtain rfl : i = j := by omega
      exact List.le_refl _
  obtain ⟨h1, h2⟩ := comp_upto zs.toArray hg zs.length (by simp)
  refine ⟨fun x => ?_, h2⟩
  show x ∈ Lib.compactUpTo zs.toArray zs.length ↔ _
  rw [h1]
  constructor
  · rintro ⟨j, hj, rfl⟩
    rw [getElem!_pos _ j (by simpa using hj)]
    simp
  · intro hx
    obtain ⟨j, hj, rfl⟩ := List.getElem_of_mem hx
    exact ⟨j, hj, by rw [getElem!_pos _ j (by simpa using hj)]; simp⟩
/-- One by one: p into a row that rises. -/
def insS (p : Str) : List Str → List Str
  | [] => [p]
  | y :: t => if (!(Op.bytesLess y p)) = true then (if p = y then y :: t else p :: y :: t) else y :: insS p t
theorem less_iff (y p : Str) : ((!(Op.bytesLess y p)) = true) ↔ ¬ y < p := by rw [Go.Proofs.bytesLess_eq]; simp
theorem insS_mem (p : Str) : ∀ l x, x ∈ insS p l ↔ x = p ∨ x ∈ l
  | [], x => by simp [insS]
  | y :: t, x => by
    rw [insS]
    split
    · split
      · rename_i h; subst h; simp
      · simp
    · rw [List.mem_cons, insS_mem p t, List.mem_cons]
      constructor
      · rintro (h | h | h)
        · exact .inr (.inl h)
        · exact .inl h
        · exact .inr (.inr h)
      · rintro (h | h | h)
        · exact .inr (.inl h)
        · exact .inl h
        · exact .inr (.inr h)
theorem insS_rises (p : Str) : ∀ l, l.Pairwise (· < ·) → (insS p l).Pairwise (· < ·)
  | [], _ => by simp [insS]
  | y :: t, h => by
    rw [insS]
    have h' := List.pairwise_cons.1 h
    split
    · rename_i hc
      rw [less_iff] at hc
      split
      · exact h
      · rename_i hne
        have hpy : p < y := lt_tri _ _ hc (fun e => hne e.symm)
        refine List.pairwise_cons.2 ⟨fun z hz => ?_, h⟩
        rcases List.mem_cons.1 hz with rfl | hz
        · exact hpy
        · exact List.lt_trans hpy (h'.1 z hz)
    · rename_i hc
      rw [less_iff] at hc
      refine List.pairwise_cons.2 ⟨fun z hz => ?_, insS_rises p t h'.2⟩
      rcases (insS_mem p t z).1 hz with rfl | hz
      · exact Classical.not_not.1 hc
      · exact h'.1 z hz
theorem ins_all (q : Str → Bool) : ∀ (ps out : List Str), out.Pairwise (· < ·) → (ps.foldl (fun o p => if q p = true then o else insS p o) out).Pairwise (· < ·) ∧ ∀ x, x ∈ ps.foldl (fun o p => if q p = true then o else insS p o) out ↔ x ∈ out ∨ (x ∈ ps ∧ q x = false)
  | [], out, h => by simp [h]
  | p :: t, out, h => by
    rw [List.foldl_cons]
    by_cases hq : q p = true
    · rw [if_pos hq]
      obtain ⟨h1, h2⟩ := ins_all q t out h
      refine ⟨h1, fun x => ?_⟩
      rw [h2, List.mem_cons]
      constructor
      · rintro (k | ⟨k, k2⟩)
        · exact .inl k
        · exact .inr ⟨.inr k, k2⟩
      · rintro (k | ⟨rfl | k, k2⟩)
        · exact .inl k
        · rw [hq] at k2; cases k2
        · exact .inr ⟨k, k2⟩
    · rw [if_neg hq]
      obtain ⟨h1, h2⟩ := ins_all q t (insS p out) (insS_rises p out h)
      refine ⟨h1, fun x => ?_⟩
      rw [h2, insS_mem, List.mem_cons]
      constructor
      · rintro ((rfl | k) | ⟨k, k2⟩)
        · exact .inr ⟨.inl rfl, by simpa using hq⟩
        · exact .inl k
        · exact .inr ⟨.inr k, k2⟩
      · rintro (k | ⟨rfl | k, k2⟩)
        · exact .inl (.inr k)
        · exact .inl (.inl rfl)
        · exact .inr ⟨k, k2⟩
/-- Sorting and compacting what is kept is inserting one by one. -/
theorem both (q : Str → Bool) (ps : List Str) : Lib.compact ((ps.filter (fun p => !q p)).mergeSort fun x y => decide (x ≤ y)) = ps.foldl (fun o p => if q p = true then o else insS p o) [] := by
  have hs : ((ps.filter (fun p => !q p)).mergeSort fun x y => decide (x ≤ y)).Pairwise (· ≤ ·) := by
    have := List.pairwise_mergeSort (le := fun x y : Str => decide (x ≤ y)) (fun a b c h1 h2 => by simp only [decide_eq_true_eq] at *; exact List.le_trans h1 h2) (fun a b => by simp only [Bool.or_eq_true, decide_eq_true_eq]; exact List.le_total a b) (ps.filter (fun p => !q p))
    exact this.imp (fun h => by simpa using h)
  obtain ⟨h1, h2⟩ := comp_sorted _ hs
  obtain ⟨h3, h4⟩ := ins_all q ps [] List.Pairwise.nil
  refine same_of_mem _ _ h2 h3 (fun x => ?_)
  rw [h1, h4, List.mem_mergeSort, List.mem_filter]
  simp
end Go.Proofs.Ytggeahplncijbaa.PathsOrd
