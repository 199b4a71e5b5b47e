/- What is so may be so, what is not may be not: the runs of expr.Eval and expr.Any side by side, in plain Lean; no conditions. -/
import Derived.Test.YtfnikmkjhbbbgaaDoorChk
set_option linter.unusedVariables false
set_option linter.unusedSimpArgs false
namespace Go.Proofs.YtfnikmkjhbbbgaaDoor
open HExpr

/-- what a node is, beside what it may be -/
def mayOf (b : Bool) (m : Bool × Bool) : Prop := (b = true → m.1 = true) ∧ (b = false → m.2 = true)
def mays (is : List Bool) (ms : List (Bool × Bool)) : Prop := is.length = ms.length ∧ ∀ (j : Nat) b m, is[j]? = some b → ms[j]? = some m → mayOf b m
theorem mays_put {is : List Bool} {ms : List (Bool × Bool)} (h : mays is ms) {b : Bool} {m : Bool × Bool} (hb : mayOf b m) : mays (is ++ [b]) (ms ++ [m]) := by
  obtain ⟨hl, h⟩ := h
  refine ⟨by simp [hl], ?_⟩
  intro j b' m' h1 h2
  by_cases hj : j < is.length
  · rw [List.getElem?_append_left hj] at h1
    rw [List.getElem?_append_left (by omega)] at h2
    exact h j b' m' h1 h2
  · rw [List.getElem?_append_right (by omega)] at h1
    rw [List.getElem?_append_right (by omega), ← hl] at h2
    have : j - is.length = 0 := by
      rcases Nat.eq_zero_or_pos (j - is.length) with h0 | h0
      · exact h0
      · rw [List.getElem?_eq_none (by simp; omega)] at h1; cases h1
    rw [this] at h1 h2
    simp at h1 h2
    subst h1; subst h2; exact hb
theorem mays_gi {is : List Bool} {ms : List (Bool × Bool)} (h : mays is ms) {i : Int} {b : Bool} {m : Bool × Bool} (h1 : gi is i = some b) (h2 : gi ms i = some m) : mayOf b m := by
  unfold gi at h1 h2
  split at h1
  · rw [if_pos (by assumption)] at h2; exact h.2 _ _ _ h1 h2
  · cases h1
theorem contains_mem (tags : List ByteArray) (x : ByteArray) (h : Lib.containsS tags x = true) : ∃ t ∈ tags, t.toList = x.toList := ⟨x, (Lib.containsS_iff tags x).1 h, rfl⟩
theorem ev_an (tags : List ByteArray) (hi : ∀ t ∈ tags, t.toList ≠ ignoreT.toList) : ∀ (l : List S51) (is : List Bool) (ms : List (Bool × Bool)) (is' : List Bool) (ms' : List (Bool × Bool)),
    mays is ms → evN tags l is = some is' → anN l ms = some ms' → mays is' ms'
  | [], is, ms, is', ms', h, h1, h2 => by
    simp only [evN, anN, Option.some.injEq] at h1 h2; subst h1; subst h2; exact h
  | x :: l, is, ms, is', ms', h, h1, h2 => by
    simp only [evN] at h1
    simp only [anN] at h2
    split at h1
    · rename_i h0
      rw [if_pos h0] at h2
      split at h2
      · refine ev_an tags hi l _ _ is' ms' (mays_put h ?_) h1 h2
        refine ⟨fun hb => ?_, fun _ => rfl⟩
        obtain ⟨t, ht, e⟩ := contains_mem tags x.f1 hb
        have := hi t ht
        rw [e] at this
        simpa using this
      · cases h2
    · rename_i h0
      rw [if_neg h0] at h2
      split at h1
      · rename_i h3
        rw [if_pos h3] at h2
        obtain ⟨a, ha, h1⟩ := Option.bind_eq_some_iff.1 h1
        obtain ⟨b, hb, h1⟩ := Option.bind_eq_some_iff.1 h1
        obtain ⟨c, hc, h2⟩ := Option.bind_eq_some_iff.1 h2
        obtain ⟨d, hd, h2⟩ := Option.bind_eq_some_iff.1 h2
        have hac := mays_gi h ha hc
        have hbd := mays_gi h hb hd
        refine ev_an tags hi l _ _ is' ms' (mays_put h ?_) h1 h2
        clear ha hb hc hd h1 h2 h
        unfold mayOf at hac hbd
        unfold mayOf join1 join2
        obtain ⟨c1, c2⟩ := c
        obtain ⟨d1, d2⟩ := d
        rcases h3 with h3 | h3 | h3 <;> simp only [h3] <;> revert hac hbd <;> cases a <;> cases b <;> cases c1 <;> cases c2 <;> cases d1 <;> cases d2 <;> simp
      · cases h1
theorem mays_nil : mays [] [] := ⟨rfl, by intro j b m h; simp at h⟩

theorem anN_append : ∀ (l m : List S51) (is : List (Bool × Bool)), anN (l ++ m) is = (anN l is).bind (fun is' => anN m is')
  | [], m, is => rfl
  | x :: l, m, is => by
    simp only [List.cons_append, anN]
    split
    · split
      · exact anN_append l m _
      · rfl
    · split
      · cases gi is x.f2 with
        | none => rfl
        | some a =>
          cases gi is x.f3 with
          | none => rfl
          | some b => simp only [Option.bind_some]; exact anN_append l m _
      · rfl

/-- of an expression and its not: what is so may be so; what is not may be not; either may be -/
theorem may_law (l : List S51) (tags : List ByteArray) (hi : ∀ t ∈ tags, t.toList ≠ ignoreT.toList) (n : S51) (hn : n.f0 = 1) (hn2 : n.f2 = (l.length : Int) - 1) (h1 : chk l = 0) (h2 : chk (l ++ [n]) = 0) :
    ∃ e m m', evF l tags = some e ∧ anF l = some m ∧ anF (l ++ [n]) = some m' ∧ (e = true → m = true) ∧ (e = false → m' = true) ∧ (m = true ∨ m' = true) := by
  have hl := chk_some h1
  have hl0 : 0 < l.length := List.length_pos_iff.2 hl
  have hnm := chk_names h1
  obtain ⟨is, e1, e2, _⟩ := evN_ends tags l [] (by intro j x hj; simpa using hnm j x hj)
  obtain ⟨i0, f1, f2, _⟩ := evN_ends [] l [] (by intro j x hj; simpa using hnm j x hj)
  obtain ⟨ms, a1, a2, _⟩ := anN_ends l [] (by intro j x hj; simpa using hnm j x hj)
  simp only [List.length_nil, Nat.zero_add] at e2 a2 f2
  have hM := ev_an tags hi l [] [] is ms mays_nil e1 a1
  have hM0 := ev_an [] (by intro t ht; cases ht) l [] [] i0 ms mays_nil f1 a1
  have ise : is[l.length - 1]? = some (is[l.length - 1]'(by omega)) := List.getElem?_eq_getElem _
  have i0e : i0[l.length - 1]? = some (i0[l.length - 1]'(by omega)) := List.getElem?_eq_getElem _
  have mse : ms[l.length - 1]? = some (ms[l.length - 1]'(by omega)) := List.getElem?_eq_getElem _
  have g1 := hM.2 _ _ _ ise mse
  have g2 := hM0.2 _ _ _ i0e mse
  have hno : nameOk (l.length : Int) n := by
    have := chk_names h2 l.length n (by simp)
    exact this
  have hn3 : n.f3 = 0 := by rcases hno with h | h | h <;> omega
  have gA : gi ms n.f2 = some (ms[l.length - 1]'(by omega)) := by
    unfold gi; rw [if_pos (by omega), ← mse]; congr 1; omega
  obtain ⟨b, gB⟩ := gi_some ms n.f3 (by omega) (by omega)
  refine ⟨is[l.length - 1]'(by omega), (ms[l.length - 1]'(by omega)).1, (ms[l.length - 1]'(by omega)).2, ?_, ?_, ?_, g1.1, g1.2, ?_⟩
  · unfold evF; rw [if_pos h1, e1]; simp only [Option.bind_some]; rw [List.getLast?_eq_getElem?, show is.length - 1 = l.length - 1 by omega]; exact ise
  · unfold anF; rw [if_pos h1, a1]; simp only [Option.bind_some]; rw [List.getLast?_eq_getElem?, show ms.length - 1 = l.length - 1 by omega, mse]; rfl
  · unfold anF; rw [if_pos h2, anN_append, a1]
    simp only [Option.bind_some, anN]
    rw [if_neg (by omega), if_pos (by omega), gA, gB]
    simp only [Option.bind_some, anN, join2, if_pos hn]
    simp
  · revert g2; unfold mayOf
    cases i0[l.length - 1]'(by omega) <;> simp <;> intro h <;> simp [h]
end Go.Proofs.YtfnikmkjhbbbgaaDoor
