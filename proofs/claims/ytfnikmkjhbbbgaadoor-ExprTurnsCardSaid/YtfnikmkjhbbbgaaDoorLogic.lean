/- Both expressions and the node that names them: the pass and the runs over them, in plain Lean; no conditions. -/
import Derived.Test.YtfnikmkjhbbbgaaDoorMay
set_option linter.unusedVariables false
set_option linter.unusedSimpArgs false
namespace Go.Proofs.YtfnikmkjhbbbgaaDoor
open HExpr
/-- a node whose names are so many more -/
def sh (n : Int) (x : S51) : S51 := ⟨x.f0, x.f1, if 0 < x.f0 then x.f2 + n else x.f2, if 1 < x.f0 then x.f3 + n else x.f3⟩
/-- both, and the node that names them -/
def bothL (kind : Int) (a b : List S51) : List S51 := a ++ b.map (sh (a.length : Int)) ++ [⟨kind, ⟨#[]⟩, (a.length : Int) - 1, (a.length : Int) + (b.length : Int) - 1⟩]
def up (n : Int) (st : List (Int × Int)) : List (Int × Int) := st.map (fun p => (p.1 + n, p.2))
theorem chk1_up (n i : Int) (x : S51) (st st' base : List (Int × Int)) (h : chk1 i x st = some st') : chk1 (i + n) (sh n x) (up n st ++ base) = some (up n st' ++ base) := by
  unfold chk1 at h
  split at h
  · rename_i h0
    split at h
    · rename_i hc
      cases h
      unfold chk1
      rw [if_pos (show (sh n x).f0 = 0 from h0), if_pos]
      · rfl
      · refine ⟨hc.1, ?_, ?_⟩
        · show (if 0 < x.f0 then x.f2 + n else x.f2) = 0
          rw [if_neg (by omega)]; exact hc.2.1
        · show (if 1 < x.f0 then x.f3 + n else x.f3) = 0
          rw [if_neg (by omega)]; exact hc.2.2
    · cases h
  · rename_i h0
    split at h
    · rename_i h1
      split at h
      · rename_i a d st0
        split at h
        · rename_i hc
          cases h
          unfold chk1
          rw [if_neg (show ¬ (sh n x).f0 = 0 from h0), if_pos (show (sh n x).f0 = 1 from h1)]
          show (if _ then _ else _) = _
          rw [if_pos]
          · rfl
          · refine ⟨hc.1, ?_, ?_⟩
            · show (if 0 < x.f0 then x.f2 + n else x.f2) = a + n
              rw [if_pos (by omega), hc.2.1]
            · show (if 1 < x.f0 then x.f3 + n else x.f3) = 0
              rw [if_neg (by omega)]; exact hc.2.2
        · cases h
      · cases h
    · rename_i h1
      split at h
      · rename_i h2
        split at h
        · rename_i b db a da st0
          split at h
          · rename_i hc
            cases h
            unfold chk1
            rw [if_neg (show ¬ (sh n x).f0 = 0 from h0), if_neg (show ¬ (sh n x).f0 = 1 from h1), if_pos (show (sh n x).f0 = 2 ∨ (sh n x).f0 = 3 from h2)]
            show (if _ then _ else _) = _
            rw [if_pos]
            · rfl
            · refine ⟨hc.1, ?_, ?_⟩
              · show (if 0 < x.f0 then x.f2 + n else x.f2) = a + n
                rw [if_pos (by omega), hc.2.1]
              · show (if 1 < x.f0 then x.f3 + n else x.f3) = b + n
                rw [if_pos (by omega), hc.2.2]
          · cases h
        · cases h
      · cases h
theorem chkN_up (n : Int) : ∀ (l : List S51) (i : Int) (st st' base : List (Int × Int)), chkN l i st = some st' → chkN (l.map (sh n)) (i + n) (up n st ++ base) = some (up n st' ++ base)
  | [], i, st, st', base, h => by simp only [chkN, Option.some.injEq] at h; subst h; rfl
  | x :: l, i, st, st', base, h => by
    simp only [chkN] at h
    obtain ⟨s1, h1, h2⟩ := Option.bind_eq_some_iff.1 h
    simp only [List.map_cons, chkN]
    rw [chk1_up n i x st s1 base h1]
    simp only [Option.bind_some]
    have := chkN_up n l (i + 1) s1 st' base h2
    rw [show i + n + 1 = i + 1 + n by omega]
    exact this
/-- the place on top is the last node's -/
theorem chk1_top (i : Int) (x : S51) (st st' : List (Int × Int)) (h : chk1 i x st = some st') : ∃ d r, st' = (i, d) :: r := by
  unfold chk1 at h
  split at h
  · split at h
    · cases h; exact ⟨_, _, rfl⟩
    · cases h
  · split at h
    · split at h
      · split at h
        · cases h; exact ⟨_, _, rfl⟩
        · cases h
      · cases h
    · split at h
      · split at h
        · split at h
          · cases h; exact ⟨_, _, rfl⟩
          · cases h
        · cases h
      · cases h
theorem chkN_top : ∀ (l : List S51) (i : Int) (st st' : List (Int × Int)), l ≠ [] → chkN l i st = some st' → ∃ d r, st' = (i + (l.length : Int) - 1, d) :: r
  | [], _, _, _, h, _ => absurd rfl h
  | [x], i, st, st', _, h => by
    simp only [chkN] at h
    obtain ⟨s1, h1, h2⟩ := Option.bind_eq_some_iff.1 h
    obtain rfl : s1 = st' := Option.some.inj h2
    obtain ⟨d, r, e⟩ := chk1_top i x st _ h1
    exact ⟨d, r, by rw [e]; simp⟩
  | x :: y :: l, i, st, st', _, h => by
    rw [chkN] at h
    obtain ⟨s1, h1, h2⟩ := Option.bind_eq_some_iff.1 h
    obtain ⟨d, r, e⟩ := chkN_top (y :: l) (i + 1) s1 st' (by simp) h2
    refine ⟨d, r, ?_⟩
    rw [e]
    simp only [List.length_cons]
    rw [show i + 1 + ((l.length + 1 : Nat) : Int) - 1 = i + ((l.length + 1 + 1 : Nat) : Int) - 1 by omega]
/-- an expression, and how deep it is -/
def treeD (l : List S51) (d : Int) : Prop := chkN l 0 [] = some [((l.length : Int) - 1, d)]
theorem tree_of {l : List S51} (h : chk l = 0) : ∃ d, treeD l d ∧ d ≤ 40 ∧ l.length ≤ 60 := by
  obtain ⟨h1, p, d, h2, h3⟩ := chk_zero h
  obtain ⟨d', r, e⟩ := chkN_top l 0 [] _ (chk_some h) h2
  simp only [List.cons.injEq, Prod.mk.injEq] at e
  obtain ⟨⟨e1, e2⟩, e3⟩ := e
  refine ⟨d, ?_, h3, h1⟩
  unfold treeD
  rw [h2]
  simp only [Option.some.injEq, List.cons.injEq, Prod.mk.injEq, and_true]
  omega
theorem tree_chk {l : List S51} {d : Int} (h : treeD l d) : chk l = 0 ↔ (d ≤ 40 ∧ l.length ≤ 60) := by
  unfold treeD at h
  constructor
  · intro hc
    obtain ⟨h1, p, d', h2, h3⟩ := chk_zero hc
    rw [h2] at h
    simp only [Option.some.injEq, List.cons.injEq, Prod.mk.injEq, and_true] at h
    exact ⟨by omega, h1⟩
  · intro ⟨h1, h2⟩
    exact chk_zero_of h2 h h1
theorem tree_len {l : List S51} {d : Int} (h : treeD l d) : 0 < l.length := by
  rcases Nat.eq_zero_or_pos l.length with h0 | h0
  · rw [List.length_eq_zero_iff.1 h0] at h; simp [treeD, chkN] at h
  · exact h0
theorem chk1_b (n : S51) (i p q dp dq : Int) (st : List (Int × Int)) (h0 : n.f0 = 2 ∨ n.f0 = 3) (h1 : n.f1.size = 0) (h2 : n.f2 = p) (h3 : n.f3 = q) : chk1 i n ((q, dq) :: (p, dp) :: st) = some ((i, 1 + max dp dq) :: st) := by
  unfold chk1
  rw [if_neg (by omega), if_neg (by omega), if_pos h0]
  show (if _ then _ else _) = _
  rw [if_pos ⟨h1, h2, h3⟩]
theorem chk1_n (n : S51) (i p dp : Int) (st : List (Int × Int)) (h0 : n.f0 = 1) (h1 : n.f1.size = 0) (h2 : n.f2 = p) (h3 : n.f3 = 0) : chk1 i n ((p, dp) :: st) = some ((i, 1 + dp) :: st) := by
  unfold chk1
  rw [if_neg (by omega), if_pos h0]
  show (if _ then _ else _) = _
  rw [if_pos ⟨h1, h2, h3⟩]
theorem ev1_b (tags : List ByteArray) (n : S51) (is : List Bool) (a b : Bool) (h0 : n.f0 = 1 ∨ n.f0 = 2 ∨ n.f0 = 3) (h2 : gi is n.f2 = some a) (h3 : gi is n.f3 = some b) : evN tags [n] is = some (is ++ [join1 n.f0 a b]) := by
  unfold evN
  rw [if_neg (by omega), if_pos h0, h2, h3]
  rfl
theorem tree_both {kind : Int} (hk : kind = 2 ∨ kind = 3) {a b : List S51} {da db : Int} (ha : treeD a da) (hb : treeD b db) : treeD (bothL kind a b) (1 + max da db) := by
  have la := tree_len ha
  have lb := tree_len hb
  unfold treeD at ha hb ⊢
  unfold bothL
  rw [chkN_append, chkN_append, ha]
  simp only [Option.bind_some]
  have h1 := chkN_up (a.length : Int) b 0 [] _ [((a.length : Int) - 1, da)] hb
  simp only [up, List.map_nil, List.nil_append, List.map_cons, List.cons_append] at h1
  rw [h1]
  simp only [Option.bind_some, chkN, List.length_append, List.length_map]
  rw [chk1_b _ _ ((a.length : Int) - 1) ((b.length : Int) - 1 + (a.length : Int)) da db [] hk rfl rfl (by show (a.length : Int) + (b.length : Int) - 1 = _; omega)]
  simp only [Option.bind_some, Option.some.injEq, List.cons.injEq, Prod.mk.injEq, and_true, List.length_cons, List.length_nil]
  omega
theorem both_len (kind : Int) (a b : List S51) : (bothL kind a b).length = a.length + b.length + 1 := by simp [bothL]; omega
/-- not of one -/
def notL (a : List S51) : List S51 := a ++ [⟨1, ⟨#[]⟩, (a.length : Int) - 1, 0⟩]
theorem not_len (a : List S51) : (notL a).length = a.length + 1 := by simp [notL]
theorem tree_not {a : List S51} {da : Int} (ha : treeD a da) : treeD (notL a) (1 + da) := by
  have la := tree_len ha
  unfold treeD at ha ⊢
  unfold notL
  rw [chkN_append, ha]
  simp only [Option.bind_some, chkN]
  rw [chk1_n _ _ ((a.length : Int) - 1) da [] rfl rfl rfl rfl]
  simp only [Option.bind_some, Option.some.injEq, List.cons.injEq, Prod.mk.injEq, and_true, List.length_append, List.length_cons, List.length_nil]
  omega
theorem tree_names {l : List S51} {d : Int} (h : treeD l d) : ∀ (j : Nat) x, l[j]? = some x → nameOk j x := by
  intro j x hj
  have := (chkN_ok l 0 [] _ (by omega) (by intro p hp; cases hp) h).2 j x hj
  simpa using this
/-- the run over an expression -/
def evT (tags : List ByteArray) (l : List S51) (v : Bool) : Prop := ∃ is, evN tags l [] = some is ∧ is.length = l.length ∧ is.getLast? = some v
theorem evT_some (tags : List ByteArray) {l : List S51} {d : Int} (h : treeD l d) : ∃ v, evT tags l v := by
  obtain ⟨r, h1, h2, _⟩ := evN_ends tags l [] (by intro j x hj; simpa using tree_names h j x hj)
  have la := tree_len h
  simp only [List.length_nil, Nat.zero_add] at h2
  have hr : r ≠ [] := by intro e; rw [e] at h2; simp at h2; omega
  exact ⟨r.getLast hr, r, h1, h2, List.getLast?_eq_some_getLast hr⟩
theorem evF_of {tags : List ByteArray} {l : List S51} {v : Bool} (h : evT tags l v) (hc : chk l = 0) : evF l tags = some v := by
  obtain ⟨is, h1, _, h3⟩ := h
  unfold evF; rw [if_pos hc, h1]; exact h3
theorem evN_append (tags : List ByteArray) : ∀ (l m : List S51) (is : List Bool), evN tags (l ++ m) is = (evN tags l is).bind (fun is' => evN tags m is')
  | [], m, is => rfl
  | x :: l, m, is => by
    simp only [List.cons_append, evN]
    split
    · exact evN_append tags l m _
    · split
      · cases gi is x.f2 with
        | none => rfl
        | some a =>
          cases gi is x.f3 with
          | none => rfl
          | some b => simp only [Option.bind_some]; exact evN_append tags l m _
      · rfl
theorem gi_up {α : Type} (pre is : List α) (i : Int) (h : 0 ≤ i) : gi (pre ++ is) (i + (pre.length : Int)) = gi is i := by
  unfold gi
  rw [if_pos (by omega), if_pos h, show (i + (pre.length : Int)).toNat = pre.length + i.toNat by omega, List.getElem?_append_right (by omega)]
  congr 1; omega
theorem evN_up (tags : List ByteArray) (pre : List Bool) (hp : 0 < pre.length) : ∀ (l : List S51) (is r : List Bool), (∀ (j : Nat) x, l[j]? = some x → nameOk (is.length + j) x) → evN tags l is = some r → evN tags (l.map (sh (pre.length : Int))) (pre ++ is) = some (pre ++ r)
  | [], is, r, _, h => by simp only [evN, Option.some.injEq] at h; subst h; rfl
  | x :: l, is, r, hn, h => by
    have hx := hn 0 x rfl
    have hl : ∀ c : Bool, ∀ (j : Nat) y, l[j]? = some y → nameOk ((is ++ [c]).length + j) y := by
      intro c j y hj
      have := hn (j + 1) y (by simpa using hj)
      simp only [List.length_append, List.length_cons, List.length_nil]
      rw [show ((is.length + (0 + 1) : Nat) : Int) + j = is.length + ((j + 1 : Nat) : Int) by omega]; exact this
    simp only [evN] at h
    simp only [List.map_cons, evN]
    have e0 : (sh (pre.length : Int) x).f0 = x.f0 := rfl
    have e1 : (sh (pre.length : Int) x).f1 = x.f1 := rfl
    have e2 : (sh (pre.length : Int) x).f2 = if 0 < x.f0 then x.f2 + (pre.length : Int) else x.f2 := rfl
    have e3 : (sh (pre.length : Int) x).f3 = if 1 < x.f0 then x.f3 + (pre.length : Int) else x.f3 := rfl
    rcases hx with ⟨h0, _, _⟩ | ⟨h0, h1, h2, h3⟩ | ⟨h0, h1, h2, h3, h4⟩
    · rw [if_pos h0] at h
      rw [if_pos (by rw [e0]; exact h0), e1, List.append_assoc]
      exact evN_up tags pre hp l _ r (hl _) h
    · rw [if_neg (by omega), if_pos (by omega)] at h
      rw [if_neg (by rw [e0]; omega), if_pos (by rw [e0]; omega), e0, e2, e3, if_pos (by omega), if_neg (by omega), gi_up pre is x.f2 h1]
      obtain ⟨a, ha, h⟩ := Option.bind_eq_some_iff.1 h
      obtain ⟨b, hb, h⟩ := Option.bind_eq_some_iff.1 h
      rw [ha]
      obtain ⟨c, hc⟩ := gi_some (pre ++ is) x.f3 (by omega) (by rw [h3]; simp; omega)
      rw [hc]
      simp only [Option.bind_some]
      have hj : join1 x.f0 a c = join1 x.f0 a b := by unfold join1; rw [if_pos h0, if_pos h0]
      rw [hj, List.append_assoc]
      exact evN_up tags pre hp l _ r (hl _) h
    · rw [if_neg (by omega), if_pos (by omega)] at h
      rw [if_neg (by rw [e0]; omega), if_pos (by rw [e0]; omega), e0, e2, e3, if_pos (by omega), if_pos (by omega), gi_up pre is x.f2 h1, gi_up pre is x.f3 h3]
      obtain ⟨a, ha, h⟩ := Option.bind_eq_some_iff.1 h
      obtain ⟨b, hb, h⟩ := Option.bind_eq_some_iff.1 h
      rw [ha, hb]
      simp only [Option.bind_some]
      rw [List.append_assoc]
      exact evN_up tags pre hp l _ r (hl _) h
theorem gi_last {α : Type} (is : List α) (v : α) (n : Int) (h : is.getLast? = some v) (hn : n = (is.length : Int) - 1) : gi is n = some v := by
  have hp : 0 < is.length := by
    rcases Nat.eq_zero_or_pos is.length with h0 | h0
    · rw [List.length_eq_zero_iff.1 h0] at h; cases h
    · exact h0
  unfold gi
  rw [if_pos (by omega), ← h, List.getLast?_eq_getElem?]
  congr 1; omega
theorem gi_front {α : Type} (is zs : List α) (n : Int) (v : α) (h : gi is n = some v) : gi (is ++ zs) n = some v := by
  unfold gi at h ⊢
  split at h
  · rename_i h0
    rw [if_pos h0]
    have hl : n.toNat < is.length := by
      rcases Nat.lt_or_ge n.toNat is.length with h1 | h1
      · exact h1
      · rw [List.getElem?_eq_none h1] at h; cases h
    rw [List.getElem?_append_left hl]; exact h
  · cases h
theorem ev_both {tags : List ByteArray} {kind : Int} (hk : kind = 2 ∨ kind = 3) {a b : List S51} {da db : Int} {va vb : Bool} (ha : treeD a da) (hb : treeD b db) (ea : evT tags a va) (eb : evT tags b vb) :
    evT tags (bothL kind a b) (join1 kind va vb) := by
  have la := tree_len ha
  have lb := tree_len hb
  obtain ⟨ia, a1, a2, a3⟩ := ea
  obtain ⟨ib, b1, b2, b3⟩ := eb
  refine ⟨ia ++ ib ++ [join1 kind va vb], ?_, by simp [bothL, a2, b2], by simp⟩
  unfold bothL
  rw [evN_append, evN_append, a1]
  simp only [Option.bind_some]
  have h1 := evN_up tags ia (by omega) b [] ib (by intro j x hj; simpa using tree_names hb j x hj) b1
  rw [List.append_nil, a2] at h1
  rw [h1]
  simp only [Option.bind_some]
  have g1 : gi (ia ++ ib) ((a.length : Int) - 1) = some va := gi_front _ _ _ _ (gi_last ia va _ a3 (by rw [a2]))
  have g2 : gi (ia ++ ib) ((a.length : Int) + (b.length : Int) - 1) = some vb := gi_last _ _ _ (by rw [List.getLast?_append, b3]; rfl) (by simp [a2, b2])
  exact ev1_b tags _ _ va vb (.inr hk) g1 g2
theorem ev_not {tags : List ByteArray} {a : List S51} {da : Int} {va : Bool} (ha : treeD a da) (ea : evT tags a va) : evT tags (notL a) (!va) := by
  have la := tree_len ha
  obtain ⟨ia, a1, a2, a3⟩ := ea
  refine ⟨ia ++ [!va], ?_, by simp [notL, a2], by simp⟩
  unfold notL
  rw [evN_append, a1]
  simp only [Option.bind_some]
  obtain ⟨c, hc⟩ := gi_some ia 0 (by omega) (by omega)
  exact ev1_b tags _ _ va c (.inl rfl) (gi_last ia va _ a3 (by rw [a2])) hc
end Go.Proofs.YtfnikmkjhbbbgaaDoor
