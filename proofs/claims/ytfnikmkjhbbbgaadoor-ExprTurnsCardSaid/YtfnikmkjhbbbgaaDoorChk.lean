/- The pass of expr.Check over the nodes, and the runs of expr.Eval and expr.Any, in plain Lean; no conditions. -/
import Derived.Test.YtfnikmkjhbbbgaaDoorTag
import Derived.Lib.SlicesS
set_option linter.unusedVariables false
set_option linter.unusedSimpArgs false
namespace Go.Proofs.YtfnikmkjhbbbgaaDoor
open HExpr

open Go.RowKit Go.Proofs.YtfnikmkjhbbbgaaDoorW.PrintWords
/-- a letter of a tag -/
def letterB (c : UInt8) : Bool := (expr_letter.f (c.toNat : Int)).getD false
theorem letter_some (a : Int) : expr_letter.f a = some ((expr_letter.f a).getD false) := by
  unfold expr_letter.f
  repeat' split
  all_goals rfl
/-- is a text a tag? -/
def tagB (s : ByteArray) : Bool := s.toList.all letterB && decide (s.size ≠ 0) && decide (s.size ≤ 60)
theorem tagB_zero (s : ByteArray) (h : s.size = 0) : tagB s = false := by simp [tagB, h]

theorem w64 (x : Int) (h0 : -9223372036854775808 ≤ x) (h1 : x < 9223372036854775808) : wrap64 x = x := by unfold wrap64; omega
theorem tag_loop (s : ByteArray) (hs : s.size ≤ 140737488351232) : ∀ (n i : Nat), i + n = s.size → ∀ k, n < k → expr_Tag.l0 k s (s.size : Int) (i : Int) = some (((s.toList.drop i).all letterB) && decide (s.size ≠ 0) && decide (s.size ≤ 60))
  | 0, i, hi, k, hk => by
    obtain ⟨k, rfl⟩ : ∃ k', k = k' + 1 := ⟨k - 1, by omega⟩
    unfold expr_Tag.l0
    rw [if_neg (by omega)]
    have hl : s.toList.length = s.size := by rw [ByteArray.toList_eq]; simp
    have hd : s.toList.drop i = [] := List.drop_eq_nil_of_le (by omega)
    rw [hd]
    by_cases h0 : s.toList = []
    · rw [if_pos h0]; have : s.size = 0 := by rw [← hl, h0]; rfl
      simp [this]
    · rw [if_neg h0]; have : s.size ≠ 0 := by rw [← hl]; intro h; exact h0 (List.length_eq_zero_iff.1 h)
      simp [this]; omega
  | n + 1, i, hi, k, hk => by
    obtain ⟨k, rfl⟩ : ∃ k', k = k' + 1 := ⟨k - 1, by omega⟩
    unfold expr_Tag.l0
    have hl : s.toList.length = s.size := by rw [ByteArray.toList_eq]; simp
    have hil : i < s.toList.length := by omega
    rw [if_pos (by omega), if_pos (by omega), if_pos (by omega), letter_some]
    have hb : bt s (i : Int) = ((s.toList[i]'hil).toNat : Int) := by
      rw [← bt_at s (i : Int) (by simp; omega)]
      simp only [Int.toNat_natCast, ByteArray.toList_eq]
      rfl
    have hdr : s.toList.drop i = s.toList[i]'hil :: s.toList.drop (i + 1) := List.drop_eq_getElem_cons hil
    rw [hb]
    simp only [Option.bind_some]
    have hL : (expr_letter.f ((s.toList[i]'hil).toNat : Int)).getD false = letterB (s.toList[i]'hil) := rfl
    rw [hL, hdr, List.all_cons]
    by_cases hc : letterB (s.toList[i]'hil) = true
    · rw [if_pos hc, w64 _ (by omega) (by omega), show ((i : Int) + 1) = ((i + 1 : Nat) : Int) by omega]
      rw [tag_loop s hs n (i + 1) (by omega) k (by omega), hc, Bool.true_and]
    · rw [if_neg hc]; simp [hc]
theorem tag_ends (s : ByteArray) (hs : s.size ≤ 140737488351232) : expr_Tag.f (s.size + 1) s = some (tagB s) := by
  unfold expr_Tag.f tagB
  exact tag_loop s hs s.size 0 (by omega) _ (by omega)
/-- texts that may be summed -/
def small (l : List S51) : Prop := ∀ x ∈ l, x.f1.size ≤ 140737488351232
instance (l : List S51) : Decidable (small l) := by unfold small; exact inferInstance
/-- one node: the places that no node names yet with their depths, the latest first -/
def chk1 (i : Int) (x : S51) (st : List (Int × Int)) : Option (List (Int × Int)) :=
  if x.f0 = 0 then (if tagB x.f1 = true ∧ x.f2 = 0 ∧ x.f3 = 0 then some ((i, 1) :: st) else none)
  else if x.f0 = 1 then
    (match st with
    | (a, d) :: st => if x.f1.size = 0 ∧ x.f2 = a ∧ x.f3 = 0 then some ((i, 1 + d) :: st) else none
    | [] => none)
  else if x.f0 = 2 ∨ x.f0 = 3 then
    (match st with
    | (b, db) :: (a, da) :: st => if x.f1.size = 0 ∧ x.f2 = a ∧ x.f3 = b then some ((i, 1 + max da db) :: st) else none
    | _ => none)
  else none
def chkN : List S51 → Int → List (Int × Int) → Option (List (Int × Int))
  | [], _, st => some st
  | x :: l, i, st => (chk1 i x st).bind (fun st' => chkN l (i + 1) st')
/-- what is left at the end -/
def chkE (o : Option (List (Int × Int))) : Int :=
  match o with
  | some [(_, d)] => if 40 < d then 120 else 0
  | _ => 120
def chk (l : List S51) : Int := if 60 < l.length then 120 else chkE (chkN l 0 [])

theorem chkN_append : ∀ (l m : List S51) (i : Int) (st : List (Int × Int)),
    chkN (l ++ m) i st = (chkN l i st).bind (fun st' => chkN m (i + l.length) st')
  | [], m, i, st => by simp [chkN]
  | x :: l, m, i, st => by
    simp only [List.cons_append, chkN]
    cases h : chk1 i x st with
    | none => rfl
    | some st' =>
      simp only [Option.bind_some]
      rw [chkN_append l m (i + 1) st']
      congr 1; funext s; congr 1; simp only [List.length_cons]; omega

/-- places on the stack are behind us -/
def behind (i : Int) (st : List (Int × Int)) : Prop := ∀ p ∈ st, 0 ≤ p.1 ∧ p.1 < i
/-- a node's names are behind it -/
def nameOk (i : Int) (x : S51) : Prop :=
  (x.f0 = 0 ∧ x.f2 = 0 ∧ x.f3 = 0) ∨ (x.f0 = 1 ∧ 0 ≤ x.f2 ∧ x.f2 < i ∧ x.f3 = 0) ∨ ((x.f0 = 2 ∨ x.f0 = 3) ∧ 0 ≤ x.f2 ∧ x.f2 < i ∧ 0 ≤ x.f3 ∧ x.f3 < i)
theorem chk1_ok (i : Int) (x : S51) (st st' : List (Int × Int)) (hi : 0 ≤ i) (hb : behind i st) (h : chk1 i x st = some st') :
    nameOk i x ∧ behind (i + 1) st' := by
  unfold chk1 at h
  split at h
  · split at h
    · cases h
      refine ⟨.inl ⟨by assumption, by simp_all⟩, ?_⟩
      intro p hp
      rcases List.mem_cons.1 hp with rfl | hp
      · exact ⟨hi, by show i < i + 1; omega⟩
      · have := hb p hp; omega
    · cases h
  · split at h
    · split at h
      · rename_i a d st0
        split at h
        · rename_i hc
          cases h
          have ha := hb _ (List.mem_cons_self)
          refine ⟨.inr (.inl ⟨by assumption, by simp_all⟩), ?_⟩
          intro p hp
          rcases List.mem_cons.1 hp with rfl | hp
          · exact ⟨hi, by show i < i + 1; omega⟩
          · have := hb p (List.mem_cons_of_mem _ hp); omega
        · cases h
      · cases h
    · split at h
      · split at h
        · rename_i b db a da st0
          split at h
          · rename_i hc
            cases h
            have hB := hb _ (List.mem_cons_self)
            have hA := hb (a, da) (List.mem_cons_of_mem _ List.mem_cons_self)
            refine ⟨.inr (.inr ⟨by assumption, by simp_all⟩), ?_⟩
            intro p hp
            rcases List.mem_cons.1 hp with rfl | hp
            · exact ⟨hi, by show i < i + 1; omega⟩
            · have := hb p (List.mem_cons_of_mem _ (List.mem_cons_of_mem _ hp)); omega
          · cases h
        · cases h
      · cases h
theorem chkN_ok : ∀ (l : List S51) (i : Int) (st st' : List (Int × Int)), 0 ≤ i → behind i st → chkN l i st = some st' →
    behind (i + l.length) st' ∧ ∀ (j : Nat) x, l[j]? = some x → nameOk (i + j) x
  | [], i, st, st', _, hb, h => by simp only [chkN, Option.some.injEq] at h; subst h; exact ⟨by simpa using hb, by simp⟩
  | x :: l, i, st, st', hi, hb, h => by
    simp only [chkN] at h
    obtain ⟨s1, h1, h2⟩ := Option.bind_eq_some_iff.1 h
    obtain ⟨hn, hb1⟩ := chk1_ok i x st s1 hi hb h1
    obtain ⟨hb2, hr⟩ := chkN_ok l (i + 1) s1 st' (by omega) hb1 h2
    refine ⟨by intro p hp; have := hb2 p hp; simp only [List.length_cons]; omega, ?_⟩
    intro j y hj
    cases j with
    | zero => simp at hj; subst hj; simpa using hn
    | succ j => have := hr j y (by simpa using hj); rw [show i + ((j + 1 : Nat) : Int) = i + 1 + j by omega]; exact this

/-- the thing at a place -/
def gi {α : Type} (is : List α) (i : Int) : Option α := if 0 ≤ i then is[i.toNat]? else none
theorem gi_some {α : Type} (is : List α) (i : Int) (h0 : 0 ≤ i) (h1 : i < is.length) : ∃ a, gi is i = some a := by
  refine ⟨is[i.toNat]'(by omega), ?_⟩
  rw [gi, if_pos h0]; exact List.getElem?_eq_getElem (by omega)
theorem gi_mem {α : Type} {is : List α} {i : Int} {a : α} (h : gi is i = some a) : a ∈ is := by
  unfold gi at h; split at h
  · exact List.mem_of_getElem? h
  · cases h

/-- by what a node joins -/
def join1 (k : Int) (a b : Bool) : Bool := if k = 1 then !a else if k = 2 then a && b else a || b
/-- the run of Eval: what the nodes before are, and the rest -/
def evN (tags : List ByteArray) : List S51 → List Bool → Option (List Bool)
  | [], is => some is
  | x :: l, is =>
    if x.f0 = 0 then evN tags l (is ++ [Lib.containsS tags x.f1])
    else if x.f0 = 1 ∨ x.f0 = 2 ∨ x.f0 = 3 then (gi is x.f2).bind (fun a => (gi is x.f3).bind (fun b => evN tags l (is ++ [join1 x.f0 a b])))
    else none
def evF (l : List S51) (tags : List ByteArray) : Option Bool := if chk l = 0 then (evN tags l []).bind (fun is => is.getLast?) else some false

def ignoreT : ByteArray := ⟨#[105, 103, 110, 111, 114, 101]⟩
/-- by what a node joins what may be so, and may not -/
def join2 (k : Int) (a b : Bool × Bool) : Bool × Bool :=
  if k = 1 then (a.2, a.1) else if k = 2 then (a.1 && b.1, a.2 || b.2) else (a.1 || b.1, a.2 && b.2)
def anN : List S51 → List (Bool × Bool) → Option (List (Bool × Bool))
  | [], is => some is
  | x :: l, is =>
    if x.f0 = 0 then (if x.f2 = 0 ∧ x.f3 = 0 then anN l (is ++ [(x.f1.toList != ignoreT.toList, true)]) else none)
    else if x.f0 = 1 ∨ x.f0 = 2 ∨ x.f0 = 3 then (gi is x.f2).bind (fun a => (gi is x.f3).bind (fun b => anN l (is ++ [join2 x.f0 a b])))
    else none
def anF (l : List S51) : Option Bool := if chk l = 0 then (anN l []).bind (fun is => is.getLast?.map Prod.fst) else some false

/-- the runs end where the nodes name what is behind them -/
theorem evN_ends (tags : List ByteArray) : ∀ (l : List S51) (is : List Bool), (∀ (j : Nat) x, l[j]? = some x → nameOk (is.length + j) x) →
    ∃ r, evN tags l is = some r ∧ r.length = is.length + l.length ∧ ∃ t, r = is ++ t
  | [], is, _ => ⟨is, rfl, by simp, [], by simp⟩
  | x :: l, is, h => by
    have hx := h 0 x rfl
    have hl : ∀ c : Bool, ∀ (j : Nat) y, l[j]? = some y → nameOk ((is ++ [c]).length + j) y := by
      intro c j y hj
      have := h (j + 1) y (by simpa using hj)
      simp only [List.length_append, List.length_cons, List.length_nil]
      rw [show ((is.length + (0 + 1) : Nat) : Int) + j = is.length + ((j + 1 : Nat) : Int) by omega]; exact this
    have go : ∀ c : Bool, ∃ r, evN tags l (is ++ [c]) = some r ∧ r.length = is.length + (x :: l).length ∧ ∃ t, r = is ++ t := by
      intro c
      obtain ⟨r, h1, h2, t, h3⟩ := evN_ends tags l (is ++ [c]) (hl c)
      exact ⟨r, h1, by simp only [List.length_append, List.length_cons, List.length_nil] at h2 ⊢; omega, [c] ++ t, by simpa using h3⟩
    simp only [evN]
    rcases hx with ⟨h0, _, _⟩ | ⟨h0, h1, h2, h3⟩ | ⟨h0, h1, h2, h3, h4⟩
    · rw [if_pos h0]; exact go _
    · rw [if_neg (by omega), if_pos (by omega)]
      obtain ⟨a, ha⟩ := gi_some is x.f2 h1 (by simpa using h2)
      obtain ⟨b, hb⟩ := gi_some is x.f3 (by omega) (by simp at h2; omega)
      rw [ha, hb]; exact go _
    · rw [if_neg (by omega), if_pos (by omega)]
      obtain ⟨a, ha⟩ := gi_some is x.f2 h1 (by simpa using h2)
      obtain ⟨b, hb⟩ := gi_some is x.f3 h3 (by simpa using h4)
      rw [ha, hb]; exact go _
theorem anN_ends : ∀ (l : List S51) (is : List (Bool × Bool)), (∀ (j : Nat) x, l[j]? = some x → nameOk (is.length + j) x) →
    ∃ r, anN l is = some r ∧ r.length = is.length + l.length ∧ ∃ t, r = is ++ t
  | [], is, _ => ⟨is, rfl, by simp, [], by simp⟩
  | x :: l, is, h => by
    have hx := h 0 x rfl
    have hl : ∀ c : Bool × Bool, ∀ (j : Nat) y, l[j]? = some y → nameOk ((is ++ [c]).length + j) y := by
      intro c j y hj
      have := h (j + 1) y (by simpa using hj)
      simp only [List.length_append, List.length_cons, List.length_nil]
      rw [show ((is.length + (0 + 1) : Nat) : Int) + j = is.length + ((j + 1 : Nat) : Int) by omega]; exact this
    have go : ∀ c : Bool × Bool, ∃ r, anN l (is ++ [c]) = some r ∧ r.length = is.length + (x :: l).length ∧ ∃ t, r = is ++ t := by
      intro c
      obtain ⟨r, h1, h2, t, h3⟩ := anN_ends l (is ++ [c]) (hl c)
      exact ⟨r, h1, by simp only [List.length_append, List.length_cons, List.length_nil] at h2 ⊢; omega, [c] ++ t, by simpa using h3⟩
    simp only [anN]
    rcases hx with ⟨h0, h1, h2⟩ | ⟨h0, h1, h2, h3⟩ | ⟨h0, h1, h2, h3, h4⟩
    · rw [if_pos h0, if_pos ⟨h1, h2⟩]; exact go _
    · rw [if_neg (by omega), if_pos (by omega)]
      obtain ⟨a, ha⟩ := gi_some is x.f2 h1 (by simpa using h2)
      obtain ⟨b, hb⟩ := gi_some is x.f3 (by omega) (by simp at h2; omega)
      rw [ha, hb]; exact go _
    · rw [if_neg (by omega), if_pos (by omega)]
      obtain ⟨a, ha⟩ := gi_some is x.f2 h1 (by simpa using h2)
      obtain ⟨b, hb⟩ := gi_some is x.f3 h3 (by simpa using h4)
      rw [ha, hb]; exact go _

/-- nodes that may be are some, and name what is behind them -/
theorem chk_zero {l : List S51} (h : chk l = 0) : l.length ≤ 60 ∧ ∃ p d, chkN l 0 [] = some [(p, d)] ∧ d ≤ 40 := by
  unfold chk at h
  split at h
  · cases h
  · refine ⟨by omega, ?_⟩
    unfold chkE at h
    split at h
    · rename_i p d e
      refine ⟨p, d, e, ?_⟩
      split at h
      · cases h
      · omega
    · cases h
theorem chk_zero_of {l : List S51} (hl : l.length ≤ 60) {p d : Int} (h : chkN l 0 [] = some [(p, d)]) (hd : d ≤ 40) : chk l = 0 := by
  unfold chk; rw [if_neg (by omega), h]; simp only [chkE]; rw [if_neg (by omega)]
theorem chk_names {l : List S51} (h : chk l = 0) : ∀ (j : Nat) x, l[j]? = some x → nameOk j x := by
  obtain ⟨_, p, d, h1, _⟩ := chk_zero h
  intro j x hj
  have := (chkN_ok l 0 [] _ (by omega) (by intro p hp; cases hp) h1).2 j x hj
  simpa using this
theorem chk_some {l : List S51} (h : chk l = 0) : l ≠ [] := by
  rintro rfl
  obtain ⟨_, p, d, h1, _⟩ := chk_zero h
  simp [chkN] at h1
theorem evF_ends (l : List S51) (tags : List ByteArray) : ∃ b, evF l tags = some b := by
  unfold evF
  split
  · rename_i h
    obtain ⟨r, h1, h2, _⟩ := evN_ends tags l [] (by intro j x hj; simpa using chk_names h j x hj)
    have hr : r ≠ [] := by
      intro e; rw [e] at h2; exact chk_some h (List.length_eq_zero_iff.1 (by simpa using h2.symm))
    refine ⟨r.getLast hr, ?_⟩
    rw [h1]; simp [List.getLast?_eq_some_getLast hr]
  · exact ⟨_, rfl⟩
theorem anF_ends (l : List S51) : ∃ b, anF l = some b := by
  unfold anF
  split
  · rename_i h
    obtain ⟨r, h1, h2, _⟩ := anN_ends l [] (by intro j x hj; simpa using chk_names h j x hj)
    have hr : r ≠ [] := by
      intro e; rw [e] at h2; exact chk_some h (List.length_eq_zero_iff.1 (by simpa using h2.symm))
    refine ⟨(r.getLast hr).1, ?_⟩
    rw [h1]; simp [List.getLast?_eq_some_getLast hr]
  · exact ⟨_, rfl⟩
end Go.Proofs.YtfnikmkjhbbbgaaDoor
