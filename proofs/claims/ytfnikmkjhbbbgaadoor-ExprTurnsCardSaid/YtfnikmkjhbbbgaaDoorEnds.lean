/- The parser ends, and what it makes is an expression: in plain Lean; no conditions. -/
import Derived.Test.YtfnikmkjhbbbgaaDoorParse
set_option linter.unusedVariables false
set_option linter.unusedSimpArgs false
namespace Go.Proofs.YtfnikmkjhbbbgaaDoor.HExpr
open Go.RowKit
theorem trim_size (s : ByteArray) : (trimS s).size ≤ s.size := by
  show (s.data.toList.dropWhile blankB).toArray.size ≤ s.data.size
  rw [List.size_toArray, ← Array.length_toList]
  exact List.Sublist.length_le (List.dropWhile_sublist _)
theorem cut_size (s t : ByteArray) (h : hadS s t = true) : (cutS s t).size + t.size ≤ s.size := by
  have h' : Lib.hasPrefix s.data.toList t.data.toList = true := h
  have hp : t.data.toList.isPrefixOf s.data.toList = true := h'
  have hl := List.IsPrefix.length_le (List.isPrefixOf_iff_prefix.1 hp)
  show (Lib.trimPrefix s.data.toList t.data.toList).toArray.size + t.data.size ≤ s.data.size
  unfold Lib.trimPrefix
  rw [if_pos h', List.size_toArray, List.length_drop]
  simp only [Array.length_toList] at hl ⊢
  omega
theorem take_size (t : ByteArray) (p : PS) : ((takeF t p).1 = true → (takeF t p).2.s.size + t.size ≤ p.s.size) ∧ (takeF t p).2.s.size ≤ p.s.size ∧ (takeF t p).2.l = p.l ∧ (takeF t p).2.ok = p.ok := by
  have h1 := trim_size p.s
  unfold takeF
  split
  · rename_i h
    have h2 := cut_size (trimS p.s) t h
    exact ⟨fun _ => by simp only; omega, by simp only; omega, rfl, rfl⟩
  · exact ⟨fun h => (by cases h), h1, rfl, rfl⟩
/-- how much a parser can still make -/
def pot (p : PS) : Nat := p.l.length + p.s.size + (if p.ok = true then 1 else 0)
/-- it ends, and makes no more than it takes -/
def EndsAt (N : Nat) (F : Int → PS → Option (Int × PS)) : Prop :=
  ∀ (d : Int) (p : PS), p.s.size ≤ N → pot p ≤ 1000000 → ∃ a q, F d p = some (a, q) ∧ q.s.size ≤ p.s.size ∧ pot q ≤ pot p ∧ (small p.l → small q.l)
theorem put_ends (n : S51) (p : PS) (h : pot p ≤ 1000000) : ∃ a q, putF n p = some (a, q) ∧ q.s = p.s ∧ pot q ≤ pot p + 1 ∧ (n.f1.size ≤ 140737488351232 → small p.l → small q.l) := by
  unfold putF
  have : p.l.length < 1000000000 := by unfold pot at h; omega
  rw [if_pos this]
  refine ⟨_, _, rfl, rfl, ?_, fun hn hs x hx => ?_⟩
  case refine_2 =>
    rcases List.mem_append.1 hx with hx | hx
    · exact hs x hx
    · rw [List.mem_singleton.1 hx]; exact hn
  unfold pot
  simp only [List.length_append, List.length_cons, List.length_nil]
  have : (if (p.ok && decide (p.l.length ≤ 59)) = true then 1 else 0) ≤ (if p.ok = true then 1 else 0) := by
    cases p.ok <;> simp; split <;> omega
  omega
theorem rowL_ends (kind : Int) (sign : ByteArray) (hs : 0 < sign.size) (N : Nat) {one : Int → PS → Option (Int × PS)} (h1 : EndsAt N one) : ∀ (k : Nat) (d a : Int) (p : PS), p.s.size ≤ N → p.s.size < k → pot p ≤ 1000000 →
    ∃ b q, rowL kind sign one k d a p = some (b, q) ∧ q.s.size ≤ p.s.size ∧ pot q ≤ pot p ∧ (small p.l → small q.l)
  | 0, d, a, p, _, hk, _ => by omega
  | k + 1, d, a, p, hN, hk, hp => by
    obtain ⟨t1, t2, t3, t4⟩ := take_size sign p
    have hpt : pot (takeF sign p).2 + p.s.size = pot p + (takeF sign p).2.s.size := by unfold pot; rw [t3, t4]; omega
    rw [rowL]
    by_cases hok : p.ok = true
    · rw [if_pos hok]
      by_cases ht : (takeF sign p).1 = true
      · rw [if_pos ht]
        have ht1 := t1 ht
        obtain ⟨b, p2, e2, s2, q2, z2⟩ := h1 d (takeF sign p).2 (by omega) (by omega)
        rw [e2]
        simp only [Option.bind_some]
        obtain ⟨a3, p3, e3, s3, q3, z3⟩ := put_ends ⟨kind, ⟨#[]⟩, a, b⟩ p2 (by omega)
        rw [e3]
        simp only [Option.bind_some]
        obtain ⟨b4, p4, e4, s4, q4, z4⟩ := rowL_ends kind sign hs N h1 k d a3 p3 (by rw [s3]; omega) (by rw [s3]; omega) (by omega)
        exact ⟨b4, p4, e4, by rw [s3] at s4; omega, by omega, fun hz => z4 (z3 (show (⟨#[]⟩ : ByteArray).size ≤ 140737488351232 by decide) (z2 (by rw [t3]; exact hz)))⟩
      · rw [if_neg ht]; exact ⟨_, _, rfl, t2, by omega, fun hz => by rw [t3]; exact hz⟩
    · rw [if_neg hok]; exact ⟨_, _, rfl, Nat.le_refl _, Nat.le_refl _, fun hz => hz⟩
theorem rowF_ends (kind : Int) (sign : ByteArray) (hs : 0 < sign.size) (N : Nat) {one : Int → PS → Option (Int × PS)} (h1 : EndsAt N one) (k : Nat) (hk : N < k) : EndsAt N (rowF k kind sign one) := by
  intro d p hN hp
  obtain ⟨a, p1, e1, s1, q1, z1⟩ := h1 d p hN hp
  unfold rowF
  rw [e1]
  simp only [Option.bind_some]
  obtain ⟨b, q, e2, s2, q2, z2⟩ := rowL_ends kind sign hs N h1 k d a p1 (by omega) (by omega) (by omega)
  exact ⟨b, q, e2, by omega, by omega, fun hz => z2 (z1 hz)⟩
theorem tagB_pos (t : ByteArray) (h : tagB t = true) : 0 < t.size := by
  rcases Nat.eq_zero_or_pos t.size with h0 | h0
  · rw [tagB_zero t h0] at h; cases h
  · exact h0
theorem notF_ends : ∀ (N k : Nat), N + 2 ≤ k → EndsAt N (notF k)
  | N, 0, hk => by omega
  | N, k + 1, hk => by
    intro d p hN hp
    obtain ⟨t1, t2, t3, t4⟩ := take_size ⟨#[33]⟩ p
    have e33 : (⟨#[33]⟩ : ByteArray).size = 1 := rfl
    have e40 : (⟨#[40]⟩ : ByteArray).size = 1 := rfl
    have hpt : pot (takeF ⟨#[33]⟩ p).2 + p.s.size = pot p + (takeF ⟨#[33]⟩ p).2.s.size := by unfold pot; rw [t3, t4]; omega
    rw [notF]
    by_cases hok : p.ok = true
    case neg => rw [if_neg hok]; exact ⟨_, _, rfl, Nat.le_refl _, Nat.le_refl _, fun hz => hz⟩
    rw [if_pos hok]
    have hM : ∀ M, M < N → EndsAt M (notF k) := fun M hM => notF_ends M k (by omega)
    generalize hq1 : (takeF ⟨#[33]⟩ p).2 = q1 at *
    by_cases h1 : (takeF ⟨#[33]⟩ p).1 = true
    · rw [if_pos h1]
      have ht1 := t1 h1
      obtain ⟨u1, u2, u3, u4⟩ := take_size ⟨#[33]⟩ q1
      have hok3 : pot { (takeF ⟨#[33]⟩ q1).2 with ok := !(takeF ⟨#[33]⟩ q1).1 } ≤ pot q1 := by
        unfold pot; simp only [u3]
        rw [t4, hok]
        split <;> simp <;> omega
      obtain ⟨a, p4, e4, s4, q4, z4⟩ := hM (N - 1) (by omega) d { (takeF ⟨#[33]⟩ q1).2 with ok := !(takeF ⟨#[33]⟩ q1).1 } (by simp only; omega) (by omega)
      rw [e4]
      simp only [Option.bind_some]
      obtain ⟨a5, p5, e5, s5, q5, z5⟩ := put_ends ⟨1, ⟨#[]⟩, a, 0⟩ p4 (by omega)
      simp only at s4
      exact ⟨a5, p5, e5, by rw [s5]; omega, by omega, fun hz => z5 (show (⟨#[]⟩ : ByteArray).size ≤ 140737488351232 by decide) (z4 (by simp only; rw [u3, t3]; exact hz))⟩
    · rw [if_neg h1]
      obtain ⟨u1, u2, u3, u4⟩ := take_size ⟨#[40]⟩ q1
      have hpt2 : pot (takeF ⟨#[40]⟩ q1).2 + q1.s.size = pot q1 + (takeF ⟨#[40]⟩ q1).2.s.size := by unfold pot; rw [u3, u4]; omega
      generalize hq2 : (takeF ⟨#[40]⟩ q1).2 = q2 at *
      have hok2 : q2.ok = true := by rw [u4, t4, hok]
      by_cases h2 : (takeF ⟨#[40]⟩ q1).1 = true
      · rw [if_pos h2]
        have ht2 := u1 h2
        have hN1 : q2.s.size ≤ N - 1 := by omega
        by_cases h3 : 0 < d
        · rw [if_pos h3]
          have hq2e : { q2 with ok := true } = q2 := by rw [← hok2]
          rw [hq2e]
          obtain ⟨a, p4, e4, s4, q4, z4⟩ := rowF_ends 3 ⟨#[124, 124]⟩ (by decide) (N - 1) (rowF_ends 2 ⟨#[38, 38]⟩ (by decide) (N - 1) (hM (N - 1) (by omega)) k (by omega)) k (by omega) (d - 1) q2 hN1 (by omega)
          rw [e4]
          simp only [Option.bind_some]
          obtain ⟨v1, v2, v3, v4⟩ := take_size ⟨#[41]⟩ p4
          split
          · rename_i h4
            refine ⟨_, _, rfl, by simp only; omega, ?_, fun hz => by simp only; rw [v3]; exact z4 (by rw [u3, t3]; exact hz)⟩
            have : pot { (takeF ⟨#[41]⟩ p4).2 with ok := (takeF ⟨#[41]⟩ p4).1 } ≤ pot p4 := by
              unfold pot; simp only [v3]; rw [h4]; split <;> simp <;> omega
            exact Nat.le_trans this (by omega)
          · rename_i h4
            refine ⟨_, _, rfl, by simp only; omega, ?_, fun hz => z4 (by rw [u3, t3]; exact hz)⟩
            have : pot { p4 with ok := false } ≤ pot p4 := by unfold pot; simp
            exact Nat.le_trans this (by omega)
        · rw [if_neg h3]
          refine ⟨_, _, rfl, by simp only; omega, ?_, fun hz => by simp only; rw [u3, t3]; exact hz⟩
          have : pot { q2 with ok := false } ≤ pot q2 := by unfold pot; simp
          exact Nat.le_trans this (by omega)
      · rw [if_neg h2]
        have hps : pot q2 ≤ 1000000 := by omega
        have hsz : q2.s.size ≤ 140737488351232 := by unfold pot at hps; omega
        simp only
        rw [if_pos hsz]
        obtain ⟨m, hm⟩ : ∃ m, m = lettersN q2.s := ⟨_, rfl⟩
        have hml := letters_le q2.s
        rw [← hm] at hml ⊢
        have hpot : pot { q2 with s := q2.s.extract m q2.s.size, ok := tagB (q2.s.extract 0 m) } + 1 ≤ pot q2 := by
          unfold pot
          simp only [ByteArray.size_extract]
          rw [if_pos hok2]
          split
          · rename_i h4
            have := tagB_pos _ h4
            rw [ByteArray.size_extract] at this
            omega
          · omega
        obtain ⟨a5, p5, e5, s5, q5, z5⟩ := put_ends ⟨0, q2.s.extract 0 m, 0, 0⟩ { q2 with s := q2.s.extract m q2.s.size, ok := tagB (q2.s.extract 0 m) } (by omega)
        refine ⟨a5, p5, e5, ?_, by omega, fun hz => z5 (by simp only [ByteArray.size_extract]; omega) (by simp only; rw [u3, t3]; exact hz)⟩
        rw [s5]; simp only [ByteArray.size_extract]; omega
theorem parse_mono_le (a0 : ByteArray) {k k' : Nat} (h : k ≤ k') {r : List S51 × Int} (e : expr_Parse.f k a0 = some r) : expr_Parse.f k' a0 = some r := by
  induction h with
  | refl => exact e
  | step _ ih => exact expr_Parse.mono a0 _ _ ih
/-- Parse ends; where it is well, it makes an expression -/
theorem parse_ends (s : ByteArray) (hs : s.size ≤ 100000) : ∃ l e, (∀ k, s.size + 2 ≤ k → expr_Parse.f k s = some (l, e)) ∧ (e = 0 → chk l = 0 ∧ small l) := by
  have hn : EndsAt s.size (notF (s.size + 2)) := notF_ends s.size _ (Nat.le_refl _)
  obtain ⟨a, q, e1, _, _, z⟩ := rowF_ends 3 ⟨#[124, 124]⟩ (by decide) s.size (rowF_ends 2 ⟨#[38, 38]⟩ (by decide) s.size hn (s.size + 2) (by omega)) (s.size + 2) (by omega) 40 ⟨s, [], true⟩ (Nat.le_refl _) (by unfold pot; simp; omega)
  have hz : small q.l := z (fun x hx => by cases hx)
  have hp : ∃ r, parseE q = some r ∧ (r.2 = 0 → chk r.1 = 0 ∧ small r.1) := by
    unfold parseE
    repeat' split
    all_goals first
      | exact ⟨_, rfl, fun h => absurd h (by decide)⟩
      | exact ⟨_, rfl, fun _ => ⟨by assumption, hz⟩⟩
      | exact absurd hz (by assumption)
  obtain ⟨⟨l, e⟩, e2, hr⟩ := hp
  refine ⟨l, e, fun k hk => parse_mono_le s hk ?_, hr⟩
  unfold expr_Parse.f
  rw [show orF (s.size + 2) 40 ⟨s, [], true⟩ = some (a, q) from e1]
  exact e2
end Go.Proofs.YtfnikmkjhbbbgaaDoor.HExpr
