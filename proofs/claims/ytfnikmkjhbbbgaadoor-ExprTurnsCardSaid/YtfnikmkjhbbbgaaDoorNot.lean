/- The parser of expressions: each function computes its plain law; no conditions. -/
import Derived.Test.YtfnikmkjhbbbgaaDoorRow
import Derived.Test.YtfnikmkjhbbbgaaDoorCheck
set_option linter.unusedVariables false
set_option linter.unusedSimpArgs false
namespace Go.Proofs.YtfnikmkjhbbbgaaDoor.HExpr
open Go.RowKit Go.Proofs.YtfnikmkjhbbbgaaDoorW.PrintWords Go.Proofs.YtfnikmkjhbbbgaaDoorW.PrintLast Go.Proofs.YtfnikmkjhbbbgaaDoorW.PrintMore
/-- what a parser's function is to do -/
def Does (w0 : World) (g : Nat) (f : Nat) (F : Int → PS → Option (Int × PS)) : Prop :=
  ∀ (deep : Int) (p q : PS) (a : Int) (W : World), 0 ≤ deep ∧ deep ≤ 40 → F deep p = some (a, q) → Par w0 g p W → Calls Tryd.prog f #[.pointer (some ⟨g, 0, none⟩), .int .i64 deep] W fun e W' => e = .returned (.int .i64 a) ∧ Par w0 g q W'
set_option maxHeartbeats 8000000 in
set_option maxRecDepth 100000 in
theorem and_does (w0 : World) (g k : Nat) (h : Does w0 g 64 (notF k)) : Does w0 g 56 (andF k) := by
  intro deep p q a W hd hF hP
  have HR := Aside0.mk (row_calls64 w0 g 2 ⟨#[38, 38]⟩ (notF k) h k deep p q a W hd hF hP)
  clear h hF hP hd
  go_enter Tryd.func56, Tryd.ntmps56
  go_wp2_with (go_at_call 55; refine HR.out.mono ?_; rintro e w1 ⟨rfl, hb⟩; have HP1 := Aside0.mk hb; clear hb)
  go_ret
  exact ⟨rfl, HP1.out⟩
set_option maxHeartbeats 8000000 in
set_option maxRecDepth 100000 in
theorem or_does (w0 : World) (g k : Nat) (h : Does w0 g 56 (andF k)) : Does w0 g 38 (orF k) := by
  intro deep p q a W hd hF hP
  have HR := Aside0.mk (row_calls56 w0 g 3 ⟨#[124, 124]⟩ (andF k) h k deep p q a W hd hF hP)
  clear h hF hP hd
  go_enter Tryd.func38, Tryd.ntmps38
  go_wp2_with (go_at_call 55; refine HR.out.mono ?_; rintro e w1 ⟨rfl, hb⟩; have HP1 := Aside0.mk hb; clear hb)
  go_ret
  exact ⟨rfl, HP1.out⟩
/-- take, at a known answer -/
theorem take_at (w0 : World) (g : Nat) (p : PS) (t : ByteArray) (b : Bool) (h : (takeF t p).1 = b) (W : World) (hW : Par w0 g p W) :
    Calls Tryd.prog 39 #[.pointer (some ⟨g, 0, none⟩), .string t] W fun e W' => e = .returned (.bool b) ∧ Par w0 g (takeF t p).2 W' := by
  have := take_calls w0 g p t W hW; rwa [h] at this
theorem takeWhile_at {α : Type} (f : α → Bool) : ∀ (l : List α) (n : Nat) (h : n < l.length), (n < (l.takeWhile f).length → f l[n] = true) ∧ (n = (l.takeWhile f).length → f l[n] = false)
  | [], n, h => by simp at h
  | a :: l, n, h => by
    cases ha : f a with
    | false =>
      rw [List.takeWhile_cons_of_neg (by simp [ha])]
      refine ⟨fun h1 => by simp at h1, fun h1 => ?_⟩
      obtain rfl : n = 0 := by simpa using h1
      exact ha
    | true =>
      rw [List.takeWhile_cons_of_pos ha]
      cases n with
      | zero => exact ⟨fun _ => ha, fun h1 => by simp at h1⟩
      | succ n =>
        have := takeWhile_at f l n (by simpa using h)
        exact ⟨fun h1 => this.1 (by simpa using h1), fun h1 => this.2 (by simpa using h1)⟩
theorem letters_le (s : ByteArray) : lettersN s ≤ s.size := by
  unfold lettersN
  exact Nat.le_trans (List.Sublist.length_le (List.takeWhile_sublist _)) (by rw [Array.length_toList]; exact Nat.le_refl _)
theorem letters_at (s : ByteArray) (n : Nat) (h : n < s.size) : (n < lettersN s → letterB (s[n]'h) = true) ∧ (n = lettersN s → letterB (s[n]'h) = false) := by
  have := takeWhile_at letterB s.data.toList n (by rw [Array.length_toList]; exact h)
  exact this
theorem letter_at (c : UInt8) (b : Bool) (h : letterB c = b) : expr_letter.f (c.toNat : Int) = some b := by rw [letter_some]; exact congrArg some h
set_option maxHeartbeats 8000000 in
set_option maxRecDepth 100000 in
theorem not_does (w0 : World) (g : Nat) : ∀ k, Does w0 g 64 (notF k)
  | 0 => fun _ _ _ _ _ _ h => by simp [notF] at h
  | k + 1 => by
    have ih := not_does w0 g k
    have IHO := Aside0.mk (or_does w0 g k (and_does w0 g k ih))
    have IH := Aside0.mk ih
    clear ih
    intro deep p q a w hd h hP
    have hu67 := Tryd.underlying67
    have hu69 := Tryd.underlying69
    have hu51 := Tryd.underlying51
    have HP := Aside0.mk hP
    have HD := Aside0.mk hd
    have hc2 := HP.out.cell_ok
    clear hP
    rw [notF] at h
    by_cases hok : p.ok = true
    case neg =>
      rw [if_neg hok] at h
      obtain ⟨rfl, rfl⟩ := Prod.mk.inj (Option.some.inj h)
      have hok' : p.ok = false := by simpa using hok
      rw [hok'] at hc2
      clear hok hok' h hd
      go_enter Tryd.func64, Tryd.ntmps64
      go_wp2
      go_ret
      exact ⟨rfl, HP.out⟩
    rw [if_pos hok] at h
    rw [hok] at hc2
    clear hok
    by_cases h1 : (takeF ⟨#[33]⟩ p).1 = true
    · rw [if_pos h1] at h
      obtain ⟨⟨a1, p4⟩, hn, hq⟩ := Option.bind_eq_some_iff.1 h
      have HT1 := Aside0.mk (take_at w0 g p ⟨#[33]⟩ true h1)
      have HN := Aside0.mk hn
      have HQ := Aside0.mk hq
      clear h h1 hn hq hd
      go_enter Tryd.func64, Tryd.ntmps64
      go_wp2_with (first | (go_at_call 39; refine (HT1.out _ HP.out).mono ?_; rintro e w1 ⟨rfl, hb⟩; have HP1 := Aside0.mk hb; clear hb hc2 HP) | (go_at_call 39; refine (take_calls w0 g _ ⟨#[33]⟩ _ HP1.out).mono ?_; rintro e w2 ⟨rfl, hb⟩; have HP2 := Aside0.mk hb; have hc2 := HP2.out.cell_ok; have hf2 := HP2.out.free 2; have HP3 := Aside0.mk (HP2.out.set_ok (!(takeF ⟨#[33]⟩ (takeF ⟨#[33]⟩ p).2).1)); clear hb HP1) | (go_at_call 64; refine (IH.out _ _ _ _ _ HD.out HN.out HP3.out).mono ?_; rintro e w4 ⟨rfl, hb⟩; have HP4 := Aside0.mk hb; clear hb HP3 hc2 hf2 HP2) | (go_at_call 63; refine (put_calls w0 g p4 ⟨1, ⟨#[]⟩, a1, 0⟩ a q _ HP4.out HQ.out).mono ?_; rintro e w5 ⟨rfl, hb⟩; have HP5 := Aside0.mk hb; clear hb))
      go_ret
      exact ⟨rfl, HP5.out⟩
    · rw [if_neg h1] at h
      have HT1 := Aside0.mk (take_at w0 g p ⟨#[33]⟩ false (by simpa using h1))
      clear h1
      by_cases h2 : (takeF ⟨#[40]⟩ (takeF ⟨#[33]⟩ p).2).1 = true
      · rw [if_pos h2] at h
        have HT2 := Aside0.mk (take_at w0 g (takeF ⟨#[33]⟩ p).2 ⟨#[40]⟩ true h2)
        clear h2
        by_cases h3 : 0 < deep
        · rw [if_pos h3] at h
          obtain ⟨⟨a1, p4⟩, hn, hq⟩ := Option.bind_eq_some_iff.1 h
          have d3 : decide (0 < deep) = true := decide_eq_true h3
          have hw1 : IntKind.i64.wrap (deep - 1) = deep - 1 := by rw [i64_w]; exact w64 _ (by omega) (by omega)
          have HD1 := Aside0.mk (show 0 ≤ deep - 1 ∧ deep - 1 ≤ 40 by omega)
          have HN := Aside0.mk hn
          clear h hn h3 hd
          simp only at hq
          by_cases h4 : p4.ok = true
          · rw [if_pos h4] at hq
            obtain ⟨rfl, rfl⟩ := Prod.mk.inj (Option.some.inj hq)
            have H4 := Aside0.mk h4
            clear h4 hq
            go_enter Tryd.func64, Tryd.ntmps64
            go_wp2_with (first | (go_at_call 39; refine (HT1.out _ HP.out).mono ?_; rintro e w1 ⟨rfl, hb⟩; have HP1 := Aside0.mk hb; clear hb hc2 HP) | (go_at_call 39; refine (HT2.out _ HP1.out).mono ?_; rintro e w2 ⟨rfl, hb⟩; have HP2 := Aside0.mk hb; have hc2 := HP2.out.cell_ok; have hf2 := HP2.out.free 2; have HP3 := Aside0.mk (HP2.out.set_ok true); have hc3 := HP3.out.cell_ok; clear hb HP1) | (go_at_call 38; refine (IHO.out _ _ _ _ _ HD1.out HN.out HP3.out).mono ?_; rintro e w4 ⟨rfl, hb⟩; have HP4 := Aside0.mk hb; have hc4 := HP4.out.cell_ok; rw [H4.out] at hc4; clear hb HP3 hc2 hf2 HP2 hc3) | (go_at_call 39; refine (take_calls w0 g p4 ⟨#[41]⟩ _ HP4.out).mono ?_; rintro e w5 ⟨rfl, hb⟩; have HP5 := Aside0.mk hb; have hc5 := HP5.out.cell_ok; have hf5 := HP5.out.free 2; clear hb))
            go_ret
            exact ⟨rfl, HP5.out.set_ok _⟩
          · rw [if_neg h4] at hq
            obtain ⟨rfl, rfl⟩ := Prod.mk.inj (Option.some.inj hq)
            have H4 := Aside0.mk (show p4.ok = false by simpa using h4)
            clear h4 hq
            go_enter Tryd.func64, Tryd.ntmps64
            go_wp2_with (first | (go_at_call 39; refine (HT1.out _ HP.out).mono ?_; rintro e w1 ⟨rfl, hb⟩; have HP1 := Aside0.mk hb; clear hb hc2 HP) | (go_at_call 39; refine (HT2.out _ HP1.out).mono ?_; rintro e w2 ⟨rfl, hb⟩; have HP2 := Aside0.mk hb; have hc2 := HP2.out.cell_ok; have hf2 := HP2.out.free 2; have HP3 := Aside0.mk (HP2.out.set_ok true); have hc3 := HP3.out.cell_ok; clear hb HP1) | (go_at_call 38; refine (IHO.out _ _ _ _ _ HD1.out HN.out HP3.out).mono ?_; rintro e w4 ⟨rfl, hb⟩; have HP4 := Aside0.mk hb; have hc4 := HP4.out.cell_ok; rw [H4.out] at hc4; have hf4 := HP4.out.free 2; clear hb HP3 hc2 hf2 HP2 hc3))
            go_ret
            exact ⟨rfl, HP4.out.set_ok _⟩
        · rw [if_neg h3] at h
          obtain ⟨rfl, rfl⟩ := Prod.mk.inj (Option.some.inj h)
          have d3 : decide (0 < deep) = false := decide_eq_false h3
          clear h h3 hd
          go_enter Tryd.func64, Tryd.ntmps64
          go_wp2_with (first | (go_at_call 39; refine (HT1.out _ HP.out).mono ?_; rintro e w1 ⟨rfl, hb⟩; have HP1 := Aside0.mk hb; clear hb hc2 HP) | (go_at_call 39; refine (HT2.out _ HP1.out).mono ?_; rintro e w2 ⟨rfl, hb⟩; have HP2 := Aside0.mk hb; have hc2 := HP2.out.cell_ok; have hf2 := HP2.out.free 2; have HP3 := Aside0.mk (HP2.out.set_ok false); have hc3 := HP3.out.cell_ok; clear hb HP1))
          go_ret
          exact ⟨rfl, HP3.out⟩
      · rw [if_neg h2] at h
        have HT2 := Aside0.mk (take_at w0 g (takeF ⟨#[33]⟩ p).2 ⟨#[40]⟩ false (by simpa using h2))
        clear h2
        obtain ⟨q2, hq2⟩ : ∃ q2, q2 = (takeF ⟨#[40]⟩ (takeF ⟨#[33]⟩ p).2).2 := ⟨_, rfl⟩
        simp only [← hq2] at h
        have HT3 := Aside0.mk (show ∀ W : World, Par w0 g (takeF ⟨#[33]⟩ p).2 W → Calls Tryd.prog 39 #[.pointer (some ⟨g, 0, none⟩), .string ⟨#[40]⟩] W fun e W' => e = .returned (.bool false) ∧ Par w0 g q2 W' by rw [hq2]; exact HT2.out)
        clear HT2 hq2
        by_cases hsz : q2.s.size ≤ 140737488351232
        case neg => rw [if_neg hsz] at h; cases h
        rw [if_pos hsz] at h
        have HQ := Aside0.mk h
        have hle := letters_le q2.s
        obtain ⟨m, hm⟩ : ∃ m, m = lettersN q2.s := ⟨_, rfl⟩
        have HM := Aside0.mk (show ∀ (n : Nat) (h : n < q2.s.size), (n < m → letterB (q2.s[n]'h) = true) ∧ (n = m → letterB (q2.s[n]'h) = false) by rw [hm]; exact letters_at q2.s)
        rw [← hm] at hle HQ
        have HTG := Aside0.mk (tag_ends (q2.s.extract 0 m) (by rw [ByteArray.size_extract]; omega))
        clear h hd hm
        go_enter Tryd.func64, Tryd.ntmps64
        go_wp2_with (first | (go_at_call 39; refine (HT1.out _ HP.out).mono ?_; rintro e w1 ⟨rfl, hb⟩; have HP1 := Aside0.mk hb; clear hb hc2 HP) | (go_at_call 39; refine (HT3.out _ HP1.out).mono ?_; rintro e w2 ⟨rfl, hb⟩; have HP2 := Aside0.mk hb; clear hb HP1))
        go_loopw [7] (fun v7 w' => ∃ (n : Nat), v7 = .int .i64 (n : Int) ∧ Aside0 (n ≤ m) ∧ Aside0 (Par w0 g q2 w')) (fun v7 w' => q2.s.size - (intOf v7).toNat)
        case atStart => exact ⟨0, rfl, ⟨Nat.zero_le _⟩, HP2⟩
        case round =>
          clear HP2
          obtain ⟨n, rfl, HN, HPr⟩ := hrel
          have hc0 := HPr.out.cell_s
          by_cases hn : n < q2.s.size
          · have dn : decide ((n : Int) < (q2.s.size : Int)) = true := decide_eq_true (by omega)
            have qn := eq_true (show (n : Int) < (q2.s.size : Int) by omega)
            have qn0 := eq_true (show (0 : Int) ≤ (n : Int) by omega)
            by_cases hl : n < m
            · have HL := Aside0.mk (letter_at _ true ((HM.out n hn).1 hl))
              go_wp2_with (go_at_call 50; refine (expr_letter.calls _ true _ HL.out).mono ?_; rintro e w3 ⟨rfl, hdr⟩; have HP3 := Aside0.mk (HPr.out.below hdr.below); clear hdr)
              go_roundw
              case rel => exact ⟨n + 1, by simp, ⟨hl⟩, HP3⟩
              case measure => simp [intOf]; omega
            · obtain rfl : n = m := by have := HN.out; omega
              have HL := Aside0.mk (letter_at _ false ((HM.out n hn).2 rfl))
              have qe := eq_true (show (n : Int) ≤ (q2.s.size : Int) by omega)
              clear hl
              go_wp2_with (first | (go_at_call 50; refine (expr_letter.calls _ false _ HL.out).mono ?_; rintro e w3 ⟨rfl, hdr⟩; have HPz := Aside0.mk (HPr.out.below hdr.below); have hcz := HPz.out.cell_s; have hfz := HPz.out.free 0; clear hdr) | (go_at_call 31; refine (expr_Tag.calls _ (q2.s.extract 0 n) (tagB (q2.s.extract 0 n)) _ HTG.out).mono ?_; rintro e w5 ⟨rfl, hdr⟩; have HP5 := Aside0.mk ((HPz.out.set_s (q2.s.extract n q2.s.size)).below hdr.below); have hc5 := HP5.out.cell_ok; have hf5 := HP5.out.free 2; have HP6 := Aside0.mk (HP5.out.set_ok (tagB (q2.s.extract 0 n))); clear hdr) | (go_at_call 63; refine (put_calls w0 g _ ⟨0, (q2.s.extract 0 n), 0, 0⟩ a q _ HP6.out HQ.out).mono ?_; rintro e w7 ⟨rfl, hb⟩; have HP7 := Aside0.mk hb; clear hb))
              go_ret
              exact ⟨rfl, HP7.out⟩
          · obtain rfl : n = m := by have := HN.out; omega
            have dn : decide ((n : Int) < (q2.s.size : Int)) = false := decide_eq_false (by omega)
            have qe := eq_true (show (n : Int) ≤ (q2.s.size : Int) by omega)
            have qn0 := eq_true (show (0 : Int) ≤ (n : Int) by omega)
            have HPz := HPr
            have hcz := HPz.out.cell_s
            have hfz := HPz.out.free 0
            have dn2 : decide (n < q2.s.size) = false := decide_eq_false hn
            have dn3 : ¬ ((n : Int) < (q2.s.size : Int)) := by omega
            go_wp2_with (first | (go_at_call 31; refine (expr_Tag.calls _ (q2.s.extract 0 n) (tagB (q2.s.extract 0 n)) _ HTG.out).mono ?_; rintro e w5 ⟨rfl, hdr⟩; have HP5 := Aside0.mk ((HPz.out.set_s (q2.s.extract n q2.s.size)).below hdr.below); have hc5 := HP5.out.cell_ok; have hf5 := HP5.out.free 2; have HP6 := Aside0.mk (HP5.out.set_ok (tagB (q2.s.extract 0 n))); clear hdr) | (go_at_call 63; refine (put_calls w0 g _ ⟨0, (q2.s.extract 0 n), 0, 0⟩ a q _ HP6.out HQ.out).mono ?_; rintro e w7 ⟨rfl, hb⟩; have HP7 := Aside0.mk hb; clear hb))
            go_ret
            exact ⟨rfl, HP7.out⟩
end Go.Proofs.YtfnikmkjhbbbgaaDoor.HExpr
