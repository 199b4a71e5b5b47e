/- The contract of scan.Unquote: the plain function it computes; for texts below 2^47 bytes. -/
import Derived.Test.YtggeahplncijbaaEscapeAll
import Derived.Test.YtggeahplncijbaaBuilder
set_option linter.unusedVariables false
set_option linter.unusedSimpArgs false
namespace Go.Proofs.Ytggeahplncijbaa.HScanTexts
open Go.RowKit Go.Proofs.YtggeahplncijbaaW.PrintWords Go.Proofs.YtggeahplncijbaaW.PrintLast Go.Proofs.YtggeahplncijbaaW.PrintMore Go.Proofs.Ytggeahplncijbaa.Val Go.Proofs.Ytggeahplncijbaa.Bld
attribute [local go_sem] max2_int min2_int max_two min_two max_three min_three max_four min_four

/-- scan.Unquote's loop, with a bound on the rounds. -/
def unqF : Nat → ByteArray → List UInt8 → Option (List UInt8)
  | 0, _, acc => some acc
  | k + 1, s, acc =>
    if s.size = 0 then some acc
    else if ((hd s).toNat : Int) = 10 ∨ ((hd s).toNat : Int) = 34 then none
    else if ((hd s).toNat : Int) = 92 then
      if (escOf (tl s)).2 = 0 then none else unqF k ((tl s).extract (escOf (tl s)).2 (tl s).size) (acc ++ (escOf (tl s)).1.data.toList)
    else unqF k (tl s) (acc ++ [hd s])
def scan_Unquote.f (a0 : ByteArray) : Option (ByteArray × Bool) :=
  if a0.size ≤ 35184372087808 then
    match unqF a0.size a0 [] with
    | some l => some (⟨l.toArray⟩, true)
    | none => some (⟨#[]⟩, false)
  else none

theorem encode_le (r : Int) : (Utf8.encode r).size ≤ 4 := by
  unfold Utf8.encode
  simp only
  repeat' split
  all_goals (first | (show 1 ≤ 4; omega) | (show 2 ≤ 4; omega) | (show 3 ≤ 4; omega) | (show 4 ≤ 4; omega))
theorem no2_le : no2.1.size ≤ 4 := by show 0 ≤ 4; omega
theorem one_le (b : UInt8) : (⟨#[b]⟩ : ByteArray).size ≤ 4 := by show 1 ≤ 4; omega
theorem escOf_small (s : ByteArray) : (escOf s).1.size ≤ 4 := by
  unfold escOf
  split
  · exact no2_le
  split
  · simp; omega
  split
  · split
    · split
      · exact one_le _
      · exact no2_le
    · exact no2_le
  split
  · split
    · exact one_le _
    · exact no2_le
  split
  · exact no2_le
  · split
    · split
      · exact encode_le _
      · exact no2_le
    · exact no2_le
theorem builder_below {B b : Nat} {bs : List Value} {w w' : World} (h : Lib.IsBuilder 70 5 B b bs w) (hb : Below w.heap.size w w') : Lib.IsBuilder 70 5 B b bs w' := by
  have one : ∀ p, Lib.BuilderAt 70 5 B b p bs w → Lib.BuilderAt 70 5 B b p bs w' := fun p hp => by
    have hlt := hp.lt
    obtain ⟨h1, v, h2, h3, h4⟩ := hp
    exact ⟨h1, v, (hb.block b hlt).trans h2, pw_own_below h3 hb, h4⟩
  exact h.imp (one _) (one _)
theorem str_facts (s : ByteArray) (hp : 0 < s.size) : s[0] = hd s ∧ s.toList.isEmpty = false ∧ ¬ s.toList = [] := by
  obtain ⟨d⟩ := s
  obtain ⟨l⟩ := d
  cases l with
  | nil => exact absurd hp (by show ¬ 0 < 0; omega)
  | cons a r =>
    have e : (ByteArray.mk ⟨a :: r⟩).toList = a :: r := Lib.toList_data _
    exact ⟨rfl, by rw [e]; rfl, by rw [e]; simp⟩

set_option maxHeartbeats 8000000 in
set_option maxRecDepth 100000 in
theorem unquote_core (a0 : ByteArray) (w : World) (hs : a0.size ≤ 35184372087808) :
    Calls Try.prog 9 #[.string a0] w fun e w' => e = .returned (match unqF a0.size a0 [] with | some l => .tuple #[.string ⟨l.toArray⟩, .bool true] | none => .tuple #[.string ⟨#[]⟩, .bool false]) ∧ Below w.heap.size w w' := by
  obtain ⟨R, hR⟩ : ∃ R, R = (match unqF a0.size a0 [] with | some l => (.tuple #[.string ⟨l.toArray⟩, .bool true] : Value) | none => .tuple #[.string ⟨#[]⟩, .bool false]) := ⟨_, rfl⟩
  have HR := Aside0.mk hR
  rw [← hR]
  clear hR
  go_enter Try.func9, Try.ntmps9
  go_wp2_with fail
  go_loopw [0, 5, 6, 7] (fun sv _ _ _ wr => ∃ (s : ByteArray) (k : Nat) (acc : List UInt8), sv = .string s ∧ s.size ≤ k ∧ acc.length + 4 * s.size ≤ 4 * a0.size ∧ Lib.IsBuilder 70 5 w.heap.size w.heap.size (Lib.byteCells acc) wr ∧ Below w.heap.size w wr ∧ w.heap.size ≤ wr.heap.size ∧ Aside0 (unqF k s acc = unqF a0.size a0 []))
    (fun sv _ _ _ _ => match sv with | .string x => x.size | _ => 0)
  case atStart => exact ⟨a0, a0.size, [], rfl, Nat.le_refl _, by simp, Lib.fresh_isBuilder 70 5 w, below_alloc (Below.refl _ _) _, by simp, ⟨rfl⟩⟩
  case round =>
    obtain ⟨s, k, acc, rfl, hk, hacc, hB, hbw, hsz, HU⟩ := hrel
    have HB := Aside0.mk hB
    clear hB
    by_cases h0 : s.size = 0
    · obtain rfl : s = ⟨#[]⟩ := by
        cases s with
        | mk d => have : d = #[] := Array.eq_empty_of_size_eq_zero h0; rw [this]
      have hU : unqF a0.size a0 [] = some acc := by
        rw [← HU.out]
        cases k with
        | zero => rfl
        | succ k => rw [unqF, if_pos h0]
      have HRa := Aside0.mk (show R = .tuple #[.string ⟨acc.toArray⟩, .bool true] by rw [HR.out, hU])
      clear hU h0 HR HU
      go_wp2_with (go_at_call 23; refine (Try.Builder_String_any _ _ acc _ HB.out hsz).mono ?_; rintro e w' ⟨rfl, hb1⟩)
      go_ret2
      exact ⟨by rw [HRa.out]; rfl, hbw.trans hb1⟩
    · have hp : 0 < s.size := by omega
      obtain ⟨hc, he, he2⟩ := str_facts s hp
      obtain ⟨k, rfl⟩ : ∃ m, k = m + 1 := ⟨k - 1, by omega⟩
      have hU := HU.out
      rw [unqF, if_neg h0] at hU
      have htl : s.extract 1 s.size = tl s := rfl
      have hts := tl_size s
      have hts' : (tl s).size + 1 ≤ s.size := by omega
      have hts2 : s.size ≤ (tl s).size + 1 := by omega
      clear hts HU
      obtain ⟨c, hcc⟩ : ∃ c, c = hd s := ⟨_, rfl⟩
      rw [← hcc] at hU hc
      have hc255 : (c.toNat : Int) ≤ 255 := by have := c.toNat_lt; omega
      by_cases h10 : (c.toNat : Int) = 10 ∨ (c.toNat : Int) = 34
      · rw [if_pos h10] at hU
        have HRa := Aside0.mk (show R = .tuple #[.string ⟨#[]⟩, .bool false] by rw [HR.out, ← hU])
        clear hU h0 HR hcc
        rcases h10 with h10 | h10
        · have e10 : ((c.toNat : Int) == 10) = true := beq_iff_eq.2 h10
          clear h10
          go_wp2_with fail
          go_ret2
          exact ⟨by rw [HRa.out]; rfl, hbw⟩
        · have e10 : ((c.toNat : Int) == 10) = false := beq_eq_false_iff_ne.2 (by omega)
          have e34 : ((c.toNat : Int) == 34) = true := beq_iff_eq.2 h10
          clear h10
          go_wp2_with fail
          go_ret2
          exact ⟨by rw [HRa.out]; rfl, hbw⟩
      · rw [if_neg h10] at hU
        have e10 : ((c.toNat : Int) == 10) = false := beq_eq_false_iff_ne.2 (by omega)
        have e34 : ((c.toNat : Int) == 34) = false := beq_eq_false_iff_ne.2 (by omega)
        clear h10
        by_cases h92 : (c.toNat : Int) = 92
        · rw [if_pos h92] at hU
          have e92 : ((c.toNat : Int) == 92) = true := beq_iff_eq.2 h92
          have hesc := fun W => escape_any (tl s) W (by omega)
          have hle := escOf_le (tl s)
          have hsm := escOf_small (tl s)
          obtain ⟨u, n, hun⟩ : ∃ u n, escOf (tl s) = (u, n) := ⟨_, _, rfl⟩
          rw [hun] at hU hesc hle hsm
          simp only at hU hesc hle hsm
          have HE := Aside0.mk hesc
          have HUa := Aside0.mk hU
          clear hU hesc h92 hun hcc h0
          by_cases hn : n = 0
          · have en : ((n : Int) == 0) = true := beq_iff_eq.2 (by omega)
            have HRa := Aside0.mk (show R = .tuple #[.string ⟨#[]⟩, .bool false] by have := HUa.out; rw [if_pos hn] at this; rw [HR.out, ← this])
            clear hn HR HUa
            go_wp2_with (go_at_call 20; refine (HE.out _).mono ?_; rintro e w' ⟨rfl, hb1⟩)
            go_ret2
            exact ⟨by rw [HRa.out]; rfl, below_then hbw hsz hb1⟩
          · have en : ((n : Int) == 0) = false := beq_eq_false_iff_ne.2 (by omega)
            have HUb := Aside0.mk (by have := HUa.out; rwa [if_neg hn] at this)
            clear HUa hn
            go_wp2_with (first | (go_at_call 20; refine (HE.out _).mono ?_; rintro e w1 ⟨rfl, hb1⟩) | (go_at_call 21; refine (Builder_WriteString _ _ _ u _ (builder_below HB.out hb1) (by rw [Lib.byteCells_length]; omega) (by have := hb1.size; omega)).mono ?_; rintro e w2 ⟨rfl, hB2, hb2⟩))
            go_roundw
            case rel =>
              refine ⟨(tl s).extract n (tl s).size, k, acc ++ u.data.toList, rfl, by simp; omega, ?_, ?_, ?_, ?_, ⟨HUb.out⟩⟩
              · simp; omega
              · rw [Lib.byteCells_append]; exact .inr hB2
              · exact (below_then hbw hsz hb1).trans hb2
              · have := hb1.size; have := hb2.size; omega
            case measure => simp; omega
        · rw [if_neg h92] at hU
          have e92 : ((c.toNat : Int) == 92) = false := beq_eq_false_iff_ne.2 h92
          have HUa := Aside0.mk hU
          clear hU h92 h0 hcc
          go_wp2_with (go_at_call 22; refine (Builder_WriteByte _ _ _ _ _ HB.out (by rw [Lib.byteCells_length]; omega) hsz).mono ?_; rintro e w2 ⟨rfl, hB2, hb2⟩)
          go_roundw
          case rel =>
            refine ⟨tl s, k, acc ++ [c], rfl, by omega, ?_, ?_, ?_, ?_, ⟨HUa.out⟩⟩
            · simp; omega
            · rw [Lib.byteCells_append]; exact .inr hB2
            · exact hbw.trans hb2
            · have := hb2.size; omega
          case measure => simp; omega

theorem scan_Unquote.calls (a0 : ByteArray) (r1 : ByteArray) (r2 : Bool) (w : World) (h : scan_Unquote.f a0 = some (r1, r2)) :
    Calls Try.prog 9 #[.string a0] w fun e w' => e = .returned (.tuple #[.string r1, .bool r2]) ∧ Below w.heap.size w w' := by
  unfold scan_Unquote.f at h
  split at h
  · rename_i hs
    refine (unquote_core a0 w hs).mono ?_
    rintro e w' ⟨rfl, hb⟩
    refine ⟨?_, hb⟩
    cases hu : unqF a0.size a0 [] with
    | none => rw [hu] at h; simp only [Option.some.injEq, Prod.mk.injEq] at h; obtain ⟨rfl, rfl⟩ := h; rfl
    | some l => rw [hu] at h; simp only [Option.some.injEq, Prod.mk.injEq] at h; obtain ⟨rfl, rfl⟩ := h; rfl
  · cases h
end Go.Proofs.Ytggeahplncijbaa.HScanTexts
