/- The document's answer on whether nodes are an expression, in plain Lean: what it lets in, the program's pass lets in; no conditions. -/
import Derived.Test.YtfnikmkjhbbbgaaDoorHExprx4
import Derived.Test.YtfnikmkjhbbbgaaDoorMay
set_option linter.unusedVariables false
set_option linter.unusedSimpArgs false
namespace Go.Proofs.YtfnikmkjhbbbgaaDoor
open HExpr Go.RowKit Go.Proofs.YtfnikmkjhbbbgaaDoorW.PrintWords
def conv (x : S51) : S57 := ⟨x.f0, x.f1, x.f2, x.f3⟩
theorem toList_nil (s : ByteArray) : s.toList = [] ↔ s.size = 0 := by
  rw [ByteArray.toList_eq]
  constructor
  · intro h; have := congrArg List.length h; simpa using this
  · intro h; exact List.length_eq_zero_iff.1 (by simpa using h)
theorem letters_same : ∀ n : Fin 256, graftbedref12_letter.f ((n.val : Nat) : Int) = expr_letter.f ((n.val : Nat) : Int) := by decide +kernel
theorem letter_same (c : UInt8) : graftbedref12_letter.f (c.toNat : Int) = some (letterB c) := by
  have := letters_same ⟨c.toNat, c.toNat_lt⟩
  simp only at this
  rw [this, letter_some]; rfl
theorem rtag_loop (s : ByteArray) (hs : s.size ≤ 140737488351232) : ∀ (n i : Nat), i + n = s.size → ∀ k, n < k → graftbedref12_Tag.l0 k s (i : Int) = some (((s.toList.drop i).all letterB) && decide (s.size ≠ 0) && decide (s.size ≤ 60))
  | 0, i, hi, k, hk => by
    obtain ⟨k, rfl⟩ : ∃ k', k = k' + 1 := ⟨k - 1, by omega⟩
    unfold graftbedref12_Tag.l0
    rw [if_neg (by omega)]
    have hl : s.toList.length = s.size := by rw [ByteArray.toList_eq]; simp
    have hd : s.toList.drop i = [] := List.drop_eq_nil_of_le (by omega)
    rw [hd]
    by_cases h0 : s.toList = []
    · rw [if_pos h0]; have : s.size = 0 := (toList_nil s).1 h0
      simp [this]
    · rw [if_neg h0]; have : s.size ≠ 0 := fun h => h0 ((toList_nil s).2 h)
      simp [this]; omega
  | n + 1, i, hi, k, hk => by
    obtain ⟨k, rfl⟩ : ∃ k', k = k' + 1 := ⟨k - 1, by omega⟩
    unfold graftbedref12_Tag.l0
    have hl : s.toList.length = s.size := by rw [ByteArray.toList_eq]; simp
    have hil : i < s.toList.length := by omega
    rw [if_pos (by omega), if_pos (by omega)]
    have hb : bt s (i : Int) = ((s.toList[i]'hil).toNat : Int) := by
      rw [← bt_at s (i : Int) (by simp; omega)]
      simp only [Int.toNat_natCast, ByteArray.toList_eq]
      rfl
    have hdr : s.toList.drop i = s.toList[i]'hil :: s.toList.drop (i + 1) := List.drop_eq_getElem_cons hil
    rw [hb, letter_same]
    simp only [Option.bind_some]
    rw [hdr, List.all_cons]
    by_cases hc : letterB (s.toList[i]'hil) = true
    · rw [if_pos hc, w64 _ (by omega) (by omega), show ((i : Int) + 1) = ((i + 1 : Nat) : Int) by omega]
      rw [rtag_loop s hs n (i + 1) (by omega) k (by omega), hc, Bool.true_and]
    · rw [if_neg hc]; simp [hc]
theorem rtag_ends (s : ByteArray) (hs : s.size ≤ 140737488351232) (k : Nat) (hk : s.size < k) : graftbedref12_Tag.f k s = some (tagB s) := by
  unfold graftbedref12_Tag.f tagB
  exact rtag_loop s hs s.size 0 (by omega) k hk
theorem rd57 (l : List S51) (i : Nat) (h : i < l.length) : rd_T57 (l.map conv) (i : Int) = conv l[i] := by unfold rd_T57; simp [List.getD, h]
/-- nodes from a place up to another one -/
def seg (l : List S51) (a b : Nat) : List S51 := (l.drop a).take (b - a)
theorem seg_snoc (l : List S51) (a b : Nat) (h : a ≤ b) (hb : b < l.length) : seg l a (b + 1) = seg l a b ++ [l[b]] := by
  unfold seg
  rw [show b + 1 - a = (b - a) + 1 by omega, List.take_succ_eq_append_getElem (by simp; omega)]
  congr 1
  simp [show a + (b - a) = b by omega]
theorem seg_join (l : List S51) (a b c : Nat) (h1 : a ≤ b) (h2 : b ≤ c) : seg l a c = seg l a b ++ seg l b c := by
  unfold seg
  rw [show c - a = (b - a) + (c - b) by omega, List.take_add, List.drop_drop, show a + (b - a) = b by omega]
theorem seg_len (l : List S51) (a b : Nat) (h : b ≤ l.length) (hab : a ≤ b) : (seg l a b).length = b - a := by
  unfold seg; simp; omega
/-- the pass over nodes that stand as one -/
def oneTree (l : List S51) (a b : Nat) (d : Int) : Prop := ∀ st, chkN (seg l a (b + 1)) (a : Int) st = some (((b : Int), d) :: st)
theorem chkN_seg_snoc (l : List S51) (a b : Nat) (h : a ≤ b) (hb : b < l.length) (st : List (Int × Int)) :
    chkN (seg l a (b + 1)) (a : Int) st = (chkN (seg l a b) (a : Int) st).bind (fun s => chk1 (b : Int) l[b] s) := by
  rw [seg_snoc l a b h hb, chkN_append, seg_len l a b (by omega) h]
  congr 1; funext s
  simp only [chkN]
  rw [show (a : Int) + ((b - a : Nat) : Int) = (b : Int) by omega]
  cases chk1 (b : Int) l[b] s <;> rfl
theorem whole_sound (l : List S51) (hl : l.length ≤ 71) (S : Nat) (hS : ∀ x ∈ l, x.f1.size < S) (hsm : small l) : ∀ (n at_ : Nat), at_ < n → at_ < l.length → ∀ k, 3 * at_ + S + 4 ≤ k →
    ∃ fr d, graftbedref12_whole.f k (l.map conv) (at_ : Int) = some (fr, d) ∧ (0 ≤ fr → ∃ f : Nat, fr = (f : Int) ∧ f ≤ at_ ∧ 0 ≤ d ∧ d ≤ (at_ : Int) + 1 ∧ oneTree l f at_ d)
  | 0, at_, h, _, _, _ => by omega
  | n + 1, at_, hn, ha, k, hk => by
    obtain ⟨k, rfl⟩ : ∃ k', k = k' + 1 := ⟨k - 1, by omega⟩
    have hx : l[at_] ∈ l := List.getElem_mem ha
    have htag0 := rtag_ends l[at_].f1 (hsm _ hx) k (by have := hS _ hx; omega)
    have hlm : ((l.map conv).length : Int) = (l.length : Int) := by simp
    have no_ := Aside0.mk (show ∃ fr d, (some (-1, 0) : Option (Int × Int)) = some (fr, d) ∧ (0 ≤ fr → ∃ f : Nat, fr = (f : Int) ∧ f ≤ at_ ∧ 0 ≤ d ∧ d ≤ (at_ : Int) + 1 ∧ oneTree l f at_ d) from ⟨-1, 0, rfl, fun h => by omega⟩)
    rw [graftbedref12_whole.f, if_pos (by omega), if_pos (by rw [hlm]; omega), rd57 l at_ ha]
    generalize hxx : l[at_] = x at *
    obtain ⟨y, hy⟩ : ∃ y, y = conv x := ⟨_, rfl⟩
    have y0 : x.f0 = y.f0 := by rw [hy]; rfl
    have y1 : x.f1 = y.f1 := by rw [hy]; rfl
    have y2 : x.f2 = y.f2 := by rw [hy]; rfl
    have y3 : x.f3 = y.f3 := by rw [hy]; rfl
    have htag : graftbedref12_Tag.f k y.f1 = some (tagB y.f1) := by rw [← y1]; exact htag0
    rw [← hy]
    have hc : ∀ (i : Int) (st : List (Int × Int)), chk1 i x st = chk1 i ⟨y.f0, y.f1, y.f2, y.f3⟩ st := fun i st => by rw [← y0, ← y1, ← y2, ← y3]
    clear hy
    have hw1 : 0 < at_ → wrap64 ((at_ : Int) - 1) = ((at_ - 1 : Nat) : Int) := fun h => by rw [w64 _ (by omega) (by omega)]; omega
    by_cases k0 : y.f0 = 0
    · rw [if_pos k0, htag]
      simp only [Option.bind_some]
      split
      · rename_i ht
        split
        · rename_i h2
          split
          · rename_i h3
            refine ⟨(at_ : Int), 1, rfl, fun _ => ⟨at_, rfl, Nat.le_refl _, by omega, by omega, ?_⟩⟩
            intro st
            rw [chkN_seg_snoc l at_ at_ (Nat.le_refl _) ha, hxx]
            have : seg l at_ at_ = [] := by simp [seg]
            rw [this]
            simp only [chkN, Option.bind_some]
            rw [hc]; unfold chk1
            rw [if_pos k0, if_pos ⟨ht, h2, h3⟩]
          · exact no_.out
        · exact no_.out
      · exact no_.out
    · rw [if_neg k0]
      by_cases k1 : y.f0 = 1
      · rw [if_pos k1]
        split
        · rename_i ht
          split
          · rename_i h3
            split
            · rename_i h2
              split
              · rename_i hp
                have hp' : 0 < at_ := by omega
                rw [hw1 hp'] at h2 ⊢
                obtain ⟨fr, d, e, hfr⟩ := whole_sound l hl S hS hsm n (at_ - 1) (by omega) (by omega) k (by omega)
                rw [e]
                simp only [Option.bind_some]
                by_cases h0 : 0 ≤ fr
                · obtain ⟨f, rfl, hf, hd0, hd1, ht1⟩ := hfr h0
                  clear hfr
                  refine ⟨(f : Int), 1 + d, by rw [w64 _ (by omega) (by omega)]; congr 2; omega, fun _ => ⟨f, rfl, by omega, by omega, by omega, ?_⟩⟩
                  intro st
                  rw [chkN_seg_snoc l f at_ (by omega) ha, hxx]
                  have h4 := ht1 st
                  rw [show at_ - 1 + 1 = at_ by omega] at h4
                  rw [h4]
                  simp only [Option.bind_some]
                  rw [hc]; unfold chk1
                  rw [if_neg k0, if_pos k1]
                  simp only
                  rw [if_pos ⟨(toList_nil _).1 ht, h2, h3⟩]
                · exact ⟨fr, _, rfl, fun h => absurd h h0⟩
              · exact no_.out
            · exact no_.out
          · exact no_.out
        · exact no_.out
      · rw [if_neg k1]
        have hj0 : ∀ b : Bool, (b = true → y.f0 = 2 ∨ y.f0 = 3) → ∃ fr d, graftbedref12_whole.j0 k (l.map conv) (at_ : Int) b y.f0 y.f1 y.f2 y.f3 = some (fr, d) ∧ (0 ≤ fr → ∃ f : Nat, fr = (f : Int) ∧ f ≤ at_ ∧ 0 ≤ d ∧ d ≤ (at_ : Int) + 1 ∧ oneTree l f at_ d) := by
          intro b hb
          obtain ⟨k, rfl⟩ : ∃ k', k = k' + 1 := ⟨k - 1, by omega⟩
          have hj1 : ∀ b2 : Bool, (b2 = true → b = true ∧ y.f1.toList = [] ∧ y.f3 = wrap64 ((at_ : Int) - 1) ∧ (1 : Int) < at_) → ∃ fr d, graftbedref12_whole.j1 k (l.map conv) (at_ : Int) b2 y.f0 y.f1 y.f2 y.f3 = some (fr, d) ∧ (0 ≤ fr → ∃ f : Nat, fr = (f : Int) ∧ f ≤ at_ ∧ 0 ≤ d ∧ d ≤ (at_ : Int) + 1 ∧ oneTree l f at_ d) := by
            intro b2 hb2
            obtain ⟨k, rfl⟩ : ∃ k', k = k' + 1 := ⟨k - 1, by omega⟩
            rw [graftbedref12_whole.j1]
            cases b2 with
            | false => rw [if_neg (by decide)]; exact no_.out
            | true =>
              obtain ⟨hb1, ht, h3, hp⟩ := hb2 rfl
              have hp' : 1 < at_ := by omega
              rw [if_pos rfl, hw1 (by omega)]
              rw [hw1 (by omega)] at h3
              obtain ⟨fr1, d1, e1, hfr1⟩ := whole_sound l hl S hS hsm n (at_ - 1) (by omega) (by omega) k (by omega)
              rw [e1]
              simp only [Option.bind_some]
              split
              · rename_i hg
                obtain ⟨f1, rfl, hf1, hd10, hd11, ht1⟩ := hfr1 (by clear hfr1; omega)
                clear hfr1
                have hw2 : wrap64 ((f1 : Int) - 1) = ((f1 - 1 : Nat) : Int) := by rw [w64 _ (by omega) (by omega)]; omega
                rw [hw2]
                split
                · rename_i h2
                  obtain ⟨fr2, d2, e2, hfr2⟩ := whole_sound l hl S hS hsm n (f1 - 1) (by omega) (by omega) k (by omega)
                  rw [e2]
                  simp only [Option.bind_some]
                  by_cases h0 : 0 ≤ fr2
                  · obtain ⟨f2, rfl, hf2, hd20, hd21, ht2⟩ := hfr2 h0
                    clear hfr2
                    have hmx : mx d1 d2 = max d2 d1 := by unfold mx; split <;> omega
                    refine ⟨(f2 : Int), 1 + max d2 d1, by rw [hmx, w64 _ (by omega) (by omega)]; congr 2; omega, fun _ => ⟨f2, rfl, by omega, by omega, by omega, ?_⟩⟩
                    intro st
                    rw [chkN_seg_snoc l f2 at_ (by omega) ha, hxx, seg_join l f2 f1 at_ (by omega) (by omega), chkN_append, seg_len l f2 f1 (by omega) (by omega)]
                    have h4 := ht2 st
                    rw [show f1 - 1 + 1 = f1 by omega] at h4
                    rw [h4]
                    simp only [Option.bind_some]
                    rw [show (f2 : Int) + ((f1 - f2 : Nat) : Int) = (f1 : Int) by omega]
                    have h5 := ht1 ((((f1 - 1 : Nat) : Int), d2) :: st)
                    rw [show at_ - 1 + 1 = at_ by omega] at h5
                    rw [h5]
                    simp only [Option.bind_some]
                    rw [hc]; unfold chk1
                    rw [if_neg k0, if_neg k1, if_pos (hb hb1)]
                    simp only
                    rw [if_pos ⟨(toList_nil _).1 ht, h2, h3⟩]
                  · exact ⟨fr2, _, rfl, fun h => absurd h h0⟩
                · exact no_.out
              · exact no_.out
          rw [graftbedref12_whole.j0]
          cases b with
          | false => rw [if_neg (by decide)]; exact no_.out
          | true =>
            rw [if_pos rfl]
            split
            · rename_i ht
              split
              · rename_i h3
                exact hj1 _ (fun h => ⟨rfl, ht, h3, of_decide_eq_true h⟩)
              · exact hj1 _ (fun h => by cases h)
            · exact hj1 _ (fun h => by cases h)
        split
        · rename_i h2
          exact hj0 _ (fun _ => .inl h2)
        · exact hj0 _ (fun h => .inr (by simpa using h))
theorem refCheck_sound (l : List S51) (hl : l.length ≤ 71) (S : Nat) (hS : ∀ x ∈ l, x.f1.size < S) (hsm : small l) (k : Nat) (hk : 3 * l.length + S + 6 ≤ k) :
    ∃ c, graftbedref12_Check.f k (l.map conv) = some c ∧ (c = 0 → chk l = 0) := by
  have hlm : ((l.map conv).length : Int) = (l.length : Int) := by simp
  obtain ⟨k, rfl⟩ : ∃ k', k = k' + 1 := ⟨k - 1, by omega⟩
  unfold graftbedref12_Check.f
  rw [hlm]
  by_cases h1 : (l.length : Int) < 1
  · rw [if_pos h1, graftbedref12_Check.j0, if_pos rfl]; exact ⟨120, rfl, fun h => by omega⟩
  · rw [if_neg h1, graftbedref12_Check.j0, hlm]
    by_cases h6 : l.length ≤ 60
    · have hd : decide ((l.length : Int) > 60) = false := decide_eq_false (by omega)
      rw [hd, if_neg (by decide), w64 _ (by omega) (by omega), show (l.length : Int) - 1 = ((l.length - 1 : Nat) : Int) by omega]
      obtain ⟨fr, d, e, h⟩ := whole_sound l hl S hS hsm l.length (l.length - 1) (by omega) (by omega) k (by omega)
      rw [e]
      simp only [Option.bind_some]
      split
      · rename_i h0
        split
        · exact ⟨120, rfl, fun h => by omega⟩
        · rename_i h40
          refine ⟨0, rfl, fun _ => ?_⟩
          obtain ⟨f, hf, _, _, _, ht⟩ := h (by clear h; omega)
          clear h
          obtain rfl : f = 0 := by omega
          have h2 := ht []
          rw [show l.length - 1 + 1 = l.length by omega] at h2
          have h3 : seg l 0 l.length = l := by unfold seg; simp
          rw [h3] at h2
          exact chk_zero_of h6 h2 (by omega)
      · exact ⟨120, rfl, fun h => by omega⟩
    · have hd : decide ((l.length : Int) > 60) = true := decide_eq_true (by omega)
      rw [hd, if_pos rfl]; exact ⟨120, rfl, fun h => by omega⟩
end Go.Proofs.YtfnikmkjhbbbgaaDoor
