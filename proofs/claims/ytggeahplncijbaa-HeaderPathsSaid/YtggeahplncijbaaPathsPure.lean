/- What the functions of the law HeaderPaths compute, in plain words. -/
import Derived.Test.YtggeahplncijbaaPathsOrd
import Derived.Test.YtggeahplncijbaaHHeaderPathsLaw
set_option linter.unusedVariables false
set_option linter.unusedSimpArgs false
namespace Go.Proofs.Ytggeahplncijbaa.PathsPure
open Go.RowKit Go.Proofs.Ytggeahplncijbaa.HHeaderPaths Go.Proofs.Ytggeahplncijbaa.PathsOrd Go.Proofs.YtggeahplncijbaaW.PrintWords Go.Proofs.YtggeahplncijbaaW.PrintLast Go.Proofs.YtggeahplncijbaaW.PrintMore
theorem w64 (x : Int) (h0 : -9223372036854775808 ≤ x) (h1 : x < 9223372036854775808) : wrap64 x = x := by unfold wrap64; omega
theorem next (i : Nat) (h : i < 9223372036854775807) : wrap64 ((i : Int) + 1) = ((i + 1 : Nat) : Int) := by rw [w64 _ (by omega) (by omega)]; omega
theorem rd47 (l : List S47) (i : Nat) (h : i < l.length) : rd_T47 l (i : Int) = l[i] := by unfold rd_T47; simp [List.getD, h]
theorem rd85 (l : List S85) (i : Nat) (h : i < l.length) : rd_T85 l (i : Int) = l[i] := by unfold rd_T85; simp [List.getD, h]
theorem rd88 (l : List S88) (i : Nat) (h : i < l.length) : rd_T88 l (i : Int) = l[i] := by unfold rd_T88; simp [List.getD, h]
theorem rdS (l : List ByteArray) (i : Nat) (h : i < l.length) : rdOf ByteArray.empty l (i : Int) = l[i] := by unfold rdOf; simp [List.getD, h]
def filt (L : List S47) : List ByteArray := (L.map (·.f1)).filter fun p => !(p.toList == [67])
theorem filt_skip (s : S47) (t : List S47) (h : s.f1.toList = [67]) : filt (s :: t) = filt t := by simp [filt, h]
theorem filt_keep (s : S47) (t : List S47) (h : ¬ s.f1.toList = [67]) : filt (s :: t) = s.f1 :: filt t := by simp [filt, h]
theorem paths_l0 (l : List S47) (hl : l.length ≤ 60) : ∀ (n i : Nat) (x3 : List ByteArray) (k : Nat), i + n = l.length → n < k → x3.length ≤ i → header_Paths.l0 k x3 l (l.length : Int) (i : Int) = some (compC (sortC (x3 ++ filt (l.drop i))))
  | _, _, _, 0, _, hk, _ => absurd hk (Nat.not_lt_zero _)
  | 0, i, x3, k + 1, hi, _, hx => by
    rw [header_Paths.l0, if_neg (by omega), if_pos (by omega), List.drop_eq_nil_of_le (by omega)]
    simp [filt]
  | n + 1, i, x3, k + 1, hi, hk, hx => by
    have hlt : i < l.length := by omega
    rw [header_Paths.l0, if_pos (by omega), if_pos (by omega), if_pos (by omega), rd47 l i hlt, next i (by omega), List.drop_eq_getElem_cons hlt]
    split
    · rename_i hc
      rw [paths_l0 l hl n (i + 1) x3 k (by omega) (by omega) (by omega), filt_skip _ _ hc]
    · rename_i hc
      rw [if_pos (by omega), paths_l0 l hl n (i + 1) _ k (by omega) (by omega) (by simp; omega), filt_keep _ _ hc, List.append_assoc]
      rfl
def conv (s : S47) : S85 := ⟨s.f0, s.f1, s.f2⟩
def conv8 (s : S88) : S87 := ⟨s.f0, s.f1⟩
theorem theirs_l1 (y4 : List S88) (hl : y4.length ≤ 5864062014634) : ∀ (n i : Nat) (x : List S87) (k : Nat) y0 y1 y2 y3 z0 z1 z2 z3, i + n = y4.length → n < k → x.length = i → graftbedlaw11_theirs.l1 k (i : Int) y0 y1 y2 y3 y4 z0 z1 z2 z3 x = some (z0, z1, z2, z3, x ++ (y4.drop i).map conv8)
  | _, _, _, 0, _, _, _, _, _, _, _, _, _, hk, _ => absurd hk (Nat.not_lt_zero _)
  | 0, i, x, k + 1, _, _, _, _, _, _, _, _, hi, _, hx => by
    rw [graftbedlaw11_theirs.l1, if_neg (by omega), List.drop_eq_nil_of_le (by omega)]
    simp
  | n + 1, i, x, k + 1, _, _, _, _, _, _, _, _, hi, hk, hx => by
    have hlt : i < y4.length := by omega
    rw [graftbedlaw11_theirs.l1, if_pos (by omega), if_pos (by omega), if_pos (by omega), rd88 y4 i hlt, next i (by omega), theirs_l1 y4 hl n (i + 1) _ k _ _ _ _ _ _ _ _ (by omega) (by omega) (by simp; omega), List.drop_eq_getElem_cons hlt, List.map_cons, List.append_assoc]
    rfl
theorem theirs_l0 (y1 : List S47) (hl1 : y1.length ≤ 60) (y4 : List S88) (hl : y4.length ≤ 5864062014634) : ∀ (n i : Nat) (x : List S85) (k : Nat) y0 y2 y3 z0 z2 z3, i + n = y1.length → n + 1 + y4.length < k → x.length = i → graftbedlaw11_theirs.l0 k (i : Int) y0 y1 y2 y3 y4 z0 x z2 z3 = some (z0, x ++ (y1.drop i).map conv, z2, z3, y4.map conv8)
  | _, _, _, 0, _, _, _, _, _, _, _, hk, _ => absurd hk (Nat.not_lt_zero _)
  | 0, i, x, k + 1, _, _, _, _, _, _, hi, hk, hx => by
    have h := theirs_l1 y4 hl y4.length 0 [] k
    simp only [Int.natCast_zero] at h
    rw [graftbedlaw11_theirs.l0, if_neg (by omega), h _ _ _ _ _ _ _ _ (by omega) (by omega) rfl, List.drop_eq_nil_of_le (by omega : y1.length ≤ i)]
    simp
  | n + 1, i, x, k + 1, _, _, _, _, _, _, hi, hk, hx => by
    have hlt : i < y1.length := by omega
    rw [graftbedlaw11_theirs.l0, if_pos (by omega), if_pos (by omega), if_pos (by omega), rd47 y1 i hlt, next i (by omega), theirs_l0 y1 hl1 y4 hl n (i + 1) _ k _ _ _ _ _ _ (by omega) (by omega) (by simp; omega), List.drop_eq_getElem_cons hlt, List.map_cons, List.append_assoc]
    rfl
def insB (p : ByteArray) : Bool → List ByteArray → List ByteArray
  | true, l => l
  | false, [] => [p]
  | false, y :: t => if (!(Op.bytesLess y.toList p.toList)) = true then (if p.toList = y.toList then y :: t else p :: y :: t) else y :: insB p false t
theorem insB_length (p : ByteArray) (b : Bool) (l : List ByteArray) : (insB p b l).length ≤ l.length + 1 := by
  cases b
  · induction l with
    | nil => simp [insB]
    | cons y t ih =>
      rw [insB]
      split
      · split <;> simp
      · simp; omega
  · simp [insB]
theorem ref_l1 (x3 : List ByteArray) (hx3 : x3.length ≤ 100) (x4 : Int) (p : ByteArray) (b0 : ByteArray) (b1 : List S85) (b2 : ByteArray) (b3 : List ByteArray) (b4 : List S87) (k : Nat) :
    ∀ (n j : Nat) (x6 : List ByteArray) (d : Bool), j + n = x3.length → x6.length ≤ 2 * j → graftbedref11_Paths.l1 (k + 2 * n + 1) x3 x4 p x6 d (j : Int) b0 b1 b2 b3 b4 = graftbedref11_Paths.l0 k (x6 ++ insB p d (x3.drop j)) (wrap64 (x4 + 1)) b0 b1 b2 b3 b4
  | 0, j, x6, d, hj, h6 => by
    rw [graftbedref11_Paths.l1, if_neg (by omega), List.drop_eq_nil_of_le (by omega)]
    cases d
    · rw [if_neg (by decide), if_pos (by omega)]; rfl
    · rw [if_pos rfl]; simp [insB]
  | n + 1, j, x6, d, hj, h6 => by
    have hlt : j < x3.length := by omega
    have rc := fun x d h => ref_l1 x3 hx3 x4 p b0 b1 b2 b3 b4 k n (j + 1) x d (by omega) h
    rw [show k + 2 * (n + 1) + 1 = (k + 2 * n + 1 + 1) + 1 by omega, graftbedref11_Paths.l1, if_pos (by omega), List.drop_eq_getElem_cons hlt]
    cases d
    · rw [if_neg (by decide), if_pos (by omega), graftbedref11_Paths.j2, rdS x3 j hlt, next j (by omega), insB]
      by_cases hc : (!(Op.bytesLess x3[j].toList p.toList)) = true
      · rw [if_pos hc, if_pos hc, if_pos (by omega), if_pos (by omega)]
        by_cases he : p.toList = x3[j].toList
        · rw [if_pos he, if_pos he, if_pos (by omega), rc _ _ (by simp; omega)]
          simp [insB]
        · rw [if_neg he, if_neg he, if_pos (by omega), Option.bind_some, if_pos (by simp; omega), rc _ _ (by simp; omega)]
          simp [insB]
      · rw [if_neg hc, if_neg hc, if_pos (by omega), if_pos (by omega), if_pos (by omega), rc _ _ (by simp; omega)]
        simp
    · rw [if_pos rfl, graftbedref11_Paths.j2, rdS x3 j hlt, next j (by omega), if_neg (by decide), if_pos (by omega), if_pos (by omega), if_pos (by omega), rc _ _ (by simp; omega)]
      simp [insB]
def stepB (o : List ByteArray) (s : S85) : List ByteArray := insB s.f1 (s.f1.toList == [67]) o
theorem ref_l0 (b0 : ByteArray) (l : List S85) (hl : l.length ≤ 60) (b2 : ByteArray) (b3 : List ByteArray) (b4 : List S87) :
    ∀ (n i : Nat) (x3 : List ByteArray), i + n = l.length → x3.length ≤ i → ∃ K, ∀ k, K ≤ k → graftbedref11_Paths.l0 k x3 (i : Int) b0 l b2 b3 b4 = some ((l.drop i).foldl stepB x3)
  | 0, i, x3, hi, hx => ⟨1, fun k hk => by
    obtain ⟨k, rfl⟩ : ∃ k', k = k' + 1 := ⟨k - 1, by omega⟩
    rw [graftbedref11_Paths.l0, if_neg (by omega), List.drop_eq_nil_of_le (by omega)]
    rfl⟩
  | n + 1, i, x3, hi, hx => by
    have hlt : i < l.length := by omega
    obtain ⟨K, hK⟩ := ref_l0 b0 l hl b2 b3 b4 n (i + 1) (stepB x3 l[i]) (by omega) (by have := insB_length l[i].f1 (l[i].f1.toList == [67]) x3; unfold stepB; omega)
    refine ⟨K + 2 * x3.length + 2, fun k hk => ?_⟩
    obtain ⟨k, rfl⟩ : ∃ k', k = (k' + 2 * x3.length + 1) + 1 := ⟨k - (2 * x3.length + 2), by omega⟩
    have h := ref_l1 x3 (by omega) (i : Int) l[i].f1 b0 l b2 b3 b4 k x3.length 0 [] (l[i].f1.toList == [67]) (by omega) (by simp)
    simp only [Int.natCast_zero] at h
    rw [graftbedref11_Paths.l0, if_pos (by omega), if_pos (by omega), rd85 l i hlt, h, next i (by omega), List.drop_eq_getElem_cons hlt, List.foldl_cons, List.nil_append]
    exact hK k (by omega)
theorem same_l0 (x : List ByteArray) (hx : x.length ≤ 1000) : ∀ (n i k : Nat), i + n = x.length → n < k → graftbedlaw11_same.l0 k x x (i : Int) = some true
  | _, _, 0, _, hk => absurd hk (Nat.not_lt_zero _)
  | 0, i, k + 1, hi, _ => by rw [graftbedlaw11_same.l0, if_neg (by omega)]
  | n + 1, i, k + 1, hi, hk => by
    rw [graftbedlaw11_same.l0, if_pos (by omega), if_pos (by omega), if_pos (by omega), if_pos rfl, next i (by omega)]
    exact same_l0 x hx n (i + 1) k (by omega) (by omega)
end Go.Proofs.Ytggeahplncijbaa.PathsPure
