/- strings.TrimLeft at blanks and tabs: the plain function it computes; no conditions. -/
import Derived.Test.YtfnikmkjhbbbgaaDoorTag
import Derived.Test.YtfnikmkjhbbbgaaDoorShelf2
set_option linter.unusedVariables false
set_option linter.unusedSimpArgs false
namespace Go.Proofs.YtfnikmkjhbbbgaaDoor.HExpr
open Go.RowKit Go.Proofs.YtfnikmkjhbbbgaaDoorW.PrintWords Go.Proofs.YtfnikmkjhbbbgaaDoorW.PrintLast Go.Proofs.YtfnikmkjhbbbgaaDoorW.PrintMore
/-- a blank or a tab -/
def blankB (c : UInt8) : Bool := c == 32 || c == 9
/-- a text without the blanks that it begins with -/
def trimS (s : ByteArray) : ByteArray := ⟨(s.data.toList.dropWhile blankB).toArray⟩
theorem trimS_empty (s : ByteArray) (h : s.size = 0) : trimS s = s := by
  obtain ⟨⟨l⟩⟩ := s
  have : l = [] := List.length_eq_zero_iff.1 (by simpa [ByteArray.size] using h)
  subst this; rfl
theorem ext_tail (c : UInt8) (l : List UInt8) : (ByteArray.mk (c :: l).toArray).extract 1 (ByteArray.mk (c :: l).toArray).size = ByteArray.mk l.toArray := by
  apply ByteArray.ext
  simp [ByteArray.size]
theorem trimS_step (t : ByteArray) (h : 0 < t.size) (hb : blankB (t[0]'h) = true) : trimS (t.extract 1 t.size) = trimS t := by
  obtain ⟨⟨l⟩⟩ := t
  cases l with
  | nil => simp [ByteArray.size] at h
  | cons c l =>
    rw [ext_tail c l]
    have hc : blankB c = true := hb
    unfold trimS; simp [List.dropWhile, hc]
theorem trimS_stop (t : ByteArray) (h : 0 < t.size) (hb : blankB (t[0]'h) = false) : trimS t = t := by
  obtain ⟨⟨l⟩⟩ := t
  cases l with
  | nil => simp [ByteArray.size] at h
  | cons c l =>
    have hc : blankB c = false := hb
    unfold trimS; simp [List.dropWhile, hc]
set_option maxHeartbeats 8000000 in
set_option maxRecDepth 100000 in
theorem trimASCII_calls (s : ByteArray) (b : Nat) (w : World) (hset : ∀ x : UInt8, w.cell? ⟨b, x.toNat, none⟩ = some (.bool (blankB x))) :
    Calls Tryd.prog 67 #[.string s, .pointer (some ⟨b, 0, none⟩)] w fun e w' => e = .returned (.string (trimS s)) ∧ w' = w := by
  have HS := Aside0.mk hset
  clear hset
  go_enter Tryd.func67, Tryd.ntmps67
  go_wp2
  go_loopw [0] (fun v0 w' => ∃ t : ByteArray, v0 = .string t ∧ Aside0 (trimS t = trimS s) ∧ w' = w) (fun v0 w' => match v0 with | .string t => t.size | _ => 0)
  case atStart => exact ⟨s, rfl, ⟨rfl⟩, rfl⟩
  case round =>
    obtain ⟨t, rfl, HT, rfl⟩ := hrel
    by_cases h0 : 0 < t.size
    · have d0 : decide ((0 : Int) < (t.size : Int)) = true := decide_eq_true (by omega)
      have d1 : (0 : Int) < (t.size : Int) := by omega
      cases hb : blankB (t[0]'h0) with
      | true =>
        have hc : wr.cell? ⟨b, (t[0]'h0).toNat, none⟩ = some (.bool true) := by rw [HS.out, hb]
        have HC := Aside0.mk (Tryd.asciiSet_contains b (t[0]'h0) true wr hc)
        have Hb := Aside0.mk hb
        clear hc hb
        go_wp2_with (go_at_call 71; refine HC.out.mono ?_; rintro e w' ⟨rfl, rfl⟩)
        go_roundw
        case rel => exact ⟨_, rfl, ⟨by rw [trimS_step t h0 Hb.out]; exact HT.out⟩, trivial⟩
        case measure => show (t.extract 1 t.size).size < t.size; rw [ByteArray.size_extract]; omega
      | false =>
        have hc : wr.cell? ⟨b, (t[0]'h0).toNat, none⟩ = some (.bool false) := by rw [HS.out, hb]
        have HC := Aside0.mk (Tryd.asciiSet_contains b (t[0]'h0) false wr hc)
        have Hb := Aside0.mk hb
        clear hc hb
        go_wp2_with (go_at_call 71; refine HC.out.mono ?_; rintro e w' ⟨rfl, rfl⟩)
        go_ret
        exact ⟨by rw [← HT.out, trimS_stop t h0 Hb.out]; rfl, rfl⟩
    · have d0 : decide ((0 : Int) < (t.size : Int)) = false := decide_eq_false (by omega)
      go_wp2
      go_ret
      exact ⟨by rw [← HT.out, trimS_empty t (by omega)]; rfl, rfl⟩
/-- the letters that are trimmed -/
def blanksT : ByteArray := ⟨#[32, 9]⟩
theorem blanks_set (x : UInt8) : ([32, 9] : List UInt8).contains x = blankB x := by
  unfold blankB
  by_cases h : x = 32
  · subst h; decide
  · by_cases h2 : x = 9
    · subst h2; decide
    · simp [h, h2]
theorem z94 : (Tryd.prog.info? 94).map (fun i => (i.zero, i.size)) = some (some (.agg (Array.replicate 256 (.bool false))), 256) := by kernel_rfl
set_option maxHeartbeats 8000000 in
set_option maxRecDepth 1000000 in
theorem trimLeft_calls (s : ByteArray) (w : World) :
    Calls Tryd.prog 57 #[.string s, .string ⟨#[32, 9]⟩] w fun e w' => e = .returned (.string (trimS s)) ∧ Below w.heap.size w w' := by
  obtain ⟨hv94, hi94⟩ := zero_of_info z94
  have hM := Tryd.strings_makeASCIISet hv94 ⟨#[32, 9]⟩ w (by decide) (by intro j b h; match j with
    | 0 => simp at h; subst h; decide
    | 1 => simp at h; subst h; decide
    | j + 2 => simp at h)
  obtain ⟨CS, hCS⟩ : ∃ CS, CS = Lib.setCells [32, 9] := ⟨_, rfl⟩
  have hM2 : Calls Tryd.prog 66 #[.string ⟨#[32, 9]⟩] w fun e w' => e = .returned (.tuple #[.agg CS, .bool true]) ∧ w' = w.alloc (.cells CS 94) := by rw [hCS]; exact hM
  have hsz : CS.size = 256 := by rw [hCS]; exact Lib.setCells_size _
  have hone : CS.all (·.oneCell') = true := by rw [hCS]; exact Lib.setCells_one _
  have hset : ∀ x : UInt8, CS[x.toNat]? = some (.bool (blankB x)) := fun x => by rw [hCS, Lib.setCells_at, blanks_set]
  have hsc : (storeCells ⟨w.heap.size + 1, 0, none⟩ CS.toList 0).run Tryd.prog ((w.alloc (.cells CS 94)).alloc (.cells (Array.replicate 256 (.bool false)) 94)) = .ok () ((w.alloc (.cells CS 94)).alloc (.cells CS 94)) := by
    have := run_storeCells_new (P := Tryd.prog) (w.alloc (.cells CS 94)) 94 (Array.replicate 256 (.bool false)) CS (by rw [hsz]; exact hi94) (by rw [hsz, Array.size_replicate]) hone
    simpa using this
  have hcellAt : ∀ x : UInt8, ((w.alloc (.cells CS 94)).alloc (.cells CS 94)).cell? ⟨w.heap.size + 1, x.toNat, none⟩ = some (.bool (blankB x)) := fun x => by
    rw [World.cell?_alloc_at _ _ _ _ (by simp), hset]
  have HC := Aside0.mk (trimASCII_calls s (w.heap.size + 1) _ hcellAt)
  have HM := Aside0.mk hM2
  have HB := Aside0.mk (below_alloc (below_alloc (Below.refl w.heap.size w) (.cells CS 94)) (.cells CS 94))
  clear hM hM2 hset hcellAt hone hCS
  by_cases h0 : s.size = 0
  · have hs : s = ⟨#[]⟩ := by obtain ⟨⟨l⟩⟩ := s; have : l = [] := List.length_eq_zero_iff.1 (by simpa [ByteArray.size] using h0); subst this; rfl
    subst hs
    go_enter Tryd.func57, Tryd.ntmps57
    go_wp2
    go_ret
    exact ⟨rfl, Below.refl _ _⟩
  · have hemp : s.toList.isEmpty = false := by
      rw [ByteArray.toList_eq]
      cases h : s.data.toList with
      | nil => have : s.size = 0 := by rw [show s.size = s.data.toList.length from Array.length_toList.symm, h]; rfl
               exact absurd this h0
      | cons _ _ => rfl
    go_enter Tryd.func57, Tryd.ntmps57
    go_wp2_with (first | (go_at_call 66; refine HM.out.mono ?_; rintro e w' ⟨rfl, hw⟩; rw [hw]) | (go_at_call 67; refine HC.out.mono ?_; rintro e w' ⟨rfl, hw⟩; rw [hw]))
    go_ret
    exact ⟨rfl, HB.out⟩
end Go.Proofs.YtfnikmkjhbbbgaaDoor.HExpr
