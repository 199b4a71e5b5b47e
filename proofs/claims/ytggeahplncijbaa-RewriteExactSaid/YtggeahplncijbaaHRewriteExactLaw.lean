/- The walk of graftbedlaw08.RewriteExact: it answers true, whatever it is given; no conditions beyond the row's own. -/
import Derived.Test.YtggeahplncijbaaRewHeavy
import Derived.Lib.Strings
import Derived.Lib.Hide
import Derived.Outline
set_option linter.unusedVariables false
set_option linter.unusedSimpArgs false
set_option linter.unusedSectionVars false
namespace Go.Proofs.Ytggeahplncijbaa.HRewriteExact
open Go.RowKit Go.Proofs.YtggeahplncijbaaW.PrintWords Go.Proofs.YtggeahplncijbaaW.PrintLast Go.Proofs.YtggeahplncijbaaW.PrintMore
attribute [local go_sem high] eqA29
attribute [local go_sem] max2_int min2_int max_two min_two max_three min_three max_four min_four

/-! the plain law -/
theorem idxFrom_append (p v : ByteArray) : ∀ (l m : List S33) (k : Int), 0 ≤ k → idxFrom p v l k = -1 → idxFrom p v (l ++ m) k = idxFrom p v m (k + l.length)
  | [], m, k, _, _ => by simp
  | x :: t, m, k, hk, h => by
    rw [idxFrom] at h
    split at h
    · omega
    · rename_i hs
      rw [List.cons_append, idxFrom, if_neg hs, idxFrom_append p v t m (k + 1) (by omega) h]
      simp
      congr 1
      omega
theorem idxFrom_none (p v : ByteArray) : ∀ (l : List S33) (k : Int), (∀ x ∈ l, x.f0.f0 ≠ p) → idxFrom p v l k = -1
  | [], k, _ => rfl
  | x :: t, k, h => by
    have h1 := h x (List.mem_cons_self ..)
    have hs : sameM x.f0.f0 x.f0.f1 p v = false := by
      unfold sameM
      rw [Bool.and_eq_false_iff]
      left
      rw [beq_eq_false_iff_ne]
      intro e
      apply h1
      rw [Lib.toList_data, Lib.toList_data] at e
      cases hx : x.f0.f0; cases p; rw [hx] at e; simp only at e; rw [Array.toList_inj.1 e]
    rw [idxFrom, hs, if_neg (by decide)]
    exact idxFrom_none p v t (k + 1) (fun y hy => h y (List.mem_cons_of_mem _ hy))
theorem sameM_iff (a b p v : ByteArray) : sameM a b p v = true ↔ a = p ∧ b = v := by
  have one : ∀ x y : ByteArray, x.toList = y.toList ↔ x = y := fun x y => by
    refine ⟨fun e => ?_, fun e => by rw [e]⟩
    rw [Lib.toList_data, Lib.toList_data] at e
    cases x; cases y; simp only at e; rw [Array.toList_inj.1 e]
  unfold sameM
  rw [Bool.and_eq_true, beq_iff_eq, beq_iff_eq, one, one]
theorem idx_two (l : List S33) (x y : S33) (p v : ByteArray) (h : ∀ z ∈ l, z.f0.f0 ≠ p) :
    idxFrom p v (l ++ [x, y]) 0 = if sameM x.f0.f0 x.f0.f1 p v = true then (l.length : Int) else if sameM y.f0.f0 y.f0.f1 p v = true then (l.length : Int) + 1 else -1 := by
  rw [idxFrom_append p v l [x, y] 0 (by omega) (idxFrom_none p v l 0 h)]
  simp only [idxFrom]
  rw [Int.zero_add]
theorem rd_first (l : List S33) (x y : S33) : rd_T33 (l ++ [x, y]) (l.length : Int) = x := by
  unfold rd_T33; simp
theorem rd_second (l : List S33) (x y : S33) : rd_T33 (l ++ [x, y]) ((l.length : Int) + 1) = y := by
  unfold rd_T33
  rw [show ((l.length : Int) + 1).toNat = l.length + 1 by omega]
  simp
theorem repl_none (l : List S33) (p v : ByteArray) (h : ∀ z ∈ l, z.f0.f0 ≠ p) : replOf l p v = (p, v, false) := by
  unfold replOf
  rw [idxFrom_none p v l 0 h, idxFrom_none p _ l 0 h, if_neg (by omega), if_neg (by omega)]
section
variable (l : List S33) (p v a0 a1 b0 b1 : ByteArray) (h : ∀ z ∈ l, z.f0.f0 ≠ p) (hv : v ≠ ⟨#[]⟩)
include h hv
theorem repl_exact_1 : replOf (l ++ [⟨⟨p, v⟩, ⟨a0, a1⟩⟩, ⟨⟨p, ⟨#[]⟩⟩, ⟨b0, b1⟩⟩]) p v = (a0, a1, true) := by
  unfold replOf
  rw [idx_two l _ _ p v h, if_pos ((sameM_iff _ _ _ _).2 ⟨rfl, rfl⟩), if_pos (by omega), rd_first]
theorem repl_exact_2 : replOf (l ++ [⟨⟨p, ⟨#[]⟩⟩, ⟨b0, b1⟩⟩, ⟨⟨p, v⟩, ⟨a0, a1⟩⟩]) p v = (a0, a1, true) := by
  unfold replOf
  rw [idx_two l _ _ p v h, if_neg (fun e => hv ((sameM_iff _ _ _ _).1 e).2.symm), if_pos ((sameM_iff _ _ _ _).2 ⟨rfl, rfl⟩), if_pos (by omega), rd_second]
theorem repl_each_1 (u : ByteArray) (hu : u ≠ v) (hu0 : u ≠ ⟨#[]⟩) : replOf (l ++ [⟨⟨p, v⟩, ⟨a0, a1⟩⟩, ⟨⟨p, ⟨#[]⟩⟩, ⟨b0, b1⟩⟩]) p u = (b0, b1, true) := by
  unfold replOf
  rw [idx_two l _ _ p u h, if_neg (fun e => hu ((sameM_iff _ _ _ _).1 e).2.symm), if_neg (fun e => hu0 ((sameM_iff _ _ _ _).1 e).2.symm), if_neg (by omega)]
  rw [idx_two l _ _ p ⟨#[]⟩ h, if_neg (fun e => hv ((sameM_iff _ _ _ _).1 e).2), if_pos ((sameM_iff _ _ _ _).2 ⟨rfl, rfl⟩), if_pos (by omega), rd_second]
theorem repl_each_2 (u : ByteArray) (hu : u ≠ v) (hu0 : u ≠ ⟨#[]⟩) : replOf (l ++ [⟨⟨p, ⟨#[]⟩⟩, ⟨b0, b1⟩⟩, ⟨⟨p, v⟩, ⟨a0, a1⟩⟩]) p u = (b0, b1, true) := by
  unfold replOf
  rw [idx_two l _ _ p u h, if_neg (fun e => hu0 ((sameM_iff _ _ _ _).1 e).2.symm), if_neg (fun e => hu ((sameM_iff _ _ _ _).1 e).2.symm), if_neg (by omega)]
  rw [idx_two l _ _ p ⟨#[]⟩ h, if_pos ((sameM_iff _ _ _ _).2 ⟨rfl, rfl⟩), if_pos (by omega), rd_first]
end
theorem plus_x_ne (v : ByteArray) : v ++ ⟨#[120]⟩ ≠ v := fun e => by
  have h := congrArg ByteArray.size e
  rw [ByteArray.size_append] at h
  have h1 : (⟨#[120]⟩ : ByteArray).size = 1 := rfl
  omega
theorem plus_x_ne0 (v : ByteArray) : v ++ ⟨#[120]⟩ ≠ ⟨#[]⟩ := fun e => by
  have h := congrArg ByteArray.size e
  rw [ByteArray.size_append] at h
  have h1 : (⟨#[120]⟩ : ByteArray).size = 1 := rfl
  have h2 : (⟨#[]⟩ : ByteArray).size = 0 := rfl
  omega
theorem shown_at (w : World) : Calls Try.prog 7 #[] w fun e w' => e = .returned (.bool true) ∧ Below w.heap.size w w' := graftbedlaw08_shown.calls true w shown_true

theorem reps_two (w : World) (base : Nat) (ok : Nat → Prop) (x y : S33) : Reps (k33.M w base ok) k33.sz [x, y] [.string x.f0.f0, .string x.f0.f1, .string x.f1.f0, .string x.f1.f1, .string y.f0.f0, .string y.f0.f1, .string y.f1.f0, .string y.f1.f1] :=
  ((Reps.none (k33.M w base ok) k33.sz).snoc (k33_mkM w base ok x) rfl).snoc (k33_mkM w base ok y) rfl
set_option maxHeartbeats 16000000 in
set_option maxRecDepth 100000 in
theorem exact_core (a0_0 : ByteArray) (a0_1 : ByteArray) (A0_2 : Option Addr) (c0_2 : Nat) (l0_2 : List (S142)) (A0_3 : Option Addr) (c0_3 : Nat) (l0_3 : List (S33)) (A0_4 : Option Addr) (c0_4 : Nat) (l0_4 : List (S29)) (A0_5 : Option Addr) (c0_5 : Nat) (l0_5 : List (S62)) (p v x0 x1 y0 y1 : ByteArray) (turn : Bool) (w : World)
    (hr0_2 : Kd.C k142 w A0_2 l0_2.length l0_2) (hc0_2 : l0_2.length ≤ c0_2) (hr0_3 : Kd.C k33 w A0_3 l0_3.length l0_3) (hc0_3 : l0_3.length ≤ c0_3) (hr0_4 : Kd.C k29 w A0_4 l0_4.length l0_4) (hc0_4 : l0_4.length ≤ c0_4) (hr0_5 : Kd.C k62 w A0_5 l0_5.length l0_5) (hc0_5 : l0_5.length ≤ c0_5)
    (hp : p.size ≤ 140737488351232) (hv : v.size ≤ 140737488351232) (hx0 : x0.size ≤ 140737488351232) (hx1 : x1.size ≤ 140737488351232) (hy0 : y0.size ≤ 140737488351232) (hy1 : y1.size ≤ 140737488351232) :
    Calls Try.prog 3 #[.agg #[.string a0_0, .string a0_1, .slice A0_2 l0_2.length c0_2, .slice A0_3 l0_3.length c0_3, .slice A0_4 l0_4.length c0_4, .slice A0_5 l0_5.length c0_5], .agg #[.string p, .string v], .agg #[.string x0, .string x1], .agg #[.string y0, .string y1], .bool turn] w fun e w' => e = .returned (.bool true) ∧ Below w.heap.size w w' := by
  obtain ⟨r, k, hk, hrf⟩ := heavy_some a0_0 a0_1 l0_2 l0_3 l0_4 l0_5 hr0_5.2.1 hr0_3.2.1 hr0_4.2.1 p v (by omega) (by omega)
  have HH := Aside0.mk (fun W (hb : Below w.heap.size w W) => graftbedlaw08_heavy.calls k a0_0 a0_1 A0_2 c0_2 l0_2 A0_3 c0_3 l0_3 A0_4 c0_4 l0_4 A0_5 c0_5 l0_5 none 0 [] p v r W (Kd.C_below hr0_2 hb) hc0_2 (Kd.C_below hr0_3 hb) hc0_3 (Kd.C_below hr0_4 hb) hc0_4 (Kd.C_below hr0_5 hb) hc0_5 ⟨rfl, Nat.zero_le _, fun h => absurd h (Nat.lt_irrefl 0)⟩ (Nat.le_refl 0) hk)
  have H3 := Aside0.mk hr0_3
  have HF := Aside0.mk hrf
  clear hr0_2 hr0_3 hr0_4 hr0_5 hk hrf
  go_enter Try.func3, Try.ntmps3
  go_wp2_with fail
  obtain ⟨w4, hw4⟩ : ∃ w4, w4 = (((w.alloc (.cells #[.string a0_0, .string a0_1, .slice A0_2 l0_2.length c0_2, .slice A0_3 l0_3.length c0_3, .slice A0_4 l0_4.length c0_4, .slice A0_5 l0_5.length c0_5] 27)).alloc (.cells #[.string p, .string v] 29)).alloc (.cells #[.string x0, .string x1] 29)).alloc (.cells #[.string y0, .string y1] 29) := ⟨_, rfl⟩
  rw [← hw4]
  have hb4 : Below w.heap.size w w4 := by rw [hw4]; exact below_alloc (below_alloc (below_alloc (below_alloc (Below.refl _ _) _) _) _) _
  have hsz : w4.heap.size = w.heap.size + 4 := by rw [hw4]; simp
  have f0 : w4.cell? ⟨w.heap.size, 0, none⟩ = some (.string a0_0) := by rw [hw4]; go_simp
  have f1 : w4.cell? ⟨w.heap.size, 1, none⟩ = some (.string a0_1) := by rw [hw4]; go_simp
  have f2 : w4.cell? ⟨w.heap.size, 2, none⟩ = some (.slice A0_2 l0_2.length c0_2) := by rw [hw4]; go_simp
  have f3 : w4.cell? ⟨w.heap.size, 3, none⟩ = some (.slice A0_3 l0_3.length c0_3) := by rw [hw4]; go_simp
  have f4 : w4.cell? ⟨w.heap.size, 4, none⟩ = some (.slice A0_4 l0_4.length c0_4) := by rw [hw4]; go_simp
  have f5 : w4.cell? ⟨w.heap.size, 5, none⟩ = some (.slice A0_5 l0_5.length c0_5) := by rw [hw4]; go_simp
  have m0 : w4.cell? ⟨w.heap.size + 1, 0, none⟩ = some (.string p) := by rw [hw4]; go_simp
  have m1 : w4.cell? ⟨w.heap.size + 1, 1, none⟩ = some (.string v) := by rw [hw4]; go_simp
  have k0 : w4.cell? ⟨w.heap.size + 1 + 1, 0, none⟩ = some (.string x0) := by rw [hw4]; go_simp
  have k1 : w4.cell? ⟨w.heap.size + 1 + 1, 1, none⟩ = some (.string x1) := by rw [hw4]; go_simp
  have n0 : w4.cell? ⟨w.heap.size + 1 + 1 + 1, 0, none⟩ = some (.string y0) := by rw [hw4]; go_simp
  have n1 : w4.cell? ⟨w.heap.size + 1 + 1 + 1, 1, none⟩ = some (.string y1) := by rw [hw4]; go_simp
  have z3 : w4.frozen? ⟨w.heap.size, 3, none⟩ = false := by rw [hw4]; go_simp
  clear hw4
  refine (HH.out _ hb4).mono ?_
  rintro e w1 ⟨rfl, hb1⟩
  replace f0 := pw_cell_below hb1 f0
  replace f1 := pw_cell_below hb1 f1
  replace f2 := pw_cell_below hb1 f2
  replace f3 := pw_cell_below hb1 f3
  replace f4 := pw_cell_below hb1 f4
  replace f5 := pw_cell_below hb1 f5
  replace m0 := pw_cell_below hb1 m0
  replace m1 := pw_cell_below hb1 m1
  replace k0 := pw_cell_below hb1 k0
  replace k1 := pw_cell_below hb1 k1
  replace n0 := pw_cell_below hb1 n0
  replace n1 := pw_cell_below hb1 n1
  replace z3 : w1.frozen? ⟨w.heap.size, 3, none⟩ = false := by rw [hb1.frozen (show w.heap.size < w4.heap.size by omega)]; exact z3
  have hw1 : w.heap.size + 4 ≤ w1.heap.size := by have := hb1.size; omega
  replace hb1 : Below w.heap.size w w1 := below_then hb4 (by omega) hb1
  have HB1 := Aside0.mk hb1
  clear hb1 hb4 hsz HH
  cases r with
  | true =>
    go_wp2_with fail
    refine (shown_at w1).mono ?_
    rintro e w2 ⟨rfl, hb2⟩
    go_wp2_with fail
    go_ret
    exact ⟨rfl, below_then HB1.out HB1.out.size hb2⟩
  | false =>
    obtain ⟨h30, h400⟩ := HF.out rfl
    have H400 := Aside0.mk h400
    clear HF h400
    have early : ∀ (w2 : World), Below w1.heap.size w1 w2 → Below w.heap.size w w2 := fun w2 hb2 => below_then HB1.out HB1.out.size hb2
    by_cases hX : (400 : Int) < x0.size + x1.size
    · go_wp2_with fail
      refine (shown_at w1).mono ?_
      rintro e w2 ⟨rfl, hb2⟩
      go_wp2_with fail
      go_ret
      exact ⟨rfl, early _ hb2⟩
    by_cases hY : (400 : Int) < y0.size + y1.size
    · go_wp2_with fail
      refine (shown_at w1).mono ?_
      rintro e w2 ⟨rfl, hb2⟩
      go_wp2_with fail
      go_ret
      exact ⟨rfl, early _ hb2⟩
    go_wp2_with fail
    refine (shown_at w1).mono ?_
    rintro e w2 ⟨rfl, hb2⟩
    replace f0 := pw_cell_below hb2 f0
    replace f1 := pw_cell_below hb2 f1
    replace f2 := pw_cell_below hb2 f2
    replace f3 := pw_cell_below hb2 f3
    replace f4 := pw_cell_below hb2 f4
    replace f5 := pw_cell_below hb2 f5
    replace m0 := pw_cell_below hb2 m0
    replace m1 := pw_cell_below hb2 m1
    replace k0 := pw_cell_below hb2 k0
    replace k1 := pw_cell_below hb2 k1
    replace n0 := pw_cell_below hb2 n0
    replace n1 := pw_cell_below hb2 n1
    replace z3 : w2.frozen? ⟨w.heap.size, 3, none⟩ = false := by rw [hb2.frozen (show w.heap.size < w1.heap.size by omega)]; exact z3
    replace hw1 : w.heap.size + 4 ≤ w2.heap.size := by have := hb2.size; omega
    have HB2 := Aside0.mk (early _ hb2)
    clear early hb2 HB1
    by_cases hve : v = ⟨#[]⟩
    · subst hve
      go_wp2_with fail
      refine (shown_at w2).mono ?_
      rintro e w3 ⟨rfl, hb3⟩
      go_wp2_with fail
      go_ret
      exact ⟨rfl, below_then HB2.out HB2.out.size hb3⟩
    have hvl : ¬ v.toList = [] := fun e => hve (by
      rw [Lib.toList_data] at e
      cases v
      simp only at e
      rw [Array.toList_inj.1 (e.trans rfl : _ = (#[] : Array UInt8).toList)])
    have hvl2 : v.toList.isEmpty = false := by cases h : v.toList with
      | nil => exact absurd h hvl
      | cons _ _ => rfl
    have HV := Aside0.mk hve
    have eX : decide ((400 : Int) < x0.size + x1.size) = false := decide_eq_false (by omega)
    have eY : decide ((400 : Int) < y0.size + y1.size) = false := decide_eq_false (by omega)
    clear hve
    go_wp2_with fail
    have HC2 := Aside0.mk (Kd.C_below H3.out HB2.out)
    obtain ⟨n, hn⟩ : ∃ n, n = l0_3.length := ⟨_, rfl⟩
    have Hn := Aside0.mk hn
    rw [← hn] at f3 h30 hc0_3 ⊢
    clear hn
    go_loopw [11] (fun i wr => ∃ k : Nat, k ≤ n ∧ i = .int .i64 k ∧ Drawn0 w2 wr ∧ Aside0 (∀ j, j < k → (rd_T33 l0_3 (j : Int)).f0.f0 ≠ p))
      (fun i _ => n - (intOf i).toNat)
    case atStart => exact ⟨0, Nat.zero_le _, rfl, Drawn0.refl _, ⟨fun j hj => absurd hj (Nat.not_lt_zero _)⟩⟩
    case round =>
      obtain ⟨k, hk, rfl, ⟨nd, rfl⟩, HJ⟩ := hrel
      by_cases hlt : k < n
      · obtain ⟨ad, rfl, g0, g1, g2, g3⟩ := at_T33 (A := A0_3) HC2.out (k : Int) (by omega) (by rw [← Hn.out]; omega)
        rw [Int.toNat_natCast] at g0
        have hk0 : 0 ≤ (k : Int) := by omega
        have hk1 : (k : Int) < (n : Int) := by omega
        have hkt : ((k : Nat) : Int).toNat = k := by omega
        clear g1 g2 g3
        obtain ⟨x, hx⟩ : ∃ x, x = (rd_T33 l0_3 (k : Int)).f0.f0 := ⟨_, rfl⟩
        rw [← hx] at g0
        have HX := Aside0.mk hx
        clear hx
        by_cases hxp : x = p
        · have hb : (x.toList == p.toList) = true := by rw [hxp]; exact beq_self_eq_true _
          clear hxp
          go_wp2_with fail
          go_quiet (fail)
          go_wp2_with fail
          refine (shown_at _).mono ?_
          rintro e w3 ⟨rfl, hb3⟩
          go_wp2_with fail
          go_ret
          exact ⟨rfl, below_then (pw_below_drewN HB2.out _) (by have := HB2.out.size; simp; omega) hb3⟩
        · have hb : (x.toList == p.toList) = false := by
            rw [beq_eq_false_iff_ne]
            intro e
            apply hxp
            rw [Lib.toList_data, Lib.toList_data] at e
            cases x; cases p; simp only at e; rw [Array.toList_inj.1 e]
          have HXP := Aside0.mk hxp
          clear hxp
          go_wp2_with fail
          go_quiet (fail)
          go_wp2_with fail
          go_roundw
          case rel => exact ⟨k + 1, by omega, by go_num, ⟨⟨_, rfl⟩⟩, ⟨fun j hj => by
            rcases Nat.lt_or_ge j k with h | h
            · exact HJ.out j h
            · obtain rfl : j = k := by omega
              rw [← HX.out]; exact HXP.out⟩⟩
          case measure => simp [intOf]; omega
      · obtain rfl : k = n := by omega
        have HNone := Aside0.mk (show ∀ z ∈ l0_3, z.f0.f0 ≠ p by
          intro z hz
          obtain ⟨j, hj, rfl⟩ := List.getElem_of_mem hz
          have := HJ.out j (by rw [Hn.out]; exact hj)
          unfold rd_T33 at this
          simpa [List.getD, hj] using this)
        have HBW := Aside0.mk (pw_below_drewN HB2.out nd)
        have HCW := Aside0.mk (show Kd.C k33 (w2.drewN nd) A0_3 l0_3.length l0_3 from HC2.out)
        replace f0 : (w2.drewN nd).cell? _ = _ := f0
        replace f1 : (w2.drewN nd).cell? _ = _ := f1
        replace f2 : (w2.drewN nd).cell? _ = _ := f2
        replace f3 : (w2.drewN nd).cell? _ = _ := f3
        replace f4 : (w2.drewN nd).cell? _ = _ := f4
        replace f5 : (w2.drewN nd).cell? _ = _ := f5
        replace m0 : (w2.drewN nd).cell? _ = _ := m0
        replace m1 : (w2.drewN nd).cell? _ = _ := m1
        replace k0 : (w2.drewN nd).cell? _ = _ := k0
        replace k1 : (w2.drewN nd).cell? _ = _ := k1
        replace n0 : (w2.drewN nd).cell? _ = _ := n0
        replace n1 : (w2.drewN nd).cell? _ = _ := n1
        replace z3 : (w2.drewN nd).frozen? _ = _ := z3
        replace hw1 : w.heap.size + 4 ≤ (w2.drewN nd).heap.size := hw1
        clear HC2 HJ HB2 H3
        generalize w2.drewN nd = W2 at *
        have HX1 := Aside0.mk (show ∀ W, Below W2.heap.size W2 W → Calls Try.prog 8 #[.agg #[.string a0_0, .string a0_1, .slice A0_2 l0_2.length c0_2, .slice A0_3 k c0_3, .slice A0_4 l0_4.length c0_4, .slice A0_5 l0_5.length c0_5], .agg #[.string p, .string v]] W fun e w' => e = .returned (.tuple #[.agg #[.string p, .string v], .bool false]) ∧ Below W.heap.size W w' from fun W hb => by
          have h := repl_core a0_0 a0_1 A0_2 c0_2 l0_2 A0_3 c0_3 l0_3 A0_4 c0_4 l0_4 A0_5 c0_5 l0_5 p v W (Kd.C_below HCW.out hb) (by rw [← Hn.out]; exact hc0_3)
          rw [repl_none l0_3 p v HNone.out, ← Hn.out] at h
          exact h)
        have Ff0 := Aside0.mk f0
        have Ff1 := Aside0.mk f1
        have Ff2 := Aside0.mk f2
        have Ff3 := Aside0.mk f3
        have Ff4 := Aside0.mk f4
        have Ff5 := Aside0.mk f5
        have Fm0 := Aside0.mk m0
        have Fm1 := Aside0.mk m1
        have Fk0 := Aside0.mk k0
        have Fk1 := Aside0.mk k1
        have Fn0 := Aside0.mk n0
        have Fn1 := Aside0.mk n1
        have Z3 := Aside0.mk z3
        clear z3
        cases turn with
        | true =>
          go_wp2_with (first | ((with_reducible refine gate_dst (N := 70) rfl ?_); refine Kd.R_lit k33 _ 33 ?hg (N := 70) ?hd (xs := ([] : List S33)) (inner := []) (ok := fun k => W2.heap.size ≤ k) (okp := fun k => W2.heap.size ≤ k) ?hr ?hp (fun _ hk => hk) (Nat.le_refl _) (Below.refl _ _) (Nat.le_refl _) (by simp) ?_; (case hd => rfl); (case hg => rfl); (case hr => first | (go_simp; done) | (go_simp; rfl)); (case hp => exact (Reps.none _ _)); intro v70 w3 hR3 hb3 hgr3 hof3; clear hgr3 hof3; have f3b := pw_cell_below hb3 f3; have HR3 := Aside0.mk hR3; clear hR3; have Hb3 := Aside0.mk hb3; have hsz3 : w.heap.size + 4 ≤ w3.heap.size := Nat.le_trans hw1 hb3.size; clear hb3) | ((with_reducible refine gate_builtin (b := .append) (xs := #[.tmp 71, .tmp 73]) rfl ?_); at_builtin; refine Kd.R_append_rows k33 (w0 := W2) W2.heap.size rfl (.tmp 71) (.tmp 73) 23 33 (.agg #[(.string ⟨#[]⟩), (.string ⟨#[]⟩), (.string ⟨#[]⟩), (.string ⟨#[]⟩)]) 64 rfl Try.underlying23 info33 rfl (by decide) (by omega) v70 [] l0_3 _ _ _ (fun k => W2.heap.size ≤ k) (fun _ => False) rfl rfl ?aO ?aR (fun _ _ h => h) (fun _ h => h.elim) ?aF ?aB ?aS ?aL ?_; (case aO => exact HR3.out); (case aR => rw [Hn.out]; exact Kd.C_below HCW.out Hb3.out); (case aB => exact Hb3.out); (case aF => exact (fun _ h => Nat.le_trans Hb3.out.size h)); (case aS => exact Hb3.out.size); (case aL => simp; omega); intro v74 w4 hR4 hb4 hgr4 hof4; clear hgr4 hof4 HR3 f3b; have HR4 := Aside0.mk hR4; clear hR4; replace f0 := pw_cell_below hb4 f0; replace f1 := pw_cell_below hb4 f1; replace f2 := pw_cell_below hb4 f2; replace f3 := pw_cell_below hb4 f3; replace f4 := pw_cell_below hb4 f4; replace f5 := pw_cell_below hb4 f5; replace m0 := pw_cell_below hb4 m0; replace m1 := pw_cell_below hb4 m1; replace k0 := pw_cell_below hb4 k0; replace k1 := pw_cell_below hb4 k1; replace n0 := pw_cell_below hb4 n0; replace n1 := pw_cell_below hb4 n1; have hsz4 : w.heap.size + 4 ≤ w4.heap.size := Nat.le_trans hw1 hb4.size; have Hb4 := Aside0.mk hb4; clear hb4 Hb3 hsz3) | ((with_reducible refine gate_dst (N := 85) rfl ?_); refine Kd.R_lit k33 _ 33 ?hg (N := 85) ?hd (xs := ([⟨⟨p, v⟩, ⟨x0, x1⟩⟩, ⟨⟨p, ⟨#[]⟩⟩, ⟨y0, y1⟩⟩] : List S33)) (inner := [.string p, .string v, .string x0, .string x1, .string p, .string ⟨#[]⟩, .string y0, .string y1]) (ok := fun _ => True) (okp := fun _ => True) ?hr ?hp (fun _ hk => hk) trivial (Below.refl _ _) (Nat.le_refl _) (by simp) ?_; (case hd => rfl); (case hg => rfl); (case hr => first | (go_simp; done) | (go_simp; rfl)); (case hp => exact (reps_two _ _ _ _ _)); intro v85 w5 hR5 hb5 hgr5 hof5; clear hgr5 hof5; obtain ⟨A5, c5, rfl, hc5, hC5⟩ := Kd.R_reads hR5; have HC5 := Aside0.mk hC5; clear hC5 hR5; have HR5 := Aside0.mk (Kd.R_below HR4.out hb5); replace f0 := pw_cell_below hb5 f0; replace f1 := pw_cell_below hb5 f1; replace f2 := pw_cell_below hb5 f2; replace f3 := pw_cell_below hb5 f3; replace f4 := pw_cell_below hb5 f4; replace f5 := pw_cell_below hb5 f5; replace m0 := pw_cell_below hb5 m0; replace m1 := pw_cell_below hb5 m1; replace k0 := pw_cell_below hb5 k0; replace k1 := pw_cell_below hb5 k1; replace n0 := pw_cell_below hb5 n0; replace n1 := pw_cell_below hb5 n1; have hsz5 : w.heap.size + 4 ≤ w5.heap.size := Nat.le_trans hsz4 hb5.size; have Hb5 := Aside0.mk (below_then Hb4.out Hb4.out.size hb5); clear hb5 Hb4 HR4 hsz4) | ((with_reducible refine gate_builtin (b := .append) (xs := #[.tmp 76, .tmp 85]) rfl ?_); at_builtin; refine Kd.R_append_rows k33 (w0 := W2) W2.heap.size rfl (.tmp 76) (.tmp 85) 23 33 (.agg #[(.string ⟨#[]⟩), (.string ⟨#[]⟩), (.string ⟨#[]⟩), (.string ⟨#[]⟩)]) 64 rfl Try.underlying23 info33 rfl (by decide) (by omega) v74 ([] ++ l0_3) ([⟨⟨p, v⟩, ⟨x0, x1⟩⟩, ⟨⟨p, ⟨#[]⟩⟩, ⟨y0, y1⟩⟩] : List S33) A5 _ c5 (fun k => W2.heap.size ≤ k) (fun _ => False) rfl rfl ?aO ?aR (fun _ _ h => h) (fun _ h => h.elim) ?aF ?aB ?aS ?aL ?_; (case aO => exact HR5.out); (case aR => exact HC5.out); (case aB => exact Hb5.out); (case aF => exact (fun _ h => Nat.le_trans Hb5.out.size h)); (case aS => exact Hb5.out.size); (case aL => have := Hn.out; simp; omega); intro v86 w6 hR6 hb6 hgr6 hof6; clear hgr6 hof6 HR5 HC5 hc5 f0 f1 f2 f3 f4 f5 m0 m1 k0 k1 n0 n1; rw [List.nil_append] at hR6; obtain ⟨L, hL⟩ : ∃ L : List S33, L = l0_3 ++ [⟨⟨p, v⟩, ⟨x0, x1⟩⟩, ⟨⟨p, ⟨#[]⟩⟩, ⟨y0, y1⟩⟩] := ⟨_, rfl⟩; rw [← hL] at hR6; have HL := Aside0.mk hL; clear hL; obtain ⟨A6, c6, rfl, hc6, hC6⟩ := Kd.R_reads hR6; clear hC6; obtain ⟨n6, hn6⟩ : ∃ n6, n6 = L.length := ⟨_, rfl⟩; rw [← hn6] at hR6 hc6; rw [← hn6]; have Hn6 := Aside0.mk hn6; clear hn6; have HR6 := Aside0.mk hR6; clear hR6; have f0 := pw_cell_below hb6 Ff0.out; have f1 := pw_cell_below hb6 Ff1.out; have f2 := pw_cell_below hb6 Ff2.out; have f3 := pw_cell_below hb6 Ff3.out; have f4 := pw_cell_below hb6 Ff4.out; have f5 := pw_cell_below hb6 Ff5.out; have m0 := pw_cell_below hb6 Fm0.out; have m1 := pw_cell_below hb6 Fm1.out; have k0 := pw_cell_below hb6 Fk0.out; have k1 := pw_cell_below hb6 Fk1.out; have n0 := pw_cell_below hb6 Fn0.out; have n1 := pw_cell_below hb6 Fn1.out; have z3 : w6.frozen? ⟨w.heap.size, 3, none⟩ = false := (by rw [hb6.frozen (show w.heap.size < W2.heap.size by omega)]; exact Z3.out); have hsz6 : w.heap.size + 4 ≤ w6.heap.size := Nat.le_trans hw1 hb6.size; have Hb6 := Aside0.mk hb6; clear hb6 Hb5 hsz5) | ((fail); refine Aside0.out ?_))
          refine (HX1.out _ Hb6.out).mono ?_
          rintro e w7 ⟨rfl, hb7⟩
          replace f0 := pw_cell_below hb7 f0
          replace f1 := pw_cell_below hb7 f1
          replace f2 := pw_cell_below hb7 f2
          replace f3 := pw_cell_below hb7 f3
          replace f4 := pw_cell_below hb7 f4
          replace f5 := pw_cell_below hb7 f5
          replace m0 := pw_cell_below hb7 m0
          replace m1 := pw_cell_below hb7 m1
          replace k0 := pw_cell_below hb7 k0
          replace k1 := pw_cell_below hb7 k1
          replace n0 := pw_cell_below hb7 n0
          replace n1 := pw_cell_below hb7 n1
          replace z3 : w7.frozen? ⟨w.heap.size, 3, none⟩ = false := by rw [hb7.frozen (show w.heap.size < w6.heap.size by omega)]; exact z3
          have hsz7 : w.heap.size + 4 ≤ w7.heap.size := Nat.le_trans hsz6 hb7.size
          have hR7 := Kd.R_below HR6.out hb7
          have Hb7 := Aside0.mk (below_then Hb6.out Hb6.out.size hb7)
          clear hb7 HR6 Hb6 hsz6
          have ba : Below w7.heap.size w7 (w7.alloc (.cells #[.string p, .string v] 29)) := below_alloc (Below.refl _ _) _
          have f3a := pw_cell_below ba f3
          have z3a : (w7.alloc (.cells #[.string p, .string v] 29)).frozen? ⟨w.heap.size, 3, none⟩ = false := by rw [ba.frozen (show w.heap.size < w7.heap.size by omega)]; exact z3
          have hR8 := Kd.R_far (p := ⟨w.heap.size, 3, none⟩) (Kd.R_alloc hR7 (.cells #[.string p, .string v] 29)) (fun k hk => by show k ≠ w.heap.size; omega) (.slice A6 n6 c6)
          replace f3 : ((w7.alloc (.cells #[.string p, .string v] 29)).setCell ⟨w.heap.size, 3, none⟩ (.slice A6 n6 c6)).cell? ⟨w.heap.size, 3, none⟩ = some (.slice A6 n6 c6) := World.cell?_setCell_same _ _ _ f3a
          have g0 : ((w7.alloc (.cells #[.string p, .string v] 29)).setCell ⟨w.heap.size, 3, none⟩ (.slice A6 n6 c6)).cell? ⟨w7.heap.size, 0, none⟩ = some (.string p) := (World.cell?_setCell_other _ _ _ _ (fun e => by have := congrArg Addr.block e; simp only at this; omega)).trans (by go_simp)
          have g1 : ((w7.alloc (.cells #[.string p, .string v] 29)).setCell ⟨w.heap.size, 3, none⟩ (.slice A6 n6 c6)).cell? ⟨w7.heap.size, 1, none⟩ = some (.string v) := (World.cell?_setCell_other _ _ _ _ (fun e => by have := congrArg Addr.block e; simp only at this; omega)).trans (by go_simp)
          replace f0 := (World.cell?_setCell_other (w7.alloc (.cells #[.string p, .string v] 29)) ⟨w.heap.size, 3, none⟩ _ (.slice A6 n6 c6) (fun e => by first | (have := congrArg Addr.block e; simp only at this; omega) | (have := congrArg Addr.off e; simp at this))).trans (pw_cell_below ba f0)
          replace f1 := (World.cell?_setCell_other (w7.alloc (.cells #[.string p, .string v] 29)) ⟨w.heap.size, 3, none⟩ _ (.slice A6 n6 c6) (fun e => by first | (have := congrArg Addr.block e; simp only at this; omega) | (have := congrArg Addr.off e; simp at this))).trans (pw_cell_below ba f1)
          replace f2 := (World.cell?_setCell_other (w7.alloc (.cells #[.string p, .string v] 29)) ⟨w.heap.size, 3, none⟩ _ (.slice A6 n6 c6) (fun e => by first | (have := congrArg Addr.block e; simp only at this; omega) | (have := congrArg Addr.off e; simp at this))).trans (pw_cell_below ba f2)
          replace f4 := (World.cell?_setCell_other (w7.alloc (.cells #[.string p, .string v] 29)) ⟨w.heap.size, 3, none⟩ _ (.slice A6 n6 c6) (fun e => by first | (have := congrArg Addr.block e; simp only at this; omega) | (have := congrArg Addr.off e; simp at this))).trans (pw_cell_below ba f4)
          replace f5 := (World.cell?_setCell_other (w7.alloc (.cells #[.string p, .string v] 29)) ⟨w.heap.size, 3, none⟩ _ (.slice A6 n6 c6) (fun e => by first | (have := congrArg Addr.block e; simp only at this; omega) | (have := congrArg Addr.off e; simp at this))).trans (pw_cell_below ba f5)
          replace m0 := (World.cell?_setCell_other (w7.alloc (.cells #[.string p, .string v] 29)) ⟨w.heap.size, 3, none⟩ _ (.slice A6 n6 c6) (fun e => by first | (have := congrArg Addr.block e; simp only at this; omega) | (have := congrArg Addr.off e; simp at this))).trans (pw_cell_below ba m0)
          replace m1 := (World.cell?_setCell_other (w7.alloc (.cells #[.string p, .string v] 29)) ⟨w.heap.size, 3, none⟩ _ (.slice A6 n6 c6) (fun e => by first | (have := congrArg Addr.block e; simp only at this; omega) | (have := congrArg Addr.off e; simp at this))).trans (pw_cell_below ba m1)
          replace k0 := (World.cell?_setCell_other (w7.alloc (.cells #[.string p, .string v] 29)) ⟨w.heap.size, 3, none⟩ _ (.slice A6 n6 c6) (fun e => by first | (have := congrArg Addr.block e; simp only at this; omega) | (have := congrArg Addr.off e; simp at this))).trans (pw_cell_below ba k0)
          replace k1 := (World.cell?_setCell_other (w7.alloc (.cells #[.string p, .string v] 29)) ⟨w.heap.size, 3, none⟩ _ (.slice A6 n6 c6) (fun e => by first | (have := congrArg Addr.block e; simp only at this; omega) | (have := congrArg Addr.off e; simp at this))).trans (pw_cell_below ba k1)
          replace n0 := (World.cell?_setCell_other (w7.alloc (.cells #[.string p, .string v] 29)) ⟨w.heap.size, 3, none⟩ _ (.slice A6 n6 c6) (fun e => by first | (have := congrArg Addr.block e; simp only at this; omega) | (have := congrArg Addr.off e; simp at this))).trans (pw_cell_below ba n0)
          replace n1 := (World.cell?_setCell_other (w7.alloc (.cells #[.string p, .string v] 29)) ⟨w.heap.size, 3, none⟩ _ (.slice A6 n6 c6) (fun e => by first | (have := congrArg Addr.block e; simp only at this; omega) | (have := congrArg Addr.off e; simp at this))).trans (pw_cell_below ba n1)
          have HR8 := Aside0.mk hR8
          have HB8 := Aside0.mk (below_then HBW.out HBW.out.size Hb7.out)
          clear hR7 hR8 Hb7 z3
          go_wp2_with fail
          have hbw8 : Below w.heap.size w ((w7.alloc (.cells #[.string p, .string v] 29)).setCell ⟨w.heap.size, 3, none⟩ (.slice A6 n6 c6)) := (below_alloc HB8.out _).setCell (Nat.le_refl _) _
          have hsz8 : w.heap.size + 4 ≤ ((w7.alloc (.cells #[.string p, .string v] 29)).setCell ⟨w.heap.size, 3, none⟩ (.slice A6 n6 c6)).heap.size := by simp; omega
          generalize (w7.alloc (.cells #[.string p, .string v] 29)).setCell ⟨w.heap.size, 3, none⟩ (.slice A6 n6 c6) = w8 at *
          obtain ⟨hnn, hc6b, hC⟩ := Kd.R_reads' HR8.out
          have HX2 : ∀ W, Below w8.heap.size w8 W → ∀ u, Calls Try.prog 8 #[.agg #[.string a0_0, .string a0_1, .slice A0_2 l0_2.length c0_2, .slice A6 n6 c6, .slice A0_4 l0_4.length c0_4, .slice A0_5 l0_5.length c0_5], .agg #[.string p, .string u]] W fun e w' => e = .returned (.tuple #[.agg #[.string (replOf L p u).1, .string (replOf L p u).2.1], .bool (replOf L p u).2.2]) ∧ Below W.heap.size W w' := fun W hb u => by
            rw [hnn]
            exact repl_core a0_0 a0_1 A0_2 c0_2 l0_2 A6 c6 L A0_4 c0_4 l0_4 A0_5 c0_5 l0_5 p u W (Kd.C_below hC hb) (by rw [← hnn]; exact hc6b)
          have HX2a := HX2 w8 (Below.refl _ _) v
          rw [HL.out, repl_exact_1 l0_3 p v x0 x1 y0 y1 HNone.out HV.out] at HX2a
          have HX2b := Aside0.mk (fun W (hb : Below w8.heap.size w8 W) u (hu : u ≠ v) (hu0 : u ≠ ⟨#[]⟩) => by
            have h := HX2 W hb u
            rw [HL.out, repl_each_1 l0_3 p v x0 x1 y0 y1 HNone.out HV.out u hu hu0] at h
            exact h)
          clear HX2 hC HR8 HX1 f3a z3a hc6 hc6b hnn
          refine HX2a.mono ?_
          rintro e w9 ⟨rfl, hb9⟩
          clear HX2a
          have bx : Below w8.heap.size w8 (w9.alloc (.cells #[.string x0, .string x1] 29)) := below_alloc hb9 _
          replace f0 := pw_cell_below bx f0
          replace f1 := pw_cell_below bx f1
          replace f2 := pw_cell_below bx f2
          replace f3 := pw_cell_below bx f3
          replace f4 := pw_cell_below bx f4
          replace f5 := pw_cell_below bx f5
          replace m0 := pw_cell_below bx m0
          replace m1 := pw_cell_below bx m1
          replace k0 := pw_cell_below bx k0
          replace k1 := pw_cell_below bx k1
          replace n0 := pw_cell_below bx n0
          replace n1 := pw_cell_below bx n1
          replace g0 := pw_cell_below bx g0
          replace g1 := pw_cell_below bx g1
          have HBX := Aside0.mk bx
          have Hbw8 := Aside0.mk hbw8
          have hsz9 : w.heap.size + 4 ≤ w9.heap.size := Nat.le_trans hsz8 hb9.size
          clear bx hb9 hbw8
          go_wp2_with fail
          have h0 : (w9.alloc (.cells #[.string x0, .string x1] 29)).cell? ⟨w9.heap.size, 0, none⟩ = some (.string x0) := by go_simp
          have h1 : (w9.alloc (.cells #[.string x0, .string x1] 29)).cell? ⟨w9.heap.size, 1, none⟩ = some (.string x1) := by go_simp
          generalize hS9 : w9.heap.size = S9 at h0 h1 ⊢
          have HSv := Aside0.mk (plus_x_ne v)
          have HSe := Aside0.mk (plus_x_ne0 v)
          refine (HX2b.out _ HBX.out _ HSv.out HSe.out).mono ?_
          rintro e w10 ⟨rfl, hb10⟩
          have by' : Below (w9.alloc (.cells #[.string x0, .string x1] 29)).heap.size (w9.alloc (.cells #[.string x0, .string x1] 29)) (w10.alloc (.cells #[.string y0, .string y1] 29)) := below_alloc hb10 _
          replace f0 := pw_cell_below by' f0
          replace f1 := pw_cell_below by' f1
          replace f2 := pw_cell_below by' f2
          replace f3 := pw_cell_below by' f3
          replace f4 := pw_cell_below by' f4
          replace f5 := pw_cell_below by' f5
          replace m0 := pw_cell_below by' m0
          replace m1 := pw_cell_below by' m1
          replace k0 := pw_cell_below by' k0
          replace k1 := pw_cell_below by' k1
          replace n0 := pw_cell_below by' n0
          replace n1 := pw_cell_below by' n1
          replace g0 := pw_cell_below by' g0
          replace g1 := pw_cell_below by' g1
          replace h0 := pw_cell_below by' h0
          replace h1 := pw_cell_below by' h1
          have HBZ := Aside0.mk by'
          clear by' hb10
          go_wp2_with fail
          go_ret
          exact ⟨rfl, below_then (below_then Hbw8.out Hbw8.out.size HBX.out) (Nat.le_trans Hbw8.out.size HBX.out.size) HBZ.out⟩
        | false =>
          go_wp2_with (first | ((with_reducible refine gate_dst (N := 70) rfl ?_); refine Kd.R_lit k33 _ 33 ?hg (N := 70) ?hd (xs := ([] : List S33)) (inner := []) (ok := fun k => W2.heap.size ≤ k) (okp := fun k => W2.heap.size ≤ k) ?hr ?hp (fun _ hk => hk) (Nat.le_refl _) (Below.refl _ _) (Nat.le_refl _) (by simp) ?_; (case hd => rfl); (case hg => rfl); (case hr => first | (go_simp; done) | (go_simp; rfl)); (case hp => exact (Reps.none _ _)); intro v70 w3 hR3 hb3 hgr3 hof3; clear hgr3 hof3; have f3b := pw_cell_below hb3 f3; have HR3 := Aside0.mk hR3; clear hR3; have Hb3 := Aside0.mk hb3; have hsz3 : w.heap.size + 4 ≤ w3.heap.size := Nat.le_trans hw1 hb3.size; clear hb3) | ((with_reducible refine gate_builtin (b := .append) (xs := #[.tmp 71, .tmp 73]) rfl ?_); at_builtin; refine Kd.R_append_rows k33 (w0 := W2) W2.heap.size rfl (.tmp 71) (.tmp 73) 23 33 (.agg #[(.string ⟨#[]⟩), (.string ⟨#[]⟩), (.string ⟨#[]⟩), (.string ⟨#[]⟩)]) 64 rfl Try.underlying23 info33 rfl (by decide) (by omega) v70 [] l0_3 _ _ _ (fun k => W2.heap.size ≤ k) (fun _ => False) rfl rfl ?aO ?aR (fun _ _ h => h) (fun _ h => h.elim) ?aF ?aB ?aS ?aL ?_; (case aO => exact HR3.out); (case aR => rw [Hn.out]; exact Kd.C_below HCW.out Hb3.out); (case aB => exact Hb3.out); (case aF => exact (fun _ h => Nat.le_trans Hb3.out.size h)); (case aS => exact Hb3.out.size); (case aL => simp; omega); intro v74 w4 hR4 hb4 hgr4 hof4; clear hgr4 hof4 HR3 f3b; have HR4 := Aside0.mk hR4; clear hR4; replace f0 := pw_cell_below hb4 f0; replace f1 := pw_cell_below hb4 f1; replace f2 := pw_cell_below hb4 f2; replace f3 := pw_cell_below hb4 f3; replace f4 := pw_cell_below hb4 f4; replace f5 := pw_cell_below hb4 f5; replace m0 := pw_cell_below hb4 m0; replace m1 := pw_cell_below hb4 m1; replace k0 := pw_cell_below hb4 k0; replace k1 := pw_cell_below hb4 k1; replace n0 := pw_cell_below hb4 n0; replace n1 := pw_cell_below hb4 n1; have hsz4 : w.heap.size + 4 ≤ w4.heap.size := Nat.le_trans hw1 hb4.size; have Hb4 := Aside0.mk hb4; clear hb4 Hb3 hsz3) | ((with_reducible refine gate_dst (N := 96) rfl ?_); refine Kd.R_lit k33 _ 33 ?hg (N := 96) ?hd (xs := ([⟨⟨p, ⟨#[]⟩⟩, ⟨y0, y1⟩⟩, ⟨⟨p, v⟩, ⟨x0, x1⟩⟩] : List S33)) (inner := [.string p, .string ⟨#[]⟩, .string y0, .string y1, .string p, .string v, .string x0, .string x1]) (ok := fun _ => True) (okp := fun _ => True) ?hr ?hp (fun _ hk => hk) trivial (Below.refl _ _) (Nat.le_refl _) (by simp) ?_; (case hd => rfl); (case hg => rfl); (case hr => first | (go_simp; done) | (go_simp; rfl)); (case hp => exact (reps_two _ _ _ _ _)); intro v85 w5 hR5 hb5 hgr5 hof5; clear hgr5 hof5; obtain ⟨A5, c5, rfl, hc5, hC5⟩ := Kd.R_reads hR5; have HC5 := Aside0.mk hC5; clear hC5 hR5; have HR5 := Aside0.mk (Kd.R_below HR4.out hb5); replace f0 := pw_cell_below hb5 f0; replace f1 := pw_cell_below hb5 f1; replace f2 := pw_cell_below hb5 f2; replace f3 := pw_cell_below hb5 f3; replace f4 := pw_cell_below hb5 f4; replace f5 := pw_cell_below hb5 f5; replace m0 := pw_cell_below hb5 m0; replace m1 := pw_cell_below hb5 m1; replace k0 := pw_cell_below hb5 k0; replace k1 := pw_cell_below hb5 k1; replace n0 := pw_cell_below hb5 n0; replace n1 := pw_cell_below hb5 n1; have hsz5 : w.heap.size + 4 ≤ w5.heap.size := Nat.le_trans hsz4 hb5.size; have Hb5 := Aside0.mk (below_then Hb4.out Hb4.out.size hb5); clear hb5 Hb4 HR4 hsz4) | ((with_reducible refine gate_builtin (b := .append) (xs := #[.tmp 87, .tmp 96]) rfl ?_); at_builtin; refine Kd.R_append_rows k33 (w0 := W2) W2.heap.size rfl (.tmp 87) (.tmp 96) 23 33 (.agg #[(.string ⟨#[]⟩), (.string ⟨#[]⟩), (.string ⟨#[]⟩), (.string ⟨#[]⟩)]) 64 rfl Try.underlying23 info33 rfl (by decide) (by omega) v74 ([] ++ l0_3) ([⟨⟨p, ⟨#[]⟩⟩, ⟨y0, y1⟩⟩, ⟨⟨p, v⟩, ⟨x0, x1⟩⟩] : List S33) A5 _ c5 (fun k => W2.heap.size ≤ k) (fun _ => False) rfl rfl ?aO ?aR (fun _ _ h => h) (fun _ h => h.elim) ?aF ?aB ?aS ?aL ?_; (case aO => exact HR5.out); (case aR => exact HC5.out); (case aB => exact Hb5.out); (case aF => exact (fun _ h => Nat.le_trans Hb5.out.size h)); (case aS => exact Hb5.out.size); (case aL => have := Hn.out; simp; omega); intro v86 w6 hR6 hb6 hgr6 hof6; clear hgr6 hof6 HR5 HC5 hc5 f0 f1 f2 f3 f4 f5 m0 m1 k0 k1 n0 n1; rw [List.nil_append] at hR6; obtain ⟨L, hL⟩ : ∃ L : List S33, L = l0_3 ++ [⟨⟨p, ⟨#[]⟩⟩, ⟨y0, y1⟩⟩, ⟨⟨p, v⟩, ⟨x0, x1⟩⟩] := ⟨_, rfl⟩; rw [← hL] at hR6; have HL := Aside0.mk hL; clear hL; obtain ⟨A6, c6, rfl, hc6, hC6⟩ := Kd.R_reads hR6; clear hC6; obtain ⟨n6, hn6⟩ : ∃ n6, n6 = L.length := ⟨_, rfl⟩; rw [← hn6] at hR6 hc6; rw [← hn6]; have Hn6 := Aside0.mk hn6; clear hn6; have HR6 := Aside0.mk hR6; clear hR6; have f0 := pw_cell_below hb6 Ff0.out; have f1 := pw_cell_below hb6 Ff1.out; have f2 := pw_cell_below hb6 Ff2.out; have f3 := pw_cell_below hb6 Ff3.out; have f4 := pw_cell_below hb6 Ff4.out; have f5 := pw_cell_below hb6 Ff5.out; have m0 := pw_cell_below hb6 Fm0.out; have m1 := pw_cell_below hb6 Fm1.out; have k0 := pw_cell_below hb6 Fk0.out; have k1 := pw_cell_below hb6 Fk1.out; have n0 := pw_cell_below hb6 Fn0.out; have n1 := pw_cell_below hb6 Fn1.out; have z3 : w6.frozen? ⟨w.heap.size, 3, none⟩ = false := (by rw [hb6.frozen (show w.heap.size < W2.heap.size by omega)]; exact Z3.out); have hsz6 : w.heap.size + 4 ≤ w6.heap.size := Nat.le_trans hw1 hb6.size; have Hb6 := Aside0.mk hb6; clear hb6 Hb5 hsz5) | ((fail); refine Aside0.out ?_))
          refine (HX1.out _ Hb6.out).mono ?_
          rintro e w7 ⟨rfl, hb7⟩
          replace f0 := pw_cell_below hb7 f0
          replace f1 := pw_cell_below hb7 f1
          replace f2 := pw_cell_below hb7 f2
          replace f3 := pw_cell_below hb7 f3
          replace f4 := pw_cell_below hb7 f4
          replace f5 := pw_cell_below hb7 f5
          replace m0 := pw_cell_below hb7 m0
          replace m1 := pw_cell_below hb7 m1
          replace k0 := pw_cell_below hb7 k0
          replace k1 := pw_cell_below hb7 k1
          replace n0 := pw_cell_below hb7 n0
          replace n1 := pw_cell_below hb7 n1
          replace z3 : w7.frozen? ⟨w.heap.size, 3, none⟩ = false := by rw [hb7.frozen (show w.heap.size < w6.heap.size by omega)]; exact z3
          have hsz7 : w.heap.size + 4 ≤ w7.heap.size := Nat.le_trans hsz6 hb7.size
          have hR7 := Kd.R_below HR6.out hb7
          have Hb7 := Aside0.mk (below_then Hb6.out Hb6.out.size hb7)
          clear hb7 HR6 Hb6 hsz6
          have ba : Below w7.heap.size w7 (w7.alloc (.cells #[.string p, .string v] 29)) := below_alloc (Below.refl _ _) _
          have f3a := pw_cell_below ba f3
          have z3a : (w7.alloc (.cells #[.string p, .string v] 29)).frozen? ⟨w.heap.size, 3, none⟩ = false := by rw [ba.frozen (show w.heap.size < w7.heap.size by omega)]; exact z3
          have hR8 := Kd.R_far (p := ⟨w.heap.size, 3, none⟩) (Kd.R_alloc hR7 (.cells #[.string p, .string v] 29)) (fun k hk => by show k ≠ w.heap.size; omega) (.slice A6 n6 c6)
          replace f3 : ((w7.alloc (.cells #[.string p, .string v] 29)).setCell ⟨w.heap.size, 3, none⟩ (.slice A6 n6 c6)).cell? ⟨w.heap.size, 3, none⟩ = some (.slice A6 n6 c6) := World.cell?_setCell_same _ _ _ f3a
          have g0 : ((w7.alloc (.cells #[.string p, .string v] 29)).setCell ⟨w.heap.size, 3, none⟩ (.slice A6 n6 c6)).cell? ⟨w7.heap.size, 0, none⟩ = some (.string p) := (World.cell?_setCell_other _ _ _ _ (fun e => by have := congrArg Addr.block e; simp only at this; omega)).trans (by go_simp)
          have g1 : ((w7.alloc (.cells #[.string p, .string v] 29)).setCell ⟨w.heap.size, 3, none⟩ (.slice A6 n6 c6)).cell? ⟨w7.heap.size, 1, none⟩ = some (.string v) := (World.cell?_setCell_other _ _ _ _ (fun e => by have := congrArg Addr.block e; simp only at this; omega)).trans (by go_simp)
          replace f0 := (World.cell?_setCell_other (w7.alloc (.cells #[.string p, .string v] 29)) ⟨w.heap.size, 3, none⟩ _ (.slice A6 n6 c6) (fun e => by first | (have := congrArg Addr.block e; simp only at this; omega) | (have := congrArg Addr.off e; simp at this))).trans (pw_cell_below ba f0)
          replace f1 := (World.cell?_setCell_other (w7.alloc (.cells #[.string p, .string v] 29)) ⟨w.heap.size, 3, none⟩ _ (.slice A6 n6 c6) (fun e => by first | (have := congrArg Addr.block e; simp only at this; omega) | (have := congrArg Addr.off e; simp at this))).trans (pw_cell_below ba f1)
          replace f2 := (World.cell?_setCell_other (w7.alloc (.cells #[.string p, .string v] 29)) ⟨w.heap.size, 3, none⟩ _ (.slice A6 n6 c6) (fun e => by first | (have := congrArg Addr.block e; simp only at this; omega) | (have := congrArg Addr.off e; simp at this))).trans (pw_cell_below ba f2)
          replace f4 := (World.cell?_setCell_other (w7.alloc (.cells #[.string p, .string v] 29)) ⟨w.heap.size, 3, none⟩ _ (.slice A6 n6 c6) (fun e => by first | (have := congrArg Addr.block e; simp only at this; omega) | (have := congrArg Addr.off e; simp at this))).trans (pw_cell_below ba f4)
          replace f5 := (World.cell?_setCell_other (w7.alloc (.cells #[.string p, .string v] 29)) ⟨w.heap.size, 3, none⟩ _ (.slice A6 n6 c6) (fun e => by first | (have := congrArg Addr.block e; simp only at this; omega) | (have := congrArg Addr.off e; simp at this))).trans (pw_cell_below ba f5)
          replace m0 := (World.cell?_setCell_other (w7.alloc (.cells #[.string p, .string v] 29)) ⟨w.heap.size, 3, none⟩ _ (.slice A6 n6 c6) (fun e => by first | (have := congrArg Addr.block e; simp only at this; omega) | (have := congrArg Addr.off e; simp at this))).trans (pw_cell_below ba m0)
          replace m1 := (World.cell?_setCell_other (w7.alloc (.cells #[.string p, .string v] 29)) ⟨w.heap.size, 3, none⟩ _ (.slice A6 n6 c6) (fun e => by first | (have := congrArg Addr.block e; simp only at this; omega) | (have := congrArg Addr.off e; simp at this))).trans (pw_cell_below ba m1)
          replace k0 := (World.cell?_setCell_other (w7.alloc (.cells #[.string p, .string v] 29)) ⟨w.heap.size, 3, none⟩ _ (.slice A6 n6 c6) (fun e => by first | (have := congrArg Addr.block e; simp only at this; omega) | (have := congrArg Addr.off e; simp at this))).trans (pw_cell_below ba k0)
          replace k1 := (World.cell?_setCell_other (w7.alloc (.cells #[.string p, .string v] 29)) ⟨w.heap.size, 3, none⟩ _ (.slice A6 n6 c6) (fun e => by first | (have := congrArg Addr.block e; simp only at this; omega) | (have := congrArg Addr.off e; simp at this))).trans (pw_cell_below ba k1)
          replace n0 := (World.cell?_setCell_other (w7.alloc (.cells #[.string p, .string v] 29)) ⟨w.heap.size, 3, none⟩ _ (.slice A6 n6 c6) (fun e => by first | (have := congrArg Addr.block e; simp only at this; omega) | (have := congrArg Addr.off e; simp at this))).trans (pw_cell_below ba n0)
          replace n1 := (World.cell?_setCell_other (w7.alloc (.cells #[.string p, .string v] 29)) ⟨w.heap.size, 3, none⟩ _ (.slice A6 n6 c6) (fun e => by first | (have := congrArg Addr.block e; simp only at this; omega) | (have := congrArg Addr.off e; simp at this))).trans (pw_cell_below ba n1)
          have HR8 := Aside0.mk hR8
          have HB8 := Aside0.mk (below_then HBW.out HBW.out.size Hb7.out)
          clear hR7 hR8 Hb7 z3
          go_wp2_with fail
          have hbw8 : Below w.heap.size w ((w7.alloc (.cells #[.string p, .string v] 29)).setCell ⟨w.heap.size, 3, none⟩ (.slice A6 n6 c6)) := (below_alloc HB8.out _).setCell (Nat.le_refl _) _
          have hsz8 : w.heap.size + 4 ≤ ((w7.alloc (.cells #[.string p, .string v] 29)).setCell ⟨w.heap.size, 3, none⟩ (.slice A6 n6 c6)).heap.size := by simp; omega
          generalize (w7.alloc (.cells #[.string p, .string v] 29)).setCell ⟨w.heap.size, 3, none⟩ (.slice A6 n6 c6) = w8 at *
          obtain ⟨hnn, hc6b, hC⟩ := Kd.R_reads' HR8.out
          have HX2 : ∀ W, Below w8.heap.size w8 W → ∀ u, Calls Try.prog 8 #[.agg #[.string a0_0, .string a0_1, .slice A0_2 l0_2.length c0_2, .slice A6 n6 c6, .slice A0_4 l0_4.length c0_4, .slice A0_5 l0_5.length c0_5], .agg #[.string p, .string u]] W fun e w' => e = .returned (.tuple #[.agg #[.string (replOf L p u).1, .string (replOf L p u).2.1], .bool (replOf L p u).2.2]) ∧ Below W.heap.size W w' := fun W hb u => by
            rw [hnn]
            exact repl_core a0_0 a0_1 A0_2 c0_2 l0_2 A6 c6 L A0_4 c0_4 l0_4 A0_5 c0_5 l0_5 p u W (Kd.C_below hC hb) (by rw [← hnn]; exact hc6b)
          have HX2a := HX2 w8 (Below.refl _ _) v
          rw [HL.out, repl_exact_2 l0_3 p v x0 x1 y0 y1 HNone.out HV.out] at HX2a
          have HX2b := Aside0.mk (fun W (hb : Below w8.heap.size w8 W) u (hu : u ≠ v) (hu0 : u ≠ ⟨#[]⟩) => by
            have h := HX2 W hb u
            rw [HL.out, repl_each_2 l0_3 p v x0 x1 y0 y1 HNone.out HV.out u hu hu0] at h
            exact h)
          clear HX2 hC HR8 HX1 f3a z3a hc6 hc6b hnn
          refine HX2a.mono ?_
          rintro e w9 ⟨rfl, hb9⟩
          clear HX2a
          have bx : Below w8.heap.size w8 (w9.alloc (.cells #[.string x0, .string x1] 29)) := below_alloc hb9 _
          replace f0 := pw_cell_below bx f0
          replace f1 := pw_cell_below bx f1
          replace f2 := pw_cell_below bx f2
          replace f3 := pw_cell_below bx f3
          replace f4 := pw_cell_below bx f4
          replace f5 := pw_cell_below bx f5
          replace m0 := pw_cell_below bx m0
          replace m1 := pw_cell_below bx m1
          replace k0 := pw_cell_below bx k0
          replace k1 := pw_cell_below bx k1
          replace n0 := pw_cell_below bx n0
          replace n1 := pw_cell_below bx n1
          replace g0 := pw_cell_below bx g0
          replace g1 := pw_cell_below bx g1
          have HBX := Aside0.mk bx
          have Hbw8 := Aside0.mk hbw8
          have hsz9 : w.heap.size + 4 ≤ w9.heap.size := Nat.le_trans hsz8 hb9.size
          clear bx hb9 hbw8
          go_wp2_with fail
          have h0 : (w9.alloc (.cells #[.string x0, .string x1] 29)).cell? ⟨w9.heap.size, 0, none⟩ = some (.string x0) := by go_simp
          have h1 : (w9.alloc (.cells #[.string x0, .string x1] 29)).cell? ⟨w9.heap.size, 1, none⟩ = some (.string x1) := by go_simp
          generalize hS9 : w9.heap.size = S9 at h0 h1 ⊢
          have HSv := Aside0.mk (plus_x_ne v)
          have HSe := Aside0.mk (plus_x_ne0 v)
          refine (HX2b.out _ HBX.out _ HSv.out HSe.out).mono ?_
          rintro e w10 ⟨rfl, hb10⟩
          have by' : Below (w9.alloc (.cells #[.string x0, .string x1] 29)).heap.size (w9.alloc (.cells #[.string x0, .string x1] 29)) (w10.alloc (.cells #[.string y0, .string y1] 29)) := below_alloc hb10 _
          replace f0 := pw_cell_below by' f0
          replace f1 := pw_cell_below by' f1
          replace f2 := pw_cell_below by' f2
          replace f3 := pw_cell_below by' f3
          replace f4 := pw_cell_below by' f4
          replace f5 := pw_cell_below by' f5
          replace m0 := pw_cell_below by' m0
          replace m1 := pw_cell_below by' m1
          replace k0 := pw_cell_below by' k0
          replace k1 := pw_cell_below by' k1
          replace n0 := pw_cell_below by' n0
          replace n1 := pw_cell_below by' n1
          replace g0 := pw_cell_below by' g0
          replace g1 := pw_cell_below by' g1
          replace h0 := pw_cell_below by' h0
          replace h1 := pw_cell_below by' h1
          have HBZ := Aside0.mk by'
          clear by' hb10
          go_wp2_with fail
          go_ret
          exact ⟨rfl, below_then (below_then Hbw8.out Hbw8.out.size HBX.out) (Nat.le_trans Hbw8.out.size HBX.out.size) HBZ.out⟩
end Go.Proofs.Ytggeahplncijbaa.HRewriteExact
