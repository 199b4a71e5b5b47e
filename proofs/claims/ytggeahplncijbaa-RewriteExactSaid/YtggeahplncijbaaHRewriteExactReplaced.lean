/- The contract of rewrite.Replaced: the plain function it computes; no conditions. -/
import Derived.Test.YtggeahplncijbaaHRewriteExactx1
import Derived.Lib.Hide
import Derived.Outline
set_option linter.unusedVariables false
set_option linter.unusedSimpArgs false
namespace Go.Proofs.Ytggeahplncijbaa.HRewriteExact
open Go.RowKit Go.Proofs.YtggeahplncijbaaW.PrintWords Go.Proofs.YtggeahplncijbaaW.PrintLast Go.Proofs.YtggeahplncijbaaW.PrintMore
attribute [local go_sem high] eqA29
attribute [local go_sem] max2_int min2_int max_two min_two max_three min_three max_four min_four

def sameM (o0 o1 p v : ByteArray) : Bool := o0.toList == p.toList && (o1.toList == v.toList)
/-- The place of the first replace of a module; -1: there is none. -/
def idxFrom (p v : ByteArray) : List S33 → Int → Int
  | [], _ => -1
  | x :: t, k => if sameM x.f0.f0 x.f0.f1 p v = true then k else idxFrom p v t (k + 1)
theorem idxFrom_range (p v : ByteArray) : ∀ (l : List S33) (k : Int), 0 ≤ k → -1 ≤ idxFrom p v l k ∧ idxFrom p v l k < k + l.length
  | [], k, h => by simp [idxFrom]; omega
  | x :: t, k, h => by
    rw [idxFrom]
    split
    · simp; omega
    · have := idxFrom_range p v t (k + 1) (by omega)
      simp
      omega

set_option maxHeartbeats 4000000 in
set_option maxRecDepth 100000 in
theorem same_old (o0 o1 n0 n1 p v : ByteArray) (B : Nat) (w : World) (hB : B < w.heap.size) (h0 : w.cell? ⟨B, 0, none⟩ = some (.string p)) (h1 : w.cell? ⟨B, 1, none⟩ = some (.string v)) :
    Calls Try.prog 19 #[.agg #[.string o0, .string o1, .string n0, .string n1], .pointer (some ⟨B, 0, none⟩)] w fun e w' => e = .returned (.bool (sameM o0 o1 p v)) ∧ Below w.heap.size w w' := by
  go_enter Try.func19, Try.ntmps19
  go_wp2
  go_ret
  exact ⟨rfl, below_alloc (Below.refl _ _) _⟩

set_option maxHeartbeats 4000000 in
set_option maxRecDepth 100000 in
theorem index_of (A : Option Addr) (c : Nat) (l : List S33) (p v : ByteArray) (B : Nat) (w : World) (hr : Kd.C k33 w A l.length l) (hc : l.length ≤ c) (hB : B < w.heap.size) (h0 : w.cell? ⟨B, 0, none⟩ = some (.string p)) (h1 : w.cell? ⟨B, 1, none⟩ = some (.string v)) :
    Calls Try.prog 18 #[.slice A l.length c, .func (.func 19) #[] #[.pointer (some ⟨B, 0, none⟩)]] w fun e w' => e = .returned (.int .i64 (idxFrom p v l 0)) ∧ Below w.heap.size w w' := by
  have hlm : l.length ≤ 9223372036854775807 := hr.2.1
  obtain ⟨n, hn⟩ : ∃ n, n = l.length := ⟨_, rfl⟩
  rw [← hn] at hr hc hlm ⊢
  have HR := Aside0.mk hr
  have Hn := Aside0.mk hn
  have hB1 := Aside0.mk hB
  have H0 := Aside0.mk h0
  have H1 := Aside0.mk h1
  clear hn hr hB h0 h1
  go_enter Try.func18, Try.ntmps18
  go_wp2_with fail
  go_loopw [5, 8] (fun _ i wr => ∃ k : Nat, k ≤ n ∧ i = .int .i64 k ∧ Below w.heap.size w wr ∧ Aside0 (idxFrom p v (l.drop k) k = idxFrom p v l 0))
    (fun _ i _ => n - (intOf i).toNat)
  case atStart => exact ⟨0, Nat.zero_le _, rfl, Below.refl _ _, ⟨rfl⟩⟩
  case round =>
    obtain ⟨k, hk, rfl, hbw, HI⟩ := hrel
    by_cases hlt : k < n
    · obtain ⟨ad, rfl, g0, g1, g2, g3⟩ := at_T33 (Kd.C_below HR.out hbw) (k : Int) (by omega) (by omega)
      have hd : l.drop k = rd_T33 l (k : Int) :: l.drop (k + 1) := by
        have hl : k < l.length := by rw [← Hn.out]; exact hlt
        rw [List.drop_eq_getElem_cons hl]
        congr 1
        unfold rd_T33
        simp [List.getD, hl]
      have hI := HI.out
      rw [hd, idxFrom] at hI
      rw [Int.toNat_natCast] at g0 g1 g2 g3
      obtain ⟨x, hx⟩ : ∃ x, x = rd_T33 l (k : Int) := ⟨_, rfl⟩
      rw [← hx] at hI g0 g1 g2 g3
      have hcl := fun W (hb : Below wr.heap.size wr W) => same_old x.f0.f0 x.f0.f1 x.f1.f0 x.f1.f1 p v B W (by have := hB1.out; have := hbw.size; have := hb.size; omega) (pw_cell_below (below_then hbw hbw.size hb) H0.out) (pw_cell_below (below_then hbw hbw.size hb) H1.out)
      have HCL := Aside0.mk hcl
      clear hx hd hcl HI
      cases hs : sameM x.f0.f0 x.f0.f1 p v with
      | true =>
        rw [hs, if_pos rfl] at hI
        rw [hs] at HCL
        have HIa := Aside0.mk hI
        clear hI hs
        go_wp2_with (go_at_call 19; refine (HCL.out _ (Below.refl _ _)).mono ?_; rintro e w' ⟨rfl, hb1⟩)
        go_ret
        exact ⟨by rw [← HIa.out]; rfl, below_then hbw hbw.size hb1⟩
      | false =>
        rw [hs, if_neg (by decide)] at hI
        rw [hs] at HCL
        have HIa := Aside0.mk hI
        clear hI hs
        go_wp2_with (go_at_call 19; refine (HCL.out _ (Below.refl _ _)).mono ?_; rintro e w' ⟨rfl, hb1⟩)
        go_roundw
        case rel => exact ⟨k + 1, by omega, by go_num, below_then hbw hbw.size hb1, ⟨HIa.out⟩⟩
        case measure => simp [intOf]; omega
    · have hI : idxFrom p v l 0 = -1 := by rw [← HI.out, List.drop_eq_nil_of_le (by rw [← Hn.out]; omega)]; rfl
      have HIa := Aside0.mk hI
      clear hI HI
      go_wp2
      go_ret
      exact ⟨by rw [HIa.out]; rfl, hbw⟩

set_option maxHeartbeats 4000000 in
set_option maxRecDepth 100000 in
theorem of_at (A : Option Addr) (c : Nat) (l : List S33) (p v : ByteArray) (B : Nat) (w : World) (hr : Kd.C k33 w A l.length l) (hc : l.length ≤ c) (hB : B < w.heap.size) (h0 : w.cell? ⟨B, 3, none⟩ = some (.slice A l.length c)) :
    Calls Try.prog 17 #[.agg #[.string p, .string v], .pointer (some ⟨B, 0, none⟩)] w fun e w' => e = .returned (.int .i64 (idxFrom p v l 0)) ∧ Below w.heap.size w w' := by
  have HR := Aside0.mk hr
  have HX := Aside0.mk (fun W (hb : Below w.heap.size w W) B' => index_of A c l p v B' W (Kd.C_below HR.out hb) hc)
  clear hr
  go_enter Try.func17, Try.ntmps17
  go_wp2_with (go_at_call 18; refine (HX.out _ (below_alloc (Below.refl _ _) _) _ (by simp) (by simp) (by simp)).mono ?_; rintro e w' ⟨rfl, hb1⟩)
  go_ret
  exact ⟨rfl, below_then (below_alloc (Below.refl _ _) _) (by simp) hb1⟩

/-- rewrite.Replaced: the new module, whether there is one. -/
def replOf (l : List S33) (p v : ByteArray) : ByteArray × ByteArray × Bool :=
  if 0 ≤ idxFrom p v l 0 then ((rd_T33 l (idxFrom p v l 0)).f1.f0, (rd_T33 l (idxFrom p v l 0)).f1.f1, true)
  else if 0 ≤ idxFrom p ⟨#[]⟩ l 0 then ((rd_T33 l (idxFrom p ⟨#[]⟩ l 0)).f1.f0, (rd_T33 l (idxFrom p ⟨#[]⟩ l 0)).f1.f1, true)
  else (p, v, false)
def rewrite_Replaced.f (a0_0 : ByteArray) (a0_1 : ByteArray) (l0_2 : List (S142)) (l0_3 : List (S33)) (l0_4 : List (S29)) (l0_5 : List (S62)) (a1_0 : ByteArray) (a1_1 : ByteArray) : Option (ByteArray × ByteArray × Bool) := some (replOf l0_3 a1_0 a1_1)

theorem S_below {w3 W : World} {X Y : Prop} (h : X ∧ Y ∧ Below w3.heap.size w3 W) : Below w3.heap.size w3 W := h.2.2
theorem S_step {w3 W W' : World} {a b : Addr} {x y : Value} (h : W.cell? a = some x ∧ W.cell? b = some y ∧ Below w3.heap.size w3 W) (hb : Below W.heap.size W W') : W'.cell? a = some x ∧ W'.cell? b = some y ∧ Below w3.heap.size w3 W' :=
  ⟨pw_cell_below hb h.1, pw_cell_below hb h.2.1, below_then h.2.2 h.2.2.size hb⟩
theorem S_alloc {w3 W : World} {o : Obj} {a b : Addr} {x y : Value} (h : W.cell? a = some x ∧ W.cell? b = some y ∧ Below w3.heap.size w3 W) : (W.alloc o).cell? a = some x ∧ (W.alloc o).cell? b = some y ∧ Below w3.heap.size w3 (W.alloc o) :=
  S_step h (below_alloc (Below.refl _ _) _)
set_option maxHeartbeats 8000000 in
set_option maxRecDepth 100000 in
theorem repl_core (a0_0 : ByteArray) (a0_1 : ByteArray) (A0_2 : Option Addr) (c0_2 : Nat) (l0_2 : List (S142)) (A0_3 : Option Addr) (c0_3 : Nat) (l0_3 : List (S33)) (A0_4 : Option Addr) (c0_4 : Nat) (l0_4 : List (S29)) (A0_5 : Option Addr) (c0_5 : Nat) (l0_5 : List (S62)) (p v : ByteArray) (w : World) (hr0_3 : Kd.C k33 w A0_3 l0_3.length l0_3) (hc0_3 : l0_3.length ≤ c0_3) :
    Calls Try.prog 8 #[.agg #[.string a0_0, .string a0_1, .slice A0_2 l0_2.length c0_2, .slice A0_3 l0_3.length c0_3, .slice A0_4 l0_4.length c0_4, .slice A0_5 l0_5.length c0_5], .agg #[.string p, .string v]] w fun e w' => e = .returned (.tuple #[.agg #[.string (replOf l0_3 p v).1, .string (replOf l0_3 p v).2.1], .bool (replOf l0_3 p v).2.2]) ∧ Below w.heap.size w w' := by
  have HR := Aside0.mk hr0_3
  clear hr0_3
  go_enter Try.func8, Try.ntmps8
  go_wp2_with fail
  obtain ⟨w3, hw3⟩ : ∃ w3, w3 = ((w.alloc (.cells #[.string a0_0, .string a0_1, .slice A0_2 l0_2.length c0_2, .slice A0_3 l0_3.length c0_3, .slice A0_4 l0_4.length c0_4, .slice A0_5 l0_5.length c0_5] 27)).alloc (.cells #[.string p, .string v] 29)).alloc (.cells #[.string { data := #[] }, .string { data := #[] }] 29) := ⟨_, rfl⟩
  rw [← hw3]
  have hsz : w3.heap.size = w.heap.size + 3 := by rw [hw3]; simp
  have p0 : w3.cell? ⟨w.heap.size + 1, 0, none⟩ = some (.string p) := by rw [hw3]; go_simp
  have p1 : w3.cell? ⟨w.heap.size + 1, 1, none⟩ = some (.string v) := by rw [hw3]; go_simp
  have q3 : w3.cell? ⟨w.heap.size, 3, none⟩ = some (.slice A0_3 l0_3.length c0_3) := by rw [hw3]; go_simp
  have r0 : w3.cell? ⟨w.heap.size + 1 + 1, 0, none⟩ = some (.string { data := #[] }) := by rw [hw3]; go_simp
  have hb3 : Below w.heap.size w w3 := by rw [hw3]; exact below_alloc (below_alloc (below_alloc (Below.refl _ _) _) _) _
  have HO := Aside0.mk (fun W (hb : Below w3.heap.size w3 W) p' v' => of_at A0_3 c0_3 l0_3 p' v' w.heap.size W (Kd.C_below HR.out (below_then hb3 (by omega) hb)) hc0_3 (by have := hb.size; omega) (pw_cell_below hb q3))
  have Hsz := Lib.hid hsz
  have HB3 := Aside0.mk hb3
  have f0 : w3.frozen? ⟨w.heap.size + 1 + 1, 0, none⟩ = false := by rw [hw3]; go_simp
  have f1 : w3.frozen? ⟨w.heap.size + 1 + 1, 1, none⟩ = false := by rw [hw3]; go_simp
  have r1 : w3.cell? ⟨w.heap.size + 1 + 1, 1, none⟩ = some (.string { data := #[] }) := by rw [hw3]; go_simp
  have F := Aside0.mk (And.intro f0 (And.intro f1 (And.intro r0 (And.intro r1 q3))))
  clear hw3 hsz q3 hb3 f0 f1 r1 r0
  go_region_held3 (fun W => W.cell? ⟨w.heap.size + 1, 0, none⟩ = some (.string p) ∧ W.cell? ⟨w.heap.size + 1, 1, none⟩ = some (.string v) ∧ Below w3.heap.size w3 W) (first | exact ⟨p0, p1, below_drew (Below.refl _ _)⟩ | exact S_step (by assumption) (by assumption) | exact S_alloc (by assumption))
    (first | (go_at_call 17; refine (HO.out _ (S_below (by assumption)) _ _).mono ?_; rintro e w' ⟨rfl, hb1⟩))
  go_wp2_with fail
  have hB5 : Below w3.heap.size w3 (w'.alloc (.cells #[.int .i64 (idxFrom p v l0_3 0), .int .i64 (idxFrom p ⟨#[]⟩ l0_3 0)] 3)) := S_below (by assumption)
  have hR := (rfl : replOf l0_3 p v = replOf l0_3 p v)
  conv at hR => rhs; unfold replOf
  have R1 := idxFrom_range p v l0_3 0 (by omega)
  have R2 := idxFrom_range p ⟨#[]⟩ l0_3 0 (by omega)
  have e0 : (w'.alloc (.cells #[.int .i64 (idxFrom p v l0_3 0), .int .i64 (idxFrom p ⟨#[]⟩ l0_3 0)] 3)).cell? ⟨w'.heap.size, 0, none⟩ = some (.int .i64 (idxFrom p v l0_3 0)) := by go_simp
  have e1 : (w'.alloc (.cells #[.int .i64 (idxFrom p v l0_3 0), .int .i64 (idxFrom p ⟨#[]⟩ l0_3 0)] 3)).cell? ⟨w'.heap.size, 1, none⟩ = some (.int .i64 (idxFrom p ⟨#[]⟩ l0_3 0)) := by go_simp
  generalize (w'.alloc (.cells #[.int .i64 (idxFrom p v l0_3 0), .int .i64 (idxFrom p ⟨#[]⟩ l0_3 0)] 3)) = W5 at hB5 e0 e1 ⊢
  generalize idxFrom p v l0_3 0 = I1 at hR R1 e0 e1 ⊢
  generalize idxFrom p ⟨#[]⟩ l0_3 0 = I2 at hR R2 e0 e1 ⊢
  obtain ⟨g, hg⟩ : ∃ g, g = w'.heap.size := ⟨_, rfl⟩
  rw [← hg] at e0 e1 ⊢
  have k0 := Aside0.mk R1
  have k1 := Aside0.mk R2
  have HRR := Aside0.mk hR
  have HB5 := Aside0.mk hB5
  obtain ⟨F0, F1, F2, F3, F4⟩ := F.out
  have c4 := pw_cell_below hB5 F4
  have c2 := pw_cell_below hB5 F2
  have c3 := pw_cell_below hB5 F3
  have f0 : W5.frozen? ⟨w.heap.size + 1 + 1, 0, none⟩ = false := by rw [hB5.frozen (show w.heap.size + 1 + 1 < w3.heap.size by have := Hsz.out; omega)]; exact F0
  have f1 : W5.frozen? ⟨w.heap.size + 1 + 1, 1, none⟩ = false := by rw [hB5.frozen (show w.heap.size + 1 + 1 < w3.heap.size by have := Hsz.out; omega)]; exact F1
  have b0 := pw_cell_below hB5 p0
  have b1 := pw_cell_below hB5 p1
  have hlast : Below w.heap.size w W5 := below_then HB3.out (by have := Hsz.out; omega) hB5
  have HL := Aside0.mk hlast
  have HC5 := Aside0.mk (Kd.C_below HR.out hlast)
  clear hR R1 R2 hB5 F F0 F1 F2 F3 F4 hlast hg HB5 HR HO p0 p1
  rename_i hS
  clear hS
  have hb2 : w.heap.size + 1 + 1 < W5.heap.size := World.block_lt_of_cell? W5 _ c2
  by_cases hp1 : 0 ≤ I1
  · go_loopw [8, 20] (fun _ i wr => i = .int .i64 0 ∧ wr = W5) (fun _ i _ => 0)
    case atStart => exact ⟨rfl, rfl⟩
    case round =>
      obtain ⟨rfl, rfl⟩ := hrel
      obtain ⟨ad, rfl, q0, q1, q2, q3⟩ := at_T33 HC5.out I1 hp1 (by have := k0.out; omega)
      have HRa := Aside0.mk (show replOf l0_3 p v = ((rd_T33 l0_3 I1).f1.f0, (rd_T33 l0_3 I1).f1.f1, true) by rw [HRR.out, if_pos hp1])
      obtain ⟨y, hy⟩ : ∃ y, y = rd_T33 l0_3 I1 := ⟨_, rfl⟩
      rw [← hy] at q0 q1 q2 q3 HRa
      have hlt1 : I1 < (l0_3.length : Int) := by have := k0.out; omega
      clear hy HRR
      go_wp2_with fail
      refine bodyPost_ret (v := .tuple #[.agg #[.string y.f1.f0, .string y.f1.f1], .bool true]) (by simp [results, Try.results8, go_sem, c2, c3, hb2]) rfl ⟨by rw [HRa.out], ?_⟩
      exact (HL.out.setCell (p := ⟨w.heap.size + 1 + 1, 0, none⟩) (show w.heap.size ≤ w.heap.size + 1 + 1 by omega) _).setCell (p := ⟨w.heap.size + 1 + 1, 1, none⟩) (show w.heap.size ≤ w.heap.size + 1 + 1 by omega) _
  · by_cases hp2 : 0 ≤ I2
    · go_loopw [8, 20] (fun _ i wr => ∃ k : Nat, k ≤ 1 ∧ i = .int .i64 k ∧ wr = W5) (fun _ i _ => 2 - (intOf i).toNat)
      case atStart => exact ⟨0, by omega, rfl, rfl⟩
      case round =>
      obtain ⟨k, hk, rfl, rfl⟩ := hrel
      have hk' : k = 0 ∨ k = 1 := by omega
      rcases hk' with rfl | rfl
      · go_wp2_with fail
        go_roundw
        case rel => exact ⟨1, by omega, rfl, trivial⟩
        case measure => simp [intOf]
      obtain ⟨ad, rfl, q0, q1, q2, q3⟩ := at_T33 HC5.out I2 hp2 (by have := k1.out; omega)
      have HRa := Aside0.mk (show replOf l0_3 p v = ((rd_T33 l0_3 I2).f1.f0, (rd_T33 l0_3 I2).f1.f1, true) by rw [HRR.out, if_neg hp1, if_pos hp2])
      obtain ⟨y, hy⟩ : ∃ y, y = rd_T33 l0_3 I2 := ⟨_, rfl⟩
      rw [← hy] at q0 q1 q2 q3 HRa
      have hlt1 : I2 < (l0_3.length : Int) := by have := k1.out; omega
      clear hy HRR
      go_wp2_with fail
      refine bodyPost_ret (v := .tuple #[.agg #[.string y.f1.f0, .string y.f1.f1], .bool true]) (by simp [results, Try.results8, go_sem, c2, c3, hb2]) rfl ⟨by rw [HRa.out], ?_⟩
      exact (HL.out.setCell (p := ⟨w.heap.size + 1 + 1, 0, none⟩) (show w.heap.size ≤ w.heap.size + 1 + 1 by omega) _).setCell (p := ⟨w.heap.size + 1 + 1, 1, none⟩) (show w.heap.size ≤ w.heap.size + 1 + 1 by omega) _
    · have HRa := Aside0.mk (show replOf l0_3 p v = (p, v, false) by rw [HRR.out, if_neg hp1, if_neg hp2])
      clear HRR
      go_loopw [8, 20] (fun _ i wr => ∃ k : Nat, k ≤ 2 ∧ i = .int .i64 k ∧ wr = W5) (fun _ i _ => 2 - (intOf i).toNat)
      case atStart => exact ⟨0, by omega, rfl, rfl⟩
      case round =>
      obtain ⟨k, hk, rfl, rfl⟩ := hrel
      have hk' : k = 0 ∨ k = 1 ∨ k = 2 := by omega
      rcases hk' with rfl | rfl | rfl
      · go_wp2_with fail
        go_roundw
        case rel => exact ⟨1, by omega, rfl, trivial⟩
        case measure => simp [intOf]
      · go_wp2_with fail
        go_roundw
        case rel => exact ⟨2, by omega, rfl, trivial⟩
        case measure => simp [intOf]
      go_wp2_with fail
      refine bodyPost_ret (v := .tuple #[.agg #[.string p, .string v], .bool false]) (by simp [results, Try.results8, go_sem, c2, c3, hb2]) rfl ⟨by rw [HRa.out], ?_⟩
      exact (HL.out.setCell (p := ⟨w.heap.size + 1 + 1, 0, none⟩) (show w.heap.size ≤ w.heap.size + 1 + 1 by omega) _).setCell (p := ⟨w.heap.size + 1 + 1, 1, none⟩) (show w.heap.size ≤ w.heap.size + 1 + 1 by omega) _
theorem rewrite_Replaced.calls (a0_0 : ByteArray) (a0_1 : ByteArray) (A0_2 : Option Addr) (c0_2 : Nat) (l0_2 : List (S142)) (A0_3 : Option Addr) (c0_3 : Nat) (l0_3 : List (S33)) (A0_4 : Option Addr) (c0_4 : Nat) (l0_4 : List (S29)) (A0_5 : Option Addr) (c0_5 : Nat) (l0_5 : List (S62)) (a1_0 : ByteArray) (a1_1 : ByteArray) (r1 : ByteArray) (r2 : ByteArray) (r3 : Bool) (w : World) (hr0_2 : Kd.C k142 w A0_2 l0_2.length l0_2) (hc0_2 : l0_2.length ≤ c0_2) (hr0_3 : Kd.C k33 w A0_3 l0_3.length l0_3) (hc0_3 : l0_3.length ≤ c0_3) (hr0_4 : Kd.C k29 w A0_4 l0_4.length l0_4) (hc0_4 : l0_4.length ≤ c0_4) (hr0_5 : Kd.C k62 w A0_5 l0_5.length l0_5) (hc0_5 : l0_5.length ≤ c0_5) (h : rewrite_Replaced.f a0_0 a0_1 l0_2 l0_3 l0_4 l0_5 a1_0 a1_1 = some (r1, r2, r3)) :
    Calls Try.prog 8 #[.agg #[.string a0_0, .string a0_1, .slice A0_2 l0_2.length c0_2, .slice A0_3 l0_3.length c0_3, .slice A0_4 l0_4.length c0_4, .slice A0_5 l0_5.length c0_5], .agg #[.string a1_0, .string a1_1]] w fun e w' => e = .returned (.tuple #[.agg #[.string r1, .string r2], .bool r3]) ∧ Below w.heap.size w w' := by
  have e := Option.some.inj h
  have := repl_core a0_0 a0_1 A0_2 c0_2 l0_2 A0_3 c0_3 l0_3 A0_4 c0_4 l0_4 A0_5 c0_5 l0_5 a1_0 a1_1 w hr0_3 hc0_3
  rw [e] at this
  exact this
end Go.Proofs.Ytggeahplncijbaa.HRewriteExact
