/- The contract of expr.Parse: the plain function it computes; no conditions. -/
import Derived.Test.YtfnikmkjhbbbgaaDoorNot
set_option linter.unusedVariables false
set_option linter.unusedSimpArgs false
namespace Go.Proofs.YtfnikmkjhbbbgaaDoor.HExpr
open Go.RowKit Go.Proofs.YtfnikmkjhbbbgaaDoorW.PrintWords Go.Proofs.YtfnikmkjhbbbgaaDoorW.PrintLast Go.Proofs.YtfnikmkjhbbbgaaDoorW.PrintMore
/-- what Parse makes of a parser that is through -/
def parseE (p : PS) : Option (List S51 × Int) :=
  if p.ok = true then
    (if (takeF ⟨#[]⟩ p).1 = true then
      (if (takeF ⟨#[]⟩ p).2.s.toList = [] then
        (if small p.l then (if chk p.l = 0 then some (p.l, 0) else some ([], 120)) else none)
      else some ([], 120))
    else some ([], 120))
  else some ([], 120)
def expr_Parse.f (k : Nat) (a0 : ByteArray) : Option ((List (S51)) × Int) := (orF k 40 ⟨a0, [], true⟩).bind (fun r => parseE r.2)
theorem rowL_mono (kind : Int) (sign : ByteArray) {one one' : Int → PS → Option (Int × PS)} (h : ∀ d p r, one d p = some r → one' d p = some r) : ∀ (k : Nat) (d a : Int) (p : PS) (r : Int × PS), rowL kind sign one k d a p = some r → rowL kind sign one' (k + 1) d a p = some r
  | 0, _, _, _, _, h1 => by simp [rowL] at h1
  | k + 1, d, a, p, r, h1 => by
    rw [rowL] at h1 ⊢
    split at h1
    · rename_i h2
      rw [if_pos h2]
      split at h1
      · rename_i h3
        rw [if_pos h3]
        obtain ⟨x, hx, h1⟩ := Option.bind_eq_some_iff.1 h1
        obtain ⟨y, hy, h1⟩ := Option.bind_eq_some_iff.1 h1
        rw [h _ _ _ hx]
        simp only [Option.bind_some]
        rw [hy]
        simp only [Option.bind_some]
        exact rowL_mono kind sign h k _ _ _ _ h1
      · rename_i h3; rw [if_neg h3]; exact h1
    · rename_i h2; rw [if_neg h2]; exact h1
theorem rowF_mono (kind : Int) (sign : ByteArray) {one one' : Int → PS → Option (Int × PS)} (h : ∀ d p r, one d p = some r → one' d p = some r) (k : Nat) (d : Int) (p : PS) (r : Int × PS) (h1 : rowF k kind sign one d p = some r) : rowF (k + 1) kind sign one' d p = some r := by
  unfold rowF at h1 ⊢
  obtain ⟨x, hx, h1⟩ := Option.bind_eq_some_iff.1 h1
  rw [h _ _ _ hx]
  exact rowL_mono kind sign h k _ _ _ _ h1
theorem notF_mono : ∀ (k : Nat) (d : Int) (p : PS) (r : Int × PS), notF k d p = some r → notF (k + 1) d p = some r
  | 0, _, _, _, h => by simp [notF] at h
  | k + 1, d, p, r, h => by
    have ih := notF_mono k
    have ihO := rowF_mono 3 ⟨#[124, 124]⟩ (rowF_mono 2 ⟨#[38, 38]⟩ ih k) k
    rw [notF] at h ⊢
    split at h
    · rename_i h1
      rw [if_pos h1]
      split at h
      · rename_i h2
        rw [if_pos h2]
        obtain ⟨x, hx, h⟩ := Option.bind_eq_some_iff.1 h
        rw [ih _ _ _ hx]; exact h
      · rename_i h2
        rw [if_neg h2]
        split at h
        · rename_i h3
          rw [if_pos h3]
          split at h
          · rename_i h4
            rw [if_pos h4]
            obtain ⟨x, hx, h⟩ := Option.bind_eq_some_iff.1 h
            rw [ihO _ _ _ hx]; exact h
          · rename_i h4; rw [if_neg h4]; exact h
        · rename_i h3; rw [if_neg h3]; exact h
    · rename_i h1; rw [if_neg h1]; exact h
theorem expr_Parse.mono : ∀ a0 k, LeO (expr_Parse.f k a0) (expr_Parse.f (k + 1) a0) := by
  intro a0 k r h
  unfold expr_Parse.f at h ⊢
  obtain ⟨x, hx, h⟩ := Option.bind_eq_some_iff.1 h
  rw [show orF (k + 1) 40 ⟨a0, [], true⟩ = some x from rowF_mono 3 _ (rowF_mono 2 _ (notF_mono k) k) k _ _ _ hx]
  exact h
set_option maxHeartbeats 8000000 in
set_option maxRecDepth 100000 in
theorem expr_Parse.calls (k : Nat) (a0 : ByteArray) (r1 : List (S51)) (r2 : Int) (w : World) (h : expr_Parse.f k a0 = some (r1, r2)) :
    Calls Tryd.prog 17 #[.string a0] w fun e w' => ∃ v0_ : Value, e = .returned (.tuple #[v0_, .int .i64 r2]) ∧ Kd.R k51 51 w' w.heap.size (fun _ => True) v0_ r1 ∧ Below w.heap.size w w' := by
  have hu67 := Tryd.underlying67
  have hu69 := Tryd.underlying69
  unfold expr_Parse.f at h
  obtain ⟨⟨a, p⟩, hor, h⟩ := Option.bind_eq_some_iff.1 h
  have HOR := Aside0.mk hor
  have H := Aside0.mk h
  have HB := Aside0.mk (Below.refl w.heap.size w)
  clear hor h
  have box : True := trivial
  by_cases hok : p.ok = true
  case neg =>
    have h := H.out
    unfold parseE at h
    simp only at h
    rw [if_neg hok] at h
    obtain ⟨rfl, rfl⟩ := Prod.mk.inj (Option.some.inj h)
    have HK := Aside0.mk (show p.ok = false by simpa using hok)
    clear h H hok
    go_enter Tryd.func17, Tryd.ntmps17
    go_wp2_with (first | ((with_reducible refine gate_dst (N := 7) rfl ?_); refine box_event ?hg (N := 7) ?hd (cs := #[.string a0, .slice none 0 0, .bool true]) (t := 69) ?hr ?_; (case hd => rfl); (case hg => rfl); (case hr => first | (go_simp; done) | (go_simp; rfl)); intro g hg w1 hbox hb; have HP := Aside0.mk (show Par w g ⟨a0, [], true⟩ w1 from ⟨below_step HB.out hb, by rw [hg]; exact Nat.le_refl _, _, hbox, Kd.R_nil _ _ _ _ _⟩); have HO := Aside0.mk (or_does w g k (and_does w g k (not_does w g k)) 40 _ _ _ _ (by decide) HOR.out HP.out); clear hb hbox hg) | (go_at_call 38; refine HO.out.mono ?_; rintro e w2 ⟨rfl, hb⟩; have HP2 := Aside0.mk hb; have hc2 := HP2.out.cell_ok; rw [HK.out] at hc2; clear hb))
    go_ret2
    exact ⟨_, rfl, Kd.R_nil _ _ _ _ _, HP2.out.1⟩
  have HK := Aside0.mk hok
  have h := H.out
  unfold parseE at h
  simp only at h
  rw [if_pos hok] at h
  clear hok H
  by_cases htk : (takeF ⟨#[]⟩ p).1 = true
  case neg =>
    rw [if_neg htk] at h
    obtain ⟨rfl, rfl⟩ := Prod.mk.inj (Option.some.inj h)
    have HTK := Aside0.mk (show (takeF ⟨#[]⟩ p).1 = false by simpa using htk)
    clear h htk
    go_enter Tryd.func17, Tryd.ntmps17
    go_wp2_with (first | ((with_reducible refine gate_dst (N := 7) rfl ?_); refine box_event ?hg (N := 7) ?hd (cs := #[.string a0, .slice none 0 0, .bool true]) (t := 69) ?hr ?_; (case hd => rfl); (case hg => rfl); (case hr => first | (go_simp; done) | (go_simp; rfl)); intro g hg w1 hbox hb; have HP := Aside0.mk (show Par w g ⟨a0, [], true⟩ w1 from ⟨below_step HB.out hb, by rw [hg]; exact Nat.le_refl _, _, hbox, Kd.R_nil _ _ _ _ _⟩); have HO := Aside0.mk (or_does w g k (and_does w g k (not_does w g k)) 40 _ _ _ _ (by decide) HOR.out HP.out); clear hb hbox hg) | (go_at_call 38; refine HO.out.mono ?_; rintro e w2 ⟨rfl, hb⟩; have HP2 := Aside0.mk hb; have hc2 := HP2.out.cell_ok; rw [HK.out] at hc2; clear hb) | (go_at_call 39; refine (take_at w _ p ⟨#[]⟩ false HTK.out _ HP2.out).mono ?_; rintro e w3 ⟨rfl, hb⟩; have HP3 := Aside0.mk hb; clear hb; have hc3 := HP3.out.cell_s))
    go_ret2
    exact ⟨_, rfl, Kd.R_nil _ _ _ _ _, HP3.out.1⟩
  rw [if_pos htk] at h
  have HTK := Aside0.mk htk
  clear htk
  by_cases hs : (takeF ⟨#[]⟩ p).2.s.toList = []
  case neg =>
    rw [if_neg hs] at h
    obtain ⟨rfl, rfl⟩ := Prod.mk.inj (Option.some.inj h)
    have e1 : ((takeF ⟨#[]⟩ p).2.s.toList == []) = false := by simp [hs]
    have e2 : (takeF ⟨#[]⟩ p).2.s.toList.isEmpty = false := by simp [hs]
    clear h hs
    go_enter Tryd.func17, Tryd.ntmps17
    go_wp2_with (first | ((with_reducible refine gate_dst (N := 7) rfl ?_); refine box_event ?hg (N := 7) ?hd (cs := #[.string a0, .slice none 0 0, .bool true]) (t := 69) ?hr ?_; (case hd => rfl); (case hg => rfl); (case hr => first | (go_simp; done) | (go_simp; rfl)); intro g hg w1 hbox hb; have HP := Aside0.mk (show Par w g ⟨a0, [], true⟩ w1 from ⟨below_step HB.out hb, by rw [hg]; exact Nat.le_refl _, _, hbox, Kd.R_nil _ _ _ _ _⟩); have HO := Aside0.mk (or_does w g k (and_does w g k (not_does w g k)) 40 _ _ _ _ (by decide) HOR.out HP.out); clear hb hbox hg) | (go_at_call 38; refine HO.out.mono ?_; rintro e w2 ⟨rfl, hb⟩; have HP2 := Aside0.mk hb; have hc2 := HP2.out.cell_ok; rw [HK.out] at hc2; clear hb) | (go_at_call 39; refine (take_at w _ p ⟨#[]⟩ true HTK.out _ HP2.out).mono ?_; rintro e w3 ⟨rfl, hb⟩; have HP3 := Aside0.mk hb; clear hb; have hc3 := HP3.out.cell_s))
    go_ret2
    exact ⟨_, rfl, Kd.R_nil _ _ _ _ _, HP3.out.1⟩
  rw [if_pos hs] at h
  have e1 : ((takeF ⟨#[]⟩ p).2.s.toList == []) = true := by simp [hs]
  have e2 : (takeF ⟨#[]⟩ p).2.s.toList.isEmpty = true := by simp [hs]
  clear hs
  have hlp : (takeF ⟨#[]⟩ p).2.l = p.l := by unfold takeF; split <;> rfl
  by_cases hsm : small p.l
  case neg => rw [if_neg hsm] at h; cases h
  rw [if_pos hsm] at h
  have HCK := Aside0.mk (show expr_Check.f p.l = some (chk p.l) by unfold expr_Check.f; rw [if_pos hsm])
  have HLP := Aside0.mk hlp
  clear hsm hlp
  by_cases hc : chk p.l = 0
  · rw [if_pos hc] at h
    obtain ⟨rfl, rfl⟩ := Prod.mk.inj (Option.some.inj h)
    have e3 : (chk p.l == 0) = true := by simp [hc]
    have e4 : (chk p.l != 0) = false := by simp [hc]
    clear h hc
    go_enter Tryd.func17, Tryd.ntmps17
    go_wp2_with (first | ((with_reducible refine gate_dst (N := 7) rfl ?_); refine box_event ?hg (N := 7) ?hd (cs := #[.string a0, .slice none 0 0, .bool true]) (t := 69) ?hr ?_; (case hd => rfl); (case hg => rfl); (case hr => first | (go_simp; done) | (go_simp; rfl)); intro g hg w1 hbox hb; have HP := Aside0.mk (show Par w g ⟨a0, [], true⟩ w1 from ⟨below_step HB.out hb, by rw [hg]; exact Nat.le_refl _, _, hbox, Kd.R_nil _ _ _ _ _⟩); have HO := Aside0.mk (or_does w g k (and_does w g k (not_does w g k)) 40 _ _ _ _ (by decide) HOR.out HP.out); clear hb hbox hg) | (go_at_call 38; refine HO.out.mono ?_; rintro e w2 ⟨rfl, hb⟩; have HP2 := Aside0.mk hb; have hc2 := HP2.out.cell_ok; rw [HK.out] at hc2; clear hb) | (go_at_call 39; refine (take_at w _ p ⟨#[]⟩ true HTK.out _ HP2.out).mono ?_; rintro e w3 ⟨rfl, hb⟩; have HP3 := Aside0.mk hb; clear hb; have hc3 := HP3.out.cell_s; have hp3 := HP3.out; obtain ⟨hB3, hg3, v3, hb3, hr3⟩ := hp3; rw [HLP.out] at hr3; obtain ⟨A3, c3, e5⟩ := Kd.R_slice hr3; subst e5; have hl3 : w3.cell? ⟨_, 1, none⟩ = some (.slice A3 p.l.length c3) := (blk_cell hb3 1).trans rfl; have HR3 := Aside0.mk hr3; have HB3 := Aside0.mk hB3; have HBK := Aside0.mk hb3; clear hB3 hg3 hb3 hr3) | (go_at_call 12; refine (expr_Check.calls A3 c3 p.l _ _ (Kd.R_reads' HR3.out).2.2 (Kd.R_reads' HR3.out).2.1 HCK.out).mono ?_; rintro e w4 ⟨rfl, hb⟩; have hl4 := (hb.cell (World.block_lt_of_cell? _ _ hl3)).trans hl3; have HR4 := Aside0.mk (Kd.R_below HR3.out hb); have HB4 := Aside0.mk (below_step HB3.out hb); clear hb))
    go_ret2
    exact ⟨_, rfl, HR4.out, HB4.out⟩
  · rw [if_neg hc] at h
    obtain ⟨rfl, rfl⟩ := Prod.mk.inj (Option.some.inj h)
    have e3 : (chk p.l == 0) = false := by simp [hc]
    have e4 : (chk p.l != 0) = true := by simp [hc]
    clear h hc
    go_enter Tryd.func17, Tryd.ntmps17
    go_wp2_with (first | ((with_reducible refine gate_dst (N := 7) rfl ?_); refine box_event ?hg (N := 7) ?hd (cs := #[.string a0, .slice none 0 0, .bool true]) (t := 69) ?hr ?_; (case hd => rfl); (case hg => rfl); (case hr => first | (go_simp; done) | (go_simp; rfl)); intro g hg w1 hbox hb; have HP := Aside0.mk (show Par w g ⟨a0, [], true⟩ w1 from ⟨below_step HB.out hb, by rw [hg]; exact Nat.le_refl _, _, hbox, Kd.R_nil _ _ _ _ _⟩); have HO := Aside0.mk (or_does w g k (and_does w g k (not_does w g k)) 40 _ _ _ _ (by decide) HOR.out HP.out); clear hb hbox hg) | (go_at_call 38; refine HO.out.mono ?_; rintro e w2 ⟨rfl, hb⟩; have HP2 := Aside0.mk hb; have hc2 := HP2.out.cell_ok; rw [HK.out] at hc2; clear hb) | (go_at_call 39; refine (take_at w _ p ⟨#[]⟩ true HTK.out _ HP2.out).mono ?_; rintro e w3 ⟨rfl, hb⟩; have HP3 := Aside0.mk hb; clear hb; have hc3 := HP3.out.cell_s; have hp3 := HP3.out; obtain ⟨hB3, hg3, v3, hb3, hr3⟩ := hp3; rw [HLP.out] at hr3; obtain ⟨A3, c3, e5⟩ := Kd.R_slice hr3; subst e5; have hl3 : w3.cell? ⟨_, 1, none⟩ = some (.slice A3 p.l.length c3) := (blk_cell hb3 1).trans rfl; have HR3 := Aside0.mk hr3; have HB3 := Aside0.mk hB3; have HBK := Aside0.mk hb3; clear hB3 hg3 hb3 hr3) | (go_at_call 12; refine (expr_Check.calls A3 c3 p.l _ _ (Kd.R_reads' HR3.out).2.2 (Kd.R_reads' HR3.out).2.1 HCK.out).mono ?_; rintro e w4 ⟨rfl, hb⟩; have HB4 := Aside0.mk (below_step HB3.out hb); clear hb))
    go_ret2
    exact ⟨_, rfl, Kd.R_nil _ _ _ _ _, HB4.out⟩
end Go.Proofs.YtfnikmkjhbbbgaaDoor.HExpr
