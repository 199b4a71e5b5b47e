/- The parser's row of things with signs between: what it computes; no conditions. -/
import Derived.Test.YtfnikmkjhbbbgaaDoorParser
set_option linter.unusedVariables false
set_option linter.unusedSimpArgs false
namespace Go.Proofs.YtfnikmkjhbbbgaaDoor.HExpr
open Go.RowKit Go.Proofs.YtfnikmkjhbbbgaaDoorW.PrintWords Go.Proofs.YtfnikmkjhbbbgaaDoorW.PrintLast Go.Proofs.YtfnikmkjhbbbgaaDoorW.PrintMore
set_option maxHeartbeats 8000000 in
set_option maxRecDepth 100000 in
theorem row_calls56 (w0 : World) (g : Nat) (kind : Int) (sign : ByteArray) (one : Int → PS → Option (Int × PS))
    (hone : ∀ (deep : Int) (p q : PS) (a : Int) (W : World), 0 ≤ deep ∧ deep ≤ 40 → one deep p = some (a, q) → Par w0 g p W → Calls Tryd.prog 56 #[.pointer (some ⟨g, 0, none⟩), .int .i64 deep] W fun e W' => e = .returned (.int .i64 a) ∧ Par w0 g q W')
    (k : Nat) (deep : Int) (p q : PS) (a : Int) (w : World) (hd : 0 ≤ deep ∧ deep ≤ 40) (h : rowF k kind sign one deep p = some (a, q)) (hp : Par w0 g p w) :
    Calls Tryd.prog 55 #[.pointer (some ⟨g, 0, none⟩), .int .i64 kind, .string sign, .func (.func 56) #[.pointer (some ⟨g, 0, none⟩)] #[], .int .i64 deep] w fun e w' => e = .returned (.int .i64 a) ∧ Par w0 g q w' := by
  have hu67 := Tryd.underlying67
  have hu69 := Tryd.underlying69
  have hu51 := Tryd.underlying51
  unfold rowF at h
  obtain ⟨⟨a1, p1⟩, h1, h2⟩ := Option.bind_eq_some_iff.1 h
  have HONE := Aside0.mk hone
  have H1 := Aside0.mk (hone deep p p1 a1 w hd h1 hp)
  have H2 := Aside0.mk h2
  have HD := Aside0.mk hd
  clear hone h h1 h2 hp hd
  go_enter Tryd.func55, Tryd.ntmps55
  go_wp2_with (go_at_call 56; refine H1.out.mono ?_; rintro e w1 ⟨rfl, hb⟩; have HP1 := Aside0.mk hb; clear hb)
  go_loopg [11] k (fun kq v11 w' => ∃ (x : Int) (p' : PS), v11 = .int .i64 x ∧ Aside0 (rowL kind sign one kq deep x p' = some (a, q)) ∧ Aside0 (Par w0 g p' w'))
  case atStart => exact ⟨a1, p1, rfl, H2, HP1⟩
  case round =>
    clear HP1 H2 H1
    obtain ⟨x, p', rfl, HA, HP⟩ := hrel
    cases gk with
    | zero => exact absurd HA.out (by simp [rowL])
    | succ k1 =>
      have H := HA.out
      clear HA
      rw [rowL] at H
      have hc2 := HP.out.cell_ok
      by_cases hok : p'.ok = true
      · rw [if_pos hok] at H
        rw [hok] at hc2
        clear hok
        by_cases ht : (takeF sign p').1 = true
        · rw [if_pos ht] at H
          obtain ⟨⟨b, p2⟩, hb, H⟩ := Option.bind_eq_some_iff.1 H
          obtain ⟨⟨a2, p3⟩, hq, H⟩ := Option.bind_eq_some_iff.1 H
          have HT := Aside0.mk (show ∀ W : World, Par w0 g p' W → Calls Tryd.prog 39 #[.pointer (some ⟨g, 0, none⟩), .string sign] W fun e W' => e = .returned (.bool true) ∧ Par w0 g (takeF sign p').2 W' from fun W hW => by have := take_calls w0 g p' sign W hW; rwa [ht] at this)
          have HO := Aside0.mk hb
          have HQ := Aside0.mk hq
          have HN := Aside0.mk H
          clear ht hb hq H
          go_wp2_with (first | (go_at_call 39; refine (HT.out _ HP.out).mono ?_; rintro e w2 ⟨rfl, hb⟩; have HP2 := Aside0.mk hb; clear hb hc2) | (go_at_call 56; refine (HONE.out _ _ _ _ _ HD.out HO.out HP2.out).mono ?_; rintro e w3 ⟨rfl, hb⟩; have HP3 := Aside0.mk hb; clear hb) | (go_at_call 63; refine (put_calls w0 g p2 ⟨kind, ⟨#[]⟩, x, b⟩ a2 p3 _ HP3.out HQ.out).mono ?_; rintro e w4 ⟨rfl, hb⟩; have HP4 := Aside0.mk hb; clear hb))
          go_roundg k1
          case rel => exact ⟨a2, p3, rfl, HN, HP4⟩
          case measure => omega
        · rw [if_neg ht] at H
          obtain ⟨rfl, rfl⟩ := Prod.mk.inj (Option.some.inj H)
          have ht' : (takeF sign p').1 = false := by simpa using ht
          have HT := Aside0.mk (show ∀ W : World, Par w0 g p' W → Calls Tryd.prog 39 #[.pointer (some ⟨g, 0, none⟩), .string sign] W fun e W' => e = .returned (.bool false) ∧ Par w0 g (takeF sign p').2 W' from fun W hW => by have := take_calls w0 g p' sign W hW; rwa [ht'] at this)
          clear ht ht' H
          go_wp2_with (go_at_call 39; refine (HT.out _ HP.out).mono ?_; rintro e w2 ⟨rfl, hb⟩; have HP2 := Aside0.mk hb; clear hb hc2)
          go_ret
          exact ⟨rfl, HP2.out⟩
      · rw [if_neg hok] at H
        obtain ⟨rfl, rfl⟩ := Prod.mk.inj (Option.some.inj H)
        have hok' : p'.ok = false := by simpa using hok
        rw [hok'] at hc2
        clear hok hok' H
        go_wp2
        go_ret
        exact ⟨rfl, HP.out⟩
set_option maxHeartbeats 8000000 in
set_option maxRecDepth 100000 in
theorem row_calls64 (w0 : World) (g : Nat) (kind : Int) (sign : ByteArray) (one : Int → PS → Option (Int × PS))
    (hone : ∀ (deep : Int) (p q : PS) (a : Int) (W : World), 0 ≤ deep ∧ deep ≤ 40 → one deep p = some (a, q) → Par w0 g p W → Calls Tryd.prog 64 #[.pointer (some ⟨g, 0, none⟩), .int .i64 deep] W fun e W' => e = .returned (.int .i64 a) ∧ Par w0 g q W')
    (k : Nat) (deep : Int) (p q : PS) (a : Int) (w : World) (hd : 0 ≤ deep ∧ deep ≤ 40) (h : rowF k kind sign one deep p = some (a, q)) (hp : Par w0 g p w) :
    Calls Tryd.prog 55 #[.pointer (some ⟨g, 0, none⟩), .int .i64 kind, .string sign, .func (.func 64) #[.pointer (some ⟨g, 0, none⟩)] #[], .int .i64 deep] w fun e w' => e = .returned (.int .i64 a) ∧ Par w0 g q w' := by
  have hu67 := Tryd.underlying67
  have hu69 := Tryd.underlying69
  have hu51 := Tryd.underlying51
  unfold rowF at h
  obtain ⟨⟨a1, p1⟩, h1, h2⟩ := Option.bind_eq_some_iff.1 h
  have HONE := Aside0.mk hone
  have H1 := Aside0.mk (hone deep p p1 a1 w hd h1 hp)
  have H2 := Aside0.mk h2
  have HD := Aside0.mk hd
  clear hone h h1 h2 hp hd
  go_enter Tryd.func55, Tryd.ntmps55
  go_wp2_with (go_at_call 64; refine H1.out.mono ?_; rintro e w1 ⟨rfl, hb⟩; have HP1 := Aside0.mk hb; clear hb)
  go_loopg [11] k (fun kq v11 w' => ∃ (x : Int) (p' : PS), v11 = .int .i64 x ∧ Aside0 (rowL kind sign one kq deep x p' = some (a, q)) ∧ Aside0 (Par w0 g p' w'))
  case atStart => exact ⟨a1, p1, rfl, H2, HP1⟩
  case round =>
    clear HP1 H2 H1
    obtain ⟨x, p', rfl, HA, HP⟩ := hrel
    cases gk with
    | zero => exact absurd HA.out (by simp [rowL])
    | succ k1 =>
      have H := HA.out
      clear HA
      rw [rowL] at H
      have hc2 := HP.out.cell_ok
      by_cases hok : p'.ok = true
      · rw [if_pos hok] at H
        rw [hok] at hc2
        clear hok
        by_cases ht : (takeF sign p').1 = true
        · rw [if_pos ht] at H
          obtain ⟨⟨b, p2⟩, hb, H⟩ := Option.bind_eq_some_iff.1 H
          obtain ⟨⟨a2, p3⟩, hq, H⟩ := Option.bind_eq_some_iff.1 H
          have HT := Aside0.mk (show ∀ W : World, Par w0 g p' W → Calls Tryd.prog 39 #[.pointer (some ⟨g, 0, none⟩), .string sign] W fun e W' => e = .returned (.bool true) ∧ Par w0 g (takeF sign p').2 W' from fun W hW => by have := take_calls w0 g p' sign W hW; rwa [ht] at this)
          have HO := Aside0.mk hb
          have HQ := Aside0.mk hq
          have HN := Aside0.mk H
          clear ht hb hq H
          go_wp2_with (first | (go_at_call 39; refine (HT.out _ HP.out).mono ?_; rintro e w2 ⟨rfl, hb⟩; have HP2 := Aside0.mk hb; clear hb hc2) | (go_at_call 64; refine (HONE.out _ _ _ _ _ HD.out HO.out HP2.out).mono ?_; rintro e w3 ⟨rfl, hb⟩; have HP3 := Aside0.mk hb; clear hb) | (go_at_call 63; refine (put_calls w0 g p2 ⟨kind, ⟨#[]⟩, x, b⟩ a2 p3 _ HP3.out HQ.out).mono ?_; rintro e w4 ⟨rfl, hb⟩; have HP4 := Aside0.mk hb; clear hb))
          go_roundg k1
          case rel => exact ⟨a2, p3, rfl, HN, HP4⟩
          case measure => omega
        · rw [if_neg ht] at H
          obtain ⟨rfl, rfl⟩ := Prod.mk.inj (Option.some.inj H)
          have ht' : (takeF sign p').1 = false := by simpa using ht
          have HT := Aside0.mk (show ∀ W : World, Par w0 g p' W → Calls Tryd.prog 39 #[.pointer (some ⟨g, 0, none⟩), .string sign] W fun e W' => e = .returned (.bool false) ∧ Par w0 g (takeF sign p').2 W' from fun W hW => by have := take_calls w0 g p' sign W hW; rwa [ht'] at this)
          clear ht ht' H
          go_wp2_with (go_at_call 39; refine (HT.out _ HP.out).mono ?_; rintro e w2 ⟨rfl, hb⟩; have HP2 := Aside0.mk hb; clear hb hc2)
          go_ret
          exact ⟨rfl, HP2.out⟩
      · rw [if_neg hok] at H
        obtain ⟨rfl, rfl⟩ := Prod.mk.inj (Option.some.inj H)
        have hok' : p'.ok = false := by simpa using hok
        rw [hok'] at hc2
        clear hok hok' H
        go_wp2
        go_ret
        exact ⟨rfl, HP.out⟩
end Go.Proofs.YtfnikmkjhbbbgaaDoor.HExpr
