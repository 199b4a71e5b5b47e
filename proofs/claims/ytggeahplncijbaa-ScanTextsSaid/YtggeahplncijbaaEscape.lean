/- Contracts of scan.escape: the plain function it computes; no conditions. -/
import Derived.Test.YtggeahplncijbaaMap
set_option linter.unusedVariables false
set_option linter.unusedSimpArgs false
namespace Go.Proofs.Ytggeahplncijbaa.Val
open Go.RowKit Go.Proofs.YtggeahplncijbaaW.PrintWords Go.Proofs.YtggeahplncijbaaW.PrintLast Go.Proofs.YtggeahplncijbaaW.PrintMore
attribute [local go_sem] max2_int min2_int max_two min_two max_three min_three max_four min_four

def escL : List UInt8 := [97, 98, 102, 110, 114, 116, 118, 92, 34]
def escI (c : UInt8) : Int := Lib.indexByte escL c
theorem escI_range (c : UInt8) : -1 ≤ escI c ∧ escI c ≤ 8 := by
  have h : ∀ n : Fin 256, -1 ≤ escI (UInt8.ofNat n.val) ∧ escI (UInt8.ofNat n.val) ≤ 8 := by decide +kernel
  have := h ⟨c.toNat, c.toNat_lt⟩
  simpa using this
theorem esc_at (c : UInt8) (w : World) : Calls Try.prog 30 #[.string ⟨#[97, 98, 102, 110, 114, 116, 118, 92, 34]⟩, .int .u8 c.toNat] w fun e w' => e = .returned (.int .i64 (escI c)) ∧ w = w' := by
  refine (Try.strings_IndexByte _ _ _).mono ?_
  rintro e w' ⟨rfl, rfl⟩
  exact ⟨by simp [escI, escL], rfl⟩

set_option maxHeartbeats 4000000 in
set_option maxRecDepth 100000 in
theorem esc_empty (w : World) :
    Calls Try.prog 20 #[.string ⟨#[]⟩] w fun e w' => e = .returned (.tuple #[.string ⟨#[]⟩, .int .i64 0]) ∧ Below w.heap.size w w' := by
  go_enter Try.func20, Try.ntmps20
  go_wp2
  go_ret2
  exact ⟨rfl, Below.refl _ _⟩
theorem conv_one (W : World) (c : Int) (h0 : 0 ≤ c) (h1 : c ≤ 255) : (convert 68 9 (.slice (some ⟨W.heap.size, 0, none⟩) 1 1)).run Try.prog (W.alloc (.cells #[.int .u8 c] 5)) = .ok (.string ⟨#[c.toNat.toUInt8]⟩) (W.alloc (.cells #[.int .u8 c] 5)) := by
  have h := run_convert_bytes_arg (P := Try.prog) (W.alloc (.cells #[.int .u8 c] 5)) 68 5 Try.underlying68 Try.underlying5 W.heap.size 0 1 1 [c] rfl (fun i hi => by
    obtain rfl : i = 0 := by omega
    rw [show (0 + 0 : Nat) = 0 from rfl]
    simp [World.cell?, World.alloc, -World.alloc_eq]) 9 Try.underlying9
  rw [h]
  simp [strOfNums]
set_option maxHeartbeats 4000000 in
set_option maxRecDepth 100000 in
theorem esc_one (s : ByteArray) (c : UInt8) (w : World) (h0 : 0 < s.size) (hc : s[0] = c) (he : s.toList.isEmpty = false) (he2 : ¬ s.toList = []) (i : Int) (hi : i = escI c) (h1 : 0 ≤ i) (h2 : i ≤ 8) :
    Calls Try.prog 20 #[.string s] w fun e w' => e = .returned (.tuple #[.string ((⟨#[7, 8, 12, 10, 13, 9, 11, 92, 34]⟩ : ByteArray).extract i.toNat (i.toNat + 1)), .int .i64 1]) ∧ Below w.heap.size w w' := by
  have HI := Aside0.mk (fun W => hi ▸ esc_at c W)
  clear hi
  have h9 : i = 0 ∨ i = 1 ∨ i = 2 ∨ i = 3 ∨ i = 4 ∨ i = 5 ∨ i = 6 ∨ i = 7 ∨ i = 8 := by omega
  rcases h9 with rfl | rfl | rfl | rfl | rfl | rfl | rfl | rfl | rfl
  all_goals
    go_enter Try.func20, Try.ntmps20
    go_wp2_with (go_at_call 30; refine (HI.out _).mono ?_; rintro e w' ⟨rfl, rfl⟩)
    go_ret2
    exact ⟨rfl, Below.refl _ _⟩
set_option maxHeartbeats 4000000 in
set_option maxRecDepth 100000 in
theorem esc_digit_yes (s : ByteArray) (c : UInt8) (w : World) (h0 : 0 < s.size) (hc : s[0] = c) (hs : s.size ≤ 140737488351232) (he : s.toList.isEmpty = false) (he2 : ¬ s.toList = []) (hi : escI c = -1) (hd0 : 48 ≤ (c.toNat : Int)) (hd1 : (c.toNat : Int) ≤ 57) (v : Int) (hv0 : 0 ≤ v) (hv1 : v < 256) (hv : ∀ W, Calls Try.prog 32 #[.string s, .int .i64 3, .int .i32 8] W fun e w' => e = .returned (.tuple #[.int .i32 v, .bool true]) ∧ Below W.heap.size W w') :
    Calls Try.prog 20 #[.string s] w fun e w' => e = .returned (.tuple #[.string ⟨#[v.toNat.toUInt8]⟩, .int .i64 3]) ∧ Below w.heap.size w w' := by
  have HI := Aside0.mk (fun W => hi ▸ esc_at c W)
  have HV := Aside0.mk hv
  clear hi hv
  have u0 := upd0
  have u1 := upd1
  have u2 := upd2
  have ul := look_many
  have hmm := @run_makeMap Try.prog
  have hT : True := trivial
  have hcv := fun W => conv_one W v hv0 (by omega)
  go_enter Try.func20, Try.ntmps20
  go_wp2_with (first | (go_at_call 30; refine (HI.out _).mono ?_; rintro e w' ⟨rfl, rfl⟩) | (go_at_call 32; refine (HV.out _).mono ?_; rintro e w' ⟨rfl, hbv⟩) | go_in)
  go_ret2
  exact ⟨rfl, below_alloc (below_then (below_alloc (Below.refl _ _) _) (by simp) hbv) _⟩
set_option maxHeartbeats 4000000 in
set_option maxRecDepth 100000 in
theorem esc_digit_big (s : ByteArray) (c : UInt8) (w : World) (h0 : 0 < s.size) (hc : s[0] = c) (hs : s.size ≤ 140737488351232) (he : s.toList.isEmpty = false) (he2 : ¬ s.toList = []) (hi : escI c = -1) (hd0 : 48 ≤ (c.toNat : Int)) (hd1 : (c.toNat : Int) ≤ 57) (v : Int) (hv1 : 256 ≤ v) (hv : ∀ W, Calls Try.prog 32 #[.string s, .int .i64 3, .int .i32 8] W fun e w' => e = .returned (.tuple #[.int .i32 v, .bool true]) ∧ Below W.heap.size W w') :
    Calls Try.prog 20 #[.string s] w fun e w' => e = .returned (.tuple #[.string ⟨#[]⟩, .int .i64 0]) ∧ Below w.heap.size w w' := by
  have HI := Aside0.mk (fun W => hi ▸ esc_at c W)
  have HV := Aside0.mk hv
  clear hi hv
  have u0 := upd0
  have u1 := upd1
  have u2 := upd2
  have ul := look_many
  have hmm := @run_makeMap Try.prog
  have hT : True := trivial
  go_enter Try.func20, Try.ntmps20
  go_wp2_with (first | (go_at_call 30; refine (HI.out _).mono ?_; rintro e w' ⟨rfl, rfl⟩) | (go_at_call 32; refine (HV.out _).mono ?_; rintro e w' ⟨rfl, hbv⟩) | go_in)
  go_ret2
  exact ⟨rfl, below_then (below_alloc (Below.refl _ _) _) (by simp) hbv⟩
set_option maxHeartbeats 4000000 in
set_option maxRecDepth 100000 in
theorem esc_digit_no (s : ByteArray) (c : UInt8) (w : World) (h0 : 0 < s.size) (hc : s[0] = c) (hs : s.size ≤ 140737488351232) (he : s.toList.isEmpty = false) (he2 : ¬ s.toList = []) (hi : escI c = -1) (hd0 : 48 ≤ (c.toNat : Int)) (hd1 : (c.toNat : Int) ≤ 57) (v : Int) (hv : ∀ W, Calls Try.prog 32 #[.string s, .int .i64 3, .int .i32 8] W fun e w' => e = .returned (.tuple #[.int .i32 v, .bool false]) ∧ Below W.heap.size W w') :
    Calls Try.prog 20 #[.string s] w fun e w' => e = .returned (.tuple #[.string ⟨#[]⟩, .int .i64 0]) ∧ Below w.heap.size w w' := by
  have HI := Aside0.mk (fun W => hi ▸ esc_at c W)
  have HV := Aside0.mk hv
  clear hi hv
  have u0 := upd0
  have u1 := upd1
  have u2 := upd2
  have ul := look_many
  have hmm := @run_makeMap Try.prog
  have hT : True := trivial
  go_enter Try.func20, Try.ntmps20
  go_wp2_with (first | (go_at_call 30; refine (HI.out _).mono ?_; rintro e w' ⟨rfl, rfl⟩) | (go_at_call 32; refine (HV.out _).mono ?_; rintro e w' ⟨rfl, hbv⟩) | go_in)
  go_ret2
  exact ⟨rfl, below_then (below_alloc (Below.refl _ _) _) (by simp) hbv⟩
set_option maxHeartbeats 4000000 in
set_option maxRecDepth 100000 in
theorem esc_x_yes (s : ByteArray) (c : UInt8) (w : World) (h0 : 0 < s.size) (hc : s[0] = c) (hs : s.size ≤ 140737488351232) (he : s.toList.isEmpty = false) (he2 : ¬ s.toList = []) (hi : escI c = -1) (hnd : 57 < (c.toNat : Int)) (hc2 : (c.toNat : Int) ≤ 255) (hm : manyOf (c.toNat : Int) = 2) (hcx : ((c.toNat : Int) == 120) = true) (v : Int) (hv0 : 0 ≤ v) (hv1 : v < 256) (hv : ∀ W, Calls Try.prog 32 #[.string (s.extract 1 s.size), .int .i64 2, .int .i32 16] W fun e w' => e = .returned (.tuple #[.int .i32 v, .bool true]) ∧ Below W.heap.size W w') :
    Calls Try.prog 20 #[.string s] w fun e w' => e = .returned (.tuple #[.string ⟨#[v.toNat.toUInt8]⟩, .int .i64 3]) ∧ Below w.heap.size w w' := by
  have HI := Aside0.mk (fun W => hi ▸ esc_at c W)
  have HV := Aside0.mk hv
  clear hi hv
  have u0 := upd0
  have u1 := upd1
  have u2 := upd2
  have ul := look_many
  have hmm := @run_makeMap Try.prog
  have hT : True := trivial
  have hcv := fun W => conv_one W v hv0 (by omega)
  go_enter Try.func20, Try.ntmps20
  go_wp2_with (first | (go_at_call 30; refine (HI.out _).mono ?_; rintro e w' ⟨rfl, rfl⟩) | (go_at_call 32; refine (HV.out _).mono ?_; rintro e w' ⟨rfl, hbv⟩) | go_in)
  go_ret2
  exact ⟨rfl, below_alloc (below_then (below_alloc (Below.refl _ _) _) (by simp) hbv) _⟩
set_option maxHeartbeats 4000000 in
set_option maxRecDepth 100000 in
theorem esc_x_no (s : ByteArray) (c : UInt8) (w : World) (h0 : 0 < s.size) (hc : s[0] = c) (hs : s.size ≤ 140737488351232) (he : s.toList.isEmpty = false) (he2 : ¬ s.toList = []) (hi : escI c = -1) (hnd : 57 < (c.toNat : Int)) (hc2 : (c.toNat : Int) ≤ 255) (hm : manyOf (c.toNat : Int) = 2) (hcx : ((c.toNat : Int) == 120) = true) (v : Int) (hv : ∀ W, Calls Try.prog 32 #[.string (s.extract 1 s.size), .int .i64 2, .int .i32 16] W fun e w' => e = .returned (.tuple #[.int .i32 v, .bool false]) ∧ Below W.heap.size W w') :
    Calls Try.prog 20 #[.string s] w fun e w' => e = .returned (.tuple #[.string ⟨#[]⟩, .int .i64 0]) ∧ Below w.heap.size w w' := by
  have HI := Aside0.mk (fun W => hi ▸ esc_at c W)
  have HV := Aside0.mk hv
  clear hi hv
  have u0 := upd0
  have u1 := upd1
  have u2 := upd2
  have ul := look_many
  have hmm := @run_makeMap Try.prog
  have hT : True := trivial
  go_enter Try.func20, Try.ntmps20
  go_wp2_with (first | (go_at_call 30; refine (HI.out _).mono ?_; rintro e w' ⟨rfl, rfl⟩) | (go_at_call 32; refine (HV.out _).mono ?_; rintro e w' ⟨rfl, hbv⟩) | go_in)
  go_ret2
  exact ⟨rfl, below_then (below_alloc (Below.refl _ _) _) (by simp) hbv⟩
set_option maxHeartbeats 4000000 in
set_option maxRecDepth 100000 in
theorem esc_u_yes (s : ByteArray) (c : UInt8) (w : World) (h0 : 0 < s.size) (hc : s[0] = c) (hs : s.size ≤ 140737488351232) (he : s.toList.isEmpty = false) (he2 : ¬ s.toList = []) (hi : escI c = -1) (hnd : 57 < (c.toNat : Int)) (hc2 : (c.toNat : Int) ≤ 255) (m : Nat) (hm0 : 0 < (m : Int)) (hm1 : (m : Int) ≤ 8) (hm : manyOf (c.toNat : Int) = m) (hcx : ((c.toNat : Int) == 120) = false) (v : Int) (hr : Lib.validRune v = true) (hv : ∀ W, Calls Try.prog 32 #[.string (s.extract 1 s.size), .int .i64 m, .int .i32 16] W fun e w' => e = .returned (.tuple #[.int .i32 v, .bool true]) ∧ Below W.heap.size W w') :
    Calls Try.prog 20 #[.string s] w fun e w' => e = .returned (.tuple #[.string (Utf8.encode v), .int .i64 (1 + (m : Int))]) ∧ Below w.heap.size w w' := by
  have HI := Aside0.mk (fun W => hi ▸ esc_at c W)
  have HV := Aside0.mk hv
  clear hi hv
  have u0 := upd0
  have u1 := upd1
  have u2 := upd2
  have ul := look_many
  have hmm := @run_makeMap Try.prog
  have hT : True := trivial
  go_enter Try.func20, Try.ntmps20
  go_wp2_with (first | (go_at_call 30; refine (HI.out _).mono ?_; rintro e w' ⟨rfl, rfl⟩) | (go_at_call 32; refine (HV.out _).mono ?_; rintro e w' ⟨rfl, hbv⟩) | (go_at_call 33; refine (Try.utf8_ValidRune _ _).mono ?_; rintro e w' ⟨rfl, rfl⟩) | go_in)
  go_ret2
  exact ⟨rfl, below_then (below_alloc (Below.refl _ _) _) (by simp) hbv⟩
set_option maxHeartbeats 4000000 in
set_option maxRecDepth 100000 in
theorem esc_u_bad (s : ByteArray) (c : UInt8) (w : World) (h0 : 0 < s.size) (hc : s[0] = c) (hs : s.size ≤ 140737488351232) (he : s.toList.isEmpty = false) (he2 : ¬ s.toList = []) (hi : escI c = -1) (hnd : 57 < (c.toNat : Int)) (hc2 : (c.toNat : Int) ≤ 255) (m : Nat) (hm0 : 0 < (m : Int)) (hm1 : (m : Int) ≤ 8) (hm : manyOf (c.toNat : Int) = m) (hcx : ((c.toNat : Int) == 120) = false) (v : Int) (hr : Lib.validRune v = false) (hv : ∀ W, Calls Try.prog 32 #[.string (s.extract 1 s.size), .int .i64 m, .int .i32 16] W fun e w' => e = .returned (.tuple #[.int .i32 v, .bool true]) ∧ Below W.heap.size W w') :
    Calls Try.prog 20 #[.string s] w fun e w' => e = .returned (.tuple #[.string ⟨#[]⟩, .int .i64 0]) ∧ Below w.heap.size w w' := by
  have HI := Aside0.mk (fun W => hi ▸ esc_at c W)
  have HV := Aside0.mk hv
  clear hi hv
  have u0 := upd0
  have u1 := upd1
  have u2 := upd2
  have ul := look_many
  have hmm := @run_makeMap Try.prog
  have hT : True := trivial
  go_enter Try.func20, Try.ntmps20
  go_wp2_with (first | (go_at_call 30; refine (HI.out _).mono ?_; rintro e w' ⟨rfl, rfl⟩) | (go_at_call 32; refine (HV.out _).mono ?_; rintro e w' ⟨rfl, hbv⟩) | (go_at_call 33; refine (Try.utf8_ValidRune _ _).mono ?_; rintro e w' ⟨rfl, rfl⟩) | go_in)
  go_ret2
  exact ⟨rfl, below_then (below_alloc (Below.refl _ _) _) (by simp) hbv⟩
set_option maxHeartbeats 4000000 in
set_option maxRecDepth 100000 in
theorem esc_u_no (s : ByteArray) (c : UInt8) (w : World) (h0 : 0 < s.size) (hc : s[0] = c) (hs : s.size ≤ 140737488351232) (he : s.toList.isEmpty = false) (he2 : ¬ s.toList = []) (hi : escI c = -1) (hnd : 57 < (c.toNat : Int)) (hc2 : (c.toNat : Int) ≤ 255) (m : Nat) (hm0 : 0 < (m : Int)) (hm1 : (m : Int) ≤ 8) (hm : manyOf (c.toNat : Int) = m) (hcx : ((c.toNat : Int) == 120) = false) (v : Int) (hv : ∀ W, Calls Try.prog 32 #[.string (s.extract 1 s.size), .int .i64 m, .int .i32 16] W fun e w' => e = .returned (.tuple #[.int .i32 v, .bool false]) ∧ Below W.heap.size W w') :
    Calls Try.prog 20 #[.string s] w fun e w' => e = .returned (.tuple #[.string ⟨#[]⟩, .int .i64 0]) ∧ Below w.heap.size w w' := by
  have HI := Aside0.mk (fun W => hi ▸ esc_at c W)
  have HV := Aside0.mk hv
  clear hi hv
  have u0 := upd0
  have u1 := upd1
  have u2 := upd2
  have ul := look_many
  have hmm := @run_makeMap Try.prog
  have hT : True := trivial
  go_enter Try.func20, Try.ntmps20
  go_wp2_with (first | (go_at_call 30; refine (HI.out _).mono ?_; rintro e w' ⟨rfl, rfl⟩) | (go_at_call 32; refine (HV.out _).mono ?_; rintro e w' ⟨rfl, hbv⟩) | (go_at_call 33; refine (Try.utf8_ValidRune _ _).mono ?_; rintro e w' ⟨rfl, rfl⟩) | go_in)
  go_ret2
  exact ⟨rfl, below_then (below_alloc (Below.refl _ _) _) (by simp) hbv⟩
set_option maxHeartbeats 4000000 in
set_option maxRecDepth 100000 in
theorem esc_else (s : ByteArray) (c : UInt8) (w : World) (h0 : 0 < s.size) (hc : s[0] = c) (hs : s.size ≤ 140737488351232) (he : s.toList.isEmpty = false) (he2 : ¬ s.toList = []) (hi : escI c = -1) (hnd : ¬ (48 ≤ (c.toNat : Int) ∧ (c.toNat : Int) ≤ 57)) (hc2 : (c.toNat : Int) ≤ 255) (hm : manyOf (c.toNat : Int) = 0) (hcx : ((c.toNat : Int) == 120) = false) :
    Calls Try.prog 20 #[.string s] w fun e w' => e = .returned (.tuple #[.string ⟨#[]⟩, .int .i64 0]) ∧ Below w.heap.size w w' := by
  have HI := Aside0.mk (fun W => hi ▸ esc_at c W)
  clear hi
  have u0 := upd0
  have u1 := upd1
  have u2 := upd2
  have ul := look_many
  have hmm := @run_makeMap Try.prog
  have hT : True := trivial
  rcases Int.lt_or_le (c.toNat : Int) 48 with h48 | h48
  · clear hnd
    go_enter Try.func20, Try.ntmps20
    go_wp2_with (first | (go_at_call 30; refine (HI.out _).mono ?_; rintro e w' ⟨rfl, rfl⟩) | go_in)
    go_ret2
    exact ⟨rfl, below_alloc (Below.refl _ _) _⟩
  · have h57 : 57 < (c.toNat : Int) := by omega
    clear hnd
    go_enter Try.func20, Try.ntmps20
    go_wp2_with (first | (go_at_call 30; refine (HI.out _).mono ?_; rintro e w' ⟨rfl, rfl⟩) | go_in)
    go_ret2
    exact ⟨rfl, below_alloc (Below.refl _ _) _⟩
end Go.Proofs.Ytggeahplncijbaa.Val
