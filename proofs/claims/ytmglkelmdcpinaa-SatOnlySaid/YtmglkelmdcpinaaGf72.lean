/- The contract of the function round_Shift (number 72 of the translation): what its call computes, as a plain Lean function; memory that was there stays as it was. Conditions: none beyond the theorem's own. Written by a program (gprint.py). -/
import Derived.Test.YtmglkelmdcpinaaG0
namespace Go.Proofs.Ytmglkelmdcpinaa.G
open Go.RowKit Go.Proofs.YtmglkelmdcpinaaW.PrintWords Go.Proofs.YtmglkelmdcpinaaW.PrintLast Go.Proofs.YtmglkelmdcpinaaW.PrintMore
attribute [local go_sem] max2_int min2_int max_two min_two max_three min_three max_four min_four   -- for this text's walks alone
set_option linter.unusedVariables false
set_option linter.unusedSimpArgs false

/-! ### round_Shift: function 72 -/
theorem round_modes.calls (w : World) : Calls Try.prog 135 #[] w fun e w' => e = .returned (.slice (some ⟨w.heap.size, 0, none⟩) 3 3) ∧ w' = w.alloc (.cells #[.func (.func 172) #[] #[], .func (.func 173) #[] #[], .func (.func 174) #[] #[]] 136) := by
  go_enter Try.func135, Try.ntmps135
  go_wp2
  go_ret
  exact ⟨rfl, rfl⟩
def round_modes.u2 (a b : Int) : Bool := decide (b ≤ a)
def round_modes.u3 (a b : Int) (c : Bool) : Bool := decide (b < a) || (a == b && c)
theorem round_modes.calls1 (a b : Int) (c : Bool) (w : World) : Calls Try.prog 172 #[.int .i64 a, .int .i64 b, .bool c] w fun e w' => e = .returned (.bool false) ∧ w' = w := by
  go_enter Try.func172, Try.ntmps172
  go_wp2
  go_ret
  exact ⟨rfl, rfl⟩
theorem round_modes.calls2 (a b : Int) (c : Bool) (w : World) : Calls Try.prog 173 #[.int .i64 a, .int .i64 b, .bool c] w fun e w' => e = .returned (.bool (round_modes.u2 a b)) ∧ w' = w := by
  go_enter Try.func173, Try.ntmps173
  go_wp2
  go_ret
  exact ⟨rfl, rfl⟩
theorem round_modes.calls3 (a b : Int) (c : Bool) (w : World) : Calls Try.prog 174 #[.int .i64 a, .int .i64 b, .bool c] w fun e w' => e = .returned (.bool (round_modes.u3 a b c)) ∧ w' = w := by
  unfold round_modes.u3
  by_cases h : b < a
  · have g1 : decide (b < a) = true := by simpa using h
    go_enter Try.func174, Try.ntmps174
    go_wp2
    go_ret
    exact ⟨by simp [h], rfl⟩
  · have g1 : decide (b < a) = false := by simpa using h
    by_cases h2 : a = b
    · have g2 : (a == b) = true := by simpa using h2
      clear h h2
      go_enter Try.func174, Try.ntmps174
      go_wp2
      go_ret
      exact ⟨by simp [g1, g2], rfl⟩
    · have g2 : (a == b) = false := by simpa using h2
      clear h h2
      go_enter Try.func174, Try.ntmps174
      go_wp2
      go_ret
      exact ⟨by simp [g1, g2], rfl⟩
/-- whether a quotient goes up, of mode 0, 1, 2 -/
def round_Shift.up (x s m : Int) : Bool :=
  if m = 0 then false
  else if m = 1 then round_modes.u2 (bits BinOp.and IntKind.i64 x (wrap64 (wrap64 (2 ^ s.toNat) - 1))) (wrap64 (2 ^ (s.toNat - 1)))
  else round_modes.u3 (bits BinOp.and IntKind.i64 x (wrap64 (wrap64 (2 ^ s.toNat) - 1))) (wrap64 (2 ^ (s.toNat - 1))) (bits BinOp.and IntKind.i64 (x / 2 ^ s.toNat) 1 == 1)
def round_Shift.q (x s m : Int) : Int := if round_Shift.up x s m = true then wrap64 (x / 2 ^ s.toNat + 1) else x / 2 ^ s.toNat
def round_Shift.f (a0 a1 a2 : Int) : Option (Int × Int) :=
  if a1 < 0 ∨ 62 < a1 ∨ a2 < 0 ∨ 3 ≤ a2 then some (0, 1)
  else if a1 = 0 then some (a0, 0)
  else some (round_Shift.q a0 a1 a2, 0)

set_option maxHeartbeats 1000000 in
theorem round_Shift.c0 (a0 a1 : Int) (w : World) (h1 : 1 ≤ a1) (h2 : a1 ≤ 62) : Calls Try.prog 72 #[.int .i64 a0, .int .i64 a1, .int .i64 0] w fun e w' => e = .returned (.tuple #[.int .i64 (a0 / 2 ^ a1.toNat), .int .i64 0]) ∧ Below w.heap.size w w' := by
  have g1 : decide (a1 < 0) = false := by simp; omega
  have g2 : decide (62 < a1) = false := by simp; omega
  have g3 : (a1 == 0) = false := by simp; omega
  go_enter Try.func72, Try.ntmps72
  go_wp2_with (first | (go_at_call 135; refine (round_modes.calls _).mono ?_; rintro e w' ⟨rfl, rfl⟩))
  go_quiet ((go_at_call 172; exact Calls.quiet_of_same (round_modes.calls1 _ _ _ _)))
  go_wp2
  go_ret2
  exact ⟨rfl, pw_below_drewN (below_alloc (Below.refl _ _) _) _⟩
set_option maxHeartbeats 1000000 in
theorem round_Shift.c1 (a0 a1 : Int) (w : World) (h1 : 1 ≤ a1) (h2 : a1 ≤ 62) : Calls Try.prog 72 #[.int .i64 a0, .int .i64 a1, .int .i64 1] w fun e w' => e = .returned (.tuple #[.int .i64 (round_Shift.q a0 a1 1), .int .i64 0]) ∧ Below w.heap.size w w' := by
  have g1 : decide (a1 < 0) = false := by simp; omega
  have g2 : decide (62 < a1) = false := by simp; omega
  have g3 : (a1 == 0) = false := by simp; omega
  go_enter Try.func72, Try.ntmps72
  go_wp2_with (first | (go_at_call 135; refine (round_modes.calls _).mono ?_; rintro e w' ⟨rfl, rfl⟩))
  go_quiet ((go_at_call 173; exact Calls.quiet_of_same (round_modes.calls2 _ _ _ _)))
  go_wp2
  all_goals
    go_ret2
    exact ⟨by unfold round_Shift.q round_Shift.up; simp [*], pw_below_drewN (below_alloc (Below.refl _ _) _) _⟩
set_option maxHeartbeats 1000000 in
theorem round_Shift.c2 (a0 a1 : Int) (w : World) (h1 : 1 ≤ a1) (h2 : a1 ≤ 62) : Calls Try.prog 72 #[.int .i64 a0, .int .i64 a1, .int .i64 2] w fun e w' => e = .returned (.tuple #[.int .i64 (round_Shift.q a0 a1 2), .int .i64 0]) ∧ Below w.heap.size w w' := by
  have g1 : decide (a1 < 0) = false := by simp; omega
  have g2 : decide (62 < a1) = false := by simp; omega
  have g3 : (a1 == 0) = false := by simp; omega
  go_enter Try.func72, Try.ntmps72
  go_wp2_with (first | (go_at_call 135; refine (round_modes.calls _).mono ?_; rintro e w' ⟨rfl, rfl⟩))
  go_quiet ((go_at_call 174; exact Calls.quiet_of_same (round_modes.calls3 _ _ _ _)))
  go_wp2
  all_goals
    go_ret2
    exact ⟨by unfold round_Shift.q round_Shift.up; simp [*], pw_below_drewN (below_alloc (Below.refl _ _) _) _⟩
set_option maxHeartbeats 1000000 in
theorem round_Shift.calls (a0 a1 a2 : Int) (r1 : Int) (r2 : Int) (w : World) (h : round_Shift.f a0 a1 a2 = some (r1, r2)) :
    Calls Try.prog 72 #[.int .i64 a0, .int .i64 a1, .int .i64 a2] w fun e w' => e = .returned (.tuple #[.int .i64 r1, .int .i64 r2]) ∧ Below w.heap.size w w' := by
  unfold round_Shift.f at h
  by_cases hb : a1 < 0 ∨ 62 < a1 ∨ a2 < 0 ∨ 3 ≤ a2
  · rw [if_pos hb] at h
    simp only [Option.some.injEq, Prod.mk.injEq] at h
    obtain ⟨rfl, rfl⟩ := h
    go_enter Try.func72, Try.ntmps72
    go_wp2_with (first | (go_at_call 135; refine (round_modes.calls _).mono ?_; rintro e w' ⟨rfl, rfl⟩))
    all_goals first | (go_ret2; exact ⟨rfl, by repeat (first | exact Below.refl _ _ | apply below_alloc | apply pw_below_drewN)⟩) | (exfalso; simp at *; omega)
  · rw [if_neg hb] at h
    by_cases h0 : a1 = 0
    · rw [if_pos h0] at h
      simp only [Option.some.injEq, Prod.mk.injEq] at h
      obtain ⟨rfl, rfl⟩ := h
      have g3 : decide (a2 < 0) = false := by simp; omega
      have g4 : decide (3 ≤ a2) = false := by simp; omega
      subst h0
      clear hb
      go_enter Try.func72, Try.ntmps72
      go_wp2_with (first | (go_at_call 135; refine (round_modes.calls _).mono ?_; rintro e w' ⟨rfl, rfl⟩))
      go_ret2
      exact ⟨rfl, by repeat (first | exact Below.refl _ _ | apply below_alloc | apply pw_below_drewN)⟩
    · rw [if_neg h0] at h
      simp only [Option.some.injEq, Prod.mk.injEq] at h
      obtain ⟨rfl, rfl⟩ := h
      have hm : a2 = 0 ∨ a2 = 1 ∨ a2 = 2 := by omega
      rcases hm with rfl | rfl | rfl
      · exact round_Shift.c0 a0 a1 w (by omega) (by omega)
      · exact round_Shift.c1 a0 a1 w (by omega) (by omega)
      · exact round_Shift.c2 a0 a1 w (by omega) (by omega)

end Go.Proofs.Ytmglkelmdcpinaa.G
