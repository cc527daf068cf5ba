/- The contract of the function sat_Clamp (number 134 of the translation): what its call computes, as a plain Lean function; memory that was there stays as it was. Conditions: none beyond the theorem's own. Written by a program (gprint.py). -/
import Derived.Test.YtmglkelmdcpinaaG0
import Derived.Test.YtmglkelmdcpinaaGf20
namespace Go.Proofs.Ytmglkelmdcpinaa.G
open Go.RowKit Go.Proofs.YtmglkelmdcpinaaW.PrintWords Go.Proofs.YtmglkelmdcpinaaW.PrintLast Go.Proofs.YtmglkelmdcpinaaW.PrintMore
attribute [local go_sem] max2_int min2_int max_two min_two max_three min_three max_four min_four   -- for this text's walks alone
set_option linter.unusedVariables false
set_option linter.unusedSimpArgs false

/-! ### sat_Clamp: function 134 -/
def sat_Clamp.to (b : Nat) (x : Int) : Int := if x < -2 ^ b then -2 ^ b else if 2 ^ b - 1 < x then 2 ^ b - 1 else x
def sat_Clamp.f (a0 : Int) (a1 : Int) : Option (Int × Bool × Int) :=
  if a1 = 0 then some (sat_Clamp.to 15 a0, sat_Clamp.to 15 a0 != a0, 0)
  else if a1 = 1 then some (sat_Clamp.to 31 a0, sat_Clamp.to 31 a0 != a0, 0)
  else some (0, false, 1)

set_option maxHeartbeats 1000000 in
theorem sat_Clamp.c0 (a0 : Int) (w : World) : Calls Try.prog 134 #[.int .i64 a0, .int .i64 0] w fun e w' => e = .returned (.tuple #[.int .i64 (sat_Clamp.to 15 a0), .bool (sat_Clamp.to 15 a0 != a0), .int .i64 0]) ∧ Below w.heap.size w w' := by
  by_cases h1 : a0 < -32768
  · have h2 : (32767 : Int) < -32768 ↔ False := by decide
    have hv : sat_Clamp.to 15 a0 = -32768 := by unfold sat_Clamp.to; rw [if_pos (by simpa using h1)]; rfl
    rw [hv]
    clear hv
    go_enter Try.func134, Try.ntmps134
    go_wp2_with (fail)
    refine (sat_Bits.calls 0 15 0 _ rfl).mono ?_
    rintro e w1 ⟨rfl, ⟨⟨nq, rfl⟩⟩⟩
    go_wp2
    go_quiet (fail)
    go_wp2
    go_ret3
    exact ⟨rfl, by repeat (first | exact Below.refl _ _ | apply below_alloc | apply pw_below_drewN)⟩
  · by_cases h2 : (32767 : Int) < a0
    · have hv : sat_Clamp.to 15 a0 = 32767 := by unfold sat_Clamp.to; rw [if_neg (by simpa using h1), if_pos (by simp; omega)]; rfl
      rw [hv]
      clear hv
      go_enter Try.func134, Try.ntmps134
      go_wp2_with (fail)
      refine (sat_Bits.calls 0 15 0 _ rfl).mono ?_
      rintro e w1 ⟨rfl, ⟨⟨nq, rfl⟩⟩⟩
      go_wp2
      go_quiet (fail)
      go_wp2
      go_ret3
      exact ⟨rfl, by repeat (first | exact Below.refl _ _ | apply below_alloc | apply pw_below_drewN)⟩
    · have hv : sat_Clamp.to 15 a0 = a0 := by unfold sat_Clamp.to; rw [if_neg (by simpa using h1), if_neg (by simp; omega)]
      rw [hv]
      clear hv
      go_enter Try.func134, Try.ntmps134
      go_wp2_with (fail)
      refine (sat_Bits.calls 0 15 0 _ rfl).mono ?_
      rintro e w1 ⟨rfl, ⟨⟨nq, rfl⟩⟩⟩
      go_wp2
      go_quiet (fail)
      go_wp2
      go_ret3
      exact ⟨by simp, by repeat (first | exact Below.refl _ _ | apply below_alloc | apply pw_below_drewN)⟩

set_option maxHeartbeats 1000000 in
theorem sat_Clamp.c1 (a0 : Int) (w : World) : Calls Try.prog 134 #[.int .i64 a0, .int .i64 1] w fun e w' => e = .returned (.tuple #[.int .i64 (sat_Clamp.to 31 a0), .bool (sat_Clamp.to 31 a0 != a0), .int .i64 0]) ∧ Below w.heap.size w w' := by
  by_cases h1 : a0 < -2147483648
  · have h2 : (2147483647 : Int) < -2147483648 ↔ False := by decide
    have hv : sat_Clamp.to 31 a0 = -2147483648 := by unfold sat_Clamp.to; rw [if_pos (by simpa using h1)]; rfl
    rw [hv]
    clear hv
    go_enter Try.func134, Try.ntmps134
    go_wp2_with (fail)
    refine (sat_Bits.calls 1 31 0 _ rfl).mono ?_
    rintro e w1 ⟨rfl, ⟨⟨nq, rfl⟩⟩⟩
    go_wp2
    go_quiet (fail)
    go_wp2
    go_ret3
    exact ⟨rfl, by repeat (first | exact Below.refl _ _ | apply below_alloc | apply pw_below_drewN)⟩
  · by_cases h2 : (2147483647 : Int) < a0
    · have hv : sat_Clamp.to 31 a0 = 2147483647 := by unfold sat_Clamp.to; rw [if_neg (by simpa using h1), if_pos (by simp; omega)]; rfl
      rw [hv]
      clear hv
      go_enter Try.func134, Try.ntmps134
      go_wp2_with (fail)
      refine (sat_Bits.calls 1 31 0 _ rfl).mono ?_
      rintro e w1 ⟨rfl, ⟨⟨nq, rfl⟩⟩⟩
      go_wp2
      go_quiet (fail)
      go_wp2
      go_ret3
      exact ⟨rfl, by repeat (first | exact Below.refl _ _ | apply below_alloc | apply pw_below_drewN)⟩
    · have hv : sat_Clamp.to 31 a0 = a0 := by unfold sat_Clamp.to; rw [if_neg (by simpa using h1), if_neg (by simp; omega)]
      rw [hv]
      clear hv
      go_enter Try.func134, Try.ntmps134
      go_wp2_with (fail)
      refine (sat_Bits.calls 1 31 0 _ rfl).mono ?_
      rintro e w1 ⟨rfl, ⟨⟨nq, rfl⟩⟩⟩
      go_wp2
      go_quiet (fail)
      go_wp2
      go_ret3
      exact ⟨by simp, by repeat (first | exact Below.refl _ _ | apply below_alloc | apply pw_below_drewN)⟩

set_option maxHeartbeats 1000000 in
theorem sat_Clamp.calls (a0 : Int) (a1 : Int) (r1 : Int) (r2 : Bool) (r3 : Int) (w : World) (h : sat_Clamp.f a0 a1 = some (r1, r2, r3)) :
    Calls Try.prog 134 #[.int .i64 a0, .int .i64 a1] w fun e w' => e = .returned (.tuple #[.int .i64 r1, .bool r2, .int .i64 r3]) ∧ Below w.heap.size w w' := by
  unfold sat_Clamp.f at h
  by_cases h0 : a1 = 0
  · rw [if_pos h0] at h
    simp only [Option.some.injEq, Prod.mk.injEq] at h
    obtain ⟨rfl, rfl, rfl⟩ := h
    subst h0
    exact sat_Clamp.c0 a0 w
  · rw [if_neg h0] at h
    by_cases h1 : a1 = 1
    · rw [if_pos h1] at h
      simp only [Option.some.injEq, Prod.mk.injEq] at h
      obtain ⟨rfl, rfl, rfl⟩ := h
      subst h1
      exact sat_Clamp.c1 a0 w
    · rw [if_neg h1] at h
      simp only [Option.some.injEq, Prod.mk.injEq] at h
      obtain ⟨rfl, rfl, rfl⟩ := h
      have hb : sat_Bits.f a1 = some (0, 1) := by unfold sat_Bits.f; rw [if_neg h0, if_neg h1]
      have HB := Aside0.mk hb
      clear hb h0 h1
      go_enter Try.func134, Try.ntmps134
      go_wp2_with (fail)
      refine (sat_Bits.calls a1 0 1 _ HB.out).mono ?_
      rintro e w1 ⟨rfl, ⟨⟨nq, rfl⟩⟩⟩
      go_wp2
      go_ret3
      exact ⟨rfl, by repeat (first | exact Below.refl _ _ | apply below_alloc | apply pw_below_drewN)⟩

end Go.Proofs.Ytmglkelmdcpinaa.G
