/- The contract of the function sat_done_1 (number 132 of the translation): what its call computes, as a plain Lean function; memory that was there stays as it was. Conditions: none beyond the theorem's own. Written by a program (gprint.py). -/
import Derived.Test.YtmglkelmdcpinaaG0
namespace Go.Proofs.Ytmglkelmdcpinaa.G
open Go.RowKit Go.Proofs.YtmglkelmdcpinaaW.PrintWords Go.Proofs.YtmglkelmdcpinaaW.PrintLast Go.Proofs.YtmglkelmdcpinaaW.PrintMore
attribute [local go_sem] max2_int min2_int max_two min_two max_three min_three max_four min_four   -- for this text's walks alone
set_option linter.unusedVariables false
set_option linter.unusedSimpArgs false

/-! ### sat_done_1: function 132 -/
def sat_done.odd (b : Nat) (x : Int) : Bool := decide (x < -2 ^ b) || decide (2 ^ b ≤ x)
set_option maxHeartbeats 1000000 in
theorem sat_done.odd15 (B : Nat) (x : Int) (w : World) (hc : w.cell? ⟨B, 0, none⟩ = some (.int .i64 15)) : Calls Try.prog 132 #[.int .i64 x, .pointer (some ⟨B, 0, none⟩)] w fun e w' => e = .returned (.bool (sat_done.odd 15 x)) ∧ w' = w := by
  by_cases h1 : x < -32768
  · have g1 : decide (x < -32768) = true := by simpa using h1
    go_enter Try.func132, Try.ntmps132
    go_wp2
    go_ret
    exact ⟨by simp [sat_done.odd, h1], rfl⟩
  · have g1 : decide (x < -32768) = false := by simpa using h1
    go_enter Try.func132, Try.ntmps132
    go_wp2
    go_ret
    exact ⟨by simp [sat_done.odd, h1]; omega, rfl⟩
set_option maxHeartbeats 1000000 in
theorem sat_done.odd31 (B : Nat) (x : Int) (w : World) (hc : w.cell? ⟨B, 0, none⟩ = some (.int .i64 31)) : Calls Try.prog 132 #[.int .i64 x, .pointer (some ⟨B, 0, none⟩)] w fun e w' => e = .returned (.bool (sat_done.odd 31 x)) ∧ w' = w := by
  by_cases h1 : x < -2147483648
  · have g1 : decide (x < -2147483648) = true := by simpa using h1
    go_enter Try.func132, Try.ntmps132
    go_wp2
    go_ret
    exact ⟨by simp [sat_done.odd, h1], rfl⟩
  · have g1 : decide (x < -2147483648) = false := by simpa using h1
    go_enter Try.func132, Try.ntmps132
    go_wp2
    go_ret
    exact ⟨by simp [sat_done.odd, h1]; omega, rfl⟩

end Go.Proofs.Ytmglkelmdcpinaa.G
