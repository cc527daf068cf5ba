/- round.Shift's value, as the plain rounded quotient; and when it is refused. Conditions: a number of 64 bits, a shift of 1 to 62, a mode of 0 to 2. -/
import Derived.Test.YtmglkelmdcpinaaGf72
import Derived.Test.YtmglkelmdcpinaaM1
namespace Go.Proofs.Ytmglkelmdcpinaa.G
open Go.RowKit Go.Proofs.Ytmglkelmdcpinaa.M

theorem q_eq (x s m : Int) (hx0 : -9223372036854775808 ≤ x) (hx1 : x < 9223372036854775808) (h1 : 1 ≤ s) (h2 : s ≤ 62) (hm : m = 0 ∨ m = 1 ∨ m = 2) : round_Shift.q x s m = rsh x s.toNat m := by
  obtain ⟨n, rfl⟩ := Int.eq_ofNat_of_zero_le (show 0 ≤ s by omega)
  simp only [Int.toNat_natCast]
  have hn1 : 1 ≤ n := by omega
  have hn2 : n ≤ 62 := by omega
  have hp := pow_pos n
  have hle := pow_le (s := n) (t := 62) hn2
  have h62 : (2 : Int) ^ 62 = 4611686018427387904 := by decide
  have hp' := pow_pos (n - 1)
  have hle' := pow_le (s := n - 1) (t := 62) (by omega)
  have two : (2 : Int) ≤ 2 ^ n := by have := pow_le (s := 1) (t := n) hn1; simpa using this
  have w1 : wrap64 (2 ^ n) = 2 ^ n := wrap64_id (by omega) (by omega)
  have w2 : wrap64 (wrap64 (2 ^ n) - 1) = 2 ^ n - 1 := by rw [w1]; exact wrap64_id (by omega) (by omega)
  have w3 : wrap64 (2 ^ (n - 1)) = 2 ^ (n - 1) := wrap64_id (by omega) (by omega)
  have hd := Int.mul_ediv_add_emod x (2 ^ n)
  have r0 : (0 : Int) ≤ x % 2 ^ n := Int.emod_nonneg _ (by omega)
  have r1 : x % 2 ^ n < 2 ^ n := Int.emod_lt_of_pos _ hp
  have b0 : -4611686018427387904 ≤ x / 2 ^ n := by
    apply Int.le_ediv_of_mul_le hp
    have : (-4611686018427387904 : Int) * 2 ^ n ≤ -4611686018427387904 * 2 := by omega
    omega
  have b1 : x / 2 ^ n < 4611686018427387904 := by
    apply Int.ediv_lt_of_lt_mul hp
    omega
  have w4 : wrap64 (x / 2 ^ n + 1) = x / 2 ^ n + 1 := wrap64_id (by omega) (by omega)
  unfold round_Shift.q round_Shift.up rsh
  rw [if_neg (show ¬ n = 0 by omega)]
  simp only [Int.toNat_natCast]
  rw [w2, w3, w4, and_mask _ _ hn2, and_one]
  rcases hm with rfl | rfl | rfl
  · simp
  · simp only [round_modes.u2]
    simp
  · simp only [round_modes.u3]
    simp

theorem shift_some (x s m : Int) (hx0 : -9223372036854775808 ≤ x) (hx1 : x < 9223372036854775808) (h1 : 0 ≤ s) (h2 : s ≤ 62) (hm : m = 0 ∨ m = 1 ∨ m = 2) : round_Shift.f x s m = some (rsh x s.toNat m, 0) := by
  unfold round_Shift.f
  rw [if_neg (by omega)]
  by_cases h : s = 0
  · subst h
    simp [rsh]
  · rw [if_neg h, q_eq x s m hx0 hx1 (by omega) h2 hm]
theorem shift_none (x s m : Int) (h : s < 0 ∨ 62 < s ∨ m < 0 ∨ 3 ≤ m) : round_Shift.f x s m = some (0, 1) := by
  unfold round_Shift.f
  rw [if_pos h]
end Go.Proofs.Ytmglkelmdcpinaa.G
