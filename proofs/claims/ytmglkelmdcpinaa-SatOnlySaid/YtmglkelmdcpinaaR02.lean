/- What sat.Neg, sat.Add and sat.Mul give of mantissas: plain values. Conditions: both numbers are mantissas of the format, the mode is one. -/
import Derived.Test.YtmglkelmdcpinaaGf21
import Derived.Test.YtmglkelmdcpinaaGf22
import Derived.Test.YtmglkelmdcpinaaGf23
import Derived.Test.YtmglkelmdcpinaaR01
namespace Go.Proofs.Ytmglkelmdcpinaa.G
open Go.RowKit Go.Proofs.Ytmglkelmdcpinaa.M

theorem odd_no (b : Nat) (x : Int) (h0 : -2 ^ b ≤ x) (h1 : x < 2 ^ b) : sat_done.odd b x = false := by
  unfold sat_done.odd
  simp
  omega
/-- The format's bits. -/
def bitsOf (f : Int) : Nat := if f = 0 then 15 else 31
theorem done_one (f x v : Int) (hf : f = 0 ∨ f = 1) (h0 : -2 ^ bitsOf f ≤ x) (h1 : x < 2 ^ bitsOf f) : sat_done.f f [x] v = some (sat_Clamp.to (bitsOf f) v, sat_Clamp.to (bitsOf f) v != v, 0) := by
  rcases hf with rfl | rfl
  · have := odd_no 15 x h0 h1
    simp [sat_done.f, this, sat_Clamp.f, bitsOf]
  · have := odd_no 31 x h0 h1
    simp [sat_done.f, this, sat_Clamp.f, bitsOf]
theorem done_two (f x y v : Int) (hf : f = 0 ∨ f = 1) (h0 : -2 ^ bitsOf f ≤ x) (h1 : x < 2 ^ bitsOf f) (h2 : -2 ^ bitsOf f ≤ y) (h3 : y < 2 ^ bitsOf f) : sat_done.f f [x, y] v = some (sat_Clamp.to (bitsOf f) v, sat_Clamp.to (bitsOf f) v != v, 0) := by
  rcases hf with rfl | rfl
  · have := odd_no 15 x h0 h1
    have := odd_no 15 y h2 h3
    simp [sat_done.f, *, sat_Clamp.f, bitsOf]
  · have := odd_no 31 x h0 h1
    have := odd_no 31 y h2 h3
    simp [sat_done.f, *, sat_Clamp.f, bitsOf]
theorem to_range (b : Nat) (v : Int) : -2 ^ b ≤ sat_Clamp.to b v ∧ sat_Clamp.to b v < 2 ^ b := by
  have := pow_pos b
  unfold sat_Clamp.to
  split
  · omega
  split <;> omega
theorem to_mono (b : Nat) (v v' : Int) (h : v ≤ v') : sat_Clamp.to b v ≤ sat_Clamp.to b v' := by
  have := pow_pos b
  unfold sat_Clamp.to
  split <;> split <;> (try split) <;> (try split) <;> omega
theorem to_same (b : Nat) (v : Int) (h0 : -2 ^ b ≤ v) (h1 : v < 2 ^ b) : sat_Clamp.to b v = v := by
  unfold sat_Clamp.to
  rw [if_neg (by omega), if_neg (by omega)]
theorem bitsOf_le (f : Int) : bitsOf f ≤ 31 ∧ 1 ≤ bitsOf f := by unfold bitsOf; split <;> decide
theorem mul_abs {x y n : Int} (hx0 : -n ≤ x) (hx1 : x ≤ n) (hy0 : -n ≤ y) (hy1 : y ≤ n) : -(n * n) ≤ x * y ∧ x * y ≤ n * n := by
  have hn : 0 ≤ n := by omega
  have a1 : 0 ≤ (n - x) * (n + y) := Int.mul_nonneg (by omega) (by omega)
  have a2 : 0 ≤ (n + x) * (n - y) := Int.mul_nonneg (by omega) (by omega)
  have a3 : 0 ≤ (n - x) * (n - y) := Int.mul_nonneg (by omega) (by omega)
  have a4 : 0 ≤ (n + x) * (n + y) := Int.mul_nonneg (by omega) (by omega)
  rw [Int.sub_mul, Int.mul_add, Int.mul_add] at a1
  rw [Int.add_mul, Int.mul_sub, Int.mul_sub] at a2
  rw [Int.sub_mul, Int.mul_sub, Int.mul_sub] at a3
  rw [Int.add_mul, Int.mul_add, Int.mul_add] at a4
  omega
/-- The product is the only one clamped where both numbers are the least ones. -/
theorem mul_top {x y n : Int} (hx0 : -n ≤ x) (hx1 : x < n) (hy0 : -n ≤ y) (hy1 : y < n) (h : ¬ (x = -n ∧ y = -n)) : x * y ≤ n * (n - 1) := by
  by_cases hx : x = -n
  · have hy : -(n - 1) ≤ y := by omega
    subst hx
    have : 0 ≤ n * (y + (n - 1)) := Int.mul_nonneg (by omega) (by omega)
    rw [Int.mul_add] at this
    rw [Int.neg_mul]
    omega
  · by_cases hpos : 0 ≤ x
    · by_cases hy : 0 ≤ y
      · have a := Int.mul_le_mul (show x ≤ n by omega) (show y ≤ n - 1 by omega) hy (by omega)
        exact a
      · have a : x * y ≤ 0 := Int.mul_nonpos_of_nonneg_of_nonpos hpos (by omega)
        have b : 0 ≤ n * (n - 1) := Int.mul_nonneg (by omega) (by omega)
        omega
    · by_cases hy : 0 ≤ y
      · have a : x * y ≤ 0 := Int.mul_nonpos_of_nonpos_of_nonneg (by omega) hy
        have b : 0 ≤ n * (n - 1) := Int.mul_nonneg (by omega) (by omega)
        omega
      · have a := Int.mul_le_mul (show -y ≤ n by omega) (show -x ≤ n - 1 by omega) (by omega) (by omega)
        rw [Int.neg_mul_neg, Int.mul_comm] at a
        exact a
theorem pow_sq (b : Nat) : (2 : Int) ^ b * 2 ^ b = 2 ^ (b + b) := by rw [Int.pow_add]
theorem neg_val (f x : Int) (hf : f = 0 ∨ f = 1) (h0 : -2 ^ bitsOf f ≤ x) (h1 : x < 2 ^ bitsOf f) :
    ∃ n, sat_Neg.f x f = some (n, x == -2 ^ bitsOf f, 0) ∧ -2 ^ bitsOf f ≤ n ∧ n < 2 ^ bitsOf f := by
  have hb := (bitsOf_le f).1
  have hp := pow_pos (bitsOf f)
  have hle := pow_le (s := bitsOf f) (t := 31) hb
  have h31 : (2 : Int) ^ 31 = 2147483648 := by decide
  refine ⟨sat_Clamp.to (bitsOf f) (-x), ?_, to_range _ _⟩
  unfold sat_Neg.f
  rw [wrap64_id (by omega) (by omega), done_one f x _ hf h0 h1]
  by_cases hx : x = -2 ^ bitsOf f
  · have : sat_Clamp.to (bitsOf f) (-x) = 2 ^ bitsOf f - 1 := by unfold sat_Clamp.to; rw [if_neg (by omega), if_pos (by omega)]
    rw [this]
    have e : (2 ^ bitsOf f - 1 != -x) = true := by simp; omega
    rw [e]
    simp [hx]
  · rw [to_same _ _ (by omega) (by omega)]
    simp [hx]
theorem add_val (f x y : Int) (hf : f = 0 ∨ f = 1) (h0 : -2 ^ bitsOf f ≤ x) (h1 : x < 2 ^ bitsOf f) (h2 : -2 ^ bitsOf f ≤ y) (h3 : y < 2 ^ bitsOf f) :
    sat_Add.f x y f = some (sat_Clamp.to (bitsOf f) (x + y), sat_Clamp.to (bitsOf f) (x + y) != x + y, 0) := by
  have hb := (bitsOf_le f).1
  have hle := pow_le (s := bitsOf f) (t := 31) hb
  have h31 : (2 : Int) ^ 31 = 2147483648 := by decide
  unfold sat_Add.f
  rw [wrap64_id (by omega) (by omega), done_two f x y _ hf h0 h1 h2 h3]
theorem mul_val (f x y m : Int) (hf : f = 0 ∨ f = 1) (hm : m = 0 ∨ m = 1 ∨ m = 2) (h0 : -2 ^ bitsOf f ≤ x) (h1 : x < 2 ^ bitsOf f) (h2 : -2 ^ bitsOf f ≤ y) (h3 : y < 2 ^ bitsOf f) :
    ∃ v, sat_Mul.f x y f m = some (v, (x == -2 ^ bitsOf f && y == -2 ^ bitsOf f), 0) ∧ -2 ^ bitsOf f ≤ v ∧ v < 2 ^ bitsOf f := by
  have hb := (bitsOf_le f).1
  have hb1 := (bitsOf_le f).2
  have hp := pow_pos (bitsOf f)
  have hle := pow_le (s := bitsOf f) (t := 31) hb
  have h31 : (2 : Int) ^ 31 = 2147483648 := by decide
  have hle2 := pow_le (s := bitsOf f + bitsOf f) (t := 62) (by omega)
  have h62 : (2 : Int) ^ 62 = 4611686018427387904 := by decide
  have hsq := pow_sq (bitsOf f)
  have hab := mul_abs (n := 2 ^ bitsOf f) h0 (by omega) h2 (by omega)
  refine ⟨sat_Clamp.to (bitsOf f) (rsh (x * y) (bitsOf f) m), ?_, to_range _ _⟩
  have hq : round_Shift.q (wrap64 (x * y)) (if f = 0 then 15 else 31) m = rsh (x * y) (bitsOf f) m := by
    rw [wrap64_id (by omega) (by omega), q_eq _ _ _ (by omega) (by omega) (by split <;> decide) (by split <;> decide) hm]
    congr 1
    unfold bitsOf
    split <;> rfl
  unfold sat_Mul.f
  rw [if_neg (by omega), hq, done_two f x y _ hf h0 h1 h2 h3]
  have hc := rsh_cases (x * y) (bitsOf f) m
  generalize rsh (x * y) (bitsOf f) m = q at hc ⊢
  by_cases hxy : x = -2 ^ bitsOf f ∧ y = -2 ^ bitsOf f
  · obtain ⟨rfl, rfl⟩ := hxy
    have hv : -2 ^ bitsOf f * -2 ^ bitsOf f = (2 : Int) ^ bitsOf f * 2 ^ bitsOf f := by rw [Int.neg_mul_neg]
    rw [hv] at hc
    have hdiv : (2 : Int) ^ bitsOf f * 2 ^ bitsOf f / 2 ^ bitsOf f = 2 ^ bitsOf f := Int.mul_ediv_cancel _ (by omega)
    rw [hdiv] at hc
    have hqv : q = 2 ^ bitsOf f := by
      rcases hc with ⟨_, _, h⟩ | ⟨a, b, _, h⟩
      · exact h
      · rw [h, Int.add_mul] at b
        have hh : (2 : Int) ^ bitsOf f = 2 * 2 ^ (bitsOf f - 1) := by
          have : bitsOf f = (bitsOf f - 1) + 1 := by omega
          rw [this, Int.pow_succ]; simp; omega
        have := pow_pos (bitsOf f - 1)
        omega
    have : sat_Clamp.to (bitsOf f) q = 2 ^ bitsOf f - 1 := by unfold sat_Clamp.to; rw [if_neg (by omega), if_pos (by omega)]
    rw [this, hqv]
    have e : (2 ^ bitsOf f - 1 != (2 : Int) ^ bitsOf f) = true := by simp; omega
    rw [e]
    simp
  · have ht := mul_top h0 h1 h2 h3 hxy
    have e : (x == -2 ^ bitsOf f && y == -2 ^ bitsOf f) = false := by
      simp only [Bool.and_eq_false_iff, beq_eq_false_iff_ne, ne_eq]
      by_cases h : x = -2 ^ bitsOf f
      · exact .inr (fun h' => hxy ⟨h, h'⟩)
      · exact .inl h
    have hq1 : q < 2 ^ bitsOf f := by
      apply Int.lt_of_not_ge
      intro hge
      have hm1 : 2 ^ bitsOf f * 2 ^ bitsOf f ≤ q * 2 ^ bitsOf f := Int.mul_le_mul_of_nonneg_right hge (by omega)
      rw [Int.mul_sub] at ht
      rcases hc with ⟨a, b, c⟩ | ⟨a, b, c, d⟩
      · omega
      · have hh : (2 : Int) ^ bitsOf f = 2 * 2 ^ (bitsOf f - 1) := by
          have : bitsOf f = (bitsOf f - 1) + 1 := by omega
          rw [this, Int.pow_succ]; simp; omega
        have := pow_pos (bitsOf f - 1)
        omega
    have hq0 : -2 ^ bitsOf f ≤ q := by
      apply Int.le_of_not_gt
      intro hlt
      have hm1 : q * 2 ^ bitsOf f ≤ (-2 ^ bitsOf f - 1) * 2 ^ bitsOf f := Int.mul_le_mul_of_nonneg_right (by omega) (by omega)
      rw [Int.sub_mul, Int.neg_mul] at hm1
      rcases hc with ⟨a, b, c⟩ | ⟨a, b, c, d⟩ <;> omega
    rw [to_same _ _ hq0 hq1, e]
    simp
end Go.Proofs.Ytmglkelmdcpinaa.G
