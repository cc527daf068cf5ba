/- Plain lemmas on whole numbers: masks, wraps, quotients rounded in three modes. Conditions: each theorem's own. -/
import Derived.Laws.BitsLemmas
import Derived.RowKit
namespace Go.Proofs.Ytmglkelmdcpinaa.M
open Go.RowKit

theorem wrap64_id {x : Int} (h0 : -9223372036854775808 ≤ x) (h1 : x < 9223372036854775808) : wrap64 x = x := by
  unfold wrap64; omega
theorem toNat_pow (s : Nat) : ((2 : Int) ^ s).toNat = 2 ^ s := by
  have h : ((2 : Int) ^ s) = ((2 ^ s : Nat) : Int) := by norm_cast
  rw [h]; rfl
theorem pow_pos (s : Nat) : (0 : Int) < 2 ^ s := by
  have h : ((2 : Int) ^ s) = ((2 ^ s : Nat) : Int) := by norm_cast
  have := Nat.two_pow_pos s
  omega
theorem pow_le {s t : Nat} (h : s ≤ t) : (2 : Int) ^ s ≤ 2 ^ t := by
  have h1 : ((2 : Int) ^ s) = ((2 ^ s : Nat) : Int) := by norm_cast
  have h2 : ((2 : Int) ^ t) = ((2 ^ t : Nat) : Int) := by norm_cast
  have := Nat.pow_le_pow_right (show 0 < 2 by decide) h
  omega
theorem tmod_range (a m : Int) (hm : 0 < m) : -m < a.tmod m ∧ a.tmod m < m := by
  refine ⟨?_, Int.tmod_lt_of_pos a hm⟩
  have := Int.tmod_lt_of_pos (-a) hm
  rw [Int.neg_tmod] at this
  omega
theorem tmod_nonneg (a m : Int) (ha : 0 ≤ a) (hm : 0 < m) : 0 ≤ a.tmod m ∧ a.tmod m < m := ⟨Int.tmod_nonneg m ha, Int.tmod_lt_of_pos a hm⟩
/-- The lowest bits of a number, negative or not. -/
theorem and_mask (x : Int) (s : Nat) (hs : s ≤ 62) : bits .and .i64 x (2 ^ s - 1) = x % 2 ^ s := by
  have hp := pow_pos s
  have hle := pow_le (s := s) (t := 62) hs
  have h62 : (2 : Int) ^ 62 = 4611686018427387904 := by decide
  have h64 : (2 : Int) ^ 64 = 18446744073709551616 := by decide
  have e1 : ((2 : Int) ^ s - 1) % 2 ^ 64 = 2 ^ s - 1 := Int.emod_eq_of_lt (by omega) (by omega)
  have e2 : ((2 : Int) ^ s - 1).toNat = 2 ^ s - 1 := by
    have := toNat_pow s
    omega
  have e3 : (x % 2 ^ 64).toNat % 2 ^ s = (x % 2 ^ s).toNat := by
    have hd : (2 : Int) ^ s ∣ 2 ^ 64 := ⟨2 ^ (64 - s), by rw [← Int.pow_add]; congr 1; omega⟩
    have h1 : (x % 2 ^ 64) % 2 ^ s = x % 2 ^ s := Int.emod_emod_of_dvd x hd
    have h2 : (0 : Int) ≤ x % 2 ^ 64 := Int.emod_nonneg _ (by decide)
    have h3 : (0 : Int) ≤ x % 2 ^ s := Int.emod_nonneg _ (by omega)
    apply Int.ofNat.inj
    show (((x % 2 ^ 64).toNat % 2 ^ s : Nat) : Int) = ((x % 2 ^ s).toNat : Int)
    rw [Int.toNat_of_nonneg h3, Int.natCast_emod, Int.toNat_of_nonneg h2]
    have : ((2 ^ s : Nat) : Int) = 2 ^ s := by norm_cast
    rw [this, h1]
  have h0 : (0 : Int) ≤ x % 2 ^ s := Int.emod_nonneg _ (by omega)
  have h4 : x % 2 ^ s < 2 ^ s := Int.emod_lt_of_pos _ hp
  have e4 : bits .and .i64 x (2 ^ s - 1) = IntKind.i64.wrap (((x % 2 ^ 64).toNat &&& (((2 : Int) ^ s - 1) % 2 ^ 64).toNat : Nat) : Int) := by
    simp only [bits, BitVec.toNat_and, BitVec.toNat_ofInt]
    rfl
  rw [e4, e1, e2, Nat.and_two_pow_sub_one_eq_mod, e3, Int.toNat_of_nonneg h0, IntKind.wrap_i64]
  omega
theorem and_one (x : Int) : bits .and .i64 x 1 = x % 2 := and_mask x 1 (by decide)

/-- A quotient by 2 to s, rounded in a mode: 0 down, 1 a half up, else a half to the even one. -/
def rsh (x : Int) (s : Nat) (m : Int) : Int :=
  if s = 0 then x
  else if m = 0 then x / 2 ^ s
  else if m = 1 then (if 2 ^ (s - 1) ≤ x % 2 ^ s then x / 2 ^ s + 1 else x / 2 ^ s)
  else if 2 ^ (s - 1) < x % 2 ^ s ∨ (x % 2 ^ s = 2 ^ (s - 1) ∧ (x / 2 ^ s) % 2 = 1) then x / 2 ^ s + 1 else x / 2 ^ s

theorem rsh_cases (x : Int) (s : Nat) (m : Int) : (rsh x s m) * 2 ^ s ≤ x ∧ x < (rsh x s m) * 2 ^ s + 2 ^ s ∧ rsh x s m = x / 2 ^ s ∨ (x < (rsh x s m) * 2 ^ s ∧ (rsh x s m) * 2 ^ s - x ≤ 2 ^ (s - 1) ∧ 1 ≤ s ∧ rsh x s m = x / 2 ^ s + 1) := by
  have hp := pow_pos s
  have hd := Int.mul_ediv_add_emod x (2 ^ s)
  have h0 : (0 : Int) ≤ x % 2 ^ s := Int.emod_nonneg _ (by omega)
  have h1 : x % 2 ^ s < 2 ^ s := Int.emod_lt_of_pos _ hp
  by_cases hs : s = 0
  · left
    subst hs
    simp [rsh]
    omega
  have hh : (2 : Int) ^ s = 2 * 2 ^ (s - 1) := by
    have : s = (s - 1) + 1 := by omega
    rw [this, Int.pow_succ]
    simp
    omega
  have hq := pow_pos (s - 1)
  have down : (x / 2 ^ s) * 2 ^ s ≤ x ∧ x < (x / 2 ^ s) * 2 ^ s + 2 ^ s := by
    rw [Int.mul_comm]; omega
  have up : 2 ^ (s - 1) ≤ x % 2 ^ s → x < (x / 2 ^ s + 1) * 2 ^ s ∧ (x / 2 ^ s + 1) * 2 ^ s - x ≤ 2 ^ (s - 1) := by
    intro h
    rw [Int.add_mul, Int.mul_comm (x / 2 ^ s)]
    omega
  unfold rsh
  rw [if_neg hs]
  split
  · exact .inl ⟨down.1, down.2, rfl⟩
  split
  · split
    · rename_i h
      exact .inr ⟨(up h).1, (up h).2, by omega, rfl⟩
    · exact .inl ⟨down.1, down.2, rfl⟩
  · split
    · rename_i h
      have h : 2 ^ (s - 1) ≤ x % 2 ^ s := by omega
      exact .inr ⟨(up h).1, (up h).2, by omega, rfl⟩
    · exact .inl ⟨down.1, down.2, rfl⟩
end Go.Proofs.Ytmglkelmdcpinaa.M
