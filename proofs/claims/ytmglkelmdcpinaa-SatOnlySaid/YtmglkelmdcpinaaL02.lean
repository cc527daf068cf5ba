/- SatOnly's call answers true at any numbers of 64 bits, and leaves memory that was there as it was. Conditions: none. -/
import Derived.Test.YtmglkelmdcpinaaL02a
import Derived.Test.YtmglkelmdcpinaaL02b
namespace Go.Proofs.Ytmglkelmdcpinaa.G
open Go.RowKit Go.Proofs.YtmglkelmdcpinaaW.PrintWords Go.Proofs.Ytmglkelmdcpinaa.M
set_option linter.unusedSimpArgs false
set_option linter.unusedVariables false
theorem satlaw_0 (a0 a1 a2 a3 a4 : Int) (w : World) (h3 : ((wrap64 (a3.tmod 2 + 2)).tmod 2) = 0) (h4 : ((wrap64 (a4.tmod 3 + 3)).tmod 3) = 0 ∨ ((wrap64 (a4.tmod 3 + 3)).tmod 3) = 1 ∨ ((wrap64 (a4.tmod 3 + 3)).tmod 3) = 2) (ha : headroomlaw02_alive.f = some true) :
    Calls Try.prog 3 #[.int .i64 a0, .int .i64 a1, .int .i64 a2, .int .i64 a3, .int .i64 a4] w fun e w' => e = .returned (.bool true) ∧ Below w.heap.size w w' := by
  have p0 : -32768 < a0.tmod 32768 ∧ a0.tmod 32768 < 32768 := tmod_range _ _ (by decide)
  have p1 : -32768 < a1.tmod 32768 ∧ a1.tmod 32768 < 32768 := tmod_range _ _ (by decide)
  have p2 : -32768 < a2.tmod 32768 ∧ a2.tmod 32768 < 32768 := tmod_range _ _ (by decide)
  have hF : (0 : Int) = 0 ∨ (0 : Int) = 1 := by decide
  have hbits : bitsOf 0 = 15 := rfl
  have hb : sat_Bits.f ((wrap64 (a3.tmod 2 + 2)).tmod 2) = some (15, 0) := by rw [h3]; rfl
  have K : ∀ A B : Int, -32768 ≤ A → A < 32768 → -32768 ≤ B → B < 32768 → ∃ n x s up, sat_Neg.f A ((wrap64 (a3.tmod 2 + 2)).tmod 2) = some (n, A == -32768, 0) ∧ sat_Mul.f A B ((wrap64 (a3.tmod 2 + 2)).tmod 2) ((wrap64 (a4.tmod 3 + 3)).tmod 3) = some (x, (A == -32768 && B == -32768), 0) ∧ sat_Mul.f B A ((wrap64 (a3.tmod 2 + 2)).tmod 2) ((wrap64 (a4.tmod 3 + 3)).tmod 3) = some (x, (A == -32768 && B == -32768), 0) ∧ sat_Add.f A B ((wrap64 (a3.tmod 2 + 2)).tmod 2) = some (s, up, 0) ∧ sat_Add.f B A ((wrap64 (a3.tmod 2 + 2)).tmod 2) = some (s, up, 0) ∧
      (∀ m : Int, A ≤ m → m < 32768 → ∃ u v, sat_Add.f m B ((wrap64 (a3.tmod 2 + 2)).tmod 2) = some (u, v, 0) ∧ s ≤ u) ∧ -32768 ≤ n ∧ n < 32768 ∧ -32768 ≤ x ∧ x < 32768 ∧ -32768 ≤ s ∧ s < 32768 := by
    intro A B hA0 hA1 hB0 hB1
    rw [h3]
    obtain ⟨n, hn, hn0, hn1⟩ := neg_val 0 A hF hA0 hA1
    obtain ⟨x, hx, hx0, hx1⟩ := mul_val 0 A B ((wrap64 (a4.tmod 3 + 3)).tmod 3) hF h4 hA0 hA1 hB0 hB1
    obtain ⟨x', hx', hx0', hx1'⟩ := mul_val 0 B A ((wrap64 (a4.tmod 3 + 3)).tmod 3) hF h4 hB0 hB1 hA0 hA1
    have ht := to_range 15 (A + B)
    have hxx : x = x' := by
      have e : sat_Mul.f A B 0 ((wrap64 (a4.tmod 3 + 3)).tmod 3) = sat_Mul.f B A 0 ((wrap64 (a4.tmod 3 + 3)).tmod 3) ∨ True := .inr trivial
      have h1 : ∀ (P Q : Int), -32768 ≤ P → P < 32768 → -32768 ≤ Q → Q < 32768 → ∀ y b, sat_Mul.f P Q 0 ((wrap64 (a4.tmod 3 + 3)).tmod 3) = some (y, b, 0) → y = sat_Clamp.to 15 (round_Shift.q (wrap64 (P * Q)) (if (0 : Int) = 0 then 15 else 31) ((wrap64 (a4.tmod 3 + 3)).tmod 3)) := by
        intro P Q hP0 hP1 hQ0 hQ1 y b hy
        unfold sat_Mul.f at hy
        rw [if_neg (by omega), done_two 0 P Q _ hF hP0 hP1 hQ0 hQ1] at hy
        injection hy with hy
        injection hy with hy
        exact hy.symm
      rw [h1 A B hA0 hA1 hB0 hB1 x _ hx, h1 B A hB0 hB1 hA0 hA1 x' _ hx', Int.mul_comm]
    subst hxx
    refine ⟨n, x, sat_Clamp.to 15 (A + B), _, hn, hx, ?_, add_val 0 A B hF hA0 hA1 hB0 hB1, ?_, ?_, hn0, hn1, hx0, hx1, ht.1, ht.2⟩
    · rw [hx']
      congr 3
      exact Bool.and_comm _ _
    · rw [add_val 0 B A hF hB0 hB1 hA0 hA1, Int.add_comm B A]
      rfl
    · intro m hm0 hm1
      exact ⟨_, _, add_val 0 m B hF (Int.le_trans hA0 hm0) hm1 hB0 hB1, to_mono 15 _ _ (by omega)⟩
  cases c1 : (bits BinOp.and IntKind.i64 (a2.tmod 32768) 1 == 1) with
  | false =>
    cases c2 : (bits BinOp.and IntKind.i64 (a2.tmod 32768) 2 == 2) with
    | false =>
      obtain ⟨n, x, s, up, hn, hx, hy, hs, ht, hu, n1, n2, x1, x2, s1, s2⟩ := K (a0.tmod 32768) (a1.tmod 32768) (by omega) (by omega) (by omega) (by omega)
      have e1 : (((a0.tmod 32768) : Int) == -32768) = false := by simp; omega
      have e2 : (((a1.tmod 32768) : Int) == -32768) = false := by simp; omega
      simp only [e1, e2, Bool.and_true, Bool.and_false, Bool.true_and, Bool.false_and] at hn hx hy
      exact satlaw_0_00 a0 a1 a2 a3 a4 n x s up w hb c1 c2 e1 e2 hn hx hy hs ht hu (by omega) (by omega) (by omega) n1 n2 x1 x2 s1 s2 ha
    | true =>
      obtain ⟨n, x, s, up, hn, hx, hy, hs, ht, hu, n1, n2, x1, x2, s1, s2⟩ := K (a0.tmod 32768) (-32768) (by omega) (by omega) (by omega) (by omega)
      have e1 : (((a0.tmod 32768) : Int) == -32768) = false := by simp; omega
      have e2 : (((-32768) : Int) == -32768) = true := by decide
      simp only [e1, e2, Bool.and_true, Bool.and_false, Bool.true_and, Bool.false_and] at hn hx hy
      exact satlaw_0_01 a0 a1 a2 a3 a4 n x s up w hb c1 c2 e1 hn hx hy hs ht hu (by omega) (by omega) (by omega) n1 n2 x1 x2 s1 s2 ha
  | true =>
    cases c2 : (bits BinOp.and IntKind.i64 (a2.tmod 32768) 2 == 2) with
    | false =>
      obtain ⟨n, x, s, up, hn, hx, hy, hs, ht, hu, n1, n2, x1, x2, s1, s2⟩ := K (-32768) (a1.tmod 32768) (by omega) (by omega) (by omega) (by omega)
      have e1 : (((-32768) : Int) == -32768) = true := by decide
      have e2 : (((a1.tmod 32768) : Int) == -32768) = false := by simp; omega
      simp only [e1, e2, Bool.and_true, Bool.and_false, Bool.true_and, Bool.false_and] at hn hx hy
      exact satlaw_0_10 a0 a1 a2 a3 a4 n x s up w hb c1 c2 e2 hn hx hy hs ht hu (by omega) (by omega) (by omega) n1 n2 x1 x2 s1 s2 ha
    | true =>
      obtain ⟨n, x, s, up, hn, hx, hy, hs, ht, hu, n1, n2, x1, x2, s1, s2⟩ := K (-32768) (-32768) (by omega) (by omega) (by omega) (by omega)
      have e1 : (((-32768) : Int) == -32768) = true := by decide
      have e2 : (((-32768) : Int) == -32768) = true := by decide
      simp only [e1, e2, Bool.and_true, Bool.and_false, Bool.true_and, Bool.false_and] at hn hx hy
      exact satlaw_0_11 a0 a1 a2 a3 a4 n x s up w hb c1 c2 hn hx hy hs ht hu (by omega) (by omega) (by omega) n1 n2 x1 x2 s1 s2 ha
theorem satlaw_1 (a0 a1 a2 a3 a4 : Int) (w : World) (h3 : ((wrap64 (a3.tmod 2 + 2)).tmod 2) = 1) (h4 : ((wrap64 (a4.tmod 3 + 3)).tmod 3) = 0 ∨ ((wrap64 (a4.tmod 3 + 3)).tmod 3) = 1 ∨ ((wrap64 (a4.tmod 3 + 3)).tmod 3) = 2) (ha : headroomlaw02_alive.f = some true) :
    Calls Try.prog 3 #[.int .i64 a0, .int .i64 a1, .int .i64 a2, .int .i64 a3, .int .i64 a4] w fun e w' => e = .returned (.bool true) ∧ Below w.heap.size w w' := by
  have p0 : -2147483648 < a0.tmod 2147483648 ∧ a0.tmod 2147483648 < 2147483648 := tmod_range _ _ (by decide)
  have p1 : -2147483648 < a1.tmod 2147483648 ∧ a1.tmod 2147483648 < 2147483648 := tmod_range _ _ (by decide)
  have p2 : -2147483648 < a2.tmod 2147483648 ∧ a2.tmod 2147483648 < 2147483648 := tmod_range _ _ (by decide)
  have hF : (1 : Int) = 0 ∨ (1 : Int) = 1 := by decide
  have hbits : bitsOf 1 = 31 := rfl
  have hb : sat_Bits.f ((wrap64 (a3.tmod 2 + 2)).tmod 2) = some (31, 0) := by rw [h3]; rfl
  have K : ∀ A B : Int, -2147483648 ≤ A → A < 2147483648 → -2147483648 ≤ B → B < 2147483648 → ∃ n x s up, sat_Neg.f A ((wrap64 (a3.tmod 2 + 2)).tmod 2) = some (n, A == -2147483648, 0) ∧ sat_Mul.f A B ((wrap64 (a3.tmod 2 + 2)).tmod 2) ((wrap64 (a4.tmod 3 + 3)).tmod 3) = some (x, (A == -2147483648 && B == -2147483648), 0) ∧ sat_Mul.f B A ((wrap64 (a3.tmod 2 + 2)).tmod 2) ((wrap64 (a4.tmod 3 + 3)).tmod 3) = some (x, (A == -2147483648 && B == -2147483648), 0) ∧ sat_Add.f A B ((wrap64 (a3.tmod 2 + 2)).tmod 2) = some (s, up, 0) ∧ sat_Add.f B A ((wrap64 (a3.tmod 2 + 2)).tmod 2) = some (s, up, 0) ∧
      (∀ m : Int, A ≤ m → m < 2147483648 → ∃ u v, sat_Add.f m B ((wrap64 (a3.tmod 2 + 2)).tmod 2) = some (u, v, 0) ∧ s ≤ u) ∧ -2147483648 ≤ n ∧ n < 2147483648 ∧ -2147483648 ≤ x ∧ x < 2147483648 ∧ -2147483648 ≤ s ∧ s < 2147483648 := by
    intro A B hA0 hA1 hB0 hB1
    rw [h3]
    obtain ⟨n, hn, hn0, hn1⟩ := neg_val 1 A hF hA0 hA1
    obtain ⟨x, hx, hx0, hx1⟩ := mul_val 1 A B ((wrap64 (a4.tmod 3 + 3)).tmod 3) hF h4 hA0 hA1 hB0 hB1
    obtain ⟨x', hx', hx0', hx1'⟩ := mul_val 1 B A ((wrap64 (a4.tmod 3 + 3)).tmod 3) hF h4 hB0 hB1 hA0 hA1
    have ht := to_range 31 (A + B)
    have hxx : x = x' := by
      have e : sat_Mul.f A B 1 ((wrap64 (a4.tmod 3 + 3)).tmod 3) = sat_Mul.f B A 1 ((wrap64 (a4.tmod 3 + 3)).tmod 3) ∨ True := .inr trivial
      have h1 : ∀ (P Q : Int), -2147483648 ≤ P → P < 2147483648 → -2147483648 ≤ Q → Q < 2147483648 → ∀ y b, sat_Mul.f P Q 1 ((wrap64 (a4.tmod 3 + 3)).tmod 3) = some (y, b, 0) → y = sat_Clamp.to 31 (round_Shift.q (wrap64 (P * Q)) (if (1 : Int) = 0 then 15 else 31) ((wrap64 (a4.tmod 3 + 3)).tmod 3)) := by
        intro P Q hP0 hP1 hQ0 hQ1 y b hy
        unfold sat_Mul.f at hy
        rw [if_neg (by omega), done_two 1 P Q _ hF hP0 hP1 hQ0 hQ1] at hy
        injection hy with hy
        injection hy with hy
        exact hy.symm
      rw [h1 A B hA0 hA1 hB0 hB1 x _ hx, h1 B A hB0 hB1 hA0 hA1 x' _ hx', Int.mul_comm]
    subst hxx
    refine ⟨n, x, sat_Clamp.to 31 (A + B), _, hn, hx, ?_, add_val 1 A B hF hA0 hA1 hB0 hB1, ?_, ?_, hn0, hn1, hx0, hx1, ht.1, ht.2⟩
    · rw [hx']
      congr 3
      exact Bool.and_comm _ _
    · rw [add_val 1 B A hF hB0 hB1 hA0 hA1, Int.add_comm B A]
      rfl
    · intro m hm0 hm1
      exact ⟨_, _, add_val 1 m B hF (Int.le_trans hA0 hm0) hm1 hB0 hB1, to_mono 31 _ _ (by omega)⟩
  cases c1 : (bits BinOp.and IntKind.i64 (a2.tmod 2147483648) 1 == 1) with
  | false =>
    cases c2 : (bits BinOp.and IntKind.i64 (a2.tmod 2147483648) 2 == 2) with
    | false =>
      obtain ⟨n, x, s, up, hn, hx, hy, hs, ht, hu, n1, n2, x1, x2, s1, s2⟩ := K (a0.tmod 2147483648) (a1.tmod 2147483648) (by omega) (by omega) (by omega) (by omega)
      have e1 : (((a0.tmod 2147483648) : Int) == -2147483648) = false := by simp; omega
      have e2 : (((a1.tmod 2147483648) : Int) == -2147483648) = false := by simp; omega
      simp only [e1, e2, Bool.and_true, Bool.and_false, Bool.true_and, Bool.false_and] at hn hx hy
      exact satlaw_1_00 a0 a1 a2 a3 a4 n x s up w hb c1 c2 e1 e2 hn hx hy hs ht hu (by omega) (by omega) (by omega) n1 n2 x1 x2 s1 s2 ha
    | true =>
      obtain ⟨n, x, s, up, hn, hx, hy, hs, ht, hu, n1, n2, x1, x2, s1, s2⟩ := K (a0.tmod 2147483648) (-2147483648) (by omega) (by omega) (by omega) (by omega)
      have e1 : (((a0.tmod 2147483648) : Int) == -2147483648) = false := by simp; omega
      have e2 : (((-2147483648) : Int) == -2147483648) = true := by decide
      simp only [e1, e2, Bool.and_true, Bool.and_false, Bool.true_and, Bool.false_and] at hn hx hy
      exact satlaw_1_01 a0 a1 a2 a3 a4 n x s up w hb c1 c2 e1 hn hx hy hs ht hu (by omega) (by omega) (by omega) n1 n2 x1 x2 s1 s2 ha
  | true =>
    cases c2 : (bits BinOp.and IntKind.i64 (a2.tmod 2147483648) 2 == 2) with
    | false =>
      obtain ⟨n, x, s, up, hn, hx, hy, hs, ht, hu, n1, n2, x1, x2, s1, s2⟩ := K (-2147483648) (a1.tmod 2147483648) (by omega) (by omega) (by omega) (by omega)
      have e1 : (((-2147483648) : Int) == -2147483648) = true := by decide
      have e2 : (((a1.tmod 2147483648) : Int) == -2147483648) = false := by simp; omega
      simp only [e1, e2, Bool.and_true, Bool.and_false, Bool.true_and, Bool.false_and] at hn hx hy
      exact satlaw_1_10 a0 a1 a2 a3 a4 n x s up w hb c1 c2 e2 hn hx hy hs ht hu (by omega) (by omega) (by omega) n1 n2 x1 x2 s1 s2 ha
    | true =>
      obtain ⟨n, x, s, up, hn, hx, hy, hs, ht, hu, n1, n2, x1, x2, s1, s2⟩ := K (-2147483648) (-2147483648) (by omega) (by omega) (by omega) (by omega)
      have e1 : (((-2147483648) : Int) == -2147483648) = true := by decide
      have e2 : (((-2147483648) : Int) == -2147483648) = true := by decide
      simp only [e1, e2, Bool.and_true, Bool.and_false, Bool.true_and, Bool.false_and] at hn hx hy
      exact satlaw_1_11 a0 a1 a2 a3 a4 n x s up w hb c1 c2 hn hx hy hs ht hu (by omega) (by omega) (by omega) n1 n2 x1 x2 s1 s2 ha
theorem headroomlaw02_SatOnly.law (a0 a1 a2 a3 a4 : Int) (w : World) (w0 : (Lit.int .i64 a0).wf = true) (w1 : (Lit.int .i64 a1).wf = true) (w2 : (Lit.int .i64 a2).wf = true) (w3 : (Lit.int .i64 a3).wf = true) (w4 : (Lit.int .i64 a4).wf = true) :
    Calls Try.prog 3 #[.int .i64 a0, .int .i64 a1, .int .i64 a2, .int .i64 a3, .int .i64 a4] w fun e w' => e = .returned (.bool true) ∧ Below w.heap.size w w' := by
  have ha : headroomlaw02_alive.f = some true := by decide +kernel
  have t3 := tmod_range a3 2 (by decide)
  have t4 := tmod_range a4 3 (by decide)
  have e3 : wrap64 (a3.tmod 2 + 2) = a3.tmod 2 + 2 := wrap64_id (by omega) (by omega)
  have e4 : wrap64 (a4.tmod 3 + 3) = a4.tmod 3 + 3 := wrap64_id (by omega) (by omega)
  have h4 : (wrap64 (a4.tmod 3 + 3)).tmod 3 = 0 ∨ (wrap64 (a4.tmod 3 + 3)).tmod 3 = 1 ∨ (wrap64 (a4.tmod 3 + 3)).tmod 3 = 2 := by rw [e4]; have := tmod_nonneg (a4.tmod 3 + 3) 3 (by omega) (by decide); omega
  have h3 : (wrap64 (a3.tmod 2 + 2)).tmod 2 = 0 ∨ (wrap64 (a3.tmod 2 + 2)).tmod 2 = 1 := by rw [e3]; have := tmod_nonneg (a3.tmod 2 + 2) 2 (by omega) (by decide); omega
  rcases h3 with h3 | h3
  · exact satlaw_0 a0 a1 a2 a3 a4 w h3 h4 ha
  · exact satlaw_1 a0 a1 a2 a3 a4 w h3 h4 ha
end Go.Proofs.Ytmglkelmdcpinaa.G
