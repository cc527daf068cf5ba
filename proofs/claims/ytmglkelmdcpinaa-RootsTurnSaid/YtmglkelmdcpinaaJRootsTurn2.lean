/- Contracts and plain laws on the way to RootsTurn, part 2 of 2. Conditions: each theorem's own. Joined by a program (merge.py). -/
import Derived.Test.YtmglkelmdcpinaaJRootsTurn1
/- RootsTurn's call answers true at any numbers of 64 bits, and leaves memory that was there as it was. Conditions: none. -/
namespace Go.Proofs.Ytmglkelmdcpinaa.G
open Go.RowKit Go.Proofs.YtmglkelmdcpinaaW.PrintWords Go.Proofs.YtmglkelmdcpinaaW.PrintLast Go.Proofs.YtmglkelmdcpinaaW.PrintMore Go.Proofs.Ytmglkelmdcpinaa.M
set_option linter.unusedVariables false
set_option linter.unusedSimpArgs false

/-- A part's point, turned by quarters, conjugate. -/
def plainT (c : Nat) (x y : Int) : Int × Int := match c with | 0 => (x, -y) | 1 => (-y, -x) | 2 => (-x, y) | _ => (y, x)
theorem rootV_plain (L : Nat) (r : Int) (B : Nat) (h2 : 2 ≤ L) (h6 : L ≤ 6) (h0 : 0 ≤ r) (h1 : r < 2 ^ L) :
    rootV L r B = plainT (4 * r / 2 ^ L).toNat (shiftV L r B).1 (shiftV L r B).2 ∧ 0 ≤ 4 * r / 2 ^ L ∧ 4 * r / 2 ^ L < 4 := by
  have hb := shiftV_bound L r B h2 h6
  have hp := Go.Proofs.Ytmglkelmdcpinaa.M.pow_pos L
  have hq0 : 0 ≤ 4 * r / 2 ^ L := Int.ediv_nonneg (by omega) (by omega)
  have hq1 : 4 * r / 2 ^ L < 4 := Int.ediv_lt_of_lt_mul hp (by omega)
  refine ⟨?_, hq0, hq1⟩
  unfold rootV
  generalize (shiftV L r B).1 = x at hb ⊢
  generalize (shiftV L r B).2 = y at hb ⊢
  generalize 4 * r / 2 ^ L = c at hq0 hq1 ⊢
  have w0 : wrap64 (-x) = -x := wrap64_id (by omega) (by omega)
  have w1 : wrap64 (-y) = -y := wrap64_id (by omega) (by omega)
  have w2 : wrap64 (-(-x)) = x := by rw [Int.neg_neg]; exact wrap64_id (by omega) (by omega)
  have w3 : wrap64 (-(-y)) = y := by rw [Int.neg_neg]; exact wrap64_id (by omega) (by omega)
  rcases (by omega : c = 0 ∨ c = 1 ∨ c = 2 ∨ c = 3) with rfl | rfl | rfl | rfl
  · simp only [Int.toNat_zero, turnIt, plainT, w1]
  · simp only [show (1 : Int).toNat = 1 from rfl, turnIt, plainT, w0, w1]
  · simp only [show (2 : Int).toNat = 2 from rfl, turnIt, plainT, w0, w1, w2, w3]
  · simp only [show (3 : Int).toNat = 3 from rfl, turnIt, plainT, w0, w1, w2, w3]
theorem one_all : ([2, 3, 4, 5, 6].all fun L => (List.range 41).all fun B => decide (rootV L 0 B = ((2 : Int) ^ B, 0))) = true := by decide +kernel
def pointL (L u : Nat) : Int × Int := pointV L (u : Int)
theorem swap_all : ([2, 3, 4, 5, 6].all fun L => (List.range (2 ^ L)).all fun u => u == 0 || decide (pointL L (2 ^ L - u) = ((pointL L u).2, (pointL L u).1))) = true := by decide +kernel
theorem half_all : ([3, 4, 5, 6].all fun L => (List.range (2 ^ (L - 1))).all fun u => decide (pointL (L - 1) u = pointL L (2 * u))) = true := by decide +kernel
theorem one_is (L B : Nat) (h2 : 2 ≤ L) (h6 : L ≤ 6) (hB : B ≤ 40) : rootV L 0 B = ((2 : Int) ^ B, 0) := by
  have h := one_all
  rw [List.all_eq_true] at h
  have h1 := h L (by rcases (by omega : L = 2 ∨ L = 3 ∨ L = 4 ∨ L = 5 ∨ L = 6) with rfl | rfl | rfl | rfl | rfl <;> simp)
  rw [List.all_eq_true] at h1
  exact of_decide_eq_true (h1 B (List.mem_range.2 (by omega)))
theorem swap_is (L u : Nat) (h2 : 2 ≤ L) (h6 : L ≤ 6) (h0 : 0 < u) (hu : u < 2 ^ L) : pointL L (2 ^ L - u) = ((pointL L u).2, (pointL L u).1) := by
  have h := swap_all
  rw [List.all_eq_true] at h
  have h1 := h L (by rcases (by omega : L = 2 ∨ L = 3 ∨ L = 4 ∨ L = 5 ∨ L = 6) with rfl | rfl | rfl | rfl | rfl <;> simp)
  rw [List.all_eq_true] at h1
  have h3 := h1 u (List.mem_range.2 hu)
  rw [Bool.or_eq_true] at h3
  rcases h3 with h3 | h3
  · have := beq_iff_eq.1 h3
    omega
  · exact of_decide_eq_true h3
theorem half_point (L u : Nat) (h2 : 3 ≤ L) (h6 : L ≤ 6) (hu : u < 2 ^ (L - 1)) : pointL (L - 1) u = pointL L (2 * u) := by
  have h := half_all
  rw [List.all_eq_true] at h
  have h1 := h L (by rcases (by omega : L = 3 ∨ L = 4 ∨ L = 5 ∨ L = 6) with rfl | rfl | rfl | rfl <;> simp)
  rw [List.all_eq_true] at h1
  exact of_decide_eq_true (h1 u (List.mem_range.2 hu))
theorem shift_at (L : Nat) (r : Int) (B u : Nat) (h : 4 * r % 2 ^ L = u) : shiftV L r B = (rsh (pointL L u).1 (56 - B) 1, rsh (pointL L u).2 (56 - B) 1) := by
  unfold shiftV pointL
  rw [h]
theorem shift_zero (L B : Nat) (h2 : 2 ≤ L) (h6 : L ≤ 6) (hB : B ≤ 40) : rsh (pointL L 0).1 (56 - B) 1 = 2 ^ B ∧ rsh (pointL L 0).2 (56 - B) 1 = 0 := by
  have hp := Go.Proofs.Ytmglkelmdcpinaa.M.pow_pos L
  have h := (rootV_plain L 0 B h2 h6 (by omega) hp).1
  rw [one_is L B h2 h6 hB, shift_at L 0 B 0 (by simp)] at h
  simp only [Int.mul_zero, Int.zero_ediv, Int.toNat_zero, plainT, Prod.mk.injEq] at h
  omega
/-- The opposite place's root is the conjugate. -/
theorem back_is (L : Nat) (r : Int) (B : Nat) (h2 : 2 ≤ L) (h6 : L ≤ 6) (hB : B ≤ 40) (h0 : 0 ≤ r) (h1 : r < 2 ^ L) :
    rootV L ((-r) % 2 ^ L) B = ((rootV L r B).1, -(rootV L r B).2) := by
  have hp := Go.Proofs.Ytmglkelmdcpinaa.M.pow_pos L
  by_cases hr : r = 0
  · subst hr
    rw [show (-0 : Int) % 2 ^ L = 0 by simp, one_is L B h2 h6 hB]
    simp
  have hr' : (-r) % 2 ^ L = 2 ^ L - r := by
    rw [← Int.add_emod_right, Int.emod_eq_of_lt (by omega) (by omega)]
    omega
  rw [hr']
  obtain ⟨e1, c0, c1⟩ := rootV_plain L r B h2 h6 h0 h1
  obtain ⟨e2, d0, d1⟩ := rootV_plain L (2 ^ L - r) B h2 h6 (by omega) (by omega)
  rw [e1, e2]
  obtain ⟨u, hu⟩ : ∃ u : Nat, 4 * r % 2 ^ L = u := ⟨(4 * r % 2 ^ L).toNat, (Int.toNat_of_nonneg (Int.emod_nonneg _ (by omega))).symm⟩
  have hlt : u < 2 ^ L := by
    have := Int.emod_lt_of_pos (4 * r) hp
    rw [hu] at this
    exact_mod_cast this
  have hpn : (2 : Int) ^ L = ((2 ^ L : Nat) : Int) := by norm_cast
  have hdm := Int.mul_ediv_add_emod (4 * r) (2 ^ L)
  have hdm2 := Int.mul_ediv_add_emod (4 * (2 ^ L - r)) (2 ^ L)
  have hm0 : 0 ≤ 4 * (2 ^ L - r) % 2 ^ L := Int.emod_nonneg _ (by omega)
  have hm1 : 4 * (2 ^ L - r) % 2 ^ L < 2 ^ L := Int.emod_lt_of_pos _ hp
  rw [shift_at L r B u hu]
  rw [hu] at hdm
  by_cases hu0 : u = 0
  · subst hu0
    have hz := shift_zero L B h2 h6 hB
    have hc : 4 * (2 ^ L - r) / 2 ^ L = 4 - 4 * r / 2 ^ L ∧ 4 * (2 ^ L - r) % 2 ^ L = 0 := by
      have : 4 * (2 ^ L - r) = 0 + 2 ^ L * (4 - 4 * r / 2 ^ L) := by rw [Int.mul_sub (2 ^ L)]; omega
      rw [this, Int.add_mul_ediv_left _ _ (by omega), Int.add_mul_emod_self_left]
      simp
    rw [shift_at L (2 ^ L - r) B 0 (by rw [hc.2]; rfl), hz.1, hz.2]
    rw [hc.1] at d0 d1 ⊢
    generalize 4 * r / 2 ^ L = c at *
    rcases (by omega : c = 1 ∨ c = 2 ∨ c = 3) with rfl | rfl | rfl
    · simp [plainT]
    · simp [plainT]
    · simp [plainT]
  · have hc : 4 * (2 ^ L - r) / 2 ^ L = 3 - 4 * r / 2 ^ L ∧ 4 * (2 ^ L - r) % 2 ^ L = 2 ^ L - u := by
      have : 4 * (2 ^ L - r) = (2 ^ L - u) + 2 ^ L * (3 - 4 * r / 2 ^ L) := by rw [Int.mul_sub (2 ^ L)]; omega
      rw [this, Int.add_mul_ediv_left _ _ (by omega), Int.add_mul_emod_self_left]
      rw [Int.ediv_eq_zero_of_lt (by omega) (by omega), Int.emod_eq_of_lt (by omega) (by omega)]
      simp
    rw [shift_at L (2 ^ L - r) B (2 ^ L - u) (by rw [hc.2]; omega), swap_is L u h2 h6 (by omega) hlt]
    rw [hc.1] at d0 d1 ⊢
    generalize 4 * r / 2 ^ L = c at *
    dsimp only
    rcases (by omega : c = 0 ∨ c = 1 ∨ c = 2 ∨ c = 3) with rfl | rfl | rfl | rfl
    · simp [plainT]
    · simp [plainT]
    · simp [plainT]
    · simp [plainT]
/-- A quarter more is a turn. -/
theorem quarter_is (L : Nat) (r : Int) (B : Nat) (h2 : 2 ≤ L) (h6 : L ≤ 6) (h0 : 0 ≤ r) (h1 : r < 2 ^ L) :
    rootV L ((r + (2 ^ L : Int).tdiv 4) % 2 ^ L) B = ((rootV L r B).2, -(rootV L r B).1) := by
  have hk : 4 * ((r + (2 ^ L : Int).tdiv 4) % 2 ^ L) / 2 ^ L = (4 * r / 2 ^ L + 1) % 4 ∧ 4 * ((r + (2 ^ L : Int).tdiv 4) % 2 ^ L) % 2 ^ L = 4 * r % 2 ^ L := by
    rcases (by omega : L = 2 ∨ L = 3 ∨ L = 4 ∨ L = 5 ∨ L = 6) with rfl | rfl | rfl | rfl | rfl
    · rw [show ((2 : Int) ^ 2).tdiv 4 = 1 from rfl, show (2 : Int) ^ 2 = 4 from rfl] at *; omega
    · rw [show ((2 : Int) ^ 3).tdiv 4 = 2 from rfl, show (2 : Int) ^ 3 = 8 from rfl] at *; omega
    · rw [show ((2 : Int) ^ 4).tdiv 4 = 4 from rfl, show (2 : Int) ^ 4 = 16 from rfl] at *; omega
    · rw [show ((2 : Int) ^ 5).tdiv 4 = 8 from rfl, show (2 : Int) ^ 5 = 32 from rfl] at *; omega
    · rw [show ((2 : Int) ^ 6).tdiv 4 = 16 from rfl, show (2 : Int) ^ 6 = 64 from rfl] at *; omega
  have hp := Go.Proofs.Ytmglkelmdcpinaa.M.pow_pos L
  generalize hs : (r + (2 ^ L : Int).tdiv 4) % 2 ^ L = s at *
  have s0 : 0 ≤ s := by rw [← hs]; exact Int.emod_nonneg _ (by omega)
  have s1 : s < 2 ^ L := by rw [← hs]; exact Int.emod_lt_of_pos _ hp
  obtain ⟨e1, c0, c1⟩ := rootV_plain L r B h2 h6 h0 h1
  obtain ⟨e2, d0, d1⟩ := rootV_plain L s B h2 h6 s0 s1
  have hsh : shiftV L s B = shiftV L r B := by unfold shiftV; rw [hk.2]
  rw [e1, e2, hk.1, hsh]
  generalize 4 * r / 2 ^ L = c at *
  generalize (shiftV L r B).1 = x
  generalize (shiftV L r B).2 = y
  rcases (by omega : c = 0 ∨ c = 1 ∨ c = 2 ∨ c = 3) with rfl | rfl | rfl | rfl <;> simp [plainT]
/-- Half a length's root is an even place's. -/
theorem half_root (L : Nat) (s : Int) (B : Nat) (h3 : 3 ≤ L) (h6 : L ≤ 6) (h0 : 0 ≤ s) (h1 : s < 2 ^ (L - 1)) : rootV (L - 1) s B = rootV L (2 * s) B := by
  have hk : 4 * s / 2 ^ (L - 1) = 4 * (2 * s) / 2 ^ L ∧ 4 * (2 * s) % 2 ^ L = 2 * (4 * s % 2 ^ (L - 1)) ∧ (2 : Int) * s < 2 ^ L := by
    rcases (by omega : L = 3 ∨ L = 4 ∨ L = 5 ∨ L = 6) with rfl | rfl | rfl | rfl
    · rw [show (2 : Int) ^ (3 - 1) = 4 from rfl] at *; rw [show (2 : Int) ^ 3 = 8 from rfl]; omega
    · rw [show (2 : Int) ^ (4 - 1) = 8 from rfl] at *; rw [show (2 : Int) ^ 4 = 16 from rfl]; omega
    · rw [show (2 : Int) ^ (5 - 1) = 16 from rfl] at *; rw [show (2 : Int) ^ 5 = 32 from rfl]; omega
    · rw [show (2 : Int) ^ (6 - 1) = 32 from rfl] at *; rw [show (2 : Int) ^ 6 = 64 from rfl]; omega
  have hp := Go.Proofs.Ytmglkelmdcpinaa.M.pow_pos (L - 1)
  obtain ⟨u, hu⟩ : ∃ u : Nat, 4 * s % 2 ^ (L - 1) = u := ⟨(4 * s % 2 ^ (L - 1)).toNat, (Int.toNat_of_nonneg (Int.emod_nonneg _ (by omega))).symm⟩
  have hlt : u < 2 ^ (L - 1) := by
    have := Int.emod_lt_of_pos (4 * s) hp
    rw [hu] at this
    exact_mod_cast this
  obtain ⟨e1, c0, c1⟩ := rootV_plain (L - 1) s B (by omega) (by omega) h0 h1
  obtain ⟨e2, d0, d1⟩ := rootV_plain L (2 * s) B (by omega) h6 (by omega) hk.2.2
  rw [e1, e2, shift_at (L - 1) s B u hu, shift_at L (2 * s) B (2 * u) (by rw [hk.2.1, hu]; omega), half_point L u h3 h6 hlt, hk.1]
theorem root_at' (L : Nat) (k : Int) (B : Nat) (h2 : 2 ≤ L) (h6 : L ≤ 6) (hB : B ≤ 40) : roots_Root.f L k B = some ((rootV L (k % 2 ^ L) B).1, (rootV L (k % 2 ^ L) B).2, 0) := by
  rw [Root_is, Int.toNat_natCast, Int.toNat_natCast, if_pos (show mayB L B = true from decide_eq_true (by omega))]
theorem mod_len' (a n c : Int) (hn : 0 < n) (hn2 : n ≤ 100) (hc : 0 ≤ c) (hc2 : c ≤ 100) : ∃ r : Nat, wrap64 ((wrap64 (a.tmod n + n)).tmod n + c) = r ∧ c ≤ r ∧ (r : Int) < c + n := by
  have h1 := tmod_range a n hn
  rw [wrap64_id (x := a.tmod n + n) (by omega) (by omega)]
  have h2 := tmod_nonneg (a.tmod n + n) n (by omega) hn
  rw [wrap64_id (by omega) (by omega)]
  exact ⟨((a.tmod n + n).tmod n + c).toNat, by omega, by omega, by omega⟩
theorem root_small (L : Nat) (r : Int) (B : Nat) (h2 : 2 ≤ L) (h6 : L ≤ 6) (h0 : 0 ≤ r) (h1 : r < 2 ^ L) : -72057594037927940 ≤ (rootV L r B).1 ∧ (rootV L r B).1 ≤ 72057594037927940 ∧ -72057594037927940 ≤ (rootV L r B).2 ∧ (rootV L r B).2 ≤ 72057594037927940 := by
  obtain ⟨e1, c0, c1⟩ := rootV_plain L r B h2 h6 h0 h1
  have hb := shiftV_bound L r B h2 h6
  rw [e1]
  generalize 4 * r / 2 ^ L = c at *
  generalize (shiftV L r B).1 = x at *
  generalize (shiftV L r B).2 = y at *
  rcases (by omega : c = 0 ∨ c = 1 ∨ c = 2 ∨ c = 3) with rfl | rfl | rfl | rfl <;> simp [plainT] <;> omega
theorem quarter_small (n : Int) (h0 : 0 < n) (h1 : n ≤ 64) : 0 ≤ n.tdiv 4 ∧ n.tdiv 4 ≤ 64 := by
  rw [Int.tdiv_eq_ediv_of_nonneg (by omega)]
  omega
theorem wraps_small (K n : Int) (h0 : -1099511627776 < K) (h1 : K < 1099511627776) (h2 : 0 ≤ n) (h3 : n ≤ 64) : wrap64 (K + n) = K + n ∧ wrap64 (-K) = -K ∧ wrap64 n = n ∧ wrap64 (K / 2 * 2) = K / 2 * 2 :=
  ⟨wrap64_id (by omega) (by omega), wrap64_id (by omega) (by omega), wrap64_id (by omega) (by omega), wrap64_id (by omega) (by omega)⟩
theorem headroomlaw07_RootsTurn.law (a0 a1 a2 : Int) (w : World) (w0 : (Lit.int .i64 a0).wf = true) (w1 : (Lit.int .i64 a1).wf = true) (w2 : (Lit.int .i64 a2).wf = true) :
    Calls Try.prog 9 #[.int .i64 a0, .int .i64 a1, .int .i64 a2] w fun e w' => e = .returned (.bool true) ∧ Below w.heap.size w w' := by
  obtain ⟨L, hL, l0, l1⟩ := mod_len' a0 5 2 (by decide) (by decide) (by decide) (by decide)
  obtain ⟨B, hB, b0, b1⟩ := mod_len' a2 41 0 (by decide) (by decide) (by decide) (by decide)
  have hB' : (wrap64 (a2.tmod 41 + 41)).tmod 41 = B := by
    have h1 := tmod_range a2 41 (by decide)
    have h3 : wrap64 (a2.tmod 41 + 41) = a2.tmod 41 + 41 := wrap64_id (by omega) (by omega)
    have h2 := tmod_nonneg (a2.tmod 41 + 41) 41 (by omega) (by decide)
    rw [h3, Int.add_zero, wrap64_id (by omega) (by omega)] at hB
    rw [h3]
    exact hB
  have k0 := tmod_range a1 1099511627776 (by decide)
  obtain ⟨K, hK⟩ : ∃ K, a1.tmod 1099511627776 = K := ⟨_, rfl⟩
  rw [hK] at k0
  have hp := Go.Proofs.Ytmglkelmdcpinaa.M.pow_pos L
  have hp6 : (2 : Int) ^ L ≤ 64 := Go.Proofs.Ytmglkelmdcpinaa.M.pow_le (show L ≤ 6 by omega)
  have hr0 : 0 ≤ K % 2 ^ L := Int.emod_nonneg _ (by omega)
  have hr1 : K % 2 ^ L < 2 ^ L := Int.emod_lt_of_pos _ hp
  have q0 := root_at' L 0 B (by omega) (by omega) (by omega)
  have q1 := root_at' L K B (by omega) (by omega) (by omega)
  have q2 := root_at' L (K + 2 ^ L) B (by omega) (by omega) (by omega)
  have q3 := root_at' L (K + (2 ^ L : Int).tdiv 4) B (by omega) (by omega) (by omega)
  have q4 := root_at' L (-K) B (by omega) (by omega) (by omega)
  rw [Int.zero_emod, one_is L B (by omega) (by omega) (by omega)] at q0
  rw [Int.add_emod_right] at q2
  rw [← Int.emod_add_emod, quarter_is L _ B (by omega) (by omega) hr0 hr1] at q3
  have hneg : (-K) % 2 ^ L = (-(K % 2 ^ L)) % 2 ^ L := by
    have h := Int.mul_ediv_add_emod K (2 ^ L)
    have : -K = -(K % 2 ^ L) + 2 ^ L * (-(K / 2 ^ L)) := by rw [Int.mul_neg]; omega
    rw [this, Int.add_mul_emod_self_left]
  rw [hneg, back_is L _ B (by omega) (by omega) (by omega) hr0 hr1] at q4
  have hs := root_small L (K % 2 ^ L) B (by omega) (by omega) hr0 hr1
  generalize rootV L (K % 2 ^ L) B = x at *
  obtain ⟨x0, x1⟩ := x
  dsimp only at *
  have hN : wrap64 (2 ^ min (L : Int).toNat 64) = 2 ^ L := by
    rw [Int.toNat_natCast, show min L 64 = L by omega]
    exact (wraps_small 0 (2 ^ L) (by decide) (by decide) (Int.le_of_lt hp) hp6).2.2.1
  have hX : wrap64 (2 ^ min (B : Int).toNat 64) = 2 ^ B := by
    have h1 := Go.Proofs.Ytmglkelmdcpinaa.M.pow_pos B
    have h2 : (2 : Int) ^ B ≤ 2 ^ 40 := Go.Proofs.Ytmglkelmdcpinaa.M.pow_le (by omega)
    rw [Int.toNat_natCast, show min B 64 = B by omega]
    exact wrap64_id (by omega) (by omega)
  have hQ0 := quarter_small (2 ^ L) hp hp6
  obtain ⟨hKN, hKm, hNn, hK2⟩ := wraps_small K (2 ^ L) k0.1 k0.2 (Int.le_of_lt hp) hp6
  obtain ⟨hKq, _, hNq, _⟩ := wraps_small K ((2 ^ L : Int).tdiv 4) k0.1 k0.2 hQ0.1 hQ0.2
  have hKQ : wrap64 (K + wrap64 ((2 ^ L : Int).tdiv 4)) = K + (2 ^ L : Int).tdiv 4 := by
    rw [hNq, hKq]
  have hT : cx_Turn.f x0 x1 (-1) = some (x1, -x0, 0) := by
    unfold cx_Turn.f
    rw [if_pos (within_small x0 x1 (by omega)), show cx_Turn.c (-1) = 3 from rfl]
    simp only [turnIt]
    rw [wrap64_id (x := -x1) (by omega) (by omega), wrap64_id (x := -x0) (by omega) (by omega), Int.neg_neg, wrap64_id (x := x1) (by omega) (by omega)]
  have hC : cx_Conj.f x0 x1 = some (x0, -x1, 0) := by
    unfold cx_Conj.f
    rw [if_pos (within_small x0 x1 (by omega)), wrap64_id (by omega) (by omega)]
  by_cases hl : (L : Int) > 2
  · have hp1 := Go.Proofs.Ytmglkelmdcpinaa.M.pow_pos (L - 1)
    have hs0 : 0 ≤ K / 2 % 2 ^ (L - 1) := Int.emod_nonneg _ (by omega)
    have hs1 : K / 2 % 2 ^ (L - 1) < 2 ^ (L - 1) := Int.emod_lt_of_pos _ hp1
    have r1 := root_at' (L - 1) (K / 2) B (by omega) (by omega) (by omega)
    have r2 := root_at' L (K / 2 * 2) B (by omega) (by omega) (by omega)
    have hm : K / 2 * 2 % 2 ^ L = 2 * (K / 2 % 2 ^ (L - 1)) := by
      have : (2 : Int) ^ L = 2 * 2 ^ (L - 1) := by
        rw [show L = (L - 1) + 1 by omega, Int.pow_succ, Int.mul_comm]
        rfl
      rw [this, Int.mul_comm (K / 2) 2, Int.mul_emod_mul_of_pos _ _ (by decide)]
    rw [hm, ← half_root L _ B (by omega) (by omega) hs0 hs1] at r2
    have hL1 : wrap64 ((L : Int) - 1) = ((L - 1 : Nat) : Int) := by rw [wrap64_id (by omega) (by omega)]; omega
    exact turn_walk a0 a1 a2 L K B (2 ^ L) (K + 2 ^ L) (K + (2 ^ L : Int).tdiv 4) (2 ^ B) x0 x1 x1 (-x0) x0 (-x1) _ _ w hL hB' (by omega) (by omega) hN hK hKN hKQ hX q0 q1 q2 q3 hT (by rw [hKm]; exact q4) hC (fun _ => by rw [hL1]; exact r1) (fun _ => by rw [hK2]; exact r2) rootsalive
  · exact turn_walk a0 a1 a2 L K B (2 ^ L) (K + 2 ^ L) (K + (2 ^ L : Int).tdiv 4) (2 ^ B) x0 x1 x1 (-x0) x0 (-x1) 0 0 w hL hB' (by omega) (by omega) hN hK hKN hKQ hX q0 q1 q2 q3 hT (by rw [hKm]; exact q4) hC (fun h => absurd h hl) (fun h => absurd h hl) rootsalive
end Go.Proofs.Ytmglkelmdcpinaa.G
