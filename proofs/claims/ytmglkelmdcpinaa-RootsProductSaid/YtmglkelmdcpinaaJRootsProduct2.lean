/- Contracts and plain laws on the way to RootsProduct, part 2 of 2. Conditions: each theorem's own. Joined by a program (merge.py). -/
import Derived.Test.YtmglkelmdcpinaaM3
import Derived.Test.YtmglkelmdcpinaaJRootsProduct1
/- The walk of RootsProduct's call: given the values that its calls answer, it answers true. Conditions: the theorem's own. -/
namespace Go.Proofs.Ytmglkelmdcpinaa.G
open Go.RowKit Go.Proofs.YtmglkelmdcpinaaW.PrintWords Go.Proofs.YtmglkelmdcpinaaW.PrintLast Go.Proofs.YtmglkelmdcpinaaW.PrintMore
set_option linter.unusedVariables false
set_option linter.unusedSimpArgs false
attribute [local go_sem] max2_int min2_int max_two min_two max_three min_three max_four min_four
set_option maxHeartbeats 4000000 in
set_option maxRecDepth 100000 in
theorem product_walk (a0 a1 a2 a3 L K M B : Int) (x0 x1 y0 y1 z0 z1 p0 p1 s0 s1 re im X : Int) (w : World) (hL : wrap64 ((wrap64 (a0.tmod 5 + 5)).tmod 5 + 2) = L) (hK : a1.tmod 1099511627776 = K) (hM : a2.tmod 1099511627776 = M) (hB : wrap64 ((wrap64 (a3.tmod 19 + 19)).tmod 19 + 12) = B) (hB0 : 0 ≤ B)
    (h1 : roots_Root.f L K B = some (x0, x1, 0)) (h2 : roots_Root.f L M B = some (y0, y1, 0)) (h3 : roots_Root.f L (wrap64 (K + M)) B = some (z0, z1, 0)) (h4 : cx_Times.f x0 x1 y0 y1 = some (p0, p1, 0)) (h5 : headroomlaw07_alive.f = some true)
    (hs0 : shl .i64 z0 B = s0) (hs1 : shl .i64 z1 B = s1) (hre : wrap64 (p0 - s0) = re) (him : wrap64 (p1 - s1) = im) (hX : shl .i64 4 B = X) (h6 : re ≤ X ∧ wrap64 (-re) ≤ X) (h7 : im ≤ X ∧ wrap64 (-im) ≤ X) :
    Calls Try.prog 10 #[.int .i64 a0, .int .i64 a1, .int .i64 a2, .int .i64 a3] w fun e w' => e = .returned (.bool true) ∧ Below w.heap.size w w' := by
  have H1 := Aside0.mk h1
  have H2 := Aside0.mk h2
  have H3 := Aside0.mk h3
  have H4 := Aside0.mk h4
  have H5 := Aside0.mk h5
  have H6 := Aside0.mk h6
  have H7 := Aside0.mk h7
  have G0 := Aside0.mk hs0
  have G1 := Aside0.mk hs1
  have G2 := Aside0.mk hre
  have G3 := Aside0.mk him
  have GX := Aside0.mk hX
  clear h1 h2 h3 h4 h5 h6 h7 hs0 hs1 hre him hX
  go_enter Try.func10, Try.ntmps10
  go_wp2_with (fail)
  try simp only [hL, hK, hM, hB]
  clear hL hK hM hB
  with_reducible refine (roots_Root.calls _ _ _ x0 x1 0 _ H1.out).mono ?_
  rintro e w1 ⟨rfl, hb⟩
  have HB1 := Aside0.mk (below_alloc hb (.cells #[.int .i64 x0, .int .i64 x1] 43))
  have BA := Aside0.mk (blk_new' w1 (.cells #[.int .i64 x0, .int .i64 x1] 43))
  clear hb
  go_wp2_with (fail)
  generalize w1.heap.size = A at BA ⊢
  generalize w1.alloc (.cells #[.int .i64 x0, .int .i64 x1] 43) = v1 at BA HB1 ⊢
  with_reducible refine (roots_Root.calls _ _ _ y0 y1 0 _ H2.out).mono ?_
  rintro e w1 ⟨rfl, hb⟩
  have HB2 := Aside0.mk (below_alloc (below_then HB1.out HB1.out.size hb) (.cells #[.int .i64 y0, .int .i64 y1] 43))
  have BA := Aside0.mk (alloc_keeps (blk_below BA.out hb) (.cells #[.int .i64 y0, .int .i64 y1] 43))
  have BB := Aside0.mk (blk_new' w1 (.cells #[.int .i64 y0, .int .i64 y1] 43))
  clear hb
  go_wp2_with (fail)
  generalize w1.heap.size = D at BB ⊢
  generalize w1.alloc (.cells #[.int .i64 y0, .int .i64 y1] 43) = v2 at BA BB HB2 ⊢
  with_reducible refine (roots_Root.calls _ _ _ z0 z1 0 _ H3.out).mono ?_
  rintro e w1 ⟨rfl, hb⟩
  have HB3 := Aside0.mk (below_alloc (below_then HB2.out HB2.out.size hb) (.cells #[.int .i64 z0, .int .i64 z1] 43))
  have BA3 := Aside0.mk (alloc_keeps (blk_below BA.out hb) (.cells #[.int .i64 z0, .int .i64 z1] 43))
  have BB3 := Aside0.mk (alloc_keeps (blk_below BB.out hb) (.cells #[.int .i64 z0, .int .i64 z1] 43))
  have BC := Aside0.mk (blk_new' w1 (.cells #[.int .i64 z0, .int .i64 z1] 43))
  clear hb
  have c0 : (w1.alloc (.cells #[.int .i64 z0, .int .i64 z1] 43)).cell? ⟨A, 0, none⟩ = some (.int .i64 x0) := (blk_cell BA3.out 0).trans rfl
  have c1 : (w1.alloc (.cells #[.int .i64 z0, .int .i64 z1] 43)).cell? ⟨A, 1, none⟩ = some (.int .i64 x1) := (blk_cell BA3.out 1).trans rfl
  have c2 : (w1.alloc (.cells #[.int .i64 z0, .int .i64 z1] 43)).cell? ⟨D, 0, none⟩ = some (.int .i64 y0) := (blk_cell BB3.out 0).trans rfl
  have c3 : (w1.alloc (.cells #[.int .i64 z0, .int .i64 z1] 43)).cell? ⟨D, 1, none⟩ = some (.int .i64 y1) := (blk_cell BB3.out 1).trans rfl
  go_wp2_with (fail)
  with_reducible refine (cx_Times.calls _ _ _ _ p0 p1 0 _ H4.out).mono ?_
  rintro e w2 ⟨rfl, hb⟩
  have HB4 := Aside0.mk (below_alloc (below_then HB3.out HB3.out.size hb) (.cells #[.int .i64 p0, .int .i64 p1] 43))
  have BC4 := Aside0.mk (alloc_keeps (blk_below BC.out hb) (.cells #[.int .i64 p0, .int .i64 p1] 43))
  have BP := Aside0.mk (blk_new' w2 (.cells #[.int .i64 p0, .int .i64 p1] 43))
  clear hb c0 c1 c2 c3
  go_wp2_with (fail)
  generalize w2.heap.size = E at BP ⊢
  generalize w2.alloc (.cells #[.int .i64 p0, .int .i64 p1] 43) = v4 at BP BC4 HB4 ⊢
  with_reducible refine (headroomlaw07_alive.calls true _ H5.out).mono ?_
  rintro e w3 ⟨rfl, hb⟩
  have HB5 := Aside0.mk (below_then HB4.out HB4.out.size hb)
  have bP := blk_below BP.out hb
  have bC := blk_below BC4.out hb
  have c0 := (blk_cell bP 0).trans rfl
  have c1 := (blk_cell bP 1).trans rfl
  have c2 := (blk_cell bC 0).trans rfl
  have c3 := (blk_cell bC 1).trans rfl
  have BP5 := Aside0.mk bP
  clear hb bP bC
  have e0 : IntKind.i64.wrap (z0 * 2 ^ min B.toNat 64) = s0 := G0.out
  have e1 : IntKind.i64.wrap (z1 * 2 ^ min B.toNat 64) = s1 := G1.out
  have e2 : IntKind.i64.wrap (p0 - s0) = re := (i64_w _).trans G2.out
  have e3 : IntKind.i64.wrap (p1 - s1) = im := (i64_w _).trans G3.out
  go_wp2_with (fail)
  go_quiet (fail)
  simp only [Exit.then]
  go_at_K
  clear e0 e1 e2 e3
  have e4 : wrap64 (4 * 2 ^ min B.toNat 64) = X := (i64_w _).symm.trans GX.out
  obtain ⟨k1, k2⟩ := H6.out
  obtain ⟨k3, k4⟩ := H7.out
  go_wp2_with (fail)
  all_goals
    go_ret
    exact ⟨by first | rfl | simp [*], pw_below_drewN HB5.out _⟩
end Go.Proofs.Ytmglkelmdcpinaa.G
/- RootsProduct's call answers true at any numbers of 64 bits, and leaves memory that was there as it was. Conditions: none. -/
namespace Go.Proofs.Ytmglkelmdcpinaa.G
open Go.RowKit Go.Proofs.YtmglkelmdcpinaaW.PrintWords Go.Proofs.YtmglkelmdcpinaaW.PrintLast Go.Proofs.YtmglkelmdcpinaaW.PrintMore Go.Proofs.Ytmglkelmdcpinaa.M
set_option linter.unusedVariables false
set_option linter.unusedSimpArgs false

theorem mul_bound2 {x y a b : Int} (hx0 : -a ≤ x) (hx1 : x ≤ a) (hy0 : -b ≤ y) (hy1 : y ≤ b) : -(a * b) ≤ x * y ∧ x * y ≤ a * b := by
  have ha : 0 ≤ a := by omega
  have hb : 0 ≤ b := by omega
  have h1 : x * y ≤ a * b := by
    rcases Int.le_total 0 y with h | h
    · exact Int.le_trans (Int.mul_le_mul_of_nonneg_right hx1 h) (Int.mul_le_mul_of_nonneg_left hy1 ha)
    · have h2 : x * y ≤ (-a) * y := Int.mul_le_mul_of_nonpos_right hx0 h
      have h3 : (-a) * y ≤ a * b := by
        have : (-a) * y = a * (-y) := by rw [Int.neg_mul, Int.mul_neg]
        rw [this]
        exact Int.mul_le_mul_of_nonneg_left (by omega) ha
      exact Int.le_trans h2 h3
  have h2 : -(x * y) ≤ a * b := by
    have e : -(x * y) = (-x) * y := by rw [Int.neg_mul]
    rw [e]
    rcases Int.le_total 0 y with h | h
    · exact Int.le_trans (Int.mul_le_mul_of_nonneg_right (show -x ≤ a by omega) h) (Int.mul_le_mul_of_nonneg_left hy1 ha)
    · have h2 : (-x) * y ≤ (-a) * y := Int.mul_le_mul_of_nonpos_right (show -a ≤ -x by omega) h
      have h3 : (-a) * y ≤ a * b := by
        have : (-a) * y = a * (-y) := by rw [Int.neg_mul, Int.mul_neg]
        rw [this]
        exact Int.mul_le_mul_of_nonneg_left (by omega) ha
      exact Int.le_trans h2 h3
  omega
theorem mxmn_iff (m a b : Int) : (decide (mx a b ≤ m) && decide (-m ≤ mn a b)) = decide (a ≤ m ∧ -m ≤ a ∧ b ≤ m ∧ -m ≤ b) := by
  unfold mx mn
  rw [Bool.eq_iff_iff]
  simp only [Bool.and_eq_true, decide_eq_true_eq]
  split <;> split <;> omega
/-- A root in 56 bits. -/
def turnW (c : Nat) (p : Int × Int) : Int × Int := match c with | 0 => (p.1, -p.2) | 1 => (-p.2, -p.1) | 2 => (-p.1, p.2) | _ => (p.2, p.1)
def rootW (L : Nat) (r : Int) : Int × Int := turnW (4 * r / 2 ^ L).toNat (pointV L (4 * r % 2 ^ L))
def tabW (L : Nat) : List (Int × Int) := (List.range (2 ^ L)).map fun (r : Nat) => rootW L r
def nearW (x : Int) : Bool := decide (x ≤ 1180591620717411303424) && decide (-1180591620717411303424 ≤ x)
def prodW (a b c : Int × Int) : Bool := nearW (a.1 * b.1 - a.2 * b.2 - c.1 * 72057594037927936) && nearW (a.1 * b.2 + a.2 * b.1 - c.2 * 72057594037927936)
def normW (a : Int × Int) : Bool := decide (a.1 + a.2 ≤ 104483511354995507) && decide (a.1 - a.2 ≤ 104483511354995507) && decide (-a.1 + a.2 ≤ 104483511354995507) && decide (-a.1 - a.2 ≤ 104483511354995507)
def rot {α : Type} : List α → List α
  | [] => []
  | x :: xs => xs ++ [x]
def rowsW (t : List (Int × Int)) : List (Int × Int) → List (Int × Int) → Bool
  | [], _ => true
  | a :: l, c => ((t.zip c).all fun p => prodW a p.1 p.2) && rowsW t l (rot c)
theorem w_all : ([2, 3, 4, 5, 6].all fun L => rowsW (tabW L) (tabW L) (tabW L) && (tabW L).all normW) = true := by decide +kernel
theorem rot_length {α : Type} (l : List α) : (rot l).length = l.length := by cases l <;> simp [rot]
theorem rot_get {α : Type} (l : List α) (j : Nat) (h : j < l.length) : (rot l)[j]? = l[(j + 1) % l.length]? := by
  cases l with
  | nil => simp at h
  | cons x xs =>
    simp only [rot, List.length_cons] at h ⊢
    by_cases hj : j < xs.length
    · rw [List.getElem?_append_left hj, Nat.mod_eq_of_lt (by omega)]
      simp
    · have : j = xs.length := by omega
      subst this
      rw [List.getElem?_append_right (Nat.le_refl _), Nat.sub_self, Nat.mod_self]
      simp
theorem rows_get (t : List (Int × Int)) : ∀ (l c : List (Int × Int)) (i j : Nat) (a b d : Int × Int), c.length = t.length → rowsW t l c = true → l[i]? = some a → t[j]? = some b → c[(i + j) % t.length]? = some d → prodW a b d = true := by
  intro l
  induction l with
  | nil => intro c i j a b d _ _ h; simp at h
  | cons x l ih =>
    intro c i j a b d hc hr ha hb hd
    have hjt : j < t.length := (List.getElem?_eq_some_iff.1 hb).1
    simp only [rowsW, Bool.and_eq_true] at hr
    cases i with
    | zero =>
      simp at ha
      subst ha
      rw [Nat.zero_add, Nat.mod_eq_of_lt hjt] at hd
      have hz : (t.zip c)[j]? = some (b, d) := by
        rw [List.getElem?_zip_eq_some]
        exact ⟨hb, hd⟩
      exact (List.all_eq_true.1 hr.1) _ (List.mem_of_getElem? hz)
    | succ i =>
      simp at ha
      refine ih (rot c) i j a b d (by rw [rot_length]; exact hc) hr.2 ha hb ?_
      have hm : (i + j) % t.length < c.length := by rw [hc]; exact Nat.mod_lt _ (by omega)
      rw [rot_get c _ hm, hc]
      have : ((i + j) % t.length + 1) % t.length = (i + 1 + j) % t.length := by
        rw [Nat.mod_add_mod]
        congr 1
        omega
      rw [this]
      exact hd
theorem tab_get (L r : Nat) (h : r < 2 ^ L) : (tabW L)[r]? = some (rootW L r) := by simp [tabW, h]
theorem tab_length (L : Nat) : (tabW L).length = 2 ^ L := by simp [tabW]
theorem prod_w (L r s : Nat) (h2 : 2 ≤ L) (h6 : L ≤ 6) (hr : r < 2 ^ L) (hs : s < 2 ^ L) : prodW (rootW L r) (rootW L s) (rootW L ((r + s) % 2 ^ L : Nat)) = true ∧ normW (rootW L r) = true := by
  have h := w_all
  rw [List.all_eq_true] at h
  have h1 := h L (by rcases (by omega : L = 2 ∨ L = 3 ∨ L = 4 ∨ L = 5 ∨ L = 6) with rfl | rfl | rfl | rfl | rfl <;> simp)
  rw [Bool.and_eq_true] at h1
  refine ⟨rows_get (tabW L) _ _ r s _ _ _ rfl h1.1 (tab_get L r hr) (tab_get L s hs) ?_, (List.all_eq_true.1 h1.2) _ (List.mem_of_getElem? (tab_get L r hr))⟩
  rw [tab_length]
  exact tab_get L _ (Nat.mod_lt _ (by omega))
theorem rsh_off (x : Int) (s : Nat) (m : Int) : -(2 ^ s) ≤ rsh x s m * 2 ^ s - x ∧ rsh x s m * 2 ^ s - x ≤ 2 ^ s := by
  have hp := Go.Proofs.Ytmglkelmdcpinaa.M.pow_pos s
  have hq := Go.Proofs.Ytmglkelmdcpinaa.M.pow_pos (s - 1)
  have hle := Go.Proofs.Ytmglkelmdcpinaa.M.pow_le (show s - 1 ≤ s by omega)
  rcases rsh_cases x s m with ⟨h1, h2, _⟩ | ⟨h1, h2, _⟩ <;> omega
/-- A root in fewer bits is near the one in 56. -/
theorem root_near (L : Nat) (r : Int) (B : Nat) (h2 : 2 ≤ L) (h6 : L ≤ 6) (h0 : 0 ≤ r) (h1 : r < 2 ^ L) :
    (-(2 ^ (56 - B)) ≤ (rootV L r B).1 * 2 ^ (56 - B) - (rootW L r).1 ∧ (rootV L r B).1 * 2 ^ (56 - B) - (rootW L r).1 ≤ 2 ^ (56 - B)) ∧
    (-(2 ^ (56 - B)) ≤ (rootV L r B).2 * 2 ^ (56 - B) - (rootW L r).2 ∧ (rootV L r B).2 * 2 ^ (56 - B) - (rootW L r).2 ≤ 2 ^ (56 - B)) := by
  have hb := shiftV_bound L r B h2 h6
  have hp := Go.Proofs.Ytmglkelmdcpinaa.M.pow_pos L
  have hq0 : 0 ≤ 4 * r / 2 ^ L := Int.ediv_nonneg (by omega) (by omega)
  have hq1 : 4 * r / 2 ^ L < 4 := Int.ediv_lt_of_lt_mul hp (by omega)
  unfold rootV rootW
  have ex := rsh_off (pointV L (4 * r % 2 ^ L)).1 (56 - B) 1
  have ey := rsh_off (pointV L (4 * r % 2 ^ L)).2 (56 - B) 1
  have sx : (shiftV L r B).1 = rsh (pointV L (4 * r % 2 ^ L)).1 (56 - B) 1 := rfl
  have sy : (shiftV L r B).2 = rsh (pointV L (4 * r % 2 ^ L)).2 (56 - B) 1 := rfl
  rw [← sx] at ex
  rw [← sy] at ey
  generalize (shiftV L r B).1 = x at hb ex ⊢
  generalize (shiftV L r B).2 = y at hb ey ⊢
  generalize pointV L (4 * r % 2 ^ L) = p at ex ey ⊢
  clear sx sy
  generalize 4 * r / 2 ^ L = c at hq0 hq1 ⊢
  generalize (2 : Int) ^ (56 - B) = D at ex ey ⊢
  have w0 : wrap64 (-x) = -x := wrap64_id (by omega) (by omega)
  have w1 : wrap64 (-y) = -y := wrap64_id (by omega) (by omega)
  have w2 : wrap64 (-(-x)) = x := by rw [Int.neg_neg]; exact wrap64_id (by omega) (by omega)
  have w3 : wrap64 (-(-y)) = y := by rw [Int.neg_neg]; exact wrap64_id (by omega) (by omega)
  rcases (by omega : c = 0 ∨ c = 1 ∨ c = 2 ∨ c = 3) with rfl | rfl | rfl | rfl
  · simp only [Int.toNat_zero, turnIt, turnW, w1, Int.neg_mul]; omega
  · simp only [show (1 : Int).toNat = 1 from rfl, turnIt, turnW, w0, w1, Int.neg_mul]; omega
  · simp only [show (2 : Int).toNat = 2 from rfl, turnIt, turnW, w0, w1, w2, w3, Int.neg_mul]; omega
  · simp only [show (3 : Int).toNat = 3 from rfl, turnIt, turnW, w0, w1, w2, w3, Int.neg_mul]; omega
theorem prod_id (D T a1 a2 b1 b2 c1 A1 A2 B1 B2 C1 e1 e2 f1 f2 g1 : Int) (ha1 : a1 * D = A1 + e1) (ha2 : a2 * D = A2 + e2) (hb1 : b1 * D = B1 + f1) (hb2 : b2 * D = B2 + f2) (hc : c1 * D = C1 + g1) :
    (D * D) * (a1 * b1 - a2 * b2 - c1 * T) = (A1 * B1 - A2 * B2 - C1 * (D * T)) + (A1 * f1 - A2 * f2) + (e1 * B1 - e2 * B2) + (e1 * f1 - e2 * f2) - g1 * (D * T) := by
  have h1 : (D * D) * (a1 * b1 - a2 * b2 - c1 * T) = (a1 * D) * (b1 * D) - (a2 * D) * (b2 * D) - (c1 * D) * (D * T) := by grind
  rw [h1, ha1, ha2, hb1, hb2, hc]
  grind
theorem two_mul (x1 x2 y1 y2 K D : Int) (hD : 0 ≤ D) (hy1 : -D ≤ y1 ∧ y1 ≤ D) (hy2 : -D ≤ y2 ∧ y2 ≤ D) (h1 : x1 + x2 ≤ K) (h2 : x1 - x2 ≤ K) (h3 : -x1 + x2 ≤ K) (h4 : -x1 - x2 ≤ K) :
    -(K * D) ≤ x1 * y1 - x2 * y2 ∧ x1 * y1 - x2 * y2 ≤ K * D := by
  obtain ⟨m1, p1, p2, p3⟩ : ∃ m1, -m1 ≤ x1 ∧ x1 ≤ m1 ∧ (m1 = x1 ∨ m1 = -x1) := by
    by_cases h : 0 ≤ x1
    · exact ⟨x1, by omega, by omega, .inl rfl⟩
    · exact ⟨-x1, by omega, by omega, .inr rfl⟩
  obtain ⟨m2, q1, q2, q3⟩ : ∃ m2, -m2 ≤ x2 ∧ x2 ≤ m2 ∧ (m2 = x2 ∨ m2 = -x2) := by
    by_cases h : 0 ≤ x2
    · exact ⟨x2, by omega, by omega, .inl rfl⟩
    · exact ⟨-x2, by omega, by omega, .inr rfl⟩
  have b1 := mul_bound2 p1 p2 hy1.1 hy1.2
  have b2 := mul_bound2 q1 q2 hy2.1 hy2.2
  have hs : (m1 + m2) * D ≤ K * D := Int.mul_le_mul_of_nonneg_right (by omega) hD
  rw [Int.add_mul] at hs
  omega
theorem prod_ask (D T a1 a2 b1 b2 c1 A1 A2 B1 B2 C1 : Int) (hD0 : 67108864 ≤ D) (hD1 : D ≤ 17592186044416) (hDT : D * T = 72057594037927936)
    (ha1 : -D ≤ a1 * D - A1 ∧ a1 * D - A1 ≤ D) (ha2 : -D ≤ a2 * D - A2 ∧ a2 * D - A2 ≤ D) (hb1 : -D ≤ b1 * D - B1 ∧ b1 * D - B1 ≤ D) (hb2 : -D ≤ b2 * D - B2 ∧ b2 * D - B2 ≤ D) (hc : -D ≤ c1 * D - C1 ∧ c1 * D - C1 ≤ D)
    (nA1 : A1 + A2 ≤ 104483511354995507) (nA2 : A1 - A2 ≤ 104483511354995507) (nA3 : -A1 + A2 ≤ 104483511354995507) (nA4 : -A1 - A2 ≤ 104483511354995507)
    (nB1 : B1 + B2 ≤ 104483511354995507) (nB2 : B1 - B2 ≤ 104483511354995507) (nB3 : -B1 + B2 ≤ 104483511354995507) (nB4 : -B1 - B2 ≤ 104483511354995507)
    (hp0 : -1180591620717411303424 ≤ A1 * B1 - A2 * B2 - C1 * 72057594037927936) (hp1 : A1 * B1 - A2 * B2 - C1 * 72057594037927936 ≤ 1180591620717411303424) :
    -(4 * T) ≤ a1 * b1 - a2 * b2 - c1 * T ∧ a1 * b1 - a2 * b2 - c1 * T ≤ 4 * T := by
  have hid := prod_id D T a1 a2 b1 b2 c1 A1 A2 B1 B2 C1 (a1 * D - A1) (a2 * D - A2) (b1 * D - B1) (b2 * D - B2) (c1 * D - C1) (by omega) (by omega) (by omega) (by omega) (by omega)
  generalize a1 * D - A1 = e1 at ha1 hid
  generalize a2 * D - A2 = e2 at ha2 hid
  generalize b1 * D - B1 = f1 at hb1 hid
  generalize b2 * D - B2 = f2 at hb2 hid
  generalize c1 * D - C1 = g1 at hc hid
  rw [hDT] at hid
  have t1 := two_mul A1 A2 f1 f2 _ D (by omega) hb1 hb2 nA1 nA2 nA3 nA4
  have t2 := two_mul B1 B2 e1 e2 _ D (by omega) ha1 ha2 nB1 nB2 nB3 nB4
  rw [Int.mul_comm B1, Int.mul_comm B2] at t2
  have t3 := mul_bound2 ha1.1 ha1.2 hb1.1 hb1.2
  have t4 := mul_bound2 ha2.1 ha2.2 hb2.1 hb2.2
  have hDD : D * D ≤ 17592186044416 * D := Int.mul_le_mul_of_nonneg_right hD1 (by omega)
  have hDp : 0 < D * D := Int.mul_pos (by omega) (by omega)
  have h4 : (D * D) * (4 * T) = 4 * (D * 72057594037927936) := by rw [← hDT]; grind
  have h5 : (D * D) * (-(4 * T)) = -(4 * (D * 72057594037927936)) := by rw [← h4, Int.mul_neg]
  generalize A1 * B1 - A2 * B2 - C1 * 72057594037927936 = P at hid hp0 hp1
  generalize A1 * f1 - A2 * f2 = Q at hid t1
  generalize e1 * B1 - e2 * B2 = R at hid t2
  generalize e1 * f1 = U at hid t3
  generalize e2 * f2 = V at hid t4
  constructor
  · apply Int.le_of_mul_le_mul_left _ hDp
    rw [hid, h5]
    generalize D * D = W at *
    omega
  · apply Int.le_of_mul_le_mul_left _ hDp
    rw [hid, h4]
    generalize D * D = W at *
    omega
theorem rsh_top (x : Int) (s : Nat) (hs : 26 ≤ s) (h56 : s ≤ 56) (h1 : x ≤ 72057594037927940) : rsh x s 1 ≤ 2 ^ (56 - s) := by
  have hp := Go.Proofs.Ytmglkelmdcpinaa.M.pow_pos s
  have hq := Go.Proofs.Ytmglkelmdcpinaa.M.pow_pos (56 - s)
  have hh : (2 : Int) ^ s = 2 * 2 ^ (s - 1) := by
    have : s = (s - 1) + 1 := by omega
    rw [this, Int.pow_succ]
    simp
    omega
  have h25 : (2 : Int) ^ 25 ≤ 2 ^ (s - 1) := Go.Proofs.Ytmglkelmdcpinaa.M.pow_le (by omega)
  have hN : (2 : Int) ^ s * 2 ^ (56 - s) = 72057594037927936 := by
    rw [← Int.pow_add, show s + (56 - s) = 56 by omega]
    rfl
  have hd := Int.mul_ediv_add_emod x (2 ^ s)
  have h0 : (0 : Int) ≤ x % 2 ^ s := Int.emod_nonneg _ (by omega)
  have hle : x / 2 ^ s ≤ 2 ^ (56 - s) := by
    apply Int.le_of_lt_add_one
    apply Int.ediv_lt_of_lt_mul hp
    rw [Int.add_mul, Int.one_mul, Int.mul_comm (2 ^ (56 - s)), hN]
    omega
  have hv : rsh x s 1 = if 2 ^ (s - 1) ≤ x % 2 ^ s then x / 2 ^ s + 1 else x / 2 ^ s := by
    unfold rsh
    rw [if_neg (by omega), if_neg (by decide), if_pos rfl]
  rw [hv]
  split
  · rename_i hr
    by_cases he : x / 2 ^ s = 2 ^ (56 - s)
    · exfalso
      rw [he, hN] at hd
      omega
    · omega
  · exact hle
theorem root_range (L : Nat) (r : Int) (B : Nat) (h2 : 2 ≤ L) (h6 : L ≤ 6) (h0 : 0 ≤ r) (h1 : r < 2 ^ L) (hB : B ≤ 30) : within 1073741824 [⟨(rootV L r B).1, (rootV L r B).2⟩] = true := by
  have hb := shiftV_bound L r B h2 h6
  have hp := Go.Proofs.Ytmglkelmdcpinaa.M.pow_pos L
  have hq0 : 0 ≤ 4 * r / 2 ^ L := Int.ediv_nonneg (by omega) (by omega)
  have hq1 : 4 * r / 2 ^ L < 4 := Int.ediv_lt_of_lt_mul hp (by omega)
  obtain ⟨u, hu⟩ : ∃ u : Nat, 4 * r % 2 ^ L = u := ⟨(4 * r % 2 ^ L).toNat, (Int.toNat_of_nonneg (Int.emod_nonneg _ (by omega))).symm⟩
  have hlt : u < 2 ^ L := by
    have := Int.emod_lt_of_pos (4 * r) hp
    rw [hu] at this
    exact_mod_cast this
  have hP := (point_is L u h2 h6 hlt).2
  have hBp : (2 : Int) ^ B ≤ 2 ^ 30 := Go.Proofs.Ytmglkelmdcpinaa.M.pow_le hB
  have tx := rsh_top (pointV L u).1 (56 - B) (by omega) (by omega) (by omega)
  have ty := rsh_top (pointV L u).2 (56 - B) (by omega) (by omega) (by omega)
  rw [show 56 - (56 - B) = B by omega] at tx ty
  unfold rootV
  have sx : (shiftV L r B).1 = rsh (pointV L u).1 (56 - B) 1 := by unfold shiftV; rw [hu]
  have sy : (shiftV L r B).2 = rsh (pointV L u).2 (56 - B) 1 := by unfold shiftV; rw [hu]
  rw [← sx] at tx
  rw [← sy] at ty
  generalize (shiftV L r B).1 = x at hb tx ⊢
  generalize (shiftV L r B).2 = y at hb ty ⊢
  clear sx sy
  generalize 4 * r / 2 ^ L = c at hq0 hq1 ⊢
  have w0 : wrap64 (-x) = -x := wrap64_id (by omega) (by omega)
  have w1 : wrap64 (-y) = -y := wrap64_id (by omega) (by omega)
  have w2 : wrap64 (-(-x)) = x := by rw [Int.neg_neg]; exact wrap64_id (by omega) (by omega)
  have w3 : wrap64 (-(-y)) = y := by rw [Int.neg_neg]; exact wrap64_id (by omega) (by omega)
  unfold within
  simp only [List.all_cons, List.all_nil, Bool.and_true]
  rw [mxmn_iff, decide_eq_true_eq]
  rcases (by omega : c = 0 ∨ c = 1 ∨ c = 2 ∨ c = 3) with rfl | rfl | rfl | rfl
  · simp only [Int.toNat_zero, turnIt, w1]; omega
  · simp only [show (1 : Int).toNat = 1 from rfl, turnIt, w0, w1]; omega
  · simp only [show (2 : Int).toNat = 2 from rfl, turnIt, w0, w1, w2, w3]; omega
  · simp only [show (3 : Int).toNat = 3 from rfl, turnIt, w0, w1, w2, w3]; omega
theorem within_range {a b m : Int} (h : within m [⟨a, b⟩] = true) : a ≤ m ∧ -m ≤ a ∧ b ≤ m ∧ -m ≤ b := by
  unfold within at h
  simp only [List.all_cons, List.all_nil, Bool.and_true] at h
  rw [mxmn_iff, decide_eq_true_eq] at h
  exact h
theorem within_of {a b m : Int} (h : a ≤ m ∧ -m ≤ a ∧ b ≤ m ∧ -m ≤ b) : within m [⟨a, b⟩] = true := by
  unfold within
  simp only [List.all_cons, List.all_nil, Bool.and_true]
  rw [mxmn_iff, decide_eq_true_eq]
  exact h
theorem root_at (L : Nat) (k : Int) (B : Nat) (h2 : 2 ≤ L) (h6 : L ≤ 6) (hB : B ≤ 40) : roots_Root.f L k B = some ((rootV L (k % 2 ^ L) B).1, (rootV L (k % 2 ^ L) B).2, 0) := by
  rw [Root_is, Int.toNat_natCast, Int.toNat_natCast, if_pos (show mayB L B = true from decide_eq_true (by omega))]
theorem mod_len (a n c : Int) (hn : 0 < n) (hn2 : n ≤ 100) (hc : 0 ≤ c) (hc2 : c ≤ 100) : ∃ r : Nat, wrap64 ((wrap64 (a.tmod n + n)).tmod n + c) = r ∧ c ≤ r ∧ (r : Int) < c + n := by
  have h1 := tmod_range a n hn
  rw [wrap64_id (x := a.tmod n + n) (by omega) (by omega)]
  have h2 := tmod_nonneg (a.tmod n + n) n (by omega) hn
  rw [wrap64_id (by omega) (by omega)]
  exact ⟨((a.tmod n + n).tmod n + c).toNat, by omega, by omega, by omega⟩
theorem headroomlaw07_RootsProduct.law (a0 a1 a2 a3 : Int) (w : World) (w0 : (Lit.int .i64 a0).wf = true) (w1 : (Lit.int .i64 a1).wf = true) (w2 : (Lit.int .i64 a2).wf = true) (w3 : (Lit.int .i64 a3).wf = true) :
    Calls Try.prog 10 #[.int .i64 a0, .int .i64 a1, .int .i64 a2, .int .i64 a3] w fun e w' => e = .returned (.bool true) ∧ Below w.heap.size w w' := by
  obtain ⟨L, hL, l0, l1⟩ := mod_len a0 5 2 (by decide) (by decide) (by decide) (by decide)
  obtain ⟨B, hB, b0, b1⟩ := mod_len a3 19 12 (by decide) (by decide) (by decide) (by decide)
  have k0 := tmod_range a1 1099511627776 (by decide)
  have m0 := tmod_range a2 1099511627776 (by decide)
  obtain ⟨K, hK⟩ : ∃ K, a1.tmod 1099511627776 = K := ⟨_, rfl⟩
  obtain ⟨M, hM⟩ : ∃ M, a2.tmod 1099511627776 = M := ⟨_, rfl⟩
  rw [hK] at k0
  rw [hM] at m0
  have hp := Go.Proofs.Ytmglkelmdcpinaa.M.pow_pos L
  have hpn : (2 : Int) ^ L = ((2 ^ L : Nat) : Int) := by norm_cast
  obtain ⟨r, hr⟩ : ∃ r : Nat, K % 2 ^ L = r := ⟨(K % 2 ^ L).toNat, (Int.toNat_of_nonneg (Int.emod_nonneg _ (by omega))).symm⟩
  obtain ⟨s, hs⟩ : ∃ s : Nat, M % 2 ^ L = s := ⟨(M % 2 ^ L).toNat, (Int.toNat_of_nonneg (Int.emod_nonneg _ (by omega))).symm⟩
  have hrl : r < 2 ^ L := by have := Int.emod_lt_of_pos K hp; rw [hr, hpn] at this; exact_mod_cast this
  have hsl : s < 2 ^ L := by have := Int.emod_lt_of_pos M hp; rw [hs, hpn] at this; exact_mod_cast this
  have hkm : wrap64 (K + M) = K + M := wrap64_id (by omega) (by omega)
  have ht : (K + M) % 2 ^ L = (((r + s) % 2 ^ L : Nat) : Int) := by
    rw [Int.add_emod, hr, hs, hpn]
    norm_cast
  have htl : (r + s) % 2 ^ L < 2 ^ L := Nat.mod_lt _ (Nat.two_pow_pos L)
  have q1 := root_at L K B (by omega) (by omega) (by omega)
  have q2 := root_at L M B (by omega) (by omega) (by omega)
  have q3 := root_at L (K + M) B (by omega) (by omega) (by omega)
  rw [hr] at q1
  rw [hs] at q2
  rw [ht] at q3
  have c1 : (r : Int) < 2 ^ L := by rw [hpn]; exact_mod_cast hrl
  have c2 : (s : Int) < 2 ^ L := by rw [hpn]; exact_mod_cast hsl
  have c3 : (((r + s) % 2 ^ L : Nat) : Int) < 2 ^ L := by rw [hpn]; exact_mod_cast htl
  have n1 := root_near L r B (by omega) (by omega) (by omega) c1
  have n2 := root_near L s B (by omega) (by omega) (by omega) c2
  have n3 := root_near L ((r + s) % 2 ^ L : Nat) B (by omega) (by omega) (by omega) c3
  have g1 := root_range L r B (by omega) (by omega) (by omega) c1 (by omega)
  have g2 := root_range L s B (by omega) (by omega) (by omega) c2 (by omega)
  have g3 := root_range L ((r + s) % 2 ^ L : Nat) B (by omega) (by omega) (by omega) c3 (by omega)
  obtain ⟨pw, nw1⟩ := prod_w L r s (by omega) (by omega) hrl hsl
  have nw2 := (prod_w L s r (by omega) (by omega) hsl hrl).2
  generalize (((r + s) % 2 ^ L : Nat) : Int) = t at *
  generalize rootV L r B = x at *
  generalize rootV L s B = y at *
  generalize rootV L t B = z at *
  generalize rootW L r = X at *
  generalize rootW L s = Y at *
  generalize rootW L t = Z at *
  obtain ⟨x0, x1⟩ := x
  obtain ⟨y0, y1⟩ := y
  obtain ⟨z0, z1⟩ := z
  obtain ⟨X0, X1⟩ := X
  obtain ⟨Y0, Y1⟩ := Y
  obtain ⟨Z0, Z1⟩ := Z
  unfold prodW nearW at pw
  unfold normW at nw1 nw2
  simp only [Bool.and_eq_true, decide_eq_true_eq] at pw nw1 nw2
  dsimp only at n1 n2 n3 g1 g2 g3 q1 q2 q3
  have x_r := within_range g1
  have y_r := within_range g2
  have z_r := within_range g3
  have hD0 : (67108864 : Int) ≤ 2 ^ (56 - B) := by have := Go.Proofs.Ytmglkelmdcpinaa.M.pow_le (show 26 ≤ 56 - B by omega); simpa using this
  have hD1 : (2 : Int) ^ (56 - B) ≤ 17592186044416 := by have := Go.Proofs.Ytmglkelmdcpinaa.M.pow_le (show 56 - B ≤ 44 by omega); simpa using this
  have hDT : (2 : Int) ^ (56 - B) * 2 ^ B = 72057594037927936 := by rw [← Int.pow_add, show 56 - B + B = 56 by omega]; rfl
  have hT0 := Go.Proofs.Ytmglkelmdcpinaa.M.pow_pos B
  have hT1 : (2 : Int) ^ B ≤ 2 ^ 30 := Go.Proofs.Ytmglkelmdcpinaa.M.pow_le (by omega)
  have re_ok := prod_ask (2 ^ (56 - B)) (2 ^ B) x0 x1 y0 y1 z0 X0 X1 Y0 Y1 Z0 hD0 hD1 hDT n1.1 n1.2 n2.1 n2.2 n3.1 nw1.1.1.1 nw1.1.1.2 nw1.1.2 nw1.2 nw2.1.1.1 nw2.1.1.2 nw2.1.2 nw2.2 pw.1.2 pw.1.1
  have im_ok := prod_ask (2 ^ (56 - B)) (2 ^ B) x0 (-x1) y1 y0 z1 X0 (-X1) Y1 Y0 Z1 hD0 hD1 hDT n1.1 ⟨by rw [Int.neg_mul]; omega, by rw [Int.neg_mul]; omega⟩ n2.2 n2.1 n3.2 (by omega) (by omega) (by omega) (by omega) (by omega) (by omega) (by omega) (by omega)
    (by rw [Int.neg_mul]; have := pw.2.2; omega) (by rw [Int.neg_mul]; have := pw.2.1; omega)
  rw [Int.neg_mul] at im_ok
  have p1 := mul_bound2 x_r.2.1 x_r.1 y_r.2.1 y_r.1
  have p2 := mul_bound2 x_r.2.2.2 x_r.2.2.1 y_r.2.2.2 y_r.2.2.1
  have p3 := mul_bound2 x_r.2.1 x_r.1 y_r.2.2.2 y_r.2.2.1
  have p4 := mul_bound2 x_r.2.2.2 x_r.2.2.1 y_r.2.1 y_r.1
  have z1' := mul_bound2 z_r.2.1 z_r.1 (show -(2 ^ 30 : Int) ≤ 2 ^ B by omega) hT1
  have z2' := mul_bound2 z_r.2.2.2 z_r.2.2.1 (show -(2 ^ 30 : Int) ≤ 2 ^ B by omega) hT1
  have s0 : shl .i64 z0 (B : Int) = z0 * 2 ^ B := by
    unfold shl
    rw [Int.toNat_natCast, show min B IntKind.i64.bits = B by show min B 64 = B; omega, IntKind.wrap_i64]
    omega
  have s1 : shl .i64 z1 (B : Int) = z1 * 2 ^ B := by
    unfold shl
    rw [Int.toNat_natCast, show min B IntKind.i64.bits = B by show min B 64 = B; omega, IntKind.wrap_i64]
    omega
  have s4 : shl .i64 4 (B : Int) = 4 * 2 ^ B := by
    unfold shl
    rw [Int.toNat_natCast, show min B IntKind.i64.bits = B by show min B 64 = B; omega, IntKind.wrap_i64]
    omega
  have ht4 : cx_Times.f x0 x1 y0 y1 = some (x0 * y0 - x1 * y1, x0 * y1 + x1 * y0, 0) := by
    unfold cx_Times.f cx_Times.is
    rw [within_of (m := 2147483648) (by omega), g2]
    simp only [Bool.and_self, Bool.true_or, if_true]
    rw [wrap64_id (x := x0 * y0) (by omega) (by omega), wrap64_id (x := x1 * y1) (by omega) (by omega), wrap64_id (x := x0 * y1) (by omega) (by omega), wrap64_id (x := x1 * y0) (by omega) (by omega), wrap64_id (by omega) (by omega), wrap64_id (by omega) (by omega)]
  refine product_walk a0 a1 a2 a3 L K M B x0 x1 y0 y1 z0 z1 (x0 * y0 - x1 * y1) (x0 * y1 + x1 * y0) (z0 * 2 ^ B) (z1 * 2 ^ B) (x0 * y0 - x1 * y1 - z0 * 2 ^ B) (x0 * y1 + x1 * y0 - z1 * 2 ^ B) (4 * 2 ^ B) w hL hK hM hB (by omega) q1 q2 (by rw [hkm]; exact q3) ht4 rootsalive s0 s1 ?_ ?_ s4 ?_ ?_
  · exact wrap64_id (by omega) (by omega)
  · exact wrap64_id (by omega) (by omega)
  · rw [wrap64_id (by omega) (by omega)]
    omega
  · rw [wrap64_id (by omega) (by omega)]
    omega
end Go.Proofs.Ytmglkelmdcpinaa.G
