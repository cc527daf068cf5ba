/- Contracts and plain laws on the way to DftTurns, part 1 of 2. Conditions: each theorem's own. Joined by a program (merge.py). -/
import Derived.Test.YtmglkelmdcpinaaG0
import Derived.RangeFuncNested
import Derived.RangeFuncBound
import Derived.RangeFuncCalls
import Derived.RangeFuncLeaves
import Derived.Shelf.RegionOpen
import Derived.OwnWalkIn
import Derived.TacticsInMore
import Derived.LoopNIn
import Derived.LoopIn
import Derived.Sort.QuietIn
import Derived.Stop.RegionWithIn
/- The equality of structs of the translation, as one Bool. Conditions: none beyond the theorem's own. Written by a program (gprint.py). -/
namespace Go.Proofs.Ytmglkelmdcpinaa.G
open Go.RowKit Go.Proofs.YtmglkelmdcpinaaW.PrintWords Go.Proofs.YtmglkelmdcpinaaW.PrintLast Go.Proofs.YtmglkelmdcpinaaW.PrintMore
attribute [local go_sem] max2_int min2_int max_two min_two max_three min_three max_four min_four   -- for this text's walks alone
set_option linter.unusedVariables false
set_option linter.unusedSimpArgs false

theorem eqA43 (d : Nat) (w : World) (x0 y0 : Int) (x1 y1 : Int) :
    (Op.equalIn (d + 2) 43 (.agg #[.int .i64 x0, .int .i64 x1]) (.agg #[.int .i64 y0, .int .i64 y1])).run Try.prog w = .ok (x0 == y0 && (x1 == y1)) w := by
  refine eqA_of Try.underlying43 (by kernel_rfl) ?_
  refine eqf_cons (by rfl) (by go_simp; rfl) (by go_simp; rfl) (by go_simp) ?_
  exact eqf_last (by rfl) (by go_simp; rfl) (by go_simp; rfl) (by go_simp)
end Go.Proofs.Ytmglkelmdcpinaa.G
/- The contract of the function flip_Log (number 75 of the translation): what its call computes, as a plain Lean function; memory that was there stays as it was. Conditions: none beyond the theorem's own. Written by a program (gprint.py). -/
namespace Go.Proofs.Ytmglkelmdcpinaa.G
open Go.RowKit Go.Proofs.YtmglkelmdcpinaaW.PrintWords Go.Proofs.YtmglkelmdcpinaaW.PrintLast Go.Proofs.YtmglkelmdcpinaaW.PrintMore
attribute [local go_sem] max2_int min2_int max_two min_two max_three min_three max_four min_four   -- for this text's walks alone
set_option linter.unusedVariables false
set_option linter.unusedSimpArgs false

/-! ### flip_Log: function 75 -/
def flip_Log.l0 : Nat → Int → Int → Option (Int × Int)
  | 0, _, _ => none
  | k + 1, x0, x4 => if x4 ≤ 6 then (if 0 ≤ x4 then (if x0 = (shl .i64 1 x4) then (some (x4, 0)) else (flip_Log.l0 k x0 (wrap64 (x4 + 1)))) else (none)) else (some (0, 3))
def flip_Log.f (k : Nat) (a0 : Int) : Option (Int × Int) := flip_Log.l0 k a0 2
theorem flip_Log.mono_l : ∀ k, (∀ y0 y1, LeO (flip_Log.l0 k y0 y1) (flip_Log.l0 (k + 1) y0 y1))
  | 0 => fun _ _ r h => by simp [flip_Log.l0] at h
  | k + 1 => by
    have ih0 := flip_Log.mono_l k
    · intro y0 y1
      unfold flip_Log.l0
      repeat' first
      | (with_reducible exact ih0 _ _)
      | (with_reducible exact LeO.refl _)
      | (with_reducible exact LeO.none _)
      | (with_reducible refine LeO.ite ?_ ?_)
      | (with_reducible refine LeO.bind ?_ (fun _ => ?_))
      | exact ih0 _ _
      | exact LeO.none _
      | refine LeO.ite ?_ ?_
      | refine LeO.bind ?_ (fun _ => ?_)
theorem flip_Log.mono : ∀ a0 k, LeO (flip_Log.f k a0) (flip_Log.f (k + 1) a0) := by
  intro a0 k
  have ih0 := flip_Log.mono_l k
  unfold flip_Log.f
  repeat' first
      | (with_reducible exact ih0 _ _)
      | (with_reducible exact LeO.refl _)
      | (with_reducible exact LeO.none _)
      | (with_reducible refine LeO.ite ?_ ?_)
      | (with_reducible refine LeO.bind ?_ (fun _ => ?_))
      | exact ih0 _ _
      | exact LeO.none _
      | refine LeO.ite ?_ ?_
      | refine LeO.bind ?_ (fun _ => ?_)
set_option maxHeartbeats 8000000 in
set_option maxRecDepth 100000 in
theorem flip_Log.calls (k : Nat) (a0 : Int) (r1 : Int) (r2 : Int) (w : World) (h : flip_Log.f k a0 = some (r1, r2)) :
    Calls Try.prog 75 #[.int .i64 a0] w fun e w' => e = .returned (.tuple #[.int .i64 r1, .int .i64 r2]) ∧ Drawn0 w w' := by
  have H : (flip_Log.l0 k a0 2) = some (r1, r2) := h
  clear h
  have H' := Aside0.mk H
  clear H
  go_enter Try.func75, Try.ntmps75
  go_wp2
  go_loopg [4] k (fun kq v4 w' => ∃ (x4_1 : Int), v4 = .int .i64 x4_1 ∧ Aside0 (flip_Log.l0 kq a0 x4_1 = some (r1, r2)) ∧ Aside0 (kq ≤ k) ∧ Drawn0 w w')
  case atStart => exact ⟨(2), (by first | rfl | (simp; done) | (simp [*]; done)), H', ⟨Nat.le_refl _⟩, by repeat (first | exact Drawn0.refl _ | apply Drawn0.step)⟩
  case round =>
    clear H'
    obtain ⟨x4_1, rfl, HA, HK1, ⟨m1, rfl⟩⟩ := hrel
    cases gk with
    | zero => exact absurd HA.out (by simp [flip_Log.l0])
    | succ k1 =>
      have H := HA.out
      clear HA
      simp only [flip_Log.l0] at H
      by_cases c2 : x4_1 ≤ 6
      · rw [if_pos c2] at H
        have c2b0 : decide (x4_1 ≤ 6) = true := decide_eq_true c2
        clear c2
        by_cases c3 : 0 ≤ x4_1
        · rw [if_pos c3] at H
          have c3b0 := eq_true c3
          have c3b1 : decide (0 ≤ x4_1) = true := decide_eq_true c3
          clear c3
          obtain ⟨ji4, hji4⟩ : ∃ j_ : Int, (shl .i64 1 x4_1) = j_ := ⟨_, rfl⟩
          replace H : (if a0 = (ji4) then (some (x4_1, 0)) else (flip_Log.l0 k1 a0 (wrap64 (x4_1 + 1)))) = some (r1, r2) := by first | (rw [hji4] at H; exact H) | (simp only [hji4] at H ⊢; exact H)
          have hji4_ : (IntKind.i64.wrap (1 * 2 ^ min x4_1.toNat 64)) = ji4 := hji4
          have hji4z : x4_1 ≤ 64 → (IntKind.i64.wrap (1 * 2 ^ x4_1.toNat)) = ji4 := shl_small hji4
          have hji4u : (IntKind.i64.wrap (2 ^ min x4_1.toNat 64)) = ji4 := by have h_ := hji4_; rw [Int.one_mul] at h_; exact h_
          have hji4v : x4_1 ≤ 64 → (IntKind.i64.wrap (2 ^ x4_1.toNat)) = ji4 := fun hle_ => by have h_ := hji4z hle_; rw [Int.one_mul] at h_; exact h_
          have hji4y : (wrap64 (1 * 2 ^ min x4_1.toNat 64)) = ji4 := (i64_w _).symm.trans hji4_
          have hji4x : x4_1 ≤ 64 → (wrap64 (1 * 2 ^ x4_1.toNat)) = ji4 := fun h_ => (i64_w _).symm.trans (hji4z h_)
          by_cases c5 : a0 = (ji4)
          · rw [if_pos c5] at H
            have c5b0 : (a0 == (ji4)) = true := beq_iff_eq.mpr c5
            have c5b1 : (a0 != (ji4)) = false := bne_eq_false_iff_eq.mpr c5
            clear c5
            simp only [Option.some.injEq, Prod.mk.injEq] at H
            obtain ⟨rfl, rfl⟩ := H
            go_wp2
            go_ret2
            exact ⟨by first | rfl | (simp; done) | (simp only [← hji4] <;> (first | rfl | simp)) | (simp [*]; done), by repeat (first | exact Drawn0.refl _ | apply Drawn0.step)⟩
          · rw [if_neg c5] at H
            have c5b0 : (a0 == (ji4)) = false := beq_eq_false_iff_ne.mpr c5
            have c5b1 : (a0 != (ji4)) = true := bne_iff_ne.mpr c5
            have H' := Aside0.mk H
            clear H
            go_wp2
            go_roundg k1
            case measure => have := HK1.out; omega
            case rel => exact ⟨(wrap64 (x4_1 + 1)), (by first | rfl | (simp; done) | (simp [*]; done)), H', ⟨by have := HK1.out; omega⟩, by repeat (first | exact Drawn0.refl _ | apply Drawn0.step)⟩
        · rw [if_neg c3] at H
          exact absurd H (by simp)
      · rw [if_neg c2] at H
        have c2b0 : decide (x4_1 ≤ 6) = false := decide_eq_false c2
        clear c2
        simp only [Option.some.injEq, Prod.mk.injEq] at H
        obtain ⟨rfl, rfl⟩ := H
        go_wp2
        go_ret2
        exact ⟨by first | rfl | (simp; done) | (simp [*]; done), by repeat (first | exact Drawn0.refl _ | apply Drawn0.step)⟩

end Go.Proofs.Ytmglkelmdcpinaa.G
/- The contract of the function scan_greatest (number 92 of the translation): what its call computes, as a plain Lean function; memory that was there stays as it was. Conditions: none beyond the theorem's own. Written by a program (gprint.py). -/
namespace Go.Proofs.Ytmglkelmdcpinaa.G
open Go.RowKit Go.Proofs.YtmglkelmdcpinaaW.PrintWords Go.Proofs.YtmglkelmdcpinaaW.PrintLast Go.Proofs.YtmglkelmdcpinaaW.PrintMore
attribute [local go_sem] max2_int min2_int max_two min_two max_three min_three max_four min_four   -- for this text's walks alone
set_option linter.unusedVariables false
set_option linter.unusedSimpArgs false

/-! ### scan_greatest: function 92 -/
def scan_greatest.l0 : Nat → Int → List Int → Int → Int → Option (Int)
  | 0, _, _, _, _ => none
  | k + 1, x3, x6, x7, x8 => if x8 < x7 then (if 0 ≤ x8 then (if x8 < (x6.length : Int) then (scan_greatest.l0 k (mx (mx x3 (rd x6 x8)) (wrap64 (-(rd x6 x8)))) x6 x7 (wrap64 (x8 + 1))) else (none)) else (none)) else (some x3)
def scan_greatest.f (k : Nat) (l0 : List Int) : Option (Int) := scan_greatest.l0 k 0 l0 (l0.length : Int) 0
theorem scan_greatest.mono_l : ∀ k, (∀ y0 y1 y2 y3, LeO (scan_greatest.l0 k y0 y1 y2 y3) (scan_greatest.l0 (k + 1) y0 y1 y2 y3))
  | 0 => fun _ _ _ _ r h => by simp [scan_greatest.l0] at h
  | k + 1 => by
    have ih0 := scan_greatest.mono_l k
    · intro y0 y1 y2 y3
      unfold scan_greatest.l0
      repeat' first
      | (with_reducible exact ih0 _ _ _ _)
      | (with_reducible exact LeO.refl _)
      | (with_reducible exact LeO.none _)
      | (with_reducible refine LeO.ite ?_ ?_)
      | (with_reducible refine LeO.bind ?_ (fun _ => ?_))
      | exact ih0 _ _ _ _
      | exact LeO.none _
      | refine LeO.ite ?_ ?_
      | refine LeO.bind ?_ (fun _ => ?_)
theorem scan_greatest.mono : ∀ a0 k, LeO (scan_greatest.f k a0) (scan_greatest.f (k + 1) a0) := by
  intro a0 k
  have ih0 := scan_greatest.mono_l k
  unfold scan_greatest.f
  repeat' first
      | (with_reducible exact ih0 _ _ _ _)
      | (with_reducible exact LeO.refl _)
      | (with_reducible exact LeO.none _)
      | (with_reducible refine LeO.ite ?_ ?_)
      | (with_reducible refine LeO.bind ?_ (fun _ => ?_))
      | exact ih0 _ _ _ _
      | exact LeO.none _
      | refine LeO.ite ?_ ?_
      | refine LeO.bind ?_ (fun _ => ?_)
set_option maxHeartbeats 8000000 in
set_option maxRecDepth 100000 in
theorem scan_greatest.calls (k : Nat) (A0 : Option Addr) (c0 : Nat) (l0 : List Int) (r : Int) (w : World) (hr0 : Kd.C (Kd.int .i64) w A0 l0.length l0) (hc0 : l0.length ≤ c0) (h : scan_greatest.f k l0 = some r) :
    Calls Try.prog 92 #[.slice A0 l0.length c0] w fun e w' => e = .returned (.int .i64 r) ∧ Below w.heap.size w w' := by
  have HR0 := Aside0.mk hr0
  have HC0 := Aside0.mk hc0
  clear hr0 hc0
  have HB := Aside0.mk (Below.refl w.heap.size w)
  have H : (scan_greatest.l0 k 0 l0 (l0.length : Int) 0) = some r := h
  clear h
  have H' := Aside0.mk H
  clear H
  go_enter Try.func92, Try.ntmps92
  go_wp2
  go_loopg [3, 8] k (fun kq v3 v8 w' => ∃ (x3_1 : Int) (x8_1 : Int), v3 = .int .i64 x3_1 ∧ v8 = .int .i64 x8_1 ∧ Aside0 (scan_greatest.l0 kq x3_1 l0 (l0.length : Int) x8_1 = some r) ∧ Aside0 (kq ≤ k) ∧ Aside0 (Below w.heap.size w w'))
  case atStart => exact ⟨(0), (0), (by first | rfl | (simp; done) | (simp [*]; done)), (by first | rfl | (simp; done) | (simp [*]; done)), H', ⟨Nat.le_refl _⟩, ⟨by repeat (first | (with_reducible first | exact HB.out | apply below_alloc | apply pw_below_drewN | apply below_drew1) | exact HB.out)⟩⟩
  case round =>
    clear H'
    obtain ⟨x3_1, x8_1, rfl, rfl, HA, HK1, HB⟩ := hrel
    cases gk with
    | zero => exact absurd HA.out (by simp [scan_greatest.l0])
    | succ k1 =>
      have H := HA.out
      clear HA
      simp only [scan_greatest.l0] at H
      by_cases c2 : x8_1 < (l0.length : Int)
      · rw [if_pos c2] at H
        have c2b0 : decide (x8_1 < (l0.length : Int)) = true := decide_eq_true c2
        clear c2
        by_cases c3 : 0 ≤ x8_1
        · rw [if_pos c3] at H
          have c3b0 : decide (0 ≤ x8_1) = true := decide_eq_true c3
          clear c3
          by_cases c4 : x8_1 < (l0.length : Int)
          · rw [if_pos c4] at H
            have c4b0 : decide (x8_1 < (l0.length : Int)) = true := decide_eq_true c4
            clear c4
            obtain ⟨ji5, hji5⟩ : ∃ j_ : Int, (mx x3_1 (rd l0 x8_1)) = j_ := ⟨_, rfl⟩
            replace H : (scan_greatest.l0 k1 (mx (ji5) (wrap64 (-(rd l0 x8_1)))) l0 (l0.length : Int) (wrap64 (x8_1 + 1))) = some r := by first | (rw [hji5] at H; exact H) | (simp only [hji5] at H ⊢; exact H)
            have hji5_ : (if x3_1 < (rd l0 x8_1) then (rd l0 x8_1) else x3_1) = ji5 := hji5
            obtain ⟨ji6, hji6⟩ : ∃ j_ : Int, (mx (ji5) (wrap64 (-(rd l0 x8_1)))) = j_ := ⟨_, rfl⟩
            replace H : (scan_greatest.l0 k1 ji6 l0 (l0.length : Int) (wrap64 (x8_1 + 1))) = some r := by first | (rw [hji6] at H; exact H) | (simp only [hji6] at H ⊢; exact H)
            have hji6_ : (if (ji5) < (wrap64 (-(rd l0 x8_1))) then (wrap64 (-(rd l0 x8_1))) else (ji5)) = ji6 := hji6
            have H' := Aside0.mk H
            clear H
            have p101 : 0 ≤ (x8_1 : Int) := of_decide_eq_true (by first | (with_reducible assumption) | assumption)
            have q101 : x8_1 < (l0.length : Int) := of_decide_eq_true (by first | (with_reducible assumption) | assumption)
            obtain ⟨ad101, e101, hx101_0⟩ := Kd.at_int HR0.out x8_1 p101 q101
            cases e101
            replace hx101_0 := (HB.out.cell (World.block_lt_of_cell? w _ hx101_0)).trans hx101_0
            replace p101 := eq_true p101
            replace q101 := eq_true q101
            go_wp2
            go_roundg k1
            case measure => have := HK1.out; omega
            case rel => exact ⟨(ji6), (wrap64 (x8_1 + 1)), (by first | rfl | (simp; done) | (simp only [← hji6] <;> (first | rfl | simp)) | (simp [*]; done)), (by first | rfl | (simp; done) | (simp [*]; done)), H', ⟨by have := HK1.out; omega⟩, ⟨by repeat (first | (with_reducible first | exact HB.out | apply below_alloc | apply pw_below_drewN | apply below_drew1) | exact HB.out)⟩⟩
          · rw [if_neg c4] at H
            exact absurd H (by simp)
        · rw [if_neg c3] at H
          exact absurd H (by simp)
      · rw [if_neg c2] at H
        have c2b0 : decide (x8_1 < (l0.length : Int)) = false := decide_eq_false c2
        clear c2
        obtain rfl := Option.some.inj H
        go_wp2
        go_ret
        exact ⟨by first | rfl | (simp [errW_none, errW_some] <;> rfl) | (simp [*, errW_none, errW_some] <;> rfl), by repeat (first | (with_reducible first | exact HB.out | apply below_alloc | apply pw_below_drewN | apply below_drew1) | exact HB.out)⟩

end Go.Proofs.Ytmglkelmdcpinaa.G
/- The contract of the function scan_Max (number 31 of the translation): what its call computes, as a plain Lean function; memory that was there stays as it was. Conditions: none beyond the theorem's own. Written by a program (gprint.py). -/
namespace Go.Proofs.Ytmglkelmdcpinaa.G
open Go.RowKit Go.Proofs.YtmglkelmdcpinaaW.PrintWords Go.Proofs.YtmglkelmdcpinaaW.PrintLast Go.Proofs.YtmglkelmdcpinaaW.PrintMore
attribute [local go_sem] max2_int min2_int max_two min_two max_three min_three max_four min_four   -- for this text's walks alone
set_option linter.unusedVariables false
set_option linter.unusedSimpArgs false

/-! ### scan_Max: function 31 -/
def scan_Max.l0 : Nat → Int → List (S43) → Int → Int → Option (Int × Int)
  | 0, _, _, _, _ => none
  | k + 1, x4, x7, x8, x9 => if x9 < x8 then (if 0 ≤ x9 then (if x9 < (x7.length : Int) then (if (mn ((rd_T43 x7 x9).f0) ((rd_T43 x7 x9).f1)) < (-2147483648) then (some (0, 2)) else (if (mx ((rd_T43 x7 x9).f0) ((rd_T43 x7 x9).f1)) > 2147483648 then (some (0, 2)) else ((scan_greatest.f k (([x4, (rd_T43 x7 x9).f0, (rd_T43 x7 x9).f1] : List Int))).bind fun t106 => (scan_Max.l0 k t106 x7 x8 (wrap64 (x9 + 1)))))) else (none)) else (none)) else (some (x4, 0))
def scan_Max.f (k : Nat) (l0 : List (S43)) : Option (Int × Int) := scan_Max.l0 k 0 l0 (l0.length : Int) 0
theorem scan_Max.mono_l : ∀ k, (∀ y0 y1 y2 y3, LeO (scan_Max.l0 k y0 y1 y2 y3) (scan_Max.l0 (k + 1) y0 y1 y2 y3))
  | 0 => fun _ _ _ _ r h => by simp [scan_Max.l0] at h
  | k + 1 => by
    have ih0 := scan_Max.mono_l k
    · intro y0 y1 y2 y3
      unfold scan_Max.l0
      repeat' first
      | (with_reducible exact ih0 _ _ _ _)
      | (with_reducible exact scan_greatest.mono _ _)
      | (with_reducible exact LeO.refl _)
      | (with_reducible exact LeO.none _)
      | (with_reducible refine LeO.ite ?_ ?_)
      | (with_reducible refine LeO.bind ?_ (fun _ => ?_))
      | exact ih0 _ _ _ _
      | exact scan_greatest.mono _ _
      | exact LeO.none _
      | refine LeO.ite ?_ ?_
      | refine LeO.bind ?_ (fun _ => ?_)
theorem scan_Max.mono : ∀ a0 k, LeO (scan_Max.f k a0) (scan_Max.f (k + 1) a0) := by
  intro a0 k
  have ih0 := scan_Max.mono_l k
  unfold scan_Max.f
  repeat' first
      | (with_reducible exact ih0 _ _ _ _)
      | (with_reducible exact scan_greatest.mono _ _)
      | (with_reducible exact LeO.refl _)
      | (with_reducible exact LeO.none _)
      | (with_reducible refine LeO.ite ?_ ?_)
      | (with_reducible refine LeO.bind ?_ (fun _ => ?_))
      | exact ih0 _ _ _ _
      | exact scan_greatest.mono _ _
      | exact LeO.none _
      | refine LeO.ite ?_ ?_
      | refine LeO.bind ?_ (fun _ => ?_)
set_option maxHeartbeats 8000000 in
set_option maxRecDepth 100000 in
theorem scan_Max.calls (k : Nat) (A0 : Option Addr) (c0 : Nat) (l0 : List (S43)) (r1 : Int) (r2 : Int) (w : World) (hr0 : Kd.C k43 w A0 l0.length l0) (hc0 : l0.length ≤ c0) (h : scan_Max.f k l0 = some (r1, r2)) :
    Calls Try.prog 31 #[.slice A0 l0.length c0] w fun e w' => e = .returned (.tuple #[.int .i64 r1, .int .i64 r2]) ∧ Below w.heap.size w w' := by
  have hu43 := Try.underlying43
  have HR0 := Aside0.mk hr0
  have HC0 := Aside0.mk hc0
  clear hr0 hc0
  have HB := Aside0.mk (Below.refl w.heap.size w)
  have H : (scan_Max.l0 k 0 l0 (l0.length : Int) 0) = some (r1, r2) := h
  clear h
  have H' := Aside0.mk H
  clear H
  go_enter Try.func31, Try.ntmps31
  go_wp2
  go_loopg [4, 9] k (fun kq v4 v9 w' => ∃ (x4_1 : Int) (x9_1 : Int), v4 = .int .i64 x4_1 ∧ v9 = .int .i64 x9_1 ∧ Aside0 (scan_Max.l0 kq x4_1 l0 (l0.length : Int) x9_1 = some (r1, r2)) ∧ Aside0 (kq ≤ k) ∧ Aside0 (Below w.heap.size w w'))
  case atStart => exact ⟨(0), (0), (by first | rfl | (simp; done) | (simp [*]; done)), (by first | rfl | (simp; done) | (simp [*]; done)), H', ⟨Nat.le_refl _⟩, ⟨by repeat (first | (with_reducible first | exact HB.out | apply below_alloc | apply pw_below_drewN | apply below_drew1) | exact HB.out)⟩⟩
  case round =>
    clear H'
    obtain ⟨x4_1, x9_1, rfl, rfl, HA, HK1, HB⟩ := hrel
    cases gk with
    | zero => exact absurd HA.out (by simp [scan_Max.l0])
    | succ k1 =>
      have H := HA.out
      clear HA
      simp only [scan_Max.l0] at H
      by_cases c2 : x9_1 < (l0.length : Int)
      · rw [if_pos c2] at H
        have c2b0 : decide (x9_1 < (l0.length : Int)) = true := decide_eq_true c2
        clear c2
        by_cases c3 : 0 ≤ x9_1
        · rw [if_pos c3] at H
          have c3b0 : decide (0 ≤ x9_1) = true := decide_eq_true c3
          clear c3
          by_cases c4 : x9_1 < (l0.length : Int)
          · rw [if_pos c4] at H
            have c4b0 : decide (x9_1 < (l0.length : Int)) = true := decide_eq_true c4
            clear c4
            obtain ⟨ji5, hji5⟩ : ∃ j_ : Int, (mn ((rd_T43 l0 x9_1).f0) ((rd_T43 l0 x9_1).f1)) = j_ := ⟨_, rfl⟩
            replace H : (if (ji5) < (-2147483648) then (some (0, 2)) else (if (mx ((rd_T43 l0 x9_1).f0) ((rd_T43 l0 x9_1).f1)) > 2147483648 then (some (0, 2)) else ((scan_greatest.f k1 (([x4_1, (rd_T43 l0 x9_1).f0, (rd_T43 l0 x9_1).f1] : List Int))).bind fun t106 => (scan_Max.l0 k1 t106 l0 (l0.length : Int) (wrap64 (x9_1 + 1)))))) = some (r1, r2) := by first | (rw [hji5] at H; exact H) | (simp only [hji5] at H ⊢; exact H)
            have hji5_ : (if ((rd_T43 l0 x9_1).f1) < ((rd_T43 l0 x9_1).f0) then ((rd_T43 l0 x9_1).f1) else ((rd_T43 l0 x9_1).f0)) = ji5 := hji5
            by_cases c6 : (ji5) < (-2147483648)
            · rw [if_pos c6] at H
              have c6b0 : decide ((ji5) < (-2147483648)) = true := decide_eq_true c6
              clear c6
              simp only [Option.some.injEq, Prod.mk.injEq] at H
              obtain ⟨rfl, rfl⟩ := H
              have p101 : 0 ≤ (x9_1 : Int) := of_decide_eq_true (by first | (with_reducible assumption) | assumption)
              have q101 : x9_1 < (l0.length : Int) := of_decide_eq_true (by first | (with_reducible assumption) | assumption)
              obtain ⟨ad101, e101, hx101_0, hx101_1⟩ := at_T43 HR0.out x9_1 p101 q101
              cases e101
              replace hx101_0 := (HB.out.cell (World.block_lt_of_cell? w _ hx101_0)).trans hx101_0
              replace hx101_1 := (HB.out.cell (World.block_lt_of_cell? w _ hx101_1)).trans hx101_1
              replace p101 := eq_true p101
              replace q101 := eq_true q101
              go_wp2_with (first | ((with_reducible refine gate_dst (N := 6) rfl ?_); (try (refine gate_guard (by rfl) ?_; dsimp only)); refine box_event ?hg (N := 6) ?hd (cs := #[.int .i64 0, .int .i64 0]) (t := 43) ?hr ?_; (case hd => rfl); (case hg => rfl); (case hr => first | (go_simp; done) | (go_simp; rfl)); intro gb102 hg w7 hbox hb; have n0_ := Aside0.mk (below_step (by repeat (first | (with_reducible first | exact HB.out | apply below_alloc | apply pw_below_drewN | apply below_drew1) | exact HB.out)) hb); have n1_ := Aside0.mk (hbox); have n2_ := Aside0.mk ((by rw [hg]; exact (below_size (by repeat (first | (with_reducible first | exact HB.out | apply below_alloc | apply pw_below_drewN | apply below_drew1) | exact HB.out))) : w.heap.size ≤ gb102)); have n3_ := Aside0.mk ((by rw [hg]; exact (below_size (by repeat (first | (with_reducible first | exact HB.out | apply below_alloc | apply pw_below_drewN | apply below_drew1) | exact HB.out))) : w.heap.size ≤ gb102)); clear HB; have HB := n0_; have BK102 := n1_; have GW102 := n2_; have GE102 := n3_; clear n0_ n1_ n2_ n3_; clear hb hbox hg; have hcz8_0 : w7.cell? ⟨gb102, 0, none⟩ = some (.int .i64 0) := (blk_cell BK102.out 0).trans rfl; have hcz8_1 : w7.cell? ⟨gb102, 1, none⟩ = some (.int .i64 0) := (blk_cell BK102.out 1).trans rfl; have hfz8_0 := blk_frozen BK102.out 0; have hfz8_1 := blk_frozen BK102.out 1))
              go_ret2
              exact ⟨by first | rfl | (simp [errW_none, errW_some] <;> rfl) | (simp only [← hji5]; first | rfl | (simp [errW_none, errW_some] <;> rfl)) | (simp [*, errW_none, errW_some] <;> rfl), by repeat (first | (with_reducible first | exact HB.out | apply below_alloc | apply pw_below_drewN | apply below_drew1 | refine below_set ?_ GE102.out) | exact HB.out)⟩
            · rw [if_neg c6] at H
              have c6b0 : decide ((ji5) < (-2147483648)) = false := decide_eq_false c6
              clear c6
              obtain ⟨ji9, hji9⟩ : ∃ j_ : Int, (mx ((rd_T43 l0 x9_1).f0) ((rd_T43 l0 x9_1).f1)) = j_ := ⟨_, rfl⟩
              replace H : (if (ji9) > 2147483648 then (some (0, 2)) else ((scan_greatest.f k1 (([x4_1, (rd_T43 l0 x9_1).f0, (rd_T43 l0 x9_1).f1] : List Int))).bind fun t106 => (scan_Max.l0 k1 t106 l0 (l0.length : Int) (wrap64 (x9_1 + 1))))) = some (r1, r2) := by first | (rw [hji9] at H; exact H) | (simp only [hji9] at H ⊢; exact H)
              have hji9_ : (if ((rd_T43 l0 x9_1).f0) < ((rd_T43 l0 x9_1).f1) then ((rd_T43 l0 x9_1).f1) else ((rd_T43 l0 x9_1).f0)) = ji9 := hji9
              by_cases c10 : (ji9) > 2147483648
              · rw [if_pos c10] at H
                have c10b0 : decide (2147483648 < (ji9)) = true := decide_eq_true c10
                clear c10
                simp only [Option.some.injEq, Prod.mk.injEq] at H
                obtain ⟨rfl, rfl⟩ := H
                have p101 : 0 ≤ (x9_1 : Int) := of_decide_eq_true (by first | (with_reducible assumption) | assumption)
                have q101 : x9_1 < (l0.length : Int) := of_decide_eq_true (by first | (with_reducible assumption) | assumption)
                obtain ⟨ad101, e101, hx101_0, hx101_1⟩ := at_T43 HR0.out x9_1 p101 q101
                cases e101
                replace hx101_0 := (HB.out.cell (World.block_lt_of_cell? w _ hx101_0)).trans hx101_0
                replace hx101_1 := (HB.out.cell (World.block_lt_of_cell? w _ hx101_1)).trans hx101_1
                replace p101 := eq_true p101
                replace q101 := eq_true q101
                go_wp2_with (first | ((with_reducible refine gate_dst (N := 6) rfl ?_); (try (refine gate_guard (by rfl) ?_; dsimp only)); refine box_event ?hg (N := 6) ?hd (cs := #[.int .i64 0, .int .i64 0]) (t := 43) ?hr ?_; (case hd => rfl); (case hg => rfl); (case hr => first | (go_simp; done) | (go_simp; rfl)); intro gb102 hg w11 hbox hb; have n0_ := Aside0.mk (below_step (by repeat (first | (with_reducible first | exact HB.out | apply below_alloc | apply pw_below_drewN | apply below_drew1) | exact HB.out)) hb); have n1_ := Aside0.mk (hbox); have n2_ := Aside0.mk ((by rw [hg]; exact (below_size (by repeat (first | (with_reducible first | exact HB.out | apply below_alloc | apply pw_below_drewN | apply below_drew1) | exact HB.out))) : w.heap.size ≤ gb102)); have n3_ := Aside0.mk ((by rw [hg]; exact (below_size (by repeat (first | (with_reducible first | exact HB.out | apply below_alloc | apply pw_below_drewN | apply below_drew1) | exact HB.out))) : w.heap.size ≤ gb102)); clear HB; have HB := n0_; have BK102 := n1_; have GW102 := n2_; have GE102 := n3_; clear n0_ n1_ n2_ n3_; clear hb hbox hg; have hcz12_0 : w11.cell? ⟨gb102, 0, none⟩ = some (.int .i64 0) := (blk_cell BK102.out 0).trans rfl; have hcz12_1 : w11.cell? ⟨gb102, 1, none⟩ = some (.int .i64 0) := (blk_cell BK102.out 1).trans rfl; have hfz12_0 := blk_frozen BK102.out 0; have hfz12_1 := blk_frozen BK102.out 1))
                go_ret2
                exact ⟨by first | rfl | (simp [errW_none, errW_some] <;> rfl) | (simp only [← hji5, ← hji9]; first | rfl | (simp [errW_none, errW_some] <;> rfl)) | (simp [*, errW_none, errW_some] <;> rfl), by repeat (first | (with_reducible first | exact HB.out | apply below_alloc | apply pw_below_drewN | apply below_drew1 | refine below_set ?_ GE102.out) | exact HB.out)⟩
              · rw [if_neg c10] at H
                have c10b0 : decide (2147483648 < (ji9)) = false := decide_eq_false c10
                clear c10
                obtain ⟨y103, hy103⟩ : ∃ y_ : List Int, y_ = (([x4_1, (rd_T43 l0 x9_1).f0, (rd_T43 l0 x9_1).f1] : List Int)) := ⟨_, rfl⟩
                replace H : ((scan_greatest.f k1 y103).bind fun t106 => (scan_Max.l0 k1 t106 l0 (l0.length : Int) (wrap64 (x9_1 + 1)))) = some (r1, r2) := by first | (rw [hy103]; with_reducible exact H) | (have H2_ := (Option.bind_some _ _).symm.trans H; rw [hy103]; with_reducible exact H2_) | (have H2_ := (Option.bind_some _ _).symm.trans H; with_reducible exact H2_) | with_reducible exact H | (rw [hy103]; exact H) | exact H
                have Ny103 := Aside0.mk hy103
                clear hy103
                replace H := Option.bind_eq_some_iff.mp H
                obtain ⟨t106, A130, H⟩ := H
                replace H : (scan_Max.l0 k1 t106 l0 (l0.length : Int) (wrap64 (x9_1 + 1))) = some (r1, r2) := H
                have A13 := Aside0.mk A130
                clear A130
                have H' := Aside0.mk H
                clear H
                have p101 : 0 ≤ (x9_1 : Int) := of_decide_eq_true (by first | (with_reducible assumption) | assumption)
                have q101 : x9_1 < (l0.length : Int) := of_decide_eq_true (by first | (with_reducible assumption) | assumption)
                obtain ⟨ad101, e101, hx101_0, hx101_1⟩ := at_T43 HR0.out x9_1 p101 q101
                cases e101
                replace hx101_0 := (HB.out.cell (World.block_lt_of_cell? w _ hx101_0)).trans hx101_0
                replace hx101_1 := (HB.out.cell (World.block_lt_of_cell? w _ hx101_1)).trans hx101_1
                replace p101 := eq_true p101
                replace q101 := eq_true q101
                go_wp2_with (first | ((with_reducible refine gate_dst (N := 6) rfl ?_); (try (refine gate_guard (by rfl) ?_; dsimp only)); refine box_event ?hg (N := 6) ?hd (cs := #[.int .i64 0, .int .i64 0]) (t := 43) ?hr ?_; (case hd => rfl); (case hg => rfl); (case hr => first | (go_simp; done) | (go_simp; rfl)); intro gb102 hg w14 hbox hb; have n0_ := Aside0.mk (below_step (by repeat (first | (with_reducible first | exact HB.out | apply below_alloc | apply pw_below_drewN | apply below_drew1) | exact HB.out)) hb); have n1_ := Aside0.mk (hbox); have n2_ := Aside0.mk ((by rw [hg]; exact (below_size (by repeat (first | (with_reducible first | exact HB.out | apply below_alloc | apply pw_below_drewN | apply below_drew1) | exact HB.out))) : w.heap.size ≤ gb102)); have n3_ := Aside0.mk ((by rw [hg]; exact (below_size (by repeat (first | (with_reducible first | exact HB.out | apply below_alloc | apply pw_below_drewN | apply below_drew1) | exact HB.out))) : w.heap.size ≤ gb102)); clear HB; have HB := n0_; have BK102 := n1_; have GW102 := n2_; have GE102 := n3_; clear n0_ n1_ n2_ n3_; clear hb hbox hg; have hcz15_0 : w14.cell? ⟨gb102, 0, none⟩ = some (.int .i64 0) := (blk_cell BK102.out 0).trans rfl; have hcz15_1 : w14.cell? ⟨gb102, 1, none⟩ = some (.int .i64 0) := (blk_cell BK102.out 1).trans rfl; have hfz15_0 := blk_frozen BK102.out 0; have hfz15_1 := blk_frozen BK102.out 1) | ((with_reducible refine gate_dst (N := 32) rfl ?_); (try (refine gate_guard (by rfl) ?_; dsimp only)); refine Kd.R_lit (Kd.int .i64) _ 3 ?hg (N := 32) ?hd (xs := ([x4_1, (rd_T43 l0 x9_1).f0, (rd_T43 l0 x9_1).f1] : List Int)) (inner := [.int .i64 x4_1, .int .i64 ((rd_T43 l0 x9_1).f0), .int .i64 ((rd_T43 l0 x9_1).f1)]) (ok := fun _ => True) (okp := fun _ => True) ?hr ?hp (fun _ hk => hk) trivial (Below.refl _ _) (Nat.le_refl _) (by simp) ?_; (case hd => rfl); (case hg => rfl); (case hr => first | (go_simp; done) | (go_simp; rfl)); (case hp => exact (Reps.one (show Kd.M (Kd.int .i64) _ _ _ x4_1 [.int .i64 x4_1] from rfl) (Reps.one (show Kd.M (Kd.int .i64) _ _ _ ((rd_T43 l0 x9_1).f0) [.int .i64 ((rd_T43 l0 x9_1).f0)] from rfl) (Reps.one (show Kd.M (Kd.int .i64) _ _ _ ((rd_T43 l0 x9_1).f1) [.int .i64 ((rd_T43 l0 x9_1).f1)] from rfl) (Reps.none _ _))))); intro v104 w16 ho17 hb hg_ hnew_; clear hg_ hnew_; (first | rw [← Ny103.out] at ho17 | (simp only [Int.reduceToNat] at ho17; rw [← Ny103.out] at ho17)); have n0_ := Aside0.mk (Kd.R_lower ho17 (below_size (by repeat (first | (with_reducible first | exact HB.out | apply below_alloc | apply pw_below_drewN | apply below_drew1 | refine below_set ?_ GE102.out) | exact HB.out)))); have n1_ := Aside0.mk (blk_below (g := gb102) (o := .cells #[.int .i64 ((rd_T43 l0 x9_1).f0), .int .i64 ((rd_T43 l0 x9_1).f1)] 43 (0, 0)) (by (with_reducible repeat (first | refine blk_drewN ?_ _ | refine blk_drew ?_ | refine blk_alloc ?_ _)); refine blk_put (cs := #[.int .i64 ((rd_T43 l0 x9_1).f0), .int .i64 0]) ?_ 1 _ rfl; (with_reducible repeat (first | refine blk_drewN ?_ _ | refine blk_drew ?_ | refine blk_alloc ?_ _)); refine blk_put (cs := #[.int .i64 0, .int .i64 0]) ?_ 0 _ rfl; (with_reducible repeat (first | refine blk_drewN ?_ _ | refine blk_drew ?_ | refine blk_alloc ?_ _)); exact BK102.out) hb); have n2_ := Aside0.mk (below_step (by repeat (first | (with_reducible first | exact HB.out | apply below_alloc | apply pw_below_drewN | apply below_drew1 | refine below_set ?_ GE102.out) | exact HB.out)) hb); clear BK102; clear HB; have HO105 := n0_; have BK102 := n1_; have HB := n2_; clear n0_ n1_ n2_; clear hb ho17; obtain ⟨Ao18, co18, eo18⟩ := Kd.R_slice HO105.out; subst eo18) | ((with_reducible refine gate_callee (f := 92) rfl ?_); refine goesL_ (some 33) rfl rfl Try.func92 (by kernel_rfl) rfl #[.slice Ao18 y103.length co18] rfl (by (try simp only [List.map_toArray, List.map_cons, List.map_nil]); first | done | rfl | (simp only [List.length_drop, List.length_take]; rfl)) ?_; (with_reducible refine (scan_greatest.calls k1 _ _ y103 t106 _ ?side1 ?side2 A13.out).mono ?_); (case side1 => repeat (first | exact (Kd.R_reads' HO105.out).2.2 | (with_reducible refine Kd.C_alloc ?_ _) | (with_reducible refine Kd.C_drewN ?_ _) | (with_reducible refine Kd.C_drew ?_))); (case side2 => exact (Kd.R_reads' HO105.out).2.1); rintro e w19 ⟨rfl, hb⟩; refine ⟨_, rfl, ?_⟩; have n0_ := Aside0.mk (Kd.R_below (by (with_reducible repeat (first | apply Kd.R_alloc | apply Kd.R_drewN | apply Kd.R_drew)); exact HO105.out) hb); have n1_ := Aside0.mk (blk_below (g := gb102) (o := .cells #[.int .i64 ((rd_T43 l0 x9_1).f0), .int .i64 ((rd_T43 l0 x9_1).f1)] 43 (0, 0)) (by (with_reducible repeat (first | refine blk_drewN ?_ _ | refine blk_drew ?_ | refine blk_alloc ?_ _)); exact BK102.out) hb); have n2_ := Aside0.mk (below_step (by repeat (first | (with_reducible first | exact HB.out | apply below_alloc | apply pw_below_drewN | apply below_drew1 | refine below_set ?_ GE102.out) | exact HB.out)) hb); clear HO105; clear BK102; clear HB; have HO105 := n0_; have BK102 := n1_; have HB := n2_; clear n0_ n1_ n2_; (try clear hb); (try clear hb2); (try clear hk); (try clear hi)))
                go_roundg k1
                case measure => have := HK1.out; omega
                case rel => exact ⟨(t106), (wrap64 (x9_1 + 1)), (by first | rfl | (simp; done) | (simp [*]; done)), (by first | rfl | (simp; done) | (simp [*]; done)), H', ⟨by have := HK1.out; omega⟩, ⟨by repeat (first | (with_reducible first | exact HB.out | apply below_alloc | apply pw_below_drewN | apply below_drew1 | refine below_set ?_ GE102.out) | exact HB.out)⟩⟩
          · rw [if_neg c4] at H
            exact absurd H (by simp)
        · rw [if_neg c3] at H
          exact absurd H (by simp)
      · rw [if_neg c2] at H
        have c2b0 : decide (x9_1 < (l0.length : Int)) = false := decide_eq_false c2
        clear c2
        simp only [Option.some.injEq, Prod.mk.injEq] at H
        obtain ⟨rfl, rfl⟩ := H
        go_wp2
        go_ret2
        exact ⟨by first | rfl | (simp [errW_none, errW_some] <;> rfl) | (simp [*, errW_none, errW_some] <;> rfl), by repeat (first | (with_reducible first | exact HB.out | apply below_alloc | apply pw_below_drewN | apply below_drew1) | exact HB.out)⟩

end Go.Proofs.Ytmglkelmdcpinaa.G
/- The contract of the function round_Shift (number 72 of the translation): what its call computes, as a plain Lean function; memory that was there stays as it was. Conditions: none beyond the theorem's own. Written by a program (gprint.py). -/
namespace Go.Proofs.Ytmglkelmdcpinaa.G
open Go.RowKit Go.Proofs.YtmglkelmdcpinaaW.PrintWords Go.Proofs.YtmglkelmdcpinaaW.PrintLast Go.Proofs.YtmglkelmdcpinaaW.PrintMore
attribute [local go_sem] max2_int min2_int max_two min_two max_three min_three max_four min_four   -- for this text's walks alone
set_option linter.unusedVariables false
set_option linter.unusedSimpArgs false

/-! ### round_Shift: function 72 -/
theorem round_modes.calls (w : World) : Calls Try.prog 135 #[] w fun e w' => e = .returned (.slice (some ⟨w.heap.size, 0, none⟩) 3 3) ∧ w' = w.alloc (.cells #[.func (.func 172) #[] #[], .func (.func 173) #[] #[], .func (.func 174) #[] #[]] 136) := by
  go_enter Try.func135, Try.ntmps135
  go_wp2
  go_ret
  exact ⟨rfl, rfl⟩
def round_modes.u2 (a b : Int) : Bool := decide (b ≤ a)
def round_modes.u3 (a b : Int) (c : Bool) : Bool := decide (b < a) || (a == b && c)
theorem round_modes.calls1 (a b : Int) (c : Bool) (w : World) : Calls Try.prog 172 #[.int .i64 a, .int .i64 b, .bool c] w fun e w' => e = .returned (.bool false) ∧ w' = w := by
  go_enter Try.func172, Try.ntmps172
  go_wp2
  go_ret
  exact ⟨rfl, rfl⟩
theorem round_modes.calls2 (a b : Int) (c : Bool) (w : World) : Calls Try.prog 173 #[.int .i64 a, .int .i64 b, .bool c] w fun e w' => e = .returned (.bool (round_modes.u2 a b)) ∧ w' = w := by
  go_enter Try.func173, Try.ntmps173
  go_wp2
  go_ret
  exact ⟨rfl, rfl⟩
theorem round_modes.calls3 (a b : Int) (c : Bool) (w : World) : Calls Try.prog 174 #[.int .i64 a, .int .i64 b, .bool c] w fun e w' => e = .returned (.bool (round_modes.u3 a b c)) ∧ w' = w := by
  unfold round_modes.u3
  by_cases h : b < a
  · have g1 : decide (b < a) = true := by simpa using h
    go_enter Try.func174, Try.ntmps174
    go_wp2
    go_ret
    exact ⟨by simp [h], rfl⟩
  · have g1 : decide (b < a) = false := by simpa using h
    by_cases h2 : a = b
    · have g2 : (a == b) = true := by simpa using h2
      clear h h2
      go_enter Try.func174, Try.ntmps174
      go_wp2
      go_ret
      exact ⟨by simp [g1, g2], rfl⟩
    · have g2 : (a == b) = false := by simpa using h2
      clear h h2
      go_enter Try.func174, Try.ntmps174
      go_wp2
      go_ret
      exact ⟨by simp [g1, g2], rfl⟩
/-- whether a quotient goes up, of mode 0, 1, 2 -/
def round_Shift.up (x s m : Int) : Bool :=
  if m = 0 then false
  else if m = 1 then round_modes.u2 (bits BinOp.and IntKind.i64 x (wrap64 (wrap64 (2 ^ s.toNat) - 1))) (wrap64 (2 ^ (s.toNat - 1)))
  else round_modes.u3 (bits BinOp.and IntKind.i64 x (wrap64 (wrap64 (2 ^ s.toNat) - 1))) (wrap64 (2 ^ (s.toNat - 1))) (bits BinOp.and IntKind.i64 (x / 2 ^ s.toNat) 1 == 1)
def round_Shift.q (x s m : Int) : Int := if round_Shift.up x s m = true then wrap64 (x / 2 ^ s.toNat + 1) else x / 2 ^ s.toNat
def round_Shift.f (a0 a1 a2 : Int) : Option (Int × Int) :=
  if a1 < 0 ∨ 62 < a1 ∨ a2 < 0 ∨ 3 ≤ a2 then some (0, 1)
  else if a1 = 0 then some (a0, 0)
  else some (round_Shift.q a0 a1 a2, 0)

set_option maxHeartbeats 1000000 in
theorem round_Shift.c0 (a0 a1 : Int) (w : World) (h1 : 1 ≤ a1) (h2 : a1 ≤ 62) : Calls Try.prog 72 #[.int .i64 a0, .int .i64 a1, .int .i64 0] w fun e w' => e = .returned (.tuple #[.int .i64 (a0 / 2 ^ a1.toNat), .int .i64 0]) ∧ Below w.heap.size w w' := by
  have g1 : decide (a1 < 0) = false := by simp; omega
  have g2 : decide (62 < a1) = false := by simp; omega
  have g3 : (a1 == 0) = false := by simp; omega
  go_enter Try.func72, Try.ntmps72
  go_wp2_with (first | (go_at_call 135; refine (round_modes.calls _).mono ?_; rintro e w' ⟨rfl, rfl⟩))
  go_quiet ((go_at_call 172; exact Calls.quiet_of_same (round_modes.calls1 _ _ _ _)))
  go_wp2
  go_ret2
  exact ⟨rfl, pw_below_drewN (below_alloc (Below.refl _ _) _) _⟩
set_option maxHeartbeats 1000000 in
theorem round_Shift.c1 (a0 a1 : Int) (w : World) (h1 : 1 ≤ a1) (h2 : a1 ≤ 62) : Calls Try.prog 72 #[.int .i64 a0, .int .i64 a1, .int .i64 1] w fun e w' => e = .returned (.tuple #[.int .i64 (round_Shift.q a0 a1 1), .int .i64 0]) ∧ Below w.heap.size w w' := by
  have g1 : decide (a1 < 0) = false := by simp; omega
  have g2 : decide (62 < a1) = false := by simp; omega
  have g3 : (a1 == 0) = false := by simp; omega
  go_enter Try.func72, Try.ntmps72
  go_wp2_with (first | (go_at_call 135; refine (round_modes.calls _).mono ?_; rintro e w' ⟨rfl, rfl⟩))
  go_quiet ((go_at_call 173; exact Calls.quiet_of_same (round_modes.calls2 _ _ _ _)))
  go_wp2
  all_goals
    go_ret2
    exact ⟨by unfold round_Shift.q round_Shift.up; simp [*], pw_below_drewN (below_alloc (Below.refl _ _) _) _⟩
set_option maxHeartbeats 1000000 in
theorem round_Shift.c2 (a0 a1 : Int) (w : World) (h1 : 1 ≤ a1) (h2 : a1 ≤ 62) : Calls Try.prog 72 #[.int .i64 a0, .int .i64 a1, .int .i64 2] w fun e w' => e = .returned (.tuple #[.int .i64 (round_Shift.q a0 a1 2), .int .i64 0]) ∧ Below w.heap.size w w' := by
  have g1 : decide (a1 < 0) = false := by simp; omega
  have g2 : decide (62 < a1) = false := by simp; omega
  have g3 : (a1 == 0) = false := by simp; omega
  go_enter Try.func72, Try.ntmps72
  go_wp2_with (first | (go_at_call 135; refine (round_modes.calls _).mono ?_; rintro e w' ⟨rfl, rfl⟩))
  go_quiet ((go_at_call 174; exact Calls.quiet_of_same (round_modes.calls3 _ _ _ _)))
  go_wp2
  all_goals
    go_ret2
    exact ⟨by unfold round_Shift.q round_Shift.up; simp [*], pw_below_drewN (below_alloc (Below.refl _ _) _) _⟩
set_option maxHeartbeats 1000000 in
theorem round_Shift.calls (a0 a1 a2 : Int) (r1 : Int) (r2 : Int) (w : World) (h : round_Shift.f a0 a1 a2 = some (r1, r2)) :
    Calls Try.prog 72 #[.int .i64 a0, .int .i64 a1, .int .i64 a2] w fun e w' => e = .returned (.tuple #[.int .i64 r1, .int .i64 r2]) ∧ Below w.heap.size w w' := by
  unfold round_Shift.f at h
  by_cases hb : a1 < 0 ∨ 62 < a1 ∨ a2 < 0 ∨ 3 ≤ a2
  · rw [if_pos hb] at h
    simp only [Option.some.injEq, Prod.mk.injEq] at h
    obtain ⟨rfl, rfl⟩ := h
    go_enter Try.func72, Try.ntmps72
    go_wp2_with (first | (go_at_call 135; refine (round_modes.calls _).mono ?_; rintro e w' ⟨rfl, rfl⟩))
    all_goals first | (go_ret2; exact ⟨rfl, by repeat (first | exact Below.refl _ _ | apply below_alloc | apply pw_below_drewN)⟩) | (exfalso; simp at *; omega)
  · rw [if_neg hb] at h
    by_cases h0 : a1 = 0
    · rw [if_pos h0] at h
      simp only [Option.some.injEq, Prod.mk.injEq] at h
      obtain ⟨rfl, rfl⟩ := h
      have g3 : decide (a2 < 0) = false := by simp; omega
      have g4 : decide (3 ≤ a2) = false := by simp; omega
      subst h0
      clear hb
      go_enter Try.func72, Try.ntmps72
      go_wp2_with (first | (go_at_call 135; refine (round_modes.calls _).mono ?_; rintro e w' ⟨rfl, rfl⟩))
      go_ret2
      exact ⟨rfl, by repeat (first | exact Below.refl _ _ | apply below_alloc | apply pw_below_drewN)⟩
    · rw [if_neg h0] at h
      simp only [Option.some.injEq, Prod.mk.injEq] at h
      obtain ⟨rfl, rfl⟩ := h
      have hm : a2 = 0 ∨ a2 = 1 ∨ a2 = 2 := by omega
      rcases hm with rfl | rfl | rfl
      · exact round_Shift.c0 a0 a1 w (by omega) (by omega)
      · exact round_Shift.c1 a0 a1 w (by omega) (by omega)
      · exact round_Shift.c2 a0 a1 w (by omega) (by omega)

end Go.Proofs.Ytmglkelmdcpinaa.G
/- The contract of the function roots_may (number 101 of the translation): what its call computes, as a plain Lean function; memory that was there stays as it was. Conditions: none beyond the theorem's own. Written by a program (gprint.py). -/
namespace Go.Proofs.Ytmglkelmdcpinaa.G
open Go.RowKit Go.Proofs.YtmglkelmdcpinaaW.PrintWords Go.Proofs.YtmglkelmdcpinaaW.PrintLast Go.Proofs.YtmglkelmdcpinaaW.PrintMore
attribute [local go_sem] max2_int min2_int max_two min_two max_three min_three max_four min_four   -- for this text's walks alone
set_option linter.unusedVariables false
set_option linter.unusedSimpArgs false

/-! ### roots_may: function 101 -/
def roots_may.f (a0 : Int) (a1 : Int) : Option (Bool) := (round_Shift.f 0 a1 1).bind fun bt101 => (if a0 ≥ 2 then (if a0 ≤ 6 then (if bt101.2 = 0 then (some (decide (a1 ≤ 40))) else (some false)) else (some false)) else (some false))
set_option maxHeartbeats 8000000 in
set_option maxRecDepth 100000 in
theorem roots_may.calls (a0 : Int) (a1 : Int) (r : Bool) (w : World) (h : roots_may.f a0 a1 = some r) :
    Calls Try.prog 101 #[.int .i64 a0, .int .i64 a1] w fun e w' => e = .returned (.bool r) ∧ Below w.heap.size w w' := by
  have HB := Aside0.mk (Below.refl w.heap.size w)
  have H : ((round_Shift.f 0 a1 1).bind fun bt101 => (if a0 ≥ 2 then (if a0 ≤ 6 then (if bt101.2 = 0 then (some (decide (a1 ≤ 40))) else (some false)) else (some false)) else (some false))) = some r := h
  clear h
  replace H := Option.bind_eq_some_iff.mp H
  obtain ⟨⟨t101, t102⟩, A30, H⟩ := H
  replace H : (if a0 ≥ 2 then (if a0 ≤ 6 then (if t102 = 0 then (some (decide (a1 ≤ 40))) else (some false)) else (some false)) else (some false)) = some r := H
  have A3 := Aside0.mk A30
  clear A30
  by_cases c4 : a0 ≥ 2
  · rw [if_pos c4] at H
    have c4b0 : decide (2 ≤ a0) = true := decide_eq_true c4
    clear c4
    by_cases c5 : a0 ≤ 6
    · rw [if_pos c5] at H
      have c5b0 : decide (a0 ≤ 6) = true := decide_eq_true c5
      clear c5
      by_cases c6 : t102 = 0
      · rw [if_pos c6] at H
        have c6b0 : (t102 == 0) = true := beq_iff_eq.mpr c6
        have c6b1 : (t102 != 0) = false := bne_eq_false_iff_eq.mpr c6
        clear c6
        obtain rfl := Option.some.inj H
        go_enter Try.func101, Try.ntmps101
        go_wp2_with (first | ((with_reducible refine gate_callee (f := 72) rfl ?_); refine goesL_ (some 9) rfl rfl Try.func72 (by kernel_rfl) rfl #[.int .i64 0, .int .i64 a1, .int .i64 1] rfl (by (try simp only [List.map_toArray, List.map_cons, List.map_nil]); first | done | rfl | (simp only [List.length_drop, List.length_take]; rfl)) ?_; (with_reducible refine (round_Shift.calls 0 a1 1 t101 t102 _ A3.out).mono ?_); rintro e w7 ⟨rfl, hb⟩; refine ⟨_, rfl, ?_⟩; have n0_ := Aside0.mk (below_step (by repeat (first | (with_reducible first | exact HB.out | apply below_alloc | apply pw_below_drewN | apply below_drew1) | exact HB.out)) hb); clear HB; have HB := n0_; clear n0_; (try clear hb); (try clear hb2); (try clear hk); (try clear hi)))
        go_ret
        exact ⟨by first | rfl | (simp [errW_none, errW_some] <;> rfl) | (simp [*, errW_none, errW_some] <;> rfl), by repeat (first | (with_reducible first | exact HB.out | apply below_alloc | apply pw_below_drewN | apply below_drew1) | exact HB.out)⟩
      · rw [if_neg c6] at H
        have c6b0 : (t102 == 0) = false := beq_eq_false_iff_ne.mpr c6
        have c6b1 : (t102 != 0) = true := bne_iff_ne.mpr c6
        obtain rfl := Option.some.inj H
        go_enter Try.func101, Try.ntmps101
        go_wp2_with (first | ((with_reducible refine gate_callee (f := 72) rfl ?_); refine goesL_ (some 9) rfl rfl Try.func72 (by kernel_rfl) rfl #[.int .i64 0, .int .i64 a1, .int .i64 1] rfl (by (try simp only [List.map_toArray, List.map_cons, List.map_nil]); first | done | rfl | (simp only [List.length_drop, List.length_take]; rfl)) ?_; (with_reducible refine (round_Shift.calls 0 a1 1 t101 t102 _ A3.out).mono ?_); rintro e w8 ⟨rfl, hb⟩; refine ⟨_, rfl, ?_⟩; have n0_ := Aside0.mk (below_step (by repeat (first | (with_reducible first | exact HB.out | apply below_alloc | apply pw_below_drewN | apply below_drew1) | exact HB.out)) hb); clear HB; have HB := n0_; clear n0_; (try clear hb); (try clear hb2); (try clear hk); (try clear hi)))
        go_ret
        exact ⟨by first | rfl | (simp [errW_none, errW_some] <;> rfl) | (simp [*, errW_none, errW_some] <;> rfl), by repeat (first | (with_reducible first | exact HB.out | apply below_alloc | apply pw_below_drewN | apply below_drew1) | exact HB.out)⟩
    · rw [if_neg c5] at H
      have c5b0 : decide (a0 ≤ 6) = false := decide_eq_false c5
      clear c5
      obtain rfl := Option.some.inj H
      go_enter Try.func101, Try.ntmps101
      go_wp2_with (first | ((with_reducible refine gate_callee (f := 72) rfl ?_); refine goesL_ (some 9) rfl rfl Try.func72 (by kernel_rfl) rfl #[.int .i64 0, .int .i64 a1, .int .i64 1] rfl (by (try simp only [List.map_toArray, List.map_cons, List.map_nil]); first | done | rfl | (simp only [List.length_drop, List.length_take]; rfl)) ?_; (with_reducible refine (round_Shift.calls 0 a1 1 t101 t102 _ A3.out).mono ?_); rintro e w9 ⟨rfl, hb⟩; refine ⟨_, rfl, ?_⟩; have n0_ := Aside0.mk (below_step (by repeat (first | (with_reducible first | exact HB.out | apply below_alloc | apply pw_below_drewN | apply below_drew1) | exact HB.out)) hb); clear HB; have HB := n0_; clear n0_; (try clear hb); (try clear hb2); (try clear hk); (try clear hi)))
      go_ret
      exact ⟨by first | rfl | (simp [errW_none, errW_some] <;> rfl) | (simp [*, errW_none, errW_some] <;> rfl), by repeat (first | (with_reducible first | exact HB.out | apply below_alloc | apply pw_below_drewN | apply below_drew1) | exact HB.out)⟩
  · rw [if_neg c4] at H
    have c4b0 : decide (2 ≤ a0) = false := decide_eq_false c4
    clear c4
    obtain rfl := Option.some.inj H
    go_enter Try.func101, Try.ntmps101
    go_wp2_with (first | ((with_reducible refine gate_callee (f := 72) rfl ?_); refine goesL_ (some 9) rfl rfl Try.func72 (by kernel_rfl) rfl #[.int .i64 0, .int .i64 a1, .int .i64 1] rfl (by (try simp only [List.map_toArray, List.map_cons, List.map_nil]); first | done | rfl | (simp only [List.length_drop, List.length_take]; rfl)) ?_; (with_reducible refine (round_Shift.calls 0 a1 1 t101 t102 _ A3.out).mono ?_); rintro e w10 ⟨rfl, hb⟩; refine ⟨_, rfl, ?_⟩; have n0_ := Aside0.mk (below_step (by repeat (first | (with_reducible first | exact HB.out | apply below_alloc | apply pw_below_drewN | apply below_drew1) | exact HB.out)) hb); clear HB; have HB := n0_; clear n0_; (try clear hb); (try clear hb2); (try clear hk); (try clear hi)))
    go_ret
    exact ⟨by first | rfl | (simp [errW_none, errW_some] <;> rfl) | (simp [*, errW_none, errW_some] <;> rfl), by repeat (first | (with_reducible first | exact HB.out | apply below_alloc | apply pw_below_drewN | apply below_drew1) | exact HB.out)⟩

end Go.Proofs.Ytmglkelmdcpinaa.G
/- The contract of the function cx_within (number 106 of the translation): what its call computes, as a plain Lean function; memory that was there stays as it was. Conditions: none beyond the theorem's own. Written by a program (gprint.py). -/
namespace Go.Proofs.Ytmglkelmdcpinaa.G
open Go.RowKit Go.Proofs.YtmglkelmdcpinaaW.PrintWords Go.Proofs.YtmglkelmdcpinaaW.PrintLast Go.Proofs.YtmglkelmdcpinaaW.PrintMore
attribute [local go_sem] max2_int min2_int max_two min_two max_three min_three max_four min_four   -- for this text's walks alone
set_option linter.unusedVariables false
set_option linter.unusedSimpArgs false

/-! ### cx_within: function 106 -/
def cx_within.l0 : Nat → Int → List (S43) → Int → Int → Option (Bool)
  | 0, _, _, _, _ => none
  | k + 1, x0, x7, x8, x9 => if x9 < x8 then (if 0 ≤ x9 then (if x9 < (x7.length : Int) then (if (mx ((rd_T43 x7 x9).f0) ((rd_T43 x7 x9).f1)) > x0 then (some false) else (if (mn ((rd_T43 x7 x9).f0) ((rd_T43 x7 x9).f1)) < (wrap64 (-x0)) then (some false) else (cx_within.l0 k x0 x7 x8 (wrap64 (x9 + 1))))) else (none)) else (none)) else (some true)
def cx_within.f (k : Nat) (a0 : Int) (l1 : List (S43)) : Option (Bool) := cx_within.l0 k a0 l1 (l1.length : Int) 0
theorem cx_within.mono_l : ∀ k, (∀ y0 y1 y2 y3, LeO (cx_within.l0 k y0 y1 y2 y3) (cx_within.l0 (k + 1) y0 y1 y2 y3))
  | 0 => fun _ _ _ _ r h => by simp [cx_within.l0] at h
  | k + 1 => by
    have ih0 := cx_within.mono_l k
    · intro y0 y1 y2 y3
      unfold cx_within.l0
      repeat' first
      | (with_reducible exact ih0 _ _ _ _)
      | (with_reducible exact LeO.refl _)
      | (with_reducible exact LeO.none _)
      | (with_reducible refine LeO.ite ?_ ?_)
      | (with_reducible refine LeO.bind ?_ (fun _ => ?_))
      | exact ih0 _ _ _ _
      | exact LeO.none _
      | refine LeO.ite ?_ ?_
      | refine LeO.bind ?_ (fun _ => ?_)
theorem cx_within.mono : ∀ a0 a1 k, LeO (cx_within.f k a0 a1) (cx_within.f (k + 1) a0 a1) := by
  intro a0 a1 k
  have ih0 := cx_within.mono_l k
  unfold cx_within.f
  repeat' first
      | (with_reducible exact ih0 _ _ _ _)
      | (with_reducible exact LeO.refl _)
      | (with_reducible exact LeO.none _)
      | (with_reducible refine LeO.ite ?_ ?_)
      | (with_reducible refine LeO.bind ?_ (fun _ => ?_))
      | exact ih0 _ _ _ _
      | exact LeO.none _
      | refine LeO.ite ?_ ?_
      | refine LeO.bind ?_ (fun _ => ?_)
set_option maxHeartbeats 8000000 in
set_option maxRecDepth 100000 in
theorem cx_within.calls (k : Nat) (a0 : Int) (A1 : Option Addr) (c1 : Nat) (l1 : List (S43)) (r : Bool) (w : World) (hr1 : Kd.C k43 w A1 l1.length l1) (hc1 : l1.length ≤ c1) (h : cx_within.f k a0 l1 = some r) :
    Calls Try.prog 106 #[.int .i64 a0, .slice A1 l1.length c1] w fun e w' => e = .returned (.bool r) ∧ Below w.heap.size w w' := by
  have hu43 := Try.underlying43
  have HR1 := Aside0.mk hr1
  have HC1 := Aside0.mk hc1
  clear hr1 hc1
  have HB := Aside0.mk (Below.refl w.heap.size w)
  have H : (cx_within.l0 k a0 l1 (l1.length : Int) 0) = some r := h
  clear h
  have H' := Aside0.mk H
  clear H
  go_enter Try.func106, Try.ntmps106
  go_wp2
  go_loopg [9] k (fun kq v9 w' => ∃ (x9_1 : Int), v9 = .int .i64 x9_1 ∧ Aside0 (cx_within.l0 kq a0 l1 (l1.length : Int) x9_1 = some r) ∧ Aside0 (kq ≤ k) ∧ Aside0 (Below w.heap.size w w'))
  case atStart => exact ⟨(0), (by first | rfl | (simp; done) | (simp [*]; done)), H', ⟨Nat.le_refl _⟩, ⟨by repeat (first | (with_reducible first | exact HB.out | apply below_alloc | apply pw_below_drewN | apply below_drew1) | exact HB.out)⟩⟩
  case round =>
    clear H'
    try clear c1
    try clear p2
    obtain ⟨x9_1, rfl, HA, HK1, HB⟩ := hrel
    cases gk with
    | zero => exact absurd HA.out (by simp [cx_within.l0])
    | succ k1 =>
      have H := HA.out
      clear HA
      simp only [cx_within.l0] at H
      by_cases c3 : x9_1 < (l1.length : Int)
      · rw [if_pos c3] at H
        have c3b0 : decide (x9_1 < (l1.length : Int)) = true := decide_eq_true c3
        clear c3
        by_cases c4 : 0 ≤ x9_1
        · rw [if_pos c4] at H
          have c4b0 : decide (0 ≤ x9_1) = true := decide_eq_true c4
          clear c4
          by_cases c5 : x9_1 < (l1.length : Int)
          · rw [if_pos c5] at H
            have c5b0 : decide (x9_1 < (l1.length : Int)) = true := decide_eq_true c5
            clear c5
            obtain ⟨ji6, hji6⟩ : ∃ j_ : Int, (mx ((rd_T43 l1 x9_1).f0) ((rd_T43 l1 x9_1).f1)) = j_ := ⟨_, rfl⟩
            replace H : (if (ji6) > a0 then (some false) else (if (mn ((rd_T43 l1 x9_1).f0) ((rd_T43 l1 x9_1).f1)) < (wrap64 (-a0)) then (some false) else (cx_within.l0 k1 a0 l1 (l1.length : Int) (wrap64 (x9_1 + 1))))) = some r := by first | (rw [hji6] at H; exact H) | (simp only [hji6] at H ⊢; exact H)
            have hji6_ : (if ((rd_T43 l1 x9_1).f0) < ((rd_T43 l1 x9_1).f1) then ((rd_T43 l1 x9_1).f1) else ((rd_T43 l1 x9_1).f0)) = ji6 := hji6
            by_cases c7 : (ji6) > a0
            · rw [if_pos c7] at H
              have c7b0 : decide (a0 < (ji6)) = true := decide_eq_true c7
              clear c7
              obtain rfl := Option.some.inj H
              have p101 : 0 ≤ (x9_1 : Int) := of_decide_eq_true (by first | (with_reducible assumption) | assumption)
              have q101 : x9_1 < (l1.length : Int) := of_decide_eq_true (by first | (with_reducible assumption) | assumption)
              obtain ⟨ad101, e101, hx101_0, hx101_1⟩ := at_T43 HR1.out x9_1 p101 q101
              cases e101
              replace hx101_0 := (HB.out.cell (World.block_lt_of_cell? w _ hx101_0)).trans hx101_0
              replace hx101_1 := (HB.out.cell (World.block_lt_of_cell? w _ hx101_1)).trans hx101_1
              replace p101 := eq_true p101
              replace q101 := eq_true q101
              go_wp2_with (first | ((with_reducible refine gate_dst (N := 6) rfl ?_); (try (refine gate_guard (by rfl) ?_; dsimp only)); refine box_event ?hg (N := 6) ?hd (cs := #[.int .i64 0, .int .i64 0]) (t := 43) ?hr ?_; (case hd => rfl); (case hg => rfl); (case hr => first | (go_simp; done) | (go_simp; rfl)); intro gb102 hg w8 hbox hb; have n0_ := Aside0.mk (below_step (by repeat (first | (with_reducible first | exact HB.out | apply below_alloc | apply pw_below_drewN | apply below_drew1) | exact HB.out)) hb); have n1_ := Aside0.mk (hbox); have n2_ := Aside0.mk ((by rw [hg]; exact (below_size (by repeat (first | (with_reducible first | exact HB.out | apply below_alloc | apply pw_below_drewN | apply below_drew1) | exact HB.out))) : w.heap.size ≤ gb102)); have n3_ := Aside0.mk ((by rw [hg]; exact (below_size (by repeat (first | (with_reducible first | exact HB.out | apply below_alloc | apply pw_below_drewN | apply below_drew1) | exact HB.out))) : w.heap.size ≤ gb102)); clear HB; have HB := n0_; have BK102 := n1_; have GW102 := n2_; have GE102 := n3_; clear n0_ n1_ n2_ n3_; clear hb hbox hg; have hcz9_0 : w8.cell? ⟨gb102, 0, none⟩ = some (.int .i64 0) := (blk_cell BK102.out 0).trans rfl; have hcz9_1 : w8.cell? ⟨gb102, 1, none⟩ = some (.int .i64 0) := (blk_cell BK102.out 1).trans rfl; have hfz9_0 := blk_frozen BK102.out 0; have hfz9_1 := blk_frozen BK102.out 1))
              go_ret
              exact ⟨by first | rfl | (simp [errW_none, errW_some] <;> rfl) | (simp only [← hji6]; first | rfl | (simp [errW_none, errW_some] <;> rfl)) | (simp [*, errW_none, errW_some] <;> rfl), by repeat (first | (with_reducible first | exact HB.out | apply below_alloc | apply pw_below_drewN | apply below_drew1 | refine below_set ?_ GE102.out) | exact HB.out)⟩
            · rw [if_neg c7] at H
              have c7b0 : decide (a0 < (ji6)) = false := decide_eq_false c7
              clear c7
              obtain ⟨ji10, hji10⟩ : ∃ j_ : Int, (mn ((rd_T43 l1 x9_1).f0) ((rd_T43 l1 x9_1).f1)) = j_ := ⟨_, rfl⟩
              replace H : (if (ji10) < (wrap64 (-a0)) then (some false) else (cx_within.l0 k1 a0 l1 (l1.length : Int) (wrap64 (x9_1 + 1)))) = some r := by first | (rw [hji10] at H; exact H) | (simp only [hji10] at H ⊢; exact H)
              have hji10_ : (if ((rd_T43 l1 x9_1).f1) < ((rd_T43 l1 x9_1).f0) then ((rd_T43 l1 x9_1).f1) else ((rd_T43 l1 x9_1).f0)) = ji10 := hji10
              by_cases c11 : (ji10) < (wrap64 (-a0))
              · rw [if_pos c11] at H
                have c11b0 : decide ((ji10) < (wrap64 (-a0))) = true := decide_eq_true c11
                clear c11
                obtain rfl := Option.some.inj H
                have p101 : 0 ≤ (x9_1 : Int) := of_decide_eq_true (by first | (with_reducible assumption) | assumption)
                have q101 : x9_1 < (l1.length : Int) := of_decide_eq_true (by first | (with_reducible assumption) | assumption)
                obtain ⟨ad101, e101, hx101_0, hx101_1⟩ := at_T43 HR1.out x9_1 p101 q101
                cases e101
                replace hx101_0 := (HB.out.cell (World.block_lt_of_cell? w _ hx101_0)).trans hx101_0
                replace hx101_1 := (HB.out.cell (World.block_lt_of_cell? w _ hx101_1)).trans hx101_1
                replace p101 := eq_true p101
                replace q101 := eq_true q101
                go_wp2_with (first | ((with_reducible refine gate_dst (N := 6) rfl ?_); (try (refine gate_guard (by rfl) ?_; dsimp only)); refine box_event ?hg (N := 6) ?hd (cs := #[.int .i64 0, .int .i64 0]) (t := 43) ?hr ?_; (case hd => rfl); (case hg => rfl); (case hr => first | (go_simp; done) | (go_simp; rfl)); intro gb102 hg w12 hbox hb; have n0_ := Aside0.mk (below_step (by repeat (first | (with_reducible first | exact HB.out | apply below_alloc | apply pw_below_drewN | apply below_drew1) | exact HB.out)) hb); have n1_ := Aside0.mk (hbox); have n2_ := Aside0.mk ((by rw [hg]; exact (below_size (by repeat (first | (with_reducible first | exact HB.out | apply below_alloc | apply pw_below_drewN | apply below_drew1) | exact HB.out))) : w.heap.size ≤ gb102)); have n3_ := Aside0.mk ((by rw [hg]; exact (below_size (by repeat (first | (with_reducible first | exact HB.out | apply below_alloc | apply pw_below_drewN | apply below_drew1) | exact HB.out))) : w.heap.size ≤ gb102)); clear HB; have HB := n0_; have BK102 := n1_; have GW102 := n2_; have GE102 := n3_; clear n0_ n1_ n2_ n3_; clear hb hbox hg; have hcz13_0 : w12.cell? ⟨gb102, 0, none⟩ = some (.int .i64 0) := (blk_cell BK102.out 0).trans rfl; have hcz13_1 : w12.cell? ⟨gb102, 1, none⟩ = some (.int .i64 0) := (blk_cell BK102.out 1).trans rfl; have hfz13_0 := blk_frozen BK102.out 0; have hfz13_1 := blk_frozen BK102.out 1))
                go_ret
                exact ⟨by first | rfl | (simp [errW_none, errW_some] <;> rfl) | (simp only [← hji6, ← hji10]; first | rfl | (simp [errW_none, errW_some] <;> rfl)) | (simp [*, errW_none, errW_some] <;> rfl), by repeat (first | (with_reducible first | exact HB.out | apply below_alloc | apply pw_below_drewN | apply below_drew1 | refine below_set ?_ GE102.out) | exact HB.out)⟩
              · rw [if_neg c11] at H
                have c11b0 : decide ((ji10) < (wrap64 (-a0))) = false := decide_eq_false c11
                clear c11
                have H' := Aside0.mk H
                clear H
                have p101 : 0 ≤ (x9_1 : Int) := of_decide_eq_true (by first | (with_reducible assumption) | assumption)
                have q101 : x9_1 < (l1.length : Int) := of_decide_eq_true (by first | (with_reducible assumption) | assumption)
                obtain ⟨ad101, e101, hx101_0, hx101_1⟩ := at_T43 HR1.out x9_1 p101 q101
                cases e101
                replace hx101_0 := (HB.out.cell (World.block_lt_of_cell? w _ hx101_0)).trans hx101_0
                replace hx101_1 := (HB.out.cell (World.block_lt_of_cell? w _ hx101_1)).trans hx101_1
                replace p101 := eq_true p101
                replace q101 := eq_true q101
                go_wp2_with (first | ((with_reducible refine gate_dst (N := 6) rfl ?_); (try (refine gate_guard (by rfl) ?_; dsimp only)); refine box_event ?hg (N := 6) ?hd (cs := #[.int .i64 0, .int .i64 0]) (t := 43) ?hr ?_; (case hd => rfl); (case hg => rfl); (case hr => first | (go_simp; done) | (go_simp; rfl)); intro gb102 hg w14 hbox hb; have n0_ := Aside0.mk (below_step (by repeat (first | (with_reducible first | exact HB.out | apply below_alloc | apply pw_below_drewN | apply below_drew1) | exact HB.out)) hb); have n1_ := Aside0.mk (hbox); have n2_ := Aside0.mk ((by rw [hg]; exact (below_size (by repeat (first | (with_reducible first | exact HB.out | apply below_alloc | apply pw_below_drewN | apply below_drew1) | exact HB.out))) : w.heap.size ≤ gb102)); have n3_ := Aside0.mk ((by rw [hg]; exact (below_size (by repeat (first | (with_reducible first | exact HB.out | apply below_alloc | apply pw_below_drewN | apply below_drew1) | exact HB.out))) : w.heap.size ≤ gb102)); clear HB; have HB := n0_; have BK102 := n1_; have GW102 := n2_; have GE102 := n3_; clear n0_ n1_ n2_ n3_; clear hb hbox hg; have hcz15_0 : w14.cell? ⟨gb102, 0, none⟩ = some (.int .i64 0) := (blk_cell BK102.out 0).trans rfl; have hcz15_1 : w14.cell? ⟨gb102, 1, none⟩ = some (.int .i64 0) := (blk_cell BK102.out 1).trans rfl; have hfz15_0 := blk_frozen BK102.out 0; have hfz15_1 := blk_frozen BK102.out 1))
                go_roundg k1
                case measure => have := HK1.out; omega
                case rel => exact ⟨(wrap64 (x9_1 + 1)), (by first | rfl | (simp; done) | (simp [*]; done)), H', ⟨by have := HK1.out; omega⟩, ⟨by repeat (first | (with_reducible first | exact HB.out | apply below_alloc | apply pw_below_drewN | apply below_drew1 | refine below_set ?_ GE102.out) | exact HB.out)⟩⟩
          · rw [if_neg c5] at H
            exact absurd H (by simp)
        · rw [if_neg c4] at H
          exact absurd H (by simp)
      · rw [if_neg c3] at H
        have c3b0 : decide (x9_1 < (l1.length : Int)) = false := decide_eq_false c3
        clear c3
        obtain rfl := Option.some.inj H
        go_wp2
        go_ret
        exact ⟨by first | rfl | (simp [errW_none, errW_some] <;> rfl) | (simp [*, errW_none, errW_some] <;> rfl), by repeat (first | (with_reducible first | exact HB.out | apply below_alloc | apply pw_below_drewN | apply below_drew1) | exact HB.out)⟩

end Go.Proofs.Ytmglkelmdcpinaa.G
/- The contract of the function api_Cx_105 (number 105 of the translation): what its call computes, as a plain Lean function; memory that was there stays as it was. Conditions: none beyond the theorem's own. Written by a program (gprint.py). -/
namespace Go.Proofs.Ytmglkelmdcpinaa.G
open Go.RowKit Go.Proofs.YtmglkelmdcpinaaW.PrintWords Go.Proofs.YtmglkelmdcpinaaW.PrintLast Go.Proofs.YtmglkelmdcpinaaW.PrintMore
attribute [local go_sem] max2_int min2_int max_two min_two max_three min_three max_four min_four   -- for this text's walks alone
set_option linter.unusedVariables false
set_option linter.unusedSimpArgs false

/-! ### api_Cx_105: function 105 -/
theorem grown_set {w W : World} {row : Option Nat} (h : w.grownBy W row) {p : Addr} (hp : w.heap.size ≤ p.block) (u : Value) : w.grownBy (W.setCell p u) row :=
  ⟨h.os, h.tape, h.output, by have := h.size; simpa [World.setCell] using this, fun i hi hne => (Below.heap_setCell W p u i (by omega)).trans (h.block i hi hne)⟩
theorem grown_at {w W : World} {B : Nat} (h : w.grownBy W (some B)) {p : Addr} (hp : p.block = B) (u : Value) : w.grownBy (W.setCell p u) (some B) :=
  ⟨h.os, h.tape, h.output, by have := h.size; simpa [World.setCell] using this, fun i hi hne => (Below.heap_setCell W p u i (fun e => hne (by rw [e, hp]))).trans (h.block i hi hne)⟩
theorem C_lit_cx {w : World} (B : Nat) (l : List S43) (hb : l.length ≤ 9223372036854775807) (h : ∀ j, j < l.length → w.cell? ⟨B, j * 2, none⟩ = some (.int .i64 (l.getD j z43).f0) ∧ w.cell? ⟨B, j * 2 + 1, none⟩ = some (.int .i64 (l.getD j z43).f1)) : Kd.C k43 w (some ⟨B, 0, none⟩) l.length l := by
  refine ⟨rfl, hb, fun hn => ⟨_, rfl, fun j p hj => ?_⟩⟩
  obtain ⟨hj', rfl⟩ := List.getElem?_eq_some_iff.1 hj
  refine ⟨[.int .i64 l[j].f0, .int .i64 l[j].f1], rfl, k43_mk w l[j], fun i u hu => ?_⟩
  have hg : l.getD j z43 = l[j] := by rw [List.getD_eq_getElem?_getD, List.getElem?_eq_getElem hj']; rfl
  obtain ⟨h0, h1⟩ := h j hj'
  rw [hg] at h0 h1
  match i, hu with
  | 0, hu => simp at hu; subst hu; rw [add_plain]; exact h0
  | 1, hu => simp at hu; subst hu; rw [add_plain]; exact h1
/-- Are all numbers' parts so great at most? -/
def within (most : Int) (l : List S43) : Bool := l.all fun a => decide (mx a.f0 a.f1 ≤ most) && decide (-most ≤ mn a.f0 a.f1)
theorem cx_within.run (most : Int) (h : wrap64 (-most) = -most) (l : List S43) (hl : l.length < 9223372036854775807) : ∀ (k : Nat) (i : Nat), i ≤ l.length → l.length - i < k → cx_within.l0 k most l (l.length : Int) (i : Int) = some (within most (l.drop i)) := by
  intro k
  induction k with
  | zero => intro i _ h; omega
  | succ k ih =>
    intro i hi hk
    simp only [cx_within.l0]
    by_cases hlt : i < l.length
    · rw [if_pos (by omega), if_pos (by omega), if_pos (by omega)]
      have hd : l.drop i = l[i] :: l.drop (i + 1) := List.drop_eq_getElem_cons hlt
      have hr : rd_T43 l (i : Int) = l[i] := by simp [rd_T43, List.getD_eq_getElem?_getD, hlt]
      rw [hr, hd, h]
      have e : wrap64 ((i : Int) + 1) = ((i + 1 : Nat) : Int) := by unfold wrap64; omega
      unfold within
      simp only [List.all_cons]
      by_cases h1 : mx l[i].f0 l[i].f1 > most
      · rw [if_pos h1]
        have : decide (mx l[i].f0 l[i].f1 ≤ most) = false := by simp; omega
        simp [this]
      · rw [if_neg h1]
        have e1 : decide (mx l[i].f0 l[i].f1 ≤ most) = true := by simp; omega
        by_cases h2 : mn l[i].f0 l[i].f1 < -most
        · rw [if_pos h2]
          have : decide (-most ≤ mn l[i].f0 l[i].f1) = false := by simp; omega
          simp [this]
        · rw [if_neg h2, e, ih (i + 1) (by omega) (by omega)]
          have e2 : decide (-most ≤ mn l[i].f0 l[i].f1) = true := by simp; omega
          simp [e1, e2, within]
    · rw [if_neg (by omega)]
      have : i = l.length := by omega
      subst this
      simp [within]
theorem cx_within.val (most : Int) (h : wrap64 (-most) = -most) (l : List S43) (hl : l.length < 9223372036854775807) : cx_within.f (l.length + 1) most l = some (within most l) := by
  have := cx_within.run most h l hl (l.length + 1) 0 (by omega) (by omega)
  simpa [cx_within.f] using this
set_option maxHeartbeats 1000000 in
theorem cx_made.no (g : Nat) (lb : Array Value) (w : World) :
    Calls Try.prog 105 #[.bool false, .func (.func g) #[] lb] w fun e w' => e = .returned (.tuple #[.agg #[.int .i64 0, .int .i64 0], .int .i64 2]) ∧ Below w.heap.size w w' := by
  go_enter Try.func105, Try.ntmps105
  go_wp2
  refine bodyPost_ret (v := .tuple #[.agg #[.int .i64 0, .int .i64 0], .int .i64 2]) (by simp [results, Try.results105, go_sem]) rfl ⟨rfl, ?_⟩
  repeat (first | exact Below.refl _ _ | apply below_alloc | apply pw_below_drewN | (refine below_set ?_ (by simp)))
set_option maxHeartbeats 1000000 in
theorem cx_made.yes (g : Nat) (lb : Array Value) (x y : Int) (row : Option Nat) (w : World) (eg : ∀ args w, (callFunc g args).run Try.prog w = .ok (.enter g args) w)
    (hm : Calls Try.prog g lb (w.alloc (.cells #[.int .i64 0, .int .i64 0] 43)) fun e W' => e = .returned (.agg #[.int .i64 x, .int .i64 y]) ∧ (w.alloc (.cells #[.int .i64 0, .int .i64 0] 43)).grownBy W' row)
    (hrow : ∀ r, row = some r → r < w.heap.size) :
    Calls Try.prog 105 #[.bool true, .func (.func g) #[] lb] w fun e w' => e = .returned (.tuple #[.agg #[.int .i64 x, .int .i64 y], .int .i64 0]) ∧ w.grownBy w' row := by
  have HM := Aside0.mk hm
  have HR := Aside0.mk hrow
  clear hm hrow
  go_enter Try.func105, Try.ntmps105
  go_wp2_with (fail)
  refine HM.out.mono ?_
  rintro e w1 ⟨rfl, hg⟩
  have hb : w1.heap[w.heap.size]? = some (.cells #[.int .i64 0, .int .i64 0] 43 (0, 0)) := blk_grown (blk_new _ _) hg (fun e => by have := HR.out _ e.symm; omega)
  have c0 : w1.cell? ⟨w.heap.size, 0, none⟩ = some (.int .i64 0) := (blk_cell hb 0).trans rfl
  have c1 : w1.cell? ⟨w.heap.size, 1, none⟩ = some (.int .i64 0) := (blk_cell hb 1).trans rfl
  have f0 := blk_frozen hb 0
  have f1 := blk_frozen hb 1
  have HG := Aside0.mk hg
  have HB := Aside0.mk hb
  clear hg hb
  go_wp2
  have HG2 := (World.grownBy_alloc w (.cells #[.int .i64 0, .int .i64 0] 43) row).trans HG.out
  refine bodyPost_ret (v := .tuple #[.agg #[.int .i64 x, .int .i64 y], .int .i64 0]) (by simp [results, Try.results105, go_sem, c0, c1]) rfl ⟨rfl, ?_⟩
  exact grown_set (grown_set HG2 (Nat.le_refl _) _) (Nat.le_refl _) _

end Go.Proofs.Ytmglkelmdcpinaa.G
/- The contract of the function cx_Conj_1 (number 108 of the translation): what its call computes, as a plain Lean function; memory that was there stays as it was. Conditions: none beyond the theorem's own. Written by a program (gprint.py). -/
namespace Go.Proofs.Ytmglkelmdcpinaa.G
open Go.RowKit Go.Proofs.YtmglkelmdcpinaaW.PrintWords Go.Proofs.YtmglkelmdcpinaaW.PrintLast Go.Proofs.YtmglkelmdcpinaaW.PrintMore
attribute [local go_sem] max2_int min2_int max_two min_two max_three min_three max_four min_four   -- for this text's walks alone
set_option linter.unusedVariables false
set_option linter.unusedSimpArgs false

/-! ### cx_Conj_1: function 108 -/
set_option maxHeartbeats 1000000 in
theorem cx_Conj1.calls (B : Nat) (x y : Int) (w : World) (h0 : w.cell? ⟨B, 0, none⟩ = some (.int .i64 x)) (h1 : w.cell? ⟨B, 1, none⟩ = some (.int .i64 y)) :
    Calls Try.prog 108 #[.pointer (some ⟨B, 0, none⟩)] w fun e w' => e = .returned (.agg #[.int .i64 x, .int .i64 (wrap64 (-y))]) ∧ Below w.heap.size w w' := by
  have l0 := World.block_lt_of_cell? w _ h0
  go_enter Try.func108, Try.ntmps108
  go_wp2
  refine bodyPost_ret (v := .agg #[.int .i64 x, .int .i64 (wrap64 (-y))]) (by simp [results, Try.results108, go_sem]) rfl ⟨rfl, ?_⟩
  repeat (first | exact Below.refl _ _ | apply below_alloc | apply pw_below_drewN | (refine below_set ?_ (by simp)))

end Go.Proofs.Ytmglkelmdcpinaa.G
/- The contract of the function cx_Conj (number 41 of the translation): what its call computes, as a plain Lean function; memory that was there stays as it was. Conditions: none beyond the theorem's own. Written by a program (gprint.py). -/
namespace Go.Proofs.Ytmglkelmdcpinaa.G
open Go.RowKit Go.Proofs.YtmglkelmdcpinaaW.PrintWords Go.Proofs.YtmglkelmdcpinaaW.PrintLast Go.Proofs.YtmglkelmdcpinaaW.PrintMore
attribute [local go_sem] max2_int min2_int max_two min_two max_three min_three max_four min_four   -- for this text's walks alone
set_option linter.unusedVariables false
set_option linter.unusedSimpArgs false

/-! ### cx_Conj: function 41 -/
def cx_Conj.f (a0_0 a0_1 : Int) : Option (Int × Int × Int) := if within 2305843009213693952 [⟨a0_0, a0_1⟩] = true then some (a0_0, wrap64 (-a0_1), 0) else some (0, 0, 2)
theorem cx_wide : wrap64 (-2305843009213693952) = -2305843009213693952 := by unfold wrap64; omega
set_option maxHeartbeats 2000000 in
theorem cx_Conj.calls (a0_0 : Int) (a0_1 : Int) (r1 : Int) (r2 : Int) (r3 : Int) (w : World) (h : cx_Conj.f a0_0 a0_1 = some (r1, r2, r3)) :
    Calls Try.prog 41 #[.agg #[.int .i64 a0_0, .int .i64 a0_1]] w fun e w' => e = .returned (.tuple #[.agg #[.int .i64 r1, .int .i64 r2], .int .i64 r3]) ∧ Below w.heap.size w w' := by
  have HV := Aside0.mk (cx_within.val 2305843009213693952 cx_wide [⟨a0_0, a0_1⟩] (by simp))
  unfold cx_Conj.f at h
  cases hq : within 2305843009213693952 [⟨a0_0, a0_1⟩] with
  | true =>
    rw [hq] at h HV
    simp only [if_true, Option.some.injEq, Prod.mk.injEq] at h
    obtain ⟨rfl, rfl, rfl⟩ := h
    clear hq
    go_enter Try.func41, Try.ntmps41
    go_wp2_with (fail)
    refine (cx_within.calls _ _ _ _ [⟨a0_0, a0_1⟩] true _ (C_lit_cx _ _ (by simp) ?_) (by simp) HV.out).mono ?_
    · intro j hj
      match j, hj with
      | 0, _ => simp [go_sem]
    rintro e w1 ⟨rfl, hb⟩
    have B0 : w1.heap[w.heap.size]? = some (.cells #[.int .i64 a0_0, .int .i64 a0_1] 43 (0, 0)) := blk_below (blk_alloc (blk_alloc (blk_new _ _) _) _) hb
    have B1 : w1.heap[w.heap.size + 1]? = some (.cells #[.int .i64 0, .int .i64 0] 43 (0, 0)) := blk_below (blk_alloc (by have := blk_new (w.alloc (.cells #[.int .i64 a0_0, .int .i64 a0_1] 43)) (.cells #[.int .i64 0, .int .i64 0] 43); simpa using this) _) hb
    have HB0 := Aside0.mk B0
    have HB1 := Aside0.mk B1
    have HW := Aside0.mk (below_then (below_alloc (below_alloc (below_alloc (Below.refl _ _) _) _) _) (by simp <;> omega) hb : Below w.heap.size w w1)
    clear hb B0 B1 HV
    go_wp2_with (fail)
    refine (cx_made.yes 108 #[.pointer (some ⟨w.heap.size, 0, none⟩)] a0_0 (wrap64 (-a0_1)) none w1 (enters_of Try.func108 (by kernel_rfl) rfl) ?_ (by simp)).mono ?_
    · have k := blk_alloc HB0.out (.cells #[.int .i64 0, .int .i64 0] 43)
      refine (cx_Conj1.calls w.heap.size a0_0 a0_1 _ ((blk_cell k 0).trans rfl) ((blk_cell k 1).trans rfl)).mono ?_
      rintro e w' ⟨rfl, hb⟩
      exact ⟨rfl, grown_of_below hb none⟩
    rintro e w2 ⟨rfl, hg⟩
    have B1 := blk_grown HB1.out hg (by simp)
    have c0 : w2.cell? ⟨w.heap.size + 1, 0, none⟩ = some (.int .i64 0) := (blk_cell B1 0).trans rfl
    have c1 : w2.cell? ⟨w.heap.size + 1, 1, none⟩ = some (.int .i64 0) := (blk_cell B1 1).trans rfl
    have f0 := blk_frozen B1 0
    have f1 := blk_frozen B1 1
    have HW2 := Aside0.mk (HW.out.grown hg HW.out.size (by simp))
    clear hg B1 HB0 HB1 HW
    go_wp2
    refine bodyPost_ret (v := .tuple #[.agg #[.int .i64 a0_0, .int .i64 (wrap64 (-a0_1))], .int .i64 0]) (by simp [results, Try.results41, go_sem, c0, c1]) rfl ⟨rfl, ?_⟩
    exact below_set (below_set HW2.out (by simp)) (by simp)
  | false =>
    rw [hq] at h HV
    simp only [Bool.false_eq_true, if_false, Option.some.injEq, Prod.mk.injEq] at h
    obtain ⟨rfl, rfl, rfl⟩ := h
    clear hq
    go_enter Try.func41, Try.ntmps41
    go_wp2_with (fail)
    refine (cx_within.calls _ _ _ _ [⟨a0_0, a0_1⟩] false _ (C_lit_cx _ _ (by simp) ?_) (by simp) HV.out).mono ?_
    · intro j hj
      match j, hj with
      | 0, _ => simp [go_sem]
    rintro e w1 ⟨rfl, hb⟩
    have B1 : w1.heap[w.heap.size + 1]? = some (.cells #[.int .i64 0, .int .i64 0] 43 (0, 0)) := blk_below (blk_alloc (by have := blk_new (w.alloc (.cells #[.int .i64 a0_0, .int .i64 a0_1] 43)) (.cells #[.int .i64 0, .int .i64 0] 43); simpa using this) _) hb
    have HB1 := Aside0.mk B1
    have HW := Aside0.mk (below_then (below_alloc (below_alloc (below_alloc (Below.refl _ _) _) _) _) (by simp <;> omega) hb : Below w.heap.size w w1)
    clear hb B1 HV
    go_wp2_with (fail)
    refine (cx_made.no 108 _ w1).mono ?_
    rintro e w2 ⟨rfl, hb⟩
    have B1 := blk_below HB1.out hb
    have c0 : w2.cell? ⟨w.heap.size + 1, 0, none⟩ = some (.int .i64 0) := (blk_cell B1 0).trans rfl
    have c1 : w2.cell? ⟨w.heap.size + 1, 1, none⟩ = some (.int .i64 0) := (blk_cell B1 1).trans rfl
    have f0 := blk_frozen B1 0
    have f1 := blk_frozen B1 1
    have HW2 := Aside0.mk (below_step HW.out hb)
    clear hb B1 HB1 HW
    go_wp2
    refine bodyPost_ret (v := .tuple #[.agg #[.int .i64 0, .int .i64 0], .int .i64 2]) (by simp [results, Try.results41, go_sem, c0, c1]) rfl ⟨rfl, ?_⟩
    exact below_set (below_set HW2.out (by simp)) (by simp)

end Go.Proofs.Ytmglkelmdcpinaa.G
/- The contract of the function cx_Shift (number 138 of the translation): what its call computes, as a plain Lean function; memory that was there stays as it was. Conditions: none beyond the theorem's own. Written by a program (gprint.py). -/
namespace Go.Proofs.Ytmglkelmdcpinaa.G
open Go.RowKit Go.Proofs.YtmglkelmdcpinaaW.PrintWords Go.Proofs.YtmglkelmdcpinaaW.PrintLast Go.Proofs.YtmglkelmdcpinaaW.PrintMore
attribute [local go_sem] max2_int min2_int max_two min_two max_three min_three max_four min_four   -- for this text's walks alone
set_option linter.unusedVariables false
set_option linter.unusedSimpArgs false

/-! ### cx_Shift: function 138 -/
def cx_Shift.f (a0_0 : Int) (a0_1 : Int) (a1 : Int) (a2 : Int) : Option (Int × Int × Int) := (round_Shift.f a0_0 a1 a2).bind fun bt103 => (if bt103.2 = 0 then ((round_Shift.f a0_1 a1 a2).bind fun bt105 => (some (bt103.1, bt105.1, 0))) else (some (0, 0, bt103.2)))
set_option maxHeartbeats 8000000 in
set_option maxRecDepth 100000 in
theorem cx_Shift.calls (a0_0 : Int) (a0_1 : Int) (a1 : Int) (a2 : Int) (r1 : Int) (r2 : Int) (r3 : Int) (w : World) (h : cx_Shift.f a0_0 a0_1 a1 a2 = some (r1, r2, r3)) :
    Calls Try.prog 138 #[.agg #[.int .i64 a0_0, .int .i64 a0_1], .int .i64 a1, .int .i64 a2] w fun e w' => e = .returned (.tuple #[.agg #[.int .i64 r1, .int .i64 r2], .int .i64 r3]) ∧ Below w.heap.size w w' := by
  have hu43 := Try.underlying43
  have HB := Aside0.mk (Below.refl w.heap.size w)
  have H : ((round_Shift.f a0_0 a1 a2).bind fun bt103 => (if bt103.2 = 0 then ((round_Shift.f a0_1 a1 a2).bind fun bt105 => (some (bt103.1, bt105.1, 0))) else (some (0, 0, bt103.2)))) = some (r1, r2, r3) := h
  clear h
  replace H := Option.bind_eq_some_iff.mp H
  obtain ⟨⟨t103, t104⟩, A40, H⟩ := H
  replace H : (if t104 = 0 then ((round_Shift.f a0_1 a1 a2).bind fun bt105 => (some (t103, bt105.1, 0))) else (some (0, 0, t104))) = some (r1, r2, r3) := H
  have A4 := Aside0.mk A40
  clear A40
  by_cases c5 : t104 = 0
  · rw [if_pos c5] at H
    have c5b0 : (t104 == 0) = true := beq_iff_eq.mpr c5
    have c5b1 : (t104 != 0) = false := bne_eq_false_iff_eq.mpr c5
    clear c5
    replace H := Option.bind_eq_some_iff.mp H
    obtain ⟨⟨t105, t106⟩, A60, H⟩ := H
    replace H : (some (t103, t105, 0)) = some (r1, r2, r3) := H
    have A6 := Aside0.mk A60
    clear A60
    simp only [Option.some.injEq, Prod.mk.injEq] at H
    obtain ⟨rfl, rfl, rfl⟩ := H
    go_enter Try.func138, Try.ntmps138
    go_wp2_with (first | ((with_reducible refine gate_dst (N := 3) rfl ?_); refine box_event ?hg (N := 3) ?hd (cs := #[.int .i64 a0_0, .int .i64 a0_1]) (t := 43) ?hr ?_; (case hd => rfl); (case hg => rfl); (case hr => first | (go_simp; done) | (go_simp; rfl)); intro gb101 hg w7 hbox hb; have n0_ := Aside0.mk (below_step (by repeat (first | (with_reducible first | exact HB.out | apply below_alloc | apply pw_below_drewN | apply below_drew1) | exact HB.out)) hb); have n1_ := Aside0.mk (hbox); have n2_ := Aside0.mk ((by rw [hg]; exact (below_size (by repeat (first | (with_reducible first | exact HB.out | apply below_alloc | apply pw_below_drewN | apply below_drew1) | exact HB.out))) : w.heap.size ≤ gb101)); have n3_ := Aside0.mk ((by rw [hg]; exact (below_size (by repeat (first | (with_reducible first | exact HB.out | apply below_alloc | apply pw_below_drewN | apply below_drew1) | exact HB.out))) : w.heap.size ≤ gb101)); clear HB; have HB := n0_; have BK101 := n1_; have GW101 := n2_; have GE101 := n3_; clear n0_ n1_ n2_ n3_; clear hb hbox hg) | ((with_reducible refine gate_dst (N := 6) rfl ?_); refine box_event ?hg (N := 6) ?hd (cs := #[.int .i64 0, .int .i64 0]) (t := 43) ?hr ?_; (case hd => rfl); (case hg => rfl); (case hr => first | (go_simp; done) | (go_simp; rfl)); intro gb102 hg w8 hbox hb; have n0_ := Aside0.mk (blk_below (g := gb101) (o := .cells #[.int .i64 a0_0, .int .i64 a0_1] 43 (0, 0)) (by (with_reducible repeat (first | refine blk_drewN ?_ _ | refine blk_drew ?_ | refine blk_alloc ?_ _)); exact BK101.out) hb); have n1_ := Aside0.mk (below_step (by repeat (first | (with_reducible first | exact HB.out | apply below_alloc | apply pw_below_drewN | apply below_drew1 | refine below_set ?_ GE101.out) | exact HB.out)) hb); have n2_ := Aside0.mk (hbox); have n3_ := Aside0.mk ((by rw [hg]; exact (below_size (by repeat (first | (with_reducible first | exact HB.out | apply below_alloc | apply pw_below_drewN | apply below_drew1 | refine below_set ?_ GE101.out) | exact HB.out))) : w.heap.size ≤ gb102)); have n4_ := Aside0.mk ((by rw [hg]; exact (below_size (by repeat (first | (with_reducible first | exact HB.out | apply below_alloc | apply pw_below_drewN | apply below_drew1 | refine below_set ?_ GE101.out) | exact HB.out))) : w.heap.size ≤ gb102)); have n5_ := Aside0.mk ((by rw [hg]; exact Nat.ne_of_lt (blk_lt (g := gb101) (o := .cells #[.int .i64 a0_0, .int .i64 a0_1] 43 (0, 0)) (by (with_reducible repeat (first | refine blk_drewN ?_ _ | refine blk_drew ?_ | refine blk_alloc ?_ _)); exact BK101.out)) : gb101 ≠ gb102)); have n6_ := Aside0.mk ((by rw [hg]; exact Nat.ne_of_gt (blk_lt (g := gb101) (o := .cells #[.int .i64 a0_0, .int .i64 a0_1] 43 (0, 0)) (by (with_reducible repeat (first | refine blk_drewN ?_ _ | refine blk_drew ?_ | refine blk_alloc ?_ _)); exact BK101.out)) : gb102 ≠ gb101)); clear BK101; clear HB; have BK101 := n0_; have HB := n1_; have BK102 := n2_; have GW102 := n3_; have GE102 := n4_; have NB101_102 := n5_; have NB102_101 := n6_; clear n0_ n1_ n2_ n3_ n4_ n5_ n6_; clear hb hbox hg; have hnb9 := NB101_102.out; have hnc9 := NB102_101.out; have hcz10_0 : w8.cell? ⟨gb101, 0, none⟩ = some (.int .i64 a0_0) := (blk_cell BK101.out 0).trans rfl; have hcz10_1 : w8.cell? ⟨gb101, 1, none⟩ = some (.int .i64 a0_1) := (blk_cell BK101.out 1).trans rfl; have hfz10_0 := blk_frozen BK101.out 0; have hfz10_1 := blk_frozen BK101.out 1) | ((with_reducible refine gate_callee (f := 72) rfl ?_); refine goesL_ (some 17) rfl rfl Try.func72 (by kernel_rfl) rfl #[.int .i64 a0_0, .int .i64 a1, .int .i64 a2] rfl (by (try simp only [List.map_toArray, List.map_cons, List.map_nil]); first | done | rfl | (simp only [List.length_drop, List.length_take]; rfl)) ?_; (with_reducible refine (round_Shift.calls a0_0 a1 a2 t103 t104 _ A4.out).mono ?_); rintro e w11 ⟨rfl, hb⟩; refine ⟨_, rfl, ?_⟩; have n0_ := Aside0.mk (blk_below (g := gb101) (o := .cells #[.int .i64 a0_0, .int .i64 a0_1] 43 (0, 0)) (by (with_reducible repeat (first | refine blk_drewN ?_ _ | refine blk_drew ?_ | refine blk_alloc ?_ _)); exact BK101.out) hb); have n1_ := Aside0.mk (blk_below (g := gb102) (o := .cells #[.int .i64 0, .int .i64 0] 43 (0, 0)) (by (with_reducible repeat (first | refine blk_drewN ?_ _ | refine blk_drew ?_ | refine blk_alloc ?_ _)); exact BK102.out) hb); have n2_ := Aside0.mk (below_step (by repeat (first | (with_reducible first | exact HB.out | apply below_alloc | apply pw_below_drewN | apply below_drew1 | refine below_set ?_ GE101.out | refine below_set ?_ GE102.out) | exact HB.out)) hb); clear BK101; clear BK102; clear HB; have BK101 := n0_; have BK102 := n1_; have HB := n2_; clear n0_ n1_ n2_; (try clear hb); (try clear hb2); (try clear hk); (try clear hi); have hcz12_0 : w11.cell? ⟨gb101, 0, none⟩ = some (.int .i64 a0_0) := (blk_cell BK101.out 0).trans rfl; have hcz12_1 : w11.cell? ⟨gb101, 1, none⟩ = some (.int .i64 a0_1) := (blk_cell BK101.out 1).trans rfl; have hfz12_0 := blk_frozen BK101.out 0; have hfz12_1 := blk_frozen BK101.out 1) | ((with_reducible refine gate_callee (f := 72) rfl ?_); refine goesL_ (some 29) rfl rfl Try.func72 (by kernel_rfl) rfl #[.int .i64 a0_1, .int .i64 a1, .int .i64 a2] rfl (by (try simp only [List.map_toArray, List.map_cons, List.map_nil]); first | done | rfl | (simp only [List.length_drop, List.length_take]; rfl)) ?_; (with_reducible refine (round_Shift.calls a0_1 a1 a2 t105 t106 _ A6.out).mono ?_); rintro e w13 ⟨rfl, hb⟩; refine ⟨_, rfl, ?_⟩; have n0_ := Aside0.mk (blk_below (g := gb101) (o := .cells #[.int .i64 a0_0, .int .i64 a0_1] 43 (0, 0)) (by (with_reducible repeat (first | refine blk_drewN ?_ _ | refine blk_drew ?_ | refine blk_alloc ?_ _)); exact BK101.out) hb); have n1_ := Aside0.mk (blk_below (g := gb102) (o := .cells #[.int .i64 0, .int .i64 0] 43 (0, 0)) (by (with_reducible repeat (first | refine blk_drewN ?_ _ | refine blk_drew ?_ | refine blk_alloc ?_ _)); exact BK102.out) hb); have n2_ := Aside0.mk (below_step (by repeat (first | (with_reducible first | exact HB.out | apply below_alloc | apply pw_below_drewN | apply below_drew1 | refine below_set ?_ GE101.out | refine below_set ?_ GE102.out) | exact HB.out)) hb); clear BK101; clear BK102; clear HB; have BK101 := n0_; have BK102 := n1_; have HB := n2_; clear n0_ n1_ n2_; (try clear hb); (try clear hb2); (try clear hk); (try clear hi); have hcz14_0 : w13.cell? ⟨gb102, 0, none⟩ = some (.int .i64 0) := (blk_cell BK102.out 0).trans rfl; have hcz14_1 : w13.cell? ⟨gb102, 1, none⟩ = some (.int .i64 0) := (blk_cell BK102.out 1).trans rfl; have hfz14_0 := blk_frozen BK102.out 0; have hfz14_1 := blk_frozen BK102.out 1))
    refine bodyPost_ret (results_ct rfl _ _ gb102 43 #[.int .i64 t103, .int .i64 t105] (0, 0) _ rfl (by (with_reducible repeat (first | refine blk_drewN ?_ _ | refine blk_drew ?_ | refine blk_alloc ?_ _)); refine blk_put (cs := #[.int .i64 t103, .int .i64 0]) ?_ 1 _ rfl; (with_reducible repeat (first | refine blk_drewN ?_ _ | refine blk_drew ?_ | refine blk_alloc ?_ _)); refine blk_put (cs := #[.int .i64 0, .int .i64 0]) ?_ 0 _ rfl; (with_reducible repeat (first | refine blk_drewN ?_ _ | refine blk_drew ?_ | refine blk_alloc ?_ _)); exact BK102.out) Try.underlying43 rfl (by kernel_rfl)) rfl ?_
    exact ⟨by first | rfl | (simp [errW_none, errW_some] <;> rfl) | (simp [*, errW_none, errW_some] <;> rfl), by repeat (first | (with_reducible first | exact HB.out | apply below_alloc | apply pw_below_drewN | apply below_drew1 | refine below_set ?_ GE101.out | refine below_set ?_ GE102.out) | exact HB.out)⟩
  · rw [if_neg c5] at H
    have c5b0 : (t104 == 0) = false := beq_eq_false_iff_ne.mpr c5
    have c5b1 : (t104 != 0) = true := bne_iff_ne.mpr c5
    simp only [Option.some.injEq, Prod.mk.injEq] at H
    obtain ⟨rfl, rfl, rfl⟩ := H
    go_enter Try.func138, Try.ntmps138
    go_wp2_with (first | ((with_reducible refine gate_dst (N := 3) rfl ?_); refine box_event ?hg (N := 3) ?hd (cs := #[.int .i64 a0_0, .int .i64 a0_1]) (t := 43) ?hr ?_; (case hd => rfl); (case hg => rfl); (case hr => first | (go_simp; done) | (go_simp; rfl)); intro gb101 hg w15 hbox hb; have n0_ := Aside0.mk (below_step (by repeat (first | (with_reducible first | exact HB.out | apply below_alloc | apply pw_below_drewN | apply below_drew1) | exact HB.out)) hb); have n1_ := Aside0.mk (hbox); have n2_ := Aside0.mk ((by rw [hg]; exact (below_size (by repeat (first | (with_reducible first | exact HB.out | apply below_alloc | apply pw_below_drewN | apply below_drew1) | exact HB.out))) : w.heap.size ≤ gb101)); have n3_ := Aside0.mk ((by rw [hg]; exact (below_size (by repeat (first | (with_reducible first | exact HB.out | apply below_alloc | apply pw_below_drewN | apply below_drew1) | exact HB.out))) : w.heap.size ≤ gb101)); clear HB; have HB := n0_; have BK101 := n1_; have GW101 := n2_; have GE101 := n3_; clear n0_ n1_ n2_ n3_; clear hb hbox hg) | ((with_reducible refine gate_dst (N := 6) rfl ?_); refine box_event ?hg (N := 6) ?hd (cs := #[.int .i64 0, .int .i64 0]) (t := 43) ?hr ?_; (case hd => rfl); (case hg => rfl); (case hr => first | (go_simp; done) | (go_simp; rfl)); intro gb102 hg w16 hbox hb; have n0_ := Aside0.mk (blk_below (g := gb101) (o := .cells #[.int .i64 a0_0, .int .i64 a0_1] 43 (0, 0)) (by (with_reducible repeat (first | refine blk_drewN ?_ _ | refine blk_drew ?_ | refine blk_alloc ?_ _)); exact BK101.out) hb); have n1_ := Aside0.mk (below_step (by repeat (first | (with_reducible first | exact HB.out | apply below_alloc | apply pw_below_drewN | apply below_drew1 | refine below_set ?_ GE101.out) | exact HB.out)) hb); have n2_ := Aside0.mk (hbox); have n3_ := Aside0.mk ((by rw [hg]; exact (below_size (by repeat (first | (with_reducible first | exact HB.out | apply below_alloc | apply pw_below_drewN | apply below_drew1 | refine below_set ?_ GE101.out) | exact HB.out))) : w.heap.size ≤ gb102)); have n4_ := Aside0.mk ((by rw [hg]; exact (below_size (by repeat (first | (with_reducible first | exact HB.out | apply below_alloc | apply pw_below_drewN | apply below_drew1 | refine below_set ?_ GE101.out) | exact HB.out))) : w.heap.size ≤ gb102)); have n5_ := Aside0.mk ((by rw [hg]; exact Nat.ne_of_lt (blk_lt (g := gb101) (o := .cells #[.int .i64 a0_0, .int .i64 a0_1] 43 (0, 0)) (by (with_reducible repeat (first | refine blk_drewN ?_ _ | refine blk_drew ?_ | refine blk_alloc ?_ _)); exact BK101.out)) : gb101 ≠ gb102)); have n6_ := Aside0.mk ((by rw [hg]; exact Nat.ne_of_gt (blk_lt (g := gb101) (o := .cells #[.int .i64 a0_0, .int .i64 a0_1] 43 (0, 0)) (by (with_reducible repeat (first | refine blk_drewN ?_ _ | refine blk_drew ?_ | refine blk_alloc ?_ _)); exact BK101.out)) : gb102 ≠ gb101)); clear BK101; clear HB; have BK101 := n0_; have HB := n1_; have BK102 := n2_; have GW102 := n3_; have GE102 := n4_; have NB101_102 := n5_; have NB102_101 := n6_; clear n0_ n1_ n2_ n3_ n4_ n5_ n6_; clear hb hbox hg; have hnb17 := NB101_102.out; have hnc17 := NB102_101.out; have hcz18_0 : w16.cell? ⟨gb101, 0, none⟩ = some (.int .i64 a0_0) := (blk_cell BK101.out 0).trans rfl; have hcz18_1 : w16.cell? ⟨gb101, 1, none⟩ = some (.int .i64 a0_1) := (blk_cell BK101.out 1).trans rfl; have hfz18_0 := blk_frozen BK101.out 0; have hfz18_1 := blk_frozen BK101.out 1) | ((with_reducible refine gate_callee (f := 72) rfl ?_); refine goesL_ (some 17) rfl rfl Try.func72 (by kernel_rfl) rfl #[.int .i64 a0_0, .int .i64 a1, .int .i64 a2] rfl (by (try simp only [List.map_toArray, List.map_cons, List.map_nil]); first | done | rfl | (simp only [List.length_drop, List.length_take]; rfl)) ?_; (with_reducible refine (round_Shift.calls a0_0 a1 a2 t103 t104 _ A4.out).mono ?_); rintro e w19 ⟨rfl, hb⟩; refine ⟨_, rfl, ?_⟩; have n0_ := Aside0.mk (blk_below (g := gb101) (o := .cells #[.int .i64 a0_0, .int .i64 a0_1] 43 (0, 0)) (by (with_reducible repeat (first | refine blk_drewN ?_ _ | refine blk_drew ?_ | refine blk_alloc ?_ _)); exact BK101.out) hb); have n1_ := Aside0.mk (blk_below (g := gb102) (o := .cells #[.int .i64 0, .int .i64 0] 43 (0, 0)) (by (with_reducible repeat (first | refine blk_drewN ?_ _ | refine blk_drew ?_ | refine blk_alloc ?_ _)); exact BK102.out) hb); have n2_ := Aside0.mk (below_step (by repeat (first | (with_reducible first | exact HB.out | apply below_alloc | apply pw_below_drewN | apply below_drew1 | refine below_set ?_ GE101.out | refine below_set ?_ GE102.out) | exact HB.out)) hb); clear BK101; clear BK102; clear HB; have BK101 := n0_; have BK102 := n1_; have HB := n2_; clear n0_ n1_ n2_; (try clear hb); (try clear hb2); (try clear hk); (try clear hi); have hcz20_0 : w19.cell? ⟨gb102, 0, none⟩ = some (.int .i64 0) := (blk_cell BK102.out 0).trans rfl; have hcz20_1 : w19.cell? ⟨gb102, 1, none⟩ = some (.int .i64 0) := (blk_cell BK102.out 1).trans rfl; have hfz20_0 := blk_frozen BK102.out 0; have hfz20_1 := blk_frozen BK102.out 1))
    refine bodyPost_ret (results_ct rfl _ _ gb102 43 #[.int .i64 0, .int .i64 0] (0, 0) _ rfl (by (with_reducible repeat (first | refine blk_drewN ?_ _ | refine blk_drew ?_ | refine blk_alloc ?_ _)); refine blk_put (cs := #[.int .i64 0, .int .i64 0]) ?_ 1 _ rfl; (with_reducible repeat (first | refine blk_drewN ?_ _ | refine blk_drew ?_ | refine blk_alloc ?_ _)); refine blk_put (cs := #[.int .i64 0, .int .i64 0]) ?_ 0 _ rfl; (with_reducible repeat (first | refine blk_drewN ?_ _ | refine blk_drew ?_ | refine blk_alloc ?_ _)); exact BK102.out) Try.underlying43 rfl (by kernel_rfl)) rfl ?_
    exact ⟨by first | rfl | (simp [errW_none, errW_some] <;> rfl) | (simp [*, errW_none, errW_some] <;> rfl), by repeat (first | (with_reducible first | exact HB.out | apply below_alloc | apply pw_below_drewN | apply below_drew1 | refine below_set ?_ GE101.out | refine below_set ?_ GE102.out) | exact HB.out)⟩

end Go.Proofs.Ytmglkelmdcpinaa.G
/- The contract of the function cx_Turn_1 (number 107 of the translation): what its call computes, as a plain Lean function; memory that was there stays as it was. Conditions: none beyond the theorem's own. Written by a program (gprint.py). -/
namespace Go.Proofs.Ytmglkelmdcpinaa.G
open Go.RowKit Go.Proofs.YtmglkelmdcpinaaW.PrintWords Go.Proofs.YtmglkelmdcpinaaW.PrintLast Go.Proofs.YtmglkelmdcpinaaW.PrintMore
attribute [local go_sem] max2_int min2_int max_two min_two max_three min_three max_four min_four   -- for this text's walks alone
set_option linter.unusedVariables false
set_option linter.unusedSimpArgs false

/-! ### cx_Turn_1: function 107 -/
def turnIt : Nat → Int → Int → Int × Int
  | 0, x, y => (x, y)
  | k + 1, x, y => (wrap64 (-(turnIt k x y).2), (turnIt k x y).1)
set_option maxHeartbeats 2000000 in
theorem cx_Turn1.calls (A B : Nat) (x y n : Int) (c : Nat) (hc3 : c ≤ 3) (w : World) (hne : A ≠ B) (hn : bits BinOp.and IntKind.i64 n 3 = (c : Int)) (ha : w.heap[A]? = some (.cells #[.int .i64 n] 3 (0, 0))) (hb : w.heap[B]? = some (.cells #[.int .i64 x, .int .i64 y] 43 (0, 0))) :
    Calls Try.prog 107 #[.pointer (some ⟨A, 0, none⟩), .pointer (some ⟨B, 0, none⟩)] w fun e w' => e = .returned (.agg #[.int .i64 (turnIt c x y).1, .int .i64 (turnIt c x y).2]) ∧ w.grownBy w' (some B) := by
  have l0 := blk_lt hb
  have l1 := blk_lt ha
  have c2 : w.cell? ⟨A, 0, none⟩ = some (.int .i64 n) := (blk_cell ha 0).trans rfl
  have HA := Aside0.mk ha
  have HB := Aside0.mk hb
  have HNE := Aside0.mk hne
  clear ha hb hne
  go_enter Try.func107, Try.ntmps107
  go_wp2_with (fail)
  go_loopw [5] (fun v wr => ∃ k : Nat, k ≤ c ∧ v = .int .i64 k ∧ Aside0 (wr.heap[B]? = some (.cells #[.int .i64 (turnIt k x y).1, .int .i64 (turnIt k x y).2] 43 (0, 0))) ∧ Aside0 (wr.heap[w.heap.size]? = some (.cells #[.int .i64 0, .int .i64 0] 43 (0, 0))) ∧ Aside0 (w.grownBy wr (some B))) (fun v _ => c - (intOf v).toNat)
  case atStart => exact ⟨0, by omega, rfl, ⟨blk_alloc HB.out _⟩, ⟨blk_new _ _⟩, ⟨World.grownBy_alloc _ _ _⟩⟩
  case round =>
    obtain ⟨k, hk, rfl, BB, BR, BG⟩ := hrel
    have HT : Aside0 (turnIt (k + 1) x y = (wrap64 (-(turnIt k x y).2), (turnIt k x y).1)) := ⟨rfl⟩
    generalize ht : turnIt k x y = t at BB HT
    obtain ⟨t1, t2⟩ := t
    have HTT := Aside0.mk ht
    clear ht
    have c0 : wr.cell? ⟨B, 0, none⟩ = some (.int .i64 t1) := (blk_cell BB.out 0).trans rfl
    have c1 : wr.cell? ⟨B, 1, none⟩ = some (.int .i64 t2) := (blk_cell BB.out 1).trans rfl
    by_cases hlt : k < c
    · have f0 := blk_frozen BB.out 0
      have f1 := blk_frozen BB.out 1
      have g1 : (k : Int) < (c : Int) := by omega
      go_wp2_with (fail)
      go_roundw
      case rel =>
        refine ⟨k + 1, by omega, by go_num, ?_, ⟨blk_far (blk_far BR.out (by simp; omega) _) (by simp; omega) _⟩, ⟨grown_at (grown_at BG.out rfl _) rfl _⟩⟩
        rw [HT.out]
        exact ⟨blk_put (blk_put BB.out 0 _ rfl) 1 _ rfl⟩
      case measure => simp [intOf]; omega
    · have g1 : ¬ (k : Int) < (c : Int) := by omega
      have d0 : wr.cell? ⟨w.heap.size, 0, none⟩ = some (.int .i64 0) := (blk_cell BR.out 0).trans rfl
      have d1 : wr.cell? ⟨w.heap.size, 1, none⟩ = some (.int .i64 0) := (blk_cell BR.out 1).trans rfl
      have f0 := blk_frozen BR.out 0
      have f1 := blk_frozen BR.out 1
      obtain rfl : k = c := by omega
      go_wp2_with (fail)
      refine bodyPost_ret (v := .agg #[.int .i64 t1, .int .i64 t2]) (by simp [results, Try.results107, go_sem, d0, d1]) rfl ⟨by rw [HTT.out], grown_set (grown_set BG.out (Nat.le_refl _) _) (Nat.le_refl _) _⟩

end Go.Proofs.Ytmglkelmdcpinaa.G
/- The contract of the function cx_Turn (number 40 of the translation): what its call computes, as a plain Lean function; memory that was there stays as it was. Conditions: none beyond the theorem's own. Written by a program (gprint.py). -/
namespace Go.Proofs.Ytmglkelmdcpinaa.G
open Go.RowKit Go.Proofs.YtmglkelmdcpinaaW.PrintWords Go.Proofs.YtmglkelmdcpinaaW.PrintLast Go.Proofs.YtmglkelmdcpinaaW.PrintMore
attribute [local go_sem] max2_int min2_int max_two min_two max_three min_three max_four min_four   -- for this text's walks alone
set_option linter.unusedVariables false
set_option linter.unusedSimpArgs false

/-! ### cx_Turn: function 40 -/
def cx_Turn.c (n : Int) : Nat := (n % 4).toNat
def cx_Turn.f (a0_0 a0_1 a1 : Int) : Option (Int × Int × Int) := if within 2305843009213693952 [⟨a0_0, a0_1⟩] = true then some ((turnIt (cx_Turn.c a1) a0_0 a0_1).1, (turnIt (cx_Turn.c a1) a0_0 a0_1).2, 0) else some (0, 0, 2)
set_option maxHeartbeats 2000000 in
theorem cx_Turn.calls (a0_0 : Int) (a0_1 : Int) (a1 : Int) (r1 : Int) (r2 : Int) (r3 : Int) (w : World) (h : cx_Turn.f a0_0 a0_1 a1 = some (r1, r2, r3)) :
    Calls Try.prog 40 #[.agg #[.int .i64 a0_0, .int .i64 a0_1], .int .i64 a1] w fun e w' => e = .returned (.tuple #[.agg #[.int .i64 r1, .int .i64 r2], .int .i64 r3]) ∧ Below w.heap.size w w' := by
  have HV := Aside0.mk (cx_within.val 2305843009213693952 (by unfold wrap64; omega) [⟨a0_0, a0_1⟩] (by simp))
  have HM : Aside0 (bits BinOp.and IntKind.i64 a1 3 = (cx_Turn.c a1 : Int)) := ⟨by have := M.and_mask a1 2 (by decide); rw [show (2 : Int) ^ 2 - 1 = 3 from rfl] at this; rw [this]; unfold cx_Turn.c; omega⟩
  have HC : Aside0 (cx_Turn.c a1 ≤ 3) := ⟨by unfold cx_Turn.c; omega⟩
  unfold cx_Turn.f at h
  generalize cx_Turn.c a1 = c at h HM HC
  cases hq : within 2305843009213693952 [⟨a0_0, a0_1⟩] with
  | true =>
    rw [hq] at h HV
    simp only [if_true, Option.some.injEq, Prod.mk.injEq] at h
    obtain ⟨rfl, rfl, rfl⟩ := h
    clear hq
    generalize ht : turnIt c a0_0 a0_1 = t
    have HT := Aside0.mk ht
    clear ht
    obtain ⟨t1, t2⟩ := t
    go_enter Try.func40, Try.ntmps40
    go_wp2_with (fail)
    refine (cx_within.calls _ _ _ _ [⟨a0_0, a0_1⟩] true _ (C_lit_cx _ _ (by simp) ?_) (by simp) HV.out).mono ?_
    · intro j hj
      match j, hj with
      | 0, _ => simp [go_sem]
    rintro e w1 ⟨rfl, hb⟩
    have e1 := blk_new (w.alloc (.cells #[.int .i64 a0_0, .int .i64 a0_1] 43)) (.cells #[.int .i64 a1] 3)
    have e2 := blk_new ((w.alloc (.cells #[.int .i64 a0_0, .int .i64 a0_1] 43)).alloc (.cells #[.int .i64 a1] 3)) (.cells #[.int .i64 0, .int .i64 0] 43)
    simp only [World.size_alloc] at e1 e2
    have HB0 := Aside0.mk (blk_below (blk_alloc (blk_alloc (blk_alloc (blk_new w (.cells #[.int .i64 a0_0, .int .i64 a0_1] 43)) _) _) _) hb)
    have HB1 := Aside0.mk (blk_below (blk_alloc (blk_alloc e1 _) _) hb)
    have HB2 := Aside0.mk (blk_below (blk_alloc e2 _) hb)
    have HW := Aside0.mk (below_then (below_alloc (below_alloc (below_alloc (below_alloc (Below.refl _ _) _) _) _) _) (by simp <;> omega) hb : Below w.heap.size w w1)
    clear hb e1 e2 HV
    go_wp2_with (fail)
    refine (cx_made.yes 107 #[.pointer (some ⟨w.heap.size + 1, 0, none⟩), .pointer (some ⟨w.heap.size, 0, none⟩)] t1 t2 (some w.heap.size) w1 (enters_of Try.func107 (by kernel_rfl) rfl) ?_ ?_).mono ?_
    · refine (cx_Turn1.calls (w.heap.size + 1) w.heap.size a0_0 a0_1 a1 c HC.out _ (by omega) HM.out (blk_alloc HB1.out _) (blk_alloc HB0.out _)).mono ?_
      rintro e w' ⟨rfl, hb⟩
      rw [HT.out]
      exact ⟨rfl, hb⟩
    · intro r hr
      cases hr
      exact blk_lt HB0.out
    rintro e w2 ⟨rfl, hg⟩
    have B1 := blk_grown HB2.out hg (by simp <;> omega)
    have c0 : w2.cell? ⟨w.heap.size + 1 + 1, 0, none⟩ = some (.int .i64 0) := (blk_cell B1 0).trans rfl
    have c1 : w2.cell? ⟨w.heap.size + 1 + 1, 1, none⟩ = some (.int .i64 0) := (blk_cell B1 1).trans rfl
    have f0 := blk_frozen B1 0
    have f1 := blk_frozen B1 1
    have HW2 := Aside0.mk (HW.out.grown hg HW.out.size (by simp))
    clear hg B1 HB0 HB1 HB2 HW
    go_wp2
    refine bodyPost_ret (v := .tuple #[.agg #[.int .i64 t1, .int .i64 t2], .int .i64 0]) (by simp [results, Try.results40, go_sem, c0, c1]) rfl ⟨rfl, ?_⟩
    refine below_set (below_set HW2.out ?_) ?_ <;> omega
  | false =>
    rw [hq] at h HV
    simp only [Bool.false_eq_true, if_false, Option.some.injEq, Prod.mk.injEq] at h
    obtain ⟨rfl, rfl, rfl⟩ := h
    clear hq
    go_enter Try.func40, Try.ntmps40
    go_wp2_with (fail)
    refine (cx_within.calls _ _ _ _ [⟨a0_0, a0_1⟩] false _ (C_lit_cx _ _ (by simp) ?_) (by simp) HV.out).mono ?_
    · intro j hj
      match j, hj with
      | 0, _ => simp [go_sem]
    rintro e w1 ⟨rfl, hb⟩
    have e2 := blk_new ((w.alloc (.cells #[.int .i64 a0_0, .int .i64 a0_1] 43)).alloc (.cells #[.int .i64 a1] 3)) (.cells #[.int .i64 0, .int .i64 0] 43)
    simp only [World.size_alloc] at e2
    have HB2 := Aside0.mk (blk_below (blk_alloc e2 _) hb)
    have HW := Aside0.mk (below_then (below_alloc (below_alloc (below_alloc (below_alloc (Below.refl _ _) _) _) _) _) (by simp <;> omega) hb : Below w.heap.size w w1)
    clear hb e2 HV
    go_wp2_with (fail)
    refine (cx_made.no 107 _ w1).mono ?_
    rintro e w2 ⟨rfl, hb⟩
    have B1 := blk_below HB2.out hb
    have c0 : w2.cell? ⟨w.heap.size + 1 + 1, 0, none⟩ = some (.int .i64 0) := (blk_cell B1 0).trans rfl
    have c1 : w2.cell? ⟨w.heap.size + 1 + 1, 1, none⟩ = some (.int .i64 0) := (blk_cell B1 1).trans rfl
    have f0 := blk_frozen B1 0
    have f1 := blk_frozen B1 1
    have HW2 := Aside0.mk (below_step HW.out hb)
    clear hb B1 HB2 HW
    go_wp2
    refine bodyPost_ret (v := .tuple #[.agg #[.int .i64 0, .int .i64 0], .int .i64 2]) (by simp [results, Try.results40, go_sem, c0, c1]) rfl ⟨rfl, ?_⟩
    refine below_set (below_set HW2.out ?_) ?_ <;> omega

end Go.Proofs.Ytmglkelmdcpinaa.G
/- The contract of the function round_Div (number 180 of the translation): what its call computes, as a plain Lean function; memory that was there stays as it was. Conditions: none beyond the theorem's own. Written by a program (gprint.py). -/
namespace Go.Proofs.Ytmglkelmdcpinaa.G
open Go.RowKit Go.Proofs.YtmglkelmdcpinaaW.PrintWords Go.Proofs.YtmglkelmdcpinaaW.PrintLast Go.Proofs.YtmglkelmdcpinaaW.PrintMore
attribute [local go_sem] max2_int min2_int max_two min_two max_three min_three max_four min_four   -- for this text's walks alone
set_option linter.unusedVariables false
set_option linter.unusedSimpArgs false

/-! ### round_Div: function 180 -/
def round_Div.f (a0 : Int) (a1 : Int) : Option (Int × Int) := if a1 < 1 then (some (0, 1)) else (if a1 = 0 then (none) else (if (Int.tmod a0 a1) < 0 then (some (wrap64 ((wrap64 (Int.tdiv a0 a1)) - 1), 0)) else (some (wrap64 (Int.tdiv a0 a1), 0))))
set_option maxHeartbeats 8000000 in
set_option maxRecDepth 100000 in
theorem round_Div.calls (a0 : Int) (a1 : Int) (r1 : Int) (r2 : Int) (w : World) (h : round_Div.f a0 a1 = some (r1, r2)) :
    Calls Try.prog 180 #[.int .i64 a0, .int .i64 a1] w fun e w' => e = .returned (.tuple #[.int .i64 r1, .int .i64 r2]) ∧ Drawn0 w w' := by
  have H : (if a1 < 1 then (some (0, 1)) else (if a1 = 0 then (none) else (if (Int.tmod a0 a1) < 0 then (some (wrap64 ((wrap64 (Int.tdiv a0 a1)) - 1), 0)) else (some (wrap64 (Int.tdiv a0 a1), 0))))) = some (r1, r2) := h
  clear h
  by_cases c3 : a1 < 1
  · rw [if_pos c3] at H
    have c3b0 : decide (a1 < 1) = true := decide_eq_true c3
    clear c3
    simp only [Option.some.injEq, Prod.mk.injEq] at H
    obtain ⟨rfl, rfl⟩ := H
    go_enter Try.func180, Try.ntmps180
    go_wp2
    go_ret2
    exact ⟨by first | rfl | (simp; done) | (simp [*]; done), by repeat (first | exact Drawn0.refl _ | apply Drawn0.step)⟩
  · rw [if_neg c3] at H
    have c3b0 : decide (a1 < 1) = false := decide_eq_false c3
    clear c3
    by_cases c4 : a1 = 0
    · rw [if_pos c4] at H
      exact absurd H (by simp)
    · rw [if_neg c4] at H
      have c4b0 : (a1 == 0) = false := beq_eq_false_iff_ne.mpr c4
      have c4b1 : (a1 != 0) = true := bne_iff_ne.mpr c4
      by_cases c5 : (Int.tmod a0 a1) < 0
      · rw [if_pos c5] at H
        have c5b0 : decide ((Int.tmod a0 a1) < 0) = true := decide_eq_true c5
        clear c5
        simp only [Option.some.injEq, Prod.mk.injEq] at H
        obtain ⟨rfl, rfl⟩ := H
        go_enter Try.func180, Try.ntmps180
        go_wp2
        go_ret2
        exact ⟨by first | rfl | (simp; done) | (simp [*]; done), by repeat (first | exact Drawn0.refl _ | apply Drawn0.step)⟩
      · rw [if_neg c5] at H
        have c5b0 : decide ((Int.tmod a0 a1) < 0) = false := decide_eq_false c5
        clear c5
        simp only [Option.some.injEq, Prod.mk.injEq] at H
        obtain ⟨rfl, rfl⟩ := H
        go_enter Try.func180, Try.ntmps180
        go_wp2
        go_ret2
        exact ⟨by first | rfl | (simp; done) | (simp [*]; done), by repeat (first | exact Drawn0.refl _ | apply Drawn0.step)⟩

end Go.Proofs.Ytmglkelmdcpinaa.G
/- The contract of the function arc_div (number 199 of the translation): what its call computes, as a plain Lean function; memory that was there stays as it was. Conditions: none beyond the theorem's own. Written by a program (gprint.py). -/
namespace Go.Proofs.Ytmglkelmdcpinaa.G
open Go.RowKit Go.Proofs.YtmglkelmdcpinaaW.PrintWords Go.Proofs.YtmglkelmdcpinaaW.PrintLast Go.Proofs.YtmglkelmdcpinaaW.PrintMore
attribute [local go_sem] max2_int min2_int max_two min_two max_three min_three max_four min_four   -- for this text's walks alone
set_option linter.unusedVariables false
set_option linter.unusedSimpArgs false

/-! ### arc_div: function 199 -/
def arc_div.f (a0 : Int) (a1 : Int) : Option (Int) := (round_Div.f a0 a1).bind fun bt101 => (some bt101.1)
set_option maxHeartbeats 8000000 in
set_option maxRecDepth 100000 in
theorem arc_div.calls (a0 : Int) (a1 : Int) (r : Int) (w : World) (h : arc_div.f a0 a1 = some r) :
    Calls Try.prog 199 #[.int .i64 a0, .int .i64 a1] w fun e w' => e = .returned (.int .i64 r) ∧ Drawn0 w w' := by
  have H : ((round_Div.f a0 a1).bind fun bt101 => (some bt101.1)) = some r := h
  clear h
  replace H := Option.bind_eq_some_iff.mp H
  obtain ⟨⟨t101, t102⟩, A30, H⟩ := H
  replace H : (some t101) = some r := H
  have A3 := Aside0.mk A30
  clear A30
  obtain rfl := Option.some.inj H
  go_enter Try.func199, Try.ntmps199
  go_wp2_with (first | ((with_reducible refine gate_callee (f := 180) rfl ?_); refine goesL_ (some 10) rfl rfl Try.func180 (by kernel_rfl) rfl #[.int .i64 a0, .int .i64 a1] rfl (by (try simp only [List.map_toArray, List.map_cons, List.map_nil]); first | done | rfl | (simp only [List.length_drop, List.length_take]; rfl)) ?_; (with_reducible refine (round_Div.calls a0 a1 t101 t102 _ A3.out).mono ?_); rintro e w' ⟨rfl, ⟨nd, rfl⟩⟩; refine ⟨_, rfl, ?_⟩))
  go_ret
  exact ⟨by first | rfl | (simp; done) | (simp [*]; done), by repeat (first | exact Drawn0.refl _ | apply Drawn0.step)⟩

end Go.Proofs.Ytmglkelmdcpinaa.G
/- The contract of the function arc_terms_1 (number 198 of the translation): what its call computes, as a plain Lean function; memory that was there stays as it was. Conditions: none beyond the theorem's own. Written by a program (gprint.py). -/
namespace Go.Proofs.Ytmglkelmdcpinaa.G
open Go.RowKit Go.Proofs.YtmglkelmdcpinaaW.PrintWords Go.Proofs.YtmglkelmdcpinaaW.PrintLast Go.Proofs.YtmglkelmdcpinaaW.PrintMore
attribute [local go_sem] max2_int min2_int max_two min_two max_three min_three max_four min_four   -- for this text's walks alone
set_option linter.unusedVariables false
set_option linter.unusedSimpArgs false

/-! ### arc_terms_1: function 198 -/
/-- The terms of a number's series, from a sign, an odd number and a power on; at most k of them. -/
def arcGo (n : Int) : Nat → Int → Int → Int → List Int
  | 0, _, _, _ => []
  | k + 1, s, o, p => if 0 < p then wrap64 (s * (p / o)) :: arcGo n k (wrap64 (-s)) (wrap64 (o + 2)) (p / n / n) else []
def arcList (n : Int) : List Int := arcGo n 60 1 1 (72057594037927936 / n)
theorem arc_div_pos (x d : Int) (hx : 0 ≤ x) (hx1 : x ≤ 72057594037927936) (hd : 1 ≤ d) : arc_div.f x d = some (x / d) := by
  have h0 : 0 ≤ x / d := Int.ediv_nonneg hx (by omega)
  have h1 : x / d ≤ x := Int.ediv_le_self d hx
  have ht : x.tdiv d = x / d := Int.tdiv_eq_ediv_of_nonneg hx
  have hm : 0 ≤ x.tmod d := Int.tmod_nonneg d hx
  unfold arc_div.f round_Div.f
  rw [if_neg (by omega), if_neg (by omega), if_neg (by omega), ht, M.wrap64_id (by omega) (by omega)]
  rfl
def KeepB (b : Nat) (W W' : World) : Prop := ∀ c t fr, W.heap[b]? = some (.cells c t fr) → W'.heap[b]? = some (.cells c t fr)
theorem keepB_t {b : Nat} {A B C : World} (h : KeepB b A B) (k : KeepB b B C) : KeepB b A C := fun c t fr hc => k c t fr (h c t fr hc)
theorem keepB_b {b : Nat} {w : World} (W : World) (l : Nat) (o o' : Obj) (_ : w.heap.size ≤ l) (h : W.heap[l]? = some o) (ho : o.isCells = false) (_ : o.isWalk = false) : KeepB b W (W.putObj l o') := by
  intro c t fr hc
  have hne : b ≠ l := by
    rintro rfl
    rw [h] at hc
    cases hc
    simp [Obj.isCells] at ho
  exact (blk_grown hc (grownBy_putObj' W l o') (by simpa using hne))
theorem keepB_below {b B : Nat} {W W' : World} (h : Below B W W') (hb : b < B) : KeepB b W W' := fun c t fr hc => (h.block b hb).trans hc
theorem drawn_quiet {f : FuncId} {args : Array Value} {w : World} {n : Nat} {v v' : Value} (h : Calls Try.prog f args (w.drewN n) fun e w' => e = .returned v ∧ Drawn0 (w.drewN n) w') (hv : v = v' := by rfl) : Calls Try.prog f args (w.drewN n) fun e w'' => e = .returned v' ∧ ∃ m, w'' = w.drewN m := by
  subst hv
  refine h.mono ?_
  rintro e w' ⟨he, ⟨m, hm⟩⟩
  exact ⟨he, n + m, by rw [hm, World.drewN_drewN]⟩
set_option maxHeartbeats 2000000 in
theorem arc_terms1.stops (m : Nat) (hm : 1 ≤ m) (n : Int) (hn : 2 ≤ n) (Bn : Nat) (w : World) (hb : w.heap[Bn]? = some (.cells #[.int .i64 n] 3 (0, 0))) :
    SeqStopsK Fence.wide m Try.prog 198 #[.pointer (some ⟨Bn, 0, none⟩)] (fun x : Int => #[.int .i64 x]) (KeepB Bn) (fun xs => xs = arcList n) (fun _ => True) 1000 w := fun l J Jx W hW hJ hJx hY h0 => by
  have hbW := blk_below hb hW
  have c0 : W.cell? ⟨Bn, 0, none⟩ = some (.int .i64 n) := (blk_cell hbW 0).trans rfl
  have HBW := Aside0.mk hbW
  have HY := Aside0.mk hY
  have HJ := Aside0.mk h0
  have hp0 : 0 ≤ 72057594037927936 / n := Int.ediv_nonneg (by decide) (by omega)
  have hp1 : 72057594037927936 / n ≤ 72057594037927936 := Int.ediv_le_self n (by decide)
  have D0 : Aside0 (arc_div.f 72057594037927936 n = some (72057594037927936 / n)) := ⟨arc_div_pos _ _ (by decide) (by decide) (by omega)⟩
  have HJA := Aside0.mk hJ
  clear hb hbW hY h0 hW hJ hJx
  refine callsIn_of_wp Try.func198 rfl trivial ?_ rfl
  simp only [Try.ntmps198, List.size_toArray, List.length_cons, List.length_nil, Nat.reduceAdd, Nat.reduceSub, Array.replicate_succ, Array.replicate_zero, List.push_toArray, List.append_toArray, List.nil_append, List.cons_append]
  gi_wp2_with (fail)
  refine ⟨trivial, (callsIn_wide.2 (arc_div.calls _ n _ W D0.out)).mono ?_⟩
  rintro e w1 ⟨rfl, hd⟩
  have HB1 := Aside0.mk (blk_below HBW.out hd.below)
  have HJ1 := Aside0.mk (HJA.out _ _ _ none HJ.out (grown_of_below hd.below none) (by simp))
  clear hd HJ c0
  gi_wp2_with (fail)
  gi_loopw [3, 4, 5] (fun s o p wr => ∃ (S O p' : Int) (K : Nat) (pre : List Int), s = .int .i64 S ∧ o = .int .i64 O ∧ p = .int .i64 p' ∧ 0 ≤ p' ∧ p' ≤ 72057594037927936 ∧ 1 ≤ O ∧ O ≤ 1000 - 2 * K ∧ K ≤ 60 ∧ pre.length + K ≤ 60 ∧ Aside0 (p' < 2 ^ K) ∧ Aside0 (arcList n = pre ++ arcGo n K S O p') ∧ Aside0 (wr.heap[Bn]? = some (.cells #[.int .i64 n] 3 (0, 0))) ∧ Aside0 (J pre wr)) (fun _ _ p _ => (intOf p).toNat)
  case atStart =>
    have h60 : 72057594037927936 / n < 2 ^ 60 := by
      have : (2 : Int) ^ 60 = 1152921504606846976 := by decide
      omega
    exact ⟨1, 1, _, 60, [], rfl, rfl, rfl, hp0, hp1, by omega, by omega, by omega, by simp, ⟨h60⟩, ⟨rfl⟩, HB1, HJ1⟩
  case round =>
    obtain ⟨S, O, p', K, pre, rfl, rfl, rfl, q0, q1, q2, q3, q4, q5, HK, HL, HB, HJ⟩ := hrel
    have c0 : wr.cell? ⟨Bn, 0, none⟩ = some (.int .i64 n) := (blk_cell HB.out 0).trans rfl
    by_cases hpos : 0 < p'
    · obtain ⟨K, rfl⟩ : ∃ k, K = k + 1 := ⟨K - 1, by have := HK.out; rcases K with _ | K; simp at this; omega; omega⟩
      have r0 : 0 ≤ p' / n := Int.ediv_nonneg q0 (by omega)
      have r1 : p' / n ≤ p' / 2 := by
        apply Int.le_ediv_of_mul_le (by decide)
        have := Int.mul_ediv_self_le (x := p') (k := n) (by omega)
        have h2 : p' / n * 2 ≤ n * (p' / n) := by rw [Int.mul_comm]; exact Int.mul_le_mul_of_nonneg_right hn r0
        omega
      have r2 : 0 ≤ p' / n / n := Int.ediv_nonneg r0 (by omega)
      have r3 : p' / n / n ≤ p' / n := Int.ediv_le_self n r0
      have HK2 : Aside0 (p' / n / n < 2 ^ K) := ⟨by have := HK.out; rw [Int.pow_succ] at this; omega⟩
      have D1 : Aside0 (arc_div.f p' O = some (p' / O)) := ⟨arc_div_pos _ _ q0 q1 q2⟩
      have D2 : Aside0 (arc_div.f p' n = some (p' / n)) := ⟨arc_div_pos _ _ q0 q1 (by omega)⟩
      have D3 : Aside0 (arc_div.f (p' / n) n = some (p' / n / n)) := ⟨arc_div_pos _ _ r0 (by omega) (by omega)⟩
      have HL2 : Aside0 (arcList n = (pre ++ [wrap64 (S * (p' / O))]) ++ arcGo n K (wrap64 (-S)) (wrap64 (O + 2)) (p' / n / n)) := ⟨by rw [HL.out]; simp [arcGo, hpos]⟩
      have hO : wrap64 (O + 2) = O + 2 := M.wrap64_id (by omega) (by omega)
      rw [hO] at HL2
      clear hO HL
      have hmeas : (p' / n / n).toNat < p'.toNat := by omega
      gi_wp2_with (fail)
      refine ⟨trivial, (callsIn_wide.2 (arc_div.calls _ _ _ _ D1.out)).mono ?_⟩
      rintro e w2 ⟨rfl, hd⟩
      have HB2 := Aside0.mk (blk_below HB.out hd.below)
      have HJ2 := Aside0.mk (HJA.out _ _ _ none HJ.out (grown_of_below hd.below none) (by simp))
      clear hd c0 HB HJ
      obtain ⟨fn, tmps, assign, body, hy, hR⟩ := HY.out pre (wrap64 (S * (p' / O))) w2 HJ2.out (by omega)
      have HR := Aside0.mk hR
      clear hR
      gi_wp2_with (fail)
      refine HR.out.mono ?_
      rintro e W3 (⟨rfl, hJ3, hk3⟩ | ⟨rfl, hJx3⟩)
      · have HB3 := Aside0.mk (hk3 _ _ _ HB2.out)
        have HJ3 := Aside0.mk hJ3
        have c0 : W3.cell? ⟨Bn, 0, none⟩ = some (.int .i64 n) := (blk_cell HB3.out 0).trans rfl
        clear hk3 hJ3 hy HR HB2 HJ2
        gi_wp2_with (fail)
        refine wpIn_wide.2 ?_
        go_quiet ((first | exact drawn_quiet (arc_div.calls _ _ _ _ D2.out) | exact drawn_quiet (arc_div.calls _ _ _ _ D3.out)))
        have HB4 := Aside0.mk (blk_drewN HB3.out nq)
        go_at_K
        go_roundw
        case rel =>
          refine ⟨_, _, _, _, _, _, _, _, _, _, _, _, _, _, _, _, _, _, _, _, _, _, ?_, rfl⟩
          exact ⟨_, _, _, K, pre ++ [wrap64 (S * (p' / O))], rfl, rfl, rfl, r2, by omega, by omega, by omega, by omega, by simp; omega, HK2, HL2, HB4, ⟨HJA.out _ _ _ none HJ3.out (grown_of_below (pw_below_drewN (Below.refl _ _) _) none) (by simp)⟩⟩
        case measure => simp only [intOf, List.getD_eq_getElem?_getD, Array.getD]; first | exact hmeas | (simp [intOf]; exact hmeas) | trace_state
      · gi_wp2
        refine bodyPost_ret (results_none rfl _ _ _) rfl ?_
        exact ⟨⟨_, rfl⟩, .inr ⟨_, trivial, hJx3⟩⟩
    · have hz : p' = 0 := by omega
      have HE : Aside0 (arcList n = pre) := ⟨by rw [HL.out, hz]; cases K <;> simp [arcGo]⟩
      gi_wp2
      go_end0
      exact ⟨⟨_, rfl⟩, .inl (by rw [HE.out]; exact HJ.out)⟩

end Go.Proofs.Ytmglkelmdcpinaa.G
/- The contract of the function arc_terms (number 195 of the translation): what its call computes, as a plain Lean function; memory that was there stays as it was. Conditions: none beyond the theorem's own. Written by a program (gprint.py). -/
namespace Go.Proofs.Ytmglkelmdcpinaa.G
open Go.RowKit Go.Proofs.YtmglkelmdcpinaaW.PrintWords Go.Proofs.YtmglkelmdcpinaaW.PrintLast Go.Proofs.YtmglkelmdcpinaaW.PrintMore
attribute [local go_sem] max2_int min2_int max_two min_two max_three min_three max_four min_four   -- for this text's walks alone
set_option linter.unusedVariables false
set_option linter.unusedSimpArgs false

/-! ### arc_terms: function 195 -/
theorem arc_terms.calls (n : Int) (w : World) : Calls Try.prog 195 #[.int .i64 n] w fun e w' => e = .returned (.func (.func 198) #[] #[.pointer (some ⟨w.heap.size, 0, none⟩)]) ∧ w' = w.alloc (.cells #[.int .i64 n] 3) := by
  go_enter Try.func195, Try.ntmps195
  go_wp2
  go_ret
  exact ⟨rfl, rfl⟩

end Go.Proofs.Ytmglkelmdcpinaa.G
/- The contract of the function arc_sum (number 190 of the translation): what its call computes, as a plain Lean function; memory that was there stays as it was. Conditions: none beyond the theorem's own. Written by a program (gprint.py). -/
namespace Go.Proofs.Ytmglkelmdcpinaa.G
open Go.RowKit Go.Proofs.YtmglkelmdcpinaaW.PrintWords Go.Proofs.YtmglkelmdcpinaaW.PrintLast Go.Proofs.YtmglkelmdcpinaaW.PrintMore
attribute [local go_sem] max2_int min2_int max_two min_two max_three min_three max_four min_four   -- for this text's walks alone
set_option linter.unusedVariables false
set_option linter.unusedSimpArgs false

/-! ### arc_sum: function 190 -/
/-- The sum of numbers, as a machine's adding makes it. -/
def wsum (s : Int) (l : List Int) : Int := l.foldl (fun s x => wrap64 (s + x)) s
theorem wsum_snoc (s : Int) (l : List Int) (x : Int) : wsum s (l ++ [x]) = wrap64 (wsum s l + x) := by simp [wsum]
def arc_sum.f (a0 : Int) : Option Int := if a0 < 2 then none else some (wsum 0 (arcList a0))
attribute [local go_sem] Oper.semAt_some
set_option maxHeartbeats 4000000 in
theorem arc_sum.calls (a0 : Int) (r : Int) (w : World) (h : arc_sum.f a0 = some r) :
    Calls Try.prog 190 #[.int .i64 a0] w fun e w' => e = .returned (.int .i64 r) ∧ Below w.heap.size w w' := by
  have hn : 2 ≤ a0 := by
    unfold arc_sum.f at h; split at h
    · cases h
    · omega
  have hr : wsum 0 (arcList a0) = r := by
    unfold arc_sum.f at h; rw [if_neg (by omega)] at h; exact Option.some.inj h
  clear h
  refine (callsIn_wide (n := 3)).1 ?_
  refine callsIn_of_wp_marks Try.func190 rfl trivial ?_ rfl
  simp only [Try.ntmps190, List.size_toArray, List.length_cons, List.length_nil, Nat.reduceAdd, Nat.reduceSub, Array.replicate_succ, Array.replicate_zero, List.push_toArray, List.append_toArray, List.nil_append, List.cons_append]
  gi_wp2_with (fail)
  refine ⟨trivial, (callsIn_wide.2 (arc_terms.calls a0 _)).mono ?_⟩
  rintro e w1 ⟨rfl, rfl⟩
  gi_wp2_with (fail)
  have hb : ((w.alloc (.cells #[.int .i64 0] 3)).alloc (.cells #[.int .i64 a0] 3)).heap[w.heap.size + 1]? = some (.cells #[.int .i64 a0] 3 (0, 0)) := by
    have := blk_new (w.alloc (.cells #[.int .i64 0] 3)) (.cells #[.int .i64 a0] 3)
    rwa [World.size_alloc] at this
  have hB0 : Below w.heap.size w ((w.alloc (.cells #[.int .i64 0] 3)).alloc (.cells #[.int .i64 a0] 3)) := below_alloc (below_alloc (Below.refl _ _) _) _
  have hA : ((w.alloc (.cells #[.int .i64 0] 3)).alloc (.cells #[.int .i64 a0] 3)).heap[w.heap.size]? = some (.cells #[.int .i64 (wsum 0 [])] 3 (0, 0)) := blk_alloc (blk_new _ _) _
  have hz : ((w.alloc (.cells #[.int .i64 0] 3)).alloc (.cells #[.int .i64 a0] 3)).heap.size = w.heap.size + 2 := by simp
  have HA := Aside0.mk hA
  have HB := Aside0.mk hb
  have H0 := Aside0.mk hB0
  have HZ := Aside0.mk hz
  clear hA hb hB0 hz
  refine wpIn_rangeFunc_ownF rfl (by decide) (gf := 198) (lb := #[.pointer (some ⟨w.heap.size + 1, 0, none⟩)]) rfl trivial (enters_of Try.func198 (by kernel_rfl) rfl)
    (arc_terms1.stops 2 (by decide) a0 hn (w.heap.size + 1) _ HB.out) (fun h k => keepB_t h k) (fun W l o o' hl h ho hk => keepB_b (w := (w.alloc (.cells #[.int .i64 0] 3)).alloc (.cells #[.int .i64 a0] 3)) W l o o' hl h ho hk) (Below.refl _ _) (fun _ => rfl)
    (fun pre W => W.heap[w.heap.size]? = some (.cells #[.int .i64 (wsum 0 pre)] 3 (0, 0)) ∧ Below w.heap.size w W)
    (fun _ _ _ => False)
    (OwnFrom.and (fun s A B row hs hg hr => blk_grown hs hg (by rintro rfl; have := (hr _ rfl).1; rw [HZ.out] at this; omega)) (ownFrom_below (Nat.le_refl _) (by rw [HZ.out]; omega)))
    (fun _ _ _ _ _ hs _ _ => hs)
    ⟨HA.out, H0.out⟩
    (fun x => { tmps := #[.int .i64 a0, undef, .int .i64 0, .pointer (some ⟨w.heap.size, 0, none⟩), .int .i64 x, .int .i64 a0, .func (.func 198) #[] #[.pointer (some ⟨w.heap.size + 1, 0, none⟩)], .int .i64 x, undef, undef, undef, undef], defers := [] }) ?assign ?body ?done ?stop
  case assign =>
    intro l x W K hK
    gi_wp2
    exact hK
  case body =>
    rintro l pre x W ⟨hc, hBl⟩ _
    have c0 := (blk_cell hc 0).trans rfl
    have f0 := blk_frozen hc 0
    have HC := Aside0.mk hc
    have HBl := Aside0.mk hBl
    clear hc hBl
    gi_wp2
    refine ⟨KeepsOthers.setCell _ _ _, fun c t fr hcc => (Below.heap_setCell W _ _ _ (by simp)).trans hcc, ?_, below_set HBl.out (Nat.le_refl _)⟩
    exact blk_put HC.out 0 _ (by rw [wsum_snoc]; rfl)
  case done =>
    rintro D ys W hD rfl ⟨hc, hBl⟩ hK
    rw [hr] at hc
    have c0 := (blk_cell hc 0).trans rfl
    gi_wp2
    refine ⟨by simp, .inl ⟨_, _, rfl, run_takeDeferred hK, ?_⟩⟩
    exact ⟨_, results_tmp rfl _ _ _, rfl, hBl.trans (belowK_b (w := w) (Nat.le_refl _) W D _ _ (by rw [HZ.out] at hD; omega) hK rfl rfl)⟩
  case stop =>
    rintro D c pre W _ _ h _
    exact h.elim

end Go.Proofs.Ytmglkelmdcpinaa.G
/- The contract of the function arc_Quarter (number 183 of the translation): what its call computes, as a plain Lean function; memory that was there stays as it was. Conditions: none beyond the theorem's own. Written by a program (gprint.py). -/
namespace Go.Proofs.Ytmglkelmdcpinaa.G
open Go.RowKit Go.Proofs.YtmglkelmdcpinaaW.PrintWords Go.Proofs.YtmglkelmdcpinaaW.PrintLast Go.Proofs.YtmglkelmdcpinaaW.PrintMore
attribute [local go_sem] max2_int min2_int max_two min_two max_three min_three max_four min_four   -- for this text's walks alone
set_option linter.unusedVariables false
set_option linter.unusedSimpArgs false

/-! ### arc_Quarter: function 183 -/
def arc_Quarter.f  : Option (Int) := (arc_sum.f 2).bind fun t101 => ((arc_sum.f 3).bind fun t102 => (some (wrap64 (t101 + t102))))
set_option maxHeartbeats 8000000 in
set_option maxRecDepth 100000 in
theorem arc_Quarter.calls  (r : Int) (w : World) (h : arc_Quarter.f  = some r) :
    Calls Try.prog 183 #[] w fun e w' => e = .returned (.int .i64 r) ∧ Below w.heap.size w w' := by
  have HB := Aside0.mk (Below.refl w.heap.size w)
  have H : ((arc_sum.f 2).bind fun t101 => ((arc_sum.f 3).bind fun t102 => (some (wrap64 (t101 + t102))))) = some r := h
  clear h
  replace H := Option.bind_eq_some_iff.mp H
  obtain ⟨t101, A10, H⟩ := H
  replace H : ((arc_sum.f 3).bind fun t102 => (some (wrap64 (t101 + t102)))) = some r := H
  have A1 := Aside0.mk A10
  clear A10
  replace H := Option.bind_eq_some_iff.mp H
  obtain ⟨t102, A20, H⟩ := H
  replace H : (some (wrap64 (t101 + t102))) = some r := H
  have A2 := Aside0.mk A20
  clear A20
  obtain rfl := Option.some.inj H
  go_enter Try.func183, Try.ntmps183
  go_wp2_with (first | ((with_reducible refine gate_callee (f := 190) rfl ?_); refine goesL_ (some 1) rfl rfl Try.func190 (by kernel_rfl) rfl #[.int .i64 2] rfl (by (try simp only [List.map_toArray, List.map_cons, List.map_nil]); first | done | rfl | (simp only [List.length_drop, List.length_take]; rfl)) ?_; (with_reducible refine (arc_sum.calls 2 t101 _ A1.out).mono ?_); rintro e w3 ⟨rfl, hb⟩; refine ⟨_, rfl, ?_⟩; have n0_ := Aside0.mk (below_step (by repeat (first | (with_reducible first | exact HB.out | apply below_alloc | apply pw_below_drewN | apply below_drew1) | exact HB.out)) hb); clear HB; have HB := n0_; clear n0_; (try clear hb); (try clear hb2); (try clear hk); (try clear hi)) | ((with_reducible refine gate_callee (f := 190) rfl ?_); refine goesL_ (some 2) rfl rfl Try.func190 (by kernel_rfl) rfl #[.int .i64 3] rfl (by (try simp only [List.map_toArray, List.map_cons, List.map_nil]); first | done | rfl | (simp only [List.length_drop, List.length_take]; rfl)) ?_; (with_reducible refine (arc_sum.calls 3 t102 _ A2.out).mono ?_); rintro e w4 ⟨rfl, hb⟩; refine ⟨_, rfl, ?_⟩; have n0_ := Aside0.mk (below_step (by repeat (first | (with_reducible first | exact HB.out | apply below_alloc | apply pw_below_drewN | apply below_drew1) | exact HB.out)) hb); clear HB; have HB := n0_; clear n0_; (try clear hb); (try clear hb2); (try clear hk); (try clear hi)))
  go_ret
  exact ⟨by first | rfl | (simp [errW_none, errW_some] <;> rfl) | (simp [*, errW_none, errW_some] <;> rfl), by repeat (first | (with_reducible first | exact HB.out | apply below_alloc | apply pw_below_drewN | apply below_drew1) | exact HB.out)⟩

end Go.Proofs.Ytmglkelmdcpinaa.G
/- The contract of the function arc_Arc (number 200 of the translation): what its call computes, as a plain Lean function; memory that was there stays as it was. Conditions: none beyond the theorem's own. Written by a program (gprint.py). -/
namespace Go.Proofs.Ytmglkelmdcpinaa.G
open Go.RowKit Go.Proofs.YtmglkelmdcpinaaW.PrintWords Go.Proofs.YtmglkelmdcpinaaW.PrintLast Go.Proofs.YtmglkelmdcpinaaW.PrintMore
attribute [local go_sem] max2_int min2_int max_two min_two max_three min_three max_four min_four   -- for this text's walks alone
set_option linter.unusedVariables false
set_option linter.unusedSimpArgs false

/-! ### arc_Arc: function 200 -/
def arc_Arc.f (a0 : Int) : Option (Int × Int) := if a0 < 2 then (some (0, 1)) else (if a0 > 17592186044416 then (some (0, 1)) else ((arc_sum.f a0).bind fun t101 => (some (t101, 0))))
set_option maxHeartbeats 8000000 in
set_option maxRecDepth 100000 in
theorem arc_Arc.calls (a0 : Int) (r1 : Int) (r2 : Int) (w : World) (h : arc_Arc.f a0 = some (r1, r2)) :
    Calls Try.prog 200 #[.int .i64 a0] w fun e w' => e = .returned (.tuple #[.int .i64 r1, .int .i64 r2]) ∧ Below w.heap.size w w' := by
  have HB := Aside0.mk (Below.refl w.heap.size w)
  have H : (if a0 < 2 then (some (0, 1)) else (if a0 > 17592186044416 then (some (0, 1)) else ((arc_sum.f a0).bind fun t101 => (some (t101, 0))))) = some (r1, r2) := h
  clear h
  by_cases c2 : a0 < 2
  · rw [if_pos c2] at H
    have c2b0 : decide (a0 < 2) = true := decide_eq_true c2
    clear c2
    simp only [Option.some.injEq, Prod.mk.injEq] at H
    obtain ⟨rfl, rfl⟩ := H
    go_enter Try.func200, Try.ntmps200
    go_wp2
    go_ret2
    exact ⟨by first | rfl | (simp [errW_none, errW_some] <;> rfl) | (simp [*, errW_none, errW_some] <;> rfl), by repeat (first | (with_reducible first | exact HB.out | apply below_alloc | apply pw_below_drewN | apply below_drew1) | exact HB.out)⟩
  · rw [if_neg c2] at H
    have c2b0 : decide (a0 < 2) = false := decide_eq_false c2
    clear c2
    by_cases c3 : a0 > 17592186044416
    · rw [if_pos c3] at H
      have c3b0 : decide (17592186044416 < a0) = true := decide_eq_true c3
      clear c3
      simp only [Option.some.injEq, Prod.mk.injEq] at H
      obtain ⟨rfl, rfl⟩ := H
      go_enter Try.func200, Try.ntmps200
      go_wp2
      go_ret2
      exact ⟨by first | rfl | (simp [errW_none, errW_some] <;> rfl) | (simp [*, errW_none, errW_some] <;> rfl), by repeat (first | (with_reducible first | exact HB.out | apply below_alloc | apply pw_below_drewN | apply below_drew1) | exact HB.out)⟩
    · rw [if_neg c3] at H
      have c3b0 : decide (17592186044416 < a0) = false := decide_eq_false c3
      clear c3
      replace H := Option.bind_eq_some_iff.mp H
      obtain ⟨t101, A40, H⟩ := H
      replace H : (some (t101, 0)) = some (r1, r2) := H
      have A4 := Aside0.mk A40
      clear A40
      simp only [Option.some.injEq, Prod.mk.injEq] at H
      obtain ⟨rfl, rfl⟩ := H
      go_enter Try.func200, Try.ntmps200
      go_wp2_with (first | ((with_reducible refine gate_callee (f := 190) rfl ?_); refine goesL_ (some 11) rfl rfl Try.func190 (by kernel_rfl) rfl #[.int .i64 a0] rfl (by (try simp only [List.map_toArray, List.map_cons, List.map_nil]); first | done | rfl | (simp only [List.length_drop, List.length_take]; rfl)) ?_; (with_reducible refine (arc_sum.calls a0 t101 _ A4.out).mono ?_); rintro e w5 ⟨rfl, hb⟩; refine ⟨_, rfl, ?_⟩; have n0_ := Aside0.mk (below_step (by repeat (first | (with_reducible first | exact HB.out | apply below_alloc | apply pw_below_drewN | apply below_drew1) | exact HB.out)) hb); clear HB; have HB := n0_; clear n0_; (try clear hb); (try clear hb2); (try clear hk); (try clear hi)))
      go_ret2
      exact ⟨by first | rfl | (simp [errW_none, errW_some] <;> rfl) | (simp [*, errW_none, errW_some] <;> rfl), by repeat (first | (with_reducible first | exact HB.out | apply below_alloc | apply pw_below_drewN | apply below_drew1) | exact HB.out)⟩

end Go.Proofs.Ytmglkelmdcpinaa.G
/- The contract of the function gain_angles (number 197 of the translation): what its call computes, as a plain Lean function; memory that was there stays as it was. Conditions: none beyond the theorem's own. Written by a program (gprint.py). -/
namespace Go.Proofs.Ytmglkelmdcpinaa.G
open Go.RowKit Go.Proofs.YtmglkelmdcpinaaW.PrintWords Go.Proofs.YtmglkelmdcpinaaW.PrintLast Go.Proofs.YtmglkelmdcpinaaW.PrintMore
attribute [local go_sem] max2_int min2_int max_two min_two max_three min_three max_four min_four   -- for this text's walks alone
set_option linter.unusedVariables false
set_option linter.unusedSimpArgs false

/-! ### gain_angles: function 197 -/
def ang (i : Nat) : Int := if i = 0 then wrap64 (wsum 0 (arcList 2) + wsum 0 (arcList 3)) else wsum 0 (arcList (2 ^ i))
theorem arc_Quarter_is : arc_Quarter.f = some (ang 0) := by simp [arc_Quarter.f, arc_sum.f, ang]
theorem arc_Arc_is (i : Nat) (h1 : 1 ≤ i) (h : i ≤ 44) : arc_Arc.f (2 ^ i) = some (ang i, 0) := by
  have h2 : (2 : Int) ≤ 2 ^ i := by
    have := M.pow_le h1
    simpa using this
  have h3 : (2 : Int) ^ i ≤ 17592186044416 := by
    have := M.pow_le h
    simpa using this
  unfold arc_Arc.f arc_sum.f
  rw [if_neg (by omega), if_neg (by omega), if_neg (by omega)]
  simp [ang, show i ≠ 0 by omega]
theorem info172 : (Try.prog.info? 172).map (·.size) = some 45 := by kernel_rfl
theorem below_setRow {B : Nat} {w W : World} (h : Below B w W) {g : Nat} (hg : B ≤ g) (cs : Array Value) : Below B w (W.setRow g cs) :=
  ⟨h.os, h.tape, h.output, by rw [setRow_size]; exact h.size, fun i hi => (setRow_other W g i cs (by omega)).trans (h.block i hi)⟩
theorem under172 : Try.prog.underlying 172 = some (.array 45 3) := by kernel_rfl
set_option maxHeartbeats 4000000 in
theorem gain_angles.calls (w : World) : Calls Try.prog 197 #[] w fun e w' => (∃ cs : Array Value, cs.size = 45 ∧ (∀ i < 45, cs[i]? = some (.int .i64 (ang i))) ∧ e = .returned (.agg cs)) ∧ Below w.heap.size w w' := by
  have HQ := Aside0.mk arc_Quarter_is
  go_enter Try.func197, Try.ntmps197
  go_wp2_with (fail)
  refine (arc_Quarter.calls _ _ HQ.out).mono ?_
  rintro e w1 ⟨rfl, hb⟩
  have HB := Aside0.mk (below_then (below_alloc (Below.refl _ _) _) (by simp) hb : Below w.heap.size w w1)
  have HZ0 := Aside0.mk (blk_below (blk_new w _) hb)
  have HS : Aside0 (w.heap.size < w1.heap.size) := ⟨by have := hb.size; simp at this; omega⟩
  clear hb
  obtain ⟨Z, hZ, HZ⟩ : ∃ Z : Array Value, Z.size = 45 ∧ Aside0 (w1.heap[w.heap.size]? = some (.cells Z 172 (0, 0))) := ⟨_, rfl, HZ0⟩
  clear HZ0
  simp only []
  generalize hq : ang 0 = q0
  have hq' := Aside0.mk hq
  clear hq
  go_wp2_with ((with_reducible refine gate_store (t := 172) (p := 1) rfl ?_); (refine wpList_store_row ?h0 172 (.tmp 1) (.tmp 4) ?hop w1.heap.size ?c ?hx ?hy 172 ?old ?hg ?hi ?ho ?h1 ?h; (case hy => rfl); (case hg => exact blk_new _ _); (case h0 => rfl); (case hop => rfl); (case hx => rfl); (case hi => exact info172); (case ho => simp); (case h1 => simp [Value.oneCell']); generalize hc : (#[.int .i64 q0, .int .i64 0, .int .i64 0, .int .i64 0, .int .i64 0, .int .i64 0, .int .i64 0, .int .i64 0, .int .i64 0, .int .i64 0, .int .i64 0, .int .i64 0, .int .i64 0, .int .i64 0, .int .i64 0, .int .i64 0, .int .i64 0, .int .i64 0, .int .i64 0, .int .i64 0, .int .i64 0, .int .i64 0, .int .i64 0, .int .i64 0, .int .i64 0, .int .i64 0, .int .i64 0, .int .i64 0, .int .i64 0, .int .i64 0, .int .i64 0, .int .i64 0, .int .i64 0, .int .i64 0, .int .i64 0, .int .i64 0, .int .i64 0, .int .i64 0, .int .i64 0, .int .i64 0, .int .i64 0, .int .i64 0, .int .i64 0, .int .i64 0, .int .i64 0] : Array Value) = cs; generalize hW : ((w1.alloc (Obj.cells #[.int .i64 0, .int .i64 0, .int .i64 0, .int .i64 0, .int .i64 0, .int .i64 0, .int .i64 0, .int .i64 0, .int .i64 0, .int .i64 0, .int .i64 0, .int .i64 0, .int .i64 0, .int .i64 0, .int .i64 0, .int .i64 0, .int .i64 0, .int .i64 0, .int .i64 0, .int .i64 0, .int .i64 0, .int .i64 0, .int .i64 0, .int .i64 0, .int .i64 0, .int .i64 0, .int .i64 0, .int .i64 0, .int .i64 0, .int .i64 0, .int .i64 0, .int .i64 0, .int .i64 0, .int .i64 0, .int .i64 0, .int .i64 0, .int .i64 0, .int .i64 0, .int .i64 0, .int .i64 0, .int .i64 0, .int .i64 0, .int .i64 0, .int .i64 0, .int .i64 0] 172)).setRow w1.heap.size cs) = W2; have HBW : Aside0 (Below w.heap.size w W2) := ⟨hW ▸ below_setRow (below_alloc HB.out _) (Nat.le_of_lt HS.out) cs⟩; have HR : Aside0 (W2.heap[w1.heap.size]? = some (.cells cs 172 (0, 0))) := ⟨hW ▸ setRow_heap _ _ _ _ _ _ (blk_new _ _)⟩; have HZ2 : Aside0 (W2.heap[w.heap.size]? = some (.cells Z 172 (0, 0))) := ⟨hW ▸ ((setRow_other _ _ _ _ (Nat.ne_of_lt HS.out)).trans (blk_alloc HZ.out _))⟩; have hcs : Aside0 (cs.size = 45 ∧ cs[0]? = some (.int .i64 q0)) := ⟨by subst hc; exact ⟨rfl, rfl⟩⟩; clear hW HZ HB; clear hc))
  have hm : ang 0 = q0 := hq'.out
  have H0 : Aside0 (cs.size = 45 ∧ ∀ j < 1, cs[j]? = some (.int .i64 (ang j))) := ⟨hcs.out.1, fun j hj => (show j = 0 by omega) ▸ hm ▸ hcs.out.2⟩
  clear hm hcs
  go_loopw [2] (fun v wr => ∃ (k : Nat) (cs : Array Value), 1 ≤ k ∧ k ≤ 45 ∧ v = .int .i64 k ∧ Aside0 (cs.size = 45 ∧ ∀ j < k, cs[j]? = some (.int .i64 (ang j))) ∧ Aside0 (wr.heap[w1.heap.size]? = some (.cells cs 172 (0, 0))) ∧ Aside0 (wr.heap[w.heap.size]? = some (.cells Z 172 (0, 0))) ∧ Aside0 (Below w.heap.size w wr)) (fun v _ => 45 - (intOf v).toNat)
  case atStart => exact ⟨1, cs, by omega, by omega, rfl, H0, HR, HZ2, HBW⟩
  case round =>
    obtain ⟨k, cs', hk1, hk, rfl, HC, HR, HZ, HB⟩ := hrel
    by_cases hlt : k < 45
    · have g1 : (k : Int) < 45 := by omega
      have HA := Aside0.mk (arc_Arc_is k hk1 (by omega))
      have hp : wrap64 (2 ^ k) = 2 ^ k := by
        have h1 := M.pow_pos k
        have h2 : (2 : Int) ^ k ≤ 2 ^ 45 := M.pow_le hk
        exact M.wrap64_id (by omega) (by omega)
      go_wp2_with (fail)
      rw [hp]
      refine (arc_Arc.calls _ _ _ _ HA.out).mono ?_
      rintro e w3 ⟨rfl, hb⟩
      have HR3 := Aside0.mk (blk_below HR.out hb)
      have HZ3 := Aside0.mk (blk_below HZ.out hb)
      have HB3 : Aside0 (Below w.heap.size w w3) := ⟨below_then HB.out HB.out.size hb⟩
      have c0 : w3.cell? ⟨w1.heap.size, k, none⟩ = cs'[k]? := blk_cell HR3.out k
      have c1 : cs'[k]? = some (cs'[k]'(by rw [HC.out.1]; omega)) := Array.getElem?_eq_getElem _
      rw [c1] at c0
      have f0 := blk_frozen HR3.out k
      clear hb HR HZ HB HA c1
      generalize cs'[k]'(by rw [HC.out.1]; omega) = old at c0
      go_wp2_with (fail)
      refine ⟨⟨k + 1, cs'.setIfInBounds k (.int .i64 (ang k)), by omega, by omega, by go_num, ⟨by simp [HC.out.1], fun j hj => ?_⟩, ⟨blk_put HR3.out k _ rfl⟩, ⟨blk_far HZ3.out (by simp; exact Nat.ne_of_lt HS.out) _⟩, ⟨below_set HB3.out (Nat.le_of_lt HS.out)⟩⟩, ?_⟩
      · rw [Array.getElem?_setIfInBounds]
        split
        · subst j; rw [if_pos (by rw [HC.out.1]; omega)]
        · exact HC.out.2 j (by omega)
      · simp [intOf]; omega
    · have g1 : ¬ (k : Int) < 45 := by omega
      obtain rfl : k = 45 := by omega
      have HO : Aside0 (cs'.all (·.oneCell') = true) := ⟨Array.all_eq_true.2 fun i hi => by
        have h1 := HC.out.2 i (by have := HC.out.1; omega)
        rw [Array.getElem?_eq_getElem hi] at h1
        rw [Option.some.inj h1]; rfl⟩
      go_wp2_with (first | ((with_reducible refine gate_dst (N := 17) rfl ?_); refine wpList_load_row rfl 172 (.tmp 1) rfl w1.heap.size rfl 172 cs' (0, 0) (.array 45 3) HR.out under172 rfl (by rw [HC.out.1]; exact info172) ?_) | ((with_reducible refine gate_store (t := 172) (p := 0) rfl ?_); refine wpList_store_row rfl 172 (.tmp 0) (.tmp 17) rfl w.heap.size cs' rfl rfl 172 Z HZ.out (by rw [HC.out.1]; exact info172) (by rw [HC.out.1]; exact hZ) HO.out ?_))
      refine bodyPost_ret (v := .agg cs') ?_ rfl ⟨⟨cs', HC.out.1, HC.out.2, rfl⟩, below_setRow HB.out (Nat.le_refl _) _⟩
      have HG := setRow_heap wr w.heap.size Z cs' 172 (0, 0) HZ.out
      have hi : (Try.prog.info? 172).map (·.size) = some cs'.size := by rw [HC.out.1]; exact info172
      simp [results, Try.results197, asAddr, run_loadVar_row _ _ _ 172 cs' (0, 0) _ HG under172 rfl hi]

end Go.Proofs.Ytmglkelmdcpinaa.G
/- The contract of the function gain_run (number 193 of the translation): what its call computes, as a plain Lean function; memory that was there stays as it was. Conditions: none beyond the theorem's own. Written by a program (gprint.py). -/
namespace Go.Proofs.Ytmglkelmdcpinaa.G
open Go.RowKit Go.Proofs.YtmglkelmdcpinaaW.PrintWords Go.Proofs.YtmglkelmdcpinaaW.PrintLast Go.Proofs.YtmglkelmdcpinaaW.PrintMore
attribute [local go_sem] max2_int min2_int max_two min_two max_three min_three max_four min_four   -- for this text's walks alone
set_option linter.unusedVariables false
set_option linter.unusedSimpArgs false

/-! ### gain_run: function 193 -/
/-- One step of the turns by shifts. -/
def turnStep (p : Int × Int × Int) (i : Nat) : Int × Int × Int :=
  if 0 ≤ p.2.2 then (wrap64 (p.1 - p.2.1 / 2 ^ i), wrap64 (p.2.1 + p.1 / 2 ^ i), wrap64 (p.2.2 - ang i))
  else (wrap64 (p.1 + p.2.1 / 2 ^ i), wrap64 (p.2.1 - p.1 / 2 ^ i), wrap64 (p.2.2 + ang i))
def turns : Nat → Int × Int × Int → Int × Int × Int
  | 0, p => p
  | k + 1, p => turnStep (turns k p) k
def gain_run.f (a0 a1 : Int) : Option (Int × Int × Int) := some (turns 45 (a0, 0, a1))
theorem underInt : Try.prog.underlying 3 = some (.int .i64) := by kernel_rfl
theorem sizeInt : (Try.prog.info? 3).map (·.size) = some 1 := by kernel_rfl
theorem isAgg3 (w : World) : (isAgg 3).run Try.prog w = .ok false w := by
  unfold isAgg
  rw [Sem.run_bind, run_underlying underInt w]
  rfl
theorem size3 (w : World) : (sizeOf 3).run Try.prog w = .ok 1 w := by
  have h := sizeInt
  cases hq : Try.prog.info? 3 with
  | none => simp [hq] at h
  | some i =>
    rw [hq] at h
    simp at h
    simp [sizeOf, typeInfo, hq, h, go_sem]
theorem run_index_arr {n : Nat} {t : TypeId} (cs : Array Value) (k : Nat) (v : Value) (w : World) (hu : Try.prog.underlying t = some (.array n 3)) (hk : k < n) (hv : cs[k]? = some v) :
    (Instr.index t (.agg cs) (.int .i64 (k : Int))).run Try.prog w = .ok v w := by
  have h1 : (0 : Int) ≤ k ∧ (k : Int) < n := by omega
  have h2 := isAgg3 w
  have h3 := size3 w
  simp [Instr.index, run_underlying hu, asIntOf, h1, part, Sem.run_bind, h2, h3, hv, hk]
theorem step_to {P : Program} {ops : Array Oper} {rest : List Oper} {o : Oper} {a : Act} {Q : Exit → Act → World → Prop} {w : World} (hg : o.guard = none) (v : Value) (hrun : (execOp a.eval o).run P w = .ok (.value v) w)
    (h : wpList P ops Q rest (a.put o.dst v) w) : wpList P ops Q (o :: rest) a w := by
  refine wpList_plain hg fun K hK => ?_
  unfold Oper.wp
  rw [hrun]
  exact hK _ _ h
set_option maxHeartbeats 4000000 in
theorem gain_run.calls (a0 a1 : Int) (r1 r2 r3 : Int) (w : World) (h : gain_run.f a0 a1 = some (r1, r2, r3)) :
    Calls Try.prog 193 #[.int .i64 a0, .int .i64 a1] w fun e w' => e = .returned (.tuple #[.agg #[.int .i64 r1, .int .i64 r2], .int .i64 r3]) ∧ Below w.heap.size w w' := by
  have H := Aside0.mk (Option.some.inj h)
  clear h
  go_enter Try.func193, Try.ntmps193
  go_wp2_with (fail)
  refine (gain_angles.calls _).mono ?_
  rintro e w1 ⟨⟨cs, hs, hcs, rfl⟩, hb⟩
  have HB := Aside0.mk (below_then (below_alloc (below_alloc (Below.refl _ _) _) _) (by simp <;> omega) hb : Below w.heap.size w w1)
  have HZ := Aside0.mk (blk_below (blk_alloc (blk_new w _) _) hb)
  have hp := blk_new (w.alloc (.cells #[.int .i64 0, .int .i64 0] 43)) (.cells #[.int .i64 a0, .int .i64 0] 43)
  rw [World.size_alloc] at hp
  have HP := Aside0.mk (blk_below hp hb)
  clear hb hp
  have HC := Aside0.mk (And.intro hs hcs)
  clear hs hcs
  simp only []
  go_wp2_with (fail)
  go_loopw [1, 14] (fun z v wr => ∃ (k : Nat) (x y u : Int), k ≤ 45 ∧ v = .int .i64 k ∧ z = .int .i64 u ∧ Aside0 (turns k (a0, 0, a1) = (x, y, u)) ∧ Aside0 (wr.heap[w.heap.size + 1]? = some (.cells #[.int .i64 x, .int .i64 y] 43 (0, 0))) ∧ Aside0 (wr.heap[w.heap.size]? = some (.cells #[.int .i64 0, .int .i64 0] 43 (0, 0))) ∧ Aside0 (Below w.heap.size w wr)) (fun _ v _ => 45 - (intOf v).toNat)
  case atStart => exact ⟨0, a0, 0, a1, by omega, rfl, rfl, ⟨rfl⟩, HP, HZ, HB⟩
  case round =>
    obtain ⟨k, x, y, u, hk, rfl, rfl, HT, HP, HZ, HB⟩ := hrel
    have d0 : wr.cell? ⟨w.heap.size + 1, 0, none⟩ = some (.int .i64 x) := (blk_cell HP.out 0).trans rfl
    have d1 : wr.cell? ⟨w.heap.size + 1, 1, none⟩ = some (.int .i64 y) := (blk_cell HP.out 1).trans rfl
    by_cases hlt : k < 45
    · have g1 : (k : Int) < 45 := by omega
      have hat : cs[k]? = some (.int .i64 (ang k)) := HC.out.2 k hlt
      have hsz : cs.size = 45 := HC.out.1
      go_wp2_with ((with_reducible refine gate_dst (N := 17) rfl ?_); refine step_to rfl (.int .i64 (ang k)) (by show ((Instr.index 172 (.agg cs) (.int .i64 (k : Int))) >>= _).run _ _ = _; rw [Sem.run_bind, run_index_arr cs k _ wr under172 hlt hat]; rfl) ?_)
      go_quiet (fail)
      have HP2 := Aside0.mk (blk_drewN HP.out nq)
      have HZ2 := Aside0.mk (blk_drewN HZ.out nq)
      have HB2 := Aside0.mk (pw_below_drewN HB.out nq)
      clear HP HZ HB d0 d1
      generalize wr.drewN nq = W at HP2 HZ2 HB2 ⊢
      have d0 : W.cell? ⟨w.heap.size + 1, 0, none⟩ = some (.int .i64 x) := (blk_cell HP2.out 0).trans rfl
      have d1 : W.cell? ⟨w.heap.size + 1, 1, none⟩ = some (.int .i64 y) := (blk_cell HP2.out 1).trans rfl
      have f0 := blk_frozen HP2.out 0
      have f1 := blk_frozen HP2.out 1
      simp only [Exit.then]
      go_at_K
      by_cases hu : 0 ≤ u
      · have HS : Aside0 (turns (k + 1) (a0, 0, a1) = (wrap64 (x - y / 2 ^ k), wrap64 (y + x / 2 ^ k), wrap64 (u - ang k))) := ⟨by rw [turns, HT.out, turnStep]; simp [hu]⟩
        go_wp2_with (fail)
        go_roundw
        case rel => exact ⟨k + 1, _, _, _, by omega, by go_num, rfl, HS, ⟨blk_put (blk_put HP2.out 0 _ rfl) 1 _ rfl⟩, ⟨blk_far (blk_far HZ2.out (by simp) _) (by simp) _⟩, ⟨below_set (below_set HB2.out (by simp)) (by simp)⟩⟩
        case measure => simp [intOf]; omega
      · have HS : Aside0 (turns (k + 1) (a0, 0, a1) = (wrap64 (x + y / 2 ^ k), wrap64 (y - x / 2 ^ k), wrap64 (u + ang k))) := ⟨by rw [turns, HT.out, turnStep]; simp [hu]⟩
        go_wp2_with (fail)
        go_roundw
        case rel => exact ⟨k + 1, _, _, _, by omega, by go_num, rfl, HS, ⟨blk_put (blk_put HP2.out 0 _ rfl) 1 _ rfl⟩, ⟨blk_far (blk_far HZ2.out (by simp) _) (by simp) _⟩, ⟨below_set (below_set HB2.out (by simp)) (by simp)⟩⟩
        case measure => simp [intOf]; omega
    · obtain rfl : k = 45 := by omega
      have e0 : wr.cell? ⟨w.heap.size, 0, none⟩ = some (.int .i64 0) := (blk_cell HZ.out 0).trans rfl
      have e1 : wr.cell? ⟨w.heap.size, 1, none⟩ = some (.int .i64 0) := (blk_cell HZ.out 1).trans rfl
      have f0 := blk_frozen HZ.out 0
      have f1 := blk_frozen HZ.out 1
      go_wp2_with (fail)
      have hT : (x, y, u) = (r1, r2, r3) := HT.out.symm.trans H.out
      cases hT
      refine bodyPost_ret (v := .tuple #[.agg #[.int .i64 r1, .int .i64 r2], .int .i64 r3]) ?_ rfl ⟨rfl, below_set (below_set HB.out (Nat.le_refl _)) (Nat.le_refl _)⟩
      simp [results, Try.results193, go_sem, e0, e1]

end Go.Proofs.Ytmglkelmdcpinaa.G
/- The contract of the function gain_Run (number 188 of the translation): what its call computes, as a plain Lean function; memory that was there stays as it was. Conditions: none beyond the theorem's own. Written by a program (gprint.py). -/
namespace Go.Proofs.Ytmglkelmdcpinaa.G
open Go.RowKit Go.Proofs.YtmglkelmdcpinaaW.PrintWords Go.Proofs.YtmglkelmdcpinaaW.PrintLast Go.Proofs.YtmglkelmdcpinaaW.PrintMore
attribute [local go_sem] max2_int min2_int max_two min_two max_three min_three max_four min_four   -- for this text's walks alone
set_option linter.unusedVariables false
set_option linter.unusedSimpArgs false

/-! ### gain_Run: function 188 -/
def gain_Run.f (a0 : Int) (a1 : Int) : Option (Int × Int × Int × Int) := if a0 < 0 then (some (0, 0, 0, 2)) else (if a0 > 144115188075855872 then (some (0, 0, 0, 2)) else (if a1 < (-72057594037927936) then (some (0, 0, 0, 2)) else (if a1 > 72057594037927936 then (some (0, 0, 0, 2)) else ((gain_run.f a0 a1).bind fun bt102 => (some (bt102.1, bt102.2.1, bt102.2.2, 0))))))
set_option maxHeartbeats 8000000 in
set_option maxRecDepth 100000 in
theorem gain_Run.calls (a0 : Int) (a1 : Int) (r1 : Int) (r2 : Int) (r3 : Int) (r4 : Int) (w : World) (h : gain_Run.f a0 a1 = some (r1, r2, r3, r4)) :
    Calls Try.prog 188 #[.int .i64 a0, .int .i64 a1] w fun e w' => e = .returned (.tuple #[.agg #[.int .i64 r1, .int .i64 r2], .int .i64 r3, .int .i64 r4]) ∧ Below w.heap.size w w' := by
  have hu43 := Try.underlying43
  have HB := Aside0.mk (Below.refl w.heap.size w)
  have H : (if a0 < 0 then (some (0, 0, 0, 2)) else (if a0 > 144115188075855872 then (some (0, 0, 0, 2)) else (if a1 < (-72057594037927936) then (some (0, 0, 0, 2)) else (if a1 > 72057594037927936 then (some (0, 0, 0, 2)) else ((gain_run.f a0 a1).bind fun bt102 => (some (bt102.1, bt102.2.1, bt102.2.2, 0))))))) = some (r1, r2, r3, r4) := h
  clear h
  by_cases c3 : a0 < 0
  · rw [if_pos c3] at H
    have c3b0 : decide (a0 < 0) = true := decide_eq_true c3
    clear c3
    simp only [Option.some.injEq, Prod.mk.injEq] at H
    obtain ⟨rfl, rfl, rfl, rfl⟩ := H
    go_enter Try.func188, Try.ntmps188
    go_wp2_with (first | ((with_reducible refine gate_dst (N := 4) rfl ?_); refine box_event ?hg (N := 4) ?hd (cs := #[.int .i64 0, .int .i64 0]) (t := 43) ?hr ?_; (case hd => rfl); (case hg => rfl); (case hr => first | (go_simp; done) | (go_simp; rfl)); intro gb101 hg w4 hbox hb; have n0_ := Aside0.mk (below_step (by repeat (first | (with_reducible first | exact HB.out | apply below_alloc | apply pw_below_drewN | apply below_drew1) | exact HB.out)) hb); have n1_ := Aside0.mk (hbox); have n2_ := Aside0.mk ((by rw [hg]; exact (below_size (by repeat (first | (with_reducible first | exact HB.out | apply below_alloc | apply pw_below_drewN | apply below_drew1) | exact HB.out))) : w.heap.size ≤ gb101)); have n3_ := Aside0.mk ((by rw [hg]; exact (below_size (by repeat (first | (with_reducible first | exact HB.out | apply below_alloc | apply pw_below_drewN | apply below_drew1) | exact HB.out))) : w.heap.size ≤ gb101)); clear HB; have HB := n0_; have BK101 := n1_; have GW101 := n2_; have GE101 := n3_; clear n0_ n1_ n2_ n3_; clear hb hbox hg; have hcz5_0 : w4.cell? ⟨gb101, 0, none⟩ = some (.int .i64 0) := (blk_cell BK101.out 0).trans rfl; have hcz5_1 : w4.cell? ⟨gb101, 1, none⟩ = some (.int .i64 0) := (blk_cell BK101.out 1).trans rfl; have hfz5_0 := blk_frozen BK101.out 0; have hfz5_1 := blk_frozen BK101.out 1))
    refine bodyPost_ret (results_ctt rfl _ _ gb101 43 #[.int .i64 0, .int .i64 0] (0, 0) _ rfl (by (with_reducible repeat (first | refine blk_drewN ?_ _ | refine blk_drew ?_ | refine blk_alloc ?_ _)); refine blk_put (cs := #[.int .i64 0, .int .i64 0]) ?_ 1 _ rfl; (with_reducible repeat (first | refine blk_drewN ?_ _ | refine blk_drew ?_ | refine blk_alloc ?_ _)); refine blk_put (cs := #[.int .i64 0, .int .i64 0]) ?_ 0 _ rfl; (with_reducible repeat (first | refine blk_drewN ?_ _ | refine blk_drew ?_ | refine blk_alloc ?_ _)); exact BK101.out) Try.underlying43 rfl (by kernel_rfl)) rfl ?_
    exact ⟨by first | rfl | (simp [errW_none, errW_some] <;> rfl) | (simp [*, errW_none, errW_some] <;> rfl), by repeat (first | (with_reducible first | exact HB.out | apply below_alloc | apply pw_below_drewN | apply below_drew1 | refine below_set ?_ GE101.out) | exact HB.out)⟩
  · rw [if_neg c3] at H
    have c3b0 : decide (a0 < 0) = false := decide_eq_false c3
    clear c3
    by_cases c6 : a0 > 144115188075855872
    · rw [if_pos c6] at H
      have c6b0 : decide (144115188075855872 < a0) = true := decide_eq_true c6
      clear c6
      simp only [Option.some.injEq, Prod.mk.injEq] at H
      obtain ⟨rfl, rfl, rfl, rfl⟩ := H
      go_enter Try.func188, Try.ntmps188
      go_wp2_with (first | ((with_reducible refine gate_dst (N := 4) rfl ?_); refine box_event ?hg (N := 4) ?hd (cs := #[.int .i64 0, .int .i64 0]) (t := 43) ?hr ?_; (case hd => rfl); (case hg => rfl); (case hr => first | (go_simp; done) | (go_simp; rfl)); intro gb101 hg w7 hbox hb; have n0_ := Aside0.mk (below_step (by repeat (first | (with_reducible first | exact HB.out | apply below_alloc | apply pw_below_drewN | apply below_drew1) | exact HB.out)) hb); have n1_ := Aside0.mk (hbox); have n2_ := Aside0.mk ((by rw [hg]; exact (below_size (by repeat (first | (with_reducible first | exact HB.out | apply below_alloc | apply pw_below_drewN | apply below_drew1) | exact HB.out))) : w.heap.size ≤ gb101)); have n3_ := Aside0.mk ((by rw [hg]; exact (below_size (by repeat (first | (with_reducible first | exact HB.out | apply below_alloc | apply pw_below_drewN | apply below_drew1) | exact HB.out))) : w.heap.size ≤ gb101)); clear HB; have HB := n0_; have BK101 := n1_; have GW101 := n2_; have GE101 := n3_; clear n0_ n1_ n2_ n3_; clear hb hbox hg; have hcz8_0 : w7.cell? ⟨gb101, 0, none⟩ = some (.int .i64 0) := (blk_cell BK101.out 0).trans rfl; have hcz8_1 : w7.cell? ⟨gb101, 1, none⟩ = some (.int .i64 0) := (blk_cell BK101.out 1).trans rfl; have hfz8_0 := blk_frozen BK101.out 0; have hfz8_1 := blk_frozen BK101.out 1))
      refine bodyPost_ret (results_ctt rfl _ _ gb101 43 #[.int .i64 0, .int .i64 0] (0, 0) _ rfl (by (with_reducible repeat (first | refine blk_drewN ?_ _ | refine blk_drew ?_ | refine blk_alloc ?_ _)); refine blk_put (cs := #[.int .i64 0, .int .i64 0]) ?_ 1 _ rfl; (with_reducible repeat (first | refine blk_drewN ?_ _ | refine blk_drew ?_ | refine blk_alloc ?_ _)); refine blk_put (cs := #[.int .i64 0, .int .i64 0]) ?_ 0 _ rfl; (with_reducible repeat (first | refine blk_drewN ?_ _ | refine blk_drew ?_ | refine blk_alloc ?_ _)); exact BK101.out) Try.underlying43 rfl (by kernel_rfl)) rfl ?_
      exact ⟨by first | rfl | (simp [errW_none, errW_some] <;> rfl) | (simp [*, errW_none, errW_some] <;> rfl), by repeat (first | (with_reducible first | exact HB.out | apply below_alloc | apply pw_below_drewN | apply below_drew1 | refine below_set ?_ GE101.out) | exact HB.out)⟩
    · rw [if_neg c6] at H
      have c6b0 : decide (144115188075855872 < a0) = false := decide_eq_false c6
      clear c6
      by_cases c9 : a1 < (-72057594037927936)
      · rw [if_pos c9] at H
        have c9b0 : decide (a1 < (-72057594037927936)) = true := decide_eq_true c9
        clear c9
        simp only [Option.some.injEq, Prod.mk.injEq] at H
        obtain ⟨rfl, rfl, rfl, rfl⟩ := H
        go_enter Try.func188, Try.ntmps188
        go_wp2_with (first | ((with_reducible refine gate_dst (N := 4) rfl ?_); refine box_event ?hg (N := 4) ?hd (cs := #[.int .i64 0, .int .i64 0]) (t := 43) ?hr ?_; (case hd => rfl); (case hg => rfl); (case hr => first | (go_simp; done) | (go_simp; rfl)); intro gb101 hg w10 hbox hb; have n0_ := Aside0.mk (below_step (by repeat (first | (with_reducible first | exact HB.out | apply below_alloc | apply pw_below_drewN | apply below_drew1) | exact HB.out)) hb); have n1_ := Aside0.mk (hbox); have n2_ := Aside0.mk ((by rw [hg]; exact (below_size (by repeat (first | (with_reducible first | exact HB.out | apply below_alloc | apply pw_below_drewN | apply below_drew1) | exact HB.out))) : w.heap.size ≤ gb101)); have n3_ := Aside0.mk ((by rw [hg]; exact (below_size (by repeat (first | (with_reducible first | exact HB.out | apply below_alloc | apply pw_below_drewN | apply below_drew1) | exact HB.out))) : w.heap.size ≤ gb101)); clear HB; have HB := n0_; have BK101 := n1_; have GW101 := n2_; have GE101 := n3_; clear n0_ n1_ n2_ n3_; clear hb hbox hg; have hcz11_0 : w10.cell? ⟨gb101, 0, none⟩ = some (.int .i64 0) := (blk_cell BK101.out 0).trans rfl; have hcz11_1 : w10.cell? ⟨gb101, 1, none⟩ = some (.int .i64 0) := (blk_cell BK101.out 1).trans rfl; have hfz11_0 := blk_frozen BK101.out 0; have hfz11_1 := blk_frozen BK101.out 1))
        refine bodyPost_ret (results_ctt rfl _ _ gb101 43 #[.int .i64 0, .int .i64 0] (0, 0) _ rfl (by (with_reducible repeat (first | refine blk_drewN ?_ _ | refine blk_drew ?_ | refine blk_alloc ?_ _)); refine blk_put (cs := #[.int .i64 0, .int .i64 0]) ?_ 1 _ rfl; (with_reducible repeat (first | refine blk_drewN ?_ _ | refine blk_drew ?_ | refine blk_alloc ?_ _)); refine blk_put (cs := #[.int .i64 0, .int .i64 0]) ?_ 0 _ rfl; (with_reducible repeat (first | refine blk_drewN ?_ _ | refine blk_drew ?_ | refine blk_alloc ?_ _)); exact BK101.out) Try.underlying43 rfl (by kernel_rfl)) rfl ?_
        exact ⟨by first | rfl | (simp [errW_none, errW_some] <;> rfl) | (simp [*, errW_none, errW_some] <;> rfl), by repeat (first | (with_reducible first | exact HB.out | apply below_alloc | apply pw_below_drewN | apply below_drew1 | refine below_set ?_ GE101.out) | exact HB.out)⟩
      · rw [if_neg c9] at H
        have c9b0 : decide (a1 < (-72057594037927936)) = false := decide_eq_false c9
        clear c9
        by_cases c12 : a1 > 72057594037927936
        · rw [if_pos c12] at H
          have c12b0 : decide (72057594037927936 < a1) = true := decide_eq_true c12
          clear c12
          simp only [Option.some.injEq, Prod.mk.injEq] at H
          obtain ⟨rfl, rfl, rfl, rfl⟩ := H
          go_enter Try.func188, Try.ntmps188
          go_wp2_with (first | ((with_reducible refine gate_dst (N := 4) rfl ?_); refine box_event ?hg (N := 4) ?hd (cs := #[.int .i64 0, .int .i64 0]) (t := 43) ?hr ?_; (case hd => rfl); (case hg => rfl); (case hr => first | (go_simp; done) | (go_simp; rfl)); intro gb101 hg w13 hbox hb; have n0_ := Aside0.mk (below_step (by repeat (first | (with_reducible first | exact HB.out | apply below_alloc | apply pw_below_drewN | apply below_drew1) | exact HB.out)) hb); have n1_ := Aside0.mk (hbox); have n2_ := Aside0.mk ((by rw [hg]; exact (below_size (by repeat (first | (with_reducible first | exact HB.out | apply below_alloc | apply pw_below_drewN | apply below_drew1) | exact HB.out))) : w.heap.size ≤ gb101)); have n3_ := Aside0.mk ((by rw [hg]; exact (below_size (by repeat (first | (with_reducible first | exact HB.out | apply below_alloc | apply pw_below_drewN | apply below_drew1) | exact HB.out))) : w.heap.size ≤ gb101)); clear HB; have HB := n0_; have BK101 := n1_; have GW101 := n2_; have GE101 := n3_; clear n0_ n1_ n2_ n3_; clear hb hbox hg; have hcz14_0 : w13.cell? ⟨gb101, 0, none⟩ = some (.int .i64 0) := (blk_cell BK101.out 0).trans rfl; have hcz14_1 : w13.cell? ⟨gb101, 1, none⟩ = some (.int .i64 0) := (blk_cell BK101.out 1).trans rfl; have hfz14_0 := blk_frozen BK101.out 0; have hfz14_1 := blk_frozen BK101.out 1))
          refine bodyPost_ret (results_ctt rfl _ _ gb101 43 #[.int .i64 0, .int .i64 0] (0, 0) _ rfl (by (with_reducible repeat (first | refine blk_drewN ?_ _ | refine blk_drew ?_ | refine blk_alloc ?_ _)); refine blk_put (cs := #[.int .i64 0, .int .i64 0]) ?_ 1 _ rfl; (with_reducible repeat (first | refine blk_drewN ?_ _ | refine blk_drew ?_ | refine blk_alloc ?_ _)); refine blk_put (cs := #[.int .i64 0, .int .i64 0]) ?_ 0 _ rfl; (with_reducible repeat (first | refine blk_drewN ?_ _ | refine blk_drew ?_ | refine blk_alloc ?_ _)); exact BK101.out) Try.underlying43 rfl (by kernel_rfl)) rfl ?_
          exact ⟨by first | rfl | (simp [errW_none, errW_some] <;> rfl) | (simp [*, errW_none, errW_some] <;> rfl), by repeat (first | (with_reducible first | exact HB.out | apply below_alloc | apply pw_below_drewN | apply below_drew1 | refine below_set ?_ GE101.out) | exact HB.out)⟩
        · rw [if_neg c12] at H
          have c12b0 : decide (72057594037927936 < a1) = false := decide_eq_false c12
          clear c12
          replace H := Option.bind_eq_some_iff.mp H
          obtain ⟨⟨t102, t103, t104⟩, A150, H⟩ := H
          replace H : (some (t102, t103, t104, 0)) = some (r1, r2, r3, r4) := H
          have A15 := Aside0.mk A150
          clear A150
          simp only [Option.some.injEq, Prod.mk.injEq] at H
          obtain ⟨rfl, rfl, rfl, rfl⟩ := H
          go_enter Try.func188, Try.ntmps188
          go_wp2_with (first | ((with_reducible refine gate_dst (N := 4) rfl ?_); refine box_event ?hg (N := 4) ?hd (cs := #[.int .i64 0, .int .i64 0]) (t := 43) ?hr ?_; (case hd => rfl); (case hg => rfl); (case hr => first | (go_simp; done) | (go_simp; rfl)); intro gb101 hg w16 hbox hb; have n0_ := Aside0.mk (below_step (by repeat (first | (with_reducible first | exact HB.out | apply below_alloc | apply pw_below_drewN | apply below_drew1) | exact HB.out)) hb); have n1_ := Aside0.mk (hbox); have n2_ := Aside0.mk ((by rw [hg]; exact (below_size (by repeat (first | (with_reducible first | exact HB.out | apply below_alloc | apply pw_below_drewN | apply below_drew1) | exact HB.out))) : w.heap.size ≤ gb101)); have n3_ := Aside0.mk ((by rw [hg]; exact (below_size (by repeat (first | (with_reducible first | exact HB.out | apply below_alloc | apply pw_below_drewN | apply below_drew1) | exact HB.out))) : w.heap.size ≤ gb101)); clear HB; have HB := n0_; have BK101 := n1_; have GW101 := n2_; have GE101 := n3_; clear n0_ n1_ n2_ n3_; clear hb hbox hg) | ((with_reducible refine gate_callee (f := 193) rfl ?_); refine goesL_ (some 27) rfl rfl Try.func193 (by kernel_rfl) rfl #[.int .i64 a0, .int .i64 a1] rfl (by (try simp only [List.map_toArray, List.map_cons, List.map_nil]); first | done | rfl | (simp only [List.length_drop, List.length_take]; rfl)) ?_; (with_reducible refine (gain_run.calls a0 a1 t102 t103 t104 _ A15.out).mono ?_); rintro e w17 ⟨rfl, hb⟩; refine ⟨_, rfl, ?_⟩; have n0_ := Aside0.mk (blk_below (g := gb101) (o := .cells #[.int .i64 0, .int .i64 0] 43 (0, 0)) (by (with_reducible repeat (first | refine blk_drewN ?_ _ | refine blk_drew ?_ | refine blk_alloc ?_ _)); exact BK101.out) hb); have n1_ := Aside0.mk (below_step (by repeat (first | (with_reducible first | exact HB.out | apply below_alloc | apply pw_below_drewN | apply below_drew1 | refine below_set ?_ GE101.out) | exact HB.out)) hb); clear BK101; clear HB; have BK101 := n0_; have HB := n1_; clear n0_ n1_; (try clear hb); (try clear hb2); (try clear hk); (try clear hi)) | ((with_reducible refine gate_dst (N := 7) rfl ?_); refine box_event ?hg (N := 7) ?hd (cs := #[.int .i64 0, .int .i64 0]) (t := 43) ?hr ?_; (case hd => rfl); (case hg => rfl); (case hr => first | (go_simp; done) | (go_simp; rfl)); intro gb105 hg w18 hbox hb; have n0_ := Aside0.mk (blk_below (g := gb101) (o := .cells #[.int .i64 0, .int .i64 0] 43 (0, 0)) (by (with_reducible repeat (first | refine blk_drewN ?_ _ | refine blk_drew ?_ | refine blk_alloc ?_ _)); exact BK101.out) hb); have n1_ := Aside0.mk (below_step (by repeat (first | (with_reducible first | exact HB.out | apply below_alloc | apply pw_below_drewN | apply below_drew1 | refine below_set ?_ GE101.out) | exact HB.out)) hb); have n2_ := Aside0.mk (hbox); have n3_ := Aside0.mk ((by rw [hg]; exact (below_size (by repeat (first | (with_reducible first | exact HB.out | apply below_alloc | apply pw_below_drewN | apply below_drew1 | refine below_set ?_ GE101.out) | exact HB.out))) : w.heap.size ≤ gb105)); have n4_ := Aside0.mk ((by rw [hg]; exact (below_size (by repeat (first | (with_reducible first | exact HB.out | apply below_alloc | apply pw_below_drewN | apply below_drew1 | refine below_set ?_ GE101.out) | exact HB.out))) : w.heap.size ≤ gb105)); have n5_ := Aside0.mk ((by rw [hg]; exact Nat.ne_of_lt (blk_lt (g := gb101) (o := .cells #[.int .i64 0, .int .i64 0] 43 (0, 0)) (by (with_reducible repeat (first | refine blk_drewN ?_ _ | refine blk_drew ?_ | refine blk_alloc ?_ _)); exact BK101.out)) : gb101 ≠ gb105)); have n6_ := Aside0.mk ((by rw [hg]; exact Nat.ne_of_gt (blk_lt (g := gb101) (o := .cells #[.int .i64 0, .int .i64 0] 43 (0, 0)) (by (with_reducible repeat (first | refine blk_drewN ?_ _ | refine blk_drew ?_ | refine blk_alloc ?_ _)); exact BK101.out)) : gb105 ≠ gb101)); clear BK101; clear HB; have BK101 := n0_; have HB := n1_; have BK105 := n2_; have GW105 := n3_; have GE105 := n4_; have NB101_105 := n5_; have NB105_101 := n6_; clear n0_ n1_ n2_ n3_ n4_ n5_ n6_; clear hb hbox hg; have hnb19 := NB105_101.out; have hnc19 := NB101_105.out; have hcz20_0 : w18.cell? ⟨gb105, 0, none⟩ = some (.int .i64 0) := (blk_cell BK105.out 0).trans rfl; have hcz20_1 : w18.cell? ⟨gb105, 1, none⟩ = some (.int .i64 0) := (blk_cell BK105.out 1).trans rfl; have hfz20_0 := blk_frozen BK105.out 0; have hfz20_1 := blk_frozen BK105.out 1; have hcz21_0 : w18.cell? ⟨gb101, 0, none⟩ = some (.int .i64 0) := (blk_cell BK101.out 0).trans rfl; have hcz21_1 : w18.cell? ⟨gb101, 1, none⟩ = some (.int .i64 0) := (blk_cell BK101.out 1).trans rfl; have hfz21_0 := blk_frozen BK101.out 0; have hfz21_1 := blk_frozen BK101.out 1))
          refine bodyPost_ret (results_ctt rfl _ _ gb101 43 #[.int .i64 t102, .int .i64 t103] (0, 0) _ rfl (by (with_reducible repeat (first | refine blk_drewN ?_ _ | refine blk_drew ?_ | refine blk_alloc ?_ _)); refine blk_put (cs := #[.int .i64 t102, .int .i64 0]) ?_ 1 _ rfl; (with_reducible repeat (first | refine blk_drewN ?_ _ | refine blk_drew ?_ | refine blk_alloc ?_ _)); refine blk_put (cs := #[.int .i64 0, .int .i64 0]) ?_ 0 _ rfl; (with_reducible repeat (first | refine blk_drewN ?_ _ | refine blk_drew ?_ | refine blk_alloc ?_ _)); refine blk_far ?_ NB101_105.out _; (with_reducible repeat (first | refine blk_drewN ?_ _ | refine blk_drew ?_ | refine blk_alloc ?_ _)); refine blk_far ?_ NB101_105.out _; (with_reducible repeat (first | refine blk_drewN ?_ _ | refine blk_drew ?_ | refine blk_alloc ?_ _)); exact BK101.out) Try.underlying43 rfl (by kernel_rfl)) rfl ?_
          exact ⟨by first | rfl | (simp [errW_none, errW_some] <;> rfl) | (simp [*, errW_none, errW_some] <;> rfl), by repeat (first | (with_reducible first | exact HB.out | apply below_alloc | apply pw_below_drewN | apply below_drew1 | refine below_set ?_ GE101.out | refine below_set ?_ GE105.out) | exact HB.out)⟩

end Go.Proofs.Ytmglkelmdcpinaa.G
/- The contract of the function gain_Gain (number 194 of the translation): what its call computes, as a plain Lean function; memory that was there stays as it was. Conditions: none beyond the theorem's own. Written by a program (gprint.py). -/
namespace Go.Proofs.Ytmglkelmdcpinaa.G
open Go.RowKit Go.Proofs.YtmglkelmdcpinaaW.PrintWords Go.Proofs.YtmglkelmdcpinaaW.PrintLast Go.Proofs.YtmglkelmdcpinaaW.PrintMore
attribute [local go_sem] max2_int min2_int max_two min_two max_three min_three max_four min_four   -- for this text's walks alone
set_option linter.unusedVariables false
set_option linter.unusedSimpArgs false

/-! ### gain_Gain: function 194 -/
def gain_Gain.f  : Option (Int) := (gain_run.f 72057594037927936 0).bind fun bt101 => (some bt101.1)
set_option maxHeartbeats 8000000 in
set_option maxRecDepth 100000 in
theorem gain_Gain.calls  (r : Int) (w : World) (h : gain_Gain.f  = some r) :
    Calls Try.prog 194 #[] w fun e w' => e = .returned (.int .i64 r) ∧ Below w.heap.size w w' := by
  have hu43 := Try.underlying43
  have HB := Aside0.mk (Below.refl w.heap.size w)
  have H : ((gain_run.f 72057594037927936 0).bind fun bt101 => (some bt101.1)) = some r := h
  clear h
  replace H := Option.bind_eq_some_iff.mp H
  obtain ⟨⟨t101, t102, t103⟩, A10, H⟩ := H
  replace H : (some t101) = some r := H
  have A1 := Aside0.mk A10
  clear A10
  obtain rfl := Option.some.inj H
  go_enter Try.func194, Try.ntmps194
  go_wp2_with (first | ((with_reducible refine gate_callee (f := 193) rfl ?_); refine goesL_ (some 4) rfl rfl Try.func193 (by kernel_rfl) rfl #[.int .i64 72057594037927936, .int .i64 0] rfl (by (try simp only [List.map_toArray, List.map_cons, List.map_nil]); first | done | rfl | (simp only [List.length_drop, List.length_take]; rfl)) ?_; (with_reducible refine (gain_run.calls 72057594037927936 0 t101 t102 t103 _ A1.out).mono ?_); rintro e w2 ⟨rfl, hb⟩; refine ⟨_, rfl, ?_⟩; have n0_ := Aside0.mk (below_step (by repeat (first | (with_reducible first | exact HB.out | apply below_alloc | apply pw_below_drewN | apply below_drew1) | exact HB.out)) hb); clear HB; have HB := n0_; clear n0_; (try clear hb); (try clear hb2); (try clear hk); (try clear hi)) | ((with_reducible refine gate_dst (N := 1) rfl ?_); refine box_event ?hg (N := 1) ?hd (cs := #[.int .i64 0, .int .i64 0]) (t := 43) ?hr ?_; (case hd => rfl); (case hg => rfl); (case hr => first | (go_simp; done) | (go_simp; rfl)); intro gb104 hg w3 hbox hb; have n0_ := Aside0.mk (below_step (by repeat (first | (with_reducible first | exact HB.out | apply below_alloc | apply pw_below_drewN | apply below_drew1) | exact HB.out)) hb); have n1_ := Aside0.mk (hbox); have n2_ := Aside0.mk ((by rw [hg]; exact (below_size (by repeat (first | (with_reducible first | exact HB.out | apply below_alloc | apply pw_below_drewN | apply below_drew1) | exact HB.out))) : w.heap.size ≤ gb104)); have n3_ := Aside0.mk ((by rw [hg]; exact (below_size (by repeat (first | (with_reducible first | exact HB.out | apply below_alloc | apply pw_below_drewN | apply below_drew1) | exact HB.out))) : w.heap.size ≤ gb104)); clear HB; have HB := n0_; have BK104 := n1_; have GW104 := n2_; have GE104 := n3_; clear n0_ n1_ n2_ n3_; clear hb hbox hg; have hcz4_0 : w3.cell? ⟨gb104, 0, none⟩ = some (.int .i64 0) := (blk_cell BK104.out 0).trans rfl; have hcz4_1 : w3.cell? ⟨gb104, 1, none⟩ = some (.int .i64 0) := (blk_cell BK104.out 1).trans rfl; have hfz4_0 := blk_frozen BK104.out 0; have hfz4_1 := blk_frozen BK104.out 1))
  go_ret
  exact ⟨by first | rfl | (simp [errW_none, errW_some] <;> rfl) | (simp [*, errW_none, errW_some] <;> rfl), by repeat (first | (with_reducible first | exact HB.out | apply below_alloc | apply pw_below_drewN | apply below_drew1 | refine below_set ?_ GE104.out) | exact HB.out)⟩

end Go.Proofs.Ytmglkelmdcpinaa.G
/- The contract of the function gain_Inverse (number 189 of the translation): what its call computes, as a plain Lean function; memory that was there stays as it was. Conditions: none beyond the theorem's own. Written by a program (gprint.py). -/
namespace Go.Proofs.Ytmglkelmdcpinaa.G
open Go.RowKit Go.Proofs.YtmglkelmdcpinaaW.PrintWords Go.Proofs.YtmglkelmdcpinaaW.PrintLast Go.Proofs.YtmglkelmdcpinaaW.PrintMore
attribute [local go_sem] max2_int min2_int max_two min_two max_three min_three max_four min_four   -- for this text's walks alone
set_option linter.unusedVariables false
set_option linter.unusedSimpArgs false

/-! ### gain_Inverse: function 189 -/
/-- One bit of a quotient: what is left, and the quotient so far. -/
def invStep (g : Int) (p : Int × Int) : Int × Int :=
  if g ≤ wrap64 (p.1 * 2) then (wrap64 (wrap64 (p.1 * 2) - g), bits BinOp.or IntKind.i64 (wrap64 (p.2 * 2)) 1) else (wrap64 (p.1 * 2), wrap64 (p.2 * 2))
def invGo (g : Int) : Nat → Int × Int
  | 0 => (72057594037927936, 0)
  | k + 1 => invStep g (invGo g k)
def gain_Inverse.f : Option Int := gain_Gain.f.bind fun g => some (invGo g 56).2
set_option maxHeartbeats 4000000 in
theorem gain_Inverse.calls (r : Int) (w : World) (h : gain_Inverse.f = some r) :
    Calls Try.prog 189 #[] w fun e w' => e = .returned (.int .i64 r) ∧ Below w.heap.size w w' := by
  obtain ⟨g, hg, hr⟩ := Option.bind_eq_some_iff.mp h
  have HG := Aside0.mk hg
  have HR := Aside0.mk (Option.some.inj hr)
  clear h hg hr
  go_enter Try.func189, Try.ntmps189
  go_wp2_with (fail)
  refine (gain_Gain.calls _ _ HG.out).mono ?_
  rintro e w1 ⟨rfl, hb⟩
  have HB := Aside0.mk hb
  clear hb
  go_wp2_with (fail)
  have HB1 := Aside0.mk (below_alloc HB.out (.cells #[.int .i64 72057594037927936, .int .i64 0] 149))
  have HP := Aside0.mk (blk_new w1 (.cells #[.int .i64 72057594037927936, .int .i64 0] 149))
  have HS := Aside0.mk HB.out.size
  clear HB
  go_loopw [5] (fun v wr => ∃ (k : Nat) (a b : Int), k ≤ 56 ∧ v = .int .i64 k ∧ Aside0 (invGo g k = (a, b)) ∧ Aside0 (wr.heap[w1.heap.size]? = some (.cells #[.int .i64 a, .int .i64 b] 149 (0, 0))) ∧ Aside0 (Below w.heap.size w wr)) (fun v _ => 56 - (intOf v).toNat)
  case atStart => exact ⟨0, _, _, by omega, rfl, ⟨rfl⟩, HP, HB1⟩
  case round =>
    obtain ⟨k, a, b, hk, rfl, HT, HP, HB⟩ := hrel
    have d0 : wr.cell? ⟨w1.heap.size, 0, none⟩ = some (.int .i64 a) := (blk_cell HP.out 0).trans rfl
    have d1 : wr.cell? ⟨w1.heap.size, 1, none⟩ = some (.int .i64 b) := (blk_cell HP.out 1).trans rfl
    by_cases hlt : k < 56
    · have g1 : (k : Int) < 56 := by omega
      have f0 := blk_frozen HP.out 0
      have f1 := blk_frozen HP.out 1
      by_cases hc : g ≤ wrap64 (a * 2)
      · go_wp2_with (fail)
        have HN : Aside0 (invGo g (k + 1) = (wrap64 (wrap64 (a * 2) - g), bits BinOp.or IntKind.i64 (wrap64 (b * 2)) 1)) := ⟨by rw [invGo, HT.out, invStep]; simp [hc]⟩
        refine ⟨⟨k + 1, _, _, by omega, by go_num, HN, ⟨blk_put (blk_put (blk_put (blk_put HP.out 0 _ rfl) 1 _ rfl) 0 _ rfl) 1 _ rfl⟩, ⟨below_set (below_set (below_set (below_set HB.out HS.out) HS.out) HS.out) HS.out⟩⟩, ?_⟩
        simp [intOf]; omega
      · go_wp2_with (fail)
        have HN : Aside0 (invGo g (k + 1) = (wrap64 (a * 2), wrap64 (b * 2))) := ⟨by rw [invGo, HT.out, invStep]; simp [hc]⟩
        refine ⟨⟨k + 1, _, _, by omega, by go_num, HN, ⟨blk_put (blk_put HP.out 0 _ rfl) 1 _ rfl⟩, ⟨below_set (below_set HB.out HS.out) HS.out⟩⟩, ?_⟩
        simp [intOf]; omega
    · obtain rfl : k = 56 := by omega
      go_wp2_with (fail)
      have hb : b = r := by have := HR.out; rw [HT.out] at this; exact this
      go_ret
      exact ⟨by subst hb; rfl, HB.out⟩

end Go.Proofs.Ytmglkelmdcpinaa.G
/- The contract of the function circle_told (number 181 of the translation): what its call computes, as a plain Lean function; memory that was there stays as it was. Conditions: none beyond the theorem's own. Written by a program (gprint.py). -/
namespace Go.Proofs.Ytmglkelmdcpinaa.G
open Go.RowKit Go.Proofs.YtmglkelmdcpinaaW.PrintWords Go.Proofs.YtmglkelmdcpinaaW.PrintLast Go.Proofs.YtmglkelmdcpinaaW.PrintMore
attribute [local go_sem] max2_int min2_int max_two min_two max_three min_three max_four min_four   -- for this text's walks alone
set_option linter.unusedVariables false
set_option linter.unusedSimpArgs false

/-! ### circle_told: function 181 -/
/-- The point of an angle. -/
def toldPoint (z : Int) : Option (Int × Int × Int) := gain_Inverse.f.bind fun k => (gain_Run.f k z).bind fun r => some (r.1, r.2.1, r.2.2.2)
def RetT (g : Nat) (lb : Array Value) (z b : Int) (w : World) : Prop :=
  ∀ (W : World), Below w.heap.size w W → Calls Try.prog g lb W fun e w' => e = .returned (.tuple #[.int .i64 z, .int .i64 b]) ∧ Below W.heap.size W w'
set_option maxHeartbeats 4000000 in
theorem circle_told.good (g : Nat) (lb : Array Value) (z : Int) (r1 r2 r3 : Int) (eg : ∀ args w, (callFunc g args).run Try.prog w = .ok (.enter g args) w) (w : World)
    (hm : RetT g lb z 0 w) (h : toldPoint z = some (r1, r2, r3)) :
    Calls Try.prog 181 #[.func (.func g) #[] lb] w fun e w' => e = .returned (.tuple #[.agg #[.int .i64 r1, .int .i64 r2], .int .i64 r3]) ∧ Below w.heap.size w w' := by
  obtain ⟨k, hk, h⟩ := Option.bind_eq_some_iff.mp h
  obtain ⟨⟨p1, p2, p3, p4⟩, hp, h⟩ := Option.bind_eq_some_iff.mp h
  simp only [Option.some.injEq, Prod.mk.injEq] at h
  obtain ⟨rfl, rfl, rfl⟩ := h
  have HM := Aside0.mk hm
  have HK := Aside0.mk hk
  have HP := Aside0.mk hp
  clear hm hk hp
  go_enter Try.func181, Try.ntmps181
  go_wp2_with (fail)
  refine (HM.out _ (below_alloc (Below.refl _ _) _)).mono ?_
  rintro e w1 ⟨rfl, hb⟩
  have HB1 : Aside0 (Below w.heap.size w w1) := ⟨below_then (below_alloc (Below.refl _ _) _) (by simp) hb⟩
  have HZ1 := Aside0.mk (blk_below (blk_new w (.cells #[.int .i64 0, .int .i64 0] 43)) hb)
  clear hb HM
  go_wp2_with (fail)
  refine (gain_Inverse.calls _ _ HK.out).mono ?_
  rintro e w2 ⟨rfl, hb⟩
  have HB2 : Aside0 (Below w.heap.size w w2) := ⟨below_then HB1.out HB1.out.size hb⟩
  have HZ2 := Aside0.mk (blk_below HZ1.out hb)
  clear hb HB1 HZ1
  go_wp2_with (fail)
  refine (gain_Run.calls _ _ _ _ _ _ _ HP.out).mono ?_
  rintro e w3 ⟨rfl, hb⟩
  have HB3 : Aside0 (Below w.heap.size w w3) := ⟨below_then HB2.out HB2.out.size hb⟩
  have HZ3 := Aside0.mk (blk_below HZ2.out hb)
  have HZ4 := blk_alloc HZ3.out (.cells #[.int .i64 p1, .int .i64 p2] 43)
  have c0 : (w3.alloc (.cells #[.int .i64 p1, .int .i64 p2] 43)).cell? ⟨w.heap.size, 0, none⟩ = some (.int .i64 0) := (blk_cell HZ4 0).trans rfl
  have c1 : (w3.alloc (.cells #[.int .i64 p1, .int .i64 p2] 43)).cell? ⟨w.heap.size, 1, none⟩ = some (.int .i64 0) := (blk_cell HZ4 1).trans rfl
  have f0 := blk_frozen HZ4 0
  have f1 := blk_frozen HZ4 1
  clear HZ4
  clear hb HB2 HZ2
  go_wp2_with (fail)
  refine bodyPost_ret (v := .tuple #[.agg #[.int .i64 p1, .int .i64 p2], .int .i64 p4]) (by simp [results, Try.results181, go_sem, c0, c1]) rfl ⟨rfl, below_set (below_set (below_alloc HB3.out _) (Nat.le_refl _)) (Nat.le_refl _)⟩
theorem circle_told.bad (g : Nat) (lb : Array Value) (eg : ∀ args w, (callFunc g args).run Try.prog w = .ok (.enter g args) w) (w : World)
    (hm : RetT g lb 0 1 w)  :
    Calls Try.prog 181 #[.func (.func g) #[] lb] w fun e w' => e = .returned (.tuple #[.agg #[.int .i64 0, .int .i64 0], .int .i64 1]) ∧ Below w.heap.size w w' := by
  have HM := Aside0.mk hm
  clear hm
  go_enter Try.func181, Try.ntmps181
  go_wp2_with (fail)
  refine (HM.out _ (below_alloc (Below.refl _ _) _)).mono ?_
  rintro e w1 ⟨rfl, hb⟩
  have HB1 : Aside0 (Below w.heap.size w w1) := ⟨below_then (below_alloc (Below.refl _ _) _) (by simp) hb⟩
  have HZ1 := Aside0.mk (blk_below (blk_new w (.cells #[.int .i64 0, .int .i64 0] 43)) hb)
  clear hb HM
  have c0 : w1.cell? ⟨w.heap.size, 0, none⟩ = some (.int .i64 0) := (blk_cell HZ1.out 0).trans rfl
  have c1 : w1.cell? ⟨w.heap.size, 1, none⟩ = some (.int .i64 0) := (blk_cell HZ1.out 1).trans rfl
  have f0 := blk_frozen HZ1.out 0
  have f1 := blk_frozen HZ1.out 1
  go_wp2_with (fail)
  refine bodyPost_ret (v := .tuple #[.agg #[.int .i64 0, .int .i64 0], .int .i64 1]) (by simp [results, Try.results181, go_sem, c0, c1]) rfl ⟨rfl, below_set (below_set HB1.out (Nat.le_refl _)) (Nat.le_refl _)⟩

end Go.Proofs.Ytmglkelmdcpinaa.G
/- The contract of the function circle_Eighth_1 (number 182 of the translation): what its call computes, as a plain Lean function; memory that was there stays as it was. Conditions: none beyond the theorem's own. Written by a program (gprint.py). -/
namespace Go.Proofs.Ytmglkelmdcpinaa.G
open Go.RowKit Go.Proofs.YtmglkelmdcpinaaW.PrintWords Go.Proofs.YtmglkelmdcpinaaW.PrintLast Go.Proofs.YtmglkelmdcpinaaW.PrintMore
attribute [local go_sem] max2_int min2_int max_two min_two max_three min_three max_four min_four   -- for this text's walks alone
set_option linter.unusedVariables false
set_option linter.unusedSimpArgs false

/-! ### circle_Eighth_1: function 182 -/
def eighth.is (k log : Int) : Bool := decide (0 ≤ log) && decide (log ≤ 6) && decide (0 ≤ k) && decide (k ≤ 2 ^ log.toNat)
def eighth.angle (q k log : Int) : Int := wrap64 (q * k) / 2 ^ log.toNat
def eighth.out (k log : Int) : Value := if eighth.is k log = true then .tuple #[.int .i64 (eighth.angle (ang 0) k log), .int .i64 0] else .tuple #[.int .i64 0, .int .i64 1]
set_option maxHeartbeats 4000000 in
theorem circle_Eighth1.calls (A B : Nat) (k log : Int) (w : World) (ha : w.cell? ⟨A, 0, none⟩ = some (.int .i64 log)) (hb : w.cell? ⟨B, 0, none⟩ = some (.int .i64 k)) :
    Calls Try.prog 182 #[.pointer (some ⟨A, 0, none⟩), .pointer (some ⟨B, 0, none⟩)] w fun e w' => e = .returned (eighth.out k log) ∧ Below w.heap.size w w' := by
  by_cases h1 : log < 0
  · have HO : Aside0 (eighth.out k log = .tuple #[.int .i64 0, .int .i64 1]) := ⟨by unfold eighth.out; rw [if_neg (by simp [eighth.is]; omega)]⟩
    rw [HO.out]
    clear HO
    go_enter Try.func182, Try.ntmps182
    go_wp2_with (fail)
    go_quiet (fail)
    simp only [Exit.then]
    go_at_K
    go_wp2_with (fail)
    go_ret2
    exact ⟨rfl, pw_below_drewN (Below.refl _ _) _⟩
  by_cases h2 : log > 6
  · have HO : Aside0 (eighth.out k log = .tuple #[.int .i64 0, .int .i64 1]) := ⟨by unfold eighth.out; rw [if_neg (by simp [eighth.is]; omega)]⟩
    rw [HO.out]
    clear HO
    go_enter Try.func182, Try.ntmps182
    go_wp2_with (fail)
    go_quiet (fail)
    simp only [Exit.then]
    go_at_K
    go_wp2_with (fail)
    go_ret2
    exact ⟨rfl, pw_below_drewN (Below.refl _ _) _⟩
  by_cases h3 : k < 0
  · have HO : Aside0 (eighth.out k log = .tuple #[.int .i64 0, .int .i64 1]) := ⟨by unfold eighth.out; rw [if_neg (by simp [eighth.is]; omega)]⟩
    rw [HO.out]
    clear HO
    go_enter Try.func182, Try.ntmps182
    go_wp2_with (fail)
    go_quiet (fail)
    simp only [Exit.then]
    go_at_K
    go_wp2_with (fail)
    go_ret2
    exact ⟨rfl, pw_below_drewN (Below.refl _ _) _⟩
  obtain ⟨n, rfl⟩ : ∃ n : Nat, log = n := ⟨log.toNat, by omega⟩
  have hp : IntKind.i64.wrap (2 ^ n) = 2 ^ n := by
    have h1 := M.pow_pos n
    have h2 : (2 : Int) ^ n ≤ 2 ^ 6 := M.pow_le (by omega)
    rw [IntKind.wrap_i64]; omega
  by_cases h4 : IntKind.i64.wrap (2 ^ n) < k
  · have HO : Aside0 (eighth.out k n = .tuple #[.int .i64 0, .int .i64 1]) := ⟨by unfold eighth.out; rw [if_neg (by simp [eighth.is]; omega)]⟩
    rw [HO.out]
    clear HO hp
    go_enter Try.func182, Try.ntmps182
    go_wp2_with (fail)
    go_quiet (fail)
    simp only [Exit.then]
    go_at_K
    go_wp2_with (fail)
    go_ret2
    exact ⟨rfl, pw_below_drewN (Below.refl _ _) _⟩
  · have HO : Aside0 (eighth.out k n = .tuple #[.int .i64 (wrap64 (ang 0 * k) / 2 ^ n), .int .i64 0]) := ⟨by unfold eighth.out eighth.angle; rw [if_pos (by simp [eighth.is]; omega)]; simp⟩
    rw [HO.out]
    clear HO hp
    have HA := Aside0.mk (World.block_lt_of_cell? w _ ha)
    have HB := Aside0.mk (World.block_lt_of_cell? w _ hb)
    generalize hq : ang 0 = q0
    have HQ : Aside0 (arc_Quarter.f = some q0) := ⟨hq ▸ arc_Quarter_is⟩
    clear hq
    go_enter Try.func182, Try.ntmps182
    go_wp2_with (fail)
    go_quiet (fail)
    simp only [Exit.then]
    go_at_K
    go_wp2_with (fail)
    have HW := Aside0.mk (pw_below_drewN (Below.refl w.heap.size w) nq)
    have a1 : (w.drewN nq).cell? ⟨A, 0, none⟩ = some (.int .i64 n) := ha
    have b1 : (w.drewN nq).cell? ⟨B, 0, none⟩ = some (.int .i64 k) := hb
    have HWZ : Aside0 (w.heap.size ≤ (w.drewN nq).heap.size) := ⟨Nat.le_refl _⟩
    clear ha hb
    generalize w.drewN nq = W at HW a1 b1 HWZ ⊢
    have HS := Aside0.mk (And.intro a1 (And.intro b1 HW.out))
    set_option maxRecDepth 100000 in
    go_region_held3 (fun w' => w'.cell? ⟨A, 0, none⟩ = some (.int .i64 n) ∧ w'.cell? ⟨B, 0, none⟩ = some (.int .i64 k) ∧ Below w.heap.size w w')
      (first | exact ⟨a1, b1, below_drew1 HW.out⟩ | exact ⟨(hb.cell (p := ⟨A, 0, none⟩) (World.block_lt_of_cell? W _ a1)).trans a1, (hb.cell (p := ⟨B, 0, none⟩) (World.block_lt_of_cell? W _ b1)).trans b1, below_then (below_drew1 HW.out) HWZ.out hb⟩)
      ((refine (arc_Quarter.calls _ _ HQ.out).mono ?_; rintro e w' ⟨rfl, hb⟩))
    rename_i hH
    have hBB := hH.2.2
    clear hH hb
    simp only [Exit.then]
    go_at_K
    go_wp2_with (fail)
    go_ret2
    exact ⟨by simp [IntWalk.i64_left], hBB⟩

end Go.Proofs.Ytmglkelmdcpinaa.G
/- The contract of the function circle_Eighth (number 176 of the translation): what its call computes, as a plain Lean function; memory that was there stays as it was. Conditions: none beyond the theorem's own. Written by a program (gprint.py). -/
namespace Go.Proofs.Ytmglkelmdcpinaa.G
open Go.RowKit Go.Proofs.YtmglkelmdcpinaaW.PrintWords Go.Proofs.YtmglkelmdcpinaaW.PrintLast Go.Proofs.YtmglkelmdcpinaaW.PrintMore
attribute [local go_sem] max2_int min2_int max_two min_two max_three min_three max_four min_four   -- for this text's walks alone
set_option linter.unusedVariables false
set_option linter.unusedSimpArgs false

/-! ### circle_Eighth: function 176 -/
def circle_Eighth.f (a0 a1 : Int) : Option (Int × Int × Int) := if eighth.is a0 a1 = true then toldPoint (eighth.angle (ang 0) a0 a1) else some (0, 0, 1)
set_option maxHeartbeats 4000000 in
theorem circle_Eighth.calls (a0 a1 : Int) (r1 r2 r3 : Int) (w : World) (h : circle_Eighth.f a0 a1 = some (r1, r2, r3)) :
    Calls Try.prog 176 #[.int .i64 a0, .int .i64 a1] w fun e w' => e = .returned (.tuple #[.agg #[.int .i64 r1, .int .i64 r2], .int .i64 r3]) ∧ Below w.heap.size w w' := by
  have key : ∀ W : World, W.heap.size ≥ w.heap.size + 3 → Below w.heap.size w W → W.heap[w.heap.size]? = some (.cells #[.int .i64 a0] 3 (0, 0)) → W.heap[w.heap.size + 1]? = some (.cells #[.int .i64 a1] 3 (0, 0)) →
      Calls Try.prog 181 #[.func (.func 182) #[] #[.pointer (some ⟨w.heap.size + 1, 0, none⟩), .pointer (some ⟨w.heap.size, 0, none⟩)]] W fun e w' => e = .returned (.tuple #[.agg #[.int .i64 r1, .int .i64 r2], .int .i64 r3]) ∧ Below W.heap.size W w' := by
    intro W _ _ h0 h1
    have hc : ∀ (V : World), Below W.heap.size W V → Calls Try.prog 182 #[.pointer (some ⟨w.heap.size + 1, 0, none⟩), .pointer (some ⟨w.heap.size, 0, none⟩)] V fun e w' => e = .returned (eighth.out a0 a1) ∧ Below V.heap.size V w' := by
      intro V hV
      exact circle_Eighth1.calls _ _ _ _ _ ((blk_cell (blk_below h1 hV) 0).trans rfl) ((blk_cell (blk_below h0 hV) 0).trans rfl)
    unfold circle_Eighth.f at h
    by_cases hi : eighth.is a0 a1 = true
    · rw [if_pos hi] at h
      refine circle_told.good _ _ _ _ _ _ (enters_of Try.func182 (by kernel_rfl) rfl) _ ?_ h
      intro V hV
      have := hc V hV
      unfold eighth.out at this
      rw [if_pos hi] at this
      exact this
    · rw [if_neg hi] at h
      simp only [Option.some.injEq, Prod.mk.injEq] at h
      obtain ⟨rfl, rfl, rfl⟩ := h
      refine circle_told.bad _ _ (enters_of Try.func182 (by kernel_rfl) rfl) _ ?_
      intro V hV
      have := hc V hV
      unfold eighth.out at this
      rw [if_neg hi] at this
      exact this
  have KEY := Aside0.mk key
  clear key h
  go_enter Try.func176, Try.ntmps176
  go_wp2_with (fail)
  have h0 := blk_alloc (blk_alloc (blk_new w (.cells #[.int .i64 a0] 3)) (.cells #[.int .i64 a1] 3)) (.cells #[.int .i64 0, .int .i64 0] 43)
  have h1 := blk_new (w.alloc (.cells #[.int .i64 a0] 3)) (.cells #[.int .i64 a1] 3)
  rw [World.size_alloc] at h1
  have h1' := blk_alloc h1 (.cells #[.int .i64 0, .int .i64 0] 43)
  have h2 := blk_new ((w.alloc (.cells #[.int .i64 a0] 3)).alloc (.cells #[.int .i64 a1] 3)) (.cells #[.int .i64 0, .int .i64 0] 43)
  simp only [World.size_alloc] at h2
  have hb := below_alloc (below_alloc (below_alloc (Below.refl w.heap.size w) (.cells #[.int .i64 a0] 3)) (.cells #[.int .i64 a1] 3)) (.cells #[.int .i64 0, .int .i64 0] 43)
  have hz : (((w.alloc (.cells #[.int .i64 a0] 3)).alloc (.cells #[.int .i64 a1] 3)).alloc (.cells #[.int .i64 0, .int .i64 0] 43)).heap.size = w.heap.size + 3 := by simp
  have HB := Aside0.mk hb
  have HZ := Aside0.mk h2
  refine (KEY.out _ (by omega) hb h0 h1').mono ?_
  clear hb h0 h1 h1' h2 KEY
  rintro e w1 ⟨rfl, hb⟩
  have HB1 : Aside0 (Below w.heap.size w w1) := ⟨below_then HB.out (by omega) hb⟩
  have HZ1 := Aside0.mk (blk_below HZ.out hb)
  have c0 : w1.cell? ⟨w.heap.size + 1 + 1, 0, none⟩ = some (.int .i64 0) := (blk_cell HZ1.out 0).trans rfl
  have c1 : w1.cell? ⟨w.heap.size + 1 + 1, 1, none⟩ = some (.int .i64 0) := (blk_cell HZ1.out 1).trans rfl
  have f0 := blk_frozen HZ1.out 0
  have f1 := blk_frozen HZ1.out 1
  clear hb HB HZ hz
  go_wp2_with (fail)
  refine bodyPost_ret (v := .tuple #[.agg #[.int .i64 r1, .int .i64 r2], .int .i64 r3]) (by simp [results, Try.results176, go_sem, c0, c1]) rfl ⟨rfl, below_set (below_set HB1.out (by show w.heap.size ≤ w.heap.size + 1 + 1; omega)) (by show w.heap.size ≤ w.heap.size + 1 + 1; omega)⟩

end Go.Proofs.Ytmglkelmdcpinaa.G
/- The contract of the function roots_point (number 150 of the translation): what its call computes, as a plain Lean function; memory that was there stays as it was. Conditions: none beyond the theorem's own. Written by a program (gprint.py). -/
namespace Go.Proofs.Ytmglkelmdcpinaa.G
open Go.RowKit Go.Proofs.YtmglkelmdcpinaaW.PrintWords Go.Proofs.YtmglkelmdcpinaaW.PrintLast Go.Proofs.YtmglkelmdcpinaaW.PrintMore
attribute [local go_sem] max2_int min2_int max_two min_two max_three min_three max_four min_four   -- for this text's walks alone
set_option linter.unusedVariables false
set_option linter.unusedSimpArgs false

/-! ### roots_point: function 150 -/
def roots_point.f (a0 : Int) (a1 : Int) : Option (Int × Int) := if 0 ≤ a0 then (if (wrap64 (2 * a1)) < (shl .i64 1 a0) then ((circle_Eighth.f (wrap64 (2 * a1)) a0).bind fun bt102 => (some (bt102.1, bt102.2.1))) else (if (wrap64 (2 * a1)) > (shl .i64 1 a0) then ((circle_Eighth.f (wrap64 (2 * (wrap64 ((shl .i64 1 a0) - a1)))) a0).bind fun bt106 => (some (bt106.2.1, bt106.1))) else ((circle_Eighth.f (shl .i64 1 a0) a0).bind fun bt110 => (some (bt110.1, bt110.1))))) else (none)
set_option maxHeartbeats 8000000 in
set_option maxRecDepth 100000 in
theorem roots_point.calls (a0 : Int) (a1 : Int) (r1 : Int) (r2 : Int) (w : World) (h : roots_point.f a0 a1 = some (r1, r2)) :
    Calls Try.prog 150 #[.int .i64 a0, .int .i64 a1] w fun e w' => e = .returned (.agg #[.int .i64 r1, .int .i64 r2]) ∧ Below w.heap.size w w' := by
  have hu43 := Try.underlying43
  have HB := Aside0.mk (Below.refl w.heap.size w)
  have H : (if 0 ≤ a0 then (if (wrap64 (2 * a1)) < (shl .i64 1 a0) then ((circle_Eighth.f (wrap64 (2 * a1)) a0).bind fun bt102 => (some (bt102.1, bt102.2.1))) else (if (wrap64 (2 * a1)) > (shl .i64 1 a0) then ((circle_Eighth.f (wrap64 (2 * (wrap64 ((shl .i64 1 a0) - a1)))) a0).bind fun bt106 => (some (bt106.2.1, bt106.1))) else ((circle_Eighth.f (shl .i64 1 a0) a0).bind fun bt110 => (some (bt110.1, bt110.1))))) else (none)) = some (r1, r2) := h
  clear h
  by_cases c3 : 0 ≤ a0
  · rw [if_pos c3] at H
    have c3b0 := eq_true c3
    have c3b1 : decide (0 ≤ a0) = true := decide_eq_true c3
    clear c3
    obtain ⟨ji4, hji4⟩ : ∃ j_ : Int, (shl .i64 1 a0) = j_ := ⟨_, rfl⟩
    replace H : (if (wrap64 (2 * a1)) < (ji4) then ((circle_Eighth.f (wrap64 (2 * a1)) a0).bind fun bt102 => (some (bt102.1, bt102.2.1))) else (if (wrap64 (2 * a1)) > (ji4) then ((circle_Eighth.f (wrap64 (2 * (wrap64 ((ji4) - a1)))) a0).bind fun bt106 => (some (bt106.2.1, bt106.1))) else ((circle_Eighth.f (ji4) a0).bind fun bt110 => (some (bt110.1, bt110.1))))) = some (r1, r2) := by first | (rw [hji4] at H; exact H) | (simp only [hji4] at H ⊢; exact H)
    have hji4_ : (IntKind.i64.wrap (1 * 2 ^ min a0.toNat 64)) = ji4 := hji4
    have hji4z : a0 ≤ 64 → (IntKind.i64.wrap (1 * 2 ^ a0.toNat)) = ji4 := shl_small hji4
    have hji4u : (IntKind.i64.wrap (2 ^ min a0.toNat 64)) = ji4 := by have h_ := hji4_; rw [Int.one_mul] at h_; exact h_
    have hji4v : a0 ≤ 64 → (IntKind.i64.wrap (2 ^ a0.toNat)) = ji4 := fun hle_ => by have h_ := hji4z hle_; rw [Int.one_mul] at h_; exact h_
    have hji4y : (wrap64 (1 * 2 ^ min a0.toNat 64)) = ji4 := (i64_w _).symm.trans hji4_
    have hji4x : a0 ≤ 64 → (wrap64 (1 * 2 ^ a0.toNat)) = ji4 := fun h_ => (i64_w _).symm.trans (hji4z h_)
    by_cases c5 : (wrap64 (2 * a1)) < (ji4)
    · rw [if_pos c5] at H
      have c5b0 : decide ((wrap64 (2 * a1)) < (ji4)) = true := decide_eq_true c5
      clear c5
      replace H := Option.bind_eq_some_iff.mp H
      obtain ⟨⟨t102, t103, t104⟩, A60, H⟩ := H
      replace H : (some (t102, t103)) = some (r1, r2) := H
      have A6 := Aside0.mk A60
      clear A60
      simp only [Option.some.injEq, Prod.mk.injEq] at H
      obtain ⟨rfl, rfl⟩ := H
      go_enter Try.func150, Try.ntmps150
      go_wp2_with (first | ((with_reducible refine gate_dst (N := 4) rfl ?_); refine box_event ?hg (N := 4) ?hd (cs := #[.int .i64 0, .int .i64 0]) (t := 43) ?hr ?_; (case hd => rfl); (case hg => rfl); (case hr => first | (go_simp; done) | (go_simp; rfl)); intro gb101 hg w7 hbox hb; have n0_ := Aside0.mk (below_step (by repeat (first | (with_reducible first | exact HB.out | apply below_alloc | apply pw_below_drewN | apply below_drew1) | exact HB.out)) hb); have n1_ := Aside0.mk (hbox); have n2_ := Aside0.mk ((by rw [hg]; exact (below_size (by repeat (first | (with_reducible first | exact HB.out | apply below_alloc | apply pw_below_drewN | apply below_drew1) | exact HB.out))) : w.heap.size ≤ gb101)); have n3_ := Aside0.mk ((by rw [hg]; exact (below_size (by repeat (first | (with_reducible first | exact HB.out | apply below_alloc | apply pw_below_drewN | apply below_drew1) | exact HB.out))) : w.heap.size ≤ gb101)); clear HB; have HB := n0_; have BK101 := n1_; have GW101 := n2_; have GE101 := n3_; clear n0_ n1_ n2_ n3_; clear hb hbox hg) | ((with_reducible refine gate_callee (f := 176) rfl ?_); refine goesL_ (some 23) rfl rfl Try.func176 (by kernel_rfl) rfl #[.int .i64 (wrap64 (2 * a1)), .int .i64 a0] rfl (by (try simp only [List.map_toArray, List.map_cons, List.map_nil]); first | done | rfl | (simp only [List.length_drop, List.length_take]; rfl)) ?_; (with_reducible refine (circle_Eighth.calls (wrap64 (2 * a1)) a0 t102 t103 t104 _ A6.out).mono ?_); rintro e w8 ⟨rfl, hb⟩; refine ⟨_, rfl, ?_⟩; have n0_ := Aside0.mk (blk_below (g := gb101) (o := .cells #[.int .i64 0, .int .i64 0] 43 (0, 0)) (by (with_reducible repeat (first | refine blk_drewN ?_ _ | refine blk_drew ?_ | refine blk_alloc ?_ _)); exact BK101.out) hb); have n1_ := Aside0.mk (below_step (by repeat (first | (with_reducible first | exact HB.out | apply below_alloc | apply pw_below_drewN | apply below_drew1 | refine below_set ?_ GE101.out) | exact HB.out)) hb); clear BK101; clear HB; have BK101 := n0_; have HB := n1_; clear n0_ n1_; (try clear hb); (try clear hb2); (try clear hk); (try clear hi)) | ((with_reducible refine gate_dst (N := 6) rfl ?_); refine box_event ?hg (N := 6) ?hd (cs := #[.int .i64 0, .int .i64 0]) (t := 43) ?hr ?_; (case hd => rfl); (case hg => rfl); (case hr => first | (go_simp; done) | (go_simp; rfl)); intro gb105 hg w9 hbox hb; have n0_ := Aside0.mk (blk_below (g := gb101) (o := .cells #[.int .i64 0, .int .i64 0] 43 (0, 0)) (by (with_reducible repeat (first | refine blk_drewN ?_ _ | refine blk_drew ?_ | refine blk_alloc ?_ _)); exact BK101.out) hb); have n1_ := Aside0.mk (below_step (by repeat (first | (with_reducible first | exact HB.out | apply below_alloc | apply pw_below_drewN | apply below_drew1 | refine below_set ?_ GE101.out) | exact HB.out)) hb); have n2_ := Aside0.mk (hbox); have n3_ := Aside0.mk ((by rw [hg]; exact (below_size (by repeat (first | (with_reducible first | exact HB.out | apply below_alloc | apply pw_below_drewN | apply below_drew1 | refine below_set ?_ GE101.out) | exact HB.out))) : w.heap.size ≤ gb105)); have n4_ := Aside0.mk ((by rw [hg]; exact (below_size (by repeat (first | (with_reducible first | exact HB.out | apply below_alloc | apply pw_below_drewN | apply below_drew1 | refine below_set ?_ GE101.out) | exact HB.out))) : w.heap.size ≤ gb105)); have n5_ := Aside0.mk ((by rw [hg]; exact Nat.ne_of_lt (blk_lt (g := gb101) (o := .cells #[.int .i64 0, .int .i64 0] 43 (0, 0)) (by (with_reducible repeat (first | refine blk_drewN ?_ _ | refine blk_drew ?_ | refine blk_alloc ?_ _)); exact BK101.out)) : gb101 ≠ gb105)); have n6_ := Aside0.mk ((by rw [hg]; exact Nat.ne_of_gt (blk_lt (g := gb101) (o := .cells #[.int .i64 0, .int .i64 0] 43 (0, 0)) (by (with_reducible repeat (first | refine blk_drewN ?_ _ | refine blk_drew ?_ | refine blk_alloc ?_ _)); exact BK101.out)) : gb105 ≠ gb101)); clear BK101; clear HB; have BK101 := n0_; have HB := n1_; have BK105 := n2_; have GW105 := n3_; have GE105 := n4_; have NB101_105 := n5_; have NB105_101 := n6_; clear n0_ n1_ n2_ n3_ n4_ n5_ n6_; clear hb hbox hg; have hnb10 := NB105_101.out; have hnc10 := NB101_105.out; have hcz11_0 : w9.cell? ⟨gb105, 0, none⟩ = some (.int .i64 0) := (blk_cell BK105.out 0).trans rfl; have hcz11_1 : w9.cell? ⟨gb105, 1, none⟩ = some (.int .i64 0) := (blk_cell BK105.out 1).trans rfl; have hfz11_0 := blk_frozen BK105.out 0; have hfz11_1 := blk_frozen BK105.out 1; have hcz12_0 : w9.cell? ⟨gb101, 0, none⟩ = some (.int .i64 0) := (blk_cell BK101.out 0).trans rfl; have hcz12_1 : w9.cell? ⟨gb101, 1, none⟩ = some (.int .i64 0) := (blk_cell BK101.out 1).trans rfl; have hfz12_0 := blk_frozen BK101.out 0; have hfz12_1 := blk_frozen BK101.out 1))
      refine bodyPost_ret (results_cell_row rfl _ _ gb101 43 #[.int .i64 t102, .int .i64 t103] (0, 0) _ rfl (by (with_reducible repeat (first | refine blk_drewN ?_ _ | refine blk_drew ?_ | refine blk_alloc ?_ _)); refine blk_put (cs := #[.int .i64 t102, .int .i64 0]) ?_ 1 _ rfl; (with_reducible repeat (first | refine blk_drewN ?_ _ | refine blk_drew ?_ | refine blk_alloc ?_ _)); refine blk_put (cs := #[.int .i64 0, .int .i64 0]) ?_ 0 _ rfl; (with_reducible repeat (first | refine blk_drewN ?_ _ | refine blk_drew ?_ | refine blk_alloc ?_ _)); refine blk_far ?_ NB101_105.out _; (with_reducible repeat (first | refine blk_drewN ?_ _ | refine blk_drew ?_ | refine blk_alloc ?_ _)); refine blk_far ?_ NB101_105.out _; (with_reducible repeat (first | refine blk_drewN ?_ _ | refine blk_drew ?_ | refine blk_alloc ?_ _)); exact BK101.out) Try.underlying43 rfl (by kernel_rfl)) rfl ?_
      exact ⟨by first | rfl | (simp [errW_none, errW_some] <;> rfl) | (simp only [← hji4]; first | rfl | (simp [errW_none, errW_some] <;> rfl)) | (simp [*, errW_none, errW_some] <;> rfl), by repeat (first | (with_reducible first | exact HB.out | apply below_alloc | apply pw_below_drewN | apply below_drew1 | refine below_set ?_ GE101.out | refine below_set ?_ GE105.out) | exact HB.out)⟩
    · rw [if_neg c5] at H
      have c5b0 : decide ((wrap64 (2 * a1)) < (ji4)) = false := decide_eq_false c5
      clear c5
      by_cases c13 : (wrap64 (2 * a1)) > (ji4)
      · rw [if_pos c13] at H
        have c13b0 : decide ((ji4) < (wrap64 (2 * a1))) = true := decide_eq_true c13
        clear c13
        replace H := Option.bind_eq_some_iff.mp H
        obtain ⟨⟨t106, t107, t108⟩, A140, H⟩ := H
        replace H : (some (t107, t106)) = some (r1, r2) := H
        have A14 := Aside0.mk A140
        clear A140
        simp only [Option.some.injEq, Prod.mk.injEq] at H
        obtain ⟨rfl, rfl⟩ := H
        go_enter Try.func150, Try.ntmps150
        go_wp2_with (first | ((with_reducible refine gate_dst (N := 4) rfl ?_); refine box_event ?hg (N := 4) ?hd (cs := #[.int .i64 0, .int .i64 0]) (t := 43) ?hr ?_; (case hd => rfl); (case hg => rfl); (case hr => first | (go_simp; done) | (go_simp; rfl)); intro gb101 hg w15 hbox hb; have n0_ := Aside0.mk (below_step (by repeat (first | (with_reducible first | exact HB.out | apply below_alloc | apply pw_below_drewN | apply below_drew1) | exact HB.out)) hb); have n1_ := Aside0.mk (hbox); have n2_ := Aside0.mk ((by rw [hg]; exact (below_size (by repeat (first | (with_reducible first | exact HB.out | apply below_alloc | apply pw_below_drewN | apply below_drew1) | exact HB.out))) : w.heap.size ≤ gb101)); have n3_ := Aside0.mk ((by rw [hg]; exact (below_size (by repeat (first | (with_reducible first | exact HB.out | apply below_alloc | apply pw_below_drewN | apply below_drew1) | exact HB.out))) : w.heap.size ≤ gb101)); clear HB; have HB := n0_; have BK101 := n1_; have GW101 := n2_; have GE101 := n3_; clear n0_ n1_ n2_ n3_; clear hb hbox hg) | ((with_reducible refine gate_callee (f := 176) rfl ?_); refine goesL_ (some 38) rfl rfl Try.func176 (by kernel_rfl) rfl #[.int .i64 (wrap64 (2 * (wrap64 ((ji4) - a1)))), .int .i64 a0] rfl (by (try simp only [List.map_toArray, List.map_cons, List.map_nil]); first | done | (simp only [hji4]; rfl) | rfl | (simp only [List.length_drop, List.length_take]; rfl)) ?_; (with_reducible refine (circle_Eighth.calls (wrap64 (2 * (wrap64 ((ji4) - a1)))) a0 t106 t107 t108 _ A14.out).mono ?_); rintro e w16 ⟨rfl, hb⟩; refine ⟨_, rfl, ?_⟩; have n0_ := Aside0.mk (blk_below (g := gb101) (o := .cells #[.int .i64 0, .int .i64 0] 43 (0, 0)) (by (with_reducible repeat (first | refine blk_drewN ?_ _ | refine blk_drew ?_ | refine blk_alloc ?_ _)); exact BK101.out) hb); have n1_ := Aside0.mk (below_step (by repeat (first | (with_reducible first | exact HB.out | apply below_alloc | apply pw_below_drewN | apply below_drew1 | refine below_set ?_ GE101.out) | exact HB.out)) hb); clear BK101; clear HB; have BK101 := n0_; have HB := n1_; clear n0_ n1_; (try clear hb); (try clear hb2); (try clear hk); (try clear hi)) | ((with_reducible refine gate_dst (N := 8) rfl ?_); refine box_event ?hg (N := 8) ?hd (cs := #[.int .i64 0, .int .i64 0]) (t := 43) ?hr ?_; (case hd => rfl); (case hg => rfl); (case hr => first | (go_simp; done) | (go_simp; rfl)); intro gb109 hg w17 hbox hb; have n0_ := Aside0.mk (blk_below (g := gb101) (o := .cells #[.int .i64 0, .int .i64 0] 43 (0, 0)) (by (with_reducible repeat (first | refine blk_drewN ?_ _ | refine blk_drew ?_ | refine blk_alloc ?_ _)); exact BK101.out) hb); have n1_ := Aside0.mk (below_step (by repeat (first | (with_reducible first | exact HB.out | apply below_alloc | apply pw_below_drewN | apply below_drew1 | refine below_set ?_ GE101.out) | exact HB.out)) hb); have n2_ := Aside0.mk (hbox); have n3_ := Aside0.mk ((by rw [hg]; exact (below_size (by repeat (first | (with_reducible first | exact HB.out | apply below_alloc | apply pw_below_drewN | apply below_drew1 | refine below_set ?_ GE101.out) | exact HB.out))) : w.heap.size ≤ gb109)); have n4_ := Aside0.mk ((by rw [hg]; exact (below_size (by repeat (first | (with_reducible first | exact HB.out | apply below_alloc | apply pw_below_drewN | apply below_drew1 | refine below_set ?_ GE101.out) | exact HB.out))) : w.heap.size ≤ gb109)); have n5_ := Aside0.mk ((by rw [hg]; exact Nat.ne_of_lt (blk_lt (g := gb101) (o := .cells #[.int .i64 0, .int .i64 0] 43 (0, 0)) (by (with_reducible repeat (first | refine blk_drewN ?_ _ | refine blk_drew ?_ | refine blk_alloc ?_ _)); exact BK101.out)) : gb101 ≠ gb109)); have n6_ := Aside0.mk ((by rw [hg]; exact Nat.ne_of_gt (blk_lt (g := gb101) (o := .cells #[.int .i64 0, .int .i64 0] 43 (0, 0)) (by (with_reducible repeat (first | refine blk_drewN ?_ _ | refine blk_drew ?_ | refine blk_alloc ?_ _)); exact BK101.out)) : gb109 ≠ gb101)); clear BK101; clear HB; have BK101 := n0_; have HB := n1_; have BK109 := n2_; have GW109 := n3_; have GE109 := n4_; have NB101_109 := n5_; have NB109_101 := n6_; clear n0_ n1_ n2_ n3_ n4_ n5_ n6_; clear hb hbox hg; have hnb18 := NB109_101.out; have hnc18 := NB101_109.out; have hcz19_0 : w17.cell? ⟨gb109, 0, none⟩ = some (.int .i64 0) := (blk_cell BK109.out 0).trans rfl; have hcz19_1 : w17.cell? ⟨gb109, 1, none⟩ = some (.int .i64 0) := (blk_cell BK109.out 1).trans rfl; have hfz19_0 := blk_frozen BK109.out 0; have hfz19_1 := blk_frozen BK109.out 1; have hcz20_0 : w17.cell? ⟨gb101, 0, none⟩ = some (.int .i64 0) := (blk_cell BK101.out 0).trans rfl; have hcz20_1 : w17.cell? ⟨gb101, 1, none⟩ = some (.int .i64 0) := (blk_cell BK101.out 1).trans rfl; have hfz20_0 := blk_frozen BK101.out 0; have hfz20_1 := blk_frozen BK101.out 1))
        refine bodyPost_ret (results_cell_row rfl _ _ gb101 43 #[.int .i64 t107, .int .i64 t106] (0, 0) _ rfl (by (with_reducible repeat (first | refine blk_drewN ?_ _ | refine blk_drew ?_ | refine blk_alloc ?_ _)); refine blk_put (cs := #[.int .i64 t107, .int .i64 0]) ?_ 1 _ rfl; (with_reducible repeat (first | refine blk_drewN ?_ _ | refine blk_drew ?_ | refine blk_alloc ?_ _)); refine blk_put (cs := #[.int .i64 0, .int .i64 0]) ?_ 0 _ rfl; (with_reducible repeat (first | refine blk_drewN ?_ _ | refine blk_drew ?_ | refine blk_alloc ?_ _)); refine blk_far ?_ NB101_109.out _; (with_reducible repeat (first | refine blk_drewN ?_ _ | refine blk_drew ?_ | refine blk_alloc ?_ _)); refine blk_far ?_ NB101_109.out _; (with_reducible repeat (first | refine blk_drewN ?_ _ | refine blk_drew ?_ | refine blk_alloc ?_ _)); exact BK101.out) Try.underlying43 rfl (by kernel_rfl)) rfl ?_
        exact ⟨by first | rfl | (simp [errW_none, errW_some] <;> rfl) | (simp only [← hji4]; first | rfl | (simp [errW_none, errW_some] <;> rfl)) | (simp [*, errW_none, errW_some] <;> rfl), by repeat (first | (with_reducible first | exact HB.out | apply below_alloc | apply pw_below_drewN | apply below_drew1 | refine below_set ?_ GE101.out | refine below_set ?_ GE109.out) | exact HB.out)⟩
      · rw [if_neg c13] at H
        have c13b0 : decide ((ji4) < (wrap64 (2 * a1))) = false := decide_eq_false c13
        clear c13
        replace H := Option.bind_eq_some_iff.mp H
        obtain ⟨⟨t110, t111, t112⟩, A210, H⟩ := H
        replace H : (some (t110, t110)) = some (r1, r2) := H
        have A21 := Aside0.mk A210
        clear A210
        simp only [Option.some.injEq, Prod.mk.injEq] at H
        obtain ⟨rfl, rfl⟩ := H
        go_enter Try.func150, Try.ntmps150
        go_wp2_with (first | ((with_reducible refine gate_dst (N := 4) rfl ?_); refine box_event ?hg (N := 4) ?hd (cs := #[.int .i64 0, .int .i64 0]) (t := 43) ?hr ?_; (case hd => rfl); (case hg => rfl); (case hr => first | (go_simp; done) | (go_simp; rfl)); intro gb101 hg w22 hbox hb; have n0_ := Aside0.mk (below_step (by repeat (first | (with_reducible first | exact HB.out | apply below_alloc | apply pw_below_drewN | apply below_drew1) | exact HB.out)) hb); have n1_ := Aside0.mk (hbox); have n2_ := Aside0.mk ((by rw [hg]; exact (below_size (by repeat (first | (with_reducible first | exact HB.out | apply below_alloc | apply pw_below_drewN | apply below_drew1) | exact HB.out))) : w.heap.size ≤ gb101)); have n3_ := Aside0.mk ((by rw [hg]; exact (below_size (by repeat (first | (with_reducible first | exact HB.out | apply below_alloc | apply pw_below_drewN | apply below_drew1) | exact HB.out))) : w.heap.size ≤ gb101)); clear HB; have HB := n0_; have BK101 := n1_; have GW101 := n2_; have GE101 := n3_; clear n0_ n1_ n2_ n3_; clear hb hbox hg) | ((with_reducible refine gate_callee (f := 176) rfl ?_); refine goesL_ (some 49) rfl rfl Try.func176 (by kernel_rfl) rfl #[.int .i64 ji4, .int .i64 a0] rfl (by (try simp only [List.map_toArray, List.map_cons, List.map_nil]); first | done | (simp only [hji4]; rfl) | rfl | (simp only [List.length_drop, List.length_take]; rfl)) ?_; (with_reducible refine (circle_Eighth.calls ji4 a0 t110 t111 t112 _ A21.out).mono ?_); rintro e w23 ⟨rfl, hb⟩; refine ⟨_, rfl, ?_⟩; have n0_ := Aside0.mk (blk_below (g := gb101) (o := .cells #[.int .i64 0, .int .i64 0] 43 (0, 0)) (by (with_reducible repeat (first | refine blk_drewN ?_ _ | refine blk_drew ?_ | refine blk_alloc ?_ _)); exact BK101.out) hb); have n1_ := Aside0.mk (below_step (by repeat (first | (with_reducible first | exact HB.out | apply below_alloc | apply pw_below_drewN | apply below_drew1 | refine below_set ?_ GE101.out) | exact HB.out)) hb); clear BK101; clear HB; have BK101 := n0_; have HB := n1_; clear n0_ n1_; (try clear hb); (try clear hb2); (try clear hk); (try clear hi)) | ((with_reducible refine gate_dst (N := 10) rfl ?_); refine box_event ?hg (N := 10) ?hd (cs := #[.int .i64 0, .int .i64 0]) (t := 43) ?hr ?_; (case hd => rfl); (case hg => rfl); (case hr => first | (go_simp; done) | (go_simp; rfl)); intro gb113 hg w24 hbox hb; have n0_ := Aside0.mk (blk_below (g := gb101) (o := .cells #[.int .i64 0, .int .i64 0] 43 (0, 0)) (by (with_reducible repeat (first | refine blk_drewN ?_ _ | refine blk_drew ?_ | refine blk_alloc ?_ _)); exact BK101.out) hb); have n1_ := Aside0.mk (below_step (by repeat (first | (with_reducible first | exact HB.out | apply below_alloc | apply pw_below_drewN | apply below_drew1 | refine below_set ?_ GE101.out) | exact HB.out)) hb); have n2_ := Aside0.mk (hbox); have n3_ := Aside0.mk ((by rw [hg]; exact (below_size (by repeat (first | (with_reducible first | exact HB.out | apply below_alloc | apply pw_below_drewN | apply below_drew1 | refine below_set ?_ GE101.out) | exact HB.out))) : w.heap.size ≤ gb113)); have n4_ := Aside0.mk ((by rw [hg]; exact (below_size (by repeat (first | (with_reducible first | exact HB.out | apply below_alloc | apply pw_below_drewN | apply below_drew1 | refine below_set ?_ GE101.out) | exact HB.out))) : w.heap.size ≤ gb113)); have n5_ := Aside0.mk ((by rw [hg]; exact Nat.ne_of_lt (blk_lt (g := gb101) (o := .cells #[.int .i64 0, .int .i64 0] 43 (0, 0)) (by (with_reducible repeat (first | refine blk_drewN ?_ _ | refine blk_drew ?_ | refine blk_alloc ?_ _)); exact BK101.out)) : gb101 ≠ gb113)); have n6_ := Aside0.mk ((by rw [hg]; exact Nat.ne_of_gt (blk_lt (g := gb101) (o := .cells #[.int .i64 0, .int .i64 0] 43 (0, 0)) (by (with_reducible repeat (first | refine blk_drewN ?_ _ | refine blk_drew ?_ | refine blk_alloc ?_ _)); exact BK101.out)) : gb113 ≠ gb101)); clear BK101; clear HB; have BK101 := n0_; have HB := n1_; have BK113 := n2_; have GW113 := n3_; have GE113 := n4_; have NB101_113 := n5_; have NB113_101 := n6_; clear n0_ n1_ n2_ n3_ n4_ n5_ n6_; clear hb hbox hg; have hnb25 := NB113_101.out; have hnc25 := NB101_113.out; have hcz26_0 : w24.cell? ⟨gb113, 0, none⟩ = some (.int .i64 0) := (blk_cell BK113.out 0).trans rfl; have hcz26_1 : w24.cell? ⟨gb113, 1, none⟩ = some (.int .i64 0) := (blk_cell BK113.out 1).trans rfl; have hfz26_0 := blk_frozen BK113.out 0; have hfz26_1 := blk_frozen BK113.out 1; have hcz27_0 : w24.cell? ⟨gb101, 0, none⟩ = some (.int .i64 0) := (blk_cell BK101.out 0).trans rfl; have hcz27_1 : w24.cell? ⟨gb101, 1, none⟩ = some (.int .i64 0) := (blk_cell BK101.out 1).trans rfl; have hfz27_0 := blk_frozen BK101.out 0; have hfz27_1 := blk_frozen BK101.out 1))
        refine bodyPost_ret (results_cell_row rfl _ _ gb101 43 #[.int .i64 t110, .int .i64 t110] (0, 0) _ rfl (by (with_reducible repeat (first | refine blk_drewN ?_ _ | refine blk_drew ?_ | refine blk_alloc ?_ _)); refine blk_put (cs := #[.int .i64 t110, .int .i64 0]) ?_ 1 _ rfl; (with_reducible repeat (first | refine blk_drewN ?_ _ | refine blk_drew ?_ | refine blk_alloc ?_ _)); refine blk_put (cs := #[.int .i64 0, .int .i64 0]) ?_ 0 _ rfl; (with_reducible repeat (first | refine blk_drewN ?_ _ | refine blk_drew ?_ | refine blk_alloc ?_ _)); refine blk_far ?_ NB101_113.out _; (with_reducible repeat (first | refine blk_drewN ?_ _ | refine blk_drew ?_ | refine blk_alloc ?_ _)); refine blk_far ?_ NB101_113.out _; (with_reducible repeat (first | refine blk_drewN ?_ _ | refine blk_drew ?_ | refine blk_alloc ?_ _)); exact BK101.out) Try.underlying43 rfl (by kernel_rfl)) rfl ?_
        exact ⟨by first | rfl | (simp [errW_none, errW_some] <;> rfl) | (simp only [← hji4]; first | rfl | (simp [errW_none, errW_some] <;> rfl)) | (simp [*, errW_none, errW_some] <;> rfl), by repeat (first | (with_reducible first | exact HB.out | apply below_alloc | apply pw_below_drewN | apply below_drew1 | refine below_set ?_ GE101.out | refine below_set ?_ GE113.out) | exact HB.out)⟩
  · rw [if_neg c3] at H
    exact absurd H (by simp)

end Go.Proofs.Ytmglkelmdcpinaa.G
/- The contract of the function roots_root (number 102 of the translation): what its call computes, as a plain Lean function; memory that was there stays as it was. Conditions: none beyond the theorem's own. Written by a program (gprint.py). -/
namespace Go.Proofs.Ytmglkelmdcpinaa.G
open Go.RowKit Go.Proofs.YtmglkelmdcpinaaW.PrintWords Go.Proofs.YtmglkelmdcpinaaW.PrintLast Go.Proofs.YtmglkelmdcpinaaW.PrintMore
attribute [local go_sem] max2_int min2_int max_two min_two max_three min_three max_four min_four   -- for this text's walks alone
set_option linter.unusedVariables false
set_option linter.unusedSimpArgs false

/-! ### roots_root: function 102 -/
def roots_root.f (a0 : Int) (a1 : Int) (a2 : Int) : Option (Int × Int) := if 0 ≤ a0 then ((roots_point.f a0 (Go.bits .and .i64 (wrap64 (4 * (Go.bits .and .i64 a1 (wrap64 ((shl .i64 1 a0) - 1))))) (wrap64 ((shl .i64 1 a0) - 1)))).bind fun bt102 => ((cx_Shift.f bt102.1 bt102.2 (wrap64 (56 - a2)) 1).bind fun bt104 => ((cx_Turn.f bt104.1 bt104.2.1 (shr .i64 (wrap64 (4 * (Go.bits .and .i64 a1 (wrap64 ((shl .i64 1 a0) - 1))))) a0)).bind fun bt108 => ((cx_Conj.f bt108.1 bt108.2.1).bind fun bt111 => (some (bt111.1, bt111.2.1)))))) else (none)
def roots_root.T4 : Bool × List (List Nat × List Nat) := (true, [([], []), ([], []), ([1], [1]), ([], []), ([2, 3], [2, 3]), ([0, 4], [0, 4]), ([5], [5]), ([6], [6]), ([6], [6]), ([7, 5, 0, 1, 2, 3, 4, 5, 6, 7], [7])])
def roots_root.B4 : List Nat := [0, 0, 2, 0, 14, 31, 63, 127, 127, 255]
theorem roots_root.tab4 : rtab .any (opsOf Try.f102 4) = roots_root.T4 := by kernel_rfl
theorem roots_root.bits4 : waitsOk roots_root.T4.2 roots_root.B4 = true := by kernel_rfl
set_option maxHeartbeats 8000000 in
set_option maxRecDepth 100000 in
theorem roots_root.calls (a0 : Int) (a1 : Int) (a2 : Int) (r1 : Int) (r2 : Int) (w : World) (h : roots_root.f a0 a1 a2 = some (r1, r2)) :
    Calls Try.prog 102 #[.int .i64 a0, .int .i64 a1, .int .i64 a2] w fun e w' => e = .returned (.agg #[.int .i64 r1, .int .i64 r2]) ∧ Below w.heap.size w w' := by
  have hu43 := Try.underlying43
  have HB := Aside0.mk (Below.refl w.heap.size w)
  have H : (if 0 ≤ a0 then ((roots_point.f a0 (Go.bits .and .i64 (wrap64 (4 * (Go.bits .and .i64 a1 (wrap64 ((shl .i64 1 a0) - 1))))) (wrap64 ((shl .i64 1 a0) - 1)))).bind fun bt102 => ((cx_Shift.f bt102.1 bt102.2 (wrap64 (56 - a2)) 1).bind fun bt104 => ((cx_Turn.f bt104.1 bt104.2.1 (shr .i64 (wrap64 (4 * (Go.bits .and .i64 a1 (wrap64 ((shl .i64 1 a0) - 1))))) a0)).bind fun bt108 => ((cx_Conj.f bt108.1 bt108.2.1).bind fun bt111 => (some (bt111.1, bt111.2.1)))))) else (none)) = some (r1, r2) := h
  clear h
  by_cases c4 : 0 ≤ a0
  · rw [if_pos c4] at H
    have c4b0 := eq_true c4
    have c4b1 : decide (0 ≤ a0) = true := decide_eq_true c4
    clear c4
    obtain ⟨ji5, hji5⟩ : ∃ j_ : Int, (shl .i64 1 a0) = j_ := ⟨_, rfl⟩
    replace H : ((roots_point.f a0 (Go.bits .and .i64 (wrap64 (4 * (Go.bits .and .i64 a1 (wrap64 ((ji5) - 1))))) (wrap64 ((ji5) - 1)))).bind fun bt102 => ((cx_Shift.f bt102.1 bt102.2 (wrap64 (56 - a2)) 1).bind fun bt104 => ((cx_Turn.f bt104.1 bt104.2.1 (shr .i64 (wrap64 (4 * (Go.bits .and .i64 a1 (wrap64 ((ji5) - 1))))) a0)).bind fun bt108 => ((cx_Conj.f bt108.1 bt108.2.1).bind fun bt111 => (some (bt111.1, bt111.2.1)))))) = some (r1, r2) := by first | (rw [hji5] at H; exact H) | (simp only [hji5] at H ⊢; exact H)
    have hji5_ : (IntKind.i64.wrap (1 * 2 ^ min a0.toNat 64)) = ji5 := hji5
    have hji5z : a0 ≤ 64 → (IntKind.i64.wrap (1 * 2 ^ a0.toNat)) = ji5 := shl_small hji5
    have hji5u : (IntKind.i64.wrap (2 ^ min a0.toNat 64)) = ji5 := by have h_ := hji5_; rw [Int.one_mul] at h_; exact h_
    have hji5v : a0 ≤ 64 → (IntKind.i64.wrap (2 ^ a0.toNat)) = ji5 := fun hle_ => by have h_ := hji5z hle_; rw [Int.one_mul] at h_; exact h_
    have hji5y : (wrap64 (1 * 2 ^ min a0.toNat 64)) = ji5 := (i64_w _).symm.trans hji5_
    have hji5x : a0 ≤ 64 → (wrap64 (1 * 2 ^ a0.toNat)) = ji5 := fun h_ => (i64_w _).symm.trans (hji5z h_)
    replace H := Option.bind_eq_some_iff.mp H
    obtain ⟨⟨t102, t103⟩, A60, H⟩ := H
    replace H : ((cx_Shift.f t102 t103 (wrap64 (56 - a2)) 1).bind fun bt104 => ((cx_Turn.f bt104.1 bt104.2.1 (shr .i64 (wrap64 (4 * (Go.bits .and .i64 a1 (wrap64 ((ji5) - 1))))) a0)).bind fun bt108 => ((cx_Conj.f bt108.1 bt108.2.1).bind fun bt111 => (some (bt111.1, bt111.2.1))))) = some (r1, r2) := H
    have A6 := Aside0.mk A60
    clear A60
    replace H := Option.bind_eq_some_iff.mp H
    obtain ⟨⟨t104, t105, t106⟩, A70, H⟩ := H
    replace H : ((cx_Turn.f t104 t105 (shr .i64 (wrap64 (4 * (Go.bits .and .i64 a1 (wrap64 ((ji5) - 1))))) a0)).bind fun bt108 => ((cx_Conj.f bt108.1 bt108.2.1).bind fun bt111 => (some (bt111.1, bt111.2.1)))) = some (r1, r2) := H
    have A7 := Aside0.mk A70
    clear A70
    have c8b0 := eq_true (of_decide_eq_true (by first | (with_reducible assumption) | assumption) : 0 ≤ a0)
    obtain ⟨ji9, hji9⟩ : ∃ j_ : Int, (shr .i64 (wrap64 (4 * (Go.bits .and .i64 a1 (wrap64 ((ji5) - 1))))) a0) = j_ := ⟨_, rfl⟩
    replace H : ((cx_Turn.f t104 t105 (ji9)).bind fun bt108 => ((cx_Conj.f bt108.1 bt108.2.1).bind fun bt111 => (some (bt111.1, bt111.2.1)))) = some (r1, r2) := by first | (rw [hji9] at H; exact H) | (simp only [hji9] at H ⊢; exact H)
    (try rw [hji9] at A6)
    (try rw [hji9] at A7)
    have hji9_ : ((wrap64 (4 * (Go.bits .and .i64 a1 (wrap64 ((ji5) - 1))))) / 2 ^ min a0.toNat 64) = ji9 := hji9
    have hji9z : a0 ≤ 64 → ((wrap64 (4 * (Go.bits .and .i64 a1 (wrap64 ((ji5) - 1))))) / 2 ^ a0.toNat) = ji9 := shr_small hji9
    replace H := Option.bind_eq_some_iff.mp H
    obtain ⟨⟨t108, t109, t110⟩, A100, H⟩ := H
    replace H : ((cx_Conj.f t108 t109).bind fun bt111 => (some (bt111.1, bt111.2.1))) = some (r1, r2) := H
    have A10 := Aside0.mk A100
    clear A100
    replace H := Option.bind_eq_some_iff.mp H
    obtain ⟨⟨t111, t112, t113⟩, A110, H⟩ := H
    replace H : (some (t111, t112)) = some (r1, r2) := H
    have A11 := Aside0.mk A110
    clear A110
    simp only [Option.some.injEq, Prod.mk.injEq] at H
    obtain ⟨rfl, rfl⟩ := H
    go_enter Try.func102, Try.ntmps102
    try go_wp2_with (first | ((with_reducible refine gate_dst (N := 6) rfl ?_); refine box_event ?hg (N := 6) ?hd (cs := #[.int .i64 0, .int .i64 0]) (t := 43) ?hr ?_; (case hd => rfl); (case hg => rfl); (case hr => first | (go_simp; done) | (go_simp; rfl)); intro gb101 hg w12 hbox hb; have n0_ := Aside0.mk (below_step (by repeat (first | (with_reducible first | exact HB.out | apply below_alloc | apply pw_below_drewN | apply below_drew1) | exact HB.out)) hb); have n1_ := Aside0.mk (hbox); have n2_ := Aside0.mk ((by rw [hg]; exact (below_size (by repeat (first | (with_reducible first | exact HB.out | apply below_alloc | apply pw_below_drewN | apply below_drew1) | exact HB.out))) : w.heap.size ≤ gb101)); have n3_ := Aside0.mk ((by rw [hg]; exact (below_size (by repeat (first | (with_reducible first | exact HB.out | apply below_alloc | apply pw_below_drewN | apply below_drew1) | exact HB.out))) : w.heap.size ≤ gb101)); clear HB; have HB := n0_; have BK101 := n1_; have GW101 := n2_; have GE101 := n3_; clear n0_ n1_ n2_ n3_; clear hb hbox hg) | ((with_reducible refine gate_callee (f := 150) rfl ?_); refine goesL_ (some 24) rfl rfl Try.func150 (by kernel_rfl) rfl #[.int .i64 a0, .int .i64 (Go.bits .and .i64 (wrap64 (4 * (Go.bits .and .i64 a1 (wrap64 ((ji5) - 1))))) (wrap64 ((ji5) - 1)))] rfl (by (try simp only [List.map_toArray, List.map_cons, List.map_nil]); first | done | (simp only [hji5]; rfl) | rfl | (simp only [List.length_drop, List.length_take]; rfl)) ?_; (with_reducible refine (roots_point.calls a0 (Go.bits .and .i64 (wrap64 (4 * (Go.bits .and .i64 a1 (wrap64 ((ji5) - 1))))) (wrap64 ((ji5) - 1))) t102 t103 _ A6.out).mono ?_); rintro e w13 ⟨rfl, hb⟩; refine ⟨_, rfl, ?_⟩; have n0_ := Aside0.mk (blk_below (g := gb101) (o := .cells #[.int .i64 0, .int .i64 0] 43 (0, 0)) (by (with_reducible repeat (first | refine blk_drewN ?_ _ | refine blk_drew ?_ | refine blk_alloc ?_ _)); exact BK101.out) hb); have n1_ := Aside0.mk (below_step (by repeat (first | (with_reducible first | exact HB.out | apply below_alloc | apply pw_below_drewN | apply below_drew1 | refine below_set ?_ GE101.out) | exact HB.out)) hb); clear BK101; clear HB; have BK101 := n0_; have HB := n1_; clear n0_ n1_; (try clear hb); (try clear hb2); (try clear hk); (try clear hi)) | ((with_reducible refine gate_callee (f := 138) rfl ?_); refine goesL_ (some 27) rfl rfl Try.func138 (by kernel_rfl) rfl #[.agg #[.int .i64 t102, .int .i64 t103], .int .i64 (wrap64 (56 - a2)), .int .i64 1] rfl (by (try simp only [List.map_toArray, List.map_cons, List.map_nil]); first | done | rfl | (simp only [List.length_drop, List.length_take]; rfl)) ?_; (with_reducible refine (cx_Shift.calls t102 t103 (wrap64 (56 - a2)) 1 t104 t105 t106 _ A7.out).mono ?_); rintro e w14 ⟨rfl, hb⟩; refine ⟨_, rfl, ?_⟩; have n0_ := Aside0.mk (blk_below (g := gb101) (o := .cells #[.int .i64 0, .int .i64 0] 43 (0, 0)) (by (with_reducible repeat (first | refine blk_drewN ?_ _ | refine blk_drew ?_ | refine blk_alloc ?_ _)); exact BK101.out) hb); have n1_ := Aside0.mk (below_step (by repeat (first | (with_reducible first | exact HB.out | apply below_alloc | apply pw_below_drewN | apply below_drew1 | refine below_set ?_ GE101.out) | exact HB.out)) hb); clear BK101; clear HB; have BK101 := n0_; have HB := n1_; clear n0_ n1_; (try clear hb); (try clear hb2); (try clear hk); (try clear hi)) | ((with_reducible refine gate_dst (N := 9) rfl ?_); refine box_event ?hg (N := 9) ?hd (cs := #[.int .i64 0, .int .i64 0]) (t := 43) ?hr ?_; (case hd => rfl); (case hg => rfl); (case hr => first | (go_simp; done) | (go_simp; rfl)); intro gb107 hg w15 hbox hb; have n0_ := Aside0.mk (blk_below (g := gb101) (o := .cells #[.int .i64 0, .int .i64 0] 43 (0, 0)) (by (with_reducible repeat (first | refine blk_drewN ?_ _ | refine blk_drew ?_ | refine blk_alloc ?_ _)); exact BK101.out) hb); have n1_ := Aside0.mk (below_step (by repeat (first | (with_reducible first | exact HB.out | apply below_alloc | apply pw_below_drewN | apply below_drew1 | refine below_set ?_ GE101.out) | exact HB.out)) hb); have n2_ := Aside0.mk (hbox); have n3_ := Aside0.mk ((by rw [hg]; exact (below_size (by repeat (first | (with_reducible first | exact HB.out | apply below_alloc | apply pw_below_drewN | apply below_drew1 | refine below_set ?_ GE101.out) | exact HB.out))) : w.heap.size ≤ gb107)); have n4_ := Aside0.mk ((by rw [hg]; exact (below_size (by repeat (first | (with_reducible first | exact HB.out | apply below_alloc | apply pw_below_drewN | apply below_drew1 | refine below_set ?_ GE101.out) | exact HB.out))) : w.heap.size ≤ gb107)); have n5_ := Aside0.mk ((by rw [hg]; exact Nat.ne_of_lt (blk_lt (g := gb101) (o := .cells #[.int .i64 0, .int .i64 0] 43 (0, 0)) (by (with_reducible repeat (first | refine blk_drewN ?_ _ | refine blk_drew ?_ | refine blk_alloc ?_ _)); exact BK101.out)) : gb101 ≠ gb107)); have n6_ := Aside0.mk ((by rw [hg]; exact Nat.ne_of_gt (blk_lt (g := gb101) (o := .cells #[.int .i64 0, .int .i64 0] 43 (0, 0)) (by (with_reducible repeat (first | refine blk_drewN ?_ _ | refine blk_drew ?_ | refine blk_alloc ?_ _)); exact BK101.out)) : gb107 ≠ gb101)); clear BK101; clear HB; have BK101 := n0_; have HB := n1_; have BK107 := n2_; have GW107 := n3_; have GE107 := n4_; have NB101_107 := n5_; have NB107_101 := n6_; clear n0_ n1_ n2_ n3_ n4_ n5_ n6_; clear hb hbox hg; have hnb16 := NB107_101.out; have hnc16 := NB101_107.out; have hcz17_0 : w15.cell? ⟨gb107, 0, none⟩ = some (.int .i64 0) := (blk_cell BK107.out 0).trans rfl; have hcz17_1 : w15.cell? ⟨gb107, 1, none⟩ = some (.int .i64 0) := (blk_cell BK107.out 1).trans rfl; have hfz17_0 := blk_frozen BK107.out 0; have hfz17_1 := blk_frozen BK107.out 1))
    have n0_ : Aside0 (((w15.setCell ⟨gb107, 0, none⟩ (.int .i64 t104)).setCell ⟨gb107, 1, none⟩ (.int .i64 t105)).heap[gb101]? = some (.cells #[.int .i64 0, .int .i64 0] 43 (0, 0))) := ⟨by (with_reducible repeat (first | refine blk_drewN ?_ _ | refine blk_drew ?_ | refine blk_alloc ?_ _)); refine blk_far ?_ NB101_107.out _; (with_reducible repeat (first | refine blk_drewN ?_ _ | refine blk_drew ?_ | refine blk_alloc ?_ _)); refine blk_far ?_ NB101_107.out _; (with_reducible repeat (first | refine blk_drewN ?_ _ | refine blk_drew ?_ | refine blk_alloc ?_ _)); exact BK101.out⟩
    have n1_ : Aside0 (((w15.setCell ⟨gb107, 0, none⟩ (.int .i64 t104)).setCell ⟨gb107, 1, none⟩ (.int .i64 t105)).heap[gb107]? = some (.cells #[.int .i64 t104, .int .i64 t105] 43 (0, 0))) := ⟨by (with_reducible repeat (first | refine blk_drewN ?_ _ | refine blk_drew ?_ | refine blk_alloc ?_ _)); refine blk_put (cs := #[.int .i64 t104, .int .i64 0]) ?_ 1 _ rfl; (with_reducible repeat (first | refine blk_drewN ?_ _ | refine blk_drew ?_ | refine blk_alloc ?_ _)); refine blk_put (cs := #[.int .i64 0, .int .i64 0]) ?_ 0 _ rfl; (with_reducible repeat (first | refine blk_drewN ?_ _ | refine blk_drew ?_ | refine blk_alloc ?_ _)); exact BK107.out⟩
    have n2_ : Aside0 (Below w.heap.size w ((w15.setCell ⟨gb107, 0, none⟩ (.int .i64 t104)).setCell ⟨gb107, 1, none⟩ (.int .i64 t105))) := ⟨by repeat (first | (with_reducible first | exact HB.out | apply below_alloc | apply pw_below_drewN | apply below_drew1 | refine below_set ?_ GE101.out | refine below_set ?_ GE107.out) | exact HB.out)⟩
    (try clear BK101)
    (try clear BK107)
    (try clear HB)
    generalize ((w15.setCell ⟨gb107, 0, none⟩ (.int .i64 t104)).setCell ⟨gb107, 1, none⟩ (.int .i64 t105)) = w18 at n0_ n1_ n2_ ⊢
    have BK101 := n0_
    have BK107 := n1_
    have HB := n2_
    clear n0_ n1_ n2_
    have n0_ := Aside0.mk (blk_drew BK101.out)
    have n1_ := Aside0.mk (blk_drew BK107.out)
    have n2_ := Aside0.mk (below_drew1 HB.out)
    clear BK101
    clear BK107
    clear HB
    have BK101 := n0_
    have BK107 := n1_
    have HB := n2_
    clear n0_ n1_ n2_
    refine start_ (n := 10) (S := fun w' => w'.cell? ⟨gb107, 0, none⟩ = some (.int .i64 t104) ∧ w'.cell? ⟨gb107, 1, none⟩ = some (.int .i64 t105)) (ds := [9]) #[false, false, false, false, false, false, false, false, false, false] (by kernel_rfl) rfl rfl ⟨(blk_cell BK107.out 0).trans rfl, (blk_cell BK107.out 1).trans rfl⟩ (fun hHeld => ?_); refine with_tabW roots_root.tab4 roots_root.bits4 (fun HT_ HW_ => ?_)
    generalize w18.drew = w19 at BK101 BK107 HB hHeld ⊢
    refine pure_ (i := 1) (N := some 32) (v := ?_) (a' := ?_) #[false, true, false, false, false, false, false, false, false, false] rfl rfl (any_of HT_.out (by kernel_rfl)) (fun _ _ _ h => h) (Or.inl ⟨by rfl, ?_⟩) ?_ ?_
    rotate_left
    · intro w'
      go_simp
      with_reducible rfl
    rotate_left
    · simp only [Act.put, List.setIfInBounds_toArray, List.set_cons_zero, List.set_cons_succ, i64_w, i32_w]
      rfl
    refine pure_ (i := 2) (N := some 33) (v := ?_) (a' := ?_) #[false, true, true, false, false, false, false, false, false, false] rfl rfl (any_of HT_.out (by kernel_rfl)) (fun _ _ _ h => h) (Or.inl ⟨by rfl, ?_⟩) ?_ ?_
    rotate_left
    · intro w'
      go_simp
      with_reducible rfl
    rotate_left
    · simp only [Act.put, List.setIfInBounds_toArray, List.set_cons_zero, List.set_cons_succ, i64_w, i32_w]
      rfl
    refine pure_ (i := 3) (N := some 34) (v := ?_) (a' := ?_) #[false, true, true, true, false, false, false, false, false, false] rfl rfl (any_of HT_.out (by kernel_rfl)) (fun _ _ _ h => h) (Or.inl ⟨by rfl, ?_⟩) ?_ ?_
    rotate_left
    · intro w'
      go_simp
      with_reducible rfl
    rotate_left
    · simp only [Act.put, List.setIfInBounds_toArray, List.set_cons_zero, List.set_cons_succ, i64_w, i32_w]
      rfl
    refine pure_ (i := 4) (N := some 35) (v := ?_) (a' := ?_) #[false, true, true, true, true, false, false, false, false, false] rfl rfl (any_of HT_.out (by kernel_rfl)) (fun _ _ _ h => h) (Or.inl ⟨by rfl, ?_⟩) ?_ ?_
    rotate_left
    · intro w'
      go_simp
      with_reducible rfl
    rotate_left
    · simp only [Act.put, List.setIfInBounds_toArray, List.set_cons_zero, List.set_cons_succ, i64_w, i32_w]
      rfl
    refine take_ (i := 0) (N := some 31) (v := ?_) (a' := ?_) #[true, true, true, true, true, false, false, false, false, false] rfl rfl (take_ofW HT_.out HW_.out (by kernel_rfl)) (fun _ _ _ h => h) (Or.inl ⟨by rfl, ?_⟩) hHeld ?_ ?_
    rotate_left
    · rintro w' ⟨s0, s1⟩
      go_simp
      with_reducible rfl
    rotate_left
    · simp only [Act.put, List.setIfInBounds_toArray, List.set_cons_zero, List.set_cons_succ, i64_w, i32_w]
      rfl
    refine one_ (i := 5) (N := some 36) #[true, true, true, true, true, true, false, false, false, false] rfl rfl (one_of HT_.out (by kernel_rfl)) (by decide) (fun K hK => ?_)
    refine goes_ Try.func40 (by kernel_rfl) rfl #[.agg #[.int .i64 t104, .int .i64 t105], .int .i64 ji9] (by rfl) rfl rfl (by (try simp only [List.map_toArray, List.map_cons, List.map_nil]); first | done | (simp only [hji9]; rfl) | rfl | (simp only [List.length_drop, List.length_take]; rfl)) ?_
    with_reducible refine (cx_Turn.calls t104 t105 ji9 t108 t109 t110 _ A10.out).mono ?_
    rintro e w20 ⟨rfl, hb⟩
    refine ⟨_, rfl, ?_⟩
    have n0_ := Aside0.mk (blk_below (g := gb101) (o := .cells #[.int .i64 0, .int .i64 0] 43 (0, 0)) (by (with_reducible repeat (first | refine blk_drewN ?_ _ | refine blk_drew ?_ | refine blk_alloc ?_ _)); exact BK101.out) hb)
    have n1_ := Aside0.mk (blk_below (g := gb107) (o := .cells #[.int .i64 t104, .int .i64 t105] 43 (0, 0)) (by (with_reducible repeat (first | refine blk_drewN ?_ _ | refine blk_drew ?_ | refine blk_alloc ?_ _)); exact BK107.out) hb)
    have n2_ := Aside0.mk (below_step (by repeat (first | (with_reducible first | exact HB.out | apply below_alloc | apply pw_below_drewN | apply below_drew1 | refine below_set ?_ GE101.out | refine below_set ?_ GE107.out) | exact HB.out)) hb)
    clear BK101
    clear BK107
    clear HB
    have BK101 := n0_
    have BK107 := n1_
    have HB := n2_
    clear n0_ n1_ n2_
    (try clear hb)
    (try clear hb2)
    (try clear hk)
    (try clear hi)
    refine hK.out _ _ ⟨(blk_cell BK107.out 0).trans rfl, (blk_cell BK107.out 1).trans rfl⟩ (fun hHeld => ?_)
    clear hK K
    refine norm_ (a' := ?_) ?_ ?_
    rotate_left
    · show Act.put _ (some 36) _ = _
      simp only [Act.put, List.setIfInBounds_toArray, List.set_cons_zero, List.set_cons_succ, i64_w, i32_w]
      rfl
    refine pure_ (i := 6) (N := some 30) (v := ?_) (a' := ?_) #[true, true, true, true, true, true, true, false, false, false] rfl rfl (any_of HT_.out (by kernel_rfl)) (fun _ _ _ h => h) (Or.inl ⟨by rfl, ?_⟩) ?_ ?_
    rotate_left
    · intro w'
      go_simp
      with_reducible rfl
    rotate_left
    · simp only [Act.put, List.setIfInBounds_toArray, List.set_cons_zero, List.set_cons_succ, i64_w, i32_w]
      rfl
    refine pure_ (i := 7) (N := some 37) (v := ?_) (a' := ?_) #[true, true, true, true, true, true, true, true, false, false] rfl rfl (any_of HT_.out (by kernel_rfl)) (fun _ _ _ h => h) (Or.inl ⟨by rfl, ?_⟩) ?_ ?_
    rotate_left
    · intro w'
      go_simp
      with_reducible rfl
    rotate_left
    · simp only [Act.put, List.setIfInBounds_toArray, List.set_cons_zero, List.set_cons_succ, i64_w, i32_w]
      rfl
    refine pure_ (i := 8) (N := some 38) (v := ?_) (a' := ?_) #[true, true, true, true, true, true, true, true, true, false] rfl rfl (any_of HT_.out (by kernel_rfl)) (fun _ _ _ h => h) (Or.inl ⟨by rfl, ?_⟩) ?_ ?_
    rotate_left
    · intro w'
      go_simp
      with_reducible rfl
    rotate_left
    · simp only [Act.put, List.setIfInBounds_toArray, List.set_cons_zero, List.set_cons_succ, i64_w, i32_w]
      rfl
    refine last_ (i := 9) (N := none) #[true, true, true, true, true, true, true, true, true, true] rfl rfl (one_of HT_.out (by kernel_rfl)) (by decide) (fun K hK => ?_)
    have hs21 : w20.cell? ⟨gb107, 0, none⟩ = some (.int .i64 t104) := (blk_cell BK107.out 0).trans rfl
    have hfs21 := blk_frozen BK107.out 0
    have hns21_0 := NB101_107.out
    have hms21_0 := NB107_101.out
    have hs22 : w20.cell? ⟨gb107, 1, none⟩ = some (.int .i64 t105) := (blk_cell BK107.out 1).trans rfl
    have hfs22 := blk_frozen BK107.out 1
    have hns22_0 := NB101_107.out
    have hms22_0 := NB107_101.out
    refine skip_ (w1 := ?_) (by rfl) rfl ?_ ?_
    rotate_left
    · go_simp
      rfl
    refine hK.out _ _ ?_
    clear hK K
    refine done_ (done_of HT_.out (by kernel_rfl)) ?_
    have hcz23_0 : w20.cell? ⟨gb107, 0, none⟩ = some (.int .i64 t104) := (blk_cell BK107.out 0).trans rfl
    have hcz23_1 : w20.cell? ⟨gb107, 1, none⟩ = some (.int .i64 t105) := (blk_cell BK107.out 1).trans rfl
    have hfz23_0 := blk_frozen BK107.out 0
    have hfz23_1 := blk_frozen BK107.out 1
    try go_wp2_with (first | ((with_reducible refine gate_callee (f := 41) rfl ?_); refine goesL_ (some 41) rfl rfl Try.func41 (by kernel_rfl) rfl #[.agg #[.int .i64 t108, .int .i64 t109]] rfl (by (try simp only [List.map_toArray, List.map_cons, List.map_nil]); first | done | rfl | (simp only [List.length_drop, List.length_take]; rfl)) ?_; (with_reducible refine (cx_Conj.calls t108 t109 t111 t112 t113 _ A11.out).mono ?_); rintro e w24 ⟨rfl, hb⟩; refine ⟨_, rfl, ?_⟩; have n0_ := Aside0.mk (blk_below (g := gb101) (o := .cells #[.int .i64 0, .int .i64 0] 43 (0, 0)) (by (with_reducible repeat (first | refine blk_drewN ?_ _ | refine blk_drew ?_ | refine blk_alloc ?_ _)); refine blk_far ?_ NB101_107.out _; (with_reducible repeat (first | refine blk_drewN ?_ _ | refine blk_drew ?_ | refine blk_alloc ?_ _)); refine blk_far ?_ NB101_107.out _; (with_reducible repeat (first | refine blk_drewN ?_ _ | refine blk_drew ?_ | refine blk_alloc ?_ _)); exact BK101.out) hb); have n1_ := Aside0.mk (blk_below (g := gb107) (o := .cells #[.int .i64 t108, .int .i64 t109] 43 (0, 0)) (by (with_reducible repeat (first | refine blk_drewN ?_ _ | refine blk_drew ?_ | refine blk_alloc ?_ _)); refine blk_put (cs := #[.int .i64 t108, .int .i64 t105]) ?_ 1 _ rfl; (with_reducible repeat (first | refine blk_drewN ?_ _ | refine blk_drew ?_ | refine blk_alloc ?_ _)); refine blk_put (cs := #[.int .i64 t104, .int .i64 t105]) ?_ 0 _ rfl; (with_reducible repeat (first | refine blk_drewN ?_ _ | refine blk_drew ?_ | refine blk_alloc ?_ _)); exact BK107.out) hb); have n2_ := Aside0.mk (below_step (by repeat (first | (with_reducible first | exact HB.out | apply below_alloc | apply pw_below_drewN | apply below_drew1 | refine below_set ?_ GE101.out | refine below_set ?_ GE107.out) | exact HB.out)) hb); clear BK101; clear BK107; clear HB; have BK101 := n0_; have BK107 := n1_; have HB := n2_; clear n0_ n1_ n2_; (try clear hb); (try clear hb2); (try clear hk); (try clear hi); have hcz25_0 : w24.cell? ⟨gb107, 0, none⟩ = some (.int .i64 t108) := (blk_cell BK107.out 0).trans rfl; have hcz25_1 : w24.cell? ⟨gb107, 1, none⟩ = some (.int .i64 t109) := (blk_cell BK107.out 1).trans rfl; have hfz25_0 := blk_frozen BK107.out 0; have hfz25_1 := blk_frozen BK107.out 1; have hcz26_0 : w24.cell? ⟨gb101, 0, none⟩ = some (.int .i64 0) := (blk_cell BK101.out 0).trans rfl; have hcz26_1 : w24.cell? ⟨gb101, 1, none⟩ = some (.int .i64 0) := (blk_cell BK101.out 1).trans rfl; have hfz26_0 := blk_frozen BK101.out 0; have hfz26_1 := blk_frozen BK101.out 1))
    refine bodyPost_ret (results_cell_row rfl _ _ gb101 43 #[.int .i64 t111, .int .i64 t112] (0, 0) _ rfl (by (with_reducible repeat (first | refine blk_drewN ?_ _ | refine blk_drew ?_ | refine blk_alloc ?_ _)); refine blk_put (cs := #[.int .i64 t111, .int .i64 0]) ?_ 1 _ rfl; (with_reducible repeat (first | refine blk_drewN ?_ _ | refine blk_drew ?_ | refine blk_alloc ?_ _)); refine blk_put (cs := #[.int .i64 0, .int .i64 0]) ?_ 0 _ rfl; (with_reducible repeat (first | refine blk_drewN ?_ _ | refine blk_drew ?_ | refine blk_alloc ?_ _)); refine blk_far ?_ NB101_107.out _; (with_reducible repeat (first | refine blk_drewN ?_ _ | refine blk_drew ?_ | refine blk_alloc ?_ _)); refine blk_far ?_ NB101_107.out _; (with_reducible repeat (first | refine blk_drewN ?_ _ | refine blk_drew ?_ | refine blk_alloc ?_ _)); exact BK101.out) Try.underlying43 rfl (by kernel_rfl)) rfl ?_
    exact ⟨by first | rfl | (simp [errW_none, errW_some] <;> rfl) | (simp only [← hji5, ← hji9]; first | rfl | (simp [errW_none, errW_some] <;> rfl)) | (simp [*, errW_none, errW_some] <;> rfl), by repeat (first | (with_reducible first | exact HB.out | apply below_alloc | apply pw_below_drewN | apply below_drew1 | refine below_set ?_ GE101.out | refine below_set ?_ GE107.out) | exact HB.out)⟩
  · rw [if_neg c4] at H
    exact absurd H (by simp)

end Go.Proofs.Ytmglkelmdcpinaa.G
/- The contract of the function roots_Table_1 (number 111 of the translation): what its call computes, as a plain Lean function; memory that was there stays as it was. Conditions: none beyond the theorem's own. Written by a program (gprint.py). -/
namespace Go.Proofs.Ytmglkelmdcpinaa.G
open Go.RowKit Go.Proofs.YtmglkelmdcpinaaW.PrintWords Go.Proofs.YtmglkelmdcpinaaW.PrintLast Go.Proofs.YtmglkelmdcpinaaW.PrintMore
attribute [local go_sem] max2_int min2_int max_two min_two max_three min_three max_four min_four   -- for this text's walks alone
set_option linter.unusedVariables false
set_option linter.unusedSimpArgs false

/-! ### roots_Table_1: function 111 -/
set_option maxHeartbeats 2000000 in
theorem roots_Table1.calls (k L B r1 r2 : Int) (A C : Nat) (w : World) (ha : w.heap[A]? = some (.cells #[.int .i64 L] 3 (0, 0))) (hb : w.heap[C]? = some (.cells #[.int .i64 B] 3 (0, 0))) (h : roots_root.f L k B = some (r1, r2)) :
    Calls Try.prog 111 #[.int .i64 k, .pointer (some ⟨A, 0, none⟩), .pointer (some ⟨C, 0, none⟩)] w fun e w' => e = .returned (.agg #[.int .i64 r1, .int .i64 r2]) ∧ Below w.heap.size w w' := by
  have H := Aside0.mk h
  clear h
  have b0 := alloc_keeps ha (.cells #[.int .i64 0, .int .i64 0] 43)
  have b1 := alloc_keeps hb (.cells #[.int .i64 0, .int .i64 0] 43)
  have b2 := Aside0.mk (blk_new' w (.cells #[.int .i64 0, .int .i64 0] 43))
  have c0 : (w.alloc (.cells #[.int .i64 0, .int .i64 0] 43)).cell? ⟨A, 0, none⟩ = some (.int .i64 L) := (blk_cell b0 0).trans rfl
  have c1 : (w.alloc (.cells #[.int .i64 0, .int .i64 0] 43)).cell? ⟨C, 0, none⟩ = some (.int .i64 B) := (blk_cell b1 0).trans rfl
  clear b0 b1 ha hb
  go_enter Try.func111, Try.ntmps111
  go_wp2_with (fail)
  clear c0 c1
  with_reducible refine (roots_root.calls _ _ _ r1 r2 _ H.out).mono ?_
  rintro e w1 ⟨rfl, hb⟩
  have b3 := blk_below b2.out hb
  have c0 := (blk_cell b3 0).trans rfl
  have c1 := (blk_cell b3 1).trans rfl
  have f0 := blk_frozen b3 0
  have f1 := blk_frozen b3 1
  have hB := Aside0.mk (below_then (below_alloc (Below.refl _ _) _) (by simp) hb : Below w.heap.size w w1)
  clear hb b2 b3
  go_wp2_with (fail)
  refine bodyPost_ret (v := .agg #[.int .i64 r1, .int .i64 r2]) (by simp [results, Try.results111, go_sem, c0, c1]) rfl ⟨rfl, ?_⟩
  exact below_set (below_set hB.out (by simp)) (by simp)

end Go.Proofs.Ytmglkelmdcpinaa.G
/- The contract of the function api_Cx_110 (number 110 of the translation): what its call computes, as a plain Lean function; memory that was there stays as it was. Conditions: none beyond the theorem's own. Written by a program (gprint.py). -/
namespace Go.Proofs.Ytmglkelmdcpinaa.G
open Go.RowKit Go.Proofs.YtmglkelmdcpinaaW.PrintWords Go.Proofs.YtmglkelmdcpinaaW.PrintLast Go.Proofs.YtmglkelmdcpinaaW.PrintMore
attribute [local go_sem] max2_int min2_int max_two min_two max_three min_three max_four min_four   -- for this text's walks alone
set_option linter.unusedVariables false
set_option linter.unusedSimpArgs false

/-! ### api_Cx_110: function 110 -/
def tabS (tab : Nat → Int × Int) (k : Nat) : S43 := ⟨(tab k).1, (tab k).2⟩
theorem tab_step (tab : Nat → Int × Int) (k n : Nat) (h : k < n) : ((List.range k).map (tabS tab) ++ List.replicate (n - k) z43).set k (tabS tab k) = (List.range (k + 1)).map (tabS tab) ++ List.replicate (n - (k + 1)) z43 := by
  rw [List.set_append_right _ _ (by simp)]
  rw [List.length_map, List.length_range, Nat.sub_self, List.range_succ, List.map_append, List.append_assoc]
  congr 1
  rw [show n - k = (n - (k + 1)) + 1 by omega, List.replicate_succ]
  rfl
set_option maxHeartbeats 4000000 in
theorem roots_gather.calls (n : Nat) (hn0 : 0 < n) (hn : n ≤ 64) (L B : Int) (A C : Nat) (tab : Nat → Int × Int) (w : World) (ha : w.heap[A]? = some (.cells #[.int .i64 L] 3 (0, 0))) (hb : w.heap[C]? = some (.cells #[.int .i64 B] 3 (0, 0)))
    (h : ∀ k : Nat, k < n → roots_root.f L k B = some (tab k)) :
    Calls Try.prog 110 #[.int .i64 n, .func (.func 111) #[] #[.pointer (some ⟨A, 0, none⟩), .pointer (some ⟨C, 0, none⟩)]] w fun e w' => ∃ v0_ : Value, e = .returned v0_ ∧ Kd.R k43 43 w' w.heap.size (fun _ => True) v0_ ((List.range n).map (tabS tab)) ∧ Below w.heap.size w w' := by
  have H := Aside0.mk h
  have HA := Aside0.mk ha
  have HC := Aside0.mk hb
  clear h ha hb
  go_enter Try.func110, Try.ntmps110
  go_wp2_with ((with_reducible refine gate_dst (N := 8) rfl ?_); apply Classical.byContradiction; intro hneg)
  apply hneg
  clear hneg
  refine Kd.R_make k43 (w0 := w) w.heap.size 43 rfl rfl 33 (.tmp 7) (.tmp 7) rfl n rfl rfl Try.underlying33 (.agg #[.int .i64 0, .int .i64 0]) 16 info43 rfl (by decide) (by decide) z43 (ok := fun _ => True) (okp := fun _ => False) (k43_mkM _ _ _ z43) (fun _ _ => trivial) trivial (by omega) (by omega) (Below.refl _ _) (Nat.le_refl _) ?_
  intro v1 w1 hR hB _ _
  rw [Int.toNat_natCast] at hR
  obtain ⟨g, cap, rfl, hg0, hg1, _⟩ := Kd.R_form hR (by simpa using hn0)
  rw [List.length_replicate] at hR ⊢
  have HR := Aside0.mk hR
  have HB := Aside0.mk hB
  clear hR hB hg1
  go_wp2
  go_loopw [11] (fun v wr => ∃ k : Nat, k ≤ n ∧ v = .int .i64 k ∧ Aside0 (Kd.R k43 43 wr w.heap.size (fun _ => True) (.slice (some ⟨g, 0, none⟩) n cap) ((List.range k).map (tabS tab) ++ List.replicate (n - k) z43)) ∧ Aside0 (Below w.heap.size w wr)) (fun v _ => n - (intOf v).toNat)
  case atStart => exact ⟨0, by omega, rfl, by simpa using HR, HB⟩
  case round =>
    clear HR HB
    obtain ⟨k, hk, rfl, HR, HB⟩ := hrel
    by_cases hlt : k < n
    · have g0 : (k : Int) < n := by omega
      have H1 := Aside0.mk (roots_Table1.calls k L B (tab k).1 (tab k).2 A C wr (blk_below HA.out HB.out) (blk_below HC.out HB.out) (H.out k hlt))
      go_wp2_with (fail)
      refine H1.out.mono ?_
      rintro e w2 ⟨rfl, hb⟩
      have HR2 := Aside0.mk (Kd.R_below HR.out hb)
      have HB2 := Aside0.mk (below_then HB.out HB.out.size hb)
      clear hb HR HB H1
      go_wp2_with ((refine gate_ (.store 43 (.tmp 19) (.tmp 18)) rfl ?_); apply Classical.byContradiction; intro hneg)
      apply hneg
      clear hneg
      obtain ⟨c, hcl, _, hcc⟩ := Kd.R_get HR2.out z43 k (by omega) (by omega)
      refine Kd.R_store k43 (w0 := w) w.heap.size rfl rfl 43 (.tmp 19) (.tmp 18) rfl 43 (k : Int) 0 _ (tabS tab k) (.agg #[.int .i64 (tab k).1, .int .i64 (tab k).2]) [.int .i64 (tab k).1, .int .i64 (tab k).2] c (fun _ => True) (fun _ => False) rfl ?_ rfl rfl (by kernel_rfl) ?_ HR2.out (by omega) (by omega) hcl ?_ (show 0 + 2 ≤ 2 from Nat.le_refl 2) ?_ (fun _ h => h.elim) HB2.out ?_
      · show k * 2 = (k : Int).toNat * 2 + 0
        simp
      · intro q hq
        simp at hq
        rcases hq with rfl | rfl <;> rfl
      · intro j u hu
        have h1 := hcc j u hu
        rw [add_at, Nat.zero_add] at h1
        exact h1
      · have hc2 : c.length = 2 := hcl
        have e : c.take 0 ++ [.int .i64 (tab k).1, .int .i64 (tab k).2] ++ c.drop (0 + 2) = [.int .i64 (tab k).1, .int .i64 (tab k).2] := by
          rw [List.drop_eq_nil_of_le (by omega)]
          rfl
        show k43.M _ _ _ _ (c.take 0 ++ [.int .i64 (tab k).1, .int .i64 (tab k).2] ++ c.drop (0 + 2))
        rw [e]
        exact k43_mkM _ _ _ (tabS tab k)
      intro w3 hR3 hB3 _
      rw [Int.toNat_natCast, tab_step tab k n hlt] at hR3
      have HR3 := Aside0.mk hR3
      have HB3 := Aside0.mk hB3
      clear hR3 hB3 HR2 HB2 hcc hcl
      go_wp2_with (fail)
      refine ⟨⟨k + 1, by omega, by go_num, HR3, HB3⟩, ?_⟩
      simp [intOf]
      omega
    · have g0 : ¬ (k : Int) < n := by omega
      obtain rfl : k = n := by omega
      go_wp2_with (fail)
      go_ret
      refine ⟨_, rfl, ?_, HB.out⟩
      simpa using HR.out

end Go.Proofs.Ytmglkelmdcpinaa.G
/- The contract of the function roots_Table (number 43 of the translation): what its call computes, as a plain Lean function; memory that was there stays as it was. Conditions: none beyond the theorem's own. Written by a program (gprint.py). -/
namespace Go.Proofs.Ytmglkelmdcpinaa.G
open Go.RowKit Go.Proofs.YtmglkelmdcpinaaW.PrintWords Go.Proofs.YtmglkelmdcpinaaW.PrintLast Go.Proofs.YtmglkelmdcpinaaW.PrintMore
attribute [local go_sem] max2_int min2_int max_two min_two max_three min_three max_four min_four   -- for this text's walks alone
set_option linter.unusedVariables false
set_option linter.unusedSimpArgs false

/-! ### roots_Table: function 43 -/
def roots_Table.at (L B : Int) (k : Nat) : Int × Int := (roots_root.f L k B).getD (0, 0)
def roots_Table.f (a0 a1 : Int) : Option (List S43 × Int) := (roots_may.f a0 a1).bind fun m => if m = true then (if ((List.range (2 ^ a0.toNat)).all fun (k : Nat) => (roots_root.f a0 k a1).isSome) = true then some ((List.range (2 ^ a0.toNat)).map (tabS (roots_Table.at a0 a1)), 0) else none) else some ([], 1)
theorem table_len (L : Nat) (h2 : 2 ≤ L) (h6 : L ≤ 6) : wrap64 (2 ^ L) = ((2 ^ L : Nat) : Int) := by
  rcases (by omega : L = 2 ∨ L = 3 ∨ L = 4 ∨ L = 5 ∨ L = 6) with rfl | rfl | rfl | rfl | rfl <;> decide +kernel
theorem roots_may.bounds (a b : Int) (h : roots_may.f a b = some true) : 2 ≤ a ∧ a ≤ 6 := by
  unfold roots_may.f at h
  obtain ⟨p, _, h⟩ := Option.bind_eq_some_iff.mp h
  split at h
  · split at h
    · omega
    · simp at h
  · simp at h
set_option maxHeartbeats 4000000 in
theorem roots_Table.calls (a0 a1 : Int) (r1 : List S43) (r2 : Int) (w : World) (h : roots_Table.f a0 a1 = some (r1, r2)) :
    Calls Try.prog 43 #[.int .i64 a0, .int .i64 a1] w fun e w' => ∃ v0_ : Value, e = .returned (.tuple #[v0_, .int .i64 r2]) ∧ Kd.R k43 43 w' w.heap.size (fun _ => True) v0_ r1 ∧ Below w.heap.size w w' := by
  unfold roots_Table.f at h
  obtain ⟨m, h1, h⟩ := Option.bind_eq_some_iff.mp h
  obtain ⟨b0, b1, hB, hz⟩ := boxes2 w (.cells #[.int .i64 a0] 3) (.cells #[.int .i64 a1] 3)
  have H1 := Aside0.mk h1
  have HB := Aside0.mk hB
  have HZ := Aside0.mk hz
  have B0 := Aside0.mk b0
  have B1 := Aside0.mk b1
  clear hB hz
  have c0 := (blk_cell b0 0).trans rfl
  have c1 := (blk_cell b1 0).trans rfl
  clear b0 b1
  cases m with
  | false =>
    simp only [Bool.false_eq_true, if_false, Option.some.injEq, Prod.mk.injEq] at h
    obtain ⟨rfl, rfl⟩ := h
    clear h1
    go_enter Try.func43, Try.ntmps43
    go_wp2_with (fail)
    with_reducible refine (roots_may.calls _ _ false _ H1.out).mono ?_
    rintro e w1 ⟨rfl, hb⟩
    have HB1 := Aside0.mk (below_then HB.out (by have := HZ.out; omega) hb)
    clear hb c0 c1
    go_wp2_with (fail)
    exact bodyPost_ret (v := .tuple #[.slice none 0 0, .int .i64 1]) (by simp [results, Try.results43, go_sem]) rfl ⟨_, rfl, Kd.R_nil _ _ _ _ _, HB1.out⟩
  | true =>
    obtain ⟨l0, l1⟩ := roots_may.bounds _ _ h1
    rw [if_pos rfl] at h
    split at h
    case isFalse => cases h
    rename_i hall
    simp only [Option.some.injEq, Prod.mk.injEq] at h
    obtain ⟨rfl, rfl⟩ := h
    clear h1
    obtain ⟨L, rfl⟩ : ∃ L : Nat, a0 = L := ⟨a0.toNat, by omega⟩
    rw [Int.toNat_natCast] at hall ⊢
    have hall' : ∀ k : Nat, k < 2 ^ L → roots_root.f (L : Int) k a1 = some (roots_Table.at L a1 k) := by
      intro k hk
      have := List.all_eq_true.1 hall k (List.mem_range.2 hk)
      obtain ⟨p, hp⟩ := Option.isSome_iff_exists.1 this
      rw [hp]
      unfold roots_Table.at
      rw [hp]
      rfl
    have HA := Aside0.mk hall'
    clear hall hall'
    have hL : 2 ≤ L ∧ L ≤ 6 := by omega
    have HL := Aside0.mk hL
    obtain ⟨N, hN⟩ : ∃ N : Int, N = ((2 ^ L : Nat) : Int) := ⟨_, rfl⟩
    have hs : wrap64 (2 ^ L) = N := (table_len L hL.1 hL.2).trans hN.symm
    replace hN := Aside0.mk hN
    have HS := Aside0.mk hs
    clear hs
    go_enter Try.func43, Try.ntmps43
    go_wp2_with (fail)
    with_reducible refine (roots_may.calls _ _ true _ H1.out).mono ?_
    rintro e w1 ⟨rfl, hb⟩
    have B2 := Aside0.mk (blk_below B0.out hb)
    have B3 := Aside0.mk (blk_below B1.out hb)
    have HB1 := Aside0.mk (below_then HB.out (by have := HZ.out; omega) hb)
    clear hb c0 c1 B0 B1 HB HZ
    have c0 := (blk_cell B2.out 0).trans rfl
    have hs := HS.out
    go_wp2_with (fail)
    clear hs c0 HS
    obtain rfl := hN.out
    have h2 : 2 ^ L ≤ 64 := by
      have := Nat.pow_le_pow_right (n := 2) (by decide) HL.out.2
      simpa using this
    with_reducible refine (roots_gather.calls (2 ^ L) (Nat.two_pow_pos L) h2 L a1 _ _ (roots_Table.at L a1) w1 B2.out B3.out HA.out).mono ?_
    rintro e w2 ⟨v, rfl, hR, hb⟩
    have HR := Aside0.mk (Kd.R_lower hR HB1.out.size)
    have HB2 := Aside0.mk (below_then HB1.out HB1.out.size hb)
    clear hR hb HB1
    go_wp2_with (fail)
    exact bodyPost_ret (v := .tuple #[v, .int .i64 0]) (by simp [results, Try.results43, go_sem]) rfl ⟨_, rfl, HR.out, HB2.out⟩

end Go.Proofs.Ytmglkelmdcpinaa.G
/- The contract of the function dft_may (number 124 of the translation): what its call computes, as a plain Lean function; memory that was there stays as it was. Conditions: none beyond the theorem's own. Written by a program (gprint.py). -/
namespace Go.Proofs.Ytmglkelmdcpinaa.G
open Go.RowKit Go.Proofs.YtmglkelmdcpinaaW.PrintWords Go.Proofs.YtmglkelmdcpinaaW.PrintLast Go.Proofs.YtmglkelmdcpinaaW.PrintMore
attribute [local go_sem] max2_int min2_int max_two min_two max_three min_three max_four min_four   -- for this text's walks alone
set_option linter.unusedVariables false
set_option linter.unusedSimpArgs false

/-! ### dft_may: function 124 -/
def dft_may.f (k : Nat) (l0 : List (S43)) : Option ((List (S43)) × Int) := (flip_Log.f k (l0.length : Int)).bind fun bt101 => (if bt101.2 = 0 then ((scan_Max.f k l0).bind fun bt103 => (if bt103.2 = 0 then ((roots_Table.f bt101.1 40).bind fun bt105 => (some (bt105.1, bt105.2))) else (some (([] : List (S43)), bt103.2)))) else (some (([] : List (S43)), bt101.2)))
theorem dft_may.mono : ∀ a0 k, LeO (dft_may.f k a0) (dft_may.f (k + 1) a0) := by
  intro a0 k
  unfold dft_may.f
  repeat' first
      | (with_reducible exact flip_Log.mono _ _)
      | (with_reducible exact scan_Max.mono _ _)
      | (with_reducible exact LeO.refl _)
      | (with_reducible exact LeO.none _)
      | (with_reducible refine LeO.ite ?_ ?_)
      | (with_reducible refine LeO.bind ?_ (fun _ => ?_))
      | exact flip_Log.mono _ _
      | exact scan_Max.mono _ _
      | exact LeO.none _
      | refine LeO.ite ?_ ?_
      | refine LeO.bind ?_ (fun _ => ?_)
set_option maxHeartbeats 8000000 in
set_option maxRecDepth 100000 in
theorem dft_may.calls (k : Nat) (A0 : Option Addr) (c0 : Nat) (l0 : List (S43)) (r1 : List (S43)) (r2 : Int) (w : World) (hr0 : Kd.C k43 w A0 l0.length l0) (hc0 : l0.length ≤ c0) (h : dft_may.f k l0 = some (r1, r2)) :
    Calls Try.prog 124 #[.slice A0 l0.length c0] w fun e w' => ∃ v0_ : Value, e = .returned (.tuple #[v0_, .int .i64 r2]) ∧ Kd.R k43 43 w' w.heap.size (fun _ => True) v0_ r1 ∧ Below w.heap.size w w' := by
  have HR0 := Aside0.mk hr0
  have HC0 := Aside0.mk hc0
  clear hr0 hc0
  have HB := Aside0.mk (Below.refl w.heap.size w)
  have H : ((flip_Log.f k (l0.length : Int)).bind fun bt101 => (if bt101.2 = 0 then ((scan_Max.f k l0).bind fun bt103 => (if bt103.2 = 0 then ((roots_Table.f bt101.1 40).bind fun bt105 => (some (bt105.1, bt105.2))) else (some (([] : List (S43)), bt103.2)))) else (some (([] : List (S43)), bt101.2)))) = some (r1, r2) := h
  clear h
  replace H := Option.bind_eq_some_iff.mp H
  obtain ⟨⟨t101, t102⟩, A20, H⟩ := H
  replace H : (if t102 = 0 then ((scan_Max.f k l0).bind fun bt103 => (if bt103.2 = 0 then ((roots_Table.f t101 40).bind fun bt105 => (some (bt105.1, bt105.2))) else (some (([] : List (S43)), bt103.2)))) else (some (([] : List (S43)), t102))) = some (r1, r2) := H
  have A2 := Aside0.mk A20
  clear A20
  by_cases c3 : t102 = 0
  · rw [if_pos c3] at H
    have c3b0 : (t102 == 0) = true := beq_iff_eq.mpr c3
    have c3b1 : (t102 != 0) = false := bne_eq_false_iff_eq.mpr c3
    clear c3
    replace H := Option.bind_eq_some_iff.mp H
    obtain ⟨⟨t103, t104⟩, A40, H⟩ := H
    replace H : (if t104 = 0 then ((roots_Table.f t101 40).bind fun bt105 => (some (bt105.1, bt105.2))) else (some (([] : List (S43)), t104))) = some (r1, r2) := H
    have A4 := Aside0.mk A40
    clear A40
    by_cases c5 : t104 = 0
    · rw [if_pos c5] at H
      have c5b0 : (t104 == 0) = true := beq_iff_eq.mpr c5
      have c5b1 : (t104 != 0) = false := bne_eq_false_iff_eq.mpr c5
      clear c5
      replace H := Option.bind_eq_some_iff.mp H
      obtain ⟨⟨t105, t106⟩, A60, H⟩ := H
      replace H : (some (t105, t106)) = some (r1, r2) := H
      have A6 := Aside0.mk A60
      clear A60
      simp only [Option.some.injEq, Prod.mk.injEq] at H
      obtain ⟨rfl, rfl⟩ := H
      go_enter Try.func124, Try.ntmps124
      go_wp2_with (first | ((with_reducible refine gate_callee (f := 75) rfl ?_); refine goesL_ (some 11) rfl rfl Try.func75 (by kernel_rfl) rfl #[.int .i64 (l0.length : Int)] rfl (by (try simp only [List.map_toArray, List.map_cons, List.map_nil]); first | done | rfl | (simp only [List.length_drop, List.length_take]; rfl)) ?_; (with_reducible refine (flip_Log.calls k (l0.length : Int) t101 t102 _ A2.out).mono ?_); rintro e w' ⟨rfl, ⟨nd, rfl⟩⟩; refine ⟨_, rfl, ?_⟩) | ((with_reducible refine gate_callee (f := 31) rfl ?_); refine goesL_ (some 19) rfl rfl Try.func31 (by kernel_rfl) rfl #[.slice A0 l0.length c0] rfl (by (try simp only [List.map_toArray, List.map_cons, List.map_nil]); first | done | rfl | (simp only [List.length_drop, List.length_take]; rfl)) ?_; (with_reducible refine (scan_Max.calls k _ _ l0 t103 t104 _ ?side1 ?side2 A4.out).mono ?_); (case side1 => repeat (first | exact HR0.out | (with_reducible refine Kd.C_alloc ?_ _) | (with_reducible refine Kd.C_drewN ?_ _) | (with_reducible refine Kd.C_drew ?_))); (case side2 => exact HC0.out); rintro e w7 ⟨rfl, hb⟩; refine ⟨_, rfl, ?_⟩; have n0_ := Aside0.mk (below_step (by repeat (first | (with_reducible first | exact HB.out | apply below_alloc | apply pw_below_drewN | apply below_drew1) | exact HB.out)) hb); clear HB; have HB := n0_; clear n0_; (try clear hb); (try clear hb2); (try clear hk); (try clear hi)) | ((with_reducible refine gate_callee (f := 43) rfl ?_); refine goesL_ (some 26) rfl rfl Try.func43 (by kernel_rfl) rfl #[.int .i64 t101, .int .i64 40] rfl (by (try simp only [List.map_toArray, List.map_cons, List.map_nil]); first | done | rfl | (simp only [List.length_drop, List.length_take]; rfl)) ?_; (with_reducible refine (roots_Table.calls t101 40 t105 t106 _ A6.out).mono ?_); rintro e w8 ⟨v107, rfl, ho0, hb⟩; refine ⟨_, rfl, ?_⟩; have n0_ := Aside0.mk (Kd.R_lower ho0 (below_size (by repeat (first | (with_reducible first | exact HB.out | apply below_alloc | apply pw_below_drewN | apply below_drew1) | exact HB.out)))); have n1_ := Aside0.mk (below_step (by repeat (first | (with_reducible first | exact HB.out | apply below_alloc | apply pw_below_drewN | apply below_drew1) | exact HB.out)) hb); clear HB; have HO108 := n0_; have HB := n1_; clear n0_ n1_; (try clear hb); (try clear hb2); (try clear hk); (try clear hi); (try clear ho0)))
      go_ret2
      exact ⟨_, by first | rfl | (simp [errW_none, errW_some] <;> rfl) | (simp [*, errW_none, errW_some] <;> rfl), by (with_reducible repeat (first | apply Kd.R_alloc | apply Kd.R_drewN | apply Kd.R_drew)); exact HO108.out, by repeat (first | (with_reducible first | exact HB.out | apply below_alloc | apply pw_below_drewN | apply below_drew1) | exact HB.out)⟩
    · rw [if_neg c5] at H
      have c5b0 : (t104 == 0) = false := beq_eq_false_iff_ne.mpr c5
      have c5b1 : (t104 != 0) = true := bne_iff_ne.mpr c5
      simp only [Option.some.injEq, Prod.mk.injEq] at H
      obtain ⟨rfl, rfl⟩ := H
      go_enter Try.func124, Try.ntmps124
      go_wp2_with (first | ((with_reducible refine gate_callee (f := 75) rfl ?_); refine goesL_ (some 11) rfl rfl Try.func75 (by kernel_rfl) rfl #[.int .i64 (l0.length : Int)] rfl (by (try simp only [List.map_toArray, List.map_cons, List.map_nil]); first | done | rfl | (simp only [List.length_drop, List.length_take]; rfl)) ?_; (with_reducible refine (flip_Log.calls k (l0.length : Int) t101 t102 _ A2.out).mono ?_); rintro e w' ⟨rfl, ⟨nd, rfl⟩⟩; refine ⟨_, rfl, ?_⟩) | ((with_reducible refine gate_callee (f := 31) rfl ?_); refine goesL_ (some 19) rfl rfl Try.func31 (by kernel_rfl) rfl #[.slice A0 l0.length c0] rfl (by (try simp only [List.map_toArray, List.map_cons, List.map_nil]); first | done | rfl | (simp only [List.length_drop, List.length_take]; rfl)) ?_; (with_reducible refine (scan_Max.calls k _ _ l0 t103 t104 _ ?side1 ?side2 A4.out).mono ?_); (case side1 => repeat (first | exact HR0.out | (with_reducible refine Kd.C_alloc ?_ _) | (with_reducible refine Kd.C_drewN ?_ _) | (with_reducible refine Kd.C_drew ?_))); (case side2 => exact HC0.out); rintro e w9 ⟨rfl, hb⟩; refine ⟨_, rfl, ?_⟩; have n0_ := Aside0.mk (below_step (by repeat (first | (with_reducible first | exact HB.out | apply below_alloc | apply pw_below_drewN | apply below_drew1) | exact HB.out)) hb); clear HB; have HB := n0_; clear n0_; (try clear hb); (try clear hb2); (try clear hk); (try clear hi)))
      go_ret2
      exact ⟨_, by first | rfl | (simp [errW_none, errW_some] <;> rfl) | (simp [*, errW_none, errW_some] <;> rfl), by first | exact Kd.R_nil _ _ _ _ _ | exact Kd.N_nil _ _ _ _ _ | exact Kd.V_nil _ _ _ _ _ | exact Kd.Q_nil _ _ _ _ _ | exact Kd.S_nil _ _ _ _ _, by repeat (first | (with_reducible first | exact HB.out | apply below_alloc | apply pw_below_drewN | apply below_drew1) | exact HB.out)⟩
  · rw [if_neg c3] at H
    have c3b0 : (t102 == 0) = false := beq_eq_false_iff_ne.mpr c3
    have c3b1 : (t102 != 0) = true := bne_iff_ne.mpr c3
    simp only [Option.some.injEq, Prod.mk.injEq] at H
    obtain ⟨rfl, rfl⟩ := H
    go_enter Try.func124, Try.ntmps124
    go_wp2_with (first | ((with_reducible refine gate_callee (f := 75) rfl ?_); refine goesL_ (some 11) rfl rfl Try.func75 (by kernel_rfl) rfl #[.int .i64 (l0.length : Int)] rfl (by (try simp only [List.map_toArray, List.map_cons, List.map_nil]); first | done | rfl | (simp only [List.length_drop, List.length_take]; rfl)) ?_; (with_reducible refine (flip_Log.calls k (l0.length : Int) t101 t102 _ A2.out).mono ?_); rintro e w' ⟨rfl, ⟨nd, rfl⟩⟩; refine ⟨_, rfl, ?_⟩))
    go_ret2
    exact ⟨_, by first | rfl | (simp [errW_none, errW_some] <;> rfl) | (simp [*, errW_none, errW_some] <;> rfl), by first | exact Kd.R_nil _ _ _ _ _ | exact Kd.N_nil _ _ _ _ _ | exact Kd.V_nil _ _ _ _ _ | exact Kd.Q_nil _ _ _ _ _ | exact Kd.S_nil _ _ _ _ _, by repeat (first | (with_reducible first | exact HB.out | apply below_alloc | apply pw_below_drewN | apply below_drew1) | exact HB.out)⟩

end Go.Proofs.Ytmglkelmdcpinaa.G
/- The contract of the function dft_sum_add (number 166 of the translation): what its call computes, as a plain Lean function; memory that was there stays as it was. Conditions: none beyond the theorem's own. Written by a program (gprint.py). -/
namespace Go.Proofs.Ytmglkelmdcpinaa.G
open Go.RowKit Go.Proofs.YtmglkelmdcpinaaW.PrintWords Go.Proofs.YtmglkelmdcpinaaW.PrintLast Go.Proofs.YtmglkelmdcpinaaW.PrintMore
attribute [local go_sem] max2_int min2_int max_two min_two max_three min_three max_four min_four   -- for this text's walks alone
set_option linter.unusedVariables false
set_option linter.unusedSimpArgs false

/-! ### dft_sum_add: function 166 -/
theorem grown_on {w W : World} {B : Nat} (h : w.grownBy W (some B)) {p : Addr} (hp : p.block = B) (u : Value) : w.grownBy (W.setCell p u) (some B) :=
  ⟨h.os, h.tape, h.output, by have := h.size; simpa [World.setCell] using this, fun i hi hne => (Below.heap_setCell W p u i (fun e => hne (by rw [e, hp]))).trans (h.block i hi hne)⟩
theorem takeL {P : Program} {md : Region.Mode} {ops : Array Oper} {Q : Exit → Act → World → Prop} {S : World → Prop} {ds : List Nat} {i : Nat} {oi : Oper} {d : Tmp} {v : Value} {fuel : Nat} {listed : Array Bool} {a : Act} {w : World} (hi : ops[i]? = some oi) (hd : oi.dst = some d)
    (hs : Region.noSelect ops = true) (hf : Region.free md ops listed i = true) (hr : (Region.ready md ops listed).contains i = true) (hc : Region.closedB md ops listed = true) (hl : Region.lastB md ops listed ds i = true) (hQ : ∀ c a w, Q (.panic c) (a.put oi.dst v) w → Q (.panic c) a w)
    (hS : S w) (hw : Region.wanted oi (yielded ops a.tmps) = true) (hy : ∀ w, S w → (execOp a.eval oi).run P w = .ok (.value v) w)
    (h : wpAnyLast P md ops Q S ds fuel (listed.setIfInBounds i true) { tmps := a.tmps.setIfInBounds d v, defers := a.defers } w) : wpAnyLast P md ops Q S ds (fuel + 1) listed a w := by
  refine wpAnyLast_take hi hs hf hr hc hl hQ (.inl ⟨hw, hy⟩) hS ?_
  rw [hd]
  exact h
set_option maxHeartbeats 4000000 in
set_option maxRecDepth 100000 in
theorem dft_add.calls (G : Nat) (s0 s1 a b : Int) (w : World) (hg : w.heap[G]? = some (.cells #[.int .i64 s0, .int .i64 s1] 150 (0, 0))) :
    Calls Try.prog 166 #[.pointer (some ⟨G, 0, none⟩), .int .i64 a, .int .i64 b] w fun e w' => e = .returned (.tuple #[]) ∧ w'.heap[G]? = some (.cells #[.int .i64 (wrap64 (s0 + wrap64 (a / 65536 * b))), .int .i64 (wrap64 (s1 + wrap64 (bits .and .i64 a 65535 * b)))] 150 (0, 0)) ∧ w.grownBy w' (some G) := by
  go_enter Try.func166, Try.ntmps166
  go_wp2_with (fail)
  refine wp_region_last_drew (S := fun w' => w'.heap[G]? = some (.cells #[.int .i64 s0, .int .i64 s1] 150 (0, 0)) ∧ w.grownBy w' (some G)) (ds := [11]) (by kernel_rfl) ⟨hg, grownBy_drew_ _ _⟩ (fun hS => ?_)
  generalize w.drew = X0 at hS ⊢
  refine takeL (i := 0) (v := ?_) rfl rfl (by kernel_rfl) (by kernel_rfl) (by kernel_rfl) (by kernel_rfl) (by kernel_rfl) (fun _ _ _ h => h) hS (by rfl) ?_ ?_
  rotate_left
  · intro w' hSw
    go_simp
    try (with_reducible rfl)
  simp only [List.setIfInBounds_toArray, List.set_cons_zero, List.set_cons_succ]
  refine takeL (i := 1) (v := ?_) rfl rfl (by kernel_rfl) (by kernel_rfl) (by kernel_rfl) (by kernel_rfl) (by kernel_rfl) (fun _ _ _ h => h) hS (by rfl) ?_ ?_
  rotate_left
  · intro w' hSw
    go_simp
    try (with_reducible rfl)
  simp only [List.setIfInBounds_toArray, List.set_cons_zero, List.set_cons_succ]
  refine takeL (i := 2) (v := ?_) rfl rfl (by kernel_rfl) (by kernel_rfl) (by kernel_rfl) (by kernel_rfl) (by kernel_rfl) (fun _ _ _ h => h) hS (by rfl) ?_ ?_
  rotate_left
  · intro w' hSw
    go_simp
    try (with_reducible rfl)
  simp only [List.setIfInBounds_toArray, List.set_cons_zero, List.set_cons_succ]
  refine takeL (i := 3) (v := ?_) rfl rfl (by kernel_rfl) (by kernel_rfl) (by kernel_rfl) (by kernel_rfl) (by kernel_rfl) (fun _ _ _ h => h) hS (by rfl) ?_ ?_
  rotate_left
  · intro w' hSw
    have c0 := (blk_cell hSw.1 0).trans rfl
    go_simp
    try (with_reducible rfl)
  simp only [List.setIfInBounds_toArray, List.set_cons_zero, List.set_cons_succ]
  refine takeL (i := 4) (v := ?_) rfl rfl (by kernel_rfl) (by kernel_rfl) (by kernel_rfl) (by kernel_rfl) (by kernel_rfl) (fun _ _ _ h => h) hS (by rfl) ?_ ?_
  rotate_left
  · intro w' hSw
    go_simp
    try (with_reducible rfl)
  simp only [List.setIfInBounds_toArray, List.set_cons_zero, List.set_cons_succ]
  refine takeL (i := 5) (v := ?_) rfl rfl (by kernel_rfl) (by kernel_rfl) (by kernel_rfl) (by kernel_rfl) (by kernel_rfl) (fun _ _ _ h => h) hS (by rfl) ?_ ?_
  rotate_left
  · intro w' hSw
    go_simp
    try (with_reducible rfl)
  simp only [List.setIfInBounds_toArray, List.set_cons_zero, List.set_cons_succ]
  refine takeL (i := 6) (v := ?_) rfl rfl (by kernel_rfl) (by kernel_rfl) (by kernel_rfl) (by kernel_rfl) (by kernel_rfl) (fun _ _ _ h => h) hS (by rfl) ?_ ?_
  rotate_left
  · intro w' hSw
    go_simp
    try (with_reducible rfl)
  simp only [List.setIfInBounds_toArray, List.set_cons_zero, List.set_cons_succ]
  refine takeL (i := 7) (v := ?_) rfl rfl (by kernel_rfl) (by kernel_rfl) (by kernel_rfl) (by kernel_rfl) (by kernel_rfl) (fun _ _ _ h => h) hS (by rfl) ?_ ?_
  rotate_left
  · intro w' hSw
    go_simp
    try (with_reducible rfl)
  simp only [List.setIfInBounds_toArray, List.set_cons_zero, List.set_cons_succ]
  refine takeL (i := 8) (v := ?_) rfl rfl (by kernel_rfl) (by kernel_rfl) (by kernel_rfl) (by kernel_rfl) (by kernel_rfl) (fun _ _ _ h => h) hS (by rfl) ?_ ?_
  rotate_left
  · intro w' hSw
    go_simp
    try (with_reducible rfl)
  simp only [List.setIfInBounds_toArray, List.set_cons_zero, List.set_cons_succ]
  refine takeL (i := 9) (v := ?_) rfl rfl (by kernel_rfl) (by kernel_rfl) (by kernel_rfl) (by kernel_rfl) (by kernel_rfl) (fun _ _ _ h => h) hS (by rfl) ?_ ?_
  rotate_left
  · intro w' hSw
    go_simp
    try (with_reducible rfl)
  simp only [List.setIfInBounds_toArray, List.set_cons_zero, List.set_cons_succ]
  refine takeL (i := 10) (v := ?_) rfl rfl (by kernel_rfl) (by kernel_rfl) (by kernel_rfl) (by kernel_rfl) (by kernel_rfl) (fun _ _ _ h => h) hS (by rfl) ?_ ?_
  rotate_left
  · intro w' hSw
    go_simp
    try (with_reducible rfl)
  simp only [List.setIfInBounds_toArray, List.set_cons_zero, List.set_cons_succ]
  refine wpAnyLast_ready (rs := [11]) (by kernel_rfl) (by simp) ?_
  refine AllReadyL.cons_last rfl (by simp) (fun K hK => ?_) AllReadyL.nil
  have c0 := (blk_cell hS.1 0).trans rfl
  have f0 := blk_frozen hS.1 0
  go_simp
  refine hK.out _ _ ?_
  clear hK K
  refine wpAnyLast_done (by kernel_rfl) ?_ _
  try simp only [Exit.then]
  clear c0 f0
  have hT := Aside0.mk ((blk_put hS.1 0 (.int .i64 (IntKind.i64.wrap (s0 + IntKind.i64.wrap (a / 65536 * b)))) rfl))
  have hG := Aside0.mk (grown_on (p := ⟨G, 0, none⟩) hS.2 rfl (.int .i64 (IntKind.i64.wrap (s0 + IntKind.i64.wrap (a / 65536 * b)))))
  clear hS
  go_at_K
  generalize X0.setCell ⟨G, 0, none⟩ (.int .i64 (IntKind.i64.wrap (s0 + IntKind.i64.wrap (a / 65536 * b)))) = X1 at hT hG ⊢
  go_wp2_with (fail)
  refine wp_region_last_drew (S := fun w' => w'.heap[G]? = some (.cells #[.int .i64 (IntKind.i64.wrap (s0 + IntKind.i64.wrap (a / 65536 * b))), .int .i64 s1] 150 (0, 0)) ∧ w.grownBy w' (some G)) (ds := [11]) (by kernel_rfl) ⟨hT.out, hG.out.trans (grownBy_drew_ _ _)⟩ (fun hS => ?_)
  generalize X1.drew = X2 at hS ⊢
  refine takeL (i := 0) (v := ?_) rfl rfl (by kernel_rfl) (by kernel_rfl) (by kernel_rfl) (by kernel_rfl) (by kernel_rfl) (fun _ _ _ h => h) hS (by rfl) ?_ ?_
  rotate_left
  · intro w' hSw
    go_simp
    try (with_reducible rfl)
  simp only [List.setIfInBounds_toArray, List.set_cons_zero, List.set_cons_succ]
  refine takeL (i := 1) (v := ?_) rfl rfl (by kernel_rfl) (by kernel_rfl) (by kernel_rfl) (by kernel_rfl) (by kernel_rfl) (fun _ _ _ h => h) hS (by rfl) ?_ ?_
  rotate_left
  · intro w' hSw
    go_simp
    try (with_reducible rfl)
  simp only [List.setIfInBounds_toArray, List.set_cons_zero, List.set_cons_succ]
  refine takeL (i := 2) (v := ?_) rfl rfl (by kernel_rfl) (by kernel_rfl) (by kernel_rfl) (by kernel_rfl) (by kernel_rfl) (fun _ _ _ h => h) hS (by rfl) ?_ ?_
  rotate_left
  · intro w' hSw
    go_simp
    try (with_reducible rfl)
  simp only [List.setIfInBounds_toArray, List.set_cons_zero, List.set_cons_succ]
  refine takeL (i := 3) (v := ?_) rfl rfl (by kernel_rfl) (by kernel_rfl) (by kernel_rfl) (by kernel_rfl) (by kernel_rfl) (fun _ _ _ h => h) hS (by rfl) ?_ ?_
  rotate_left
  · intro w' hSw
    have c0 := (blk_cell hSw.1 1).trans rfl
    go_simp
    try (with_reducible rfl)
  simp only [List.setIfInBounds_toArray, List.set_cons_zero, List.set_cons_succ]
  refine takeL (i := 4) (v := ?_) rfl rfl (by kernel_rfl) (by kernel_rfl) (by kernel_rfl) (by kernel_rfl) (by kernel_rfl) (fun _ _ _ h => h) hS (by rfl) ?_ ?_
  rotate_left
  · intro w' hSw
    go_simp
    try (with_reducible rfl)
  simp only [List.setIfInBounds_toArray, List.set_cons_zero, List.set_cons_succ]
  refine takeL (i := 5) (v := ?_) rfl rfl (by kernel_rfl) (by kernel_rfl) (by kernel_rfl) (by kernel_rfl) (by kernel_rfl) (fun _ _ _ h => h) hS (by rfl) ?_ ?_
  rotate_left
  · intro w' hSw
    go_simp
    try (with_reducible rfl)
  simp only [List.setIfInBounds_toArray, List.set_cons_zero, List.set_cons_succ]
  refine takeL (i := 6) (v := ?_) rfl rfl (by kernel_rfl) (by kernel_rfl) (by kernel_rfl) (by kernel_rfl) (by kernel_rfl) (fun _ _ _ h => h) hS (by rfl) ?_ ?_
  rotate_left
  · intro w' hSw
    go_simp
    try (with_reducible rfl)
  simp only [List.setIfInBounds_toArray, List.set_cons_zero, List.set_cons_succ]
  refine takeL (i := 7) (v := ?_) rfl rfl (by kernel_rfl) (by kernel_rfl) (by kernel_rfl) (by kernel_rfl) (by kernel_rfl) (fun _ _ _ h => h) hS (by rfl) ?_ ?_
  rotate_left
  · intro w' hSw
    go_simp
    try (with_reducible rfl)
  simp only [List.setIfInBounds_toArray, List.set_cons_zero, List.set_cons_succ]
  refine takeL (i := 8) (v := ?_) rfl rfl (by kernel_rfl) (by kernel_rfl) (by kernel_rfl) (by kernel_rfl) (by kernel_rfl) (fun _ _ _ h => h) hS (by rfl) ?_ ?_
  rotate_left
  · intro w' hSw
    go_simp
    try (with_reducible rfl)
  simp only [List.setIfInBounds_toArray, List.set_cons_zero, List.set_cons_succ]
  refine takeL (i := 9) (v := ?_) rfl rfl (by kernel_rfl) (by kernel_rfl) (by kernel_rfl) (by kernel_rfl) (by kernel_rfl) (fun _ _ _ h => h) hS (by rfl) ?_ ?_
  rotate_left
  · intro w' hSw
    go_simp
    try (with_reducible rfl)
  simp only [List.setIfInBounds_toArray, List.set_cons_zero, List.set_cons_succ]
  refine takeL (i := 10) (v := ?_) rfl rfl (by kernel_rfl) (by kernel_rfl) (by kernel_rfl) (by kernel_rfl) (by kernel_rfl) (fun _ _ _ h => h) hS (by rfl) ?_ ?_
  rotate_left
  · intro w' hSw
    go_simp
    try (with_reducible rfl)
  simp only [List.setIfInBounds_toArray, List.set_cons_zero, List.set_cons_succ]
  refine wpAnyLast_ready (rs := [11]) (by kernel_rfl) (by simp) ?_
  refine AllReadyL.cons_last rfl (by simp) (fun K hK => ?_) AllReadyL.nil
  have c0 := (blk_cell hS.1 1).trans rfl
  have f0 := blk_frozen hS.1 1
  go_simp
  refine hK.out _ _ ?_
  clear hK K
  refine wpAnyLast_done (by kernel_rfl) ?_ _
  try simp only [Exit.then]
  clear c0 f0
  have hT2 := Aside0.mk ((blk_put hS.1 1 (.int .i64 (IntKind.i64.wrap (s1 + IntKind.i64.wrap (bits .and .i64 a 65535 * b)))) rfl))
  have hG2 := Aside0.mk (grown_on (p := ⟨G, 1, none⟩) hS.2 rfl (.int .i64 (IntKind.i64.wrap (s1 + IntKind.i64.wrap (bits .and .i64 a 65535 * b)))))
  clear hS
  go_at_K
  first | go_end0 | (refine bodyPost_ret (results_none rfl _ _ _) rfl ?_) | trace_state
  refine ⟨rfl, ?_, hG2.out⟩
  have h := hT2.out
  simp only [i64_w] at h ⊢
  exact h

end Go.Proofs.Ytmglkelmdcpinaa.G
/- The contract of the function dft_sum_down (number 167 of the translation): what its call computes, as a plain Lean function; memory that was there stays as it was. Conditions: none beyond the theorem's own. Written by a program (gprint.py). -/
namespace Go.Proofs.Ytmglkelmdcpinaa.G
open Go.RowKit Go.Proofs.YtmglkelmdcpinaaW.PrintWords Go.Proofs.YtmglkelmdcpinaaW.PrintLast Go.Proofs.YtmglkelmdcpinaaW.PrintMore
attribute [local go_sem] max2_int min2_int max_two min_two max_three min_three max_four min_four   -- for this text's walks alone
set_option linter.unusedVariables false
set_option linter.unusedSimpArgs false

/-! ### dft_sum_down: function 167 -/
def dft_down.f (s0 s1 : Int) : Option Int := (round_Shift.f s1 16 0).bind fun p => (round_Shift.f (wrap64 (s0 + p.1)) 16 0).bind fun q => some q.1
set_option maxHeartbeats 4000000 in
theorem dft_down.calls (s0 s1 r : Int) (w : World) (h : dft_down.f s0 s1 = some r) :
    Calls Try.prog 167 #[.agg #[.int .i64 s0, .int .i64 s1]] w fun e w' => e = .returned (.int .i64 r) ∧ Below w.heap.size w w' := by
  unfold dft_down.f at h
  obtain ⟨⟨p1, p2⟩, h1, h⟩ := Option.bind_eq_some_iff.mp h
  obtain ⟨⟨q1, q2⟩, h2, h⟩ := Option.bind_eq_some_iff.mp h
  obtain rfl := Option.some.inj h
  have H1 := Aside0.mk h1
  have H2 := Aside0.mk h2
  clear h1 h2
  have b0 := Aside0.mk (blk_new' w (.cells #[.int .i64 s0, .int .i64 s1] 150))
  have c0 := (blk_cell b0.out 0).trans rfl
  have c1 := (blk_cell b0.out 1).trans rfl
  go_enter Try.func167, Try.ntmps167
  go_wp2_with (fail)
  with_reducible refine (round_Shift.calls _ _ _ p1 p2 _ H1.out).mono ?_
  rintro e w1 ⟨rfl, hb⟩
  have b1 := blk_below b0.out hb
  have HB := Aside0.mk (below_then (below_alloc (Below.refl _ _) _) (by simp) hb : Below w.heap.size w w1)
  clear c0 c1 b0 hb
  have c0 := (blk_cell b1 0).trans rfl
  go_wp2_with (fail)
  with_reducible refine (round_Shift.calls _ _ _ q1 q2 _ H2.out).mono ?_
  rintro e w2 ⟨rfl, hb⟩
  have HB2 := Aside0.mk (below_then HB.out HB.out.size hb : Below w.heap.size w w2)
  clear c0 b1 hb
  go_wp2_with (fail)
  go_ret
  exact ⟨rfl, HB2.out⟩

end Go.Proofs.Ytmglkelmdcpinaa.G
