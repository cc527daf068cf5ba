/- Contracts and plain laws on the way to TwoGrows, part 1 of 4. Conditions: each theorem's own. Joined by a program (merge.py). -/
import Derived.Test.YtmglkelmdcpinaaG0
import Derived.RangeFuncNested
import Derived.RangeFuncBound
import Derived.RangeFuncCalls
import Derived.RangeFuncLeaves
import Derived.Shelf.RegionOpen
import Derived.OwnWalkIn
import Derived.TacticsInMore
import Derived.LoopNIn
import Derived.LoopIn
import Derived.Sort.QuietIn
import Derived.Stop.RegionWithIn
/- The contract of the function round_Shift (number 72 of the translation): what its call computes, as a plain Lean function; memory that was there stays as it was. Conditions: none beyond the theorem's own. Written by a program (gprint.py). -/
namespace Go.Proofs.Ytmglkelmdcpinaa.G
open Go.RowKit Go.Proofs.YtmglkelmdcpinaaW.PrintWords Go.Proofs.YtmglkelmdcpinaaW.PrintLast Go.Proofs.YtmglkelmdcpinaaW.PrintMore
attribute [local go_sem] max2_int min2_int max_two min_two max_three min_three max_four min_four   -- for this text's walks alone
set_option linter.unusedVariables false
set_option linter.unusedSimpArgs false

/-! ### round_Shift: function 72 -/
theorem round_modes.calls (w : World) : Calls Try.prog 135 #[] w fun e w' => e = .returned (.slice (some ⟨w.heap.size, 0, none⟩) 3 3) ∧ w' = w.alloc (.cells #[.func (.func 172) #[] #[], .func (.func 173) #[] #[], .func (.func 174) #[] #[]] 136) := by
  go_enter Try.func135, Try.ntmps135
  go_wp2
  go_ret
  exact ⟨rfl, rfl⟩
def round_modes.u2 (a b : Int) : Bool := decide (b ≤ a)
def round_modes.u3 (a b : Int) (c : Bool) : Bool := decide (b < a) || (a == b && c)
theorem round_modes.calls1 (a b : Int) (c : Bool) (w : World) : Calls Try.prog 172 #[.int .i64 a, .int .i64 b, .bool c] w fun e w' => e = .returned (.bool false) ∧ w' = w := by
  go_enter Try.func172, Try.ntmps172
  go_wp2
  go_ret
  exact ⟨rfl, rfl⟩
theorem round_modes.calls2 (a b : Int) (c : Bool) (w : World) : Calls Try.prog 173 #[.int .i64 a, .int .i64 b, .bool c] w fun e w' => e = .returned (.bool (round_modes.u2 a b)) ∧ w' = w := by
  go_enter Try.func173, Try.ntmps173
  go_wp2
  go_ret
  exact ⟨rfl, rfl⟩
theorem round_modes.calls3 (a b : Int) (c : Bool) (w : World) : Calls Try.prog 174 #[.int .i64 a, .int .i64 b, .bool c] w fun e w' => e = .returned (.bool (round_modes.u3 a b c)) ∧ w' = w := by
  unfold round_modes.u3
  by_cases h : b < a
  · have g1 : decide (b < a) = true := by simpa using h
    go_enter Try.func174, Try.ntmps174
    go_wp2
    go_ret
    exact ⟨by simp [h], rfl⟩
  · have g1 : decide (b < a) = false := by simpa using h
    by_cases h2 : a = b
    · have g2 : (a == b) = true := by simpa using h2
      clear h h2
      go_enter Try.func174, Try.ntmps174
      go_wp2
      go_ret
      exact ⟨by simp [g1, g2], rfl⟩
    · have g2 : (a == b) = false := by simpa using h2
      clear h h2
      go_enter Try.func174, Try.ntmps174
      go_wp2
      go_ret
      exact ⟨by simp [g1, g2], rfl⟩
/-- whether a quotient goes up, of mode 0, 1, 2 -/
def round_Shift.up (x s m : Int) : Bool :=
  if m = 0 then false
  else if m = 1 then round_modes.u2 (bits BinOp.and IntKind.i64 x (wrap64 (wrap64 (2 ^ s.toNat) - 1))) (wrap64 (2 ^ (s.toNat - 1)))
  else round_modes.u3 (bits BinOp.and IntKind.i64 x (wrap64 (wrap64 (2 ^ s.toNat) - 1))) (wrap64 (2 ^ (s.toNat - 1))) (bits BinOp.and IntKind.i64 (x / 2 ^ s.toNat) 1 == 1)
def round_Shift.q (x s m : Int) : Int := if round_Shift.up x s m = true then wrap64 (x / 2 ^ s.toNat + 1) else x / 2 ^ s.toNat
def round_Shift.f (a0 a1 a2 : Int) : Option (Int × Int) :=
  if a1 < 0 ∨ 62 < a1 ∨ a2 < 0 ∨ 3 ≤ a2 then some (0, 1)
  else if a1 = 0 then some (a0, 0)
  else some (round_Shift.q a0 a1 a2, 0)

set_option maxHeartbeats 1000000 in
theorem round_Shift.c0 (a0 a1 : Int) (w : World) (h1 : 1 ≤ a1) (h2 : a1 ≤ 62) : Calls Try.prog 72 #[.int .i64 a0, .int .i64 a1, .int .i64 0] w fun e w' => e = .returned (.tuple #[.int .i64 (a0 / 2 ^ a1.toNat), .int .i64 0]) ∧ Below w.heap.size w w' := by
  have g1 : decide (a1 < 0) = false := by simp; omega
  have g2 : decide (62 < a1) = false := by simp; omega
  have g3 : (a1 == 0) = false := by simp; omega
  go_enter Try.func72, Try.ntmps72
  go_wp2_with (first | (go_at_call 135; refine (round_modes.calls _).mono ?_; rintro e w' ⟨rfl, rfl⟩))
  go_quiet ((go_at_call 172; exact Calls.quiet_of_same (round_modes.calls1 _ _ _ _)))
  go_wp2
  go_ret2
  exact ⟨rfl, pw_below_drewN (below_alloc (Below.refl _ _) _) _⟩
set_option maxHeartbeats 1000000 in
theorem round_Shift.c1 (a0 a1 : Int) (w : World) (h1 : 1 ≤ a1) (h2 : a1 ≤ 62) : Calls Try.prog 72 #[.int .i64 a0, .int .i64 a1, .int .i64 1] w fun e w' => e = .returned (.tuple #[.int .i64 (round_Shift.q a0 a1 1), .int .i64 0]) ∧ Below w.heap.size w w' := by
  have g1 : decide (a1 < 0) = false := by simp; omega
  have g2 : decide (62 < a1) = false := by simp; omega
  have g3 : (a1 == 0) = false := by simp; omega
  go_enter Try.func72, Try.ntmps72
  go_wp2_with (first | (go_at_call 135; refine (round_modes.calls _).mono ?_; rintro e w' ⟨rfl, rfl⟩))
  go_quiet ((go_at_call 173; exact Calls.quiet_of_same (round_modes.calls2 _ _ _ _)))
  go_wp2
  all_goals
    go_ret2
    exact ⟨by unfold round_Shift.q round_Shift.up; simp [*], pw_below_drewN (below_alloc (Below.refl _ _) _) _⟩
set_option maxHeartbeats 1000000 in
theorem round_Shift.c2 (a0 a1 : Int) (w : World) (h1 : 1 ≤ a1) (h2 : a1 ≤ 62) : Calls Try.prog 72 #[.int .i64 a0, .int .i64 a1, .int .i64 2] w fun e w' => e = .returned (.tuple #[.int .i64 (round_Shift.q a0 a1 2), .int .i64 0]) ∧ Below w.heap.size w w' := by
  have g1 : decide (a1 < 0) = false := by simp; omega
  have g2 : decide (62 < a1) = false := by simp; omega
  have g3 : (a1 == 0) = false := by simp; omega
  go_enter Try.func72, Try.ntmps72
  go_wp2_with (first | (go_at_call 135; refine (round_modes.calls _).mono ?_; rintro e w' ⟨rfl, rfl⟩))
  go_quiet ((go_at_call 174; exact Calls.quiet_of_same (round_modes.calls3 _ _ _ _)))
  go_wp2
  all_goals
    go_ret2
    exact ⟨by unfold round_Shift.q round_Shift.up; simp [*], pw_below_drewN (below_alloc (Below.refl _ _) _) _⟩
set_option maxHeartbeats 1000000 in
theorem round_Shift.calls (a0 a1 a2 : Int) (r1 : Int) (r2 : Int) (w : World) (h : round_Shift.f a0 a1 a2 = some (r1, r2)) :
    Calls Try.prog 72 #[.int .i64 a0, .int .i64 a1, .int .i64 a2] w fun e w' => e = .returned (.tuple #[.int .i64 r1, .int .i64 r2]) ∧ Below w.heap.size w w' := by
  unfold round_Shift.f at h
  by_cases hb : a1 < 0 ∨ 62 < a1 ∨ a2 < 0 ∨ 3 ≤ a2
  · rw [if_pos hb] at h
    simp only [Option.some.injEq, Prod.mk.injEq] at h
    obtain ⟨rfl, rfl⟩ := h
    go_enter Try.func72, Try.ntmps72
    go_wp2_with (first | (go_at_call 135; refine (round_modes.calls _).mono ?_; rintro e w' ⟨rfl, rfl⟩))
    all_goals first | (go_ret2; exact ⟨rfl, by repeat (first | exact Below.refl _ _ | apply below_alloc | apply pw_below_drewN)⟩) | (exfalso; simp at *; omega)
  · rw [if_neg hb] at h
    by_cases h0 : a1 = 0
    · rw [if_pos h0] at h
      simp only [Option.some.injEq, Prod.mk.injEq] at h
      obtain ⟨rfl, rfl⟩ := h
      have g3 : decide (a2 < 0) = false := by simp; omega
      have g4 : decide (3 ≤ a2) = false := by simp; omega
      subst h0
      clear hb
      go_enter Try.func72, Try.ntmps72
      go_wp2_with (first | (go_at_call 135; refine (round_modes.calls _).mono ?_; rintro e w' ⟨rfl, rfl⟩))
      go_ret2
      exact ⟨rfl, by repeat (first | exact Below.refl _ _ | apply below_alloc | apply pw_below_drewN)⟩
    · rw [if_neg h0] at h
      simp only [Option.some.injEq, Prod.mk.injEq] at h
      obtain ⟨rfl, rfl⟩ := h
      have hm : a2 = 0 ∨ a2 = 1 ∨ a2 = 2 := by omega
      rcases hm with rfl | rfl | rfl
      · exact round_Shift.c0 a0 a1 w (by omega) (by omega)
      · exact round_Shift.c1 a0 a1 w (by omega) (by omega)
      · exact round_Shift.c2 a0 a1 w (by omega) (by omega)

end Go.Proofs.Ytmglkelmdcpinaa.G
/- The contract of the function cx_within (number 106 of the translation): what its call computes, as a plain Lean function; memory that was there stays as it was. Conditions: none beyond the theorem's own. Written by a program (gprint.py). -/
namespace Go.Proofs.Ytmglkelmdcpinaa.G
open Go.RowKit Go.Proofs.YtmglkelmdcpinaaW.PrintWords Go.Proofs.YtmglkelmdcpinaaW.PrintLast Go.Proofs.YtmglkelmdcpinaaW.PrintMore
attribute [local go_sem] max2_int min2_int max_two min_two max_three min_three max_four min_four   -- for this text's walks alone
set_option linter.unusedVariables false
set_option linter.unusedSimpArgs false

/-! ### cx_within: function 106 -/
def cx_within.l0 : Nat → Int → List (S43) → Int → Int → Option (Bool)
  | 0, _, _, _, _ => none
  | k + 1, x0, x7, x8, x9 => if x9 < x8 then (if 0 ≤ x9 then (if x9 < (x7.length : Int) then (if (mx ((rd_T43 x7 x9).f0) ((rd_T43 x7 x9).f1)) > x0 then (some false) else (if (mn ((rd_T43 x7 x9).f0) ((rd_T43 x7 x9).f1)) < (wrap64 (-x0)) then (some false) else (cx_within.l0 k x0 x7 x8 (wrap64 (x9 + 1))))) else (none)) else (none)) else (some true)
def cx_within.f (k : Nat) (a0 : Int) (l1 : List (S43)) : Option (Bool) := cx_within.l0 k a0 l1 (l1.length : Int) 0
theorem cx_within.mono_l : ∀ k, (∀ y0 y1 y2 y3, LeO (cx_within.l0 k y0 y1 y2 y3) (cx_within.l0 (k + 1) y0 y1 y2 y3))
  | 0 => fun _ _ _ _ r h => by simp [cx_within.l0] at h
  | k + 1 => by
    have ih0 := cx_within.mono_l k
    · intro y0 y1 y2 y3
      unfold cx_within.l0
      repeat' first
      | (with_reducible exact ih0 _ _ _ _)
      | (with_reducible exact LeO.refl _)
      | (with_reducible exact LeO.none _)
      | (with_reducible refine LeO.ite ?_ ?_)
      | (with_reducible refine LeO.bind ?_ (fun _ => ?_))
      | exact ih0 _ _ _ _
      | exact LeO.none _
      | refine LeO.ite ?_ ?_
      | refine LeO.bind ?_ (fun _ => ?_)
theorem cx_within.mono : ∀ a0 a1 k, LeO (cx_within.f k a0 a1) (cx_within.f (k + 1) a0 a1) := by
  intro a0 a1 k
  have ih0 := cx_within.mono_l k
  unfold cx_within.f
  repeat' first
      | (with_reducible exact ih0 _ _ _ _)
      | (with_reducible exact LeO.refl _)
      | (with_reducible exact LeO.none _)
      | (with_reducible refine LeO.ite ?_ ?_)
      | (with_reducible refine LeO.bind ?_ (fun _ => ?_))
      | exact ih0 _ _ _ _
      | exact LeO.none _
      | refine LeO.ite ?_ ?_
      | refine LeO.bind ?_ (fun _ => ?_)
set_option maxHeartbeats 8000000 in
set_option maxRecDepth 100000 in
theorem cx_within.calls (k : Nat) (a0 : Int) (A1 : Option Addr) (c1 : Nat) (l1 : List (S43)) (r : Bool) (w : World) (hr1 : Kd.C k43 w A1 l1.length l1) (hc1 : l1.length ≤ c1) (h : cx_within.f k a0 l1 = some r) :
    Calls Try.prog 106 #[.int .i64 a0, .slice A1 l1.length c1] w fun e w' => e = .returned (.bool r) ∧ Below w.heap.size w w' := by
  have hu43 := Try.underlying43
  have HR1 := Aside0.mk hr1
  have HC1 := Aside0.mk hc1
  clear hr1 hc1
  have HB := Aside0.mk (Below.refl w.heap.size w)
  have H : (cx_within.l0 k a0 l1 (l1.length : Int) 0) = some r := h
  clear h
  have H' := Aside0.mk H
  clear H
  go_enter Try.func106, Try.ntmps106
  go_wp2
  go_loopg [9] k (fun kq v9 w' => ∃ (x9_1 : Int), v9 = .int .i64 x9_1 ∧ Aside0 (cx_within.l0 kq a0 l1 (l1.length : Int) x9_1 = some r) ∧ Aside0 (kq ≤ k) ∧ Aside0 (Below w.heap.size w w'))
  case atStart => exact ⟨(0), (by first | rfl | (simp; done) | (simp [*]; done)), H', ⟨Nat.le_refl _⟩, ⟨by repeat (first | (with_reducible first | exact HB.out | apply below_alloc | apply pw_below_drewN | apply below_drew1) | exact HB.out)⟩⟩
  case round =>
    clear H'
    try clear c1
    try clear p2
    obtain ⟨x9_1, rfl, HA, HK1, HB⟩ := hrel
    cases gk with
    | zero => exact absurd HA.out (by simp [cx_within.l0])
    | succ k1 =>
      have H := HA.out
      clear HA
      simp only [cx_within.l0] at H
      by_cases c3 : x9_1 < (l1.length : Int)
      · rw [if_pos c3] at H
        have c3b0 : decide (x9_1 < (l1.length : Int)) = true := decide_eq_true c3
        clear c3
        by_cases c4 : 0 ≤ x9_1
        · rw [if_pos c4] at H
          have c4b0 : decide (0 ≤ x9_1) = true := decide_eq_true c4
          clear c4
          by_cases c5 : x9_1 < (l1.length : Int)
          · rw [if_pos c5] at H
            have c5b0 : decide (x9_1 < (l1.length : Int)) = true := decide_eq_true c5
            clear c5
            obtain ⟨ji6, hji6⟩ : ∃ j_ : Int, (mx ((rd_T43 l1 x9_1).f0) ((rd_T43 l1 x9_1).f1)) = j_ := ⟨_, rfl⟩
            replace H : (if (ji6) > a0 then (some false) else (if (mn ((rd_T43 l1 x9_1).f0) ((rd_T43 l1 x9_1).f1)) < (wrap64 (-a0)) then (some false) else (cx_within.l0 k1 a0 l1 (l1.length : Int) (wrap64 (x9_1 + 1))))) = some r := by first | (rw [hji6] at H; exact H) | (simp only [hji6] at H ⊢; exact H)
            have hji6_ : (if ((rd_T43 l1 x9_1).f0) < ((rd_T43 l1 x9_1).f1) then ((rd_T43 l1 x9_1).f1) else ((rd_T43 l1 x9_1).f0)) = ji6 := hji6
            by_cases c7 : (ji6) > a0
            · rw [if_pos c7] at H
              have c7b0 : decide (a0 < (ji6)) = true := decide_eq_true c7
              clear c7
              obtain rfl := Option.some.inj H
              have p101 : 0 ≤ (x9_1 : Int) := of_decide_eq_true (by first | (with_reducible assumption) | assumption)
              have q101 : x9_1 < (l1.length : Int) := of_decide_eq_true (by first | (with_reducible assumption) | assumption)
              obtain ⟨ad101, e101, hx101_0, hx101_1⟩ := at_T43 HR1.out x9_1 p101 q101
              cases e101
              replace hx101_0 := (HB.out.cell (World.block_lt_of_cell? w _ hx101_0)).trans hx101_0
              replace hx101_1 := (HB.out.cell (World.block_lt_of_cell? w _ hx101_1)).trans hx101_1
              replace p101 := eq_true p101
              replace q101 := eq_true q101
              go_wp2_with (first | ((with_reducible refine gate_dst (N := 6) rfl ?_); (try (refine gate_guard (by rfl) ?_; dsimp only)); refine box_event ?hg (N := 6) ?hd (cs := #[.int .i64 0, .int .i64 0]) (t := 43) ?hr ?_; (case hd => rfl); (case hg => rfl); (case hr => first | (go_simp; done) | (go_simp; rfl)); intro gb102 hg w8 hbox hb; have n0_ := Aside0.mk (below_step (by repeat (first | (with_reducible first | exact HB.out | apply below_alloc | apply pw_below_drewN | apply below_drew1) | exact HB.out)) hb); have n1_ := Aside0.mk (hbox); have n2_ := Aside0.mk ((by rw [hg]; exact (below_size (by repeat (first | (with_reducible first | exact HB.out | apply below_alloc | apply pw_below_drewN | apply below_drew1) | exact HB.out))) : w.heap.size ≤ gb102)); have n3_ := Aside0.mk ((by rw [hg]; exact (below_size (by repeat (first | (with_reducible first | exact HB.out | apply below_alloc | apply pw_below_drewN | apply below_drew1) | exact HB.out))) : w.heap.size ≤ gb102)); clear HB; have HB := n0_; have BK102 := n1_; have GW102 := n2_; have GE102 := n3_; clear n0_ n1_ n2_ n3_; clear hb hbox hg; have hcz9_0 : w8.cell? ⟨gb102, 0, none⟩ = some (.int .i64 0) := (blk_cell BK102.out 0).trans rfl; have hcz9_1 : w8.cell? ⟨gb102, 1, none⟩ = some (.int .i64 0) := (blk_cell BK102.out 1).trans rfl; have hfz9_0 := blk_frozen BK102.out 0; have hfz9_1 := blk_frozen BK102.out 1))
              go_ret
              exact ⟨by first | rfl | (simp [errW_none, errW_some] <;> rfl) | (simp only [← hji6]; first | rfl | (simp [errW_none, errW_some] <;> rfl)) | (simp [*, errW_none, errW_some] <;> rfl), by repeat (first | (with_reducible first | exact HB.out | apply below_alloc | apply pw_below_drewN | apply below_drew1 | refine below_set ?_ GE102.out) | exact HB.out)⟩
            · rw [if_neg c7] at H
              have c7b0 : decide (a0 < (ji6)) = false := decide_eq_false c7
              clear c7
              obtain ⟨ji10, hji10⟩ : ∃ j_ : Int, (mn ((rd_T43 l1 x9_1).f0) ((rd_T43 l1 x9_1).f1)) = j_ := ⟨_, rfl⟩
              replace H : (if (ji10) < (wrap64 (-a0)) then (some false) else (cx_within.l0 k1 a0 l1 (l1.length : Int) (wrap64 (x9_1 + 1)))) = some r := by first | (rw [hji10] at H; exact H) | (simp only [hji10] at H ⊢; exact H)
              have hji10_ : (if ((rd_T43 l1 x9_1).f1) < ((rd_T43 l1 x9_1).f0) then ((rd_T43 l1 x9_1).f1) else ((rd_T43 l1 x9_1).f0)) = ji10 := hji10
              by_cases c11 : (ji10) < (wrap64 (-a0))
              · rw [if_pos c11] at H
                have c11b0 : decide ((ji10) < (wrap64 (-a0))) = true := decide_eq_true c11
                clear c11
                obtain rfl := Option.some.inj H
                have p101 : 0 ≤ (x9_1 : Int) := of_decide_eq_true (by first | (with_reducible assumption) | assumption)
                have q101 : x9_1 < (l1.length : Int) := of_decide_eq_true (by first | (with_reducible assumption) | assumption)
                obtain ⟨ad101, e101, hx101_0, hx101_1⟩ := at_T43 HR1.out x9_1 p101 q101
                cases e101
                replace hx101_0 := (HB.out.cell (World.block_lt_of_cell? w _ hx101_0)).trans hx101_0
                replace hx101_1 := (HB.out.cell (World.block_lt_of_cell? w _ hx101_1)).trans hx101_1
                replace p101 := eq_true p101
                replace q101 := eq_true q101
                go_wp2_with (first | ((with_reducible refine gate_dst (N := 6) rfl ?_); (try (refine gate_guard (by rfl) ?_; dsimp only)); refine box_event ?hg (N := 6) ?hd (cs := #[.int .i64 0, .int .i64 0]) (t := 43) ?hr ?_; (case hd => rfl); (case hg => rfl); (case hr => first | (go_simp; done) | (go_simp; rfl)); intro gb102 hg w12 hbox hb; have n0_ := Aside0.mk (below_step (by repeat (first | (with_reducible first | exact HB.out | apply below_alloc | apply pw_below_drewN | apply below_drew1) | exact HB.out)) hb); have n1_ := Aside0.mk (hbox); have n2_ := Aside0.mk ((by rw [hg]; exact (below_size (by repeat (first | (with_reducible first | exact HB.out | apply below_alloc | apply pw_below_drewN | apply below_drew1) | exact HB.out))) : w.heap.size ≤ gb102)); have n3_ := Aside0.mk ((by rw [hg]; exact (below_size (by repeat (first | (with_reducible first | exact HB.out | apply below_alloc | apply pw_below_drewN | apply below_drew1) | exact HB.out))) : w.heap.size ≤ gb102)); clear HB; have HB := n0_; have BK102 := n1_; have GW102 := n2_; have GE102 := n3_; clear n0_ n1_ n2_ n3_; clear hb hbox hg; have hcz13_0 : w12.cell? ⟨gb102, 0, none⟩ = some (.int .i64 0) := (blk_cell BK102.out 0).trans rfl; have hcz13_1 : w12.cell? ⟨gb102, 1, none⟩ = some (.int .i64 0) := (blk_cell BK102.out 1).trans rfl; have hfz13_0 := blk_frozen BK102.out 0; have hfz13_1 := blk_frozen BK102.out 1))
                go_ret
                exact ⟨by first | rfl | (simp [errW_none, errW_some] <;> rfl) | (simp only [← hji6, ← hji10]; first | rfl | (simp [errW_none, errW_some] <;> rfl)) | (simp [*, errW_none, errW_some] <;> rfl), by repeat (first | (with_reducible first | exact HB.out | apply below_alloc | apply pw_below_drewN | apply below_drew1 | refine below_set ?_ GE102.out) | exact HB.out)⟩
              · rw [if_neg c11] at H
                have c11b0 : decide ((ji10) < (wrap64 (-a0))) = false := decide_eq_false c11
                clear c11
                have H' := Aside0.mk H
                clear H
                have p101 : 0 ≤ (x9_1 : Int) := of_decide_eq_true (by first | (with_reducible assumption) | assumption)
                have q101 : x9_1 < (l1.length : Int) := of_decide_eq_true (by first | (with_reducible assumption) | assumption)
                obtain ⟨ad101, e101, hx101_0, hx101_1⟩ := at_T43 HR1.out x9_1 p101 q101
                cases e101
                replace hx101_0 := (HB.out.cell (World.block_lt_of_cell? w _ hx101_0)).trans hx101_0
                replace hx101_1 := (HB.out.cell (World.block_lt_of_cell? w _ hx101_1)).trans hx101_1
                replace p101 := eq_true p101
                replace q101 := eq_true q101
                go_wp2_with (first | ((with_reducible refine gate_dst (N := 6) rfl ?_); (try (refine gate_guard (by rfl) ?_; dsimp only)); refine box_event ?hg (N := 6) ?hd (cs := #[.int .i64 0, .int .i64 0]) (t := 43) ?hr ?_; (case hd => rfl); (case hg => rfl); (case hr => first | (go_simp; done) | (go_simp; rfl)); intro gb102 hg w14 hbox hb; have n0_ := Aside0.mk (below_step (by repeat (first | (with_reducible first | exact HB.out | apply below_alloc | apply pw_below_drewN | apply below_drew1) | exact HB.out)) hb); have n1_ := Aside0.mk (hbox); have n2_ := Aside0.mk ((by rw [hg]; exact (below_size (by repeat (first | (with_reducible first | exact HB.out | apply below_alloc | apply pw_below_drewN | apply below_drew1) | exact HB.out))) : w.heap.size ≤ gb102)); have n3_ := Aside0.mk ((by rw [hg]; exact (below_size (by repeat (first | (with_reducible first | exact HB.out | apply below_alloc | apply pw_below_drewN | apply below_drew1) | exact HB.out))) : w.heap.size ≤ gb102)); clear HB; have HB := n0_; have BK102 := n1_; have GW102 := n2_; have GE102 := n3_; clear n0_ n1_ n2_ n3_; clear hb hbox hg; have hcz15_0 : w14.cell? ⟨gb102, 0, none⟩ = some (.int .i64 0) := (blk_cell BK102.out 0).trans rfl; have hcz15_1 : w14.cell? ⟨gb102, 1, none⟩ = some (.int .i64 0) := (blk_cell BK102.out 1).trans rfl; have hfz15_0 := blk_frozen BK102.out 0; have hfz15_1 := blk_frozen BK102.out 1))
                go_roundg k1
                case measure => have := HK1.out; omega
                case rel => exact ⟨(wrap64 (x9_1 + 1)), (by first | rfl | (simp; done) | (simp [*]; done)), H', ⟨by have := HK1.out; omega⟩, ⟨by repeat (first | (with_reducible first | exact HB.out | apply below_alloc | apply pw_below_drewN | apply below_drew1 | refine below_set ?_ GE102.out) | exact HB.out)⟩⟩
          · rw [if_neg c5] at H
            exact absurd H (by simp)
        · rw [if_neg c4] at H
          exact absurd H (by simp)
      · rw [if_neg c3] at H
        have c3b0 : decide (x9_1 < (l1.length : Int)) = false := decide_eq_false c3
        clear c3
        obtain rfl := Option.some.inj H
        go_wp2
        go_ret
        exact ⟨by first | rfl | (simp [errW_none, errW_some] <;> rfl) | (simp [*, errW_none, errW_some] <;> rfl), by repeat (first | (with_reducible first | exact HB.out | apply below_alloc | apply pw_below_drewN | apply below_drew1) | exact HB.out)⟩

end Go.Proofs.Ytmglkelmdcpinaa.G
/- The contract of the function api_Cx_105 (number 105 of the translation): what its call computes, as a plain Lean function; memory that was there stays as it was. Conditions: none beyond the theorem's own. Written by a program (gprint.py). -/
namespace Go.Proofs.Ytmglkelmdcpinaa.G
open Go.RowKit Go.Proofs.YtmglkelmdcpinaaW.PrintWords Go.Proofs.YtmglkelmdcpinaaW.PrintLast Go.Proofs.YtmglkelmdcpinaaW.PrintMore
attribute [local go_sem] max2_int min2_int max_two min_two max_three min_three max_four min_four   -- for this text's walks alone
set_option linter.unusedVariables false
set_option linter.unusedSimpArgs false

/-! ### api_Cx_105: function 105 -/
theorem grown_set {w W : World} {row : Option Nat} (h : w.grownBy W row) {p : Addr} (hp : w.heap.size ≤ p.block) (u : Value) : w.grownBy (W.setCell p u) row :=
  ⟨h.os, h.tape, h.output, by have := h.size; simpa [World.setCell] using this, fun i hi hne => (Below.heap_setCell W p u i (by omega)).trans (h.block i hi hne)⟩
theorem grown_at {w W : World} {B : Nat} (h : w.grownBy W (some B)) {p : Addr} (hp : p.block = B) (u : Value) : w.grownBy (W.setCell p u) (some B) :=
  ⟨h.os, h.tape, h.output, by have := h.size; simpa [World.setCell] using this, fun i hi hne => (Below.heap_setCell W p u i (fun e => hne (by rw [e, hp]))).trans (h.block i hi hne)⟩
theorem C_lit_cx {w : World} (B : Nat) (l : List S43) (hb : l.length ≤ 9223372036854775807) (h : ∀ j, j < l.length → w.cell? ⟨B, j * 2, none⟩ = some (.int .i64 (l.getD j z43).f0) ∧ w.cell? ⟨B, j * 2 + 1, none⟩ = some (.int .i64 (l.getD j z43).f1)) : Kd.C k43 w (some ⟨B, 0, none⟩) l.length l := by
  refine ⟨rfl, hb, fun hn => ⟨_, rfl, fun j p hj => ?_⟩⟩
  obtain ⟨hj', rfl⟩ := List.getElem?_eq_some_iff.1 hj
  refine ⟨[.int .i64 l[j].f0, .int .i64 l[j].f1], rfl, k43_mk w l[j], fun i u hu => ?_⟩
  have hg : l.getD j z43 = l[j] := by rw [List.getD_eq_getElem?_getD, List.getElem?_eq_getElem hj']; rfl
  obtain ⟨h0, h1⟩ := h j hj'
  rw [hg] at h0 h1
  match i, hu with
  | 0, hu => simp at hu; subst hu; rw [add_plain]; exact h0
  | 1, hu => simp at hu; subst hu; rw [add_plain]; exact h1
/-- Are all numbers' parts so great at most? -/
def within (most : Int) (l : List S43) : Bool := l.all fun a => decide (mx a.f0 a.f1 ≤ most) && decide (-most ≤ mn a.f0 a.f1)
theorem cx_within.run (most : Int) (h : wrap64 (-most) = -most) (l : List S43) (hl : l.length < 9223372036854775807) : ∀ (k : Nat) (i : Nat), i ≤ l.length → l.length - i < k → cx_within.l0 k most l (l.length : Int) (i : Int) = some (within most (l.drop i)) := by
  intro k
  induction k with
  | zero => intro i _ h; omega
  | succ k ih =>
    intro i hi hk
    simp only [cx_within.l0]
    by_cases hlt : i < l.length
    · rw [if_pos (by omega), if_pos (by omega), if_pos (by omega)]
      have hd : l.drop i = l[i] :: l.drop (i + 1) := List.drop_eq_getElem_cons hlt
      have hr : rd_T43 l (i : Int) = l[i] := by simp [rd_T43, List.getD_eq_getElem?_getD, hlt]
      rw [hr, hd, h]
      have e : wrap64 ((i : Int) + 1) = ((i + 1 : Nat) : Int) := by unfold wrap64; omega
      unfold within
      simp only [List.all_cons]
      by_cases h1 : mx l[i].f0 l[i].f1 > most
      · rw [if_pos h1]
        have : decide (mx l[i].f0 l[i].f1 ≤ most) = false := by simp; omega
        simp [this]
      · rw [if_neg h1]
        have e1 : decide (mx l[i].f0 l[i].f1 ≤ most) = true := by simp; omega
        by_cases h2 : mn l[i].f0 l[i].f1 < -most
        · rw [if_pos h2]
          have : decide (-most ≤ mn l[i].f0 l[i].f1) = false := by simp; omega
          simp [this]
        · rw [if_neg h2, e, ih (i + 1) (by omega) (by omega)]
          have e2 : decide (-most ≤ mn l[i].f0 l[i].f1) = true := by simp; omega
          simp [e1, e2, within]
    · rw [if_neg (by omega)]
      have : i = l.length := by omega
      subst this
      simp [within]
theorem cx_within.val (most : Int) (h : wrap64 (-most) = -most) (l : List S43) (hl : l.length < 9223372036854775807) : cx_within.f (l.length + 1) most l = some (within most l) := by
  have := cx_within.run most h l hl (l.length + 1) 0 (by omega) (by omega)
  simpa [cx_within.f] using this
set_option maxHeartbeats 1000000 in
theorem cx_made.no (g : Nat) (lb : Array Value) (w : World) :
    Calls Try.prog 105 #[.bool false, .func (.func g) #[] lb] w fun e w' => e = .returned (.tuple #[.agg #[.int .i64 0, .int .i64 0], .int .i64 2]) ∧ Below w.heap.size w w' := by
  go_enter Try.func105, Try.ntmps105
  go_wp2
  refine bodyPost_ret (v := .tuple #[.agg #[.int .i64 0, .int .i64 0], .int .i64 2]) (by simp [results, Try.results105, go_sem]) rfl ⟨rfl, ?_⟩
  repeat (first | exact Below.refl _ _ | apply below_alloc | apply pw_below_drewN | (refine below_set ?_ (by simp)))
set_option maxHeartbeats 1000000 in
theorem cx_made.yes (g : Nat) (lb : Array Value) (x y : Int) (row : Option Nat) (w : World) (eg : ∀ args w, (callFunc g args).run Try.prog w = .ok (.enter g args) w)
    (hm : Calls Try.prog g lb (w.alloc (.cells #[.int .i64 0, .int .i64 0] 43)) fun e W' => e = .returned (.agg #[.int .i64 x, .int .i64 y]) ∧ (w.alloc (.cells #[.int .i64 0, .int .i64 0] 43)).grownBy W' row)
    (hrow : ∀ r, row = some r → r < w.heap.size) :
    Calls Try.prog 105 #[.bool true, .func (.func g) #[] lb] w fun e w' => e = .returned (.tuple #[.agg #[.int .i64 x, .int .i64 y], .int .i64 0]) ∧ w.grownBy w' row := by
  have HM := Aside0.mk hm
  have HR := Aside0.mk hrow
  clear hm hrow
  go_enter Try.func105, Try.ntmps105
  go_wp2_with (fail)
  refine HM.out.mono ?_
  rintro e w1 ⟨rfl, hg⟩
  have hb : w1.heap[w.heap.size]? = some (.cells #[.int .i64 0, .int .i64 0] 43 (0, 0)) := blk_grown (blk_new _ _) hg (fun e => by have := HR.out _ e.symm; omega)
  have c0 : w1.cell? ⟨w.heap.size, 0, none⟩ = some (.int .i64 0) := (blk_cell hb 0).trans rfl
  have c1 : w1.cell? ⟨w.heap.size, 1, none⟩ = some (.int .i64 0) := (blk_cell hb 1).trans rfl
  have f0 := blk_frozen hb 0
  have f1 := blk_frozen hb 1
  have HG := Aside0.mk hg
  have HB := Aside0.mk hb
  clear hg hb
  go_wp2
  have HG2 := (World.grownBy_alloc w (.cells #[.int .i64 0, .int .i64 0] 43) row).trans HG.out
  refine bodyPost_ret (v := .tuple #[.agg #[.int .i64 x, .int .i64 y], .int .i64 0]) (by simp [results, Try.results105, go_sem, c0, c1]) rfl ⟨rfl, ?_⟩
  exact grown_set (grown_set HG2 (Nat.le_refl _) _) (Nat.le_refl _) _

end Go.Proofs.Ytmglkelmdcpinaa.G
/- The contract of the function cx_Conj_1 (number 108 of the translation): what its call computes, as a plain Lean function; memory that was there stays as it was. Conditions: none beyond the theorem's own. Written by a program (gprint.py). -/
namespace Go.Proofs.Ytmglkelmdcpinaa.G
open Go.RowKit Go.Proofs.YtmglkelmdcpinaaW.PrintWords Go.Proofs.YtmglkelmdcpinaaW.PrintLast Go.Proofs.YtmglkelmdcpinaaW.PrintMore
attribute [local go_sem] max2_int min2_int max_two min_two max_three min_three max_four min_four   -- for this text's walks alone
set_option linter.unusedVariables false
set_option linter.unusedSimpArgs false

/-! ### cx_Conj_1: function 108 -/
set_option maxHeartbeats 1000000 in
theorem cx_Conj1.calls (B : Nat) (x y : Int) (w : World) (h0 : w.cell? ⟨B, 0, none⟩ = some (.int .i64 x)) (h1 : w.cell? ⟨B, 1, none⟩ = some (.int .i64 y)) :
    Calls Try.prog 108 #[.pointer (some ⟨B, 0, none⟩)] w fun e w' => e = .returned (.agg #[.int .i64 x, .int .i64 (wrap64 (-y))]) ∧ Below w.heap.size w w' := by
  have l0 := World.block_lt_of_cell? w _ h0
  go_enter Try.func108, Try.ntmps108
  go_wp2
  refine bodyPost_ret (v := .agg #[.int .i64 x, .int .i64 (wrap64 (-y))]) (by simp [results, Try.results108, go_sem]) rfl ⟨rfl, ?_⟩
  repeat (first | exact Below.refl _ _ | apply below_alloc | apply pw_below_drewN | (refine below_set ?_ (by simp)))

end Go.Proofs.Ytmglkelmdcpinaa.G
/- The contract of the function cx_Conj (number 41 of the translation): what its call computes, as a plain Lean function; memory that was there stays as it was. Conditions: none beyond the theorem's own. Written by a program (gprint.py). -/
namespace Go.Proofs.Ytmglkelmdcpinaa.G
open Go.RowKit Go.Proofs.YtmglkelmdcpinaaW.PrintWords Go.Proofs.YtmglkelmdcpinaaW.PrintLast Go.Proofs.YtmglkelmdcpinaaW.PrintMore
attribute [local go_sem] max2_int min2_int max_two min_two max_three min_three max_four min_four   -- for this text's walks alone
set_option linter.unusedVariables false
set_option linter.unusedSimpArgs false

/-! ### cx_Conj: function 41 -/
def cx_Conj.f (a0_0 a0_1 : Int) : Option (Int × Int × Int) := if within 2305843009213693952 [⟨a0_0, a0_1⟩] = true then some (a0_0, wrap64 (-a0_1), 0) else some (0, 0, 2)
theorem cx_wide : wrap64 (-2305843009213693952) = -2305843009213693952 := by unfold wrap64; omega
set_option maxHeartbeats 2000000 in
theorem cx_Conj.calls (a0_0 : Int) (a0_1 : Int) (r1 : Int) (r2 : Int) (r3 : Int) (w : World) (h : cx_Conj.f a0_0 a0_1 = some (r1, r2, r3)) :
    Calls Try.prog 41 #[.agg #[.int .i64 a0_0, .int .i64 a0_1]] w fun e w' => e = .returned (.tuple #[.agg #[.int .i64 r1, .int .i64 r2], .int .i64 r3]) ∧ Below w.heap.size w w' := by
  have HV := Aside0.mk (cx_within.val 2305843009213693952 cx_wide [⟨a0_0, a0_1⟩] (by simp))
  unfold cx_Conj.f at h
  cases hq : within 2305843009213693952 [⟨a0_0, a0_1⟩] with
  | true =>
    rw [hq] at h HV
    simp only [if_true, Option.some.injEq, Prod.mk.injEq] at h
    obtain ⟨rfl, rfl, rfl⟩ := h
    clear hq
    go_enter Try.func41, Try.ntmps41
    go_wp2_with (fail)
    refine (cx_within.calls _ _ _ _ [⟨a0_0, a0_1⟩] true _ (C_lit_cx _ _ (by simp) ?_) (by simp) HV.out).mono ?_
    · intro j hj
      match j, hj with
      | 0, _ => simp [go_sem]
    rintro e w1 ⟨rfl, hb⟩
    have B0 : w1.heap[w.heap.size]? = some (.cells #[.int .i64 a0_0, .int .i64 a0_1] 43 (0, 0)) := blk_below (blk_alloc (blk_alloc (blk_new _ _) _) _) hb
    have B1 : w1.heap[w.heap.size + 1]? = some (.cells #[.int .i64 0, .int .i64 0] 43 (0, 0)) := blk_below (blk_alloc (by have := blk_new (w.alloc (.cells #[.int .i64 a0_0, .int .i64 a0_1] 43)) (.cells #[.int .i64 0, .int .i64 0] 43); simpa using this) _) hb
    have HB0 := Aside0.mk B0
    have HB1 := Aside0.mk B1
    have HW := Aside0.mk (below_then (below_alloc (below_alloc (below_alloc (Below.refl _ _) _) _) _) (by simp <;> omega) hb : Below w.heap.size w w1)
    clear hb B0 B1 HV
    go_wp2_with (fail)
    refine (cx_made.yes 108 #[.pointer (some ⟨w.heap.size, 0, none⟩)] a0_0 (wrap64 (-a0_1)) none w1 (enters_of Try.func108 (by kernel_rfl) rfl) ?_ (by simp)).mono ?_
    · have k := blk_alloc HB0.out (.cells #[.int .i64 0, .int .i64 0] 43)
      refine (cx_Conj1.calls w.heap.size a0_0 a0_1 _ ((blk_cell k 0).trans rfl) ((blk_cell k 1).trans rfl)).mono ?_
      rintro e w' ⟨rfl, hb⟩
      exact ⟨rfl, grown_of_below hb none⟩
    rintro e w2 ⟨rfl, hg⟩
    have B1 := blk_grown HB1.out hg (by simp)
    have c0 : w2.cell? ⟨w.heap.size + 1, 0, none⟩ = some (.int .i64 0) := (blk_cell B1 0).trans rfl
    have c1 : w2.cell? ⟨w.heap.size + 1, 1, none⟩ = some (.int .i64 0) := (blk_cell B1 1).trans rfl
    have f0 := blk_frozen B1 0
    have f1 := blk_frozen B1 1
    have HW2 := Aside0.mk (HW.out.grown hg HW.out.size (by simp))
    clear hg B1 HB0 HB1 HW
    go_wp2
    refine bodyPost_ret (v := .tuple #[.agg #[.int .i64 a0_0, .int .i64 (wrap64 (-a0_1))], .int .i64 0]) (by simp [results, Try.results41, go_sem, c0, c1]) rfl ⟨rfl, ?_⟩
    exact below_set (below_set HW2.out (by simp)) (by simp)
  | false =>
    rw [hq] at h HV
    simp only [Bool.false_eq_true, if_false, Option.some.injEq, Prod.mk.injEq] at h
    obtain ⟨rfl, rfl, rfl⟩ := h
    clear hq
    go_enter Try.func41, Try.ntmps41
    go_wp2_with (fail)
    refine (cx_within.calls _ _ _ _ [⟨a0_0, a0_1⟩] false _ (C_lit_cx _ _ (by simp) ?_) (by simp) HV.out).mono ?_
    · intro j hj
      match j, hj with
      | 0, _ => simp [go_sem]
    rintro e w1 ⟨rfl, hb⟩
    have B1 : w1.heap[w.heap.size + 1]? = some (.cells #[.int .i64 0, .int .i64 0] 43 (0, 0)) := blk_below (blk_alloc (by have := blk_new (w.alloc (.cells #[.int .i64 a0_0, .int .i64 a0_1] 43)) (.cells #[.int .i64 0, .int .i64 0] 43); simpa using this) _) hb
    have HB1 := Aside0.mk B1
    have HW := Aside0.mk (below_then (below_alloc (below_alloc (below_alloc (Below.refl _ _) _) _) _) (by simp <;> omega) hb : Below w.heap.size w w1)
    clear hb B1 HV
    go_wp2_with (fail)
    refine (cx_made.no 108 _ w1).mono ?_
    rintro e w2 ⟨rfl, hb⟩
    have B1 := blk_below HB1.out hb
    have c0 : w2.cell? ⟨w.heap.size + 1, 0, none⟩ = some (.int .i64 0) := (blk_cell B1 0).trans rfl
    have c1 : w2.cell? ⟨w.heap.size + 1, 1, none⟩ = some (.int .i64 0) := (blk_cell B1 1).trans rfl
    have f0 := blk_frozen B1 0
    have f1 := blk_frozen B1 1
    have HW2 := Aside0.mk (below_step HW.out hb)
    clear hb B1 HB1 HW
    go_wp2
    refine bodyPost_ret (v := .tuple #[.agg #[.int .i64 0, .int .i64 0], .int .i64 2]) (by simp [results, Try.results41, go_sem, c0, c1]) rfl ⟨rfl, ?_⟩
    exact below_set (below_set HW2.out (by simp)) (by simp)

end Go.Proofs.Ytmglkelmdcpinaa.G
/- The contract of the function flip_Log (number 75 of the translation): what its call computes, as a plain Lean function; memory that was there stays as it was. Conditions: none beyond the theorem's own. Written by a program (gprint.py). -/
namespace Go.Proofs.Ytmglkelmdcpinaa.G
open Go.RowKit Go.Proofs.YtmglkelmdcpinaaW.PrintWords Go.Proofs.YtmglkelmdcpinaaW.PrintLast Go.Proofs.YtmglkelmdcpinaaW.PrintMore
attribute [local go_sem] max2_int min2_int max_two min_two max_three min_three max_four min_four   -- for this text's walks alone
set_option linter.unusedVariables false
set_option linter.unusedSimpArgs false

/-! ### flip_Log: function 75 -/
def flip_Log.l0 : Nat → Int → Int → Option (Int × Int)
  | 0, _, _ => none
  | k + 1, x0, x4 => if x4 ≤ 6 then (if 0 ≤ x4 then (if x0 = (shl .i64 1 x4) then (some (x4, 0)) else (flip_Log.l0 k x0 (wrap64 (x4 + 1)))) else (none)) else (some (0, 3))
def flip_Log.f (k : Nat) (a0 : Int) : Option (Int × Int) := flip_Log.l0 k a0 2
theorem flip_Log.mono_l : ∀ k, (∀ y0 y1, LeO (flip_Log.l0 k y0 y1) (flip_Log.l0 (k + 1) y0 y1))
  | 0 => fun _ _ r h => by simp [flip_Log.l0] at h
  | k + 1 => by
    have ih0 := flip_Log.mono_l k
    · intro y0 y1
      unfold flip_Log.l0
      repeat' first
      | (with_reducible exact ih0 _ _)
      | (with_reducible exact LeO.refl _)
      | (with_reducible exact LeO.none _)
      | (with_reducible refine LeO.ite ?_ ?_)
      | (with_reducible refine LeO.bind ?_ (fun _ => ?_))
      | exact ih0 _ _
      | exact LeO.none _
      | refine LeO.ite ?_ ?_
      | refine LeO.bind ?_ (fun _ => ?_)
theorem flip_Log.mono : ∀ a0 k, LeO (flip_Log.f k a0) (flip_Log.f (k + 1) a0) := by
  intro a0 k
  have ih0 := flip_Log.mono_l k
  unfold flip_Log.f
  repeat' first
      | (with_reducible exact ih0 _ _)
      | (with_reducible exact LeO.refl _)
      | (with_reducible exact LeO.none _)
      | (with_reducible refine LeO.ite ?_ ?_)
      | (with_reducible refine LeO.bind ?_ (fun _ => ?_))
      | exact ih0 _ _
      | exact LeO.none _
      | refine LeO.ite ?_ ?_
      | refine LeO.bind ?_ (fun _ => ?_)
set_option maxHeartbeats 8000000 in
set_option maxRecDepth 100000 in
theorem flip_Log.calls (k : Nat) (a0 : Int) (r1 : Int) (r2 : Int) (w : World) (h : flip_Log.f k a0 = some (r1, r2)) :
    Calls Try.prog 75 #[.int .i64 a0] w fun e w' => e = .returned (.tuple #[.int .i64 r1, .int .i64 r2]) ∧ Drawn0 w w' := by
  have H : (flip_Log.l0 k a0 2) = some (r1, r2) := h
  clear h
  have H' := Aside0.mk H
  clear H
  go_enter Try.func75, Try.ntmps75
  go_wp2
  go_loopg [4] k (fun kq v4 w' => ∃ (x4_1 : Int), v4 = .int .i64 x4_1 ∧ Aside0 (flip_Log.l0 kq a0 x4_1 = some (r1, r2)) ∧ Aside0 (kq ≤ k) ∧ Drawn0 w w')
  case atStart => exact ⟨(2), (by first | rfl | (simp; done) | (simp [*]; done)), H', ⟨Nat.le_refl _⟩, by repeat (first | exact Drawn0.refl _ | apply Drawn0.step)⟩
  case round =>
    clear H'
    obtain ⟨x4_1, rfl, HA, HK1, ⟨m1, rfl⟩⟩ := hrel
    cases gk with
    | zero => exact absurd HA.out (by simp [flip_Log.l0])
    | succ k1 =>
      have H := HA.out
      clear HA
      simp only [flip_Log.l0] at H
      by_cases c2 : x4_1 ≤ 6
      · rw [if_pos c2] at H
        have c2b0 : decide (x4_1 ≤ 6) = true := decide_eq_true c2
        clear c2
        by_cases c3 : 0 ≤ x4_1
        · rw [if_pos c3] at H
          have c3b0 := eq_true c3
          have c3b1 : decide (0 ≤ x4_1) = true := decide_eq_true c3
          clear c3
          obtain ⟨ji4, hji4⟩ : ∃ j_ : Int, (shl .i64 1 x4_1) = j_ := ⟨_, rfl⟩
          replace H : (if a0 = (ji4) then (some (x4_1, 0)) else (flip_Log.l0 k1 a0 (wrap64 (x4_1 + 1)))) = some (r1, r2) := by first | (rw [hji4] at H; exact H) | (simp only [hji4] at H ⊢; exact H)
          have hji4_ : (IntKind.i64.wrap (1 * 2 ^ min x4_1.toNat 64)) = ji4 := hji4
          have hji4z : x4_1 ≤ 64 → (IntKind.i64.wrap (1 * 2 ^ x4_1.toNat)) = ji4 := shl_small hji4
          have hji4u : (IntKind.i64.wrap (2 ^ min x4_1.toNat 64)) = ji4 := by have h_ := hji4_; rw [Int.one_mul] at h_; exact h_
          have hji4v : x4_1 ≤ 64 → (IntKind.i64.wrap (2 ^ x4_1.toNat)) = ji4 := fun hle_ => by have h_ := hji4z hle_; rw [Int.one_mul] at h_; exact h_
          have hji4y : (wrap64 (1 * 2 ^ min x4_1.toNat 64)) = ji4 := (i64_w _).symm.trans hji4_
          have hji4x : x4_1 ≤ 64 → (wrap64 (1 * 2 ^ x4_1.toNat)) = ji4 := fun h_ => (i64_w _).symm.trans (hji4z h_)
          by_cases c5 : a0 = (ji4)
          · rw [if_pos c5] at H
            have c5b0 : (a0 == (ji4)) = true := beq_iff_eq.mpr c5
            have c5b1 : (a0 != (ji4)) = false := bne_eq_false_iff_eq.mpr c5
            clear c5
            simp only [Option.some.injEq, Prod.mk.injEq] at H
            obtain ⟨rfl, rfl⟩ := H
            go_wp2
            go_ret2
            exact ⟨by first | rfl | (simp; done) | (simp only [← hji4] <;> (first | rfl | simp)) | (simp [*]; done), by repeat (first | exact Drawn0.refl _ | apply Drawn0.step)⟩
          · rw [if_neg c5] at H
            have c5b0 : (a0 == (ji4)) = false := beq_eq_false_iff_ne.mpr c5
            have c5b1 : (a0 != (ji4)) = true := bne_iff_ne.mpr c5
            have H' := Aside0.mk H
            clear H
            go_wp2
            go_roundg k1
            case measure => have := HK1.out; omega
            case rel => exact ⟨(wrap64 (x4_1 + 1)), (by first | rfl | (simp; done) | (simp [*]; done)), H', ⟨by have := HK1.out; omega⟩, by repeat (first | exact Drawn0.refl _ | apply Drawn0.step)⟩
        · rw [if_neg c3] at H
          exact absurd H (by simp)
      · rw [if_neg c2] at H
        have c2b0 : decide (x4_1 ≤ 6) = false := decide_eq_false c2
        clear c2
        simp only [Option.some.injEq, Prod.mk.injEq] at H
        obtain ⟨rfl, rfl⟩ := H
        go_wp2
        go_ret2
        exact ⟨by first | rfl | (simp; done) | (simp [*]; done), by repeat (first | exact Drawn0.refl _ | apply Drawn0.step)⟩

end Go.Proofs.Ytmglkelmdcpinaa.G
/- The contract of the function two_narrow (number 77 of the translation): what its call computes, as a plain Lean function; memory that was there stays as it was. Conditions: none beyond the theorem's own. Written by a program (gprint.py). -/
namespace Go.Proofs.Ytmglkelmdcpinaa.G
open Go.RowKit Go.Proofs.YtmglkelmdcpinaaW.PrintWords Go.Proofs.YtmglkelmdcpinaaW.PrintLast Go.Proofs.YtmglkelmdcpinaaW.PrintMore
attribute [local go_sem] max2_int min2_int max_two min_two max_three min_three max_four min_four   -- for this text's walks alone
set_option linter.unusedVariables false
set_option linter.unusedSimpArgs false

/-! ### two_narrow: function 77 -/
def two_narrow.f (a0_0 : Int) (a0_1 : Int) (a1 : Int) : Option (Bool) := if (mx a0_0 a0_1) ≤ a1 then (some (decide ((mn a0_0 a0_1) ≥ (wrap64 (-a1))))) else (some false)
set_option maxHeartbeats 8000000 in
set_option maxRecDepth 100000 in
theorem two_narrow.calls (a0_0 : Int) (a0_1 : Int) (a1 : Int) (r : Bool) (w : World) (h : two_narrow.f a0_0 a0_1 a1 = some r) :
    Calls Try.prog 77 #[.agg #[.int .i64 a0_0, .int .i64 a0_1], .int .i64 a1] w fun e w' => e = .returned (.bool r) ∧ Below w.heap.size w w' := by
  have hu43 := Try.underlying43
  have HB := Aside0.mk (Below.refl w.heap.size w)
  have H : (if (mx a0_0 a0_1) ≤ a1 then (some (decide ((mn a0_0 a0_1) ≥ (wrap64 (-a1))))) else (some false)) = some r := h
  clear h
  obtain ⟨ji3, hji3⟩ : ∃ j_ : Int, (mx a0_0 a0_1) = j_ := ⟨_, rfl⟩
  replace H : (if (ji3) ≤ a1 then (some (decide ((mn a0_0 a0_1) ≥ (wrap64 (-a1))))) else (some false)) = some r := by first | (rw [hji3] at H; exact H) | (simp only [hji3] at H ⊢; exact H)
  have hji3_ : (if a0_0 < a0_1 then a0_1 else a0_0) = ji3 := hji3
  by_cases c4 : (ji3) ≤ a1
  · rw [if_pos c4] at H
    have c4b0 : decide ((ji3) ≤ a1) = true := decide_eq_true c4
    clear c4
    obtain ⟨ji5, hji5⟩ : ∃ j_ : Int, (mn a0_0 a0_1) = j_ := ⟨_, rfl⟩
    replace H : (some (decide ((ji5) ≥ (wrap64 (-a1))))) = some r := by first | (rw [hji5] at H; exact H) | (simp only [hji5] at H ⊢; exact H)
    have hji5_ : (if a0_1 < a0_0 then a0_1 else a0_0) = ji5 := hji5
    obtain rfl := Option.some.inj H
    go_enter Try.func77, Try.ntmps77
    go_wp2_with (first | ((with_reducible refine gate_dst (N := 2) rfl ?_); (try (refine gate_guard (by rfl) ?_; dsimp only)); refine box_event ?hg (N := 2) ?hd (cs := #[.int .i64 a0_0, .int .i64 a0_1]) (t := 43) ?hr ?_; (case hd => rfl); (case hg => rfl); (case hr => first | (go_simp; done) | (go_simp; rfl)); intro gb101 hg w6 hbox hb; have n0_ := Aside0.mk (below_step (by repeat (first | (with_reducible first | exact HB.out | apply below_alloc | apply pw_below_drewN | apply below_drew1) | exact HB.out)) hb); have n1_ := Aside0.mk (hbox); have n2_ := Aside0.mk ((by rw [hg]; exact (below_size (by repeat (first | (with_reducible first | exact HB.out | apply below_alloc | apply pw_below_drewN | apply below_drew1) | exact HB.out))) : w.heap.size ≤ gb101)); have n3_ := Aside0.mk ((by rw [hg]; exact (below_size (by repeat (first | (with_reducible first | exact HB.out | apply below_alloc | apply pw_below_drewN | apply below_drew1) | exact HB.out))) : w.heap.size ≤ gb101)); clear HB; have HB := n0_; have BK101 := n1_; have GW101 := n2_; have GE101 := n3_; clear n0_ n1_ n2_ n3_; clear hb hbox hg; have hcz7_0 : w6.cell? ⟨gb101, 0, none⟩ = some (.int .i64 a0_0) := (blk_cell BK101.out 0).trans rfl; have hcz7_1 : w6.cell? ⟨gb101, 1, none⟩ = some (.int .i64 a0_1) := (blk_cell BK101.out 1).trans rfl; have hfz7_0 := blk_frozen BK101.out 0; have hfz7_1 := blk_frozen BK101.out 1))
    go_ret
    exact ⟨by first | rfl | (simp [errW_none, errW_some] <;> rfl) | (simp only [← hji3, ← hji5]; first | rfl | (simp [errW_none, errW_some] <;> rfl)) | (simp [*, errW_none, errW_some] <;> rfl), by repeat (first | (with_reducible first | exact HB.out | apply below_alloc | apply pw_below_drewN | apply below_drew1 | refine below_set ?_ GE101.out) | exact HB.out)⟩
  · rw [if_neg c4] at H
    have c4b0 : decide ((ji3) ≤ a1) = false := decide_eq_false c4
    clear c4
    obtain rfl := Option.some.inj H
    go_enter Try.func77, Try.ntmps77
    go_wp2_with (first | ((with_reducible refine gate_dst (N := 2) rfl ?_); (try (refine gate_guard (by rfl) ?_; dsimp only)); refine box_event ?hg (N := 2) ?hd (cs := #[.int .i64 a0_0, .int .i64 a0_1]) (t := 43) ?hr ?_; (case hd => rfl); (case hg => rfl); (case hr => first | (go_simp; done) | (go_simp; rfl)); intro gb101 hg w8 hbox hb; have n0_ := Aside0.mk (below_step (by repeat (first | (with_reducible first | exact HB.out | apply below_alloc | apply pw_below_drewN | apply below_drew1) | exact HB.out)) hb); have n1_ := Aside0.mk (hbox); have n2_ := Aside0.mk ((by rw [hg]; exact (below_size (by repeat (first | (with_reducible first | exact HB.out | apply below_alloc | apply pw_below_drewN | apply below_drew1) | exact HB.out))) : w.heap.size ≤ gb101)); have n3_ := Aside0.mk ((by rw [hg]; exact (below_size (by repeat (first | (with_reducible first | exact HB.out | apply below_alloc | apply pw_below_drewN | apply below_drew1) | exact HB.out))) : w.heap.size ≤ gb101)); clear HB; have HB := n0_; have BK101 := n1_; have GW101 := n2_; have GE101 := n3_; clear n0_ n1_ n2_ n3_; clear hb hbox hg; have hcz9_0 : w8.cell? ⟨gb101, 0, none⟩ = some (.int .i64 a0_0) := (blk_cell BK101.out 0).trans rfl; have hcz9_1 : w8.cell? ⟨gb101, 1, none⟩ = some (.int .i64 a0_1) := (blk_cell BK101.out 1).trans rfl; have hfz9_0 := blk_frozen BK101.out 0; have hfz9_1 := blk_frozen BK101.out 1))
    go_ret
    exact ⟨by first | rfl | (simp [errW_none, errW_some] <;> rfl) | (simp only [← hji3]; first | rfl | (simp [errW_none, errW_some] <;> rfl)) | (simp [*, errW_none, errW_some] <;> rfl), by repeat (first | (with_reducible first | exact HB.out | apply below_alloc | apply pw_below_drewN | apply below_drew1 | refine below_set ?_ GE101.out) | exact HB.out)⟩

end Go.Proofs.Ytmglkelmdcpinaa.G
/- The contract of the function two_Pass_1 (number 76 of the translation): what its call computes, as a plain Lean function; memory that was there stays as it was. Conditions: none beyond the theorem's own. Written by a program (gprint.py). -/
namespace Go.Proofs.Ytmglkelmdcpinaa.G
open Go.RowKit Go.Proofs.YtmglkelmdcpinaaW.PrintWords Go.Proofs.YtmglkelmdcpinaaW.PrintLast Go.Proofs.YtmglkelmdcpinaaW.PrintMore
attribute [local go_sem] max2_int min2_int max_two min_two max_three min_three max_four min_four   -- for this text's walks alone
set_option linter.unusedVariables false
set_option linter.unusedSimpArgs false

/-! ### two_Pass_1: function 76 -/
/-- Are a number's parts so great at most? -/
def narrowB (m : Int) (x : S43) : Bool := decide (mx x.f0 x.f1 ≤ m) && decide (-m ≤ mn x.f0 x.f1)
theorem two_narrow_is (m : Int) (x : S43) (h0 : 0 ≤ m) (h1 : m ≤ 4611686018427387904) : two_narrow.f x.f0 x.f1 m = some (narrowB m x) := by
  unfold two_narrow.f narrowB
  have hw : wrap64 (-m) = -m := by unfold wrap64; omega
  rw [hw]
  by_cases h : mx x.f0 x.f1 ≤ m
  · rw [if_pos h]; simp [h]
  · rw [if_neg h]; simp [h]
def farB (x : S43) : Bool := !narrowB 2147483648 x
def greatB (b : Nat) (x : S43) : Bool := !narrowB (2 ^ b) x
set_option maxHeartbeats 1000000 in
theorem two_Pass1.calls (x : S43) (w : World) :
    Calls Try.prog 76 #[.agg #[.int .i64 x.f0, .int .i64 x.f1]] w fun e w' => e = .returned (.bool (farB x)) ∧ Below w.heap.size w w' := by
  have HN := Aside0.mk (two_narrow_is 2147483648 x (by decide) (by decide))
  unfold farB
  generalize narrowB 2147483648 x = b at HN ⊢
  obtain ⟨x0, x1⟩ := x
  go_enter Try.func76, Try.ntmps76
  go_wp2_with (fail)
  refine (two_narrow.calls x0 x1 2147483648 b _ HN.out).mono ?_
  rintro e w1 ⟨rfl, hb⟩
  have HB := Aside0.mk (below_then (below_alloc (Below.refl w.heap.size w) (.cells #[.int .i64 x0, .int .i64 x1] 43)) (by simp) hb)
  clear hb
  go_wp2
  go_ret
  exact ⟨rfl, HB.out⟩

end Go.Proofs.Ytmglkelmdcpinaa.G
/- The contract of the function two_Pass_2 (number 78 of the translation): what its call computes, as a plain Lean function; memory that was there stays as it was. Conditions: none beyond the theorem's own. Written by a program (gprint.py). -/
namespace Go.Proofs.Ytmglkelmdcpinaa.G
open Go.RowKit Go.Proofs.YtmglkelmdcpinaaW.PrintWords Go.Proofs.YtmglkelmdcpinaaW.PrintLast Go.Proofs.YtmglkelmdcpinaaW.PrintMore
attribute [local go_sem] max2_int min2_int max_two min_two max_three min_three max_four min_four   -- for this text's walks alone
set_option linter.unusedVariables false
set_option linter.unusedSimpArgs false

/-! ### two_Pass_2: function 78 -/
set_option maxHeartbeats 2000000 in
theorem two_Pass2.calls (B b : Nat) (hb : b ≤ 29) (x : S43) (w : World) (hc : w.cell? ⟨B, 0, none⟩ = some (.int .i64 b)) :
    Calls Try.prog 78 #[.agg #[.int .i64 x.f0, .int .i64 x.f1], .pointer (some ⟨B, 0, none⟩)] w fun e w' => e = .returned (.bool (greatB b x)) ∧ Below w.heap.size w w' := by
  have hp1 := M.pow_pos b
  have hp2 : (2 : Int) ^ b ≤ 2 ^ 29 := M.pow_le hb
  have hp : IntKind.i64.wrap (2 ^ min b 64) = 2 ^ b := by rw [IntKind.wrap_i64, show min b 64 = b by omega]; omega
  have HN : Aside0 (two_narrow.f x.f0 x.f1 (IntKind.i64.wrap (2 ^ min b 64)) = some (narrowB (2 ^ b) x)) := ⟨by rw [hp]; exact two_narrow_is (2 ^ b) x (by omega) (by omega)⟩
  unfold greatB
  generalize narrowB (2 ^ b) x = c at HN ⊢
  obtain ⟨x0, x1⟩ := x
  clear hp1 hp2 hb hp
  have hlt := World.block_lt_of_cell? w _ hc
  have HLT := Aside0.mk hlt
  have a1 : (w.alloc (.cells #[.int .i64 x0, .int .i64 x1] 43)).cell? ⟨B, 0, none⟩ = some (.int .i64 b) := (Below.refl w.heap.size w |>.alloc (Nat.le_refl _) _).cell (p := ⟨B, 0, none⟩) hlt |>.trans hc
  have HA1 := Aside0.mk a1
  clear a1 hlt hc
  go_enter Try.func78, Try.ntmps78
  go_wp2_with (fail)
  have hx := blk_new w (.cells #[.int .i64 x0, .int .i64 x1] 43)
  have h0 : (w.alloc (.cells #[.int .i64 x0, .int .i64 x1] 43)).cell? ⟨w.heap.size, 0, none⟩ = some (.int .i64 x0) := (blk_cell hx 0).trans rfl
  have h1 : (w.alloc (.cells #[.int .i64 x0, .int .i64 x1] 43)).cell? ⟨w.heap.size, 1, none⟩ = some (.int .i64 x1) := (blk_cell hx 1).trans rfl
  have a1 := HA1.out
  have HW : Aside0 (Below w.heap.size w (w.alloc (.cells #[.int .i64 x0, .int .i64 x1] 43))) := ⟨below_alloc (Below.refl _ _) _⟩
  have HS : Aside0 (w.heap.size + 1 = (w.alloc (.cells #[.int .i64 x0, .int .i64 x1] 43)).heap.size) := ⟨by simp⟩
  clear hx HA1
  generalize w.alloc (.cells #[.int .i64 x0, .int .i64 x1] 43) = W at h0 h1 a1 HW HS ⊢
  set_option maxRecDepth 100000 in
  go_region_held3 (fun w' => w'.cell? ⟨w.heap.size, 0, none⟩ = some (.int .i64 x0) ∧ w'.cell? ⟨w.heap.size, 1, none⟩ = some (.int .i64 x1) ∧ w'.cell? ⟨B, 0, none⟩ = some (.int .i64 b))
    (first | exact ⟨h0, h1, a1⟩ | exact ⟨(hb.cell (p := ⟨w.heap.size, 0, none⟩) (World.block_lt_of_cell? W _ h0)).trans h0, (hb.cell (p := ⟨w.heap.size, 1, none⟩) (World.block_lt_of_cell? W _ h1)).trans h1, (hb.cell (p := ⟨B, 0, none⟩) (World.block_lt_of_cell? W _ a1)).trans a1⟩)
    (((with_reducible refine (two_narrow.calls x0 x1 _ c _ HN.out).mono ?_); rintro e w' ⟨rfl, hb⟩))
  have HB := Aside0.mk (below_then (below_drew1 HW.out) (by have := HW.out.size; exact this) hb)
  clear hb
  simp only [Exit.then]
  go_at_K
  go_wp2_with (fail)
  go_ret
  exact ⟨rfl, HB.out⟩

end Go.Proofs.Ytmglkelmdcpinaa.G
/- The contract of the function two_settings (number 79 of the translation): what its call computes, as a plain Lean function; memory that was there stays as it was. Conditions: none beyond the theorem's own. Written by a program (gprint.py). -/
namespace Go.Proofs.Ytmglkelmdcpinaa.G
open Go.RowKit Go.Proofs.YtmglkelmdcpinaaW.PrintWords Go.Proofs.YtmglkelmdcpinaaW.PrintLast Go.Proofs.YtmglkelmdcpinaaW.PrintMore
attribute [local go_sem] max2_int min2_int max_two min_two max_three min_three max_four min_four   -- for this text's walks alone
set_option linter.unusedVariables false
set_option linter.unusedSimpArgs false

/-! ### two_settings: function 79 -/
def two_settings.f (a0 : Int) (a1 : Int) (a2 : Int) : Option (Bool) := (round_Shift.f 0 0 a2).bind fun bt101 => (if a0 ≥ 0 then (if a0 ≤ 29 then (if a1 ≥ 0 then (if a1 ≤ 3 then (some (bt101.2 == 0)) else (some false)) else (some false)) else (some false)) else (some false))
set_option maxHeartbeats 8000000 in
set_option maxRecDepth 100000 in
theorem two_settings.calls (a0 : Int) (a1 : Int) (a2 : Int) (r : Bool) (w : World) (h : two_settings.f a0 a1 a2 = some r) :
    Calls Try.prog 79 #[.int .i64 a0, .int .i64 a1, .int .i64 a2] w fun e w' => e = .returned (.bool r) ∧ Below w.heap.size w w' := by
  have HB := Aside0.mk (Below.refl w.heap.size w)
  have H : ((round_Shift.f 0 0 a2).bind fun bt101 => (if a0 ≥ 0 then (if a0 ≤ 29 then (if a1 ≥ 0 then (if a1 ≤ 3 then (some (bt101.2 == 0)) else (some false)) else (some false)) else (some false)) else (some false))) = some r := h
  clear h
  replace H := Option.bind_eq_some_iff.mp H
  obtain ⟨⟨t101, t102⟩, A40, H⟩ := H
  replace H : (if a0 ≥ 0 then (if a0 ≤ 29 then (if a1 ≥ 0 then (if a1 ≤ 3 then (some (t102 == 0)) else (some false)) else (some false)) else (some false)) else (some false)) = some r := H
  have A4 := Aside0.mk A40
  clear A40
  by_cases c5 : a0 ≥ 0
  · rw [if_pos c5] at H
    have c5b0 : decide (0 ≤ a0) = true := decide_eq_true c5
    clear c5
    by_cases c6 : a0 ≤ 29
    · rw [if_pos c6] at H
      have c6b0 : decide (a0 ≤ 29) = true := decide_eq_true c6
      clear c6
      by_cases c7 : a1 ≥ 0
      · rw [if_pos c7] at H
        have c7b0 : decide (0 ≤ a1) = true := decide_eq_true c7
        clear c7
        by_cases c8 : a1 ≤ 3
        · rw [if_pos c8] at H
          have c8b0 : decide (a1 ≤ 3) = true := decide_eq_true c8
          clear c8
          obtain rfl := Option.some.inj H
          go_enter Try.func79, Try.ntmps79
          go_wp2_with (first | ((with_reducible refine gate_callee (f := 72) rfl ?_); refine goesL_ (some 11) rfl rfl Try.func72 (by kernel_rfl) rfl #[.int .i64 0, .int .i64 0, .int .i64 a2] rfl (by (try simp only [List.map_toArray, List.map_cons, List.map_nil]); first | done | rfl | (simp only [List.length_drop, List.length_take]; rfl)) ?_; (with_reducible refine (round_Shift.calls 0 0 a2 t101 t102 _ A4.out).mono ?_); rintro e w9 ⟨rfl, hb⟩; refine ⟨_, rfl, ?_⟩; have n0_ := Aside0.mk (below_step (by repeat (first | (with_reducible first | exact HB.out | apply below_alloc | apply pw_below_drewN | apply below_drew1) | exact HB.out)) hb); clear HB; have HB := n0_; clear n0_; (try clear hb); (try clear hb2); (try clear hk); (try clear hi)))
          go_ret
          exact ⟨by first | rfl | (simp [errW_none, errW_some] <;> rfl) | (simp [*, errW_none, errW_some] <;> rfl), by repeat (first | (with_reducible first | exact HB.out | apply below_alloc | apply pw_below_drewN | apply below_drew1) | exact HB.out)⟩
        · rw [if_neg c8] at H
          have c8b0 : decide (a1 ≤ 3) = false := decide_eq_false c8
          clear c8
          obtain rfl := Option.some.inj H
          go_enter Try.func79, Try.ntmps79
          go_wp2_with (first | ((with_reducible refine gate_callee (f := 72) rfl ?_); refine goesL_ (some 11) rfl rfl Try.func72 (by kernel_rfl) rfl #[.int .i64 0, .int .i64 0, .int .i64 a2] rfl (by (try simp only [List.map_toArray, List.map_cons, List.map_nil]); first | done | rfl | (simp only [List.length_drop, List.length_take]; rfl)) ?_; (with_reducible refine (round_Shift.calls 0 0 a2 t101 t102 _ A4.out).mono ?_); rintro e w10 ⟨rfl, hb⟩; refine ⟨_, rfl, ?_⟩; have n0_ := Aside0.mk (below_step (by repeat (first | (with_reducible first | exact HB.out | apply below_alloc | apply pw_below_drewN | apply below_drew1) | exact HB.out)) hb); clear HB; have HB := n0_; clear n0_; (try clear hb); (try clear hb2); (try clear hk); (try clear hi)))
          go_ret
          exact ⟨by first | rfl | (simp [errW_none, errW_some] <;> rfl) | (simp [*, errW_none, errW_some] <;> rfl), by repeat (first | (with_reducible first | exact HB.out | apply below_alloc | apply pw_below_drewN | apply below_drew1) | exact HB.out)⟩
      · rw [if_neg c7] at H
        have c7b0 : decide (0 ≤ a1) = false := decide_eq_false c7
        clear c7
        obtain rfl := Option.some.inj H
        go_enter Try.func79, Try.ntmps79
        go_wp2_with (first | ((with_reducible refine gate_callee (f := 72) rfl ?_); refine goesL_ (some 11) rfl rfl Try.func72 (by kernel_rfl) rfl #[.int .i64 0, .int .i64 0, .int .i64 a2] rfl (by (try simp only [List.map_toArray, List.map_cons, List.map_nil]); first | done | rfl | (simp only [List.length_drop, List.length_take]; rfl)) ?_; (with_reducible refine (round_Shift.calls 0 0 a2 t101 t102 _ A4.out).mono ?_); rintro e w11 ⟨rfl, hb⟩; refine ⟨_, rfl, ?_⟩; have n0_ := Aside0.mk (below_step (by repeat (first | (with_reducible first | exact HB.out | apply below_alloc | apply pw_below_drewN | apply below_drew1) | exact HB.out)) hb); clear HB; have HB := n0_; clear n0_; (try clear hb); (try clear hb2); (try clear hk); (try clear hi)))
        go_ret
        exact ⟨by first | rfl | (simp [errW_none, errW_some] <;> rfl) | (simp [*, errW_none, errW_some] <;> rfl), by repeat (first | (with_reducible first | exact HB.out | apply below_alloc | apply pw_below_drewN | apply below_drew1) | exact HB.out)⟩
    · rw [if_neg c6] at H
      have c6b0 : decide (a0 ≤ 29) = false := decide_eq_false c6
      clear c6
      obtain rfl := Option.some.inj H
      go_enter Try.func79, Try.ntmps79
      go_wp2_with (first | ((with_reducible refine gate_callee (f := 72) rfl ?_); refine goesL_ (some 11) rfl rfl Try.func72 (by kernel_rfl) rfl #[.int .i64 0, .int .i64 0, .int .i64 a2] rfl (by (try simp only [List.map_toArray, List.map_cons, List.map_nil]); first | done | rfl | (simp only [List.length_drop, List.length_take]; rfl)) ?_; (with_reducible refine (round_Shift.calls 0 0 a2 t101 t102 _ A4.out).mono ?_); rintro e w12 ⟨rfl, hb⟩; refine ⟨_, rfl, ?_⟩; have n0_ := Aside0.mk (below_step (by repeat (first | (with_reducible first | exact HB.out | apply below_alloc | apply pw_below_drewN | apply below_drew1) | exact HB.out)) hb); clear HB; have HB := n0_; clear n0_; (try clear hb); (try clear hb2); (try clear hk); (try clear hi)))
      go_ret
      exact ⟨by first | rfl | (simp [errW_none, errW_some] <;> rfl) | (simp [*, errW_none, errW_some] <;> rfl), by repeat (first | (with_reducible first | exact HB.out | apply below_alloc | apply pw_below_drewN | apply below_drew1) | exact HB.out)⟩
  · rw [if_neg c5] at H
    have c5b0 : decide (0 ≤ a0) = false := decide_eq_false c5
    clear c5
    obtain rfl := Option.some.inj H
    go_enter Try.func79, Try.ntmps79
    go_wp2_with (first | ((with_reducible refine gate_callee (f := 72) rfl ?_); refine goesL_ (some 11) rfl rfl Try.func72 (by kernel_rfl) rfl #[.int .i64 0, .int .i64 0, .int .i64 a2] rfl (by (try simp only [List.map_toArray, List.map_cons, List.map_nil]); first | done | rfl | (simp only [List.length_drop, List.length_take]; rfl)) ?_; (with_reducible refine (round_Shift.calls 0 0 a2 t101 t102 _ A4.out).mono ?_); rintro e w13 ⟨rfl, hb⟩; refine ⟨_, rfl, ?_⟩; have n0_ := Aside0.mk (below_step (by repeat (first | (with_reducible first | exact HB.out | apply below_alloc | apply pw_below_drewN | apply below_drew1) | exact HB.out)) hb); clear HB; have HB := n0_; clear n0_; (try clear hb); (try clear hb2); (try clear hk); (try clear hi)))
    go_ret
    exact ⟨by first | rfl | (simp [errW_none, errW_some] <;> rfl) | (simp [*, errW_none, errW_some] <;> rfl), by repeat (first | (with_reducible first | exact HB.out | apply below_alloc | apply pw_below_drewN | apply below_drew1) | exact HB.out)⟩

end Go.Proofs.Ytmglkelmdcpinaa.G
/- The contract of the function api_Cx_136 (number 136 of the translation): what its call computes, as a plain Lean function; memory that was there stays as it was. Conditions: none beyond the theorem's own. Written by a program (gprint.py). -/
namespace Go.Proofs.Ytmglkelmdcpinaa.G
open Go.RowKit Go.Proofs.YtmglkelmdcpinaaW.PrintWords Go.Proofs.YtmglkelmdcpinaaW.PrintLast Go.Proofs.YtmglkelmdcpinaaW.PrintMore
attribute [local go_sem] max2_int min2_int max_two min_two max_three min_three max_four min_four   -- for this text's walks alone
set_option linter.unusedVariables false
set_option linter.unusedSimpArgs false

/-! ### api_Cx_136: function 136 -/
/-- What is asked of a predicate on complex numbers. -/
def PredC (g : Nat) (lb : Array Value) (p : S43 → Bool) (w : World) : Prop :=
  ∀ (W : World) (x : S43), Below w.heap.size w W → Calls Try.prog g (#[.agg #[.int .i64 x.f0, .int .i64 x.f1]] ++ lb) W fun e w' => e = .returned (.bool (p x)) ∧ Below w.heap.size w w'
set_option maxHeartbeats 2000000 in
theorem indexFuncC (p : S43 → Bool) (g : Nat) (lb : Array Value) (eg : ∀ args w, (callFunc g args).run Try.prog w = .ok (.enter g args) w) (A : Option Addr) (c : Nat) (l : List S43) (w : World)
    (hp : PredC g lb p w) (hr : Kd.C k43 w A l.length l) (hbig : l.length ≤ 9223372036854775807) :
    Calls Try.prog 136 #[.slice A l.length c, .func (.func g) #[] lb] w fun e w' => ∃ i : Int, e = .returned (.int .i64 i) ∧ decide (0 ≤ i) = l.any p ∧ Below w.heap.size w w' := by
  have HR := Aside0.mk hr
  have HP := Aside0.mk hp
  clear hr hp
  go_enter Try.func136, Try.ntmps136
  go_wp2
  go_loopg [5, 8] l.length (fun gg _ s8 wr => ∃ kk : Nat, kk ≤ l.length ∧ l.length - kk ≤ gg ∧ s8 = .int .i64 kk ∧ Aside0 (Below w.heap.size w wr) ∧ Aside0 (∀ j, j < kk → p (l.getD j z43) = false))
  case atStart => exact ⟨0, Nat.zero_le _, by omega, rfl, ⟨Below.refl _ w⟩, ⟨fun j hj => absurd hj (Nat.not_lt_zero _)⟩⟩
  case round =>
    obtain ⟨kk, hkk, hg, rfl, BW, AA⟩ := hrel
    by_cases hlt : kk < l.length
    · have hltz : (kk : Int) < (l.length : Int) := by omega
      obtain ⟨ad, rfl, hc0, hc1⟩ := at_T43 HR.out (kk : Int) (by omega) hltz
      have hc0' := (BW.out.cell (World.block_lt_of_cell? w _ hc0)).trans hc0
      have hc1' := (BW.out.cell (World.block_lt_of_cell? w _ hc1)).trans hc1
      clear hc0 hc1
      have hcall := HP.out wr (rd_T43 l kk) BW.out
      rw [Int.toNat_natCast] at hc0' hc1'
      have hy : rd_T43 l (kk : Int) = l.getD kk z43 := by simp [rd_T43]
      rw [hy] at hcall hc0' hc1'
      clear hy
      generalize hy : l.getD kk z43 = y at hcall hc0' hc1'
      have B := Aside0.mk hy
      clear hy
      cases hq : p y with
      | true =>
        rw [hq] at hcall
        go_wp2_with (fail)
        refine hcall.mono ?_
        rintro e w' ⟨rfl, hb'⟩
        go_wp2
        go_ret
        refine ⟨kk, rfl, ?_, hb'⟩
        have h1 : l.any p = true := List.any_eq_true.2 ⟨y, by rw [← B.out, List.getD_eq_getElem?_getD, List.getElem?_eq_getElem hlt]; exact List.getElem_mem hlt, hq⟩
        rw [h1]; simp
      | false =>
        rw [hq] at hcall
        go_wp2_with (fail)
        refine hcall.mono ?_
        rintro e w' ⟨rfl, hb'⟩
        go_wp2
        go_roundg (l.length - (kk + 1))
        case measure => omega
        case rel =>
          refine ⟨kk + 1, by omega, by omega, by go_num, ⟨hb'⟩, ⟨fun j hj => ?_⟩⟩
          by_cases e : j = kk
          · subst e
            rw [B.out]; exact hq
          · exact AA.out j (by omega)
    · have hltz : ¬ (kk : Int) < (l.length : Int) := by omega
      have HE : Aside0 (kk = l.length) := ⟨by omega⟩
      go_wp2
      go_ret
      refine ⟨-1, rfl, ?_, BW.out⟩
      have h1 : l.any p = false := by
        rw [List.any_eq_false]
        intro x hx
        obtain ⟨j, hj, rfl⟩ := List.mem_iff_getElem.1 hx
        have := AA.out j (by rw [HE.out]; exact hj)
        rw [List.getD_eq_getElem?_getD, List.getElem?_eq_getElem hj] at this
        simpa using this
      rw [h1]; simp

end Go.Proofs.Ytmglkelmdcpinaa.G
/- The contract of the function api_Cx_80 (number 80 of the translation): what its call computes, as a plain Lean function; memory that was there stays as it was. Conditions: none beyond the theorem's own. Written by a program (gprint.py). -/
namespace Go.Proofs.Ytmglkelmdcpinaa.G
open Go.RowKit Go.Proofs.YtmglkelmdcpinaaW.PrintWords Go.Proofs.YtmglkelmdcpinaaW.PrintLast Go.Proofs.YtmglkelmdcpinaaW.PrintMore
attribute [local go_sem] max2_int min2_int max_two min_two max_three min_three max_four min_four   -- for this text's walks alone
set_option linter.unusedVariables false
set_option linter.unusedSimpArgs false

/-! ### api_Cx_80: function 80 -/
set_option maxHeartbeats 1000000 in
theorem containsFuncC (p : S43 → Bool) (g : Nat) (lb : Array Value) (eg : ∀ args w, (callFunc g args).run Try.prog w = .ok (.enter g args) w) (A : Option Addr) (c : Nat) (l : List S43) (w : World)
    (hp : PredC g lb p w) (hr : Kd.C k43 w A l.length l) (hbig : l.length ≤ 9223372036854775807) :
    Calls Try.prog 80 #[.slice A l.length c, .func (.func g) #[] lb] w fun e w' => e = .returned (.bool (l.any p)) ∧ Below w.heap.size w w' := by
  have HR := Aside0.mk hr
  have HP := Aside0.mk hp
  clear hr hp
  go_enter Try.func80, Try.ntmps80
  go_wp2_with (fail)
  refine (indexFuncC p g lb eg A c l _ HP.out HR.out hbig).mono ?_
  rintro e w' ⟨i, rfl, hi, hb⟩
  have HI := Aside0.mk hi
  clear hi
  go_wp2
  go_ret
  exact ⟨by simpa using HI.out, hb⟩

end Go.Proofs.Ytmglkelmdcpinaa.G
/- The contract of the function api_Cx_81 (number 81 of the translation): what its call computes, as a plain Lean function; memory that was there stays as it was. Conditions: none beyond the theorem's own. Written by a program (gprint.py). -/
namespace Go.Proofs.Ytmglkelmdcpinaa.G
open Go.RowKit Go.Proofs.YtmglkelmdcpinaaW.PrintWords Go.Proofs.YtmglkelmdcpinaaW.PrintLast Go.Proofs.YtmglkelmdcpinaaW.PrintMore
attribute [local go_sem] max2_int min2_int max_two min_two max_three min_three max_four min_four   -- for this text's walks alone
set_option linter.unusedVariables false
set_option linter.unusedSimpArgs false

/-! ### api_Cx_81: function 81 -/
set_option maxHeartbeats 2000000 in
theorem cloneC (A : Option Addr) (c : Nat) (l : List S43) (w : World) (hp : 0 < l.length) (hr : Kd.C k43 w A l.length l) (hbig : l.length * 16 ≤ 140737488355328) :
    Calls Try.prog 81 #[.slice A l.length c] w fun e w' => ∃ v0_ : Value, e = .returned v0_ ∧ Kd.R k43 43 w' w.heap.size (fun _ => True) v0_ l ∧ Below w.heap.size w w' := by
  obtain ⟨ad, rfl, _⟩ := at_T43 hr 0 (by omega) (by omega)
  have q33 : ∀ (w : World) (a : Option Addr) (n c n' c' : Nat), (binOp .eql 33 (.slice a n c) (.slice none n' c')).run Try.prog w = .ok (.bool a.isNone) w := fun w a n c n' c' => Lib.run_eql_slice_nil w _ _ a n c n' c' Try.underlying33
  have HR := Aside0.mk hr
  clear hr
  go_enter Try.func81, Try.ntmps81
  go_wp2_with ((with_reducible refine gate_builtin (b := .append) (xs := #[.tmp 5, .tmp 6]) rfl ?_); apply Classical.byContradiction; intro hneg)
  apply hneg
  clear hneg
  have hrow := World.ownsRow_made (base := w.heap.size) (size := 2) (e := 43) w #[] 0 (Nat.le_refl _) (Nat.zero_le _) (by simp)
  refine Kd.R_append_rows k43 (w0 := w) w.heap.size rfl (.tmp 5) (.tmp 6) 33 43 (.agg #[.int .i64 0, .int .i64 0]) 16 rfl Try.underlying33 info43 rfl (by decide) (by omega) _ [] l _ _ _ (fun _ => True) (fun _ => False) rfl rfl ?aO ?aR (Rr := k43.K (w.alloc (.cells #[] 43))) (fun x cs h => by rw [k43_open h]; exact k43_mkM _ _ _ x) (fun _ h => h.elim) ?aF ?aB ?aS ?aL ?_
  case aO => exact ⟨fun _ _ => trivial, [], hrow, Reps.none _ _⟩
  case aR => exact Kd.C_below HR.out (below_alloc (Below.refl _ _) _)
  case aF => intro _ _; trivial
  case aB => exact below_alloc (Below.refl _ _) _
  case aS => simp
  case aL => simpa using hbig
  clear hrow
  intro v1 w1 hR hB _ _
  obtain ⟨A1, c1, rfl⟩ := Kd.R_slice hR
  have H1 := Aside0.mk hR
  have H2 := Aside0.mk hB
  clear hR hB
  go_wp2
  go_ret
  exact ⟨_, rfl, H1.out, H2.out⟩

end Go.Proofs.Ytmglkelmdcpinaa.G
/- The contract of the function two_pairs_1 (number 137 of the translation): what its call computes, as a plain Lean function; memory that was there stays as it was. Conditions: none beyond the theorem's own. Written by a program (gprint.py). -/
namespace Go.Proofs.Ytmglkelmdcpinaa.G
open Go.RowKit Go.Proofs.YtmglkelmdcpinaaW.PrintWords Go.Proofs.YtmglkelmdcpinaaW.PrintLast Go.Proofs.YtmglkelmdcpinaaW.PrintMore
attribute [local go_sem] max2_int min2_int max_two min_two max_three min_three max_four min_four   -- for this text's walks alone
set_option linter.unusedVariables false
set_option linter.unusedSimpArgs false

/-! ### two_pairs_1: function 137 -/
/-- The places of all pairs' first numbers, each with its root's place, from a place on. -/
def pairsGo (n h : Int) : Nat → Int → List (Int × Int)
  | 0, _ => []
  | k + 1, i => if bits BinOp.and IntKind.i64 i h = 0 then (i, wrap64 (bits BinOp.and IntKind.i64 i (h - 1) * (n / (2 * h)))) :: pairsGo n h k (i + 1) else pairsGo n h k (i + 1)
def pairsList (n h : Int) : List (Int × Int) := pairsGo n h n.toNat 0
/-- Two blocks of cells lie as they lay. -/
def KeepP (A B : Nat) (W W' : World) : Prop := ∀ b, b = A ∨ b = B → ∀ c t fr, W.heap[b]? = some (.cells c t fr) → W'.heap[b]? = some (.cells c t fr)
theorem keepP_t {A B : Nat} {X Y Z : World} (h : KeepP A B X Y) (k : KeepP A B Y Z) : KeepP A B X Z := fun b hb c t fr hc => k b hb c t fr (h b hb c t fr hc)
theorem keepP_b {A B : Nat} {w : World} (W : World) (l : Nat) (o o' : Obj) (_ : w.heap.size ≤ l) (h : W.heap[l]? = some o) (ho : o.isCells = false) (_ : o.isWalk = false) : KeepP A B W (W.putObj l o') := by
  intro b _ c t fr hc
  have hne : b ≠ l := by
    rintro rfl
    rw [h] at hc
    cases hc
    simp [Obj.isCells] at ho
  exact (blk_grown hc (grownBy_putObj' W l o') (by simpa using hne))
theorem keepP_below {A B n : Nat} {W W' : World} (h : Below n W W') (ha : A < n) (hb : B < n) : KeepP A B W W' := fun b hbb c t fr hc => (h.block b (by rcases hbb with rfl | rfl <;> assumption)).trans hc
theorem roundIn_both {F : Fence} {m l : Nat} {fn : FuncId} {tmps : Array Value} {assign body : Code} {W : World} {X Y : World → Prop}
    (h : RoundIn F m Try.prog l fn tmps assign body W fun e W' => (e = .returned (.bool true) ∧ X W') ∨ (e = .returned (.bool false) ∧ Y W')) :
    RoundIn F m Try.prog l fn tmps assign body W fun e W' => ∃ b : Bool, e = .returned (.bool b) ∧ Aside0 (if b = true then X W' else Y W') :=
  h.mono (by
    rintro e W' (⟨rfl, hx⟩ | ⟨rfl, hy⟩)
    · exact ⟨true, rfl, ⟨by simpa using hx⟩⟩
    · exact ⟨false, rfl, ⟨by simpa using hy⟩⟩)
set_option maxHeartbeats 4000000 in
theorem two_pairs1.stops (m : Nat) (hm : 1 ≤ m) (n h : Int) (P : Int × Int → Prop) (hP : ∀ p ∈ pairsList n h, P p) (hn0 : 0 ≤ n) (hn1 : n ≤ 64) (hh0 : 1 ≤ h) (hh1 : h ≤ 64) (A B : Nat) (w : World) (ha : w.heap[A]? = some (.cells #[.int .i64 n] 3 (0, 0))) (hb : w.heap[B]? = some (.cells #[.int .i64 h] 3 (0, 0))) :
    SeqStopsK Fence.wide m Try.prog 137 #[.pointer (some ⟨A, 0, none⟩), .pointer (some ⟨B, 0, none⟩)] (fun x : { p : Int × Int // P p } => #[.int .i64 x.1.1, .int .i64 x.1.2]) (KeepP A B) (fun xs => xs.map Subtype.val = pairsList n h) (fun _ => True) 1000 w := fun l J Jx W hW hJ hJx hY h0 => by
  have HP := Aside0.mk hP
  clear hP
  have HA := Aside0.mk (blk_below ha hW)
  have HB := Aside0.mk (blk_below hb hW)
  have c0 : W.cell? ⟨A, 0, none⟩ = some (.int .i64 n) := (blk_cell HA.out 0).trans rfl
  have HY := Aside0.mk hY
  have HJ := Aside0.mk h0
  have HJA := Aside0.mk hJ
  have hN : n.toNat ≤ 64 := by omega
  clear ha hb hY h0 hW hJ hJx
  refine callsIn_of_wp Try.func137 rfl trivial ?_ rfl
  simp only [Try.ntmps137, List.size_toArray, List.length_cons, List.length_nil, Nat.reduceAdd, Nat.reduceSub, Array.replicate_succ, Array.replicate_zero, List.push_toArray, List.append_toArray, List.nil_append, List.cons_append]
  gi_wp2_with (fail)
  gi_loopw [6] (fun v wr => ∃ (k : Nat) (pre : List { p : Int × Int // P p }), v = .int .i64 k ∧ k ≤ n.toNat ∧ pre.length ≤ k ∧ Aside0 (pairsList n h = pre.map Subtype.val ++ pairsGo n h (n.toNat - k) k) ∧ Aside0 (wr.heap[A]? = some (.cells #[.int .i64 n] 3 (0, 0))) ∧ Aside0 (wr.heap[B]? = some (.cells #[.int .i64 h] 3 (0, 0))) ∧ Aside0 (J pre wr)) (fun v _ => n.toNat - (intOf v).toNat)
  case atStart =>
    exact ⟨0, [], rfl, by omega, by simp, ⟨by simp [pairsList]⟩, HA, HB, HJ⟩
  case round =>
    obtain ⟨k, pre, rfl, q0, q1, HL, HA, HB, HJ⟩ := hrel
    by_cases hlt : k < n.toNat
    · have g1 : (k : Int) < n := by omega
      obtain ⟨r, hr⟩ : ∃ r, n.toNat - k = r + 1 := ⟨n.toNat - k - 1, by omega⟩
      have hr' : n.toNat - (k + 1) = r := by omega
      have HR' := Aside0.mk hr'
      rw [hr] at HL
      have HL2 : Aside0 (pairsList n h = pre.map Subtype.val ++ (if bits BinOp.and IntKind.i64 (k : Int) h = 0 then ((k : Int), wrap64 (bits BinOp.and IntKind.i64 (k : Int) (h - 1) * (n / (2 * h)))) :: pairsGo n h r ((k : Int) + 1) else pairsGo n h r ((k : Int) + 1))) := ⟨HL.out⟩
      clear HL hr hr'
      have d0 : wr.cell? ⟨A, 0, none⟩ = some (.int .i64 n) := (blk_cell HA.out 0).trans rfl
      have d1 : wr.cell? ⟨B, 0, none⟩ = some (.int .i64 h) := (blk_cell HB.out 0).trans rfl
      by_cases hz : bits BinOp.and IntKind.i64 (k : Int) h = 0
      · have hz' : (bits BinOp.and IntKind.i64 (k : Int) h == 0) = true := by simpa using hz
        have HL : Aside0 (pairsList n h = (pre.map Subtype.val ++ [((k : Int), wrap64 (bits BinOp.and IntKind.i64 (k : Int) (h - 1) * (n / (2 * h))))]) ++ pairsGo n h r ((k + 1 : Nat) : Int)) := ⟨by rw [HL2.out, if_pos hz]; simp⟩
        clear HL2 hz
        generalize hV : wrap64 (bits BinOp.and IntKind.i64 (k : Int) (h - 1) * (n / (2 * h))) = V at HL
        have hPV : P ((k : Int), V) := HP.out _ (by rw [HL.out]; simp)
        have HJ2 : Aside0 (J pre wr.drew) := ⟨HJA.out _ _ _ none HJ.out (grown_of_below (below_drew1 (Below.refl _ _)) none) (by simp)⟩
        obtain ⟨fn, tmps, assign, body, hy, hR⟩ := HY.out pre ⟨((k : Int), V), hPV⟩ wr.drew HJ2.out (by omega)
        have HR := Aside0.mk (roundIn_both hR)
        clear hR HJ
        have e1 : IntKind.i64.wrap (h - 1) = h - 1 := by rw [IntKind.wrap_i64]; omega
        have e2 : IntKind.i64.wrap (2 * h) = 2 * h := by rw [IntKind.wrap_i64]; omega
        have e3 : IntKind.i64.wrap (bits BinOp.and IntKind.i64 (k : Int) (h - 1) * (n / (2 * h))) = V := by rw [← hV, IntKind.wrap_i64]; unfold wrap64; rfl
        have e4 : (2 * h == 0) = false := by simp; omega
        dsimp only at hy
        clear hV
        gi_wp2_with (fail)
        gi_region_with (first | (refine HR.out.mono ?_; rintro e W3 ⟨b, rfl, HX⟩))
        all_goals
          clear hy HR e1 e2 e3 e4
          simp only [Exit.then]
          go_at_K
          cases b with
          | true =>
            have HX1 := Aside0.mk (by simpa using HX.out : J (pre ++ [⟨((k : Int), V), hPV⟩]) W3 ∧ KeepP A B wr.drew W3)
            have HA3 := Aside0.mk (HX1.out.2 A (.inl rfl) _ _ _ (show wr.drew.heap[A]? = _ from HA.out))
            have HB3 := Aside0.mk (HX1.out.2 B (.inr rfl) _ _ _ (show wr.drew.heap[B]? = _ from HB.out))
            clear HX
            gi_wp2_with (fail)
            go_roundw
            case rel => exact ⟨k + 1, pre ++ [⟨((k : Int), V), hPV⟩], by go_num, by omega, by simp; omega, ⟨by rw [HR'.out, List.map_append]; exact HL.out⟩, HA3, HB3, ⟨HX1.out.1⟩⟩
            case measure => simp [intOf]; omega
          | false =>
            have HX1 := Aside0.mk (by simpa using HX.out : Jx (pre ++ [⟨((k : Int), V), hPV⟩]) W3)
            clear HX
            gi_wp2_with (fail)
            refine bodyPost_ret (results_none rfl _ _ _) rfl ?_
            exact ⟨⟨_, rfl⟩, .inr ⟨_, trivial, HX1.out⟩⟩
      · have hz' : (bits BinOp.and IntKind.i64 (k : Int) h == 0) = false := by simpa using hz
        have HL : Aside0 (pairsList n h = pre.map Subtype.val ++ pairsGo n h r ((k + 1 : Nat) : Int)) := ⟨by rw [HL2.out, if_neg hz]; simp⟩
        clear HL2 hz
        gi_wp2_with (fail)
        refine wpIn_wide.2 ?_
        go_quiet (fail)
        simp only [Exit.then]
        go_at_K
        have HA3 := Aside0.mk (blk_drewN HA.out nq)
        have HB3 := Aside0.mk (blk_drewN HB.out nq)
        have HJ3 : Aside0 (J pre (wr.drewN nq)) := ⟨HJA.out _ _ _ none HJ.out (grown_of_below (pw_below_drewN (Below.refl _ _) _) none) (by simp)⟩
        gi_wp2_with (fail)
        go_roundw
        case rel => exact ⟨k + 1, pre, by go_num, by omega, by omega, ⟨by rw [HR'.out]; exact HL.out⟩, HA3, HB3, HJ3⟩
        case measure => simp [intOf]; omega
    · have g1 : ¬ (k : Int) < n := by omega
      have HE : Aside0 (pairsList n h = pre.map Subtype.val) := ⟨by rw [HL.out, show n.toNat - k = 0 by omega]; simp [pairsGo]⟩
      gi_wp2_with (fail)
      go_end0
      exact ⟨⟨_, rfl⟩, .inl ⟨pre, HE.out.symm, HJ.out⟩⟩

end Go.Proofs.Ytmglkelmdcpinaa.G
/- The contract of the function two_pairs (number 82 of the translation): what its call computes, as a plain Lean function; memory that was there stays as it was. Conditions: none beyond the theorem's own. Written by a program (gprint.py). -/
namespace Go.Proofs.Ytmglkelmdcpinaa.G
open Go.RowKit Go.Proofs.YtmglkelmdcpinaaW.PrintWords Go.Proofs.YtmglkelmdcpinaaW.PrintLast Go.Proofs.YtmglkelmdcpinaaW.PrintMore
attribute [local go_sem] max2_int min2_int max_two min_two max_three min_three max_four min_four   -- for this text's walks alone
set_option linter.unusedVariables false
set_option linter.unusedSimpArgs false

/-! ### two_pairs: function 82 -/
theorem two_pairs.calls (n h : Int) (w : World) : Calls Try.prog 82 #[.int .i64 n, .int .i64 h] w fun e w' => e = .returned (.func (.func 137) #[] #[.pointer (some ⟨w.heap.size, 0, none⟩), .pointer (some ⟨w.heap.size + 1, 0, none⟩)]) ∧ w' = (w.alloc (.cells #[.int .i64 n] 3)).alloc (.cells #[.int .i64 h] 3) := by
  go_enter Try.func82, Try.ntmps82
  go_wp2
  go_ret
  exact ⟨rfl, rfl⟩

end Go.Proofs.Ytmglkelmdcpinaa.G
/- The contract of the function cx_Times_1 (number 109 of the translation): what its call computes, as a plain Lean function; memory that was there stays as it was. Conditions: none beyond the theorem's own. Written by a program (gprint.py). -/
namespace Go.Proofs.Ytmglkelmdcpinaa.G
open Go.RowKit Go.Proofs.YtmglkelmdcpinaaW.PrintWords Go.Proofs.YtmglkelmdcpinaaW.PrintLast Go.Proofs.YtmglkelmdcpinaaW.PrintMore
attribute [local go_sem] max2_int min2_int max_two min_two max_three min_three max_four min_four   -- for this text's walks alone
set_option linter.unusedVariables false
set_option linter.unusedSimpArgs false

/-! ### cx_Times_1: function 109 -/
set_option maxHeartbeats 1000000 in
theorem cx_Times1.calls (A B : Nat) (x y z u : Int) (w : World) (h0 : w.cell? ⟨A, 0, none⟩ = some (.int .i64 x)) (h1 : w.cell? ⟨A, 1, none⟩ = some (.int .i64 y)) (h2 : w.cell? ⟨B, 0, none⟩ = some (.int .i64 z)) (h3 : w.cell? ⟨B, 1, none⟩ = some (.int .i64 u)) :
    Calls Try.prog 109 #[.pointer (some ⟨A, 0, none⟩), .pointer (some ⟨B, 0, none⟩)] w fun e w' => e = .returned (.agg #[.int .i64 (wrap64 (wrap64 (x * z) - wrap64 (y * u))), .int .i64 (wrap64 (wrap64 (x * u) + wrap64 (y * z)))]) ∧ Below w.heap.size w w' := by
  have l0 := World.block_lt_of_cell? w _ h0
  have l1 := World.block_lt_of_cell? w _ h2
  go_enter Try.func109, Try.ntmps109
  go_wp2
  refine bodyPost_ret (v := .agg #[.int .i64 (wrap64 (wrap64 (x * z) - wrap64 (y * u))), .int .i64 (wrap64 (wrap64 (x * u) + wrap64 (y * z)))]) (by simp [results, Try.results109, go_sem]) rfl ⟨rfl, ?_⟩
  repeat (first | exact Below.refl _ _ | apply below_alloc | apply pw_below_drewN | (refine below_set ?_ (by simp)))

end Go.Proofs.Ytmglkelmdcpinaa.G
/- The contract of the function cx_Times (number 42 of the translation): what its call computes, as a plain Lean function; memory that was there stays as it was. Conditions: none beyond the theorem's own. Written by a program (gprint.py). -/
namespace Go.Proofs.Ytmglkelmdcpinaa.G
open Go.RowKit Go.Proofs.YtmglkelmdcpinaaW.PrintWords Go.Proofs.YtmglkelmdcpinaaW.PrintLast Go.Proofs.YtmglkelmdcpinaaW.PrintMore
attribute [local go_sem] max2_int min2_int max_two min_two max_three min_three max_four min_four   -- for this text's walks alone
set_option linter.unusedVariables false
set_option linter.unusedSimpArgs false

/-! ### cx_Times: function 42 -/
def cx_Times.is (a0_0 a0_1 a1_0 a1_1 : Int) : Bool := (within 2147483648 [⟨a0_0, a0_1⟩] && within 1073741824 [⟨a1_0, a1_1⟩]) || (within 1073741824 [⟨a0_0, a0_1⟩] && within 2147483648 [⟨a1_0, a1_1⟩])
def cx_Times.f (a0_0 a0_1 a1_0 a1_1 : Int) : Option (Int × Int × Int) := if cx_Times.is a0_0 a0_1 a1_0 a1_1 = true then some (wrap64 (wrap64 (a0_0 * a1_0) - wrap64 (a0_1 * a1_1)), wrap64 (wrap64 (a0_0 * a1_1) + wrap64 (a0_1 * a1_0)), 0) else some (0, 0, 2)
set_option maxHeartbeats 4000000 in
theorem cx_Times.tt (a0_0 a0_1 a1_0 a1_1 : Int) (w : World) (h0 : within 2147483648 [⟨a0_0, a0_1⟩] = true) (h1 : within 1073741824 [⟨a1_0, a1_1⟩] = true) :
    Calls Try.prog 42 #[.agg #[.int .i64 a0_0, .int .i64 a0_1], .agg #[.int .i64 a1_0, .int .i64 a1_1]] w fun e w' => e = .returned (.tuple #[.agg #[.int .i64 (wrap64 (wrap64 (a0_0 * a1_0) - wrap64 (a0_1 * a1_1))), .int .i64 (wrap64 (wrap64 (a0_0 * a1_1) + wrap64 (a0_1 * a1_0)))], .int .i64 0]) ∧ Below w.heap.size w w' := by
  have V0 : Aside0 (cx_within.f 2 2147483648 [⟨a0_0, a0_1⟩] = some true) := ⟨by have := cx_within.val 2147483648 (by unfold wrap64; omega) [⟨a0_0, a0_1⟩] (by simp); rw [h0] at this; exact this⟩
  have V1 : Aside0 (cx_within.f 2 1073741824 [⟨a1_0, a1_1⟩] = some true) := ⟨by have := cx_within.val 1073741824 (by unfold wrap64; omega) [⟨a1_0, a1_1⟩] (by simp); rw [h1] at this; exact this⟩
  clear h0 h1
  go_enter Try.func42, Try.ntmps42
  go_wp2_with (fail)
  refine (cx_within.calls _ _ _ _ [⟨a0_0, a0_1⟩] true _ (C_lit_cx _ _ (by simp) ?_) (by simp) V0.out).mono ?_
  · intro j hj
    match j, hj with
    | 0, _ => simp [go_sem]
  rintro e w1 ⟨rfl, hb⟩
  have e0 := blk_new w (.cells #[.int .i64 a0_0, .int .i64 a0_1] 43)
  have e1 := blk_new (w.alloc (.cells #[.int .i64 a0_0, .int .i64 a0_1] 43)) (.cells #[.int .i64 a1_0, .int .i64 a1_1] 43)
  have e2 := blk_new ((w.alloc (.cells #[.int .i64 a0_0, .int .i64 a0_1] 43)).alloc (.cells #[.int .i64 a1_0, .int .i64 a1_1] 43)) (.cells #[.int .i64 0, .int .i64 0] 43)
  simp only [World.size_alloc] at e1 e2
  have HB0 := Aside0.mk (blk_below (blk_alloc (blk_alloc (blk_alloc e0 _) _) _) hb)
  have HB1 := Aside0.mk (blk_below (blk_alloc (blk_alloc e1 _) _) hb)
  have HB2 := Aside0.mk (blk_below (blk_alloc e2 _) hb)
  have HW := Aside0.mk (below_then (below_alloc (below_alloc (below_alloc (below_alloc (Below.refl _ _) _) _) _) _) (by simp <;> omega) hb : Below w.heap.size w w1)
  clear hb e0 e1 e2 V0
  have c0 : w1.cell? ⟨w.heap.size, 0, none⟩ = some (.int .i64 a0_0) := (blk_cell HB0.out 0).trans rfl
  have c1 : w1.cell? ⟨w.heap.size, 1, none⟩ = some (.int .i64 a0_1) := (blk_cell HB0.out 1).trans rfl
  have c2 : w1.cell? ⟨w.heap.size + 1, 0, none⟩ = some (.int .i64 a1_0) := (blk_cell HB1.out 0).trans rfl
  have c3 : w1.cell? ⟨w.heap.size + 1, 1, none⟩ = some (.int .i64 a1_1) := (blk_cell HB1.out 1).trans rfl
  go_wp2_with (fail)
  refine (cx_within.calls _ _ _ _ [⟨a1_0, a1_1⟩] true _ (C_lit_cx _ _ (by simp) ?_) (by simp) V1.out).mono ?_
  · intro j hj
    match j, hj with
    | 0, _ => simp [go_sem]
  rintro e w2 ⟨rfl, hb⟩
  clear c0 c1 c2 c3
  replace HB0 := Aside0.mk (blk_below (blk_alloc HB0.out _) hb)
  replace HB1 := Aside0.mk (blk_below (blk_alloc HB1.out _) hb)
  replace HB2 := Aside0.mk (blk_below (blk_alloc HB2.out _) hb)
  replace HW := Aside0.mk (below_step (below_alloc HW.out _) hb)
  clear hb V1
  have c0 : w2.cell? ⟨w.heap.size, 0, none⟩ = some (.int .i64 a0_0) := (blk_cell HB0.out 0).trans rfl
  have c1 : w2.cell? ⟨w.heap.size, 1, none⟩ = some (.int .i64 a0_1) := (blk_cell HB0.out 1).trans rfl
  have c2 : w2.cell? ⟨w.heap.size + 1, 0, none⟩ = some (.int .i64 a1_0) := (blk_cell HB1.out 0).trans rfl
  have c3 : w2.cell? ⟨w.heap.size + 1, 1, none⟩ = some (.int .i64 a1_1) := (blk_cell HB1.out 1).trans rfl
  go_wp2_with (fail)
  refine (cx_made.yes 109 #[.pointer (some ⟨w.heap.size, 0, none⟩), .pointer (some ⟨w.heap.size + 1, 0, none⟩)] (wrap64 (wrap64 (a0_0 * a1_0) - wrap64 (a0_1 * a1_1))) (wrap64 (wrap64 (a0_0 * a1_1) + wrap64 (a0_1 * a1_0))) none w2 (enters_of Try.func109 (by kernel_rfl) rfl) ?_ (by simp)).mono ?_
  · have k := blk_alloc HB0.out (.cells #[.int .i64 0, .int .i64 0] 43)
    have k' := blk_alloc HB1.out (.cells #[.int .i64 0, .int .i64 0] 43)
    refine (cx_Times1.calls w.heap.size (w.heap.size + 1) a0_0 a0_1 a1_0 a1_1 _ ((blk_cell k 0).trans rfl) ((blk_cell k 1).trans rfl) ((blk_cell k' 0).trans rfl) ((blk_cell k' 1).trans rfl)).mono ?_
    rintro e w' ⟨rfl, hb⟩
    exact ⟨rfl, grown_of_below hb none⟩
  rintro e wz ⟨rfl, hg⟩
  have B1 := blk_grown HB2.out hg (by simp)
  have HWz := Aside0.mk (HW.out.grown hg HW.out.size (by simp))
  have d0 : wz.cell? ⟨w.heap.size + 1 + 1, 0, none⟩ = some (.int .i64 0) := (blk_cell B1 0).trans rfl
  have d1 : wz.cell? ⟨w.heap.size + 1 + 1, 1, none⟩ = some (.int .i64 0) := (blk_cell B1 1).trans rfl
  have f0 := blk_frozen B1 0
  have f1 := blk_frozen B1 1
  clear hg B1 HB0 HB1 HB2 HW c0 c1 c2 c3
  go_wp2
  refine bodyPost_ret (v := .tuple #[.agg #[.int .i64 (wrap64 (wrap64 (a0_0 * a1_0) - wrap64 (a0_1 * a1_1))), .int .i64 (wrap64 (wrap64 (a0_0 * a1_1) + wrap64 (a0_1 * a1_0)))], .int .i64 0]) (by simp [results, Try.results42, go_sem, d0, d1]) rfl ⟨rfl, ?_⟩
  refine below_set (below_set HWz.out ?_) ?_ <;> omega
set_option maxHeartbeats 4000000 in
theorem cx_Times.tftt (a0_0 a0_1 a1_0 a1_1 : Int) (w : World) (h0 : within 2147483648 [⟨a0_0, a0_1⟩] = true) (h1 : within 1073741824 [⟨a1_0, a1_1⟩] = false) (h2 : within 1073741824 [⟨a0_0, a0_1⟩] = true) (h3 : within 2147483648 [⟨a1_0, a1_1⟩] = true) :
    Calls Try.prog 42 #[.agg #[.int .i64 a0_0, .int .i64 a0_1], .agg #[.int .i64 a1_0, .int .i64 a1_1]] w fun e w' => e = .returned (.tuple #[.agg #[.int .i64 (wrap64 (wrap64 (a0_0 * a1_0) - wrap64 (a0_1 * a1_1))), .int .i64 (wrap64 (wrap64 (a0_0 * a1_1) + wrap64 (a0_1 * a1_0)))], .int .i64 0]) ∧ Below w.heap.size w w' := by
  have V0 : Aside0 (cx_within.f 2 2147483648 [⟨a0_0, a0_1⟩] = some true) := ⟨by have := cx_within.val 2147483648 (by unfold wrap64; omega) [⟨a0_0, a0_1⟩] (by simp); rw [h0] at this; exact this⟩
  have V1 : Aside0 (cx_within.f 2 1073741824 [⟨a1_0, a1_1⟩] = some false) := ⟨by have := cx_within.val 1073741824 (by unfold wrap64; omega) [⟨a1_0, a1_1⟩] (by simp); rw [h1] at this; exact this⟩
  have V2 : Aside0 (cx_within.f 2 1073741824 [⟨a0_0, a0_1⟩] = some true) := ⟨by have := cx_within.val 1073741824 (by unfold wrap64; omega) [⟨a0_0, a0_1⟩] (by simp); rw [h2] at this; exact this⟩
  have V3 : Aside0 (cx_within.f 2 2147483648 [⟨a1_0, a1_1⟩] = some true) := ⟨by have := cx_within.val 2147483648 (by unfold wrap64; omega) [⟨a1_0, a1_1⟩] (by simp); rw [h3] at this; exact this⟩
  clear h0 h1 h2 h3
  go_enter Try.func42, Try.ntmps42
  go_wp2_with (fail)
  refine (cx_within.calls _ _ _ _ [⟨a0_0, a0_1⟩] true _ (C_lit_cx _ _ (by simp) ?_) (by simp) V0.out).mono ?_
  · intro j hj
    match j, hj with
    | 0, _ => simp [go_sem]
  rintro e w1 ⟨rfl, hb⟩
  have e0 := blk_new w (.cells #[.int .i64 a0_0, .int .i64 a0_1] 43)
  have e1 := blk_new (w.alloc (.cells #[.int .i64 a0_0, .int .i64 a0_1] 43)) (.cells #[.int .i64 a1_0, .int .i64 a1_1] 43)
  have e2 := blk_new ((w.alloc (.cells #[.int .i64 a0_0, .int .i64 a0_1] 43)).alloc (.cells #[.int .i64 a1_0, .int .i64 a1_1] 43)) (.cells #[.int .i64 0, .int .i64 0] 43)
  simp only [World.size_alloc] at e1 e2
  have HB0 := Aside0.mk (blk_below (blk_alloc (blk_alloc (blk_alloc e0 _) _) _) hb)
  have HB1 := Aside0.mk (blk_below (blk_alloc (blk_alloc e1 _) _) hb)
  have HB2 := Aside0.mk (blk_below (blk_alloc e2 _) hb)
  have HW := Aside0.mk (below_then (below_alloc (below_alloc (below_alloc (below_alloc (Below.refl _ _) _) _) _) _) (by simp <;> omega) hb : Below w.heap.size w w1)
  clear hb e0 e1 e2 V0
  have c0 : w1.cell? ⟨w.heap.size, 0, none⟩ = some (.int .i64 a0_0) := (blk_cell HB0.out 0).trans rfl
  have c1 : w1.cell? ⟨w.heap.size, 1, none⟩ = some (.int .i64 a0_1) := (blk_cell HB0.out 1).trans rfl
  have c2 : w1.cell? ⟨w.heap.size + 1, 0, none⟩ = some (.int .i64 a1_0) := (blk_cell HB1.out 0).trans rfl
  have c3 : w1.cell? ⟨w.heap.size + 1, 1, none⟩ = some (.int .i64 a1_1) := (blk_cell HB1.out 1).trans rfl
  go_wp2_with (fail)
  refine (cx_within.calls _ _ _ _ [⟨a1_0, a1_1⟩] false _ (C_lit_cx _ _ (by simp) ?_) (by simp) V1.out).mono ?_
  · intro j hj
    match j, hj with
    | 0, _ => simp [go_sem]
  rintro e w2 ⟨rfl, hb⟩
  clear c0 c1 c2 c3
  replace HB0 := Aside0.mk (blk_below (blk_alloc HB0.out _) hb)
  replace HB1 := Aside0.mk (blk_below (blk_alloc HB1.out _) hb)
  replace HB2 := Aside0.mk (blk_below (blk_alloc HB2.out _) hb)
  replace HW := Aside0.mk (below_step (below_alloc HW.out _) hb)
  clear hb V1
  have c0 : w2.cell? ⟨w.heap.size, 0, none⟩ = some (.int .i64 a0_0) := (blk_cell HB0.out 0).trans rfl
  have c1 : w2.cell? ⟨w.heap.size, 1, none⟩ = some (.int .i64 a0_1) := (blk_cell HB0.out 1).trans rfl
  have c2 : w2.cell? ⟨w.heap.size + 1, 0, none⟩ = some (.int .i64 a1_0) := (blk_cell HB1.out 0).trans rfl
  have c3 : w2.cell? ⟨w.heap.size + 1, 1, none⟩ = some (.int .i64 a1_1) := (blk_cell HB1.out 1).trans rfl
  go_wp2_with (fail)
  refine (cx_within.calls _ _ _ _ [⟨a0_0, a0_1⟩] true _ (C_lit_cx _ _ (by simp) ?_) (by simp) V2.out).mono ?_
  · intro j hj
    match j, hj with
    | 0, _ => simp [go_sem]
  rintro e w3 ⟨rfl, hb⟩
  clear c0 c1 c2 c3
  replace HB0 := Aside0.mk (blk_below (blk_alloc HB0.out _) hb)
  replace HB1 := Aside0.mk (blk_below (blk_alloc HB1.out _) hb)
  replace HB2 := Aside0.mk (blk_below (blk_alloc HB2.out _) hb)
  replace HW := Aside0.mk (below_step (below_alloc HW.out _) hb)
  clear hb V2
  have c0 : w3.cell? ⟨w.heap.size, 0, none⟩ = some (.int .i64 a0_0) := (blk_cell HB0.out 0).trans rfl
  have c1 : w3.cell? ⟨w.heap.size, 1, none⟩ = some (.int .i64 a0_1) := (blk_cell HB0.out 1).trans rfl
  have c2 : w3.cell? ⟨w.heap.size + 1, 0, none⟩ = some (.int .i64 a1_0) := (blk_cell HB1.out 0).trans rfl
  have c3 : w3.cell? ⟨w.heap.size + 1, 1, none⟩ = some (.int .i64 a1_1) := (blk_cell HB1.out 1).trans rfl
  go_wp2_with (fail)
  refine (cx_within.calls _ _ _ _ [⟨a1_0, a1_1⟩] true _ (C_lit_cx _ _ (by simp) ?_) (by simp) V3.out).mono ?_
  · intro j hj
    match j, hj with
    | 0, _ => simp [go_sem]
  rintro e w4 ⟨rfl, hb⟩
  clear c0 c1 c2 c3
  replace HB0 := Aside0.mk (blk_below (blk_alloc HB0.out _) hb)
  replace HB1 := Aside0.mk (blk_below (blk_alloc HB1.out _) hb)
  replace HB2 := Aside0.mk (blk_below (blk_alloc HB2.out _) hb)
  replace HW := Aside0.mk (below_step (below_alloc HW.out _) hb)
  clear hb V3
  have c0 : w4.cell? ⟨w.heap.size, 0, none⟩ = some (.int .i64 a0_0) := (blk_cell HB0.out 0).trans rfl
  have c1 : w4.cell? ⟨w.heap.size, 1, none⟩ = some (.int .i64 a0_1) := (blk_cell HB0.out 1).trans rfl
  have c2 : w4.cell? ⟨w.heap.size + 1, 0, none⟩ = some (.int .i64 a1_0) := (blk_cell HB1.out 0).trans rfl
  have c3 : w4.cell? ⟨w.heap.size + 1, 1, none⟩ = some (.int .i64 a1_1) := (blk_cell HB1.out 1).trans rfl
  go_wp2_with (fail)
  refine (cx_made.yes 109 #[.pointer (some ⟨w.heap.size, 0, none⟩), .pointer (some ⟨w.heap.size + 1, 0, none⟩)] (wrap64 (wrap64 (a0_0 * a1_0) - wrap64 (a0_1 * a1_1))) (wrap64 (wrap64 (a0_0 * a1_1) + wrap64 (a0_1 * a1_0))) none w4 (enters_of Try.func109 (by kernel_rfl) rfl) ?_ (by simp)).mono ?_
  · have k := blk_alloc HB0.out (.cells #[.int .i64 0, .int .i64 0] 43)
    have k' := blk_alloc HB1.out (.cells #[.int .i64 0, .int .i64 0] 43)
    refine (cx_Times1.calls w.heap.size (w.heap.size + 1) a0_0 a0_1 a1_0 a1_1 _ ((blk_cell k 0).trans rfl) ((blk_cell k 1).trans rfl) ((blk_cell k' 0).trans rfl) ((blk_cell k' 1).trans rfl)).mono ?_
    rintro e w' ⟨rfl, hb⟩
    exact ⟨rfl, grown_of_below hb none⟩
  rintro e wz ⟨rfl, hg⟩
  have B1 := blk_grown HB2.out hg (by simp)
  have HWz := Aside0.mk (HW.out.grown hg HW.out.size (by simp))
  have d0 : wz.cell? ⟨w.heap.size + 1 + 1, 0, none⟩ = some (.int .i64 0) := (blk_cell B1 0).trans rfl
  have d1 : wz.cell? ⟨w.heap.size + 1 + 1, 1, none⟩ = some (.int .i64 0) := (blk_cell B1 1).trans rfl
  have f0 := blk_frozen B1 0
  have f1 := blk_frozen B1 1
  clear hg B1 HB0 HB1 HB2 HW c0 c1 c2 c3
  go_wp2
  refine bodyPost_ret (v := .tuple #[.agg #[.int .i64 (wrap64 (wrap64 (a0_0 * a1_0) - wrap64 (a0_1 * a1_1))), .int .i64 (wrap64 (wrap64 (a0_0 * a1_1) + wrap64 (a0_1 * a1_0)))], .int .i64 0]) (by simp [results, Try.results42, go_sem, d0, d1]) rfl ⟨rfl, ?_⟩
  refine below_set (below_set HWz.out ?_) ?_ <;> omega
set_option maxHeartbeats 4000000 in
theorem cx_Times.tftf (a0_0 a0_1 a1_0 a1_1 : Int) (w : World) (h0 : within 2147483648 [⟨a0_0, a0_1⟩] = true) (h1 : within 1073741824 [⟨a1_0, a1_1⟩] = false) (h2 : within 1073741824 [⟨a0_0, a0_1⟩] = true) (h3 : within 2147483648 [⟨a1_0, a1_1⟩] = false) :
    Calls Try.prog 42 #[.agg #[.int .i64 a0_0, .int .i64 a0_1], .agg #[.int .i64 a1_0, .int .i64 a1_1]] w fun e w' => e = .returned (.tuple #[.agg #[.int .i64 0, .int .i64 0], .int .i64 2]) ∧ Below w.heap.size w w' := by
  have V0 : Aside0 (cx_within.f 2 2147483648 [⟨a0_0, a0_1⟩] = some true) := ⟨by have := cx_within.val 2147483648 (by unfold wrap64; omega) [⟨a0_0, a0_1⟩] (by simp); rw [h0] at this; exact this⟩
  have V1 : Aside0 (cx_within.f 2 1073741824 [⟨a1_0, a1_1⟩] = some false) := ⟨by have := cx_within.val 1073741824 (by unfold wrap64; omega) [⟨a1_0, a1_1⟩] (by simp); rw [h1] at this; exact this⟩
  have V2 : Aside0 (cx_within.f 2 1073741824 [⟨a0_0, a0_1⟩] = some true) := ⟨by have := cx_within.val 1073741824 (by unfold wrap64; omega) [⟨a0_0, a0_1⟩] (by simp); rw [h2] at this; exact this⟩
  have V3 : Aside0 (cx_within.f 2 2147483648 [⟨a1_0, a1_1⟩] = some false) := ⟨by have := cx_within.val 2147483648 (by unfold wrap64; omega) [⟨a1_0, a1_1⟩] (by simp); rw [h3] at this; exact this⟩
  clear h0 h1 h2 h3
  go_enter Try.func42, Try.ntmps42
  go_wp2_with (fail)
  refine (cx_within.calls _ _ _ _ [⟨a0_0, a0_1⟩] true _ (C_lit_cx _ _ (by simp) ?_) (by simp) V0.out).mono ?_
  · intro j hj
    match j, hj with
    | 0, _ => simp [go_sem]
  rintro e w1 ⟨rfl, hb⟩
  have e0 := blk_new w (.cells #[.int .i64 a0_0, .int .i64 a0_1] 43)
  have e1 := blk_new (w.alloc (.cells #[.int .i64 a0_0, .int .i64 a0_1] 43)) (.cells #[.int .i64 a1_0, .int .i64 a1_1] 43)
  have e2 := blk_new ((w.alloc (.cells #[.int .i64 a0_0, .int .i64 a0_1] 43)).alloc (.cells #[.int .i64 a1_0, .int .i64 a1_1] 43)) (.cells #[.int .i64 0, .int .i64 0] 43)
  simp only [World.size_alloc] at e1 e2
  have HB0 := Aside0.mk (blk_below (blk_alloc (blk_alloc (blk_alloc e0 _) _) _) hb)
  have HB1 := Aside0.mk (blk_below (blk_alloc (blk_alloc e1 _) _) hb)
  have HB2 := Aside0.mk (blk_below (blk_alloc e2 _) hb)
  have HW := Aside0.mk (below_then (below_alloc (below_alloc (below_alloc (below_alloc (Below.refl _ _) _) _) _) _) (by simp <;> omega) hb : Below w.heap.size w w1)
  clear hb e0 e1 e2 V0
  have c0 : w1.cell? ⟨w.heap.size, 0, none⟩ = some (.int .i64 a0_0) := (blk_cell HB0.out 0).trans rfl
  have c1 : w1.cell? ⟨w.heap.size, 1, none⟩ = some (.int .i64 a0_1) := (blk_cell HB0.out 1).trans rfl
  have c2 : w1.cell? ⟨w.heap.size + 1, 0, none⟩ = some (.int .i64 a1_0) := (blk_cell HB1.out 0).trans rfl
  have c3 : w1.cell? ⟨w.heap.size + 1, 1, none⟩ = some (.int .i64 a1_1) := (blk_cell HB1.out 1).trans rfl
  go_wp2_with (fail)
  refine (cx_within.calls _ _ _ _ [⟨a1_0, a1_1⟩] false _ (C_lit_cx _ _ (by simp) ?_) (by simp) V1.out).mono ?_
  · intro j hj
    match j, hj with
    | 0, _ => simp [go_sem]
  rintro e w2 ⟨rfl, hb⟩
  clear c0 c1 c2 c3
  replace HB0 := Aside0.mk (blk_below (blk_alloc HB0.out _) hb)
  replace HB1 := Aside0.mk (blk_below (blk_alloc HB1.out _) hb)
  replace HB2 := Aside0.mk (blk_below (blk_alloc HB2.out _) hb)
  replace HW := Aside0.mk (below_step (below_alloc HW.out _) hb)
  clear hb V1
  have c0 : w2.cell? ⟨w.heap.size, 0, none⟩ = some (.int .i64 a0_0) := (blk_cell HB0.out 0).trans rfl
  have c1 : w2.cell? ⟨w.heap.size, 1, none⟩ = some (.int .i64 a0_1) := (blk_cell HB0.out 1).trans rfl
  have c2 : w2.cell? ⟨w.heap.size + 1, 0, none⟩ = some (.int .i64 a1_0) := (blk_cell HB1.out 0).trans rfl
  have c3 : w2.cell? ⟨w.heap.size + 1, 1, none⟩ = some (.int .i64 a1_1) := (blk_cell HB1.out 1).trans rfl
  go_wp2_with (fail)
  refine (cx_within.calls _ _ _ _ [⟨a0_0, a0_1⟩] true _ (C_lit_cx _ _ (by simp) ?_) (by simp) V2.out).mono ?_
  · intro j hj
    match j, hj with
    | 0, _ => simp [go_sem]
  rintro e w3 ⟨rfl, hb⟩
  clear c0 c1 c2 c3
  replace HB0 := Aside0.mk (blk_below (blk_alloc HB0.out _) hb)
  replace HB1 := Aside0.mk (blk_below (blk_alloc HB1.out _) hb)
  replace HB2 := Aside0.mk (blk_below (blk_alloc HB2.out _) hb)
  replace HW := Aside0.mk (below_step (below_alloc HW.out _) hb)
  clear hb V2
  have c0 : w3.cell? ⟨w.heap.size, 0, none⟩ = some (.int .i64 a0_0) := (blk_cell HB0.out 0).trans rfl
  have c1 : w3.cell? ⟨w.heap.size, 1, none⟩ = some (.int .i64 a0_1) := (blk_cell HB0.out 1).trans rfl
  have c2 : w3.cell? ⟨w.heap.size + 1, 0, none⟩ = some (.int .i64 a1_0) := (blk_cell HB1.out 0).trans rfl
  have c3 : w3.cell? ⟨w.heap.size + 1, 1, none⟩ = some (.int .i64 a1_1) := (blk_cell HB1.out 1).trans rfl
  go_wp2_with (fail)
  refine (cx_within.calls _ _ _ _ [⟨a1_0, a1_1⟩] false _ (C_lit_cx _ _ (by simp) ?_) (by simp) V3.out).mono ?_
  · intro j hj
    match j, hj with
    | 0, _ => simp [go_sem]
  rintro e w4 ⟨rfl, hb⟩
  clear c0 c1 c2 c3
  replace HB0 := Aside0.mk (blk_below (blk_alloc HB0.out _) hb)
  replace HB1 := Aside0.mk (blk_below (blk_alloc HB1.out _) hb)
  replace HB2 := Aside0.mk (blk_below (blk_alloc HB2.out _) hb)
  replace HW := Aside0.mk (below_step (below_alloc HW.out _) hb)
  clear hb V3
  have c0 : w4.cell? ⟨w.heap.size, 0, none⟩ = some (.int .i64 a0_0) := (blk_cell HB0.out 0).trans rfl
  have c1 : w4.cell? ⟨w.heap.size, 1, none⟩ = some (.int .i64 a0_1) := (blk_cell HB0.out 1).trans rfl
  have c2 : w4.cell? ⟨w.heap.size + 1, 0, none⟩ = some (.int .i64 a1_0) := (blk_cell HB1.out 0).trans rfl
  have c3 : w4.cell? ⟨w.heap.size + 1, 1, none⟩ = some (.int .i64 a1_1) := (blk_cell HB1.out 1).trans rfl
  go_wp2_with (fail)
  refine (cx_made.no 109 _ w4).mono ?_
  rintro e wz ⟨rfl, hb⟩
  have hg := grown_of_below hb none
  have B1 := blk_below HB2.out hb
  clear hb
  have HWz := Aside0.mk (HW.out.grown hg HW.out.size (by simp))
  have d0 : wz.cell? ⟨w.heap.size + 1 + 1, 0, none⟩ = some (.int .i64 0) := (blk_cell B1 0).trans rfl
  have d1 : wz.cell? ⟨w.heap.size + 1 + 1, 1, none⟩ = some (.int .i64 0) := (blk_cell B1 1).trans rfl
  have f0 := blk_frozen B1 0
  have f1 := blk_frozen B1 1
  clear hg B1 HB0 HB1 HB2 HW c0 c1 c2 c3
  go_wp2
  refine bodyPost_ret (v := .tuple #[.agg #[.int .i64 0, .int .i64 0], .int .i64 2]) (by simp [results, Try.results42, go_sem, d0, d1]) rfl ⟨rfl, ?_⟩
  refine below_set (below_set HWz.out ?_) ?_ <;> omega
set_option maxHeartbeats 4000000 in
theorem cx_Times.tff (a0_0 a0_1 a1_0 a1_1 : Int) (w : World) (h0 : within 2147483648 [⟨a0_0, a0_1⟩] = true) (h1 : within 1073741824 [⟨a1_0, a1_1⟩] = false) (h2 : within 1073741824 [⟨a0_0, a0_1⟩] = false) :
    Calls Try.prog 42 #[.agg #[.int .i64 a0_0, .int .i64 a0_1], .agg #[.int .i64 a1_0, .int .i64 a1_1]] w fun e w' => e = .returned (.tuple #[.agg #[.int .i64 0, .int .i64 0], .int .i64 2]) ∧ Below w.heap.size w w' := by
  have V0 : Aside0 (cx_within.f 2 2147483648 [⟨a0_0, a0_1⟩] = some true) := ⟨by have := cx_within.val 2147483648 (by unfold wrap64; omega) [⟨a0_0, a0_1⟩] (by simp); rw [h0] at this; exact this⟩
  have V1 : Aside0 (cx_within.f 2 1073741824 [⟨a1_0, a1_1⟩] = some false) := ⟨by have := cx_within.val 1073741824 (by unfold wrap64; omega) [⟨a1_0, a1_1⟩] (by simp); rw [h1] at this; exact this⟩
  have V2 : Aside0 (cx_within.f 2 1073741824 [⟨a0_0, a0_1⟩] = some false) := ⟨by have := cx_within.val 1073741824 (by unfold wrap64; omega) [⟨a0_0, a0_1⟩] (by simp); rw [h2] at this; exact this⟩
  clear h0 h1 h2
  go_enter Try.func42, Try.ntmps42
  go_wp2_with (fail)
  refine (cx_within.calls _ _ _ _ [⟨a0_0, a0_1⟩] true _ (C_lit_cx _ _ (by simp) ?_) (by simp) V0.out).mono ?_
  · intro j hj
    match j, hj with
    | 0, _ => simp [go_sem]
  rintro e w1 ⟨rfl, hb⟩
  have e0 := blk_new w (.cells #[.int .i64 a0_0, .int .i64 a0_1] 43)
  have e1 := blk_new (w.alloc (.cells #[.int .i64 a0_0, .int .i64 a0_1] 43)) (.cells #[.int .i64 a1_0, .int .i64 a1_1] 43)
  have e2 := blk_new ((w.alloc (.cells #[.int .i64 a0_0, .int .i64 a0_1] 43)).alloc (.cells #[.int .i64 a1_0, .int .i64 a1_1] 43)) (.cells #[.int .i64 0, .int .i64 0] 43)
  simp only [World.size_alloc] at e1 e2
  have HB0 := Aside0.mk (blk_below (blk_alloc (blk_alloc (blk_alloc e0 _) _) _) hb)
  have HB1 := Aside0.mk (blk_below (blk_alloc (blk_alloc e1 _) _) hb)
  have HB2 := Aside0.mk (blk_below (blk_alloc e2 _) hb)
  have HW := Aside0.mk (below_then (below_alloc (below_alloc (below_alloc (below_alloc (Below.refl _ _) _) _) _) _) (by simp <;> omega) hb : Below w.heap.size w w1)
  clear hb e0 e1 e2 V0
  have c0 : w1.cell? ⟨w.heap.size, 0, none⟩ = some (.int .i64 a0_0) := (blk_cell HB0.out 0).trans rfl
  have c1 : w1.cell? ⟨w.heap.size, 1, none⟩ = some (.int .i64 a0_1) := (blk_cell HB0.out 1).trans rfl
  have c2 : w1.cell? ⟨w.heap.size + 1, 0, none⟩ = some (.int .i64 a1_0) := (blk_cell HB1.out 0).trans rfl
  have c3 : w1.cell? ⟨w.heap.size + 1, 1, none⟩ = some (.int .i64 a1_1) := (blk_cell HB1.out 1).trans rfl
  go_wp2_with (fail)
  refine (cx_within.calls _ _ _ _ [⟨a1_0, a1_1⟩] false _ (C_lit_cx _ _ (by simp) ?_) (by simp) V1.out).mono ?_
  · intro j hj
    match j, hj with
    | 0, _ => simp [go_sem]
  rintro e w2 ⟨rfl, hb⟩
  clear c0 c1 c2 c3
  replace HB0 := Aside0.mk (blk_below (blk_alloc HB0.out _) hb)
  replace HB1 := Aside0.mk (blk_below (blk_alloc HB1.out _) hb)
  replace HB2 := Aside0.mk (blk_below (blk_alloc HB2.out _) hb)
  replace HW := Aside0.mk (below_step (below_alloc HW.out _) hb)
  clear hb V1
  have c0 : w2.cell? ⟨w.heap.size, 0, none⟩ = some (.int .i64 a0_0) := (blk_cell HB0.out 0).trans rfl
  have c1 : w2.cell? ⟨w.heap.size, 1, none⟩ = some (.int .i64 a0_1) := (blk_cell HB0.out 1).trans rfl
  have c2 : w2.cell? ⟨w.heap.size + 1, 0, none⟩ = some (.int .i64 a1_0) := (blk_cell HB1.out 0).trans rfl
  have c3 : w2.cell? ⟨w.heap.size + 1, 1, none⟩ = some (.int .i64 a1_1) := (blk_cell HB1.out 1).trans rfl
  go_wp2_with (fail)
  refine (cx_within.calls _ _ _ _ [⟨a0_0, a0_1⟩] false _ (C_lit_cx _ _ (by simp) ?_) (by simp) V2.out).mono ?_
  · intro j hj
    match j, hj with
    | 0, _ => simp [go_sem]
  rintro e w3 ⟨rfl, hb⟩
  clear c0 c1 c2 c3
  replace HB0 := Aside0.mk (blk_below (blk_alloc HB0.out _) hb)
  replace HB1 := Aside0.mk (blk_below (blk_alloc HB1.out _) hb)
  replace HB2 := Aside0.mk (blk_below (blk_alloc HB2.out _) hb)
  replace HW := Aside0.mk (below_step (below_alloc HW.out _) hb)
  clear hb V2
  have c0 : w3.cell? ⟨w.heap.size, 0, none⟩ = some (.int .i64 a0_0) := (blk_cell HB0.out 0).trans rfl
  have c1 : w3.cell? ⟨w.heap.size, 1, none⟩ = some (.int .i64 a0_1) := (blk_cell HB0.out 1).trans rfl
  have c2 : w3.cell? ⟨w.heap.size + 1, 0, none⟩ = some (.int .i64 a1_0) := (blk_cell HB1.out 0).trans rfl
  have c3 : w3.cell? ⟨w.heap.size + 1, 1, none⟩ = some (.int .i64 a1_1) := (blk_cell HB1.out 1).trans rfl
  go_wp2_with (fail)
  refine (cx_made.no 109 _ w3).mono ?_
  rintro e wz ⟨rfl, hb⟩
  have hg := grown_of_below hb none
  have B1 := blk_below HB2.out hb
  clear hb
  have HWz := Aside0.mk (HW.out.grown hg HW.out.size (by simp))
  have d0 : wz.cell? ⟨w.heap.size + 1 + 1, 0, none⟩ = some (.int .i64 0) := (blk_cell B1 0).trans rfl
  have d1 : wz.cell? ⟨w.heap.size + 1 + 1, 1, none⟩ = some (.int .i64 0) := (blk_cell B1 1).trans rfl
  have f0 := blk_frozen B1 0
  have f1 := blk_frozen B1 1
  clear hg B1 HB0 HB1 HB2 HW c0 c1 c2 c3
  go_wp2
  refine bodyPost_ret (v := .tuple #[.agg #[.int .i64 0, .int .i64 0], .int .i64 2]) (by simp [results, Try.results42, go_sem, d0, d1]) rfl ⟨rfl, ?_⟩
  refine below_set (below_set HWz.out ?_) ?_ <;> omega
set_option maxHeartbeats 4000000 in
theorem cx_Times.ftt (a0_0 a0_1 a1_0 a1_1 : Int) (w : World) (h0 : within 2147483648 [⟨a0_0, a0_1⟩] = false) (h1 : within 1073741824 [⟨a0_0, a0_1⟩] = true) (h2 : within 2147483648 [⟨a1_0, a1_1⟩] = true) :
    Calls Try.prog 42 #[.agg #[.int .i64 a0_0, .int .i64 a0_1], .agg #[.int .i64 a1_0, .int .i64 a1_1]] w fun e w' => e = .returned (.tuple #[.agg #[.int .i64 (wrap64 (wrap64 (a0_0 * a1_0) - wrap64 (a0_1 * a1_1))), .int .i64 (wrap64 (wrap64 (a0_0 * a1_1) + wrap64 (a0_1 * a1_0)))], .int .i64 0]) ∧ Below w.heap.size w w' := by
  have V0 : Aside0 (cx_within.f 2 2147483648 [⟨a0_0, a0_1⟩] = some false) := ⟨by have := cx_within.val 2147483648 (by unfold wrap64; omega) [⟨a0_0, a0_1⟩] (by simp); rw [h0] at this; exact this⟩
  have V1 : Aside0 (cx_within.f 2 1073741824 [⟨a0_0, a0_1⟩] = some true) := ⟨by have := cx_within.val 1073741824 (by unfold wrap64; omega) [⟨a0_0, a0_1⟩] (by simp); rw [h1] at this; exact this⟩
  have V2 : Aside0 (cx_within.f 2 2147483648 [⟨a1_0, a1_1⟩] = some true) := ⟨by have := cx_within.val 2147483648 (by unfold wrap64; omega) [⟨a1_0, a1_1⟩] (by simp); rw [h2] at this; exact this⟩
  clear h0 h1 h2
  go_enter Try.func42, Try.ntmps42
  go_wp2_with (fail)
  refine (cx_within.calls _ _ _ _ [⟨a0_0, a0_1⟩] false _ (C_lit_cx _ _ (by simp) ?_) (by simp) V0.out).mono ?_
  · intro j hj
    match j, hj with
    | 0, _ => simp [go_sem]
  rintro e w1 ⟨rfl, hb⟩
  have e0 := blk_new w (.cells #[.int .i64 a0_0, .int .i64 a0_1] 43)
  have e1 := blk_new (w.alloc (.cells #[.int .i64 a0_0, .int .i64 a0_1] 43)) (.cells #[.int .i64 a1_0, .int .i64 a1_1] 43)
  have e2 := blk_new ((w.alloc (.cells #[.int .i64 a0_0, .int .i64 a0_1] 43)).alloc (.cells #[.int .i64 a1_0, .int .i64 a1_1] 43)) (.cells #[.int .i64 0, .int .i64 0] 43)
  simp only [World.size_alloc] at e1 e2
  have HB0 := Aside0.mk (blk_below (blk_alloc (blk_alloc (blk_alloc e0 _) _) _) hb)
  have HB1 := Aside0.mk (blk_below (blk_alloc (blk_alloc e1 _) _) hb)
  have HB2 := Aside0.mk (blk_below (blk_alloc e2 _) hb)
  have HW := Aside0.mk (below_then (below_alloc (below_alloc (below_alloc (below_alloc (Below.refl _ _) _) _) _) _) (by simp <;> omega) hb : Below w.heap.size w w1)
  clear hb e0 e1 e2 V0
  have c0 : w1.cell? ⟨w.heap.size, 0, none⟩ = some (.int .i64 a0_0) := (blk_cell HB0.out 0).trans rfl
  have c1 : w1.cell? ⟨w.heap.size, 1, none⟩ = some (.int .i64 a0_1) := (blk_cell HB0.out 1).trans rfl
  have c2 : w1.cell? ⟨w.heap.size + 1, 0, none⟩ = some (.int .i64 a1_0) := (blk_cell HB1.out 0).trans rfl
  have c3 : w1.cell? ⟨w.heap.size + 1, 1, none⟩ = some (.int .i64 a1_1) := (blk_cell HB1.out 1).trans rfl
  go_wp2_with (fail)
  refine (cx_within.calls _ _ _ _ [⟨a0_0, a0_1⟩] true _ (C_lit_cx _ _ (by simp) ?_) (by simp) V1.out).mono ?_
  · intro j hj
    match j, hj with
    | 0, _ => simp [go_sem]
  rintro e w2 ⟨rfl, hb⟩
  clear c0 c1 c2 c3
  replace HB0 := Aside0.mk (blk_below (blk_alloc HB0.out _) hb)
  replace HB1 := Aside0.mk (blk_below (blk_alloc HB1.out _) hb)
  replace HB2 := Aside0.mk (blk_below (blk_alloc HB2.out _) hb)
  replace HW := Aside0.mk (below_step (below_alloc HW.out _) hb)
  clear hb V1
  have c0 : w2.cell? ⟨w.heap.size, 0, none⟩ = some (.int .i64 a0_0) := (blk_cell HB0.out 0).trans rfl
  have c1 : w2.cell? ⟨w.heap.size, 1, none⟩ = some (.int .i64 a0_1) := (blk_cell HB0.out 1).trans rfl
  have c2 : w2.cell? ⟨w.heap.size + 1, 0, none⟩ = some (.int .i64 a1_0) := (blk_cell HB1.out 0).trans rfl
  have c3 : w2.cell? ⟨w.heap.size + 1, 1, none⟩ = some (.int .i64 a1_1) := (blk_cell HB1.out 1).trans rfl
  go_wp2_with (fail)
  refine (cx_within.calls _ _ _ _ [⟨a1_0, a1_1⟩] true _ (C_lit_cx _ _ (by simp) ?_) (by simp) V2.out).mono ?_
  · intro j hj
    match j, hj with
    | 0, _ => simp [go_sem]
  rintro e w3 ⟨rfl, hb⟩
  clear c0 c1 c2 c3
  replace HB0 := Aside0.mk (blk_below (blk_alloc HB0.out _) hb)
  replace HB1 := Aside0.mk (blk_below (blk_alloc HB1.out _) hb)
  replace HB2 := Aside0.mk (blk_below (blk_alloc HB2.out _) hb)
  replace HW := Aside0.mk (below_step (below_alloc HW.out _) hb)
  clear hb V2
  have c0 : w3.cell? ⟨w.heap.size, 0, none⟩ = some (.int .i64 a0_0) := (blk_cell HB0.out 0).trans rfl
  have c1 : w3.cell? ⟨w.heap.size, 1, none⟩ = some (.int .i64 a0_1) := (blk_cell HB0.out 1).trans rfl
  have c2 : w3.cell? ⟨w.heap.size + 1, 0, none⟩ = some (.int .i64 a1_0) := (blk_cell HB1.out 0).trans rfl
  have c3 : w3.cell? ⟨w.heap.size + 1, 1, none⟩ = some (.int .i64 a1_1) := (blk_cell HB1.out 1).trans rfl
  go_wp2_with (fail)
  refine (cx_made.yes 109 #[.pointer (some ⟨w.heap.size, 0, none⟩), .pointer (some ⟨w.heap.size + 1, 0, none⟩)] (wrap64 (wrap64 (a0_0 * a1_0) - wrap64 (a0_1 * a1_1))) (wrap64 (wrap64 (a0_0 * a1_1) + wrap64 (a0_1 * a1_0))) none w3 (enters_of Try.func109 (by kernel_rfl) rfl) ?_ (by simp)).mono ?_
  · have k := blk_alloc HB0.out (.cells #[.int .i64 0, .int .i64 0] 43)
    have k' := blk_alloc HB1.out (.cells #[.int .i64 0, .int .i64 0] 43)
    refine (cx_Times1.calls w.heap.size (w.heap.size + 1) a0_0 a0_1 a1_0 a1_1 _ ((blk_cell k 0).trans rfl) ((blk_cell k 1).trans rfl) ((blk_cell k' 0).trans rfl) ((blk_cell k' 1).trans rfl)).mono ?_
    rintro e w' ⟨rfl, hb⟩
    exact ⟨rfl, grown_of_below hb none⟩
  rintro e wz ⟨rfl, hg⟩
  have B1 := blk_grown HB2.out hg (by simp)
  have HWz := Aside0.mk (HW.out.grown hg HW.out.size (by simp))
  have d0 : wz.cell? ⟨w.heap.size + 1 + 1, 0, none⟩ = some (.int .i64 0) := (blk_cell B1 0).trans rfl
  have d1 : wz.cell? ⟨w.heap.size + 1 + 1, 1, none⟩ = some (.int .i64 0) := (blk_cell B1 1).trans rfl
  have f0 := blk_frozen B1 0
  have f1 := blk_frozen B1 1
  clear hg B1 HB0 HB1 HB2 HW c0 c1 c2 c3
  go_wp2
  refine bodyPost_ret (v := .tuple #[.agg #[.int .i64 (wrap64 (wrap64 (a0_0 * a1_0) - wrap64 (a0_1 * a1_1))), .int .i64 (wrap64 (wrap64 (a0_0 * a1_1) + wrap64 (a0_1 * a1_0)))], .int .i64 0]) (by simp [results, Try.results42, go_sem, d0, d1]) rfl ⟨rfl, ?_⟩
  refine below_set (below_set HWz.out ?_) ?_ <;> omega
set_option maxHeartbeats 4000000 in
theorem cx_Times.ftf (a0_0 a0_1 a1_0 a1_1 : Int) (w : World) (h0 : within 2147483648 [⟨a0_0, a0_1⟩] = false) (h1 : within 1073741824 [⟨a0_0, a0_1⟩] = true) (h2 : within 2147483648 [⟨a1_0, a1_1⟩] = false) :
    Calls Try.prog 42 #[.agg #[.int .i64 a0_0, .int .i64 a0_1], .agg #[.int .i64 a1_0, .int .i64 a1_1]] w fun e w' => e = .returned (.tuple #[.agg #[.int .i64 0, .int .i64 0], .int .i64 2]) ∧ Below w.heap.size w w' := by
  have V0 : Aside0 (cx_within.f 2 2147483648 [⟨a0_0, a0_1⟩] = some false) := ⟨by have := cx_within.val 2147483648 (by unfold wrap64; omega) [⟨a0_0, a0_1⟩] (by simp); rw [h0] at this; exact this⟩
  have V1 : Aside0 (cx_within.f 2 1073741824 [⟨a0_0, a0_1⟩] = some true) := ⟨by have := cx_within.val 1073741824 (by unfold wrap64; omega) [⟨a0_0, a0_1⟩] (by simp); rw [h1] at this; exact this⟩
  have V2 : Aside0 (cx_within.f 2 2147483648 [⟨a1_0, a1_1⟩] = some false) := ⟨by have := cx_within.val 2147483648 (by unfold wrap64; omega) [⟨a1_0, a1_1⟩] (by simp); rw [h2] at this; exact this⟩
  clear h0 h1 h2
  go_enter Try.func42, Try.ntmps42
  go_wp2_with (fail)
  refine (cx_within.calls _ _ _ _ [⟨a0_0, a0_1⟩] false _ (C_lit_cx _ _ (by simp) ?_) (by simp) V0.out).mono ?_
  · intro j hj
    match j, hj with
    | 0, _ => simp [go_sem]
  rintro e w1 ⟨rfl, hb⟩
  have e0 := blk_new w (.cells #[.int .i64 a0_0, .int .i64 a0_1] 43)
  have e1 := blk_new (w.alloc (.cells #[.int .i64 a0_0, .int .i64 a0_1] 43)) (.cells #[.int .i64 a1_0, .int .i64 a1_1] 43)
  have e2 := blk_new ((w.alloc (.cells #[.int .i64 a0_0, .int .i64 a0_1] 43)).alloc (.cells #[.int .i64 a1_0, .int .i64 a1_1] 43)) (.cells #[.int .i64 0, .int .i64 0] 43)
  simp only [World.size_alloc] at e1 e2
  have HB0 := Aside0.mk (blk_below (blk_alloc (blk_alloc (blk_alloc e0 _) _) _) hb)
  have HB1 := Aside0.mk (blk_below (blk_alloc (blk_alloc e1 _) _) hb)
  have HB2 := Aside0.mk (blk_below (blk_alloc e2 _) hb)
  have HW := Aside0.mk (below_then (below_alloc (below_alloc (below_alloc (below_alloc (Below.refl _ _) _) _) _) _) (by simp <;> omega) hb : Below w.heap.size w w1)
  clear hb e0 e1 e2 V0
  have c0 : w1.cell? ⟨w.heap.size, 0, none⟩ = some (.int .i64 a0_0) := (blk_cell HB0.out 0).trans rfl
  have c1 : w1.cell? ⟨w.heap.size, 1, none⟩ = some (.int .i64 a0_1) := (blk_cell HB0.out 1).trans rfl
  have c2 : w1.cell? ⟨w.heap.size + 1, 0, none⟩ = some (.int .i64 a1_0) := (blk_cell HB1.out 0).trans rfl
  have c3 : w1.cell? ⟨w.heap.size + 1, 1, none⟩ = some (.int .i64 a1_1) := (blk_cell HB1.out 1).trans rfl
  go_wp2_with (fail)
  refine (cx_within.calls _ _ _ _ [⟨a0_0, a0_1⟩] true _ (C_lit_cx _ _ (by simp) ?_) (by simp) V1.out).mono ?_
  · intro j hj
    match j, hj with
    | 0, _ => simp [go_sem]
  rintro e w2 ⟨rfl, hb⟩
  clear c0 c1 c2 c3
  replace HB0 := Aside0.mk (blk_below (blk_alloc HB0.out _) hb)
  replace HB1 := Aside0.mk (blk_below (blk_alloc HB1.out _) hb)
  replace HB2 := Aside0.mk (blk_below (blk_alloc HB2.out _) hb)
  replace HW := Aside0.mk (below_step (below_alloc HW.out _) hb)
  clear hb V1
  have c0 : w2.cell? ⟨w.heap.size, 0, none⟩ = some (.int .i64 a0_0) := (blk_cell HB0.out 0).trans rfl
  have c1 : w2.cell? ⟨w.heap.size, 1, none⟩ = some (.int .i64 a0_1) := (blk_cell HB0.out 1).trans rfl
  have c2 : w2.cell? ⟨w.heap.size + 1, 0, none⟩ = some (.int .i64 a1_0) := (blk_cell HB1.out 0).trans rfl
  have c3 : w2.cell? ⟨w.heap.size + 1, 1, none⟩ = some (.int .i64 a1_1) := (blk_cell HB1.out 1).trans rfl
  go_wp2_with (fail)
  refine (cx_within.calls _ _ _ _ [⟨a1_0, a1_1⟩] false _ (C_lit_cx _ _ (by simp) ?_) (by simp) V2.out).mono ?_
  · intro j hj
    match j, hj with
    | 0, _ => simp [go_sem]
  rintro e w3 ⟨rfl, hb⟩
  clear c0 c1 c2 c3
  replace HB0 := Aside0.mk (blk_below (blk_alloc HB0.out _) hb)
  replace HB1 := Aside0.mk (blk_below (blk_alloc HB1.out _) hb)
  replace HB2 := Aside0.mk (blk_below (blk_alloc HB2.out _) hb)
  replace HW := Aside0.mk (below_step (below_alloc HW.out _) hb)
  clear hb V2
  have c0 : w3.cell? ⟨w.heap.size, 0, none⟩ = some (.int .i64 a0_0) := (blk_cell HB0.out 0).trans rfl
  have c1 : w3.cell? ⟨w.heap.size, 1, none⟩ = some (.int .i64 a0_1) := (blk_cell HB0.out 1).trans rfl
  have c2 : w3.cell? ⟨w.heap.size + 1, 0, none⟩ = some (.int .i64 a1_0) := (blk_cell HB1.out 0).trans rfl
  have c3 : w3.cell? ⟨w.heap.size + 1, 1, none⟩ = some (.int .i64 a1_1) := (blk_cell HB1.out 1).trans rfl
  go_wp2_with (fail)
  refine (cx_made.no 109 _ w3).mono ?_
  rintro e wz ⟨rfl, hb⟩
  have hg := grown_of_below hb none
  have B1 := blk_below HB2.out hb
  clear hb
  have HWz := Aside0.mk (HW.out.grown hg HW.out.size (by simp))
  have d0 : wz.cell? ⟨w.heap.size + 1 + 1, 0, none⟩ = some (.int .i64 0) := (blk_cell B1 0).trans rfl
  have d1 : wz.cell? ⟨w.heap.size + 1 + 1, 1, none⟩ = some (.int .i64 0) := (blk_cell B1 1).trans rfl
  have f0 := blk_frozen B1 0
  have f1 := blk_frozen B1 1
  clear hg B1 HB0 HB1 HB2 HW c0 c1 c2 c3
  go_wp2
  refine bodyPost_ret (v := .tuple #[.agg #[.int .i64 0, .int .i64 0], .int .i64 2]) (by simp [results, Try.results42, go_sem, d0, d1]) rfl ⟨rfl, ?_⟩
  refine below_set (below_set HWz.out ?_) ?_ <;> omega
set_option maxHeartbeats 4000000 in
theorem cx_Times.ff (a0_0 a0_1 a1_0 a1_1 : Int) (w : World) (h0 : within 2147483648 [⟨a0_0, a0_1⟩] = false) (h1 : within 1073741824 [⟨a0_0, a0_1⟩] = false) :
    Calls Try.prog 42 #[.agg #[.int .i64 a0_0, .int .i64 a0_1], .agg #[.int .i64 a1_0, .int .i64 a1_1]] w fun e w' => e = .returned (.tuple #[.agg #[.int .i64 0, .int .i64 0], .int .i64 2]) ∧ Below w.heap.size w w' := by
  have V0 : Aside0 (cx_within.f 2 2147483648 [⟨a0_0, a0_1⟩] = some false) := ⟨by have := cx_within.val 2147483648 (by unfold wrap64; omega) [⟨a0_0, a0_1⟩] (by simp); rw [h0] at this; exact this⟩
  have V1 : Aside0 (cx_within.f 2 1073741824 [⟨a0_0, a0_1⟩] = some false) := ⟨by have := cx_within.val 1073741824 (by unfold wrap64; omega) [⟨a0_0, a0_1⟩] (by simp); rw [h1] at this; exact this⟩
  clear h0 h1
  go_enter Try.func42, Try.ntmps42
  go_wp2_with (fail)
  refine (cx_within.calls _ _ _ _ [⟨a0_0, a0_1⟩] false _ (C_lit_cx _ _ (by simp) ?_) (by simp) V0.out).mono ?_
  · intro j hj
    match j, hj with
    | 0, _ => simp [go_sem]
  rintro e w1 ⟨rfl, hb⟩
  have e0 := blk_new w (.cells #[.int .i64 a0_0, .int .i64 a0_1] 43)
  have e1 := blk_new (w.alloc (.cells #[.int .i64 a0_0, .int .i64 a0_1] 43)) (.cells #[.int .i64 a1_0, .int .i64 a1_1] 43)
  have e2 := blk_new ((w.alloc (.cells #[.int .i64 a0_0, .int .i64 a0_1] 43)).alloc (.cells #[.int .i64 a1_0, .int .i64 a1_1] 43)) (.cells #[.int .i64 0, .int .i64 0] 43)
  simp only [World.size_alloc] at e1 e2
  have HB0 := Aside0.mk (blk_below (blk_alloc (blk_alloc (blk_alloc e0 _) _) _) hb)
  have HB1 := Aside0.mk (blk_below (blk_alloc (blk_alloc e1 _) _) hb)
  have HB2 := Aside0.mk (blk_below (blk_alloc e2 _) hb)
  have HW := Aside0.mk (below_then (below_alloc (below_alloc (below_alloc (below_alloc (Below.refl _ _) _) _) _) _) (by simp <;> omega) hb : Below w.heap.size w w1)
  clear hb e0 e1 e2 V0
  have c0 : w1.cell? ⟨w.heap.size, 0, none⟩ = some (.int .i64 a0_0) := (blk_cell HB0.out 0).trans rfl
  have c1 : w1.cell? ⟨w.heap.size, 1, none⟩ = some (.int .i64 a0_1) := (blk_cell HB0.out 1).trans rfl
  have c2 : w1.cell? ⟨w.heap.size + 1, 0, none⟩ = some (.int .i64 a1_0) := (blk_cell HB1.out 0).trans rfl
  have c3 : w1.cell? ⟨w.heap.size + 1, 1, none⟩ = some (.int .i64 a1_1) := (blk_cell HB1.out 1).trans rfl
  go_wp2_with (fail)
  refine (cx_within.calls _ _ _ _ [⟨a0_0, a0_1⟩] false _ (C_lit_cx _ _ (by simp) ?_) (by simp) V1.out).mono ?_
  · intro j hj
    match j, hj with
    | 0, _ => simp [go_sem]
  rintro e w2 ⟨rfl, hb⟩
  clear c0 c1 c2 c3
  replace HB0 := Aside0.mk (blk_below (blk_alloc HB0.out _) hb)
  replace HB1 := Aside0.mk (blk_below (blk_alloc HB1.out _) hb)
  replace HB2 := Aside0.mk (blk_below (blk_alloc HB2.out _) hb)
  replace HW := Aside0.mk (below_step (below_alloc HW.out _) hb)
  clear hb V1
  have c0 : w2.cell? ⟨w.heap.size, 0, none⟩ = some (.int .i64 a0_0) := (blk_cell HB0.out 0).trans rfl
  have c1 : w2.cell? ⟨w.heap.size, 1, none⟩ = some (.int .i64 a0_1) := (blk_cell HB0.out 1).trans rfl
  have c2 : w2.cell? ⟨w.heap.size + 1, 0, none⟩ = some (.int .i64 a1_0) := (blk_cell HB1.out 0).trans rfl
  have c3 : w2.cell? ⟨w.heap.size + 1, 1, none⟩ = some (.int .i64 a1_1) := (blk_cell HB1.out 1).trans rfl
  go_wp2_with (fail)
  refine (cx_made.no 109 _ w2).mono ?_
  rintro e wz ⟨rfl, hb⟩
  have hg := grown_of_below hb none
  have B1 := blk_below HB2.out hb
  clear hb
  have HWz := Aside0.mk (HW.out.grown hg HW.out.size (by simp))
  have d0 : wz.cell? ⟨w.heap.size + 1 + 1, 0, none⟩ = some (.int .i64 0) := (blk_cell B1 0).trans rfl
  have d1 : wz.cell? ⟨w.heap.size + 1 + 1, 1, none⟩ = some (.int .i64 0) := (blk_cell B1 1).trans rfl
  have f0 := blk_frozen B1 0
  have f1 := blk_frozen B1 1
  clear hg B1 HB0 HB1 HB2 HW c0 c1 c2 c3
  go_wp2
  refine bodyPost_ret (v := .tuple #[.agg #[.int .i64 0, .int .i64 0], .int .i64 2]) (by simp [results, Try.results42, go_sem, d0, d1]) rfl ⟨rfl, ?_⟩
  refine below_set (below_set HWz.out ?_) ?_ <;> omega
theorem cx_Times.calls (a0_0 : Int) (a0_1 : Int) (a1_0 : Int) (a1_1 : Int) (r1 : Int) (r2 : Int) (r3 : Int) (w : World) (h : cx_Times.f a0_0 a0_1 a1_0 a1_1 = some (r1, r2, r3)) :
    Calls Try.prog 42 #[.agg #[.int .i64 a0_0, .int .i64 a0_1], .agg #[.int .i64 a1_0, .int .i64 a1_1]] w fun e w' => e = .returned (.tuple #[.agg #[.int .i64 r1, .int .i64 r2], .int .i64 r3]) ∧ Below w.heap.size w w' := by
  unfold cx_Times.f cx_Times.is at h
  cases h1 : within 2147483648 [⟨a0_0, a0_1⟩] with
  | true =>
    cases h2 : within 1073741824 [⟨a1_0, a1_1⟩] with
    | true =>
      simp [h1, h2] at h
      obtain ⟨rfl, rfl, rfl⟩ := h
      exact cx_Times.tt a0_0 a0_1 a1_0 a1_1 w h1 h2
    | false =>
      cases h3 : within 1073741824 [⟨a0_0, a0_1⟩] with
      | true =>
        cases h4 : within 2147483648 [⟨a1_0, a1_1⟩] with
        | true =>
          simp [h1, h2, h3, h4] at h
          obtain ⟨rfl, rfl, rfl⟩ := h
          exact cx_Times.tftt a0_0 a0_1 a1_0 a1_1 w h1 h2 h3 h4
        | false =>
          simp [h1, h2, h3, h4] at h
          obtain ⟨rfl, rfl, rfl⟩ := h
          exact cx_Times.tftf a0_0 a0_1 a1_0 a1_1 w h1 h2 h3 h4
      | false =>
        simp [h1, h2, h3] at h
        obtain ⟨rfl, rfl, rfl⟩ := h
        exact cx_Times.tff a0_0 a0_1 a1_0 a1_1 w h1 h2 h3
  | false =>
    cases h3 : within 1073741824 [⟨a0_0, a0_1⟩] with
    | true =>
      cases h4 : within 2147483648 [⟨a1_0, a1_1⟩] with
      | true =>
        simp [h1, h3, h4] at h
        obtain ⟨rfl, rfl, rfl⟩ := h
        exact cx_Times.ftt a0_0 a0_1 a1_0 a1_1 w h1 h3 h4
      | false =>
        simp [h1, h3, h4] at h
        obtain ⟨rfl, rfl, rfl⟩ := h
        exact cx_Times.ftf a0_0 a0_1 a1_0 a1_1 w h1 h3 h4
    | false =>
      simp [h1, h3] at h
      obtain ⟨rfl, rfl, rfl⟩ := h
      exact cx_Times.ff a0_0 a0_1 a1_0 a1_1 w h1 h3

end Go.Proofs.Ytmglkelmdcpinaa.G
/- The contract of the function cx_Shift (number 138 of the translation): what its call computes, as a plain Lean function; memory that was there stays as it was. Conditions: none beyond the theorem's own. Written by a program (gprint.py). -/
namespace Go.Proofs.Ytmglkelmdcpinaa.G
open Go.RowKit Go.Proofs.YtmglkelmdcpinaaW.PrintWords Go.Proofs.YtmglkelmdcpinaaW.PrintLast Go.Proofs.YtmglkelmdcpinaaW.PrintMore
attribute [local go_sem] max2_int min2_int max_two min_two max_three min_three max_four min_four   -- for this text's walks alone
set_option linter.unusedVariables false
set_option linter.unusedSimpArgs false

/-! ### cx_Shift: function 138 -/
def cx_Shift.f (a0_0 : Int) (a0_1 : Int) (a1 : Int) (a2 : Int) : Option (Int × Int × Int) := (round_Shift.f a0_0 a1 a2).bind fun bt103 => (if bt103.2 = 0 then ((round_Shift.f a0_1 a1 a2).bind fun bt105 => (some (bt103.1, bt105.1, 0))) else (some (0, 0, bt103.2)))
set_option maxHeartbeats 8000000 in
set_option maxRecDepth 100000 in
theorem cx_Shift.calls (a0_0 : Int) (a0_1 : Int) (a1 : Int) (a2 : Int) (r1 : Int) (r2 : Int) (r3 : Int) (w : World) (h : cx_Shift.f a0_0 a0_1 a1 a2 = some (r1, r2, r3)) :
    Calls Try.prog 138 #[.agg #[.int .i64 a0_0, .int .i64 a0_1], .int .i64 a1, .int .i64 a2] w fun e w' => e = .returned (.tuple #[.agg #[.int .i64 r1, .int .i64 r2], .int .i64 r3]) ∧ Below w.heap.size w w' := by
  have hu43 := Try.underlying43
  have HB := Aside0.mk (Below.refl w.heap.size w)
  have H : ((round_Shift.f a0_0 a1 a2).bind fun bt103 => (if bt103.2 = 0 then ((round_Shift.f a0_1 a1 a2).bind fun bt105 => (some (bt103.1, bt105.1, 0))) else (some (0, 0, bt103.2)))) = some (r1, r2, r3) := h
  clear h
  replace H := Option.bind_eq_some_iff.mp H
  obtain ⟨⟨t103, t104⟩, A40, H⟩ := H
  replace H : (if t104 = 0 then ((round_Shift.f a0_1 a1 a2).bind fun bt105 => (some (t103, bt105.1, 0))) else (some (0, 0, t104))) = some (r1, r2, r3) := H
  have A4 := Aside0.mk A40
  clear A40
  by_cases c5 : t104 = 0
  · rw [if_pos c5] at H
    have c5b0 : (t104 == 0) = true := beq_iff_eq.mpr c5
    have c5b1 : (t104 != 0) = false := bne_eq_false_iff_eq.mpr c5
    clear c5
    replace H := Option.bind_eq_some_iff.mp H
    obtain ⟨⟨t105, t106⟩, A60, H⟩ := H
    replace H : (some (t103, t105, 0)) = some (r1, r2, r3) := H
    have A6 := Aside0.mk A60
    clear A60
    simp only [Option.some.injEq, Prod.mk.injEq] at H
    obtain ⟨rfl, rfl, rfl⟩ := H
    go_enter Try.func138, Try.ntmps138
    go_wp2_with (first | ((with_reducible refine gate_dst (N := 3) rfl ?_); refine box_event ?hg (N := 3) ?hd (cs := #[.int .i64 a0_0, .int .i64 a0_1]) (t := 43) ?hr ?_; (case hd => rfl); (case hg => rfl); (case hr => first | (go_simp; done) | (go_simp; rfl)); intro gb101 hg w7 hbox hb; have n0_ := Aside0.mk (below_step (by repeat (first | (with_reducible first | exact HB.out | apply below_alloc | apply pw_below_drewN | apply below_drew1) | exact HB.out)) hb); have n1_ := Aside0.mk (hbox); have n2_ := Aside0.mk ((by rw [hg]; exact (below_size (by repeat (first | (with_reducible first | exact HB.out | apply below_alloc | apply pw_below_drewN | apply below_drew1) | exact HB.out))) : w.heap.size ≤ gb101)); have n3_ := Aside0.mk ((by rw [hg]; exact (below_size (by repeat (first | (with_reducible first | exact HB.out | apply below_alloc | apply pw_below_drewN | apply below_drew1) | exact HB.out))) : w.heap.size ≤ gb101)); clear HB; have HB := n0_; have BK101 := n1_; have GW101 := n2_; have GE101 := n3_; clear n0_ n1_ n2_ n3_; clear hb hbox hg) | ((with_reducible refine gate_dst (N := 6) rfl ?_); refine box_event ?hg (N := 6) ?hd (cs := #[.int .i64 0, .int .i64 0]) (t := 43) ?hr ?_; (case hd => rfl); (case hg => rfl); (case hr => first | (go_simp; done) | (go_simp; rfl)); intro gb102 hg w8 hbox hb; have n0_ := Aside0.mk (blk_below (g := gb101) (o := .cells #[.int .i64 a0_0, .int .i64 a0_1] 43 (0, 0)) (by (with_reducible repeat (first | refine blk_drewN ?_ _ | refine blk_drew ?_ | refine blk_alloc ?_ _)); exact BK101.out) hb); have n1_ := Aside0.mk (below_step (by repeat (first | (with_reducible first | exact HB.out | apply below_alloc | apply pw_below_drewN | apply below_drew1 | refine below_set ?_ GE101.out) | exact HB.out)) hb); have n2_ := Aside0.mk (hbox); have n3_ := Aside0.mk ((by rw [hg]; exact (below_size (by repeat (first | (with_reducible first | exact HB.out | apply below_alloc | apply pw_below_drewN | apply below_drew1 | refine below_set ?_ GE101.out) | exact HB.out))) : w.heap.size ≤ gb102)); have n4_ := Aside0.mk ((by rw [hg]; exact (below_size (by repeat (first | (with_reducible first | exact HB.out | apply below_alloc | apply pw_below_drewN | apply below_drew1 | refine below_set ?_ GE101.out) | exact HB.out))) : w.heap.size ≤ gb102)); have n5_ := Aside0.mk ((by rw [hg]; exact Nat.ne_of_lt (blk_lt (g := gb101) (o := .cells #[.int .i64 a0_0, .int .i64 a0_1] 43 (0, 0)) (by (with_reducible repeat (first | refine blk_drewN ?_ _ | refine blk_drew ?_ | refine blk_alloc ?_ _)); exact BK101.out)) : gb101 ≠ gb102)); have n6_ := Aside0.mk ((by rw [hg]; exact Nat.ne_of_gt (blk_lt (g := gb101) (o := .cells #[.int .i64 a0_0, .int .i64 a0_1] 43 (0, 0)) (by (with_reducible repeat (first | refine blk_drewN ?_ _ | refine blk_drew ?_ | refine blk_alloc ?_ _)); exact BK101.out)) : gb102 ≠ gb101)); clear BK101; clear HB; have BK101 := n0_; have HB := n1_; have BK102 := n2_; have GW102 := n3_; have GE102 := n4_; have NB101_102 := n5_; have NB102_101 := n6_; clear n0_ n1_ n2_ n3_ n4_ n5_ n6_; clear hb hbox hg; have hnb9 := NB101_102.out; have hnc9 := NB102_101.out; have hcz10_0 : w8.cell? ⟨gb101, 0, none⟩ = some (.int .i64 a0_0) := (blk_cell BK101.out 0).trans rfl; have hcz10_1 : w8.cell? ⟨gb101, 1, none⟩ = some (.int .i64 a0_1) := (blk_cell BK101.out 1).trans rfl; have hfz10_0 := blk_frozen BK101.out 0; have hfz10_1 := blk_frozen BK101.out 1) | ((with_reducible refine gate_callee (f := 72) rfl ?_); refine goesL_ (some 17) rfl rfl Try.func72 (by kernel_rfl) rfl #[.int .i64 a0_0, .int .i64 a1, .int .i64 a2] rfl (by (try simp only [List.map_toArray, List.map_cons, List.map_nil]); first | done | rfl | (simp only [List.length_drop, List.length_take]; rfl)) ?_; (with_reducible refine (round_Shift.calls a0_0 a1 a2 t103 t104 _ A4.out).mono ?_); rintro e w11 ⟨rfl, hb⟩; refine ⟨_, rfl, ?_⟩; have n0_ := Aside0.mk (blk_below (g := gb101) (o := .cells #[.int .i64 a0_0, .int .i64 a0_1] 43 (0, 0)) (by (with_reducible repeat (first | refine blk_drewN ?_ _ | refine blk_drew ?_ | refine blk_alloc ?_ _)); exact BK101.out) hb); have n1_ := Aside0.mk (blk_below (g := gb102) (o := .cells #[.int .i64 0, .int .i64 0] 43 (0, 0)) (by (with_reducible repeat (first | refine blk_drewN ?_ _ | refine blk_drew ?_ | refine blk_alloc ?_ _)); exact BK102.out) hb); have n2_ := Aside0.mk (below_step (by repeat (first | (with_reducible first | exact HB.out | apply below_alloc | apply pw_below_drewN | apply below_drew1 | refine below_set ?_ GE101.out | refine below_set ?_ GE102.out) | exact HB.out)) hb); clear BK101; clear BK102; clear HB; have BK101 := n0_; have BK102 := n1_; have HB := n2_; clear n0_ n1_ n2_; (try clear hb); (try clear hb2); (try clear hk); (try clear hi); have hcz12_0 : w11.cell? ⟨gb101, 0, none⟩ = some (.int .i64 a0_0) := (blk_cell BK101.out 0).trans rfl; have hcz12_1 : w11.cell? ⟨gb101, 1, none⟩ = some (.int .i64 a0_1) := (blk_cell BK101.out 1).trans rfl; have hfz12_0 := blk_frozen BK101.out 0; have hfz12_1 := blk_frozen BK101.out 1) | ((with_reducible refine gate_callee (f := 72) rfl ?_); refine goesL_ (some 29) rfl rfl Try.func72 (by kernel_rfl) rfl #[.int .i64 a0_1, .int .i64 a1, .int .i64 a2] rfl (by (try simp only [List.map_toArray, List.map_cons, List.map_nil]); first | done | rfl | (simp only [List.length_drop, List.length_take]; rfl)) ?_; (with_reducible refine (round_Shift.calls a0_1 a1 a2 t105 t106 _ A6.out).mono ?_); rintro e w13 ⟨rfl, hb⟩; refine ⟨_, rfl, ?_⟩; have n0_ := Aside0.mk (blk_below (g := gb101) (o := .cells #[.int .i64 a0_0, .int .i64 a0_1] 43 (0, 0)) (by (with_reducible repeat (first | refine blk_drewN ?_ _ | refine blk_drew ?_ | refine blk_alloc ?_ _)); exact BK101.out) hb); have n1_ := Aside0.mk (blk_below (g := gb102) (o := .cells #[.int .i64 0, .int .i64 0] 43 (0, 0)) (by (with_reducible repeat (first | refine blk_drewN ?_ _ | refine blk_drew ?_ | refine blk_alloc ?_ _)); exact BK102.out) hb); have n2_ := Aside0.mk (below_step (by repeat (first | (with_reducible first | exact HB.out | apply below_alloc | apply pw_below_drewN | apply below_drew1 | refine below_set ?_ GE101.out | refine below_set ?_ GE102.out) | exact HB.out)) hb); clear BK101; clear BK102; clear HB; have BK101 := n0_; have BK102 := n1_; have HB := n2_; clear n0_ n1_ n2_; (try clear hb); (try clear hb2); (try clear hk); (try clear hi); have hcz14_0 : w13.cell? ⟨gb102, 0, none⟩ = some (.int .i64 0) := (blk_cell BK102.out 0).trans rfl; have hcz14_1 : w13.cell? ⟨gb102, 1, none⟩ = some (.int .i64 0) := (blk_cell BK102.out 1).trans rfl; have hfz14_0 := blk_frozen BK102.out 0; have hfz14_1 := blk_frozen BK102.out 1))
    refine bodyPost_ret (results_ct rfl _ _ gb102 43 #[.int .i64 t103, .int .i64 t105] (0, 0) _ rfl (by (with_reducible repeat (first | refine blk_drewN ?_ _ | refine blk_drew ?_ | refine blk_alloc ?_ _)); refine blk_put (cs := #[.int .i64 t103, .int .i64 0]) ?_ 1 _ rfl; (with_reducible repeat (first | refine blk_drewN ?_ _ | refine blk_drew ?_ | refine blk_alloc ?_ _)); refine blk_put (cs := #[.int .i64 0, .int .i64 0]) ?_ 0 _ rfl; (with_reducible repeat (first | refine blk_drewN ?_ _ | refine blk_drew ?_ | refine blk_alloc ?_ _)); exact BK102.out) Try.underlying43 rfl (by kernel_rfl)) rfl ?_
    exact ⟨by first | rfl | (simp [errW_none, errW_some] <;> rfl) | (simp [*, errW_none, errW_some] <;> rfl), by repeat (first | (with_reducible first | exact HB.out | apply below_alloc | apply pw_below_drewN | apply below_drew1 | refine below_set ?_ GE101.out | refine below_set ?_ GE102.out) | exact HB.out)⟩
  · rw [if_neg c5] at H
    have c5b0 : (t104 == 0) = false := beq_eq_false_iff_ne.mpr c5
    have c5b1 : (t104 != 0) = true := bne_iff_ne.mpr c5
    simp only [Option.some.injEq, Prod.mk.injEq] at H
    obtain ⟨rfl, rfl, rfl⟩ := H
    go_enter Try.func138, Try.ntmps138
    go_wp2_with (first | ((with_reducible refine gate_dst (N := 3) rfl ?_); refine box_event ?hg (N := 3) ?hd (cs := #[.int .i64 a0_0, .int .i64 a0_1]) (t := 43) ?hr ?_; (case hd => rfl); (case hg => rfl); (case hr => first | (go_simp; done) | (go_simp; rfl)); intro gb101 hg w15 hbox hb; have n0_ := Aside0.mk (below_step (by repeat (first | (with_reducible first | exact HB.out | apply below_alloc | apply pw_below_drewN | apply below_drew1) | exact HB.out)) hb); have n1_ := Aside0.mk (hbox); have n2_ := Aside0.mk ((by rw [hg]; exact (below_size (by repeat (first | (with_reducible first | exact HB.out | apply below_alloc | apply pw_below_drewN | apply below_drew1) | exact HB.out))) : w.heap.size ≤ gb101)); have n3_ := Aside0.mk ((by rw [hg]; exact (below_size (by repeat (first | (with_reducible first | exact HB.out | apply below_alloc | apply pw_below_drewN | apply below_drew1) | exact HB.out))) : w.heap.size ≤ gb101)); clear HB; have HB := n0_; have BK101 := n1_; have GW101 := n2_; have GE101 := n3_; clear n0_ n1_ n2_ n3_; clear hb hbox hg) | ((with_reducible refine gate_dst (N := 6) rfl ?_); refine box_event ?hg (N := 6) ?hd (cs := #[.int .i64 0, .int .i64 0]) (t := 43) ?hr ?_; (case hd => rfl); (case hg => rfl); (case hr => first | (go_simp; done) | (go_simp; rfl)); intro gb102 hg w16 hbox hb; have n0_ := Aside0.mk (blk_below (g := gb101) (o := .cells #[.int .i64 a0_0, .int .i64 a0_1] 43 (0, 0)) (by (with_reducible repeat (first | refine blk_drewN ?_ _ | refine blk_drew ?_ | refine blk_alloc ?_ _)); exact BK101.out) hb); have n1_ := Aside0.mk (below_step (by repeat (first | (with_reducible first | exact HB.out | apply below_alloc | apply pw_below_drewN | apply below_drew1 | refine below_set ?_ GE101.out) | exact HB.out)) hb); have n2_ := Aside0.mk (hbox); have n3_ := Aside0.mk ((by rw [hg]; exact (below_size (by repeat (first | (with_reducible first | exact HB.out | apply below_alloc | apply pw_below_drewN | apply below_drew1 | refine below_set ?_ GE101.out) | exact HB.out))) : w.heap.size ≤ gb102)); have n4_ := Aside0.mk ((by rw [hg]; exact (below_size (by repeat (first | (with_reducible first | exact HB.out | apply below_alloc | apply pw_below_drewN | apply below_drew1 | refine below_set ?_ GE101.out) | exact HB.out))) : w.heap.size ≤ gb102)); have n5_ := Aside0.mk ((by rw [hg]; exact Nat.ne_of_lt (blk_lt (g := gb101) (o := .cells #[.int .i64 a0_0, .int .i64 a0_1] 43 (0, 0)) (by (with_reducible repeat (first | refine blk_drewN ?_ _ | refine blk_drew ?_ | refine blk_alloc ?_ _)); exact BK101.out)) : gb101 ≠ gb102)); have n6_ := Aside0.mk ((by rw [hg]; exact Nat.ne_of_gt (blk_lt (g := gb101) (o := .cells #[.int .i64 a0_0, .int .i64 a0_1] 43 (0, 0)) (by (with_reducible repeat (first | refine blk_drewN ?_ _ | refine blk_drew ?_ | refine blk_alloc ?_ _)); exact BK101.out)) : gb102 ≠ gb101)); clear BK101; clear HB; have BK101 := n0_; have HB := n1_; have BK102 := n2_; have GW102 := n3_; have GE102 := n4_; have NB101_102 := n5_; have NB102_101 := n6_; clear n0_ n1_ n2_ n3_ n4_ n5_ n6_; clear hb hbox hg; have hnb17 := NB101_102.out; have hnc17 := NB102_101.out; have hcz18_0 : w16.cell? ⟨gb101, 0, none⟩ = some (.int .i64 a0_0) := (blk_cell BK101.out 0).trans rfl; have hcz18_1 : w16.cell? ⟨gb101, 1, none⟩ = some (.int .i64 a0_1) := (blk_cell BK101.out 1).trans rfl; have hfz18_0 := blk_frozen BK101.out 0; have hfz18_1 := blk_frozen BK101.out 1) | ((with_reducible refine gate_callee (f := 72) rfl ?_); refine goesL_ (some 17) rfl rfl Try.func72 (by kernel_rfl) rfl #[.int .i64 a0_0, .int .i64 a1, .int .i64 a2] rfl (by (try simp only [List.map_toArray, List.map_cons, List.map_nil]); first | done | rfl | (simp only [List.length_drop, List.length_take]; rfl)) ?_; (with_reducible refine (round_Shift.calls a0_0 a1 a2 t103 t104 _ A4.out).mono ?_); rintro e w19 ⟨rfl, hb⟩; refine ⟨_, rfl, ?_⟩; have n0_ := Aside0.mk (blk_below (g := gb101) (o := .cells #[.int .i64 a0_0, .int .i64 a0_1] 43 (0, 0)) (by (with_reducible repeat (first | refine blk_drewN ?_ _ | refine blk_drew ?_ | refine blk_alloc ?_ _)); exact BK101.out) hb); have n1_ := Aside0.mk (blk_below (g := gb102) (o := .cells #[.int .i64 0, .int .i64 0] 43 (0, 0)) (by (with_reducible repeat (first | refine blk_drewN ?_ _ | refine blk_drew ?_ | refine blk_alloc ?_ _)); exact BK102.out) hb); have n2_ := Aside0.mk (below_step (by repeat (first | (with_reducible first | exact HB.out | apply below_alloc | apply pw_below_drewN | apply below_drew1 | refine below_set ?_ GE101.out | refine below_set ?_ GE102.out) | exact HB.out)) hb); clear BK101; clear BK102; clear HB; have BK101 := n0_; have BK102 := n1_; have HB := n2_; clear n0_ n1_ n2_; (try clear hb); (try clear hb2); (try clear hk); (try clear hi); have hcz20_0 : w19.cell? ⟨gb102, 0, none⟩ = some (.int .i64 0) := (blk_cell BK102.out 0).trans rfl; have hcz20_1 : w19.cell? ⟨gb102, 1, none⟩ = some (.int .i64 0) := (blk_cell BK102.out 1).trans rfl; have hfz20_0 := blk_frozen BK102.out 0; have hfz20_1 := blk_frozen BK102.out 1))
    refine bodyPost_ret (results_ct rfl _ _ gb102 43 #[.int .i64 0, .int .i64 0] (0, 0) _ rfl (by (with_reducible repeat (first | refine blk_drewN ?_ _ | refine blk_drew ?_ | refine blk_alloc ?_ _)); refine blk_put (cs := #[.int .i64 0, .int .i64 0]) ?_ 1 _ rfl; (with_reducible repeat (first | refine blk_drewN ?_ _ | refine blk_drew ?_ | refine blk_alloc ?_ _)); refine blk_put (cs := #[.int .i64 0, .int .i64 0]) ?_ 0 _ rfl; (with_reducible repeat (first | refine blk_drewN ?_ _ | refine blk_drew ?_ | refine blk_alloc ?_ _)); exact BK102.out) Try.underlying43 rfl (by kernel_rfl)) rfl ?_
    exact ⟨by first | rfl | (simp [errW_none, errW_some] <;> rfl) | (simp [*, errW_none, errW_some] <;> rfl), by repeat (first | (with_reducible first | exact HB.out | apply below_alloc | apply pw_below_drewN | apply below_drew1 | refine below_set ?_ GE101.out | refine below_set ?_ GE102.out) | exact HB.out)⟩

end Go.Proofs.Ytmglkelmdcpinaa.G
/- The contract of the function two_pair (number 83 of the translation): what its call computes, as a plain Lean function; memory that was there stays as it was. Conditions: none beyond the theorem's own. Written by a program (gprint.py). -/
namespace Go.Proofs.Ytmglkelmdcpinaa.G
open Go.RowKit Go.Proofs.YtmglkelmdcpinaaW.PrintWords Go.Proofs.YtmglkelmdcpinaaW.PrintLast Go.Proofs.YtmglkelmdcpinaaW.PrintMore
attribute [local go_sem] max2_int min2_int max_two min_two max_three min_three max_four min_four   -- for this text's walks alone
set_option linter.unusedVariables false
set_option linter.unusedSimpArgs false

/-! ### two_pair: function 83 -/
def two_pair.f (a0_0 a0_1 a1_0 a1_1 a2_0 a2_1 a3 a4 a5 : Int) : Option (Int × Int × Int × Int) := (cx_Times.f a1_0 a1_1 a2_0 a2_1).bind fun bt106 => (if 0 ≤ a3 then ((cx_Shift.f (wrap64 ((shl .i64 a0_0 a3) + bt106.1)) (wrap64 ((shl .i64 a0_1 a3) + bt106.2.1)) (wrap64 (a3 + a4)) a5).bind fun bt110 => ((cx_Shift.f (wrap64 ((shl .i64 a0_0 a3) - bt106.1)) (wrap64 ((shl .i64 a0_1 a3) - bt106.2.1)) (wrap64 (a3 + a4)) a5).bind fun bt114 => (some (bt110.1, bt110.2.1, bt114.1, bt114.2.1)))) else (none))
set_option maxHeartbeats 8000000 in
set_option maxRecDepth 100000 in
theorem two_pair.calls (a0_0 a0_1 a1_0 a1_1 a2_0 a2_1 a3 a4 a5 : Int) (r1 r2 r3 r4 : Int) (w : World) (h : two_pair.f a0_0 a0_1 a1_0 a1_1 a2_0 a2_1 a3 a4 a5 = some (r1, r2, r3, r4)) :
    Calls Try.prog 83 #[.agg #[.int .i64 a0_0, .int .i64 a0_1], .agg #[.int .i64 a1_0, .int .i64 a1_1], .agg #[.int .i64 a2_0, .int .i64 a2_1], .int .i64 a3, .int .i64 a4, .int .i64 a5] w fun e w' => e = .returned (.tuple #[.agg #[.int .i64 r1, .int .i64 r2], .agg #[.int .i64 r3, .int .i64 r4]]) ∧ Below w.heap.size w w' := by
  unfold two_pair.f at h
  obtain ⟨⟨t1, t2, t3⟩, h1, h⟩ := Option.bind_eq_some_iff.mp h
  by_cases hb : 0 ≤ a3
  case neg => rw [if_neg hb] at h; cases h
  rw [if_pos hb] at h
  obtain ⟨⟨u1, u2, u3⟩, h2, h⟩ := Option.bind_eq_some_iff.mp h
  obtain ⟨⟨d1, d2, d3⟩, h3, h⟩ := Option.bind_eq_some_iff.mp h
  dsimp only at h1 h2 h3 h
  simp only [Option.some.injEq, Prod.mk.injEq] at h
  obtain ⟨rfl, rfl, rfl, rfl⟩ := h
  obtain ⟨s1, e1⟩ : ∃ s1, shl .i64 a0_0 a3 = s1 := ⟨_, rfl⟩
  obtain ⟨s2, e2⟩ : ∃ s2, shl .i64 a0_1 a3 = s2 := ⟨_, rfl⟩
  rw [e1, e2] at h2 h3
  have E1 : IntKind.i64.wrap (a0_0 * 2 ^ min a3.toNat 64) = s1 := e1
  have E2 : IntKind.i64.wrap (a0_1 * 2 ^ min a3.toNat 64) = s2 := e2
  have E3 : IntKind.i64.wrap (a3 + a4) = wrap64 (a3 + a4) := i64_w _
  have E4 : IntKind.i64.wrap (s1 + t1) = wrap64 (s1 + t1) := i64_w _
  have E5 : IntKind.i64.wrap (s2 + t2) = wrap64 (s2 + t2) := i64_w _
  have E6 : IntKind.i64.wrap (s1 - t1) = wrap64 (s1 - t1) := i64_w _
  have E7 : IntKind.i64.wrap (s2 - t2) = wrap64 (s2 - t2) := i64_w _
  have H1 := Aside0.mk h1
  have H2 := Aside0.mk h2
  have H3 := Aside0.mk h3
  clear h1 h2 h3 e1 e2
  go_enter Try.func83, Try.ntmps83
  go_wp2_with (fail)
  obtain ⟨b0, b1, b2, b3, b4, hB, hz⟩ := boxes5 w (.cells #[.int .i64 a0_0, .int .i64 a0_1] 43) (.cells #[.int .i64 a1_0, .int .i64 a1_1] 43) (.cells #[.int .i64 a2_0, .int .i64 a2_1] 43) (.cells #[.int .i64 0, .int .i64 0] 43) (.cells #[.int .i64 0, .int .i64 0] 43)
  refine (cx_Times.calls _ _ _ _ t1 t2 t3 _ H1.out).mono ?_
  rintro e w1 ⟨rfl, hb1⟩
  have B0 := Aside0.mk (blk_below b0 hb1)
  have B3 := Aside0.mk (blk_below b3 hb1)
  have B4 := Aside0.mk (blk_below b4 hb1)
  have HB := Aside0.mk (below_then hB (by omega) hb1)
  have HZ : Aside0 (w.heap.size + 5 ≤ w1.heap.size) := ⟨Nat.le_trans hz hb1.size⟩
  clear b0 b1 b2 b3 b4 hB hz hb1 H1
  go_wp2_with (fail)
  have c0 := Aside0.mk (alloc_keeps B0.out (.cells #[.int .i64 t1, .int .i64 t2] 43))
  have c3 := Aside0.mk (alloc_keeps B3.out (.cells #[.int .i64 t1, .int .i64 t2] 43))
  have c4 := Aside0.mk (alloc_keeps B4.out (.cells #[.int .i64 t1, .int .i64 t2] 43))
  have ct := Aside0.mk (blk_new' w1 (.cells #[.int .i64 t1, .int .i64 t2] 43))
  have HV := Aside0.mk (below_alloc HB.out (.cells #[.int .i64 t1, .int .i64 t2] 43))
  have HY : Aside0 (w.heap.size + 6 ≤ (w1.alloc (.cells #[.int .i64 t1, .int .i64 t2] 43)).heap.size) := ⟨by have := HZ.out; simp; omega⟩
  clear B0 B3 B4 HB
  generalize w1.heap.size = T at ct ⊢
  generalize w1.alloc (.cells #[.int .i64 t1, .int .i64 t2] 43) = V at c0 c3 c4 ct HV HY ⊢
  have x0 : V.cell? ⟨w.heap.size, 0, none⟩ = some (.int .i64 a0_0) := (blk_cell c0.out 0).trans rfl
  have x1 : V.cell? ⟨w.heap.size, 1, none⟩ = some (.int .i64 a0_1) := (blk_cell c0.out 1).trans rfl
  have y0 : V.cell? ⟨T, 0, none⟩ = some (.int .i64 t1) := (blk_cell ct.out 0).trans rfl
  have y1 : V.cell? ⟨T, 1, none⟩ = some (.int .i64 t2) := (blk_cell ct.out 1).trans rfl
  refine region_cut (R := ?R2) (A := ?A2) (F := fun T X => X.heap[T]? = some (.cells #[.int .i64 u1, .int .i64 u2] 43 (0, 0)) ∧ Below V.heap.size V X ∧ V.heap.size ≤ T) (fun hcut => ?walk2) ?tail2
  case walk2 =>
    refine wp_region_held_drew (S := fun w' => Below V.heap.size V w') (by kernel_rfl) (below_drew1 (Below.refl _ _)) (fun hS => ?_)
    generalize V.drew = X at hS ⊢
    refine takeH (i := 0) (v := ?_) rfl rfl (by kernel_rfl) (by kernel_rfl) (by kernel_rfl) (fun _ _ _ h => h) hS (by rfl) ?_ ?_
    rotate_left
    · intro w' hSw
      go_simp
      try (with_reducible rfl)
    simp only [List.setIfInBounds_toArray, List.set_cons_zero, List.set_cons_succ]
    refine takeH (i := 1) (v := ?_) rfl rfl (by kernel_rfl) (by kernel_rfl) (by kernel_rfl) (fun _ _ _ h => h) hS (by rfl) ?_ ?_
    rotate_left
    · intro w' hSw
      have tx0 := (hSw.cell (World.block_lt_of_cell? _ _ x0)).trans x0
      go_simp
      try (with_reducible rfl)
    simp only [List.setIfInBounds_toArray, List.set_cons_zero, List.set_cons_succ]
    refine takeH (i := 2) (v := ?_) rfl rfl (by kernel_rfl) (by kernel_rfl) (by kernel_rfl) (fun _ _ _ h => h) hS (by rfl) ?_ ?_
    rotate_left
    · intro w' hSw
      go_simp
      try (with_reducible rfl)
    simp only [List.setIfInBounds_toArray, List.set_cons_zero, List.set_cons_succ]
    refine takeH (i := 3) (v := ?_) rfl rfl (by kernel_rfl) (by kernel_rfl) (by kernel_rfl) (fun _ _ _ h => h) hS (by rfl) ?_ ?_
    rotate_left
    · intro w' hSw
      go_simp
      try (with_reducible rfl)
    simp only [List.setIfInBounds_toArray, List.set_cons_zero, List.set_cons_succ]
    refine takeH (i := 4) (v := ?_) rfl rfl (by kernel_rfl) (by kernel_rfl) (by kernel_rfl) (fun _ _ _ h => h) hS (by rfl) ?_ ?_
    rotate_left
    · intro w' hSw
      go_simp
      try (with_reducible rfl)
    simp only [List.setIfInBounds_toArray, List.set_cons_zero, List.set_cons_succ]
    refine takeH (i := 5) (v := ?_) rfl rfl (by kernel_rfl) (by kernel_rfl) (by kernel_rfl) (fun _ _ _ h => h) hS (by rfl) ?_ ?_
    rotate_left
    · intro w' hSw
      have ty0 := (hSw.cell (World.block_lt_of_cell? _ _ y0)).trans y0
      go_simp
      try (with_reducible rfl)
    simp only [List.setIfInBounds_toArray, List.set_cons_zero, List.set_cons_succ]
    refine takeH (i := 6) (v := ?_) rfl rfl (by kernel_rfl) (by kernel_rfl) (by kernel_rfl) (fun _ _ _ h => h) hS (by rfl) ?_ ?_
    rotate_left
    · intro w' hSw
      go_simp
      try (with_reducible rfl)
    simp only [List.setIfInBounds_toArray, List.set_cons_zero, List.set_cons_succ]
    refine takeH (i := 7) (v := ?_) rfl rfl (by kernel_rfl) (by kernel_rfl) (by kernel_rfl) (fun _ _ _ h => h) hS (by rfl) ?_ ?_
    rotate_left
    · intro w' hSw
      go_simp
      try (with_reducible rfl)
    simp only [List.setIfInBounds_toArray, List.set_cons_zero, List.set_cons_succ]
    refine takeH (i := 8) (v := ?_) rfl rfl (by kernel_rfl) (by kernel_rfl) (by kernel_rfl) (fun _ _ _ h => h) hS (by rfl) ?_ ?_
    rotate_left
    · intro w' hSw
      have tx1 := (hSw.cell (World.block_lt_of_cell? _ _ x1)).trans x1
      go_simp
      try (with_reducible rfl)
    simp only [List.setIfInBounds_toArray, List.set_cons_zero, List.set_cons_succ]
    refine takeH (i := 9) (v := ?_) rfl rfl (by kernel_rfl) (by kernel_rfl) (by kernel_rfl) (fun _ _ _ h => h) hS (by rfl) ?_ ?_
    rotate_left
    · intro w' hSw
      go_simp
      try (with_reducible rfl)
    simp only [List.setIfInBounds_toArray, List.set_cons_zero, List.set_cons_succ]
    refine takeH (i := 10) (v := ?_) rfl rfl (by kernel_rfl) (by kernel_rfl) (by kernel_rfl) (fun _ _ _ h => h) hS (by rfl) ?_ ?_
    rotate_left
    · intro w' hSw
      go_simp
      try (with_reducible rfl)
    simp only [List.setIfInBounds_toArray, List.set_cons_zero, List.set_cons_succ]
    refine takeH (i := 11) (v := ?_) rfl rfl (by kernel_rfl) (by kernel_rfl) (by kernel_rfl) (fun _ _ _ h => h) hS (by rfl) ?_ ?_
    rotate_left
    · intro w' hSw
      go_simp
      try (with_reducible rfl)
    simp only [List.setIfInBounds_toArray, List.set_cons_zero, List.set_cons_succ]
    refine takeH (i := 12) (v := ?_) rfl rfl (by kernel_rfl) (by kernel_rfl) (by kernel_rfl) (fun _ _ _ h => h) hS (by rfl) ?_ ?_
    rotate_left
    · intro w' hSw
      have ty1 := (hSw.cell (World.block_lt_of_cell? _ _ y1)).trans y1
      go_simp
      try (with_reducible rfl)
    simp only [List.setIfInBounds_toArray, List.set_cons_zero, List.set_cons_succ]
    refine takeH (i := 13) (v := ?_) rfl rfl (by kernel_rfl) (by kernel_rfl) (by kernel_rfl) (fun _ _ _ h => h) hS (by rfl) ?_ ?_
    rotate_left
    · intro w' hSw
      go_simp
      try (with_reducible rfl)
    simp only [List.setIfInBounds_toArray, List.set_cons_zero, List.set_cons_succ]
    refine takeH (i := 14) (v := ?_) rfl rfl (by kernel_rfl) (by kernel_rfl) (by kernel_rfl) (fun _ _ _ h => h) hS (by rfl) ?_ ?_
    rotate_left
    · intro w' hSw
      go_simp
      try (with_reducible rfl)
    simp only [List.setIfInBounds_toArray, List.set_cons_zero, List.set_cons_succ]
    refine takeH (i := 15) (v := ?_) rfl rfl (by kernel_rfl) (by kernel_rfl) (by kernel_rfl) (fun _ _ _ h => h) hS (by rfl) ?_ ?_
    rotate_left
    · intro w' hSw
      go_simp
      try (with_reducible rfl)
    simp only [List.setIfInBounds_toArray, List.set_cons_zero, List.set_cons_succ]
    refine takeH (i := 16) (v := ?_) rfl rfl (by kernel_rfl) (by kernel_rfl) (by kernel_rfl) (fun _ _ _ h => h) hS (by rfl) ?_ ?_
    rotate_left
    · intro w' hSw
      go_simp
      try (with_reducible rfl)
    simp only [List.setIfInBounds_toArray, List.set_cons_zero, List.set_cons_succ]
    refine takeH (i := 17) (v := ?_) rfl rfl (by kernel_rfl) (by kernel_rfl) (by kernel_rfl) (fun _ _ _ h => h) hS (by rfl) ?_ ?_
    rotate_left
    · intro w' hSw
      go_simp
      try (with_reducible rfl)
    simp only [List.setIfInBounds_toArray, List.set_cons_zero, List.set_cons_succ]
    refine takeH (i := 18) (v := ?_) rfl rfl (by kernel_rfl) (by kernel_rfl) (by kernel_rfl) (fun _ _ _ h => h) hS (by rfl) ?_ ?_
    rotate_left
    · intro w' hSw
      go_simp
      try (with_reducible rfl)
    simp only [List.setIfInBounds_toArray, List.set_cons_zero, List.set_cons_succ]
    refine wpAnyH_ready (rs := [19, 23]) (by kernel_rfl) (by simp) ?_
    refine AllReadyH.cons rfl (fun K hK => ?_) ?_
    · go_simp
      with_reducible refine (cx_Shift.calls _ _ _ _ u1 u2 u3 _ H2.out).mono ?_
      rintro e w' ⟨rfl, hb⟩
      refine hK.out _ _ (below_then hS hS.size hb) (fun hHeld => ?_)
      clear hK K hS hb
      have hS := hHeld
      clear hHeld
      try simp only [Act.put, List.setIfInBounds_toArray, List.set_cons_zero, List.set_cons_succ]
      generalize w' = X at  hS ⊢
      refine takeH (i := 20) (v := ?_) rfl rfl (by kernel_rfl) (by kernel_rfl) (by kernel_rfl) (fun _ _ _ h => h) hS (by rfl) ?_ ?_
      rotate_left
      · intro w' hSw
        go_simp
        try (with_reducible rfl)
      simp only [List.setIfInBounds_toArray, List.set_cons_zero, List.set_cons_succ]
      refine takeH (i := 21) (v := ?_) rfl rfl (by kernel_rfl) (by kernel_rfl) (by kernel_rfl) (fun _ _ _ h => h) hS (by rfl) ?_ ?_
      rotate_left
      · intro w' hSw
        go_simp
        try (with_reducible rfl)
      simp only [List.setIfInBounds_toArray, List.set_cons_zero, List.set_cons_succ]
      refine takeH (i := 22) (v := ?_) rfl rfl (by kernel_rfl) (by kernel_rfl) (by kernel_rfl) (fun _ _ _ h => h) hS (by rfl) ?_ ?_
      rotate_left
      · intro w' hSw
        go_simp
        try (with_reducible rfl)
      simp only [List.setIfInBounds_toArray, List.set_cons_zero, List.set_cons_succ]
      refine wpAnyH_ready (rs := [23]) (by kernel_rfl) (by simp) ?_
      refine AllReadyH.cons rfl (fun K hK => ?_) ?_
      · go_simp
        have bU := blk_new' X (.cells #[.int .i64 0, .int .i64 0] 43)
        have lU : V.heap.size ≤ X.heap.size := hS.size
        refine hK.out _ _ (below_alloc hS _) (fun hHeld => ?_)
        clear hK K hS
        have hS := hHeld
        clear hHeld
        try simp only [Act.put, List.setIfInBounds_toArray, List.set_cons_zero, List.set_cons_succ]
        generalize X.heap.size = U at bU lU ⊢
        generalize X.alloc (.cells #[.int .i64 0, .int .i64 0] 43) = X at bU hS ⊢
        refine wpAnyH_ready (rs := [24]) (by kernel_rfl) (by simp) ?_
        refine AllReadyH.cons rfl (fun K hK => ?_) ?_
        · have c0 := (blk_cell bU 0).trans rfl
          have g0 := blk_frozen bU 0
          have c1 := (blk_cell bU 1).trans rfl
          have g1 := blk_frozen bU 1
          go_simp
          refine hK.out _ _ (below_set (below_set hS lU) lU) (fun hHeld => ?_)
          clear hK K hS c0 g0 c1 g1
          have hS := hHeld
          clear hHeld
          try simp only [Act.put]
          replace bU := (blk_put (blk_put bU 0 (.int .i64 u1) rfl) 1 (.int .i64 u2) rfl)
          generalize (X.setCell ⟨U, 0, none⟩ (.int .i64 u1)).setCell ⟨U, 1, none⟩ (.int .i64 u2) = X at bU hS ⊢
          refine takeH (i := 25) (v := ?_) rfl rfl (by kernel_rfl) (by kernel_rfl) (by kernel_rfl) (fun _ _ _ h => h) hS (by rfl) ?_ ?_
          rotate_left
          · intro w' hSw
            go_simp
            try (with_reducible rfl)
          simp only [List.setIfInBounds_toArray, List.set_cons_zero, List.set_cons_succ]
          refine wpAnyH_done (by kernel_rfl) ?_ _
          simp only [Exit.then]
          exact hcut U X ⟨bU, hS, lU⟩
        exact AllReadyH.nil
      exact AllReadyH.nil
    refine AllReadyH.cons rfl (fun K hK => ?_) ?_
    · go_simp
      have bU := blk_new' X (.cells #[.int .i64 0, .int .i64 0] 43)
      have lU : V.heap.size ≤ X.heap.size := hS.size
      refine hK.out _ _ (below_alloc hS _) (fun hHeld => ?_)
      clear hK K hS
      have hS := hHeld
      clear hHeld
      try simp only [Act.put, List.setIfInBounds_toArray, List.set_cons_zero, List.set_cons_succ]
      generalize X.heap.size = U at bU lU ⊢
      generalize X.alloc (.cells #[.int .i64 0, .int .i64 0] 43) = X at bU hS ⊢
      refine wpAnyH_ready (rs := [19]) (by kernel_rfl) (by simp) ?_
      refine AllReadyH.cons rfl (fun K hK => ?_) ?_
      · go_simp
        with_reducible refine (cx_Shift.calls _ _ _ _ u1 u2 u3 _ H2.out).mono ?_
        rintro e w' ⟨rfl, hb⟩
        replace bU := blk_below bU hb
        refine hK.out _ _ (below_then hS hS.size hb) (fun hHeld => ?_)
        clear hK K hS hb
        have hS := hHeld
        clear hHeld
        try simp only [Act.put, List.setIfInBounds_toArray, List.set_cons_zero, List.set_cons_succ]
        generalize w' = X at bU hS ⊢
        refine takeH (i := 20) (v := ?_) rfl rfl (by kernel_rfl) (by kernel_rfl) (by kernel_rfl) (fun _ _ _ h => h) hS (by rfl) ?_ ?_
        rotate_left
        · intro w' hSw
          go_simp
          try (with_reducible rfl)
        simp only [List.setIfInBounds_toArray, List.set_cons_zero, List.set_cons_succ]
        refine takeH (i := 21) (v := ?_) rfl rfl (by kernel_rfl) (by kernel_rfl) (by kernel_rfl) (fun _ _ _ h => h) hS (by rfl) ?_ ?_
        rotate_left
        · intro w' hSw
          go_simp
          try (with_reducible rfl)
        simp only [List.setIfInBounds_toArray, List.set_cons_zero, List.set_cons_succ]
        refine takeH (i := 22) (v := ?_) rfl rfl (by kernel_rfl) (by kernel_rfl) (by kernel_rfl) (fun _ _ _ h => h) hS (by rfl) ?_ ?_
        rotate_left
        · intro w' hSw
          go_simp
          try (with_reducible rfl)
        simp only [List.setIfInBounds_toArray, List.set_cons_zero, List.set_cons_succ]
        refine wpAnyH_ready (rs := [24]) (by kernel_rfl) (by simp) ?_
        refine AllReadyH.cons rfl (fun K hK => ?_) ?_
        · have c0 := (blk_cell bU 0).trans rfl
          have g0 := blk_frozen bU 0
          have c1 := (blk_cell bU 1).trans rfl
          have g1 := blk_frozen bU 1
          go_simp
          refine hK.out _ _ (below_set (below_set hS lU) lU) (fun hHeld => ?_)
          clear hK K hS c0 g0 c1 g1
          have hS := hHeld
          clear hHeld
          try simp only [Act.put]
          replace bU := (blk_put (blk_put bU 0 (.int .i64 u1) rfl) 1 (.int .i64 u2) rfl)
          generalize (X.setCell ⟨U, 0, none⟩ (.int .i64 u1)).setCell ⟨U, 1, none⟩ (.int .i64 u2) = X at bU hS ⊢
          refine takeH (i := 25) (v := ?_) rfl rfl (by kernel_rfl) (by kernel_rfl) (by kernel_rfl) (fun _ _ _ h => h) hS (by rfl) ?_ ?_
          rotate_left
          · intro w' hSw
            go_simp
            try (with_reducible rfl)
          simp only [List.setIfInBounds_toArray, List.set_cons_zero, List.set_cons_succ]
          refine wpAnyH_done (by kernel_rfl) ?_ _
          simp only [Exit.then]
          exact hcut U X ⟨bU, hS, lU⟩
        exact AllReadyH.nil
      exact AllReadyH.nil
    exact AllReadyH.nil
  case tail2 =>
    rintro U X ⟨bU, hS, lU⟩
    try dsimp only
    go_at_K
    have C0 := Aside0.mk (blk_below c0.out hS)
    have C3 := Aside0.mk (blk_below c3.out hS)
    have C4 := Aside0.mk (blk_below c4.out hS)
    have CT := Aside0.mk (blk_below ct.out hS)
    have cu := Aside0.mk bU
    have HW := Aside0.mk (below_then HV.out (by have := HY.out; omega) hS)
    have HN : Aside0 (w.heap.size + 6 ≤ U) := ⟨Nat.le_trans HY.out lU⟩
    have HY2 : Aside0 (w.heap.size + 6 ≤ X.heap.size) := ⟨Nat.le_trans HY.out hS.size⟩
    clear hS bU x0 x1 y0 y1 c0 c3 c4 ct HV HY
    go_wp2_with (fail)
    have c0 := C0
    have c3 := C3
    have c4 := C4
    have ct := CT
    have HV := HW
    have HY := HY2
    clear C0 C3 C4 CT HW HY2
    clear lU V
    generalize X = V at c0 c3 c4 ct HV HY cu ⊢
    have x0 : V.cell? ⟨w.heap.size, 0, none⟩ = some (.int .i64 a0_0) := (blk_cell c0.out 0).trans rfl
    have x1 : V.cell? ⟨w.heap.size, 1, none⟩ = some (.int .i64 a0_1) := (blk_cell c0.out 1).trans rfl
    have y0 : V.cell? ⟨T, 0, none⟩ = some (.int .i64 t1) := (blk_cell ct.out 0).trans rfl
    have y1 : V.cell? ⟨T, 1, none⟩ = some (.int .i64 t2) := (blk_cell ct.out 1).trans rfl
    refine region_cut (R := ?R3) (A := ?A3) (F := fun T X => X.heap[T]? = some (.cells #[.int .i64 d1, .int .i64 d2] 43 (0, 0)) ∧ Below V.heap.size V X ∧ V.heap.size ≤ T) (fun hcut => ?walk3) ?tail3
    case walk3 =>
      refine wp_region_held_drew (S := fun w' => Below V.heap.size V w') (by kernel_rfl) (below_drew1 (Below.refl _ _)) (fun hS => ?_)
      generalize V.drew = X at hS ⊢
      refine takeH (i := 0) (v := ?_) rfl rfl (by kernel_rfl) (by kernel_rfl) (by kernel_rfl) (fun _ _ _ h => h) hS (by rfl) ?_ ?_
      rotate_left
      · intro w' hSw
        go_simp
        try (with_reducible rfl)
      simp only [List.setIfInBounds_toArray, List.set_cons_zero, List.set_cons_succ]
      refine takeH (i := 1) (v := ?_) rfl rfl (by kernel_rfl) (by kernel_rfl) (by kernel_rfl) (fun _ _ _ h => h) hS (by rfl) ?_ ?_
      rotate_left
      · intro w' hSw
        have tx0 := (hSw.cell (World.block_lt_of_cell? _ _ x0)).trans x0
        go_simp
        try (with_reducible rfl)
      simp only [List.setIfInBounds_toArray, List.set_cons_zero, List.set_cons_succ]
      refine takeH (i := 2) (v := ?_) rfl rfl (by kernel_rfl) (by kernel_rfl) (by kernel_rfl) (fun _ _ _ h => h) hS (by rfl) ?_ ?_
      rotate_left
      · intro w' hSw
        go_simp
        try (with_reducible rfl)
      simp only [List.setIfInBounds_toArray, List.set_cons_zero, List.set_cons_succ]
      refine takeH (i := 3) (v := ?_) rfl rfl (by kernel_rfl) (by kernel_rfl) (by kernel_rfl) (fun _ _ _ h => h) hS (by rfl) ?_ ?_
      rotate_left
      · intro w' hSw
        go_simp
        try (with_reducible rfl)
      simp only [List.setIfInBounds_toArray, List.set_cons_zero, List.set_cons_succ]
      refine takeH (i := 4) (v := ?_) rfl rfl (by kernel_rfl) (by kernel_rfl) (by kernel_rfl) (fun _ _ _ h => h) hS (by rfl) ?_ ?_
      rotate_left
      · intro w' hSw
        go_simp
        try (with_reducible rfl)
      simp only [List.setIfInBounds_toArray, List.set_cons_zero, List.set_cons_succ]
      refine takeH (i := 5) (v := ?_) rfl rfl (by kernel_rfl) (by kernel_rfl) (by kernel_rfl) (fun _ _ _ h => h) hS (by rfl) ?_ ?_
      rotate_left
      · intro w' hSw
        have ty0 := (hSw.cell (World.block_lt_of_cell? _ _ y0)).trans y0
        go_simp
        try (with_reducible rfl)
      simp only [List.setIfInBounds_toArray, List.set_cons_zero, List.set_cons_succ]
      refine takeH (i := 6) (v := ?_) rfl rfl (by kernel_rfl) (by kernel_rfl) (by kernel_rfl) (fun _ _ _ h => h) hS (by rfl) ?_ ?_
      rotate_left
      · intro w' hSw
        go_simp
        try (with_reducible rfl)
      simp only [List.setIfInBounds_toArray, List.set_cons_zero, List.set_cons_succ]
      refine takeH (i := 7) (v := ?_) rfl rfl (by kernel_rfl) (by kernel_rfl) (by kernel_rfl) (fun _ _ _ h => h) hS (by rfl) ?_ ?_
      rotate_left
      · intro w' hSw
        go_simp
        try (with_reducible rfl)
      simp only [List.setIfInBounds_toArray, List.set_cons_zero, List.set_cons_succ]
      refine takeH (i := 8) (v := ?_) rfl rfl (by kernel_rfl) (by kernel_rfl) (by kernel_rfl) (fun _ _ _ h => h) hS (by rfl) ?_ ?_
      rotate_left
      · intro w' hSw
        have tx1 := (hSw.cell (World.block_lt_of_cell? _ _ x1)).trans x1
        go_simp
        try (with_reducible rfl)
      simp only [List.setIfInBounds_toArray, List.set_cons_zero, List.set_cons_succ]
      refine takeH (i := 9) (v := ?_) rfl rfl (by kernel_rfl) (by kernel_rfl) (by kernel_rfl) (fun _ _ _ h => h) hS (by rfl) ?_ ?_
      rotate_left
      · intro w' hSw
        go_simp
        try (with_reducible rfl)
      simp only [List.setIfInBounds_toArray, List.set_cons_zero, List.set_cons_succ]
      refine takeH (i := 10) (v := ?_) rfl rfl (by kernel_rfl) (by kernel_rfl) (by kernel_rfl) (fun _ _ _ h => h) hS (by rfl) ?_ ?_
      rotate_left
      · intro w' hSw
        go_simp
        try (with_reducible rfl)
      simp only [List.setIfInBounds_toArray, List.set_cons_zero, List.set_cons_succ]
      refine takeH (i := 11) (v := ?_) rfl rfl (by kernel_rfl) (by kernel_rfl) (by kernel_rfl) (fun _ _ _ h => h) hS (by rfl) ?_ ?_
      rotate_left
      · intro w' hSw
        go_simp
        try (with_reducible rfl)
      simp only [List.setIfInBounds_toArray, List.set_cons_zero, List.set_cons_succ]
      refine takeH (i := 12) (v := ?_) rfl rfl (by kernel_rfl) (by kernel_rfl) (by kernel_rfl) (fun _ _ _ h => h) hS (by rfl) ?_ ?_
      rotate_left
      · intro w' hSw
        have ty1 := (hSw.cell (World.block_lt_of_cell? _ _ y1)).trans y1
        go_simp
        try (with_reducible rfl)
      simp only [List.setIfInBounds_toArray, List.set_cons_zero, List.set_cons_succ]
      refine takeH (i := 13) (v := ?_) rfl rfl (by kernel_rfl) (by kernel_rfl) (by kernel_rfl) (fun _ _ _ h => h) hS (by rfl) ?_ ?_
      rotate_left
      · intro w' hSw
        go_simp
        try (with_reducible rfl)
      simp only [List.setIfInBounds_toArray, List.set_cons_zero, List.set_cons_succ]
      refine takeH (i := 14) (v := ?_) rfl rfl (by kernel_rfl) (by kernel_rfl) (by kernel_rfl) (fun _ _ _ h => h) hS (by rfl) ?_ ?_
      rotate_left
      · intro w' hSw
        go_simp
        try (with_reducible rfl)
      simp only [List.setIfInBounds_toArray, List.set_cons_zero, List.set_cons_succ]
      refine takeH (i := 15) (v := ?_) rfl rfl (by kernel_rfl) (by kernel_rfl) (by kernel_rfl) (fun _ _ _ h => h) hS (by rfl) ?_ ?_
      rotate_left
      · intro w' hSw
        go_simp
        try (with_reducible rfl)
      simp only [List.setIfInBounds_toArray, List.set_cons_zero, List.set_cons_succ]
      refine takeH (i := 16) (v := ?_) rfl rfl (by kernel_rfl) (by kernel_rfl) (by kernel_rfl) (fun _ _ _ h => h) hS (by rfl) ?_ ?_
      rotate_left
      · intro w' hSw
        go_simp
        try (with_reducible rfl)
      simp only [List.setIfInBounds_toArray, List.set_cons_zero, List.set_cons_succ]
      refine takeH (i := 17) (v := ?_) rfl rfl (by kernel_rfl) (by kernel_rfl) (by kernel_rfl) (fun _ _ _ h => h) hS (by rfl) ?_ ?_
      rotate_left
      · intro w' hSw
        go_simp
        try (with_reducible rfl)
      simp only [List.setIfInBounds_toArray, List.set_cons_zero, List.set_cons_succ]
      refine takeH (i := 18) (v := ?_) rfl rfl (by kernel_rfl) (by kernel_rfl) (by kernel_rfl) (fun _ _ _ h => h) hS (by rfl) ?_ ?_
      rotate_left
      · intro w' hSw
        go_simp
        try (with_reducible rfl)
      simp only [List.setIfInBounds_toArray, List.set_cons_zero, List.set_cons_succ]
      refine wpAnyH_ready (rs := [19, 23]) (by kernel_rfl) (by simp) ?_
      refine AllReadyH.cons rfl (fun K hK => ?_) ?_
      · go_simp
        with_reducible refine (cx_Shift.calls _ _ _ _ d1 d2 d3 _ H3.out).mono ?_
        rintro e w' ⟨rfl, hb⟩
        refine hK.out _ _ (below_then hS hS.size hb) (fun hHeld => ?_)
        clear hK K hS hb
        have hS := hHeld
        clear hHeld
        try simp only [Act.put, List.setIfInBounds_toArray, List.set_cons_zero, List.set_cons_succ]
        generalize w' = X at  hS ⊢
        refine takeH (i := 20) (v := ?_) rfl rfl (by kernel_rfl) (by kernel_rfl) (by kernel_rfl) (fun _ _ _ h => h) hS (by rfl) ?_ ?_
        rotate_left
        · intro w' hSw
          go_simp
          try (with_reducible rfl)
        simp only [List.setIfInBounds_toArray, List.set_cons_zero, List.set_cons_succ]
        refine takeH (i := 21) (v := ?_) rfl rfl (by kernel_rfl) (by kernel_rfl) (by kernel_rfl) (fun _ _ _ h => h) hS (by rfl) ?_ ?_
        rotate_left
        · intro w' hSw
          go_simp
          try (with_reducible rfl)
        simp only [List.setIfInBounds_toArray, List.set_cons_zero, List.set_cons_succ]
        refine takeH (i := 22) (v := ?_) rfl rfl (by kernel_rfl) (by kernel_rfl) (by kernel_rfl) (fun _ _ _ h => h) hS (by rfl) ?_ ?_
        rotate_left
        · intro w' hSw
          go_simp
          try (with_reducible rfl)
        simp only [List.setIfInBounds_toArray, List.set_cons_zero, List.set_cons_succ]
        refine wpAnyH_ready (rs := [23]) (by kernel_rfl) (by simp) ?_
        refine AllReadyH.cons rfl (fun K hK => ?_) ?_
        · go_simp
          have bD := blk_new' X (.cells #[.int .i64 0, .int .i64 0] 43)
          have lD : V.heap.size ≤ X.heap.size := hS.size
          refine hK.out _ _ (below_alloc hS _) (fun hHeld => ?_)
          clear hK K hS
          have hS := hHeld
          clear hHeld
          try simp only [Act.put, List.setIfInBounds_toArray, List.set_cons_zero, List.set_cons_succ]
          generalize X.heap.size = D at bD lD ⊢
          generalize X.alloc (.cells #[.int .i64 0, .int .i64 0] 43) = X at bD hS ⊢
          refine wpAnyH_ready (rs := [24]) (by kernel_rfl) (by simp) ?_
          refine AllReadyH.cons rfl (fun K hK => ?_) ?_
          · have c0 := (blk_cell bD 0).trans rfl
            have g0 := blk_frozen bD 0
            have c1 := (blk_cell bD 1).trans rfl
            have g1 := blk_frozen bD 1
            go_simp
            refine hK.out _ _ (below_set (below_set hS lD) lD) (fun hHeld => ?_)
            clear hK K hS c0 g0 c1 g1
            have hS := hHeld
            clear hHeld
            try simp only [Act.put]
            replace bD := (blk_put (blk_put bD 0 (.int .i64 d1) rfl) 1 (.int .i64 d2) rfl)
            generalize (X.setCell ⟨D, 0, none⟩ (.int .i64 d1)).setCell ⟨D, 1, none⟩ (.int .i64 d2) = X at bD hS ⊢
            refine takeH (i := 25) (v := ?_) rfl rfl (by kernel_rfl) (by kernel_rfl) (by kernel_rfl) (fun _ _ _ h => h) hS (by rfl) ?_ ?_
            rotate_left
            · intro w' hSw
              go_simp
              try (with_reducible rfl)
            simp only [List.setIfInBounds_toArray, List.set_cons_zero, List.set_cons_succ]
            refine wpAnyH_done (by kernel_rfl) ?_ _
            simp only [Exit.then]
            exact hcut D X ⟨bD, hS, lD⟩
          exact AllReadyH.nil
        exact AllReadyH.nil
      refine AllReadyH.cons rfl (fun K hK => ?_) ?_
      · go_simp
        have bD := blk_new' X (.cells #[.int .i64 0, .int .i64 0] 43)
        have lD : V.heap.size ≤ X.heap.size := hS.size
        refine hK.out _ _ (below_alloc hS _) (fun hHeld => ?_)
        clear hK K hS
        have hS := hHeld
        clear hHeld
        try simp only [Act.put, List.setIfInBounds_toArray, List.set_cons_zero, List.set_cons_succ]
        generalize X.heap.size = D at bD lD ⊢
        generalize X.alloc (.cells #[.int .i64 0, .int .i64 0] 43) = X at bD hS ⊢
        refine wpAnyH_ready (rs := [19]) (by kernel_rfl) (by simp) ?_
        refine AllReadyH.cons rfl (fun K hK => ?_) ?_
        · go_simp
          with_reducible refine (cx_Shift.calls _ _ _ _ d1 d2 d3 _ H3.out).mono ?_
          rintro e w' ⟨rfl, hb⟩
          replace bD := blk_below bD hb
          refine hK.out _ _ (below_then hS hS.size hb) (fun hHeld => ?_)
          clear hK K hS hb
          have hS := hHeld
          clear hHeld
          try simp only [Act.put, List.setIfInBounds_toArray, List.set_cons_zero, List.set_cons_succ]
          generalize w' = X at bD hS ⊢
          refine takeH (i := 20) (v := ?_) rfl rfl (by kernel_rfl) (by kernel_rfl) (by kernel_rfl) (fun _ _ _ h => h) hS (by rfl) ?_ ?_
          rotate_left
          · intro w' hSw
            go_simp
            try (with_reducible rfl)
          simp only [List.setIfInBounds_toArray, List.set_cons_zero, List.set_cons_succ]
          refine takeH (i := 21) (v := ?_) rfl rfl (by kernel_rfl) (by kernel_rfl) (by kernel_rfl) (fun _ _ _ h => h) hS (by rfl) ?_ ?_
          rotate_left
          · intro w' hSw
            go_simp
            try (with_reducible rfl)
          simp only [List.setIfInBounds_toArray, List.set_cons_zero, List.set_cons_succ]
          refine takeH (i := 22) (v := ?_) rfl rfl (by kernel_rfl) (by kernel_rfl) (by kernel_rfl) (fun _ _ _ h => h) hS (by rfl) ?_ ?_
          rotate_left
          · intro w' hSw
            go_simp
            try (with_reducible rfl)
          simp only [List.setIfInBounds_toArray, List.set_cons_zero, List.set_cons_succ]
          refine wpAnyH_ready (rs := [24]) (by kernel_rfl) (by simp) ?_
          refine AllReadyH.cons rfl (fun K hK => ?_) ?_
          · have c0 := (blk_cell bD 0).trans rfl
            have g0 := blk_frozen bD 0
            have c1 := (blk_cell bD 1).trans rfl
            have g1 := blk_frozen bD 1
            go_simp
            refine hK.out _ _ (below_set (below_set hS lD) lD) (fun hHeld => ?_)
            clear hK K hS c0 g0 c1 g1
            have hS := hHeld
            clear hHeld
            try simp only [Act.put]
            replace bD := (blk_put (blk_put bD 0 (.int .i64 d1) rfl) 1 (.int .i64 d2) rfl)
            generalize (X.setCell ⟨D, 0, none⟩ (.int .i64 d1)).setCell ⟨D, 1, none⟩ (.int .i64 d2) = X at bD hS ⊢
            refine takeH (i := 25) (v := ?_) rfl rfl (by kernel_rfl) (by kernel_rfl) (by kernel_rfl) (fun _ _ _ h => h) hS (by rfl) ?_ ?_
            rotate_left
            · intro w' hSw
              go_simp
              try (with_reducible rfl)
            simp only [List.setIfInBounds_toArray, List.set_cons_zero, List.set_cons_succ]
            refine wpAnyH_done (by kernel_rfl) ?_ _
            simp only [Exit.then]
            exact hcut D X ⟨bD, hS, lD⟩
          exact AllReadyH.nil
        exact AllReadyH.nil
      exact AllReadyH.nil
    case tail3 =>
      rintro D X ⟨bD, hS, lD⟩
      try dsimp only
      go_at_K
      have k0 : X.cell? ⟨U, 0, none⟩ = some (.int .i64 u1) := (blk_cell (blk_below cu.out hS) 0).trans rfl
      have k1 : X.cell? ⟨U, 1, none⟩ = some (.int .i64 u2) := (blk_cell (blk_below cu.out hS) 1).trans rfl
      have k2 : X.cell? ⟨D, 0, none⟩ = some (.int .i64 d1) := (blk_cell bD 0).trans rfl
      have k3 : X.cell? ⟨D, 1, none⟩ = some (.int .i64 d2) := (blk_cell bD 1).trans rfl
      have BU := Aside0.mk (blk_below cu.out hS)
      have BD := Aside0.mk bD
      have e3 := Aside0.mk (blk_below c3.out hS)
      have e4 := Aside0.mk (blk_below c4.out hS)
      have HX := Aside0.mk (below_then HV.out (by have := HY.out; omega) hS)
      have HY : Aside0 (w.heap.size + 6 ≤ D) := ⟨Nat.le_trans HY.out lD⟩
      clear hS x0 x1 y0 y1 bD
      go_wp2_with (fail)
      have lP : w.heap.size ≤ w.heap.size + 1 + 1 + 1 := by omega
      have lQ : w.heap.size ≤ w.heap.size + 1 + 1 + 1 + 1 := by omega
      have nPQ : w.heap.size + 1 + 1 + 1 ≠ w.heap.size + 1 + 1 + 1 + 1 := by omega
      have nUP : U ≠ w.heap.size + 1 + 1 + 1 := by have := HN.out; omega
      have nUQ : U ≠ w.heap.size + 1 + 1 + 1 + 1 := by have := HN.out; omega
      have nDP : D ≠ w.heap.size + 1 + 1 + 1 := by have := HY.out; omega
      have nDQ : D ≠ w.heap.size + 1 + 1 + 1 + 1 := by have := HY.out; omega
      have bP := e3.out
      have bQ := e4.out
      have bU := BU.out
      have bD := BD.out
      have HP := Aside0.mk lP
      have HQ := Aside0.mk lQ
      clear e3 e4 k0 k1 k2 k3 lP lQ
      generalize w.heap.size + 1 + 1 + 1 + 1 = Q at bQ nPQ nUQ nDQ HQ ⊢
      generalize w.heap.size + 1 + 1 + 1 = P at bP nPQ nUP nDP HP ⊢
      have nQP := nPQ.symm
      refine wp_region_held_drew (S := fun w' => w'.heap[U]? = some (.cells #[.int .i64 u1, .int .i64 u2] 43 (0, 0)) ∧ w'.heap[D]? = some (.cells #[.int .i64 d1, .int .i64 d2] 43 (0, 0)) ∧ Below w.heap.size w w') (by kernel_rfl) ⟨bU, bD, below_drew1 HX.out⟩ (fun hS => ?_)
      change X.drew.heap[P]? = _ at bP
      change X.drew.heap[Q]? = _ at bQ
      change X.drew.heap[U]? = _ at bU
      change X.drew.heap[D]? = _ at bD
      clear HX BU BD cu
      generalize X.drew = X at bP bQ bU bD hS ⊢
      refine takeH (i := 0) (v := ?_) rfl rfl (by kernel_rfl) (by kernel_rfl) (by kernel_rfl) (fun _ _ _ h => h) hS (by rfl) ?_ ?_
      rotate_left
      · intro w' hSw
        have tk0 := (blk_cell hSw.1 0).trans rfl
        have tk1 := (blk_cell hSw.1 1).trans rfl
        go_simp
        try (with_reducible rfl)
      simp only [List.setIfInBounds_toArray, List.set_cons_zero, List.set_cons_succ]
      refine takeH (i := 1) (v := ?_) rfl rfl (by kernel_rfl) (by kernel_rfl) (by kernel_rfl) (fun _ _ _ h => h) hS (by rfl) ?_ ?_
      rotate_left
      · intro w' hSw
        have tk2 := (blk_cell hSw.2.1 0).trans rfl
        have tk3 := (blk_cell hSw.2.1 1).trans rfl
        go_simp
        try (with_reducible rfl)
      simp only [List.setIfInBounds_toArray, List.set_cons_zero, List.set_cons_succ]
      refine wpAnyH_ready (rs := [2]) (by kernel_rfl) (by simp) ?_
      refine AllReadyH.cons rfl (fun K hK => ?_) ?_
      · have c0 := (blk_cell bP 0).trans rfl
        have g0 := blk_frozen bP 0
        have c1 := (blk_cell bP 1).trans rfl
        have g1 := blk_frozen bP 1
        go_simp
        refine hK.out _ _ ⟨blk_far (p := ⟨P, 1, none⟩) (blk_far (p := ⟨P, 0, none⟩) bU nUP (.int .i64 u1)) nUP (.int .i64 u2), blk_far (p := ⟨P, 1, none⟩) (blk_far (p := ⟨P, 0, none⟩) bD nDP (.int .i64 u1)) nDP (.int .i64 u2), below_set (below_set hS.2.2 HP.out) HP.out⟩ (fun hHeld => ?_)
        clear hK K hS c0 g0 c1 g1
        have hS := hHeld
        clear hHeld
        try simp only [Act.put]
        replace bD := (blk_far (p := ⟨P, 1, none⟩) (blk_far (p := ⟨P, 0, none⟩) bD (show D ≠ P by omega) (.int .i64 u1)) (show D ≠ P by omega) (.int .i64 u2))
        replace bQ := (blk_far (p := ⟨P, 1, none⟩) (blk_far (p := ⟨P, 0, none⟩) bQ (show Q ≠ P by omega) (.int .i64 u1)) (show Q ≠ P by omega) (.int .i64 u2))
        replace bU := (blk_far (p := ⟨P, 1, none⟩) (blk_far (p := ⟨P, 0, none⟩) bU (show U ≠ P by omega) (.int .i64 u1)) (show U ≠ P by omega) (.int .i64 u2))
        replace bP := (blk_put (blk_put bP 0 (.int .i64 u1) rfl) 1 (.int .i64 u2) rfl)
        generalize (X.setCell ⟨P, 0, none⟩ (.int .i64 u1)).setCell ⟨P, 1, none⟩ (.int .i64 u2) = X at bD bP bQ bU hS ⊢
        refine wpAnyH_ready (rs := [3]) (by kernel_rfl) (by simp) ?_
        refine AllReadyH.cons rfl (fun K hK => ?_) ?_
        · have c0 := (blk_cell bQ 0).trans rfl
          have g0 := blk_frozen bQ 0
          have c1 := (blk_cell bQ 1).trans rfl
          have g1 := blk_frozen bQ 1
          go_simp
          refine hK.out _ _ ⟨blk_far (p := ⟨Q, 1, none⟩) (blk_far (p := ⟨Q, 0, none⟩) bU nUQ (.int .i64 d1)) nUQ (.int .i64 d2), blk_far (p := ⟨Q, 1, none⟩) (blk_far (p := ⟨Q, 0, none⟩) bD nDQ (.int .i64 d1)) nDQ (.int .i64 d2), below_set (below_set hS.2.2 HQ.out) HQ.out⟩ (fun hHeld => ?_)
          clear hK K hS c0 g0 c1 g1
          have hS := hHeld
          clear hHeld
          try simp only [Act.put]
          replace bD := (blk_far (p := ⟨Q, 1, none⟩) (blk_far (p := ⟨Q, 0, none⟩) bD (show D ≠ Q by omega) (.int .i64 d1)) (show D ≠ Q by omega) (.int .i64 d2))
          replace bP := (blk_far (p := ⟨Q, 1, none⟩) (blk_far (p := ⟨Q, 0, none⟩) bP (show P ≠ Q by omega) (.int .i64 d1)) (show P ≠ Q by omega) (.int .i64 d2))
          replace bU := (blk_far (p := ⟨Q, 1, none⟩) (blk_far (p := ⟨Q, 0, none⟩) bU (show U ≠ Q by omega) (.int .i64 d1)) (show U ≠ Q by omega) (.int .i64 d2))
          replace bQ := (blk_put (blk_put bQ 0 (.int .i64 d1) rfl) 1 (.int .i64 d2) rfl)
          generalize (X.setCell ⟨Q, 0, none⟩ (.int .i64 d1)).setCell ⟨Q, 1, none⟩ (.int .i64 d2) = X at bD bP bQ bU hS ⊢
          refine wpAnyH_done (by kernel_rfl) ?_ _
          simp only [Exit.then]
          go_at_K
          have c0 := (blk_cell bP 0).trans rfl
          have c1 := (blk_cell bP 1).trans rfl
          have c2 := (blk_cell bQ 0).trans rfl
          have c3 := (blk_cell bQ 1).trans rfl
          go_wp2_with (fail)
          refine bodyPost_ret (v := .tuple #[.agg #[.int .i64 u1, .int .i64 u2], .agg #[.int .i64 d1, .int .i64 d2]]) (by simp [results, Try.results83, go_sem, c0, c1, c2, c3]) rfl ⟨rfl, hS.2.2⟩
        exact AllReadyH.nil
      exact AllReadyH.nil


end Go.Proofs.Ytmglkelmdcpinaa.G
