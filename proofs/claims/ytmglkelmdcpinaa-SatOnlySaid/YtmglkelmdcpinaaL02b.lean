/- SatOnly's call answers true, at format 1. Conditions: the format and the mode are what the law makes of its arguments. -/
import Derived.Test.YtmglkelmdcpinaaR02
import Derived.Test.YtmglkelmdcpinaaGf24
import Derived.Handy
namespace Go.Proofs.Ytmglkelmdcpinaa.G
open Go.RowKit Go.Proofs.YtmglkelmdcpinaaW.PrintWords Go.Proofs.YtmglkelmdcpinaaW.PrintLast Go.Proofs.YtmglkelmdcpinaaW.PrintMore Go.Proofs.Ytmglkelmdcpinaa.M
attribute [local go_sem] max2_int min2_int max_two min_two max_three min_three max_four min_four
set_option linter.unusedVariables false
set_option linter.unusedSimpArgs false
set_option maxRecDepth 100000 in
set_option maxHeartbeats 4000000 in
theorem satlaw_1_00 (a0 a1 a2 a3 a4 n x s : Int) (up : Bool) (w : World)
    (hb : sat_Bits.f ((wrap64 (a3.tmod 2 + 2)).tmod 2) = some (31, 0))
    (c1 : (bits BinOp.and IntKind.i64 (a2.tmod 2147483648) 1 == 1) = false) (c2 : (bits BinOp.and IntKind.i64 (a2.tmod 2147483648) 2 == 2) = false)
    (e1 : (a0.tmod 2147483648 == -2147483648) = false)
    (e2 : (a1.tmod 2147483648 == -2147483648) = false)
    (hn : sat_Neg.f (a0.tmod 2147483648) ((wrap64 (a3.tmod 2 + 2)).tmod 2) = some (n, false, 0))
    (hx : sat_Mul.f (a0.tmod 2147483648) (a1.tmod 2147483648) ((wrap64 (a3.tmod 2 + 2)).tmod 2) ((wrap64 (a4.tmod 3 + 3)).tmod 3) = some (x, false, 0))
    (hy : sat_Mul.f (a1.tmod 2147483648) (a0.tmod 2147483648) ((wrap64 (a3.tmod 2 + 2)).tmod 2) ((wrap64 (a4.tmod 3 + 3)).tmod 3) = some (x, false, 0))
    (hs : sat_Add.f (a0.tmod 2147483648) (a1.tmod 2147483648) ((wrap64 (a3.tmod 2 + 2)).tmod 2) = some (s, up, 0))
    (ht : sat_Add.f (a1.tmod 2147483648) (a0.tmod 2147483648) ((wrap64 (a3.tmod 2 + 2)).tmod 2) = some (s, up, 0))
    (hu : ∀ m : Int, (a0.tmod 2147483648) ≤ m → m < 2147483648 → ∃ u v, sat_Add.f m (a1.tmod 2147483648) ((wrap64 (a3.tmod 2 + 2)).tmod 2) = some (u, v, 0) ∧ s ≤ u)
    (q0 : (a0.tmod 2147483648) < 2147483648) (q2 : a2.tmod 2147483648 < 2147483648) (q3 : -2147483648 < a2.tmod 2147483648) (n1 : -2147483648 ≤ n) (n2 : n < 2147483648) (x1 : -2147483648 ≤ x) (x2 : x < 2147483648) (s1 : -2147483648 ≤ s) (s2 : s < 2147483648) (ha : headroomlaw02_alive.f = some true) :
    Calls Try.prog 3 #[.int .i64 a0, .int .i64 a1, .int .i64 a2, .int .i64 a3, .int .i64 a4] w fun e w' => e = .returned (.bool true) ∧ Below w.heap.size w w' := by
  have HB := Aside0.mk hb
  have HN := Aside0.mk hn
  have HX := Aside0.mk hx
  have HY := Aside0.mk hy
  have HS := Aside0.mk hs
  have HT := Aside0.mk ht
  have HU := Aside0.mk hu
  have HA := Aside0.mk ha
  clear hb hn hx hy hs ht hu ha
  go_enter Try.func3, Try.ntmps3
  go_wp2_with (fail)
  refine (sat_Bits.calls _ 31 0 _ HB.out).mono ?_
  rintro e w1 ⟨rfl, hd⟩
  have HW := Aside0.mk hd.below
  clear hd
  go_wp2_with (fail)
  go_quiet (fail)
  go_wp2_with (fail)
  refine (sat_Neg.calls _ _ n false 0 _ HN.out).mono ?_
  rintro e w2 ⟨rfl, hb2⟩
  have HW2 := Aside0.mk (below_then (pw_below_drewN HW.out _) (pw_below_drewN HW.out _).size hb2)
  clear hb2 HW
  go_wp2_with (fail)
  refine (sat_Mul.calls _ _ _ _ x false 0 _ HX.out).mono ?_
  rintro e w3 ⟨rfl, hb2⟩
  have HW3 := Aside0.mk (below_then HW2.out HW2.out.size hb2)
  clear hb2 HW2
  go_wp2_with (fail)
  refine (sat_Mul.calls _ _ _ _ x false 0 _ HY.out).mono ?_
  rintro e w4 ⟨rfl, hb2⟩
  have HW4 := Aside0.mk (below_then HW3.out HW3.out.size hb2)
  clear hb2 HW3
  go_wp2_with (fail)
  refine (sat_Add.calls _ _ _ s up 0 _ HS.out).mono ?_
  rintro e w5 ⟨rfl, hb2⟩
  have HW5 := Aside0.mk (below_then HW4.out HW4.out.size hb2)
  clear hb2 HW4
  go_wp2_with (fail)
  refine (sat_Add.calls _ _ _ s up 0 _ HT.out).mono ?_
  rintro e w6 ⟨rfl, hb2⟩
  have HW6 := Aside0.mk (below_then HW5.out HW5.out.size hb2)
  clear hb2 HW5
  go_wp2_with (fail)
  all_goals
    obtain ⟨u, v, hu, hle⟩ : ∃ u v, sat_Add.f (if (a0.tmod 2147483648) < a2.tmod 2147483648 then a2.tmod 2147483648 else (a0.tmod 2147483648)) (a1.tmod 2147483648) ((wrap64 (a3.tmod 2 + 2)).tmod 2) = some (u, v, 0) ∧ s ≤ u := HU.out _ (by split <;> omega) (by split <;> omega)
    first | rw [if_pos (by omega)] at hu | rw [if_neg (by omega)] at hu
    have HV := Aside0.mk hu
    clear hu
    refine (sat_Add.calls _ _ _ u v 0 _ HV.out).mono ?_
    rintro e w7 ⟨rfl, hb2⟩
    have HW7 := Aside0.mk (below_then HW6.out HW6.out.size hb2)
    clear hb2 HW6 HV HU
    go_wp2_with (fail)
    (refine wp_loop_rounds 7 ?_; repeat any_goals (rw [rounds_succ]; go_wp2_with (fail)))
    (refine wp_loop_rounds 4 ?_; repeat any_goals (rw [rounds_succ]; go_wp2_with (fail)))
    refine (headroomlaw02_alive.calls true _ HA.out).mono ?_
    rintro e w8 ⟨rfl, hb2⟩
    have HW8 := Aside0.mk (below_then (below_alloc (below_alloc HW7.out _) _) (below_alloc (below_alloc HW7.out _) _).size hb2)
    clear hb2 HW7
    go_wp2
    go_ret
    exact ⟨by simp, HW8.out⟩
set_option maxRecDepth 100000 in
set_option maxHeartbeats 4000000 in
theorem satlaw_1_01 (a0 a1 a2 a3 a4 n x s : Int) (up : Bool) (w : World)
    (hb : sat_Bits.f ((wrap64 (a3.tmod 2 + 2)).tmod 2) = some (31, 0))
    (c1 : (bits BinOp.and IntKind.i64 (a2.tmod 2147483648) 1 == 1) = false) (c2 : (bits BinOp.and IntKind.i64 (a2.tmod 2147483648) 2 == 2) = true)
    (e1 : (a0.tmod 2147483648 == -2147483648) = false)
    (hn : sat_Neg.f (a0.tmod 2147483648) ((wrap64 (a3.tmod 2 + 2)).tmod 2) = some (n, false, 0))
    (hx : sat_Mul.f (a0.tmod 2147483648) (-2147483648) ((wrap64 (a3.tmod 2 + 2)).tmod 2) ((wrap64 (a4.tmod 3 + 3)).tmod 3) = some (x, false, 0))
    (hy : sat_Mul.f (-2147483648) (a0.tmod 2147483648) ((wrap64 (a3.tmod 2 + 2)).tmod 2) ((wrap64 (a4.tmod 3 + 3)).tmod 3) = some (x, false, 0))
    (hs : sat_Add.f (a0.tmod 2147483648) (-2147483648) ((wrap64 (a3.tmod 2 + 2)).tmod 2) = some (s, up, 0))
    (ht : sat_Add.f (-2147483648) (a0.tmod 2147483648) ((wrap64 (a3.tmod 2 + 2)).tmod 2) = some (s, up, 0))
    (hu : ∀ m : Int, (a0.tmod 2147483648) ≤ m → m < 2147483648 → ∃ u v, sat_Add.f m (-2147483648) ((wrap64 (a3.tmod 2 + 2)).tmod 2) = some (u, v, 0) ∧ s ≤ u)
    (q0 : (a0.tmod 2147483648) < 2147483648) (q2 : a2.tmod 2147483648 < 2147483648) (q3 : -2147483648 < a2.tmod 2147483648) (n1 : -2147483648 ≤ n) (n2 : n < 2147483648) (x1 : -2147483648 ≤ x) (x2 : x < 2147483648) (s1 : -2147483648 ≤ s) (s2 : s < 2147483648) (ha : headroomlaw02_alive.f = some true) :
    Calls Try.prog 3 #[.int .i64 a0, .int .i64 a1, .int .i64 a2, .int .i64 a3, .int .i64 a4] w fun e w' => e = .returned (.bool true) ∧ Below w.heap.size w w' := by
  have HB := Aside0.mk hb
  have HN := Aside0.mk hn
  have HX := Aside0.mk hx
  have HY := Aside0.mk hy
  have HS := Aside0.mk hs
  have HT := Aside0.mk ht
  have HU := Aside0.mk hu
  have HA := Aside0.mk ha
  clear hb hn hx hy hs ht hu ha
  go_enter Try.func3, Try.ntmps3
  go_wp2_with (fail)
  refine (sat_Bits.calls _ 31 0 _ HB.out).mono ?_
  rintro e w1 ⟨rfl, hd⟩
  have HW := Aside0.mk hd.below
  clear hd
  go_wp2_with (fail)
  go_quiet (fail)
  go_wp2_with (fail)
  refine (sat_Neg.calls _ _ n false 0 _ HN.out).mono ?_
  rintro e w2 ⟨rfl, hb2⟩
  have HW2 := Aside0.mk (below_then (pw_below_drewN HW.out _) (pw_below_drewN HW.out _).size hb2)
  clear hb2 HW
  go_wp2_with (fail)
  refine (sat_Mul.calls _ _ _ _ x false 0 _ HX.out).mono ?_
  rintro e w3 ⟨rfl, hb2⟩
  have HW3 := Aside0.mk (below_then HW2.out HW2.out.size hb2)
  clear hb2 HW2
  go_wp2_with (fail)
  refine (sat_Mul.calls _ _ _ _ x false 0 _ HY.out).mono ?_
  rintro e w4 ⟨rfl, hb2⟩
  have HW4 := Aside0.mk (below_then HW3.out HW3.out.size hb2)
  clear hb2 HW3
  go_wp2_with (fail)
  refine (sat_Add.calls _ _ _ s up 0 _ HS.out).mono ?_
  rintro e w5 ⟨rfl, hb2⟩
  have HW5 := Aside0.mk (below_then HW4.out HW4.out.size hb2)
  clear hb2 HW4
  go_wp2_with (fail)
  refine (sat_Add.calls _ _ _ s up 0 _ HT.out).mono ?_
  rintro e w6 ⟨rfl, hb2⟩
  have HW6 := Aside0.mk (below_then HW5.out HW5.out.size hb2)
  clear hb2 HW5
  go_wp2_with (fail)
  all_goals
    obtain ⟨u, v, hu, hle⟩ : ∃ u v, sat_Add.f (if (a0.tmod 2147483648) < a2.tmod 2147483648 then a2.tmod 2147483648 else (a0.tmod 2147483648)) (-2147483648) ((wrap64 (a3.tmod 2 + 2)).tmod 2) = some (u, v, 0) ∧ s ≤ u := HU.out _ (by split <;> omega) (by split <;> omega)
    first | rw [if_pos (by omega)] at hu | rw [if_neg (by omega)] at hu
    have HV := Aside0.mk hu
    clear hu
    refine (sat_Add.calls _ _ _ u v 0 _ HV.out).mono ?_
    rintro e w7 ⟨rfl, hb2⟩
    have HW7 := Aside0.mk (below_then HW6.out HW6.out.size hb2)
    clear hb2 HW6 HV HU
    go_wp2_with (fail)
    (refine wp_loop_rounds 7 ?_; repeat any_goals (rw [rounds_succ]; go_wp2_with (fail)))
    (refine wp_loop_rounds 4 ?_; repeat any_goals (rw [rounds_succ]; go_wp2_with (fail)))
    refine (headroomlaw02_alive.calls true _ HA.out).mono ?_
    rintro e w8 ⟨rfl, hb2⟩
    have HW8 := Aside0.mk (below_then (below_alloc (below_alloc HW7.out _) _) (below_alloc (below_alloc HW7.out _) _).size hb2)
    clear hb2 HW7
    go_wp2
    go_ret
    exact ⟨by simp, HW8.out⟩
set_option maxRecDepth 100000 in
set_option maxHeartbeats 4000000 in
theorem satlaw_1_10 (a0 a1 a2 a3 a4 n x s : Int) (up : Bool) (w : World)
    (hb : sat_Bits.f ((wrap64 (a3.tmod 2 + 2)).tmod 2) = some (31, 0))
    (c1 : (bits BinOp.and IntKind.i64 (a2.tmod 2147483648) 1 == 1) = true) (c2 : (bits BinOp.and IntKind.i64 (a2.tmod 2147483648) 2 == 2) = false)
    (e2 : (a1.tmod 2147483648 == -2147483648) = false)
    (hn : sat_Neg.f (-2147483648) ((wrap64 (a3.tmod 2 + 2)).tmod 2) = some (n, true, 0))
    (hx : sat_Mul.f (-2147483648) (a1.tmod 2147483648) ((wrap64 (a3.tmod 2 + 2)).tmod 2) ((wrap64 (a4.tmod 3 + 3)).tmod 3) = some (x, false, 0))
    (hy : sat_Mul.f (a1.tmod 2147483648) (-2147483648) ((wrap64 (a3.tmod 2 + 2)).tmod 2) ((wrap64 (a4.tmod 3 + 3)).tmod 3) = some (x, false, 0))
    (hs : sat_Add.f (-2147483648) (a1.tmod 2147483648) ((wrap64 (a3.tmod 2 + 2)).tmod 2) = some (s, up, 0))
    (ht : sat_Add.f (a1.tmod 2147483648) (-2147483648) ((wrap64 (a3.tmod 2 + 2)).tmod 2) = some (s, up, 0))
    (hu : ∀ m : Int, (-2147483648) ≤ m → m < 2147483648 → ∃ u v, sat_Add.f m (a1.tmod 2147483648) ((wrap64 (a3.tmod 2 + 2)).tmod 2) = some (u, v, 0) ∧ s ≤ u)
    (q0 : (-2147483648) < 2147483648) (q2 : a2.tmod 2147483648 < 2147483648) (q3 : -2147483648 < a2.tmod 2147483648) (n1 : -2147483648 ≤ n) (n2 : n < 2147483648) (x1 : -2147483648 ≤ x) (x2 : x < 2147483648) (s1 : -2147483648 ≤ s) (s2 : s < 2147483648) (ha : headroomlaw02_alive.f = some true) :
    Calls Try.prog 3 #[.int .i64 a0, .int .i64 a1, .int .i64 a2, .int .i64 a3, .int .i64 a4] w fun e w' => e = .returned (.bool true) ∧ Below w.heap.size w w' := by
  have HB := Aside0.mk hb
  have HN := Aside0.mk hn
  have HX := Aside0.mk hx
  have HY := Aside0.mk hy
  have HS := Aside0.mk hs
  have HT := Aside0.mk ht
  have HU := Aside0.mk hu
  have HA := Aside0.mk ha
  clear hb hn hx hy hs ht hu ha
  go_enter Try.func3, Try.ntmps3
  go_wp2_with (fail)
  refine (sat_Bits.calls _ 31 0 _ HB.out).mono ?_
  rintro e w1 ⟨rfl, hd⟩
  have HW := Aside0.mk hd.below
  clear hd
  go_wp2_with (fail)
  go_quiet (fail)
  go_wp2_with (fail)
  refine (sat_Neg.calls _ _ n true 0 _ HN.out).mono ?_
  rintro e w2 ⟨rfl, hb2⟩
  have HW2 := Aside0.mk (below_then (pw_below_drewN HW.out _) (pw_below_drewN HW.out _).size hb2)
  clear hb2 HW
  go_wp2_with (fail)
  refine (sat_Mul.calls _ _ _ _ x false 0 _ HX.out).mono ?_
  rintro e w3 ⟨rfl, hb2⟩
  have HW3 := Aside0.mk (below_then HW2.out HW2.out.size hb2)
  clear hb2 HW2
  go_wp2_with (fail)
  refine (sat_Mul.calls _ _ _ _ x false 0 _ HY.out).mono ?_
  rintro e w4 ⟨rfl, hb2⟩
  have HW4 := Aside0.mk (below_then HW3.out HW3.out.size hb2)
  clear hb2 HW3
  go_wp2_with (fail)
  refine (sat_Add.calls _ _ _ s up 0 _ HS.out).mono ?_
  rintro e w5 ⟨rfl, hb2⟩
  have HW5 := Aside0.mk (below_then HW4.out HW4.out.size hb2)
  clear hb2 HW4
  go_wp2_with (fail)
  refine (sat_Add.calls _ _ _ s up 0 _ HT.out).mono ?_
  rintro e w6 ⟨rfl, hb2⟩
  have HW6 := Aside0.mk (below_then HW5.out HW5.out.size hb2)
  clear hb2 HW5
  go_wp2_with (fail)
  all_goals
    obtain ⟨u, v, hu, hle⟩ : ∃ u v, sat_Add.f (if (-2147483648) < a2.tmod 2147483648 then a2.tmod 2147483648 else (-2147483648)) (a1.tmod 2147483648) ((wrap64 (a3.tmod 2 + 2)).tmod 2) = some (u, v, 0) ∧ s ≤ u := HU.out _ (by split <;> omega) (by split <;> omega)
    first | rw [if_pos (by omega)] at hu | rw [if_neg (by omega)] at hu
    have HV := Aside0.mk hu
    clear hu
    refine (sat_Add.calls _ _ _ u v 0 _ HV.out).mono ?_
    rintro e w7 ⟨rfl, hb2⟩
    have HW7 := Aside0.mk (below_then HW6.out HW6.out.size hb2)
    clear hb2 HW6 HV HU
    go_wp2_with (fail)
    (refine wp_loop_rounds 7 ?_; repeat any_goals (rw [rounds_succ]; go_wp2_with (fail)))
    (refine wp_loop_rounds 4 ?_; repeat any_goals (rw [rounds_succ]; go_wp2_with (fail)))
    refine (headroomlaw02_alive.calls true _ HA.out).mono ?_
    rintro e w8 ⟨rfl, hb2⟩
    have HW8 := Aside0.mk (below_then (below_alloc (below_alloc HW7.out _) _) (below_alloc (below_alloc HW7.out _) _).size hb2)
    clear hb2 HW7
    go_wp2
    go_ret
    exact ⟨by simp, HW8.out⟩
set_option maxRecDepth 100000 in
set_option maxHeartbeats 4000000 in
theorem satlaw_1_11 (a0 a1 a2 a3 a4 n x s : Int) (up : Bool) (w : World)
    (hb : sat_Bits.f ((wrap64 (a3.tmod 2 + 2)).tmod 2) = some (31, 0))
    (c1 : (bits BinOp.and IntKind.i64 (a2.tmod 2147483648) 1 == 1) = true) (c2 : (bits BinOp.and IntKind.i64 (a2.tmod 2147483648) 2 == 2) = true)
    (hn : sat_Neg.f (-2147483648) ((wrap64 (a3.tmod 2 + 2)).tmod 2) = some (n, true, 0))
    (hx : sat_Mul.f (-2147483648) (-2147483648) ((wrap64 (a3.tmod 2 + 2)).tmod 2) ((wrap64 (a4.tmod 3 + 3)).tmod 3) = some (x, true, 0))
    (hy : sat_Mul.f (-2147483648) (-2147483648) ((wrap64 (a3.tmod 2 + 2)).tmod 2) ((wrap64 (a4.tmod 3 + 3)).tmod 3) = some (x, true, 0))
    (hs : sat_Add.f (-2147483648) (-2147483648) ((wrap64 (a3.tmod 2 + 2)).tmod 2) = some (s, up, 0))
    (ht : sat_Add.f (-2147483648) (-2147483648) ((wrap64 (a3.tmod 2 + 2)).tmod 2) = some (s, up, 0))
    (hu : ∀ m : Int, (-2147483648) ≤ m → m < 2147483648 → ∃ u v, sat_Add.f m (-2147483648) ((wrap64 (a3.tmod 2 + 2)).tmod 2) = some (u, v, 0) ∧ s ≤ u)
    (q0 : (-2147483648) < 2147483648) (q2 : a2.tmod 2147483648 < 2147483648) (q3 : -2147483648 < a2.tmod 2147483648) (n1 : -2147483648 ≤ n) (n2 : n < 2147483648) (x1 : -2147483648 ≤ x) (x2 : x < 2147483648) (s1 : -2147483648 ≤ s) (s2 : s < 2147483648) (ha : headroomlaw02_alive.f = some true) :
    Calls Try.prog 3 #[.int .i64 a0, .int .i64 a1, .int .i64 a2, .int .i64 a3, .int .i64 a4] w fun e w' => e = .returned (.bool true) ∧ Below w.heap.size w w' := by
  have HB := Aside0.mk hb
  have HN := Aside0.mk hn
  have HX := Aside0.mk hx
  have HY := Aside0.mk hy
  have HS := Aside0.mk hs
  have HT := Aside0.mk ht
  have HU := Aside0.mk hu
  have HA := Aside0.mk ha
  clear hb hn hx hy hs ht hu ha
  go_enter Try.func3, Try.ntmps3
  go_wp2_with (fail)
  refine (sat_Bits.calls _ 31 0 _ HB.out).mono ?_
  rintro e w1 ⟨rfl, hd⟩
  have HW := Aside0.mk hd.below
  clear hd
  go_wp2_with (fail)
  go_quiet (fail)
  go_wp2_with (fail)
  refine (sat_Neg.calls _ _ n true 0 _ HN.out).mono ?_
  rintro e w2 ⟨rfl, hb2⟩
  have HW2 := Aside0.mk (below_then (pw_below_drewN HW.out _) (pw_below_drewN HW.out _).size hb2)
  clear hb2 HW
  go_wp2_with (fail)
  refine (sat_Mul.calls _ _ _ _ x true 0 _ HX.out).mono ?_
  rintro e w3 ⟨rfl, hb2⟩
  have HW3 := Aside0.mk (below_then HW2.out HW2.out.size hb2)
  clear hb2 HW2
  go_wp2_with (fail)
  refine (sat_Mul.calls _ _ _ _ x true 0 _ HY.out).mono ?_
  rintro e w4 ⟨rfl, hb2⟩
  have HW4 := Aside0.mk (below_then HW3.out HW3.out.size hb2)
  clear hb2 HW3
  go_wp2_with (fail)
  refine (sat_Add.calls _ _ _ s up 0 _ HS.out).mono ?_
  rintro e w5 ⟨rfl, hb2⟩
  have HW5 := Aside0.mk (below_then HW4.out HW4.out.size hb2)
  clear hb2 HW4
  go_wp2_with (fail)
  refine (sat_Add.calls _ _ _ s up 0 _ HT.out).mono ?_
  rintro e w6 ⟨rfl, hb2⟩
  have HW6 := Aside0.mk (below_then HW5.out HW5.out.size hb2)
  clear hb2 HW5
  go_wp2_with (fail)
  all_goals
    obtain ⟨u, v, hu, hle⟩ : ∃ u v, sat_Add.f (if (-2147483648) < a2.tmod 2147483648 then a2.tmod 2147483648 else (-2147483648)) (-2147483648) ((wrap64 (a3.tmod 2 + 2)).tmod 2) = some (u, v, 0) ∧ s ≤ u := HU.out _ (by split <;> omega) (by split <;> omega)
    first | rw [if_pos (by omega)] at hu | rw [if_neg (by omega)] at hu
    have HV := Aside0.mk hu
    clear hu
    refine (sat_Add.calls _ _ _ u v 0 _ HV.out).mono ?_
    rintro e w7 ⟨rfl, hb2⟩
    have HW7 := Aside0.mk (below_then HW6.out HW6.out.size hb2)
    clear hb2 HW6 HV HU
    go_wp2_with (fail)
    (refine wp_loop_rounds 7 ?_; repeat any_goals (rw [rounds_succ]; go_wp2_with (fail)))
    (refine wp_loop_rounds 4 ?_; repeat any_goals (rw [rounds_succ]; go_wp2_with (fail)))
    refine (headroomlaw02_alive.calls true _ HA.out).mono ?_
    rintro e w8 ⟨rfl, hb2⟩
    have HW8 := Aside0.mk (below_then (below_alloc (below_alloc HW7.out _) _) (below_alloc (below_alloc HW7.out _) _).size hb2)
    clear hb2 HW7
    go_wp2
    go_ret
    exact ⟨by simp, HW8.out⟩
end Go.Proofs.Ytmglkelmdcpinaa.G
