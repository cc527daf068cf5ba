/- Contracts and plain laws on the way to RootsTables, part 3 of 3. Conditions: each theorem's own. Joined by a program (merge.py). -/
import Derived.Test.YtmglkelmdcpinaaG0
import Derived.Test.YtmglkelmdcpinaaM1
import Derived.Test.YtmglkelmdcpinaaJRootsTables1
import Derived.Test.YtmglkelmdcpinaaJRootsTables2
/- The contract of the function headroomref05_Inverse (number 155 of the translation): what its call computes, as a plain Lean function; memory that was there stays as it was. Conditions: none beyond the theorem's own. Written by a program (gprint.py). -/
namespace Go.Proofs.Ytmglkelmdcpinaa.G
open Go.RowKit Go.Proofs.YtmglkelmdcpinaaW.PrintWords Go.Proofs.YtmglkelmdcpinaaW.PrintLast Go.Proofs.YtmglkelmdcpinaaW.PrintMore
attribute [local go_sem] max2_int min2_int max_two min_two max_three min_three max_four min_four   -- for this text's walks alone
set_option linter.unusedVariables false
set_option linter.unusedSimpArgs false

/-! ### headroomref05_Inverse: function 155 -/
def headroomref05_Inverse.l0 : Nat → Int → Int → Int → Int → Option (Int)
  | 0, _, _, _, _ => none
  | k + 1, x1, x2, x3, x4 => if x4 < 56 then (if (wrap64 (2 * x2)) ≥ x1 then (headroomref05_Inverse.l0 k x1 (wrap64 ((wrap64 (2 * x2)) - x1)) (wrap64 ((wrap64 (2 * x3)) + 1)) (wrap64 (x4 + 1))) else (headroomref05_Inverse.l0 k x1 (wrap64 (2 * x2)) (wrap64 (2 * x3)) (wrap64 (x4 + 1)))) else (some x3)
def headroomref05_Inverse.f (k : Nat)  : Option (Int) := (headroomref05_Gain.f k).bind fun t101 => ((headroomref01_Pow.f k 56).bind fun t102 => (headroomref05_Inverse.l0 k t101 t102 0 0))
theorem headroomref05_Inverse.mono_l : ∀ k, (∀ y0 y1 y2 y3, LeO (headroomref05_Inverse.l0 k y0 y1 y2 y3) (headroomref05_Inverse.l0 (k + 1) y0 y1 y2 y3))
  | 0 => fun _ _ _ _ r h => by simp [headroomref05_Inverse.l0] at h
  | k + 1 => by
    have ih0 := headroomref05_Inverse.mono_l k
    · intro y0 y1 y2 y3
      unfold headroomref05_Inverse.l0
      repeat' first
      | (with_reducible exact ih0 _ _ _ _)
      | (with_reducible exact headroomref01_Pow.mono _ _)
      | (with_reducible exact headroomref05_Gain.mono _)
      | (with_reducible exact LeO.refl _)
      | (with_reducible exact LeO.none _)
      | (with_reducible refine LeO.ite ?_ ?_)
      | (with_reducible refine LeO.bind ?_ (fun _ => ?_))
      | exact ih0 _ _ _ _
      | exact headroomref01_Pow.mono _ _
      | exact headroomref05_Gain.mono _
      | exact LeO.none _
      | refine LeO.ite ?_ ?_
      | refine LeO.bind ?_ (fun _ => ?_)
theorem headroomref05_Inverse.mono : ∀ k, LeO (headroomref05_Inverse.f k ) (headroomref05_Inverse.f (k + 1) ) := by
  intro  k
  have ih0 := headroomref05_Inverse.mono_l k
  unfold headroomref05_Inverse.f
  repeat' first
      | (with_reducible exact ih0 _ _ _ _)
      | (with_reducible exact headroomref01_Pow.mono _ _)
      | (with_reducible exact headroomref05_Gain.mono _)
      | (with_reducible exact LeO.refl _)
      | (with_reducible exact LeO.none _)
      | (with_reducible refine LeO.ite ?_ ?_)
      | (with_reducible refine LeO.bind ?_ (fun _ => ?_))
      | exact ih0 _ _ _ _
      | exact headroomref01_Pow.mono _ _
      | exact headroomref05_Gain.mono _
      | exact LeO.none _
      | refine LeO.ite ?_ ?_
      | refine LeO.bind ?_ (fun _ => ?_)
set_option maxHeartbeats 8000000 in
set_option maxRecDepth 100000 in
theorem headroomref05_Inverse.calls (k : Nat)  (r : Int) (w : World) (h : headroomref05_Inverse.f k  = some r) :
    Calls Try.prog 155 #[] w fun e w' => e = .returned (.int .i64 r) ∧ Below w.heap.size w w' := by
  have HB := Aside0.mk (Below.refl w.heap.size w)
  have H : ((headroomref05_Gain.f k).bind fun t101 => ((headroomref01_Pow.f k 56).bind fun t102 => (headroomref05_Inverse.l0 k t101 t102 0 0))) = some r := h
  clear h
  replace H := Option.bind_eq_some_iff.mp H
  obtain ⟨t101, A10, H⟩ := H
  replace H : ((headroomref01_Pow.f k 56).bind fun t102 => (headroomref05_Inverse.l0 k t101 t102 0 0)) = some r := H
  have A1 := Aside0.mk A10
  clear A10
  replace H := Option.bind_eq_some_iff.mp H
  obtain ⟨t102, A20, H⟩ := H
  replace H : (headroomref05_Inverse.l0 k t101 t102 0 0) = some r := H
  have A2 := Aside0.mk A20
  clear A20
  have H' := Aside0.mk H
  clear H
  go_enter Try.func155, Try.ntmps155
  go_wp2_with (first | ((with_reducible refine gate_callee (f := 179) rfl ?_); refine goesL_ (some 5) rfl rfl Try.func179 (by kernel_rfl) rfl #[] rfl (by (try simp only [List.map_toArray, List.map_cons, List.map_nil]); first | done | rfl | (simp only [List.length_drop, List.length_take]; rfl)) ?_; (with_reducible refine (headroomref05_Gain.calls k  t101 _ A1.out).mono ?_); rintro e w3 ⟨rfl, hb⟩; refine ⟨_, rfl, ?_⟩; have n0_ := Aside0.mk (below_step (by repeat (first | (with_reducible first | exact HB.out | apply below_alloc | apply pw_below_drewN | apply below_drew1) | exact HB.out)) hb); clear HB; have HB := n0_; clear n0_; (try clear hb); (try clear hb2); (try clear hk); (try clear hi)) | ((with_reducible refine gate_callee (f := 112) rfl ?_); refine goesL_ (some 6) rfl rfl Try.func112 (by kernel_rfl) rfl #[.int .i64 56] rfl (by (try simp only [List.map_toArray, List.map_cons, List.map_nil]); first | done | rfl | (simp only [List.length_drop, List.length_take]; rfl)) ?_; (with_reducible refine (headroomref01_Pow.calls k 56 t102 _ A2.out).mono ?_); rintro e w' ⟨rfl, ⟨nd, rfl⟩⟩; refine ⟨_, rfl, ?_⟩))
  go_loopg [2, 3, 4] k (fun kq v2 v3 v4 w' => ∃ (x2_1 : Int) (x3_1 : Int) (x4_1 : Int), v2 = .int .i64 x2_1 ∧ v3 = .int .i64 x3_1 ∧ v4 = .int .i64 x4_1 ∧ Aside0 (headroomref05_Inverse.l0 kq t101 x2_1 x3_1 x4_1 = some r) ∧ Aside0 (kq ≤ k) ∧ Aside0 (Below w.heap.size w w'))
  case atStart => exact ⟨(t102), (0), (0), (by first | rfl | (simp; done) | (simp [*]; done)), (by first | rfl | (simp; done) | (simp [*]; done)), (by first | rfl | (simp; done) | (simp [*]; done)), H', ⟨Nat.le_refl _⟩, ⟨by repeat (first | (with_reducible first | exact HB.out | apply below_alloc | apply pw_below_drewN | apply below_drew1) | exact HB.out)⟩⟩
  case round =>
    clear H'
    try clear c1
    try clear p2
    obtain ⟨x2_1, x3_1, x4_1, rfl, rfl, rfl, HA, HK1, HB⟩ := hrel
    cases gk with
    | zero => exact absurd HA.out (by simp [headroomref05_Inverse.l0])
    | succ k1 =>
      have H := HA.out
      clear HA
      simp only [headroomref05_Inverse.l0] at H
      by_cases c4 : x4_1 < 56
      · rw [if_pos c4] at H
        have c4b0 : decide (x4_1 < 56) = true := decide_eq_true c4
        clear c4
        by_cases c5 : (wrap64 (2 * x2_1)) ≥ t101
        · rw [if_pos c5] at H
          have c5b0 : decide (t101 ≤ (wrap64 (2 * x2_1))) = true := decide_eq_true c5
          clear c5
          have H' := Aside0.mk H
          clear H
          go_wp2
          go_roundg k1
          case measure => have := HK1.out; omega
          case rel => exact ⟨(wrap64 ((wrap64 (2 * x2_1)) - t101)), (wrap64 ((wrap64 (2 * x3_1)) + 1)), (wrap64 (x4_1 + 1)), (by first | rfl | (simp; done) | (simp [*]; done)), (by first | rfl | (simp; done) | (simp [*]; done)), (by first | rfl | (simp; done) | (simp [*]; done)), H', ⟨by have := HK1.out; omega⟩, ⟨by repeat (first | (with_reducible first | exact HB.out | apply below_alloc | apply pw_below_drewN | apply below_drew1) | exact HB.out)⟩⟩
        · rw [if_neg c5] at H
          have c5b0 : decide (t101 ≤ (wrap64 (2 * x2_1))) = false := decide_eq_false c5
          clear c5
          have H' := Aside0.mk H
          clear H
          go_wp2
          go_roundg k1
          case measure => have := HK1.out; omega
          case rel => exact ⟨(wrap64 (2 * x2_1)), (wrap64 (2 * x3_1)), (wrap64 (x4_1 + 1)), (by first | rfl | (simp; done) | (simp [*]; done)), (by first | rfl | (simp; done) | (simp [*]; done)), (by first | rfl | (simp; done) | (simp [*]; done)), H', ⟨by have := HK1.out; omega⟩, ⟨by repeat (first | (with_reducible first | exact HB.out | apply below_alloc | apply pw_below_drewN | apply below_drew1) | exact HB.out)⟩⟩
      · rw [if_neg c4] at H
        have c4b0 : decide (x4_1 < 56) = false := decide_eq_false c4
        clear c4
        obtain rfl := Option.some.inj H
        go_wp2
        go_ret
        exact ⟨by first | rfl | (simp [errW_none, errW_some] <;> rfl) | (simp [*, errW_none, errW_some] <;> rfl), by repeat (first | (with_reducible first | exact HB.out | apply below_alloc | apply pw_below_drewN | apply below_drew1) | exact HB.out)⟩

end Go.Proofs.Ytmglkelmdcpinaa.G
/- The contract of the function headroomref05_All (number 104 of the translation): what its call computes, as a plain Lean function; memory that was there stays as it was. Conditions: none beyond the theorem's own. Written by a program (gprint.py). -/
namespace Go.Proofs.Ytmglkelmdcpinaa.G
open Go.RowKit Go.Proofs.YtmglkelmdcpinaaW.PrintWords Go.Proofs.YtmglkelmdcpinaaW.PrintLast Go.Proofs.YtmglkelmdcpinaaW.PrintMore
attribute [local go_sem] max2_int min2_int max_two min_two max_three min_three max_four min_four   -- for this text's walks alone
set_option linter.unusedVariables false
set_option linter.unusedSimpArgs false

/-! ### headroomref05_All: function 104 -/
def headroomref05_All.f (k : Nat)  : Option (List Int × Int) := (headroomref05_Angles.f k).bind fun t102 => ((headroomref05_Inverse.f k).bind fun t105 => (some (t102, t105)))
theorem headroomref05_All.mono : ∀ k, LeO (headroomref05_All.f k ) (headroomref05_All.f (k + 1) ) := by
  intro  k
  unfold headroomref05_All.f
  repeat' first
      | (with_reducible exact headroomref05_Angles.mono _)
      | (with_reducible exact headroomref05_Inverse.mono _)
      | (with_reducible exact LeO.refl _)
      | (with_reducible exact LeO.none _)
      | (with_reducible refine LeO.ite ?_ ?_)
      | (with_reducible refine LeO.bind ?_ (fun _ => ?_))
      | exact headroomref05_Angles.mono _
      | exact headroomref05_Inverse.mono _
      | exact LeO.none _
      | refine LeO.ite ?_ ?_
      | refine LeO.bind ?_ (fun _ => ?_)
set_option maxHeartbeats 8000000 in
set_option maxRecDepth 100000 in
theorem headroomref05_All.calls (k : Nat)  (r1 : List Int) (r2 : Int) (w : World) (h : headroomref05_All.f k  = some (r1, r2)) :
    Calls Try.prog 104 #[] w fun e w' => ∃ v0_ : Value, e = .returned (.agg #[v0_, .int .i64 r2]) ∧ Kd.R (Kd.int .i64) 3 w' w.heap.size (fun _ => True) v0_ r1 ∧ Below w.heap.size w w' := by
  have hu105 := Try.underlying105
  have HB := Aside0.mk (Below.refl w.heap.size w)
  have H : ((headroomref05_Angles.f k).bind fun t102 => ((headroomref05_Inverse.f k).bind fun t105 => (some (t102, t105)))) = some (r1, r2) := h
  clear h
  replace H := Option.bind_eq_some_iff.mp H
  obtain ⟨t102, A10, H⟩ := H
  replace H : ((headroomref05_Inverse.f k).bind fun t105 => (some (t102, t105))) = some (r1, r2) := H
  have A1 := Aside0.mk A10
  clear A10
  replace H := Option.bind_eq_some_iff.mp H
  obtain ⟨t105, A20, H⟩ := H
  replace H : (some (t102, t105)) = some (r1, r2) := H
  have A2 := Aside0.mk A20
  clear A20
  simp only [Option.some.injEq, Prod.mk.injEq] at H
  obtain ⟨rfl, rfl⟩ := H
  go_enter Try.func104, Try.ntmps104
  go_wp2_with (first | ((with_reducible refine gate_dst (N := 0) rfl ?_); refine box_event ?hg (N := 0) ?hd (cs := #[.slice none 0 0, .int .i64 0]) (t := 105) ?hr ?_; (case hd => rfl); (case hg => rfl); (case hr => first | (go_simp; done) | (go_simp; rfl)); intro gb101 hg w3 hbox hb; have n0_ := Aside0.mk (below_step (by repeat (first | (with_reducible first | exact HB.out | apply below_alloc | apply pw_below_drewN | apply below_drew1) | exact HB.out)) hb); have n1_ := Aside0.mk (hbox); have n2_ := Aside0.mk ((by rw [hg]; exact (below_size (by repeat (first | (with_reducible first | exact HB.out | apply below_alloc | apply pw_below_drewN | apply below_drew1) | exact HB.out))) : w.heap.size ≤ gb101)); have n3_ := Aside0.mk ((by rw [hg]; exact (below_size (by repeat (first | (with_reducible first | exact HB.out | apply below_alloc | apply pw_below_drewN | apply below_drew1) | exact HB.out))) : w.heap.size ≤ gb101)); clear HB; have HB := n0_; have BK101 := n1_; have GW101 := n2_; have GE101 := n3_; clear n0_ n1_ n2_ n3_; clear hb hbox hg) | ((with_reducible refine gate_callee (f := 154) rfl ?_); refine goesL_ (some 1) rfl rfl Try.func154 (by kernel_rfl) rfl #[] rfl (by (try simp only [List.map_toArray, List.map_cons, List.map_nil]); first | done | rfl | (simp only [List.length_drop, List.length_take]; rfl)) ?_; (with_reducible refine (headroomref05_Angles.calls k  t102 _ A1.out).mono ?_); rintro e w4 ⟨v103, rfl, ho0, hb⟩; refine ⟨_, rfl, ?_⟩; have n0_ := Aside0.mk (Kd.R_lower ho0 (below_size (by repeat (first | (with_reducible first | exact HB.out | apply below_alloc | apply pw_below_drewN | apply below_drew1 | refine below_set ?_ GE101.out) | exact HB.out)))); have n1_ := Aside0.mk (blk_below (g := gb101) (o := .cells #[.slice none 0 0, .int .i64 0] 105 (0, 0)) (by (with_reducible repeat (first | refine blk_drewN ?_ _ | refine blk_drew ?_ | refine blk_alloc ?_ _)); exact BK101.out) hb); have n2_ := Aside0.mk (below_step (by repeat (first | (with_reducible first | exact HB.out | apply below_alloc | apply pw_below_drewN | apply below_drew1 | refine below_set ?_ GE101.out) | exact HB.out)) hb); clear BK101; clear HB; have HO104 := n0_; have BK101 := n1_; have HB := n2_; clear n0_ n1_ n2_; (try clear hb); (try clear hb2); (try clear hk); (try clear hi); (try clear ho0)) | ((with_reducible refine gate_callee (f := 155) rfl ?_); refine goesL_ (some 2) rfl rfl Try.func155 (by kernel_rfl) rfl #[] rfl (by (try simp only [List.map_toArray, List.map_cons, List.map_nil]); first | done | rfl | (simp only [List.length_drop, List.length_take]; rfl)) ?_; (with_reducible refine (headroomref05_Inverse.calls k  t105 _ A2.out).mono ?_); rintro e w5 ⟨rfl, hb⟩; refine ⟨_, rfl, ?_⟩; have n0_ := Aside0.mk (Kd.R_below (by (with_reducible repeat (first | apply Kd.R_alloc | apply Kd.R_drewN | apply Kd.R_drew)); exact HO104.out) hb); have n1_ := Aside0.mk (blk_below (g := gb101) (o := .cells #[.slice none 0 0, .int .i64 0] 105 (0, 0)) (by (with_reducible repeat (first | refine blk_drewN ?_ _ | refine blk_drew ?_ | refine blk_alloc ?_ _)); exact BK101.out) hb); have n2_ := Aside0.mk (below_step (by repeat (first | (with_reducible first | exact HB.out | apply below_alloc | apply pw_below_drewN | apply below_drew1 | refine below_set ?_ GE101.out) | exact HB.out)) hb); clear HO104; clear BK101; clear HB; have HO104 := n0_; have BK101 := n1_; have HB := n2_; clear n0_ n1_ n2_; (try clear hb); (try clear hb2); (try clear hk); (try clear hi); obtain ⟨Ao6, co6, eo6⟩ := Kd.R_slice HO104.out; subst eo6; have hcz7_0 : w5.cell? ⟨gb101, 0, none⟩ = some (.slice none 0 0) := (blk_cell BK101.out 0).trans rfl; have hcz7_1 : w5.cell? ⟨gb101, 1, none⟩ = some (.int .i64 0) := (blk_cell BK101.out 1).trans rfl; have hfz7_0 := blk_frozen BK101.out 0; have hfz7_1 := blk_frozen BK101.out 1))
  refine bodyPost_ret (results_cell_row rfl _ _ gb101 105 #[.slice Ao6 t102.length co6, .int .i64 t105] (0, 0) _ rfl (by (with_reducible repeat (first | refine blk_drewN ?_ _ | refine blk_drew ?_ | refine blk_alloc ?_ _)); refine blk_put (cs := #[.slice Ao6 t102.length co6, .int .i64 0]) ?_ 1 _ rfl; (with_reducible repeat (first | refine blk_drewN ?_ _ | refine blk_drew ?_ | refine blk_alloc ?_ _)); refine blk_put (cs := #[.slice none 0 0, .int .i64 0]) ?_ 0 _ rfl; (with_reducible repeat (first | refine blk_drewN ?_ _ | refine blk_drew ?_ | refine blk_alloc ?_ _)); exact BK101.out) Try.underlying105 rfl (by kernel_rfl)) rfl ?_
  exact ⟨_, by first | rfl | (simp [errW_none, errW_some] <;> rfl) | (simp [*, errW_none, errW_some] <;> rfl), by (with_reducible repeat (first | apply Kd.R_alloc | apply Kd.R_drewN | apply Kd.R_drew)); exact Kd.R_mono (Kd.R_far (p := ⟨gb101, 1, none⟩) (Kd.R_far (p := ⟨gb101, 0, none⟩) (Kd.R_types HO104.out BK101.out (by decide)) (fun _ hk => hk.2) (.slice Ao6 t102.length co6)) (fun _ hk => hk.2) (.int .i64 t105)) (fun _ hk => trivial), by repeat (first | (with_reducible first | exact HB.out | apply below_alloc | apply pw_below_drewN | apply below_drew1 | refine below_set ?_ GE101.out) | exact HB.out)⟩

end Go.Proofs.Ytmglkelmdcpinaa.G
/- The contract of the function headroomref07_Table (number 45 of the translation): what its call computes, as a plain Lean function; memory that was there stays as it was. Conditions: none beyond the theorem's own. Written by a program (gprint.py). -/
namespace Go.Proofs.Ytmglkelmdcpinaa.G
open Go.RowKit Go.Proofs.YtmglkelmdcpinaaW.PrintWords Go.Proofs.YtmglkelmdcpinaaW.PrintLast Go.Proofs.YtmglkelmdcpinaaW.PrintMore
attribute [local go_sem] max2_int min2_int max_two min_two max_three min_three max_four min_four   -- for this text's walks alone
set_option linter.unusedVariables false
set_option linter.unusedSimpArgs false

/-! ### headroomref07_Table: function 45 -/
def headroomref07_Table.l0 : Nat → Int → Int → List (S43) → Int → List Int → Int → Option ((List (S43)))
  | 0, _, _, _, _, _, _ => none
  | k + 1, x0, x1, x5, x7, x109000, x109001 => (headroomref01_Pow.f k x0).bind fun t109 => (if x7 < t109 then ((headroomref07_RootOf.f k x109000 x109001 x0 x7 x1).bind fun bt110 => (if x5.length < 8796093022208 then (headroomref07_Table.l0 k x0 x1 (x5 ++ [(⟨bt110.1, bt110.2⟩ : S43)]) (wrap64 (x7 + 1)) x109000 x109001) else (none))) else (some x5))
def headroomref07_Table.f (k : Nat) (a0 : Int) (a1 : Int) : Option ((List (S43))) := (headroomref05_All.f k).bind fun bt104 => (headroomref07_Table.l0 k a0 a1 (([] : List (S43))) 0 bt104.1 bt104.2)
theorem headroomref07_Table.mono_l : ∀ k, (∀ y0 y1 y2 y3 y4 y5, LeO (headroomref07_Table.l0 k y0 y1 y2 y3 y4 y5) (headroomref07_Table.l0 (k + 1) y0 y1 y2 y3 y4 y5))
  | 0 => fun _ _ _ _ _ _ r h => by simp [headroomref07_Table.l0] at h
  | k + 1 => by
    have ih0 := headroomref07_Table.mono_l k
    · intro y0 y1 y2 y3 y4 y5
      unfold headroomref07_Table.l0
      repeat' first
      | (with_reducible exact ih0 _ _ _ _ _ _)
      | (with_reducible exact headroomref01_Pow.mono _ _)
      | (with_reducible exact headroomref05_All.mono _)
      | (with_reducible exact headroomref07_RootOf.mono _ _ _ _ _ _)
      | (with_reducible exact LeO.refl _)
      | (with_reducible exact LeO.none _)
      | (with_reducible refine LeO.ite ?_ ?_)
      | (with_reducible refine LeO.bind ?_ (fun _ => ?_))
      | exact ih0 _ _ _ _ _ _
      | exact headroomref01_Pow.mono _ _
      | exact headroomref05_All.mono _
      | exact headroomref07_RootOf.mono _ _ _ _ _ _
      | exact LeO.none _
      | refine LeO.ite ?_ ?_
      | refine LeO.bind ?_ (fun _ => ?_)
theorem headroomref07_Table.mono : ∀ a0 a1 k, LeO (headroomref07_Table.f k a0 a1) (headroomref07_Table.f (k + 1) a0 a1) := by
  intro a0 a1 k
  have ih0 := headroomref07_Table.mono_l k
  unfold headroomref07_Table.f
  repeat' first
      | (with_reducible exact ih0 _ _ _ _ _ _)
      | (with_reducible exact headroomref01_Pow.mono _ _)
      | (with_reducible exact headroomref05_All.mono _)
      | (with_reducible exact headroomref07_RootOf.mono _ _ _ _ _ _)
      | (with_reducible exact LeO.refl _)
      | (with_reducible exact LeO.none _)
      | (with_reducible refine LeO.ite ?_ ?_)
      | (with_reducible refine LeO.bind ?_ (fun _ => ?_))
      | exact ih0 _ _ _ _ _ _
      | exact headroomref01_Pow.mono _ _
      | exact headroomref05_All.mono _
      | exact headroomref07_RootOf.mono _ _ _ _ _ _
      | exact LeO.none _
      | refine LeO.ite ?_ ?_
      | refine LeO.bind ?_ (fun _ => ?_)
set_option maxHeartbeats 8000000 in
set_option maxRecDepth 100000 in
theorem headroomref07_Table.calls (k : Nat) (a0 : Int) (a1 : Int) (r : List (S43)) (w : World) (h : headroomref07_Table.f k a0 a1 = some r) :
    Calls Try.prog 45 #[.int .i64 a0, .int .i64 a1] w fun e w' => ∃ v0_ : Value, e = .returned (v0_) ∧ Kd.R k43 43 w' w.heap.size (fun _ => True) v0_ r ∧ Below w.heap.size w w' := by
  have hu105 := Try.underlying105
  have HB := Aside0.mk (Below.refl w.heap.size w)
  have H : ((headroomref05_All.f k).bind fun bt104 => (headroomref07_Table.l0 k a0 a1 (([] : List (S43))) 0 bt104.1 bt104.2)) = some r := h
  clear h
  obtain ⟨y101, hy101⟩ : ∃ y_ : List (S43), y_ = (([] : List (S43))) := ⟨_, rfl⟩
  replace H : ((headroomref05_All.f k).bind fun bt104 => (headroomref07_Table.l0 k a0 a1 y101 0 bt104.1 bt104.2)) = some r := by first | (rw [hy101]; with_reducible exact H) | (have H2_ := (Option.bind_some _ _).symm.trans H; rw [hy101]; with_reducible exact H2_) | (have H2_ := (Option.bind_some _ _).symm.trans H; with_reducible exact H2_) | with_reducible exact H | (rw [hy101]; exact H) | exact H
  have Ny101 := Aside0.mk hy101
  clear hy101
  replace H := Option.bind_eq_some_iff.mp H
  obtain ⟨⟨t104, t107⟩, A30, H⟩ := H
  replace H : (headroomref07_Table.l0 k a0 a1 y101 0 t104 t107) = some r := H
  have A3 := Aside0.mk A30
  clear A30
  have H' := Aside0.mk H
  clear H
  go_enter Try.func45, Try.ntmps45
  go_wp2_with (first | ((with_reducible refine gate_dst (N := 8) rfl ?_); refine Kd.R_lit k43 _ 43 ?hg (N := 8) ?hd (xs := ([] : List (S43))) (inner := []) (ok := fun _ => True) (okp := fun _ => True) ?hr ?hp (fun _ hk => hk) trivial (Below.refl _ _) (Nat.le_refl _) (by simp) ?_; (case hd => rfl); (case hg => rfl); (case hr => first | (go_simp; done) | (go_simp; rfl)); (case hp => exact (Reps.none _ _)); intro v102 w4 ho5 hb hg_ hnew_; clear hg_ hnew_; (first | rw [← Ny101.out] at ho5 | (simp only [Int.reduceToNat] at ho5; rw [← Ny101.out] at ho5)); have n0_ := Aside0.mk (Kd.R_lower ho5 (below_size (by repeat (first | (with_reducible first | exact HB.out | apply below_alloc | apply pw_below_drewN | apply below_drew1) | exact HB.out)))); have n1_ := Aside0.mk (below_step (by repeat (first | (with_reducible first | exact HB.out | apply below_alloc | apply pw_below_drewN | apply below_drew1) | exact HB.out)) hb); clear HB; have HO103 := n0_; have HB := n1_; clear n0_ n1_; clear hb ho5) | ((with_reducible refine gate_callee (f := 104) rfl ?_); refine goesL_ (some 9) rfl rfl Try.func104 (by kernel_rfl) rfl #[] rfl (by (try simp only [List.map_toArray, List.map_cons, List.map_nil]); first | done | rfl | (simp only [List.length_drop, List.length_take]; rfl)) ?_; (with_reducible refine (headroomref05_All.calls k  t104 t107 _ A3.out).mono ?_); rintro e w6 ⟨v105, rfl, ho0, hb⟩; refine ⟨_, rfl, ?_⟩; have n0_ := Aside0.mk (Kd.R_below (by (with_reducible repeat (first | apply Kd.R_alloc | apply Kd.R_drewN | apply Kd.R_drew)); exact HO103.out) hb); have n1_ := Aside0.mk (Kd.R_lower ho0 (below_size (by repeat (first | (with_reducible first | exact HB.out | apply below_alloc | apply pw_below_drewN | apply below_drew1) | exact HB.out)))); have n2_ := Aside0.mk (below_step (by repeat (first | (with_reducible first | exact HB.out | apply below_alloc | apply pw_below_drewN | apply below_drew1) | exact HB.out)) hb); clear HO103; clear HB; have HO103 := n0_; have HO106 := n1_; have HB := n2_; clear n0_ n1_ n2_; (try clear hb); (try clear hb2); (try clear hk); (try clear hi); (try clear ho0)) | ((with_reducible refine gate_dst (N := 6) rfl ?_); refine box_event ?hg (N := 6) ?hd (cs := #[.slice none 0 0, .int .i64 0]) (t := 105) ?hr ?_; (case hd => rfl); (case hg => rfl); (case hr => first | (go_simp; done) | (go_simp; rfl)); intro gb108 hg w7 hbox hb; have n0_ := Aside0.mk (Kd.R_below (by (with_reducible repeat (first | apply Kd.R_alloc | apply Kd.R_drewN | apply Kd.R_drew)); exact HO103.out) hb); have n1_ := Aside0.mk (Kd.R_below (by (with_reducible repeat (first | apply Kd.R_alloc | apply Kd.R_drewN | apply Kd.R_drew)); exact HO106.out) hb); have n2_ := Aside0.mk (below_step (by repeat (first | (with_reducible first | exact HB.out | apply below_alloc | apply pw_below_drewN | apply below_drew1) | exact HB.out)) hb); have n3_ := Aside0.mk (hbox); have n4_ := Aside0.mk ((by rw [hg]; exact (below_size (by repeat (first | (with_reducible first | exact HB.out | apply below_alloc | apply pw_below_drewN | apply below_drew1) | exact HB.out))) : w.heap.size ≤ gb108)); have n5_ := Aside0.mk ((by rw [hg]; exact (below_size (by repeat (first | (with_reducible first | exact HB.out | apply below_alloc | apply pw_below_drewN | apply below_drew1) | exact HB.out))) : w.heap.size ≤ gb108)); clear HO103; clear HO106; clear HB; have HO103 := n0_; have HO106 := n1_; have HB := n2_; have BK108 := n3_; have GW108 := n4_; have GE108 := n5_; clear n0_ n1_ n2_ n3_ n4_ n5_; clear hb hbox hg; obtain ⟨Ao8, co8, eo8⟩ := Kd.R_slice HO106.out; subst eo8; have hcz9_0 : w7.cell? ⟨gb108, 0, none⟩ = some (.slice none 0 0) := (blk_cell BK108.out 0).trans rfl; have hcz9_1 : w7.cell? ⟨gb108, 1, none⟩ = some (.int .i64 0) := (blk_cell BK108.out 1).trans rfl; have hfz9_0 := blk_frozen BK108.out 0; have hfz9_1 := blk_frozen BK108.out 1))
  go_loopg [5, 7] k (fun kq v5 v7 w' => ∃ (x5_1 : List (S43)) (x7_1 : Int), v7 = .int .i64 x7_1 ∧ Aside0 (headroomref07_Table.l0 kq a0 a1 x5_1 x7_1 t104 t107 = some r) ∧ Aside0 (kq ≤ k) ∧ Aside0 (Kd.R k43 43 w' w.heap.size (fun _ => True) v5 x5_1) ∧ Aside0 (Kd.R (Kd.int .i64) 3 w' w.heap.size (fun _ => True) (.slice Ao8 t104.length co8) t104) ∧ Aside0 (w'.heap[gb108]? = some (.cells #[(.slice Ao8 t104.length co8), .int .i64 t107] 105 (0, 0))) ∧ Aside0 (Below w.heap.size w w'))
  case atStart => exact ⟨(y101), (0), (by first | rfl | (simp; done) | (simp [*]; done)), H', ⟨Nat.le_refl _⟩, ⟨by (with_reducible repeat (first | apply Kd.R_alloc | apply Kd.R_drewN | apply Kd.R_drew)); exact Kd.R_mono (Kd.R_far (p := ⟨gb108, 1, none⟩) (Kd.R_far (p := ⟨gb108, 0, none⟩) (Kd.R_types HO103.out BK108.out (by decide)) (fun _ hk => hk.2) (.slice Ao8 t104.length co8)) (fun _ hk => hk.2) (.int .i64 t107)) (fun _ hk => trivial)⟩, ⟨by (with_reducible repeat (first | apply Kd.R_alloc | apply Kd.R_drewN | apply Kd.R_drew)); exact Kd.R_mono (Kd.R_far (p := ⟨gb108, 1, none⟩) (Kd.R_far (p := ⟨gb108, 0, none⟩) (Kd.R_types HO106.out BK108.out (by decide)) (fun _ hk => hk.2) (.slice Ao8 t104.length co8)) (fun _ hk => hk.2) (.int .i64 t107)) (fun _ hk => trivial)⟩, ⟨by (with_reducible repeat (first | refine blk_drewN ?_ _ | refine blk_drew ?_ | refine blk_alloc ?_ _)); refine blk_put (cs := #[.slice Ao8 t104.length co8, .int .i64 0]) ?_ 1 _ rfl; (with_reducible repeat (first | refine blk_drewN ?_ _ | refine blk_drew ?_ | refine blk_alloc ?_ _)); refine blk_put (cs := #[.slice none 0 0, .int .i64 0]) ?_ 0 _ rfl; (with_reducible repeat (first | refine blk_drewN ?_ _ | refine blk_drew ?_ | refine blk_alloc ?_ _)); exact BK108.out⟩, ⟨by repeat (first | (with_reducible first | exact HB.out | apply below_alloc | apply pw_below_drewN | apply below_drew1 | refine below_set ?_ GE108.out) | exact HB.out)⟩⟩
  case round =>
    clear H'
    try clear c1
    try clear p2
    try clear c4
    try clear hcz9_0
    try clear hcz9_1
    try clear hfz9_0
    try clear hfz9_1
    obtain ⟨x5_1, x7_1, rfl, HA, HK1, HO_5, HO_109000, BK108, HB⟩ := hrel
    cases gk with
    | zero => exact absurd HA.out (by simp [headroomref07_Table.l0])
    | succ k1 =>
      have H := HA.out
      clear HA
      simp only [headroomref07_Table.l0] at H
      replace H := Option.bind_eq_some_iff.mp H
      obtain ⟨t109, A100, H⟩ := H
      replace H : (if x7_1 < t109 then ((headroomref07_RootOf.f k1 t104 t107 a0 x7_1 a1).bind fun bt110 => (if x5_1.length < 8796093022208 then (headroomref07_Table.l0 k1 a0 a1 (x5_1 ++ [(⟨bt110.1, bt110.2⟩ : S43)]) (wrap64 (x7_1 + 1)) t104 t107) else (none))) else (some x5_1)) = some r := H
      have A10 := Aside0.mk A100
      clear A100
      by_cases c11 : x7_1 < t109
      · rw [if_pos c11] at H
        have c11b0 : decide (x7_1 < t109) = true := decide_eq_true c11
        clear c11
        replace H := Option.bind_eq_some_iff.mp H
        obtain ⟨⟨t110, t111⟩, A120, H⟩ := H
        replace H : (if x5_1.length < 8796093022208 then (headroomref07_Table.l0 k1 a0 a1 (x5_1 ++ [(⟨t110, t111⟩ : S43)]) (wrap64 (x7_1 + 1)) t104 t107) else (none)) = some r := H
        have A12 := Aside0.mk A120
        clear A120
        by_cases c13 : x5_1.length < 8796093022208
        · rw [if_pos c13] at H
          have LMc13 := Aside0.mk c13
          clear c13
          obtain ⟨y112, hy112⟩ : ∃ y_ : List (S43), y_ = (x5_1 ++ [(⟨t110, t111⟩ : S43)]) := ⟨_, rfl⟩
          replace H : (headroomref07_Table.l0 k1 a0 a1 y112 (wrap64 (x7_1 + 1)) t104 t107) = some r := by first | (rw [hy112]; with_reducible exact H) | (have H2_ := (Option.bind_some _ _).symm.trans H; rw [hy112]; with_reducible exact H2_) | (have H2_ := (Option.bind_some _ _).symm.trans H; with_reducible exact H2_) | with_reducible exact H | (rw [hy112]; exact H) | exact H
          have Ny112 := Aside0.mk hy112
          clear hy112
          have H' := Aside0.mk H
          clear H
          go_wp2_with (first | ((with_reducible refine gate_callee (f := 112) rfl ?_); refine goesL_ (some 12) rfl rfl Try.func112 (by kernel_rfl) rfl #[.int .i64 a0] rfl (by (try simp only [List.map_toArray, List.map_cons, List.map_nil]); first | done | rfl | (simp only [List.length_drop, List.length_take]; rfl)) ?_; (with_reducible refine (headroomref01_Pow.calls k1 a0 t109 _ A10.out).mono ?_); rintro e w' ⟨rfl, ⟨nd, rfl⟩⟩; refine ⟨_, rfl, ?_⟩; have hcz14_0 : wr.cell? ⟨gb108, 0, none⟩ = some (.slice Ao8 t104.length co8) := (blk_cell BK108.out 0).trans rfl; have hcz14_1 : wr.cell? ⟨gb108, 1, none⟩ = some (.int .i64 t107) := (blk_cell BK108.out 1).trans rfl; have hfz14_0 := blk_frozen BK108.out 0; have hfz14_1 := blk_frozen BK108.out 1) | ((with_reducible refine gate_callee (f := 103) rfl ?_); refine goesL_ (some 21) rfl rfl Try.func103 (by kernel_rfl) rfl #[.agg #[.slice Ao8 t104.length co8, .int .i64 t107], .int .i64 a0, .int .i64 x7_1, .int .i64 a1] rfl (by (try simp only [List.map_toArray, List.map_cons, List.map_nil]); first | done | rfl | (simp only [List.length_drop, List.length_take]; rfl)) ?_; (with_reducible refine (headroomref07_RootOf.calls k1 _ _ t104 t107 a0 x7_1 a1 t110 t111 _ ?side1 ?side2 A12.out).mono ?_); (case side1 => repeat (first | exact (Kd.R_reads' HO_109000.out).2.2 | (with_reducible refine Kd.C_alloc ?_ _) | (with_reducible refine Kd.C_drewN ?_ _) | (with_reducible refine Kd.C_drew ?_))); (case side2 => exact (Kd.R_reads' HO_109000.out).2.1); rintro e w15 ⟨rfl, hb⟩; refine ⟨_, rfl, ?_⟩; have n0_ := Aside0.mk (Kd.R_below (by (with_reducible repeat (first | apply Kd.R_alloc | apply Kd.R_drewN | apply Kd.R_drew)); exact HO_5.out) hb); have n1_ := Aside0.mk (Kd.R_below (by (with_reducible repeat (first | apply Kd.R_alloc | apply Kd.R_drewN | apply Kd.R_drew)); exact HO_109000.out) hb); have n2_ := Aside0.mk (blk_below (g := gb108) (o := .cells #[.slice Ao8 t104.length co8, .int .i64 t107] 105 (0, 0)) (by (with_reducible repeat (first | refine blk_drewN ?_ _ | refine blk_drew ?_ | refine blk_alloc ?_ _)); exact BK108.out) hb); have n3_ := Aside0.mk (below_step (by repeat (first | (with_reducible first | exact HB.out | apply below_alloc | apply pw_below_drewN | apply below_drew1 | refine below_set ?_ GE108.out) | exact HB.out)) hb); clear HO_5; clear HO_109000; clear BK108; clear HB; have HO_5 := n0_; have HO_109000 := n1_; have BK108 := n2_; have HB := n3_; clear n0_ n1_ n2_ n3_; (try clear hb); (try clear hb2); (try clear hk); (try clear hi)) | ((with_reducible refine gate_builtin (b := .append) (xs := #[.tmp 16, .tmp 22]) rfl ?_); at_builtin; refine Kd.R_append k43 (w0 := w) w.heap.size rfl (.tmp 16) (.tmp 22) 33 43 (.agg #[(.int .i64 0), (.int .i64 0)]) 16 rfl Try.underlying33 info43 rfl (by decide) (by omega) u5 x5_1 (⟨t110, t111⟩ : S43) [.int .i64 t110, .int .i64 t111] (fun _ => True) (fun _ => False) rfl rfl ?aP (fun _ hk => hk.elim) ?aF ?aO ?aB ?aS ?aL ?_; (case aP => exact k43_mkM _ _ _ (⟨t110, t111⟩ : S43)); (case aB => exact (by repeat (first | (with_reducible first | exact HB.out | apply below_alloc | apply pw_below_drewN | apply below_drew1 | refine below_set ?_ GE108.out) | exact HB.out))); (case aF => exact (fun _ _ => trivial)); (case aO => exact (by (with_reducible repeat (first | apply Kd.R_alloc | apply Kd.R_drewN | apply Kd.R_drew)); exact HO_5.out)); (case aS => exact (below_size (by repeat (first | (with_reducible first | exact HB.out | apply below_alloc | apply pw_below_drewN | apply below_drew1 | refine below_set ?_ GE108.out) | exact HB.out)))); (case aL => have := LMc13.out; omega); intro v113 w16 ho hb hg hat; rw [← Ny112.out] at ho; have n0_ := Aside0.mk (Kd.R_over' (by (with_reducible repeat (first | apply Kd.R_alloc | apply Kd.R_drewN | apply Kd.R_drew)); exact HO_109000.out) (Kd.R_typed (by (with_reducible repeat (first | apply Kd.R_alloc | apply Kd.R_drewN | apply Kd.R_drew)); exact HO_5.out)) (by decide) hg); have n1_ := Aside0.mk (blk_grown (g := gb108) (o := .cells #[.slice Ao8 t104.length co8, .int .i64 t107] 105 (0, 0)) (by (with_reducible repeat (first | refine blk_drewN ?_ _ | refine blk_drew ?_ | refine blk_alloc ?_ _)); exact BK108.out) hg (Kd.R_ne HO_5.out BK108.out (by decide))); have n2_ := Aside0.mk (hb); have n3_ := Aside0.mk (ho); clear HO_109000; clear BK108; clear HB; clear HO_5; have HO_109000 := n0_; have BK108 := n1_; have HB := n2_; have HO114 := n3_; clear n0_ n1_ n2_ n3_; clear ho hb hg hat))
          go_roundg k1
          case measure => have := HK1.out; omega
          case rel => exact ⟨(y112), (wrap64 (x7_1 + 1)), (by first | rfl | (simp; done) | (simp [*]; done)), H', ⟨by have := HK1.out; omega⟩, ⟨by (with_reducible repeat (first | apply Kd.R_alloc | apply Kd.R_drewN | apply Kd.R_drew)); exact HO114.out⟩, ⟨by (with_reducible repeat (first | apply Kd.R_alloc | apply Kd.R_drewN | apply Kd.R_drew)); exact HO_109000.out⟩, ⟨by (with_reducible repeat (first | refine blk_drewN ?_ _ | refine blk_drew ?_ | refine blk_alloc ?_ _)); exact BK108.out⟩, ⟨by repeat (first | (with_reducible first | exact HB.out | apply below_alloc | apply pw_below_drewN | apply below_drew1 | refine below_set ?_ GE108.out) | exact HB.out)⟩⟩
        · rw [if_neg c13] at H
          exact absurd H (by simp)
      · rw [if_neg c11] at H
        have c11b0 : decide (x7_1 < t109) = false := decide_eq_false c11
        clear c11
        obtain rfl := Option.some.inj H
        go_wp2_with (first | ((with_reducible refine gate_callee (f := 112) rfl ?_); refine goesL_ (some 12) rfl rfl Try.func112 (by kernel_rfl) rfl #[.int .i64 a0] rfl (by (try simp only [List.map_toArray, List.map_cons, List.map_nil]); first | done | rfl | (simp only [List.length_drop, List.length_take]; rfl)) ?_; (with_reducible refine (headroomref01_Pow.calls k1 a0 t109 _ A10.out).mono ?_); rintro e w' ⟨rfl, ⟨nd, rfl⟩⟩; refine ⟨_, rfl, ?_⟩))
        go_ret
        exact ⟨_, by first | rfl | (simp [errW_none, errW_some] <;> rfl) | (simp [*, errW_none, errW_some] <;> rfl), by (with_reducible repeat (first | apply Kd.R_alloc | apply Kd.R_drewN | apply Kd.R_drew)); exact HO_5.out, by repeat (first | (with_reducible first | exact HB.out | apply below_alloc | apply pw_below_drewN | apply below_drew1 | refine below_set ?_ GE108.out) | exact HB.out)⟩

end Go.Proofs.Ytmglkelmdcpinaa.G
/- The contract of the function headroomref02_Format (number 47 of the translation): what its call computes, as a plain Lean function; memory that was there stays as it was. Conditions: none beyond the theorem's own. Written by a program (gprint.py). -/
namespace Go.Proofs.Ytmglkelmdcpinaa.G
open Go.RowKit Go.Proofs.YtmglkelmdcpinaaW.PrintWords Go.Proofs.YtmglkelmdcpinaaW.PrintLast Go.Proofs.YtmglkelmdcpinaaW.PrintMore
attribute [local go_sem] max2_int min2_int max_two min_two max_three min_three max_four min_four   -- for this text's walks alone
set_option linter.unusedVariables false
set_option linter.unusedSimpArgs false

/-! ### headroomref02_Format: function 47 -/
def headroomref02_Format.f (a0 : Int) : Option (Bool) := if a0 = 0 then (some true) else (some (a0 == 1))
set_option maxHeartbeats 8000000 in
set_option maxRecDepth 100000 in
theorem headroomref02_Format.calls (a0 : Int) (r : Bool) (w : World) (h : headroomref02_Format.f a0 = some r) :
    Calls Try.prog 47 #[.int .i64 a0] w fun e w' => e = .returned (.bool r) ∧ Drawn0 w w' := by
  have H : (if a0 = 0 then (some true) else (some (a0 == 1))) = some r := h
  clear h
  by_cases c2 : a0 = 0
  · rw [if_pos c2] at H
    have c2b0 : (a0 == 0) = true := beq_iff_eq.mpr c2
    have c2b1 : (a0 != 0) = false := bne_eq_false_iff_eq.mpr c2
    clear c2
    obtain rfl := Option.some.inj H
    go_enter Try.func47, Try.ntmps47
    go_wp2
    go_ret
    exact ⟨by first | rfl | (simp; done) | (simp [*]; done), by repeat (first | exact Drawn0.refl _ | apply Drawn0.step)⟩
  · rw [if_neg c2] at H
    have c2b0 : (a0 == 0) = false := beq_eq_false_iff_ne.mpr c2
    have c2b1 : (a0 != 0) = true := bne_iff_ne.mpr c2
    obtain rfl := Option.some.inj H
    go_enter Try.func47, Try.ntmps47
    go_wp2
    go_ret
    exact ⟨by first | rfl | (simp; done) | (simp [*]; done), by repeat (first | exact Drawn0.refl _ | apply Drawn0.step)⟩

end Go.Proofs.Ytmglkelmdcpinaa.G
/- The contract of the function headroomref02_Bits (number 113 of the translation): what its call computes, as a plain Lean function; memory that was there stays as it was. Conditions: none beyond the theorem's own. Written by a program (gprint.py). -/
namespace Go.Proofs.Ytmglkelmdcpinaa.G
open Go.RowKit Go.Proofs.YtmglkelmdcpinaaW.PrintWords Go.Proofs.YtmglkelmdcpinaaW.PrintLast Go.Proofs.YtmglkelmdcpinaaW.PrintMore
attribute [local go_sem] max2_int min2_int max_two min_two max_three min_three max_four min_four   -- for this text's walks alone
set_option linter.unusedVariables false
set_option linter.unusedSimpArgs false

/-! ### headroomref02_Bits: function 113 -/
def headroomref02_Bits.f (a0 : Int) : Option (Int) := if a0 = 0 then (some 15) else (some 31)
set_option maxHeartbeats 8000000 in
set_option maxRecDepth 100000 in
theorem headroomref02_Bits.calls (a0 : Int) (r : Int) (w : World) (h : headroomref02_Bits.f a0 = some r) :
    Calls Try.prog 113 #[.int .i64 a0] w fun e w' => e = .returned (.int .i64 r) ∧ Drawn0 w w' := by
  have H : (if a0 = 0 then (some 15) else (some 31)) = some r := h
  clear h
  by_cases c2 : a0 = 0
  · rw [if_pos c2] at H
    have c2b0 : (a0 == 0) = true := beq_iff_eq.mpr c2
    have c2b1 : (a0 != 0) = false := bne_eq_false_iff_eq.mpr c2
    clear c2
    obtain rfl := Option.some.inj H
    go_enter Try.func113, Try.ntmps113
    go_wp2
    go_ret
    exact ⟨by first | rfl | (simp; done) | (simp [*]; done), by repeat (first | exact Drawn0.refl _ | apply Drawn0.step)⟩
  · rw [if_neg c2] at H
    have c2b0 : (a0 == 0) = false := beq_eq_false_iff_ne.mpr c2
    have c2b1 : (a0 != 0) = true := bne_iff_ne.mpr c2
    obtain rfl := Option.some.inj H
    go_enter Try.func113, Try.ntmps113
    go_wp2
    go_ret
    exact ⟨by first | rfl | (simp; done) | (simp [*]; done), by repeat (first | exact Drawn0.refl _ | apply Drawn0.step)⟩

end Go.Proofs.Ytmglkelmdcpinaa.G
/- The contract of the function headroomref07_Bits (number 48 of the translation): what its call computes, as a plain Lean function; memory that was there stays as it was. Conditions: none beyond the theorem's own. Written by a program (gprint.py). -/
namespace Go.Proofs.Ytmglkelmdcpinaa.G
open Go.RowKit Go.Proofs.YtmglkelmdcpinaaW.PrintWords Go.Proofs.YtmglkelmdcpinaaW.PrintLast Go.Proofs.YtmglkelmdcpinaaW.PrintMore
attribute [local go_sem] max2_int min2_int max_two min_two max_three min_three max_four min_four   -- for this text's walks alone
set_option linter.unusedVariables false
set_option linter.unusedSimpArgs false

/-! ### headroomref07_Bits: function 48 -/
def headroomref07_Bits.f (a0 : Int) : Option (Int) := (headroomref02_Bits.f a0).bind fun t101 => (some (wrap64 (t101 - 2)))
set_option maxHeartbeats 8000000 in
set_option maxRecDepth 100000 in
theorem headroomref07_Bits.calls (a0 : Int) (r : Int) (w : World) (h : headroomref07_Bits.f a0 = some r) :
    Calls Try.prog 48 #[.int .i64 a0] w fun e w' => e = .returned (.int .i64 r) ∧ Drawn0 w w' := by
  have H : ((headroomref02_Bits.f a0).bind fun t101 => (some (wrap64 (t101 - 2)))) = some r := h
  clear h
  replace H := Option.bind_eq_some_iff.mp H
  obtain ⟨t101, A20, H⟩ := H
  replace H : (some (wrap64 (t101 - 2))) = some r := H
  have A2 := Aside0.mk A20
  clear A20
  obtain rfl := Option.some.inj H
  go_enter Try.func48, Try.ntmps48
  go_wp2_with (first | ((with_reducible refine gate_callee (f := 113) rfl ?_); refine goesL_ (some 4) rfl rfl Try.func113 (by kernel_rfl) rfl #[.int .i64 a0] rfl (by (try simp only [List.map_toArray, List.map_cons, List.map_nil]); first | done | rfl | (simp only [List.length_drop, List.length_take]; rfl)) ?_; (with_reducible refine (headroomref02_Bits.calls a0 t101 _ A2.out).mono ?_); rintro e w' ⟨rfl, ⟨nd, rfl⟩⟩; refine ⟨_, rfl, ?_⟩))
  go_ret
  exact ⟨by first | rfl | (simp; done) | (simp [*]; done), by repeat (first | exact Drawn0.refl _ | apply Drawn0.step)⟩

end Go.Proofs.Ytmglkelmdcpinaa.G
/- The contract of the function headroomlaw07_RootsTables (number 12 of the translation): what its call computes, as a plain Lean function; memory that was there stays as it was. Conditions: none beyond the theorem's own. Written by a program (gprint.py). -/
namespace Go.Proofs.Ytmglkelmdcpinaa.G
open Go.RowKit Go.Proofs.YtmglkelmdcpinaaW.PrintWords Go.Proofs.YtmglkelmdcpinaaW.PrintLast Go.Proofs.YtmglkelmdcpinaaW.PrintMore
attribute [local go_sem] max2_int min2_int max_two min_two max_three min_three max_four min_four   -- for this text's walks alone
set_option linter.unusedVariables false
set_option linter.unusedSimpArgs false

/-! ### headroomlaw07_RootsTables: function 12 -/
mutual
def headroomlaw07_RootsTables.j0 : Nat → Int → Int → List (S43) → Int → Bool → Option (Bool)
  | 0, _, _, _, _, _ => none
  | k + 1, x0, x2, x9, x10, x56 => if x56 = true then (some false) else ((headroomref07_Log.f x0).bind fun t116 => (if t116 = true then ((headroomref02_Format.f x2).bind fun t117 => (headroomlaw07_RootsTables.j1 k x0 x2 x9 x10 (!t117))) else (headroomlaw07_RootsTables.j1 k x0 x2 x9 x10 true)))
def headroomlaw07_RootsTables.j1 : Nat → Int → Int → List (S43) → Int → Bool → Option (Bool)
  | 0, _, _, _, _, _ => none
  | k + 1, x0, x2, x9, x10, x64 => if x64 = true then (if x10 = 1 then (some ((x9.length : Int) == 0)) else (some false)) else (if x10 = 0 then ((headroomref07_Bits.f x2).bind fun t118 => ((headroomref07_Table.f k x0 t118).bind fun t119 => ((headroomref03_Same.f k x9 t119).bind fun t122 => (some t122)))) else (some false))
end
def headroomlaw07_RootsTables.f (k : Nat) (a0 : Int) (a1 : Int) (a2 : Int) : Option (Bool) := (roots_Table.f a0 a1).bind fun bt101 => ((roots_Twiddles.f a0 a2).bind fun bt105 => ((headroomref07_May.f a0 a1).bind fun t109 => (if t109 = true then (if bt101.2 = 0 then ((headroomref07_Table.f k a0 a1).bind fun t110 => ((headroomref03_Same.f k bt101.1 t110).bind fun t113 => (if t113 = true then ((headroomlaw07_alive.f).bind fun t114 => (headroomlaw07_RootsTables.j0 k a0 a2 bt105.1 bt105.2 (!t114))) else (headroomlaw07_RootsTables.j0 k a0 a2 bt105.1 bt105.2 true)))) else (headroomlaw07_RootsTables.j0 k a0 a2 bt105.1 bt105.2 true)) else (if bt101.2 = 1 then (if (bt101.1.length : Int) > 0 then (headroomlaw07_RootsTables.j0 k a0 a2 bt105.1 bt105.2 true) else ((headroomlaw07_alive.f).bind fun t115 => (headroomlaw07_RootsTables.j0 k a0 a2 bt105.1 bt105.2 (!t115)))) else (headroomlaw07_RootsTables.j0 k a0 a2 bt105.1 bt105.2 true)))))
theorem headroomlaw07_RootsTables.mono_l : ∀ k, (∀ y0 y1 y2 y3 y4, LeO (headroomlaw07_RootsTables.j0 k y0 y1 y2 y3 y4) (headroomlaw07_RootsTables.j0 (k + 1) y0 y1 y2 y3 y4)) ∧ (∀ y0 y1 y2 y3 y4, LeO (headroomlaw07_RootsTables.j1 k y0 y1 y2 y3 y4) (headroomlaw07_RootsTables.j1 (k + 1) y0 y1 y2 y3 y4))
  | 0 => ⟨fun _ _ _ _ _ r h => by simp [headroomlaw07_RootsTables.j0] at h, fun _ _ _ _ _ r h => by simp [headroomlaw07_RootsTables.j1] at h⟩
  | k + 1 => by
    obtain ⟨ih0, ih1⟩ := headroomlaw07_RootsTables.mono_l k
    refine ⟨?_, ?_⟩
    · intro y0 y1 y2 y3 y4
      unfold headroomlaw07_RootsTables.j0
      repeat' first
      | (with_reducible exact ih0 _ _ _ _ _)
      | (with_reducible exact ih1 _ _ _ _ _)
      | (with_reducible exact headroomref03_Same.mono _ _ _)
      | (with_reducible exact headroomref07_Table.mono _ _ _)
      | (with_reducible exact LeO.refl _)
      | (with_reducible exact LeO.none _)
      | (with_reducible refine LeO.ite ?_ ?_)
      | (with_reducible refine LeO.bind ?_ (fun _ => ?_))
      | exact ih0 _ _ _ _ _
      | exact ih1 _ _ _ _ _
      | exact headroomref03_Same.mono _ _ _
      | exact headroomref07_Table.mono _ _ _
      | exact LeO.none _
      | refine LeO.ite ?_ ?_
      | refine LeO.bind ?_ (fun _ => ?_)
    · intro y0 y1 y2 y3 y4
      unfold headroomlaw07_RootsTables.j1
      repeat' first
      | (with_reducible exact ih0 _ _ _ _ _)
      | (with_reducible exact ih1 _ _ _ _ _)
      | (with_reducible exact headroomref03_Same.mono _ _ _)
      | (with_reducible exact headroomref07_Table.mono _ _ _)
      | (with_reducible exact LeO.refl _)
      | (with_reducible exact LeO.none _)
      | (with_reducible refine LeO.ite ?_ ?_)
      | (with_reducible refine LeO.bind ?_ (fun _ => ?_))
      | exact ih0 _ _ _ _ _
      | exact ih1 _ _ _ _ _
      | exact headroomref03_Same.mono _ _ _
      | exact headroomref07_Table.mono _ _ _
      | exact LeO.none _
      | refine LeO.ite ?_ ?_
      | refine LeO.bind ?_ (fun _ => ?_)
theorem headroomlaw07_RootsTables.mono : ∀ a0 a1 a2 k, LeO (headroomlaw07_RootsTables.f k a0 a1 a2) (headroomlaw07_RootsTables.f (k + 1) a0 a1 a2) := by
  intro a0 a1 a2 k
  obtain ⟨ih0, ih1⟩ := headroomlaw07_RootsTables.mono_l k
  unfold headroomlaw07_RootsTables.f
  repeat' first
      | (with_reducible exact ih0 _ _ _ _ _)
      | (with_reducible exact ih1 _ _ _ _ _)
      | (with_reducible exact headroomref03_Same.mono _ _ _)
      | (with_reducible exact headroomref07_Table.mono _ _ _)
      | (with_reducible exact LeO.refl _)
      | (with_reducible exact LeO.none _)
      | (with_reducible refine LeO.ite ?_ ?_)
      | (with_reducible refine LeO.bind ?_ (fun _ => ?_))
      | exact ih0 _ _ _ _ _
      | exact ih1 _ _ _ _ _
      | exact headroomref03_Same.mono _ _ _
      | exact headroomref07_Table.mono _ _ _
      | exact LeO.none _
      | refine LeO.ite ?_ ?_
      | refine LeO.bind ?_ (fun _ => ?_)
set_option maxHeartbeats 8000000 in
set_option maxRecDepth 100000 in
theorem headroomlaw07_RootsTables.calls (k : Nat) (a0 : Int) (a1 : Int) (a2 : Int) (r : Bool) (w : World) (h : headroomlaw07_RootsTables.f k a0 a1 a2 = some r) :
    Calls Try.prog 12 #[.int .i64 a0, .int .i64 a1, .int .i64 a2] w fun e w' => e = .returned (.bool r) ∧ Below w.heap.size w w' := by
  have HB := Aside0.mk (Below.refl w.heap.size w)
  have H : ((roots_Table.f a0 a1).bind fun bt101 => ((roots_Twiddles.f a0 a2).bind fun bt105 => ((headroomref07_May.f a0 a1).bind fun t109 => (if t109 = true then (if bt101.2 = 0 then ((headroomref07_Table.f k a0 a1).bind fun t110 => ((headroomref03_Same.f k bt101.1 t110).bind fun t113 => (if t113 = true then ((headroomlaw07_alive.f).bind fun t114 => (headroomlaw07_RootsTables.j0 k a0 a2 bt105.1 bt105.2 (!t114))) else (headroomlaw07_RootsTables.j0 k a0 a2 bt105.1 bt105.2 true)))) else (headroomlaw07_RootsTables.j0 k a0 a2 bt105.1 bt105.2 true)) else (if bt101.2 = 1 then (if (bt101.1.length : Int) > 0 then (headroomlaw07_RootsTables.j0 k a0 a2 bt105.1 bt105.2 true) else ((headroomlaw07_alive.f).bind fun t115 => (headroomlaw07_RootsTables.j0 k a0 a2 bt105.1 bt105.2 (!t115)))) else (headroomlaw07_RootsTables.j0 k a0 a2 bt105.1 bt105.2 true)))))) = some r := h
  clear h
  replace H := Option.bind_eq_some_iff.mp H
  obtain ⟨⟨t101, t102⟩, A40, H⟩ := H
  replace H : ((roots_Twiddles.f a0 a2).bind fun bt105 => ((headroomref07_May.f a0 a1).bind fun t109 => (if t109 = true then (if t102 = 0 then ((headroomref07_Table.f k a0 a1).bind fun t110 => ((headroomref03_Same.f k t101 t110).bind fun t113 => (if t113 = true then ((headroomlaw07_alive.f).bind fun t114 => (headroomlaw07_RootsTables.j0 k a0 a2 bt105.1 bt105.2 (!t114))) else (headroomlaw07_RootsTables.j0 k a0 a2 bt105.1 bt105.2 true)))) else (headroomlaw07_RootsTables.j0 k a0 a2 bt105.1 bt105.2 true)) else (if t102 = 1 then (if (t101.length : Int) > 0 then (headroomlaw07_RootsTables.j0 k a0 a2 bt105.1 bt105.2 true) else ((headroomlaw07_alive.f).bind fun t115 => (headroomlaw07_RootsTables.j0 k a0 a2 bt105.1 bt105.2 (!t115)))) else (headroomlaw07_RootsTables.j0 k a0 a2 bt105.1 bt105.2 true))))) = some r := H
  have A4 := Aside0.mk A40
  clear A40
  replace H := Option.bind_eq_some_iff.mp H
  obtain ⟨⟨t105, t106⟩, A50, H⟩ := H
  replace H : ((headroomref07_May.f a0 a1).bind fun t109 => (if t109 = true then (if t102 = 0 then ((headroomref07_Table.f k a0 a1).bind fun t110 => ((headroomref03_Same.f k t101 t110).bind fun t113 => (if t113 = true then ((headroomlaw07_alive.f).bind fun t114 => (headroomlaw07_RootsTables.j0 k a0 a2 t105 t106 (!t114))) else (headroomlaw07_RootsTables.j0 k a0 a2 t105 t106 true)))) else (headroomlaw07_RootsTables.j0 k a0 a2 t105 t106 true)) else (if t102 = 1 then (if (t101.length : Int) > 0 then (headroomlaw07_RootsTables.j0 k a0 a2 t105 t106 true) else ((headroomlaw07_alive.f).bind fun t115 => (headroomlaw07_RootsTables.j0 k a0 a2 t105 t106 (!t115)))) else (headroomlaw07_RootsTables.j0 k a0 a2 t105 t106 true)))) = some r := H
  have A5 := Aside0.mk A50
  clear A50
  replace H := Option.bind_eq_some_iff.mp H
  obtain ⟨t109, A60, H⟩ := H
  replace H : (if t109 = true then (if t102 = 0 then ((headroomref07_Table.f k a0 a1).bind fun t110 => ((headroomref03_Same.f k t101 t110).bind fun t113 => (if t113 = true then ((headroomlaw07_alive.f).bind fun t114 => (headroomlaw07_RootsTables.j0 k a0 a2 t105 t106 (!t114))) else (headroomlaw07_RootsTables.j0 k a0 a2 t105 t106 true)))) else (headroomlaw07_RootsTables.j0 k a0 a2 t105 t106 true)) else (if t102 = 1 then (if (t101.length : Int) > 0 then (headroomlaw07_RootsTables.j0 k a0 a2 t105 t106 true) else ((headroomlaw07_alive.f).bind fun t115 => (headroomlaw07_RootsTables.j0 k a0 a2 t105 t106 (!t115)))) else (headroomlaw07_RootsTables.j0 k a0 a2 t105 t106 true))) = some r := H
  have A6 := Aside0.mk A60
  clear A60
  have HC7 := Aside0.mk H
  clear H
  go_enter Try.func12, Try.ntmps12
  go_upto_region 4 with (first | ((with_reducible refine gate_callee (f := 43) rfl ?_); refine goesL_ (some 15) rfl rfl Try.func43 (by kernel_rfl) rfl #[.int .i64 a0, .int .i64 a1] rfl (by (try simp only [List.map_toArray, List.map_cons, List.map_nil]); first | done | rfl | (simp only [List.length_drop, List.length_take]; rfl)) ?_; (with_reducible refine (roots_Table.calls a0 a1 t101 t102 _ A4.out).mono ?_); rintro e w8 ⟨v103, rfl, ho0, hb⟩; refine ⟨_, rfl, ?_⟩; have n0_ := Aside0.mk (Kd.R_lower ho0 (below_size (by repeat (first | (with_reducible first | exact HB.out | apply below_alloc | apply pw_below_drewN | apply below_drew1) | exact HB.out)))); have n1_ := Aside0.mk (below_step (by repeat (first | (with_reducible first | exact HB.out | apply below_alloc | apply pw_below_drewN | apply below_drew1) | exact HB.out)) hb); clear HB; have HO104 := n0_; have HB := n1_; clear n0_ n1_; (try clear hb); (try clear hb2); (try clear hk); (try clear hi); (try clear ho0)) | ((with_reducible refine gate_callee (f := 44) rfl ?_); refine goesL_ (some 21) rfl rfl Try.func44 (by kernel_rfl) rfl #[.int .i64 a0, .int .i64 a2] rfl (by (try simp only [List.map_toArray, List.map_cons, List.map_nil]); first | done | rfl | (simp only [List.length_drop, List.length_take]; rfl)) ?_; (with_reducible refine (roots_Twiddles.calls a0 a2 t105 t106 _ A5.out).mono ?_); rintro e w9 ⟨v107, rfl, ho0, hb⟩; refine ⟨_, rfl, ?_⟩; have n0_ := Aside0.mk (Kd.R_elder' (by (with_reducible repeat (first | apply Kd.R_alloc | apply Kd.R_drewN | apply Kd.R_drew)); exact HO104.out) (Kd.R_base ho0) hb); have n1_ := Aside0.mk (Kd.R_lower (Kd.R_new' ho0 (Kd.R_lt (by (with_reducible repeat (first | apply Kd.R_alloc | apply Kd.R_drewN | apply Kd.R_drew)); exact HO104.out))) (below_size (by repeat (first | (with_reducible first | exact HB.out | apply below_alloc | apply pw_below_drewN | apply below_drew1) | exact HB.out)))); have n2_ := Aside0.mk (below_step (by repeat (first | (with_reducible first | exact HB.out | apply below_alloc | apply pw_below_drewN | apply below_drew1) | exact HB.out)) hb); clear HO104; clear HB; have HO104 := n0_; have HO108 := n1_; have HB := n2_; clear n0_ n1_ n2_; (try clear hb); (try clear hb2); (try clear hk); (try clear hi); (try clear ho0)) | ((with_reducible refine gate_callee (f := 37) rfl ?_); refine goesL_ (some 26) rfl rfl Try.func37 (by kernel_rfl) rfl #[.int .i64 a0, .int .i64 a1] rfl (by (try simp only [List.map_toArray, List.map_cons, List.map_nil]); first | done | rfl | (simp only [List.length_drop, List.length_take]; rfl)) ?_; (with_reducible refine (headroomref07_May.calls a0 a1 t109 _ A6.out).mono ?_); rintro e w' ⟨rfl, ⟨nd, rfl⟩⟩; refine ⟨_, rfl, ?_⟩))
  (try simp only [Act.put, List.setIfInBounds_toArray, List.set_cons_zero, List.set_cons_succ])
  go_cut [56] (fun v56 wc => ∃ (kq : Nat) (x56_6 : Bool), v56 = .bool x56_6 ∧ Aside0 (headroomlaw07_RootsTables.j0 kq a0 a2 t105 t106 x56_6 = some r) ∧ Aside0 (kq ≤ k) ∧ Aside0 (Kd.R k43 43 wc w.heap.size (fun _ => True) v107 t105) ∧ Aside0 (Below w.heap.size w wc))
  case first =>
    have H := HC7.out
    clear HC7
    by_cases c10 : t109 = true
    · subst c10
      have H1 : (if t102 = 0 then ((headroomref07_Table.f k a0 a1).bind fun t110 => ((headroomref03_Same.f k t101 t110).bind fun t113 => (if t113 = true then ((headroomlaw07_alive.f).bind fun t114 => (headroomlaw07_RootsTables.j0 k a0 a2 t105 t106 (!t114))) else (headroomlaw07_RootsTables.j0 k a0 a2 t105 t106 true)))) else (headroomlaw07_RootsTables.j0 k a0 a2 t105 t106 true)) = some r := by rw [if_pos rfl] at H; exact H
      clear H
      have H := H1
      clear H1
      by_cases c11 : t102 = 0
      · rw [if_pos c11] at H
        have c11b0 : (t102 == 0) = true := beq_iff_eq.mpr c11
        have c11b1 : (t102 != 0) = false := bne_eq_false_iff_eq.mpr c11
        clear c11
        (first | rw [c11b0] | (simp only [i64_w, i32_w]; rw [c11b0]) | skip)
        replace H := Option.bind_eq_some_iff.mp H
        obtain ⟨t110, A120, H⟩ := H
        replace H : ((headroomref03_Same.f k t101 t110).bind fun t113 => (if t113 = true then ((headroomlaw07_alive.f).bind fun t114 => (headroomlaw07_RootsTables.j0 k a0 a2 t105 t106 (!t114))) else (headroomlaw07_RootsTables.j0 k a0 a2 t105 t106 true))) = some r := H
        have A12 := Aside0.mk A120
        clear A120
        replace H := Option.bind_eq_some_iff.mp H
        obtain ⟨t113, A130, H⟩ := H
        replace H : (if t113 = true then ((headroomlaw07_alive.f).bind fun t114 => (headroomlaw07_RootsTables.j0 k a0 a2 t105 t106 (!t114))) else (headroomlaw07_RootsTables.j0 k a0 a2 t105 t106 true)) = some r := H
        have A13 := Aside0.mk A130
        clear A130
        by_cases c14 : t113 = true
        · subst c14
          have H1 : ((headroomlaw07_alive.f).bind fun t114 => (headroomlaw07_RootsTables.j0 k a0 a2 t105 t106 (!t114))) = some r := by rw [if_pos rfl] at H; exact H
          clear H
          have H := H1
          clear H1
          replace H := Option.bind_eq_some_iff.mp H
          obtain ⟨t114, A150, H⟩ := H
          replace H : (headroomlaw07_RootsTables.j0 k a0 a2 t105 t106 (!t114)) = some r := H
          have A15 := Aside0.mk A150
          clear A150
          have H' := Aside0.mk H
          clear H
          go_wp2_with (first | (go_at_call 45; (with_reducible refine (headroomref07_Table.calls k a0 a1 t110 _ A12.out).mono ?_); rintro e w16 ⟨v111, rfl, ho0, hb⟩; have n0_ := Aside0.mk (Kd.R_elder' (by (with_reducible repeat (first | apply Kd.R_alloc | apply Kd.R_drewN | apply Kd.R_drew)); exact HO104.out) (Kd.R_base ho0) hb); have n1_ := Aside0.mk (Kd.R_elder' (by (with_reducible repeat (first | apply Kd.R_alloc | apply Kd.R_drewN | apply Kd.R_drew)); exact HO108.out) (Kd.R_base ho0) hb); have n2_ := Aside0.mk (Kd.R_lower (Kd.R_new' (Kd.R_new' ho0 (Kd.R_lt (by (with_reducible repeat (first | apply Kd.R_alloc | apply Kd.R_drewN | apply Kd.R_drew)); exact HO104.out))) (Kd.R_lt (by (with_reducible repeat (first | apply Kd.R_alloc | apply Kd.R_drewN | apply Kd.R_drew)); exact HO108.out))) (below_size (by repeat (first | (with_reducible first | exact HB.out | apply below_alloc | apply pw_below_drewN | apply below_drew1) | exact HB.out)))); have n3_ := Aside0.mk (below_step (by repeat (first | (with_reducible first | exact HB.out | apply below_alloc | apply pw_below_drewN | apply below_drew1) | exact HB.out)) hb); clear HO104; clear HO108; clear HB; have HO104 := n0_; have HO108 := n1_; have HO112 := n2_; have HB := n3_; clear n0_ n1_ n2_ n3_; (try clear hb); (try clear hb2); (try clear hk); (try clear hi); (try clear ho0); obtain ⟨Ao17, co17, eo17⟩ := Kd.R_slice HO104.out; subst eo17; obtain ⟨Ao18, co18, eo18⟩ := Kd.R_slice HO112.out; subst eo18) | (go_at_call 29; (with_reducible refine (headroomref03_Same.calls k _ _ t101 _ _ t110 true _ ?side1 ?side2 ?side3 ?side4 A13.out).mono ?_); (case side1 => repeat (first | exact (Kd.R_reads' HO104.out).2.2 | (with_reducible refine Kd.C_alloc ?_ _) | (with_reducible refine Kd.C_drewN ?_ _) | (with_reducible refine Kd.C_drew ?_))); (case side2 => exact (Kd.R_reads' HO104.out).2.1); (case side3 => repeat (first | exact (Kd.R_reads' HO112.out).2.2 | (with_reducible refine Kd.C_alloc ?_ _) | (with_reducible refine Kd.C_drewN ?_ _) | (with_reducible refine Kd.C_drew ?_))); (case side4 => exact (Kd.R_reads' HO112.out).2.1); rintro e w' ⟨rfl, ⟨nd, rfl⟩⟩) | (go_at_call 38; (with_reducible refine (headroomlaw07_alive.calls  t114 _ A15.out).mono ?_); rintro e w19 ⟨rfl, hb⟩; have n0_ := Aside0.mk (Kd.R_below (by (with_reducible repeat (first | apply Kd.R_alloc | apply Kd.R_drewN | apply Kd.R_drew)); exact HO104.out) hb); have n1_ := Aside0.mk (Kd.R_below (by (with_reducible repeat (first | apply Kd.R_alloc | apply Kd.R_drewN | apply Kd.R_drew)); exact HO108.out) hb); have n2_ := Aside0.mk (Kd.R_below (by (with_reducible repeat (first | apply Kd.R_alloc | apply Kd.R_drewN | apply Kd.R_drew)); exact HO112.out) hb); have n3_ := Aside0.mk (below_step (by repeat (first | (with_reducible first | exact HB.out | apply below_alloc | apply pw_below_drewN | apply below_drew1) | exact HB.out)) hb); clear HO104; clear HO108; clear HO112; clear HB; have HO104 := n0_; have HO108 := n1_; have HO112 := n2_; have HB := n3_; clear n0_ n1_ n2_ n3_; (try clear hb); (try clear hb2); (try clear hk); (try clear hi)))
          go_meet
          case rel => exact ⟨_, (!t114), (by first | rfl | (simp; done) | (simp [*]; done)), H', ⟨by first | omega | exact Nat.le_refl _⟩, ⟨by (with_reducible repeat (first | apply Kd.R_alloc | apply Kd.R_drewN | apply Kd.R_drew)); exact Kd.R_mono HO108.out (fun _ hk => trivial)⟩, ⟨by repeat (first | (with_reducible first | exact HB.out | apply below_alloc | apply pw_below_drewN | apply below_drew1) | exact HB.out)⟩⟩
        · replace c14 := Bool.eq_false_iff.mpr c14
          subst c14
          have H1 : (headroomlaw07_RootsTables.j0 k a0 a2 t105 t106 true) = some r := by rw [if_neg (show ¬ (false = true) by decide)] at H; exact H
          clear H
          have H := H1
          clear H1
          have H' := Aside0.mk H
          clear H
          go_wp2_with (first | (go_at_call 45; (with_reducible refine (headroomref07_Table.calls k a0 a1 t110 _ A12.out).mono ?_); rintro e w20 ⟨v111, rfl, ho0, hb⟩; have n0_ := Aside0.mk (Kd.R_elder' (by (with_reducible repeat (first | apply Kd.R_alloc | apply Kd.R_drewN | apply Kd.R_drew)); exact HO104.out) (Kd.R_base ho0) hb); have n1_ := Aside0.mk (Kd.R_elder' (by (with_reducible repeat (first | apply Kd.R_alloc | apply Kd.R_drewN | apply Kd.R_drew)); exact HO108.out) (Kd.R_base ho0) hb); have n2_ := Aside0.mk (Kd.R_lower (Kd.R_new' (Kd.R_new' ho0 (Kd.R_lt (by (with_reducible repeat (first | apply Kd.R_alloc | apply Kd.R_drewN | apply Kd.R_drew)); exact HO104.out))) (Kd.R_lt (by (with_reducible repeat (first | apply Kd.R_alloc | apply Kd.R_drewN | apply Kd.R_drew)); exact HO108.out))) (below_size (by repeat (first | (with_reducible first | exact HB.out | apply below_alloc | apply pw_below_drewN | apply below_drew1) | exact HB.out)))); have n3_ := Aside0.mk (below_step (by repeat (first | (with_reducible first | exact HB.out | apply below_alloc | apply pw_below_drewN | apply below_drew1) | exact HB.out)) hb); clear HO104; clear HO108; clear HB; have HO104 := n0_; have HO108 := n1_; have HO112 := n2_; have HB := n3_; clear n0_ n1_ n2_ n3_; (try clear hb); (try clear hb2); (try clear hk); (try clear hi); (try clear ho0); obtain ⟨Ao21, co21, eo21⟩ := Kd.R_slice HO104.out; subst eo21; obtain ⟨Ao22, co22, eo22⟩ := Kd.R_slice HO112.out; subst eo22) | (go_at_call 29; (with_reducible refine (headroomref03_Same.calls k _ _ t101 _ _ t110 false _ ?side1 ?side2 ?side3 ?side4 A13.out).mono ?_); (case side1 => repeat (first | exact (Kd.R_reads' HO104.out).2.2 | (with_reducible refine Kd.C_alloc ?_ _) | (with_reducible refine Kd.C_drewN ?_ _) | (with_reducible refine Kd.C_drew ?_))); (case side2 => exact (Kd.R_reads' HO104.out).2.1); (case side3 => repeat (first | exact (Kd.R_reads' HO112.out).2.2 | (with_reducible refine Kd.C_alloc ?_ _) | (with_reducible refine Kd.C_drewN ?_ _) | (with_reducible refine Kd.C_drew ?_))); (case side4 => exact (Kd.R_reads' HO112.out).2.1); rintro e w' ⟨rfl, ⟨nd, rfl⟩⟩))
          go_meet
          case rel => exact ⟨_, (true), (by first | rfl | (simp; done) | (simp [*]; done)), H', ⟨by first | omega | exact Nat.le_refl _⟩, ⟨by (with_reducible repeat (first | apply Kd.R_alloc | apply Kd.R_drewN | apply Kd.R_drew)); exact Kd.R_mono HO108.out (fun _ hk => trivial)⟩, ⟨by repeat (first | (with_reducible first | exact HB.out | apply below_alloc | apply pw_below_drewN | apply below_drew1) | exact HB.out)⟩⟩
      · rw [if_neg c11] at H
        have c11b0 : (t102 == 0) = false := beq_eq_false_iff_ne.mpr c11
        have c11b1 : (t102 != 0) = true := bne_iff_ne.mpr c11
        (first | rw [c11b0] | (simp only [i64_w, i32_w]; rw [c11b0]) | skip)
        have H' := Aside0.mk H
        clear H
        go_wp2
        go_meet
        case rel => exact ⟨_, (true), (by first | rfl | (simp; done) | (simp [*]; done)), H', ⟨by first | omega | exact Nat.le_refl _⟩, ⟨by (with_reducible repeat (first | apply Kd.R_alloc | apply Kd.R_drewN | apply Kd.R_drew)); exact Kd.R_mono HO108.out (fun _ hk => trivial)⟩, ⟨by repeat (first | (with_reducible first | exact HB.out | apply below_alloc | apply pw_below_drewN | apply below_drew1) | exact HB.out)⟩⟩
    · replace c10 := Bool.eq_false_iff.mpr c10
      subst c10
      have H1 : (if t102 = 1 then (if (t101.length : Int) > 0 then (headroomlaw07_RootsTables.j0 k a0 a2 t105 t106 true) else ((headroomlaw07_alive.f).bind fun t115 => (headroomlaw07_RootsTables.j0 k a0 a2 t105 t106 (!t115)))) else (headroomlaw07_RootsTables.j0 k a0 a2 t105 t106 true)) = some r := by rw [if_neg (show ¬ (false = true) by decide)] at H; exact H
      clear H
      have H := H1
      clear H1
      by_cases c23 : t102 = 1
      · rw [if_pos c23] at H
        have c23b0 : (t102 == 1) = true := beq_iff_eq.mpr c23
        have c23b1 : (t102 != 1) = false := bne_eq_false_iff_eq.mpr c23
        clear c23
        by_cases c24 : (t101.length : Int) > 0
        · rw [if_pos c24] at H
          have c24b0 : decide (0 < (t101.length : Int)) = true := decide_eq_true c24
          have c24b1 : decide (0 < t101.length) = true := decide_eq_true (by omega)
          clear c24
          have H' := Aside0.mk H
          clear H
          obtain ⟨Ao25, co25, eo25⟩ := Kd.R_slice HO104.out
          subst eo25
          go_wp2
          go_meet
          case rel => exact ⟨_, (true), (by first | rfl | (simp; done) | (simp [*]; done)), H', ⟨by first | omega | exact Nat.le_refl _⟩, ⟨by (with_reducible repeat (first | apply Kd.R_alloc | apply Kd.R_drewN | apply Kd.R_drew)); exact Kd.R_mono HO108.out (fun _ hk => trivial)⟩, ⟨by repeat (first | (with_reducible first | exact HB.out | apply below_alloc | apply pw_below_drewN | apply below_drew1) | exact HB.out)⟩⟩
        · rw [if_neg c24] at H
          have c24b0 : decide (0 < (t101.length : Int)) = false := decide_eq_false c24
          have c24b1 : decide (0 < t101.length) = false := decide_eq_false (by omega)
          clear c24
          replace H := Option.bind_eq_some_iff.mp H
          obtain ⟨t115, A260, H⟩ := H
          replace H : (headroomlaw07_RootsTables.j0 k a0 a2 t105 t106 (!t115)) = some r := H
          have A26 := Aside0.mk A260
          clear A260
          have H' := Aside0.mk H
          clear H
          obtain ⟨Ao27, co27, eo27⟩ := Kd.R_slice HO104.out
          subst eo27
          go_wp2_with (first | (go_at_call 38; (with_reducible refine (headroomlaw07_alive.calls  t115 _ A26.out).mono ?_); rintro e w28 ⟨rfl, hb⟩; have n0_ := Aside0.mk (Kd.R_below (by (with_reducible repeat (first | apply Kd.R_alloc | apply Kd.R_drewN | apply Kd.R_drew)); exact HO104.out) hb); have n1_ := Aside0.mk (Kd.R_below (by (with_reducible repeat (first | apply Kd.R_alloc | apply Kd.R_drewN | apply Kd.R_drew)); exact HO108.out) hb); have n2_ := Aside0.mk (below_step (by repeat (first | (with_reducible first | exact HB.out | apply below_alloc | apply pw_below_drewN | apply below_drew1) | exact HB.out)) hb); clear HO104; clear HO108; clear HB; have HO104 := n0_; have HO108 := n1_; have HB := n2_; clear n0_ n1_ n2_; (try clear hb); (try clear hb2); (try clear hk); (try clear hi)))
          go_meet
          case rel => exact ⟨_, (!t115), (by first | rfl | (simp; done) | (simp [*]; done)), H', ⟨by first | omega | exact Nat.le_refl _⟩, ⟨by (with_reducible repeat (first | apply Kd.R_alloc | apply Kd.R_drewN | apply Kd.R_drew)); exact Kd.R_mono HO108.out (fun _ hk => trivial)⟩, ⟨by repeat (first | (with_reducible first | exact HB.out | apply below_alloc | apply pw_below_drewN | apply below_drew1) | exact HB.out)⟩⟩
      · rw [if_neg c23] at H
        have c23b0 : (t102 == 1) = false := beq_eq_false_iff_ne.mpr c23
        have c23b1 : (t102 != 1) = true := bne_iff_ne.mpr c23
        have H' := Aside0.mk H
        clear H
        go_wp2
        go_meet
        case rel => exact ⟨_, (true), (by first | rfl | (simp; done) | (simp [*]; done)), H', ⟨by first | omega | exact Nat.le_refl _⟩, ⟨by (with_reducible repeat (first | apply Kd.R_alloc | apply Kd.R_drewN | apply Kd.R_drew)); exact Kd.R_mono HO108.out (fun _ hk => trivial)⟩, ⟨by repeat (first | (with_reducible first | exact HB.out | apply below_alloc | apply pw_below_drewN | apply below_drew1) | exact HB.out)⟩⟩
  case rest =>
    clear HC7
    try clear c1
    try clear c2
    try clear p2
    try clear c3
    try clear c4
    try clear c10
    try clear c11
    try clear c11b0
    try clear c11b1
    try clear c12
    try clear c14
    try clear c23
    try clear c23b0
    try clear c23b1
    try clear c24
    try clear c24b0
    try clear c24b1
    obtain ⟨kq, x56_6, rfl, HA, HJ6, HO_9, HB⟩ := hcut
    cases kq with
    | zero => exact absurd HA.out (by simp [headroomlaw07_RootsTables.j0])
    | succ kj6 =>
      have H := HA.out
      clear HA
      simp only [headroomlaw07_RootsTables.j0] at H
      by_cases c29 : x56_6 = true
      · subst c29
        have H1 : (some false) = some r := by rw [if_pos rfl] at H; exact H
        clear H
        have H := H1
        clear H1
        obtain rfl := Option.some.inj H
        go_wp2
        go_ret
        exact ⟨by first | rfl | (simp [errW_none, errW_some] <;> rfl) | (simp [*, errW_none, errW_some] <;> rfl), by repeat (first | (with_reducible first | exact HB.out | apply below_alloc | apply pw_below_drewN | apply below_drew1) | exact HB.out)⟩
      · replace c29 := Bool.eq_false_iff.mpr c29
        subst c29
        have H1 : ((headroomref07_Log.f a0).bind fun t116 => (if t116 = true then ((headroomref02_Format.f a2).bind fun t117 => (headroomlaw07_RootsTables.j1 kj6 a0 a2 t105 t106 (!t117))) else (headroomlaw07_RootsTables.j1 kj6 a0 a2 t105 t106 true))) = some r := by rw [if_neg (show ¬ (false = true) by decide)] at H; exact H
        clear H
        have H := H1
        clear H1
        have HC30 := Aside0.mk H
        clear H
        go_upto_region 6 with (fail)
        go_cut [64] (fun v64 wc => ∃ (kq : Nat) (x64_29 : Bool), v64 = .bool x64_29 ∧ Aside0 (headroomlaw07_RootsTables.j1 kq a0 a2 t105 t106 x64_29 = some r) ∧ Aside0 (kq ≤ kj6) ∧ Aside0 (Kd.R k43 43 wc w.heap.size (fun _ => True) v107 t105) ∧ Aside0 (Below w.heap.size w wc))
        case first =>
          have H := HC30.out
          clear HC30
          replace H := Option.bind_eq_some_iff.mp H
          obtain ⟨t116, A310, H⟩ := H
          replace H : (if t116 = true then ((headroomref02_Format.f a2).bind fun t117 => (headroomlaw07_RootsTables.j1 kj6 a0 a2 t105 t106 (!t117))) else (headroomlaw07_RootsTables.j1 kj6 a0 a2 t105 t106 true)) = some r := H
          have A31 := Aside0.mk A310
          clear A310
          by_cases c32 : t116 = true
          · subst c32
            have H1 : ((headroomref02_Format.f a2).bind fun t117 => (headroomlaw07_RootsTables.j1 kj6 a0 a2 t105 t106 (!t117))) = some r := by rw [if_pos rfl] at H; exact H
            clear H
            have H := H1
            clear H1
            replace H := Option.bind_eq_some_iff.mp H
            obtain ⟨t117, A330, H⟩ := H
            replace H : (headroomlaw07_RootsTables.j1 kj6 a0 a2 t105 t106 (!t117)) = some r := H
            have A33 := Aside0.mk A330
            clear A330
            have H' := Aside0.mk H
            clear H
            go_wp2_with (first | ((with_reducible refine gate_callee (f := 46) rfl ?_); refine goesL_ (some 58) rfl rfl Try.func46 (by kernel_rfl) rfl #[.int .i64 a0] rfl (by (try simp only [List.map_toArray, List.map_cons, List.map_nil]); first | done | rfl | (simp only [List.length_drop, List.length_take]; rfl)) ?_; (with_reducible refine (headroomref07_Log.calls a0 true _ A31.out).mono ?_); rintro e w' ⟨rfl, ⟨nd, rfl⟩⟩; refine ⟨_, rfl, ?_⟩) | (go_at_call 47; (with_reducible refine (headroomref02_Format.calls a2 t117 _ A33.out).mono ?_); rintro e w' ⟨rfl, ⟨nd, rfl⟩⟩))
            go_meet
            case rel => exact ⟨_, (!t117), (by first | rfl | (simp; done) | (simp [*]; done)), H', ⟨by have := HJ6.out; first | omega | exact Nat.le_refl _⟩, ⟨by (with_reducible repeat (first | apply Kd.R_alloc | apply Kd.R_drewN | apply Kd.R_drew)); exact HO_9.out⟩, ⟨by repeat (first | (with_reducible first | exact HB.out | apply below_alloc | apply pw_below_drewN | apply below_drew1) | exact HB.out)⟩⟩
          · replace c32 := Bool.eq_false_iff.mpr c32
            subst c32
            have H1 : (headroomlaw07_RootsTables.j1 kj6 a0 a2 t105 t106 true) = some r := by rw [if_neg (show ¬ (false = true) by decide)] at H; exact H
            clear H
            have H := H1
            clear H1
            have H' := Aside0.mk H
            clear H
            go_wp2_with (first | ((with_reducible refine gate_callee (f := 46) rfl ?_); refine goesL_ (some 58) rfl rfl Try.func46 (by kernel_rfl) rfl #[.int .i64 a0] rfl (by (try simp only [List.map_toArray, List.map_cons, List.map_nil]); first | done | rfl | (simp only [List.length_drop, List.length_take]; rfl)) ?_; (with_reducible refine (headroomref07_Log.calls a0 false _ A31.out).mono ?_); rintro e w' ⟨rfl, ⟨nd, rfl⟩⟩; refine ⟨_, rfl, ?_⟩))
            go_meet
            case rel => exact ⟨_, (true), (by first | rfl | (simp; done) | (simp [*]; done)), H', ⟨by have := HJ6.out; first | omega | exact Nat.le_refl _⟩, ⟨by (with_reducible repeat (first | apply Kd.R_alloc | apply Kd.R_drewN | apply Kd.R_drew)); exact HO_9.out⟩, ⟨by repeat (first | (with_reducible first | exact HB.out | apply below_alloc | apply pw_below_drewN | apply below_drew1) | exact HB.out)⟩⟩
        case rest =>
          clear HC30
          try clear c1
          try clear c2
          try clear p2
          try clear c3
          try clear c4
          try clear c10
          try clear c11
          try clear c11b0
          try clear c11b1
          try clear c12
          try clear c14
          try clear c23
          try clear c23b0
          try clear c23b1
          try clear c24
          try clear c24b0
          try clear c24b1
          try clear c29
          try clear c32
          try clear p2
          obtain ⟨kq, x64_29, rfl, HA, HJ29, HO_9, HB⟩ := hcut
          cases kq with
          | zero => exact absurd HA.out (by simp [headroomlaw07_RootsTables.j1])
          | succ kj29 =>
            have H := HA.out
            clear HA
            simp only [headroomlaw07_RootsTables.j1] at H
            by_cases c34 : x64_29 = true
            · subst c34
              have H1 : (if t106 = 1 then (some ((t105.length : Int) == 0)) else (some false)) = some r := by rw [if_pos rfl] at H; exact H
              clear H
              have H := H1
              clear H1
              by_cases c35 : t106 = 1
              · rw [if_pos c35] at H
                have c35b0 : (t106 == 1) = true := beq_iff_eq.mpr c35
                have c35b1 : (t106 != 1) = false := bne_eq_false_iff_eq.mpr c35
                clear c35
                obtain rfl := Option.some.inj H
                obtain ⟨Ao36, co36, eo36⟩ := Kd.R_slice HO_9.out
                subst eo36
                go_wp2
                go_ret
                exact ⟨by first | rfl | (simp [errW_none, errW_some] <;> rfl) | (simp [*, errW_none, errW_some] <;> rfl), by repeat (first | (with_reducible first | exact HB.out | apply below_alloc | apply pw_below_drewN | apply below_drew1) | exact HB.out)⟩
              · rw [if_neg c35] at H
                have c35b0 : (t106 == 1) = false := beq_eq_false_iff_ne.mpr c35
                have c35b1 : (t106 != 1) = true := bne_iff_ne.mpr c35
                obtain rfl := Option.some.inj H
                go_wp2
                go_ret
                exact ⟨by first | rfl | (simp [errW_none, errW_some] <;> rfl) | (simp [*, errW_none, errW_some] <;> rfl), by repeat (first | (with_reducible first | exact HB.out | apply below_alloc | apply pw_below_drewN | apply below_drew1) | exact HB.out)⟩
            · replace c34 := Bool.eq_false_iff.mpr c34
              subst c34
              have H1 : (if t106 = 0 then ((headroomref07_Bits.f a2).bind fun t118 => ((headroomref07_Table.f kj29 a0 t118).bind fun t119 => ((headroomref03_Same.f kj29 t105 t119).bind fun t122 => (some t122)))) else (some false)) = some r := by rw [if_neg (show ¬ (false = true) by decide)] at H; exact H
              clear H
              have H := H1
              clear H1
              by_cases c37 : t106 = 0
              · rw [if_pos c37] at H
                have c37b0 : (t106 == 0) = true := beq_iff_eq.mpr c37
                have c37b1 : (t106 != 0) = false := bne_eq_false_iff_eq.mpr c37
                clear c37
                replace H := Option.bind_eq_some_iff.mp H
                obtain ⟨t118, A380, H⟩ := H
                replace H : ((headroomref07_Table.f kj29 a0 t118).bind fun t119 => ((headroomref03_Same.f kj29 t105 t119).bind fun t122 => (some t122))) = some r := H
                have A38 := Aside0.mk A380
                clear A380
                replace H := Option.bind_eq_some_iff.mp H
                obtain ⟨t119, A390, H⟩ := H
                replace H : ((headroomref03_Same.f kj29 t105 t119).bind fun t122 => (some t122)) = some r := H
                have A39 := Aside0.mk A390
                clear A390
                replace H := Option.bind_eq_some_iff.mp H
                obtain ⟨t122, A400, H⟩ := H
                replace H : (some t122) = some r := H
                have A40 := Aside0.mk A400
                clear A400
                obtain rfl := Option.some.inj H
                go_wp2_with (first | (go_at_call 48; (with_reducible refine (headroomref07_Bits.calls a2 t118 _ A38.out).mono ?_); rintro e w' ⟨rfl, ⟨nd, rfl⟩⟩) | (go_at_call 45; (with_reducible refine (headroomref07_Table.calls kj29 a0 t118 t119 _ A39.out).mono ?_); rintro e w41 ⟨v120, rfl, ho0, hb⟩; have n0_ := Aside0.mk (Kd.R_elder' (by (with_reducible repeat (first | apply Kd.R_alloc | apply Kd.R_drewN | apply Kd.R_drew)); exact HO_9.out) (Kd.R_base ho0) hb); have n1_ := Aside0.mk (Kd.R_lower (Kd.R_new' ho0 (Kd.R_lt (by (with_reducible repeat (first | apply Kd.R_alloc | apply Kd.R_drewN | apply Kd.R_drew)); exact HO_9.out))) (below_size (by repeat (first | (with_reducible first | exact HB.out | apply below_alloc | apply pw_below_drewN | apply below_drew1) | exact HB.out)))); have n2_ := Aside0.mk (below_step (by repeat (first | (with_reducible first | exact HB.out | apply below_alloc | apply pw_below_drewN | apply below_drew1) | exact HB.out)) hb); clear HO_9; clear HB; have HO_9 := n0_; have HO121 := n1_; have HB := n2_; clear n0_ n1_ n2_; (try clear hb); (try clear hb2); (try clear hk); (try clear hi); (try clear ho0); obtain ⟨Ao42, co42, eo42⟩ := Kd.R_slice HO_9.out; subst eo42; obtain ⟨Ao43, co43, eo43⟩ := Kd.R_slice HO121.out; subst eo43) | (go_at_call 29; (with_reducible refine (headroomref03_Same.calls kj29 _ _ t105 _ _ t119 t122 _ ?side1 ?side2 ?side3 ?side4 A40.out).mono ?_); (case side1 => repeat (first | exact (Kd.R_reads' HO_9.out).2.2 | (with_reducible refine Kd.C_alloc ?_ _) | (with_reducible refine Kd.C_drewN ?_ _) | (with_reducible refine Kd.C_drew ?_))); (case side2 => exact (Kd.R_reads' HO_9.out).2.1); (case side3 => repeat (first | exact (Kd.R_reads' HO121.out).2.2 | (with_reducible refine Kd.C_alloc ?_ _) | (with_reducible refine Kd.C_drewN ?_ _) | (with_reducible refine Kd.C_drew ?_))); (case side4 => exact (Kd.R_reads' HO121.out).2.1); rintro e w' ⟨rfl, ⟨nd, rfl⟩⟩))
                go_ret
                exact ⟨by first | rfl | (simp [errW_none, errW_some] <;> rfl) | (simp [*, errW_none, errW_some] <;> rfl), by repeat (first | (with_reducible first | exact HB.out | apply below_alloc | apply pw_below_drewN | apply below_drew1) | exact HB.out)⟩
              · rw [if_neg c37] at H
                have c37b0 : (t106 == 0) = false := beq_eq_false_iff_ne.mpr c37
                have c37b1 : (t106 != 0) = true := bne_iff_ne.mpr c37
                obtain rfl := Option.some.inj H
                go_wp2
                go_ret
                exact ⟨by first | rfl | (simp [errW_none, errW_some] <;> rfl) | (simp [*, errW_none, errW_some] <;> rfl), by repeat (first | (with_reducible first | exact HB.out | apply below_alloc | apply pw_below_drewN | apply below_drew1) | exact HB.out)⟩

/-- THE ONE PURE STATEMENT of headroomlaw07_RootsTables: yours. -/
def headroomlaw07_RootsTables.Pure : Prop := ∀ (a0 : Int) (a1 : Int) (a2 : Int), (Lit.int .i64 a0).wf = true → (Lit.int .i64 a1).wf = true → (Lit.int .i64 a2).wf = true → ∃ k, headroomlaw07_RootsTables.f k a0 a1 a2 = some true
theorem headroomlaw07_RootsTables.walk (P : headroomlaw07_RootsTables.Pure) (a0 : Int) (a1 : Int) (a2 : Int) (w : World) (w0 : (Lit.int .i64 a0).wf = true) (w1 : (Lit.int .i64 a1).wf = true) (w2 : (Lit.int .i64 a2).wf = true) :
    Calls Try.prog 12 #[.int .i64 a0, .int .i64 a1, .int .i64 a2] w fun e w' => e = .returned (.bool true) ∧ Below w.heap.size w w' := by
  obtain ⟨k, h⟩ := P a0 a1 a2 w0 w1 w2
  refine (headroomlaw07_RootsTables.calls k a0 a1 a2 true w h).mono ?_
  rintro e w' ⟨rfl, hd⟩
  exact ⟨rfl, hd⟩

end Go.Proofs.Ytmglkelmdcpinaa.G
/- The contract of the function headroomref07_Root (number 39 of the translation): what its call computes, as a plain Lean function; memory that was there stays as it was. Conditions: none beyond the theorem's own. Written by a program (gprint.py). -/
namespace Go.Proofs.Ytmglkelmdcpinaa.G
open Go.RowKit Go.Proofs.YtmglkelmdcpinaaW.PrintWords Go.Proofs.YtmglkelmdcpinaaW.PrintLast Go.Proofs.YtmglkelmdcpinaaW.PrintMore
attribute [local go_sem] max2_int min2_int max_two min_two max_three min_three max_four min_four   -- for this text's walks alone
set_option linter.unusedVariables false
set_option linter.unusedSimpArgs false

/-! ### headroomref07_Root: function 39 -/
def headroomref07_Root.f (k : Nat) (a0 : Int) (a1 : Int) (a2 : Int) : Option (Int × Int) := (headroomref05_All.f k).bind fun bt102 => ((headroomref07_RootOf.f k bt102.1 bt102.2 a0 a1 a2).bind fun bt106 => (some (bt106.1, bt106.2)))
theorem headroomref07_Root.mono : ∀ a0 a1 a2 k, LeO (headroomref07_Root.f k a0 a1 a2) (headroomref07_Root.f (k + 1) a0 a1 a2) := by
  intro a0 a1 a2 k
  unfold headroomref07_Root.f
  repeat' first
      | (with_reducible exact headroomref05_All.mono _)
      | (with_reducible exact headroomref07_RootOf.mono _ _ _ _ _ _)
      | (with_reducible exact LeO.refl _)
      | (with_reducible exact LeO.none _)
      | (with_reducible refine LeO.ite ?_ ?_)
      | (with_reducible refine LeO.bind ?_ (fun _ => ?_))
      | exact headroomref05_All.mono _
      | exact headroomref07_RootOf.mono _ _ _ _ _ _
      | exact LeO.none _
      | refine LeO.ite ?_ ?_
      | refine LeO.bind ?_ (fun _ => ?_)
set_option maxHeartbeats 8000000 in
set_option maxRecDepth 100000 in
theorem headroomref07_Root.calls (k : Nat) (a0 : Int) (a1 : Int) (a2 : Int) (r1 : Int) (r2 : Int) (w : World) (h : headroomref07_Root.f k a0 a1 a2 = some (r1, r2)) :
    Calls Try.prog 39 #[.int .i64 a0, .int .i64 a1, .int .i64 a2] w fun e w' => e = .returned (.agg #[.int .i64 r1, .int .i64 r2]) ∧ Below w.heap.size w w' := by
  have hu43 := Try.underlying43
  have HB := Aside0.mk (Below.refl w.heap.size w)
  have H : ((headroomref05_All.f k).bind fun bt102 => ((headroomref07_RootOf.f k bt102.1 bt102.2 a0 a1 a2).bind fun bt106 => (some (bt106.1, bt106.2)))) = some (r1, r2) := h
  clear h
  replace H := Option.bind_eq_some_iff.mp H
  obtain ⟨⟨t102, t105⟩, A40, H⟩ := H
  replace H : ((headroomref07_RootOf.f k t102 t105 a0 a1 a2).bind fun bt106 => (some (bt106.1, bt106.2))) = some (r1, r2) := H
  have A4 := Aside0.mk A40
  clear A40
  replace H := Option.bind_eq_some_iff.mp H
  obtain ⟨⟨t106, t107⟩, A50, H⟩ := H
  replace H : (some (t106, t107)) = some (r1, r2) := H
  have A5 := Aside0.mk A50
  clear A50
  simp only [Option.some.injEq, Prod.mk.injEq] at H
  obtain ⟨rfl, rfl⟩ := H
  go_enter Try.func39, Try.ntmps39
  go_wp2_with (first | ((with_reducible refine gate_dst (N := 6) rfl ?_); refine box_event ?hg (N := 6) ?hd (cs := #[.int .i64 0, .int .i64 0]) (t := 43) ?hr ?_; (case hd => rfl); (case hg => rfl); (case hr => first | (go_simp; done) | (go_simp; rfl)); intro gb101 hg w6 hbox hb; have n0_ := Aside0.mk (below_step (by repeat (first | (with_reducible first | exact HB.out | apply below_alloc | apply pw_below_drewN | apply below_drew1) | exact HB.out)) hb); have n1_ := Aside0.mk (hbox); have n2_ := Aside0.mk ((by rw [hg]; exact (below_size (by repeat (first | (with_reducible first | exact HB.out | apply below_alloc | apply pw_below_drewN | apply below_drew1) | exact HB.out))) : w.heap.size ≤ gb101)); have n3_ := Aside0.mk ((by rw [hg]; exact (below_size (by repeat (first | (with_reducible first | exact HB.out | apply below_alloc | apply pw_below_drewN | apply below_drew1) | exact HB.out))) : w.heap.size ≤ gb101)); clear HB; have HB := n0_; have BK101 := n1_; have GW101 := n2_; have GE101 := n3_; clear n0_ n1_ n2_ n3_; clear hb hbox hg) | ((with_reducible refine gate_callee (f := 104) rfl ?_); refine goesL_ (some 7) rfl rfl Try.func104 (by kernel_rfl) rfl #[] rfl (by (try simp only [List.map_toArray, List.map_cons, List.map_nil]); first | done | rfl | (simp only [List.length_drop, List.length_take]; rfl)) ?_; (with_reducible refine (headroomref05_All.calls k  t102 t105 _ A4.out).mono ?_); rintro e w7 ⟨v103, rfl, ho0, hb⟩; refine ⟨_, rfl, ?_⟩; have n0_ := Aside0.mk (Kd.R_lower ho0 (below_size (by repeat (first | (with_reducible first | exact HB.out | apply below_alloc | apply pw_below_drewN | apply below_drew1 | refine below_set ?_ GE101.out) | exact HB.out)))); have n1_ := Aside0.mk (blk_below (g := gb101) (o := .cells #[.int .i64 0, .int .i64 0] 43 (0, 0)) (by (with_reducible repeat (first | refine blk_drewN ?_ _ | refine blk_drew ?_ | refine blk_alloc ?_ _)); exact BK101.out) hb); have n2_ := Aside0.mk (below_step (by repeat (first | (with_reducible first | exact HB.out | apply below_alloc | apply pw_below_drewN | apply below_drew1 | refine below_set ?_ GE101.out) | exact HB.out)) hb); clear BK101; clear HB; have HO104 := n0_; have BK101 := n1_; have HB := n2_; clear n0_ n1_ n2_; (try clear hb); (try clear hb2); (try clear hk); (try clear hi); (try clear ho0); obtain ⟨Ao8, co8, eo8⟩ := Kd.R_slice HO104.out; subst eo8) | ((with_reducible refine gate_callee (f := 103) rfl ?_); refine goesL_ (some 11) rfl rfl Try.func103 (by kernel_rfl) rfl #[.agg #[.slice Ao8 t102.length co8, .int .i64 t105], .int .i64 a0, .int .i64 a1, .int .i64 a2] rfl (by (try simp only [List.map_toArray, List.map_cons, List.map_nil]); first | done | rfl | (simp only [List.length_drop, List.length_take]; rfl)) ?_; (with_reducible refine (headroomref07_RootOf.calls k _ _ t102 t105 a0 a1 a2 t106 t107 _ ?side1 ?side2 A5.out).mono ?_); (case side1 => repeat (first | exact (Kd.R_reads' HO104.out).2.2 | (with_reducible refine Kd.C_alloc ?_ _) | (with_reducible refine Kd.C_drewN ?_ _) | (with_reducible refine Kd.C_drew ?_))); (case side2 => exact (Kd.R_reads' HO104.out).2.1); rintro e w9 ⟨rfl, hb⟩; refine ⟨_, rfl, ?_⟩; have n0_ := Aside0.mk (Kd.R_below (by (with_reducible repeat (first | apply Kd.R_alloc | apply Kd.R_drewN | apply Kd.R_drew)); exact HO104.out) hb); have n1_ := Aside0.mk (blk_below (g := gb101) (o := .cells #[.int .i64 0, .int .i64 0] 43 (0, 0)) (by (with_reducible repeat (first | refine blk_drewN ?_ _ | refine blk_drew ?_ | refine blk_alloc ?_ _)); exact BK101.out) hb); have n2_ := Aside0.mk (below_step (by repeat (first | (with_reducible first | exact HB.out | apply below_alloc | apply pw_below_drewN | apply below_drew1 | refine below_set ?_ GE101.out) | exact HB.out)) hb); clear HO104; clear BK101; clear HB; have HO104 := n0_; have BK101 := n1_; have HB := n2_; clear n0_ n1_ n2_; (try clear hb); (try clear hb2); (try clear hk); (try clear hi); have hcz10_0 : w9.cell? ⟨gb101, 0, none⟩ = some (.int .i64 0) := (blk_cell BK101.out 0).trans rfl; have hcz10_1 : w9.cell? ⟨gb101, 1, none⟩ = some (.int .i64 0) := (blk_cell BK101.out 1).trans rfl; have hfz10_0 := blk_frozen BK101.out 0; have hfz10_1 := blk_frozen BK101.out 1))
  refine bodyPost_ret (results_cell_row rfl _ _ gb101 43 #[.int .i64 t106, .int .i64 t107] (0, 0) _ rfl (by (with_reducible repeat (first | refine blk_drewN ?_ _ | refine blk_drew ?_ | refine blk_alloc ?_ _)); refine blk_put (cs := #[.int .i64 t106, .int .i64 0]) ?_ 1 _ rfl; (with_reducible repeat (first | refine blk_drewN ?_ _ | refine blk_drew ?_ | refine blk_alloc ?_ _)); refine blk_put (cs := #[.int .i64 0, .int .i64 0]) ?_ 0 _ rfl; (with_reducible repeat (first | refine blk_drewN ?_ _ | refine blk_drew ?_ | refine blk_alloc ?_ _)); exact BK101.out) Try.underlying43 rfl (by kernel_rfl)) rfl ?_
  exact ⟨by first | rfl | (simp [errW_none, errW_some] <;> rfl) | (simp [*, errW_none, errW_some] <;> rfl), by repeat (first | (with_reducible first | exact HB.out | apply below_alloc | apply pw_below_drewN | apply below_drew1 | refine below_set ?_ GE101.out) | exact HB.out)⟩

end Go.Proofs.Ytmglkelmdcpinaa.G
/- What the document's own arithmetic computes: a power of 2, a half, a quotient by a power rounded down, a shift in three modes, a quotient. Conditions: each theorem's own bounds; rounds enough. -/
namespace Go.Proofs.Ytmglkelmdcpinaa.G
open Go.RowKit Go.Proofs.Ytmglkelmdcpinaa.M
set_option linter.unusedVariables false

theorem wrap_is {x : Int} (h0 : -9223372036854775808 ≤ x) (h1 : x < 9223372036854775808) : wrap64 x = x := wrap64_id h0 h1

theorem half_is (x : Int) (h0 : -9223372036854775808 ≤ x) (h1 : x < 9223372036854775808) : headroomref01_half.f x = some (x / 2) := by
  unfold headroomref01_half.f
  by_cases hx : 0 ≤ x
  · have ht : x.tdiv 2 = x / 2 := Int.tdiv_eq_ediv_of_nonneg hx
    have hm : x.tmod 2 = x % 2 := Int.tmod_eq_emod_of_nonneg hx
    rw [ht, hm]
    split
    · rw [wrap_is (by omega) (by omega)]
    · rw [if_pos (by omega), wrap_is (by omega) (by omega)]
  · have hd := Int.mul_tdiv_add_tmod x 2
    have h2 := Int.tmod_lt_of_pos x (show (0 : Int) < 2 by decide)
    have h3 : -2 < x.tmod 2 := (tmod_range x 2 (by decide)).1
    have h4 : x.tmod 2 ≤ 0 := by
      have h5 := Int.neg_tmod (-x) 2
      have h6 := Int.tmod_nonneg 2 (show 0 ≤ -x by omega)
      rw [Int.neg_neg] at h5
      omega
    split
    · rw [wrap_is (by omega) (by omega)]
      congr 1; omega
    · rw [if_neg (by omega), wrap_is (x := x.tdiv 2) (by omega) (by omega), wrap_is (by omega) (by omega)]
      congr 1; omega

theorem floor_l0 (j : Nat) : ∀ (k : Nat) (x s i : Int), -9223372036854775808 ≤ x → x < 9223372036854775808 → 0 ≤ i → s < 1000 → s = i + j → j < k → headroomref01_Floor.l0 k x s i = some (x / 2 ^ j) := by
  induction j with
  | zero =>
    intro k x s i h0 h1 hi hs h hk
    obtain ⟨k, rfl⟩ : ∃ n, k = n + 1 := ⟨k - 1, by omega⟩
    rw [headroomref01_Floor.l0, if_neg (by omega)]
    simp
  | succ j ih =>
    intro k x s i h0 h1 hi hs h hk
    obtain ⟨k, rfl⟩ : ∃ n, k = n + 1 := ⟨k - 1, by omega⟩
    rw [headroomref01_Floor.l0, if_pos (by omega), half_is x h0 h1]
    show headroomref01_Floor.l0 k (x / 2) s (wrap64 (i + 1)) = _
    rw [wrap_is (by omega) (by omega), ih k (x / 2) s (i + 1) (by omega) (by omega) (by omega) hs (by omega) (by omega)]
    rw [Int.pow_succ, Int.mul_comm (2 ^ j) 2, Int.ediv_ediv_of_nonneg (by decide)]

theorem floor_is (k : Nat) (x : Int) (s : Nat) (h0 : -9223372036854775808 ≤ x) (h1 : x < 9223372036854775808) (hs : s < 1000) (hk : s < k) : headroomref01_Floor.f k x s = some (x / 2 ^ s) :=
  floor_l0 s k x s 0 h0 h1 (by omega) (by omega) (by omega) hk

theorem pow_l0 (j : Nat) : ∀ (k : Nat) (x s i : Int), 0 ≤ x → x * 2 ^ j < 9223372036854775808 → 0 ≤ i → s < 1000 → s = i + j → j < k → headroomref01_Pow.l0 k s x i = some (x * 2 ^ j) := by
  induction j with
  | zero =>
    intro k x s i h0 h1 hi hs h hk
    obtain ⟨k, rfl⟩ : ∃ n, k = n + 1 := ⟨k - 1, by omega⟩
    rw [headroomref01_Pow.l0, if_neg (by omega)]
    simp
  | succ j ih =>
    intro k x s i h0 h1 hi hs h hk
    obtain ⟨k, rfl⟩ : ∃ n, k = n + 1 := ⟨k - 1, by omega⟩
    have hp := pow_pos j
    have he : x * 2 ^ (j + 1) = (2 * x) * 2 ^ j := by rw [Int.pow_succ, Int.mul_comm (2 ^ j) 2, ← Int.mul_assoc, Int.mul_comm x 2]
    rw [he] at h1 ⊢
    have hle : 2 * x ≤ 2 * x * 2 ^ j := by
      have := Int.mul_le_mul_of_nonneg_left (show (1 : Int) ≤ 2 ^ j by omega) (show 0 ≤ 2 * x by omega)
      omega
    rw [headroomref01_Pow.l0, if_pos (by omega), wrap_is (x := 2 * x) (by omega) (by omega), wrap_is (by omega) (by omega)]
    exact ih k (2 * x) s (i + 1) (by omega) h1 (by omega) hs (by omega) (by omega)

theorem pow_is (k : Nat) (s : Nat) (hs : s ≤ 62) (hk : s < k) : headroomref01_Pow.f k s = some (2 ^ s) := by
  have h := pow_le (s := s) (t := 62) hs
  have := pow_l0 s k 1 s 0 (by omega) (by omega) (by omega) (by omega) (by omega) hk
  rwa [Int.one_mul] at this

theorem odd_is (x : Int) : headroomref01_odd.f x = some (decide (x % 2 = 1)) := by
  unfold headroomref01_odd.f
  congr 1
  have h : (x.tmod 2 = 0) ↔ (x % 2 = 0) := by
    rw [← Int.dvd_iff_tmod_eq_zero, Int.dvd_iff_emod_eq_zero]
  by_cases h2 : x % 2 = 0
  · rw [h.2 h2]; simp; omega
  · have : x.tmod 2 ≠ 0 := fun e => h2 (h.1 e)
    have h3 : x % 2 = 1 := by omega
    simp [this, h3]

theorem refshift_is (k : Nat) (x : Int) (s : Nat) (m : Int) (h0 : -9223372036854775808 ≤ x) (h1 : x < 9223372036854775808) (hs : s ≤ 62) (hk : s + 1 < k) (hm : m = 0 ∨ m = 1 ∨ m = 2) :
    headroomref01_Shift.f k x s m = some (rsh x s m) := by
  obtain ⟨k, rfl⟩ : ∃ j, k = j + 1 := ⟨k - 1, by omega⟩
  unfold headroomref01_Shift.f
  rw [floor_is _ x s h0 h1 (by omega) (by omega)]
  simp only [Option.bind_some]
  by_cases hz : s = 0
  · subst hz
    rw [if_pos (by rfl), headroomref01_Shift.j0, if_pos rfl]
    simp [rsh]
  rw [if_neg (by omega), headroomref01_Shift.j0]
  have hp := pow_pos s
  have hd := Int.mul_ediv_add_emod x (2 ^ s)
  have he0 : (0 : Int) ≤ x % 2 ^ s := Int.emod_nonneg _ (by omega)
  have he1 : x % 2 ^ s < 2 ^ s := Int.emod_lt_of_pos _ hp
  have h62 := pow_le hs
  have hc : (2 : Int) ^ 62 = 4611686018427387904 := by decide
  have hw1 : wrap64 ((s : Int) - 1) = ((s - 1 : Nat) : Int) := by rw [wrap_is (by omega) (by omega)]; omega
  by_cases hm0 : m = 0
  · subst hm0
    rw [if_pos (by rfl)]
    simp [rsh, hz]
  have hmb : (m == 0) = false := by simp [hm0]
  rw [hmb, if_neg (by decide), pow_is k s hs (by omega), hw1, pow_is k (s - 1) (by omega) (by omega)]
  simp only [Option.bind_some]
  have hmul : x / 2 ^ s * 2 ^ s = x - x % 2 ^ s := by rw [Int.mul_comm]; omega
  have hq0 : x / 2 ^ s ≤ 4611686018427387904 ∧ -4611686018427387904 ≤ x / 2 ^ s := by
    have hh : (2 : Int) ≤ 2 ^ s := by
      have := pow_le (s := 1) (t := s) (by omega)
      simpa using this
    have hlt : x / 2 ^ s < 4611686018427387904 := Int.ediv_lt_of_lt_mul hp (by
      have := Int.mul_le_mul_of_nonneg_left hh (show (0 : Int) ≤ 4611686018427387904 by decide)
      omega)
    have hge : -4611686018427387904 ≤ x / 2 ^ s := Int.le_ediv_of_mul_le hp (by
      have := Int.mul_le_mul_of_nonneg_left hh (show (0 : Int) ≤ 4611686018427387904 by decide)
      omega)
    omega
  have hlow : -9223372036854775808 ≤ x - x % 2 ^ s := by
    have h63 : (2 : Int) ^ (63 - s) * 2 ^ s = 9223372036854775808 := by
      rw [← Int.pow_add, show 63 - s + s = 63 by omega]; decide
    have : -(2 : Int) ^ (63 - s) ≤ x / 2 ^ s := Int.le_ediv_of_mul_le hp (by rw [Int.neg_mul, h63]; exact h0)
    have h2 := Int.mul_le_mul_of_nonneg_right this (Int.le_of_lt hp)
    rw [Int.neg_mul, h63, hmul] at h2
    exact h2
  rw [hmul, wrap_is (x := x - x % 2 ^ s) (by omega) (by omega), show x - (x - x % 2 ^ s) = x % 2 ^ s by omega, wrap_is (x := x % 2 ^ s) (by omega) (by omega), wrap_is (x := x / 2 ^ s + 1) (by omega) (by omega), odd_is]
  simp only [Option.bind_some, decide_eq_true_eq]
  unfold rsh
  rw [if_neg hz, if_neg hm0]
  by_cases hm1 : m = 1
  · rw [if_pos hm1, if_pos hm1]
    split
    · rw [if_pos (by omega)]
    · split
      · rw [if_pos (by omega)]
      · rw [if_neg (by omega)]
  · rw [if_neg hm1, if_neg hm1]
    split
    · rw [if_pos (by left; omega)]
    · split
      · rename_i h5
        split
        · rename_i h6
          rw [if_pos (by right; exact ⟨h5, h6⟩)]
        · rename_i h6
          rw [if_neg (by rintro (h | ⟨_, h⟩); omega; exact h6 h)]
      · rename_i h4 h5
        rw [if_neg (by rintro (h | ⟨h, _⟩); omega; exact h5 h)]
end Go.Proofs.Ytmglkelmdcpinaa.G
/- round.Shift's value, as the plain rounded quotient; and when it is refused. Conditions: a number of 64 bits, a shift of 1 to 62, a mode of 0 to 2. -/
namespace Go.Proofs.Ytmglkelmdcpinaa.G
open Go.RowKit Go.Proofs.Ytmglkelmdcpinaa.M

theorem q_eq (x s m : Int) (hx0 : -9223372036854775808 ≤ x) (hx1 : x < 9223372036854775808) (h1 : 1 ≤ s) (h2 : s ≤ 62) (hm : m = 0 ∨ m = 1 ∨ m = 2) : round_Shift.q x s m = rsh x s.toNat m := by
  obtain ⟨n, rfl⟩ := Int.eq_ofNat_of_zero_le (show 0 ≤ s by omega)
  simp only [Int.toNat_natCast]
  have hn1 : 1 ≤ n := by omega
  have hn2 : n ≤ 62 := by omega
  have hp := pow_pos n
  have hle := pow_le (s := n) (t := 62) hn2
  have h62 : (2 : Int) ^ 62 = 4611686018427387904 := by decide
  have hp' := pow_pos (n - 1)
  have hle' := pow_le (s := n - 1) (t := 62) (by omega)
  have two : (2 : Int) ≤ 2 ^ n := by have := pow_le (s := 1) (t := n) hn1; simpa using this
  have w1 : wrap64 (2 ^ n) = 2 ^ n := wrap64_id (by omega) (by omega)
  have w2 : wrap64 (wrap64 (2 ^ n) - 1) = 2 ^ n - 1 := by rw [w1]; exact wrap64_id (by omega) (by omega)
  have w3 : wrap64 (2 ^ (n - 1)) = 2 ^ (n - 1) := wrap64_id (by omega) (by omega)
  have hd := Int.mul_ediv_add_emod x (2 ^ n)
  have r0 : (0 : Int) ≤ x % 2 ^ n := Int.emod_nonneg _ (by omega)
  have r1 : x % 2 ^ n < 2 ^ n := Int.emod_lt_of_pos _ hp
  have b0 : -4611686018427387904 ≤ x / 2 ^ n := by
    apply Int.le_ediv_of_mul_le hp
    have : (-4611686018427387904 : Int) * 2 ^ n ≤ -4611686018427387904 * 2 := by omega
    omega
  have b1 : x / 2 ^ n < 4611686018427387904 := by
    apply Int.ediv_lt_of_lt_mul hp
    omega
  have w4 : wrap64 (x / 2 ^ n + 1) = x / 2 ^ n + 1 := wrap64_id (by omega) (by omega)
  unfold round_Shift.q round_Shift.up rsh
  rw [if_neg (show ¬ n = 0 by omega)]
  simp only [Int.toNat_natCast]
  rw [w2, w3, w4, and_mask _ _ hn2, and_one]
  rcases hm with rfl | rfl | rfl
  · simp
  · simp only [round_modes.u2]
    simp
  · simp only [round_modes.u3]
    simp

theorem shift_some (x s m : Int) (hx0 : -9223372036854775808 ≤ x) (hx1 : x < 9223372036854775808) (h1 : 0 ≤ s) (h2 : s ≤ 62) (hm : m = 0 ∨ m = 1 ∨ m = 2) : round_Shift.f x s m = some (rsh x s.toNat m, 0) := by
  unfold round_Shift.f
  rw [if_neg (by omega)]
  by_cases h : s = 0
  · subst h
    simp [rsh]
  · rw [if_neg h, q_eq x s m hx0 hx1 (by omega) h2 hm]
theorem shift_none (x s m : Int) (h : s < 0 ∨ 62 < s ∨ m < 0 ∨ 3 ≤ m) : round_Shift.f x s m = some (0, 1) := by
  unfold round_Shift.f
  rw [if_pos h]
end Go.Proofs.Ytmglkelmdcpinaa.G
/- A root of 1, as a plain value: the point of a part of a quarter turn (kernel-reckoned at the lengths 4 to 64), shifted, turned, conjugate. Conditions: a length's log of 2 to 6, bits of 0 to 40. -/
namespace Go.Proofs.Ytmglkelmdcpinaa.G
open Go.RowKit Go.Proofs.YtmglkelmdcpinaaW.PrintWords Go.Proofs.Ytmglkelmdcpinaa.M
set_option linter.unusedVariables false

/-- The point of a part u of a quarter turn, at a length's log. -/
def pointV (L : Nat) (u : Int) : Int × Int := (roots_point.f L u).getD (0, 0)
def pointOk (L : Nat) (u : Nat) : Bool := match roots_point.f L u with
  | some p => decide (0 ≤ p.1) && decide (p.1 ≤ 72057594037927940) && decide (0 ≤ p.2) && decide (p.2 ≤ 72057594037927940)
  | none => false
theorem point_all : ([2, 3, 4, 5, 6].all fun L => (List.range (2 ^ L)).all fun u => pointOk L u) = true := by decide +kernel
theorem point_is (L u : Nat) (h2 : 2 ≤ L) (h6 : L ≤ 6) (hu : u < 2 ^ L) : roots_point.f L u = some (pointV L u) ∧ 0 ≤ (pointV L u).1 ∧ (pointV L u).1 ≤ 72057594037927940 ∧ 0 ≤ (pointV L u).2 ∧ (pointV L u).2 ≤ 72057594037927940 := by
  have h := point_all
  rw [List.all_eq_true] at h
  have h1 := h L (by rcases (by omega : L = 2 ∨ L = 3 ∨ L = 4 ∨ L = 5 ∨ L = 6) with rfl | rfl | rfl | rfl | rfl <;> simp)
  rw [List.all_eq_true] at h1
  have h3 := h1 u (List.mem_range.2 hu)
  unfold pointOk at h3
  unfold pointV
  cases hp : roots_point.f L u with
  | none => rw [hp] at h3; cases h3
  | some p =>
    rw [hp] at h3
    simp only [Bool.and_eq_true, decide_eq_true_eq] at h3
    simp only [Option.getD_some]
    exact ⟨trivial, by omega, by omega, by omega, by omega⟩

/-- A root's parts, of a remainder of a place. -/
def shiftV (L : Nat) (r : Int) (B : Nat) : Int × Int := (rsh (pointV L (4 * r % 2 ^ L)).1 (56 - B) 1, rsh (pointV L (4 * r % 2 ^ L)).2 (56 - B) 1)
def rootV (L : Nat) (r : Int) (B : Nat) : Int × Int :=
  ((turnIt (4 * r / 2 ^ L).toNat (shiftV L r B).1 (shiftV L r B).2).1, wrap64 (-(turnIt (4 * r / 2 ^ L).toNat (shiftV L r B).1 (shiftV L r B).2).2))

theorem rsh_small (x : Int) (s : Nat) (m : Int) (h0 : 0 ≤ x) (h1 : x ≤ 72057594037927940) : 0 ≤ rsh x s m ∧ rsh x s m ≤ 72057594037927940 := by
  have hp := pow_pos s
  have hq0 : 0 ≤ x / 2 ^ s := Int.ediv_nonneg h0 (by omega)
  have hq1 : x / 2 ^ s ≤ x := Int.ediv_le_self _ h0
  unfold rsh
  split
  · omega
  rename_i hs
  have hq2 : x / 2 ^ s ≤ x / 2 := by
    have hh : (2 : Int) ≤ 2 ^ s := by
      have := pow_le (s := 1) (t := s) (by omega)
      simpa using this
    exact Int.le_ediv_of_mul_le (by decide) (Int.le_trans (Int.mul_le_mul_of_nonneg_left hh hq0) (Int.ediv_mul_le x (by omega)))
  repeat' split
  all_goals omega

theorem shiftV_bound (L : Nat) (r : Int) (B : Nat) (h2 : 2 ≤ L) (h6 : L ≤ 6) : 0 ≤ (shiftV L r B).1 ∧ (shiftV L r B).1 ≤ 72057594037927940 ∧ 0 ≤ (shiftV L r B).2 ∧ (shiftV L r B).2 ≤ 72057594037927940 := by
  have hp := pow_pos L
  obtain ⟨u, hu⟩ : ∃ u : Nat, 4 * r % 2 ^ L = u := ⟨(4 * r % 2 ^ L).toNat, (Int.toNat_of_nonneg (Int.emod_nonneg _ (by omega))).symm⟩
  have hlt : u < 2 ^ L := by
    have := Int.emod_lt_of_pos (4 * r) hp
    rw [hu] at this
    exact_mod_cast this
  have h := point_is L u h2 h6 hlt
  unfold shiftV
  rw [hu]
  have := rsh_small (pointV L u).1 (56 - B) 1 h.2.1 h.2.2.1
  have := rsh_small (pointV L u).2 (56 - B) 1 h.2.2.2.1 h.2.2.2.2
  omega

theorem turn_small (c : Nat) (x y : Int) (hc : c ≤ 3) (h0 : 0 ≤ x) (h1 : x ≤ 72057594037927940) (h2 : 0 ≤ y) (h3 : y ≤ 72057594037927940) :
    -72057594037927940 ≤ (turnIt c x y).1 ∧ (turnIt c x y).1 ≤ 72057594037927940 ∧ -72057594037927940 ≤ (turnIt c x y).2 ∧ (turnIt c x y).2 ≤ 72057594037927940 := by
  rcases (by omega : c = 0 ∨ c = 1 ∨ c = 2 ∨ c = 3) with rfl | rfl | rfl | rfl
  · simp only [turnIt]; omega
  · simp only [turnIt]; rw [wrap64_id (by omega) (by omega)]; omega
  · simp only [turnIt]; rw [wrap64_id (x := -y) (by omega) (by omega), wrap64_id (by omega) (by omega)]; omega
  · simp only [turnIt]; rw [wrap64_id (x := -y) (by omega) (by omega), wrap64_id (x := -x) (by omega) (by omega), wrap64_id (by omega) (by omega)]; omega

theorem within_small (x y : Int) (h : -72057594037927940 ≤ x ∧ x ≤ 72057594037927940 ∧ -72057594037927940 ≤ y ∧ y ≤ 72057594037927940) : within 2305843009213693952 [⟨x, y⟩] = true := by
  unfold within
  simp only [List.all_cons, List.all_nil, Bool.and_true, Bool.and_eq_true, decide_eq_true_eq, mx, mn]
  omega

theorem root_is (L : Nat) (k : Int) (B : Nat) (h2 : 2 ≤ L) (h6 : L ≤ 6) (hB : B ≤ 40) : roots_root.f L k B = some (rootV L (k % 2 ^ L) B) := by
  have hp := pow_pos L
  have h64 := pow_le h6
  have hc : (2 : Int) ^ 6 = 64 := by decide
  have hr0 : 0 ≤ k % 2 ^ L := Int.emod_nonneg _ (by omega)
  have hr1 : k % 2 ^ L < 2 ^ L := Int.emod_lt_of_pos _ hp
  have hs : wrap64 (shl .i64 1 L - 1) = 2 ^ L - 1 := by
    rcases (by omega : L = 2 ∨ L = 3 ∨ L = 4 ∨ L = 5 ∨ L = 6) with rfl | rfl | rfl | rfl | rfl <;> decide +kernel
  have hsr : ∀ x : Int, shr .i64 x L = x / 2 ^ L := by
    intro x
    rcases (by omega : L = 2 ∨ L = 3 ∨ L = 4 ∨ L = 5 ∨ L = 6) with rfl | rfl | rfl | rfl | rfl <;> rfl
  unfold roots_root.f
  rw [if_pos (by omega), hs, and_mask k L (by omega)]
  generalize hk : k % 2 ^ L = r at hr0 hr1
  rw [wrap64_id (x := 4 * r) (by omega) (by omega), and_mask _ L (by omega), hsr]
  obtain ⟨u, hu⟩ : ∃ u : Nat, 4 * r % 2 ^ L = u := ⟨(4 * r % 2 ^ L).toNat, (Int.toNat_of_nonneg (Int.emod_nonneg _ (by omega))).symm⟩
  have hlt : u < 2 ^ L := by
    have := Int.emod_lt_of_pos (4 * r) hp
    rw [hu] at this
    exact_mod_cast this
  have hP := point_is L u h2 h6 hlt
  rw [hu, hP.1]
  simp only [Option.bind_some]
  have hw : wrap64 (56 - (B : Int)) = ((56 - B : Nat) : Int) := by rw [wrap64_id (by omega) (by omega)]; omega
  have hS : cx_Shift.f (pointV L u).1 (pointV L u).2 (wrap64 (56 - (B : Int))) 1 = some ((shiftV L r B).1, (shiftV L r B).2, 0) := by
    unfold cx_Shift.f shiftV
    rw [hw, shift_some _ _ _ (by omega) (by omega) (by omega) (by omega) (by simp), hu]
    simp only [Option.bind_some, if_true, Int.toNat_natCast]
    rw [shift_some _ _ _ (by omega) (by omega) (by omega) (by omega) (by simp)]
    simp
  rw [hS]
  simp only [Option.bind_some]
  have hb := shiftV_bound L r B h2 h6
  have hq0 : 0 ≤ 4 * r / 2 ^ L := Int.ediv_nonneg (by omega) (by omega)
  have hq1 : 4 * r / 2 ^ L < 4 := Int.ediv_lt_of_lt_mul hp (by omega)
  have hcc : cx_Turn.c (4 * r / 2 ^ L) = (4 * r / 2 ^ L).toNat := by unfold cx_Turn.c; congr 1; omega
  unfold cx_Turn.f
  rw [if_pos (within_small _ _ (by omega)), hcc]
  have ht := turn_small (4 * r / 2 ^ L).toNat (shiftV L r B).1 (shiftV L r B).2 (by omega) hb.1 hb.2.1 hb.2.2.1 hb.2.2.2
  simp only [Option.bind_some]
  unfold cx_Conj.f
  rw [if_pos (within_small _ _ ht)]
  rfl
end Go.Proofs.Ytmglkelmdcpinaa.G
/- The document's root of 1 is the same plain value. Conditions: a length's log of 2 to 6, bits of 0 to 40; 300 rounds. -/
namespace Go.Proofs.Ytmglkelmdcpinaa.G
open Go.RowKit Go.Proofs.YtmglkelmdcpinaaW.PrintWords Go.Proofs.Ytmglkelmdcpinaa.M
set_option linter.unusedVariables false

def refAngles : List Int := [56593902016227522, 33409331186036029, 17652573055549881, 8960721713639278, 4497749271019253, 2251067235130761, 1125808294293075, 562938500594602, 281473545067998, 140737309398767, 70368721808055, 35184369292630, 17592185694891, 8796092978518, 4398046505643, 2199023254870, 1099511627691, 549755813878, 274877906943, 137438953472, 68719476736, 34359738368, 17179869184, 8589934592, 4294967296, 2147483648, 1073741824, 536870912, 268435456, 134217728, 67108864, 33554432, 16777216, 8388608, 4194304, 2097152, 1048576, 524288, 262144, 131072, 65536, 32768, 16384, 8192, 4096]
theorem refall_is : headroomref05_All.f 300 = some (refAngles, 43757185469210200) := by decide +kernel
theorem inverse_is : gain_Inverse.f = some 43757185469210200 := by decide +kernel
theorem angles_rd : ((List.range 45).all fun i => decide (rd refAngles (i : Nat) = ang i)) = true := by decide +kernel
theorem angle_is (i : Nat) (h : i < 45) : rd refAngles i = ang i := by
  have := angles_rd
  rw [List.all_eq_true] at this
  have h1 := this i (List.mem_range.2 h)
  rwa [decide_eq_true_eq] at h1
theorem wrap_range (x : Int) : -9223372036854775808 ≤ wrap64 x ∧ wrap64 x < 9223372036854775808 := by unfold wrap64; omega
theorem refstep_is (k : Nat) (x y z : Int) (i : Nat) (hx0 : -9223372036854775808 ≤ x) (hx1 : x < 9223372036854775808) (hy0 : -9223372036854775808 ≤ y) (hy1 : y < 9223372036854775808) (hi : i < 45) (hk : i < k) :
    headroomref05_step.f k x y z i (ang i) = some (turnStep (x, y, z) i) := by
  unfold headroomref05_step.f turnStep
  rw [floor_is k x i hx0 hx1 (by omega) hk, floor_is k y i hy0 hy1 (by omega) hk]
  simp only [Option.bind_some]
  by_cases hz : 0 ≤ z
  · rw [if_pos hz, if_pos hz]
  · rw [if_neg hz, if_neg hz]
theorem turns_range (p : Int × Int × Int) (h : (-9223372036854775808 ≤ p.1 ∧ p.1 < 9223372036854775808) ∧ -9223372036854775808 ≤ p.2.1 ∧ p.2.1 < 9223372036854775808) (i : Nat) :
    (-9223372036854775808 ≤ (turns i p).1 ∧ (turns i p).1 < 9223372036854775808) ∧ -9223372036854775808 ≤ (turns i p).2.1 ∧ (turns i p).2.1 < 9223372036854775808 := by
  cases i with
  | zero => exact h
  | succ i =>
    unfold turns turnStep
    split <;> exact ⟨wrap_range _, wrap_range _⟩
theorem run_l0 (p : Int × Int × Int) (h : (-9223372036854775808 ≤ p.1 ∧ p.1 < 9223372036854775808) ∧ -9223372036854775808 ≤ p.2.1 ∧ p.2.1 < 9223372036854775808) (j : Nat) : ∀ (i k : Nat), i + j = 45 → 60 + j < k →
    headroomref05_RunOf.l0 k refAngles 45 i (turns i p).1 (turns i p).2.1 (turns i p).2.2 = some (turns 45 p) := by
  induction j with
  | zero =>
    intro i k hi hk
    obtain ⟨k, rfl⟩ : ∃ n, k = n + 1 := ⟨k - 1, by omega⟩
    obtain rfl : i = 45 := by omega
    rw [headroomref05_RunOf.l0, if_neg (by omega)]
  | succ j ih =>
    intro i k hi hk
    obtain ⟨k, rfl⟩ : ∃ n, k = n + 1 := ⟨k - 1, by omega⟩
    have hr := turns_range p h i
    rw [headroomref05_RunOf.l0, if_pos (by omega), if_pos (by omega), if_pos (by show (i : Int) < 45; omega), angle_is i (by omega), refstep_is k _ _ _ i hr.1.1 hr.1.2 hr.2.1 hr.2.2 (by omega) (by omega)]
    simp only [Option.bind_some]
    rw [wrap64_id (by omega) (by omega)]
    exact ih (i + 1) k (by omega) (by omega)
theorem ang0_is : ang 0 = 56593902016227522 := by decide +kernel
theorem refeighth_is (j : Int) (L : Nat) (h2 : 2 ≤ L) (h6 : L ≤ 6) (h0 : 0 ≤ j) (h1 : j ≤ 2 ^ L) :
    (headroomref06_EighthOf.f 300 refAngles 43757185469210200 j L = some ((turns 45 (43757185469210200, 0, ang 0 * j / 2 ^ L)).1, (turns 45 (43757185469210200, 0, ang 0 * j / 2 ^ L)).2.1)) ∧
    circle_Eighth.f j L = some ((turns 45 (43757185469210200, 0, ang 0 * j / 2 ^ L)).1, (turns 45 (43757185469210200, 0, ang 0 * j / 2 ^ L)).2.1, 0) := by
  have hp := pow_pos L
  have h64 := pow_le h6
  have hc : (2 : Int) ^ 6 = 64 := by decide
  have ha := ang0_is
  have hm : ang 0 * j ≤ ang 0 * 64 := Int.mul_le_mul_of_nonneg_left (by omega) (by omega)
  have hm2 : ang 0 * j ≤ ang 0 * 2 ^ L := Int.mul_le_mul_of_nonneg_left h1 (by omega)
  have hm0 : 0 ≤ ang 0 * j := Int.mul_nonneg (by omega) h0
  have hz0 : 0 ≤ ang 0 * j / 2 ^ L := Int.ediv_nonneg hm0 (by omega)
  have hz1 : ang 0 * j / 2 ^ L ≤ ang 0 := by
    have := Int.ediv_le_ediv hp hm2
    rwa [Int.mul_ediv_cancel _ (by omega)] at this
  have hrd : rd refAngles 0 = ang 0 := angle_is 0 (by omega)
  constructor
  · unfold headroomref06_EighthOf.f
    rw [if_pos (by decide), hrd, wrap64_id (x := ang 0 * j) (by omega) (by omega), floor_is 300 _ L (by omega) (by omega) (by omega) (by omega)]
    simp only [Option.bind_some]
    unfold headroomref05_RunOf.f
    have := run_l0 (43757185469210200, 0, ang 0 * j / 2 ^ L) (by simp) 45 0 300 (by omega) (by omega)
    rw [show ((refAngles.length : Nat) : Int) = 45 by rfl]
    erw [this]
    simp only [Option.bind_some]
  · unfold circle_Eighth.f eighth.angle
    rw [if_pos (by simp [eighth.is]; omega), wrap64_id (by omega) (by omega), Int.toNat_natCast]
    unfold toldPoint
    rw [inverse_is]
    simp only [Option.bind_some]
    unfold gain_Run.f
    rw [if_neg (by omega), if_neg (by omega), if_neg (by omega), if_neg (by omega)]
    unfold gain_run.f
    simp only [Option.bind_some]
theorem refpoint_is (L u : Nat) (h2 : 2 ≤ L) (h6 : L ≤ 6) (hu : u < 2 ^ L) : headroomref07_point.f 300 refAngles 43757185469210200 L u = some (pointV L u) := by
  rw [← (point_is L u h2 h6 hu).1]
  have hp := pow_pos L
  have h64 := pow_le h6
  have hc : (2 : Int) ^ 6 = 64 := by decide
  have hu' : (u : Int) < 2 ^ L := by exact_mod_cast hu
  have hsh : shl .i64 1 L = 2 ^ L := by
    rcases (by omega : L = 2 ∨ L = 3 ∨ L = 4 ∨ L = 5 ∨ L = 6) with rfl | rfl | rfl | rfl | rfl <;> decide +kernel
  unfold headroomref07_point.f roots_point.f
  rw [pow_is 300 L (by omega) (by omega), if_pos (by omega), hsh, wrap64_id (x := 2 * (u : Int)) (by omega) (by omega)]
  simp only [Option.bind_some]
  by_cases c1 : 2 * (u : Int) < 2 ^ L
  · have h := refeighth_is (2 * u) L h2 h6 (by omega) (by omega)
    rw [if_pos c1, if_pos c1, h.1, h.2]
    simp only [Option.bind_some]
  · rw [if_neg c1, if_neg c1]
    by_cases c2 : 2 * (u : Int) > 2 ^ L
    · have h := refeighth_is (2 * (2 ^ L - u)) L h2 h6 (by omega) (by omega)
      rw [if_pos c2, if_pos c2, wrap64_id (x := 2 ^ L - (u : Int)) (by omega) (by omega), wrap64_id (by omega) (by omega), h.1, h.2]
      simp only [Option.bind_some]
    · have h := refeighth_is (2 ^ L) L h2 h6 (by omega) (by omega)
      rw [if_neg c2, if_neg c2, h.1, h.2]
      simp only [Option.bind_some]

theorem left_is (x : Int) (L : Nat) (h6 : L ≤ 6) : headroomref07_left.f x (2 ^ L) = some (x % 2 ^ L) := by
  have hp := pow_pos L
  have h64 := pow_le h6
  have hc : (2 : Int) ^ 6 = 64 := by decide
  unfold headroomref07_left.f
  rw [if_neg (by omega)]
  have h1 := tmod_range x (2 ^ L) hp
  have hd := Int.mul_tdiv_add_tmod x (2 ^ L)
  have he : x % 2 ^ L = (x.tmod (2 ^ L)) % 2 ^ L := by
    conv => lhs; rw [← hd]
    rw [Int.add_comm, Int.add_mul_emod_self_left]
  split
  · rw [wrap64_id (by omega) (by omega), he]
    congr 1
    rw [← Int.add_emod_right, Int.emod_eq_of_lt (by omega) (by omega)]
  · rw [he, Int.emod_eq_of_lt (by omega) (by omega)]

theorem refroot_is (L : Nat) (k : Int) (B : Nat) (h2 : 2 ≤ L) (h6 : L ≤ 6) (hB : B ≤ 40) : headroomref07_Root.f 300 L k B = some (rootV L (k % 2 ^ L) B) := by
  have hp := pow_pos L
  have h64 := pow_le h6
  have hc : (2 : Int) ^ 6 = 64 := by decide
  have hr0 : 0 ≤ k % 2 ^ L := Int.emod_nonneg _ (by omega)
  have hr1 : k % 2 ^ L < 2 ^ L := Int.emod_lt_of_pos _ hp
  unfold headroomref07_Root.f
  rw [refall_is]
  simp only [Option.bind_some]
  unfold headroomref07_RootOf.f
  rw [pow_is 300 L (by omega) (by omega)]
  simp only [Option.bind_some]
  rw [left_is k L h6]
  simp only [Option.bind_some]
  generalize hk : k % 2 ^ L = r at hr0 hr1
  rw [wrap64_id (x := 4 * r) (by omega) (by omega), left_is _ L h6]
  simp only [Option.bind_some]
  obtain ⟨u, hu⟩ : ∃ u : Nat, 4 * r % 2 ^ L = u := ⟨(4 * r % 2 ^ L).toNat, (Int.toNat_of_nonneg (Int.emod_nonneg _ (by omega))).symm⟩
  have hlt : u < 2 ^ L := by
    have := Int.emod_lt_of_pos (4 * r) hp
    rw [hu] at this
    exact_mod_cast this
  have hP := point_is L u h2 h6 hlt
  rw [hu, refpoint_is L u h2 h6 hlt]
  simp only [Option.bind_some]
  have hw : wrap64 (56 - (B : Int)) = ((56 - B : Nat) : Int) := by rw [wrap64_id (by omega) (by omega)]; omega
  have hS : headroomref03_Shift.f 300 (pointV L u).1 (pointV L u).2 (wrap64 (56 - (B : Int))) 1 = some (shiftV L r B) := by
    unfold headroomref03_Shift.f shiftV
    rw [hw, refshift_is 300 _ _ _ (by omega) (by omega) (by omega) (by omega) (by simp), refshift_is 300 _ _ _ (by omega) (by omega) (by omega) (by omega) (by simp), hu]
    rfl
  rw [hS]
  simp only [Option.bind_some]
  have hb := shiftV_bound L r B h2 h6
  have hq0 : 0 ≤ 4 * r / 2 ^ L := Int.ediv_nonneg (by omega) (by omega)
  have hq1 : 4 * r / 2 ^ L < 4 := Int.ediv_lt_of_lt_mul hp (by omega)
  have hD : headroomref01_Div.f (4 * r) (2 ^ L) = some (4 * r / 2 ^ L) := by
    unfold headroomref01_Div.f
    rw [if_neg (by omega), if_neg (by omega), Int.tdiv_eq_ediv_of_nonneg (by omega), wrap64_id (by omega) (by omega)]
  rw [hD]
  simp only [Option.bind_some]
  unfold rootV
  generalize 4 * r / 2 ^ L = c at hq0 hq1 ⊢
  have hT : headroomref03_Turn.f 300 (shiftV L r B).1 (shiftV L r B).2 c = some (turnIt c.toNat (shiftV L r B).1 (shiftV L r B).2) := by
    generalize (shiftV L r B).1 = x at hb ⊢
    generalize (shiftV L r B).2 = y at hb ⊢
    rcases (by omega : c = 0 ∨ c = 1 ∨ c = 2 ∨ c = 3) with rfl | rfl | rfl | rfl
    · rfl
    · rfl
    · rfl
    · show some (y, wrap64 (-x)) = some (wrap64 (-(wrap64 (-y))), wrap64 (-x))
      rw [wrap64_id (x := -y) (by omega) (by omega), Int.neg_neg, wrap64_id (x := y) (by omega) (by omega)]
  rw [hT]
  simp only [Option.bind_some, headroomref03_Conj.f]
end Go.Proofs.Ytmglkelmdcpinaa.G
/- RootsTables' call answers true at any numbers of 64 bits, and leaves memory that was there as it was. Conditions: none. -/
namespace Go.Proofs.Ytmglkelmdcpinaa.G
open Go.RowKit Go.Proofs.YtmglkelmdcpinaaW.PrintWords Go.Proofs.Ytmglkelmdcpinaa.M
set_option linter.unusedVariables false

def mayB (L B : Int) : Bool := decide (2 ≤ L ∧ L ≤ 6 ∧ 0 ≤ B ∧ B ≤ 40)
theorem may_is (L B : Int) : roots_may.f L B = some (mayB L B) := by
  unfold roots_may.f mayB
  by_cases h : 0 ≤ B ∧ B ≤ 62
  · rw [shift_some 0 B 1 (by decide) (by decide) h.1 h.2 (by simp)]
    simp only [Option.bind_some, if_true]
    by_cases h1 : L ≥ 2
    · rw [if_pos h1]
      by_cases h2 : L ≤ 6
      · rw [if_pos h2]; congr 1; apply decide_eq_decide.2; omega
      · rw [if_neg h2]; congr 1; symm; apply decide_eq_false; omega
    · rw [if_neg h1]; congr 1; symm; apply decide_eq_false; omega
  · rw [shift_none 0 B 1 (by omega)]
    simp only [Option.bind_some]
    by_cases h1 : L ≥ 2
    · rw [if_pos h1]
      by_cases h2 : L ≤ 6
      · rw [if_pos h2, if_neg (by decide)]; congr 1; symm; apply decide_eq_false; omega
      · rw [if_neg h2]; congr 1; symm; apply decide_eq_false; omega
    · rw [if_neg h1]; congr 1; symm; apply decide_eq_false; omega
theorem refmay_is (L B : Int) : headroomref07_May.f L B = some (mayB L B) := by
  unfold headroomref07_May.f headroomref07_Log.f mayB
  by_cases h1 : L ≥ 2
  · rw [if_pos h1]
    simp only [Option.bind_some, decide_eq_true_eq]
    by_cases h2 : L ≤ 6
    · rw [if_pos h2]
      by_cases h3 : B ≥ 0
      · rw [if_pos h3]; congr 1; apply decide_eq_decide.2; omega
      · rw [if_neg h3]; congr 1; symm; apply decide_eq_false; omega
    · rw [if_neg h2]; congr 1; symm; apply decide_eq_false; omega
  · rw [if_neg h1]
    simp only [Option.bind_some, Bool.false_eq_true, if_false]
    congr 1; symm; apply decide_eq_false; omega
theorem rootsalive : headroomlaw07_alive.f = some true := by decide +kernel
/-- A table of roots, as the document has it. -/
def tabV (L B : Nat) (k : Nat) : S43 := ⟨(rootV L k B).1, (rootV L k B).2⟩
def tabR (L B : Nat) : List S43 := (List.range (2 ^ L)).map (tabV L B)
theorem small_mod (L k : Nat) (hk : k < 2 ^ L) : (k : Int) % 2 ^ L = k := by
  have : (k : Int) < 2 ^ L := by exact_mod_cast hk
  exact Int.emod_eq_of_lt (by omega) this
theorem table_is (L B : Int) : roots_Table.f L B = some (if mayB L B = true then (tabR L.toNat B.toNat, 0) else ([], 1)) := by
  unfold roots_Table.f
  rw [may_is]
  simp only [Option.bind_some]
  by_cases h : mayB L B = true
  · rw [if_pos h, if_pos h]
    simp only [mayB, decide_eq_true_eq] at h
    obtain ⟨L, rfl⟩ : ∃ l : Nat, L = l := ⟨L.toNat, by omega⟩
    obtain ⟨B, rfl⟩ : ∃ b : Nat, B = b := ⟨B.toNat, by omega⟩
    simp only [Int.toNat_natCast]
    have hk : ∀ k : Nat, k < 2 ^ L → roots_root.f (L : Int) k B = some (rootV L k B) := by
      intro k hk
      rw [root_is L k B (by omega) (by omega) (by omega), small_mod L k hk]
    rw [if_pos ?_]
    · congr 2
      unfold tabR
      apply List.map_congr_left
      intro k hm
      have := hk k (List.mem_range.1 hm)
      unfold tabS roots_Table.at tabV
      rw [this]
      rfl
    · rw [List.all_eq_true]
      intro k hm
      rw [hk k (List.mem_range.1 hm)]
      rfl
  · rw [if_neg h, if_neg h]
theorem rootof_is (L : Nat) (k : Int) (B : Nat) (h2 : 2 ≤ L) (h6 : L ≤ 6) (hB : B ≤ 40) : headroomref07_RootOf.f 300 refAngles 43757185469210200 L k B = some (rootV L (k % 2 ^ L) B) := by
  have h := refroot_is L k B h2 h6 hB
  unfold headroomref07_Root.f at h
  rw [refall_is] at h
  simp only [Option.bind_some] at h
  obtain ⟨p, hp, h⟩ := Option.bind_eq_some_iff.mp h
  rw [hp]
  exact h
theorem leo_up {α : Type} {f : Nat → Option α} (h : ∀ k, LeO (f k) (f (k + 1))) {k : Nat} {r : α} (h0 : f k = some r) : ∀ j, f (k + j) = some r
  | 0 => h0
  | j + 1 => h (k + j) r (leo_up h h0 j)
theorem rootof_up (K L : Nat) (k : Int) (B : Nat) (h2 : 2 ≤ L) (h6 : L ≤ 6) (hB : B ≤ 40) (hK : 300 ≤ K) : headroomref07_RootOf.f K refAngles 43757185469210200 L k B = some (rootV L (k % 2 ^ L) B) := by
  have := leo_up (f := fun K => headroomref07_RootOf.f K refAngles 43757185469210200 L k B) (fun K => headroomref07_RootOf.mono _ _ _ _ _ K) (rootof_is L k B h2 h6 hB) (K - 300)
  rwa [show 300 + (K - 300) = K by omega] at this
theorem reftable_l0 (L B : Nat) (h2 : 2 ≤ L) (h6 : L ≤ 6) (hB : B ≤ 40) : ∀ (j K i : Nat), i + j = 2 ^ L → 300 + j < K → headroomref07_Table.l0 K L B ((List.range i).map (tabV L B)) i refAngles 43757185469210200 = some (tabR L B) := by
  have hn : 2 ^ L ≤ 64 := by
    have := Nat.pow_le_pow_right (n := 2) (by decide) h6
    simpa using this
  intro j
  induction j with
  | zero =>
    intro K i hi hK
    obtain ⟨K, rfl⟩ : ∃ k, K = k + 1 := ⟨K - 1, by omega⟩
    have hi' : ((2 : Int) ^ L) = ((2 ^ L : Nat) : Int) := by norm_cast
    rw [headroomref07_Table.l0, pow_is K L (by omega) (by omega)]
    simp only [Option.bind_some]
    rw [if_neg (by omega), show i = 2 ^ L by omega]
    rfl
  | succ j ih =>
    intro K i hi hK
    obtain ⟨K, rfl⟩ : ∃ k, K = k + 1 := ⟨K - 1, by omega⟩
    have hi' : ((2 : Int) ^ L) = ((2 ^ L : Nat) : Int) := by norm_cast
    rw [headroomref07_Table.l0, pow_is K L (by omega) (by omega)]
    simp only [Option.bind_some]
    rw [if_pos (by omega), rootof_up K L i B h2 h6 hB (by omega)]
    simp only [Option.bind_some]
    rw [if_pos (by simp; omega), small_mod L i (by omega), wrap64_id (by omega) (by omega)]
    have := ih K (i + 1) (by omega) (by omega)
    rw [List.range_succ, List.map_append] at this
    rw [← this, Int.natCast_succ]
    rfl
theorem refall_up (K : Nat) (hK : 300 ≤ K) : headroomref05_All.f K = some (refAngles, 43757185469210200) := by
  have := leo_up (f := fun K => headroomref05_All.f K) (fun K => headroomref05_All.mono K) refall_is (K - 300)
  rwa [show 300 + (K - 300) = K by omega] at this
theorem reftable_is (L B : Nat) (h2 : 2 ≤ L) (h6 : L ≤ 6) (hB : B ≤ 40) (K : Nat) (hK : 400 ≤ K) : headroomref07_Table.f K L B = some (tabR L B) := by
  have hn : 2 ^ L ≤ 64 := by
    have := Nat.pow_le_pow_right (n := 2) (by decide) h6
    simpa using this
  unfold headroomref07_Table.f
  rw [refall_up K (by omega)]
  simp only [Option.bind_some]
  exact reftable_l0 L B h2 h6 hB (2 ^ L) K 0 (by omega) (by omega)
theorem step_on (i : Nat) (h : i < 9223372036854775807) : wrap64 ((i : Int) + 1) = ((i + 1 : Nat) : Int) := by unfold wrap64; omega
theorem same_refl (k : Nat) (l : List S43) (hl : l.length < 9223372036854775807) (hk : l.length + 1 < k) : headroomref03_Same.f k l l = some true := by
  have run : ∀ (j k i : Nat), i + j = l.length → j < k → headroomref03_Same.l0 k l l (l.length : Int) i = some true := by
    intro j
    induction j with
    | zero =>
      intro k i hi hk
      obtain ⟨k, rfl⟩ : ∃ n, k = n + 1 := ⟨k - 1, by omega⟩
      rw [headroomref03_Same.l0, if_neg (by omega)]
    | succ j ih =>
      intro k i hi hk
      obtain ⟨k, rfl⟩ : ∃ n, k = n + 1 := ⟨k - 1, by omega⟩
      rw [headroomref03_Same.l0, if_pos (by omega), if_pos (by omega), if_pos (by omega), if_pos (by omega), step_on i (by omega), ih k (i + 1) (by omega) (by omega)]
      simp
  unfold headroomref03_Same.f
  rw [if_pos rfl]
  exact run l.length k 0 (by omega) (by omega)
theorem tab_length' (L B : Nat) (h6 : L ≤ 6) : (tabR L B).length ≤ 64 := by
  have := Nat.pow_le_pow_right (n := 2) (by decide) h6
  simpa [tabR] using this
theorem twiddles_is (L F : Int) : roots_Twiddles.f L F = if F = 0 then some (if 2 ≤ L ∧ L ≤ 6 then (tabR L.toNat 13, 0) else ([], 1)) else if F = 1 then some (if 2 ≤ L ∧ L ≤ 6 then (tabR L.toNat 29, 0) else ([], 1)) else some ([], 1) := by
  unfold roots_Twiddles.f sat_Bits.f
  by_cases h0 : F = 0
  · rw [if_pos h0, if_pos h0]
    simp only [Option.bind_some, if_true]
    rw [show wrap64 (15 - 2) = 13 by decide +kernel, table_is]
    simp only [Option.bind_some]
    by_cases hl : 2 ≤ L ∧ L ≤ 6
    · rw [if_pos hl, if_pos (show mayB L 13 = true from decide_eq_true (by omega))]; rfl
    · rw [if_neg hl, if_neg (show ¬ mayB L 13 = true by simp only [mayB, decide_eq_true_eq]; omega)]
  · rw [if_neg h0, if_neg h0]
    by_cases h1 : F = 1
    · rw [if_pos h1, if_pos h1]
      simp only [Option.bind_some, if_true]
      rw [show wrap64 (31 - 2) = 29 by decide +kernel, table_is]
      simp only [Option.bind_some]
      by_cases hl : 2 ≤ L ∧ L ≤ 6
      · rw [if_pos hl, if_pos (show mayB L 29 = true from decide_eq_true (by omega))]; rfl
      · rw [if_neg hl, if_neg (show ¬ mayB L 29 = true by simp only [mayB, decide_eq_true_eq]; omega)]
    · rw [if_neg h1, if_neg h1]
      rfl
theorem log_is (L : Int) : headroomref07_Log.f L = some (decide (2 ≤ L ∧ L ≤ 6)) := by
  unfold headroomref07_Log.f
  by_cases h1 : L ≥ 2
  · rw [if_pos h1]; congr 1; apply decide_eq_decide.2; omega
  · rw [if_neg h1]; congr 1; symm; apply decide_eq_false; omega
theorem second (K : Nat) (hK : 500 ≤ K) (L F : Int) (l : List S43) (e : Int) (h : roots_Twiddles.f L F = some (l, e)) : headroomlaw07_RootsTables.j0 K L F l e false = some true := by
  obtain ⟨K, rfl⟩ : ∃ k, K = k + 1 + 1 := ⟨K - 2, by omega⟩
  rw [twiddles_is] at h
  rw [headroomlaw07_RootsTables.j0, if_neg (by decide), log_is]
  simp only [Option.bind_some, decide_eq_true_eq]
  have last : ∀ B : Nat, B ≤ 40 → 2 ≤ L ∧ L ≤ 6 → headroomref07_Bits.f F = some (B : Int) → (tabR L.toNat B, (0 : Int)) = (l, e) → headroomlaw07_RootsTables.j1 (K + 1) L F l e false = some true := by
    intro B hB hl hb he
    simp only [Prod.mk.injEq] at he
    obtain ⟨rfl, rfl⟩ := he
    rw [headroomlaw07_RootsTables.j1, if_neg (by decide), if_pos rfl, hb]
    simp only [Option.bind_some]
    have hr := reftable_is L.toNat B (by omega) (by omega) hB K (by omega)
    rw [show ((L.toNat : Nat) : Int) = L by omega] at hr
    rw [hr]
    have hlen := tab_length' L.toNat B (by omega)
    simp only [Option.bind_some]
    rw [same_refl K _ (by omega) (by omega)]
    rfl
  have none_ : ([], (1 : Int)) = (l, e) → headroomlaw07_RootsTables.j1 (K + 1) L F l e true = some true := by
    intro he
    simp only [Prod.mk.injEq] at he
    obtain ⟨rfl, rfl⟩ := he
    rw [headroomlaw07_RootsTables.j1, if_pos rfl, if_pos rfl]
    rfl
  by_cases hl : 2 ≤ L ∧ L ≤ 6
  · rw [if_pos hl]
    simp only [if_pos hl] at h
    unfold headroomref02_Format.f
    by_cases h0 : F = 0
    · subst h0
      simp only [if_true, Option.some.injEq] at h
      simp only [if_true, Option.bind_some, Bool.not_true]
      exact last 13 (by decide) hl (by decide +kernel) h
    · simp only [if_neg h0] at h ⊢
      by_cases h1 : F = 1
      · subst h1
        simp only [if_true, Option.some.injEq] at h
        simp only [Option.bind_some]
        exact last 29 (by decide) hl (by decide +kernel) h
      · simp only [if_neg h1, Option.some.injEq] at h
        simp only [Option.bind_some]
        rw [show (F == 1) = false from beq_eq_false_iff_ne.mpr h1]
        exact none_ h
  · rw [if_neg hl]
    simp only [if_neg hl] at h
    apply none_
    by_cases h0 : F = 0
    · rw [if_pos h0] at h
      exact Option.some.inj h
    · rw [if_neg h0] at h
      by_cases h1 : F = 1
      · rw [if_pos h1] at h
        exact Option.some.inj h
      · rw [if_neg h1] at h
        exact Option.some.inj h
theorem twiddles_some (L F : Int) : ∃ p, roots_Twiddles.f L F = some p := by
  rw [twiddles_is]
  split
  · exact ⟨_, rfl⟩
  · split <;> exact ⟨_, rfl⟩
theorem headroomlaw07_RootsTables.pure : headroomlaw07_RootsTables.Pure := by
  intro a0 a1 a2 _ _ _
  refine ⟨600, ?_⟩
  unfold headroomlaw07_RootsTables.f
  obtain ⟨⟨l, e⟩, ht⟩ := twiddles_some a0 a2
  have hs := second 600 (by decide) a0 a2 l e ht
  rw [table_is, ht, refmay_is]
  simp only [Option.bind_some]
  by_cases h : mayB a0 a1 = true
  · rw [if_pos h, if_pos h]
    simp only [mayB, decide_eq_true_eq] at h
    have hr := reftable_is a0.toNat a1.toNat (by omega) (by omega) (by omega) 600 (by decide)
    rw [show ((a0.toNat : Nat) : Int) = a0 by omega, show ((a1.toNat : Nat) : Int) = a1 by omega] at hr
    have hlen := tab_length' a0.toNat a1.toNat (by omega)
    simp only [if_true]
    rw [hr]
    simp only [Option.bind_some]
    rw [same_refl 600 _ (by omega) (by omega)]
    simp only [Option.bind_some, if_true]
    rw [rootsalive]
    simpa using hs
  · rw [if_neg h, if_neg h]
    simp only [if_true, List.length_nil]
    rw [if_neg (by decide), rootsalive]
    simpa using hs
theorem headroomlaw07_RootsTables.law (a0 a1 a2 : Int) (w : World) (w0 : (Lit.int .i64 a0).wf = true) (w1 : (Lit.int .i64 a1).wf = true) (w2 : (Lit.int .i64 a2).wf = true) :
    Calls Try.prog 12 #[.int .i64 a0, .int .i64 a1, .int .i64 a2] w fun e w' => e = .returned (.bool true) ∧ Below w.heap.size w w' :=
  headroomlaw07_RootsTables.walk headroomlaw07_RootsTables.pure a0 a1 a2 w w0 w1 w2
end Go.Proofs.Ytmglkelmdcpinaa.G
