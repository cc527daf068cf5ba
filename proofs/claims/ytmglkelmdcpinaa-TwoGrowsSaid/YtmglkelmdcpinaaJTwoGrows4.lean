/- Contracts and plain laws on the way to TwoGrows, part 4 of 4. Conditions: each theorem's own. Joined by a program (merge.py). -/
import Derived.Test.YtmglkelmdcpinaaG0
import Derived.Test.YtmglkelmdcpinaaM1
import Derived.Test.YtmglkelmdcpinaaJTwoGrows1
import Derived.Test.YtmglkelmdcpinaaJTwoGrows2
import Derived.Test.YtmglkelmdcpinaaJTwoGrows3
/- The contract of the function headroomref10_Pass (number 30 of the translation): what its call computes, as a plain Lean function; memory that was there stays as it was. Conditions: none beyond the theorem's own. Written by a program (gprint.py). -/
namespace Go.Proofs.Ytmglkelmdcpinaa.G
open Go.RowKit Go.Proofs.YtmglkelmdcpinaaW.PrintWords Go.Proofs.YtmglkelmdcpinaaW.PrintLast Go.Proofs.YtmglkelmdcpinaaW.PrintMore
attribute [local go_sem] max2_int min2_int max_two min_two max_three min_three max_four min_four   -- for this text's walks alone
set_option linter.unusedVariables false
set_option linter.unusedSimpArgs false

/-! ### headroomref10_Pass: function 30 -/
def headroomref10_Pass.l0 : Nat → List (S43) → List (S43) → Int → Int → Int → Int → Bool → Int → List (S43) → Int → Option ((List (S43)))
  | 0, _, _, _, _, _, _, _, _, _, _ => none
  | k + 1, x0, x1, x2, x3, x4, x5, x6, x15, x16, x17 => if x17 < x15 then (if (wrap64 (2 * x2)) = 0 then (none) else (if (Int.tmod x17 (wrap64 (2 * x2))) < x2 then (if 0 ≤ x17 then (if x17 < (x0.length : Int) then (if 0 ≤ (wrap64 (x17 + x2)) then (if (wrap64 (x17 + x2)) < (x0.length : Int) then ((headroomref10_Root.f x1 (wrap64 ((Int.tmod x17 (wrap64 (2 * x2))) * (wrap64 (Int.tdiv x15 (wrap64 (2 * x2)))))) x6).bind fun bt106 => ((headroomref10_Up.f k ((rd_T43 x0 x17).f0) ((rd_T43 x0 x17).f1) ((rd_T43 x0 (wrap64 (x17 + x2))).f0) ((rd_T43 x0 (wrap64 (x17 + x2))).f1) bt106.1 bt106.2 x3 x4 x5).bind fun bt108 => (if x16.length < 8796093022208 then (headroomref10_Pass.l0 k x0 x1 x2 x3 x4 x5 x6 x15 (x16 ++ [(⟨bt108.1, bt108.2⟩ : S43)]) (wrap64 (x17 + 1))) else (none)))) else (none)) else (none)) else (none)) else (none)) else (if 0 ≤ (wrap64 (x17 - x2)) then (if (wrap64 (x17 - x2)) < (x0.length : Int) then (if 0 ≤ x17 then (if x17 < (x0.length : Int) then ((headroomref10_Root.f x1 (wrap64 ((wrap64 ((Int.tmod x17 (wrap64 (2 * x2))) - x2)) * (wrap64 (Int.tdiv x15 (wrap64 (2 * x2)))))) x6).bind fun bt115 => ((headroomref10_Down.f k ((rd_T43 x0 (wrap64 (x17 - x2))).f0) ((rd_T43 x0 (wrap64 (x17 - x2))).f1) ((rd_T43 x0 x17).f0) ((rd_T43 x0 x17).f1) bt115.1 bt115.2 x3 x4 x5).bind fun bt117 => (if x16.length < 8796093022208 then (headroomref10_Pass.l0 k x0 x1 x2 x3 x4 x5 x6 x15 (x16 ++ [(⟨bt117.1, bt117.2⟩ : S43)]) (wrap64 (x17 + 1))) else (none)))) else (none)) else (none)) else (none)) else (none)))) else (some x16)
def headroomref10_Pass.f (k : Nat) (l0 : List (S43)) (l1 : List (S43)) (a2 : Int) (a3 : Int) (a4 : Int) (a5 : Int) (a6 : Bool) : Option ((List (S43))) := headroomref10_Pass.l0 k l0 l1 a2 a3 a4 a5 a6 (l0.length : Int) (([] : List (S43))) 0
theorem headroomref10_Pass.mono_l : ∀ k, (∀ y0 y1 y2 y3 y4 y5 y6 y7 y8 y9, LeO (headroomref10_Pass.l0 k y0 y1 y2 y3 y4 y5 y6 y7 y8 y9) (headroomref10_Pass.l0 (k + 1) y0 y1 y2 y3 y4 y5 y6 y7 y8 y9))
  | 0 => fun _ _ _ _ _ _ _ _ _ _ r h => by simp [headroomref10_Pass.l0] at h
  | k + 1 => by
    have ih0 := headroomref10_Pass.mono_l k
    · intro y0 y1 y2 y3 y4 y5 y6 y7 y8 y9
      unfold headroomref10_Pass.l0
      repeat' first
      | (with_reducible exact ih0 _ _ _ _ _ _ _ _ _ _)
      | (with_reducible exact headroomref10_Down.mono _ _ _ _ _ _ _ _ _ _)
      | (with_reducible exact headroomref10_Up.mono _ _ _ _ _ _ _ _ _ _)
      | (with_reducible exact LeO.refl _)
      | (with_reducible exact LeO.none _)
      | (with_reducible refine LeO.ite ?_ ?_)
      | (with_reducible refine LeO.bind ?_ (fun _ => ?_))
      | exact ih0 _ _ _ _ _ _ _ _ _ _
      | exact headroomref10_Down.mono _ _ _ _ _ _ _ _ _ _
      | exact headroomref10_Up.mono _ _ _ _ _ _ _ _ _ _
      | exact LeO.none _
      | refine LeO.ite ?_ ?_
      | refine LeO.bind ?_ (fun _ => ?_)
theorem headroomref10_Pass.mono : ∀ a0 a1 a2 a3 a4 a5 a6 k, LeO (headroomref10_Pass.f k a0 a1 a2 a3 a4 a5 a6) (headroomref10_Pass.f (k + 1) a0 a1 a2 a3 a4 a5 a6) := by
  intro a0 a1 a2 a3 a4 a5 a6 k
  have ih0 := headroomref10_Pass.mono_l k
  unfold headroomref10_Pass.f
  repeat' first
      | (with_reducible exact ih0 _ _ _ _ _ _ _ _ _ _)
      | (with_reducible exact headroomref10_Down.mono _ _ _ _ _ _ _ _ _ _)
      | (with_reducible exact headroomref10_Up.mono _ _ _ _ _ _ _ _ _ _)
      | (with_reducible exact LeO.refl _)
      | (with_reducible exact LeO.none _)
      | (with_reducible refine LeO.ite ?_ ?_)
      | (with_reducible refine LeO.bind ?_ (fun _ => ?_))
      | exact ih0 _ _ _ _ _ _ _ _ _ _
      | exact headroomref10_Down.mono _ _ _ _ _ _ _ _ _ _
      | exact headroomref10_Up.mono _ _ _ _ _ _ _ _ _ _
      | exact LeO.none _
      | refine LeO.ite ?_ ?_
      | refine LeO.bind ?_ (fun _ => ?_)
def headroomref10_Pass.T8 : Bool × List (List Nat × List Nat) := (true, [([], []), ([], []), ([], []), ([1, 2], [1, 2]), ([3], [3]), ([], []), ([], []), ([], []), ([6, 7], [6, 7]), ([5, 8], [5, 8]), ([9], [9]), ([], []), ([], []), ([], []), ([], []), ([14], [14]), ([13, 15], [13, 15]), ([12, 16], [12, 16]), ([], []), ([11, 17, 18], [11, 17, 18]), ([], []), ([], []), ([], []), ([4, 10, 19, 20, 21, 22, 19], [4, 10, 19, 20, 21, 22]), ([23], [23]), ([0, 24, 23], [0, 24]), ([25, 25, 0, 1, 2, 3, 4, 5, 6, 7, 8, 9, 10, 11, 12, 13, 14, 15, 16, 17, 18, 19, 20, 21, 22, 23, 24, 25], [0, 25])])
def headroomref10_Pass.B8 : List Nat := [0, 0, 0, 6, 14, 0, 0, 0, 192, 480, 992, 0, 0, 0, 0, 16384, 57344, 126976, 0, 522240, 0, 0, 0, 8388606, 16777214, 33554431, 67108863]
theorem headroomref10_Pass.tab8 : rtab .any (opsOf Try.f30 8) = headroomref10_Pass.T8 := by kernel_rfl
theorem headroomref10_Pass.bits8 : waitsOk headroomref10_Pass.T8.2 headroomref10_Pass.B8 = true := by kernel_rfl
def headroomref10_Pass.T9 : Bool × List (List Nat × List Nat) := (true, [([], []), ([], []), ([], []), ([], []), ([2, 3], [2, 3]), ([1, 4], [1, 4]), ([5], [5]), ([], []), ([], []), ([7, 8], [7, 8]), ([9], [9]), ([], []), ([], []), ([], []), ([12, 13], [12, 13]), ([], []), ([], []), ([16], [16]), ([15, 17], [15, 17]), ([14, 18], [14, 18]), ([], []), ([11, 19, 20], [11, 19, 20]), ([], []), ([], []), ([], []), ([6, 10, 21, 22, 23, 24, 21], [6, 10, 21, 22, 23, 24]), ([25], [25]), ([0, 26, 25], [0, 26]), ([27, 27, 0, 1, 2, 3, 4, 5, 6, 7, 8, 9, 10, 11, 12, 13, 14, 15, 16, 17, 18, 19, 20, 21, 22, 23, 24, 25, 26, 27], [0, 27])])
def headroomref10_Pass.B9 : List Nat := [0, 0, 0, 0, 12, 30, 62, 0, 0, 384, 896, 0, 0, 0, 12288, 0, 0, 65536, 229376, 520192, 0, 2095104, 0, 0, 0, 33554430, 67108862, 134217727, 268435455]
theorem headroomref10_Pass.tab9 : rtab .any (opsOf Try.f30 9) = headroomref10_Pass.T9 := by kernel_rfl
theorem headroomref10_Pass.bits9 : waitsOk headroomref10_Pass.T9.2 headroomref10_Pass.B9 = true := by kernel_rfl
set_option maxHeartbeats 8000000 in
set_option maxRecDepth 100000 in
theorem headroomref10_Pass.calls (k : Nat) (A0 : Option Addr) (c0 : Nat) (l0 : List (S43)) (A1 : Option Addr) (c1 : Nat) (l1 : List (S43)) (a2 : Int) (a3 : Int) (a4 : Int) (a5 : Int) (a6 : Bool) (r : List (S43)) (w : World) (hr0 : Kd.C k43 w A0 l0.length l0) (hc0 : l0.length ≤ c0) (hr1 : Kd.C k43 w A1 l1.length l1) (hc1 : l1.length ≤ c1) (h : headroomref10_Pass.f k l0 l1 a2 a3 a4 a5 a6 = some r) :
    Calls Try.prog 30 #[.slice A0 l0.length c0, .slice A1 l1.length c1, .int .i64 a2, .int .i64 a3, .int .i64 a4, .int .i64 a5, .bool a6] w fun e w' => ∃ v0_ : Value, e = .returned (v0_) ∧ Kd.R k43 43 w' w.heap.size (fun _ => True) v0_ r ∧ Below w.heap.size w w' := by
  have hu43 := Try.underlying43
  have HR0 := Aside0.mk hr0
  have HC0 := Aside0.mk hc0
  clear hr0 hc0
  have HR1 := Aside0.mk hr1
  have HC1 := Aside0.mk hc1
  clear hr1 hc1
  have HB := Aside0.mk (Below.refl w.heap.size w)
  have H : (headroomref10_Pass.l0 k l0 l1 a2 a3 a4 a5 a6 (l0.length : Int) (([] : List (S43))) 0) = some r := h
  clear h
  obtain ⟨y101, hy101⟩ : ∃ y_ : List (S43), y_ = (([] : List (S43))) := ⟨_, rfl⟩
  replace H : (headroomref10_Pass.l0 k l0 l1 a2 a3 a4 a5 a6 (l0.length : Int) y101 0) = some r := by first | (rw [hy101]; with_reducible exact H) | (have H2_ := (Option.bind_some _ _).symm.trans H; rw [hy101]; with_reducible exact H2_) | (have H2_ := (Option.bind_some _ _).symm.trans H; with_reducible exact H2_) | with_reducible exact H | (rw [hy101]; exact H) | exact H
  have Ny101 := Aside0.mk hy101
  clear hy101
  have H' := Aside0.mk H
  clear H
  go_enter Try.func30, Try.ntmps30
  go_wp2_with (first | ((with_reducible refine gate_dst (N := 21) rfl ?_); refine Kd.R_lit k43 _ 43 ?hg (N := 21) ?hd (xs := ([] : List (S43))) (inner := []) (ok := fun _ => True) (okp := fun _ => True) ?hr ?hp (fun _ hk => hk) trivial (Below.refl _ _) (Nat.le_refl _) (by simp) ?_; (case hd => rfl); (case hg => rfl); (case hr => first | (go_simp; done) | (go_simp; rfl)); (case hp => exact (Reps.none _ _)); intro v102 w8 ho9 hb hg_ hnew_; clear hg_ hnew_; (first | rw [← Ny101.out] at ho9 | (simp only [Int.reduceToNat] at ho9; rw [← Ny101.out] at ho9)); have n0_ := Aside0.mk (Kd.R_lower ho9 (below_size (by repeat (first | (with_reducible first | exact HB.out | apply below_alloc | apply pw_below_drewN | apply below_drew1) | exact HB.out)))); have n1_ := Aside0.mk (below_step (by repeat (first | (with_reducible first | exact HB.out | apply below_alloc | apply pw_below_drewN | apply below_drew1) | exact HB.out)) hb); clear HB; have HO103 := n0_; have HB := n1_; clear n0_ n1_; clear hb ho9))
  go_loopg [16, 17] k (fun kq v16 v17 w' => ∃ (x16_1 : List (S43)) (x17_1 : Int), v17 = .int .i64 x17_1 ∧ Aside0 (headroomref10_Pass.l0 kq l0 l1 a2 a3 a4 a5 a6 (l0.length : Int) x16_1 x17_1 = some r) ∧ Aside0 (kq ≤ k) ∧ Aside0 (Kd.R k43 43 w' w.heap.size (fun _ => True) v16 x16_1) ∧ Aside0 (Below w.heap.size w w'))
  case atStart => exact ⟨(y101), (0), (by first | rfl | (simp; done) | (simp [*]; done)), H', ⟨Nat.le_refl _⟩, ⟨by (with_reducible repeat (first | apply Kd.R_alloc | apply Kd.R_drewN | apply Kd.R_drew)); exact HO103.out⟩, ⟨by repeat (first | (with_reducible first | exact HB.out | apply below_alloc | apply pw_below_drewN | apply below_drew1) | exact HB.out)⟩⟩
  case round =>
    clear H'
    try clear c1
    try clear p2
    try clear c3
    obtain ⟨x16_1, x17_1, rfl, HA, HK1, HO_16, HB⟩ := hrel
    cases gk with
    | zero => exact absurd HA.out (by simp [headroomref10_Pass.l0])
    | succ k1 =>
      have H := HA.out
      clear HA
      simp only [headroomref10_Pass.l0] at H
      by_cases c10 : x17_1 < (l0.length : Int)
      · rw [if_pos c10] at H
        have c10b0 : decide (x17_1 < (l0.length : Int)) = true := decide_eq_true c10
        clear c10
        by_cases c11 : (wrap64 (2 * a2)) = 0
        · rw [if_pos c11] at H
          exact absurd H (by simp)
        · rw [if_neg c11] at H
          have c11b0 : ((wrap64 (2 * a2)) == 0) = false := beq_eq_false_iff_ne.mpr c11
          have c11b1 : ((wrap64 (2 * a2)) != 0) = true := bne_iff_ne.mpr c11
          by_cases c12 : (Int.tmod x17_1 (wrap64 (2 * a2))) < a2
          · rw [if_pos c12] at H
            have c12b0 : decide ((Int.tmod x17_1 (wrap64 (2 * a2))) < a2) = true := decide_eq_true c12
            clear c12
            by_cases c13 : 0 ≤ x17_1
            · rw [if_pos c13] at H
              have c13b0 : decide (0 ≤ x17_1) = true := decide_eq_true c13
              clear c13
              by_cases c14 : x17_1 < (l0.length : Int)
              · rw [if_pos c14] at H
                have c14b0 : decide (x17_1 < (l0.length : Int)) = true := decide_eq_true c14
                clear c14
                obtain ⟨ji15, hji15⟩ : ∃ j_ : Int, (wrap64 (x17_1 + a2)) = j_ := ⟨_, rfl⟩
                replace H : (if 0 ≤ (ji15) then (if (ji15) < (l0.length : Int) then ((headroomref10_Root.f l1 (wrap64 ((Int.tmod x17_1 (wrap64 (2 * a2))) * (wrap64 (Int.tdiv (l0.length : Int) (wrap64 (2 * a2)))))) a6).bind fun bt106 => ((headroomref10_Up.f k1 ((rd_T43 l0 x17_1).f0) ((rd_T43 l0 x17_1).f1) ((rd_T43 l0 (ji15)).f0) ((rd_T43 l0 (ji15)).f1) bt106.1 bt106.2 a3 a4 a5).bind fun bt108 => (if x16_1.length < 8796093022208 then (headroomref10_Pass.l0 k1 l0 l1 a2 a3 a4 a5 a6 (l0.length : Int) (x16_1 ++ [(⟨bt108.1, bt108.2⟩ : S43)]) (wrap64 (x17_1 + 1))) else (none)))) else (none)) else (none)) = some r := by first | (rw [hji15] at H; exact H) | (simp only [hji15] at H ⊢; exact H)
                have hji15w : (IntKind.i64.wrap (x17_1 + a2)) = ji15 := (i64_w _).trans hji15
                by_cases c16 : 0 ≤ (ji15)
                · rw [if_pos c16] at H
                  have c16b0 : decide (0 ≤ (ji15)) = true := decide_eq_true c16
                  clear c16
                  by_cases c17 : (ji15) < (l0.length : Int)
                  · rw [if_pos c17] at H
                    have c17b0 : decide ((ji15) < (l0.length : Int)) = true := decide_eq_true c17
                    clear c17
                    replace H := Option.bind_eq_some_iff.mp H
                    obtain ⟨⟨t106, t107⟩, A180, H⟩ := H
                    replace H : ((headroomref10_Up.f k1 ((rd_T43 l0 x17_1).f0) ((rd_T43 l0 x17_1).f1) ((rd_T43 l0 (ji15)).f0) ((rd_T43 l0 (ji15)).f1) t106 t107 a3 a4 a5).bind fun bt108 => (if x16_1.length < 8796093022208 then (headroomref10_Pass.l0 k1 l0 l1 a2 a3 a4 a5 a6 (l0.length : Int) (x16_1 ++ [(⟨bt108.1, bt108.2⟩ : S43)]) (wrap64 (x17_1 + 1))) else (none))) = some r := H
                    have A18 := Aside0.mk A180
                    clear A180
                    replace H := Option.bind_eq_some_iff.mp H
                    obtain ⟨⟨t108, t109⟩, A190, H⟩ := H
                    replace H : (if x16_1.length < 8796093022208 then (headroomref10_Pass.l0 k1 l0 l1 a2 a3 a4 a5 a6 (l0.length : Int) (x16_1 ++ [(⟨t108, t109⟩ : S43)]) (wrap64 (x17_1 + 1))) else (none)) = some r := H
                    have A19 := Aside0.mk A190
                    clear A190
                    by_cases c20 : x16_1.length < 8796093022208
                    · rw [if_pos c20] at H
                      have LMc20 := Aside0.mk c20
                      clear c20
                      obtain ⟨y110, hy110⟩ : ∃ y_ : List (S43), y_ = (x16_1 ++ [(⟨t108, t109⟩ : S43)]) := ⟨_, rfl⟩
                      replace H : (headroomref10_Pass.l0 k1 l0 l1 a2 a3 a4 a5 a6 (l0.length : Int) y110 (wrap64 (x17_1 + 1))) = some r := by first | (rw [hy110]; with_reducible exact H) | (have H2_ := (Option.bind_some _ _).symm.trans H; rw [hy110]; with_reducible exact H2_) | (have H2_ := (Option.bind_some _ _).symm.trans H; with_reducible exact H2_) | with_reducible exact H | (rw [hy110]; exact H) | exact H
                      have Ny110 := Aside0.mk hy110
                      clear hy110
                      have H' := Aside0.mk H
                      clear H
                      try go_wp2
                      have n0_ := Aside0.mk (Kd.R_drew HO_16.out)
                      have n1_ := Aside0.mk (below_drew1 HB.out)
                      clear HO_16
                      clear HB
                      have HO_16 := n0_
                      have HB := n1_
                      clear n0_ n1_
                      have p104 : 0 ≤ (x17_1 : Int) := of_decide_eq_true (by first | (with_reducible assumption) | assumption)
                      have q104 : x17_1 < (l0.length : Int) := of_decide_eq_true (by first | (with_reducible assumption) | assumption)
                      obtain ⟨ad104, e104, hx104_0, hx104_1⟩ := at_T43 HR0.out x17_1 p104 q104
                      have hw104_1 := hx104_1
                      have hw104_0 := hx104_0
                      cases e104
                      replace hx104_0 := (HB.out.cell (World.block_lt_of_cell? w _ hx104_0)).trans hx104_0
                      replace hx104_1 := (HB.out.cell (World.block_lt_of_cell? w _ hx104_1)).trans hx104_1
                      replace p104 := eq_true p104
                      replace q104 := eq_true q104
                      have p105 : 0 ≤ ((ji15) : Int) := of_decide_eq_true (by first | (with_reducible assumption) | assumption)
                      have q105 : (ji15) < (l0.length : Int) := of_decide_eq_true (by first | (with_reducible assumption) | assumption)
                      obtain ⟨ad105, e105, hx105_0, hx105_1⟩ := at_T43 HR0.out (ji15) p105 q105
                      have hw105_1 := hx105_1
                      have hw105_0 := hx105_0
                      obtain rfl : ad104 = ad105 := (by injection e105)
                      replace hx105_0 := (HB.out.cell (World.block_lt_of_cell? w _ hx105_0)).trans hx105_0
                      replace hx105_1 := (HB.out.cell (World.block_lt_of_cell? w _ hx105_1)).trans hx105_1
                      replace p105 := eq_true p105
                      replace q105 := eq_true q105
                      refine start_ (n := 27) (S := fun w' => w'.cell? (ad104.add ((x17_1).toNat * 2)) = some (.int .i64 ((rd_T43 l0 x17_1).f0)) ∧ w'.cell? ⟨(ad104.add ((x17_1).toNat * 2)).block, (ad104.add ((x17_1).toNat * 2)).off + 1, none⟩ = some (.int .i64 ((rd_T43 l0 x17_1).f1)) ∧ w'.cell? (ad104.add (((ji15)).toNat * 2)) = some (.int .i64 ((rd_T43 l0 (ji15)).f0)) ∧ w'.cell? ⟨(ad104.add (((ji15)).toNat * 2)).block, (ad104.add (((ji15)).toNat * 2)).off + 1, none⟩ = some (.int .i64 ((rd_T43 l0 (ji15)).f1))) (ds := []) #[false, false, false, false, false, false, false, false, false, false, false, false, false, false, false, false, false, false, false, false, false, false, false, false, false, false, false] (by kernel_rfl) rfl rfl ⟨((HB.out.cell (World.block_lt_of_cell? w _ hw104_0)).trans hw104_0), ((HB.out.cell (World.block_lt_of_cell? w _ hw104_1)).trans hw104_1), ((HB.out.cell (World.block_lt_of_cell? w _ hw105_0)).trans hw105_0), ((HB.out.cell (World.block_lt_of_cell? w _ hw105_1)).trans hw105_1)⟩ (fun hHeld => ?_); refine with_tabW headroomref10_Pass.tab8 headroomref10_Pass.bits8 (fun HT_ HW_ => ?_)
                      generalize wr.drew = w21 at HO_16 HB hx104_0 hx104_1 hx105_0 hx105_1 hHeld ⊢
                      refine pure_ (i := 0) (N := some 34) (v := ?_) (a' := ?_) #[true, false, false, false, false, false, false, false, false, false, false, false, false, false, false, false, false, false, false, false, false, false, false, false, false, false, false] rfl rfl (any_of HT_.out (by kernel_rfl)) (fun _ _ _ h => h) (Or.inl ⟨by rfl, ?_⟩) ?_ ?_
                      rotate_left
                      · intro w'
                        go_simp
                        with_reducible rfl
                      rotate_left
                      · simp only [Act.put, List.setIfInBounds_toArray, List.set_cons_zero, List.set_cons_succ, i64_w, i32_w]
                        rfl
                      refine pure_ (i := 1) (N := some 35) (v := ?_) (a' := ?_) #[true, true, false, false, false, false, false, false, false, false, false, false, false, false, false, false, false, false, false, false, false, false, false, false, false, false, false] rfl rfl (any_of HT_.out (by kernel_rfl)) (fun _ _ _ h => h) (Or.inl ⟨by rfl, ?_⟩) ?_ ?_
                      rotate_left
                      · intro w'
                        go_simp
                        with_reducible rfl
                      rotate_left
                      · simp only [Act.put, List.setIfInBounds_toArray, List.set_cons_zero, List.set_cons_succ, i64_w, i32_w]
                        rfl
                      refine pure_ (i := 2) (N := some 36) (v := ?_) (a' := ?_) #[true, true, true, false, false, false, false, false, false, false, false, false, false, false, false, false, false, false, false, false, false, false, false, false, false, false, false] rfl rfl (any_of HT_.out (by kernel_rfl)) (fun _ _ _ h => h) (Or.inl ⟨by rfl, ?_⟩) ?_ ?_
                      rotate_left
                      · intro w'
                        go_simp
                        with_reducible rfl
                      rotate_left
                      · simp only [Act.put, List.setIfInBounds_toArray, List.set_cons_zero, List.set_cons_succ, i64_w, i32_w]
                        rfl
                      refine pure_ (i := 3) (N := some 37) (v := ?_) (a' := ?_) #[true, true, true, true, false, false, false, false, false, false, false, false, false, false, false, false, false, false, false, false, false, false, false, false, false, false, false] rfl rfl (any_of HT_.out (by kernel_rfl)) (fun _ _ _ h => h) (Or.inl ⟨by rfl, ?_⟩) ?_ ?_
                      rotate_left
                      · intro w'
                        go_simp
                        with_reducible rfl
                      rotate_left
                      · simp only [Act.put, List.setIfInBounds_toArray, List.set_cons_zero, List.set_cons_succ, i64_w, i32_w]
                        rfl
                      refine pure_ (i := 5) (N := some 39) (v := ?_) (a' := ?_) #[true, true, true, true, false, true, false, false, false, false, false, false, false, false, false, false, false, false, false, false, false, false, false, false, false, false, false] rfl rfl (any_of HT_.out (by kernel_rfl)) (fun _ _ _ h => h) (Or.inl ⟨by rfl, ?_⟩) ?_ ?_
                      rotate_left
                      · intro w'
                        go_simp
                        with_reducible rfl
                      rotate_left
                      · simp only [Act.put, List.setIfInBounds_toArray, List.set_cons_zero, List.set_cons_succ, i64_w, i32_w]
                        rfl
                      refine pure_ (i := 6) (N := some 40) (v := ?_) (a' := ?_) #[true, true, true, true, false, true, true, false, false, false, false, false, false, false, false, false, false, false, false, false, false, false, false, false, false, false, false] rfl rfl (any_of HT_.out (by kernel_rfl)) (fun _ _ _ h => h) (Or.inl ⟨by rfl, ?_⟩) ?_ ?_
                      rotate_left
                      · intro w'
                        go_simp
                        with_reducible rfl
                      rotate_left
                      · simp only [Act.put, List.setIfInBounds_toArray, List.set_cons_zero, List.set_cons_succ, i64_w, i32_w]
                        rfl
                      refine pure_ (i := 7) (N := some 41) (v := ?_) (a' := ?_) #[true, true, true, true, false, true, true, true, false, false, false, false, false, false, false, false, false, false, false, false, false, false, false, false, false, false, false] rfl rfl (any_of HT_.out (by kernel_rfl)) (fun _ _ _ h => h) (Or.inl ⟨by rfl, ?_⟩) ?_ ?_
                      rotate_left
                      · intro w'
                        go_simp
                        with_reducible rfl
                      rotate_left
                      · simp only [Act.put, List.setIfInBounds_toArray, List.set_cons_zero, List.set_cons_succ, i64_w, i32_w]
                        rfl
                      refine pure_ (i := 8) (N := some 42) (v := ?_) (a' := ?_) #[true, true, true, true, false, true, true, true, true, false, false, false, false, false, false, false, false, false, false, false, false, false, false, false, false, false, false] rfl rfl (any_of HT_.out (by kernel_rfl)) (fun _ _ _ h => h) (Or.inl ⟨by rfl, ?_⟩) ?_ ?_
                      rotate_left
                      · intro w'
                        go_simp
                        with_reducible rfl
                      rotate_left
                      · simp only [Act.put, List.setIfInBounds_toArray, List.set_cons_zero, List.set_cons_succ, i64_w, i32_w]
                        rfl
                      refine pure_ (i := 9) (N := some 43) (v := ?_) (a' := ?_) #[true, true, true, true, false, true, true, true, true, true, false, false, false, false, false, false, false, false, false, false, false, false, false, false, false, false, false] rfl rfl (any_of HT_.out (by kernel_rfl)) (fun _ _ _ h => h) (Or.inl ⟨by rfl, ?_⟩) ?_ ?_
                      rotate_left
                      · intro w'
                        go_simp
                        with_reducible rfl
                      rotate_left
                      · simp only [Act.put, List.setIfInBounds_toArray, List.set_cons_zero, List.set_cons_succ, i64_w, i32_w]
                        rfl
                      refine pure_ (i := 11) (N := some 45) (v := ?_) (a' := ?_) #[true, true, true, true, false, true, true, true, true, true, false, true, false, false, false, false, false, false, false, false, false, false, false, false, false, false, false] rfl rfl (any_of HT_.out (by kernel_rfl)) (fun _ _ _ h => h) (Or.inl ⟨by rfl, ?_⟩) ?_ ?_
                      rotate_left
                      · intro w'
                        go_simp
                        with_reducible rfl
                      rotate_left
                      · simp only [Act.put, List.setIfInBounds_toArray, List.set_cons_zero, List.set_cons_succ, i64_w, i32_w]
                        rfl
                      refine pure_ (i := 12) (N := some 46) (v := ?_) (a' := ?_) #[true, true, true, true, false, true, true, true, true, true, false, true, true, false, false, false, false, false, false, false, false, false, false, false, false, false, false] rfl rfl (any_of HT_.out (by kernel_rfl)) (fun _ _ _ h => h) (Or.inl ⟨by rfl, ?_⟩) ?_ ?_
                      rotate_left
                      · intro w'
                        go_simp
                        with_reducible rfl
                      rotate_left
                      · simp only [Act.put, List.setIfInBounds_toArray, List.set_cons_zero, List.set_cons_succ, i64_w, i32_w]
                        rfl
                      refine pure_ (i := 13) (N := some 47) (v := ?_) (a' := ?_) #[true, true, true, true, false, true, true, true, true, true, false, true, true, true, false, false, false, false, false, false, false, false, false, false, false, false, false] rfl rfl (any_of HT_.out (by kernel_rfl)) (fun _ _ _ h => h) (Or.inl ⟨by rfl, ?_⟩) ?_ ?_
                      rotate_left
                      · intro w'
                        go_simp
                        with_reducible rfl
                      rotate_left
                      · simp only [Act.put, List.setIfInBounds_toArray, List.set_cons_zero, List.set_cons_succ, i64_w, i32_w]
                        rfl
                      refine pure_ (i := 14) (N := some 48) (v := ?_) (a' := ?_) #[true, true, true, true, false, true, true, true, true, true, false, true, true, true, true, false, false, false, false, false, false, false, false, false, false, false, false] rfl rfl (any_of HT_.out (by kernel_rfl)) (fun _ _ _ h => h) (Or.inl ⟨by rfl, ?_⟩) ?_ ?_
                      rotate_left
                      · intro w'
                        go_simp
                        with_reducible rfl
                      rotate_left
                      · simp only [Act.put, List.setIfInBounds_toArray, List.set_cons_zero, List.set_cons_succ, i64_w, i32_w]
                        rfl
                      refine pure_ (i := 15) (N := some 49) (v := ?_) (a' := ?_) #[true, true, true, true, false, true, true, true, true, true, false, true, true, true, true, true, false, false, false, false, false, false, false, false, false, false, false] rfl rfl (any_of HT_.out (by kernel_rfl)) (fun _ _ _ h => h) (Or.inl ⟨by rfl, ?_⟩) ?_ ?_
                      rotate_left
                      · intro w'
                        go_simp
                        with_reducible rfl
                      rotate_left
                      · simp only [Act.put, List.setIfInBounds_toArray, List.set_cons_zero, List.set_cons_succ, i64_w, i32_w]
                        rfl
                      refine pure_ (i := 16) (N := some 50) (v := ?_) (a' := ?_) #[true, true, true, true, false, true, true, true, true, true, false, true, true, true, true, true, true, false, false, false, false, false, false, false, false, false, false] rfl rfl (any_of HT_.out (by kernel_rfl)) (fun _ _ _ h => h) (Or.inl ⟨by rfl, ?_⟩) ?_ ?_
                      rotate_left
                      · intro w'
                        go_simp
                        with_reducible rfl
                      rotate_left
                      · simp only [Act.put, List.setIfInBounds_toArray, List.set_cons_zero, List.set_cons_succ, i64_w, i32_w]
                        rfl
                      refine pure_ (i := 17) (N := some 51) (v := ?_) (a' := ?_) #[true, true, true, true, false, true, true, true, true, true, false, true, true, true, true, true, true, true, false, false, false, false, false, false, false, false, false] rfl rfl (any_of HT_.out (by kernel_rfl)) (fun _ _ _ h => h) (Or.inl ⟨by rfl, ?_⟩) ?_ ?_
                      rotate_left
                      · intro w'
                        go_simp
                        with_reducible rfl
                      rotate_left
                      · simp only [Act.put, List.setIfInBounds_toArray, List.set_cons_zero, List.set_cons_succ, i64_w, i32_w]
                        rfl
                      refine pure_ (i := 18) (N := some 52) (v := ?_) (a' := ?_) #[true, true, true, true, false, true, true, true, true, true, false, true, true, true, true, true, true, true, true, false, false, false, false, false, false, false, false] rfl rfl (any_of HT_.out (by kernel_rfl)) (fun _ _ _ h => h) (Or.inl ⟨by rfl, ?_⟩) ?_ ?_
                      rotate_left
                      · intro w'
                        go_simp
                        with_reducible rfl
                      rotate_left
                      · simp only [Act.put, List.setIfInBounds_toArray, List.set_cons_zero, List.set_cons_succ, i64_w, i32_w]
                        rfl
                      refine pure_ (i := 20) (N := some 54) (v := ?_) (a' := ?_) #[true, true, true, true, false, true, true, true, true, true, false, true, true, true, true, true, true, true, true, false, true, false, false, false, false, false, false] rfl rfl (any_of HT_.out (by kernel_rfl)) (fun _ _ _ h => h) (Or.inl ⟨by rfl, ?_⟩) ?_ ?_
                      rotate_left
                      · intro w'
                        go_simp
                        with_reducible rfl
                      rotate_left
                      · simp only [Act.put, List.setIfInBounds_toArray, List.set_cons_zero, List.set_cons_succ, i64_w, i32_w]
                        rfl
                      refine pure_ (i := 21) (N := some 55) (v := ?_) (a' := ?_) #[true, true, true, true, false, true, true, true, true, true, false, true, true, true, true, true, true, true, true, false, true, true, false, false, false, false, false] rfl rfl (any_of HT_.out (by kernel_rfl)) (fun _ _ _ h => h) (Or.inl ⟨by rfl, ?_⟩) ?_ ?_
                      rotate_left
                      · intro w'
                        go_simp
                        with_reducible rfl
                      rotate_left
                      · simp only [Act.put, List.setIfInBounds_toArray, List.set_cons_zero, List.set_cons_succ, i64_w, i32_w]
                        rfl
                      refine pure_ (i := 22) (N := some 56) (v := ?_) (a' := ?_) #[true, true, true, true, false, true, true, true, true, true, false, true, true, true, true, true, true, true, true, false, true, true, true, false, false, false, false] rfl rfl (any_of HT_.out (by kernel_rfl)) (fun _ _ _ h => h) (Or.inl ⟨by rfl, ?_⟩) ?_ ?_
                      rotate_left
                      · intro w'
                        go_simp
                        with_reducible rfl
                      rotate_left
                      · simp only [Act.put, List.setIfInBounds_toArray, List.set_cons_zero, List.set_cons_succ, i64_w, i32_w]
                        rfl
                      refine take_ (i := 4) (N := some 38) (v := ?_) (a' := ?_) #[true, true, true, true, true, true, true, true, true, true, false, true, true, true, true, true, true, true, true, false, true, true, true, false, false, false, false] rfl rfl (take_ofW HT_.out HW_.out (by kernel_rfl)) (fun _ _ _ h => h) (Or.inl ⟨by rfl, ?_⟩) hHeld ?_ ?_
                      rotate_left
                      · rintro w' ⟨s0, s1, s2, s3⟩
                        go_simp
                        with_reducible rfl
                      rotate_left
                      · simp only [Act.put, List.setIfInBounds_toArray, List.set_cons_zero, List.set_cons_succ, i64_w, i32_w]
                        rfl
                      refine take_ (i := 10) (N := some 44) (v := ?_) (a' := ?_) #[true, true, true, true, true, true, true, true, true, true, true, true, true, true, true, true, true, true, true, false, true, true, true, false, false, false, false] rfl rfl (take_ofW HT_.out HW_.out (by kernel_rfl)) (fun _ _ _ h => h) (Or.inl ⟨by rfl, ?_⟩) hHeld ?_ ?_
                      rotate_left
                      · rintro w' ⟨s0, s1, s2, s3⟩
                        go_simp
                        with_reducible rfl
                      rotate_left
                      · simp only [Act.put, List.setIfInBounds_toArray, List.set_cons_zero, List.set_cons_succ, i64_w, i32_w]
                        rfl
                      refine one_ (i := 19) (N := some 53) #[true, true, true, true, true, true, true, true, true, true, true, true, true, true, true, true, true, true, true, true, true, true, true, false, false, false, false] rfl rfl (one_of HT_.out (by kernel_rfl)) (by decide) (fun K hK => ?_)
                      refine goes_ Try.func90 (by kernel_rfl) rfl #[.slice A1 l1.length c1, .int .i64 (wrap64 ((Int.tmod x17_1 (wrap64 (2 * a2))) * (wrap64 (Int.tdiv (l0.length : Int) (wrap64 (2 * a2)))))), .bool a6] (by rfl) rfl rfl (by (try simp only [List.map_toArray, List.map_cons, List.map_nil]); first | done | rfl | (simp only [List.length_drop, List.length_take]; rfl) | (rw [Int.tdiv_eq_ediv_of_nonneg (Int.natCast_nonneg _)]; rfl)) ?_
                      with_reducible refine (headroomref10_Root.calls _ _ l1 (wrap64 ((Int.tmod x17_1 (wrap64 (2 * a2))) * (wrap64 (Int.tdiv (l0.length : Int) (wrap64 (2 * a2)))))) a6 t106 t107 _ ?side1 ?side2 A18.out).mono ?_
                      (case side1 => repeat (first | exact (Kd.C_below HR1.out HB.out) | (with_reducible refine Kd.C_alloc ?_ _) | (with_reducible refine Kd.C_drewN ?_ _) | (with_reducible refine Kd.C_drew ?_)))
                      (case side2 => exact HC1.out)
                      rintro e w22 ⟨rfl, hb⟩
                      refine ⟨_, rfl, ?_⟩
                      have n0_ := Aside0.mk (Kd.R_below (by (with_reducible repeat (first | apply Kd.R_alloc | apply Kd.R_drewN | apply Kd.R_drew)); exact HO_16.out) hb)
                      have n1_ := Aside0.mk (below_step (by repeat (first | (with_reducible first | exact HB.out | apply below_alloc | apply pw_below_drewN | apply below_drew1) | exact HB.out)) hb)
                      clear HO_16
                      clear HB
                      have HO_16 := n0_
                      have HB := n1_
                      clear n0_ n1_
                      (try clear hb)
                      (try clear hb2)
                      (try clear hk)
                      (try clear hi)
                      refine hK.out _ _ ⟨((HB.out.cell (World.block_lt_of_cell? w _ hw104_0)).trans hw104_0), ((HB.out.cell (World.block_lt_of_cell? w _ hw104_1)).trans hw104_1), ((HB.out.cell (World.block_lt_of_cell? w _ hw105_0)).trans hw105_0), ((HB.out.cell (World.block_lt_of_cell? w _ hw105_1)).trans hw105_1)⟩ (fun hHeld => ?_)
                      clear hK K
                      refine norm_ (a' := ?_) ?_ ?_
                      rotate_left
                      · show Act.put _ (some 53) _ = _
                        simp only [Act.put, List.setIfInBounds_toArray, List.set_cons_zero, List.set_cons_succ, i64_w, i32_w]
                        rfl
                      refine one_ (i := 23) (N := some 57) #[true, true, true, true, true, true, true, true, true, true, true, true, true, true, true, true, true, true, true, true, true, true, true, true, false, false, false] rfl rfl (one_of HT_.out (by kernel_rfl)) (by decide) (fun K hK => ?_)
                      refine goes_ Try.func89 (by kernel_rfl) rfl #[.agg #[.int .i64 ((rd_T43 l0 x17_1).f0), .int .i64 ((rd_T43 l0 x17_1).f1)], .agg #[.int .i64 ((rd_T43 l0 (ji15)).f0), .int .i64 ((rd_T43 l0 (ji15)).f1)], .agg #[.int .i64 t106, .int .i64 t107], .int .i64 a3, .int .i64 a4, .int .i64 a5] (by rfl) rfl rfl (by (try simp only [List.map_toArray, List.map_cons, List.map_nil]); first | done | (simp only [hji15]; rfl) | rfl | (simp only [List.length_drop, List.length_take]; rfl) | (rw [Int.tdiv_eq_ediv_of_nonneg (Int.natCast_nonneg _)]; rfl)) ?_
                      with_reducible refine (headroomref10_Up.calls k1 ((rd_T43 l0 x17_1).f0) ((rd_T43 l0 x17_1).f1) ((rd_T43 l0 (ji15)).f0) ((rd_T43 l0 (ji15)).f1) t106 t107 a3 a4 a5 t108 t109 _ A19.out).mono ?_
                      rintro e w23 ⟨rfl, hb⟩
                      refine ⟨_, rfl, ?_⟩
                      have n0_ := Aside0.mk (Kd.R_below (by (with_reducible repeat (first | apply Kd.R_alloc | apply Kd.R_drewN | apply Kd.R_drew)); exact HO_16.out) hb)
                      have n1_ := Aside0.mk (below_step (by repeat (first | (with_reducible first | exact HB.out | apply below_alloc | apply pw_below_drewN | apply below_drew1) | exact HB.out)) hb)
                      clear HO_16
                      clear HB
                      have HO_16 := n0_
                      have HB := n1_
                      clear n0_ n1_
                      (try clear hb)
                      (try clear hb2)
                      (try clear hk)
                      (try clear hi)
                      refine hK.out _ _ ⟨((HB.out.cell (World.block_lt_of_cell? w _ hw104_0)).trans hw104_0), ((HB.out.cell (World.block_lt_of_cell? w _ hw104_1)).trans hw104_1), ((HB.out.cell (World.block_lt_of_cell? w _ hw105_0)).trans hw105_0), ((HB.out.cell (World.block_lt_of_cell? w _ hw105_1)).trans hw105_1)⟩ (fun hHeld => ?_)
                      clear hK K
                      refine norm_ (a' := ?_) ?_ ?_
                      rotate_left
                      · show Act.put _ (some 57) _ = _
                        simp only [Act.put, List.setIfInBounds_toArray, List.set_cons_zero, List.set_cons_succ, i64_w, i32_w]
                        rfl
                      refine one_ (i := 24) (N := some 58) #[true, true, true, true, true, true, true, true, true, true, true, true, true, true, true, true, true, true, true, true, true, true, true, true, true, false, false] rfl rfl (one_of HT_.out (by kernel_rfl)) (by decide) (fun K hK => ?_)
                      refine value_ (w1 := ?_) (v := ?_) (by rfl) rfl ?_ ?_
                      rotate_left 2
                      · go_simp
                        constructor
                        · rfl
                        · rfl
                      refine hK.out _ _ ⟨(World.cell?_alloc_lt _ _ _ (World.block_lt_of_cell? _ _ (((HB.out.cell (World.block_lt_of_cell? w _ hw104_0)).trans hw104_0)))).trans (((HB.out.cell (World.block_lt_of_cell? w _ hw104_0)).trans hw104_0)), (World.cell?_alloc_lt _ _ _ (World.block_lt_of_cell? _ _ (((HB.out.cell (World.block_lt_of_cell? w _ hw104_1)).trans hw104_1)))).trans (((HB.out.cell (World.block_lt_of_cell? w _ hw104_1)).trans hw104_1)), (World.cell?_alloc_lt _ _ _ (World.block_lt_of_cell? _ _ (((HB.out.cell (World.block_lt_of_cell? w _ hw105_0)).trans hw105_0)))).trans (((HB.out.cell (World.block_lt_of_cell? w _ hw105_0)).trans hw105_0)), (World.cell?_alloc_lt _ _ _ (World.block_lt_of_cell? _ _ (((HB.out.cell (World.block_lt_of_cell? w _ hw105_1)).trans hw105_1)))).trans (((HB.out.cell (World.block_lt_of_cell? w _ hw105_1)).trans hw105_1))⟩ (fun hHeld => ?_)
                      clear hK K
                      refine norm_ (a' := ?_) ?_ ?_
                      rotate_left
                      · show Act.put _ (some 58) _ = _
                        simp only [Act.put, List.setIfInBounds_toArray, List.set_cons_zero, List.set_cons_succ, i64_w, i32_w]
                        rfl
                      refine one_ (i := 25) (N := some 59) #[true, true, true, true, true, true, true, true, true, true, true, true, true, true, true, true, true, true, true, true, true, true, true, true, true, true, false] rfl rfl (one_of HT_.out (by kernel_rfl)) (by decide) (fun K hK => ?_)
                      refine Kd.R_append_step k43 (w0 := w) w.heap.size (by rfl) (.tmp 34) (.tmp 58) 33 43 (.agg #[(.int .i64 0), (.int .i64 0)]) 16 rfl Try.underlying33 info43 rfl (by decide) (by omega) u16 x16_1 (⟨t108, t109⟩ : S43) [.int .i64 t108, .int .i64 t109] (fun _ => True) (fun _ => False) rfl rfl ?aP (fun _ hk => hk.elim) ?aF ?aO ?aB ?aS ?aL ?_
                      (case aP => exact k43_mkM _ _ _ (⟨t108, t109⟩ : S43))
                      (case aB => exact (by repeat (first | (with_reducible first | exact HB.out | apply below_alloc | apply pw_below_drewN | apply below_drew1) | exact HB.out)))
                      (case aF => exact (fun _ _ => trivial))
                      (case aO => exact (by (with_reducible repeat (first | apply Kd.R_alloc | apply Kd.R_drewN | apply Kd.R_drew)); exact HO_16.out))
                      (case aS => exact (below_size (by repeat (first | (with_reducible first | exact HB.out | apply below_alloc | apply pw_below_drewN | apply below_drew1) | exact HB.out))))
                      (case aL => have := LMc20.out; omega)
                      intro v111 w24 ho hb hg hat
                      rw [← Ny110.out] at ho
                      have n0_ := Aside0.mk (hb)
                      have n1_ := Aside0.mk (ho)
                      clear HB
                      clear HO_16
                      have HB := n0_
                      have HO112 := n1_
                      clear n0_ n1_
                      clear ho hb hg hat
                      refine hK.out _ _ ⟨((HB.out.cell (World.block_lt_of_cell? w _ hw104_0)).trans hw104_0), ((HB.out.cell (World.block_lt_of_cell? w _ hw104_1)).trans hw104_1), ((HB.out.cell (World.block_lt_of_cell? w _ hw105_0)).trans hw105_0), ((HB.out.cell (World.block_lt_of_cell? w _ hw105_1)).trans hw105_1)⟩ (fun hHeld => ?_)
                      clear hK K
                      refine norm_ (a' := ?_) ?_ ?_
                      rotate_left
                      · show Act.put _ (some 59) _ = _
                        simp only [Act.put, List.setIfInBounds_toArray, List.set_cons_zero, List.set_cons_succ, i64_w, i32_w]
                        rfl
                      refine pure_ (i := 26) (N := some 16) (v := ?_) (a' := ?_) #[true, true, true, true, true, true, true, true, true, true, true, true, true, true, true, true, true, true, true, true, true, true, true, true, true, true, true] rfl rfl (any_of HT_.out (by kernel_rfl)) (fun _ _ _ h => h) (Or.inl ⟨by rfl, ?_⟩) ?_ ?_
                      rotate_left
                      · intro w'
                        go_simp
                        with_reducible rfl
                      rotate_left
                      · simp only [Act.put, List.setIfInBounds_toArray, List.set_cons_zero, List.set_cons_succ, i64_w, i32_w]
                        rfl
                      refine done_ (done_of HT_.out (by kernel_rfl)) ?_
                      try go_wp2
                      go_roundg k1
                      case measure => have := HK1.out; omega
                      case rel => exact ⟨(y110), (wrap64 (x17_1 + 1)), (by first | rfl | (simp; done) | (simp [*]; done)), H', ⟨by have := HK1.out; omega⟩, ⟨by (with_reducible repeat (first | apply Kd.R_alloc | apply Kd.R_drewN | apply Kd.R_drew)); exact HO112.out⟩, ⟨by repeat (first | (with_reducible first | exact HB.out | apply below_alloc | apply pw_below_drewN | apply below_drew1) | exact HB.out)⟩⟩
                    · rw [if_neg c20] at H
                      exact absurd H (by simp)
                  · rw [if_neg c17] at H
                    exact absurd H (by simp)
                · rw [if_neg c16] at H
                  exact absurd H (by simp)
              · rw [if_neg c14] at H
                exact absurd H (by simp)
            · rw [if_neg c13] at H
              exact absurd H (by simp)
          · rw [if_neg c12] at H
            have c12b0 : decide ((Int.tmod x17_1 (wrap64 (2 * a2))) < a2) = false := decide_eq_false c12
            clear c12
            obtain ⟨ji25, hji25⟩ : ∃ j_ : Int, (wrap64 (x17_1 - a2)) = j_ := ⟨_, rfl⟩
            replace H : (if 0 ≤ (ji25) then (if (ji25) < (l0.length : Int) then (if 0 ≤ x17_1 then (if x17_1 < (l0.length : Int) then ((headroomref10_Root.f l1 (wrap64 ((wrap64 ((Int.tmod x17_1 (wrap64 (2 * a2))) - a2)) * (wrap64 (Int.tdiv (l0.length : Int) (wrap64 (2 * a2)))))) a6).bind fun bt115 => ((headroomref10_Down.f k1 ((rd_T43 l0 (ji25)).f0) ((rd_T43 l0 (ji25)).f1) ((rd_T43 l0 x17_1).f0) ((rd_T43 l0 x17_1).f1) bt115.1 bt115.2 a3 a4 a5).bind fun bt117 => (if x16_1.length < 8796093022208 then (headroomref10_Pass.l0 k1 l0 l1 a2 a3 a4 a5 a6 (l0.length : Int) (x16_1 ++ [(⟨bt117.1, bt117.2⟩ : S43)]) (wrap64 (x17_1 + 1))) else (none)))) else (none)) else (none)) else (none)) else (none)) = some r := by first | (rw [hji25] at H; exact H) | (simp only [hji25] at H ⊢; exact H)
            have hji25w : (IntKind.i64.wrap (x17_1 - a2)) = ji25 := (i64_w _).trans hji25
            by_cases c26 : 0 ≤ (ji25)
            · rw [if_pos c26] at H
              have c26b0 : decide (0 ≤ (ji25)) = true := decide_eq_true c26
              clear c26
              by_cases c27 : (ji25) < (l0.length : Int)
              · rw [if_pos c27] at H
                have c27b0 : decide ((ji25) < (l0.length : Int)) = true := decide_eq_true c27
                clear c27
                by_cases c28 : 0 ≤ x17_1
                · rw [if_pos c28] at H
                  have c28b0 : decide (0 ≤ x17_1) = true := decide_eq_true c28
                  clear c28
                  by_cases c29 : x17_1 < (l0.length : Int)
                  · rw [if_pos c29] at H
                    have c29b0 : decide (x17_1 < (l0.length : Int)) = true := decide_eq_true c29
                    clear c29
                    replace H := Option.bind_eq_some_iff.mp H
                    obtain ⟨⟨t115, t116⟩, A300, H⟩ := H
                    replace H : ((headroomref10_Down.f k1 ((rd_T43 l0 (ji25)).f0) ((rd_T43 l0 (ji25)).f1) ((rd_T43 l0 x17_1).f0) ((rd_T43 l0 x17_1).f1) t115 t116 a3 a4 a5).bind fun bt117 => (if x16_1.length < 8796093022208 then (headroomref10_Pass.l0 k1 l0 l1 a2 a3 a4 a5 a6 (l0.length : Int) (x16_1 ++ [(⟨bt117.1, bt117.2⟩ : S43)]) (wrap64 (x17_1 + 1))) else (none))) = some r := H
                    have A30 := Aside0.mk A300
                    clear A300
                    replace H := Option.bind_eq_some_iff.mp H
                    obtain ⟨⟨t117, t118⟩, A310, H⟩ := H
                    replace H : (if x16_1.length < 8796093022208 then (headroomref10_Pass.l0 k1 l0 l1 a2 a3 a4 a5 a6 (l0.length : Int) (x16_1 ++ [(⟨t117, t118⟩ : S43)]) (wrap64 (x17_1 + 1))) else (none)) = some r := H
                    have A31 := Aside0.mk A310
                    clear A310
                    by_cases c32 : x16_1.length < 8796093022208
                    · rw [if_pos c32] at H
                      have LMc32 := Aside0.mk c32
                      clear c32
                      obtain ⟨y119, hy119⟩ : ∃ y_ : List (S43), y_ = (x16_1 ++ [(⟨t117, t118⟩ : S43)]) := ⟨_, rfl⟩
                      replace H : (headroomref10_Pass.l0 k1 l0 l1 a2 a3 a4 a5 a6 (l0.length : Int) y119 (wrap64 (x17_1 + 1))) = some r := by first | (rw [hy119]; with_reducible exact H) | (have H2_ := (Option.bind_some _ _).symm.trans H; rw [hy119]; with_reducible exact H2_) | (have H2_ := (Option.bind_some _ _).symm.trans H; with_reducible exact H2_) | with_reducible exact H | (rw [hy119]; exact H) | exact H
                      have Ny119 := Aside0.mk hy119
                      clear hy119
                      have H' := Aside0.mk H
                      clear H
                      try go_wp2
                      have n0_ := Aside0.mk (Kd.R_drew HO_16.out)
                      have n1_ := Aside0.mk (below_drew1 HB.out)
                      clear HO_16
                      clear HB
                      have HO_16 := n0_
                      have HB := n1_
                      clear n0_ n1_
                      have p113 : 0 ≤ ((ji25) : Int) := of_decide_eq_true (by first | (with_reducible assumption) | assumption)
                      have q113 : (ji25) < (l0.length : Int) := of_decide_eq_true (by first | (with_reducible assumption) | assumption)
                      obtain ⟨ad113, e113, hx113_0, hx113_1⟩ := at_T43 HR0.out (ji25) p113 q113
                      have hw113_1 := hx113_1
                      have hw113_0 := hx113_0
                      cases e113
                      replace hx113_0 := (HB.out.cell (World.block_lt_of_cell? w _ hx113_0)).trans hx113_0
                      replace hx113_1 := (HB.out.cell (World.block_lt_of_cell? w _ hx113_1)).trans hx113_1
                      replace p113 := eq_true p113
                      replace q113 := eq_true q113
                      have p114 : 0 ≤ (x17_1 : Int) := of_decide_eq_true (by first | (with_reducible assumption) | assumption)
                      have q114 : x17_1 < (l0.length : Int) := of_decide_eq_true (by first | (with_reducible assumption) | assumption)
                      obtain ⟨ad114, e114, hx114_0, hx114_1⟩ := at_T43 HR0.out x17_1 p114 q114
                      have hw114_1 := hx114_1
                      have hw114_0 := hx114_0
                      obtain rfl : ad113 = ad114 := (by injection e114)
                      replace hx114_0 := (HB.out.cell (World.block_lt_of_cell? w _ hx114_0)).trans hx114_0
                      replace hx114_1 := (HB.out.cell (World.block_lt_of_cell? w _ hx114_1)).trans hx114_1
                      replace p114 := eq_true p114
                      replace q114 := eq_true q114
                      refine start_ (n := 29) (S := fun w' => w'.cell? (ad113.add (((ji25)).toNat * 2)) = some (.int .i64 ((rd_T43 l0 (ji25)).f0)) ∧ w'.cell? ⟨(ad113.add (((ji25)).toNat * 2)).block, (ad113.add (((ji25)).toNat * 2)).off + 1, none⟩ = some (.int .i64 ((rd_T43 l0 (ji25)).f1)) ∧ w'.cell? (ad113.add ((x17_1).toNat * 2)) = some (.int .i64 ((rd_T43 l0 x17_1).f0)) ∧ w'.cell? ⟨(ad113.add ((x17_1).toNat * 2)).block, (ad113.add ((x17_1).toNat * 2)).off + 1, none⟩ = some (.int .i64 ((rd_T43 l0 x17_1).f1))) (ds := []) #[false, false, false, false, false, false, false, false, false, false, false, false, false, false, false, false, false, false, false, false, false, false, false, false, false, false, false, false, false] (by kernel_rfl) rfl rfl ⟨((HB.out.cell (World.block_lt_of_cell? w _ hw113_0)).trans hw113_0), ((HB.out.cell (World.block_lt_of_cell? w _ hw113_1)).trans hw113_1), ((HB.out.cell (World.block_lt_of_cell? w _ hw114_0)).trans hw114_0), ((HB.out.cell (World.block_lt_of_cell? w _ hw114_1)).trans hw114_1)⟩ (fun hHeld => ?_); refine with_tabW headroomref10_Pass.tab9 headroomref10_Pass.bits9 (fun HT_ HW_ => ?_)
                      generalize wr.drew = w33 at HO_16 HB hx113_0 hx113_1 hx114_0 hx114_1 hHeld ⊢
                      refine pure_ (i := 0) (N := some 60) (v := ?_) (a' := ?_) #[true, false, false, false, false, false, false, false, false, false, false, false, false, false, false, false, false, false, false, false, false, false, false, false, false, false, false, false, false] rfl rfl (any_of HT_.out (by kernel_rfl)) (fun _ _ _ h => h) (Or.inl ⟨by rfl, ?_⟩) ?_ ?_
                      rotate_left
                      · intro w'
                        go_simp
                        with_reducible rfl
                      rotate_left
                      · simp only [Act.put, List.setIfInBounds_toArray, List.set_cons_zero, List.set_cons_succ, i64_w, i32_w]
                        rfl
                      refine pure_ (i := 1) (N := some 61) (v := ?_) (a' := ?_) #[true, true, false, false, false, false, false, false, false, false, false, false, false, false, false, false, false, false, false, false, false, false, false, false, false, false, false, false, false] rfl rfl (any_of HT_.out (by kernel_rfl)) (fun _ _ _ h => h) (Or.inl ⟨by rfl, ?_⟩) ?_ ?_
                      rotate_left
                      · intro w'
                        go_simp
                        with_reducible rfl
                      rotate_left
                      · simp only [Act.put, List.setIfInBounds_toArray, List.set_cons_zero, List.set_cons_succ, i64_w, i32_w]
                        rfl
                      refine pure_ (i := 2) (N := some 62) (v := ?_) (a' := ?_) #[true, true, true, false, false, false, false, false, false, false, false, false, false, false, false, false, false, false, false, false, false, false, false, false, false, false, false, false, false] rfl rfl (any_of HT_.out (by kernel_rfl)) (fun _ _ _ h => h) (Or.inl ⟨by rfl, ?_⟩) ?_ ?_
                      rotate_left
                      · intro w'
                        go_simp
                        with_reducible rfl
                      rotate_left
                      · simp only [Act.put, List.setIfInBounds_toArray, List.set_cons_zero, List.set_cons_succ, i64_w, i32_w]
                        rfl
                      refine pure_ (i := 3) (N := some 63) (v := ?_) (a' := ?_) #[true, true, true, true, false, false, false, false, false, false, false, false, false, false, false, false, false, false, false, false, false, false, false, false, false, false, false, false, false] rfl rfl (any_of HT_.out (by kernel_rfl)) (fun _ _ _ h => h) (Or.inl ⟨by rfl, ?_⟩) ?_ ?_
                      rotate_left
                      · intro w'
                        go_simp
                        with_reducible rfl
                      rotate_left
                      · simp only [Act.put, List.setIfInBounds_toArray, List.set_cons_zero, List.set_cons_succ, i64_w, i32_w]
                        rfl
                      refine pure_ (i := 4) (N := some 64) (v := ?_) (a' := ?_) #[true, true, true, true, true, false, false, false, false, false, false, false, false, false, false, false, false, false, false, false, false, false, false, false, false, false, false, false, false] rfl rfl (any_of HT_.out (by kernel_rfl)) (fun _ _ _ h => h) (Or.inl ⟨by rfl, ?_⟩) ?_ ?_
                      rotate_left
                      · intro w'
                        go_simp
                        with_reducible rfl
                      rotate_left
                      · simp only [Act.put, List.setIfInBounds_toArray, List.set_cons_zero, List.set_cons_succ, i64_w, i32_w]
                        rfl
                      refine pure_ (i := 5) (N := some 65) (v := ?_) (a' := ?_) #[true, true, true, true, true, true, false, false, false, false, false, false, false, false, false, false, false, false, false, false, false, false, false, false, false, false, false, false, false] rfl rfl (any_of HT_.out (by kernel_rfl)) (fun _ _ _ h => h) (Or.inl ⟨by rfl, ?_⟩) ?_ ?_
                      rotate_left
                      · intro w'
                        go_simp
                        with_reducible rfl
                      rotate_left
                      · simp only [Act.put, List.setIfInBounds_toArray, List.set_cons_zero, List.set_cons_succ, i64_w, i32_w]
                        rfl
                      refine pure_ (i := 7) (N := some 67) (v := ?_) (a' := ?_) #[true, true, true, true, true, true, false, true, false, false, false, false, false, false, false, false, false, false, false, false, false, false, false, false, false, false, false, false, false] rfl rfl (any_of HT_.out (by kernel_rfl)) (fun _ _ _ h => h) (Or.inl ⟨by rfl, ?_⟩) ?_ ?_
                      rotate_left
                      · intro w'
                        go_simp
                        with_reducible rfl
                      rotate_left
                      · simp only [Act.put, List.setIfInBounds_toArray, List.set_cons_zero, List.set_cons_succ, i64_w, i32_w]
                        rfl
                      refine pure_ (i := 8) (N := some 68) (v := ?_) (a' := ?_) #[true, true, true, true, true, true, false, true, true, false, false, false, false, false, false, false, false, false, false, false, false, false, false, false, false, false, false, false, false] rfl rfl (any_of HT_.out (by kernel_rfl)) (fun _ _ _ h => h) (Or.inl ⟨by rfl, ?_⟩) ?_ ?_
                      rotate_left
                      · intro w'
                        go_simp
                        with_reducible rfl
                      rotate_left
                      · simp only [Act.put, List.setIfInBounds_toArray, List.set_cons_zero, List.set_cons_succ, i64_w, i32_w]
                        rfl
                      refine pure_ (i := 9) (N := some 69) (v := ?_) (a' := ?_) #[true, true, true, true, true, true, false, true, true, true, false, false, false, false, false, false, false, false, false, false, false, false, false, false, false, false, false, false, false] rfl rfl (any_of HT_.out (by kernel_rfl)) (fun _ _ _ h => h) (Or.inl ⟨by rfl, ?_⟩) ?_ ?_
                      rotate_left
                      · intro w'
                        go_simp
                        with_reducible rfl
                      rotate_left
                      · simp only [Act.put, List.setIfInBounds_toArray, List.set_cons_zero, List.set_cons_succ, i64_w, i32_w]
                        rfl
                      refine pure_ (i := 11) (N := some 71) (v := ?_) (a' := ?_) #[true, true, true, true, true, true, false, true, true, true, false, true, false, false, false, false, false, false, false, false, false, false, false, false, false, false, false, false, false] rfl rfl (any_of HT_.out (by kernel_rfl)) (fun _ _ _ h => h) (Or.inl ⟨by rfl, ?_⟩) ?_ ?_
                      rotate_left
                      · intro w'
                        go_simp
                        with_reducible rfl
                      rotate_left
                      · simp only [Act.put, List.setIfInBounds_toArray, List.set_cons_zero, List.set_cons_succ, i64_w, i32_w]
                        rfl
                      refine pure_ (i := 12) (N := some 72) (v := ?_) (a' := ?_) #[true, true, true, true, true, true, false, true, true, true, false, true, true, false, false, false, false, false, false, false, false, false, false, false, false, false, false, false, false] rfl rfl (any_of HT_.out (by kernel_rfl)) (fun _ _ _ h => h) (Or.inl ⟨by rfl, ?_⟩) ?_ ?_
                      rotate_left
                      · intro w'
                        go_simp
                        with_reducible rfl
                      rotate_left
                      · simp only [Act.put, List.setIfInBounds_toArray, List.set_cons_zero, List.set_cons_succ, i64_w, i32_w]
                        rfl
                      refine pure_ (i := 13) (N := some 73) (v := ?_) (a' := ?_) #[true, true, true, true, true, true, false, true, true, true, false, true, true, true, false, false, false, false, false, false, false, false, false, false, false, false, false, false, false] rfl rfl (any_of HT_.out (by kernel_rfl)) (fun _ _ _ h => h) (Or.inl ⟨by rfl, ?_⟩) ?_ ?_
                      rotate_left
                      · intro w'
                        go_simp
                        with_reducible rfl
                      rotate_left
                      · simp only [Act.put, List.setIfInBounds_toArray, List.set_cons_zero, List.set_cons_succ, i64_w, i32_w]
                        rfl
                      refine pure_ (i := 14) (N := some 74) (v := ?_) (a' := ?_) #[true, true, true, true, true, true, false, true, true, true, false, true, true, true, true, false, false, false, false, false, false, false, false, false, false, false, false, false, false] rfl rfl (any_of HT_.out (by kernel_rfl)) (fun _ _ _ h => h) (Or.inl ⟨by rfl, ?_⟩) ?_ ?_
                      rotate_left
                      · intro w'
                        go_simp
                        with_reducible rfl
                      rotate_left
                      · simp only [Act.put, List.setIfInBounds_toArray, List.set_cons_zero, List.set_cons_succ, i64_w, i32_w]
                        rfl
                      refine pure_ (i := 15) (N := some 75) (v := ?_) (a' := ?_) #[true, true, true, true, true, true, false, true, true, true, false, true, true, true, true, true, false, false, false, false, false, false, false, false, false, false, false, false, false] rfl rfl (any_of HT_.out (by kernel_rfl)) (fun _ _ _ h => h) (Or.inl ⟨by rfl, ?_⟩) ?_ ?_
                      rotate_left
                      · intro w'
                        go_simp
                        with_reducible rfl
                      rotate_left
                      · simp only [Act.put, List.setIfInBounds_toArray, List.set_cons_zero, List.set_cons_succ, i64_w, i32_w]
                        rfl
                      refine pure_ (i := 16) (N := some 76) (v := ?_) (a' := ?_) #[true, true, true, true, true, true, false, true, true, true, false, true, true, true, true, true, true, false, false, false, false, false, false, false, false, false, false, false, false] rfl rfl (any_of HT_.out (by kernel_rfl)) (fun _ _ _ h => h) (Or.inl ⟨by rfl, ?_⟩) ?_ ?_
                      rotate_left
                      · intro w'
                        go_simp
                        with_reducible rfl
                      rotate_left
                      · simp only [Act.put, List.setIfInBounds_toArray, List.set_cons_zero, List.set_cons_succ, i64_w, i32_w]
                        rfl
                      refine pure_ (i := 17) (N := some 77) (v := ?_) (a' := ?_) #[true, true, true, true, true, true, false, true, true, true, false, true, true, true, true, true, true, true, false, false, false, false, false, false, false, false, false, false, false] rfl rfl (any_of HT_.out (by kernel_rfl)) (fun _ _ _ h => h) (Or.inl ⟨by rfl, ?_⟩) ?_ ?_
                      rotate_left
                      · intro w'
                        go_simp
                        with_reducible rfl
                      rotate_left
                      · simp only [Act.put, List.setIfInBounds_toArray, List.set_cons_zero, List.set_cons_succ, i64_w, i32_w]
                        rfl
                      refine pure_ (i := 18) (N := some 78) (v := ?_) (a' := ?_) #[true, true, true, true, true, true, false, true, true, true, false, true, true, true, true, true, true, true, true, false, false, false, false, false, false, false, false, false, false] rfl rfl (any_of HT_.out (by kernel_rfl)) (fun _ _ _ h => h) (Or.inl ⟨by rfl, ?_⟩) ?_ ?_
                      rotate_left
                      · intro w'
                        go_simp
                        with_reducible rfl
                      rotate_left
                      · simp only [Act.put, List.setIfInBounds_toArray, List.set_cons_zero, List.set_cons_succ, i64_w, i32_w]
                        rfl
                      refine pure_ (i := 19) (N := some 79) (v := ?_) (a' := ?_) #[true, true, true, true, true, true, false, true, true, true, false, true, true, true, true, true, true, true, true, true, false, false, false, false, false, false, false, false, false] rfl rfl (any_of HT_.out (by kernel_rfl)) (fun _ _ _ h => h) (Or.inl ⟨by rfl, ?_⟩) ?_ ?_
                      rotate_left
                      · intro w'
                        go_simp
                        with_reducible rfl
                      rotate_left
                      · simp only [Act.put, List.setIfInBounds_toArray, List.set_cons_zero, List.set_cons_succ, i64_w, i32_w]
                        rfl
                      refine pure_ (i := 20) (N := some 80) (v := ?_) (a' := ?_) #[true, true, true, true, true, true, false, true, true, true, false, true, true, true, true, true, true, true, true, true, true, false, false, false, false, false, false, false, false] rfl rfl (any_of HT_.out (by kernel_rfl)) (fun _ _ _ h => h) (Or.inl ⟨by rfl, ?_⟩) ?_ ?_
                      rotate_left
                      · intro w'
                        go_simp
                        with_reducible rfl
                      rotate_left
                      · simp only [Act.put, List.setIfInBounds_toArray, List.set_cons_zero, List.set_cons_succ, i64_w, i32_w]
                        rfl
                      refine pure_ (i := 22) (N := some 82) (v := ?_) (a' := ?_) #[true, true, true, true, true, true, false, true, true, true, false, true, true, true, true, true, true, true, true, true, true, false, true, false, false, false, false, false, false] rfl rfl (any_of HT_.out (by kernel_rfl)) (fun _ _ _ h => h) (Or.inl ⟨by rfl, ?_⟩) ?_ ?_
                      rotate_left
                      · intro w'
                        go_simp
                        with_reducible rfl
                      rotate_left
                      · simp only [Act.put, List.setIfInBounds_toArray, List.set_cons_zero, List.set_cons_succ, i64_w, i32_w]
                        rfl
                      refine pure_ (i := 23) (N := some 83) (v := ?_) (a' := ?_) #[true, true, true, true, true, true, false, true, true, true, false, true, true, true, true, true, true, true, true, true, true, false, true, true, false, false, false, false, false] rfl rfl (any_of HT_.out (by kernel_rfl)) (fun _ _ _ h => h) (Or.inl ⟨by rfl, ?_⟩) ?_ ?_
                      rotate_left
                      · intro w'
                        go_simp
                        with_reducible rfl
                      rotate_left
                      · simp only [Act.put, List.setIfInBounds_toArray, List.set_cons_zero, List.set_cons_succ, i64_w, i32_w]
                        rfl
                      refine pure_ (i := 24) (N := some 84) (v := ?_) (a' := ?_) #[true, true, true, true, true, true, false, true, true, true, false, true, true, true, true, true, true, true, true, true, true, false, true, true, true, false, false, false, false] rfl rfl (any_of HT_.out (by kernel_rfl)) (fun _ _ _ h => h) (Or.inl ⟨by rfl, ?_⟩) ?_ ?_
                      rotate_left
                      · intro w'
                        go_simp
                        with_reducible rfl
                      rotate_left
                      · simp only [Act.put, List.setIfInBounds_toArray, List.set_cons_zero, List.set_cons_succ, i64_w, i32_w]
                        rfl
                      refine take_ (i := 6) (N := some 66) (v := ?_) (a' := ?_) #[true, true, true, true, true, true, true, true, true, true, false, true, true, true, true, true, true, true, true, true, true, false, true, true, true, false, false, false, false] rfl rfl (take_ofW HT_.out HW_.out (by kernel_rfl)) (fun _ _ _ h => h) (Or.inl ⟨by rfl, ?_⟩) hHeld ?_ ?_
                      rotate_left
                      · rintro w' ⟨s0, s1, s2, s3⟩
                        go_simp
                        with_reducible rfl
                      rotate_left
                      · simp only [Act.put, List.setIfInBounds_toArray, List.set_cons_zero, List.set_cons_succ, i64_w, i32_w]
                        rfl
                      refine take_ (i := 10) (N := some 70) (v := ?_) (a' := ?_) #[true, true, true, true, true, true, true, true, true, true, true, true, true, true, true, true, true, true, true, true, true, false, true, true, true, false, false, false, false] rfl rfl (take_ofW HT_.out HW_.out (by kernel_rfl)) (fun _ _ _ h => h) (Or.inl ⟨by rfl, ?_⟩) hHeld ?_ ?_
                      rotate_left
                      · rintro w' ⟨s0, s1, s2, s3⟩
                        go_simp
                        with_reducible rfl
                      rotate_left
                      · simp only [Act.put, List.setIfInBounds_toArray, List.set_cons_zero, List.set_cons_succ, i64_w, i32_w]
                        rfl
                      refine one_ (i := 21) (N := some 81) #[true, true, true, true, true, true, true, true, true, true, true, true, true, true, true, true, true, true, true, true, true, true, true, true, true, false, false, false, false] rfl rfl (one_of HT_.out (by kernel_rfl)) (by decide) (fun K hK => ?_)
                      refine goes_ Try.func90 (by kernel_rfl) rfl #[.slice A1 l1.length c1, .int .i64 (wrap64 ((wrap64 ((Int.tmod x17_1 (wrap64 (2 * a2))) - a2)) * (wrap64 (Int.tdiv (l0.length : Int) (wrap64 (2 * a2)))))), .bool a6] (by rfl) rfl rfl (by (try simp only [List.map_toArray, List.map_cons, List.map_nil]); first | done | rfl | (simp only [List.length_drop, List.length_take]; rfl) | (rw [Int.tdiv_eq_ediv_of_nonneg (Int.natCast_nonneg _)]; rfl)) ?_
                      with_reducible refine (headroomref10_Root.calls _ _ l1 (wrap64 ((wrap64 ((Int.tmod x17_1 (wrap64 (2 * a2))) - a2)) * (wrap64 (Int.tdiv (l0.length : Int) (wrap64 (2 * a2)))))) a6 t115 t116 _ ?side1 ?side2 A30.out).mono ?_
                      (case side1 => repeat (first | exact (Kd.C_below HR1.out HB.out) | (with_reducible refine Kd.C_alloc ?_ _) | (with_reducible refine Kd.C_drewN ?_ _) | (with_reducible refine Kd.C_drew ?_)))
                      (case side2 => exact HC1.out)
                      rintro e w34 ⟨rfl, hb⟩
                      refine ⟨_, rfl, ?_⟩
                      have n0_ := Aside0.mk (Kd.R_below (by (with_reducible repeat (first | apply Kd.R_alloc | apply Kd.R_drewN | apply Kd.R_drew)); exact HO_16.out) hb)
                      have n1_ := Aside0.mk (below_step (by repeat (first | (with_reducible first | exact HB.out | apply below_alloc | apply pw_below_drewN | apply below_drew1) | exact HB.out)) hb)
                      clear HO_16
                      clear HB
                      have HO_16 := n0_
                      have HB := n1_
                      clear n0_ n1_
                      (try clear hb)
                      (try clear hb2)
                      (try clear hk)
                      (try clear hi)
                      refine hK.out _ _ ⟨((HB.out.cell (World.block_lt_of_cell? w _ hw113_0)).trans hw113_0), ((HB.out.cell (World.block_lt_of_cell? w _ hw113_1)).trans hw113_1), ((HB.out.cell (World.block_lt_of_cell? w _ hw114_0)).trans hw114_0), ((HB.out.cell (World.block_lt_of_cell? w _ hw114_1)).trans hw114_1)⟩ (fun hHeld => ?_)
                      clear hK K
                      refine norm_ (a' := ?_) ?_ ?_
                      rotate_left
                      · show Act.put _ (some 81) _ = _
                        simp only [Act.put, List.setIfInBounds_toArray, List.set_cons_zero, List.set_cons_succ, i64_w, i32_w]
                        rfl
                      refine one_ (i := 25) (N := some 85) #[true, true, true, true, true, true, true, true, true, true, true, true, true, true, true, true, true, true, true, true, true, true, true, true, true, true, false, false, false] rfl rfl (one_of HT_.out (by kernel_rfl)) (by decide) (fun K hK => ?_)
                      refine goes_ Try.func91 (by kernel_rfl) rfl #[.agg #[.int .i64 ((rd_T43 l0 (ji25)).f0), .int .i64 ((rd_T43 l0 (ji25)).f1)], .agg #[.int .i64 ((rd_T43 l0 x17_1).f0), .int .i64 ((rd_T43 l0 x17_1).f1)], .agg #[.int .i64 t115, .int .i64 t116], .int .i64 a3, .int .i64 a4, .int .i64 a5] (by rfl) rfl rfl (by (try simp only [List.map_toArray, List.map_cons, List.map_nil]); first | done | (simp only [hji25]; rfl) | rfl | (simp only [List.length_drop, List.length_take]; rfl) | (rw [Int.tdiv_eq_ediv_of_nonneg (Int.natCast_nonneg _)]; rfl)) ?_
                      with_reducible refine (headroomref10_Down.calls k1 ((rd_T43 l0 (ji25)).f0) ((rd_T43 l0 (ji25)).f1) ((rd_T43 l0 x17_1).f0) ((rd_T43 l0 x17_1).f1) t115 t116 a3 a4 a5 t117 t118 _ A31.out).mono ?_
                      rintro e w35 ⟨rfl, hb⟩
                      refine ⟨_, rfl, ?_⟩
                      have n0_ := Aside0.mk (Kd.R_below (by (with_reducible repeat (first | apply Kd.R_alloc | apply Kd.R_drewN | apply Kd.R_drew)); exact HO_16.out) hb)
                      have n1_ := Aside0.mk (below_step (by repeat (first | (with_reducible first | exact HB.out | apply below_alloc | apply pw_below_drewN | apply below_drew1) | exact HB.out)) hb)
                      clear HO_16
                      clear HB
                      have HO_16 := n0_
                      have HB := n1_
                      clear n0_ n1_
                      (try clear hb)
                      (try clear hb2)
                      (try clear hk)
                      (try clear hi)
                      refine hK.out _ _ ⟨((HB.out.cell (World.block_lt_of_cell? w _ hw113_0)).trans hw113_0), ((HB.out.cell (World.block_lt_of_cell? w _ hw113_1)).trans hw113_1), ((HB.out.cell (World.block_lt_of_cell? w _ hw114_0)).trans hw114_0), ((HB.out.cell (World.block_lt_of_cell? w _ hw114_1)).trans hw114_1)⟩ (fun hHeld => ?_)
                      clear hK K
                      refine norm_ (a' := ?_) ?_ ?_
                      rotate_left
                      · show Act.put _ (some 85) _ = _
                        simp only [Act.put, List.setIfInBounds_toArray, List.set_cons_zero, List.set_cons_succ, i64_w, i32_w]
                        rfl
                      refine one_ (i := 26) (N := some 86) #[true, true, true, true, true, true, true, true, true, true, true, true, true, true, true, true, true, true, true, true, true, true, true, true, true, true, true, false, false] rfl rfl (one_of HT_.out (by kernel_rfl)) (by decide) (fun K hK => ?_)
                      refine value_ (w1 := ?_) (v := ?_) (by rfl) rfl ?_ ?_
                      rotate_left 2
                      · go_simp
                        constructor
                        · rfl
                        · rfl
                      refine hK.out _ _ ⟨(World.cell?_alloc_lt _ _ _ (World.block_lt_of_cell? _ _ (((HB.out.cell (World.block_lt_of_cell? w _ hw113_0)).trans hw113_0)))).trans (((HB.out.cell (World.block_lt_of_cell? w _ hw113_0)).trans hw113_0)), (World.cell?_alloc_lt _ _ _ (World.block_lt_of_cell? _ _ (((HB.out.cell (World.block_lt_of_cell? w _ hw113_1)).trans hw113_1)))).trans (((HB.out.cell (World.block_lt_of_cell? w _ hw113_1)).trans hw113_1)), (World.cell?_alloc_lt _ _ _ (World.block_lt_of_cell? _ _ (((HB.out.cell (World.block_lt_of_cell? w _ hw114_0)).trans hw114_0)))).trans (((HB.out.cell (World.block_lt_of_cell? w _ hw114_0)).trans hw114_0)), (World.cell?_alloc_lt _ _ _ (World.block_lt_of_cell? _ _ (((HB.out.cell (World.block_lt_of_cell? w _ hw114_1)).trans hw114_1)))).trans (((HB.out.cell (World.block_lt_of_cell? w _ hw114_1)).trans hw114_1))⟩ (fun hHeld => ?_)
                      clear hK K
                      refine norm_ (a' := ?_) ?_ ?_
                      rotate_left
                      · show Act.put _ (some 86) _ = _
                        simp only [Act.put, List.setIfInBounds_toArray, List.set_cons_zero, List.set_cons_succ, i64_w, i32_w]
                        rfl
                      refine one_ (i := 27) (N := some 87) #[true, true, true, true, true, true, true, true, true, true, true, true, true, true, true, true, true, true, true, true, true, true, true, true, true, true, true, true, false] rfl rfl (one_of HT_.out (by kernel_rfl)) (by decide) (fun K hK => ?_)
                      refine Kd.R_append_step k43 (w0 := w) w.heap.size (by rfl) (.tmp 60) (.tmp 86) 33 43 (.agg #[(.int .i64 0), (.int .i64 0)]) 16 rfl Try.underlying33 info43 rfl (by decide) (by omega) u16 x16_1 (⟨t117, t118⟩ : S43) [.int .i64 t117, .int .i64 t118] (fun _ => True) (fun _ => False) rfl rfl ?aP (fun _ hk => hk.elim) ?aF ?aO ?aB ?aS ?aL ?_
                      (case aP => exact k43_mkM _ _ _ (⟨t117, t118⟩ : S43))
                      (case aB => exact (by repeat (first | (with_reducible first | exact HB.out | apply below_alloc | apply pw_below_drewN | apply below_drew1) | exact HB.out)))
                      (case aF => exact (fun _ _ => trivial))
                      (case aO => exact (by (with_reducible repeat (first | apply Kd.R_alloc | apply Kd.R_drewN | apply Kd.R_drew)); exact HO_16.out))
                      (case aS => exact (below_size (by repeat (first | (with_reducible first | exact HB.out | apply below_alloc | apply pw_below_drewN | apply below_drew1) | exact HB.out))))
                      (case aL => have := LMc32.out; omega)
                      intro v120 w36 ho hb hg hat
                      rw [← Ny119.out] at ho
                      have n0_ := Aside0.mk (hb)
                      have n1_ := Aside0.mk (ho)
                      clear HB
                      clear HO_16
                      have HB := n0_
                      have HO121 := n1_
                      clear n0_ n1_
                      clear ho hb hg hat
                      refine hK.out _ _ ⟨((HB.out.cell (World.block_lt_of_cell? w _ hw113_0)).trans hw113_0), ((HB.out.cell (World.block_lt_of_cell? w _ hw113_1)).trans hw113_1), ((HB.out.cell (World.block_lt_of_cell? w _ hw114_0)).trans hw114_0), ((HB.out.cell (World.block_lt_of_cell? w _ hw114_1)).trans hw114_1)⟩ (fun hHeld => ?_)
                      clear hK K
                      refine norm_ (a' := ?_) ?_ ?_
                      rotate_left
                      · show Act.put _ (some 87) _ = _
                        simp only [Act.put, List.setIfInBounds_toArray, List.set_cons_zero, List.set_cons_succ, i64_w, i32_w]
                        rfl
                      refine pure_ (i := 28) (N := some 16) (v := ?_) (a' := ?_) #[true, true, true, true, true, true, true, true, true, true, true, true, true, true, true, true, true, true, true, true, true, true, true, true, true, true, true, true, true] rfl rfl (any_of HT_.out (by kernel_rfl)) (fun _ _ _ h => h) (Or.inl ⟨by rfl, ?_⟩) ?_ ?_
                      rotate_left
                      · intro w'
                        go_simp
                        with_reducible rfl
                      rotate_left
                      · simp only [Act.put, List.setIfInBounds_toArray, List.set_cons_zero, List.set_cons_succ, i64_w, i32_w]
                        rfl
                      refine done_ (done_of HT_.out (by kernel_rfl)) ?_
                      try go_wp2
                      go_roundg k1
                      case measure => have := HK1.out; omega
                      case rel => exact ⟨(y119), (wrap64 (x17_1 + 1)), (by first | rfl | (simp; done) | (simp [*]; done)), H', ⟨by have := HK1.out; omega⟩, ⟨by (with_reducible repeat (first | apply Kd.R_alloc | apply Kd.R_drewN | apply Kd.R_drew)); exact HO121.out⟩, ⟨by repeat (first | (with_reducible first | exact HB.out | apply below_alloc | apply pw_below_drewN | apply below_drew1) | exact HB.out)⟩⟩
                    · rw [if_neg c32] at H
                      exact absurd H (by simp)
                  · rw [if_neg c29] at H
                    exact absurd H (by simp)
                · rw [if_neg c28] at H
                  exact absurd H (by simp)
              · rw [if_neg c27] at H
                exact absurd H (by simp)
            · rw [if_neg c26] at H
              exact absurd H (by simp)
      · rw [if_neg c10] at H
        have c10b0 : decide (x17_1 < (l0.length : Int)) = false := decide_eq_false c10
        clear c10
        obtain rfl := Option.some.inj H
        go_wp2
        go_ret
        exact ⟨_, by first | rfl | (simp [errW_none, errW_some] <;> rfl) | (simp [*, errW_none, errW_some] <;> rfl), by (with_reducible repeat (first | apply Kd.R_alloc | apply Kd.R_drewN | apply Kd.R_drew)); exact HO_16.out, by repeat (first | (with_reducible first | exact HB.out | apply below_alloc | apply pw_below_drewN | apply below_drew1) | exact HB.out)⟩

end Go.Proofs.Ytmglkelmdcpinaa.G
/- The contract of the function headroomref08_Log (number 84 of the translation): what its call computes, as a plain Lean function; memory that was there stays as it was. Conditions: none beyond the theorem's own. Written by a program (gprint.py). -/
namespace Go.Proofs.Ytmglkelmdcpinaa.G
open Go.RowKit Go.Proofs.YtmglkelmdcpinaaW.PrintWords Go.Proofs.YtmglkelmdcpinaaW.PrintLast Go.Proofs.YtmglkelmdcpinaaW.PrintMore
attribute [local go_sem] max2_int min2_int max_two min_two max_three min_three max_four min_four   -- for this text's walks alone
set_option linter.unusedVariables false
set_option linter.unusedSimpArgs false

/-! ### headroomref08_Log: function 84 -/
def headroomref08_Log.l0 : Nat → Int → Int → Option (Int)
  | 0, _, _ => none
  | k + 1, x0, x3 => if x3 ≤ 6 then ((headroomref01_Pow.f k x3).bind fun t101 => (if t101 = x0 then (some x3) else (headroomref08_Log.l0 k x0 (wrap64 (x3 + 1))))) else (some (-1))
def headroomref08_Log.f (k : Nat) (a0 : Int) : Option (Int) := headroomref08_Log.l0 k a0 2
theorem headroomref08_Log.mono_l : ∀ k, (∀ y0 y1, LeO (headroomref08_Log.l0 k y0 y1) (headroomref08_Log.l0 (k + 1) y0 y1))
  | 0 => fun _ _ r h => by simp [headroomref08_Log.l0] at h
  | k + 1 => by
    have ih0 := headroomref08_Log.mono_l k
    · intro y0 y1
      unfold headroomref08_Log.l0
      repeat' first
      | (with_reducible exact ih0 _ _)
      | (with_reducible exact headroomref01_Pow.mono _ _)
      | (with_reducible exact LeO.refl _)
      | (with_reducible exact LeO.none _)
      | (with_reducible refine LeO.ite ?_ ?_)
      | (with_reducible refine LeO.bind ?_ (fun _ => ?_))
      | exact ih0 _ _
      | exact headroomref01_Pow.mono _ _
      | exact LeO.none _
      | refine LeO.ite ?_ ?_
      | refine LeO.bind ?_ (fun _ => ?_)
theorem headroomref08_Log.mono : ∀ a0 k, LeO (headroomref08_Log.f k a0) (headroomref08_Log.f (k + 1) a0) := by
  intro a0 k
  have ih0 := headroomref08_Log.mono_l k
  unfold headroomref08_Log.f
  repeat' first
      | (with_reducible exact ih0 _ _)
      | (with_reducible exact headroomref01_Pow.mono _ _)
      | (with_reducible exact LeO.refl _)
      | (with_reducible exact LeO.none _)
      | (with_reducible refine LeO.ite ?_ ?_)
      | (with_reducible refine LeO.bind ?_ (fun _ => ?_))
      | exact ih0 _ _
      | exact headroomref01_Pow.mono _ _
      | exact LeO.none _
      | refine LeO.ite ?_ ?_
      | refine LeO.bind ?_ (fun _ => ?_)
set_option maxHeartbeats 8000000 in
set_option maxRecDepth 100000 in
theorem headroomref08_Log.calls (k : Nat) (a0 : Int) (r : Int) (w : World) (h : headroomref08_Log.f k a0 = some r) :
    Calls Try.prog 84 #[.int .i64 a0] w fun e w' => e = .returned (.int .i64 r) ∧ Drawn0 w w' := by
  have H : (headroomref08_Log.l0 k a0 2) = some r := h
  clear h
  have H' := Aside0.mk H
  clear H
  go_enter Try.func84, Try.ntmps84
  go_wp2
  go_loopg [3] k (fun kq v3 w' => ∃ (x3_1 : Int), v3 = .int .i64 x3_1 ∧ Aside0 (headroomref08_Log.l0 kq a0 x3_1 = some r) ∧ Aside0 (kq ≤ k) ∧ Drawn0 w w')
  case atStart => exact ⟨(2), (by first | rfl | (simp; done) | (simp [*]; done)), H', ⟨Nat.le_refl _⟩, by repeat (first | exact Drawn0.refl _ | apply Drawn0.step)⟩
  case round =>
    clear H'
    obtain ⟨x3_1, rfl, HA, HK1, ⟨m1, rfl⟩⟩ := hrel
    cases gk with
    | zero => exact absurd HA.out (by simp [headroomref08_Log.l0])
    | succ k1 =>
      have H := HA.out
      clear HA
      simp only [headroomref08_Log.l0] at H
      by_cases c2 : x3_1 ≤ 6
      · rw [if_pos c2] at H
        have c2b0 : decide (x3_1 ≤ 6) = true := decide_eq_true c2
        clear c2
        replace H := Option.bind_eq_some_iff.mp H
        obtain ⟨t101, A30, H⟩ := H
        replace H : (if t101 = a0 then (some x3_1) else (headroomref08_Log.l0 k1 a0 (wrap64 (x3_1 + 1)))) = some r := H
        have A3 := Aside0.mk A30
        clear A30
        by_cases c4 : t101 = a0
        · rw [if_pos c4] at H
          have c4b0 : (t101 == a0) = true := beq_iff_eq.mpr c4
          have c4b1 : (t101 != a0) = false := bne_eq_false_iff_eq.mpr c4
          clear c4
          obtain rfl := Option.some.inj H
          go_wp2_with (first | ((with_reducible refine gate_callee (f := 112) rfl ?_); refine goesL_ (some 9) rfl rfl Try.func112 (by kernel_rfl) rfl #[.int .i64 x3_1] rfl (by (try simp only [List.map_toArray, List.map_cons, List.map_nil]); first | done | rfl | (simp only [List.length_drop, List.length_take]; rfl)) ?_; (with_reducible refine (headroomref01_Pow.calls k1 x3_1 t101 _ A3.out).mono ?_); rintro e w' ⟨rfl, ⟨nd, rfl⟩⟩; refine ⟨_, rfl, ?_⟩))
          go_ret
          exact ⟨by first | rfl | (simp; done) | (simp [*]; done), by repeat (first | exact Drawn0.refl _ | apply Drawn0.step)⟩
        · rw [if_neg c4] at H
          have c4b0 : (t101 == a0) = false := beq_eq_false_iff_ne.mpr c4
          have c4b1 : (t101 != a0) = true := bne_iff_ne.mpr c4
          have H' := Aside0.mk H
          clear H
          go_wp2_with (first | ((with_reducible refine gate_callee (f := 112) rfl ?_); refine goesL_ (some 9) rfl rfl Try.func112 (by kernel_rfl) rfl #[.int .i64 x3_1] rfl (by (try simp only [List.map_toArray, List.map_cons, List.map_nil]); first | done | rfl | (simp only [List.length_drop, List.length_take]; rfl)) ?_; (with_reducible refine (headroomref01_Pow.calls k1 x3_1 t101 _ A3.out).mono ?_); rintro e w' ⟨rfl, ⟨nd, rfl⟩⟩; refine ⟨_, rfl, ?_⟩))
          go_roundg k1
          case measure => have := HK1.out; omega
          case rel => exact ⟨(wrap64 (x3_1 + 1)), (by first | rfl | (simp; done) | (simp [*]; done)), H', ⟨by have := HK1.out; omega⟩, by repeat (first | exact Drawn0.refl _ | apply Drawn0.step)⟩
      · rw [if_neg c2] at H
        have c2b0 : decide (x3_1 ≤ 6) = false := decide_eq_false c2
        clear c2
        obtain rfl := Option.some.inj H
        go_wp2
        go_ret
        exact ⟨by first | rfl | (simp; done) | (simp [*]; done), by repeat (first | exact Drawn0.refl _ | apply Drawn0.step)⟩

end Go.Proofs.Ytmglkelmdcpinaa.G
/- The contract of the function headroomref10_Settings (number 85 of the translation): what its call computes, as a plain Lean function; memory that was there stays as it was. Conditions: none beyond the theorem's own. Written by a program (gprint.py). -/
namespace Go.Proofs.Ytmglkelmdcpinaa.G
open Go.RowKit Go.Proofs.YtmglkelmdcpinaaW.PrintWords Go.Proofs.YtmglkelmdcpinaaW.PrintLast Go.Proofs.YtmglkelmdcpinaaW.PrintMore
attribute [local go_sem] max2_int min2_int max_two min_two max_three min_three max_four min_four   -- for this text's walks alone
set_option linter.unusedVariables false
set_option linter.unusedSimpArgs false

/-! ### headroomref10_Settings: function 85 -/
def headroomref10_Settings.f (a0 : Int) (a1 : Int) (a2 : Int) : Option (Bool) := if a0 ≥ 0 then (if a0 ≤ 29 then (if a1 ≥ 0 then (if a1 ≤ 3 then (if a2 ≥ 0 then (some (decide (a2 ≤ 2))) else (some false)) else (some false)) else (some false)) else (some false)) else (some false)
set_option maxHeartbeats 8000000 in
set_option maxRecDepth 100000 in
theorem headroomref10_Settings.calls (a0 : Int) (a1 : Int) (a2 : Int) (r : Bool) (w : World) (h : headroomref10_Settings.f a0 a1 a2 = some r) :
    Calls Try.prog 85 #[.int .i64 a0, .int .i64 a1, .int .i64 a2] w fun e w' => e = .returned (.bool r) ∧ Drawn0 w w' := by
  have H : (if a0 ≥ 0 then (if a0 ≤ 29 then (if a1 ≥ 0 then (if a1 ≤ 3 then (if a2 ≥ 0 then (some (decide (a2 ≤ 2))) else (some false)) else (some false)) else (some false)) else (some false)) else (some false)) = some r := h
  clear h
  by_cases c4 : a0 ≥ 0
  · rw [if_pos c4] at H
    have c4b0 : decide (0 ≤ a0) = true := decide_eq_true c4
    clear c4
    by_cases c5 : a0 ≤ 29
    · rw [if_pos c5] at H
      have c5b0 : decide (a0 ≤ 29) = true := decide_eq_true c5
      clear c5
      by_cases c6 : a1 ≥ 0
      · rw [if_pos c6] at H
        have c6b0 : decide (0 ≤ a1) = true := decide_eq_true c6
        clear c6
        by_cases c7 : a1 ≤ 3
        · rw [if_pos c7] at H
          have c7b0 : decide (a1 ≤ 3) = true := decide_eq_true c7
          clear c7
          by_cases c8 : a2 ≥ 0
          · rw [if_pos c8] at H
            have c8b0 : decide (0 ≤ a2) = true := decide_eq_true c8
            clear c8
            obtain rfl := Option.some.inj H
            go_enter Try.func85, Try.ntmps85
            go_wp2
            go_ret
            exact ⟨by first | rfl | (simp; done) | (simp [*]; done), by repeat (first | exact Drawn0.refl _ | apply Drawn0.step)⟩
          · rw [if_neg c8] at H
            have c8b0 : decide (0 ≤ a2) = false := decide_eq_false c8
            clear c8
            obtain rfl := Option.some.inj H
            go_enter Try.func85, Try.ntmps85
            go_wp2
            go_ret
            exact ⟨by first | rfl | (simp; done) | (simp [*]; done), by repeat (first | exact Drawn0.refl _ | apply Drawn0.step)⟩
        · rw [if_neg c7] at H
          have c7b0 : decide (a1 ≤ 3) = false := decide_eq_false c7
          clear c7
          obtain rfl := Option.some.inj H
          go_enter Try.func85, Try.ntmps85
          go_wp2
          go_ret
          exact ⟨by first | rfl | (simp; done) | (simp [*]; done), by repeat (first | exact Drawn0.refl _ | apply Drawn0.step)⟩
      · rw [if_neg c6] at H
        have c6b0 : decide (0 ≤ a1) = false := decide_eq_false c6
        clear c6
        obtain rfl := Option.some.inj H
        go_enter Try.func85, Try.ntmps85
        go_wp2
        go_ret
        exact ⟨by first | rfl | (simp; done) | (simp [*]; done), by repeat (first | exact Drawn0.refl _ | apply Drawn0.step)⟩
    · rw [if_neg c5] at H
      have c5b0 : decide (a0 ≤ 29) = false := decide_eq_false c5
      clear c5
      obtain rfl := Option.some.inj H
      go_enter Try.func85, Try.ntmps85
      go_wp2
      go_ret
      exact ⟨by first | rfl | (simp; done) | (simp [*]; done), by repeat (first | exact Drawn0.refl _ | apply Drawn0.step)⟩
  · rw [if_neg c4] at H
    have c4b0 : decide (0 ≤ a0) = false := decide_eq_false c4
    clear c4
    obtain rfl := Option.some.inj H
    go_enter Try.func85, Try.ntmps85
    go_wp2
    go_ret
    exact ⟨by first | rfl | (simp; done) | (simp [*]; done), by repeat (first | exact Drawn0.refl _ | apply Drawn0.step)⟩

end Go.Proofs.Ytmglkelmdcpinaa.G
/- The contract of the function headroomref03_Within (number 139 of the translation): what its call computes, as a plain Lean function; memory that was there stays as it was. Conditions: none beyond the theorem's own. Written by a program (gprint.py). -/
namespace Go.Proofs.Ytmglkelmdcpinaa.G
open Go.RowKit Go.Proofs.YtmglkelmdcpinaaW.PrintWords Go.Proofs.YtmglkelmdcpinaaW.PrintLast Go.Proofs.YtmglkelmdcpinaaW.PrintMore
attribute [local go_sem] max2_int min2_int max_two min_two max_three min_three max_four min_four   -- for this text's walks alone
set_option linter.unusedVariables false
set_option linter.unusedSimpArgs false

/-! ### headroomref03_Within: function 139 -/
def headroomref03_Within.f (a0_0 : Int) (a0_1 : Int) (a1 : Int) : Option (Bool) := if a0_0 ≤ a1 then (if a0_0 ≥ (wrap64 (-a1)) then (if a0_1 ≤ a1 then (some (decide (a0_1 ≥ (wrap64 (-a1))))) else (some false)) else (some false)) else (some false)
set_option maxHeartbeats 8000000 in
set_option maxRecDepth 100000 in
theorem headroomref03_Within.calls (a0_0 : Int) (a0_1 : Int) (a1 : Int) (r : Bool) (w : World) (h : headroomref03_Within.f a0_0 a0_1 a1 = some r) :
    Calls Try.prog 139 #[.agg #[.int .i64 a0_0, .int .i64 a0_1], .int .i64 a1] w fun e w' => e = .returned (.bool r) ∧ Below w.heap.size w w' := by
  have hu43 := Try.underlying43
  have HB := Aside0.mk (Below.refl w.heap.size w)
  have H : (if a0_0 ≤ a1 then (if a0_0 ≥ (wrap64 (-a1)) then (if a0_1 ≤ a1 then (some (decide (a0_1 ≥ (wrap64 (-a1))))) else (some false)) else (some false)) else (some false)) = some r := h
  clear h
  by_cases c3 : a0_0 ≤ a1
  · rw [if_pos c3] at H
    have c3b0 : decide (a0_0 ≤ a1) = true := decide_eq_true c3
    clear c3
    by_cases c4 : a0_0 ≥ (wrap64 (-a1))
    · rw [if_pos c4] at H
      have c4b0 : decide ((wrap64 (-a1)) ≤ a0_0) = true := decide_eq_true c4
      clear c4
      by_cases c5 : a0_1 ≤ a1
      · rw [if_pos c5] at H
        have c5b0 : decide (a0_1 ≤ a1) = true := decide_eq_true c5
        clear c5
        obtain rfl := Option.some.inj H
        go_enter Try.func139, Try.ntmps139
        go_wp2_with (first | ((with_reducible refine gate_dst (N := 2) rfl ?_); refine box_event ?hg (N := 2) ?hd (cs := #[.int .i64 a0_0, .int .i64 a0_1]) (t := 43) ?hr ?_; (case hd => rfl); (case hg => rfl); (case hr => first | (go_simp; done) | (go_simp; rfl)); intro gb101 hg w6 hbox hb; have n0_ := Aside0.mk (below_step (by repeat (first | (with_reducible first | exact HB.out | apply below_alloc | apply pw_below_drewN | apply below_drew1) | exact HB.out)) hb); have n1_ := Aside0.mk (hbox); have n2_ := Aside0.mk ((by rw [hg]; exact (below_size (by repeat (first | (with_reducible first | exact HB.out | apply below_alloc | apply pw_below_drewN | apply below_drew1) | exact HB.out))) : w.heap.size ≤ gb101)); have n3_ := Aside0.mk ((by rw [hg]; exact (below_size (by repeat (first | (with_reducible first | exact HB.out | apply below_alloc | apply pw_below_drewN | apply below_drew1) | exact HB.out))) : w.heap.size ≤ gb101)); clear HB; have HB := n0_; have BK101 := n1_; have GW101 := n2_; have GE101 := n3_; clear n0_ n1_ n2_ n3_; clear hb hbox hg; have hcz7_0 : w6.cell? ⟨gb101, 0, none⟩ = some (.int .i64 a0_0) := (blk_cell BK101.out 0).trans rfl; have hcz7_1 : w6.cell? ⟨gb101, 1, none⟩ = some (.int .i64 a0_1) := (blk_cell BK101.out 1).trans rfl; have hfz7_0 := blk_frozen BK101.out 0; have hfz7_1 := blk_frozen BK101.out 1))
        go_ret
        exact ⟨by first | rfl | (simp [errW_none, errW_some] <;> rfl) | (simp [*, errW_none, errW_some] <;> rfl), by repeat (first | (with_reducible first | exact HB.out | apply below_alloc | apply pw_below_drewN | apply below_drew1 | refine below_set ?_ GE101.out) | exact HB.out)⟩
      · rw [if_neg c5] at H
        have c5b0 : decide (a0_1 ≤ a1) = false := decide_eq_false c5
        clear c5
        obtain rfl := Option.some.inj H
        go_enter Try.func139, Try.ntmps139
        go_wp2_with (first | ((with_reducible refine gate_dst (N := 2) rfl ?_); refine box_event ?hg (N := 2) ?hd (cs := #[.int .i64 a0_0, .int .i64 a0_1]) (t := 43) ?hr ?_; (case hd => rfl); (case hg => rfl); (case hr => first | (go_simp; done) | (go_simp; rfl)); intro gb101 hg w8 hbox hb; have n0_ := Aside0.mk (below_step (by repeat (first | (with_reducible first | exact HB.out | apply below_alloc | apply pw_below_drewN | apply below_drew1) | exact HB.out)) hb); have n1_ := Aside0.mk (hbox); have n2_ := Aside0.mk ((by rw [hg]; exact (below_size (by repeat (first | (with_reducible first | exact HB.out | apply below_alloc | apply pw_below_drewN | apply below_drew1) | exact HB.out))) : w.heap.size ≤ gb101)); have n3_ := Aside0.mk ((by rw [hg]; exact (below_size (by repeat (first | (with_reducible first | exact HB.out | apply below_alloc | apply pw_below_drewN | apply below_drew1) | exact HB.out))) : w.heap.size ≤ gb101)); clear HB; have HB := n0_; have BK101 := n1_; have GW101 := n2_; have GE101 := n3_; clear n0_ n1_ n2_ n3_; clear hb hbox hg; have hcz9_0 : w8.cell? ⟨gb101, 0, none⟩ = some (.int .i64 a0_0) := (blk_cell BK101.out 0).trans rfl; have hcz9_1 : w8.cell? ⟨gb101, 1, none⟩ = some (.int .i64 a0_1) := (blk_cell BK101.out 1).trans rfl; have hfz9_0 := blk_frozen BK101.out 0; have hfz9_1 := blk_frozen BK101.out 1))
        go_ret
        exact ⟨by first | rfl | (simp [errW_none, errW_some] <;> rfl) | (simp [*, errW_none, errW_some] <;> rfl), by repeat (first | (with_reducible first | exact HB.out | apply below_alloc | apply pw_below_drewN | apply below_drew1 | refine below_set ?_ GE101.out) | exact HB.out)⟩
    · rw [if_neg c4] at H
      have c4b0 : decide ((wrap64 (-a1)) ≤ a0_0) = false := decide_eq_false c4
      clear c4
      obtain rfl := Option.some.inj H
      go_enter Try.func139, Try.ntmps139
      go_wp2_with (first | ((with_reducible refine gate_dst (N := 2) rfl ?_); refine box_event ?hg (N := 2) ?hd (cs := #[.int .i64 a0_0, .int .i64 a0_1]) (t := 43) ?hr ?_; (case hd => rfl); (case hg => rfl); (case hr => first | (go_simp; done) | (go_simp; rfl)); intro gb101 hg w10 hbox hb; have n0_ := Aside0.mk (below_step (by repeat (first | (with_reducible first | exact HB.out | apply below_alloc | apply pw_below_drewN | apply below_drew1) | exact HB.out)) hb); have n1_ := Aside0.mk (hbox); have n2_ := Aside0.mk ((by rw [hg]; exact (below_size (by repeat (first | (with_reducible first | exact HB.out | apply below_alloc | apply pw_below_drewN | apply below_drew1) | exact HB.out))) : w.heap.size ≤ gb101)); have n3_ := Aside0.mk ((by rw [hg]; exact (below_size (by repeat (first | (with_reducible first | exact HB.out | apply below_alloc | apply pw_below_drewN | apply below_drew1) | exact HB.out))) : w.heap.size ≤ gb101)); clear HB; have HB := n0_; have BK101 := n1_; have GW101 := n2_; have GE101 := n3_; clear n0_ n1_ n2_ n3_; clear hb hbox hg; have hcz11_0 : w10.cell? ⟨gb101, 0, none⟩ = some (.int .i64 a0_0) := (blk_cell BK101.out 0).trans rfl; have hcz11_1 : w10.cell? ⟨gb101, 1, none⟩ = some (.int .i64 a0_1) := (blk_cell BK101.out 1).trans rfl; have hfz11_0 := blk_frozen BK101.out 0; have hfz11_1 := blk_frozen BK101.out 1))
      go_ret
      exact ⟨by first | rfl | (simp [errW_none, errW_some] <;> rfl) | (simp [*, errW_none, errW_some] <;> rfl), by repeat (first | (with_reducible first | exact HB.out | apply below_alloc | apply pw_below_drewN | apply below_drew1 | refine below_set ?_ GE101.out) | exact HB.out)⟩
  · rw [if_neg c3] at H
    have c3b0 : decide (a0_0 ≤ a1) = false := decide_eq_false c3
    clear c3
    obtain rfl := Option.some.inj H
    go_enter Try.func139, Try.ntmps139
    go_wp2_with (first | ((with_reducible refine gate_dst (N := 2) rfl ?_); refine box_event ?hg (N := 2) ?hd (cs := #[.int .i64 a0_0, .int .i64 a0_1]) (t := 43) ?hr ?_; (case hd => rfl); (case hg => rfl); (case hr => first | (go_simp; done) | (go_simp; rfl)); intro gb101 hg w12 hbox hb; have n0_ := Aside0.mk (below_step (by repeat (first | (with_reducible first | exact HB.out | apply below_alloc | apply pw_below_drewN | apply below_drew1) | exact HB.out)) hb); have n1_ := Aside0.mk (hbox); have n2_ := Aside0.mk ((by rw [hg]; exact (below_size (by repeat (first | (with_reducible first | exact HB.out | apply below_alloc | apply pw_below_drewN | apply below_drew1) | exact HB.out))) : w.heap.size ≤ gb101)); have n3_ := Aside0.mk ((by rw [hg]; exact (below_size (by repeat (first | (with_reducible first | exact HB.out | apply below_alloc | apply pw_below_drewN | apply below_drew1) | exact HB.out))) : w.heap.size ≤ gb101)); clear HB; have HB := n0_; have BK101 := n1_; have GW101 := n2_; have GE101 := n3_; clear n0_ n1_ n2_ n3_; clear hb hbox hg; have hcz13_0 : w12.cell? ⟨gb101, 0, none⟩ = some (.int .i64 a0_0) := (blk_cell BK101.out 0).trans rfl; have hcz13_1 : w12.cell? ⟨gb101, 1, none⟩ = some (.int .i64 a0_1) := (blk_cell BK101.out 1).trans rfl; have hfz13_0 := blk_frozen BK101.out 0; have hfz13_1 := blk_frozen BK101.out 1))
    go_ret
    exact ⟨by first | rfl | (simp [errW_none, errW_some] <;> rfl) | (simp [*, errW_none, errW_some] <;> rfl), by repeat (first | (with_reducible first | exact HB.out | apply below_alloc | apply pw_below_drewN | apply below_drew1 | refine below_set ?_ GE101.out) | exact HB.out)⟩

end Go.Proofs.Ytmglkelmdcpinaa.G
/- The contract of the function headroomref09_Narrow (number 86 of the translation): what its call computes, as a plain Lean function; memory that was there stays as it was. Conditions: none beyond the theorem's own. Written by a program (gprint.py). -/
namespace Go.Proofs.Ytmglkelmdcpinaa.G
open Go.RowKit Go.Proofs.YtmglkelmdcpinaaW.PrintWords Go.Proofs.YtmglkelmdcpinaaW.PrintLast Go.Proofs.YtmglkelmdcpinaaW.PrintMore
attribute [local go_sem] max2_int min2_int max_two min_two max_three min_three max_four min_four   -- for this text's walks alone
set_option linter.unusedVariables false
set_option linter.unusedSimpArgs false

/-! ### headroomref09_Narrow: function 86 -/
def headroomref09_Narrow.l0 : Nat → List (S43) → Int → Int → Option (Bool)
  | 0, _, _, _ => none
  | k + 1, x5, x6, x7 => if x7 < x6 then (if 0 ≤ x7 then (if x7 < (x5.length : Int) then ((headroomref01_Pow.f k 31).bind fun t103 => ((headroomref03_Within.f ((rd_T43 x5 x7).f0) ((rd_T43 x5 x7).f1) t103).bind fun t104 => (if t104 = true then (headroomref09_Narrow.l0 k x5 x6 (wrap64 (x7 + 1))) else (some false)))) else (none)) else (none)) else (some true)
def headroomref09_Narrow.f (k : Nat) (l0 : List (S43)) : Option (Bool) := headroomref09_Narrow.l0 k l0 (l0.length : Int) 0
theorem headroomref09_Narrow.mono_l : ∀ k, (∀ y0 y1 y2, LeO (headroomref09_Narrow.l0 k y0 y1 y2) (headroomref09_Narrow.l0 (k + 1) y0 y1 y2))
  | 0 => fun _ _ _ r h => by simp [headroomref09_Narrow.l0] at h
  | k + 1 => by
    have ih0 := headroomref09_Narrow.mono_l k
    · intro y0 y1 y2
      unfold headroomref09_Narrow.l0
      repeat' first
      | (with_reducible exact ih0 _ _ _)
      | (with_reducible exact headroomref01_Pow.mono _ _)
      | (with_reducible exact LeO.refl _)
      | (with_reducible exact LeO.none _)
      | (with_reducible refine LeO.ite ?_ ?_)
      | (with_reducible refine LeO.bind ?_ (fun _ => ?_))
      | exact ih0 _ _ _
      | exact headroomref01_Pow.mono _ _
      | exact LeO.none _
      | refine LeO.ite ?_ ?_
      | refine LeO.bind ?_ (fun _ => ?_)
theorem headroomref09_Narrow.mono : ∀ a0 k, LeO (headroomref09_Narrow.f k a0) (headroomref09_Narrow.f (k + 1) a0) := by
  intro a0 k
  have ih0 := headroomref09_Narrow.mono_l k
  unfold headroomref09_Narrow.f
  repeat' first
      | (with_reducible exact ih0 _ _ _)
      | (with_reducible exact headroomref01_Pow.mono _ _)
      | (with_reducible exact LeO.refl _)
      | (with_reducible exact LeO.none _)
      | (with_reducible refine LeO.ite ?_ ?_)
      | (with_reducible refine LeO.bind ?_ (fun _ => ?_))
      | exact ih0 _ _ _
      | exact headroomref01_Pow.mono _ _
      | exact LeO.none _
      | refine LeO.ite ?_ ?_
      | refine LeO.bind ?_ (fun _ => ?_)
set_option maxHeartbeats 8000000 in
set_option maxRecDepth 100000 in
theorem headroomref09_Narrow.calls (k : Nat) (A0 : Option Addr) (c0 : Nat) (l0 : List (S43)) (r : Bool) (w : World) (hr0 : Kd.C k43 w A0 l0.length l0) (hc0 : l0.length ≤ c0) (h : headroomref09_Narrow.f k l0 = some r) :
    Calls Try.prog 86 #[.slice A0 l0.length c0] w fun e w' => e = .returned (.bool r) ∧ Below w.heap.size w w' := by
  have hu43 := Try.underlying43
  have HR0 := Aside0.mk hr0
  have HC0 := Aside0.mk hc0
  clear hr0 hc0
  have HB := Aside0.mk (Below.refl w.heap.size w)
  have H : (headroomref09_Narrow.l0 k l0 (l0.length : Int) 0) = some r := h
  clear h
  have H' := Aside0.mk H
  clear H
  go_enter Try.func86, Try.ntmps86
  go_wp2
  go_loopg [7] k (fun kq v7 w' => ∃ (x7_1 : Int), v7 = .int .i64 x7_1 ∧ Aside0 (headroomref09_Narrow.l0 kq l0 (l0.length : Int) x7_1 = some r) ∧ Aside0 (kq ≤ k) ∧ Aside0 (Below w.heap.size w w'))
  case atStart => exact ⟨(0), (by first | rfl | (simp; done) | (simp [*]; done)), H', ⟨Nat.le_refl _⟩, ⟨by repeat (first | (with_reducible first | exact HB.out | apply below_alloc | apply pw_below_drewN | apply below_drew1) | exact HB.out)⟩⟩
  case round =>
    clear H'
    obtain ⟨x7_1, rfl, HA, HK1, HB⟩ := hrel
    cases gk with
    | zero => exact absurd HA.out (by simp [headroomref09_Narrow.l0])
    | succ k1 =>
      have H := HA.out
      clear HA
      simp only [headroomref09_Narrow.l0] at H
      by_cases c2 : x7_1 < (l0.length : Int)
      · rw [if_pos c2] at H
        have c2b0 : decide (x7_1 < (l0.length : Int)) = true := decide_eq_true c2
        clear c2
        by_cases c3 : 0 ≤ x7_1
        · rw [if_pos c3] at H
          have c3b0 : decide (0 ≤ x7_1) = true := decide_eq_true c3
          clear c3
          by_cases c4 : x7_1 < (l0.length : Int)
          · rw [if_pos c4] at H
            have c4b0 : decide (x7_1 < (l0.length : Int)) = true := decide_eq_true c4
            clear c4
            replace H := Option.bind_eq_some_iff.mp H
            obtain ⟨t103, A50, H⟩ := H
            replace H : ((headroomref03_Within.f ((rd_T43 l0 x7_1).f0) ((rd_T43 l0 x7_1).f1) t103).bind fun t104 => (if t104 = true then (headroomref09_Narrow.l0 k1 l0 (l0.length : Int) (wrap64 (x7_1 + 1))) else (some false))) = some r := H
            have A5 := Aside0.mk A50
            clear A50
            replace H := Option.bind_eq_some_iff.mp H
            obtain ⟨t104, A60, H⟩ := H
            replace H : (if t104 = true then (headroomref09_Narrow.l0 k1 l0 (l0.length : Int) (wrap64 (x7_1 + 1))) else (some false)) = some r := H
            have A6 := Aside0.mk A60
            clear A60
            by_cases c7 : t104 = true
            · subst c7
              have H1 : (headroomref09_Narrow.l0 k1 l0 (l0.length : Int) (wrap64 (x7_1 + 1))) = some r := by rw [if_pos rfl] at H; exact H
              clear H
              have H := H1
              clear H1
              have H' := Aside0.mk H
              clear H
              have p101 : 0 ≤ (x7_1 : Int) := of_decide_eq_true (by first | (with_reducible assumption) | assumption)
              have q101 : x7_1 < (l0.length : Int) := of_decide_eq_true (by first | (with_reducible assumption) | assumption)
              obtain ⟨ad101, e101, hx101_0, hx101_1⟩ := at_T43 HR0.out x7_1 p101 q101
              cases e101
              replace hx101_0 := (HB.out.cell (World.block_lt_of_cell? w _ hx101_0)).trans hx101_0
              replace hx101_1 := (HB.out.cell (World.block_lt_of_cell? w _ hx101_1)).trans hx101_1
              replace p101 := eq_true p101
              replace q101 := eq_true q101
              try go_wp2_with (first | ((with_reducible refine gate_dst (N := 4) rfl ?_); refine box_event ?hg (N := 4) ?hd (cs := #[.int .i64 0, .int .i64 0]) (t := 43) ?hr ?_; (case hd => rfl); (case hg => rfl); (case hr => first | (go_simp; done) | (go_simp; rfl)); intro gb102 hg w8 hbox hb; have n0_ := Aside0.mk (below_step (by repeat (first | (with_reducible first | exact HB.out | apply below_alloc | apply pw_below_drewN | apply below_drew1) | exact HB.out)) hb); have n1_ := Aside0.mk (hbox); have n2_ := Aside0.mk ((by rw [hg]; exact (below_size (by repeat (first | (with_reducible first | exact HB.out | apply below_alloc | apply pw_below_drewN | apply below_drew1) | exact HB.out))) : w.heap.size ≤ gb102)); have n3_ := Aside0.mk ((by rw [hg]; exact (below_size (by repeat (first | (with_reducible first | exact HB.out | apply below_alloc | apply pw_below_drewN | apply below_drew1) | exact HB.out))) : w.heap.size ≤ gb102)); clear HB; have HB := n0_; have BK102 := n1_; have GW102 := n2_; have GE102 := n3_; clear n0_ n1_ n2_ n3_; clear hb hbox hg; have hcz9_0 : w8.cell? ⟨gb102, 0, none⟩ = some (.int .i64 0) := (blk_cell BK102.out 0).trans rfl; have hcz9_1 : w8.cell? ⟨gb102, 1, none⟩ = some (.int .i64 0) := (blk_cell BK102.out 1).trans rfl; have hfz9_0 := blk_frozen BK102.out 0; have hfz9_1 := blk_frozen BK102.out 1))
              have n0_ : Aside0 (((w8.setCell ⟨gb102, 0, none⟩ (.int .i64 ((rd_T43 l0 x7_1).f0))).setCell ⟨gb102, 1, none⟩ (.int .i64 ((rd_T43 l0 x7_1).f1))).heap[gb102]? = some (.cells #[.int .i64 ((rd_T43 l0 x7_1).f0), .int .i64 ((rd_T43 l0 x7_1).f1)] 43 (0, 0))) := ⟨by (with_reducible repeat (first | refine blk_drewN ?_ _ | refine blk_drew ?_ | refine blk_alloc ?_ _)); refine blk_put (cs := #[.int .i64 ((rd_T43 l0 x7_1).f0), .int .i64 0]) ?_ 1 _ rfl; (with_reducible repeat (first | refine blk_drewN ?_ _ | refine blk_drew ?_ | refine blk_alloc ?_ _)); refine blk_put (cs := #[.int .i64 0, .int .i64 0]) ?_ 0 _ rfl; (with_reducible repeat (first | refine blk_drewN ?_ _ | refine blk_drew ?_ | refine blk_alloc ?_ _)); exact BK102.out⟩
              have n1_ : Aside0 (Below w.heap.size w ((w8.setCell ⟨gb102, 0, none⟩ (.int .i64 ((rd_T43 l0 x7_1).f0))).setCell ⟨gb102, 1, none⟩ (.int .i64 ((rd_T43 l0 x7_1).f1)))) := ⟨by repeat (first | (with_reducible first | exact HB.out | apply below_alloc | apply pw_below_drewN | apply below_drew1 | refine below_set ?_ GE102.out) | exact HB.out)⟩
              (try clear BK102)
              (try clear HB)
              generalize ((w8.setCell ⟨gb102, 0, none⟩ (.int .i64 ((rd_T43 l0 x7_1).f0))).setCell ⟨gb102, 1, none⟩ (.int .i64 ((rd_T43 l0 x7_1).f1))) = w10 at n0_ n1_ ⊢
              have BK102 := n0_
              have HB := n1_
              clear n0_ n1_
              have n0_ := Aside0.mk (blk_drew BK102.out)
              have n1_ := Aside0.mk (below_drew1 HB.out)
              clear BK102
              clear HB
              have BK102 := n0_
              have HB := n1_
              clear n0_ n1_
              refine start_ (n := 4) (S := fun w' => w'.cell? ⟨gb102, 0, none⟩ = some (.int .i64 ((rd_T43 l0 x7_1).f0)) ∧ w'.cell? ⟨gb102, 1, none⟩ = some (.int .i64 ((rd_T43 l0 x7_1).f1))) (ds := []) #[false, false, false, false] (by kernel_rfl) rfl rfl ⟨(blk_cell BK102.out 0).trans rfl, (blk_cell BK102.out 1).trans rfl⟩ (fun hHeld => ?_)
              generalize w10.drew = w11 at BK102 HB hHeld ⊢
              refine take_ (i := 0) (N := some 11) (v := ?_) (a' := ?_) #[true, false, false, false] rfl rfl (by kernel_rfl) (fun _ _ _ h => h) (Or.inl ⟨by rfl, ?_⟩) hHeld ?_ ?_
              rotate_left
              · rintro w' ⟨s0, s1⟩
                go_simp
                with_reducible rfl
              rotate_left
              · simp only [Act.put, List.setIfInBounds_toArray, List.set_cons_zero, List.set_cons_succ, i64_w, i32_w]
                rfl
              refine one_ (i := 1) (N := some 12) #[true, true, false, false] rfl rfl (by kernel_rfl) (by decide) (fun K hK => ?_)
              refine goes_ Try.func112 (by kernel_rfl) rfl #[.int .i64 31] (by rfl) rfl rfl (by (try simp only [List.map_toArray, List.map_cons, List.map_nil]); first | done | rfl | (simp only [List.length_drop, List.length_take]; rfl)) ?_
              with_reducible refine (headroomref01_Pow.calls k1 31 t103 _ A5.out).mono ?_
              rintro e w' ⟨rfl, ⟨nd, rfl⟩⟩
              refine ⟨_, rfl, ?_⟩
              refine hK.out _ _ ⟨(blk_cell BK102.out 0).trans rfl, (blk_cell BK102.out 1).trans rfl⟩ (fun hHeld => ?_)
              clear hK K
              refine norm_ (a' := ?_) ?_ ?_
              rotate_left
              · show Act.put _ (some 12) _ = _
                simp only [Act.put, List.setIfInBounds_toArray, List.set_cons_zero, List.set_cons_succ, i64_w, i32_w]
                rfl
              refine one_ (i := 2) (N := some 13) #[true, true, true, false] rfl rfl (by kernel_rfl) (by decide) (fun K hK => ?_)
              refine goes_ Try.func139 (by kernel_rfl) rfl #[.agg #[.int .i64 ((rd_T43 l0 x7_1).f0), .int .i64 ((rd_T43 l0 x7_1).f1)], .int .i64 t103] (by rfl) rfl rfl (by (try simp only [List.map_toArray, List.map_cons, List.map_nil]); first | done | rfl | (simp only [List.length_drop, List.length_take]; rfl)) ?_
              with_reducible refine (headroomref03_Within.calls ((rd_T43 l0 x7_1).f0) ((rd_T43 l0 x7_1).f1) t103 true _ A6.out).mono ?_
              rintro e w12 ⟨rfl, hb⟩
              refine ⟨_, rfl, ?_⟩
              have n0_ := Aside0.mk (blk_below (g := gb102) (o := .cells #[.int .i64 ((rd_T43 l0 x7_1).f0), .int .i64 ((rd_T43 l0 x7_1).f1)] 43 (0, 0)) (by (with_reducible repeat (first | refine blk_drewN ?_ _ | refine blk_drew ?_ | refine blk_alloc ?_ _)); exact BK102.out) hb)
              have n1_ := Aside0.mk (below_step (by repeat (first | (with_reducible first | exact HB.out | apply below_alloc | apply pw_below_drewN | apply below_drew1 | refine below_set ?_ GE102.out) | exact HB.out)) hb)
              clear BK102
              clear HB
              have BK102 := n0_
              have HB := n1_
              clear n0_ n1_
              (try clear hb)
              (try clear hb2)
              (try clear hk)
              (try clear hi)
              refine hK.out _ _ ⟨(blk_cell BK102.out 0).trans rfl, (blk_cell BK102.out 1).trans rfl⟩ (fun hHeld => ?_)
              clear hK K
              refine norm_ (a' := ?_) ?_ ?_
              rotate_left
              · show Act.put _ (some 13) _ = _
                simp only [Act.put, List.setIfInBounds_toArray, List.set_cons_zero, List.set_cons_succ, i64_w, i32_w]
                rfl
              refine pure_ (i := 3) (N := some 14) (v := ?_) (a' := ?_) #[true, true, true, true] rfl rfl (by kernel_rfl) (fun _ _ _ h => h) (Or.inl ⟨by rfl, ?_⟩) ?_ ?_
              rotate_left
              · intro w'
                go_simp
                with_reducible rfl
              rotate_left
              · simp only [Act.put, List.setIfInBounds_toArray, List.set_cons_zero, List.set_cons_succ, i64_w, i32_w]
                rfl
              refine done_ (by kernel_rfl) ?_
              try go_wp2
              go_roundg k1
              case measure => have := HK1.out; omega
              case rel => exact ⟨(wrap64 (x7_1 + 1)), (by first | rfl | (simp; done) | (simp [*]; done)), H', ⟨by have := HK1.out; omega⟩, ⟨by repeat (first | (with_reducible first | exact HB.out | apply below_alloc | apply pw_below_drewN | apply below_drew1 | refine below_set ?_ GE102.out) | exact HB.out)⟩⟩
            · replace c7 := Bool.eq_false_iff.mpr c7
              subst c7
              have H1 : (some false) = some r := by rw [if_neg (show ¬ (false = true) by decide)] at H; exact H
              clear H
              have H := H1
              clear H1
              obtain rfl := Option.some.inj H
              have p101 : 0 ≤ (x7_1 : Int) := of_decide_eq_true (by first | (with_reducible assumption) | assumption)
              have q101 : x7_1 < (l0.length : Int) := of_decide_eq_true (by first | (with_reducible assumption) | assumption)
              obtain ⟨ad101, e101, hx101_0, hx101_1⟩ := at_T43 HR0.out x7_1 p101 q101
              cases e101
              replace hx101_0 := (HB.out.cell (World.block_lt_of_cell? w _ hx101_0)).trans hx101_0
              replace hx101_1 := (HB.out.cell (World.block_lt_of_cell? w _ hx101_1)).trans hx101_1
              replace p101 := eq_true p101
              replace q101 := eq_true q101
              try go_wp2_with (first | ((with_reducible refine gate_dst (N := 4) rfl ?_); refine box_event ?hg (N := 4) ?hd (cs := #[.int .i64 0, .int .i64 0]) (t := 43) ?hr ?_; (case hd => rfl); (case hg => rfl); (case hr => first | (go_simp; done) | (go_simp; rfl)); intro gb102 hg w13 hbox hb; have n0_ := Aside0.mk (below_step (by repeat (first | (with_reducible first | exact HB.out | apply below_alloc | apply pw_below_drewN | apply below_drew1) | exact HB.out)) hb); have n1_ := Aside0.mk (hbox); have n2_ := Aside0.mk ((by rw [hg]; exact (below_size (by repeat (first | (with_reducible first | exact HB.out | apply below_alloc | apply pw_below_drewN | apply below_drew1) | exact HB.out))) : w.heap.size ≤ gb102)); have n3_ := Aside0.mk ((by rw [hg]; exact (below_size (by repeat (first | (with_reducible first | exact HB.out | apply below_alloc | apply pw_below_drewN | apply below_drew1) | exact HB.out))) : w.heap.size ≤ gb102)); clear HB; have HB := n0_; have BK102 := n1_; have GW102 := n2_; have GE102 := n3_; clear n0_ n1_ n2_ n3_; clear hb hbox hg; have hcz14_0 : w13.cell? ⟨gb102, 0, none⟩ = some (.int .i64 0) := (blk_cell BK102.out 0).trans rfl; have hcz14_1 : w13.cell? ⟨gb102, 1, none⟩ = some (.int .i64 0) := (blk_cell BK102.out 1).trans rfl; have hfz14_0 := blk_frozen BK102.out 0; have hfz14_1 := blk_frozen BK102.out 1))
              have n0_ : Aside0 (((w13.setCell ⟨gb102, 0, none⟩ (.int .i64 ((rd_T43 l0 x7_1).f0))).setCell ⟨gb102, 1, none⟩ (.int .i64 ((rd_T43 l0 x7_1).f1))).heap[gb102]? = some (.cells #[.int .i64 ((rd_T43 l0 x7_1).f0), .int .i64 ((rd_T43 l0 x7_1).f1)] 43 (0, 0))) := ⟨by (with_reducible repeat (first | refine blk_drewN ?_ _ | refine blk_drew ?_ | refine blk_alloc ?_ _)); refine blk_put (cs := #[.int .i64 ((rd_T43 l0 x7_1).f0), .int .i64 0]) ?_ 1 _ rfl; (with_reducible repeat (first | refine blk_drewN ?_ _ | refine blk_drew ?_ | refine blk_alloc ?_ _)); refine blk_put (cs := #[.int .i64 0, .int .i64 0]) ?_ 0 _ rfl; (with_reducible repeat (first | refine blk_drewN ?_ _ | refine blk_drew ?_ | refine blk_alloc ?_ _)); exact BK102.out⟩
              have n1_ : Aside0 (Below w.heap.size w ((w13.setCell ⟨gb102, 0, none⟩ (.int .i64 ((rd_T43 l0 x7_1).f0))).setCell ⟨gb102, 1, none⟩ (.int .i64 ((rd_T43 l0 x7_1).f1)))) := ⟨by repeat (first | (with_reducible first | exact HB.out | apply below_alloc | apply pw_below_drewN | apply below_drew1 | refine below_set ?_ GE102.out) | exact HB.out)⟩
              (try clear BK102)
              (try clear HB)
              generalize ((w13.setCell ⟨gb102, 0, none⟩ (.int .i64 ((rd_T43 l0 x7_1).f0))).setCell ⟨gb102, 1, none⟩ (.int .i64 ((rd_T43 l0 x7_1).f1))) = w15 at n0_ n1_ ⊢
              have BK102 := n0_
              have HB := n1_
              clear n0_ n1_
              have n0_ := Aside0.mk (blk_drew BK102.out)
              have n1_ := Aside0.mk (below_drew1 HB.out)
              clear BK102
              clear HB
              have BK102 := n0_
              have HB := n1_
              clear n0_ n1_
              refine start_ (n := 4) (S := fun w' => w'.cell? ⟨gb102, 0, none⟩ = some (.int .i64 ((rd_T43 l0 x7_1).f0)) ∧ w'.cell? ⟨gb102, 1, none⟩ = some (.int .i64 ((rd_T43 l0 x7_1).f1))) (ds := []) #[false, false, false, false] (by kernel_rfl) rfl rfl ⟨(blk_cell BK102.out 0).trans rfl, (blk_cell BK102.out 1).trans rfl⟩ (fun hHeld => ?_)
              generalize w15.drew = w16 at BK102 HB hHeld ⊢
              refine take_ (i := 0) (N := some 11) (v := ?_) (a' := ?_) #[true, false, false, false] rfl rfl (by kernel_rfl) (fun _ _ _ h => h) (Or.inl ⟨by rfl, ?_⟩) hHeld ?_ ?_
              rotate_left
              · rintro w' ⟨s0, s1⟩
                go_simp
                with_reducible rfl
              rotate_left
              · simp only [Act.put, List.setIfInBounds_toArray, List.set_cons_zero, List.set_cons_succ, i64_w, i32_w]
                rfl
              refine one_ (i := 1) (N := some 12) #[true, true, false, false] rfl rfl (by kernel_rfl) (by decide) (fun K hK => ?_)
              refine goes_ Try.func112 (by kernel_rfl) rfl #[.int .i64 31] (by rfl) rfl rfl (by (try simp only [List.map_toArray, List.map_cons, List.map_nil]); first | done | rfl | (simp only [List.length_drop, List.length_take]; rfl)) ?_
              with_reducible refine (headroomref01_Pow.calls k1 31 t103 _ A5.out).mono ?_
              rintro e w' ⟨rfl, ⟨nd, rfl⟩⟩
              refine ⟨_, rfl, ?_⟩
              refine hK.out _ _ ⟨(blk_cell BK102.out 0).trans rfl, (blk_cell BK102.out 1).trans rfl⟩ (fun hHeld => ?_)
              clear hK K
              refine norm_ (a' := ?_) ?_ ?_
              rotate_left
              · show Act.put _ (some 12) _ = _
                simp only [Act.put, List.setIfInBounds_toArray, List.set_cons_zero, List.set_cons_succ, i64_w, i32_w]
                rfl
              refine one_ (i := 2) (N := some 13) #[true, true, true, false] rfl rfl (by kernel_rfl) (by decide) (fun K hK => ?_)
              refine goes_ Try.func139 (by kernel_rfl) rfl #[.agg #[.int .i64 ((rd_T43 l0 x7_1).f0), .int .i64 ((rd_T43 l0 x7_1).f1)], .int .i64 t103] (by rfl) rfl rfl (by (try simp only [List.map_toArray, List.map_cons, List.map_nil]); first | done | rfl | (simp only [List.length_drop, List.length_take]; rfl)) ?_
              with_reducible refine (headroomref03_Within.calls ((rd_T43 l0 x7_1).f0) ((rd_T43 l0 x7_1).f1) t103 false _ A6.out).mono ?_
              rintro e w17 ⟨rfl, hb⟩
              refine ⟨_, rfl, ?_⟩
              have n0_ := Aside0.mk (blk_below (g := gb102) (o := .cells #[.int .i64 ((rd_T43 l0 x7_1).f0), .int .i64 ((rd_T43 l0 x7_1).f1)] 43 (0, 0)) (by (with_reducible repeat (first | refine blk_drewN ?_ _ | refine blk_drew ?_ | refine blk_alloc ?_ _)); exact BK102.out) hb)
              have n1_ := Aside0.mk (below_step (by repeat (first | (with_reducible first | exact HB.out | apply below_alloc | apply pw_below_drewN | apply below_drew1 | refine below_set ?_ GE102.out) | exact HB.out)) hb)
              clear BK102
              clear HB
              have BK102 := n0_
              have HB := n1_
              clear n0_ n1_
              (try clear hb)
              (try clear hb2)
              (try clear hk)
              (try clear hi)
              refine hK.out _ _ ⟨(blk_cell BK102.out 0).trans rfl, (blk_cell BK102.out 1).trans rfl⟩ (fun hHeld => ?_)
              clear hK K
              refine norm_ (a' := ?_) ?_ ?_
              rotate_left
              · show Act.put _ (some 13) _ = _
                simp only [Act.put, List.setIfInBounds_toArray, List.set_cons_zero, List.set_cons_succ, i64_w, i32_w]
                rfl
              refine pure_ (i := 3) (N := some 14) (v := ?_) (a' := ?_) #[true, true, true, true] rfl rfl (by kernel_rfl) (fun _ _ _ h => h) (Or.inl ⟨by rfl, ?_⟩) ?_ ?_
              rotate_left
              · intro w'
                go_simp
                with_reducible rfl
              rotate_left
              · simp only [Act.put, List.setIfInBounds_toArray, List.set_cons_zero, List.set_cons_succ, i64_w, i32_w]
                rfl
              refine done_ (by kernel_rfl) ?_
              try go_wp2
              go_ret
              exact ⟨by first | rfl | (simp [errW_none, errW_some] <;> rfl) | (simp [*, errW_none, errW_some] <;> rfl), by repeat (first | (with_reducible first | exact HB.out | apply below_alloc | apply pw_below_drewN | apply below_drew1 | refine below_set ?_ GE102.out) | exact HB.out)⟩
          · rw [if_neg c4] at H
            exact absurd H (by simp)
        · rw [if_neg c3] at H
          exact absurd H (by simp)
      · rw [if_neg c2] at H
        have c2b0 : decide (x7_1 < (l0.length : Int)) = false := decide_eq_false c2
        clear c2
        obtain rfl := Option.some.inj H
        go_wp2
        go_ret
        exact ⟨by first | rfl | (simp [errW_none, errW_some] <;> rfl) | (simp [*, errW_none, errW_some] <;> rfl), by repeat (first | (with_reducible first | exact HB.out | apply below_alloc | apply pw_below_drewN | apply below_drew1) | exact HB.out)⟩

end Go.Proofs.Ytmglkelmdcpinaa.G
/- The contract of the function headroomref10_Roots (number 87 of the translation): what its call computes, as a plain Lean function; memory that was there stays as it was. Conditions: none beyond the theorem's own. Written by a program (gprint.py). -/
namespace Go.Proofs.Ytmglkelmdcpinaa.G
open Go.RowKit Go.Proofs.YtmglkelmdcpinaaW.PrintWords Go.Proofs.YtmglkelmdcpinaaW.PrintLast Go.Proofs.YtmglkelmdcpinaaW.PrintMore
attribute [local go_sem] max2_int min2_int max_two min_two max_three min_three max_four min_four   -- for this text's walks alone
set_option linter.unusedVariables false
set_option linter.unusedSimpArgs false

/-! ### headroomref10_Roots: function 87 -/
def headroomref10_Roots.l0 : Nat → Int → List (S43) → Int → Int → Option (Bool)
  | 0, _, _, _, _ => none
  | k + 1, x1, x7, x8, x9 => if x9 < x8 then (if 0 ≤ x9 then (if x9 < (x7.length : Int) then ((headroomref01_Pow.f k x1).bind fun t103 => ((headroomref03_Within.f ((rd_T43 x7 x9).f0) ((rd_T43 x7 x9).f1) t103).bind fun t104 => (if t104 = true then (headroomref10_Roots.l0 k x1 x7 x8 (wrap64 (x9 + 1))) else (some false)))) else (none)) else (none)) else (some true)
def headroomref10_Roots.f (k : Nat) (l0 : List (S43)) (a1 : Int) : Option (Bool) := headroomref10_Roots.l0 k a1 l0 (l0.length : Int) 0
theorem headroomref10_Roots.mono_l : ∀ k, (∀ y0 y1 y2 y3, LeO (headroomref10_Roots.l0 k y0 y1 y2 y3) (headroomref10_Roots.l0 (k + 1) y0 y1 y2 y3))
  | 0 => fun _ _ _ _ r h => by simp [headroomref10_Roots.l0] at h
  | k + 1 => by
    have ih0 := headroomref10_Roots.mono_l k
    · intro y0 y1 y2 y3
      unfold headroomref10_Roots.l0
      repeat' first
      | (with_reducible exact ih0 _ _ _ _)
      | (with_reducible exact headroomref01_Pow.mono _ _)
      | (with_reducible exact LeO.refl _)
      | (with_reducible exact LeO.none _)
      | (with_reducible refine LeO.ite ?_ ?_)
      | (with_reducible refine LeO.bind ?_ (fun _ => ?_))
      | exact ih0 _ _ _ _
      | exact headroomref01_Pow.mono _ _
      | exact LeO.none _
      | refine LeO.ite ?_ ?_
      | refine LeO.bind ?_ (fun _ => ?_)
theorem headroomref10_Roots.mono : ∀ a0 a1 k, LeO (headroomref10_Roots.f k a0 a1) (headroomref10_Roots.f (k + 1) a0 a1) := by
  intro a0 a1 k
  have ih0 := headroomref10_Roots.mono_l k
  unfold headroomref10_Roots.f
  repeat' first
      | (with_reducible exact ih0 _ _ _ _)
      | (with_reducible exact headroomref01_Pow.mono _ _)
      | (with_reducible exact LeO.refl _)
      | (with_reducible exact LeO.none _)
      | (with_reducible refine LeO.ite ?_ ?_)
      | (with_reducible refine LeO.bind ?_ (fun _ => ?_))
      | exact ih0 _ _ _ _
      | exact headroomref01_Pow.mono _ _
      | exact LeO.none _
      | refine LeO.ite ?_ ?_
      | refine LeO.bind ?_ (fun _ => ?_)
set_option maxHeartbeats 8000000 in
set_option maxRecDepth 100000 in
theorem headroomref10_Roots.calls (k : Nat) (A0 : Option Addr) (c0 : Nat) (l0 : List (S43)) (a1 : Int) (r : Bool) (w : World) (hr0 : Kd.C k43 w A0 l0.length l0) (hc0 : l0.length ≤ c0) (h : headroomref10_Roots.f k l0 a1 = some r) :
    Calls Try.prog 87 #[.slice A0 l0.length c0, .int .i64 a1] w fun e w' => e = .returned (.bool r) ∧ Below w.heap.size w w' := by
  have hu43 := Try.underlying43
  have HR0 := Aside0.mk hr0
  have HC0 := Aside0.mk hc0
  clear hr0 hc0
  have HB := Aside0.mk (Below.refl w.heap.size w)
  have H : (headroomref10_Roots.l0 k a1 l0 (l0.length : Int) 0) = some r := h
  clear h
  have H' := Aside0.mk H
  clear H
  go_enter Try.func87, Try.ntmps87
  go_wp2
  go_loopg [9] k (fun kq v9 w' => ∃ (x9_1 : Int), v9 = .int .i64 x9_1 ∧ Aside0 (headroomref10_Roots.l0 kq a1 l0 (l0.length : Int) x9_1 = some r) ∧ Aside0 (kq ≤ k) ∧ Aside0 (Below w.heap.size w w'))
  case atStart => exact ⟨(0), (by first | rfl | (simp; done) | (simp [*]; done)), H', ⟨Nat.le_refl _⟩, ⟨by repeat (first | (with_reducible first | exact HB.out | apply below_alloc | apply pw_below_drewN | apply below_drew1) | exact HB.out)⟩⟩
  case round =>
    clear H'
    try clear p2
    obtain ⟨x9_1, rfl, HA, HK1, HB⟩ := hrel
    cases gk with
    | zero => exact absurd HA.out (by simp [headroomref10_Roots.l0])
    | succ k1 =>
      have H := HA.out
      clear HA
      simp only [headroomref10_Roots.l0] at H
      by_cases c3 : x9_1 < (l0.length : Int)
      · rw [if_pos c3] at H
        have c3b0 : decide (x9_1 < (l0.length : Int)) = true := decide_eq_true c3
        clear c3
        by_cases c4 : 0 ≤ x9_1
        · rw [if_pos c4] at H
          have c4b0 : decide (0 ≤ x9_1) = true := decide_eq_true c4
          clear c4
          by_cases c5 : x9_1 < (l0.length : Int)
          · rw [if_pos c5] at H
            have c5b0 : decide (x9_1 < (l0.length : Int)) = true := decide_eq_true c5
            clear c5
            replace H := Option.bind_eq_some_iff.mp H
            obtain ⟨t103, A60, H⟩ := H
            replace H : ((headroomref03_Within.f ((rd_T43 l0 x9_1).f0) ((rd_T43 l0 x9_1).f1) t103).bind fun t104 => (if t104 = true then (headroomref10_Roots.l0 k1 a1 l0 (l0.length : Int) (wrap64 (x9_1 + 1))) else (some false))) = some r := H
            have A6 := Aside0.mk A60
            clear A60
            replace H := Option.bind_eq_some_iff.mp H
            obtain ⟨t104, A70, H⟩ := H
            replace H : (if t104 = true then (headroomref10_Roots.l0 k1 a1 l0 (l0.length : Int) (wrap64 (x9_1 + 1))) else (some false)) = some r := H
            have A7 := Aside0.mk A70
            clear A70
            by_cases c8 : t104 = true
            · subst c8
              have H1 : (headroomref10_Roots.l0 k1 a1 l0 (l0.length : Int) (wrap64 (x9_1 + 1))) = some r := by rw [if_pos rfl] at H; exact H
              clear H
              have H := H1
              clear H1
              have H' := Aside0.mk H
              clear H
              have p101 : 0 ≤ (x9_1 : Int) := of_decide_eq_true (by first | (with_reducible assumption) | assumption)
              have q101 : x9_1 < (l0.length : Int) := of_decide_eq_true (by first | (with_reducible assumption) | assumption)
              obtain ⟨ad101, e101, hx101_0, hx101_1⟩ := at_T43 HR0.out x9_1 p101 q101
              cases e101
              replace hx101_0 := (HB.out.cell (World.block_lt_of_cell? w _ hx101_0)).trans hx101_0
              replace hx101_1 := (HB.out.cell (World.block_lt_of_cell? w _ hx101_1)).trans hx101_1
              replace p101 := eq_true p101
              replace q101 := eq_true q101
              try go_wp2_with (first | ((with_reducible refine gate_dst (N := 6) rfl ?_); refine box_event ?hg (N := 6) ?hd (cs := #[.int .i64 0, .int .i64 0]) (t := 43) ?hr ?_; (case hd => rfl); (case hg => rfl); (case hr => first | (go_simp; done) | (go_simp; rfl)); intro gb102 hg w9 hbox hb; have n0_ := Aside0.mk (below_step (by repeat (first | (with_reducible first | exact HB.out | apply below_alloc | apply pw_below_drewN | apply below_drew1) | exact HB.out)) hb); have n1_ := Aside0.mk (hbox); have n2_ := Aside0.mk ((by rw [hg]; exact (below_size (by repeat (first | (with_reducible first | exact HB.out | apply below_alloc | apply pw_below_drewN | apply below_drew1) | exact HB.out))) : w.heap.size ≤ gb102)); have n3_ := Aside0.mk ((by rw [hg]; exact (below_size (by repeat (first | (with_reducible first | exact HB.out | apply below_alloc | apply pw_below_drewN | apply below_drew1) | exact HB.out))) : w.heap.size ≤ gb102)); clear HB; have HB := n0_; have BK102 := n1_; have GW102 := n2_; have GE102 := n3_; clear n0_ n1_ n2_ n3_; clear hb hbox hg; have hcz10_0 : w9.cell? ⟨gb102, 0, none⟩ = some (.int .i64 0) := (blk_cell BK102.out 0).trans rfl; have hcz10_1 : w9.cell? ⟨gb102, 1, none⟩ = some (.int .i64 0) := (blk_cell BK102.out 1).trans rfl; have hfz10_0 := blk_frozen BK102.out 0; have hfz10_1 := blk_frozen BK102.out 1))
              have n0_ : Aside0 (((w9.setCell ⟨gb102, 0, none⟩ (.int .i64 ((rd_T43 l0 x9_1).f0))).setCell ⟨gb102, 1, none⟩ (.int .i64 ((rd_T43 l0 x9_1).f1))).heap[gb102]? = some (.cells #[.int .i64 ((rd_T43 l0 x9_1).f0), .int .i64 ((rd_T43 l0 x9_1).f1)] 43 (0, 0))) := ⟨by (with_reducible repeat (first | refine blk_drewN ?_ _ | refine blk_drew ?_ | refine blk_alloc ?_ _)); refine blk_put (cs := #[.int .i64 ((rd_T43 l0 x9_1).f0), .int .i64 0]) ?_ 1 _ rfl; (with_reducible repeat (first | refine blk_drewN ?_ _ | refine blk_drew ?_ | refine blk_alloc ?_ _)); refine blk_put (cs := #[.int .i64 0, .int .i64 0]) ?_ 0 _ rfl; (with_reducible repeat (first | refine blk_drewN ?_ _ | refine blk_drew ?_ | refine blk_alloc ?_ _)); exact BK102.out⟩
              have n1_ : Aside0 (Below w.heap.size w ((w9.setCell ⟨gb102, 0, none⟩ (.int .i64 ((rd_T43 l0 x9_1).f0))).setCell ⟨gb102, 1, none⟩ (.int .i64 ((rd_T43 l0 x9_1).f1)))) := ⟨by repeat (first | (with_reducible first | exact HB.out | apply below_alloc | apply pw_below_drewN | apply below_drew1 | refine below_set ?_ GE102.out) | exact HB.out)⟩
              (try clear BK102)
              (try clear HB)
              generalize ((w9.setCell ⟨gb102, 0, none⟩ (.int .i64 ((rd_T43 l0 x9_1).f0))).setCell ⟨gb102, 1, none⟩ (.int .i64 ((rd_T43 l0 x9_1).f1))) = w11 at n0_ n1_ ⊢
              have BK102 := n0_
              have HB := n1_
              clear n0_ n1_
              have n0_ := Aside0.mk (blk_drew BK102.out)
              have n1_ := Aside0.mk (below_drew1 HB.out)
              clear BK102
              clear HB
              have BK102 := n0_
              have HB := n1_
              clear n0_ n1_
              refine start_ (n := 5) (S := fun w' => w'.cell? ⟨gb102, 0, none⟩ = some (.int .i64 ((rd_T43 l0 x9_1).f0)) ∧ w'.cell? ⟨gb102, 1, none⟩ = some (.int .i64 ((rd_T43 l0 x9_1).f1))) (ds := []) #[false, false, false, false, false] (by kernel_rfl) rfl rfl ⟨(blk_cell BK102.out 0).trans rfl, (blk_cell BK102.out 1).trans rfl⟩ (fun hHeld => ?_)
              generalize w11.drew = w12 at BK102 HB hHeld ⊢
              refine pure_ (i := 1) (N := some 14) (v := ?_) (a' := ?_) #[false, true, false, false, false] rfl rfl (by kernel_rfl) (fun _ _ _ h => h) (Or.inl ⟨by rfl, ?_⟩) ?_ ?_
              rotate_left
              · intro w'
                go_simp
                with_reducible rfl
              rotate_left
              · simp only [Act.put, List.setIfInBounds_toArray, List.set_cons_zero, List.set_cons_succ, i64_w, i32_w]
                rfl
              refine take_ (i := 0) (N := some 13) (v := ?_) (a' := ?_) #[true, true, false, false, false] rfl rfl (by kernel_rfl) (fun _ _ _ h => h) (Or.inl ⟨by rfl, ?_⟩) hHeld ?_ ?_
              rotate_left
              · rintro w' ⟨s0, s1⟩
                go_simp
                with_reducible rfl
              rotate_left
              · simp only [Act.put, List.setIfInBounds_toArray, List.set_cons_zero, List.set_cons_succ, i64_w, i32_w]
                rfl
              refine one_ (i := 2) (N := some 15) #[true, true, true, false, false] rfl rfl (by kernel_rfl) (by decide) (fun K hK => ?_)
              refine goes_ Try.func112 (by kernel_rfl) rfl #[.int .i64 a1] (by rfl) rfl rfl (by (try simp only [List.map_toArray, List.map_cons, List.map_nil]); first | done | rfl | (simp only [List.length_drop, List.length_take]; rfl)) ?_
              with_reducible refine (headroomref01_Pow.calls k1 a1 t103 _ A6.out).mono ?_
              rintro e w' ⟨rfl, ⟨nd, rfl⟩⟩
              refine ⟨_, rfl, ?_⟩
              refine hK.out _ _ ⟨(blk_cell BK102.out 0).trans rfl, (blk_cell BK102.out 1).trans rfl⟩ (fun hHeld => ?_)
              clear hK K
              refine norm_ (a' := ?_) ?_ ?_
              rotate_left
              · show Act.put _ (some 15) _ = _
                simp only [Act.put, List.setIfInBounds_toArray, List.set_cons_zero, List.set_cons_succ, i64_w, i32_w]
                rfl
              refine one_ (i := 3) (N := some 16) #[true, true, true, true, false] rfl rfl (by kernel_rfl) (by decide) (fun K hK => ?_)
              refine goes_ Try.func139 (by kernel_rfl) rfl #[.agg #[.int .i64 ((rd_T43 l0 x9_1).f0), .int .i64 ((rd_T43 l0 x9_1).f1)], .int .i64 t103] (by rfl) rfl rfl (by (try simp only [List.map_toArray, List.map_cons, List.map_nil]); first | done | rfl | (simp only [List.length_drop, List.length_take]; rfl)) ?_
              with_reducible refine (headroomref03_Within.calls ((rd_T43 l0 x9_1).f0) ((rd_T43 l0 x9_1).f1) t103 true _ A7.out).mono ?_
              rintro e w13 ⟨rfl, hb⟩
              refine ⟨_, rfl, ?_⟩
              have n0_ := Aside0.mk (blk_below (g := gb102) (o := .cells #[.int .i64 ((rd_T43 l0 x9_1).f0), .int .i64 ((rd_T43 l0 x9_1).f1)] 43 (0, 0)) (by (with_reducible repeat (first | refine blk_drewN ?_ _ | refine blk_drew ?_ | refine blk_alloc ?_ _)); exact BK102.out) hb)
              have n1_ := Aside0.mk (below_step (by repeat (first | (with_reducible first | exact HB.out | apply below_alloc | apply pw_below_drewN | apply below_drew1 | refine below_set ?_ GE102.out) | exact HB.out)) hb)
              clear BK102
              clear HB
              have BK102 := n0_
              have HB := n1_
              clear n0_ n1_
              (try clear hb)
              (try clear hb2)
              (try clear hk)
              (try clear hi)
              refine hK.out _ _ ⟨(blk_cell BK102.out 0).trans rfl, (blk_cell BK102.out 1).trans rfl⟩ (fun hHeld => ?_)
              clear hK K
              refine norm_ (a' := ?_) ?_ ?_
              rotate_left
              · show Act.put _ (some 16) _ = _
                simp only [Act.put, List.setIfInBounds_toArray, List.set_cons_zero, List.set_cons_succ, i64_w, i32_w]
                rfl
              refine pure_ (i := 4) (N := some 17) (v := ?_) (a' := ?_) #[true, true, true, true, true] rfl rfl (by kernel_rfl) (fun _ _ _ h => h) (Or.inl ⟨by rfl, ?_⟩) ?_ ?_
              rotate_left
              · intro w'
                go_simp
                with_reducible rfl
              rotate_left
              · simp only [Act.put, List.setIfInBounds_toArray, List.set_cons_zero, List.set_cons_succ, i64_w, i32_w]
                rfl
              refine done_ (by kernel_rfl) ?_
              try go_wp2
              go_roundg k1
              case measure => have := HK1.out; omega
              case rel => exact ⟨(wrap64 (x9_1 + 1)), (by first | rfl | (simp; done) | (simp [*]; done)), H', ⟨by have := HK1.out; omega⟩, ⟨by repeat (first | (with_reducible first | exact HB.out | apply below_alloc | apply pw_below_drewN | apply below_drew1 | refine below_set ?_ GE102.out) | exact HB.out)⟩⟩
            · replace c8 := Bool.eq_false_iff.mpr c8
              subst c8
              have H1 : (some false) = some r := by rw [if_neg (show ¬ (false = true) by decide)] at H; exact H
              clear H
              have H := H1
              clear H1
              obtain rfl := Option.some.inj H
              have p101 : 0 ≤ (x9_1 : Int) := of_decide_eq_true (by first | (with_reducible assumption) | assumption)
              have q101 : x9_1 < (l0.length : Int) := of_decide_eq_true (by first | (with_reducible assumption) | assumption)
              obtain ⟨ad101, e101, hx101_0, hx101_1⟩ := at_T43 HR0.out x9_1 p101 q101
              cases e101
              replace hx101_0 := (HB.out.cell (World.block_lt_of_cell? w _ hx101_0)).trans hx101_0
              replace hx101_1 := (HB.out.cell (World.block_lt_of_cell? w _ hx101_1)).trans hx101_1
              replace p101 := eq_true p101
              replace q101 := eq_true q101
              try go_wp2_with (first | ((with_reducible refine gate_dst (N := 6) rfl ?_); refine box_event ?hg (N := 6) ?hd (cs := #[.int .i64 0, .int .i64 0]) (t := 43) ?hr ?_; (case hd => rfl); (case hg => rfl); (case hr => first | (go_simp; done) | (go_simp; rfl)); intro gb102 hg w14 hbox hb; have n0_ := Aside0.mk (below_step (by repeat (first | (with_reducible first | exact HB.out | apply below_alloc | apply pw_below_drewN | apply below_drew1) | exact HB.out)) hb); have n1_ := Aside0.mk (hbox); have n2_ := Aside0.mk ((by rw [hg]; exact (below_size (by repeat (first | (with_reducible first | exact HB.out | apply below_alloc | apply pw_below_drewN | apply below_drew1) | exact HB.out))) : w.heap.size ≤ gb102)); have n3_ := Aside0.mk ((by rw [hg]; exact (below_size (by repeat (first | (with_reducible first | exact HB.out | apply below_alloc | apply pw_below_drewN | apply below_drew1) | exact HB.out))) : w.heap.size ≤ gb102)); clear HB; have HB := n0_; have BK102 := n1_; have GW102 := n2_; have GE102 := n3_; clear n0_ n1_ n2_ n3_; clear hb hbox hg; have hcz15_0 : w14.cell? ⟨gb102, 0, none⟩ = some (.int .i64 0) := (blk_cell BK102.out 0).trans rfl; have hcz15_1 : w14.cell? ⟨gb102, 1, none⟩ = some (.int .i64 0) := (blk_cell BK102.out 1).trans rfl; have hfz15_0 := blk_frozen BK102.out 0; have hfz15_1 := blk_frozen BK102.out 1))
              have n0_ : Aside0 (((w14.setCell ⟨gb102, 0, none⟩ (.int .i64 ((rd_T43 l0 x9_1).f0))).setCell ⟨gb102, 1, none⟩ (.int .i64 ((rd_T43 l0 x9_1).f1))).heap[gb102]? = some (.cells #[.int .i64 ((rd_T43 l0 x9_1).f0), .int .i64 ((rd_T43 l0 x9_1).f1)] 43 (0, 0))) := ⟨by (with_reducible repeat (first | refine blk_drewN ?_ _ | refine blk_drew ?_ | refine blk_alloc ?_ _)); refine blk_put (cs := #[.int .i64 ((rd_T43 l0 x9_1).f0), .int .i64 0]) ?_ 1 _ rfl; (with_reducible repeat (first | refine blk_drewN ?_ _ | refine blk_drew ?_ | refine blk_alloc ?_ _)); refine blk_put (cs := #[.int .i64 0, .int .i64 0]) ?_ 0 _ rfl; (with_reducible repeat (first | refine blk_drewN ?_ _ | refine blk_drew ?_ | refine blk_alloc ?_ _)); exact BK102.out⟩
              have n1_ : Aside0 (Below w.heap.size w ((w14.setCell ⟨gb102, 0, none⟩ (.int .i64 ((rd_T43 l0 x9_1).f0))).setCell ⟨gb102, 1, none⟩ (.int .i64 ((rd_T43 l0 x9_1).f1)))) := ⟨by repeat (first | (with_reducible first | exact HB.out | apply below_alloc | apply pw_below_drewN | apply below_drew1 | refine below_set ?_ GE102.out) | exact HB.out)⟩
              (try clear BK102)
              (try clear HB)
              generalize ((w14.setCell ⟨gb102, 0, none⟩ (.int .i64 ((rd_T43 l0 x9_1).f0))).setCell ⟨gb102, 1, none⟩ (.int .i64 ((rd_T43 l0 x9_1).f1))) = w16 at n0_ n1_ ⊢
              have BK102 := n0_
              have HB := n1_
              clear n0_ n1_
              have n0_ := Aside0.mk (blk_drew BK102.out)
              have n1_ := Aside0.mk (below_drew1 HB.out)
              clear BK102
              clear HB
              have BK102 := n0_
              have HB := n1_
              clear n0_ n1_
              refine start_ (n := 5) (S := fun w' => w'.cell? ⟨gb102, 0, none⟩ = some (.int .i64 ((rd_T43 l0 x9_1).f0)) ∧ w'.cell? ⟨gb102, 1, none⟩ = some (.int .i64 ((rd_T43 l0 x9_1).f1))) (ds := []) #[false, false, false, false, false] (by kernel_rfl) rfl rfl ⟨(blk_cell BK102.out 0).trans rfl, (blk_cell BK102.out 1).trans rfl⟩ (fun hHeld => ?_)
              generalize w16.drew = w17 at BK102 HB hHeld ⊢
              refine pure_ (i := 1) (N := some 14) (v := ?_) (a' := ?_) #[false, true, false, false, false] rfl rfl (by kernel_rfl) (fun _ _ _ h => h) (Or.inl ⟨by rfl, ?_⟩) ?_ ?_
              rotate_left
              · intro w'
                go_simp
                with_reducible rfl
              rotate_left
              · simp only [Act.put, List.setIfInBounds_toArray, List.set_cons_zero, List.set_cons_succ, i64_w, i32_w]
                rfl
              refine take_ (i := 0) (N := some 13) (v := ?_) (a' := ?_) #[true, true, false, false, false] rfl rfl (by kernel_rfl) (fun _ _ _ h => h) (Or.inl ⟨by rfl, ?_⟩) hHeld ?_ ?_
              rotate_left
              · rintro w' ⟨s0, s1⟩
                go_simp
                with_reducible rfl
              rotate_left
              · simp only [Act.put, List.setIfInBounds_toArray, List.set_cons_zero, List.set_cons_succ, i64_w, i32_w]
                rfl
              refine one_ (i := 2) (N := some 15) #[true, true, true, false, false] rfl rfl (by kernel_rfl) (by decide) (fun K hK => ?_)
              refine goes_ Try.func112 (by kernel_rfl) rfl #[.int .i64 a1] (by rfl) rfl rfl (by (try simp only [List.map_toArray, List.map_cons, List.map_nil]); first | done | rfl | (simp only [List.length_drop, List.length_take]; rfl)) ?_
              with_reducible refine (headroomref01_Pow.calls k1 a1 t103 _ A6.out).mono ?_
              rintro e w' ⟨rfl, ⟨nd, rfl⟩⟩
              refine ⟨_, rfl, ?_⟩
              refine hK.out _ _ ⟨(blk_cell BK102.out 0).trans rfl, (blk_cell BK102.out 1).trans rfl⟩ (fun hHeld => ?_)
              clear hK K
              refine norm_ (a' := ?_) ?_ ?_
              rotate_left
              · show Act.put _ (some 15) _ = _
                simp only [Act.put, List.setIfInBounds_toArray, List.set_cons_zero, List.set_cons_succ, i64_w, i32_w]
                rfl
              refine one_ (i := 3) (N := some 16) #[true, true, true, true, false] rfl rfl (by kernel_rfl) (by decide) (fun K hK => ?_)
              refine goes_ Try.func139 (by kernel_rfl) rfl #[.agg #[.int .i64 ((rd_T43 l0 x9_1).f0), .int .i64 ((rd_T43 l0 x9_1).f1)], .int .i64 t103] (by rfl) rfl rfl (by (try simp only [List.map_toArray, List.map_cons, List.map_nil]); first | done | rfl | (simp only [List.length_drop, List.length_take]; rfl)) ?_
              with_reducible refine (headroomref03_Within.calls ((rd_T43 l0 x9_1).f0) ((rd_T43 l0 x9_1).f1) t103 false _ A7.out).mono ?_
              rintro e w18 ⟨rfl, hb⟩
              refine ⟨_, rfl, ?_⟩
              have n0_ := Aside0.mk (blk_below (g := gb102) (o := .cells #[.int .i64 ((rd_T43 l0 x9_1).f0), .int .i64 ((rd_T43 l0 x9_1).f1)] 43 (0, 0)) (by (with_reducible repeat (first | refine blk_drewN ?_ _ | refine blk_drew ?_ | refine blk_alloc ?_ _)); exact BK102.out) hb)
              have n1_ := Aside0.mk (below_step (by repeat (first | (with_reducible first | exact HB.out | apply below_alloc | apply pw_below_drewN | apply below_drew1 | refine below_set ?_ GE102.out) | exact HB.out)) hb)
              clear BK102
              clear HB
              have BK102 := n0_
              have HB := n1_
              clear n0_ n1_
              (try clear hb)
              (try clear hb2)
              (try clear hk)
              (try clear hi)
              refine hK.out _ _ ⟨(blk_cell BK102.out 0).trans rfl, (blk_cell BK102.out 1).trans rfl⟩ (fun hHeld => ?_)
              clear hK K
              refine norm_ (a' := ?_) ?_ ?_
              rotate_left
              · show Act.put _ (some 16) _ = _
                simp only [Act.put, List.setIfInBounds_toArray, List.set_cons_zero, List.set_cons_succ, i64_w, i32_w]
                rfl
              refine pure_ (i := 4) (N := some 17) (v := ?_) (a' := ?_) #[true, true, true, true, true] rfl rfl (by kernel_rfl) (fun _ _ _ h => h) (Or.inl ⟨by rfl, ?_⟩) ?_ ?_
              rotate_left
              · intro w'
                go_simp
                with_reducible rfl
              rotate_left
              · simp only [Act.put, List.setIfInBounds_toArray, List.set_cons_zero, List.set_cons_succ, i64_w, i32_w]
                rfl
              refine done_ (by kernel_rfl) ?_
              try go_wp2
              go_ret
              exact ⟨by first | rfl | (simp [errW_none, errW_some] <;> rfl) | (simp [*, errW_none, errW_some] <;> rfl), by repeat (first | (with_reducible first | exact HB.out | apply below_alloc | apply pw_below_drewN | apply below_drew1 | refine below_set ?_ GE102.out) | exact HB.out)⟩
          · rw [if_neg c5] at H
            exact absurd H (by simp)
        · rw [if_neg c4] at H
          exact absurd H (by simp)
      · rw [if_neg c3] at H
        have c3b0 : decide (x9_1 < (l0.length : Int)) = false := decide_eq_false c3
        clear c3
        obtain rfl := Option.some.inj H
        go_wp2
        go_ret
        exact ⟨by first | rfl | (simp [errW_none, errW_some] <;> rfl) | (simp [*, errW_none, errW_some] <;> rfl), by repeat (first | (with_reducible first | exact HB.out | apply below_alloc | apply pw_below_drewN | apply below_drew1) | exact HB.out)⟩

end Go.Proofs.Ytmglkelmdcpinaa.G
/- The contract of the function headroomref10_May (number 26 of the translation): what its call computes, as a plain Lean function; memory that was there stays as it was. Conditions: none beyond the theorem's own. Written by a program (gprint.py). -/
namespace Go.Proofs.Ytmglkelmdcpinaa.G
open Go.RowKit Go.Proofs.YtmglkelmdcpinaaW.PrintWords Go.Proofs.YtmglkelmdcpinaaW.PrintLast Go.Proofs.YtmglkelmdcpinaaW.PrintMore
attribute [local go_sem] max2_int min2_int max_two min_two max_three min_three max_four min_four   -- for this text's walks alone
set_option linter.unusedVariables false
set_option linter.unusedSimpArgs false

/-! ### headroomref10_May: function 26 -/
def headroomref10_May.j0 : Nat → List (S43) → List (S43) → Int → Bool → Option (Int)
  | 0, _, _, _, _ => none
  | k + 1, x0, x1, x3, x30 => if x30 = true then (some 1) else ((headroomref09_Narrow.f k x0).bind fun t103 => (if t103 = true then ((headroomref10_Roots.f k x1 x3).bind fun t104 => (if t104 = true then (some 0) else (some 2))) else (some 2)))
def headroomref10_May.f (k : Nat) (l0 : List (S43)) (l1 : List (S43)) (a2 : Bool) (a3 : Int) (a4 : Int) (a5 : Int) : Option (Int) := (headroomref08_Log.f k (l0.length : Int)).bind fun t101 => (if t101 < 0 then (some 3) else (if (l1.length : Int) = (l0.length : Int) then (if a2 = true then ((headroomref10_Settings.f a3 a4 a5).bind fun t102 => (headroomref10_May.j0 k l0 l1 a3 (!t102))) else (headroomref10_May.j0 k l0 l1 a3 true)) else (some 5)))
theorem headroomref10_May.mono_l : ∀ k, (∀ y0 y1 y2 y3, LeO (headroomref10_May.j0 k y0 y1 y2 y3) (headroomref10_May.j0 (k + 1) y0 y1 y2 y3))
  | 0 => fun _ _ _ _ r h => by simp [headroomref10_May.j0] at h
  | k + 1 => by
    have ih0 := headroomref10_May.mono_l k
    · intro y0 y1 y2 y3
      unfold headroomref10_May.j0
      repeat' first
      | (with_reducible exact ih0 _ _ _ _)
      | (with_reducible exact headroomref08_Log.mono _ _)
      | (with_reducible exact headroomref09_Narrow.mono _ _)
      | (with_reducible exact headroomref10_Roots.mono _ _ _)
      | (with_reducible exact LeO.refl _)
      | (with_reducible exact LeO.none _)
      | (with_reducible refine LeO.ite ?_ ?_)
      | (with_reducible refine LeO.bind ?_ (fun _ => ?_))
      | exact ih0 _ _ _ _
      | exact headroomref08_Log.mono _ _
      | exact headroomref09_Narrow.mono _ _
      | exact headroomref10_Roots.mono _ _ _
      | exact LeO.none _
      | refine LeO.ite ?_ ?_
      | refine LeO.bind ?_ (fun _ => ?_)
theorem headroomref10_May.mono : ∀ a0 a1 a2 a3 a4 a5 k, LeO (headroomref10_May.f k a0 a1 a2 a3 a4 a5) (headroomref10_May.f (k + 1) a0 a1 a2 a3 a4 a5) := by
  intro a0 a1 a2 a3 a4 a5 k
  have ih0 := headroomref10_May.mono_l k
  unfold headroomref10_May.f
  repeat' first
      | (with_reducible exact ih0 _ _ _ _)
      | (with_reducible exact headroomref08_Log.mono _ _)
      | (with_reducible exact headroomref09_Narrow.mono _ _)
      | (with_reducible exact headroomref10_Roots.mono _ _ _)
      | (with_reducible exact LeO.refl _)
      | (with_reducible exact LeO.none _)
      | (with_reducible refine LeO.ite ?_ ?_)
      | (with_reducible refine LeO.bind ?_ (fun _ => ?_))
      | exact ih0 _ _ _ _
      | exact headroomref08_Log.mono _ _
      | exact headroomref09_Narrow.mono _ _
      | exact headroomref10_Roots.mono _ _ _
      | exact LeO.none _
      | refine LeO.ite ?_ ?_
      | refine LeO.bind ?_ (fun _ => ?_)
set_option maxHeartbeats 8000000 in
set_option maxRecDepth 100000 in
theorem headroomref10_May.calls (k : Nat) (A0 : Option Addr) (c0 : Nat) (l0 : List (S43)) (A1 : Option Addr) (c1 : Nat) (l1 : List (S43)) (a2 : Bool) (a3 : Int) (a4 : Int) (a5 : Int) (r : Int) (w : World) (hr0 : Kd.C k43 w A0 l0.length l0) (hc0 : l0.length ≤ c0) (hr1 : Kd.C k43 w A1 l1.length l1) (hc1 : l1.length ≤ c1) (h : headroomref10_May.f k l0 l1 a2 a3 a4 a5 = some r) :
    Calls Try.prog 26 #[.slice A0 l0.length c0, .slice A1 l1.length c1, .bool a2, .int .i64 a3, .int .i64 a4, .int .i64 a5] w fun e w' => e = .returned (.int .i64 r) ∧ Below w.heap.size w w' := by
  have HR0 := Aside0.mk hr0
  have HC0 := Aside0.mk hc0
  clear hr0 hc0
  have HR1 := Aside0.mk hr1
  have HC1 := Aside0.mk hc1
  clear hr1 hc1
  have HB := Aside0.mk (Below.refl w.heap.size w)
  have H : ((headroomref08_Log.f k (l0.length : Int)).bind fun t101 => (if t101 < 0 then (some 3) else (if (l1.length : Int) = (l0.length : Int) then (if a2 = true then ((headroomref10_Settings.f a3 a4 a5).bind fun t102 => (headroomref10_May.j0 k l0 l1 a3 (!t102))) else (headroomref10_May.j0 k l0 l1 a3 true)) else (some 5)))) = some r := h
  clear h
  replace H := Option.bind_eq_some_iff.mp H
  obtain ⟨t101, A70, H⟩ := H
  replace H : (if t101 < 0 then (some 3) else (if (l1.length : Int) = (l0.length : Int) then (if a2 = true then ((headroomref10_Settings.f a3 a4 a5).bind fun t102 => (headroomref10_May.j0 k l0 l1 a3 (!t102))) else (headroomref10_May.j0 k l0 l1 a3 true)) else (some 5))) = some r := H
  have A7 := Aside0.mk A70
  clear A70
  by_cases c8 : t101 < 0
  · rw [if_pos c8] at H
    have c8b0 : decide (t101 < 0) = true := decide_eq_true c8
    clear c8
    obtain rfl := Option.some.inj H
    go_enter Try.func26, Try.ntmps26
    go_wp2_with (first | ((with_reducible refine gate_callee (f := 84) rfl ?_); refine goesL_ (some 15) rfl rfl Try.func84 (by kernel_rfl) rfl #[.int .i64 (l0.length : Int)] rfl (by (try simp only [List.map_toArray, List.map_cons, List.map_nil]); first | done | rfl | (simp only [List.length_drop, List.length_take]; rfl)) ?_; (with_reducible refine (headroomref08_Log.calls k (l0.length : Int) t101 _ A7.out).mono ?_); rintro e w' ⟨rfl, ⟨nd, rfl⟩⟩; refine ⟨_, rfl, ?_⟩))
    go_ret
    exact ⟨by first | rfl | (simp [errW_none, errW_some] <;> rfl) | (simp [*, errW_none, errW_some] <;> rfl), by repeat (first | (with_reducible first | exact HB.out | apply below_alloc | apply pw_below_drewN | apply below_drew1) | exact HB.out)⟩
  · rw [if_neg c8] at H
    have c8b0 : decide (t101 < 0) = false := decide_eq_false c8
    clear c8
    by_cases c9 : (l1.length : Int) = (l0.length : Int)
    · rw [if_pos c9] at H
      have c9b0 : ((l1.length : Int) == (l0.length : Int)) = true := beq_iff_eq.mpr c9
      have c9b1 : ((l1.length : Int) != (l0.length : Int)) = false := bne_eq_false_iff_eq.mpr c9
      have c9b2 : (l1.length == l0.length) = true := by first | simpa using c9 | (simp at c9 ⊢; omega)
      clear c9
      have HC10 := Aside0.mk H
      clear H
      go_enter Try.func26, Try.ntmps26
      go_upto_region 5 with (first | ((with_reducible refine gate_callee (f := 84) rfl ?_); refine goesL_ (some 15) rfl rfl Try.func84 (by kernel_rfl) rfl #[.int .i64 (l0.length : Int)] rfl (by (try simp only [List.map_toArray, List.map_cons, List.map_nil]); first | done | rfl | (simp only [List.length_drop, List.length_take]; rfl)) ?_; (with_reducible refine (headroomref08_Log.calls k (l0.length : Int) t101 _ A7.out).mono ?_); rintro e w' ⟨rfl, ⟨nd, rfl⟩⟩; refine ⟨_, rfl, ?_⟩))
      (try simp only [Act.put, List.setIfInBounds_toArray, List.set_cons_zero, List.set_cons_succ])
      go_cut [30] (fun v30 wc => ∃ (kq : Nat) (x30_9 : Bool), v30 = .bool x30_9 ∧ Aside0 (headroomref10_May.j0 kq l0 l1 a3 x30_9 = some r) ∧ Aside0 (kq ≤ k) ∧ Aside0 (Below w.heap.size w wc))
      case first =>
        have H := HC10.out
        clear HC10
        by_cases c11 : a2 = true
        · subst c11
          have H1 : ((headroomref10_Settings.f a3 a4 a5).bind fun t102 => (headroomref10_May.j0 k l0 l1 a3 (!t102))) = some r := by rw [if_pos rfl] at H; exact H
          clear H
          have H := H1
          clear H1
          replace H := Option.bind_eq_some_iff.mp H
          obtain ⟨t102, A120, H⟩ := H
          replace H : (headroomref10_May.j0 k l0 l1 a3 (!t102)) = some r := H
          have A12 := Aside0.mk A120
          clear A120
          have H' := Aside0.mk H
          clear H
          go_wp2_with (first | (go_at_call 85; (with_reducible refine (headroomref10_Settings.calls a3 a4 a5 t102 _ A12.out).mono ?_); rintro e w' ⟨rfl, ⟨nd, rfl⟩⟩))
          go_meet
          case rel => exact ⟨_, (!t102), (by first | rfl | (simp; done) | (simp [*]; done)), H', ⟨by first | omega | exact Nat.le_refl _⟩, ⟨by repeat (first | (with_reducible first | exact HB.out | apply below_alloc | apply pw_below_drewN | apply below_drew1) | exact HB.out)⟩⟩
        · replace c11 := Bool.eq_false_iff.mpr c11
          subst c11
          have H1 : (headroomref10_May.j0 k l0 l1 a3 true) = some r := by rw [if_neg (show ¬ (false = true) by decide)] at H; exact H
          clear H
          have H := H1
          clear H1
          have H' := Aside0.mk H
          clear H
          go_wp2
          go_meet
          case rel => exact ⟨_, (true), (by first | rfl | (simp; done) | (simp [*]; done)), H', ⟨by first | omega | exact Nat.le_refl _⟩, ⟨by repeat (first | (with_reducible first | exact HB.out | apply below_alloc | apply pw_below_drewN | apply below_drew1) | exact HB.out)⟩⟩
      case rest =>
        clear HC10
        try clear c1
        try clear c2
        try clear p2
        try clear c8
        try clear c8b0
        try clear c9
        try clear c9b0
        try clear c9b1
        try clear c9b2
        try clear c11
        obtain ⟨kq, x30_9, rfl, HA, HJ9, HB⟩ := hcut
        cases kq with
        | zero => exact absurd HA.out (by simp [headroomref10_May.j0])
        | succ kj9 =>
          have H := HA.out
          clear HA
          simp only [headroomref10_May.j0] at H
          by_cases c13 : x30_9 = true
          · subst c13
            have H1 : (some 1) = some r := by rw [if_pos rfl] at H; exact H
            clear H
            have H := H1
            clear H1
            obtain rfl := Option.some.inj H
            go_wp2
            go_ret
            exact ⟨by first | rfl | (simp [errW_none, errW_some] <;> rfl) | (simp [*, errW_none, errW_some] <;> rfl), by repeat (first | (with_reducible first | exact HB.out | apply below_alloc | apply pw_below_drewN | apply below_drew1) | exact HB.out)⟩
          · replace c13 := Bool.eq_false_iff.mpr c13
            subst c13
            have H1 : ((headroomref09_Narrow.f kj9 l0).bind fun t103 => (if t103 = true then ((headroomref10_Roots.f kj9 l1 a3).bind fun t104 => (if t104 = true then (some 0) else (some 2))) else (some 2))) = some r := by rw [if_neg (show ¬ (false = true) by decide)] at H; exact H
            clear H
            have H := H1
            clear H1
            replace H := Option.bind_eq_some_iff.mp H
            obtain ⟨t103, A140, H⟩ := H
            replace H : (if t103 = true then ((headroomref10_Roots.f kj9 l1 a3).bind fun t104 => (if t104 = true then (some 0) else (some 2))) else (some 2)) = some r := H
            have A14 := Aside0.mk A140
            clear A140
            by_cases c15 : t103 = true
            · subst c15
              have H1 : ((headroomref10_Roots.f kj9 l1 a3).bind fun t104 => (if t104 = true then (some 0) else (some 2))) = some r := by rw [if_pos rfl] at H; exact H
              clear H
              have H := H1
              clear H1
              replace H := Option.bind_eq_some_iff.mp H
              obtain ⟨t104, A160, H⟩ := H
              replace H : (if t104 = true then (some 0) else (some 2)) = some r := H
              have A16 := Aside0.mk A160
              clear A160
              by_cases c17 : t104 = true
              · subst c17
                have H1 : (some 0) = some r := by rw [if_pos rfl] at H; exact H
                clear H
                have H := H1
                clear H1
                obtain rfl := Option.some.inj H
                go_wp2_with (first | ((with_reducible refine gate_callee (f := 86) rfl ?_); refine goesL_ (some 32) rfl rfl Try.func86 (by kernel_rfl) rfl #[.slice A0 l0.length c0] rfl (by (try simp only [List.map_toArray, List.map_cons, List.map_nil]); first | done | rfl | (simp only [List.length_drop, List.length_take]; rfl)) ?_; (with_reducible refine (headroomref09_Narrow.calls kj9 _ _ l0 true _ ?side1 ?side2 A14.out).mono ?_); (case side1 => repeat (first | exact (Kd.C_below HR0.out HB.out) | (with_reducible refine Kd.C_alloc ?_ _) | (with_reducible refine Kd.C_drewN ?_ _) | (with_reducible refine Kd.C_drew ?_))); (case side2 => exact HC0.out); rintro e w18 ⟨rfl, hb⟩; refine ⟨_, rfl, ?_⟩; have n0_ := Aside0.mk (below_step (by repeat (first | (with_reducible first | exact HB.out | apply below_alloc | apply pw_below_drewN | apply below_drew1) | exact HB.out)) hb); clear HB; have HB := n0_; clear n0_; (try clear hb); (try clear hb2); (try clear hk); (try clear hi)) | (go_at_call 87; (with_reducible refine (headroomref10_Roots.calls kj9 _ _ l1 a3 true _ ?side1 ?side2 A16.out).mono ?_); (case side1 => repeat (first | exact (Kd.C_below HR1.out HB.out) | (with_reducible refine Kd.C_alloc ?_ _) | (with_reducible refine Kd.C_drewN ?_ _) | (with_reducible refine Kd.C_drew ?_))); (case side2 => exact HC1.out); rintro e w19 ⟨rfl, hb⟩; have n0_ := Aside0.mk (below_step (by repeat (first | (with_reducible first | exact HB.out | apply below_alloc | apply pw_below_drewN | apply below_drew1) | exact HB.out)) hb); clear HB; have HB := n0_; clear n0_; (try clear hb); (try clear hb2); (try clear hk); (try clear hi)))
                go_ret
                exact ⟨by first | rfl | (simp [errW_none, errW_some] <;> rfl) | (simp [*, errW_none, errW_some] <;> rfl), by repeat (first | (with_reducible first | exact HB.out | apply below_alloc | apply pw_below_drewN | apply below_drew1) | exact HB.out)⟩
              · replace c17 := Bool.eq_false_iff.mpr c17
                subst c17
                have H1 : (some 2) = some r := by rw [if_neg (show ¬ (false = true) by decide)] at H; exact H
                clear H
                have H := H1
                clear H1
                obtain rfl := Option.some.inj H
                go_wp2_with (first | ((with_reducible refine gate_callee (f := 86) rfl ?_); refine goesL_ (some 32) rfl rfl Try.func86 (by kernel_rfl) rfl #[.slice A0 l0.length c0] rfl (by (try simp only [List.map_toArray, List.map_cons, List.map_nil]); first | done | rfl | (simp only [List.length_drop, List.length_take]; rfl)) ?_; (with_reducible refine (headroomref09_Narrow.calls kj9 _ _ l0 true _ ?side1 ?side2 A14.out).mono ?_); (case side1 => repeat (first | exact (Kd.C_below HR0.out HB.out) | (with_reducible refine Kd.C_alloc ?_ _) | (with_reducible refine Kd.C_drewN ?_ _) | (with_reducible refine Kd.C_drew ?_))); (case side2 => exact HC0.out); rintro e w20 ⟨rfl, hb⟩; refine ⟨_, rfl, ?_⟩; have n0_ := Aside0.mk (below_step (by repeat (first | (with_reducible first | exact HB.out | apply below_alloc | apply pw_below_drewN | apply below_drew1) | exact HB.out)) hb); clear HB; have HB := n0_; clear n0_; (try clear hb); (try clear hb2); (try clear hk); (try clear hi)) | (go_at_call 87; (with_reducible refine (headroomref10_Roots.calls kj9 _ _ l1 a3 false _ ?side1 ?side2 A16.out).mono ?_); (case side1 => repeat (first | exact (Kd.C_below HR1.out HB.out) | (with_reducible refine Kd.C_alloc ?_ _) | (with_reducible refine Kd.C_drewN ?_ _) | (with_reducible refine Kd.C_drew ?_))); (case side2 => exact HC1.out); rintro e w21 ⟨rfl, hb⟩; have n0_ := Aside0.mk (below_step (by repeat (first | (with_reducible first | exact HB.out | apply below_alloc | apply pw_below_drewN | apply below_drew1) | exact HB.out)) hb); clear HB; have HB := n0_; clear n0_; (try clear hb); (try clear hb2); (try clear hk); (try clear hi)))
                go_ret
                exact ⟨by first | rfl | (simp [errW_none, errW_some] <;> rfl) | (simp [*, errW_none, errW_some] <;> rfl), by repeat (first | (with_reducible first | exact HB.out | apply below_alloc | apply pw_below_drewN | apply below_drew1) | exact HB.out)⟩
            · replace c15 := Bool.eq_false_iff.mpr c15
              subst c15
              have H1 : (some 2) = some r := by rw [if_neg (show ¬ (false = true) by decide)] at H; exact H
              clear H
              have H := H1
              clear H1
              obtain rfl := Option.some.inj H
              go_wp2_with (first | ((with_reducible refine gate_callee (f := 86) rfl ?_); refine goesL_ (some 32) rfl rfl Try.func86 (by kernel_rfl) rfl #[.slice A0 l0.length c0] rfl (by (try simp only [List.map_toArray, List.map_cons, List.map_nil]); first | done | rfl | (simp only [List.length_drop, List.length_take]; rfl)) ?_; (with_reducible refine (headroomref09_Narrow.calls kj9 _ _ l0 false _ ?side1 ?side2 A14.out).mono ?_); (case side1 => repeat (first | exact (Kd.C_below HR0.out HB.out) | (with_reducible refine Kd.C_alloc ?_ _) | (with_reducible refine Kd.C_drewN ?_ _) | (with_reducible refine Kd.C_drew ?_))); (case side2 => exact HC0.out); rintro e w22 ⟨rfl, hb⟩; refine ⟨_, rfl, ?_⟩; have n0_ := Aside0.mk (below_step (by repeat (first | (with_reducible first | exact HB.out | apply below_alloc | apply pw_below_drewN | apply below_drew1) | exact HB.out)) hb); clear HB; have HB := n0_; clear n0_; (try clear hb); (try clear hb2); (try clear hk); (try clear hi)))
              go_ret
              exact ⟨by first | rfl | (simp [errW_none, errW_some] <;> rfl) | (simp [*, errW_none, errW_some] <;> rfl), by repeat (first | (with_reducible first | exact HB.out | apply below_alloc | apply pw_below_drewN | apply below_drew1) | exact HB.out)⟩
    · rw [if_neg c9] at H
      have c9b0 : ((l1.length : Int) == (l0.length : Int)) = false := beq_eq_false_iff_ne.mpr c9
      have c9b1 : ((l1.length : Int) != (l0.length : Int)) = true := bne_iff_ne.mpr c9
      have c9b2 : (l1.length == l0.length) = false := by first | simpa using c9 | (simp at c9 ⊢; omega)
      obtain rfl := Option.some.inj H
      go_enter Try.func26, Try.ntmps26
      go_wp2_with (first | ((with_reducible refine gate_callee (f := 84) rfl ?_); refine goesL_ (some 15) rfl rfl Try.func84 (by kernel_rfl) rfl #[.int .i64 (l0.length : Int)] rfl (by (try simp only [List.map_toArray, List.map_cons, List.map_nil]); first | done | rfl | (simp only [List.length_drop, List.length_take]; rfl)) ?_; (with_reducible refine (headroomref08_Log.calls k (l0.length : Int) t101 _ A7.out).mono ?_); rintro e w' ⟨rfl, ⟨nd, rfl⟩⟩; refine ⟨_, rfl, ?_⟩))
      go_ret
      exact ⟨by first | rfl | (simp [errW_none, errW_some] <;> rfl) | (simp [*, errW_none, errW_some] <;> rfl), by repeat (first | (with_reducible first | exact HB.out | apply below_alloc | apply pw_below_drewN | apply below_drew1) | exact HB.out)⟩

end Go.Proofs.Ytmglkelmdcpinaa.G
/- The contract of the function headroomref10_Half (number 27 of the translation): what its call computes, as a plain Lean function; memory that was there stays as it was. Conditions: none beyond the theorem's own. Written by a program (gprint.py). -/
namespace Go.Proofs.Ytmglkelmdcpinaa.G
open Go.RowKit Go.Proofs.YtmglkelmdcpinaaW.PrintWords Go.Proofs.YtmglkelmdcpinaaW.PrintLast Go.Proofs.YtmglkelmdcpinaaW.PrintMore
attribute [local go_sem] max2_int min2_int max_two min_two max_three min_three max_four min_four   -- for this text's walks alone
set_option linter.unusedVariables false
set_option linter.unusedSimpArgs false

/-! ### headroomref10_Half: function 27 -/
def headroomref10_Half.l0 : Nat → Int → Int → Int → Option (Bool)
  | 0, _, _, _ => none
  | k + 1, x0, x1, x5 => if x5 < x1 then (if x0 = x5 then (some true) else (headroomref10_Half.l0 k x0 x1 (wrap64 (2 * x5)))) else (some false)
def headroomref10_Half.f (k : Nat) (a0 : Int) (a1 : Int) : Option (Bool) := headroomref10_Half.l0 k a0 a1 1
theorem headroomref10_Half.mono_l : ∀ k, (∀ y0 y1 y2, LeO (headroomref10_Half.l0 k y0 y1 y2) (headroomref10_Half.l0 (k + 1) y0 y1 y2))
  | 0 => fun _ _ _ r h => by simp [headroomref10_Half.l0] at h
  | k + 1 => by
    have ih0 := headroomref10_Half.mono_l k
    · intro y0 y1 y2
      unfold headroomref10_Half.l0
      repeat' first
      | (with_reducible exact ih0 _ _ _)
      | (with_reducible exact LeO.refl _)
      | (with_reducible exact LeO.none _)
      | (with_reducible refine LeO.ite ?_ ?_)
      | (with_reducible refine LeO.bind ?_ (fun _ => ?_))
      | exact ih0 _ _ _
      | exact LeO.none _
      | refine LeO.ite ?_ ?_
      | refine LeO.bind ?_ (fun _ => ?_)
theorem headroomref10_Half.mono : ∀ a0 a1 k, LeO (headroomref10_Half.f k a0 a1) (headroomref10_Half.f (k + 1) a0 a1) := by
  intro a0 a1 k
  have ih0 := headroomref10_Half.mono_l k
  unfold headroomref10_Half.f
  repeat' first
      | (with_reducible exact ih0 _ _ _)
      | (with_reducible exact LeO.refl _)
      | (with_reducible exact LeO.none _)
      | (with_reducible refine LeO.ite ?_ ?_)
      | (with_reducible refine LeO.bind ?_ (fun _ => ?_))
      | exact ih0 _ _ _
      | exact LeO.none _
      | refine LeO.ite ?_ ?_
      | refine LeO.bind ?_ (fun _ => ?_)
set_option maxHeartbeats 8000000 in
set_option maxRecDepth 100000 in
theorem headroomref10_Half.calls (k : Nat) (a0 : Int) (a1 : Int) (r : Bool) (w : World) (h : headroomref10_Half.f k a0 a1 = some r) :
    Calls Try.prog 27 #[.int .i64 a0, .int .i64 a1] w fun e w' => e = .returned (.bool r) ∧ Drawn0 w w' := by
  have H : (headroomref10_Half.l0 k a0 a1 1) = some r := h
  clear h
  have H' := Aside0.mk H
  clear H
  go_enter Try.func27, Try.ntmps27
  go_wp2
  go_loopg [5] k (fun kq v5 w' => ∃ (x5_1 : Int), v5 = .int .i64 x5_1 ∧ Aside0 (headroomref10_Half.l0 kq a0 a1 x5_1 = some r) ∧ Aside0 (kq ≤ k) ∧ Drawn0 w w')
  case atStart => exact ⟨(1), (by first | rfl | (simp; done) | (simp [*]; done)), H', ⟨Nat.le_refl _⟩, by repeat (first | exact Drawn0.refl _ | apply Drawn0.step)⟩
  case round =>
    clear H'
    try clear c2
    try clear p2
    obtain ⟨x5_1, rfl, HA, HK1, ⟨m1, rfl⟩⟩ := hrel
    cases gk with
    | zero => exact absurd HA.out (by simp [headroomref10_Half.l0])
    | succ k1 =>
      have H := HA.out
      clear HA
      simp only [headroomref10_Half.l0] at H
      by_cases c3 : x5_1 < a1
      · rw [if_pos c3] at H
        have c3b0 : decide (x5_1 < a1) = true := decide_eq_true c3
        clear c3
        by_cases c4 : a0 = x5_1
        · rw [if_pos c4] at H
          have c4b0 : (a0 == x5_1) = true := beq_iff_eq.mpr c4
          have c4b1 : (a0 != x5_1) = false := bne_eq_false_iff_eq.mpr c4
          clear c4
          obtain rfl := Option.some.inj H
          go_wp2
          go_ret
          exact ⟨by first | rfl | (simp; done) | (simp [*]; done), by repeat (first | exact Drawn0.refl _ | apply Drawn0.step)⟩
        · rw [if_neg c4] at H
          have c4b0 : (a0 == x5_1) = false := beq_eq_false_iff_ne.mpr c4
          have c4b1 : (a0 != x5_1) = true := bne_iff_ne.mpr c4
          have H' := Aside0.mk H
          clear H
          go_wp2
          go_roundg k1
          case measure => have := HK1.out; omega
          case rel => exact ⟨(wrap64 (2 * x5_1)), (by first | rfl | (simp; done) | (simp [*]; done)), H', ⟨by have := HK1.out; omega⟩, by repeat (first | exact Drawn0.refl _ | apply Drawn0.step)⟩
      · rw [if_neg c3] at H
        have c3b0 : decide (x5_1 < a1) = false := decide_eq_false c3
        clear c3
        obtain rfl := Option.some.inj H
        go_wp2
        go_ret
        exact ⟨by first | rfl | (simp; done) | (simp [*]; done), by repeat (first | exact Drawn0.refl _ | apply Drawn0.step)⟩

end Go.Proofs.Ytmglkelmdcpinaa.G
/- The contract of the function headroomref03_Same (number 29 of the translation): what its call computes, as a plain Lean function; memory that was there stays as it was. Conditions: none beyond the theorem's own. Written by a program (gprint.py). -/
namespace Go.Proofs.Ytmglkelmdcpinaa.G
open Go.RowKit Go.Proofs.YtmglkelmdcpinaaW.PrintWords Go.Proofs.YtmglkelmdcpinaaW.PrintLast Go.Proofs.YtmglkelmdcpinaaW.PrintMore
attribute [local go_sem] max2_int min2_int max_two min_two max_three min_three max_four min_four   -- for this text's walks alone
set_option linter.unusedVariables false
set_option linter.unusedSimpArgs false

attribute [local go_sem high] eqA43
/-! ### headroomref03_Same: function 29 -/
def headroomref03_Same.l0 : Nat → List (S43) → List (S43) → Int → Int → Option (Bool)
  | 0, _, _, _, _ => none
  | k + 1, x0, x1, x12, x13 => if x13 < x12 then (if 0 ≤ x13 then (if x13 < (x0.length : Int) then (if x13 < (x1.length : Int) then (if (!(((rd_T43 x0 x13).f0) == ((rd_T43 x1 x13).f0)) || (!(((rd_T43 x0 x13).f1) == ((rd_T43 x1 x13).f1)))) = true then (some false) else (headroomref03_Same.l0 k x0 x1 x12 (wrap64 (x13 + 1)))) else (none)) else (none)) else (none)) else (some true)
def headroomref03_Same.f (k : Nat) (l0 : List (S43)) (l1 : List (S43)) : Option (Bool) := if (l0.length : Int) = (l1.length : Int) then (headroomref03_Same.l0 k l0 l1 (l0.length : Int) 0) else (some false)
theorem headroomref03_Same.mono_l : ∀ k, (∀ y0 y1 y2 y3, LeO (headroomref03_Same.l0 k y0 y1 y2 y3) (headroomref03_Same.l0 (k + 1) y0 y1 y2 y3))
  | 0 => fun _ _ _ _ r h => by simp [headroomref03_Same.l0] at h
  | k + 1 => by
    have ih0 := headroomref03_Same.mono_l k
    · intro y0 y1 y2 y3
      unfold headroomref03_Same.l0
      repeat' first
      | (with_reducible exact ih0 _ _ _ _)
      | (with_reducible exact LeO.refl _)
      | (with_reducible exact LeO.none _)
      | (with_reducible refine LeO.ite ?_ ?_)
      | (with_reducible refine LeO.bind ?_ (fun _ => ?_))
      | exact ih0 _ _ _ _
      | exact LeO.none _
      | refine LeO.ite ?_ ?_
      | refine LeO.bind ?_ (fun _ => ?_)
theorem headroomref03_Same.mono : ∀ a0 a1 k, LeO (headroomref03_Same.f k a0 a1) (headroomref03_Same.f (k + 1) a0 a1) := by
  intro a0 a1 k
  have ih0 := headroomref03_Same.mono_l k
  unfold headroomref03_Same.f
  repeat' first
      | (with_reducible exact ih0 _ _ _ _)
      | (with_reducible exact LeO.refl _)
      | (with_reducible exact LeO.none _)
      | (with_reducible refine LeO.ite ?_ ?_)
      | (with_reducible refine LeO.bind ?_ (fun _ => ?_))
      | exact ih0 _ _ _ _
      | exact LeO.none _
      | refine LeO.ite ?_ ?_
      | refine LeO.bind ?_ (fun _ => ?_)
set_option maxHeartbeats 8000000 in
set_option maxRecDepth 100000 in
theorem headroomref03_Same.calls (k : Nat) (A0 : Option Addr) (c0 : Nat) (l0 : List (S43)) (A1 : Option Addr) (c1 : Nat) (l1 : List (S43)) (r : Bool) (w : World) (hr0 : Kd.C k43 w A0 l0.length l0) (hc0 : l0.length ≤ c0) (hr1 : Kd.C k43 w A1 l1.length l1) (hc1 : l1.length ≤ c1) (h : headroomref03_Same.f k l0 l1 = some r) :
    Calls Try.prog 29 #[.slice A0 l0.length c0, .slice A1 l1.length c1] w fun e w' => e = .returned (.bool r) ∧ Drawn0 w w' := by
  have hu43 := Try.underlying43
  have HR0 := Aside0.mk hr0
  have HC0 := Aside0.mk hc0
  clear hr0 hc0
  have HR1 := Aside0.mk hr1
  have HC1 := Aside0.mk hc1
  clear hr1 hc1
  have H : (if (l0.length : Int) = (l1.length : Int) then (headroomref03_Same.l0 k l0 l1 (l0.length : Int) 0) else (some false)) = some r := h
  clear h
  by_cases c3 : (l0.length : Int) = (l1.length : Int)
  · rw [if_pos c3] at H
    have c3b0 : ((l0.length : Int) == (l1.length : Int)) = true := beq_iff_eq.mpr c3
    have c3b1 : ((l0.length : Int) != (l1.length : Int)) = false := bne_eq_false_iff_eq.mpr c3
    have c3b2 : (l0.length == l1.length) = true := by first | simpa using c3 | (simp at c3 ⊢; omega)
    clear c3
    have H' := Aside0.mk H
    clear H
    go_enter Try.func29, Try.ntmps29
    go_wp2
    repeat (go_quiet (fail); try go_wp2)
    go_loopg [13] k (fun kq v13 w' => ∃ (x13_1 : Int), v13 = .int .i64 x13_1 ∧ Aside0 (headroomref03_Same.l0 kq l0 l1 (l0.length : Int) x13_1 = some r) ∧ Aside0 (kq ≤ k) ∧ Drawn0 w w')
    case atStart => exact ⟨(0), (by first | rfl | (simp; done) | (simp [*]; done)), H', ⟨Nat.le_refl _⟩, by repeat (first | exact Drawn0.refl _ | apply Drawn0.step)⟩
    case round =>
      clear H'
      try clear c1
      try clear c2
      try clear p2
      try clear c3
      try clear c3b0
      try clear c3b1
      try clear c3b2
      obtain ⟨x13_1, rfl, HA, HK1, ⟨m1, rfl⟩⟩ := hrel
      cases gk with
      | zero => exact absurd HA.out (by simp [headroomref03_Same.l0])
      | succ k1 =>
        have H := HA.out
        clear HA
        simp only [headroomref03_Same.l0] at H
        by_cases c4 : x13_1 < (l0.length : Int)
        · rw [if_pos c4] at H
          have c4b0 : decide (x13_1 < (l0.length : Int)) = true := decide_eq_true c4
          clear c4
          by_cases c5 : 0 ≤ x13_1
          · rw [if_pos c5] at H
            have c5b0 : decide (0 ≤ x13_1) = true := decide_eq_true c5
            clear c5
            by_cases c6 : x13_1 < (l0.length : Int)
            · rw [if_pos c6] at H
              have c6b0 : decide (x13_1 < (l0.length : Int)) = true := decide_eq_true c6
              clear c6
              by_cases c7 : x13_1 < (l1.length : Int)
              · rw [if_pos c7] at H
                have c7b0 : decide (x13_1 < (l1.length : Int)) = true := decide_eq_true c7
                clear c7
                by_cases c8 : (!(((rd_T43 l0 x13_1).f0) == ((rd_T43 l1 x13_1).f0)) || (!(((rd_T43 l0 x13_1).f1) == ((rd_T43 l1 x13_1).f1)))) = true
                · rw [if_pos c8] at H
                  have c8b0 : (!(((rd_T43 l0 x13_1).f0) == ((rd_T43 l1 x13_1).f0)) || (!(((rd_T43 l0 x13_1).f1) == ((rd_T43 l1 x13_1).f1)))) = true := c8
                  clear c8
                  obtain rfl := Option.some.inj H
                  have p101 : 0 ≤ (x13_1 : Int) := of_decide_eq_true (by first | (with_reducible assumption) | assumption)
                  have q101 : x13_1 < (l0.length : Int) := of_decide_eq_true (by first | (with_reducible assumption) | assumption)
                  obtain ⟨ad101, e101, hx101_0, hx101_1⟩ := at_T43 HR0.out x13_1 p101 q101
                  cases e101
                  replace p101 := eq_true p101
                  replace q101 := eq_true q101
                  have p102 : 0 ≤ (x13_1 : Int) := of_decide_eq_true (by first | (with_reducible assumption) | assumption)
                  have q102 : x13_1 < (l1.length : Int) := of_decide_eq_true (by first | (with_reducible assumption) | assumption)
                  obtain ⟨ad102, e102, hx102_0, hx102_1⟩ := at_T43 HR1.out x13_1 p102 q102
                  cases e102
                  replace p102 := eq_true p102
                  replace q102 := eq_true q102
                  go_wp2
                  repeat (go_quiet (fail); try go_wp2)
                  go_ret
                  exact ⟨by first | rfl | (simp; done) | (simp [*]; done), by repeat (first | exact Drawn0.refl _ | apply Drawn0.step)⟩
                · rw [if_neg c8] at H
                  have c8b0 : (!(((rd_T43 l0 x13_1).f0) == ((rd_T43 l1 x13_1).f0)) || (!(((rd_T43 l0 x13_1).f1) == ((rd_T43 l1 x13_1).f1)))) = false := by simpa using c8
                  clear c8
                  have H' := Aside0.mk H
                  clear H
                  have p101 : 0 ≤ (x13_1 : Int) := of_decide_eq_true (by first | (with_reducible assumption) | assumption)
                  have q101 : x13_1 < (l0.length : Int) := of_decide_eq_true (by first | (with_reducible assumption) | assumption)
                  obtain ⟨ad101, e101, hx101_0, hx101_1⟩ := at_T43 HR0.out x13_1 p101 q101
                  cases e101
                  replace p101 := eq_true p101
                  replace q101 := eq_true q101
                  have p102 : 0 ≤ (x13_1 : Int) := of_decide_eq_true (by first | (with_reducible assumption) | assumption)
                  have q102 : x13_1 < (l1.length : Int) := of_decide_eq_true (by first | (with_reducible assumption) | assumption)
                  obtain ⟨ad102, e102, hx102_0, hx102_1⟩ := at_T43 HR1.out x13_1 p102 q102
                  cases e102
                  replace p102 := eq_true p102
                  replace q102 := eq_true q102
                  go_wp2
                  repeat (go_quiet (fail); try go_wp2)
                  go_roundg k1
                  case measure => have := HK1.out; omega
                  case rel => exact ⟨(wrap64 (x13_1 + 1)), (by first | rfl | (simp; done) | (simp [*]; done)), H', ⟨by have := HK1.out; omega⟩, by repeat (first | exact Drawn0.refl _ | apply Drawn0.step)⟩
              · rw [if_neg c7] at H
                exact absurd H (by simp)
            · rw [if_neg c6] at H
              exact absurd H (by simp)
          · rw [if_neg c5] at H
            exact absurd H (by simp)
        · rw [if_neg c4] at H
          have c4b0 : decide (x13_1 < (l0.length : Int)) = false := decide_eq_false c4
          clear c4
          obtain rfl := Option.some.inj H
          go_wp2
          repeat (go_quiet (fail); try go_wp2)
          go_ret
          exact ⟨by first | rfl | (simp; done) | (simp [*]; done), by repeat (first | exact Drawn0.refl _ | apply Drawn0.step)⟩
  · rw [if_neg c3] at H
    have c3b0 : ((l0.length : Int) == (l1.length : Int)) = false := beq_eq_false_iff_ne.mpr c3
    have c3b1 : ((l0.length : Int) != (l1.length : Int)) = true := bne_iff_ne.mpr c3
    have c3b2 : (l0.length == l1.length) = false := by first | simpa using c3 | (simp at c3 ⊢; omega)
    obtain rfl := Option.some.inj H
    go_enter Try.func29, Try.ntmps29
    go_wp2
    repeat (go_quiet (fail); try go_wp2)
    go_ret
    exact ⟨by first | rfl | (simp; done) | (simp [*]; done), by repeat (first | exact Drawn0.refl _ | apply Drawn0.step)⟩

end Go.Proofs.Ytmglkelmdcpinaa.G
/- round.Shift's value, as the plain rounded quotient; and when it is refused. Conditions: a number of 64 bits, a shift of 1 to 62, a mode of 0 to 2. -/
namespace Go.Proofs.Ytmglkelmdcpinaa.G
open Go.RowKit Go.Proofs.Ytmglkelmdcpinaa.M

theorem q_eq (x s m : Int) (hx0 : -9223372036854775808 ≤ x) (hx1 : x < 9223372036854775808) (h1 : 1 ≤ s) (h2 : s ≤ 62) (hm : m = 0 ∨ m = 1 ∨ m = 2) : round_Shift.q x s m = rsh x s.toNat m := by
  obtain ⟨n, rfl⟩ := Int.eq_ofNat_of_zero_le (show 0 ≤ s by omega)
  simp only [Int.toNat_natCast]
  have hn1 : 1 ≤ n := by omega
  have hn2 : n ≤ 62 := by omega
  have hp := pow_pos n
  have hle := pow_le (s := n) (t := 62) hn2
  have h62 : (2 : Int) ^ 62 = 4611686018427387904 := by decide
  have hp' := pow_pos (n - 1)
  have hle' := pow_le (s := n - 1) (t := 62) (by omega)
  have two : (2 : Int) ≤ 2 ^ n := by have := pow_le (s := 1) (t := n) hn1; simpa using this
  have w1 : wrap64 (2 ^ n) = 2 ^ n := wrap64_id (by omega) (by omega)
  have w2 : wrap64 (wrap64 (2 ^ n) - 1) = 2 ^ n - 1 := by rw [w1]; exact wrap64_id (by omega) (by omega)
  have w3 : wrap64 (2 ^ (n - 1)) = 2 ^ (n - 1) := wrap64_id (by omega) (by omega)
  have hd := Int.mul_ediv_add_emod x (2 ^ n)
  have r0 : (0 : Int) ≤ x % 2 ^ n := Int.emod_nonneg _ (by omega)
  have r1 : x % 2 ^ n < 2 ^ n := Int.emod_lt_of_pos _ hp
  have b0 : -4611686018427387904 ≤ x / 2 ^ n := by
    apply Int.le_ediv_of_mul_le hp
    have : (-4611686018427387904 : Int) * 2 ^ n ≤ -4611686018427387904 * 2 := by omega
    omega
  have b1 : x / 2 ^ n < 4611686018427387904 := by
    apply Int.ediv_lt_of_lt_mul hp
    omega
  have w4 : wrap64 (x / 2 ^ n + 1) = x / 2 ^ n + 1 := wrap64_id (by omega) (by omega)
  unfold round_Shift.q round_Shift.up rsh
  rw [if_neg (show ¬ n = 0 by omega)]
  simp only [Int.toNat_natCast]
  rw [w2, w3, w4, and_mask _ _ hn2, and_one]
  rcases hm with rfl | rfl | rfl
  · simp
  · simp only [round_modes.u2]
    simp
  · simp only [round_modes.u3]
    simp

theorem shift_some (x s m : Int) (hx0 : -9223372036854775808 ≤ x) (hx1 : x < 9223372036854775808) (h1 : 0 ≤ s) (h2 : s ≤ 62) (hm : m = 0 ∨ m = 1 ∨ m = 2) : round_Shift.f x s m = some (rsh x s.toNat m, 0) := by
  unfold round_Shift.f
  rw [if_neg (by omega)]
  by_cases h : s = 0
  · subst h
    simp [rsh]
  · rw [if_neg h, q_eq x s m hx0 hx1 (by omega) h2 hm]
theorem shift_none (x s m : Int) (h : s < 0 ∨ 62 < s ∨ m < 0 ∨ 3 ≤ m) : round_Shift.f x s m = some (0, 1) := by
  unfold round_Shift.f
  rw [if_pos h]
end Go.Proofs.Ytmglkelmdcpinaa.G
/- The contract of the function headroomref01_Div (number 153 of the translation): what its call computes, as a plain Lean function; memory that was there stays as it was. Conditions: none beyond the theorem's own. Written by a program (gprint.py). -/
namespace Go.Proofs.Ytmglkelmdcpinaa.G
open Go.RowKit Go.Proofs.YtmglkelmdcpinaaW.PrintWords Go.Proofs.YtmglkelmdcpinaaW.PrintLast Go.Proofs.YtmglkelmdcpinaaW.PrintMore
attribute [local go_sem] max2_int min2_int max_two min_two max_three min_three max_four min_four   -- for this text's walks alone
set_option linter.unusedVariables false
set_option linter.unusedSimpArgs false

/-! ### headroomref01_Div: function 153 -/
def headroomref01_Div.f (a0 : Int) (a1 : Int) : Option (Int) := if a1 = 0 then (none) else (if a0 < 0 then (if (wrap64 ((wrap64 (Int.tdiv a0 a1)) * a1)) = a0 then (some (wrap64 (Int.tdiv a0 a1))) else (some (wrap64 ((wrap64 (Int.tdiv a0 a1)) - 1)))) else (some (wrap64 (Int.tdiv a0 a1))))
set_option maxHeartbeats 8000000 in
set_option maxRecDepth 100000 in
theorem headroomref01_Div.calls (a0 : Int) (a1 : Int) (r : Int) (w : World) (h : headroomref01_Div.f a0 a1 = some r) :
    Calls Try.prog 153 #[.int .i64 a0, .int .i64 a1] w fun e w' => e = .returned (.int .i64 r) ∧ Drawn0 w w' := by
  have H : (if a1 = 0 then (none) else (if a0 < 0 then (if (wrap64 ((wrap64 (Int.tdiv a0 a1)) * a1)) = a0 then (some (wrap64 (Int.tdiv a0 a1))) else (some (wrap64 ((wrap64 (Int.tdiv a0 a1)) - 1)))) else (some (wrap64 (Int.tdiv a0 a1))))) = some r := h
  clear h
  by_cases c3 : a1 = 0
  · rw [if_pos c3] at H
    exact absurd H (by simp)
  · rw [if_neg c3] at H
    have c3b0 : (a1 == 0) = false := beq_eq_false_iff_ne.mpr c3
    have c3b1 : (a1 != 0) = true := bne_iff_ne.mpr c3
    by_cases c4 : a0 < 0
    · rw [if_pos c4] at H
      have c4b0 : decide (a0 < 0) = true := decide_eq_true c4
      clear c4
      by_cases c5 : (wrap64 ((wrap64 (Int.tdiv a0 a1)) * a1)) = a0
      · rw [if_pos c5] at H
        have c5b0 : ((wrap64 ((wrap64 (Int.tdiv a0 a1)) * a1)) == a0) = true := beq_iff_eq.mpr c5
        have c5b1 : ((wrap64 ((wrap64 (Int.tdiv a0 a1)) * a1)) != a0) = false := bne_eq_false_iff_eq.mpr c5
        clear c5
        obtain rfl := Option.some.inj H
        go_enter Try.func153, Try.ntmps153
        go_wp2
        go_ret
        exact ⟨by first | rfl | (simp; done) | (simp [*]; done), by repeat (first | exact Drawn0.refl _ | apply Drawn0.step)⟩
      · rw [if_neg c5] at H
        have c5b0 : ((wrap64 ((wrap64 (Int.tdiv a0 a1)) * a1)) == a0) = false := beq_eq_false_iff_ne.mpr c5
        have c5b1 : ((wrap64 ((wrap64 (Int.tdiv a0 a1)) * a1)) != a0) = true := bne_iff_ne.mpr c5
        obtain rfl := Option.some.inj H
        go_enter Try.func153, Try.ntmps153
        go_wp2
        go_ret
        exact ⟨by first | rfl | (simp; done) | (simp [*]; done), by repeat (first | exact Drawn0.refl _ | apply Drawn0.step)⟩
    · rw [if_neg c4] at H
      have c4b0 : decide (a0 < 0) = false := decide_eq_false c4
      clear c4
      obtain rfl := Option.some.inj H
      go_enter Try.func153, Try.ntmps153
      go_wp2
      go_ret
      exact ⟨by first | rfl | (simp; done) | (simp [*]; done), by repeat (first | exact Drawn0.refl _ | apply Drawn0.step)⟩

end Go.Proofs.Ytmglkelmdcpinaa.G
/- What the document's own arithmetic computes: a power of 2, a half, a quotient by a power rounded down, a shift in three modes, a quotient. Conditions: each theorem's own bounds; rounds enough. -/
namespace Go.Proofs.Ytmglkelmdcpinaa.G
open Go.RowKit Go.Proofs.Ytmglkelmdcpinaa.M
set_option linter.unusedVariables false

theorem wrap_is {x : Int} (h0 : -9223372036854775808 ≤ x) (h1 : x < 9223372036854775808) : wrap64 x = x := wrap64_id h0 h1

theorem half_is (x : Int) (h0 : -9223372036854775808 ≤ x) (h1 : x < 9223372036854775808) : headroomref01_half.f x = some (x / 2) := by
  unfold headroomref01_half.f
  by_cases hx : 0 ≤ x
  · have ht : x.tdiv 2 = x / 2 := Int.tdiv_eq_ediv_of_nonneg hx
    have hm : x.tmod 2 = x % 2 := Int.tmod_eq_emod_of_nonneg hx
    rw [ht, hm]
    split
    · rw [wrap_is (by omega) (by omega)]
    · rw [if_pos (by omega), wrap_is (by omega) (by omega)]
  · have hd := Int.mul_tdiv_add_tmod x 2
    have h2 := Int.tmod_lt_of_pos x (show (0 : Int) < 2 by decide)
    have h3 : -2 < x.tmod 2 := (tmod_range x 2 (by decide)).1
    have h4 : x.tmod 2 ≤ 0 := by
      have h5 := Int.neg_tmod (-x) 2
      have h6 := Int.tmod_nonneg 2 (show 0 ≤ -x by omega)
      rw [Int.neg_neg] at h5
      omega
    split
    · rw [wrap_is (by omega) (by omega)]
      congr 1; omega
    · rw [if_neg (by omega), wrap_is (x := x.tdiv 2) (by omega) (by omega), wrap_is (by omega) (by omega)]
      congr 1; omega

theorem floor_l0 (j : Nat) : ∀ (k : Nat) (x s i : Int), -9223372036854775808 ≤ x → x < 9223372036854775808 → 0 ≤ i → s < 1000 → s = i + j → j < k → headroomref01_Floor.l0 k x s i = some (x / 2 ^ j) := by
  induction j with
  | zero =>
    intro k x s i h0 h1 hi hs h hk
    obtain ⟨k, rfl⟩ : ∃ n, k = n + 1 := ⟨k - 1, by omega⟩
    rw [headroomref01_Floor.l0, if_neg (by omega)]
    simp
  | succ j ih =>
    intro k x s i h0 h1 hi hs h hk
    obtain ⟨k, rfl⟩ : ∃ n, k = n + 1 := ⟨k - 1, by omega⟩
    rw [headroomref01_Floor.l0, if_pos (by omega), half_is x h0 h1]
    show headroomref01_Floor.l0 k (x / 2) s (wrap64 (i + 1)) = _
    rw [wrap_is (by omega) (by omega), ih k (x / 2) s (i + 1) (by omega) (by omega) (by omega) hs (by omega) (by omega)]
    rw [Int.pow_succ, Int.mul_comm (2 ^ j) 2, Int.ediv_ediv_of_nonneg (by decide)]

theorem floor_is (k : Nat) (x : Int) (s : Nat) (h0 : -9223372036854775808 ≤ x) (h1 : x < 9223372036854775808) (hs : s < 1000) (hk : s < k) : headroomref01_Floor.f k x s = some (x / 2 ^ s) :=
  floor_l0 s k x s 0 h0 h1 (by omega) (by omega) (by omega) hk

theorem pow_l0 (j : Nat) : ∀ (k : Nat) (x s i : Int), 0 ≤ x → x * 2 ^ j < 9223372036854775808 → 0 ≤ i → s < 1000 → s = i + j → j < k → headroomref01_Pow.l0 k s x i = some (x * 2 ^ j) := by
  induction j with
  | zero =>
    intro k x s i h0 h1 hi hs h hk
    obtain ⟨k, rfl⟩ : ∃ n, k = n + 1 := ⟨k - 1, by omega⟩
    rw [headroomref01_Pow.l0, if_neg (by omega)]
    simp
  | succ j ih =>
    intro k x s i h0 h1 hi hs h hk
    obtain ⟨k, rfl⟩ : ∃ n, k = n + 1 := ⟨k - 1, by omega⟩
    have hp := pow_pos j
    have he : x * 2 ^ (j + 1) = (2 * x) * 2 ^ j := by rw [Int.pow_succ, Int.mul_comm (2 ^ j) 2, ← Int.mul_assoc, Int.mul_comm x 2]
    rw [he] at h1 ⊢
    have hle : 2 * x ≤ 2 * x * 2 ^ j := by
      have := Int.mul_le_mul_of_nonneg_left (show (1 : Int) ≤ 2 ^ j by omega) (show 0 ≤ 2 * x by omega)
      omega
    rw [headroomref01_Pow.l0, if_pos (by omega), wrap_is (x := 2 * x) (by omega) (by omega), wrap_is (by omega) (by omega)]
    exact ih k (2 * x) s (i + 1) (by omega) h1 (by omega) hs (by omega) (by omega)

theorem pow_is (k : Nat) (s : Nat) (hs : s ≤ 62) (hk : s < k) : headroomref01_Pow.f k s = some (2 ^ s) := by
  have h := pow_le (s := s) (t := 62) hs
  have := pow_l0 s k 1 s 0 (by omega) (by omega) (by omega) (by omega) (by omega) hk
  rwa [Int.one_mul] at this

theorem odd_is (x : Int) : headroomref01_odd.f x = some (decide (x % 2 = 1)) := by
  unfold headroomref01_odd.f
  congr 1
  have h : (x.tmod 2 = 0) ↔ (x % 2 = 0) := by
    rw [← Int.dvd_iff_tmod_eq_zero, Int.dvd_iff_emod_eq_zero]
  by_cases h2 : x % 2 = 0
  · rw [h.2 h2]; simp; omega
  · have : x.tmod 2 ≠ 0 := fun e => h2 (h.1 e)
    have h3 : x % 2 = 1 := by omega
    simp [this, h3]

theorem refshift_is (k : Nat) (x : Int) (s : Nat) (m : Int) (h0 : -9223372036854775808 ≤ x) (h1 : x < 9223372036854775808) (hs : s ≤ 62) (hk : s + 1 < k) (hm : m = 0 ∨ m = 1 ∨ m = 2) :
    headroomref01_Shift.f k x s m = some (rsh x s m) := by
  obtain ⟨k, rfl⟩ : ∃ j, k = j + 1 := ⟨k - 1, by omega⟩
  unfold headroomref01_Shift.f
  rw [floor_is _ x s h0 h1 (by omega) (by omega)]
  simp only [Option.bind_some]
  by_cases hz : s = 0
  · subst hz
    rw [if_pos (by rfl), headroomref01_Shift.j0, if_pos rfl]
    simp [rsh]
  rw [if_neg (by omega), headroomref01_Shift.j0]
  have hp := pow_pos s
  have hd := Int.mul_ediv_add_emod x (2 ^ s)
  have he0 : (0 : Int) ≤ x % 2 ^ s := Int.emod_nonneg _ (by omega)
  have he1 : x % 2 ^ s < 2 ^ s := Int.emod_lt_of_pos _ hp
  have h62 := pow_le hs
  have hc : (2 : Int) ^ 62 = 4611686018427387904 := by decide
  have hw1 : wrap64 ((s : Int) - 1) = ((s - 1 : Nat) : Int) := by rw [wrap_is (by omega) (by omega)]; omega
  by_cases hm0 : m = 0
  · subst hm0
    rw [if_pos (by rfl)]
    simp [rsh, hz]
  have hmb : (m == 0) = false := by simp [hm0]
  rw [hmb, if_neg (by decide), pow_is k s hs (by omega), hw1, pow_is k (s - 1) (by omega) (by omega)]
  simp only [Option.bind_some]
  have hmul : x / 2 ^ s * 2 ^ s = x - x % 2 ^ s := by rw [Int.mul_comm]; omega
  have hq0 : x / 2 ^ s ≤ 4611686018427387904 ∧ -4611686018427387904 ≤ x / 2 ^ s := by
    have hh : (2 : Int) ≤ 2 ^ s := by
      have := pow_le (s := 1) (t := s) (by omega)
      simpa using this
    have hlt : x / 2 ^ s < 4611686018427387904 := Int.ediv_lt_of_lt_mul hp (by
      have := Int.mul_le_mul_of_nonneg_left hh (show (0 : Int) ≤ 4611686018427387904 by decide)
      omega)
    have hge : -4611686018427387904 ≤ x / 2 ^ s := Int.le_ediv_of_mul_le hp (by
      have := Int.mul_le_mul_of_nonneg_left hh (show (0 : Int) ≤ 4611686018427387904 by decide)
      omega)
    omega
  have hlow : -9223372036854775808 ≤ x - x % 2 ^ s := by
    have h63 : (2 : Int) ^ (63 - s) * 2 ^ s = 9223372036854775808 := by
      rw [← Int.pow_add, show 63 - s + s = 63 by omega]; decide
    have : -(2 : Int) ^ (63 - s) ≤ x / 2 ^ s := Int.le_ediv_of_mul_le hp (by rw [Int.neg_mul, h63]; exact h0)
    have h2 := Int.mul_le_mul_of_nonneg_right this (Int.le_of_lt hp)
    rw [Int.neg_mul, h63, hmul] at h2
    exact h2
  rw [hmul, wrap_is (x := x - x % 2 ^ s) (by omega) (by omega), show x - (x - x % 2 ^ s) = x % 2 ^ s by omega, wrap_is (x := x % 2 ^ s) (by omega) (by omega), wrap_is (x := x / 2 ^ s + 1) (by omega) (by omega), odd_is]
  simp only [Option.bind_some, decide_eq_true_eq]
  unfold rsh
  rw [if_neg hz, if_neg hm0]
  by_cases hm1 : m = 1
  · rw [if_pos hm1, if_pos hm1]
    split
    · rw [if_pos (by omega)]
    · split
      · rw [if_pos (by omega)]
      · rw [if_neg (by omega)]
  · rw [if_neg hm1, if_neg hm1]
    split
    · rw [if_pos (by left; omega)]
    · split
      · rename_i h5
        split
        · rename_i h6
          rw [if_pos (by right; exact ⟨h5, h6⟩)]
        · rename_i h6
          rw [if_neg (by rintro (h | ⟨_, h⟩); omega; exact h6 h)]
      · rename_i h4 h5
        rw [if_neg (by rintro (h | ⟨h, _⟩); omega; exact h5 h)]
end Go.Proofs.Ytmglkelmdcpinaa.G
/- The document's settings, ranges and pairs of kernel 2, as plain values; the same as the program's. Conditions: each theorem's own bounds; rounds enough. -/
namespace Go.Proofs.Ytmglkelmdcpinaa.G
open Go.RowKit Go.Proofs.YtmglkelmdcpinaaW.PrintWords Go.Proofs.YtmglkelmdcpinaaW.PrintLast Go.Proofs.YtmglkelmdcpinaaW.PrintMore Go.Proofs.Ytmglkelmdcpinaa.M
set_option linter.unusedVariables false
set_option linter.unusedSimpArgs false

theorem narrowB_iff (m : Int) (x : S43) : narrowB m x = decide (x.f0 ≤ m ∧ -m ≤ x.f0 ∧ x.f1 ≤ m ∧ -m ≤ x.f1) := by
  unfold narrowB mx mn
  rw [Bool.eq_iff_iff]
  simp only [Bool.and_eq_true, decide_eq_true_eq]
  split <;> split <;> omega
theorem within_is (m : Int) (x : S43) (h0 : 0 ≤ m) (h1 : m ≤ 4611686018427387904) : headroomref03_Within.f x.f0 x.f1 m = some (narrowB m x) := by
  rw [narrowB_iff]
  unfold headroomref03_Within.f
  have hw : wrap64 (-m) = -m := wrap64_id (by omega) (by omega)
  rw [hw]
  by_cases c1 : x.f0 ≤ m
  · rw [if_pos c1]
    by_cases c2 : x.f0 ≥ -m
    · rw [if_pos c2]
      by_cases c3 : x.f1 ≤ m
      · rw [if_pos c3]; congr 1; apply decide_eq_decide.2; omega
      · rw [if_neg c3]; congr 1; symm; apply decide_eq_false; omega
    · rw [if_neg c2]; congr 1; symm; apply decide_eq_false; omega
  · rw [if_neg c1]; congr 1; symm; apply decide_eq_false; omega
theorem rd43_get (l : List S43) (i : Nat) (h : i < l.length) : rd_T43 l (i : Int) = l[i] := by simp [rd_T43, List.getD_eq_getElem?_getD, h]
theorem step_is (i : Nat) (h : i < 9223372036854775807) : wrap64 ((i : Int) + 1) = ((i + 1 : Nat) : Int) := by unfold wrap64; omega
theorem pow31_is (k : Nat) (hk : 31 < k) : headroomref01_Pow.f k 31 = some 2147483648 := pow_is k 31 (by omega) hk
theorem narrow_run (l : List S43) (hl : l.length < 9223372036854775807) : ∀ (j k i : Nat), i + j = l.length → j + 40 < k → headroomref09_Narrow.l0 k l (l.length : Int) i = some ((l.drop i).all (narrowB 2147483648)) := by
  intro j
  induction j with
  | zero =>
    intro k i hi hk
    obtain ⟨k, rfl⟩ : ∃ n, k = n + 1 := ⟨k - 1, by omega⟩
    obtain rfl : i = l.length := by omega
    rw [headroomref09_Narrow.l0, if_neg (by omega)]
    simp
  | succ j ih =>
    intro k i hi hk
    obtain ⟨k, rfl⟩ : ∃ n, k = n + 1 := ⟨k - 1, by omega⟩
    have hlt : i < l.length := by omega
    rw [headroomref09_Narrow.l0, if_pos (by omega), if_pos (by omega), if_pos (by omega), pow31_is k (by omega)]
    simp only [Option.bind_some]
    rw [within_is _ _ (by decide) (by decide)]
    simp only [Option.bind_some]
    rw [rd43_get l i hlt, List.drop_eq_getElem_cons hlt, List.all_cons, step_is i (by omega), ih k (i + 1) (by omega) (by omega)]
    cases narrowB 2147483648 l[i] <;> simp
theorem narrow_is (k : Nat) (l : List S43) (hl : l.length < 9223372036854775807) (hk : l.length + 40 < k) : headroomref09_Narrow.f k l = some (l.all (narrowB 2147483648)) := by
  have := narrow_run l hl l.length k 0 (by omega) hk
  simpa [headroomref09_Narrow.f] using this
theorem pow_small (b : Nat) (h : b ≤ 29) : (0 : Int) ≤ 2 ^ b ∧ (2 : Int) ^ b ≤ 536870912 := by
  have h1 := M.pow_pos b
  have h2 : (2 : Int) ^ b ≤ 2 ^ 29 := M.pow_le h
  omega
theorem roots_run (b : Nat) (hb : b ≤ 29) (l : List S43) (hl : l.length < 9223372036854775807) : ∀ (j k i : Nat), i + j = l.length → j + 40 < k → headroomref10_Roots.l0 k b l (l.length : Int) i = some ((l.drop i).all (narrowB (2 ^ b))) := by
  intro j
  induction j with
  | zero =>
    intro k i hi hk
    obtain ⟨k, rfl⟩ : ∃ n, k = n + 1 := ⟨k - 1, by omega⟩
    obtain rfl : i = l.length := by omega
    rw [headroomref10_Roots.l0, if_neg (by omega)]
    simp
  | succ j ih =>
    intro k i hi hk
    obtain ⟨k, rfl⟩ : ∃ n, k = n + 1 := ⟨k - 1, by omega⟩
    have hlt : i < l.length := by omega
    have hp := pow_small b hb
    rw [headroomref10_Roots.l0, if_pos (by omega), if_pos (by omega), if_pos (by omega), pow_is k b (by omega) (by omega)]
    simp only [Option.bind_some]
    rw [within_is _ _ hp.1 (by omega)]
    simp only [Option.bind_some]
    rw [rd43_get l i hlt, List.drop_eq_getElem_cons hlt, List.all_cons, step_is i (by omega), ih k (i + 1) (by omega) (by omega)]
    cases narrowB (2 ^ b) l[i] <;> simp
theorem roots_is (k b : Nat) (hb : b ≤ 29) (l : List S43) (hl : l.length < 9223372036854775807) (hk : l.length + 40 < k) : headroomref10_Roots.f k l b = some (l.all (narrowB (2 ^ b))) := by
  have := roots_run b hb l hl l.length k 0 (by omega) hk
  simpa [headroomref10_Roots.f] using this
theorem any_far (l : List S43) : l.any farB = !(l.all (narrowB 2147483648)) := by
  induction l with
  | nil => rfl
  | cons x l ih => simp [List.any_cons, List.all_cons, ih, farB, Bool.not_and]
theorem any_great (b : Nat) (l : List S43) : l.any (greatB b) = !(l.all (narrowB (2 ^ b))) := by
  induction l with
  | nil => rfl
  | cons x l ih => simp [List.any_cons, List.all_cons, ih, greatB, Bool.not_and]
def setB (a3 a4 a5 : Int) : Bool := decide (0 ≤ a3 ∧ a3 ≤ 29 ∧ 0 ≤ a4 ∧ a4 ≤ 3 ∧ 0 ≤ a5 ∧ a5 ≤ 2)
theorem settings_is (a3 a4 a5 : Int) : two_settings.f a3 a4 a5 = some (setB a3 a4 a5) := by
  unfold two_settings.f setB
  by_cases hm : 0 ≤ a5 ∧ a5 ≤ 2
  · rw [shift_some 0 0 a5 (by decide) (by decide) (by decide) (by decide) (by omega)]
    simp only [Option.bind_some]
    by_cases c1 : a3 ≥ 0
    · rw [if_pos c1]
      by_cases c2 : a3 ≤ 29
      · rw [if_pos c2]
        by_cases c3 : a4 ≥ 0
        · rw [if_pos c3]
          by_cases c4 : a4 ≤ 3
          · rw [if_pos c4]; congr 1; symm; apply decide_eq_true; omega
          · rw [if_neg c4]; congr 1; symm; apply decide_eq_false; omega
        · rw [if_neg c3]; congr 1; symm; apply decide_eq_false; omega
      · rw [if_neg c2]; congr 1; symm; apply decide_eq_false; omega
    · rw [if_neg c1]; congr 1; symm; apply decide_eq_false; omega
  · rw [shift_none 0 0 a5 (by omega)]
    simp only [Option.bind_some]
    have e : decide (0 ≤ a3 ∧ a3 ≤ 29 ∧ 0 ≤ a4 ∧ a4 ≤ 3 ∧ 0 ≤ a5 ∧ a5 ≤ 2) = false := by apply decide_eq_false; omega
    rw [e]
    repeat' split
    all_goals simp
theorem refset_is (a3 a4 a5 : Int) : headroomref10_Settings.f a3 a4 a5 = some (setB a3 a4 a5) := by
  unfold headroomref10_Settings.f setB
  by_cases c1 : a3 ≥ 0
  · rw [if_pos c1]
    by_cases c2 : a3 ≤ 29
    · rw [if_pos c2]
      by_cases c3 : a4 ≥ 0
      · rw [if_pos c3]
        by_cases c4 : a4 ≤ 3
        · rw [if_pos c4]
          by_cases c5 : a5 ≥ 0
          · rw [if_pos c5]; congr 1; apply decide_eq_decide.2; omega
          · rw [if_neg c5]; congr 1; symm; apply decide_eq_false; omega
        · rw [if_neg c4]; congr 1; symm; apply decide_eq_false; omega
      · rw [if_neg c3]; congr 1; symm; apply decide_eq_false; omega
    · rw [if_neg c2]; congr 1; symm; apply decide_eq_false; omega
  · rw [if_neg c1]; congr 1; symm; apply decide_eq_false; omega
/-- A length's log by the document. -/
def sizeB (n : Nat) : Bool := decide (n = 4 ∨ n = 8 ∨ n = 16 ∨ n = 32 ∨ n = 64)
theorem reflog_is (k : Nat) (hk : 20 ≤ k) (n : Nat) : headroomref08_Log.f k (n : Int) = some (if n = 4 then 2 else if n = 8 then 3 else if n = 16 then 4 else if n = 32 then 5 else if n = 64 then 6 else -1) := by
  obtain ⟨k, rfl⟩ : ∃ m, k = m + 7 := ⟨k - 7, by omega⟩
  have p2 : ∀ m, 8 ≤ m → headroomref01_Pow.f m 2 = some 4 := fun m hm => pow_is m 2 (by omega) (by omega)
  have p3 : ∀ m, 8 ≤ m → headroomref01_Pow.f m 3 = some 8 := fun m hm => pow_is m 3 (by omega) (by omega)
  have p4 : ∀ m, 8 ≤ m → headroomref01_Pow.f m 4 = some 16 := fun m hm => pow_is m 4 (by omega) (by omega)
  have p5 : ∀ m, 8 ≤ m → headroomref01_Pow.f m 5 = some 32 := fun m hm => pow_is m 5 (by omega) (by omega)
  have p6 : ∀ m, 8 ≤ m → headroomref01_Pow.f m 6 = some 64 := fun m hm => pow_is m 6 (by omega) (by omega)
  have w2 : wrap64 (2 + 1) = 3 := by decide +kernel
  have w3 : wrap64 (3 + 1) = 4 := by decide +kernel
  have w4 : wrap64 (4 + 1) = 5 := by decide +kernel
  have w5 : wrap64 (5 + 1) = 6 := by decide +kernel
  have w6 : wrap64 (6 + 1) = 7 := by decide +kernel
  have l7 : headroomref08_Log.l0 (k + 2) (n : Int) 7 = some (-1) := by rw [headroomref08_Log.l0, if_neg (by decide)]
  have l6 : headroomref08_Log.l0 (k + 3) (n : Int) 6 = some (if n = 64 then 6 else -1) := by
    rw [headroomref08_Log.l0, if_pos (by decide), p6 _ (by omega)]
    simp only [Option.bind_some, w6, l7]
    by_cases h : n = 64
    · rw [if_pos (by omega), if_pos h]
    · rw [if_neg (by omega), if_neg h]
  have l5 : headroomref08_Log.l0 (k + 4) (n : Int) 5 = some (if n = 32 then 5 else if n = 64 then 6 else -1) := by
    rw [headroomref08_Log.l0, if_pos (by decide), p5 _ (by omega)]
    simp only [Option.bind_some, w5, l6]
    by_cases h : n = 32
    · rw [if_pos (by omega), if_pos h]
    · rw [if_neg (by omega), if_neg h]
  have l4 : headroomref08_Log.l0 (k + 5) (n : Int) 4 = some (if n = 16 then 4 else if n = 32 then 5 else if n = 64 then 6 else -1) := by
    rw [headroomref08_Log.l0, if_pos (by decide), p4 _ (by omega)]
    simp only [Option.bind_some, w4, l5]
    by_cases h : n = 16
    · rw [if_pos (by omega), if_pos h]
    · rw [if_neg (by omega), if_neg h]
  have l3 : headroomref08_Log.l0 (k + 6) (n : Int) 3 = some (if n = 8 then 3 else if n = 16 then 4 else if n = 32 then 5 else if n = 64 then 6 else -1) := by
    rw [headroomref08_Log.l0, if_pos (by decide), p3 _ (by omega)]
    simp only [Option.bind_some, w3, l4]
    by_cases h : n = 8
    · rw [if_pos (by omega), if_pos h]
    · rw [if_neg (by omega), if_neg h]
  show headroomref08_Log.l0 (k + 7) (n : Int) 2 = _
  rw [headroomref08_Log.l0, if_pos (by decide), p2 _ (by omega)]
  simp only [Option.bind_some, w2, l3]
  by_cases h : n = 4
  · rw [if_pos (by omega), if_pos h]
  · rw [if_neg (by omega), if_neg h]
theorem reflog_neg (k : Nat) (hk : 20 ≤ k) (n : Nat) : ∃ r, headroomref08_Log.f k (n : Int) = some r ∧ (r < 0 ↔ sizeB n = false) := by
  refine ⟨_, reflog_is k hk n, ?_⟩
  unfold sizeB
  rw [decide_eq_false_iff_not]
  repeat' split
  all_goals omega
/-- May a half be, of a length? -/
def partB (n h : Int) : Bool := decide (1 ≤ h ∧ h < n ∧ bits BinOp.and IntKind.i64 h (h - 1) = 0)
theorem half_all10 : ([4, 8, 16, 32, 64].all fun (n : Int) => (List.range 64).all fun (h : Nat) => if 1 ≤ h ∧ (h : Int) < n then decide (headroomref10_Half.f 10 (h : Int) n = some (decide (bits BinOp.and IntKind.i64 (h : Int) ((h : Int) - 1) = 0))) else true) = true := by decide +kernel
theorem half_out (h n : Int) (hn : n = 4 ∨ n = 8 ∨ n = 16 ∨ n = 32 ∨ n = 64) (ho : ¬ (1 ≤ h ∧ h < n)) : headroomref10_Half.f 10 h n = some false := by
  have w1 : wrap64 2 = 2 := by decide +kernel
  have w2 : wrap64 4 = 4 := by decide +kernel
  have w4 : wrap64 8 = 8 := by decide +kernel
  have w8 : wrap64 16 = 16 := by decide +kernel
  have w16 : wrap64 32 = 32 := by decide +kernel
  have w32 : wrap64 64 = 64 := by decide +kernel
  rcases hn with rfl | rfl | rfl | rfl | rfl
  · have h1 : ¬ h = 1 := by omega
    have h2 : ¬ h = 2 := by omega
    simp [headroomref10_Half.f, headroomref10_Half.l0, w1, w2, w4, w8, w16, w32, h1, h2]
  · have h1 : ¬ h = 1 := by omega
    have h2 : ¬ h = 2 := by omega
    have h4 : ¬ h = 4 := by omega
    simp [headroomref10_Half.f, headroomref10_Half.l0, w1, w2, w4, w8, w16, w32, h1, h2, h4]
  · have h1 : ¬ h = 1 := by omega
    have h2 : ¬ h = 2 := by omega
    have h4 : ¬ h = 4 := by omega
    have h8 : ¬ h = 8 := by omega
    simp [headroomref10_Half.f, headroomref10_Half.l0, w1, w2, w4, w8, w16, w32, h1, h2, h4, h8]
  · have h1 : ¬ h = 1 := by omega
    have h2 : ¬ h = 2 := by omega
    have h4 : ¬ h = 4 := by omega
    have h8 : ¬ h = 8 := by omega
    have h16 : ¬ h = 16 := by omega
    simp [headroomref10_Half.f, headroomref10_Half.l0, w1, w2, w4, w8, w16, w32, h1, h2, h4, h8, h16]
  · have h1 : ¬ h = 1 := by omega
    have h2 : ¬ h = 2 := by omega
    have h4 : ¬ h = 4 := by omega
    have h8 : ¬ h = 8 := by omega
    have h16 : ¬ h = 16 := by omega
    have h32 : ¬ h = 32 := by omega
    simp [headroomref10_Half.f, headroomref10_Half.l0, w1, w2, w4, w8, w16, w32, h1, h2, h4, h8, h16, h32]
theorem half_is2 (k : Nat) (hk : 10 ≤ k) (h n : Int) (hn : n = 4 ∨ n = 8 ∨ n = 16 ∨ n = 32 ∨ n = 64) : headroomref10_Half.f k h n = some (partB n h) := by
  refine at_rounds (fun k => headroomref10_Half.mono h n k) hk ?_
  unfold partB
  by_cases hi : 1 ≤ h ∧ h < n
  · have t := half_all10
    rw [List.all_eq_true] at t
    have t1 := t n (by rcases hn with rfl | rfl | rfl | rfl | rfl <;> simp)
    rw [List.all_eq_true] at t1
    have t2 := t1 h.toNat (List.mem_range.2 (by omega))
    have e : ((h.toNat : Nat) : Int) = h := by omega
    rw [e, if_pos ⟨by omega, hi.2⟩, decide_eq_true_eq] at t2
    rw [t2]
    congr 1
    apply decide_eq_decide.2
    exact ⟨fun x => ⟨hi.1, hi.2, x⟩, fun x => x.2.2⟩
  · rw [half_out h n hn hi]
    congr 1
    symm
    apply decide_eq_false
    exact fun x => hi ⟨x.1, x.2.1⟩
theorem same_is (k : Nat) (l : List S43) (hl : l.length < 9223372036854775807) (hk : l.length + 1 < k) : headroomref03_Same.f k l l = some true := by
  have run : ∀ (j k i : Nat), i + j = l.length → j < k → headroomref03_Same.l0 k l l (l.length : Int) i = some true := by
    intro j
    induction j with
    | zero =>
      intro k i hi hk
      obtain ⟨k, rfl⟩ : ∃ n, k = n + 1 := ⟨k - 1, by omega⟩
      rw [headroomref03_Same.l0, if_neg (by omega)]
    | succ j ih =>
      intro k i hi hk
      obtain ⟨k, rfl⟩ : ∃ n, k = n + 1 := ⟨k - 1, by omega⟩
      rw [headroomref03_Same.l0, if_pos (by omega), if_pos (by omega), if_pos (by omega), if_pos (by omega), step_is i (by omega), ih k (i + 1) (by omega) (by omega)]
      simp
  unfold headroomref03_Same.f
  rw [if_pos rfl]
  exact run l.length k 0 (by omega) (by omega)
/-- Why a pass may not be. -/
theorem may_is2 (k : Nat) (x w : List S43) (part : Bool) (a3 a4 a5 : Int) (hx : x.length < 1000) (hw : w.length < 1000) (hk : 1100 ≤ k) :
    headroomref10_May.f k x w part a3 a4 a5 = some (if sizeB x.length = false then 3 else if w.length ≠ x.length then 5 else if part = false ∨ setB a3 a4 a5 = false then 1 else if x.any farB = true ∨ w.any (greatB a3.toNat) = true then 2 else 0) := by
  obtain ⟨r, hr, hneg⟩ := reflog_neg k (by omega) x.length
  unfold headroomref10_May.f
  rw [hr]
  simp only [Option.bind_some]
  by_cases h0 : sizeB x.length = false
  · rw [if_pos (hneg.2 h0), if_pos h0]
  rw [if_neg (fun h => h0 (hneg.1 h)), if_neg h0]
  by_cases h1 : w.length = x.length
  · rw [if_pos (by omega), if_neg (not_not_intro h1)]
    obtain ⟨k, rfl⟩ : ∃ m, k = m + 1 := ⟨k - 1, by omega⟩
    have j0 : ∀ c, headroomref10_May.j0 (k + 1) x w a3 c = if c = true then some 1 else (headroomref09_Narrow.f k x).bind fun t103 => (if t103 = true then ((headroomref10_Roots.f k w a3).bind fun t104 => (if t104 = true then (some 0) else (some 2))) else (some 2)) := by
      intro c
      simp only [headroomref10_May.j0]
    cases part with
    | false =>
      rw [if_neg (by simp), j0, if_pos rfl, if_pos (.inl rfl)]
    | true =>
      rw [if_pos rfl, refset_is]
      simp only [Option.bind_some]
      rw [j0]
      cases hs : setB a3 a4 a5 with
      | false => simp
      | true =>
        have hs' := hs
        unfold setB at hs'
        rw [decide_eq_true_eq] at hs'
        obtain ⟨b, rfl⟩ : ∃ b : Nat, a3 = b := ⟨a3.toNat, by omega⟩
        rw [if_neg (by simp), if_neg (by simp), narrow_is k x (by omega) (by omega), roots_is k b (by omega) w (by omega) (by omega), any_far, Int.toNat_natCast, any_great]
        simp only [Option.bind_some]
        cases x.all (narrowB 2147483648) <;> cases w.all (narrowB (2 ^ b)) <;> simp
  · rw [if_neg (by omega), if_pos h1]
end Go.Proofs.Ytmglkelmdcpinaa.G
/- The document's pass of kernel 2 is the program's, place by place. Conditions: lengths and halves that may be, settings that may be, numbers in their ranges; rounds enough. -/
namespace Go.Proofs.Ytmglkelmdcpinaa.G
open Go.RowKit Go.Proofs.YtmglkelmdcpinaaW.PrintWords Go.Proofs.YtmglkelmdcpinaaW.PrintLast Go.Proofs.YtmglkelmdcpinaaW.PrintMore Go.Proofs.Ytmglkelmdcpinaa.M
set_option linter.unusedVariables false
set_option linter.unusedSimpArgs false

theorem wrap_range2 (x : Int) : -9223372036854775808 ≤ wrap64 x ∧ wrap64 x < 9223372036854775808 := by unfold wrap64; omega
theorem shl_is (x : Int) (b : Nat) (hb : b ≤ 62) : shl .i64 x (b : Int) = wrap64 (x * 2 ^ b) := by
  unfold shl
  rw [Int.toNat_natCast, show min b IntKind.i64.bits = b by show min b 64 = b; omega]
  rw [IntKind.wrap_i64]
  unfold wrap64
  rfl
theorem within_narrow (m : Int) (x : S43) : within m [⟨x.f0, x.f1⟩] = narrowB m x := by simp [within, narrowB]
theorem narrowB_mono {m m' : Int} (h : m ≤ m') {x : S43} (hx : narrowB m x = true) : narrowB m' x = true := by
  rw [narrowB_iff, decide_eq_true_eq] at hx ⊢
  omega
/-- A product's parts. -/
def timesV (b r : S43) : Int × Int := (wrap64 (wrap64 (b.f0 * r.f0) - wrap64 (b.f1 * r.f1)), wrap64 (wrap64 (b.f0 * r.f1) + wrap64 (b.f1 * r.f0)))
def upV (a b r : S43) (n s : Nat) (m : Int) : S43 := ⟨rsh (wrap64 (wrap64 (a.f0 * 2 ^ n) + (timesV b r).1)) (n + s) m, rsh (wrap64 (wrap64 (a.f1 * 2 ^ n) + (timesV b r).2)) (n + s) m⟩
def downV (a b r : S43) (n s : Nat) (m : Int) : S43 := ⟨rsh (wrap64 (wrap64 (a.f0 * 2 ^ n) - (timesV b r).1)) (n + s) m, rsh (wrap64 (wrap64 (a.f1 * 2 ^ n) - (timesV b r).2)) (n + s) m⟩
theorem times_is (b r : S43) (hb : narrowB 2147483648 b = true) (hr : narrowB 1073741824 r = true) : cx_Times.f b.f0 b.f1 r.f0 r.f1 = some ((timesV b r).1, (timesV b r).2, 0) := by
  unfold cx_Times.f cx_Times.is
  rw [within_narrow, within_narrow, hb, hr]
  rfl
theorem cxshift_is (x y : Int) (n : Nat) (m : Int) (hx0 : -9223372036854775808 ≤ x) (hx1 : x < 9223372036854775808) (hy0 : -9223372036854775808 ≤ y) (hy1 : y < 9223372036854775808) (hn : n ≤ 62) (hm : m = 0 ∨ m = 1 ∨ m = 2) :
    cx_Shift.f x y (n : Int) m = some (rsh x n m, rsh y n m, 0) := by
  unfold cx_Shift.f
  rw [shift_some x n m hx0 hx1 (by omega) (by omega) hm, shift_some y n m hy0 hy1 (by omega) (by omega) hm]
  simp
theorem refcxshift_is (k : Nat) (x y : Int) (n : Nat) (m : Int) (hx0 : -9223372036854775808 ≤ x) (hx1 : x < 9223372036854775808) (hy0 : -9223372036854775808 ≤ y) (hy1 : y < 9223372036854775808) (hn : n ≤ 62) (hk : 70 ≤ k) (hm : m = 0 ∨ m = 1 ∨ m = 2) :
    headroomref03_Shift.f k x y (n : Int) m = some (rsh x n m, rsh y n m) := by
  unfold headroomref03_Shift.f
  rw [refshift_is k x n m hx0 hx1 hn (by omega) hm, refshift_is k y n m hy0 hy1 hn (by omega) hm]
  simp
theorem pair_of {a b r u d : S43} {n s m : Int} (h : two_pair.f a.f0 a.f1 b.f0 b.f1 r.f0 r.f1 n s m = some (u.f0, u.f1, d.f0, d.f1)) : pairT a b r n s m = (u, d) := by
  unfold pairT
  rw [h]
theorem pair_is (a b r : S43) (n s : Nat) (m : Int) (hn : n ≤ 29) (hs : s ≤ 3) (hm : m = 0 ∨ m = 1 ∨ m = 2) (hb : narrowB 2147483648 b = true) (hr : narrowB 1073741824 r = true) :
    pairT a b r n s m = (upV a b r n s m, downV a b r n s m) := by
  have ht := times_is b r hb hr
  have hw : wrap64 ((n : Int) + (s : Int)) = ((n + s : Nat) : Int) := by unfold wrap64; omega
  have h1 := shl_is a.f0 n (by omega)
  have h2 := shl_is a.f1 n (by omega)
  have hu := cxshift_is (wrap64 (wrap64 (a.f0 * 2 ^ n) + (timesV b r).1)) (wrap64 (wrap64 (a.f1 * 2 ^ n) + (timesV b r).2)) (n + s) m (wrap_range2 _).1 (wrap_range2 _).2 (wrap_range2 _).1 (wrap_range2 _).2 (by omega) hm
  have hd := cxshift_is (wrap64 (wrap64 (a.f0 * 2 ^ n) - (timesV b r).1)) (wrap64 (wrap64 (a.f1 * 2 ^ n) - (timesV b r).2)) (n + s) m (wrap_range2 _).1 (wrap_range2 _).2 (wrap_range2 _).1 (wrap_range2 _).2 (by omega) hm
  have h0 : (0 : Int) ≤ (n : Int) := by omega
  clear hn hs hm hb hr
  apply pair_of
  unfold upV downV two_pair.f
  generalize timesV b r = tv at ht hu hd ⊢
  obtain ⟨t1, t2⟩ := tv
  rw [ht]
  rw [Option.bind_some, if_pos h0, h1, h2, hw]
  dsimp only at hu hd ⊢
  generalize wrap64 (a.f0 * 2 ^ n) = p at hu hd ⊢
  generalize wrap64 (a.f1 * 2 ^ n) = q at hu hd ⊢
  rw [hu, Option.bind_some, hd, Option.bind_some]
theorem refscale_is (k : Nat) (a : S43) (n : Nat) (hn : n ≤ 29) (hk : 70 ≤ k) : headroomref10_Scale.f k a.f0 a.f1 n = some (wrap64 (a.f0 * 2 ^ n), wrap64 (a.f1 * 2 ^ n)) := by
  unfold headroomref10_Scale.f
  rw [pow_is k n (by omega) (by omega)]
  rfl
theorem refup_is (k : Nat) (a b r : S43) (n s : Nat) (m : Int) (hn : n ≤ 29) (hs : s ≤ 3) (hk : 70 ≤ k) (hm : m = 0 ∨ m = 1 ∨ m = 2) : headroomref10_Up.f k a.f0 a.f1 b.f0 b.f1 r.f0 r.f1 n s m = some ((upV a b r n s m).f0, (upV a b r n s m).f1) := by
  unfold headroomref10_Up.f headroomref03_Times.f headroomref03_Sum.f
  rw [refscale_is k a n hn hk]
  simp only [Option.bind_some]
  rw [show wrap64 ((n : Int) + (s : Int)) = ((n + s : Nat) : Int) by unfold wrap64; omega]
  rw [refcxshift_is k _ _ (n + s) m (wrap_range2 _).1 (wrap_range2 _).2 (wrap_range2 _).1 (wrap_range2 _).2 (by omega) hk hm]
  rfl
theorem refdown_is (k : Nat) (a b r : S43) (n s : Nat) (m : Int) (hn : n ≤ 29) (hs : s ≤ 3) (hk : 70 ≤ k) (hm : m = 0 ∨ m = 1 ∨ m = 2) : headroomref10_Down.f k a.f0 a.f1 b.f0 b.f1 r.f0 r.f1 n s m = some ((downV a b r n s m).f0, (downV a b r n s m).f1) := by
  unfold headroomref10_Down.f headroomref03_Times.f headroomref03_Less.f
  rw [refscale_is k a n hn hk]
  simp only [Option.bind_some]
  rw [show wrap64 ((n : Int) + (s : Int)) = ((n + s : Nat) : Int) by unfold wrap64; omega]
  rw [refcxshift_is k _ _ (n + s) m (wrap_range2 _).1 (wrap_range2 _).2 (wrap_range2 _).1 (wrap_range2 _).2 (by omega) hk hm]
  rfl
theorem conj_is (r : S43) (h : narrowB 536870912 r = true) : conjS r = ⟨r.f0, wrap64 (-r.f1)⟩ := by
  unfold conjS cx_Conj.f
  rw [within_narrow, narrowB_mono (by decide) h]
  rfl
theorem root_narrow (w : List S43) (k : Int) (inv : Bool) (n : Nat) (hn : n ≤ 29) (hw : w.all (narrowB (2 ^ n)) = true) : narrowB 536870912 (rootOf w k inv) = true := by
  have hp := pow_small n hn
  have hz : narrowB 536870912 (rd_T43 w k) = true := by
    unfold rd_T43
    rw [List.getD_eq_getElem?_getD]
    cases hq : w[k.toNat]? with
    | none => decide
    | some x =>
      rw [List.all_eq_true] at hw
      exact narrowB_mono hp.2 (hw x (List.mem_of_getElem? hq))
  unfold rootOf
  cases inv with
  | false => exact hz
  | true =>
    rw [if_pos rfl, conj_is _ hz]
    rw [narrowB_iff, decide_eq_true_eq] at hz ⊢
    have : wrap64 (-(rd_T43 w k).f1) = -(rd_T43 w k).f1 := wrap64_id (by omega) (by omega)
    dsimp only
    rw [this]
    omega
theorem refroot2_is (w : List S43) (k : Int) (inv : Bool) (n : Nat) (hn : n ≤ 29) (hw : w.all (narrowB (2 ^ n)) = true) (h0 : 0 ≤ k) (h1 : k < w.length) : headroomref10_Root.f w k inv = some ((rootOf w k inv).f0, (rootOf w k inv).f1) := by
  unfold headroomref10_Root.f rootOf
  cases inv with
  | false => simp [h0, h1]
  | true =>
    rw [if_pos rfl, if_pos h0, if_pos h1, if_pos rfl, conj_is _ (by have := root_narrow w k false n hn hw; simpa [rootOf] using this)]
    rfl

/-- Which pair's which number a place holds. -/
structure Tag where
  down : Bool
  i : Int
  j : Int
  k : Int
  deriving DecidableEq
def symStep (h : Int) (out : List (Option Tag)) (p : Int × Int) : List (Option Tag) := (out.set p.1.toNat (some ⟨false, p.1, p.1 + h, p.2⟩)).set (p.1 + h).toNat (some ⟨true, p.1, p.1 + h, p.2⟩)
def symOut (n : Nat) (h : Int) : List (Option Tag) := (pairsList n h).foldl (symStep h) (List.replicate n none)
def tagAt (n h i : Int) : Tag := if i % (2 * h) < h then ⟨false, i, i + h, i % (2 * h) * (n / (2 * h))⟩ else ⟨true, i - h, i, (i % (2 * h) - h) * (n / (2 * h))⟩
def tagOk (n h : Int) (t : Tag) : Bool := decide (0 ≤ t.i ∧ t.i < n ∧ 0 ≤ t.j ∧ t.j < n ∧ 0 ≤ t.k ∧ t.k < n)
theorem sym_all : ([4, 8, 16, 32, 64].all fun (n : Nat) => [1, 2, 4, 8, 16, 32].all fun (h : Nat) => if h < n then decide (symOut n h = (List.range n).map fun (i : Nat) => some (tagAt n h i)) && (List.range n).all fun (i : Nat) => tagOk n h (tagAt n h i) else true) = true := by decide +kernel
theorem half_six (n h : Int) (hn : n = 4 ∨ n = 8 ∨ n = 16 ∨ n = 32 ∨ n = 64) (hp : partB n h = true) : ∃ m : Nat, h = m ∧ (m = 1 ∨ m = 2 ∨ m = 4 ∨ m = 8 ∨ m = 16 ∨ m = 32) ∧ (m : Int) < n := by
  unfold partB at hp
  rw [decide_eq_true_eq] at hp
  obtain ⟨h1, h2, h3⟩ := hp
  have := half_all
  rw [List.all_eq_true] at this
  have t := this h.toNat (List.mem_range.2 (by omega))
  rw [show ((h.toNat : Nat) : Int) = h by omega, if_pos ⟨by omega, h3⟩] at t
  simp only [decide_eq_true_eq, List.mem_cons, List.not_mem_nil, or_false] at t
  exact ⟨h.toNat, by omega, by omega, by omega⟩
theorem sym_is (n m : Nat) (hn : n = 4 ∨ n = 8 ∨ n = 16 ∨ n = 32 ∨ n = 64) (hm : m = 1 ∨ m = 2 ∨ m = 4 ∨ m = 8 ∨ m = 16 ∨ m = 32) (hlt : m < n) :
    symOut n m = ((List.range n).map fun (i : Nat) => some (tagAt n m i)) ∧ ∀ i, i < n → tagOk n m (tagAt n m (i : Nat)) = true := by
  have t := sym_all
  rw [List.all_eq_true] at t
  have t1 := t n (by rcases hn with rfl | rfl | rfl | rfl | rfl <;> simp)
  rw [List.all_eq_true] at t1
  have t2 := t1 m (by rcases hm with rfl | rfl | rfl | rfl | rfl | rfl <;> simp)
  rw [if_pos hlt, Bool.and_eq_true, decide_eq_true_eq, List.all_eq_true] at t2
  exact ⟨t2.1, fun i hi => t2.2 i (List.mem_range.2 hi)⟩
/-- What a place holds. -/
def tagV (x w : List S43) (n s : Nat) (m : Int) (inv : Bool) (t : Tag) : S43 := if t.down = true then downV (rd_T43 x t.i) (rd_T43 x t.j) (rootOf w t.k inv) n s m else upV (rd_T43 x t.i) (rd_T43 x t.j) (rootOf w t.k inv) n s m
def Agrees (x w : List S43) (n s : Nat) (m : Int) (inv : Bool) (out : List S43) (sym : List (Option Tag)) : Prop :=
  out.length = sym.length ∧ ∀ (i : Nat) t, sym[i]? = some (some t) → out[i]? = some (tagV x w n s m inv t)
theorem rd_narrow (x : List S43) (i : Int) (hx : x.all (narrowB 2147483648) = true) : narrowB 2147483648 (rd_T43 x i) = true := by
  unfold rd_T43
  rw [List.getD_eq_getElem?_getD]
  cases hq : x[i.toNat]? with
  | none => decide
  | some y =>
    rw [List.all_eq_true] at hx
    exact hx y (List.mem_of_getElem? hq)
theorem agrees_step (x w : List S43) (n s : Nat) (m : Int) (inv : Bool) (h : Int) (hn : n ≤ 29) (hs : s ≤ 3) (hm : m = 0 ∨ m = 1 ∨ m = 2) (hx : x.all (narrowB 2147483648) = true) (hw : w.all (narrowB (2 ^ n)) = true)
    (out : List S43) (sym : List (Option Tag)) (p : Int × Int) (ha : Agrees x w n s m inv out sym) : Agrees x w n s m inv (two_Pass.step x w h n s m inv out p) (symStep h sym p) := by
  refine ⟨by simp [two_Pass.step, symStep, ha.1], fun i t ht => ?_⟩
  have hpair := pair_is (rd_T43 x p.1) (rd_T43 x (p.1 + h)) (rootOf w p.2 inv) n s m hn hs hm (rd_narrow x _ hx) (narrowB_mono (by decide) (root_narrow w p.2 inv n hn hw))
  unfold symStep at ht
  unfold two_Pass.step
  rw [hpair]
  by_cases e1 : (p.1 + h).toNat = i
  · by_cases hlt : i < sym.length
    · rw [e1, List.getElem?_set_self (by simpa using hlt)] at ht
      cases ht
      rw [e1, List.getElem?_set_self (by simpa [ha.1] using hlt)]
      rfl
    · rw [List.getElem?_eq_none (by simp; omega)] at ht
      cases ht
  · rw [List.getElem?_set_ne e1] at ht ⊢
    by_cases e2 : p.1.toNat = i
    · by_cases hlt : i < sym.length
      · rw [e2, List.getElem?_set_self hlt] at ht
        cases ht
        rw [e2, List.getElem?_set_self (by rw [ha.1]; exact hlt)]
        rfl
      · rw [List.getElem?_eq_none (by simp; omega)] at ht
        cases ht
    · rw [List.getElem?_set_ne e2] at ht ⊢
      exact ha.2 i t ht
theorem agrees_fold (x w : List S43) (n s : Nat) (m : Int) (inv : Bool) (h : Int) (hn : n ≤ 29) (hs : s ≤ 3) (hm : m = 0 ∨ m = 1 ∨ m = 2) (hx : x.all (narrowB 2147483648) = true) (hw : w.all (narrowB (2 ^ n)) = true) (ps : List (Int × Int)) :
    ∀ (out : List S43) (sym : List (Option Tag)), Agrees x w n s m inv out sym → Agrees x w n s m inv (ps.foldl (two_Pass.step x w h n s m inv) out) (ps.foldl (symStep h) sym) := by
  induction ps with
  | nil => intro out sym ha; exact ha
  | cons p ps ih => intro out sym ha; exact ih _ _ (agrees_step x w n s m inv h hn hs hm hx hw out sym p ha)
/-- The program's pass, place by place. -/
theorem out_is (x w : List S43) (h : Nat) (n s : Nat) (m : Int) (inv : Bool) (hl : x.length = 4 ∨ x.length = 8 ∨ x.length = 16 ∨ x.length = 32 ∨ x.length = 64) (hh : h = 1 ∨ h = 2 ∨ h = 4 ∨ h = 8 ∨ h = 16 ∨ h = 32) (hlt : h < x.length)
    (hn : n ≤ 29) (hs : s ≤ 3) (hm : m = 0 ∨ m = 1 ∨ m = 2) (hx : x.all (narrowB 2147483648) = true) (hw : w.all (narrowB (2 ^ n)) = true) :
    two_Pass.out x w h n s m inv = (List.range x.length).map fun (i : Nat) => tagV x w n s m inv (tagAt x.length h i) := by
  have ha : Agrees x w n s m inv x (List.replicate x.length none) := ⟨by simp, fun i t ht => by
    rw [List.getElem?_replicate] at ht
    split at ht <;> cases ht⟩
  have hf := agrees_fold x w n s m inv h hn hs hm hx hw (pairsList x.length h) x _ ha
  obtain ⟨hsym, _⟩ := sym_is x.length h hl hh hlt
  change Agrees x w n s m inv (two_Pass.out x w h n s m inv) (symOut x.length h) at hf
  rw [hsym] at hf
  apply List.ext_getElem?
  intro i
  by_cases hi : i < x.length
  · rw [hf.2 i (tagAt x.length h i) (by simp [hi])]
    simp [hi]
  · rw [List.getElem?_eq_none (by rw [hf.1]; simp; omega), List.getElem?_eq_none (by simp; omega)]
theorem append_map_range {α : Type} (f : Nat → α) (i : Nat) : (List.range i).map f ++ [f i] = (List.range (i + 1)).map f := by rw [List.range_succ]; simp
set_option maxHeartbeats 1000000 in
/-- The document's pass, place by place. -/
theorem refpass_run (x w : List S43) (h : Nat) (n s : Nat) (m : Int) (inv : Bool) (hl : x.length = 4 ∨ x.length = 8 ∨ x.length = 16 ∨ x.length = 32 ∨ x.length = 64) (hwl : w.length = x.length) (hh : h = 1 ∨ h = 2 ∨ h = 4 ∨ h = 8 ∨ h = 16 ∨ h = 32) (hlt : h < x.length)
    (hn : n ≤ 29) (hs : s ≤ 3) (hm : m = 0 ∨ m = 1 ∨ m = 2) (hw : w.all (narrowB (2 ^ n)) = true) : ∀ (j k i : Nat), i + j = x.length → j + 100 < k →
    headroomref10_Pass.l0 k x w h n s m inv (x.length : Int) ((List.range i).map fun (i : Nat) => tagV x w n s m inv (tagAt x.length h i)) i = some ((List.range x.length).map fun (i : Nat) => tagV x w n s m inv (tagAt x.length h i)) := by
  intro j
  induction j with
  | zero =>
    intro k i hi hk
    obtain ⟨k, rfl⟩ : ∃ n, k = n + 1 := ⟨k - 1, by omega⟩
    obtain rfl : i = x.length := by omega
    rw [headroomref10_Pass.l0, if_neg (by omega)]
  | succ j ih =>
    intro k i hi hk
    obtain ⟨k, rfl⟩ : ∃ n, k = n + 1 := ⟨k - 1, by omega⟩
    have hilt : i < x.length := by omega
    have hok := (sym_is x.length h hl hh hlt).2 i hilt
    have w2 : Aside0 (wrap64 (2 * (h : Int)) = 2 * (h : Int)) := ⟨wrap64_id (by omega) (by omega)⟩
    have wt : Aside0 (Int.tmod (i : Int) (2 * (h : Int)) = (i : Int) % (2 * (h : Int))) := ⟨Int.tmod_eq_emod_of_nonneg (by omega)⟩
    have hd1 : Aside0 (Int.tdiv (x.length : Int) (2 * (h : Int)) = (x.length : Int) / (2 * (h : Int))) := ⟨Int.tdiv_eq_ediv_of_nonneg (by omega)⟩
    have hd0 : 0 ≤ (x.length : Int) / (2 * (h : Int)) := Int.ediv_nonneg (by omega) (by omega)
    have hd2 : (x.length : Int) / (2 * (h : Int)) ≤ (x.length : Int) := Int.ediv_le_self _ (by omega)
    have hdw : Aside0 (wrap64 ((x.length : Int) / (2 * (h : Int))) = (x.length : Int) / (2 * (h : Int))) := ⟨wrap64_id (by omega) (by omega)⟩
    have hsn := append_map_range (fun (i : Nat) => tagV x w n s m inv (tagAt x.length h i)) i
    have hlen : ((List.range i).map fun (i : Nat) => tagV x w n s m inv (tagAt x.length h i)).length < 8796093022208 := by simp; omega
    rw [headroomref10_Pass.l0, if_pos (by omega), w2.out, if_neg (by omega), wt.out, hd1.out, hdw.out]
    unfold tagAt at hok
    by_cases hc : (i : Int) % (2 * (h : Int)) < h
    · rw [if_pos hc] at hok
      unfold tagOk at hok
      rw [decide_eq_true_eq] at hok
      dsimp only at hok
      have wi : Aside0 (wrap64 ((i : Int) + (h : Int)) = (i : Int) + (h : Int)) := ⟨wrap64_id (by omega) (by omega)⟩
      have wk : Aside0 (wrap64 ((i : Int) % (2 * (h : Int)) * ((x.length : Int) / (2 * (h : Int)))) = (i : Int) % (2 * (h : Int)) * ((x.length : Int) / (2 * (h : Int)))) := ⟨wrap64_id (by omega) (by omega)⟩
      rw [if_pos hc, if_pos (by omega), if_pos (by omega), wi.out, if_pos (by omega), if_pos (by omega), wk.out, refroot2_is w _ inv n hn hw (by omega) (by omega)]
      simp only [Option.bind_some]
      rw [refup_is k (rd_T43 x i) (rd_T43 x ((i : Int) + (h : Int))) (rootOf w _ inv) n s m hn hs (by omega) hm]
      simp only [Option.bind_some]
      rw [if_pos hlen, step_is i (by omega)]
      have e : tagV x w n s m inv (tagAt x.length h (i : Nat)) = upV (rd_T43 x i) (rd_T43 x ((i : Int) + (h : Int))) (rootOf w ((i : Int) % (2 * (h : Int)) * ((x.length : Int) / (2 * (h : Int)))) inv) n s m := by
        unfold tagAt tagV
        rw [if_pos hc]
        simp
      have := ih k (i + 1) (by omega) (by omega)
      rw [← hsn] at this
      rw [e] at this
      exact this
    · rw [if_neg hc] at hok
      unfold tagOk at hok
      rw [decide_eq_true_eq] at hok
      dsimp only at hok
      have wi : Aside0 (wrap64 ((i : Int) - (h : Int)) = (i : Int) - (h : Int)) := ⟨wrap64_id (by omega) (by omega)⟩
      have hmod := Int.emod_lt_of_pos (i : Int) (show (0 : Int) < 2 * (h : Int) by omega)
      have hmod0 := Int.emod_nonneg (i : Int) (show (2 * (h : Int)) ≠ 0 by omega)
      have wj : Aside0 (wrap64 ((i : Int) % (2 * (h : Int)) - (h : Int)) = (i : Int) % (2 * (h : Int)) - (h : Int)) := ⟨wrap64_id (by omega) (by omega)⟩
      have wk : Aside0 (wrap64 (((i : Int) % (2 * (h : Int)) - (h : Int)) * ((x.length : Int) / (2 * (h : Int)))) = ((i : Int) % (2 * (h : Int)) - (h : Int)) * ((x.length : Int) / (2 * (h : Int)))) := ⟨wrap64_id (by omega) (by omega)⟩
      rw [if_neg hc, wi.out, if_pos (by omega), if_pos (by omega), if_pos (by omega), if_pos (by omega), wj.out, wk.out, refroot2_is w _ inv n hn hw (by omega) (by omega)]
      simp only [Option.bind_some]
      rw [refdown_is k (rd_T43 x ((i : Int) - (h : Int))) (rd_T43 x i) (rootOf w _ inv) n s m hn hs (by omega) hm]
      simp only [Option.bind_some]
      rw [if_pos hlen, step_is i (by omega)]
      have e : tagV x w n s m inv (tagAt x.length h (i : Nat)) = downV (rd_T43 x ((i : Int) - (h : Int))) (rd_T43 x i) (rootOf w (((i : Int) % (2 * (h : Int)) - (h : Int)) * ((x.length : Int) / (2 * (h : Int)))) inv) n s m := by
        unfold tagAt tagV
        rw [if_neg hc]
        simp
      have := ih k (i + 1) (by omega) (by omega)
      rw [← hsn] at this
      rw [e] at this
      exact this
theorem two_is_ref (k : Nat) (x w : List S43) (h : Nat) (n s : Nat) (m : Int) (inv : Bool) (hl : x.length = 4 ∨ x.length = 8 ∨ x.length = 16 ∨ x.length = 32 ∨ x.length = 64) (hwl : w.length = x.length) (hh : h = 1 ∨ h = 2 ∨ h = 4 ∨ h = 8 ∨ h = 16 ∨ h = 32) (hlt : h < x.length)
    (hn : n ≤ 29) (hs : s ≤ 3) (hm : m = 0 ∨ m = 1 ∨ m = 2) (hx : x.all (narrowB 2147483648) = true) (hw : w.all (narrowB (2 ^ n)) = true) (hk : 200 ≤ k) :
    headroomref10_Pass.f k x w h n s m inv = some (two_Pass.out x w h n s m inv) := by
  rw [out_is x w h n s m inv hl hh hlt hn hs hm hx hw]
  have := refpass_run x w h n s m inv hl hwl hh hlt hn hs hm hw x.length k 0 (by omega) (by omega)
  simpa [headroomref10_Pass.f] using this
end Go.Proofs.Ytmglkelmdcpinaa.G
/- No part of a pass of kernel 2 grows beyond 3 times the greatest one; the greatest part as the layer below tells it. Conditions: each theorem's own bounds; rounds enough. -/
namespace Go.Proofs.Ytmglkelmdcpinaa.G
open Go.RowKit Go.Proofs.YtmglkelmdcpinaaW.PrintWords Go.Proofs.YtmglkelmdcpinaaW.PrintLast Go.Proofs.YtmglkelmdcpinaaW.PrintMore Go.Proofs.Ytmglkelmdcpinaa.M
set_option linter.unusedVariables false
set_option linter.unusedSimpArgs false

theorem rsh_zero (n : Nat) (m : Int) : rsh 0 n m = 0 := by
  have hp := Go.Proofs.Ytmglkelmdcpinaa.M.pow_pos (n - 1)
  unfold rsh
  rw [Int.zero_ediv, Int.zero_emod]
  repeat' split
  all_goals first | rfl | omega
theorem rsh_grow (A : Int) (n s : Nat) (m c M : Int) (hA : -(c * M * 2 ^ n) ≤ A) (hB : A ≤ c * M * 2 ^ n) :
    (rsh A (n + s) m - 1) * 2 ^ s ≤ c * M ∧ (-(rsh A (n + s) m) - 1) * 2 ^ s ≤ c * M := by
  have hP := Go.Proofs.Ytmglkelmdcpinaa.M.pow_pos n
  have hT := Go.Proofs.Ytmglkelmdcpinaa.M.pow_pos s
  have hD : (2 : Int) ^ (n + s) = 2 ^ s * 2 ^ n := by rw [Int.pow_add, Int.mul_comm]
  have hD0 := Go.Proofs.Ytmglkelmdcpinaa.M.pow_pos (n + s)
  have hH : 1 ≤ n + s → (2 : Int) ^ (n + s) = 2 * 2 ^ (n + s - 1) := by
    intro h
    rw [show n + s = (n + s - 1) + 1 by omega, Int.pow_succ]
    simp
    omega
  have hc := rsh_cases A (n + s) m
  generalize rsh A (n + s) m = q at hc ⊢
  have e1 : (q - 1) * 2 ^ s * 2 ^ n = (q - 1) * 2 ^ (n + s) := by rw [hD, Int.mul_assoc]
  have e2 : (-q - 1) * 2 ^ s * 2 ^ n = (-q - 1) * 2 ^ (n + s) := by rw [hD, Int.mul_assoc]
  have f1 : (q - 1) * 2 ^ (n + s) = q * 2 ^ (n + s) - 2 ^ (n + s) := by rw [Int.sub_mul, Int.one_mul]
  have f2 : (-q - 1) * 2 ^ (n + s) = -(q * 2 ^ (n + s)) - 2 ^ (n + s) := by rw [Int.sub_mul, Int.one_mul, Int.neg_mul]
  constructor
  · apply Int.le_of_mul_le_mul_right _ hP
    rw [e1, f1]
    rcases hc with ⟨h1, h2, _⟩ | ⟨h1, h2, h3, _⟩
    · omega
    · have := hH h3
      omega
  · apply Int.le_of_mul_le_mul_right _ hP
    rw [e2, f2]
    rcases hc with ⟨h1, h2, _⟩ | ⟨h1, h2, h3, _⟩ <;> omega
theorem root_narrow2 (w : List S43) (k : Int) (inv : Bool) (n : Nat) (hn : n ≤ 29) (hw : w.all (narrowB (2 ^ n)) = true) : narrowB (2 ^ n) (rootOf w k inv) = true := by
  have hp := pow_small n hn
  have hz : narrowB (2 ^ n) (rd_T43 w k) = true := by
    unfold rd_T43
    rw [List.getD_eq_getElem?_getD]
    cases hq : w[k.toNat]? with
    | none =>
      rw [narrowB_iff, decide_eq_true_eq]
      simp [z43]
      omega
    | some x =>
      rw [List.all_eq_true] at hw
      exact hw x (List.mem_of_getElem? hq)
  unfold rootOf
  cases inv with
  | false => exact hz
  | true =>
    rw [if_pos rfl, conj_is _ (narrowB_mono hp.2 hz)]
    rw [narrowB_iff, decide_eq_true_eq] at hz ⊢
    have : wrap64 (-(rd_T43 w k).f1) = -(rd_T43 w k).f1 := wrap64_id (by omega) (by omega)
    dsimp only
    rw [this]
    omega
theorem mul_bound {x y a b : Int} (hx0 : -a ≤ x) (hx1 : x ≤ a) (hy0 : -b ≤ y) (hy1 : y ≤ b) : -(a * b) ≤ x * y ∧ x * y ≤ a * b := by
  have ha : 0 ≤ a := by omega
  have hb : 0 ≤ b := by omega
  have h1 : x * y ≤ a * b := by
    rcases Int.le_total 0 y with h | h
    · exact Int.le_trans (Int.mul_le_mul_of_nonneg_right hx1 h) (Int.mul_le_mul_of_nonneg_left hy1 ha)
    · have h2 : x * y ≤ (-a) * y := Int.mul_le_mul_of_nonpos_right hx0 h
      have h3 : (-a) * y ≤ a * b := by
        have : (-a) * y = a * (-y) := by rw [Int.neg_mul, Int.mul_neg]
        rw [this]
        exact Int.mul_le_mul_of_nonneg_left (by omega) ha
      exact Int.le_trans h2 h3
  have h2 : -(x * y) ≤ a * b := by
    have e : -(x * y) = (-x) * y := by rw [Int.neg_mul]
    rw [e]
    rcases Int.le_total 0 y with h | h
    · exact Int.le_trans (Int.mul_le_mul_of_nonneg_right (show -x ≤ a by omega) h) (Int.mul_le_mul_of_nonneg_left hy1 ha)
    · have h2 : (-x) * y ≤ (-a) * y := Int.mul_le_mul_of_nonpos_right (show -a ≤ -x by omega) h
      have h3 : (-a) * y ≤ a * b := by
        have : (-a) * y = a * (-y) := by rw [Int.neg_mul, Int.mul_neg]
        rw [this]
        exact Int.mul_le_mul_of_nonneg_left (by omega) ha
      exact Int.le_trans h2 h3
  omega
/-- A part of a sum or a difference, before it is shifted. -/
theorem part_bound (M P : Int) (hM0 : 0 ≤ M) (hM1 : M ≤ 2147483648) (hP0 : 0 ≤ P) (hP1 : P ≤ 536870912) (a b0 b1 r0 r1 : Int) (ha : -M ≤ a ∧ a ≤ M) (hb0 : -M ≤ b0 ∧ b0 ≤ M) (hb1 : -M ≤ b1 ∧ b1 ≤ M) (hr0 : -P ≤ r0 ∧ r0 ≤ P) (hr1 : -P ≤ r1 ∧ r1 ≤ P) :
    (-(3 * M * P) ≤ wrap64 (wrap64 (a * P) + wrap64 (wrap64 (b0 * r0) - wrap64 (b1 * r1))) ∧ wrap64 (wrap64 (a * P) + wrap64 (wrap64 (b0 * r0) - wrap64 (b1 * r1))) ≤ 3 * M * P) ∧
    (-(3 * M * P) ≤ wrap64 (wrap64 (a * P) - wrap64 (wrap64 (b0 * r0) - wrap64 (b1 * r1))) ∧ wrap64 (wrap64 (a * P) - wrap64 (wrap64 (b0 * r0) - wrap64 (b1 * r1))) ≤ 3 * M * P) ∧
    (-(3 * M * P) ≤ wrap64 (wrap64 (a * P) + wrap64 (wrap64 (b0 * r1) + wrap64 (b1 * r0))) ∧ wrap64 (wrap64 (a * P) + wrap64 (wrap64 (b0 * r1) + wrap64 (b1 * r0))) ≤ 3 * M * P) ∧
    (-(3 * M * P) ≤ wrap64 (wrap64 (a * P) - wrap64 (wrap64 (b0 * r1) + wrap64 (b1 * r0))) ∧ wrap64 (wrap64 (a * P) - wrap64 (wrap64 (b0 * r1) + wrap64 (b1 * r0))) ≤ 3 * M * P) := by
  have hMP : M * P ≤ 2147483648 * 536870912 := Int.mul_le_mul hM1 hP1 hP0 (by decide)
  have hMP0 : 0 ≤ M * P := Int.mul_nonneg hM0 hP0
  have h1 := mul_bound ha.1 ha.2 (show -P ≤ P by omega) (Int.le_refl P)
  have h2 := mul_bound hb0.1 hb0.2 hr0.1 hr0.2
  have h3 := mul_bound hb1.1 hb1.2 hr1.1 hr1.2
  have h4 := mul_bound hb0.1 hb0.2 hr1.1 hr1.2
  have h5 := mul_bound hb1.1 hb1.2 hr0.1 hr0.2
  have e3 : 3 * M * P = 3 * (M * P) := by rw [Int.mul_assoc]
  rw [e3]
  generalize a * P = x1 at h1 ⊢
  generalize b0 * r0 = x2 at h2 ⊢
  generalize b1 * r1 = x3 at h3 ⊢
  generalize b0 * r1 = x4 at h4 ⊢
  generalize b1 * r0 = x5 at h5 ⊢
  generalize M * P = N at hMP hMP0 h1 h2 h3 h4 h5 ⊢
  have w1 : wrap64 x1 = x1 := wrap64_id (by omega) (by omega)
  have w2 : wrap64 x2 = x2 := wrap64_id (by omega) (by omega)
  have w3 : wrap64 x3 = x3 := wrap64_id (by omega) (by omega)
  have w4 : wrap64 x4 = x4 := wrap64_id (by omega) (by omega)
  have w5 : wrap64 x5 = x5 := wrap64_id (by omega) (by omega)
  rw [w1, w2, w3, w4, w5]
  clear w1 w2 w3 w4 w5
  rw [show wrap64 (x2 - x3) = x2 - x3 from wrap64_id (by omega) (by omega), show wrap64 (x4 + x5) = x4 + x5 from wrap64_id (by omega) (by omega)]
  rw [show wrap64 (x1 + (x2 - x3)) = x1 + (x2 - x3) from wrap64_id (by omega) (by omega), show wrap64 (x1 - (x2 - x3)) = x1 - (x2 - x3) from wrap64_id (by omega) (by omega), show wrap64 (x1 + (x4 + x5)) = x1 + (x4 + x5) from wrap64_id (by omega) (by omega), show wrap64 (x1 - (x4 + x5)) = x1 - (x4 + x5) from wrap64_id (by omega) (by omega)]
  omega
/-- How great a number's parts may be. -/
def GrowB (c M : Int) (s : Nat) (q : Int) : Prop := (q - 1) * 2 ^ s ≤ c * M ∧ (-q - 1) * 2 ^ s ≤ c * M ∧ (M = 0 → q = 0)
theorem grow_of (A : Int) (n s : Nat) (m c M : Int) (hA : -(c * M * 2 ^ n) ≤ A) (hB : A ≤ c * M * 2 ^ n) : GrowB c M s (rsh A (n + s) m) := by
  refine ⟨(rsh_grow A n s m c M hA hB).1, (rsh_grow A n s m c M hA hB).2, fun h => ?_⟩
  rw [h] at hA hB
  simp at hA hB
  rw [show A = 0 by omega, rsh_zero]
def leB (M : Int) (x : S43) : Prop := -M ≤ x.f0 ∧ x.f0 ≤ M ∧ -M ≤ x.f1 ∧ x.f1 ≤ M
theorem pair_grow (a b r : S43) (n s : Nat) (m M : Int) (hn : n ≤ 29) (hM0 : 0 ≤ M) (hM1 : M ≤ 2147483648) (ha : leB M a) (hb : leB M b) (hr : narrowB (2 ^ n) r = true) :
    (GrowB 3 M s (upV a b r n s m).f0 ∧ GrowB 3 M s (upV a b r n s m).f1) ∧ GrowB 3 M s (downV a b r n s m).f0 ∧ GrowB 3 M s (downV a b r n s m).f1 := by
  have hp := pow_small n hn
  rw [narrowB_iff, decide_eq_true_eq] at hr
  have h0 := part_bound M (2 ^ n) hM0 hM1 hp.1 hp.2 a.f0 b.f0 b.f1 r.f0 r.f1 ⟨ha.1, ha.2.1⟩ ⟨hb.1, hb.2.1⟩ ⟨hb.2.2.1, hb.2.2.2⟩ ⟨hr.2.1, hr.1⟩ ⟨hr.2.2.2, hr.2.2.1⟩
  have h1 := part_bound M (2 ^ n) hM0 hM1 hp.1 hp.2 a.f1 b.f0 b.f1 r.f0 r.f1 ⟨ha.2.2.1, ha.2.2.2⟩ ⟨hb.1, hb.2.1⟩ ⟨hb.2.2.1, hb.2.2.2⟩ ⟨hr.2.1, hr.1⟩ ⟨hr.2.2.2, hr.2.2.1⟩
  exact ⟨⟨grow_of _ n s m 3 M h0.1.1 h0.1.2, grow_of _ n s m 3 M h1.2.2.1.1 h1.2.2.1.2⟩, grow_of _ n s m 3 M h0.2.1.1 h0.2.1.2, grow_of _ n s m 3 M h1.2.2.2.1 h1.2.2.2.2⟩
theorem mx_le {a b c : Int} : mx a b ≤ c ↔ a ≤ c ∧ b ≤ c := by unfold mx; split <;> omega
theorem le_mx {a b : Int} : a ≤ mx a b ∧ b ≤ mx a b := by unfold mx; split <;> omega
theorem greatest_is (k : Nat) (m a b : Int) (hk : 10 ≤ k) (hm0 : 0 ≤ m) (hm1 : m ≤ 2147483648) (ha0 : -2147483648 ≤ a) (ha1 : a ≤ 2147483648) (hb0 : -2147483648 ≤ b) (hb1 : b ≤ 2147483648) :
    ∃ g, scan_greatest.f k [m, a, b] = some g ∧ m ≤ g ∧ g ≤ 2147483648 ∧ -g ≤ a ∧ a ≤ g ∧ -g ≤ b ∧ b ≤ g := by
  obtain ⟨k, rfl⟩ : ∃ n, k = n + 4 := ⟨k - 4, by omega⟩
  have e1 : wrap64 (0 + 1) = 1 := by decide +kernel
  have e2 : wrap64 (1 + 1) = 2 := by decide +kernel
  have e3 : wrap64 (2 + 1) = 3 := by decide +kernel
  have r0 : rd [m, a, b] 0 = m := rfl
  have r1 : rd [m, a, b] 1 = a := rfl
  have r2 : rd [m, a, b] 2 = b := rfl
  have w0 : wrap64 (-m) = -m := wrap64_id (by omega) (by omega)
  have w1 : wrap64 (-a) = -a := wrap64_id (by omega) (by omega)
  have w2 : wrap64 (-b) = -b := wrap64_id (by omega) (by omega)
  refine ⟨mx (mx (mx (mx (mx (mx 0 m) (-m)) a) (-a)) b) (-b), ?_, ?_⟩
  · unfold scan_greatest.f
    rw [scan_greatest.l0, if_pos (by simp), if_pos (by decide), if_pos (by simp), r0, w0, e1]
    rw [scan_greatest.l0, if_pos (by simp), if_pos (by decide), if_pos (by simp), r1, w1, e2]
    rw [scan_greatest.l0, if_pos (by simp), if_pos (by decide), if_pos (by simp), r2, w2, e3]
    rw [scan_greatest.l0, if_neg (by simp)]
  · unfold mx
    repeat' split
    all_goals omega
theorem max_run (x : List S43) (hl : x.length < 100000) (hx : x.all (narrowB 2147483648) = true) : ∀ (j k i : Nat) (m : Int), i + j = x.length → j + 20 < k → 0 ≤ m → m ≤ 2147483648 →
    ∃ M, scan_Max.l0 k m x (x.length : Int) i = some (M, 0) ∧ m ≤ M ∧ M ≤ 2147483648 ∧ ∀ a ∈ x.drop i, leB M a := by
  intro j
  induction j with
  | zero =>
    intro k i m hi hk h0 h1
    obtain ⟨k, rfl⟩ : ∃ n, k = n + 1 := ⟨k - 1, by omega⟩
    obtain rfl : i = x.length := by omega
    refine ⟨m, by rw [scan_Max.l0, if_neg (by omega)], Int.le_refl _, h1, by simp⟩
  | succ j ih =>
    intro k i m hi hk h0 h1
    obtain ⟨k, rfl⟩ : ∃ n, k = n + 1 := ⟨k - 1, by omega⟩
    have hlt : i < x.length := by omega
    have hn : narrowB 2147483648 x[i] = true := (List.all_eq_true.1 hx) _ (List.getElem_mem hlt)
    rw [narrowB_iff, decide_eq_true_eq] at hn
    obtain ⟨g, hg, g1, g2, g3, g4, g5, g6⟩ := greatest_is k m x[i].f0 x[i].f1 (by omega) h0 h1 hn.2.1 hn.1 hn.2.2.2 hn.2.2.1
    obtain ⟨M, hM, m1, m2, m3⟩ := ih k (i + 1) g (by omega) (by omega) (by omega) g2
    refine ⟨M, ?_, by omega, m2, ?_⟩
    · rw [scan_Max.l0, if_pos (by omega), if_pos (by omega), if_pos (by omega), rd43_get x i hlt, if_neg (by unfold mn; split <;> omega), if_neg (by unfold mx; split <;> omega), hg]
      simp only [Option.bind_some]
      rw [step_is i (by omega)]
      exact hM
    · intro a ha
      rw [List.drop_eq_getElem_cons hlt] at ha
      rcases List.mem_cons.1 ha with rfl | ha
      · exact ⟨by omega, by omega, by omega, by omega⟩
      · exact m3 a ha
theorem max_is (k : Nat) (x : List S43) (hl : x.length < 100000) (hx : x.all (narrowB 2147483648) = true) (hk : x.length + 30 < k) : ∃ M, scan_Max.f k x = some (M, 0) ∧ 0 ≤ M ∧ M ≤ 2147483648 ∧ ∀ a ∈ x, leB M a := by
  obtain ⟨M, h1, h2, h3, h4⟩ := max_run x hl hx x.length k 0 0 (by omega) (by omega) (by omega) (by omega)
  exact ⟨M, by simpa [scan_Max.f] using h1, h2, h3, by simpa using h4⟩
theorem rd_le (x : List S43) (M : Int) (hM : 0 ≤ M) (h : ∀ a ∈ x, leB M a) (i : Int) : leB M (rd_T43 x i) := by
  unfold rd_T43
  rw [List.getD_eq_getElem?_getD]
  cases hq : x[i.toNat]? with
  | none => simp [leB, z43]; omega
  | some y => exact h y (List.mem_of_getElem? hq)
/-- A part's size, as the law asks it. -/
theorem grow_ask (c M : Int) (s : Nat) (hs : s ≤ 3) (hc : 0 ≤ c) (hc9 : c ≤ 9) (hM0 : 0 ≤ M) (hM1 : M ≤ 2147483648) (y : S43) (h0 : GrowB c M s y.f0) (h1 : GrowB c M s y.f1) :
    ¬ (shl .i64 (wrap64 ((mx (mx (mx y.f0 (wrap64 (-y.f0))) y.f1) (wrap64 (-y.f1))) - 1)) s > wrap64 (c * M)) ∧ (M = 0 → ¬ (mx (mx (mx y.f0 (wrap64 (-y.f0))) y.f1) (wrap64 (-y.f1))) > 0) := by
  have hT := Go.Proofs.Ytmglkelmdcpinaa.M.pow_pos s
  have hT8 : (2 : Int) ^ s ≤ 2 ^ 3 := Go.Proofs.Ytmglkelmdcpinaa.M.pow_le hs
  have hcM : c * M ≤ 9 * 2147483648 := Int.mul_le_mul hc9 hM1 hM0 (by decide)
  have hcM0 : 0 ≤ c * M := Int.mul_nonneg hc hM0
  have small : ∀ q : Int, (q - 1) * 2 ^ s ≤ c * M → q ≤ 19327352833 := by
    intro q hq
    by_cases h : q ≤ 1
    · omega
    · have : (q - 1) * 1 ≤ (q - 1) * 2 ^ s := Int.mul_le_mul_of_nonneg_left (by omega) (by omega)
      omega
  have a0 := small _ h0.1
  have a1 := small _ h0.2.1
  have a2 := small _ h1.1
  have a3 := small _ h1.2.1
  rw [show wrap64 (-y.f0) = -y.f0 from wrap64_id (by omega) (by omega), show wrap64 (-y.f1) = -y.f1 from wrap64_id (by omega) (by omega)]
  have hn : ∃ n, mx (mx (mx y.f0 (-y.f0)) y.f1) (-y.f1) = n ∧ (n - 1) * 2 ^ s ≤ c * M ∧ 0 ≤ n ∧ n ≤ 19327352833 ∧ (M = 0 → n = 0) := by
    refine ⟨_, rfl, ?_⟩
    have e : mx (mx (mx y.f0 (-y.f0)) y.f1) (-y.f1) = y.f0 ∨ mx (mx (mx y.f0 (-y.f0)) y.f1) (-y.f1) = -y.f0 ∨ mx (mx (mx y.f0 (-y.f0)) y.f1) (-y.f1) = y.f1 ∨ mx (mx (mx y.f0 (-y.f0)) y.f1) (-y.f1) = -y.f1 := by
      unfold mx
      repeat' split
      all_goals omega
    have p : 0 ≤ mx (mx (mx y.f0 (-y.f0)) y.f1) (-y.f1) := by
      unfold mx
      repeat' split
      all_goals omega
    rcases e with e | e | e | e
    · rw [e] at p ⊢; exact ⟨h0.1, p, a0, fun h => h0.2.2 h⟩
    · rw [e] at p ⊢; exact ⟨h0.2.1, p, a1, fun h => by have := h0.2.2 h; omega⟩
    · rw [e] at p ⊢; exact ⟨h1.1, p, a2, fun h => h1.2.2 h⟩
    · rw [e] at p ⊢; exact ⟨h1.2.1, p, a3, fun h => by have := h1.2.2 h; omega⟩
  obtain ⟨n, hn, n1, n2, n3, n4⟩ := hn
  rw [hn]
  refine ⟨?_, fun h => by have := n4 h; omega⟩
  rw [show wrap64 (n - 1) = n - 1 from wrap64_id (by omega) (by omega), shl_is _ s (by omega), show wrap64 (c * M) = c * M from wrap64_id (by omega) (by omega)]
  have lo : -8 ≤ (n - 1) * 2 ^ s := by
    by_cases h : n = 0
    · rw [h]; omega
    · have : 0 ≤ (n - 1) * 2 ^ s := Int.mul_nonneg (by omega) (by omega)
      omega
  rw [wrap64_id (by omega) (by omega)]
  omega
end Go.Proofs.Ytmglkelmdcpinaa.G
/- What a pass of kernel 2 answers, refused or not. Conditions: none. -/
namespace Go.Proofs.Ytmglkelmdcpinaa.G
open Go.RowKit Go.Proofs.YtmglkelmdcpinaaW.PrintWords Go.Proofs.YtmglkelmdcpinaaW.PrintLast Go.Proofs.YtmglkelmdcpinaaW.PrintMore Go.Proofs.Ytmglkelmdcpinaa.M
set_option linter.unusedVariables false
set_option linter.unusedSimpArgs false

theorem twoalive : headroomlaw10_alive.f = some true := by decide +kernel
/-- What a pass of kernel 2 answers. -/
theorem pass_val (x w : List S43) (h a3 a4 a5 : Int) (inv : Bool) :
    two_Pass.f x w h a3 a4 a5 inv = some (if sizeB x.length = false then ([], 3) else if w.length ≠ x.length then ([], 5) else if partB x.length h = false ∨ setB a3 a4 a5 = false then ([], 1) else if x.any farB = true ∨ w.any (greatB a3.toNat) = true then ([], 2) else (two_Pass.out x w h a3 a4 a5 inv, 0)) := by
  unfold two_Pass.f
  by_cases h0 : x.length = 4 ∨ x.length = 8 ∨ x.length = 16 ∨ x.length = 32 ∨ x.length = 64
  · have e0 : ¬ sizeB x.length = false := by unfold sizeB; rw [decide_eq_true h0]; simp
    rw [if_neg (not_not_intro h0), if_neg e0]
    by_cases h1 : w.length = x.length
    · rw [if_neg (not_not_intro h1), if_neg (not_not_intro h1)]
      have part_no : ∀ (hx : ¬ (1 ≤ h ∧ h < (x.length : Int) ∧ bits BinOp.and IntKind.i64 h (h - 1) = 0)), partB x.length h = false := fun hx => decide_eq_false hx
      by_cases h2 : h < 1
      · rw [if_pos h2, if_pos (.inl (part_no (by omega)))]
      rw [if_neg h2]
      by_cases h3 : (x.length : Int) ≤ h
      · rw [if_pos h3, if_pos (.inl (part_no (by omega)))]
      rw [if_neg h3]
      by_cases h4 : bits BinOp.and IntKind.i64 h (h - 1) = 0
      · rw [if_neg (not_not_intro h4), settings_is]
        have hp : partB x.length h = true := decide_eq_true ⟨by omega, by omega, h4⟩
        simp only [Option.bind_some]
        cases hs : setB a3 a4 a5 with
        | false => simp
        | true =>
          rw [if_neg (show ¬ (true = false) by simp), if_neg (show ¬ (partB x.length h = false ∨ true = false) by simp [hp])]
          by_cases h7 : x.any farB = true
          · rw [if_pos h7, if_pos (.inl h7)]
          · rw [if_neg h7]
            by_cases h8 : w.any (greatB a3.toNat) = true
            · rw [if_pos h8, if_pos (.inr h8)]
            · rw [if_neg h8, if_neg (by rintro (h | h); exact h7 h; exact h8 h)]
      · rw [if_pos h4, if_pos (.inl (part_no (fun hx => h4 hx.2.2)))]
    · rw [if_pos h1, if_pos h1]
  · have e0 : sizeB x.length = false := by unfold sizeB; rw [decide_eq_false h0]
    rw [if_pos h0, if_pos e0]
end Go.Proofs.Ytmglkelmdcpinaa.G
/- TwoGrows' call answers true at any slices of complex numbers and any settings, and leaves memory that was there as it was. Conditions: the slices read as data. -/
namespace Go.Proofs.Ytmglkelmdcpinaa.G
open Go.RowKit Go.Proofs.YtmglkelmdcpinaaW.PrintWords Go.Proofs.YtmglkelmdcpinaaW.PrintLast Go.Proofs.YtmglkelmdcpinaaW.PrintMore Go.Proofs.Ytmglkelmdcpinaa.M
set_option linter.unusedVariables false
set_option linter.unusedSimpArgs false

theorem grows_l0 (M : Int) (s : Nat) (hs : s ≤ 3) (hM0 : 0 ≤ M) (hM1 : M ≤ 2147483648) (y : List S43) (hl : y.length < 100000) (hy : ∀ a ∈ y, GrowB 3 M s a.f0 ∧ GrowB 3 M s a.f1) : ∀ (j k i : Nat), i + j = y.length → j < k →
    headroomlaw10_TwoGrows.l0 k s M y (y.length : Int) i = some true := by
  intro j
  induction j with
  | zero =>
    intro k i hi hk
    obtain ⟨k, rfl⟩ : ∃ n, k = n + 1 := ⟨k - 1, by omega⟩
    rw [headroomlaw10_TwoGrows.l0, if_neg (by omega)]
  | succ j ih =>
    intro k i hi hk
    obtain ⟨k, rfl⟩ : ∃ n, k = n + 1 := ⟨k - 1, by omega⟩
    have hlt : i < y.length := by omega
    have hg := hy _ (List.getElem_mem hlt)
    obtain ⟨a1, a2⟩ := grow_ask 3 M s hs (by decide) (by decide) hM0 hM1 y[i] hg.1 hg.2
    have hn := ih k (i + 1) (by omega) (by omega)
    rw [headroomlaw10_TwoGrows.l0, if_pos (by omega), if_pos (by omega), if_pos (by omega), if_pos (by omega), rd43_get y i hlt, if_neg a1, step_is i (by omega), hn]
    by_cases h : M = 0
    · rw [if_pos h, if_neg (a2 h)]
    · rw [if_neg h]
theorem grows_true (x w : List S43) (h a3 a4 a5 : Int) (inv : Bool) (hx : x.length ≤ 70) (hw : w.length ≤ 70) :
    ((two_Pass.f x w h a3 a4 a5 inv).bind fun bt109 => (if bt109.2 = 0 then ((scan_Max.f 2000 x).bind fun bt114 => (if bt114.2 = 0 then (if (bt109.1.length : Int) = (x.length : Int) then ((headroomlaw10_alive.f).bind fun t116 => (headroomlaw10_TwoGrows.j0 2000 a4 bt109.1 bt114.1 (!t116))) else (headroomlaw10_TwoGrows.j0 2000 a4 bt109.1 bt114.1 true)) else (headroomlaw10_TwoGrows.j0 2000 a4 bt109.1 bt114.1 true))) else ((headroomlaw10_alive.f).bind fun t113 => (if t113 = true then (some ((bt109.1.length : Int) == 0)) else (some false))))) = some true := by
  rw [pass_val, twoalive]
  simp only [Option.bind_some]
  cases h0 : sizeB x.length with
  | false => simp
  | true =>
    have h0' := h0
    unfold sizeB at h0'
    rw [decide_eq_true_eq] at h0'
    have etf : ¬ (true = false) := by simp
    rw [if_neg etf]
    by_cases h1 : w.length = x.length
    · rw [if_neg (not_not_intro h1)]
      by_cases h2 : partB x.length h = false ∨ setB a3 a4 a5 = false
      · rw [if_pos h2]; simp
      · rw [if_neg h2]
        by_cases h3 : x.any farB = true ∨ w.any (greatB a3.toNat) = true
        · rw [if_pos h3]; simp
        · rw [if_neg h3]
          have hpt : partB x.length h = true := by cases hq : partB x.length h with | true => rfl | false => exact absurd (.inl hq) h2
          have hst : setB a3 a4 a5 = true := by cases hq : setB a3 a4 a5 with | true => rfl | false => exact absurd (.inr hq) h2
          unfold setB at hst
          rw [decide_eq_true_eq] at hst
          obtain ⟨m, rfl, hm, hlt⟩ := half_six x.length h (by omega) hpt
          obtain ⟨b, rfl⟩ : ∃ b : Nat, a3 = b := ⟨a3.toNat, by omega⟩
          obtain ⟨s, rfl⟩ : ∃ s : Nat, a4 = s := ⟨a4.toNat, by omega⟩
          rw [Int.toNat_natCast, any_far, any_great] at h3
          have hxa : x.all (narrowB 2147483648) = true := by cases hq : x.all (narrowB 2147483648) with | true => rfl | false => exact absurd (.inl (by rw [hq]; rfl)) h3
          have hwa : w.all (narrowB (2 ^ b)) = true := by cases hq : w.all (narrowB (2 ^ b)) with | true => rfl | false => exact absurd (.inr (by rw [hq]; rfl)) h3
          obtain ⟨M, hM, m0, m1, m2⟩ := max_is 2000 x (by omega) hxa (by omega)
          have hlen : (two_Pass.out x w m b s a5 inv).length = x.length := two_fold_len _ _ _ _ _ _ _ _ _
          rw [if_pos rfl, hM]
          simp only [Option.bind_some, if_true]
          rw [if_pos (by rw [hlen])]
          show headroomlaw10_TwoGrows.j0 (1999 + 1) _ _ _ false = _
          rw [headroomlaw10_TwoGrows.j0, if_neg (by simp)]
          refine grows_l0 M s (by omega) m0 m1 (two_Pass.out x w m b s a5 inv) (by rw [hlen]; omega) ?_ (two_Pass.out x w m b s a5 inv).length 1999 0 (by omega) (by rw [hlen]; omega)
          rw [out_is x w m b s a5 inv h0' hm (by omega) (by omega) (by omega) (by omega) hxa hwa]
          intro y hy
          obtain ⟨i, hi, rfl⟩ := List.mem_map.1 hy
          have hg := pair_grow (rd_T43 x (tagAt x.length m i).i) (rd_T43 x (tagAt x.length m i).j) (rootOf w (tagAt x.length m i).k inv) b s a5 M (by omega) m0 m1 (rd_le x M m0 m2 _) (rd_le x M m0 m2 _) (root_narrow2 w _ inv b (by omega) hwa)
          unfold tagV
          split
          · exact hg.2
          · exact hg.1
    · rw [if_pos h1]; simp
theorem headroomlaw10_TwoGrows.law (a0 : Option Addr) (c0 : Nat) (l0 : List S43) (a1 : Option Addr) (c1 : Nat) (l1 : List S43) (a2 a3 a4 a5 : Int) (a6 : Bool) (w : World) (hr0 : Kd.C k43 w a0 l0.length l0) (hc0 : l0.length ≤ c0) (hm0 : c0 ≤ maxLen) (hw0 : ∀ x ∈ l0, wfCx x) (hr1 : Kd.C k43 w a1 l1.length l1) (hc1 : l1.length ≤ c1) (hm1 : c1 ≤ maxLen) (hw1 : ∀ x ∈ l1, wfCx x)
    (w2 : (Lit.int .i64 a2).wf = true) (w3 : (Lit.int .i64 a3).wf = true) (w4 : (Lit.int .i64 a4).wf = true) (w5 : (Lit.int .i64 a5).wf = true) :
    Calls Try.prog 5 #[.slice a0 l0.length c0, .slice a1 l1.length c1, .int .i64 a2, .int .i64 a3, .int .i64 a4, .int .i64 a5, .bool a6] w fun e w' => e = .returned (.bool true) ∧ Below w.heap.size w w' := by
  refine headroomlaw10_TwoGrows.calls 2000 a0 c0 l0 a1 c1 l1 a2 a3 a4 a5 a6 true w hr0 hc0 hr1 hc1 ?_
  have m0 : mn (l0.length : Int) 70 = ((min l0.length 70 : Nat) : Int) := by unfold mn; split <;> omega
  have m1 : mn (l1.length : Int) 70 = ((min l1.length 70 : Nat) : Int) := by unfold mn; split <;> omega
  unfold headroomlaw10_TwoGrows.f
  rw [m0, m1, if_pos (by omega), if_pos (by omega)]
  simp only [Option.bind_some]
  rw [if_pos (by omega), if_pos (by omega)]
  exact grows_true (l0.take _) (l1.take _) a2 a3 a4 a5 a6 (by simp; omega) (by simp; omega)
end Go.Proofs.Ytmglkelmdcpinaa.G
