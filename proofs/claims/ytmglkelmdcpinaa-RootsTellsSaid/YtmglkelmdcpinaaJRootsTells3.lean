/- Contracts and plain laws on the way to RootsTells, part 3 of 3. Conditions: each theorem's own. Joined by a program (merge.py). -/
import Derived.Test.YtmglkelmdcpinaaG0
import Derived.Test.YtmglkelmdcpinaaM1
import Derived.Test.YtmglkelmdcpinaaJRootsTells1
import Derived.Test.YtmglkelmdcpinaaJRootsTells2
/- The contract of the function headroomlaw07_RootsTells (number 8 of the translation): what its call computes, as a plain Lean function; memory that was there stays as it was. Conditions: none beyond the theorem's own. Written by a program (gprint.py). -/
namespace Go.Proofs.Ytmglkelmdcpinaa.G
open Go.RowKit Go.Proofs.YtmglkelmdcpinaaW.PrintWords Go.Proofs.YtmglkelmdcpinaaW.PrintLast Go.Proofs.YtmglkelmdcpinaaW.PrintMore
attribute [local go_sem] max2_int min2_int max_two min_two max_three min_three max_four min_four   -- for this text's walks alone
set_option linter.unusedVariables false
set_option linter.unusedSimpArgs false

attribute [local go_sem high] eqA43
/-! ### headroomlaw07_RootsTells: function 8 -/
def headroomlaw07_RootsTells.f (k : Nat) (a0 : Int) (a1 : Int) (a2 : Int) : Option (Bool) := (roots_Root.f a0 a1 a2).bind fun bt101 => ((headroomref07_May.f a0 a2).bind fun t105 => (if t105 = true then ((headroomlaw07_alive.f).bind fun t106 => (if t106 = true then (if bt101.2.2 = 0 then ((headroomref07_Root.f k a0 a1 a2).bind fun bt107 => (some (bt101.1 == bt107.1 && (bt101.2.1 == bt107.2)))) else (some false)) else (some false))) else ((headroomlaw07_alive.f).bind fun t109 => (if t109 = true then (if bt101.2.2 = 1 then (some (bt101.1 == 0 && (bt101.2.1 == 0))) else (some false)) else (some false)))))
theorem headroomlaw07_RootsTells.mono : ∀ a0 a1 a2 k, LeO (headroomlaw07_RootsTells.f k a0 a1 a2) (headroomlaw07_RootsTells.f (k + 1) a0 a1 a2) := by
  intro a0 a1 a2 k
  unfold headroomlaw07_RootsTells.f
  repeat' first
      | (with_reducible exact headroomref07_Root.mono _ _ _ _)
      | (with_reducible exact LeO.refl _)
      | (with_reducible exact LeO.none _)
      | (with_reducible refine LeO.ite ?_ ?_)
      | (with_reducible refine LeO.bind ?_ (fun _ => ?_))
      | exact headroomref07_Root.mono _ _ _ _
      | exact LeO.none _
      | refine LeO.ite ?_ ?_
      | refine LeO.bind ?_ (fun _ => ?_)
def headroomlaw07_RootsTells.T4 : Bool × List (List Nat × List Nat) := (true, [([], []), ([0, 0], [0]), ([1], [1]), ([2, 1], [1, 2]), ([1, 3], [1, 3]), ([4, 1], [4]), ([5], [5]), ([5], [5]), ([5], [5]), ([5], [5]), ([7, 8, 9, 5, 5], [5, 7, 8, 9]), ([6, 10, 5], [5, 6, 10]), ([5, 11], [5, 11]), ([12, 10, 0, 1, 2, 3, 4, 5, 6, 7, 8, 9, 10, 11, 12], [12])])
def headroomlaw07_RootsTells.B4 : List Nat := [0, 1, 3, 7, 15, 31, 63, 63, 63, 63, 959, 2047, 4095, 8191]
theorem headroomlaw07_RootsTells.tab4 : rtab .any (opsOf Try.f8 4) = headroomlaw07_RootsTells.T4 := by kernel_rfl
theorem headroomlaw07_RootsTells.bits4 : waitsOk headroomlaw07_RootsTells.T4.2 headroomlaw07_RootsTells.B4 = true := by kernel_rfl
set_option maxHeartbeats 8000000 in
set_option maxRecDepth 100000 in
theorem headroomlaw07_RootsTells.calls (k : Nat) (a0 : Int) (a1 : Int) (a2 : Int) (r : Bool) (w : World) (h : headroomlaw07_RootsTells.f k a0 a1 a2 = some r) :
    Calls Try.prog 8 #[.int .i64 a0, .int .i64 a1, .int .i64 a2] w fun e w' => e = .returned (.bool r) ∧ Below w.heap.size w w' := by
  have hu43 := Try.underlying43
  have HB := Aside0.mk (Below.refl w.heap.size w)
  have H : ((roots_Root.f a0 a1 a2).bind fun bt101 => ((headroomref07_May.f a0 a2).bind fun t105 => (if t105 = true then ((headroomlaw07_alive.f).bind fun t106 => (if t106 = true then (if bt101.2.2 = 0 then ((headroomref07_Root.f k a0 a1 a2).bind fun bt107 => (some (bt101.1 == bt107.1 && (bt101.2.1 == bt107.2)))) else (some false)) else (some false))) else ((headroomlaw07_alive.f).bind fun t109 => (if t109 = true then (if bt101.2.2 = 1 then (some (bt101.1 == 0 && (bt101.2.1 == 0))) else (some false)) else (some false)))))) = some r := h
  clear h
  replace H := Option.bind_eq_some_iff.mp H
  obtain ⟨⟨t101, t102, t103⟩, A40, H⟩ := H
  replace H : ((headroomref07_May.f a0 a2).bind fun t105 => (if t105 = true then ((headroomlaw07_alive.f).bind fun t106 => (if t106 = true then (if t103 = 0 then ((headroomref07_Root.f k a0 a1 a2).bind fun bt107 => (some (t101 == bt107.1 && (t102 == bt107.2)))) else (some false)) else (some false))) else ((headroomlaw07_alive.f).bind fun t109 => (if t109 = true then (if t103 = 1 then (some (t101 == 0 && (t102 == 0))) else (some false)) else (some false))))) = some r := H
  have A4 := Aside0.mk A40
  clear A40
  replace H := Option.bind_eq_some_iff.mp H
  obtain ⟨t105, A50, H⟩ := H
  replace H : (if t105 = true then ((headroomlaw07_alive.f).bind fun t106 => (if t106 = true then (if t103 = 0 then ((headroomref07_Root.f k a0 a1 a2).bind fun bt107 => (some (t101 == bt107.1 && (t102 == bt107.2)))) else (some false)) else (some false))) else ((headroomlaw07_alive.f).bind fun t109 => (if t109 = true then (if t103 = 1 then (some (t101 == 0 && (t102 == 0))) else (some false)) else (some false)))) = some r := H
  have A5 := Aside0.mk A50
  clear A50
  by_cases c6 : t105 = true
  · subst c6
    have H1 : ((headroomlaw07_alive.f).bind fun t106 => (if t106 = true then (if t103 = 0 then ((headroomref07_Root.f k a0 a1 a2).bind fun bt107 => (some (t101 == bt107.1 && (t102 == bt107.2)))) else (some false)) else (some false))) = some r := by rw [if_pos rfl] at H; exact H
    clear H
    have H := H1
    clear H1
    replace H := Option.bind_eq_some_iff.mp H
    obtain ⟨t106, A70, H⟩ := H
    replace H : (if t106 = true then (if t103 = 0 then ((headroomref07_Root.f k a0 a1 a2).bind fun bt107 => (some (t101 == bt107.1 && (t102 == bt107.2)))) else (some false)) else (some false)) = some r := H
    have A7 := Aside0.mk A70
    clear A70
    by_cases c8 : t106 = true
    · subst c8
      have H1 : (if t103 = 0 then ((headroomref07_Root.f k a0 a1 a2).bind fun bt107 => (some (t101 == bt107.1 && (t102 == bt107.2)))) else (some false)) = some r := by rw [if_pos rfl] at H; exact H
      clear H
      have H := H1
      clear H1
      by_cases c9 : t103 = 0
      · rw [if_pos c9] at H
        have c9b0 : (t103 == 0) = true := beq_iff_eq.mpr c9
        have c9b1 : (t103 != 0) = false := bne_eq_false_iff_eq.mpr c9
        clear c9
        replace H := Option.bind_eq_some_iff.mp H
        obtain ⟨⟨t107, t108⟩, A100, H⟩ := H
        replace H : (some (t101 == t107 && (t102 == t108))) = some r := H
        have A10 := Aside0.mk A100
        clear A100
        obtain rfl := Option.some.inj H
        go_enter Try.func8, Try.ntmps8
        try go_wp2_with (first | ((with_reducible refine gate_callee (f := 36) rfl ?_); refine goesL_ (some 13) rfl rfl Try.func36 (by kernel_rfl) rfl #[.int .i64 a0, .int .i64 a1, .int .i64 a2] rfl (by (try simp only [List.map_toArray, List.map_cons, List.map_nil]); first | done | rfl | (simp only [List.length_drop, List.length_take]; rfl)) ?_; (with_reducible refine (roots_Root.calls a0 a1 a2 t101 t102 t103 _ A4.out).mono ?_); rintro e w11 ⟨rfl, hb⟩; refine ⟨_, rfl, ?_⟩; have n0_ := Aside0.mk (below_step (by repeat (first | (with_reducible first | exact HB.out | apply below_alloc | apply pw_below_drewN | apply below_drew1) | exact HB.out)) hb); clear HB; have HB := n0_; clear n0_; (try clear hb); (try clear hb2); (try clear hk); (try clear hi)) | ((with_reducible refine gate_dst (N := 7) rfl ?_); refine box_event ?hg (N := 7) ?hd (cs := #[.int .i64 0, .int .i64 0]) (t := 43) ?hr ?_; (case hd => rfl); (case hg => rfl); (case hr => first | (go_simp; done) | (go_simp; rfl)); intro gb104 hg w12 hbox hb; have n0_ := Aside0.mk (below_step (by repeat (first | (with_reducible first | exact HB.out | apply below_alloc | apply pw_below_drewN | apply below_drew1) | exact HB.out)) hb); have n1_ := Aside0.mk (hbox); have n2_ := Aside0.mk ((by rw [hg]; exact (below_size (by repeat (first | (with_reducible first | exact HB.out | apply below_alloc | apply pw_below_drewN | apply below_drew1) | exact HB.out))) : w.heap.size ≤ gb104)); have n3_ := Aside0.mk ((by rw [hg]; exact (below_size (by repeat (first | (with_reducible first | exact HB.out | apply below_alloc | apply pw_below_drewN | apply below_drew1) | exact HB.out))) : w.heap.size ≤ gb104)); clear HB; have HB := n0_; have BK104 := n1_; have GW104 := n2_; have GE104 := n3_; clear n0_ n1_ n2_ n3_; clear hb hbox hg; have hcz13_0 : w12.cell? ⟨gb104, 0, none⟩ = some (.int .i64 0) := (blk_cell BK104.out 0).trans rfl; have hcz13_1 : w12.cell? ⟨gb104, 1, none⟩ = some (.int .i64 0) := (blk_cell BK104.out 1).trans rfl; have hfz13_0 := blk_frozen BK104.out 0; have hfz13_1 := blk_frozen BK104.out 1) | ((with_reducible refine gate_callee (f := 37) rfl ?_); refine goesL_ (some 18) rfl rfl Try.func37 (by kernel_rfl) rfl #[.int .i64 a0, .int .i64 a2] rfl (by (try simp only [List.map_toArray, List.map_cons, List.map_nil]); first | done | rfl | (simp only [List.length_drop, List.length_take]; rfl)) ?_; (with_reducible refine (headroomref07_May.calls a0 a2 true _ A5.out).mono ?_); rintro e w' ⟨rfl, ⟨nd, rfl⟩⟩; refine ⟨_, rfl, ?_⟩))
        have n0_ : Aside0 (((w12.setCell ⟨gb104, 0, none⟩ (.int .i64 t101)).setCell ⟨gb104, 1, none⟩ (.int .i64 t102)).heap[gb104]? = some (.cells #[.int .i64 t101, .int .i64 t102] 43 (0, 0))) := ⟨by (with_reducible repeat (first | refine blk_drewN ?_ _ | refine blk_drew ?_ | refine blk_alloc ?_ _)); refine blk_put (cs := #[.int .i64 t101, .int .i64 0]) ?_ 1 _ rfl; (with_reducible repeat (first | refine blk_drewN ?_ _ | refine blk_drew ?_ | refine blk_alloc ?_ _)); refine blk_put (cs := #[.int .i64 0, .int .i64 0]) ?_ 0 _ rfl; (with_reducible repeat (first | refine blk_drewN ?_ _ | refine blk_drew ?_ | refine blk_alloc ?_ _)); exact BK104.out⟩
        have n1_ : Aside0 (Below w.heap.size w ((w12.setCell ⟨gb104, 0, none⟩ (.int .i64 t101)).setCell ⟨gb104, 1, none⟩ (.int .i64 t102))) := ⟨by repeat (first | (with_reducible first | exact HB.out | apply below_alloc | apply pw_below_drewN | apply below_drew1 | refine below_set ?_ GE104.out) | exact HB.out)⟩
        (try clear BK104)
        (try clear HB)
        generalize ((w12.setCell ⟨gb104, 0, none⟩ (.int .i64 t101)).setCell ⟨gb104, 1, none⟩ (.int .i64 t102)) = w14 at n0_ n1_ ⊢
        have BK104 := n0_
        have HB := n1_
        clear n0_ n1_
        (try (rw [drewN_self w14]; generalize hq_ : World.drewN w14 _ = w14; have n0_ : Aside0 (w14.heap[gb104]? = some (.cells #[.int .i64 t101, .int .i64 t102] 43 (0, 0))) := ⟨by rw [← hq_]; exact (by (with_reducible repeat (first | refine blk_drewN ?_ _ | refine blk_drew ?_ | refine blk_alloc ?_ _)); exact BK104.out)⟩; have n1_ : Aside0 (Below w.heap.size w w14) := ⟨by rw [← hq_]; exact (by repeat (first | (with_reducible first | exact HB.out | apply below_alloc | apply pw_below_drewN | apply below_drew1 | refine below_set ?_ GE104.out) | exact HB.out))⟩; clear BK104 HB hq_; have BK104 := n0_; have HB := n1_; clear n0_ n1_))
        have n0_ := Aside0.mk (blk_drew BK104.out)
        have n1_ := Aside0.mk (below_drew1 HB.out)
        clear BK104
        clear HB
        have BK104 := n0_
        have HB := n1_
        clear n0_ n1_
        refine start_ (n := 14) (S := fun w' => w'.cell? ⟨gb104, 0, none⟩ = some (.int .i64 t101) ∧ w'.cell? ⟨gb104, 1, none⟩ = some (.int .i64 t102)) (ds := []) #[false, false, false, false, false, false, false, false, false, false, false, false, false, false] (by kernel_rfl) rfl rfl ⟨(blk_cell BK104.out 0).trans rfl, (blk_cell BK104.out 1).trans rfl⟩ (fun hHeld => ?_); refine with_tabW headroomlaw07_RootsTells.tab4 headroomlaw07_RootsTells.bits4 (fun HT_ HW_ => ?_)
        generalize w14.drew = w15 at BK104 HB hHeld ⊢
        refine one_ (i := 0) (N := some 30) #[true, false, false, false, false, false, false, false, false, false, false, false, false, false] rfl rfl (one_of HT_.out (by kernel_rfl)) (by decide) (fun K hK => ?_)
        refine goes_ Try.func38 (by kernel_rfl) rfl #[] (by rfl) rfl rfl (by (try simp only [List.map_toArray, List.map_cons, List.map_nil]); first | done | rfl | (simp only [List.length_drop, List.length_take]; rfl)) ?_
        with_reducible refine (headroomlaw07_alive.calls  true _ A7.out).mono ?_
        rintro e w16 ⟨rfl, hb⟩
        refine ⟨_, rfl, ?_⟩
        have n0_ := Aside0.mk (blk_below (g := gb104) (o := .cells #[.int .i64 t101, .int .i64 t102] 43 (0, 0)) (by (with_reducible repeat (first | refine blk_drewN ?_ _ | refine blk_drew ?_ | refine blk_alloc ?_ _)); exact BK104.out) hb)
        have n1_ := Aside0.mk (below_step (by repeat (first | (with_reducible first | exact HB.out | apply below_alloc | apply pw_below_drewN | apply below_drew1 | refine below_set ?_ GE104.out) | exact HB.out)) hb)
        clear BK104
        clear HB
        have BK104 := n0_
        have HB := n1_
        clear n0_ n1_
        (try clear hb)
        (try clear hb2)
        (try clear hk)
        (try clear hi)
        refine hK.out _ _ ⟨(blk_cell BK104.out 0).trans rfl, (blk_cell BK104.out 1).trans rfl⟩ (fun hHeld => ?_)
        clear hK K
        refine norm_ (a' := ?_) ?_ ?_
        rotate_left
        · show Act.put _ (some 30) _ = _
          simp only [Act.put, List.setIfInBounds_toArray, List.set_cons_zero, List.set_cons_succ, i64_w, i32_w]
          rfl
        refine pure_ (i := 1) (N := some 31) (v := ?_) (a' := ?_) #[true, true, false, false, false, false, false, false, false, false, false, false, false, false] rfl rfl (any_of HT_.out (by kernel_rfl)) (fun _ _ _ h => h) (Or.inl ⟨by rfl, ?_⟩) ?_ ?_
        rotate_left
        · intro w'
          go_simp
          with_reducible rfl
        rotate_left
        · simp only [Act.put, List.setIfInBounds_toArray, List.set_cons_zero, List.set_cons_succ, i64_w, i32_w]
          rfl
        refine pure_ (i := 2) (N := some 32) (v := ?_) (a' := ?_) #[true, true, true, false, false, false, false, false, false, false, false, false, false, false] rfl rfl (any_of HT_.out (by kernel_rfl)) (fun _ _ _ h => h) (Or.inl ⟨by rfl, ?_⟩) ?_ ?_
        rotate_left
        · intro w'
          go_simp
          with_reducible rfl
        rotate_left
        · simp only [Act.put, List.setIfInBounds_toArray, List.set_cons_zero, List.set_cons_succ, i64_w, i32_w]
          rfl
        refine pure_ (i := 3) (N := some 33) (v := ?_) (a' := ?_) #[true, true, true, true, false, false, false, false, false, false, false, false, false, false] rfl rfl (any_of HT_.out (by kernel_rfl)) (fun _ _ _ h => h) (Or.inl ⟨by rfl, ?_⟩) ?_ ?_
        rotate_left
        · intro w'
          go_simp
          with_reducible rfl
        rotate_left
        · simp only [Act.put, List.setIfInBounds_toArray, List.set_cons_zero, List.set_cons_succ, i64_w, i32_w]
          rfl
        refine pure_ (i := 4) (N := some 34) (v := ?_) (a' := ?_) #[true, true, true, true, true, false, false, false, false, false, false, false, false, false] rfl rfl (any_of HT_.out (by kernel_rfl)) (fun _ _ _ h => h) (Or.inl ⟨by rfl, ?_⟩) ?_ ?_
        rotate_left
        · intro w'
          go_simp
          with_reducible rfl
        rotate_left
        · simp only [Act.put, List.setIfInBounds_toArray, List.set_cons_zero, List.set_cons_succ, i64_w, i32_w]
          rfl
        refine pure_ (i := 5) (N := some 35) (v := ?_) (a' := ?_) #[true, true, true, true, true, true, false, false, false, false, false, false, false, false] rfl rfl (any_of HT_.out (by kernel_rfl)) (fun _ _ _ h => h) (Or.inl ⟨by rfl, ?_⟩) ?_ ?_
        rotate_left
        · intro w'
          go_simp
          with_reducible rfl
        rotate_left
        · simp only [Act.put, List.setIfInBounds_toArray, List.set_cons_zero, List.set_cons_succ, i64_w, i32_w]
          rfl
        refine pure_ (i := 7) (N := some 37) (v := ?_) (a' := ?_) #[true, true, true, true, true, true, false, true, false, false, false, false, false, false] rfl rfl (any_of HT_.out (by kernel_rfl)) (fun _ _ _ h => h) (Or.inl ⟨by rfl, ?_⟩) ?_ ?_
        rotate_left
        · intro w'
          go_simp
          with_reducible rfl
        rotate_left
        · simp only [Act.put, List.setIfInBounds_toArray, List.set_cons_zero, List.set_cons_succ, i64_w, i32_w]
          rfl
        refine pure_ (i := 8) (N := some 38) (v := ?_) (a' := ?_) #[true, true, true, true, true, true, false, true, true, false, false, false, false, false] rfl rfl (any_of HT_.out (by kernel_rfl)) (fun _ _ _ h => h) (Or.inl ⟨by rfl, ?_⟩) ?_ ?_
        rotate_left
        · intro w'
          go_simp
          with_reducible rfl
        rotate_left
        · simp only [Act.put, List.setIfInBounds_toArray, List.set_cons_zero, List.set_cons_succ, i64_w, i32_w]
          rfl
        refine pure_ (i := 9) (N := some 39) (v := ?_) (a' := ?_) #[true, true, true, true, true, true, false, true, true, true, false, false, false, false] rfl rfl (any_of HT_.out (by kernel_rfl)) (fun _ _ _ h => h) (Or.inl ⟨by rfl, ?_⟩) ?_ ?_
        rotate_left
        · intro w'
          go_simp
          with_reducible rfl
        rotate_left
        · simp only [Act.put, List.setIfInBounds_toArray, List.set_cons_zero, List.set_cons_succ, i64_w, i32_w]
          rfl
        refine take_ (i := 6) (N := some 36) (v := ?_) (a' := ?_) #[true, true, true, true, true, true, true, true, true, true, false, false, false, false] rfl rfl (take_ofW HT_.out HW_.out (by kernel_rfl)) (fun _ _ _ h => h) (Or.inl ⟨by rfl, ?_⟩) hHeld ?_ ?_
        rotate_left
        · rintro w' ⟨s0, s1⟩
          go_simp
          with_reducible rfl
        rotate_left
        · simp only [Act.put, List.setIfInBounds_toArray, List.set_cons_zero, List.set_cons_succ, i64_w, i32_w]
          rfl
        refine one_ (i := 10) (N := some 40) #[true, true, true, true, true, true, true, true, true, true, true, false, false, false] rfl rfl (one_of HT_.out (by kernel_rfl)) (by decide) (fun K hK => ?_)
        refine goes_ Try.func39 (by kernel_rfl) rfl #[.int .i64 a0, .int .i64 a1, .int .i64 a2] (by rfl) rfl rfl (by (try simp only [List.map_toArray, List.map_cons, List.map_nil]); first | done | rfl | (simp only [List.length_drop, List.length_take]; rfl)) ?_
        with_reducible refine (headroomref07_Root.calls k a0 a1 a2 t107 t108 _ A10.out).mono ?_
        rintro e w17 ⟨rfl, hb⟩
        refine ⟨_, rfl, ?_⟩
        have n0_ := Aside0.mk (blk_below (g := gb104) (o := .cells #[.int .i64 t101, .int .i64 t102] 43 (0, 0)) (by (with_reducible repeat (first | refine blk_drewN ?_ _ | refine blk_drew ?_ | refine blk_alloc ?_ _)); exact BK104.out) hb)
        have n1_ := Aside0.mk (below_step (by repeat (first | (with_reducible first | exact HB.out | apply below_alloc | apply pw_below_drewN | apply below_drew1 | refine below_set ?_ GE104.out) | exact HB.out)) hb)
        clear BK104
        clear HB
        have BK104 := n0_
        have HB := n1_
        clear n0_ n1_
        (try clear hb)
        (try clear hb2)
        (try clear hk)
        (try clear hi)
        refine hK.out _ _ ⟨(blk_cell BK104.out 0).trans rfl, (blk_cell BK104.out 1).trans rfl⟩ (fun hHeld => ?_)
        clear hK K
        refine norm_ (a' := ?_) ?_ ?_
        rotate_left
        · show Act.put _ (some 40) _ = _
          simp only [Act.put, List.setIfInBounds_toArray, List.set_cons_zero, List.set_cons_succ, i64_w, i32_w]
          rfl
        refine pure_ (i := 11) (N := some 41) (v := ?_) (a' := ?_) #[true, true, true, true, true, true, true, true, true, true, true, true, false, false] rfl rfl (any_of HT_.out (by kernel_rfl)) (fun _ _ _ h => h) (Or.inl ⟨by rfl, ?_⟩) ?_ ?_
        rotate_left
        · intro w'
          go_simp
          with_reducible rfl
        rotate_left
        · simp only [Act.put, List.setIfInBounds_toArray, List.set_cons_zero, List.set_cons_succ, i64_w, i32_w]
          rfl
        refine pure_ (i := 12) (N := some 42) (v := ?_) (a' := ?_) #[true, true, true, true, true, true, true, true, true, true, true, true, true, false] rfl rfl (any_of HT_.out (by kernel_rfl)) (fun _ _ _ h => h) (Or.inl ⟨by rfl, ?_⟩) ?_ ?_
        rotate_left
        · intro w'
          go_simp
          with_reducible rfl
        rotate_left
        · simp only [Act.put, List.setIfInBounds_toArray, List.set_cons_zero, List.set_cons_succ, i64_w, i32_w]
          rfl
        refine pure_ (i := 13) (N := some 6) (v := ?_) (a' := ?_) #[true, true, true, true, true, true, true, true, true, true, true, true, true, true] rfl rfl (any_of HT_.out (by kernel_rfl)) (fun _ _ _ h => h) (Or.inl ⟨by rfl, ?_⟩) ?_ ?_
        rotate_left
        · intro w'
          go_simp
          with_reducible rfl
        rotate_left
        · simp only [Act.put, List.setIfInBounds_toArray, List.set_cons_zero, List.set_cons_succ, i64_w, i32_w]
          rfl
        refine done_ (done_of HT_.out (by kernel_rfl)) ?_
        try go_wp2
        go_ret
        exact ⟨by first | rfl | (simp [errW_none, errW_some] <;> rfl) | (simp [*, errW_none, errW_some] <;> rfl), by repeat (first | (with_reducible first | exact HB.out | apply below_alloc | apply pw_below_drewN | apply below_drew1 | refine below_set ?_ GE104.out) | exact HB.out)⟩
      · rw [if_neg c9] at H
        have c9b0 : (t103 == 0) = false := beq_eq_false_iff_ne.mpr c9
        have c9b1 : (t103 != 0) = true := bne_iff_ne.mpr c9
        obtain rfl := Option.some.inj H
        go_enter Try.func8, Try.ntmps8
        try go_wp2_with (first | ((with_reducible refine gate_callee (f := 36) rfl ?_); refine goesL_ (some 13) rfl rfl Try.func36 (by kernel_rfl) rfl #[.int .i64 a0, .int .i64 a1, .int .i64 a2] rfl (by (try simp only [List.map_toArray, List.map_cons, List.map_nil]); first | done | rfl | (simp only [List.length_drop, List.length_take]; rfl)) ?_; (with_reducible refine (roots_Root.calls a0 a1 a2 t101 t102 t103 _ A4.out).mono ?_); rintro e w18 ⟨rfl, hb⟩; refine ⟨_, rfl, ?_⟩; have n0_ := Aside0.mk (below_step (by repeat (first | (with_reducible first | exact HB.out | apply below_alloc | apply pw_below_drewN | apply below_drew1) | exact HB.out)) hb); clear HB; have HB := n0_; clear n0_; (try clear hb); (try clear hb2); (try clear hk); (try clear hi)) | ((with_reducible refine gate_dst (N := 7) rfl ?_); refine box_event ?hg (N := 7) ?hd (cs := #[.int .i64 0, .int .i64 0]) (t := 43) ?hr ?_; (case hd => rfl); (case hg => rfl); (case hr => first | (go_simp; done) | (go_simp; rfl)); intro gb104 hg w19 hbox hb; have n0_ := Aside0.mk (below_step (by repeat (first | (with_reducible first | exact HB.out | apply below_alloc | apply pw_below_drewN | apply below_drew1) | exact HB.out)) hb); have n1_ := Aside0.mk (hbox); have n2_ := Aside0.mk ((by rw [hg]; exact (below_size (by repeat (first | (with_reducible first | exact HB.out | apply below_alloc | apply pw_below_drewN | apply below_drew1) | exact HB.out))) : w.heap.size ≤ gb104)); have n3_ := Aside0.mk ((by rw [hg]; exact (below_size (by repeat (first | (with_reducible first | exact HB.out | apply below_alloc | apply pw_below_drewN | apply below_drew1) | exact HB.out))) : w.heap.size ≤ gb104)); clear HB; have HB := n0_; have BK104 := n1_; have GW104 := n2_; have GE104 := n3_; clear n0_ n1_ n2_ n3_; clear hb hbox hg; have hcz20_0 : w19.cell? ⟨gb104, 0, none⟩ = some (.int .i64 0) := (blk_cell BK104.out 0).trans rfl; have hcz20_1 : w19.cell? ⟨gb104, 1, none⟩ = some (.int .i64 0) := (blk_cell BK104.out 1).trans rfl; have hfz20_0 := blk_frozen BK104.out 0; have hfz20_1 := blk_frozen BK104.out 1) | ((with_reducible refine gate_callee (f := 37) rfl ?_); refine goesL_ (some 18) rfl rfl Try.func37 (by kernel_rfl) rfl #[.int .i64 a0, .int .i64 a2] rfl (by (try simp only [List.map_toArray, List.map_cons, List.map_nil]); first | done | rfl | (simp only [List.length_drop, List.length_take]; rfl)) ?_; (with_reducible refine (headroomref07_May.calls a0 a2 true _ A5.out).mono ?_); rintro e w' ⟨rfl, ⟨nd, rfl⟩⟩; refine ⟨_, rfl, ?_⟩))
        have n0_ : Aside0 (((w19.setCell ⟨gb104, 0, none⟩ (.int .i64 t101)).setCell ⟨gb104, 1, none⟩ (.int .i64 t102)).heap[gb104]? = some (.cells #[.int .i64 t101, .int .i64 t102] 43 (0, 0))) := ⟨by (with_reducible repeat (first | refine blk_drewN ?_ _ | refine blk_drew ?_ | refine blk_alloc ?_ _)); refine blk_put (cs := #[.int .i64 t101, .int .i64 0]) ?_ 1 _ rfl; (with_reducible repeat (first | refine blk_drewN ?_ _ | refine blk_drew ?_ | refine blk_alloc ?_ _)); refine blk_put (cs := #[.int .i64 0, .int .i64 0]) ?_ 0 _ rfl; (with_reducible repeat (first | refine blk_drewN ?_ _ | refine blk_drew ?_ | refine blk_alloc ?_ _)); exact BK104.out⟩
        have n1_ : Aside0 (Below w.heap.size w ((w19.setCell ⟨gb104, 0, none⟩ (.int .i64 t101)).setCell ⟨gb104, 1, none⟩ (.int .i64 t102))) := ⟨by repeat (first | (with_reducible first | exact HB.out | apply below_alloc | apply pw_below_drewN | apply below_drew1 | refine below_set ?_ GE104.out) | exact HB.out)⟩
        (try clear BK104)
        (try clear HB)
        generalize ((w19.setCell ⟨gb104, 0, none⟩ (.int .i64 t101)).setCell ⟨gb104, 1, none⟩ (.int .i64 t102)) = w21 at n0_ n1_ ⊢
        have BK104 := n0_
        have HB := n1_
        clear n0_ n1_
        (try (rw [drewN_self w21]; generalize hq_ : World.drewN w21 _ = w21; have n0_ : Aside0 (w21.heap[gb104]? = some (.cells #[.int .i64 t101, .int .i64 t102] 43 (0, 0))) := ⟨by rw [← hq_]; exact (by (with_reducible repeat (first | refine blk_drewN ?_ _ | refine blk_drew ?_ | refine blk_alloc ?_ _)); exact BK104.out)⟩; have n1_ : Aside0 (Below w.heap.size w w21) := ⟨by rw [← hq_]; exact (by repeat (first | (with_reducible first | exact HB.out | apply below_alloc | apply pw_below_drewN | apply below_drew1 | refine below_set ?_ GE104.out) | exact HB.out))⟩; clear BK104 HB hq_; have BK104 := n0_; have HB := n1_; clear n0_ n1_))
        have n0_ := Aside0.mk (blk_drew BK104.out)
        have n1_ := Aside0.mk (below_drew1 HB.out)
        clear BK104
        clear HB
        have BK104 := n0_
        have HB := n1_
        clear n0_ n1_
        refine start_ (n := 14) (S := fun w' => True) (ds := []) #[false, false, false, false, false, false, false, false, false, false, false, false, false, false] (by kernel_rfl) rfl rfl trivial (fun hHeld => ?_); refine with_tabW headroomlaw07_RootsTells.tab4 headroomlaw07_RootsTells.bits4 (fun HT_ HW_ => ?_)
        generalize w21.drew = w22 at BK104 HB hHeld ⊢
        refine one_ (i := 0) (N := some 30) #[true, false, false, false, false, false, false, false, false, false, false, false, false, false] rfl rfl (one_of HT_.out (by kernel_rfl)) (by decide) (fun K hK => ?_)
        refine goes_ Try.func38 (by kernel_rfl) rfl #[] (by rfl) rfl rfl (by (try simp only [List.map_toArray, List.map_cons, List.map_nil]); first | done | rfl | (simp only [List.length_drop, List.length_take]; rfl)) ?_
        with_reducible refine (headroomlaw07_alive.calls  true _ A7.out).mono ?_
        rintro e w23 ⟨rfl, hb⟩
        refine ⟨_, rfl, ?_⟩
        have n0_ := Aside0.mk (blk_below (g := gb104) (o := .cells #[.int .i64 t101, .int .i64 t102] 43 (0, 0)) (by (with_reducible repeat (first | refine blk_drewN ?_ _ | refine blk_drew ?_ | refine blk_alloc ?_ _)); exact BK104.out) hb)
        have n1_ := Aside0.mk (below_step (by repeat (first | (with_reducible first | exact HB.out | apply below_alloc | apply pw_below_drewN | apply below_drew1 | refine below_set ?_ GE104.out) | exact HB.out)) hb)
        clear BK104
        clear HB
        have BK104 := n0_
        have HB := n1_
        clear n0_ n1_
        (try clear hb)
        (try clear hb2)
        (try clear hk)
        (try clear hi)
        refine hK.out _ _ trivial (fun hHeld => ?_)
        clear hK K
        refine norm_ (a' := ?_) ?_ ?_
        rotate_left
        · show Act.put _ (some 30) _ = _
          simp only [Act.put, List.setIfInBounds_toArray, List.set_cons_zero, List.set_cons_succ, i64_w, i32_w]
          rfl
        refine pure_ (i := 1) (N := some 31) (v := ?_) (a' := ?_) #[true, true, false, false, false, false, false, false, false, false, false, false, false, false] rfl rfl (any_of HT_.out (by kernel_rfl)) (fun _ _ _ h => h) (Or.inl ⟨by rfl, ?_⟩) ?_ ?_
        rotate_left
        · intro w'
          go_simp
          with_reducible rfl
        rotate_left
        · simp only [Act.put, List.setIfInBounds_toArray, List.set_cons_zero, List.set_cons_succ, i64_w, i32_w]
          rfl
        refine pure_ (i := 2) (N := some 32) (v := ?_) (a' := ?_) #[true, true, true, false, false, false, false, false, false, false, false, false, false, false] rfl rfl (any_of HT_.out (by kernel_rfl)) (fun _ _ _ h => h) (Or.inl ⟨by rfl, ?_⟩) ?_ ?_
        rotate_left
        · intro w'
          go_simp
          with_reducible rfl
        rotate_left
        · simp only [Act.put, List.setIfInBounds_toArray, List.set_cons_zero, List.set_cons_succ, i64_w, i32_w]
          rfl
        refine pure_ (i := 3) (N := some 33) (v := ?_) (a' := ?_) #[true, true, true, true, false, false, false, false, false, false, false, false, false, false] rfl rfl (any_of HT_.out (by kernel_rfl)) (fun _ _ _ h => h) (Or.inl ⟨by rfl, ?_⟩) ?_ ?_
        rotate_left
        · intro w'
          go_simp
          with_reducible rfl
        rotate_left
        · simp only [Act.put, List.setIfInBounds_toArray, List.set_cons_zero, List.set_cons_succ, i64_w, i32_w]
          rfl
        refine pure_ (i := 4) (N := some 34) (v := ?_) (a' := ?_) #[true, true, true, true, true, false, false, false, false, false, false, false, false, false] rfl rfl (any_of HT_.out (by kernel_rfl)) (fun _ _ _ h => h) (Or.inl ⟨by rfl, ?_⟩) ?_ ?_
        rotate_left
        · intro w'
          go_simp
          with_reducible rfl
        rotate_left
        · simp only [Act.put, List.setIfInBounds_toArray, List.set_cons_zero, List.set_cons_succ, i64_w, i32_w]
          rfl
        refine pure_ (i := 5) (N := some 35) (v := ?_) (a' := ?_) #[true, true, true, true, true, true, false, false, false, false, false, false, false, false] rfl rfl (any_of HT_.out (by kernel_rfl)) (fun _ _ _ h => h) (Or.inl ⟨by rfl, ?_⟩) ?_ ?_
        rotate_left
        · intro w'
          go_simp
          with_reducible rfl
        rotate_left
        · simp only [Act.put, List.setIfInBounds_toArray, List.set_cons_zero, List.set_cons_succ, i64_w, i32_w]
          rfl
        refine pure_ (i := 6) (N := some 36) (v := undef) (a' := ?_) #[true, true, true, true, true, true, true, false, false, false, false, false, false, false] rfl rfl (any_of HT_.out (by kernel_rfl)) (fun _ _ _ h => h) (Or.inr ⟨by rfl, rfl⟩) ?_ ?_
        rotate_left
        · simp only [Act.put, List.setIfInBounds_toArray, List.set_cons_zero, List.set_cons_succ, i64_w, i32_w]
          rfl
        refine pure_ (i := 7) (N := some 37) (v := undef) (a' := ?_) #[true, true, true, true, true, true, true, true, false, false, false, false, false, false] rfl rfl (any_of HT_.out (by kernel_rfl)) (fun _ _ _ h => h) (Or.inr ⟨by rfl, rfl⟩) ?_ ?_
        rotate_left
        · simp only [Act.put, List.setIfInBounds_toArray, List.set_cons_zero, List.set_cons_succ, i64_w, i32_w]
          rfl
        refine pure_ (i := 8) (N := some 38) (v := undef) (a' := ?_) #[true, true, true, true, true, true, true, true, true, false, false, false, false, false] rfl rfl (any_of HT_.out (by kernel_rfl)) (fun _ _ _ h => h) (Or.inr ⟨by rfl, rfl⟩) ?_ ?_
        rotate_left
        · simp only [Act.put, List.setIfInBounds_toArray, List.set_cons_zero, List.set_cons_succ, i64_w, i32_w]
          rfl
        refine pure_ (i := 9) (N := some 39) (v := undef) (a' := ?_) #[true, true, true, true, true, true, true, true, true, true, false, false, false, false] rfl rfl (any_of HT_.out (by kernel_rfl)) (fun _ _ _ h => h) (Or.inr ⟨by rfl, rfl⟩) ?_ ?_
        rotate_left
        · simp only [Act.put, List.setIfInBounds_toArray, List.set_cons_zero, List.set_cons_succ, i64_w, i32_w]
          rfl
        refine pure_ (i := 10) (N := some 40) (v := undef) (a' := ?_) #[true, true, true, true, true, true, true, true, true, true, true, false, false, false] rfl rfl (any_of HT_.out (by kernel_rfl)) (fun _ _ _ h => h) (Or.inr ⟨by rfl, rfl⟩) ?_ ?_
        rotate_left
        · simp only [Act.put, List.setIfInBounds_toArray, List.set_cons_zero, List.set_cons_succ, i64_w, i32_w]
          rfl
        refine pure_ (i := 11) (N := some 41) (v := undef) (a' := ?_) #[true, true, true, true, true, true, true, true, true, true, true, true, false, false] rfl rfl (any_of HT_.out (by kernel_rfl)) (fun _ _ _ h => h) (Or.inr ⟨by rfl, rfl⟩) ?_ ?_
        rotate_left
        · simp only [Act.put, List.setIfInBounds_toArray, List.set_cons_zero, List.set_cons_succ, i64_w, i32_w]
          rfl
        refine pure_ (i := 12) (N := some 42) (v := ?_) (a' := ?_) #[true, true, true, true, true, true, true, true, true, true, true, true, true, false] rfl rfl (any_of HT_.out (by kernel_rfl)) (fun _ _ _ h => h) (Or.inl ⟨by rfl, ?_⟩) ?_ ?_
        rotate_left
        · intro w'
          go_simp
          with_reducible rfl
        rotate_left
        · simp only [Act.put, List.setIfInBounds_toArray, List.set_cons_zero, List.set_cons_succ, i64_w, i32_w]
          rfl
        refine pure_ (i := 13) (N := some 6) (v := ?_) (a' := ?_) #[true, true, true, true, true, true, true, true, true, true, true, true, true, true] rfl rfl (any_of HT_.out (by kernel_rfl)) (fun _ _ _ h => h) (Or.inl ⟨by rfl, ?_⟩) ?_ ?_
        rotate_left
        · intro w'
          go_simp
          with_reducible rfl
        rotate_left
        · simp only [Act.put, List.setIfInBounds_toArray, List.set_cons_zero, List.set_cons_succ, i64_w, i32_w]
          rfl
        refine done_ (done_of HT_.out (by kernel_rfl)) ?_
        try go_wp2
        go_ret
        exact ⟨by first | rfl | (simp [errW_none, errW_some] <;> rfl) | (simp [*, errW_none, errW_some] <;> rfl), by repeat (first | (with_reducible first | exact HB.out | apply below_alloc | apply pw_below_drewN | apply below_drew1 | refine below_set ?_ GE104.out) | exact HB.out)⟩
    · replace c8 := Bool.eq_false_iff.mpr c8
      subst c8
      have H1 : (some false) = some r := by rw [if_neg (show ¬ (false = true) by decide)] at H; exact H
      clear H
      have H := H1
      clear H1
      obtain rfl := Option.some.inj H
      go_enter Try.func8, Try.ntmps8
      try go_wp2_with (first | ((with_reducible refine gate_callee (f := 36) rfl ?_); refine goesL_ (some 13) rfl rfl Try.func36 (by kernel_rfl) rfl #[.int .i64 a0, .int .i64 a1, .int .i64 a2] rfl (by (try simp only [List.map_toArray, List.map_cons, List.map_nil]); first | done | rfl | (simp only [List.length_drop, List.length_take]; rfl)) ?_; (with_reducible refine (roots_Root.calls a0 a1 a2 t101 t102 t103 _ A4.out).mono ?_); rintro e w24 ⟨rfl, hb⟩; refine ⟨_, rfl, ?_⟩; have n0_ := Aside0.mk (below_step (by repeat (first | (with_reducible first | exact HB.out | apply below_alloc | apply pw_below_drewN | apply below_drew1) | exact HB.out)) hb); clear HB; have HB := n0_; clear n0_; (try clear hb); (try clear hb2); (try clear hk); (try clear hi)) | ((with_reducible refine gate_dst (N := 7) rfl ?_); refine box_event ?hg (N := 7) ?hd (cs := #[.int .i64 0, .int .i64 0]) (t := 43) ?hr ?_; (case hd => rfl); (case hg => rfl); (case hr => first | (go_simp; done) | (go_simp; rfl)); intro gb104 hg w25 hbox hb; have n0_ := Aside0.mk (below_step (by repeat (first | (with_reducible first | exact HB.out | apply below_alloc | apply pw_below_drewN | apply below_drew1) | exact HB.out)) hb); have n1_ := Aside0.mk (hbox); have n2_ := Aside0.mk ((by rw [hg]; exact (below_size (by repeat (first | (with_reducible first | exact HB.out | apply below_alloc | apply pw_below_drewN | apply below_drew1) | exact HB.out))) : w.heap.size ≤ gb104)); have n3_ := Aside0.mk ((by rw [hg]; exact (below_size (by repeat (first | (with_reducible first | exact HB.out | apply below_alloc | apply pw_below_drewN | apply below_drew1) | exact HB.out))) : w.heap.size ≤ gb104)); clear HB; have HB := n0_; have BK104 := n1_; have GW104 := n2_; have GE104 := n3_; clear n0_ n1_ n2_ n3_; clear hb hbox hg; have hcz26_0 : w25.cell? ⟨gb104, 0, none⟩ = some (.int .i64 0) := (blk_cell BK104.out 0).trans rfl; have hcz26_1 : w25.cell? ⟨gb104, 1, none⟩ = some (.int .i64 0) := (blk_cell BK104.out 1).trans rfl; have hfz26_0 := blk_frozen BK104.out 0; have hfz26_1 := blk_frozen BK104.out 1) | ((with_reducible refine gate_callee (f := 37) rfl ?_); refine goesL_ (some 18) rfl rfl Try.func37 (by kernel_rfl) rfl #[.int .i64 a0, .int .i64 a2] rfl (by (try simp only [List.map_toArray, List.map_cons, List.map_nil]); first | done | rfl | (simp only [List.length_drop, List.length_take]; rfl)) ?_; (with_reducible refine (headroomref07_May.calls a0 a2 true _ A5.out).mono ?_); rintro e w' ⟨rfl, ⟨nd, rfl⟩⟩; refine ⟨_, rfl, ?_⟩))
      have n0_ : Aside0 (((w25.setCell ⟨gb104, 0, none⟩ (.int .i64 t101)).setCell ⟨gb104, 1, none⟩ (.int .i64 t102)).heap[gb104]? = some (.cells #[.int .i64 t101, .int .i64 t102] 43 (0, 0))) := ⟨by (with_reducible repeat (first | refine blk_drewN ?_ _ | refine blk_drew ?_ | refine blk_alloc ?_ _)); refine blk_put (cs := #[.int .i64 t101, .int .i64 0]) ?_ 1 _ rfl; (with_reducible repeat (first | refine blk_drewN ?_ _ | refine blk_drew ?_ | refine blk_alloc ?_ _)); refine blk_put (cs := #[.int .i64 0, .int .i64 0]) ?_ 0 _ rfl; (with_reducible repeat (first | refine blk_drewN ?_ _ | refine blk_drew ?_ | refine blk_alloc ?_ _)); exact BK104.out⟩
      have n1_ : Aside0 (Below w.heap.size w ((w25.setCell ⟨gb104, 0, none⟩ (.int .i64 t101)).setCell ⟨gb104, 1, none⟩ (.int .i64 t102))) := ⟨by repeat (first | (with_reducible first | exact HB.out | apply below_alloc | apply pw_below_drewN | apply below_drew1 | refine below_set ?_ GE104.out) | exact HB.out)⟩
      (try clear BK104)
      (try clear HB)
      generalize ((w25.setCell ⟨gb104, 0, none⟩ (.int .i64 t101)).setCell ⟨gb104, 1, none⟩ (.int .i64 t102)) = w27 at n0_ n1_ ⊢
      have BK104 := n0_
      have HB := n1_
      clear n0_ n1_
      (try (rw [drewN_self w27]; generalize hq_ : World.drewN w27 _ = w27; have n0_ : Aside0 (w27.heap[gb104]? = some (.cells #[.int .i64 t101, .int .i64 t102] 43 (0, 0))) := ⟨by rw [← hq_]; exact (by (with_reducible repeat (first | refine blk_drewN ?_ _ | refine blk_drew ?_ | refine blk_alloc ?_ _)); exact BK104.out)⟩; have n1_ : Aside0 (Below w.heap.size w w27) := ⟨by rw [← hq_]; exact (by repeat (first | (with_reducible first | exact HB.out | apply below_alloc | apply pw_below_drewN | apply below_drew1 | refine below_set ?_ GE104.out) | exact HB.out))⟩; clear BK104 HB hq_; have BK104 := n0_; have HB := n1_; clear n0_ n1_))
      have n0_ := Aside0.mk (blk_drew BK104.out)
      have n1_ := Aside0.mk (below_drew1 HB.out)
      clear BK104
      clear HB
      have BK104 := n0_
      have HB := n1_
      clear n0_ n1_
      refine start_ (n := 14) (S := fun w' => True) (ds := []) #[false, false, false, false, false, false, false, false, false, false, false, false, false, false] (by kernel_rfl) rfl rfl trivial (fun hHeld => ?_); refine with_tabW headroomlaw07_RootsTells.tab4 headroomlaw07_RootsTells.bits4 (fun HT_ HW_ => ?_)
      generalize w27.drew = w28 at BK104 HB hHeld ⊢
      refine one_ (i := 0) (N := some 30) #[true, false, false, false, false, false, false, false, false, false, false, false, false, false] rfl rfl (one_of HT_.out (by kernel_rfl)) (by decide) (fun K hK => ?_)
      refine goes_ Try.func38 (by kernel_rfl) rfl #[] (by rfl) rfl rfl (by (try simp only [List.map_toArray, List.map_cons, List.map_nil]); first | done | rfl | (simp only [List.length_drop, List.length_take]; rfl)) ?_
      with_reducible refine (headroomlaw07_alive.calls  false _ A7.out).mono ?_
      rintro e w29 ⟨rfl, hb⟩
      refine ⟨_, rfl, ?_⟩
      have n0_ := Aside0.mk (blk_below (g := gb104) (o := .cells #[.int .i64 t101, .int .i64 t102] 43 (0, 0)) (by (with_reducible repeat (first | refine blk_drewN ?_ _ | refine blk_drew ?_ | refine blk_alloc ?_ _)); exact BK104.out) hb)
      have n1_ := Aside0.mk (below_step (by repeat (first | (with_reducible first | exact HB.out | apply below_alloc | apply pw_below_drewN | apply below_drew1 | refine below_set ?_ GE104.out) | exact HB.out)) hb)
      clear BK104
      clear HB
      have BK104 := n0_
      have HB := n1_
      clear n0_ n1_
      (try clear hb)
      (try clear hb2)
      (try clear hk)
      (try clear hi)
      refine hK.out _ _ trivial (fun hHeld => ?_)
      clear hK K
      refine norm_ (a' := ?_) ?_ ?_
      rotate_left
      · show Act.put _ (some 30) _ = _
        simp only [Act.put, List.setIfInBounds_toArray, List.set_cons_zero, List.set_cons_succ, i64_w, i32_w]
        rfl
      refine pure_ (i := 1) (N := some 31) (v := ?_) (a' := ?_) #[true, true, false, false, false, false, false, false, false, false, false, false, false, false] rfl rfl (any_of HT_.out (by kernel_rfl)) (fun _ _ _ h => h) (Or.inl ⟨by rfl, ?_⟩) ?_ ?_
      rotate_left
      · intro w'
        go_simp
        with_reducible rfl
      rotate_left
      · simp only [Act.put, List.setIfInBounds_toArray, List.set_cons_zero, List.set_cons_succ, i64_w, i32_w]
        rfl
      refine pure_ (i := 2) (N := some 32) (v := undef) (a' := ?_) #[true, true, true, false, false, false, false, false, false, false, false, false, false, false] rfl rfl (any_of HT_.out (by kernel_rfl)) (fun _ _ _ h => h) (Or.inr ⟨by rfl, rfl⟩) ?_ ?_
      rotate_left
      · simp only [Act.put, List.setIfInBounds_toArray, List.set_cons_zero, List.set_cons_succ, i64_w, i32_w]
        rfl
      refine pure_ (i := 3) (N := some 33) (v := undef) (a' := ?_) #[true, true, true, true, false, false, false, false, false, false, false, false, false, false] rfl rfl (any_of HT_.out (by kernel_rfl)) (fun _ _ _ h => h) (Or.inr ⟨by rfl, rfl⟩) ?_ ?_
      rotate_left
      · simp only [Act.put, List.setIfInBounds_toArray, List.set_cons_zero, List.set_cons_succ, i64_w, i32_w]
        rfl
      refine pure_ (i := 4) (N := some 34) (v := ?_) (a' := ?_) #[true, true, true, true, true, false, false, false, false, false, false, false, false, false] rfl rfl (any_of HT_.out (by kernel_rfl)) (fun _ _ _ h => h) (Or.inl ⟨by rfl, ?_⟩) ?_ ?_
      rotate_left
      · intro w'
        go_simp
        with_reducible rfl
      rotate_left
      · simp only [Act.put, List.setIfInBounds_toArray, List.set_cons_zero, List.set_cons_succ, i64_w, i32_w]
        rfl
      refine pure_ (i := 5) (N := some 35) (v := ?_) (a' := ?_) #[true, true, true, true, true, true, false, false, false, false, false, false, false, false] rfl rfl (any_of HT_.out (by kernel_rfl)) (fun _ _ _ h => h) (Or.inl ⟨by rfl, ?_⟩) ?_ ?_
      rotate_left
      · intro w'
        go_simp
        with_reducible rfl
      rotate_left
      · simp only [Act.put, List.setIfInBounds_toArray, List.set_cons_zero, List.set_cons_succ, i64_w, i32_w]
        rfl
      refine pure_ (i := 6) (N := some 36) (v := undef) (a' := ?_) #[true, true, true, true, true, true, true, false, false, false, false, false, false, false] rfl rfl (any_of HT_.out (by kernel_rfl)) (fun _ _ _ h => h) (Or.inr ⟨by rfl, rfl⟩) ?_ ?_
      rotate_left
      · simp only [Act.put, List.setIfInBounds_toArray, List.set_cons_zero, List.set_cons_succ, i64_w, i32_w]
        rfl
      refine pure_ (i := 7) (N := some 37) (v := undef) (a' := ?_) #[true, true, true, true, true, true, true, true, false, false, false, false, false, false] rfl rfl (any_of HT_.out (by kernel_rfl)) (fun _ _ _ h => h) (Or.inr ⟨by rfl, rfl⟩) ?_ ?_
      rotate_left
      · simp only [Act.put, List.setIfInBounds_toArray, List.set_cons_zero, List.set_cons_succ, i64_w, i32_w]
        rfl
      refine pure_ (i := 8) (N := some 38) (v := undef) (a' := ?_) #[true, true, true, true, true, true, true, true, true, false, false, false, false, false] rfl rfl (any_of HT_.out (by kernel_rfl)) (fun _ _ _ h => h) (Or.inr ⟨by rfl, rfl⟩) ?_ ?_
      rotate_left
      · simp only [Act.put, List.setIfInBounds_toArray, List.set_cons_zero, List.set_cons_succ, i64_w, i32_w]
        rfl
      refine pure_ (i := 9) (N := some 39) (v := undef) (a' := ?_) #[true, true, true, true, true, true, true, true, true, true, false, false, false, false] rfl rfl (any_of HT_.out (by kernel_rfl)) (fun _ _ _ h => h) (Or.inr ⟨by rfl, rfl⟩) ?_ ?_
      rotate_left
      · simp only [Act.put, List.setIfInBounds_toArray, List.set_cons_zero, List.set_cons_succ, i64_w, i32_w]
        rfl
      refine pure_ (i := 10) (N := some 40) (v := undef) (a' := ?_) #[true, true, true, true, true, true, true, true, true, true, true, false, false, false] rfl rfl (any_of HT_.out (by kernel_rfl)) (fun _ _ _ h => h) (Or.inr ⟨by rfl, rfl⟩) ?_ ?_
      rotate_left
      · simp only [Act.put, List.setIfInBounds_toArray, List.set_cons_zero, List.set_cons_succ, i64_w, i32_w]
        rfl
      refine pure_ (i := 11) (N := some 41) (v := undef) (a' := ?_) #[true, true, true, true, true, true, true, true, true, true, true, true, false, false] rfl rfl (any_of HT_.out (by kernel_rfl)) (fun _ _ _ h => h) (Or.inr ⟨by rfl, rfl⟩) ?_ ?_
      rotate_left
      · simp only [Act.put, List.setIfInBounds_toArray, List.set_cons_zero, List.set_cons_succ, i64_w, i32_w]
        rfl
      refine pure_ (i := 12) (N := some 42) (v := ?_) (a' := ?_) #[true, true, true, true, true, true, true, true, true, true, true, true, true, false] rfl rfl (any_of HT_.out (by kernel_rfl)) (fun _ _ _ h => h) (Or.inl ⟨by rfl, ?_⟩) ?_ ?_
      rotate_left
      · intro w'
        go_simp
        with_reducible rfl
      rotate_left
      · simp only [Act.put, List.setIfInBounds_toArray, List.set_cons_zero, List.set_cons_succ, i64_w, i32_w]
        rfl
      refine pure_ (i := 13) (N := some 6) (v := ?_) (a' := ?_) #[true, true, true, true, true, true, true, true, true, true, true, true, true, true] rfl rfl (any_of HT_.out (by kernel_rfl)) (fun _ _ _ h => h) (Or.inl ⟨by rfl, ?_⟩) ?_ ?_
      rotate_left
      · intro w'
        go_simp
        with_reducible rfl
      rotate_left
      · simp only [Act.put, List.setIfInBounds_toArray, List.set_cons_zero, List.set_cons_succ, i64_w, i32_w]
        rfl
      refine done_ (done_of HT_.out (by kernel_rfl)) ?_
      try go_wp2
      go_ret
      exact ⟨by first | rfl | (simp [errW_none, errW_some] <;> rfl) | (simp [*, errW_none, errW_some] <;> rfl), by repeat (first | (with_reducible first | exact HB.out | apply below_alloc | apply pw_below_drewN | apply below_drew1 | refine below_set ?_ GE104.out) | exact HB.out)⟩
  · replace c6 := Bool.eq_false_iff.mpr c6
    subst c6
    have H1 : ((headroomlaw07_alive.f).bind fun t109 => (if t109 = true then (if t103 = 1 then (some (t101 == 0 && (t102 == 0))) else (some false)) else (some false))) = some r := by rw [if_neg (show ¬ (false = true) by decide)] at H; exact H
    clear H
    have H := H1
    clear H1
    replace H := Option.bind_eq_some_iff.mp H
    obtain ⟨t109, A300, H⟩ := H
    replace H : (if t109 = true then (if t103 = 1 then (some (t101 == 0 && (t102 == 0))) else (some false)) else (some false)) = some r := H
    have A30 := Aside0.mk A300
    clear A300
    by_cases c31 : t109 = true
    · subst c31
      have H1 : (if t103 = 1 then (some (t101 == 0 && (t102 == 0))) else (some false)) = some r := by rw [if_pos rfl] at H; exact H
      clear H
      have H := H1
      clear H1
      by_cases c32 : t103 = 1
      · rw [if_pos c32] at H
        have c32b0 : (t103 == 1) = true := beq_iff_eq.mpr c32
        have c32b1 : (t103 != 1) = false := bne_eq_false_iff_eq.mpr c32
        clear c32
        obtain rfl := Option.some.inj H
        go_enter Try.func8, Try.ntmps8
        go_wp2_with (first | ((with_reducible refine gate_callee (f := 36) rfl ?_); refine goesL_ (some 13) rfl rfl Try.func36 (by kernel_rfl) rfl #[.int .i64 a0, .int .i64 a1, .int .i64 a2] rfl (by (try simp only [List.map_toArray, List.map_cons, List.map_nil]); first | done | rfl | (simp only [List.length_drop, List.length_take]; rfl)) ?_; (with_reducible refine (roots_Root.calls a0 a1 a2 t101 t102 t103 _ A4.out).mono ?_); rintro e w33 ⟨rfl, hb⟩; refine ⟨_, rfl, ?_⟩; have n0_ := Aside0.mk (below_step (by repeat (first | (with_reducible first | exact HB.out | apply below_alloc | apply pw_below_drewN | apply below_drew1) | exact HB.out)) hb); clear HB; have HB := n0_; clear n0_; (try clear hb); (try clear hb2); (try clear hk); (try clear hi)) | ((with_reducible refine gate_dst (N := 7) rfl ?_); refine box_event ?hg (N := 7) ?hd (cs := #[.int .i64 0, .int .i64 0]) (t := 43) ?hr ?_; (case hd => rfl); (case hg => rfl); (case hr => first | (go_simp; done) | (go_simp; rfl)); intro gb104 hg w34 hbox hb; have n0_ := Aside0.mk (below_step (by repeat (first | (with_reducible first | exact HB.out | apply below_alloc | apply pw_below_drewN | apply below_drew1) | exact HB.out)) hb); have n1_ := Aside0.mk (hbox); have n2_ := Aside0.mk ((by rw [hg]; exact (below_size (by repeat (first | (with_reducible first | exact HB.out | apply below_alloc | apply pw_below_drewN | apply below_drew1) | exact HB.out))) : w.heap.size ≤ gb104)); have n3_ := Aside0.mk ((by rw [hg]; exact (below_size (by repeat (first | (with_reducible first | exact HB.out | apply below_alloc | apply pw_below_drewN | apply below_drew1) | exact HB.out))) : w.heap.size ≤ gb104)); clear HB; have HB := n0_; have BK104 := n1_; have GW104 := n2_; have GE104 := n3_; clear n0_ n1_ n2_ n3_; clear hb hbox hg; have hcz35_0 : w34.cell? ⟨gb104, 0, none⟩ = some (.int .i64 0) := (blk_cell BK104.out 0).trans rfl; have hcz35_1 : w34.cell? ⟨gb104, 1, none⟩ = some (.int .i64 0) := (blk_cell BK104.out 1).trans rfl; have hfz35_0 := blk_frozen BK104.out 0; have hfz35_1 := blk_frozen BK104.out 1) | ((with_reducible refine gate_callee (f := 37) rfl ?_); refine goesL_ (some 18) rfl rfl Try.func37 (by kernel_rfl) rfl #[.int .i64 a0, .int .i64 a2] rfl (by (try simp only [List.map_toArray, List.map_cons, List.map_nil]); first | done | rfl | (simp only [List.length_drop, List.length_take]; rfl)) ?_; (with_reducible refine (headroomref07_May.calls a0 a2 false _ A5.out).mono ?_); rintro e w' ⟨rfl, ⟨nd, rfl⟩⟩; refine ⟨_, rfl, ?_⟩) | ((with_reducible refine gate_callee (f := 38) rfl ?_); refine goesL_ (some 20) rfl rfl Try.func38 (by kernel_rfl) rfl #[] rfl (by (try simp only [List.map_toArray, List.map_cons, List.map_nil]); first | done | rfl | (simp only [List.length_drop, List.length_take]; rfl)) ?_; (with_reducible refine (headroomlaw07_alive.calls  true _ A30.out).mono ?_); rintro e w36 ⟨rfl, hb⟩; refine ⟨_, rfl, ?_⟩; have n0_ := Aside0.mk (blk_below (g := gb104) (o := .cells #[.int .i64 t101, .int .i64 t102] 43 (0, 0)) (by (with_reducible repeat (first | refine blk_drewN ?_ _ | refine blk_drew ?_ | refine blk_alloc ?_ _)); refine blk_put (cs := #[.int .i64 t101, .int .i64 0]) ?_ 1 _ rfl; (with_reducible repeat (first | refine blk_drewN ?_ _ | refine blk_drew ?_ | refine blk_alloc ?_ _)); refine blk_put (cs := #[.int .i64 0, .int .i64 0]) ?_ 0 _ rfl; (with_reducible repeat (first | refine blk_drewN ?_ _ | refine blk_drew ?_ | refine blk_alloc ?_ _)); exact BK104.out) hb); have n1_ := Aside0.mk (below_step (by repeat (first | (with_reducible first | exact HB.out | apply below_alloc | apply pw_below_drewN | apply below_drew1 | refine below_set ?_ GE104.out) | exact HB.out)) hb); clear BK104; clear HB; have BK104 := n0_; have HB := n1_; clear n0_ n1_; (try clear hb); (try clear hb2); (try clear hk); (try clear hi); have hcz37_0 : w36.cell? ⟨gb104, 0, none⟩ = some (.int .i64 t101) := (blk_cell BK104.out 0).trans rfl; have hcz37_1 : w36.cell? ⟨gb104, 1, none⟩ = some (.int .i64 t102) := (blk_cell BK104.out 1).trans rfl; have hfz37_0 := blk_frozen BK104.out 0; have hfz37_1 := blk_frozen BK104.out 1))
        go_ret
        exact ⟨by first | rfl | (simp [errW_none, errW_some] <;> rfl) | (simp [*, errW_none, errW_some] <;> rfl), by repeat (first | (with_reducible first | exact HB.out | apply below_alloc | apply pw_below_drewN | apply below_drew1 | refine below_set ?_ GE104.out) | exact HB.out)⟩
      · rw [if_neg c32] at H
        have c32b0 : (t103 == 1) = false := beq_eq_false_iff_ne.mpr c32
        have c32b1 : (t103 != 1) = true := bne_iff_ne.mpr c32
        obtain rfl := Option.some.inj H
        go_enter Try.func8, Try.ntmps8
        go_wp2_with (first | ((with_reducible refine gate_callee (f := 36) rfl ?_); refine goesL_ (some 13) rfl rfl Try.func36 (by kernel_rfl) rfl #[.int .i64 a0, .int .i64 a1, .int .i64 a2] rfl (by (try simp only [List.map_toArray, List.map_cons, List.map_nil]); first | done | rfl | (simp only [List.length_drop, List.length_take]; rfl)) ?_; (with_reducible refine (roots_Root.calls a0 a1 a2 t101 t102 t103 _ A4.out).mono ?_); rintro e w38 ⟨rfl, hb⟩; refine ⟨_, rfl, ?_⟩; have n0_ := Aside0.mk (below_step (by repeat (first | (with_reducible first | exact HB.out | apply below_alloc | apply pw_below_drewN | apply below_drew1) | exact HB.out)) hb); clear HB; have HB := n0_; clear n0_; (try clear hb); (try clear hb2); (try clear hk); (try clear hi)) | ((with_reducible refine gate_dst (N := 7) rfl ?_); refine box_event ?hg (N := 7) ?hd (cs := #[.int .i64 0, .int .i64 0]) (t := 43) ?hr ?_; (case hd => rfl); (case hg => rfl); (case hr => first | (go_simp; done) | (go_simp; rfl)); intro gb104 hg w39 hbox hb; have n0_ := Aside0.mk (below_step (by repeat (first | (with_reducible first | exact HB.out | apply below_alloc | apply pw_below_drewN | apply below_drew1) | exact HB.out)) hb); have n1_ := Aside0.mk (hbox); have n2_ := Aside0.mk ((by rw [hg]; exact (below_size (by repeat (first | (with_reducible first | exact HB.out | apply below_alloc | apply pw_below_drewN | apply below_drew1) | exact HB.out))) : w.heap.size ≤ gb104)); have n3_ := Aside0.mk ((by rw [hg]; exact (below_size (by repeat (first | (with_reducible first | exact HB.out | apply below_alloc | apply pw_below_drewN | apply below_drew1) | exact HB.out))) : w.heap.size ≤ gb104)); clear HB; have HB := n0_; have BK104 := n1_; have GW104 := n2_; have GE104 := n3_; clear n0_ n1_ n2_ n3_; clear hb hbox hg; have hcz40_0 : w39.cell? ⟨gb104, 0, none⟩ = some (.int .i64 0) := (blk_cell BK104.out 0).trans rfl; have hcz40_1 : w39.cell? ⟨gb104, 1, none⟩ = some (.int .i64 0) := (blk_cell BK104.out 1).trans rfl; have hfz40_0 := blk_frozen BK104.out 0; have hfz40_1 := blk_frozen BK104.out 1) | ((with_reducible refine gate_callee (f := 37) rfl ?_); refine goesL_ (some 18) rfl rfl Try.func37 (by kernel_rfl) rfl #[.int .i64 a0, .int .i64 a2] rfl (by (try simp only [List.map_toArray, List.map_cons, List.map_nil]); first | done | rfl | (simp only [List.length_drop, List.length_take]; rfl)) ?_; (with_reducible refine (headroomref07_May.calls a0 a2 false _ A5.out).mono ?_); rintro e w' ⟨rfl, ⟨nd, rfl⟩⟩; refine ⟨_, rfl, ?_⟩) | ((with_reducible refine gate_callee (f := 38) rfl ?_); refine goesL_ (some 20) rfl rfl Try.func38 (by kernel_rfl) rfl #[] rfl (by (try simp only [List.map_toArray, List.map_cons, List.map_nil]); first | done | rfl | (simp only [List.length_drop, List.length_take]; rfl)) ?_; (with_reducible refine (headroomlaw07_alive.calls  true _ A30.out).mono ?_); rintro e w41 ⟨rfl, hb⟩; refine ⟨_, rfl, ?_⟩; have n0_ := Aside0.mk (blk_below (g := gb104) (o := .cells #[.int .i64 t101, .int .i64 t102] 43 (0, 0)) (by (with_reducible repeat (first | refine blk_drewN ?_ _ | refine blk_drew ?_ | refine blk_alloc ?_ _)); refine blk_put (cs := #[.int .i64 t101, .int .i64 0]) ?_ 1 _ rfl; (with_reducible repeat (first | refine blk_drewN ?_ _ | refine blk_drew ?_ | refine blk_alloc ?_ _)); refine blk_put (cs := #[.int .i64 0, .int .i64 0]) ?_ 0 _ rfl; (with_reducible repeat (first | refine blk_drewN ?_ _ | refine blk_drew ?_ | refine blk_alloc ?_ _)); exact BK104.out) hb); have n1_ := Aside0.mk (below_step (by repeat (first | (with_reducible first | exact HB.out | apply below_alloc | apply pw_below_drewN | apply below_drew1 | refine below_set ?_ GE104.out) | exact HB.out)) hb); clear BK104; clear HB; have BK104 := n0_; have HB := n1_; clear n0_ n1_; (try clear hb); (try clear hb2); (try clear hk); (try clear hi)))
        go_ret
        exact ⟨by first | rfl | (simp [errW_none, errW_some] <;> rfl) | (simp [*, errW_none, errW_some] <;> rfl), by repeat (first | (with_reducible first | exact HB.out | apply below_alloc | apply pw_below_drewN | apply below_drew1 | refine below_set ?_ GE104.out) | exact HB.out)⟩
    · replace c31 := Bool.eq_false_iff.mpr c31
      subst c31
      have H1 : (some false) = some r := by rw [if_neg (show ¬ (false = true) by decide)] at H; exact H
      clear H
      have H := H1
      clear H1
      obtain rfl := Option.some.inj H
      go_enter Try.func8, Try.ntmps8
      go_wp2_with (first | ((with_reducible refine gate_callee (f := 36) rfl ?_); refine goesL_ (some 13) rfl rfl Try.func36 (by kernel_rfl) rfl #[.int .i64 a0, .int .i64 a1, .int .i64 a2] rfl (by (try simp only [List.map_toArray, List.map_cons, List.map_nil]); first | done | rfl | (simp only [List.length_drop, List.length_take]; rfl)) ?_; (with_reducible refine (roots_Root.calls a0 a1 a2 t101 t102 t103 _ A4.out).mono ?_); rintro e w42 ⟨rfl, hb⟩; refine ⟨_, rfl, ?_⟩; have n0_ := Aside0.mk (below_step (by repeat (first | (with_reducible first | exact HB.out | apply below_alloc | apply pw_below_drewN | apply below_drew1) | exact HB.out)) hb); clear HB; have HB := n0_; clear n0_; (try clear hb); (try clear hb2); (try clear hk); (try clear hi)) | ((with_reducible refine gate_dst (N := 7) rfl ?_); refine box_event ?hg (N := 7) ?hd (cs := #[.int .i64 0, .int .i64 0]) (t := 43) ?hr ?_; (case hd => rfl); (case hg => rfl); (case hr => first | (go_simp; done) | (go_simp; rfl)); intro gb104 hg w43 hbox hb; have n0_ := Aside0.mk (below_step (by repeat (first | (with_reducible first | exact HB.out | apply below_alloc | apply pw_below_drewN | apply below_drew1) | exact HB.out)) hb); have n1_ := Aside0.mk (hbox); have n2_ := Aside0.mk ((by rw [hg]; exact (below_size (by repeat (first | (with_reducible first | exact HB.out | apply below_alloc | apply pw_below_drewN | apply below_drew1) | exact HB.out))) : w.heap.size ≤ gb104)); have n3_ := Aside0.mk ((by rw [hg]; exact (below_size (by repeat (first | (with_reducible first | exact HB.out | apply below_alloc | apply pw_below_drewN | apply below_drew1) | exact HB.out))) : w.heap.size ≤ gb104)); clear HB; have HB := n0_; have BK104 := n1_; have GW104 := n2_; have GE104 := n3_; clear n0_ n1_ n2_ n3_; clear hb hbox hg; have hcz44_0 : w43.cell? ⟨gb104, 0, none⟩ = some (.int .i64 0) := (blk_cell BK104.out 0).trans rfl; have hcz44_1 : w43.cell? ⟨gb104, 1, none⟩ = some (.int .i64 0) := (blk_cell BK104.out 1).trans rfl; have hfz44_0 := blk_frozen BK104.out 0; have hfz44_1 := blk_frozen BK104.out 1) | ((with_reducible refine gate_callee (f := 37) rfl ?_); refine goesL_ (some 18) rfl rfl Try.func37 (by kernel_rfl) rfl #[.int .i64 a0, .int .i64 a2] rfl (by (try simp only [List.map_toArray, List.map_cons, List.map_nil]); first | done | rfl | (simp only [List.length_drop, List.length_take]; rfl)) ?_; (with_reducible refine (headroomref07_May.calls a0 a2 false _ A5.out).mono ?_); rintro e w' ⟨rfl, ⟨nd, rfl⟩⟩; refine ⟨_, rfl, ?_⟩) | ((with_reducible refine gate_callee (f := 38) rfl ?_); refine goesL_ (some 20) rfl rfl Try.func38 (by kernel_rfl) rfl #[] rfl (by (try simp only [List.map_toArray, List.map_cons, List.map_nil]); first | done | rfl | (simp only [List.length_drop, List.length_take]; rfl)) ?_; (with_reducible refine (headroomlaw07_alive.calls  false _ A30.out).mono ?_); rintro e w45 ⟨rfl, hb⟩; refine ⟨_, rfl, ?_⟩; have n0_ := Aside0.mk (blk_below (g := gb104) (o := .cells #[.int .i64 t101, .int .i64 t102] 43 (0, 0)) (by (with_reducible repeat (first | refine blk_drewN ?_ _ | refine blk_drew ?_ | refine blk_alloc ?_ _)); refine blk_put (cs := #[.int .i64 t101, .int .i64 0]) ?_ 1 _ rfl; (with_reducible repeat (first | refine blk_drewN ?_ _ | refine blk_drew ?_ | refine blk_alloc ?_ _)); refine blk_put (cs := #[.int .i64 0, .int .i64 0]) ?_ 0 _ rfl; (with_reducible repeat (first | refine blk_drewN ?_ _ | refine blk_drew ?_ | refine blk_alloc ?_ _)); exact BK104.out) hb); have n1_ := Aside0.mk (below_step (by repeat (first | (with_reducible first | exact HB.out | apply below_alloc | apply pw_below_drewN | apply below_drew1 | refine below_set ?_ GE104.out) | exact HB.out)) hb); clear BK104; clear HB; have BK104 := n0_; have HB := n1_; clear n0_ n1_; (try clear hb); (try clear hb2); (try clear hk); (try clear hi)))
      go_ret
      exact ⟨by first | rfl | (simp [errW_none, errW_some] <;> rfl) | (simp [*, errW_none, errW_some] <;> rfl), by repeat (first | (with_reducible first | exact HB.out | apply below_alloc | apply pw_below_drewN | apply below_drew1 | refine below_set ?_ GE104.out) | exact HB.out)⟩

/-- THE ONE PURE STATEMENT of headroomlaw07_RootsTells: yours. -/
def headroomlaw07_RootsTells.Pure : Prop := ∀ (a0 : Int) (a1 : Int) (a2 : Int), (Lit.int .i64 a0).wf = true → (Lit.int .i64 a1).wf = true → (Lit.int .i64 a2).wf = true → ∃ k, headroomlaw07_RootsTells.f k a0 a1 a2 = some true
theorem headroomlaw07_RootsTells.walk (P : headroomlaw07_RootsTells.Pure) (a0 : Int) (a1 : Int) (a2 : Int) (w : World) (w0 : (Lit.int .i64 a0).wf = true) (w1 : (Lit.int .i64 a1).wf = true) (w2 : (Lit.int .i64 a2).wf = true) :
    Calls Try.prog 8 #[.int .i64 a0, .int .i64 a1, .int .i64 a2] w fun e w' => e = .returned (.bool true) ∧ Below w.heap.size w w' := by
  obtain ⟨k, h⟩ := P a0 a1 a2 w0 w1 w2
  refine (headroomlaw07_RootsTells.calls k a0 a1 a2 true w h).mono ?_
  rintro e w' ⟨rfl, hd⟩
  exact ⟨rfl, hd⟩

end Go.Proofs.Ytmglkelmdcpinaa.G
/- What the document's own arithmetic computes: a power of 2, a half, a quotient by a power rounded down, a shift in three modes, a quotient. Conditions: each theorem's own bounds; rounds enough. -/
namespace Go.Proofs.Ytmglkelmdcpinaa.G
open Go.RowKit Go.Proofs.Ytmglkelmdcpinaa.M
set_option linter.unusedVariables false

theorem wrap_is {x : Int} (h0 : -9223372036854775808 ≤ x) (h1 : x < 9223372036854775808) : wrap64 x = x := wrap64_id h0 h1

theorem half_is (x : Int) (h0 : -9223372036854775808 ≤ x) (h1 : x < 9223372036854775808) : headroomref01_half.f x = some (x / 2) := by
  unfold headroomref01_half.f
  by_cases hx : 0 ≤ x
  · have ht : x.tdiv 2 = x / 2 := Int.tdiv_eq_ediv_of_nonneg hx
    have hm : x.tmod 2 = x % 2 := Int.tmod_eq_emod_of_nonneg hx
    rw [ht, hm]
    split
    · rw [wrap_is (by omega) (by omega)]
    · rw [if_pos (by omega), wrap_is (by omega) (by omega)]
  · have hd := Int.mul_tdiv_add_tmod x 2
    have h2 := Int.tmod_lt_of_pos x (show (0 : Int) < 2 by decide)
    have h3 : -2 < x.tmod 2 := (tmod_range x 2 (by decide)).1
    have h4 : x.tmod 2 ≤ 0 := by
      have h5 := Int.neg_tmod (-x) 2
      have h6 := Int.tmod_nonneg 2 (show 0 ≤ -x by omega)
      rw [Int.neg_neg] at h5
      omega
    split
    · rw [wrap_is (by omega) (by omega)]
      congr 1; omega
    · rw [if_neg (by omega), wrap_is (x := x.tdiv 2) (by omega) (by omega), wrap_is (by omega) (by omega)]
      congr 1; omega

theorem floor_l0 (j : Nat) : ∀ (k : Nat) (x s i : Int), -9223372036854775808 ≤ x → x < 9223372036854775808 → 0 ≤ i → s < 1000 → s = i + j → j < k → headroomref01_Floor.l0 k x s i = some (x / 2 ^ j) := by
  induction j with
  | zero =>
    intro k x s i h0 h1 hi hs h hk
    obtain ⟨k, rfl⟩ : ∃ n, k = n + 1 := ⟨k - 1, by omega⟩
    rw [headroomref01_Floor.l0, if_neg (by omega)]
    simp
  | succ j ih =>
    intro k x s i h0 h1 hi hs h hk
    obtain ⟨k, rfl⟩ : ∃ n, k = n + 1 := ⟨k - 1, by omega⟩
    rw [headroomref01_Floor.l0, if_pos (by omega), half_is x h0 h1]
    show headroomref01_Floor.l0 k (x / 2) s (wrap64 (i + 1)) = _
    rw [wrap_is (by omega) (by omega), ih k (x / 2) s (i + 1) (by omega) (by omega) (by omega) hs (by omega) (by omega)]
    rw [Int.pow_succ, Int.mul_comm (2 ^ j) 2, Int.ediv_ediv_of_nonneg (by decide)]

theorem floor_is (k : Nat) (x : Int) (s : Nat) (h0 : -9223372036854775808 ≤ x) (h1 : x < 9223372036854775808) (hs : s < 1000) (hk : s < k) : headroomref01_Floor.f k x s = some (x / 2 ^ s) :=
  floor_l0 s k x s 0 h0 h1 (by omega) (by omega) (by omega) hk

theorem pow_l0 (j : Nat) : ∀ (k : Nat) (x s i : Int), 0 ≤ x → x * 2 ^ j < 9223372036854775808 → 0 ≤ i → s < 1000 → s = i + j → j < k → headroomref01_Pow.l0 k s x i = some (x * 2 ^ j) := by
  induction j with
  | zero =>
    intro k x s i h0 h1 hi hs h hk
    obtain ⟨k, rfl⟩ : ∃ n, k = n + 1 := ⟨k - 1, by omega⟩
    rw [headroomref01_Pow.l0, if_neg (by omega)]
    simp
  | succ j ih =>
    intro k x s i h0 h1 hi hs h hk
    obtain ⟨k, rfl⟩ : ∃ n, k = n + 1 := ⟨k - 1, by omega⟩
    have hp := pow_pos j
    have he : x * 2 ^ (j + 1) = (2 * x) * 2 ^ j := by rw [Int.pow_succ, Int.mul_comm (2 ^ j) 2, ← Int.mul_assoc, Int.mul_comm x 2]
    rw [he] at h1 ⊢
    have hle : 2 * x ≤ 2 * x * 2 ^ j := by
      have := Int.mul_le_mul_of_nonneg_left (show (1 : Int) ≤ 2 ^ j by omega) (show 0 ≤ 2 * x by omega)
      omega
    rw [headroomref01_Pow.l0, if_pos (by omega), wrap_is (x := 2 * x) (by omega) (by omega), wrap_is (by omega) (by omega)]
    exact ih k (2 * x) s (i + 1) (by omega) h1 (by omega) hs (by omega) (by omega)

theorem pow_is (k : Nat) (s : Nat) (hs : s ≤ 62) (hk : s < k) : headroomref01_Pow.f k s = some (2 ^ s) := by
  have h := pow_le (s := s) (t := 62) hs
  have := pow_l0 s k 1 s 0 (by omega) (by omega) (by omega) (by omega) (by omega) hk
  rwa [Int.one_mul] at this

theorem odd_is (x : Int) : headroomref01_odd.f x = some (decide (x % 2 = 1)) := by
  unfold headroomref01_odd.f
  congr 1
  have h : (x.tmod 2 = 0) ↔ (x % 2 = 0) := by
    rw [← Int.dvd_iff_tmod_eq_zero, Int.dvd_iff_emod_eq_zero]
  by_cases h2 : x % 2 = 0
  · rw [h.2 h2]; simp; omega
  · have : x.tmod 2 ≠ 0 := fun e => h2 (h.1 e)
    have h3 : x % 2 = 1 := by omega
    simp [this, h3]

theorem refshift_is (k : Nat) (x : Int) (s : Nat) (m : Int) (h0 : -9223372036854775808 ≤ x) (h1 : x < 9223372036854775808) (hs : s ≤ 62) (hk : s + 1 < k) (hm : m = 0 ∨ m = 1 ∨ m = 2) :
    headroomref01_Shift.f k x s m = some (rsh x s m) := by
  obtain ⟨k, rfl⟩ : ∃ j, k = j + 1 := ⟨k - 1, by omega⟩
  unfold headroomref01_Shift.f
  rw [floor_is _ x s h0 h1 (by omega) (by omega)]
  simp only [Option.bind_some]
  by_cases hz : s = 0
  · subst hz
    rw [if_pos (by rfl), headroomref01_Shift.j0, if_pos rfl]
    simp [rsh]
  rw [if_neg (by omega), headroomref01_Shift.j0]
  have hp := pow_pos s
  have hd := Int.mul_ediv_add_emod x (2 ^ s)
  have he0 : (0 : Int) ≤ x % 2 ^ s := Int.emod_nonneg _ (by omega)
  have he1 : x % 2 ^ s < 2 ^ s := Int.emod_lt_of_pos _ hp
  have h62 := pow_le hs
  have hc : (2 : Int) ^ 62 = 4611686018427387904 := by decide
  have hw1 : wrap64 ((s : Int) - 1) = ((s - 1 : Nat) : Int) := by rw [wrap_is (by omega) (by omega)]; omega
  by_cases hm0 : m = 0
  · subst hm0
    rw [if_pos (by rfl)]
    simp [rsh, hz]
  have hmb : (m == 0) = false := by simp [hm0]
  rw [hmb, if_neg (by decide), pow_is k s hs (by omega), hw1, pow_is k (s - 1) (by omega) (by omega)]
  simp only [Option.bind_some]
  have hmul : x / 2 ^ s * 2 ^ s = x - x % 2 ^ s := by rw [Int.mul_comm]; omega
  have hq0 : x / 2 ^ s ≤ 4611686018427387904 ∧ -4611686018427387904 ≤ x / 2 ^ s := by
    have hh : (2 : Int) ≤ 2 ^ s := by
      have := pow_le (s := 1) (t := s) (by omega)
      simpa using this
    have hlt : x / 2 ^ s < 4611686018427387904 := Int.ediv_lt_of_lt_mul hp (by
      have := Int.mul_le_mul_of_nonneg_left hh (show (0 : Int) ≤ 4611686018427387904 by decide)
      omega)
    have hge : -4611686018427387904 ≤ x / 2 ^ s := Int.le_ediv_of_mul_le hp (by
      have := Int.mul_le_mul_of_nonneg_left hh (show (0 : Int) ≤ 4611686018427387904 by decide)
      omega)
    omega
  have hlow : -9223372036854775808 ≤ x - x % 2 ^ s := by
    have h63 : (2 : Int) ^ (63 - s) * 2 ^ s = 9223372036854775808 := by
      rw [← Int.pow_add, show 63 - s + s = 63 by omega]; decide
    have : -(2 : Int) ^ (63 - s) ≤ x / 2 ^ s := Int.le_ediv_of_mul_le hp (by rw [Int.neg_mul, h63]; exact h0)
    have h2 := Int.mul_le_mul_of_nonneg_right this (Int.le_of_lt hp)
    rw [Int.neg_mul, h63, hmul] at h2
    exact h2
  rw [hmul, wrap_is (x := x - x % 2 ^ s) (by omega) (by omega), show x - (x - x % 2 ^ s) = x % 2 ^ s by omega, wrap_is (x := x % 2 ^ s) (by omega) (by omega), wrap_is (x := x / 2 ^ s + 1) (by omega) (by omega), odd_is]
  simp only [Option.bind_some, decide_eq_true_eq]
  unfold rsh
  rw [if_neg hz, if_neg hm0]
  by_cases hm1 : m = 1
  · rw [if_pos hm1, if_pos hm1]
    split
    · rw [if_pos (by omega)]
    · split
      · rw [if_pos (by omega)]
      · rw [if_neg (by omega)]
  · rw [if_neg hm1, if_neg hm1]
    split
    · rw [if_pos (by left; omega)]
    · split
      · rename_i h5
        split
        · rename_i h6
          rw [if_pos (by right; exact ⟨h5, h6⟩)]
        · rename_i h6
          rw [if_neg (by rintro (h | ⟨_, h⟩); omega; exact h6 h)]
      · rename_i h4 h5
        rw [if_neg (by rintro (h | ⟨h, _⟩); omega; exact h5 h)]
end Go.Proofs.Ytmglkelmdcpinaa.G
/- round.Shift's value, as the plain rounded quotient; and when it is refused. Conditions: a number of 64 bits, a shift of 1 to 62, a mode of 0 to 2. -/
namespace Go.Proofs.Ytmglkelmdcpinaa.G
open Go.RowKit Go.Proofs.Ytmglkelmdcpinaa.M

theorem q_eq (x s m : Int) (hx0 : -9223372036854775808 ≤ x) (hx1 : x < 9223372036854775808) (h1 : 1 ≤ s) (h2 : s ≤ 62) (hm : m = 0 ∨ m = 1 ∨ m = 2) : round_Shift.q x s m = rsh x s.toNat m := by
  obtain ⟨n, rfl⟩ := Int.eq_ofNat_of_zero_le (show 0 ≤ s by omega)
  simp only [Int.toNat_natCast]
  have hn1 : 1 ≤ n := by omega
  have hn2 : n ≤ 62 := by omega
  have hp := pow_pos n
  have hle := pow_le (s := n) (t := 62) hn2
  have h62 : (2 : Int) ^ 62 = 4611686018427387904 := by decide
  have hp' := pow_pos (n - 1)
  have hle' := pow_le (s := n - 1) (t := 62) (by omega)
  have two : (2 : Int) ≤ 2 ^ n := by have := pow_le (s := 1) (t := n) hn1; simpa using this
  have w1 : wrap64 (2 ^ n) = 2 ^ n := wrap64_id (by omega) (by omega)
  have w2 : wrap64 (wrap64 (2 ^ n) - 1) = 2 ^ n - 1 := by rw [w1]; exact wrap64_id (by omega) (by omega)
  have w3 : wrap64 (2 ^ (n - 1)) = 2 ^ (n - 1) := wrap64_id (by omega) (by omega)
  have hd := Int.mul_ediv_add_emod x (2 ^ n)
  have r0 : (0 : Int) ≤ x % 2 ^ n := Int.emod_nonneg _ (by omega)
  have r1 : x % 2 ^ n < 2 ^ n := Int.emod_lt_of_pos _ hp
  have b0 : -4611686018427387904 ≤ x / 2 ^ n := by
    apply Int.le_ediv_of_mul_le hp
    have : (-4611686018427387904 : Int) * 2 ^ n ≤ -4611686018427387904 * 2 := by omega
    omega
  have b1 : x / 2 ^ n < 4611686018427387904 := by
    apply Int.ediv_lt_of_lt_mul hp
    omega
  have w4 : wrap64 (x / 2 ^ n + 1) = x / 2 ^ n + 1 := wrap64_id (by omega) (by omega)
  unfold round_Shift.q round_Shift.up rsh
  rw [if_neg (show ¬ n = 0 by omega)]
  simp only [Int.toNat_natCast]
  rw [w2, w3, w4, and_mask _ _ hn2, and_one]
  rcases hm with rfl | rfl | rfl
  · simp
  · simp only [round_modes.u2]
    simp
  · simp only [round_modes.u3]
    simp

theorem shift_some (x s m : Int) (hx0 : -9223372036854775808 ≤ x) (hx1 : x < 9223372036854775808) (h1 : 0 ≤ s) (h2 : s ≤ 62) (hm : m = 0 ∨ m = 1 ∨ m = 2) : round_Shift.f x s m = some (rsh x s.toNat m, 0) := by
  unfold round_Shift.f
  rw [if_neg (by omega)]
  by_cases h : s = 0
  · subst h
    simp [rsh]
  · rw [if_neg h, q_eq x s m hx0 hx1 (by omega) h2 hm]
theorem shift_none (x s m : Int) (h : s < 0 ∨ 62 < s ∨ m < 0 ∨ 3 ≤ m) : round_Shift.f x s m = some (0, 1) := by
  unfold round_Shift.f
  rw [if_pos h]
end Go.Proofs.Ytmglkelmdcpinaa.G
/- A root of 1, as a plain value: the point of a part of a quarter turn (kernel-reckoned at the lengths 4 to 64), shifted, turned, conjugate. Conditions: a length's log of 2 to 6, bits of 0 to 40. -/
namespace Go.Proofs.Ytmglkelmdcpinaa.G
open Go.RowKit Go.Proofs.YtmglkelmdcpinaaW.PrintWords Go.Proofs.Ytmglkelmdcpinaa.M
set_option linter.unusedVariables false

/-- The point of a part u of a quarter turn, at a length's log. -/
def pointV (L : Nat) (u : Int) : Int × Int := (roots_point.f L u).getD (0, 0)
def pointOk (L : Nat) (u : Nat) : Bool := match roots_point.f L u with
  | some p => decide (0 ≤ p.1) && decide (p.1 ≤ 72057594037927940) && decide (0 ≤ p.2) && decide (p.2 ≤ 72057594037927940)
  | none => false
theorem point_all : ([2, 3, 4, 5, 6].all fun L => (List.range (2 ^ L)).all fun u => pointOk L u) = true := by decide +kernel
theorem point_is (L u : Nat) (h2 : 2 ≤ L) (h6 : L ≤ 6) (hu : u < 2 ^ L) : roots_point.f L u = some (pointV L u) ∧ 0 ≤ (pointV L u).1 ∧ (pointV L u).1 ≤ 72057594037927940 ∧ 0 ≤ (pointV L u).2 ∧ (pointV L u).2 ≤ 72057594037927940 := by
  have h := point_all
  rw [List.all_eq_true] at h
  have h1 := h L (by rcases (by omega : L = 2 ∨ L = 3 ∨ L = 4 ∨ L = 5 ∨ L = 6) with rfl | rfl | rfl | rfl | rfl <;> simp)
  rw [List.all_eq_true] at h1
  have h3 := h1 u (List.mem_range.2 hu)
  unfold pointOk at h3
  unfold pointV
  cases hp : roots_point.f L u with
  | none => rw [hp] at h3; cases h3
  | some p =>
    rw [hp] at h3
    simp only [Bool.and_eq_true, decide_eq_true_eq] at h3
    simp only [Option.getD_some]
    exact ⟨trivial, by omega, by omega, by omega, by omega⟩

/-- A root's parts, of a remainder of a place. -/
def shiftV (L : Nat) (r : Int) (B : Nat) : Int × Int := (rsh (pointV L (4 * r % 2 ^ L)).1 (56 - B) 1, rsh (pointV L (4 * r % 2 ^ L)).2 (56 - B) 1)
def rootV (L : Nat) (r : Int) (B : Nat) : Int × Int :=
  ((turnIt (4 * r / 2 ^ L).toNat (shiftV L r B).1 (shiftV L r B).2).1, wrap64 (-(turnIt (4 * r / 2 ^ L).toNat (shiftV L r B).1 (shiftV L r B).2).2))

theorem rsh_small (x : Int) (s : Nat) (m : Int) (h0 : 0 ≤ x) (h1 : x ≤ 72057594037927940) : 0 ≤ rsh x s m ∧ rsh x s m ≤ 72057594037927940 := by
  have hp := pow_pos s
  have hq0 : 0 ≤ x / 2 ^ s := Int.ediv_nonneg h0 (by omega)
  have hq1 : x / 2 ^ s ≤ x := Int.ediv_le_self _ h0
  unfold rsh
  split
  · omega
  rename_i hs
  have hq2 : x / 2 ^ s ≤ x / 2 := by
    have hh : (2 : Int) ≤ 2 ^ s := by
      have := pow_le (s := 1) (t := s) (by omega)
      simpa using this
    exact Int.le_ediv_of_mul_le (by decide) (Int.le_trans (Int.mul_le_mul_of_nonneg_left hh hq0) (Int.ediv_mul_le x (by omega)))
  repeat' split
  all_goals omega

theorem shiftV_bound (L : Nat) (r : Int) (B : Nat) (h2 : 2 ≤ L) (h6 : L ≤ 6) : 0 ≤ (shiftV L r B).1 ∧ (shiftV L r B).1 ≤ 72057594037927940 ∧ 0 ≤ (shiftV L r B).2 ∧ (shiftV L r B).2 ≤ 72057594037927940 := by
  have hp := pow_pos L
  obtain ⟨u, hu⟩ : ∃ u : Nat, 4 * r % 2 ^ L = u := ⟨(4 * r % 2 ^ L).toNat, (Int.toNat_of_nonneg (Int.emod_nonneg _ (by omega))).symm⟩
  have hlt : u < 2 ^ L := by
    have := Int.emod_lt_of_pos (4 * r) hp
    rw [hu] at this
    exact_mod_cast this
  have h := point_is L u h2 h6 hlt
  unfold shiftV
  rw [hu]
  have := rsh_small (pointV L u).1 (56 - B) 1 h.2.1 h.2.2.1
  have := rsh_small (pointV L u).2 (56 - B) 1 h.2.2.2.1 h.2.2.2.2
  omega

theorem turn_small (c : Nat) (x y : Int) (hc : c ≤ 3) (h0 : 0 ≤ x) (h1 : x ≤ 72057594037927940) (h2 : 0 ≤ y) (h3 : y ≤ 72057594037927940) :
    -72057594037927940 ≤ (turnIt c x y).1 ∧ (turnIt c x y).1 ≤ 72057594037927940 ∧ -72057594037927940 ≤ (turnIt c x y).2 ∧ (turnIt c x y).2 ≤ 72057594037927940 := by
  rcases (by omega : c = 0 ∨ c = 1 ∨ c = 2 ∨ c = 3) with rfl | rfl | rfl | rfl
  · simp only [turnIt]; omega
  · simp only [turnIt]; rw [wrap64_id (by omega) (by omega)]; omega
  · simp only [turnIt]; rw [wrap64_id (x := -y) (by omega) (by omega), wrap64_id (by omega) (by omega)]; omega
  · simp only [turnIt]; rw [wrap64_id (x := -y) (by omega) (by omega), wrap64_id (x := -x) (by omega) (by omega), wrap64_id (by omega) (by omega)]; omega

theorem within_small (x y : Int) (h : -72057594037927940 ≤ x ∧ x ≤ 72057594037927940 ∧ -72057594037927940 ≤ y ∧ y ≤ 72057594037927940) : within 2305843009213693952 [⟨x, y⟩] = true := by
  unfold within
  simp only [List.all_cons, List.all_nil, Bool.and_true, Bool.and_eq_true, decide_eq_true_eq, mx, mn]
  omega

theorem root_is (L : Nat) (k : Int) (B : Nat) (h2 : 2 ≤ L) (h6 : L ≤ 6) (hB : B ≤ 40) : roots_root.f L k B = some (rootV L (k % 2 ^ L) B) := by
  have hp := pow_pos L
  have h64 := pow_le h6
  have hc : (2 : Int) ^ 6 = 64 := by decide
  have hr0 : 0 ≤ k % 2 ^ L := Int.emod_nonneg _ (by omega)
  have hr1 : k % 2 ^ L < 2 ^ L := Int.emod_lt_of_pos _ hp
  have hs : wrap64 (shl .i64 1 L - 1) = 2 ^ L - 1 := by
    rcases (by omega : L = 2 ∨ L = 3 ∨ L = 4 ∨ L = 5 ∨ L = 6) with rfl | rfl | rfl | rfl | rfl <;> decide +kernel
  have hsr : ∀ x : Int, shr .i64 x L = x / 2 ^ L := by
    intro x
    rcases (by omega : L = 2 ∨ L = 3 ∨ L = 4 ∨ L = 5 ∨ L = 6) with rfl | rfl | rfl | rfl | rfl <;> rfl
  unfold roots_root.f
  rw [if_pos (by omega), hs, and_mask k L (by omega)]
  generalize hk : k % 2 ^ L = r at hr0 hr1
  rw [wrap64_id (x := 4 * r) (by omega) (by omega), and_mask _ L (by omega), hsr]
  obtain ⟨u, hu⟩ : ∃ u : Nat, 4 * r % 2 ^ L = u := ⟨(4 * r % 2 ^ L).toNat, (Int.toNat_of_nonneg (Int.emod_nonneg _ (by omega))).symm⟩
  have hlt : u < 2 ^ L := by
    have := Int.emod_lt_of_pos (4 * r) hp
    rw [hu] at this
    exact_mod_cast this
  have hP := point_is L u h2 h6 hlt
  rw [hu, hP.1]
  simp only [Option.bind_some]
  have hw : wrap64 (56 - (B : Int)) = ((56 - B : Nat) : Int) := by rw [wrap64_id (by omega) (by omega)]; omega
  have hS : cx_Shift.f (pointV L u).1 (pointV L u).2 (wrap64 (56 - (B : Int))) 1 = some ((shiftV L r B).1, (shiftV L r B).2, 0) := by
    unfold cx_Shift.f shiftV
    rw [hw, shift_some _ _ _ (by omega) (by omega) (by omega) (by omega) (by simp), hu]
    simp only [Option.bind_some, if_true, Int.toNat_natCast]
    rw [shift_some _ _ _ (by omega) (by omega) (by omega) (by omega) (by simp)]
    simp
  rw [hS]
  simp only [Option.bind_some]
  have hb := shiftV_bound L r B h2 h6
  have hq0 : 0 ≤ 4 * r / 2 ^ L := Int.ediv_nonneg (by omega) (by omega)
  have hq1 : 4 * r / 2 ^ L < 4 := Int.ediv_lt_of_lt_mul hp (by omega)
  have hcc : cx_Turn.c (4 * r / 2 ^ L) = (4 * r / 2 ^ L).toNat := by unfold cx_Turn.c; congr 1; omega
  unfold cx_Turn.f
  rw [if_pos (within_small _ _ (by omega)), hcc]
  have ht := turn_small (4 * r / 2 ^ L).toNat (shiftV L r B).1 (shiftV L r B).2 (by omega) hb.1 hb.2.1 hb.2.2.1 hb.2.2.2
  simp only [Option.bind_some]
  unfold cx_Conj.f
  rw [if_pos (within_small _ _ ht)]
  rfl
end Go.Proofs.Ytmglkelmdcpinaa.G
/- The document's root of 1 is the same plain value. Conditions: a length's log of 2 to 6, bits of 0 to 40; 300 rounds. -/
namespace Go.Proofs.Ytmglkelmdcpinaa.G
open Go.RowKit Go.Proofs.YtmglkelmdcpinaaW.PrintWords Go.Proofs.Ytmglkelmdcpinaa.M
set_option linter.unusedVariables false

def refAngles : List Int := [56593902016227522, 33409331186036029, 17652573055549881, 8960721713639278, 4497749271019253, 2251067235130761, 1125808294293075, 562938500594602, 281473545067998, 140737309398767, 70368721808055, 35184369292630, 17592185694891, 8796092978518, 4398046505643, 2199023254870, 1099511627691, 549755813878, 274877906943, 137438953472, 68719476736, 34359738368, 17179869184, 8589934592, 4294967296, 2147483648, 1073741824, 536870912, 268435456, 134217728, 67108864, 33554432, 16777216, 8388608, 4194304, 2097152, 1048576, 524288, 262144, 131072, 65536, 32768, 16384, 8192, 4096]
theorem refall_is : headroomref05_All.f 300 = some (refAngles, 43757185469210200) := by decide +kernel
theorem inverse_is : gain_Inverse.f = some 43757185469210200 := by decide +kernel
theorem angles_rd : ((List.range 45).all fun i => decide (rd refAngles (i : Nat) = ang i)) = true := by decide +kernel
theorem angle_is (i : Nat) (h : i < 45) : rd refAngles i = ang i := by
  have := angles_rd
  rw [List.all_eq_true] at this
  have h1 := this i (List.mem_range.2 h)
  rwa [decide_eq_true_eq] at h1
theorem wrap_range (x : Int) : -9223372036854775808 ≤ wrap64 x ∧ wrap64 x < 9223372036854775808 := by unfold wrap64; omega
theorem refstep_is (k : Nat) (x y z : Int) (i : Nat) (hx0 : -9223372036854775808 ≤ x) (hx1 : x < 9223372036854775808) (hy0 : -9223372036854775808 ≤ y) (hy1 : y < 9223372036854775808) (hi : i < 45) (hk : i < k) :
    headroomref05_step.f k x y z i (ang i) = some (turnStep (x, y, z) i) := by
  unfold headroomref05_step.f turnStep
  rw [floor_is k x i hx0 hx1 (by omega) hk, floor_is k y i hy0 hy1 (by omega) hk]
  simp only [Option.bind_some]
  by_cases hz : 0 ≤ z
  · rw [if_pos hz, if_pos hz]
  · rw [if_neg hz, if_neg hz]
theorem turns_range (p : Int × Int × Int) (h : (-9223372036854775808 ≤ p.1 ∧ p.1 < 9223372036854775808) ∧ -9223372036854775808 ≤ p.2.1 ∧ p.2.1 < 9223372036854775808) (i : Nat) :
    (-9223372036854775808 ≤ (turns i p).1 ∧ (turns i p).1 < 9223372036854775808) ∧ -9223372036854775808 ≤ (turns i p).2.1 ∧ (turns i p).2.1 < 9223372036854775808 := by
  cases i with
  | zero => exact h
  | succ i =>
    unfold turns turnStep
    split <;> exact ⟨wrap_range _, wrap_range _⟩
theorem run_l0 (p : Int × Int × Int) (h : (-9223372036854775808 ≤ p.1 ∧ p.1 < 9223372036854775808) ∧ -9223372036854775808 ≤ p.2.1 ∧ p.2.1 < 9223372036854775808) (j : Nat) : ∀ (i k : Nat), i + j = 45 → 60 + j < k →
    headroomref05_RunOf.l0 k refAngles 45 i (turns i p).1 (turns i p).2.1 (turns i p).2.2 = some (turns 45 p) := by
  induction j with
  | zero =>
    intro i k hi hk
    obtain ⟨k, rfl⟩ : ∃ n, k = n + 1 := ⟨k - 1, by omega⟩
    obtain rfl : i = 45 := by omega
    rw [headroomref05_RunOf.l0, if_neg (by omega)]
  | succ j ih =>
    intro i k hi hk
    obtain ⟨k, rfl⟩ : ∃ n, k = n + 1 := ⟨k - 1, by omega⟩
    have hr := turns_range p h i
    rw [headroomref05_RunOf.l0, if_pos (by omega), if_pos (by omega), if_pos (by show (i : Int) < 45; omega), angle_is i (by omega), refstep_is k _ _ _ i hr.1.1 hr.1.2 hr.2.1 hr.2.2 (by omega) (by omega)]
    simp only [Option.bind_some]
    rw [wrap64_id (by omega) (by omega)]
    exact ih (i + 1) k (by omega) (by omega)
theorem ang0_is : ang 0 = 56593902016227522 := by decide +kernel
theorem refeighth_is (j : Int) (L : Nat) (h2 : 2 ≤ L) (h6 : L ≤ 6) (h0 : 0 ≤ j) (h1 : j ≤ 2 ^ L) :
    (headroomref06_EighthOf.f 300 refAngles 43757185469210200 j L = some ((turns 45 (43757185469210200, 0, ang 0 * j / 2 ^ L)).1, (turns 45 (43757185469210200, 0, ang 0 * j / 2 ^ L)).2.1)) ∧
    circle_Eighth.f j L = some ((turns 45 (43757185469210200, 0, ang 0 * j / 2 ^ L)).1, (turns 45 (43757185469210200, 0, ang 0 * j / 2 ^ L)).2.1, 0) := by
  have hp := pow_pos L
  have h64 := pow_le h6
  have hc : (2 : Int) ^ 6 = 64 := by decide
  have ha := ang0_is
  have hm : ang 0 * j ≤ ang 0 * 64 := Int.mul_le_mul_of_nonneg_left (by omega) (by omega)
  have hm2 : ang 0 * j ≤ ang 0 * 2 ^ L := Int.mul_le_mul_of_nonneg_left h1 (by omega)
  have hm0 : 0 ≤ ang 0 * j := Int.mul_nonneg (by omega) h0
  have hz0 : 0 ≤ ang 0 * j / 2 ^ L := Int.ediv_nonneg hm0 (by omega)
  have hz1 : ang 0 * j / 2 ^ L ≤ ang 0 := by
    have := Int.ediv_le_ediv hp hm2
    rwa [Int.mul_ediv_cancel _ (by omega)] at this
  have hrd : rd refAngles 0 = ang 0 := angle_is 0 (by omega)
  constructor
  · unfold headroomref06_EighthOf.f
    rw [if_pos (by decide), hrd, wrap64_id (x := ang 0 * j) (by omega) (by omega), floor_is 300 _ L (by omega) (by omega) (by omega) (by omega)]
    simp only [Option.bind_some]
    unfold headroomref05_RunOf.f
    have := run_l0 (43757185469210200, 0, ang 0 * j / 2 ^ L) (by simp) 45 0 300 (by omega) (by omega)
    rw [show ((refAngles.length : Nat) : Int) = 45 by rfl]
    erw [this]
    simp only [Option.bind_some]
  · unfold circle_Eighth.f eighth.angle
    rw [if_pos (by simp [eighth.is]; omega), wrap64_id (by omega) (by omega), Int.toNat_natCast]
    unfold toldPoint
    rw [inverse_is]
    simp only [Option.bind_some]
    unfold gain_Run.f
    rw [if_neg (by omega), if_neg (by omega), if_neg (by omega), if_neg (by omega)]
    unfold gain_run.f
    simp only [Option.bind_some]
theorem refpoint_is (L u : Nat) (h2 : 2 ≤ L) (h6 : L ≤ 6) (hu : u < 2 ^ L) : headroomref07_point.f 300 refAngles 43757185469210200 L u = some (pointV L u) := by
  rw [← (point_is L u h2 h6 hu).1]
  have hp := pow_pos L
  have h64 := pow_le h6
  have hc : (2 : Int) ^ 6 = 64 := by decide
  have hu' : (u : Int) < 2 ^ L := by exact_mod_cast hu
  have hsh : shl .i64 1 L = 2 ^ L := by
    rcases (by omega : L = 2 ∨ L = 3 ∨ L = 4 ∨ L = 5 ∨ L = 6) with rfl | rfl | rfl | rfl | rfl <;> decide +kernel
  unfold headroomref07_point.f roots_point.f
  rw [pow_is 300 L (by omega) (by omega), if_pos (by omega), hsh, wrap64_id (x := 2 * (u : Int)) (by omega) (by omega)]
  simp only [Option.bind_some]
  by_cases c1 : 2 * (u : Int) < 2 ^ L
  · have h := refeighth_is (2 * u) L h2 h6 (by omega) (by omega)
    rw [if_pos c1, if_pos c1, h.1, h.2]
    simp only [Option.bind_some]
  · rw [if_neg c1, if_neg c1]
    by_cases c2 : 2 * (u : Int) > 2 ^ L
    · have h := refeighth_is (2 * (2 ^ L - u)) L h2 h6 (by omega) (by omega)
      rw [if_pos c2, if_pos c2, wrap64_id (x := 2 ^ L - (u : Int)) (by omega) (by omega), wrap64_id (by omega) (by omega), h.1, h.2]
      simp only [Option.bind_some]
    · have h := refeighth_is (2 ^ L) L h2 h6 (by omega) (by omega)
      rw [if_neg c2, if_neg c2, h.1, h.2]
      simp only [Option.bind_some]

theorem left_is (x : Int) (L : Nat) (h6 : L ≤ 6) : headroomref07_left.f x (2 ^ L) = some (x % 2 ^ L) := by
  have hp := pow_pos L
  have h64 := pow_le h6
  have hc : (2 : Int) ^ 6 = 64 := by decide
  unfold headroomref07_left.f
  rw [if_neg (by omega)]
  have h1 := tmod_range x (2 ^ L) hp
  have hd := Int.mul_tdiv_add_tmod x (2 ^ L)
  have he : x % 2 ^ L = (x.tmod (2 ^ L)) % 2 ^ L := by
    conv => lhs; rw [← hd]
    rw [Int.add_comm, Int.add_mul_emod_self_left]
  split
  · rw [wrap64_id (by omega) (by omega), he]
    congr 1
    rw [← Int.add_emod_right, Int.emod_eq_of_lt (by omega) (by omega)]
  · rw [he, Int.emod_eq_of_lt (by omega) (by omega)]

theorem refroot_is (L : Nat) (k : Int) (B : Nat) (h2 : 2 ≤ L) (h6 : L ≤ 6) (hB : B ≤ 40) : headroomref07_Root.f 300 L k B = some (rootV L (k % 2 ^ L) B) := by
  have hp := pow_pos L
  have h64 := pow_le h6
  have hc : (2 : Int) ^ 6 = 64 := by decide
  have hr0 : 0 ≤ k % 2 ^ L := Int.emod_nonneg _ (by omega)
  have hr1 : k % 2 ^ L < 2 ^ L := Int.emod_lt_of_pos _ hp
  unfold headroomref07_Root.f
  rw [refall_is]
  simp only [Option.bind_some]
  unfold headroomref07_RootOf.f
  rw [pow_is 300 L (by omega) (by omega)]
  simp only [Option.bind_some]
  rw [left_is k L h6]
  simp only [Option.bind_some]
  generalize hk : k % 2 ^ L = r at hr0 hr1
  rw [wrap64_id (x := 4 * r) (by omega) (by omega), left_is _ L h6]
  simp only [Option.bind_some]
  obtain ⟨u, hu⟩ : ∃ u : Nat, 4 * r % 2 ^ L = u := ⟨(4 * r % 2 ^ L).toNat, (Int.toNat_of_nonneg (Int.emod_nonneg _ (by omega))).symm⟩
  have hlt : u < 2 ^ L := by
    have := Int.emod_lt_of_pos (4 * r) hp
    rw [hu] at this
    exact_mod_cast this
  have hP := point_is L u h2 h6 hlt
  rw [hu, refpoint_is L u h2 h6 hlt]
  simp only [Option.bind_some]
  have hw : wrap64 (56 - (B : Int)) = ((56 - B : Nat) : Int) := by rw [wrap64_id (by omega) (by omega)]; omega
  have hS : headroomref03_Shift.f 300 (pointV L u).1 (pointV L u).2 (wrap64 (56 - (B : Int))) 1 = some (shiftV L r B) := by
    unfold headroomref03_Shift.f shiftV
    rw [hw, refshift_is 300 _ _ _ (by omega) (by omega) (by omega) (by omega) (by simp), refshift_is 300 _ _ _ (by omega) (by omega) (by omega) (by omega) (by simp), hu]
    rfl
  rw [hS]
  simp only [Option.bind_some]
  have hb := shiftV_bound L r B h2 h6
  have hq0 : 0 ≤ 4 * r / 2 ^ L := Int.ediv_nonneg (by omega) (by omega)
  have hq1 : 4 * r / 2 ^ L < 4 := Int.ediv_lt_of_lt_mul hp (by omega)
  have hD : headroomref01_Div.f (4 * r) (2 ^ L) = some (4 * r / 2 ^ L) := by
    unfold headroomref01_Div.f
    rw [if_neg (by omega), if_neg (by omega), Int.tdiv_eq_ediv_of_nonneg (by omega), wrap64_id (by omega) (by omega)]
  rw [hD]
  simp only [Option.bind_some]
  unfold rootV
  generalize 4 * r / 2 ^ L = c at hq0 hq1 ⊢
  have hT : headroomref03_Turn.f 300 (shiftV L r B).1 (shiftV L r B).2 c = some (turnIt c.toNat (shiftV L r B).1 (shiftV L r B).2) := by
    generalize (shiftV L r B).1 = x at hb ⊢
    generalize (shiftV L r B).2 = y at hb ⊢
    rcases (by omega : c = 0 ∨ c = 1 ∨ c = 2 ∨ c = 3) with rfl | rfl | rfl | rfl
    · rfl
    · rfl
    · rfl
    · show some (y, wrap64 (-x)) = some (wrap64 (-(wrap64 (-y))), wrap64 (-x))
      rw [wrap64_id (x := -y) (by omega) (by omega), Int.neg_neg, wrap64_id (x := y) (by omega) (by omega)]
  rw [hT]
  simp only [Option.bind_some, headroomref03_Conj.f]
end Go.Proofs.Ytmglkelmdcpinaa.G
/- RootsTells' call answers true at any numbers of 64 bits, and leaves memory that was there as it was. Conditions: none. -/
namespace Go.Proofs.Ytmglkelmdcpinaa.G
open Go.RowKit Go.Proofs.YtmglkelmdcpinaaW.PrintWords Go.Proofs.Ytmglkelmdcpinaa.M
set_option linter.unusedVariables false

def mayB (L B : Int) : Bool := decide (2 ≤ L ∧ L ≤ 6 ∧ 0 ≤ B ∧ B ≤ 40)
theorem may_is (L B : Int) : roots_may.f L B = some (mayB L B) := by
  unfold roots_may.f mayB
  by_cases h : 0 ≤ B ∧ B ≤ 62
  · rw [shift_some 0 B 1 (by decide) (by decide) h.1 h.2 (by simp)]
    simp only [Option.bind_some, if_true]
    by_cases h1 : L ≥ 2
    · rw [if_pos h1]
      by_cases h2 : L ≤ 6
      · rw [if_pos h2]; congr 1; apply decide_eq_decide.2; omega
      · rw [if_neg h2]; congr 1; symm; apply decide_eq_false; omega
    · rw [if_neg h1]; congr 1; symm; apply decide_eq_false; omega
  · rw [shift_none 0 B 1 (by omega)]
    simp only [Option.bind_some]
    by_cases h1 : L ≥ 2
    · rw [if_pos h1]
      by_cases h2 : L ≤ 6
      · rw [if_pos h2, if_neg (by decide)]; congr 1; symm; apply decide_eq_false; omega
      · rw [if_neg h2]; congr 1; symm; apply decide_eq_false; omega
    · rw [if_neg h1]; congr 1; symm; apply decide_eq_false; omega
theorem refmay_is (L B : Int) : headroomref07_May.f L B = some (mayB L B) := by
  unfold headroomref07_May.f headroomref07_Log.f mayB
  by_cases h1 : L ≥ 2
  · rw [if_pos h1]
    simp only [Option.bind_some, decide_eq_true_eq]
    by_cases h2 : L ≤ 6
    · rw [if_pos h2]
      by_cases h3 : B ≥ 0
      · rw [if_pos h3]; congr 1; apply decide_eq_decide.2; omega
      · rw [if_neg h3]; congr 1; symm; apply decide_eq_false; omega
    · rw [if_neg h2]; congr 1; symm; apply decide_eq_false; omega
  · rw [if_neg h1]
    simp only [Option.bind_some, Bool.false_eq_true, if_false]
    congr 1; symm; apply decide_eq_false; omega
theorem rootsalive : headroomlaw07_alive.f = some true := by decide +kernel
theorem Root_is (L k B : Int) : roots_Root.f L k B = some (if mayB L B = true then ((rootV L.toNat (k % 2 ^ L.toNat) B.toNat).1, (rootV L.toNat (k % 2 ^ L.toNat) B.toNat).2, 0) else (0, 0, 1)) := by
  unfold roots_Root.f
  rw [may_is]
  simp only [Option.bind_some]
  by_cases h : mayB L B = true
  · rw [if_pos h, if_pos h]
    have h' := h
    simp only [mayB, decide_eq_true_eq] at h'
    have e1 : L = (L.toNat : Nat) := by omega
    have e2 : B = (B.toNat : Nat) := by omega
    have := root_is L.toNat k B.toNat (by omega) (by omega) (by omega)
    rw [← e1, ← e2] at this
    rw [this]
    rfl
  · rw [if_neg h, if_neg h]

theorem headroomlaw07_RootsTells.pure : headroomlaw07_RootsTells.Pure := by
  intro a0 a1 a2 _ _ _
  refine ⟨300, ?_⟩
  unfold headroomlaw07_RootsTells.f
  rw [Root_is, refmay_is]
  simp only [Option.bind_some]
  by_cases h : mayB a0 a2 = true
  · rw [if_pos h, if_pos h, rootsalive]
    simp only [Option.bind_some, if_true]
    have h' := h
    simp only [mayB, decide_eq_true_eq] at h'
    have e1 : a0 = (a0.toNat : Nat) := by omega
    have e2 : a2 = (a2.toNat : Nat) := by omega
    have := refroot_is a0.toNat a1 a2.toNat (by omega) (by omega) (by omega)
    rw [← e1, ← e2] at this
    rw [this]
    simp
  · rw [if_neg h, if_neg h, rootsalive]
    simp
theorem headroomlaw07_RootsTells.law (a0 a1 a2 : Int) (w : World) (w0 : (Lit.int .i64 a0).wf = true) (w1 : (Lit.int .i64 a1).wf = true) (w2 : (Lit.int .i64 a2).wf = true) :
    Calls Try.prog 8 #[.int .i64 a0, .int .i64 a1, .int .i64 a2] w fun e w' => e = .returned (.bool true) ∧ Below w.heap.size w w' :=
  headroomlaw07_RootsTells.walk headroomlaw07_RootsTells.pure a0 a1 a2 w w0 w1 w2
end Go.Proofs.Ytmglkelmdcpinaa.G
