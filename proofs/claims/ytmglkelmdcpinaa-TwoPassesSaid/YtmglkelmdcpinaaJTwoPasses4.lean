/- Contracts and plain laws on the way to TwoPasses, part 4 of 4. Conditions: each theorem's own. Joined by a program (merge.py). -/
import Derived.Test.YtmglkelmdcpinaaG0
import Derived.Deep.SlicePairs
import Derived.ProofKit
import Derived.OpenShut
import Derived.Test.YtmglkelmdcpinaaM1
import Derived.Test.YtmglkelmdcpinaaJTwoPasses1
import Derived.Test.YtmglkelmdcpinaaJTwoPasses2
import Derived.Test.YtmglkelmdcpinaaJTwoPasses3
/- The contract of the function headroomlaw10_TwoPasses (number 4 of the translation): what its call computes, as a plain Lean function; memory that was there stays as it was. Conditions: none beyond the theorem's own. Written by a program (gprint.py). -/
namespace Go.Proofs.Ytmglkelmdcpinaa.G
open Go.RowKit Go.Proofs.YtmglkelmdcpinaaW.PrintWords Go.Proofs.YtmglkelmdcpinaaW.PrintLast Go.Proofs.YtmglkelmdcpinaaW.PrintMore
attribute [local go_sem] max2_int min2_int max_two min_two max_three min_three max_four min_four   -- for this text's walks alone
set_option linter.unusedVariables false
set_option linter.unusedSimpArgs false

/-! ### headroomlaw10_TwoPasses: function 4 -/
def headroomlaw10_TwoPasses.f (k : Nat) (l0 : List (S43)) (l1 : List (S43)) (a2 : Int) (a3 : Int) (a4 : Int) (a5 : Int) (a6 : Bool) : Option (Bool) := if 0 ≤ (mn (l0.length : Int) 70) then (if (mn (l0.length : Int) 70) ≤ (l0.length : Int) then ((some (l0.take ((mn (l0.length : Int) 70) : Int).toNat : List (S43))).bind fun y101 => (if 0 ≤ (mn (l1.length : Int) 70) then (if (mn (l1.length : Int) 70) ≤ (l1.length : Int) then ((some (l1.take ((mn (l1.length : Int) 70) : Int).toNat : List (S43))).bind fun y105 => ((two_Pass.f y101 y105 a2 a3 a4 a5 a6).bind fun bt109 => ((headroomref10_Half.f k a2 (y101.length : Int)).bind fun t113 => ((headroomref10_May.f k y101 y105 t113 a3 a4 a5).bind fun t114 => (if t114 = 0 then ((headroomlaw10_alive.f).bind fun t115 => (if t115 = true then (if bt109.2 = 0 then ((headroomref10_Pass.f k y101 y105 a2 a3 a4 a5 a6).bind fun t116 => ((headroomref03_Same.f k bt109.1 t116).bind fun t119 => (some t119))) else (some false)) else (some false))) else ((headroomlaw10_alive.f).bind fun t120 => (if t120 = true then (if bt109.2 = t114 then (some ((bt109.1.length : Int) == 0)) else (some false)) else (some false)))))))) else (none)) else (none))) else (none)) else (none)
theorem headroomlaw10_TwoPasses.mono : ∀ a0 a1 a2 a3 a4 a5 a6 k, LeO (headroomlaw10_TwoPasses.f k a0 a1 a2 a3 a4 a5 a6) (headroomlaw10_TwoPasses.f (k + 1) a0 a1 a2 a3 a4 a5 a6) := by
  intro a0 a1 a2 a3 a4 a5 a6 k
  unfold headroomlaw10_TwoPasses.f
  repeat' first
      | (with_reducible exact headroomref03_Same.mono _ _ _)
      | (with_reducible exact headroomref10_Half.mono _ _ _)
      | (with_reducible exact headroomref10_May.mono _ _ _ _ _ _ _)
      | (with_reducible exact headroomref10_Pass.mono _ _ _ _ _ _ _ _)
      | (with_reducible exact LeO.refl _)
      | (with_reducible exact LeO.none _)
      | (with_reducible refine LeO.ite ?_ ?_)
      | (with_reducible refine LeO.bind ?_ (fun _ => ?_))
      | exact headroomref03_Same.mono _ _ _
      | exact headroomref10_Half.mono _ _ _
      | exact headroomref10_May.mono _ _ _ _ _ _ _
      | exact headroomref10_Pass.mono _ _ _ _ _ _ _ _
      | exact LeO.none _
      | refine LeO.ite ?_ ?_
      | refine LeO.bind ?_ (fun _ => ?_)
set_option maxHeartbeats 8000000 in
set_option maxRecDepth 100000 in
theorem headroomlaw10_TwoPasses.calls (k : Nat) (A0 : Option Addr) (c0 : Nat) (l0 : List (S43)) (A1 : Option Addr) (c1 : Nat) (l1 : List (S43)) (a2 : Int) (a3 : Int) (a4 : Int) (a5 : Int) (a6 : Bool) (r : Bool) (w : World) (hr0 : Kd.C k43 w A0 l0.length l0) (hc0 : l0.length ≤ c0) (hr1 : Kd.C k43 w A1 l1.length l1) (hc1 : l1.length ≤ c1) (h : headroomlaw10_TwoPasses.f k l0 l1 a2 a3 a4 a5 a6 = some r) :
    Calls Try.prog 4 #[.slice A0 l0.length c0, .slice A1 l1.length c1, .int .i64 a2, .int .i64 a3, .int .i64 a4, .int .i64 a5, .bool a6] w fun e w' => e = .returned (.bool r) ∧ Below w.heap.size w w' := by
  have HR0 := Aside0.mk hr0
  have HC0 := Aside0.mk hc0
  clear hr0 hc0
  have HR1 := Aside0.mk hr1
  have HC1 := Aside0.mk hc1
  clear hr1 hc1
  have HB := Aside0.mk (Below.refl w.heap.size w)
  have H : (if 0 ≤ (mn (l0.length : Int) 70) then (if (mn (l0.length : Int) 70) ≤ (l0.length : Int) then ((some (l0.take ((mn (l0.length : Int) 70) : Int).toNat : List (S43))).bind fun y101 => (if 0 ≤ (mn (l1.length : Int) 70) then (if (mn (l1.length : Int) 70) ≤ (l1.length : Int) then ((some (l1.take ((mn (l1.length : Int) 70) : Int).toNat : List (S43))).bind fun y105 => ((two_Pass.f y101 y105 a2 a3 a4 a5 a6).bind fun bt109 => ((headroomref10_Half.f k a2 (y101.length : Int)).bind fun t113 => ((headroomref10_May.f k y101 y105 t113 a3 a4 a5).bind fun t114 => (if t114 = 0 then ((headroomlaw10_alive.f).bind fun t115 => (if t115 = true then (if bt109.2 = 0 then ((headroomref10_Pass.f k y101 y105 a2 a3 a4 a5 a6).bind fun t116 => ((headroomref03_Same.f k bt109.1 t116).bind fun t119 => (some t119))) else (some false)) else (some false))) else ((headroomlaw10_alive.f).bind fun t120 => (if t120 = true then (if bt109.2 = t114 then (some ((bt109.1.length : Int) == 0)) else (some false)) else (some false)))))))) else (none)) else (none))) else (none)) else (none)) = some r := h
  clear h
  obtain ⟨ji8, hji8⟩ : ∃ j_ : Int, (mn (l0.length : Int) 70) = j_ := ⟨_, rfl⟩
  replace H : (if 0 ≤ (ji8) then (if (ji8) ≤ (l0.length : Int) then ((some (l0.take ((ji8) : Int).toNat : List (S43))).bind fun y101 => (if 0 ≤ (mn (l1.length : Int) 70) then (if (mn (l1.length : Int) 70) ≤ (l1.length : Int) then ((some (l1.take ((mn (l1.length : Int) 70) : Int).toNat : List (S43))).bind fun y105 => ((two_Pass.f y101 y105 a2 a3 a4 a5 a6).bind fun bt109 => ((headroomref10_Half.f k a2 (y101.length : Int)).bind fun t113 => ((headroomref10_May.f k y101 y105 t113 a3 a4 a5).bind fun t114 => (if t114 = 0 then ((headroomlaw10_alive.f).bind fun t115 => (if t115 = true then (if bt109.2 = 0 then ((headroomref10_Pass.f k y101 y105 a2 a3 a4 a5 a6).bind fun t116 => ((headroomref03_Same.f k bt109.1 t116).bind fun t119 => (some t119))) else (some false)) else (some false))) else ((headroomlaw10_alive.f).bind fun t120 => (if t120 = true then (if bt109.2 = t114 then (some ((bt109.1.length : Int) == 0)) else (some false)) else (some false)))))))) else (none)) else (none))) else (none)) else (none)) = some r := by first | (rw [hji8] at H; exact H) | (simp only [hji8] at H ⊢; exact H)
  (try (have hji8h : ji8 ≤ 70 := by (rw [← hji8]; unfold mn; (repeat' split) <;> omega)))
  (try (have hji8g : ji8 ≤ 64 := by omega))
  (try (have hji8l : 0 ≤ ji8 := by (rw [← hji8]; unfold mn; (repeat' split) <;> omega)))
  (try (have hji8m : 0 ≤ ji8 := by omega))
  have hji8_ : (if 70 < (l0.length : Int) then 70 else (l0.length : Int)) = ji8 := hji8
  by_cases c9 : 0 ≤ (ji8)
  · rw [if_pos c9] at H
    have c9b0 := eq_true c9
    have c9b1 : decide (0 ≤ (ji8)) = true := decide_eq_true c9
    clear c9
    by_cases c10 : (ji8) ≤ (l0.length : Int)
    · rw [if_pos c10] at H
      have c10b0 := eq_true c10
      have c10b1 : decide ((ji8) ≤ (l0.length : Int)) = true := decide_eq_true c10
      clear c10
      obtain ⟨y101, hy101⟩ : ∃ y_ : List (S43), y_ = (l0.take ((ji8) : Int).toNat) := ⟨_, rfl⟩
      replace H : (if 0 ≤ (mn (l1.length : Int) 70) then (if (mn (l1.length : Int) 70) ≤ (l1.length : Int) then ((some (l1.take ((mn (l1.length : Int) 70) : Int).toNat : List (S43))).bind fun y105 => ((two_Pass.f y101 y105 a2 a3 a4 a5 a6).bind fun bt109 => ((headroomref10_Half.f k a2 (y101.length : Int)).bind fun t113 => ((headroomref10_May.f k y101 y105 t113 a3 a4 a5).bind fun t114 => (if t114 = 0 then ((headroomlaw10_alive.f).bind fun t115 => (if t115 = true then (if bt109.2 = 0 then ((headroomref10_Pass.f k y101 y105 a2 a3 a4 a5 a6).bind fun t116 => ((headroomref03_Same.f k bt109.1 t116).bind fun t119 => (some t119))) else (some false)) else (some false))) else ((headroomlaw10_alive.f).bind fun t120 => (if t120 = true then (if bt109.2 = t114 then (some ((bt109.1.length : Int) == 0)) else (some false)) else (some false)))))))) else (none)) else (none)) = some r := by first | (rw [hy101]; with_reducible exact H) | (have H2_ := (Option.bind_some _ _).symm.trans H; rw [hy101]; with_reducible exact H2_) | (have H2_ := (Option.bind_some _ _).symm.trans H; with_reducible exact H2_) | with_reducible exact H | (rw [hy101]; exact H) | exact H
      have Ny101 := Aside0.mk hy101
      clear hy101
      obtain ⟨ji11, hji11⟩ : ∃ j_ : Int, (mn (l1.length : Int) 70) = j_ := ⟨_, rfl⟩
      replace H : (if 0 ≤ (ji11) then (if (ji11) ≤ (l1.length : Int) then ((some (l1.take ((ji11) : Int).toNat : List (S43))).bind fun y105 => ((two_Pass.f y101 y105 a2 a3 a4 a5 a6).bind fun bt109 => ((headroomref10_Half.f k a2 (y101.length : Int)).bind fun t113 => ((headroomref10_May.f k y101 y105 t113 a3 a4 a5).bind fun t114 => (if t114 = 0 then ((headroomlaw10_alive.f).bind fun t115 => (if t115 = true then (if bt109.2 = 0 then ((headroomref10_Pass.f k y101 y105 a2 a3 a4 a5 a6).bind fun t116 => ((headroomref03_Same.f k bt109.1 t116).bind fun t119 => (some t119))) else (some false)) else (some false))) else ((headroomlaw10_alive.f).bind fun t120 => (if t120 = true then (if bt109.2 = t114 then (some ((bt109.1.length : Int) == 0)) else (some false)) else (some false)))))))) else (none)) else (none)) = some r := by first | (rw [hji11] at H; exact H) | (simp only [hji11] at H ⊢; exact H)
      (try (have hji11h : ji11 ≤ 70 := by (rw [← hji11]; unfold mn; (repeat' split) <;> omega)))
      (try (have hji11g : ji11 ≤ 64 := by omega))
      (try (have hji11l : 0 ≤ ji11 := by (rw [← hji11]; unfold mn; (repeat' split) <;> omega)))
      (try (have hji11m : 0 ≤ ji11 := by omega))
      have hji11_ : (if 70 < (l1.length : Int) then 70 else (l1.length : Int)) = ji11 := hji11
      by_cases c12 : 0 ≤ (ji11)
      · rw [if_pos c12] at H
        have c12b0 := eq_true c12
        have c12b1 : decide (0 ≤ (ji11)) = true := decide_eq_true c12
        clear c12
        by_cases c13 : (ji11) ≤ (l1.length : Int)
        · rw [if_pos c13] at H
          have c13b0 := eq_true c13
          have c13b1 : decide ((ji11) ≤ (l1.length : Int)) = true := decide_eq_true c13
          clear c13
          obtain ⟨y105, hy105⟩ : ∃ y_ : List (S43), y_ = (l1.take ((ji11) : Int).toNat) := ⟨_, rfl⟩
          replace H : ((two_Pass.f y101 y105 a2 a3 a4 a5 a6).bind fun bt109 => ((headroomref10_Half.f k a2 (y101.length : Int)).bind fun t113 => ((headroomref10_May.f k y101 y105 t113 a3 a4 a5).bind fun t114 => (if t114 = 0 then ((headroomlaw10_alive.f).bind fun t115 => (if t115 = true then (if bt109.2 = 0 then ((headroomref10_Pass.f k y101 y105 a2 a3 a4 a5 a6).bind fun t116 => ((headroomref03_Same.f k bt109.1 t116).bind fun t119 => (some t119))) else (some false)) else (some false))) else ((headroomlaw10_alive.f).bind fun t120 => (if t120 = true then (if bt109.2 = t114 then (some ((bt109.1.length : Int) == 0)) else (some false)) else (some false))))))) = some r := by first | (rw [hy105]; with_reducible exact H) | (have H2_ := (Option.bind_some _ _).symm.trans H; rw [hy105]; with_reducible exact H2_) | (have H2_ := (Option.bind_some _ _).symm.trans H; with_reducible exact H2_) | with_reducible exact H | (rw [hy105]; exact H) | exact H
          have Ny105 := Aside0.mk hy105
          clear hy105
          replace H := Option.bind_eq_some_iff.mp H
          obtain ⟨⟨t109, t110⟩, A140, H⟩ := H
          replace H : ((headroomref10_Half.f k a2 (y101.length : Int)).bind fun t113 => ((headroomref10_May.f k y101 y105 t113 a3 a4 a5).bind fun t114 => (if t114 = 0 then ((headroomlaw10_alive.f).bind fun t115 => (if t115 = true then (if t110 = 0 then ((headroomref10_Pass.f k y101 y105 a2 a3 a4 a5 a6).bind fun t116 => ((headroomref03_Same.f k t109 t116).bind fun t119 => (some t119))) else (some false)) else (some false))) else ((headroomlaw10_alive.f).bind fun t120 => (if t120 = true then (if t110 = t114 then (some ((t109.length : Int) == 0)) else (some false)) else (some false)))))) = some r := H
          have A14 := Aside0.mk A140
          clear A140
          replace H := Option.bind_eq_some_iff.mp H
          obtain ⟨t113, A150, H⟩ := H
          replace H : ((headroomref10_May.f k y101 y105 t113 a3 a4 a5).bind fun t114 => (if t114 = 0 then ((headroomlaw10_alive.f).bind fun t115 => (if t115 = true then (if t110 = 0 then ((headroomref10_Pass.f k y101 y105 a2 a3 a4 a5 a6).bind fun t116 => ((headroomref03_Same.f k t109 t116).bind fun t119 => (some t119))) else (some false)) else (some false))) else ((headroomlaw10_alive.f).bind fun t120 => (if t120 = true then (if t110 = t114 then (some ((t109.length : Int) == 0)) else (some false)) else (some false))))) = some r := H
          have A15 := Aside0.mk A150
          clear A150
          replace H := Option.bind_eq_some_iff.mp H
          obtain ⟨t114, A160, H⟩ := H
          replace H : (if t114 = 0 then ((headroomlaw10_alive.f).bind fun t115 => (if t115 = true then (if t110 = 0 then ((headroomref10_Pass.f k y101 y105 a2 a3 a4 a5 a6).bind fun t116 => ((headroomref03_Same.f k t109 t116).bind fun t119 => (some t119))) else (some false)) else (some false))) else ((headroomlaw10_alive.f).bind fun t120 => (if t120 = true then (if t110 = t114 then (some ((t109.length : Int) == 0)) else (some false)) else (some false)))) = some r := H
          have A16 := Aside0.mk A160
          clear A160
          by_cases c17 : t114 = 0
          · rw [if_pos c17] at H
            have c17b0 : (t114 == 0) = true := beq_iff_eq.mpr c17
            have c17b1 : (t114 != 0) = false := bne_eq_false_iff_eq.mpr c17
            clear c17
            replace H := Option.bind_eq_some_iff.mp H
            obtain ⟨t115, A180, H⟩ := H
            replace H : (if t115 = true then (if t110 = 0 then ((headroomref10_Pass.f k y101 y105 a2 a3 a4 a5 a6).bind fun t116 => ((headroomref03_Same.f k t109 t116).bind fun t119 => (some t119))) else (some false)) else (some false)) = some r := H
            have A18 := Aside0.mk A180
            clear A180
            by_cases c19 : t115 = true
            · subst c19
              have H1 : (if t110 = 0 then ((headroomref10_Pass.f k y101 y105 a2 a3 a4 a5 a6).bind fun t116 => ((headroomref03_Same.f k t109 t116).bind fun t119 => (some t119))) else (some false)) = some r := by rw [if_pos rfl] at H; exact H
              clear H
              have H := H1
              clear H1
              by_cases c20 : t110 = 0
              · rw [if_pos c20] at H
                have c20b0 : (t110 == 0) = true := beq_iff_eq.mpr c20
                have c20b1 : (t110 != 0) = false := bne_eq_false_iff_eq.mpr c20
                clear c20
                replace H := Option.bind_eq_some_iff.mp H
                obtain ⟨t116, A210, H⟩ := H
                replace H : ((headroomref03_Same.f k t109 t116).bind fun t119 => (some t119)) = some r := H
                have A21 := Aside0.mk A210
                clear A210
                replace H := Option.bind_eq_some_iff.mp H
                obtain ⟨t119, A220, H⟩ := H
                replace H : (some t119) = some r := H
                have A22 := Aside0.mk A220
                clear A220
                obtain rfl := Option.some.inj H
                have q23 : ((ji8) : Int) ≤ ((l0.length : Int) : Int) := of_decide_eq_true (by first | (with_reducible assumption) | assumption)
                obtain ⟨i023, hi023, _, hsz23, _⟩ := info_parts info43
                have hroom23 : l0.length ≤ c0 := HC0.out
                have hC23 : Kd.C k43 _ A0 l0.length l0 := HR0.out
                have hcut23 := cut_to (P := Try.prog) 33 43 .i64 Try.underlying33 hi023 A0 l0.length c0 (ji8) (of_decide_eq_true (by first | (with_reducible assumption) | assumption)) q23 hroom23
                have hr23 := Kd.C_take (m := ((ji8) : Int).toNat) hC23 (by omega)
                have hy23 : y101.length = ((ji8) : Int).toNat := (by rw [Ny101.out, List.length_take]; omega)
                rw [← Ny101.out] at hr23
                rw [← hy23] at hcut23
                have HR104 := Aside0.mk hr23
                have HC104 := Aside0.mk (show y101.length ≤ c0 from by omega)
                clear hr23 hC23 hroom23 hi023 hsz23
                have KY23 := Aside0.mk hy23
                clear hy23
                replace q23 := eq_true q23
                have q24 : ((ji11) : Int) ≤ ((l1.length : Int) : Int) := of_decide_eq_true (by first | (with_reducible assumption) | assumption)
                obtain ⟨i024, hi024, _, hsz24, _⟩ := info_parts info43
                have hroom24 : l1.length ≤ c1 := HC1.out
                have hC24 : Kd.C k43 _ A1 l1.length l1 := HR1.out
                have hcut24 := cut_to (P := Try.prog) 33 43 .i64 Try.underlying33 hi024 A1 l1.length c1 (ji11) (of_decide_eq_true (by first | (with_reducible assumption) | assumption)) q24 hroom24
                have hr24 := Kd.C_take (m := ((ji11) : Int).toNat) hC24 (by omega)
                have hy24 : y105.length = ((ji11) : Int).toNat := (by rw [Ny105.out, List.length_take]; omega)
                rw [← Ny105.out] at hr24
                rw [← hy24] at hcut24
                have HR108 := Aside0.mk hr24
                have HC108 := Aside0.mk (show y105.length ≤ c1 from by omega)
                clear hr24 hC24 hroom24 hi024 hsz24
                have KY24 := Aside0.mk hy24
                clear hy24
                replace q24 := eq_true q24
                go_enter Try.func4, Try.ntmps4
                go_wp2_with (first | (go_at_call 25; (with_reducible refine (two_Pass.calls _ _ y101 _ _ y105 a2 a3 a4 a5 a6 t109 t110 _ ?side1 ?side2 ?side3 ?side4 A14.out).mono ?_); (case side1 => repeat (first | exact HR104.out | (with_reducible refine Kd.C_alloc ?_ _) | (with_reducible refine Kd.C_drewN ?_ _) | (with_reducible refine Kd.C_drew ?_))); (case side2 => exact HC104.out); (case side3 => repeat (first | exact HR108.out | (with_reducible refine Kd.C_alloc ?_ _) | (with_reducible refine Kd.C_drewN ?_ _) | (with_reducible refine Kd.C_drew ?_))); (case side4 => exact HC108.out); rintro e w25 ⟨v111, rfl, ho0, hb⟩; have n0_ := Aside0.mk (Kd.R_lower ho0 (below_size (by repeat (first | (with_reducible first | exact HB.out | apply below_alloc | apply pw_below_drewN | apply below_drew1) | exact HB.out)))); have n1_ := Aside0.mk (below_step (by repeat (first | (with_reducible first | exact HB.out | apply below_alloc | apply pw_below_drewN | apply below_drew1) | exact HB.out)) hb); clear HB; have HO112 := n0_; have HB := n1_; clear n0_ n1_; (try clear hb); (try clear hb2); (try clear hk); (try clear hi); (try clear ho0)) | (go_at_call 27; (with_reducible refine (headroomref10_Half.calls k a2 (y101.length : Int) t113 _ A15.out).mono ?_); rintro e w' ⟨rfl, ⟨nd, rfl⟩⟩; (try first | exact ⟨rfl, _, World.drewN_drewN _ _ _⟩ | exact ⟨rfl, _, Eq.trans (World.drewN_drewN _ _ _) (congrArg (World.drewN _) (Nat.add_assoc _ _ _))⟩)) | (go_at_call 26; (with_reducible refine (headroomref10_May.calls k _ _ y101 _ _ y105 t113 a3 a4 a5 t114 _ ?side1 ?side2 ?side3 ?side4 A16.out).mono ?_); (case side1 => repeat (first | exact (Kd.C_below HR104.out (by repeat (first | (with_reducible first | exact HB.out | apply below_alloc | apply pw_below_drewN | apply below_drew1) | exact HB.out))) | (with_reducible refine Kd.C_alloc ?_ _) | (with_reducible refine Kd.C_drewN ?_ _) | (with_reducible refine Kd.C_drew ?_))); (case side2 => exact HC104.out); (case side3 => repeat (first | exact (Kd.C_below HR108.out (by repeat (first | (with_reducible first | exact HB.out | apply below_alloc | apply pw_below_drewN | apply below_drew1) | exact HB.out))) | (with_reducible refine Kd.C_alloc ?_ _) | (with_reducible refine Kd.C_drewN ?_ _) | (with_reducible refine Kd.C_drew ?_))); (case side4 => exact HC108.out); rintro e w26 ⟨rfl, hb⟩; have n0_ := Aside0.mk (Kd.R_below (by (with_reducible repeat (first | apply Kd.R_alloc | apply Kd.R_drewN | apply Kd.R_drew)); exact HO112.out) hb); have n1_ := Aside0.mk (below_step (by repeat (first | (with_reducible first | exact HB.out | apply below_alloc | apply pw_below_drewN | apply below_drew1) | exact HB.out)) hb); clear HO112; clear HB; have HO112 := n0_; have HB := n1_; clear n0_ n1_; (try clear hb); (try clear hb2); (try clear hk); (try clear hi)) | (go_at_call 28; (with_reducible refine (headroomlaw10_alive.calls  true _ A18.out).mono ?_); rintro e w27 ⟨rfl, hb⟩; have n0_ := Aside0.mk (Kd.R_below (by (with_reducible repeat (first | apply Kd.R_alloc | apply Kd.R_drewN | apply Kd.R_drew)); exact HO112.out) hb); have n1_ := Aside0.mk (below_step (by repeat (first | (with_reducible first | exact HB.out | apply below_alloc | apply pw_below_drewN | apply below_drew1) | exact HB.out)) hb); clear HO112; clear HB; have HO112 := n0_; have HB := n1_; clear n0_ n1_; (try clear hb); (try clear hb2); (try clear hk); (try clear hi)) | (go_at_call 30; (with_reducible refine (headroomref10_Pass.calls k _ _ y101 _ _ y105 a2 a3 a4 a5 a6 t116 _ ?side1 ?side2 ?side3 ?side4 A21.out).mono ?_); (case side1 => repeat (first | exact (Kd.C_below HR104.out HB.out) | (with_reducible refine Kd.C_alloc ?_ _) | (with_reducible refine Kd.C_drewN ?_ _) | (with_reducible refine Kd.C_drew ?_))); (case side2 => exact HC104.out); (case side3 => repeat (first | exact (Kd.C_below HR108.out HB.out) | (with_reducible refine Kd.C_alloc ?_ _) | (with_reducible refine Kd.C_drewN ?_ _) | (with_reducible refine Kd.C_drew ?_))); (case side4 => exact HC108.out); rintro e w28 ⟨v117, rfl, ho0, hb⟩; have n0_ := Aside0.mk (Kd.R_elder' (by (with_reducible repeat (first | apply Kd.R_alloc | apply Kd.R_drewN | apply Kd.R_drew)); exact HO112.out) (Kd.R_base ho0) hb); have n1_ := Aside0.mk (Kd.R_lower (Kd.R_new' ho0 (Kd.R_lt (by (with_reducible repeat (first | apply Kd.R_alloc | apply Kd.R_drewN | apply Kd.R_drew)); exact HO112.out))) (below_size (by repeat (first | (with_reducible first | exact HB.out | apply below_alloc | apply pw_below_drewN | apply below_drew1) | exact HB.out)))); have n2_ := Aside0.mk (below_step (by repeat (first | (with_reducible first | exact HB.out | apply below_alloc | apply pw_below_drewN | apply below_drew1) | exact HB.out)) hb); clear HO112; clear HB; have HO112 := n0_; have HO118 := n1_; have HB := n2_; clear n0_ n1_ n2_; (try clear hb); (try clear hb2); (try clear hk); (try clear hi); (try clear ho0); obtain ⟨Ao29, co29, eo29⟩ := Kd.R_slice HO112.out; subst eo29; obtain ⟨Ao30, co30, eo30⟩ := Kd.R_slice HO118.out; subst eo30) | (go_at_call 29; (with_reducible refine (headroomref03_Same.calls k _ _ t109 _ _ t116 t119 _ ?side1 ?side2 ?side3 ?side4 A22.out).mono ?_); (case side1 => repeat (first | exact (Kd.R_reads' HO112.out).2.2 | (with_reducible refine Kd.C_alloc ?_ _) | (with_reducible refine Kd.C_drewN ?_ _) | (with_reducible refine Kd.C_drew ?_))); (case side2 => exact (Kd.R_reads' HO112.out).2.1); (case side3 => repeat (first | exact (Kd.R_reads' HO118.out).2.2 | (with_reducible refine Kd.C_alloc ?_ _) | (with_reducible refine Kd.C_drewN ?_ _) | (with_reducible refine Kd.C_drew ?_))); (case side4 => exact (Kd.R_reads' HO118.out).2.1); rintro e w' ⟨rfl, ⟨nd, rfl⟩⟩; (try first | exact ⟨rfl, _, World.drewN_drewN _ _ _⟩ | exact ⟨rfl, _, Eq.trans (World.drewN_drewN _ _ _) (congrArg (World.drewN _) (Nat.add_assoc _ _ _))⟩)))
                repeat (go_quiet (first | (go_at_call 25; (with_reducible refine (two_Pass.calls _ _ y101 _ _ y105 a2 a3 a4 a5 a6 t109 t110 _ ?side1 ?side2 ?side3 ?side4 A14.out).mono ?_); (case side1 => repeat (first | exact HR104.out | (with_reducible refine Kd.C_alloc ?_ _) | (with_reducible refine Kd.C_drewN ?_ _) | (with_reducible refine Kd.C_drew ?_))); (case side2 => exact HC104.out); (case side3 => repeat (first | exact HR108.out | (with_reducible refine Kd.C_alloc ?_ _) | (with_reducible refine Kd.C_drewN ?_ _) | (with_reducible refine Kd.C_drew ?_))); (case side4 => exact HC108.out); rintro e w25 ⟨v111, rfl, ho0, hb⟩; have n0_ := Aside0.mk (Kd.R_lower ho0 (below_size (by repeat (first | (with_reducible first | exact HB.out | apply below_alloc | apply pw_below_drewN | apply below_drew1) | exact HB.out)))); have n1_ := Aside0.mk (below_step (by repeat (first | (with_reducible first | exact HB.out | apply below_alloc | apply pw_below_drewN | apply below_drew1) | exact HB.out)) hb); clear HB; have HO112 := n0_; have HB := n1_; clear n0_ n1_; (try clear hb); (try clear hb2); (try clear hk); (try clear hi); (try clear ho0)) | (go_at_call 27; (with_reducible refine (headroomref10_Half.calls k a2 (y101.length : Int) t113 _ A15.out).mono ?_); rintro e w' ⟨rfl, ⟨nd, rfl⟩⟩; (try first | exact ⟨rfl, _, World.drewN_drewN _ _ _⟩ | exact ⟨rfl, _, Eq.trans (World.drewN_drewN _ _ _) (congrArg (World.drewN _) (Nat.add_assoc _ _ _))⟩)) | (go_at_call 26; (with_reducible refine (headroomref10_May.calls k _ _ y101 _ _ y105 t113 a3 a4 a5 t114 _ ?side1 ?side2 ?side3 ?side4 A16.out).mono ?_); (case side1 => repeat (first | exact (Kd.C_below HR104.out (by repeat (first | (with_reducible first | exact HB.out | apply below_alloc | apply pw_below_drewN | apply below_drew1) | exact HB.out))) | (with_reducible refine Kd.C_alloc ?_ _) | (with_reducible refine Kd.C_drewN ?_ _) | (with_reducible refine Kd.C_drew ?_))); (case side2 => exact HC104.out); (case side3 => repeat (first | exact (Kd.C_below HR108.out (by repeat (first | (with_reducible first | exact HB.out | apply below_alloc | apply pw_below_drewN | apply below_drew1) | exact HB.out))) | (with_reducible refine Kd.C_alloc ?_ _) | (with_reducible refine Kd.C_drewN ?_ _) | (with_reducible refine Kd.C_drew ?_))); (case side4 => exact HC108.out); rintro e w26 ⟨rfl, hb⟩; have n0_ := Aside0.mk (Kd.R_below (by (with_reducible repeat (first | apply Kd.R_alloc | apply Kd.R_drewN | apply Kd.R_drew)); exact HO112.out) hb); have n1_ := Aside0.mk (below_step (by repeat (first | (with_reducible first | exact HB.out | apply below_alloc | apply pw_below_drewN | apply below_drew1) | exact HB.out)) hb); clear HO112; clear HB; have HO112 := n0_; have HB := n1_; clear n0_ n1_; (try clear hb); (try clear hb2); (try clear hk); (try clear hi)) | (go_at_call 28; (with_reducible refine (headroomlaw10_alive.calls  true _ A18.out).mono ?_); rintro e w27 ⟨rfl, hb⟩; have n0_ := Aside0.mk (Kd.R_below (by (with_reducible repeat (first | apply Kd.R_alloc | apply Kd.R_drewN | apply Kd.R_drew)); exact HO112.out) hb); have n1_ := Aside0.mk (below_step (by repeat (first | (with_reducible first | exact HB.out | apply below_alloc | apply pw_below_drewN | apply below_drew1) | exact HB.out)) hb); clear HO112; clear HB; have HO112 := n0_; have HB := n1_; clear n0_ n1_; (try clear hb); (try clear hb2); (try clear hk); (try clear hi)) | (go_at_call 30; (with_reducible refine (headroomref10_Pass.calls k _ _ y101 _ _ y105 a2 a3 a4 a5 a6 t116 _ ?side1 ?side2 ?side3 ?side4 A21.out).mono ?_); (case side1 => repeat (first | exact (Kd.C_below HR104.out HB.out) | (with_reducible refine Kd.C_alloc ?_ _) | (with_reducible refine Kd.C_drewN ?_ _) | (with_reducible refine Kd.C_drew ?_))); (case side2 => exact HC104.out); (case side3 => repeat (first | exact (Kd.C_below HR108.out HB.out) | (with_reducible refine Kd.C_alloc ?_ _) | (with_reducible refine Kd.C_drewN ?_ _) | (with_reducible refine Kd.C_drew ?_))); (case side4 => exact HC108.out); rintro e w28 ⟨v117, rfl, ho0, hb⟩; have n0_ := Aside0.mk (Kd.R_elder' (by (with_reducible repeat (first | apply Kd.R_alloc | apply Kd.R_drewN | apply Kd.R_drew)); exact HO112.out) (Kd.R_base ho0) hb); have n1_ := Aside0.mk (Kd.R_lower (Kd.R_new' ho0 (Kd.R_lt (by (with_reducible repeat (first | apply Kd.R_alloc | apply Kd.R_drewN | apply Kd.R_drew)); exact HO112.out))) (below_size (by repeat (first | (with_reducible first | exact HB.out | apply below_alloc | apply pw_below_drewN | apply below_drew1) | exact HB.out)))); have n2_ := Aside0.mk (below_step (by repeat (first | (with_reducible first | exact HB.out | apply below_alloc | apply pw_below_drewN | apply below_drew1) | exact HB.out)) hb); clear HO112; clear HB; have HO112 := n0_; have HO118 := n1_; have HB := n2_; clear n0_ n1_ n2_; (try clear hb); (try clear hb2); (try clear hk); (try clear hi); (try clear ho0); obtain ⟨Ao29, co29, eo29⟩ := Kd.R_slice HO112.out; subst eo29; obtain ⟨Ao30, co30, eo30⟩ := Kd.R_slice HO118.out; subst eo30) | (go_at_call 29; (with_reducible refine (headroomref03_Same.calls k _ _ t109 _ _ t116 t119 _ ?side1 ?side2 ?side3 ?side4 A22.out).mono ?_); (case side1 => repeat (first | exact (Kd.R_reads' HO112.out).2.2 | (with_reducible refine Kd.C_alloc ?_ _) | (with_reducible refine Kd.C_drewN ?_ _) | (with_reducible refine Kd.C_drew ?_))); (case side2 => exact (Kd.R_reads' HO112.out).2.1); (case side3 => repeat (first | exact (Kd.R_reads' HO118.out).2.2 | (with_reducible refine Kd.C_alloc ?_ _) | (with_reducible refine Kd.C_drewN ?_ _) | (with_reducible refine Kd.C_drew ?_))); (case side4 => exact (Kd.R_reads' HO118.out).2.1); rintro e w' ⟨rfl, ⟨nd, rfl⟩⟩; (try first | exact ⟨rfl, _, World.drewN_drewN _ _ _⟩ | exact ⟨rfl, _, Eq.trans (World.drewN_drewN _ _ _) (congrArg (World.drewN _) (Nat.add_assoc _ _ _))⟩))); try go_wp2_with (first | (go_at_call 25; (with_reducible refine (two_Pass.calls _ _ y101 _ _ y105 a2 a3 a4 a5 a6 t109 t110 _ ?side1 ?side2 ?side3 ?side4 A14.out).mono ?_); (case side1 => repeat (first | exact HR104.out | (with_reducible refine Kd.C_alloc ?_ _) | (with_reducible refine Kd.C_drewN ?_ _) | (with_reducible refine Kd.C_drew ?_))); (case side2 => exact HC104.out); (case side3 => repeat (first | exact HR108.out | (with_reducible refine Kd.C_alloc ?_ _) | (with_reducible refine Kd.C_drewN ?_ _) | (with_reducible refine Kd.C_drew ?_))); (case side4 => exact HC108.out); rintro e w25 ⟨v111, rfl, ho0, hb⟩; have n0_ := Aside0.mk (Kd.R_lower ho0 (below_size (by repeat (first | (with_reducible first | exact HB.out | apply below_alloc | apply pw_below_drewN | apply below_drew1) | exact HB.out)))); have n1_ := Aside0.mk (below_step (by repeat (first | (with_reducible first | exact HB.out | apply below_alloc | apply pw_below_drewN | apply below_drew1) | exact HB.out)) hb); clear HB; have HO112 := n0_; have HB := n1_; clear n0_ n1_; (try clear hb); (try clear hb2); (try clear hk); (try clear hi); (try clear ho0)) | (go_at_call 27; (with_reducible refine (headroomref10_Half.calls k a2 (y101.length : Int) t113 _ A15.out).mono ?_); rintro e w' ⟨rfl, ⟨nd, rfl⟩⟩; (try first | exact ⟨rfl, _, World.drewN_drewN _ _ _⟩ | exact ⟨rfl, _, Eq.trans (World.drewN_drewN _ _ _) (congrArg (World.drewN _) (Nat.add_assoc _ _ _))⟩)) | (go_at_call 26; (with_reducible refine (headroomref10_May.calls k _ _ y101 _ _ y105 t113 a3 a4 a5 t114 _ ?side1 ?side2 ?side3 ?side4 A16.out).mono ?_); (case side1 => repeat (first | exact (Kd.C_below HR104.out (by repeat (first | (with_reducible first | exact HB.out | apply below_alloc | apply pw_below_drewN | apply below_drew1) | exact HB.out))) | (with_reducible refine Kd.C_alloc ?_ _) | (with_reducible refine Kd.C_drewN ?_ _) | (with_reducible refine Kd.C_drew ?_))); (case side2 => exact HC104.out); (case side3 => repeat (first | exact (Kd.C_below HR108.out (by repeat (first | (with_reducible first | exact HB.out | apply below_alloc | apply pw_below_drewN | apply below_drew1) | exact HB.out))) | (with_reducible refine Kd.C_alloc ?_ _) | (with_reducible refine Kd.C_drewN ?_ _) | (with_reducible refine Kd.C_drew ?_))); (case side4 => exact HC108.out); rintro e w26 ⟨rfl, hb⟩; have n0_ := Aside0.mk (Kd.R_below (by (with_reducible repeat (first | apply Kd.R_alloc | apply Kd.R_drewN | apply Kd.R_drew)); exact HO112.out) hb); have n1_ := Aside0.mk (below_step (by repeat (first | (with_reducible first | exact HB.out | apply below_alloc | apply pw_below_drewN | apply below_drew1) | exact HB.out)) hb); clear HO112; clear HB; have HO112 := n0_; have HB := n1_; clear n0_ n1_; (try clear hb); (try clear hb2); (try clear hk); (try clear hi)) | (go_at_call 28; (with_reducible refine (headroomlaw10_alive.calls  true _ A18.out).mono ?_); rintro e w27 ⟨rfl, hb⟩; have n0_ := Aside0.mk (Kd.R_below (by (with_reducible repeat (first | apply Kd.R_alloc | apply Kd.R_drewN | apply Kd.R_drew)); exact HO112.out) hb); have n1_ := Aside0.mk (below_step (by repeat (first | (with_reducible first | exact HB.out | apply below_alloc | apply pw_below_drewN | apply below_drew1) | exact HB.out)) hb); clear HO112; clear HB; have HO112 := n0_; have HB := n1_; clear n0_ n1_; (try clear hb); (try clear hb2); (try clear hk); (try clear hi)) | (go_at_call 30; (with_reducible refine (headroomref10_Pass.calls k _ _ y101 _ _ y105 a2 a3 a4 a5 a6 t116 _ ?side1 ?side2 ?side3 ?side4 A21.out).mono ?_); (case side1 => repeat (first | exact (Kd.C_below HR104.out HB.out) | (with_reducible refine Kd.C_alloc ?_ _) | (with_reducible refine Kd.C_drewN ?_ _) | (with_reducible refine Kd.C_drew ?_))); (case side2 => exact HC104.out); (case side3 => repeat (first | exact (Kd.C_below HR108.out HB.out) | (with_reducible refine Kd.C_alloc ?_ _) | (with_reducible refine Kd.C_drewN ?_ _) | (with_reducible refine Kd.C_drew ?_))); (case side4 => exact HC108.out); rintro e w28 ⟨v117, rfl, ho0, hb⟩; have n0_ := Aside0.mk (Kd.R_elder' (by (with_reducible repeat (first | apply Kd.R_alloc | apply Kd.R_drewN | apply Kd.R_drew)); exact HO112.out) (Kd.R_base ho0) hb); have n1_ := Aside0.mk (Kd.R_lower (Kd.R_new' ho0 (Kd.R_lt (by (with_reducible repeat (first | apply Kd.R_alloc | apply Kd.R_drewN | apply Kd.R_drew)); exact HO112.out))) (below_size (by repeat (first | (with_reducible first | exact HB.out | apply below_alloc | apply pw_below_drewN | apply below_drew1) | exact HB.out)))); have n2_ := Aside0.mk (below_step (by repeat (first | (with_reducible first | exact HB.out | apply below_alloc | apply pw_below_drewN | apply below_drew1) | exact HB.out)) hb); clear HO112; clear HB; have HO112 := n0_; have HO118 := n1_; have HB := n2_; clear n0_ n1_ n2_; (try clear hb); (try clear hb2); (try clear hk); (try clear hi); (try clear ho0); obtain ⟨Ao29, co29, eo29⟩ := Kd.R_slice HO112.out; subst eo29; obtain ⟨Ao30, co30, eo30⟩ := Kd.R_slice HO118.out; subst eo30) | (go_at_call 29; (with_reducible refine (headroomref03_Same.calls k _ _ t109 _ _ t116 t119 _ ?side1 ?side2 ?side3 ?side4 A22.out).mono ?_); (case side1 => repeat (first | exact (Kd.R_reads' HO112.out).2.2 | (with_reducible refine Kd.C_alloc ?_ _) | (with_reducible refine Kd.C_drewN ?_ _) | (with_reducible refine Kd.C_drew ?_))); (case side2 => exact (Kd.R_reads' HO112.out).2.1); (case side3 => repeat (first | exact (Kd.R_reads' HO118.out).2.2 | (with_reducible refine Kd.C_alloc ?_ _) | (with_reducible refine Kd.C_drewN ?_ _) | (with_reducible refine Kd.C_drew ?_))); (case side4 => exact (Kd.R_reads' HO118.out).2.1); rintro e w' ⟨rfl, ⟨nd, rfl⟩⟩; (try first | exact ⟨rfl, _, World.drewN_drewN _ _ _⟩ | exact ⟨rfl, _, Eq.trans (World.drewN_drewN _ _ _) (congrArg (World.drewN _) (Nat.add_assoc _ _ _))⟩))))
                go_ret
                exact ⟨by first | rfl | (simp [errW_none, errW_some] <;> rfl) | (simp only [← hji8, ← hji11]; first | rfl | (simp [errW_none, errW_some] <;> rfl)) | (simp [*, errW_none, errW_some] <;> rfl), by repeat (first | (with_reducible first | exact HB.out | apply below_alloc | apply pw_below_drewN | apply below_drew1) | exact HB.out)⟩
              · rw [if_neg c20] at H
                have c20b0 : (t110 == 0) = false := beq_eq_false_iff_ne.mpr c20
                have c20b1 : (t110 != 0) = true := bne_iff_ne.mpr c20
                obtain rfl := Option.some.inj H
                have q31 : ((ji8) : Int) ≤ ((l0.length : Int) : Int) := of_decide_eq_true (by first | (with_reducible assumption) | assumption)
                obtain ⟨i031, hi031, _, hsz31, _⟩ := info_parts info43
                have hroom31 : l0.length ≤ c0 := HC0.out
                have hC31 : Kd.C k43 _ A0 l0.length l0 := HR0.out
                have hcut31 := cut_to (P := Try.prog) 33 43 .i64 Try.underlying33 hi031 A0 l0.length c0 (ji8) (of_decide_eq_true (by first | (with_reducible assumption) | assumption)) q31 hroom31
                have hr31 := Kd.C_take (m := ((ji8) : Int).toNat) hC31 (by omega)
                have hy31 : y101.length = ((ji8) : Int).toNat := (by rw [Ny101.out, List.length_take]; omega)
                rw [← Ny101.out] at hr31
                rw [← hy31] at hcut31
                have HR104 := Aside0.mk hr31
                have HC104 := Aside0.mk (show y101.length ≤ c0 from by omega)
                clear hr31 hC31 hroom31 hi031 hsz31
                have KY31 := Aside0.mk hy31
                clear hy31
                replace q31 := eq_true q31
                have q32 : ((ji11) : Int) ≤ ((l1.length : Int) : Int) := of_decide_eq_true (by first | (with_reducible assumption) | assumption)
                obtain ⟨i032, hi032, _, hsz32, _⟩ := info_parts info43
                have hroom32 : l1.length ≤ c1 := HC1.out
                have hC32 : Kd.C k43 _ A1 l1.length l1 := HR1.out
                have hcut32 := cut_to (P := Try.prog) 33 43 .i64 Try.underlying33 hi032 A1 l1.length c1 (ji11) (of_decide_eq_true (by first | (with_reducible assumption) | assumption)) q32 hroom32
                have hr32 := Kd.C_take (m := ((ji11) : Int).toNat) hC32 (by omega)
                have hy32 : y105.length = ((ji11) : Int).toNat := (by rw [Ny105.out, List.length_take]; omega)
                rw [← Ny105.out] at hr32
                rw [← hy32] at hcut32
                have HR108 := Aside0.mk hr32
                have HC108 := Aside0.mk (show y105.length ≤ c1 from by omega)
                clear hr32 hC32 hroom32 hi032 hsz32
                have KY32 := Aside0.mk hy32
                clear hy32
                replace q32 := eq_true q32
                go_enter Try.func4, Try.ntmps4
                go_wp2_with (first | (go_at_call 25; (with_reducible refine (two_Pass.calls _ _ y101 _ _ y105 a2 a3 a4 a5 a6 t109 t110 _ ?side1 ?side2 ?side3 ?side4 A14.out).mono ?_); (case side1 => repeat (first | exact HR104.out | (with_reducible refine Kd.C_alloc ?_ _) | (with_reducible refine Kd.C_drewN ?_ _) | (with_reducible refine Kd.C_drew ?_))); (case side2 => exact HC104.out); (case side3 => repeat (first | exact HR108.out | (with_reducible refine Kd.C_alloc ?_ _) | (with_reducible refine Kd.C_drewN ?_ _) | (with_reducible refine Kd.C_drew ?_))); (case side4 => exact HC108.out); rintro e w33 ⟨v111, rfl, ho0, hb⟩; have n0_ := Aside0.mk (Kd.R_lower ho0 (below_size (by repeat (first | (with_reducible first | exact HB.out | apply below_alloc | apply pw_below_drewN | apply below_drew1) | exact HB.out)))); have n1_ := Aside0.mk (below_step (by repeat (first | (with_reducible first | exact HB.out | apply below_alloc | apply pw_below_drewN | apply below_drew1) | exact HB.out)) hb); clear HB; have HO112 := n0_; have HB := n1_; clear n0_ n1_; (try clear hb); (try clear hb2); (try clear hk); (try clear hi); (try clear ho0)) | (go_at_call 27; (with_reducible refine (headroomref10_Half.calls k a2 (y101.length : Int) t113 _ A15.out).mono ?_); rintro e w' ⟨rfl, ⟨nd, rfl⟩⟩; (try first | exact ⟨rfl, _, World.drewN_drewN _ _ _⟩ | exact ⟨rfl, _, Eq.trans (World.drewN_drewN _ _ _) (congrArg (World.drewN _) (Nat.add_assoc _ _ _))⟩)) | (go_at_call 26; (with_reducible refine (headroomref10_May.calls k _ _ y101 _ _ y105 t113 a3 a4 a5 t114 _ ?side1 ?side2 ?side3 ?side4 A16.out).mono ?_); (case side1 => repeat (first | exact (Kd.C_below HR104.out (by repeat (first | (with_reducible first | exact HB.out | apply below_alloc | apply pw_below_drewN | apply below_drew1) | exact HB.out))) | (with_reducible refine Kd.C_alloc ?_ _) | (with_reducible refine Kd.C_drewN ?_ _) | (with_reducible refine Kd.C_drew ?_))); (case side2 => exact HC104.out); (case side3 => repeat (first | exact (Kd.C_below HR108.out (by repeat (first | (with_reducible first | exact HB.out | apply below_alloc | apply pw_below_drewN | apply below_drew1) | exact HB.out))) | (with_reducible refine Kd.C_alloc ?_ _) | (with_reducible refine Kd.C_drewN ?_ _) | (with_reducible refine Kd.C_drew ?_))); (case side4 => exact HC108.out); rintro e w34 ⟨rfl, hb⟩; have n0_ := Aside0.mk (Kd.R_below (by (with_reducible repeat (first | apply Kd.R_alloc | apply Kd.R_drewN | apply Kd.R_drew)); exact HO112.out) hb); have n1_ := Aside0.mk (below_step (by repeat (first | (with_reducible first | exact HB.out | apply below_alloc | apply pw_below_drewN | apply below_drew1) | exact HB.out)) hb); clear HO112; clear HB; have HO112 := n0_; have HB := n1_; clear n0_ n1_; (try clear hb); (try clear hb2); (try clear hk); (try clear hi)) | (go_at_call 28; (with_reducible refine (headroomlaw10_alive.calls  true _ A18.out).mono ?_); rintro e w35 ⟨rfl, hb⟩; have n0_ := Aside0.mk (Kd.R_below (by (with_reducible repeat (first | apply Kd.R_alloc | apply Kd.R_drewN | apply Kd.R_drew)); exact HO112.out) hb); have n1_ := Aside0.mk (below_step (by repeat (first | (with_reducible first | exact HB.out | apply below_alloc | apply pw_below_drewN | apply below_drew1) | exact HB.out)) hb); clear HO112; clear HB; have HO112 := n0_; have HB := n1_; clear n0_ n1_; (try clear hb); (try clear hb2); (try clear hk); (try clear hi)))
                repeat (go_quiet (first | (go_at_call 25; (with_reducible refine (two_Pass.calls _ _ y101 _ _ y105 a2 a3 a4 a5 a6 t109 t110 _ ?side1 ?side2 ?side3 ?side4 A14.out).mono ?_); (case side1 => repeat (first | exact HR104.out | (with_reducible refine Kd.C_alloc ?_ _) | (with_reducible refine Kd.C_drewN ?_ _) | (with_reducible refine Kd.C_drew ?_))); (case side2 => exact HC104.out); (case side3 => repeat (first | exact HR108.out | (with_reducible refine Kd.C_alloc ?_ _) | (with_reducible refine Kd.C_drewN ?_ _) | (with_reducible refine Kd.C_drew ?_))); (case side4 => exact HC108.out); rintro e w33 ⟨v111, rfl, ho0, hb⟩; have n0_ := Aside0.mk (Kd.R_lower ho0 (below_size (by repeat (first | (with_reducible first | exact HB.out | apply below_alloc | apply pw_below_drewN | apply below_drew1) | exact HB.out)))); have n1_ := Aside0.mk (below_step (by repeat (first | (with_reducible first | exact HB.out | apply below_alloc | apply pw_below_drewN | apply below_drew1) | exact HB.out)) hb); clear HB; have HO112 := n0_; have HB := n1_; clear n0_ n1_; (try clear hb); (try clear hb2); (try clear hk); (try clear hi); (try clear ho0)) | (go_at_call 27; (with_reducible refine (headroomref10_Half.calls k a2 (y101.length : Int) t113 _ A15.out).mono ?_); rintro e w' ⟨rfl, ⟨nd, rfl⟩⟩; (try first | exact ⟨rfl, _, World.drewN_drewN _ _ _⟩ | exact ⟨rfl, _, Eq.trans (World.drewN_drewN _ _ _) (congrArg (World.drewN _) (Nat.add_assoc _ _ _))⟩)) | (go_at_call 26; (with_reducible refine (headroomref10_May.calls k _ _ y101 _ _ y105 t113 a3 a4 a5 t114 _ ?side1 ?side2 ?side3 ?side4 A16.out).mono ?_); (case side1 => repeat (first | exact (Kd.C_below HR104.out (by repeat (first | (with_reducible first | exact HB.out | apply below_alloc | apply pw_below_drewN | apply below_drew1) | exact HB.out))) | (with_reducible refine Kd.C_alloc ?_ _) | (with_reducible refine Kd.C_drewN ?_ _) | (with_reducible refine Kd.C_drew ?_))); (case side2 => exact HC104.out); (case side3 => repeat (first | exact (Kd.C_below HR108.out (by repeat (first | (with_reducible first | exact HB.out | apply below_alloc | apply pw_below_drewN | apply below_drew1) | exact HB.out))) | (with_reducible refine Kd.C_alloc ?_ _) | (with_reducible refine Kd.C_drewN ?_ _) | (with_reducible refine Kd.C_drew ?_))); (case side4 => exact HC108.out); rintro e w34 ⟨rfl, hb⟩; have n0_ := Aside0.mk (Kd.R_below (by (with_reducible repeat (first | apply Kd.R_alloc | apply Kd.R_drewN | apply Kd.R_drew)); exact HO112.out) hb); have n1_ := Aside0.mk (below_step (by repeat (first | (with_reducible first | exact HB.out | apply below_alloc | apply pw_below_drewN | apply below_drew1) | exact HB.out)) hb); clear HO112; clear HB; have HO112 := n0_; have HB := n1_; clear n0_ n1_; (try clear hb); (try clear hb2); (try clear hk); (try clear hi)) | (go_at_call 28; (with_reducible refine (headroomlaw10_alive.calls  true _ A18.out).mono ?_); rintro e w35 ⟨rfl, hb⟩; have n0_ := Aside0.mk (Kd.R_below (by (with_reducible repeat (first | apply Kd.R_alloc | apply Kd.R_drewN | apply Kd.R_drew)); exact HO112.out) hb); have n1_ := Aside0.mk (below_step (by repeat (first | (with_reducible first | exact HB.out | apply below_alloc | apply pw_below_drewN | apply below_drew1) | exact HB.out)) hb); clear HO112; clear HB; have HO112 := n0_; have HB := n1_; clear n0_ n1_; (try clear hb); (try clear hb2); (try clear hk); (try clear hi))); try go_wp2_with (first | (go_at_call 25; (with_reducible refine (two_Pass.calls _ _ y101 _ _ y105 a2 a3 a4 a5 a6 t109 t110 _ ?side1 ?side2 ?side3 ?side4 A14.out).mono ?_); (case side1 => repeat (first | exact HR104.out | (with_reducible refine Kd.C_alloc ?_ _) | (with_reducible refine Kd.C_drewN ?_ _) | (with_reducible refine Kd.C_drew ?_))); (case side2 => exact HC104.out); (case side3 => repeat (first | exact HR108.out | (with_reducible refine Kd.C_alloc ?_ _) | (with_reducible refine Kd.C_drewN ?_ _) | (with_reducible refine Kd.C_drew ?_))); (case side4 => exact HC108.out); rintro e w33 ⟨v111, rfl, ho0, hb⟩; have n0_ := Aside0.mk (Kd.R_lower ho0 (below_size (by repeat (first | (with_reducible first | exact HB.out | apply below_alloc | apply pw_below_drewN | apply below_drew1) | exact HB.out)))); have n1_ := Aside0.mk (below_step (by repeat (first | (with_reducible first | exact HB.out | apply below_alloc | apply pw_below_drewN | apply below_drew1) | exact HB.out)) hb); clear HB; have HO112 := n0_; have HB := n1_; clear n0_ n1_; (try clear hb); (try clear hb2); (try clear hk); (try clear hi); (try clear ho0)) | (go_at_call 27; (with_reducible refine (headroomref10_Half.calls k a2 (y101.length : Int) t113 _ A15.out).mono ?_); rintro e w' ⟨rfl, ⟨nd, rfl⟩⟩; (try first | exact ⟨rfl, _, World.drewN_drewN _ _ _⟩ | exact ⟨rfl, _, Eq.trans (World.drewN_drewN _ _ _) (congrArg (World.drewN _) (Nat.add_assoc _ _ _))⟩)) | (go_at_call 26; (with_reducible refine (headroomref10_May.calls k _ _ y101 _ _ y105 t113 a3 a4 a5 t114 _ ?side1 ?side2 ?side3 ?side4 A16.out).mono ?_); (case side1 => repeat (first | exact (Kd.C_below HR104.out (by repeat (first | (with_reducible first | exact HB.out | apply below_alloc | apply pw_below_drewN | apply below_drew1) | exact HB.out))) | (with_reducible refine Kd.C_alloc ?_ _) | (with_reducible refine Kd.C_drewN ?_ _) | (with_reducible refine Kd.C_drew ?_))); (case side2 => exact HC104.out); (case side3 => repeat (first | exact (Kd.C_below HR108.out (by repeat (first | (with_reducible first | exact HB.out | apply below_alloc | apply pw_below_drewN | apply below_drew1) | exact HB.out))) | (with_reducible refine Kd.C_alloc ?_ _) | (with_reducible refine Kd.C_drewN ?_ _) | (with_reducible refine Kd.C_drew ?_))); (case side4 => exact HC108.out); rintro e w34 ⟨rfl, hb⟩; have n0_ := Aside0.mk (Kd.R_below (by (with_reducible repeat (first | apply Kd.R_alloc | apply Kd.R_drewN | apply Kd.R_drew)); exact HO112.out) hb); have n1_ := Aside0.mk (below_step (by repeat (first | (with_reducible first | exact HB.out | apply below_alloc | apply pw_below_drewN | apply below_drew1) | exact HB.out)) hb); clear HO112; clear HB; have HO112 := n0_; have HB := n1_; clear n0_ n1_; (try clear hb); (try clear hb2); (try clear hk); (try clear hi)) | (go_at_call 28; (with_reducible refine (headroomlaw10_alive.calls  true _ A18.out).mono ?_); rintro e w35 ⟨rfl, hb⟩; have n0_ := Aside0.mk (Kd.R_below (by (with_reducible repeat (first | apply Kd.R_alloc | apply Kd.R_drewN | apply Kd.R_drew)); exact HO112.out) hb); have n1_ := Aside0.mk (below_step (by repeat (first | (with_reducible first | exact HB.out | apply below_alloc | apply pw_below_drewN | apply below_drew1) | exact HB.out)) hb); clear HO112; clear HB; have HO112 := n0_; have HB := n1_; clear n0_ n1_; (try clear hb); (try clear hb2); (try clear hk); (try clear hi))))
                go_ret
                exact ⟨by first | rfl | (simp [errW_none, errW_some] <;> rfl) | (simp only [← hji8, ← hji11]; first | rfl | (simp [errW_none, errW_some] <;> rfl)) | (simp [*, errW_none, errW_some] <;> rfl), by repeat (first | (with_reducible first | exact HB.out | apply below_alloc | apply pw_below_drewN | apply below_drew1) | exact HB.out)⟩
            · replace c19 := Bool.eq_false_iff.mpr c19
              subst c19
              have H1 : (some false) = some r := by rw [if_neg (show ¬ (false = true) by decide)] at H; exact H
              clear H
              have H := H1
              clear H1
              obtain rfl := Option.some.inj H
              have q36 : ((ji8) : Int) ≤ ((l0.length : Int) : Int) := of_decide_eq_true (by first | (with_reducible assumption) | assumption)
              obtain ⟨i036, hi036, _, hsz36, _⟩ := info_parts info43
              have hroom36 : l0.length ≤ c0 := HC0.out
              have hC36 : Kd.C k43 _ A0 l0.length l0 := HR0.out
              have hcut36 := cut_to (P := Try.prog) 33 43 .i64 Try.underlying33 hi036 A0 l0.length c0 (ji8) (of_decide_eq_true (by first | (with_reducible assumption) | assumption)) q36 hroom36
              have hr36 := Kd.C_take (m := ((ji8) : Int).toNat) hC36 (by omega)
              have hy36 : y101.length = ((ji8) : Int).toNat := (by rw [Ny101.out, List.length_take]; omega)
              rw [← Ny101.out] at hr36
              rw [← hy36] at hcut36
              have HR104 := Aside0.mk hr36
              have HC104 := Aside0.mk (show y101.length ≤ c0 from by omega)
              clear hr36 hC36 hroom36 hi036 hsz36
              have KY36 := Aside0.mk hy36
              clear hy36
              replace q36 := eq_true q36
              have q37 : ((ji11) : Int) ≤ ((l1.length : Int) : Int) := of_decide_eq_true (by first | (with_reducible assumption) | assumption)
              obtain ⟨i037, hi037, _, hsz37, _⟩ := info_parts info43
              have hroom37 : l1.length ≤ c1 := HC1.out
              have hC37 : Kd.C k43 _ A1 l1.length l1 := HR1.out
              have hcut37 := cut_to (P := Try.prog) 33 43 .i64 Try.underlying33 hi037 A1 l1.length c1 (ji11) (of_decide_eq_true (by first | (with_reducible assumption) | assumption)) q37 hroom37
              have hr37 := Kd.C_take (m := ((ji11) : Int).toNat) hC37 (by omega)
              have hy37 : y105.length = ((ji11) : Int).toNat := (by rw [Ny105.out, List.length_take]; omega)
              rw [← Ny105.out] at hr37
              rw [← hy37] at hcut37
              have HR108 := Aside0.mk hr37
              have HC108 := Aside0.mk (show y105.length ≤ c1 from by omega)
              clear hr37 hC37 hroom37 hi037 hsz37
              have KY37 := Aside0.mk hy37
              clear hy37
              replace q37 := eq_true q37
              go_enter Try.func4, Try.ntmps4
              go_wp2_with (first | (go_at_call 25; (with_reducible refine (two_Pass.calls _ _ y101 _ _ y105 a2 a3 a4 a5 a6 t109 t110 _ ?side1 ?side2 ?side3 ?side4 A14.out).mono ?_); (case side1 => repeat (first | exact HR104.out | (with_reducible refine Kd.C_alloc ?_ _) | (with_reducible refine Kd.C_drewN ?_ _) | (with_reducible refine Kd.C_drew ?_))); (case side2 => exact HC104.out); (case side3 => repeat (first | exact HR108.out | (with_reducible refine Kd.C_alloc ?_ _) | (with_reducible refine Kd.C_drewN ?_ _) | (with_reducible refine Kd.C_drew ?_))); (case side4 => exact HC108.out); rintro e w38 ⟨v111, rfl, ho0, hb⟩; have n0_ := Aside0.mk (Kd.R_lower ho0 (below_size (by repeat (first | (with_reducible first | exact HB.out | apply below_alloc | apply pw_below_drewN | apply below_drew1) | exact HB.out)))); have n1_ := Aside0.mk (below_step (by repeat (first | (with_reducible first | exact HB.out | apply below_alloc | apply pw_below_drewN | apply below_drew1) | exact HB.out)) hb); clear HB; have HO112 := n0_; have HB := n1_; clear n0_ n1_; (try clear hb); (try clear hb2); (try clear hk); (try clear hi); (try clear ho0)) | (go_at_call 27; (with_reducible refine (headroomref10_Half.calls k a2 (y101.length : Int) t113 _ A15.out).mono ?_); rintro e w' ⟨rfl, ⟨nd, rfl⟩⟩; (try first | exact ⟨rfl, _, World.drewN_drewN _ _ _⟩ | exact ⟨rfl, _, Eq.trans (World.drewN_drewN _ _ _) (congrArg (World.drewN _) (Nat.add_assoc _ _ _))⟩)) | (go_at_call 26; (with_reducible refine (headroomref10_May.calls k _ _ y101 _ _ y105 t113 a3 a4 a5 t114 _ ?side1 ?side2 ?side3 ?side4 A16.out).mono ?_); (case side1 => repeat (first | exact (Kd.C_below HR104.out (by repeat (first | (with_reducible first | exact HB.out | apply below_alloc | apply pw_below_drewN | apply below_drew1) | exact HB.out))) | (with_reducible refine Kd.C_alloc ?_ _) | (with_reducible refine Kd.C_drewN ?_ _) | (with_reducible refine Kd.C_drew ?_))); (case side2 => exact HC104.out); (case side3 => repeat (first | exact (Kd.C_below HR108.out (by repeat (first | (with_reducible first | exact HB.out | apply below_alloc | apply pw_below_drewN | apply below_drew1) | exact HB.out))) | (with_reducible refine Kd.C_alloc ?_ _) | (with_reducible refine Kd.C_drewN ?_ _) | (with_reducible refine Kd.C_drew ?_))); (case side4 => exact HC108.out); rintro e w39 ⟨rfl, hb⟩; have n0_ := Aside0.mk (Kd.R_below (by (with_reducible repeat (first | apply Kd.R_alloc | apply Kd.R_drewN | apply Kd.R_drew)); exact HO112.out) hb); have n1_ := Aside0.mk (below_step (by repeat (first | (with_reducible first | exact HB.out | apply below_alloc | apply pw_below_drewN | apply below_drew1) | exact HB.out)) hb); clear HO112; clear HB; have HO112 := n0_; have HB := n1_; clear n0_ n1_; (try clear hb); (try clear hb2); (try clear hk); (try clear hi)) | (go_at_call 28; (with_reducible refine (headroomlaw10_alive.calls  false _ A18.out).mono ?_); rintro e w40 ⟨rfl, hb⟩; have n0_ := Aside0.mk (Kd.R_below (by (with_reducible repeat (first | apply Kd.R_alloc | apply Kd.R_drewN | apply Kd.R_drew)); exact HO112.out) hb); have n1_ := Aside0.mk (below_step (by repeat (first | (with_reducible first | exact HB.out | apply below_alloc | apply pw_below_drewN | apply below_drew1) | exact HB.out)) hb); clear HO112; clear HB; have HO112 := n0_; have HB := n1_; clear n0_ n1_; (try clear hb); (try clear hb2); (try clear hk); (try clear hi)))
              repeat (go_quiet (first | (go_at_call 25; (with_reducible refine (two_Pass.calls _ _ y101 _ _ y105 a2 a3 a4 a5 a6 t109 t110 _ ?side1 ?side2 ?side3 ?side4 A14.out).mono ?_); (case side1 => repeat (first | exact HR104.out | (with_reducible refine Kd.C_alloc ?_ _) | (with_reducible refine Kd.C_drewN ?_ _) | (with_reducible refine Kd.C_drew ?_))); (case side2 => exact HC104.out); (case side3 => repeat (first | exact HR108.out | (with_reducible refine Kd.C_alloc ?_ _) | (with_reducible refine Kd.C_drewN ?_ _) | (with_reducible refine Kd.C_drew ?_))); (case side4 => exact HC108.out); rintro e w38 ⟨v111, rfl, ho0, hb⟩; have n0_ := Aside0.mk (Kd.R_lower ho0 (below_size (by repeat (first | (with_reducible first | exact HB.out | apply below_alloc | apply pw_below_drewN | apply below_drew1) | exact HB.out)))); have n1_ := Aside0.mk (below_step (by repeat (first | (with_reducible first | exact HB.out | apply below_alloc | apply pw_below_drewN | apply below_drew1) | exact HB.out)) hb); clear HB; have HO112 := n0_; have HB := n1_; clear n0_ n1_; (try clear hb); (try clear hb2); (try clear hk); (try clear hi); (try clear ho0)) | (go_at_call 27; (with_reducible refine (headroomref10_Half.calls k a2 (y101.length : Int) t113 _ A15.out).mono ?_); rintro e w' ⟨rfl, ⟨nd, rfl⟩⟩; (try first | exact ⟨rfl, _, World.drewN_drewN _ _ _⟩ | exact ⟨rfl, _, Eq.trans (World.drewN_drewN _ _ _) (congrArg (World.drewN _) (Nat.add_assoc _ _ _))⟩)) | (go_at_call 26; (with_reducible refine (headroomref10_May.calls k _ _ y101 _ _ y105 t113 a3 a4 a5 t114 _ ?side1 ?side2 ?side3 ?side4 A16.out).mono ?_); (case side1 => repeat (first | exact (Kd.C_below HR104.out (by repeat (first | (with_reducible first | exact HB.out | apply below_alloc | apply pw_below_drewN | apply below_drew1) | exact HB.out))) | (with_reducible refine Kd.C_alloc ?_ _) | (with_reducible refine Kd.C_drewN ?_ _) | (with_reducible refine Kd.C_drew ?_))); (case side2 => exact HC104.out); (case side3 => repeat (first | exact (Kd.C_below HR108.out (by repeat (first | (with_reducible first | exact HB.out | apply below_alloc | apply pw_below_drewN | apply below_drew1) | exact HB.out))) | (with_reducible refine Kd.C_alloc ?_ _) | (with_reducible refine Kd.C_drewN ?_ _) | (with_reducible refine Kd.C_drew ?_))); (case side4 => exact HC108.out); rintro e w39 ⟨rfl, hb⟩; have n0_ := Aside0.mk (Kd.R_below (by (with_reducible repeat (first | apply Kd.R_alloc | apply Kd.R_drewN | apply Kd.R_drew)); exact HO112.out) hb); have n1_ := Aside0.mk (below_step (by repeat (first | (with_reducible first | exact HB.out | apply below_alloc | apply pw_below_drewN | apply below_drew1) | exact HB.out)) hb); clear HO112; clear HB; have HO112 := n0_; have HB := n1_; clear n0_ n1_; (try clear hb); (try clear hb2); (try clear hk); (try clear hi)) | (go_at_call 28; (with_reducible refine (headroomlaw10_alive.calls  false _ A18.out).mono ?_); rintro e w40 ⟨rfl, hb⟩; have n0_ := Aside0.mk (Kd.R_below (by (with_reducible repeat (first | apply Kd.R_alloc | apply Kd.R_drewN | apply Kd.R_drew)); exact HO112.out) hb); have n1_ := Aside0.mk (below_step (by repeat (first | (with_reducible first | exact HB.out | apply below_alloc | apply pw_below_drewN | apply below_drew1) | exact HB.out)) hb); clear HO112; clear HB; have HO112 := n0_; have HB := n1_; clear n0_ n1_; (try clear hb); (try clear hb2); (try clear hk); (try clear hi))); try go_wp2_with (first | (go_at_call 25; (with_reducible refine (two_Pass.calls _ _ y101 _ _ y105 a2 a3 a4 a5 a6 t109 t110 _ ?side1 ?side2 ?side3 ?side4 A14.out).mono ?_); (case side1 => repeat (first | exact HR104.out | (with_reducible refine Kd.C_alloc ?_ _) | (with_reducible refine Kd.C_drewN ?_ _) | (with_reducible refine Kd.C_drew ?_))); (case side2 => exact HC104.out); (case side3 => repeat (first | exact HR108.out | (with_reducible refine Kd.C_alloc ?_ _) | (with_reducible refine Kd.C_drewN ?_ _) | (with_reducible refine Kd.C_drew ?_))); (case side4 => exact HC108.out); rintro e w38 ⟨v111, rfl, ho0, hb⟩; have n0_ := Aside0.mk (Kd.R_lower ho0 (below_size (by repeat (first | (with_reducible first | exact HB.out | apply below_alloc | apply pw_below_drewN | apply below_drew1) | exact HB.out)))); have n1_ := Aside0.mk (below_step (by repeat (first | (with_reducible first | exact HB.out | apply below_alloc | apply pw_below_drewN | apply below_drew1) | exact HB.out)) hb); clear HB; have HO112 := n0_; have HB := n1_; clear n0_ n1_; (try clear hb); (try clear hb2); (try clear hk); (try clear hi); (try clear ho0)) | (go_at_call 27; (with_reducible refine (headroomref10_Half.calls k a2 (y101.length : Int) t113 _ A15.out).mono ?_); rintro e w' ⟨rfl, ⟨nd, rfl⟩⟩; (try first | exact ⟨rfl, _, World.drewN_drewN _ _ _⟩ | exact ⟨rfl, _, Eq.trans (World.drewN_drewN _ _ _) (congrArg (World.drewN _) (Nat.add_assoc _ _ _))⟩)) | (go_at_call 26; (with_reducible refine (headroomref10_May.calls k _ _ y101 _ _ y105 t113 a3 a4 a5 t114 _ ?side1 ?side2 ?side3 ?side4 A16.out).mono ?_); (case side1 => repeat (first | exact (Kd.C_below HR104.out (by repeat (first | (with_reducible first | exact HB.out | apply below_alloc | apply pw_below_drewN | apply below_drew1) | exact HB.out))) | (with_reducible refine Kd.C_alloc ?_ _) | (with_reducible refine Kd.C_drewN ?_ _) | (with_reducible refine Kd.C_drew ?_))); (case side2 => exact HC104.out); (case side3 => repeat (first | exact (Kd.C_below HR108.out (by repeat (first | (with_reducible first | exact HB.out | apply below_alloc | apply pw_below_drewN | apply below_drew1) | exact HB.out))) | (with_reducible refine Kd.C_alloc ?_ _) | (with_reducible refine Kd.C_drewN ?_ _) | (with_reducible refine Kd.C_drew ?_))); (case side4 => exact HC108.out); rintro e w39 ⟨rfl, hb⟩; have n0_ := Aside0.mk (Kd.R_below (by (with_reducible repeat (first | apply Kd.R_alloc | apply Kd.R_drewN | apply Kd.R_drew)); exact HO112.out) hb); have n1_ := Aside0.mk (below_step (by repeat (first | (with_reducible first | exact HB.out | apply below_alloc | apply pw_below_drewN | apply below_drew1) | exact HB.out)) hb); clear HO112; clear HB; have HO112 := n0_; have HB := n1_; clear n0_ n1_; (try clear hb); (try clear hb2); (try clear hk); (try clear hi)) | (go_at_call 28; (with_reducible refine (headroomlaw10_alive.calls  false _ A18.out).mono ?_); rintro e w40 ⟨rfl, hb⟩; have n0_ := Aside0.mk (Kd.R_below (by (with_reducible repeat (first | apply Kd.R_alloc | apply Kd.R_drewN | apply Kd.R_drew)); exact HO112.out) hb); have n1_ := Aside0.mk (below_step (by repeat (first | (with_reducible first | exact HB.out | apply below_alloc | apply pw_below_drewN | apply below_drew1) | exact HB.out)) hb); clear HO112; clear HB; have HO112 := n0_; have HB := n1_; clear n0_ n1_; (try clear hb); (try clear hb2); (try clear hk); (try clear hi))))
              go_ret
              exact ⟨by first | rfl | (simp [errW_none, errW_some] <;> rfl) | (simp only [← hji8, ← hji11]; first | rfl | (simp [errW_none, errW_some] <;> rfl)) | (simp [*, errW_none, errW_some] <;> rfl), by repeat (first | (with_reducible first | exact HB.out | apply below_alloc | apply pw_below_drewN | apply below_drew1) | exact HB.out)⟩
          · rw [if_neg c17] at H
            have c17b0 : (t114 == 0) = false := beq_eq_false_iff_ne.mpr c17
            have c17b1 : (t114 != 0) = true := bne_iff_ne.mpr c17
            replace H := Option.bind_eq_some_iff.mp H
            obtain ⟨t120, A410, H⟩ := H
            replace H : (if t120 = true then (if t110 = t114 then (some ((t109.length : Int) == 0)) else (some false)) else (some false)) = some r := H
            have A41 := Aside0.mk A410
            clear A410
            by_cases c42 : t120 = true
            · subst c42
              have H1 : (if t110 = t114 then (some ((t109.length : Int) == 0)) else (some false)) = some r := by rw [if_pos rfl] at H; exact H
              clear H
              have H := H1
              clear H1
              by_cases c43 : t110 = t114
              · rw [if_pos c43] at H
                have c43b0 : (t110 == t114) = true := beq_iff_eq.mpr c43
                have c43b1 : (t110 != t114) = false := bne_eq_false_iff_eq.mpr c43
                clear c43
                obtain rfl := Option.some.inj H
                have q44 : ((ji8) : Int) ≤ ((l0.length : Int) : Int) := of_decide_eq_true (by first | (with_reducible assumption) | assumption)
                obtain ⟨i044, hi044, _, hsz44, _⟩ := info_parts info43
                have hroom44 : l0.length ≤ c0 := HC0.out
                have hC44 : Kd.C k43 _ A0 l0.length l0 := HR0.out
                have hcut44 := cut_to (P := Try.prog) 33 43 .i64 Try.underlying33 hi044 A0 l0.length c0 (ji8) (of_decide_eq_true (by first | (with_reducible assumption) | assumption)) q44 hroom44
                have hr44 := Kd.C_take (m := ((ji8) : Int).toNat) hC44 (by omega)
                have hy44 : y101.length = ((ji8) : Int).toNat := (by rw [Ny101.out, List.length_take]; omega)
                rw [← Ny101.out] at hr44
                rw [← hy44] at hcut44
                have HR104 := Aside0.mk hr44
                have HC104 := Aside0.mk (show y101.length ≤ c0 from by omega)
                clear hr44 hC44 hroom44 hi044 hsz44
                have KY44 := Aside0.mk hy44
                clear hy44
                replace q44 := eq_true q44
                have q45 : ((ji11) : Int) ≤ ((l1.length : Int) : Int) := of_decide_eq_true (by first | (with_reducible assumption) | assumption)
                obtain ⟨i045, hi045, _, hsz45, _⟩ := info_parts info43
                have hroom45 : l1.length ≤ c1 := HC1.out
                have hC45 : Kd.C k43 _ A1 l1.length l1 := HR1.out
                have hcut45 := cut_to (P := Try.prog) 33 43 .i64 Try.underlying33 hi045 A1 l1.length c1 (ji11) (of_decide_eq_true (by first | (with_reducible assumption) | assumption)) q45 hroom45
                have hr45 := Kd.C_take (m := ((ji11) : Int).toNat) hC45 (by omega)
                have hy45 : y105.length = ((ji11) : Int).toNat := (by rw [Ny105.out, List.length_take]; omega)
                rw [← Ny105.out] at hr45
                rw [← hy45] at hcut45
                have HR108 := Aside0.mk hr45
                have HC108 := Aside0.mk (show y105.length ≤ c1 from by omega)
                clear hr45 hC45 hroom45 hi045 hsz45
                have KY45 := Aside0.mk hy45
                clear hy45
                replace q45 := eq_true q45
                go_enter Try.func4, Try.ntmps4
                go_wp2_with (first | (go_at_call 25; (with_reducible refine (two_Pass.calls _ _ y101 _ _ y105 a2 a3 a4 a5 a6 t109 t110 _ ?side1 ?side2 ?side3 ?side4 A14.out).mono ?_); (case side1 => repeat (first | exact HR104.out | (with_reducible refine Kd.C_alloc ?_ _) | (with_reducible refine Kd.C_drewN ?_ _) | (with_reducible refine Kd.C_drew ?_))); (case side2 => exact HC104.out); (case side3 => repeat (first | exact HR108.out | (with_reducible refine Kd.C_alloc ?_ _) | (with_reducible refine Kd.C_drewN ?_ _) | (with_reducible refine Kd.C_drew ?_))); (case side4 => exact HC108.out); rintro e w46 ⟨v111, rfl, ho0, hb⟩; have n0_ := Aside0.mk (Kd.R_lower ho0 (below_size (by repeat (first | (with_reducible first | exact HB.out | apply below_alloc | apply pw_below_drewN | apply below_drew1) | exact HB.out)))); have n1_ := Aside0.mk (below_step (by repeat (first | (with_reducible first | exact HB.out | apply below_alloc | apply pw_below_drewN | apply below_drew1) | exact HB.out)) hb); clear HB; have HO112 := n0_; have HB := n1_; clear n0_ n1_; (try clear hb); (try clear hb2); (try clear hk); (try clear hi); (try clear ho0)) | (go_at_call 27; (with_reducible refine (headroomref10_Half.calls k a2 (y101.length : Int) t113 _ A15.out).mono ?_); rintro e w' ⟨rfl, ⟨nd, rfl⟩⟩; (try first | exact ⟨rfl, _, World.drewN_drewN _ _ _⟩ | exact ⟨rfl, _, Eq.trans (World.drewN_drewN _ _ _) (congrArg (World.drewN _) (Nat.add_assoc _ _ _))⟩)) | (go_at_call 26; (with_reducible refine (headroomref10_May.calls k _ _ y101 _ _ y105 t113 a3 a4 a5 t114 _ ?side1 ?side2 ?side3 ?side4 A16.out).mono ?_); (case side1 => repeat (first | exact (Kd.C_below HR104.out (by repeat (first | (with_reducible first | exact HB.out | apply below_alloc | apply pw_below_drewN | apply below_drew1) | exact HB.out))) | (with_reducible refine Kd.C_alloc ?_ _) | (with_reducible refine Kd.C_drewN ?_ _) | (with_reducible refine Kd.C_drew ?_))); (case side2 => exact HC104.out); (case side3 => repeat (first | exact (Kd.C_below HR108.out (by repeat (first | (with_reducible first | exact HB.out | apply below_alloc | apply pw_below_drewN | apply below_drew1) | exact HB.out))) | (with_reducible refine Kd.C_alloc ?_ _) | (with_reducible refine Kd.C_drewN ?_ _) | (with_reducible refine Kd.C_drew ?_))); (case side4 => exact HC108.out); rintro e w47 ⟨rfl, hb⟩; have n0_ := Aside0.mk (Kd.R_below (by (with_reducible repeat (first | apply Kd.R_alloc | apply Kd.R_drewN | apply Kd.R_drew)); exact HO112.out) hb); have n1_ := Aside0.mk (below_step (by repeat (first | (with_reducible first | exact HB.out | apply below_alloc | apply pw_below_drewN | apply below_drew1) | exact HB.out)) hb); clear HO112; clear HB; have HO112 := n0_; have HB := n1_; clear n0_ n1_; (try clear hb); (try clear hb2); (try clear hk); (try clear hi)) | (go_at_call 28; (with_reducible refine (headroomlaw10_alive.calls  true _ A41.out).mono ?_); rintro e w48 ⟨rfl, hb⟩; have n0_ := Aside0.mk (Kd.R_below (by (with_reducible repeat (first | apply Kd.R_alloc | apply Kd.R_drewN | apply Kd.R_drew)); exact HO112.out) hb); have n1_ := Aside0.mk (below_step (by repeat (first | (with_reducible first | exact HB.out | apply below_alloc | apply pw_below_drewN | apply below_drew1) | exact HB.out)) hb); clear HO112; clear HB; have HO112 := n0_; have HB := n1_; clear n0_ n1_; (try clear hb); (try clear hb2); (try clear hk); (try clear hi); obtain ⟨Ao49, co49, eo49⟩ := Kd.R_slice HO112.out; subst eo49))
                repeat (go_quiet (first | (go_at_call 25; (with_reducible refine (two_Pass.calls _ _ y101 _ _ y105 a2 a3 a4 a5 a6 t109 t110 _ ?side1 ?side2 ?side3 ?side4 A14.out).mono ?_); (case side1 => repeat (first | exact HR104.out | (with_reducible refine Kd.C_alloc ?_ _) | (with_reducible refine Kd.C_drewN ?_ _) | (with_reducible refine Kd.C_drew ?_))); (case side2 => exact HC104.out); (case side3 => repeat (first | exact HR108.out | (with_reducible refine Kd.C_alloc ?_ _) | (with_reducible refine Kd.C_drewN ?_ _) | (with_reducible refine Kd.C_drew ?_))); (case side4 => exact HC108.out); rintro e w46 ⟨v111, rfl, ho0, hb⟩; have n0_ := Aside0.mk (Kd.R_lower ho0 (below_size (by repeat (first | (with_reducible first | exact HB.out | apply below_alloc | apply pw_below_drewN | apply below_drew1) | exact HB.out)))); have n1_ := Aside0.mk (below_step (by repeat (first | (with_reducible first | exact HB.out | apply below_alloc | apply pw_below_drewN | apply below_drew1) | exact HB.out)) hb); clear HB; have HO112 := n0_; have HB := n1_; clear n0_ n1_; (try clear hb); (try clear hb2); (try clear hk); (try clear hi); (try clear ho0)) | (go_at_call 27; (with_reducible refine (headroomref10_Half.calls k a2 (y101.length : Int) t113 _ A15.out).mono ?_); rintro e w' ⟨rfl, ⟨nd, rfl⟩⟩; (try first | exact ⟨rfl, _, World.drewN_drewN _ _ _⟩ | exact ⟨rfl, _, Eq.trans (World.drewN_drewN _ _ _) (congrArg (World.drewN _) (Nat.add_assoc _ _ _))⟩)) | (go_at_call 26; (with_reducible refine (headroomref10_May.calls k _ _ y101 _ _ y105 t113 a3 a4 a5 t114 _ ?side1 ?side2 ?side3 ?side4 A16.out).mono ?_); (case side1 => repeat (first | exact (Kd.C_below HR104.out (by repeat (first | (with_reducible first | exact HB.out | apply below_alloc | apply pw_below_drewN | apply below_drew1) | exact HB.out))) | (with_reducible refine Kd.C_alloc ?_ _) | (with_reducible refine Kd.C_drewN ?_ _) | (with_reducible refine Kd.C_drew ?_))); (case side2 => exact HC104.out); (case side3 => repeat (first | exact (Kd.C_below HR108.out (by repeat (first | (with_reducible first | exact HB.out | apply below_alloc | apply pw_below_drewN | apply below_drew1) | exact HB.out))) | (with_reducible refine Kd.C_alloc ?_ _) | (with_reducible refine Kd.C_drewN ?_ _) | (with_reducible refine Kd.C_drew ?_))); (case side4 => exact HC108.out); rintro e w47 ⟨rfl, hb⟩; have n0_ := Aside0.mk (Kd.R_below (by (with_reducible repeat (first | apply Kd.R_alloc | apply Kd.R_drewN | apply Kd.R_drew)); exact HO112.out) hb); have n1_ := Aside0.mk (below_step (by repeat (first | (with_reducible first | exact HB.out | apply below_alloc | apply pw_below_drewN | apply below_drew1) | exact HB.out)) hb); clear HO112; clear HB; have HO112 := n0_; have HB := n1_; clear n0_ n1_; (try clear hb); (try clear hb2); (try clear hk); (try clear hi)) | (go_at_call 28; (with_reducible refine (headroomlaw10_alive.calls  true _ A41.out).mono ?_); rintro e w48 ⟨rfl, hb⟩; have n0_ := Aside0.mk (Kd.R_below (by (with_reducible repeat (first | apply Kd.R_alloc | apply Kd.R_drewN | apply Kd.R_drew)); exact HO112.out) hb); have n1_ := Aside0.mk (below_step (by repeat (first | (with_reducible first | exact HB.out | apply below_alloc | apply pw_below_drewN | apply below_drew1) | exact HB.out)) hb); clear HO112; clear HB; have HO112 := n0_; have HB := n1_; clear n0_ n1_; (try clear hb); (try clear hb2); (try clear hk); (try clear hi); obtain ⟨Ao49, co49, eo49⟩ := Kd.R_slice HO112.out; subst eo49)); try go_wp2_with (first | (go_at_call 25; (with_reducible refine (two_Pass.calls _ _ y101 _ _ y105 a2 a3 a4 a5 a6 t109 t110 _ ?side1 ?side2 ?side3 ?side4 A14.out).mono ?_); (case side1 => repeat (first | exact HR104.out | (with_reducible refine Kd.C_alloc ?_ _) | (with_reducible refine Kd.C_drewN ?_ _) | (with_reducible refine Kd.C_drew ?_))); (case side2 => exact HC104.out); (case side3 => repeat (first | exact HR108.out | (with_reducible refine Kd.C_alloc ?_ _) | (with_reducible refine Kd.C_drewN ?_ _) | (with_reducible refine Kd.C_drew ?_))); (case side4 => exact HC108.out); rintro e w46 ⟨v111, rfl, ho0, hb⟩; have n0_ := Aside0.mk (Kd.R_lower ho0 (below_size (by repeat (first | (with_reducible first | exact HB.out | apply below_alloc | apply pw_below_drewN | apply below_drew1) | exact HB.out)))); have n1_ := Aside0.mk (below_step (by repeat (first | (with_reducible first | exact HB.out | apply below_alloc | apply pw_below_drewN | apply below_drew1) | exact HB.out)) hb); clear HB; have HO112 := n0_; have HB := n1_; clear n0_ n1_; (try clear hb); (try clear hb2); (try clear hk); (try clear hi); (try clear ho0)) | (go_at_call 27; (with_reducible refine (headroomref10_Half.calls k a2 (y101.length : Int) t113 _ A15.out).mono ?_); rintro e w' ⟨rfl, ⟨nd, rfl⟩⟩; (try first | exact ⟨rfl, _, World.drewN_drewN _ _ _⟩ | exact ⟨rfl, _, Eq.trans (World.drewN_drewN _ _ _) (congrArg (World.drewN _) (Nat.add_assoc _ _ _))⟩)) | (go_at_call 26; (with_reducible refine (headroomref10_May.calls k _ _ y101 _ _ y105 t113 a3 a4 a5 t114 _ ?side1 ?side2 ?side3 ?side4 A16.out).mono ?_); (case side1 => repeat (first | exact (Kd.C_below HR104.out (by repeat (first | (with_reducible first | exact HB.out | apply below_alloc | apply pw_below_drewN | apply below_drew1) | exact HB.out))) | (with_reducible refine Kd.C_alloc ?_ _) | (with_reducible refine Kd.C_drewN ?_ _) | (with_reducible refine Kd.C_drew ?_))); (case side2 => exact HC104.out); (case side3 => repeat (first | exact (Kd.C_below HR108.out (by repeat (first | (with_reducible first | exact HB.out | apply below_alloc | apply pw_below_drewN | apply below_drew1) | exact HB.out))) | (with_reducible refine Kd.C_alloc ?_ _) | (with_reducible refine Kd.C_drewN ?_ _) | (with_reducible refine Kd.C_drew ?_))); (case side4 => exact HC108.out); rintro e w47 ⟨rfl, hb⟩; have n0_ := Aside0.mk (Kd.R_below (by (with_reducible repeat (first | apply Kd.R_alloc | apply Kd.R_drewN | apply Kd.R_drew)); exact HO112.out) hb); have n1_ := Aside0.mk (below_step (by repeat (first | (with_reducible first | exact HB.out | apply below_alloc | apply pw_below_drewN | apply below_drew1) | exact HB.out)) hb); clear HO112; clear HB; have HO112 := n0_; have HB := n1_; clear n0_ n1_; (try clear hb); (try clear hb2); (try clear hk); (try clear hi)) | (go_at_call 28; (with_reducible refine (headroomlaw10_alive.calls  true _ A41.out).mono ?_); rintro e w48 ⟨rfl, hb⟩; have n0_ := Aside0.mk (Kd.R_below (by (with_reducible repeat (first | apply Kd.R_alloc | apply Kd.R_drewN | apply Kd.R_drew)); exact HO112.out) hb); have n1_ := Aside0.mk (below_step (by repeat (first | (with_reducible first | exact HB.out | apply below_alloc | apply pw_below_drewN | apply below_drew1) | exact HB.out)) hb); clear HO112; clear HB; have HO112 := n0_; have HB := n1_; clear n0_ n1_; (try clear hb); (try clear hb2); (try clear hk); (try clear hi); obtain ⟨Ao49, co49, eo49⟩ := Kd.R_slice HO112.out; subst eo49)))
                go_ret
                exact ⟨by first | rfl | (simp [errW_none, errW_some] <;> rfl) | (simp only [← hji8, ← hji11]; first | rfl | (simp [errW_none, errW_some] <;> rfl)) | (simp [*, errW_none, errW_some] <;> rfl), by repeat (first | (with_reducible first | exact HB.out | apply below_alloc | apply pw_below_drewN | apply below_drew1) | exact HB.out)⟩
              · rw [if_neg c43] at H
                have c43b0 : (t110 == t114) = false := beq_eq_false_iff_ne.mpr c43
                have c43b1 : (t110 != t114) = true := bne_iff_ne.mpr c43
                obtain rfl := Option.some.inj H
                have q50 : ((ji8) : Int) ≤ ((l0.length : Int) : Int) := of_decide_eq_true (by first | (with_reducible assumption) | assumption)
                obtain ⟨i050, hi050, _, hsz50, _⟩ := info_parts info43
                have hroom50 : l0.length ≤ c0 := HC0.out
                have hC50 : Kd.C k43 _ A0 l0.length l0 := HR0.out
                have hcut50 := cut_to (P := Try.prog) 33 43 .i64 Try.underlying33 hi050 A0 l0.length c0 (ji8) (of_decide_eq_true (by first | (with_reducible assumption) | assumption)) q50 hroom50
                have hr50 := Kd.C_take (m := ((ji8) : Int).toNat) hC50 (by omega)
                have hy50 : y101.length = ((ji8) : Int).toNat := (by rw [Ny101.out, List.length_take]; omega)
                rw [← Ny101.out] at hr50
                rw [← hy50] at hcut50
                have HR104 := Aside0.mk hr50
                have HC104 := Aside0.mk (show y101.length ≤ c0 from by omega)
                clear hr50 hC50 hroom50 hi050 hsz50
                have KY50 := Aside0.mk hy50
                clear hy50
                replace q50 := eq_true q50
                have q51 : ((ji11) : Int) ≤ ((l1.length : Int) : Int) := of_decide_eq_true (by first | (with_reducible assumption) | assumption)
                obtain ⟨i051, hi051, _, hsz51, _⟩ := info_parts info43
                have hroom51 : l1.length ≤ c1 := HC1.out
                have hC51 : Kd.C k43 _ A1 l1.length l1 := HR1.out
                have hcut51 := cut_to (P := Try.prog) 33 43 .i64 Try.underlying33 hi051 A1 l1.length c1 (ji11) (of_decide_eq_true (by first | (with_reducible assumption) | assumption)) q51 hroom51
                have hr51 := Kd.C_take (m := ((ji11) : Int).toNat) hC51 (by omega)
                have hy51 : y105.length = ((ji11) : Int).toNat := (by rw [Ny105.out, List.length_take]; omega)
                rw [← Ny105.out] at hr51
                rw [← hy51] at hcut51
                have HR108 := Aside0.mk hr51
                have HC108 := Aside0.mk (show y105.length ≤ c1 from by omega)
                clear hr51 hC51 hroom51 hi051 hsz51
                have KY51 := Aside0.mk hy51
                clear hy51
                replace q51 := eq_true q51
                go_enter Try.func4, Try.ntmps4
                go_wp2_with (first | (go_at_call 25; (with_reducible refine (two_Pass.calls _ _ y101 _ _ y105 a2 a3 a4 a5 a6 t109 t110 _ ?side1 ?side2 ?side3 ?side4 A14.out).mono ?_); (case side1 => repeat (first | exact HR104.out | (with_reducible refine Kd.C_alloc ?_ _) | (with_reducible refine Kd.C_drewN ?_ _) | (with_reducible refine Kd.C_drew ?_))); (case side2 => exact HC104.out); (case side3 => repeat (first | exact HR108.out | (with_reducible refine Kd.C_alloc ?_ _) | (with_reducible refine Kd.C_drewN ?_ _) | (with_reducible refine Kd.C_drew ?_))); (case side4 => exact HC108.out); rintro e w52 ⟨v111, rfl, ho0, hb⟩; have n0_ := Aside0.mk (Kd.R_lower ho0 (below_size (by repeat (first | (with_reducible first | exact HB.out | apply below_alloc | apply pw_below_drewN | apply below_drew1) | exact HB.out)))); have n1_ := Aside0.mk (below_step (by repeat (first | (with_reducible first | exact HB.out | apply below_alloc | apply pw_below_drewN | apply below_drew1) | exact HB.out)) hb); clear HB; have HO112 := n0_; have HB := n1_; clear n0_ n1_; (try clear hb); (try clear hb2); (try clear hk); (try clear hi); (try clear ho0)) | (go_at_call 27; (with_reducible refine (headroomref10_Half.calls k a2 (y101.length : Int) t113 _ A15.out).mono ?_); rintro e w' ⟨rfl, ⟨nd, rfl⟩⟩; (try first | exact ⟨rfl, _, World.drewN_drewN _ _ _⟩ | exact ⟨rfl, _, Eq.trans (World.drewN_drewN _ _ _) (congrArg (World.drewN _) (Nat.add_assoc _ _ _))⟩)) | (go_at_call 26; (with_reducible refine (headroomref10_May.calls k _ _ y101 _ _ y105 t113 a3 a4 a5 t114 _ ?side1 ?side2 ?side3 ?side4 A16.out).mono ?_); (case side1 => repeat (first | exact (Kd.C_below HR104.out (by repeat (first | (with_reducible first | exact HB.out | apply below_alloc | apply pw_below_drewN | apply below_drew1) | exact HB.out))) | (with_reducible refine Kd.C_alloc ?_ _) | (with_reducible refine Kd.C_drewN ?_ _) | (with_reducible refine Kd.C_drew ?_))); (case side2 => exact HC104.out); (case side3 => repeat (first | exact (Kd.C_below HR108.out (by repeat (first | (with_reducible first | exact HB.out | apply below_alloc | apply pw_below_drewN | apply below_drew1) | exact HB.out))) | (with_reducible refine Kd.C_alloc ?_ _) | (with_reducible refine Kd.C_drewN ?_ _) | (with_reducible refine Kd.C_drew ?_))); (case side4 => exact HC108.out); rintro e w53 ⟨rfl, hb⟩; have n0_ := Aside0.mk (Kd.R_below (by (with_reducible repeat (first | apply Kd.R_alloc | apply Kd.R_drewN | apply Kd.R_drew)); exact HO112.out) hb); have n1_ := Aside0.mk (below_step (by repeat (first | (with_reducible first | exact HB.out | apply below_alloc | apply pw_below_drewN | apply below_drew1) | exact HB.out)) hb); clear HO112; clear HB; have HO112 := n0_; have HB := n1_; clear n0_ n1_; (try clear hb); (try clear hb2); (try clear hk); (try clear hi)) | (go_at_call 28; (with_reducible refine (headroomlaw10_alive.calls  true _ A41.out).mono ?_); rintro e w54 ⟨rfl, hb⟩; have n0_ := Aside0.mk (Kd.R_below (by (with_reducible repeat (first | apply Kd.R_alloc | apply Kd.R_drewN | apply Kd.R_drew)); exact HO112.out) hb); have n1_ := Aside0.mk (below_step (by repeat (first | (with_reducible first | exact HB.out | apply below_alloc | apply pw_below_drewN | apply below_drew1) | exact HB.out)) hb); clear HO112; clear HB; have HO112 := n0_; have HB := n1_; clear n0_ n1_; (try clear hb); (try clear hb2); (try clear hk); (try clear hi)))
                repeat (go_quiet (first | (go_at_call 25; (with_reducible refine (two_Pass.calls _ _ y101 _ _ y105 a2 a3 a4 a5 a6 t109 t110 _ ?side1 ?side2 ?side3 ?side4 A14.out).mono ?_); (case side1 => repeat (first | exact HR104.out | (with_reducible refine Kd.C_alloc ?_ _) | (with_reducible refine Kd.C_drewN ?_ _) | (with_reducible refine Kd.C_drew ?_))); (case side2 => exact HC104.out); (case side3 => repeat (first | exact HR108.out | (with_reducible refine Kd.C_alloc ?_ _) | (with_reducible refine Kd.C_drewN ?_ _) | (with_reducible refine Kd.C_drew ?_))); (case side4 => exact HC108.out); rintro e w52 ⟨v111, rfl, ho0, hb⟩; have n0_ := Aside0.mk (Kd.R_lower ho0 (below_size (by repeat (first | (with_reducible first | exact HB.out | apply below_alloc | apply pw_below_drewN | apply below_drew1) | exact HB.out)))); have n1_ := Aside0.mk (below_step (by repeat (first | (with_reducible first | exact HB.out | apply below_alloc | apply pw_below_drewN | apply below_drew1) | exact HB.out)) hb); clear HB; have HO112 := n0_; have HB := n1_; clear n0_ n1_; (try clear hb); (try clear hb2); (try clear hk); (try clear hi); (try clear ho0)) | (go_at_call 27; (with_reducible refine (headroomref10_Half.calls k a2 (y101.length : Int) t113 _ A15.out).mono ?_); rintro e w' ⟨rfl, ⟨nd, rfl⟩⟩; (try first | exact ⟨rfl, _, World.drewN_drewN _ _ _⟩ | exact ⟨rfl, _, Eq.trans (World.drewN_drewN _ _ _) (congrArg (World.drewN _) (Nat.add_assoc _ _ _))⟩)) | (go_at_call 26; (with_reducible refine (headroomref10_May.calls k _ _ y101 _ _ y105 t113 a3 a4 a5 t114 _ ?side1 ?side2 ?side3 ?side4 A16.out).mono ?_); (case side1 => repeat (first | exact (Kd.C_below HR104.out (by repeat (first | (with_reducible first | exact HB.out | apply below_alloc | apply pw_below_drewN | apply below_drew1) | exact HB.out))) | (with_reducible refine Kd.C_alloc ?_ _) | (with_reducible refine Kd.C_drewN ?_ _) | (with_reducible refine Kd.C_drew ?_))); (case side2 => exact HC104.out); (case side3 => repeat (first | exact (Kd.C_below HR108.out (by repeat (first | (with_reducible first | exact HB.out | apply below_alloc | apply pw_below_drewN | apply below_drew1) | exact HB.out))) | (with_reducible refine Kd.C_alloc ?_ _) | (with_reducible refine Kd.C_drewN ?_ _) | (with_reducible refine Kd.C_drew ?_))); (case side4 => exact HC108.out); rintro e w53 ⟨rfl, hb⟩; have n0_ := Aside0.mk (Kd.R_below (by (with_reducible repeat (first | apply Kd.R_alloc | apply Kd.R_drewN | apply Kd.R_drew)); exact HO112.out) hb); have n1_ := Aside0.mk (below_step (by repeat (first | (with_reducible first | exact HB.out | apply below_alloc | apply pw_below_drewN | apply below_drew1) | exact HB.out)) hb); clear HO112; clear HB; have HO112 := n0_; have HB := n1_; clear n0_ n1_; (try clear hb); (try clear hb2); (try clear hk); (try clear hi)) | (go_at_call 28; (with_reducible refine (headroomlaw10_alive.calls  true _ A41.out).mono ?_); rintro e w54 ⟨rfl, hb⟩; have n0_ := Aside0.mk (Kd.R_below (by (with_reducible repeat (first | apply Kd.R_alloc | apply Kd.R_drewN | apply Kd.R_drew)); exact HO112.out) hb); have n1_ := Aside0.mk (below_step (by repeat (first | (with_reducible first | exact HB.out | apply below_alloc | apply pw_below_drewN | apply below_drew1) | exact HB.out)) hb); clear HO112; clear HB; have HO112 := n0_; have HB := n1_; clear n0_ n1_; (try clear hb); (try clear hb2); (try clear hk); (try clear hi))); try go_wp2_with (first | (go_at_call 25; (with_reducible refine (two_Pass.calls _ _ y101 _ _ y105 a2 a3 a4 a5 a6 t109 t110 _ ?side1 ?side2 ?side3 ?side4 A14.out).mono ?_); (case side1 => repeat (first | exact HR104.out | (with_reducible refine Kd.C_alloc ?_ _) | (with_reducible refine Kd.C_drewN ?_ _) | (with_reducible refine Kd.C_drew ?_))); (case side2 => exact HC104.out); (case side3 => repeat (first | exact HR108.out | (with_reducible refine Kd.C_alloc ?_ _) | (with_reducible refine Kd.C_drewN ?_ _) | (with_reducible refine Kd.C_drew ?_))); (case side4 => exact HC108.out); rintro e w52 ⟨v111, rfl, ho0, hb⟩; have n0_ := Aside0.mk (Kd.R_lower ho0 (below_size (by repeat (first | (with_reducible first | exact HB.out | apply below_alloc | apply pw_below_drewN | apply below_drew1) | exact HB.out)))); have n1_ := Aside0.mk (below_step (by repeat (first | (with_reducible first | exact HB.out | apply below_alloc | apply pw_below_drewN | apply below_drew1) | exact HB.out)) hb); clear HB; have HO112 := n0_; have HB := n1_; clear n0_ n1_; (try clear hb); (try clear hb2); (try clear hk); (try clear hi); (try clear ho0)) | (go_at_call 27; (with_reducible refine (headroomref10_Half.calls k a2 (y101.length : Int) t113 _ A15.out).mono ?_); rintro e w' ⟨rfl, ⟨nd, rfl⟩⟩; (try first | exact ⟨rfl, _, World.drewN_drewN _ _ _⟩ | exact ⟨rfl, _, Eq.trans (World.drewN_drewN _ _ _) (congrArg (World.drewN _) (Nat.add_assoc _ _ _))⟩)) | (go_at_call 26; (with_reducible refine (headroomref10_May.calls k _ _ y101 _ _ y105 t113 a3 a4 a5 t114 _ ?side1 ?side2 ?side3 ?side4 A16.out).mono ?_); (case side1 => repeat (first | exact (Kd.C_below HR104.out (by repeat (first | (with_reducible first | exact HB.out | apply below_alloc | apply pw_below_drewN | apply below_drew1) | exact HB.out))) | (with_reducible refine Kd.C_alloc ?_ _) | (with_reducible refine Kd.C_drewN ?_ _) | (with_reducible refine Kd.C_drew ?_))); (case side2 => exact HC104.out); (case side3 => repeat (first | exact (Kd.C_below HR108.out (by repeat (first | (with_reducible first | exact HB.out | apply below_alloc | apply pw_below_drewN | apply below_drew1) | exact HB.out))) | (with_reducible refine Kd.C_alloc ?_ _) | (with_reducible refine Kd.C_drewN ?_ _) | (with_reducible refine Kd.C_drew ?_))); (case side4 => exact HC108.out); rintro e w53 ⟨rfl, hb⟩; have n0_ := Aside0.mk (Kd.R_below (by (with_reducible repeat (first | apply Kd.R_alloc | apply Kd.R_drewN | apply Kd.R_drew)); exact HO112.out) hb); have n1_ := Aside0.mk (below_step (by repeat (first | (with_reducible first | exact HB.out | apply below_alloc | apply pw_below_drewN | apply below_drew1) | exact HB.out)) hb); clear HO112; clear HB; have HO112 := n0_; have HB := n1_; clear n0_ n1_; (try clear hb); (try clear hb2); (try clear hk); (try clear hi)) | (go_at_call 28; (with_reducible refine (headroomlaw10_alive.calls  true _ A41.out).mono ?_); rintro e w54 ⟨rfl, hb⟩; have n0_ := Aside0.mk (Kd.R_below (by (with_reducible repeat (first | apply Kd.R_alloc | apply Kd.R_drewN | apply Kd.R_drew)); exact HO112.out) hb); have n1_ := Aside0.mk (below_step (by repeat (first | (with_reducible first | exact HB.out | apply below_alloc | apply pw_below_drewN | apply below_drew1) | exact HB.out)) hb); clear HO112; clear HB; have HO112 := n0_; have HB := n1_; clear n0_ n1_; (try clear hb); (try clear hb2); (try clear hk); (try clear hi))))
                go_ret
                exact ⟨by first | rfl | (simp [errW_none, errW_some] <;> rfl) | (simp only [← hji8, ← hji11]; first | rfl | (simp [errW_none, errW_some] <;> rfl)) | (simp [*, errW_none, errW_some] <;> rfl), by repeat (first | (with_reducible first | exact HB.out | apply below_alloc | apply pw_below_drewN | apply below_drew1) | exact HB.out)⟩
            · replace c42 := Bool.eq_false_iff.mpr c42
              subst c42
              have H1 : (some false) = some r := by rw [if_neg (show ¬ (false = true) by decide)] at H; exact H
              clear H
              have H := H1
              clear H1
              obtain rfl := Option.some.inj H
              have q55 : ((ji8) : Int) ≤ ((l0.length : Int) : Int) := of_decide_eq_true (by first | (with_reducible assumption) | assumption)
              obtain ⟨i055, hi055, _, hsz55, _⟩ := info_parts info43
              have hroom55 : l0.length ≤ c0 := HC0.out
              have hC55 : Kd.C k43 _ A0 l0.length l0 := HR0.out
              have hcut55 := cut_to (P := Try.prog) 33 43 .i64 Try.underlying33 hi055 A0 l0.length c0 (ji8) (of_decide_eq_true (by first | (with_reducible assumption) | assumption)) q55 hroom55
              have hr55 := Kd.C_take (m := ((ji8) : Int).toNat) hC55 (by omega)
              have hy55 : y101.length = ((ji8) : Int).toNat := (by rw [Ny101.out, List.length_take]; omega)
              rw [← Ny101.out] at hr55
              rw [← hy55] at hcut55
              have HR104 := Aside0.mk hr55
              have HC104 := Aside0.mk (show y101.length ≤ c0 from by omega)
              clear hr55 hC55 hroom55 hi055 hsz55
              have KY55 := Aside0.mk hy55
              clear hy55
              replace q55 := eq_true q55
              have q56 : ((ji11) : Int) ≤ ((l1.length : Int) : Int) := of_decide_eq_true (by first | (with_reducible assumption) | assumption)
              obtain ⟨i056, hi056, _, hsz56, _⟩ := info_parts info43
              have hroom56 : l1.length ≤ c1 := HC1.out
              have hC56 : Kd.C k43 _ A1 l1.length l1 := HR1.out
              have hcut56 := cut_to (P := Try.prog) 33 43 .i64 Try.underlying33 hi056 A1 l1.length c1 (ji11) (of_decide_eq_true (by first | (with_reducible assumption) | assumption)) q56 hroom56
              have hr56 := Kd.C_take (m := ((ji11) : Int).toNat) hC56 (by omega)
              have hy56 : y105.length = ((ji11) : Int).toNat := (by rw [Ny105.out, List.length_take]; omega)
              rw [← Ny105.out] at hr56
              rw [← hy56] at hcut56
              have HR108 := Aside0.mk hr56
              have HC108 := Aside0.mk (show y105.length ≤ c1 from by omega)
              clear hr56 hC56 hroom56 hi056 hsz56
              have KY56 := Aside0.mk hy56
              clear hy56
              replace q56 := eq_true q56
              go_enter Try.func4, Try.ntmps4
              go_wp2_with (first | (go_at_call 25; (with_reducible refine (two_Pass.calls _ _ y101 _ _ y105 a2 a3 a4 a5 a6 t109 t110 _ ?side1 ?side2 ?side3 ?side4 A14.out).mono ?_); (case side1 => repeat (first | exact HR104.out | (with_reducible refine Kd.C_alloc ?_ _) | (with_reducible refine Kd.C_drewN ?_ _) | (with_reducible refine Kd.C_drew ?_))); (case side2 => exact HC104.out); (case side3 => repeat (first | exact HR108.out | (with_reducible refine Kd.C_alloc ?_ _) | (with_reducible refine Kd.C_drewN ?_ _) | (with_reducible refine Kd.C_drew ?_))); (case side4 => exact HC108.out); rintro e w57 ⟨v111, rfl, ho0, hb⟩; have n0_ := Aside0.mk (Kd.R_lower ho0 (below_size (by repeat (first | (with_reducible first | exact HB.out | apply below_alloc | apply pw_below_drewN | apply below_drew1) | exact HB.out)))); have n1_ := Aside0.mk (below_step (by repeat (first | (with_reducible first | exact HB.out | apply below_alloc | apply pw_below_drewN | apply below_drew1) | exact HB.out)) hb); clear HB; have HO112 := n0_; have HB := n1_; clear n0_ n1_; (try clear hb); (try clear hb2); (try clear hk); (try clear hi); (try clear ho0)) | (go_at_call 27; (with_reducible refine (headroomref10_Half.calls k a2 (y101.length : Int) t113 _ A15.out).mono ?_); rintro e w' ⟨rfl, ⟨nd, rfl⟩⟩; (try first | exact ⟨rfl, _, World.drewN_drewN _ _ _⟩ | exact ⟨rfl, _, Eq.trans (World.drewN_drewN _ _ _) (congrArg (World.drewN _) (Nat.add_assoc _ _ _))⟩)) | (go_at_call 26; (with_reducible refine (headroomref10_May.calls k _ _ y101 _ _ y105 t113 a3 a4 a5 t114 _ ?side1 ?side2 ?side3 ?side4 A16.out).mono ?_); (case side1 => repeat (first | exact (Kd.C_below HR104.out (by repeat (first | (with_reducible first | exact HB.out | apply below_alloc | apply pw_below_drewN | apply below_drew1) | exact HB.out))) | (with_reducible refine Kd.C_alloc ?_ _) | (with_reducible refine Kd.C_drewN ?_ _) | (with_reducible refine Kd.C_drew ?_))); (case side2 => exact HC104.out); (case side3 => repeat (first | exact (Kd.C_below HR108.out (by repeat (first | (with_reducible first | exact HB.out | apply below_alloc | apply pw_below_drewN | apply below_drew1) | exact HB.out))) | (with_reducible refine Kd.C_alloc ?_ _) | (with_reducible refine Kd.C_drewN ?_ _) | (with_reducible refine Kd.C_drew ?_))); (case side4 => exact HC108.out); rintro e w58 ⟨rfl, hb⟩; have n0_ := Aside0.mk (Kd.R_below (by (with_reducible repeat (first | apply Kd.R_alloc | apply Kd.R_drewN | apply Kd.R_drew)); exact HO112.out) hb); have n1_ := Aside0.mk (below_step (by repeat (first | (with_reducible first | exact HB.out | apply below_alloc | apply pw_below_drewN | apply below_drew1) | exact HB.out)) hb); clear HO112; clear HB; have HO112 := n0_; have HB := n1_; clear n0_ n1_; (try clear hb); (try clear hb2); (try clear hk); (try clear hi)) | (go_at_call 28; (with_reducible refine (headroomlaw10_alive.calls  false _ A41.out).mono ?_); rintro e w59 ⟨rfl, hb⟩; have n0_ := Aside0.mk (Kd.R_below (by (with_reducible repeat (first | apply Kd.R_alloc | apply Kd.R_drewN | apply Kd.R_drew)); exact HO112.out) hb); have n1_ := Aside0.mk (below_step (by repeat (first | (with_reducible first | exact HB.out | apply below_alloc | apply pw_below_drewN | apply below_drew1) | exact HB.out)) hb); clear HO112; clear HB; have HO112 := n0_; have HB := n1_; clear n0_ n1_; (try clear hb); (try clear hb2); (try clear hk); (try clear hi)))
              repeat (go_quiet (first | (go_at_call 25; (with_reducible refine (two_Pass.calls _ _ y101 _ _ y105 a2 a3 a4 a5 a6 t109 t110 _ ?side1 ?side2 ?side3 ?side4 A14.out).mono ?_); (case side1 => repeat (first | exact HR104.out | (with_reducible refine Kd.C_alloc ?_ _) | (with_reducible refine Kd.C_drewN ?_ _) | (with_reducible refine Kd.C_drew ?_))); (case side2 => exact HC104.out); (case side3 => repeat (first | exact HR108.out | (with_reducible refine Kd.C_alloc ?_ _) | (with_reducible refine Kd.C_drewN ?_ _) | (with_reducible refine Kd.C_drew ?_))); (case side4 => exact HC108.out); rintro e w57 ⟨v111, rfl, ho0, hb⟩; have n0_ := Aside0.mk (Kd.R_lower ho0 (below_size (by repeat (first | (with_reducible first | exact HB.out | apply below_alloc | apply pw_below_drewN | apply below_drew1) | exact HB.out)))); have n1_ := Aside0.mk (below_step (by repeat (first | (with_reducible first | exact HB.out | apply below_alloc | apply pw_below_drewN | apply below_drew1) | exact HB.out)) hb); clear HB; have HO112 := n0_; have HB := n1_; clear n0_ n1_; (try clear hb); (try clear hb2); (try clear hk); (try clear hi); (try clear ho0)) | (go_at_call 27; (with_reducible refine (headroomref10_Half.calls k a2 (y101.length : Int) t113 _ A15.out).mono ?_); rintro e w' ⟨rfl, ⟨nd, rfl⟩⟩; (try first | exact ⟨rfl, _, World.drewN_drewN _ _ _⟩ | exact ⟨rfl, _, Eq.trans (World.drewN_drewN _ _ _) (congrArg (World.drewN _) (Nat.add_assoc _ _ _))⟩)) | (go_at_call 26; (with_reducible refine (headroomref10_May.calls k _ _ y101 _ _ y105 t113 a3 a4 a5 t114 _ ?side1 ?side2 ?side3 ?side4 A16.out).mono ?_); (case side1 => repeat (first | exact (Kd.C_below HR104.out (by repeat (first | (with_reducible first | exact HB.out | apply below_alloc | apply pw_below_drewN | apply below_drew1) | exact HB.out))) | (with_reducible refine Kd.C_alloc ?_ _) | (with_reducible refine Kd.C_drewN ?_ _) | (with_reducible refine Kd.C_drew ?_))); (case side2 => exact HC104.out); (case side3 => repeat (first | exact (Kd.C_below HR108.out (by repeat (first | (with_reducible first | exact HB.out | apply below_alloc | apply pw_below_drewN | apply below_drew1) | exact HB.out))) | (with_reducible refine Kd.C_alloc ?_ _) | (with_reducible refine Kd.C_drewN ?_ _) | (with_reducible refine Kd.C_drew ?_))); (case side4 => exact HC108.out); rintro e w58 ⟨rfl, hb⟩; have n0_ := Aside0.mk (Kd.R_below (by (with_reducible repeat (first | apply Kd.R_alloc | apply Kd.R_drewN | apply Kd.R_drew)); exact HO112.out) hb); have n1_ := Aside0.mk (below_step (by repeat (first | (with_reducible first | exact HB.out | apply below_alloc | apply pw_below_drewN | apply below_drew1) | exact HB.out)) hb); clear HO112; clear HB; have HO112 := n0_; have HB := n1_; clear n0_ n1_; (try clear hb); (try clear hb2); (try clear hk); (try clear hi)) | (go_at_call 28; (with_reducible refine (headroomlaw10_alive.calls  false _ A41.out).mono ?_); rintro e w59 ⟨rfl, hb⟩; have n0_ := Aside0.mk (Kd.R_below (by (with_reducible repeat (first | apply Kd.R_alloc | apply Kd.R_drewN | apply Kd.R_drew)); exact HO112.out) hb); have n1_ := Aside0.mk (below_step (by repeat (first | (with_reducible first | exact HB.out | apply below_alloc | apply pw_below_drewN | apply below_drew1) | exact HB.out)) hb); clear HO112; clear HB; have HO112 := n0_; have HB := n1_; clear n0_ n1_; (try clear hb); (try clear hb2); (try clear hk); (try clear hi))); try go_wp2_with (first | (go_at_call 25; (with_reducible refine (two_Pass.calls _ _ y101 _ _ y105 a2 a3 a4 a5 a6 t109 t110 _ ?side1 ?side2 ?side3 ?side4 A14.out).mono ?_); (case side1 => repeat (first | exact HR104.out | (with_reducible refine Kd.C_alloc ?_ _) | (with_reducible refine Kd.C_drewN ?_ _) | (with_reducible refine Kd.C_drew ?_))); (case side2 => exact HC104.out); (case side3 => repeat (first | exact HR108.out | (with_reducible refine Kd.C_alloc ?_ _) | (with_reducible refine Kd.C_drewN ?_ _) | (with_reducible refine Kd.C_drew ?_))); (case side4 => exact HC108.out); rintro e w57 ⟨v111, rfl, ho0, hb⟩; have n0_ := Aside0.mk (Kd.R_lower ho0 (below_size (by repeat (first | (with_reducible first | exact HB.out | apply below_alloc | apply pw_below_drewN | apply below_drew1) | exact HB.out)))); have n1_ := Aside0.mk (below_step (by repeat (first | (with_reducible first | exact HB.out | apply below_alloc | apply pw_below_drewN | apply below_drew1) | exact HB.out)) hb); clear HB; have HO112 := n0_; have HB := n1_; clear n0_ n1_; (try clear hb); (try clear hb2); (try clear hk); (try clear hi); (try clear ho0)) | (go_at_call 27; (with_reducible refine (headroomref10_Half.calls k a2 (y101.length : Int) t113 _ A15.out).mono ?_); rintro e w' ⟨rfl, ⟨nd, rfl⟩⟩; (try first | exact ⟨rfl, _, World.drewN_drewN _ _ _⟩ | exact ⟨rfl, _, Eq.trans (World.drewN_drewN _ _ _) (congrArg (World.drewN _) (Nat.add_assoc _ _ _))⟩)) | (go_at_call 26; (with_reducible refine (headroomref10_May.calls k _ _ y101 _ _ y105 t113 a3 a4 a5 t114 _ ?side1 ?side2 ?side3 ?side4 A16.out).mono ?_); (case side1 => repeat (first | exact (Kd.C_below HR104.out (by repeat (first | (with_reducible first | exact HB.out | apply below_alloc | apply pw_below_drewN | apply below_drew1) | exact HB.out))) | (with_reducible refine Kd.C_alloc ?_ _) | (with_reducible refine Kd.C_drewN ?_ _) | (with_reducible refine Kd.C_drew ?_))); (case side2 => exact HC104.out); (case side3 => repeat (first | exact (Kd.C_below HR108.out (by repeat (first | (with_reducible first | exact HB.out | apply below_alloc | apply pw_below_drewN | apply below_drew1) | exact HB.out))) | (with_reducible refine Kd.C_alloc ?_ _) | (with_reducible refine Kd.C_drewN ?_ _) | (with_reducible refine Kd.C_drew ?_))); (case side4 => exact HC108.out); rintro e w58 ⟨rfl, hb⟩; have n0_ := Aside0.mk (Kd.R_below (by (with_reducible repeat (first | apply Kd.R_alloc | apply Kd.R_drewN | apply Kd.R_drew)); exact HO112.out) hb); have n1_ := Aside0.mk (below_step (by repeat (first | (with_reducible first | exact HB.out | apply below_alloc | apply pw_below_drewN | apply below_drew1) | exact HB.out)) hb); clear HO112; clear HB; have HO112 := n0_; have HB := n1_; clear n0_ n1_; (try clear hb); (try clear hb2); (try clear hk); (try clear hi)) | (go_at_call 28; (with_reducible refine (headroomlaw10_alive.calls  false _ A41.out).mono ?_); rintro e w59 ⟨rfl, hb⟩; have n0_ := Aside0.mk (Kd.R_below (by (with_reducible repeat (first | apply Kd.R_alloc | apply Kd.R_drewN | apply Kd.R_drew)); exact HO112.out) hb); have n1_ := Aside0.mk (below_step (by repeat (first | (with_reducible first | exact HB.out | apply below_alloc | apply pw_below_drewN | apply below_drew1) | exact HB.out)) hb); clear HO112; clear HB; have HO112 := n0_; have HB := n1_; clear n0_ n1_; (try clear hb); (try clear hb2); (try clear hk); (try clear hi))))
              go_ret
              exact ⟨by first | rfl | (simp [errW_none, errW_some] <;> rfl) | (simp only [← hji8, ← hji11]; first | rfl | (simp [errW_none, errW_some] <;> rfl)) | (simp [*, errW_none, errW_some] <;> rfl), by repeat (first | (with_reducible first | exact HB.out | apply below_alloc | apply pw_below_drewN | apply below_drew1) | exact HB.out)⟩
        · rw [if_neg c13] at H
          exact absurd H (by simp)
      · rw [if_neg c12] at H
        exact absurd H (by simp)
    · rw [if_neg c10] at H
      exact absurd H (by simp)
  · rw [if_neg c9] at H
    exact absurd H (by simp)

end Go.Proofs.Ytmglkelmdcpinaa.G
/- A slice of complex numbers that comes in, read as a list of pairs of whole numbers of 64 bits. Conditions: it reads as data. -/
namespace Go.Proofs.Ytmglkelmdcpinaa.G
open Go.RowKit Go.ChangeShapes Go.WideShapes Go.Proofs.YtmglkelmdcpinaaW.PrintWords

def wfCx (x : S43) : Prop := (Lit.int .i64 x.f0).wf = true ∧ (Lit.int .i64 x.f1).wf = true
theorem C_of_cells {w : World} {A : Option Addr} (l : List S43) (hb : l.length ≤ 9223372036854775807) (h : 0 < l.length → ∃ ad, A = some ad ∧ ∀ i, i < l.length → w.cell? (ad.add (i * 2)) = some (.int .i64 (l.getD i z43).f0) ∧ w.cell? (ad.add (i * 2 + 1)) = some (.int .i64 (l.getD i z43).f1)) :
    Kd.C k43 w A l.length l := by
  refine ⟨rfl, hb, fun hn => ?_⟩
  obtain ⟨ad, e, hc⟩ := h hn
  refine ⟨ad, e, fun j p hj => ?_⟩
  obtain ⟨hj', rfl⟩ := List.getElem?_eq_some_iff.1 hj
  refine ⟨[.int .i64 l[j].f0, .int .i64 l[j].f1], rfl, k43_mk w l[j], fun i u hu => ?_⟩
  have hg : l.getD j z43 = l[j] := by rw [List.getD_eq_getElem?_getD, List.getElem?_eq_getElem hj']; rfl
  obtain ⟨h0, h1⟩ := hc j hj'
  rw [hg] at h0 h1
  match i, hu with
  | 0, hu => simp at hu; subst hu; exact h0
  | 1, hu => simp at hu; subst hu; exact h1

theorem open_cx {H : Type} {enc : TypeId × Value → H} {W : World} {spare : Nat → Bool} {held : Bool} {a : Option Addr} {len cap : Nat} {d : DataW H} {ps : List MemPlace}
    (h : DataW.Trod enc Try.prog W 0 spare held 33 (.slice a len cap) d ps) :
    ∃ l : List S43, l.length = len ∧ len ≤ cap ∧ cap ≤ maxLen ∧ Kd.C k43 W a l.length l ∧ ∀ x ∈ l, wfCx x := by
  obtain ⟨fuel, hf⟩ := h
  rcases Go.Deep.open_slice_pairs Try.underlying33 Try.underlying43 (by kernel_rfl) rfl rfl (by kernel_rfl) (by kernel_rfl) hf with ⟨hcs, _⟩ | ⟨ad, len', cap', m, n, V0, V1, D0, D1, P0, P1, hcs, _, hl, hm, hmm, _, hc⟩
  · simp [Value.cells] at hcs
    obtain ⟨rfl, rfl, rfl⟩ := hcs
    exact ⟨[], rfl, Nat.le_refl _, by unfold maxLen; omega, C_of_cells [] (by simp) (by simp), by simp⟩
  · simp [Value.cells] at hcs
    obtain ⟨rfl, rfl, rfl⟩ := hcs
    have hlm : len ≤ m := by rw [hmm]; split <;> omega
    have hV : ∀ i, i < len → ∃ x : S43, V0 i = .int .i64 x.f0 ∧ V1 i = .int .i64 x.f1 ∧ wfCx x := by
      intro i hi
      obtain ⟨_, _, g0, g1⟩ := hc i (by omega)
      obtain ⟨n0, e0, _, w0⟩ := DataW.trod_int Try.underlying3 g0
      obtain ⟨n1, e1, _, w1⟩ := DataW.trod_int Try.underlying3 g1
      simp at e0 e1
      exact ⟨⟨n0, n1⟩, e0, e1, w0, w1⟩
    obtain ⟨f, hf⟩ : ∃ f : Nat → S43, ∀ i, i < len → V0 i = .int .i64 (f i).f0 ∧ V1 i = .int .i64 (f i).f1 ∧ wfCx (f i) := by
      refine ⟨fun i => if hi : i < len then Classical.choose (hV i hi) else z43, fun i hi => ?_⟩
      simp only [dif_pos hi]
      exact Classical.choose_spec (hV i hi)
    have hlen : ((List.range len).map f).length = len := by simp
    have hmax : len ≤ 9223372036854775807 := by unfold maxLen at hm; omega
    refine ⟨(List.range len).map f, hlen, hl, hm, C_of_cells _ (by rw [hlen]; exact hmax) (fun hn => ⟨ad, rfl, fun i hi => ?_⟩), ?_⟩
    · rw [hlen] at hi
      have hg : ((List.range len).map f).getD i z43 = f i := by simp [List.getD_eq_getElem?_getD, hi]
      obtain ⟨c0, c1, _, _⟩ := hc i (by omega)
      obtain ⟨e0, e1, _⟩ := hf i hi
      rw [hg, c0, c1, e0, e1]
      exact ⟨rfl, rfl⟩
    · intro x hx
      obtain ⟨i, hi, rfl⟩ := List.mem_map.1 hx
      exact (hf i (List.mem_range.1 hi)).2.2
end Go.Proofs.Ytmglkelmdcpinaa.G
/- round.Shift's value, as the plain rounded quotient; and when it is refused. Conditions: a number of 64 bits, a shift of 1 to 62, a mode of 0 to 2. -/
namespace Go.Proofs.Ytmglkelmdcpinaa.G
open Go.RowKit Go.Proofs.Ytmglkelmdcpinaa.M

theorem q_eq (x s m : Int) (hx0 : -9223372036854775808 ≤ x) (hx1 : x < 9223372036854775808) (h1 : 1 ≤ s) (h2 : s ≤ 62) (hm : m = 0 ∨ m = 1 ∨ m = 2) : round_Shift.q x s m = rsh x s.toNat m := by
  obtain ⟨n, rfl⟩ := Int.eq_ofNat_of_zero_le (show 0 ≤ s by omega)
  simp only [Int.toNat_natCast]
  have hn1 : 1 ≤ n := by omega
  have hn2 : n ≤ 62 := by omega
  have hp := pow_pos n
  have hle := pow_le (s := n) (t := 62) hn2
  have h62 : (2 : Int) ^ 62 = 4611686018427387904 := by decide
  have hp' := pow_pos (n - 1)
  have hle' := pow_le (s := n - 1) (t := 62) (by omega)
  have two : (2 : Int) ≤ 2 ^ n := by have := pow_le (s := 1) (t := n) hn1; simpa using this
  have w1 : wrap64 (2 ^ n) = 2 ^ n := wrap64_id (by omega) (by omega)
  have w2 : wrap64 (wrap64 (2 ^ n) - 1) = 2 ^ n - 1 := by rw [w1]; exact wrap64_id (by omega) (by omega)
  have w3 : wrap64 (2 ^ (n - 1)) = 2 ^ (n - 1) := wrap64_id (by omega) (by omega)
  have hd := Int.mul_ediv_add_emod x (2 ^ n)
  have r0 : (0 : Int) ≤ x % 2 ^ n := Int.emod_nonneg _ (by omega)
  have r1 : x % 2 ^ n < 2 ^ n := Int.emod_lt_of_pos _ hp
  have b0 : -4611686018427387904 ≤ x / 2 ^ n := by
    apply Int.le_ediv_of_mul_le hp
    have : (-4611686018427387904 : Int) * 2 ^ n ≤ -4611686018427387904 * 2 := by omega
    omega
  have b1 : x / 2 ^ n < 4611686018427387904 := by
    apply Int.ediv_lt_of_lt_mul hp
    omega
  have w4 : wrap64 (x / 2 ^ n + 1) = x / 2 ^ n + 1 := wrap64_id (by omega) (by omega)
  unfold round_Shift.q round_Shift.up rsh
  rw [if_neg (show ¬ n = 0 by omega)]
  simp only [Int.toNat_natCast]
  rw [w2, w3, w4, and_mask _ _ hn2, and_one]
  rcases hm with rfl | rfl | rfl
  · simp
  · simp only [round_modes.u2]
    simp
  · simp only [round_modes.u3]
    simp

theorem shift_some (x s m : Int) (hx0 : -9223372036854775808 ≤ x) (hx1 : x < 9223372036854775808) (h1 : 0 ≤ s) (h2 : s ≤ 62) (hm : m = 0 ∨ m = 1 ∨ m = 2) : round_Shift.f x s m = some (rsh x s.toNat m, 0) := by
  unfold round_Shift.f
  rw [if_neg (by omega)]
  by_cases h : s = 0
  · subst h
    simp [rsh]
  · rw [if_neg h, q_eq x s m hx0 hx1 (by omega) h2 hm]
theorem shift_none (x s m : Int) (h : s < 0 ∨ 62 < s ∨ m < 0 ∨ 3 ≤ m) : round_Shift.f x s m = some (0, 1) := by
  unfold round_Shift.f
  rw [if_pos h]
end Go.Proofs.Ytmglkelmdcpinaa.G
/- The contract of the function headroomref01_Div (number 153 of the translation): what its call computes, as a plain Lean function; memory that was there stays as it was. Conditions: none beyond the theorem's own. Written by a program (gprint.py). -/
namespace Go.Proofs.Ytmglkelmdcpinaa.G
open Go.RowKit Go.Proofs.YtmglkelmdcpinaaW.PrintWords Go.Proofs.YtmglkelmdcpinaaW.PrintLast Go.Proofs.YtmglkelmdcpinaaW.PrintMore
attribute [local go_sem] max2_int min2_int max_two min_two max_three min_three max_four min_four   -- for this text's walks alone
set_option linter.unusedVariables false
set_option linter.unusedSimpArgs false

/-! ### headroomref01_Div: function 153 -/
def headroomref01_Div.f (a0 : Int) (a1 : Int) : Option (Int) := if a1 = 0 then (none) else (if a0 < 0 then (if (wrap64 ((wrap64 (Int.tdiv a0 a1)) * a1)) = a0 then (some (wrap64 (Int.tdiv a0 a1))) else (some (wrap64 ((wrap64 (Int.tdiv a0 a1)) - 1)))) else (some (wrap64 (Int.tdiv a0 a1))))
set_option maxHeartbeats 8000000 in
set_option maxRecDepth 100000 in
theorem headroomref01_Div.calls (a0 : Int) (a1 : Int) (r : Int) (w : World) (h : headroomref01_Div.f a0 a1 = some r) :
    Calls Try.prog 153 #[.int .i64 a0, .int .i64 a1] w fun e w' => e = .returned (.int .i64 r) ∧ Drawn0 w w' := by
  have H : (if a1 = 0 then (none) else (if a0 < 0 then (if (wrap64 ((wrap64 (Int.tdiv a0 a1)) * a1)) = a0 then (some (wrap64 (Int.tdiv a0 a1))) else (some (wrap64 ((wrap64 (Int.tdiv a0 a1)) - 1)))) else (some (wrap64 (Int.tdiv a0 a1))))) = some r := h
  clear h
  by_cases c3 : a1 = 0
  · rw [if_pos c3] at H
    exact absurd H (by simp)
  · rw [if_neg c3] at H
    have c3b0 : (a1 == 0) = false := beq_eq_false_iff_ne.mpr c3
    have c3b1 : (a1 != 0) = true := bne_iff_ne.mpr c3
    by_cases c4 : a0 < 0
    · rw [if_pos c4] at H
      have c4b0 : decide (a0 < 0) = true := decide_eq_true c4
      clear c4
      by_cases c5 : (wrap64 ((wrap64 (Int.tdiv a0 a1)) * a1)) = a0
      · rw [if_pos c5] at H
        have c5b0 : ((wrap64 ((wrap64 (Int.tdiv a0 a1)) * a1)) == a0) = true := beq_iff_eq.mpr c5
        have c5b1 : ((wrap64 ((wrap64 (Int.tdiv a0 a1)) * a1)) != a0) = false := bne_eq_false_iff_eq.mpr c5
        clear c5
        obtain rfl := Option.some.inj H
        go_enter Try.func153, Try.ntmps153
        go_wp2
        go_ret
        exact ⟨by first | rfl | (simp; done) | (simp [*]; done), by repeat (first | exact Drawn0.refl _ | apply Drawn0.step)⟩
      · rw [if_neg c5] at H
        have c5b0 : ((wrap64 ((wrap64 (Int.tdiv a0 a1)) * a1)) == a0) = false := beq_eq_false_iff_ne.mpr c5
        have c5b1 : ((wrap64 ((wrap64 (Int.tdiv a0 a1)) * a1)) != a0) = true := bne_iff_ne.mpr c5
        obtain rfl := Option.some.inj H
        go_enter Try.func153, Try.ntmps153
        go_wp2
        go_ret
        exact ⟨by first | rfl | (simp; done) | (simp [*]; done), by repeat (first | exact Drawn0.refl _ | apply Drawn0.step)⟩
    · rw [if_neg c4] at H
      have c4b0 : decide (a0 < 0) = false := decide_eq_false c4
      clear c4
      obtain rfl := Option.some.inj H
      go_enter Try.func153, Try.ntmps153
      go_wp2
      go_ret
      exact ⟨by first | rfl | (simp; done) | (simp [*]; done), by repeat (first | exact Drawn0.refl _ | apply Drawn0.step)⟩

end Go.Proofs.Ytmglkelmdcpinaa.G
/- What the document's own arithmetic computes: a power of 2, a half, a quotient by a power rounded down, a shift in three modes, a quotient. Conditions: each theorem's own bounds; rounds enough. -/
namespace Go.Proofs.Ytmglkelmdcpinaa.G
open Go.RowKit Go.Proofs.Ytmglkelmdcpinaa.M
set_option linter.unusedVariables false

theorem wrap_is {x : Int} (h0 : -9223372036854775808 ≤ x) (h1 : x < 9223372036854775808) : wrap64 x = x := wrap64_id h0 h1

theorem half_is (x : Int) (h0 : -9223372036854775808 ≤ x) (h1 : x < 9223372036854775808) : headroomref01_half.f x = some (x / 2) := by
  unfold headroomref01_half.f
  by_cases hx : 0 ≤ x
  · have ht : x.tdiv 2 = x / 2 := Int.tdiv_eq_ediv_of_nonneg hx
    have hm : x.tmod 2 = x % 2 := Int.tmod_eq_emod_of_nonneg hx
    rw [ht, hm]
    split
    · rw [wrap_is (by omega) (by omega)]
    · rw [if_pos (by omega), wrap_is (by omega) (by omega)]
  · have hd := Int.mul_tdiv_add_tmod x 2
    have h2 := Int.tmod_lt_of_pos x (show (0 : Int) < 2 by decide)
    have h3 : -2 < x.tmod 2 := (tmod_range x 2 (by decide)).1
    have h4 : x.tmod 2 ≤ 0 := by
      have h5 := Int.neg_tmod (-x) 2
      have h6 := Int.tmod_nonneg 2 (show 0 ≤ -x by omega)
      rw [Int.neg_neg] at h5
      omega
    split
    · rw [wrap_is (by omega) (by omega)]
      congr 1; omega
    · rw [if_neg (by omega), wrap_is (x := x.tdiv 2) (by omega) (by omega), wrap_is (by omega) (by omega)]
      congr 1; omega

theorem floor_l0 (j : Nat) : ∀ (k : Nat) (x s i : Int), -9223372036854775808 ≤ x → x < 9223372036854775808 → 0 ≤ i → s < 1000 → s = i + j → j < k → headroomref01_Floor.l0 k x s i = some (x / 2 ^ j) := by
  induction j with
  | zero =>
    intro k x s i h0 h1 hi hs h hk
    obtain ⟨k, rfl⟩ : ∃ n, k = n + 1 := ⟨k - 1, by omega⟩
    rw [headroomref01_Floor.l0, if_neg (by omega)]
    simp
  | succ j ih =>
    intro k x s i h0 h1 hi hs h hk
    obtain ⟨k, rfl⟩ : ∃ n, k = n + 1 := ⟨k - 1, by omega⟩
    rw [headroomref01_Floor.l0, if_pos (by omega), half_is x h0 h1]
    show headroomref01_Floor.l0 k (x / 2) s (wrap64 (i + 1)) = _
    rw [wrap_is (by omega) (by omega), ih k (x / 2) s (i + 1) (by omega) (by omega) (by omega) hs (by omega) (by omega)]
    rw [Int.pow_succ, Int.mul_comm (2 ^ j) 2, Int.ediv_ediv_of_nonneg (by decide)]

theorem floor_is (k : Nat) (x : Int) (s : Nat) (h0 : -9223372036854775808 ≤ x) (h1 : x < 9223372036854775808) (hs : s < 1000) (hk : s < k) : headroomref01_Floor.f k x s = some (x / 2 ^ s) :=
  floor_l0 s k x s 0 h0 h1 (by omega) (by omega) (by omega) hk

theorem pow_l0 (j : Nat) : ∀ (k : Nat) (x s i : Int), 0 ≤ x → x * 2 ^ j < 9223372036854775808 → 0 ≤ i → s < 1000 → s = i + j → j < k → headroomref01_Pow.l0 k s x i = some (x * 2 ^ j) := by
  induction j with
  | zero =>
    intro k x s i h0 h1 hi hs h hk
    obtain ⟨k, rfl⟩ : ∃ n, k = n + 1 := ⟨k - 1, by omega⟩
    rw [headroomref01_Pow.l0, if_neg (by omega)]
    simp
  | succ j ih =>
    intro k x s i h0 h1 hi hs h hk
    obtain ⟨k, rfl⟩ : ∃ n, k = n + 1 := ⟨k - 1, by omega⟩
    have hp := pow_pos j
    have he : x * 2 ^ (j + 1) = (2 * x) * 2 ^ j := by rw [Int.pow_succ, Int.mul_comm (2 ^ j) 2, ← Int.mul_assoc, Int.mul_comm x 2]
    rw [he] at h1 ⊢
    have hle : 2 * x ≤ 2 * x * 2 ^ j := by
      have := Int.mul_le_mul_of_nonneg_left (show (1 : Int) ≤ 2 ^ j by omega) (show 0 ≤ 2 * x by omega)
      omega
    rw [headroomref01_Pow.l0, if_pos (by omega), wrap_is (x := 2 * x) (by omega) (by omega), wrap_is (by omega) (by omega)]
    exact ih k (2 * x) s (i + 1) (by omega) h1 (by omega) hs (by omega) (by omega)

theorem pow_is (k : Nat) (s : Nat) (hs : s ≤ 62) (hk : s < k) : headroomref01_Pow.f k s = some (2 ^ s) := by
  have h := pow_le (s := s) (t := 62) hs
  have := pow_l0 s k 1 s 0 (by omega) (by omega) (by omega) (by omega) (by omega) hk
  rwa [Int.one_mul] at this

theorem odd_is (x : Int) : headroomref01_odd.f x = some (decide (x % 2 = 1)) := by
  unfold headroomref01_odd.f
  congr 1
  have h : (x.tmod 2 = 0) ↔ (x % 2 = 0) := by
    rw [← Int.dvd_iff_tmod_eq_zero, Int.dvd_iff_emod_eq_zero]
  by_cases h2 : x % 2 = 0
  · rw [h.2 h2]; simp; omega
  · have : x.tmod 2 ≠ 0 := fun e => h2 (h.1 e)
    have h3 : x % 2 = 1 := by omega
    simp [this, h3]

theorem refshift_is (k : Nat) (x : Int) (s : Nat) (m : Int) (h0 : -9223372036854775808 ≤ x) (h1 : x < 9223372036854775808) (hs : s ≤ 62) (hk : s + 1 < k) (hm : m = 0 ∨ m = 1 ∨ m = 2) :
    headroomref01_Shift.f k x s m = some (rsh x s m) := by
  obtain ⟨k, rfl⟩ : ∃ j, k = j + 1 := ⟨k - 1, by omega⟩
  unfold headroomref01_Shift.f
  rw [floor_is _ x s h0 h1 (by omega) (by omega)]
  simp only [Option.bind_some]
  by_cases hz : s = 0
  · subst hz
    rw [if_pos (by rfl), headroomref01_Shift.j0, if_pos rfl]
    simp [rsh]
  rw [if_neg (by omega), headroomref01_Shift.j0]
  have hp := pow_pos s
  have hd := Int.mul_ediv_add_emod x (2 ^ s)
  have he0 : (0 : Int) ≤ x % 2 ^ s := Int.emod_nonneg _ (by omega)
  have he1 : x % 2 ^ s < 2 ^ s := Int.emod_lt_of_pos _ hp
  have h62 := pow_le hs
  have hc : (2 : Int) ^ 62 = 4611686018427387904 := by decide
  have hw1 : wrap64 ((s : Int) - 1) = ((s - 1 : Nat) : Int) := by rw [wrap_is (by omega) (by omega)]; omega
  by_cases hm0 : m = 0
  · subst hm0
    rw [if_pos (by rfl)]
    simp [rsh, hz]
  have hmb : (m == 0) = false := by simp [hm0]
  rw [hmb, if_neg (by decide), pow_is k s hs (by omega), hw1, pow_is k (s - 1) (by omega) (by omega)]
  simp only [Option.bind_some]
  have hmul : x / 2 ^ s * 2 ^ s = x - x % 2 ^ s := by rw [Int.mul_comm]; omega
  have hq0 : x / 2 ^ s ≤ 4611686018427387904 ∧ -4611686018427387904 ≤ x / 2 ^ s := by
    have hh : (2 : Int) ≤ 2 ^ s := by
      have := pow_le (s := 1) (t := s) (by omega)
      simpa using this
    have hlt : x / 2 ^ s < 4611686018427387904 := Int.ediv_lt_of_lt_mul hp (by
      have := Int.mul_le_mul_of_nonneg_left hh (show (0 : Int) ≤ 4611686018427387904 by decide)
      omega)
    have hge : -4611686018427387904 ≤ x / 2 ^ s := Int.le_ediv_of_mul_le hp (by
      have := Int.mul_le_mul_of_nonneg_left hh (show (0 : Int) ≤ 4611686018427387904 by decide)
      omega)
    omega
  have hlow : -9223372036854775808 ≤ x - x % 2 ^ s := by
    have h63 : (2 : Int) ^ (63 - s) * 2 ^ s = 9223372036854775808 := by
      rw [← Int.pow_add, show 63 - s + s = 63 by omega]; decide
    have : -(2 : Int) ^ (63 - s) ≤ x / 2 ^ s := Int.le_ediv_of_mul_le hp (by rw [Int.neg_mul, h63]; exact h0)
    have h2 := Int.mul_le_mul_of_nonneg_right this (Int.le_of_lt hp)
    rw [Int.neg_mul, h63, hmul] at h2
    exact h2
  rw [hmul, wrap_is (x := x - x % 2 ^ s) (by omega) (by omega), show x - (x - x % 2 ^ s) = x % 2 ^ s by omega, wrap_is (x := x % 2 ^ s) (by omega) (by omega), wrap_is (x := x / 2 ^ s + 1) (by omega) (by omega), odd_is]
  simp only [Option.bind_some, decide_eq_true_eq]
  unfold rsh
  rw [if_neg hz, if_neg hm0]
  by_cases hm1 : m = 1
  · rw [if_pos hm1, if_pos hm1]
    split
    · rw [if_pos (by omega)]
    · split
      · rw [if_pos (by omega)]
      · rw [if_neg (by omega)]
  · rw [if_neg hm1, if_neg hm1]
    split
    · rw [if_pos (by left; omega)]
    · split
      · rename_i h5
        split
        · rename_i h6
          rw [if_pos (by right; exact ⟨h5, h6⟩)]
        · rename_i h6
          rw [if_neg (by rintro (h | ⟨_, h⟩); omega; exact h6 h)]
      · rename_i h4 h5
        rw [if_neg (by rintro (h | ⟨h, _⟩); omega; exact h5 h)]
end Go.Proofs.Ytmglkelmdcpinaa.G
/- The document's settings, ranges and pairs of kernel 2, as plain values; the same as the program's. Conditions: each theorem's own bounds; rounds enough. -/
namespace Go.Proofs.Ytmglkelmdcpinaa.G
open Go.RowKit Go.Proofs.YtmglkelmdcpinaaW.PrintWords Go.Proofs.YtmglkelmdcpinaaW.PrintLast Go.Proofs.YtmglkelmdcpinaaW.PrintMore Go.Proofs.Ytmglkelmdcpinaa.M
set_option linter.unusedVariables false
set_option linter.unusedSimpArgs false

theorem narrowB_iff (m : Int) (x : S43) : narrowB m x = decide (x.f0 ≤ m ∧ -m ≤ x.f0 ∧ x.f1 ≤ m ∧ -m ≤ x.f1) := by
  unfold narrowB mx mn
  rw [Bool.eq_iff_iff]
  simp only [Bool.and_eq_true, decide_eq_true_eq]
  split <;> split <;> omega
theorem within_is (m : Int) (x : S43) (h0 : 0 ≤ m) (h1 : m ≤ 4611686018427387904) : headroomref03_Within.f x.f0 x.f1 m = some (narrowB m x) := by
  rw [narrowB_iff]
  unfold headroomref03_Within.f
  have hw : wrap64 (-m) = -m := wrap64_id (by omega) (by omega)
  rw [hw]
  by_cases c1 : x.f0 ≤ m
  · rw [if_pos c1]
    by_cases c2 : x.f0 ≥ -m
    · rw [if_pos c2]
      by_cases c3 : x.f1 ≤ m
      · rw [if_pos c3]; congr 1; apply decide_eq_decide.2; omega
      · rw [if_neg c3]; congr 1; symm; apply decide_eq_false; omega
    · rw [if_neg c2]; congr 1; symm; apply decide_eq_false; omega
  · rw [if_neg c1]; congr 1; symm; apply decide_eq_false; omega
theorem rd43_get (l : List S43) (i : Nat) (h : i < l.length) : rd_T43 l (i : Int) = l[i] := by simp [rd_T43, List.getD_eq_getElem?_getD, h]
theorem step_is (i : Nat) (h : i < 9223372036854775807) : wrap64 ((i : Int) + 1) = ((i + 1 : Nat) : Int) := by unfold wrap64; omega
theorem pow31_is (k : Nat) (hk : 31 < k) : headroomref01_Pow.f k 31 = some 2147483648 := pow_is k 31 (by omega) hk
theorem narrow_run (l : List S43) (hl : l.length < 9223372036854775807) : ∀ (j k i : Nat), i + j = l.length → j + 40 < k → headroomref09_Narrow.l0 k l (l.length : Int) i = some ((l.drop i).all (narrowB 2147483648)) := by
  intro j
  induction j with
  | zero =>
    intro k i hi hk
    obtain ⟨k, rfl⟩ : ∃ n, k = n + 1 := ⟨k - 1, by omega⟩
    obtain rfl : i = l.length := by omega
    rw [headroomref09_Narrow.l0, if_neg (by omega)]
    simp
  | succ j ih =>
    intro k i hi hk
    obtain ⟨k, rfl⟩ : ∃ n, k = n + 1 := ⟨k - 1, by omega⟩
    have hlt : i < l.length := by omega
    rw [headroomref09_Narrow.l0, if_pos (by omega), if_pos (by omega), if_pos (by omega), pow31_is k (by omega)]
    simp only [Option.bind_some]
    rw [within_is _ _ (by decide) (by decide)]
    simp only [Option.bind_some]
    rw [rd43_get l i hlt, List.drop_eq_getElem_cons hlt, List.all_cons, step_is i (by omega), ih k (i + 1) (by omega) (by omega)]
    cases narrowB 2147483648 l[i] <;> simp
theorem narrow_is (k : Nat) (l : List S43) (hl : l.length < 9223372036854775807) (hk : l.length + 40 < k) : headroomref09_Narrow.f k l = some (l.all (narrowB 2147483648)) := by
  have := narrow_run l hl l.length k 0 (by omega) hk
  simpa [headroomref09_Narrow.f] using this
theorem pow_small (b : Nat) (h : b ≤ 29) : (0 : Int) ≤ 2 ^ b ∧ (2 : Int) ^ b ≤ 536870912 := by
  have h1 := M.pow_pos b
  have h2 : (2 : Int) ^ b ≤ 2 ^ 29 := M.pow_le h
  omega
theorem roots_run (b : Nat) (hb : b ≤ 29) (l : List S43) (hl : l.length < 9223372036854775807) : ∀ (j k i : Nat), i + j = l.length → j + 40 < k → headroomref10_Roots.l0 k b l (l.length : Int) i = some ((l.drop i).all (narrowB (2 ^ b))) := by
  intro j
  induction j with
  | zero =>
    intro k i hi hk
    obtain ⟨k, rfl⟩ : ∃ n, k = n + 1 := ⟨k - 1, by omega⟩
    obtain rfl : i = l.length := by omega
    rw [headroomref10_Roots.l0, if_neg (by omega)]
    simp
  | succ j ih =>
    intro k i hi hk
    obtain ⟨k, rfl⟩ : ∃ n, k = n + 1 := ⟨k - 1, by omega⟩
    have hlt : i < l.length := by omega
    have hp := pow_small b hb
    rw [headroomref10_Roots.l0, if_pos (by omega), if_pos (by omega), if_pos (by omega), pow_is k b (by omega) (by omega)]
    simp only [Option.bind_some]
    rw [within_is _ _ hp.1 (by omega)]
    simp only [Option.bind_some]
    rw [rd43_get l i hlt, List.drop_eq_getElem_cons hlt, List.all_cons, step_is i (by omega), ih k (i + 1) (by omega) (by omega)]
    cases narrowB (2 ^ b) l[i] <;> simp
theorem roots_is (k b : Nat) (hb : b ≤ 29) (l : List S43) (hl : l.length < 9223372036854775807) (hk : l.length + 40 < k) : headroomref10_Roots.f k l b = some (l.all (narrowB (2 ^ b))) := by
  have := roots_run b hb l hl l.length k 0 (by omega) hk
  simpa [headroomref10_Roots.f] using this
theorem any_far (l : List S43) : l.any farB = !(l.all (narrowB 2147483648)) := by
  induction l with
  | nil => rfl
  | cons x l ih => simp [List.any_cons, List.all_cons, ih, farB, Bool.not_and]
theorem any_great (b : Nat) (l : List S43) : l.any (greatB b) = !(l.all (narrowB (2 ^ b))) := by
  induction l with
  | nil => rfl
  | cons x l ih => simp [List.any_cons, List.all_cons, ih, greatB, Bool.not_and]
def setB (a3 a4 a5 : Int) : Bool := decide (0 ≤ a3 ∧ a3 ≤ 29 ∧ 0 ≤ a4 ∧ a4 ≤ 3 ∧ 0 ≤ a5 ∧ a5 ≤ 2)
theorem settings_is (a3 a4 a5 : Int) : two_settings.f a3 a4 a5 = some (setB a3 a4 a5) := by
  unfold two_settings.f setB
  by_cases hm : 0 ≤ a5 ∧ a5 ≤ 2
  · rw [shift_some 0 0 a5 (by decide) (by decide) (by decide) (by decide) (by omega)]
    simp only [Option.bind_some]
    by_cases c1 : a3 ≥ 0
    · rw [if_pos c1]
      by_cases c2 : a3 ≤ 29
      · rw [if_pos c2]
        by_cases c3 : a4 ≥ 0
        · rw [if_pos c3]
          by_cases c4 : a4 ≤ 3
          · rw [if_pos c4]; congr 1; symm; apply decide_eq_true; omega
          · rw [if_neg c4]; congr 1; symm; apply decide_eq_false; omega
        · rw [if_neg c3]; congr 1; symm; apply decide_eq_false; omega
      · rw [if_neg c2]; congr 1; symm; apply decide_eq_false; omega
    · rw [if_neg c1]; congr 1; symm; apply decide_eq_false; omega
  · rw [shift_none 0 0 a5 (by omega)]
    simp only [Option.bind_some]
    have e : decide (0 ≤ a3 ∧ a3 ≤ 29 ∧ 0 ≤ a4 ∧ a4 ≤ 3 ∧ 0 ≤ a5 ∧ a5 ≤ 2) = false := by apply decide_eq_false; omega
    rw [e]
    repeat' split
    all_goals simp
theorem refset_is (a3 a4 a5 : Int) : headroomref10_Settings.f a3 a4 a5 = some (setB a3 a4 a5) := by
  unfold headroomref10_Settings.f setB
  by_cases c1 : a3 ≥ 0
  · rw [if_pos c1]
    by_cases c2 : a3 ≤ 29
    · rw [if_pos c2]
      by_cases c3 : a4 ≥ 0
      · rw [if_pos c3]
        by_cases c4 : a4 ≤ 3
        · rw [if_pos c4]
          by_cases c5 : a5 ≥ 0
          · rw [if_pos c5]; congr 1; apply decide_eq_decide.2; omega
          · rw [if_neg c5]; congr 1; symm; apply decide_eq_false; omega
        · rw [if_neg c4]; congr 1; symm; apply decide_eq_false; omega
      · rw [if_neg c3]; congr 1; symm; apply decide_eq_false; omega
    · rw [if_neg c2]; congr 1; symm; apply decide_eq_false; omega
  · rw [if_neg c1]; congr 1; symm; apply decide_eq_false; omega
/-- A length's log by the document. -/
def sizeB (n : Nat) : Bool := decide (n = 4 ∨ n = 8 ∨ n = 16 ∨ n = 32 ∨ n = 64)
theorem reflog_is (k : Nat) (hk : 20 ≤ k) (n : Nat) : headroomref08_Log.f k (n : Int) = some (if n = 4 then 2 else if n = 8 then 3 else if n = 16 then 4 else if n = 32 then 5 else if n = 64 then 6 else -1) := by
  obtain ⟨k, rfl⟩ : ∃ m, k = m + 7 := ⟨k - 7, by omega⟩
  have p2 : ∀ m, 8 ≤ m → headroomref01_Pow.f m 2 = some 4 := fun m hm => pow_is m 2 (by omega) (by omega)
  have p3 : ∀ m, 8 ≤ m → headroomref01_Pow.f m 3 = some 8 := fun m hm => pow_is m 3 (by omega) (by omega)
  have p4 : ∀ m, 8 ≤ m → headroomref01_Pow.f m 4 = some 16 := fun m hm => pow_is m 4 (by omega) (by omega)
  have p5 : ∀ m, 8 ≤ m → headroomref01_Pow.f m 5 = some 32 := fun m hm => pow_is m 5 (by omega) (by omega)
  have p6 : ∀ m, 8 ≤ m → headroomref01_Pow.f m 6 = some 64 := fun m hm => pow_is m 6 (by omega) (by omega)
  have w2 : wrap64 (2 + 1) = 3 := by decide +kernel
  have w3 : wrap64 (3 + 1) = 4 := by decide +kernel
  have w4 : wrap64 (4 + 1) = 5 := by decide +kernel
  have w5 : wrap64 (5 + 1) = 6 := by decide +kernel
  have w6 : wrap64 (6 + 1) = 7 := by decide +kernel
  have l7 : headroomref08_Log.l0 (k + 2) (n : Int) 7 = some (-1) := by rw [headroomref08_Log.l0, if_neg (by decide)]
  have l6 : headroomref08_Log.l0 (k + 3) (n : Int) 6 = some (if n = 64 then 6 else -1) := by
    rw [headroomref08_Log.l0, if_pos (by decide), p6 _ (by omega)]
    simp only [Option.bind_some, w6, l7]
    by_cases h : n = 64
    · rw [if_pos (by omega), if_pos h]
    · rw [if_neg (by omega), if_neg h]
  have l5 : headroomref08_Log.l0 (k + 4) (n : Int) 5 = some (if n = 32 then 5 else if n = 64 then 6 else -1) := by
    rw [headroomref08_Log.l0, if_pos (by decide), p5 _ (by omega)]
    simp only [Option.bind_some, w5, l6]
    by_cases h : n = 32
    · rw [if_pos (by omega), if_pos h]
    · rw [if_neg (by omega), if_neg h]
  have l4 : headroomref08_Log.l0 (k + 5) (n : Int) 4 = some (if n = 16 then 4 else if n = 32 then 5 else if n = 64 then 6 else -1) := by
    rw [headroomref08_Log.l0, if_pos (by decide), p4 _ (by omega)]
    simp only [Option.bind_some, w4, l5]
    by_cases h : n = 16
    · rw [if_pos (by omega), if_pos h]
    · rw [if_neg (by omega), if_neg h]
  have l3 : headroomref08_Log.l0 (k + 6) (n : Int) 3 = some (if n = 8 then 3 else if n = 16 then 4 else if n = 32 then 5 else if n = 64 then 6 else -1) := by
    rw [headroomref08_Log.l0, if_pos (by decide), p3 _ (by omega)]
    simp only [Option.bind_some, w3, l4]
    by_cases h : n = 8
    · rw [if_pos (by omega), if_pos h]
    · rw [if_neg (by omega), if_neg h]
  show headroomref08_Log.l0 (k + 7) (n : Int) 2 = _
  rw [headroomref08_Log.l0, if_pos (by decide), p2 _ (by omega)]
  simp only [Option.bind_some, w2, l3]
  by_cases h : n = 4
  · rw [if_pos (by omega), if_pos h]
  · rw [if_neg (by omega), if_neg h]
theorem reflog_neg (k : Nat) (hk : 20 ≤ k) (n : Nat) : ∃ r, headroomref08_Log.f k (n : Int) = some r ∧ (r < 0 ↔ sizeB n = false) := by
  refine ⟨_, reflog_is k hk n, ?_⟩
  unfold sizeB
  rw [decide_eq_false_iff_not]
  repeat' split
  all_goals omega
/-- May a half be, of a length? -/
def partB (n h : Int) : Bool := decide (1 ≤ h ∧ h < n ∧ bits BinOp.and IntKind.i64 h (h - 1) = 0)
theorem half_all10 : ([4, 8, 16, 32, 64].all fun (n : Int) => (List.range 64).all fun (h : Nat) => if 1 ≤ h ∧ (h : Int) < n then decide (headroomref10_Half.f 10 (h : Int) n = some (decide (bits BinOp.and IntKind.i64 (h : Int) ((h : Int) - 1) = 0))) else true) = true := by decide +kernel
theorem half_out (h n : Int) (hn : n = 4 ∨ n = 8 ∨ n = 16 ∨ n = 32 ∨ n = 64) (ho : ¬ (1 ≤ h ∧ h < n)) : headroomref10_Half.f 10 h n = some false := by
  have w1 : wrap64 2 = 2 := by decide +kernel
  have w2 : wrap64 4 = 4 := by decide +kernel
  have w4 : wrap64 8 = 8 := by decide +kernel
  have w8 : wrap64 16 = 16 := by decide +kernel
  have w16 : wrap64 32 = 32 := by decide +kernel
  have w32 : wrap64 64 = 64 := by decide +kernel
  rcases hn with rfl | rfl | rfl | rfl | rfl
  · have h1 : ¬ h = 1 := by omega
    have h2 : ¬ h = 2 := by omega
    simp [headroomref10_Half.f, headroomref10_Half.l0, w1, w2, w4, w8, w16, w32, h1, h2]
  · have h1 : ¬ h = 1 := by omega
    have h2 : ¬ h = 2 := by omega
    have h4 : ¬ h = 4 := by omega
    simp [headroomref10_Half.f, headroomref10_Half.l0, w1, w2, w4, w8, w16, w32, h1, h2, h4]
  · have h1 : ¬ h = 1 := by omega
    have h2 : ¬ h = 2 := by omega
    have h4 : ¬ h = 4 := by omega
    have h8 : ¬ h = 8 := by omega
    simp [headroomref10_Half.f, headroomref10_Half.l0, w1, w2, w4, w8, w16, w32, h1, h2, h4, h8]
  · have h1 : ¬ h = 1 := by omega
    have h2 : ¬ h = 2 := by omega
    have h4 : ¬ h = 4 := by omega
    have h8 : ¬ h = 8 := by omega
    have h16 : ¬ h = 16 := by omega
    simp [headroomref10_Half.f, headroomref10_Half.l0, w1, w2, w4, w8, w16, w32, h1, h2, h4, h8, h16]
  · have h1 : ¬ h = 1 := by omega
    have h2 : ¬ h = 2 := by omega
    have h4 : ¬ h = 4 := by omega
    have h8 : ¬ h = 8 := by omega
    have h16 : ¬ h = 16 := by omega
    have h32 : ¬ h = 32 := by omega
    simp [headroomref10_Half.f, headroomref10_Half.l0, w1, w2, w4, w8, w16, w32, h1, h2, h4, h8, h16, h32]
theorem half_is2 (k : Nat) (hk : 10 ≤ k) (h n : Int) (hn : n = 4 ∨ n = 8 ∨ n = 16 ∨ n = 32 ∨ n = 64) : headroomref10_Half.f k h n = some (partB n h) := by
  refine at_rounds (fun k => headroomref10_Half.mono h n k) hk ?_
  unfold partB
  by_cases hi : 1 ≤ h ∧ h < n
  · have t := half_all10
    rw [List.all_eq_true] at t
    have t1 := t n (by rcases hn with rfl | rfl | rfl | rfl | rfl <;> simp)
    rw [List.all_eq_true] at t1
    have t2 := t1 h.toNat (List.mem_range.2 (by omega))
    have e : ((h.toNat : Nat) : Int) = h := by omega
    rw [e, if_pos ⟨by omega, hi.2⟩, decide_eq_true_eq] at t2
    rw [t2]
    congr 1
    apply decide_eq_decide.2
    exact ⟨fun x => ⟨hi.1, hi.2, x⟩, fun x => x.2.2⟩
  · rw [half_out h n hn hi]
    congr 1
    symm
    apply decide_eq_false
    exact fun x => hi ⟨x.1, x.2.1⟩
theorem same_is (k : Nat) (l : List S43) (hl : l.length < 9223372036854775807) (hk : l.length + 1 < k) : headroomref03_Same.f k l l = some true := by
  have run : ∀ (j k i : Nat), i + j = l.length → j < k → headroomref03_Same.l0 k l l (l.length : Int) i = some true := by
    intro j
    induction j with
    | zero =>
      intro k i hi hk
      obtain ⟨k, rfl⟩ : ∃ n, k = n + 1 := ⟨k - 1, by omega⟩
      rw [headroomref03_Same.l0, if_neg (by omega)]
    | succ j ih =>
      intro k i hi hk
      obtain ⟨k, rfl⟩ : ∃ n, k = n + 1 := ⟨k - 1, by omega⟩
      rw [headroomref03_Same.l0, if_pos (by omega), if_pos (by omega), if_pos (by omega), if_pos (by omega), step_is i (by omega), ih k (i + 1) (by omega) (by omega)]
      simp
  unfold headroomref03_Same.f
  rw [if_pos rfl]
  exact run l.length k 0 (by omega) (by omega)
/-- Why a pass may not be. -/
theorem may_is2 (k : Nat) (x w : List S43) (part : Bool) (a3 a4 a5 : Int) (hx : x.length < 1000) (hw : w.length < 1000) (hk : 1100 ≤ k) :
    headroomref10_May.f k x w part a3 a4 a5 = some (if sizeB x.length = false then 3 else if w.length ≠ x.length then 5 else if part = false ∨ setB a3 a4 a5 = false then 1 else if x.any farB = true ∨ w.any (greatB a3.toNat) = true then 2 else 0) := by
  obtain ⟨r, hr, hneg⟩ := reflog_neg k (by omega) x.length
  unfold headroomref10_May.f
  rw [hr]
  simp only [Option.bind_some]
  by_cases h0 : sizeB x.length = false
  · rw [if_pos (hneg.2 h0), if_pos h0]
  rw [if_neg (fun h => h0 (hneg.1 h)), if_neg h0]
  by_cases h1 : w.length = x.length
  · rw [if_pos (by omega), if_neg (not_not_intro h1)]
    obtain ⟨k, rfl⟩ : ∃ m, k = m + 1 := ⟨k - 1, by omega⟩
    have j0 : ∀ c, headroomref10_May.j0 (k + 1) x w a3 c = if c = true then some 1 else (headroomref09_Narrow.f k x).bind fun t103 => (if t103 = true then ((headroomref10_Roots.f k w a3).bind fun t104 => (if t104 = true then (some 0) else (some 2))) else (some 2)) := by
      intro c
      simp only [headroomref10_May.j0]
    cases part with
    | false =>
      rw [if_neg (by simp), j0, if_pos rfl, if_pos (.inl rfl)]
    | true =>
      rw [if_pos rfl, refset_is]
      simp only [Option.bind_some]
      rw [j0]
      cases hs : setB a3 a4 a5 with
      | false => simp
      | true =>
        have hs' := hs
        unfold setB at hs'
        rw [decide_eq_true_eq] at hs'
        obtain ⟨b, rfl⟩ : ∃ b : Nat, a3 = b := ⟨a3.toNat, by omega⟩
        rw [if_neg (by simp), if_neg (by simp), narrow_is k x (by omega) (by omega), roots_is k b (by omega) w (by omega) (by omega), any_far, Int.toNat_natCast, any_great]
        simp only [Option.bind_some]
        cases x.all (narrowB 2147483648) <;> cases w.all (narrowB (2 ^ b)) <;> simp
  · rw [if_neg (by omega), if_pos h1]
end Go.Proofs.Ytmglkelmdcpinaa.G
/- The document's pass of kernel 2 is the program's, place by place. Conditions: lengths and halves that may be, settings that may be, numbers in their ranges; rounds enough. -/
namespace Go.Proofs.Ytmglkelmdcpinaa.G
open Go.RowKit Go.Proofs.YtmglkelmdcpinaaW.PrintWords Go.Proofs.YtmglkelmdcpinaaW.PrintLast Go.Proofs.YtmglkelmdcpinaaW.PrintMore Go.Proofs.Ytmglkelmdcpinaa.M
set_option linter.unusedVariables false
set_option linter.unusedSimpArgs false

theorem wrap_range2 (x : Int) : -9223372036854775808 ≤ wrap64 x ∧ wrap64 x < 9223372036854775808 := by unfold wrap64; omega
theorem shl_is (x : Int) (b : Nat) (hb : b ≤ 62) : shl .i64 x (b : Int) = wrap64 (x * 2 ^ b) := by
  unfold shl
  rw [Int.toNat_natCast, show min b IntKind.i64.bits = b by show min b 64 = b; omega]
  rw [IntKind.wrap_i64]
  unfold wrap64
  rfl
theorem within_narrow (m : Int) (x : S43) : within m [⟨x.f0, x.f1⟩] = narrowB m x := by simp [within, narrowB]
theorem narrowB_mono {m m' : Int} (h : m ≤ m') {x : S43} (hx : narrowB m x = true) : narrowB m' x = true := by
  rw [narrowB_iff, decide_eq_true_eq] at hx ⊢
  omega
/-- A product's parts. -/
def timesV (b r : S43) : Int × Int := (wrap64 (wrap64 (b.f0 * r.f0) - wrap64 (b.f1 * r.f1)), wrap64 (wrap64 (b.f0 * r.f1) + wrap64 (b.f1 * r.f0)))
def upV (a b r : S43) (n s : Nat) (m : Int) : S43 := ⟨rsh (wrap64 (wrap64 (a.f0 * 2 ^ n) + (timesV b r).1)) (n + s) m, rsh (wrap64 (wrap64 (a.f1 * 2 ^ n) + (timesV b r).2)) (n + s) m⟩
def downV (a b r : S43) (n s : Nat) (m : Int) : S43 := ⟨rsh (wrap64 (wrap64 (a.f0 * 2 ^ n) - (timesV b r).1)) (n + s) m, rsh (wrap64 (wrap64 (a.f1 * 2 ^ n) - (timesV b r).2)) (n + s) m⟩
theorem times_is (b r : S43) (hb : narrowB 2147483648 b = true) (hr : narrowB 1073741824 r = true) : cx_Times.f b.f0 b.f1 r.f0 r.f1 = some ((timesV b r).1, (timesV b r).2, 0) := by
  unfold cx_Times.f cx_Times.is
  rw [within_narrow, within_narrow, hb, hr]
  rfl
theorem cxshift_is (x y : Int) (n : Nat) (m : Int) (hx0 : -9223372036854775808 ≤ x) (hx1 : x < 9223372036854775808) (hy0 : -9223372036854775808 ≤ y) (hy1 : y < 9223372036854775808) (hn : n ≤ 62) (hm : m = 0 ∨ m = 1 ∨ m = 2) :
    cx_Shift.f x y (n : Int) m = some (rsh x n m, rsh y n m, 0) := by
  unfold cx_Shift.f
  rw [shift_some x n m hx0 hx1 (by omega) (by omega) hm, shift_some y n m hy0 hy1 (by omega) (by omega) hm]
  simp
theorem refcxshift_is (k : Nat) (x y : Int) (n : Nat) (m : Int) (hx0 : -9223372036854775808 ≤ x) (hx1 : x < 9223372036854775808) (hy0 : -9223372036854775808 ≤ y) (hy1 : y < 9223372036854775808) (hn : n ≤ 62) (hk : 70 ≤ k) (hm : m = 0 ∨ m = 1 ∨ m = 2) :
    headroomref03_Shift.f k x y (n : Int) m = some (rsh x n m, rsh y n m) := by
  unfold headroomref03_Shift.f
  rw [refshift_is k x n m hx0 hx1 hn (by omega) hm, refshift_is k y n m hy0 hy1 hn (by omega) hm]
  simp
theorem pair_of {a b r u d : S43} {n s m : Int} (h : two_pair.f a.f0 a.f1 b.f0 b.f1 r.f0 r.f1 n s m = some (u.f0, u.f1, d.f0, d.f1)) : pairT a b r n s m = (u, d) := by
  unfold pairT
  rw [h]
theorem pair_is (a b r : S43) (n s : Nat) (m : Int) (hn : n ≤ 29) (hs : s ≤ 3) (hm : m = 0 ∨ m = 1 ∨ m = 2) (hb : narrowB 2147483648 b = true) (hr : narrowB 1073741824 r = true) :
    pairT a b r n s m = (upV a b r n s m, downV a b r n s m) := by
  have ht := times_is b r hb hr
  have hw : wrap64 ((n : Int) + (s : Int)) = ((n + s : Nat) : Int) := by unfold wrap64; omega
  have h1 := shl_is a.f0 n (by omega)
  have h2 := shl_is a.f1 n (by omega)
  have hu := cxshift_is (wrap64 (wrap64 (a.f0 * 2 ^ n) + (timesV b r).1)) (wrap64 (wrap64 (a.f1 * 2 ^ n) + (timesV b r).2)) (n + s) m (wrap_range2 _).1 (wrap_range2 _).2 (wrap_range2 _).1 (wrap_range2 _).2 (by omega) hm
  have hd := cxshift_is (wrap64 (wrap64 (a.f0 * 2 ^ n) - (timesV b r).1)) (wrap64 (wrap64 (a.f1 * 2 ^ n) - (timesV b r).2)) (n + s) m (wrap_range2 _).1 (wrap_range2 _).2 (wrap_range2 _).1 (wrap_range2 _).2 (by omega) hm
  have h0 : (0 : Int) ≤ (n : Int) := by omega
  clear hn hs hm hb hr
  apply pair_of
  unfold upV downV two_pair.f
  generalize timesV b r = tv at ht hu hd ⊢
  obtain ⟨t1, t2⟩ := tv
  rw [ht]
  rw [Option.bind_some, if_pos h0, h1, h2, hw]
  dsimp only at hu hd ⊢
  generalize wrap64 (a.f0 * 2 ^ n) = p at hu hd ⊢
  generalize wrap64 (a.f1 * 2 ^ n) = q at hu hd ⊢
  rw [hu, Option.bind_some, hd, Option.bind_some]
theorem refscale_is (k : Nat) (a : S43) (n : Nat) (hn : n ≤ 29) (hk : 70 ≤ k) : headroomref10_Scale.f k a.f0 a.f1 n = some (wrap64 (a.f0 * 2 ^ n), wrap64 (a.f1 * 2 ^ n)) := by
  unfold headroomref10_Scale.f
  rw [pow_is k n (by omega) (by omega)]
  rfl
theorem refup_is (k : Nat) (a b r : S43) (n s : Nat) (m : Int) (hn : n ≤ 29) (hs : s ≤ 3) (hk : 70 ≤ k) (hm : m = 0 ∨ m = 1 ∨ m = 2) : headroomref10_Up.f k a.f0 a.f1 b.f0 b.f1 r.f0 r.f1 n s m = some ((upV a b r n s m).f0, (upV a b r n s m).f1) := by
  unfold headroomref10_Up.f headroomref03_Times.f headroomref03_Sum.f
  rw [refscale_is k a n hn hk]
  simp only [Option.bind_some]
  rw [show wrap64 ((n : Int) + (s : Int)) = ((n + s : Nat) : Int) by unfold wrap64; omega]
  rw [refcxshift_is k _ _ (n + s) m (wrap_range2 _).1 (wrap_range2 _).2 (wrap_range2 _).1 (wrap_range2 _).2 (by omega) hk hm]
  rfl
theorem refdown_is (k : Nat) (a b r : S43) (n s : Nat) (m : Int) (hn : n ≤ 29) (hs : s ≤ 3) (hk : 70 ≤ k) (hm : m = 0 ∨ m = 1 ∨ m = 2) : headroomref10_Down.f k a.f0 a.f1 b.f0 b.f1 r.f0 r.f1 n s m = some ((downV a b r n s m).f0, (downV a b r n s m).f1) := by
  unfold headroomref10_Down.f headroomref03_Times.f headroomref03_Less.f
  rw [refscale_is k a n hn hk]
  simp only [Option.bind_some]
  rw [show wrap64 ((n : Int) + (s : Int)) = ((n + s : Nat) : Int) by unfold wrap64; omega]
  rw [refcxshift_is k _ _ (n + s) m (wrap_range2 _).1 (wrap_range2 _).2 (wrap_range2 _).1 (wrap_range2 _).2 (by omega) hk hm]
  rfl
theorem conj_is (r : S43) (h : narrowB 536870912 r = true) : conjS r = ⟨r.f0, wrap64 (-r.f1)⟩ := by
  unfold conjS cx_Conj.f
  rw [within_narrow, narrowB_mono (by decide) h]
  rfl
theorem root_narrow (w : List S43) (k : Int) (inv : Bool) (n : Nat) (hn : n ≤ 29) (hw : w.all (narrowB (2 ^ n)) = true) : narrowB 536870912 (rootOf w k inv) = true := by
  have hp := pow_small n hn
  have hz : narrowB 536870912 (rd_T43 w k) = true := by
    unfold rd_T43
    rw [List.getD_eq_getElem?_getD]
    cases hq : w[k.toNat]? with
    | none => decide
    | some x =>
      rw [List.all_eq_true] at hw
      exact narrowB_mono hp.2 (hw x (List.mem_of_getElem? hq))
  unfold rootOf
  cases inv with
  | false => exact hz
  | true =>
    rw [if_pos rfl, conj_is _ hz]
    rw [narrowB_iff, decide_eq_true_eq] at hz ⊢
    have : wrap64 (-(rd_T43 w k).f1) = -(rd_T43 w k).f1 := wrap64_id (by omega) (by omega)
    dsimp only
    rw [this]
    omega
theorem refroot2_is (w : List S43) (k : Int) (inv : Bool) (n : Nat) (hn : n ≤ 29) (hw : w.all (narrowB (2 ^ n)) = true) (h0 : 0 ≤ k) (h1 : k < w.length) : headroomref10_Root.f w k inv = some ((rootOf w k inv).f0, (rootOf w k inv).f1) := by
  unfold headroomref10_Root.f rootOf
  cases inv with
  | false => simp [h0, h1]
  | true =>
    rw [if_pos rfl, if_pos h0, if_pos h1, if_pos rfl, conj_is _ (by have := root_narrow w k false n hn hw; simpa [rootOf] using this)]
    rfl

/-- Which pair's which number a place holds. -/
structure Tag where
  down : Bool
  i : Int
  j : Int
  k : Int
  deriving DecidableEq
def symStep (h : Int) (out : List (Option Tag)) (p : Int × Int) : List (Option Tag) := (out.set p.1.toNat (some ⟨false, p.1, p.1 + h, p.2⟩)).set (p.1 + h).toNat (some ⟨true, p.1, p.1 + h, p.2⟩)
def symOut (n : Nat) (h : Int) : List (Option Tag) := (pairsList n h).foldl (symStep h) (List.replicate n none)
def tagAt (n h i : Int) : Tag := if i % (2 * h) < h then ⟨false, i, i + h, i % (2 * h) * (n / (2 * h))⟩ else ⟨true, i - h, i, (i % (2 * h) - h) * (n / (2 * h))⟩
def tagOk (n h : Int) (t : Tag) : Bool := decide (0 ≤ t.i ∧ t.i < n ∧ 0 ≤ t.j ∧ t.j < n ∧ 0 ≤ t.k ∧ t.k < n)
theorem sym_all : ([4, 8, 16, 32, 64].all fun (n : Nat) => [1, 2, 4, 8, 16, 32].all fun (h : Nat) => if h < n then decide (symOut n h = (List.range n).map fun (i : Nat) => some (tagAt n h i)) && (List.range n).all fun (i : Nat) => tagOk n h (tagAt n h i) else true) = true := by decide +kernel
theorem half_six (n h : Int) (hn : n = 4 ∨ n = 8 ∨ n = 16 ∨ n = 32 ∨ n = 64) (hp : partB n h = true) : ∃ m : Nat, h = m ∧ (m = 1 ∨ m = 2 ∨ m = 4 ∨ m = 8 ∨ m = 16 ∨ m = 32) ∧ (m : Int) < n := by
  unfold partB at hp
  rw [decide_eq_true_eq] at hp
  obtain ⟨h1, h2, h3⟩ := hp
  have := half_all
  rw [List.all_eq_true] at this
  have t := this h.toNat (List.mem_range.2 (by omega))
  rw [show ((h.toNat : Nat) : Int) = h by omega, if_pos ⟨by omega, h3⟩] at t
  simp only [decide_eq_true_eq, List.mem_cons, List.not_mem_nil, or_false] at t
  exact ⟨h.toNat, by omega, by omega, by omega⟩
theorem sym_is (n m : Nat) (hn : n = 4 ∨ n = 8 ∨ n = 16 ∨ n = 32 ∨ n = 64) (hm : m = 1 ∨ m = 2 ∨ m = 4 ∨ m = 8 ∨ m = 16 ∨ m = 32) (hlt : m < n) :
    symOut n m = ((List.range n).map fun (i : Nat) => some (tagAt n m i)) ∧ ∀ i, i < n → tagOk n m (tagAt n m (i : Nat)) = true := by
  have t := sym_all
  rw [List.all_eq_true] at t
  have t1 := t n (by rcases hn with rfl | rfl | rfl | rfl | rfl <;> simp)
  rw [List.all_eq_true] at t1
  have t2 := t1 m (by rcases hm with rfl | rfl | rfl | rfl | rfl | rfl <;> simp)
  rw [if_pos hlt, Bool.and_eq_true, decide_eq_true_eq, List.all_eq_true] at t2
  exact ⟨t2.1, fun i hi => t2.2 i (List.mem_range.2 hi)⟩
/-- What a place holds. -/
def tagV (x w : List S43) (n s : Nat) (m : Int) (inv : Bool) (t : Tag) : S43 := if t.down = true then downV (rd_T43 x t.i) (rd_T43 x t.j) (rootOf w t.k inv) n s m else upV (rd_T43 x t.i) (rd_T43 x t.j) (rootOf w t.k inv) n s m
def Agrees (x w : List S43) (n s : Nat) (m : Int) (inv : Bool) (out : List S43) (sym : List (Option Tag)) : Prop :=
  out.length = sym.length ∧ ∀ (i : Nat) t, sym[i]? = some (some t) → out[i]? = some (tagV x w n s m inv t)
theorem rd_narrow (x : List S43) (i : Int) (hx : x.all (narrowB 2147483648) = true) : narrowB 2147483648 (rd_T43 x i) = true := by
  unfold rd_T43
  rw [List.getD_eq_getElem?_getD]
  cases hq : x[i.toNat]? with
  | none => decide
  | some y =>
    rw [List.all_eq_true] at hx
    exact hx y (List.mem_of_getElem? hq)
theorem agrees_step (x w : List S43) (n s : Nat) (m : Int) (inv : Bool) (h : Int) (hn : n ≤ 29) (hs : s ≤ 3) (hm : m = 0 ∨ m = 1 ∨ m = 2) (hx : x.all (narrowB 2147483648) = true) (hw : w.all (narrowB (2 ^ n)) = true)
    (out : List S43) (sym : List (Option Tag)) (p : Int × Int) (ha : Agrees x w n s m inv out sym) : Agrees x w n s m inv (two_Pass.step x w h n s m inv out p) (symStep h sym p) := by
  refine ⟨by simp [two_Pass.step, symStep, ha.1], fun i t ht => ?_⟩
  have hpair := pair_is (rd_T43 x p.1) (rd_T43 x (p.1 + h)) (rootOf w p.2 inv) n s m hn hs hm (rd_narrow x _ hx) (narrowB_mono (by decide) (root_narrow w p.2 inv n hn hw))
  unfold symStep at ht
  unfold two_Pass.step
  rw [hpair]
  by_cases e1 : (p.1 + h).toNat = i
  · by_cases hlt : i < sym.length
    · rw [e1, List.getElem?_set_self (by simpa using hlt)] at ht
      cases ht
      rw [e1, List.getElem?_set_self (by simpa [ha.1] using hlt)]
      rfl
    · rw [List.getElem?_eq_none (by simp; omega)] at ht
      cases ht
  · rw [List.getElem?_set_ne e1] at ht ⊢
    by_cases e2 : p.1.toNat = i
    · by_cases hlt : i < sym.length
      · rw [e2, List.getElem?_set_self hlt] at ht
        cases ht
        rw [e2, List.getElem?_set_self (by rw [ha.1]; exact hlt)]
        rfl
      · rw [List.getElem?_eq_none (by simp; omega)] at ht
        cases ht
    · rw [List.getElem?_set_ne e2] at ht ⊢
      exact ha.2 i t ht
theorem agrees_fold (x w : List S43) (n s : Nat) (m : Int) (inv : Bool) (h : Int) (hn : n ≤ 29) (hs : s ≤ 3) (hm : m = 0 ∨ m = 1 ∨ m = 2) (hx : x.all (narrowB 2147483648) = true) (hw : w.all (narrowB (2 ^ n)) = true) (ps : List (Int × Int)) :
    ∀ (out : List S43) (sym : List (Option Tag)), Agrees x w n s m inv out sym → Agrees x w n s m inv (ps.foldl (two_Pass.step x w h n s m inv) out) (ps.foldl (symStep h) sym) := by
  induction ps with
  | nil => intro out sym ha; exact ha
  | cons p ps ih => intro out sym ha; exact ih _ _ (agrees_step x w n s m inv h hn hs hm hx hw out sym p ha)
/-- The program's pass, place by place. -/
theorem out_is (x w : List S43) (h : Nat) (n s : Nat) (m : Int) (inv : Bool) (hl : x.length = 4 ∨ x.length = 8 ∨ x.length = 16 ∨ x.length = 32 ∨ x.length = 64) (hh : h = 1 ∨ h = 2 ∨ h = 4 ∨ h = 8 ∨ h = 16 ∨ h = 32) (hlt : h < x.length)
    (hn : n ≤ 29) (hs : s ≤ 3) (hm : m = 0 ∨ m = 1 ∨ m = 2) (hx : x.all (narrowB 2147483648) = true) (hw : w.all (narrowB (2 ^ n)) = true) :
    two_Pass.out x w h n s m inv = (List.range x.length).map fun (i : Nat) => tagV x w n s m inv (tagAt x.length h i) := by
  have ha : Agrees x w n s m inv x (List.replicate x.length none) := ⟨by simp, fun i t ht => by
    rw [List.getElem?_replicate] at ht
    split at ht <;> cases ht⟩
  have hf := agrees_fold x w n s m inv h hn hs hm hx hw (pairsList x.length h) x _ ha
  obtain ⟨hsym, _⟩ := sym_is x.length h hl hh hlt
  change Agrees x w n s m inv (two_Pass.out x w h n s m inv) (symOut x.length h) at hf
  rw [hsym] at hf
  apply List.ext_getElem?
  intro i
  by_cases hi : i < x.length
  · rw [hf.2 i (tagAt x.length h i) (by simp [hi])]
    simp [hi]
  · rw [List.getElem?_eq_none (by rw [hf.1]; simp; omega), List.getElem?_eq_none (by simp; omega)]
theorem append_map_range {α : Type} (f : Nat → α) (i : Nat) : (List.range i).map f ++ [f i] = (List.range (i + 1)).map f := by rw [List.range_succ]; simp
set_option maxHeartbeats 1000000 in
/-- The document's pass, place by place. -/
theorem refpass_run (x w : List S43) (h : Nat) (n s : Nat) (m : Int) (inv : Bool) (hl : x.length = 4 ∨ x.length = 8 ∨ x.length = 16 ∨ x.length = 32 ∨ x.length = 64) (hwl : w.length = x.length) (hh : h = 1 ∨ h = 2 ∨ h = 4 ∨ h = 8 ∨ h = 16 ∨ h = 32) (hlt : h < x.length)
    (hn : n ≤ 29) (hs : s ≤ 3) (hm : m = 0 ∨ m = 1 ∨ m = 2) (hw : w.all (narrowB (2 ^ n)) = true) : ∀ (j k i : Nat), i + j = x.length → j + 100 < k →
    headroomref10_Pass.l0 k x w h n s m inv (x.length : Int) ((List.range i).map fun (i : Nat) => tagV x w n s m inv (tagAt x.length h i)) i = some ((List.range x.length).map fun (i : Nat) => tagV x w n s m inv (tagAt x.length h i)) := by
  intro j
  induction j with
  | zero =>
    intro k i hi hk
    obtain ⟨k, rfl⟩ : ∃ n, k = n + 1 := ⟨k - 1, by omega⟩
    obtain rfl : i = x.length := by omega
    rw [headroomref10_Pass.l0, if_neg (by omega)]
  | succ j ih =>
    intro k i hi hk
    obtain ⟨k, rfl⟩ : ∃ n, k = n + 1 := ⟨k - 1, by omega⟩
    have hilt : i < x.length := by omega
    have hok := (sym_is x.length h hl hh hlt).2 i hilt
    have w2 : Aside0 (wrap64 (2 * (h : Int)) = 2 * (h : Int)) := ⟨wrap64_id (by omega) (by omega)⟩
    have wt : Aside0 (Int.tmod (i : Int) (2 * (h : Int)) = (i : Int) % (2 * (h : Int))) := ⟨Int.tmod_eq_emod_of_nonneg (by omega)⟩
    have hd1 : Aside0 (Int.tdiv (x.length : Int) (2 * (h : Int)) = (x.length : Int) / (2 * (h : Int))) := ⟨Int.tdiv_eq_ediv_of_nonneg (by omega)⟩
    have hd0 : 0 ≤ (x.length : Int) / (2 * (h : Int)) := Int.ediv_nonneg (by omega) (by omega)
    have hd2 : (x.length : Int) / (2 * (h : Int)) ≤ (x.length : Int) := Int.ediv_le_self _ (by omega)
    have hdw : Aside0 (wrap64 ((x.length : Int) / (2 * (h : Int))) = (x.length : Int) / (2 * (h : Int))) := ⟨wrap64_id (by omega) (by omega)⟩
    have hsn := append_map_range (fun (i : Nat) => tagV x w n s m inv (tagAt x.length h i)) i
    have hlen : ((List.range i).map fun (i : Nat) => tagV x w n s m inv (tagAt x.length h i)).length < 8796093022208 := by simp; omega
    rw [headroomref10_Pass.l0, if_pos (by omega), w2.out, if_neg (by omega), wt.out, hd1.out, hdw.out]
    unfold tagAt at hok
    by_cases hc : (i : Int) % (2 * (h : Int)) < h
    · rw [if_pos hc] at hok
      unfold tagOk at hok
      rw [decide_eq_true_eq] at hok
      dsimp only at hok
      have wi : Aside0 (wrap64 ((i : Int) + (h : Int)) = (i : Int) + (h : Int)) := ⟨wrap64_id (by omega) (by omega)⟩
      have wk : Aside0 (wrap64 ((i : Int) % (2 * (h : Int)) * ((x.length : Int) / (2 * (h : Int)))) = (i : Int) % (2 * (h : Int)) * ((x.length : Int) / (2 * (h : Int)))) := ⟨wrap64_id (by omega) (by omega)⟩
      rw [if_pos hc, if_pos (by omega), if_pos (by omega), wi.out, if_pos (by omega), if_pos (by omega), wk.out, refroot2_is w _ inv n hn hw (by omega) (by omega)]
      simp only [Option.bind_some]
      rw [refup_is k (rd_T43 x i) (rd_T43 x ((i : Int) + (h : Int))) (rootOf w _ inv) n s m hn hs (by omega) hm]
      simp only [Option.bind_some]
      rw [if_pos hlen, step_is i (by omega)]
      have e : tagV x w n s m inv (tagAt x.length h (i : Nat)) = upV (rd_T43 x i) (rd_T43 x ((i : Int) + (h : Int))) (rootOf w ((i : Int) % (2 * (h : Int)) * ((x.length : Int) / (2 * (h : Int)))) inv) n s m := by
        unfold tagAt tagV
        rw [if_pos hc]
        simp
      have := ih k (i + 1) (by omega) (by omega)
      rw [← hsn] at this
      rw [e] at this
      exact this
    · rw [if_neg hc] at hok
      unfold tagOk at hok
      rw [decide_eq_true_eq] at hok
      dsimp only at hok
      have wi : Aside0 (wrap64 ((i : Int) - (h : Int)) = (i : Int) - (h : Int)) := ⟨wrap64_id (by omega) (by omega)⟩
      have hmod := Int.emod_lt_of_pos (i : Int) (show (0 : Int) < 2 * (h : Int) by omega)
      have hmod0 := Int.emod_nonneg (i : Int) (show (2 * (h : Int)) ≠ 0 by omega)
      have wj : Aside0 (wrap64 ((i : Int) % (2 * (h : Int)) - (h : Int)) = (i : Int) % (2 * (h : Int)) - (h : Int)) := ⟨wrap64_id (by omega) (by omega)⟩
      have wk : Aside0 (wrap64 (((i : Int) % (2 * (h : Int)) - (h : Int)) * ((x.length : Int) / (2 * (h : Int)))) = ((i : Int) % (2 * (h : Int)) - (h : Int)) * ((x.length : Int) / (2 * (h : Int)))) := ⟨wrap64_id (by omega) (by omega)⟩
      rw [if_neg hc, wi.out, if_pos (by omega), if_pos (by omega), if_pos (by omega), if_pos (by omega), wj.out, wk.out, refroot2_is w _ inv n hn hw (by omega) (by omega)]
      simp only [Option.bind_some]
      rw [refdown_is k (rd_T43 x ((i : Int) - (h : Int))) (rd_T43 x i) (rootOf w _ inv) n s m hn hs (by omega) hm]
      simp only [Option.bind_some]
      rw [if_pos hlen, step_is i (by omega)]
      have e : tagV x w n s m inv (tagAt x.length h (i : Nat)) = downV (rd_T43 x ((i : Int) - (h : Int))) (rd_T43 x i) (rootOf w (((i : Int) % (2 * (h : Int)) - (h : Int)) * ((x.length : Int) / (2 * (h : Int)))) inv) n s m := by
        unfold tagAt tagV
        rw [if_neg hc]
        simp
      have := ih k (i + 1) (by omega) (by omega)
      rw [← hsn] at this
      rw [e] at this
      exact this
theorem two_is_ref (k : Nat) (x w : List S43) (h : Nat) (n s : Nat) (m : Int) (inv : Bool) (hl : x.length = 4 ∨ x.length = 8 ∨ x.length = 16 ∨ x.length = 32 ∨ x.length = 64) (hwl : w.length = x.length) (hh : h = 1 ∨ h = 2 ∨ h = 4 ∨ h = 8 ∨ h = 16 ∨ h = 32) (hlt : h < x.length)
    (hn : n ≤ 29) (hs : s ≤ 3) (hm : m = 0 ∨ m = 1 ∨ m = 2) (hx : x.all (narrowB 2147483648) = true) (hw : w.all (narrowB (2 ^ n)) = true) (hk : 200 ≤ k) :
    headroomref10_Pass.f k x w h n s m inv = some (two_Pass.out x w h n s m inv) := by
  rw [out_is x w h n s m inv hl hh hlt hn hs hm hx hw]
  have := refpass_run x w h n s m inv hl hwl hh hlt hn hs hm hw x.length k 0 (by omega) (by omega)
  simpa [headroomref10_Pass.f] using this
end Go.Proofs.Ytmglkelmdcpinaa.G
/- TwoPasses' call answers true at any slices of complex numbers and any settings, and leaves memory that was there as it was. Conditions: the slices read as data. -/
namespace Go.Proofs.Ytmglkelmdcpinaa.G
open Go.RowKit Go.Proofs.YtmglkelmdcpinaaW.PrintWords Go.Proofs.YtmglkelmdcpinaaW.PrintLast Go.Proofs.YtmglkelmdcpinaaW.PrintMore Go.Proofs.Ytmglkelmdcpinaa.M
set_option linter.unusedVariables false
set_option linter.unusedSimpArgs false

theorem twoalive : headroomlaw10_alive.f = some true := by decide +kernel
/-- What a pass of kernel 2 answers. -/
theorem pass_val (x w : List S43) (h a3 a4 a5 : Int) (inv : Bool) :
    two_Pass.f x w h a3 a4 a5 inv = some (if sizeB x.length = false then ([], 3) else if w.length ≠ x.length then ([], 5) else if partB x.length h = false ∨ setB a3 a4 a5 = false then ([], 1) else if x.any farB = true ∨ w.any (greatB a3.toNat) = true then ([], 2) else (two_Pass.out x w h a3 a4 a5 inv, 0)) := by
  unfold two_Pass.f
  by_cases h0 : x.length = 4 ∨ x.length = 8 ∨ x.length = 16 ∨ x.length = 32 ∨ x.length = 64
  · have e0 : ¬ sizeB x.length = false := by unfold sizeB; rw [decide_eq_true h0]; simp
    rw [if_neg (not_not_intro h0), if_neg e0]
    by_cases h1 : w.length = x.length
    · rw [if_neg (not_not_intro h1), if_neg (not_not_intro h1)]
      have part_no : ∀ (hx : ¬ (1 ≤ h ∧ h < (x.length : Int) ∧ bits BinOp.and IntKind.i64 h (h - 1) = 0)), partB x.length h = false := fun hx => decide_eq_false hx
      by_cases h2 : h < 1
      · rw [if_pos h2, if_pos (.inl (part_no (by omega)))]
      rw [if_neg h2]
      by_cases h3 : (x.length : Int) ≤ h
      · rw [if_pos h3, if_pos (.inl (part_no (by omega)))]
      rw [if_neg h3]
      by_cases h4 : bits BinOp.and IntKind.i64 h (h - 1) = 0
      · rw [if_neg (not_not_intro h4), settings_is]
        have hp : partB x.length h = true := decide_eq_true ⟨by omega, by omega, h4⟩
        simp only [Option.bind_some]
        cases hs : setB a3 a4 a5 with
        | false => simp
        | true =>
          rw [if_neg (show ¬ (true = false) by simp), if_neg (show ¬ (partB x.length h = false ∨ true = false) by simp [hp])]
          by_cases h7 : x.any farB = true
          · rw [if_pos h7, if_pos (.inl h7)]
          · rw [if_neg h7]
            by_cases h8 : w.any (greatB a3.toNat) = true
            · rw [if_pos h8, if_pos (.inr h8)]
            · rw [if_neg h8, if_neg (by rintro (h | h); exact h7 h; exact h8 h)]
      · rw [if_pos h4, if_pos (.inl (part_no (fun hx => h4 hx.2.2)))]
    · rw [if_pos h1, if_pos h1]
  · have e0 : sizeB x.length = false := by unfold sizeB; rw [decide_eq_false h0]
    rw [if_pos h0, if_pos e0]
theorem half_any (k : Nat) (hk : 100 ≤ k) (h : Int) (n : Nat) (hn : n ≤ 70) : ∃ b, headroomref10_Half.f k h n = some b := by
  have run : ∀ (j : Nat) (k : Nat) (v : Int), 1 ≤ v → (n : Int) - v < j → j < k → ∃ b, headroomref10_Half.l0 k h n v = some b := by
    intro j
    induction j with
    | zero =>
      intro k v hv hj hk
      obtain ⟨k, rfl⟩ : ∃ n, k = n + 1 := ⟨k - 1, by omega⟩
      rw [headroomref10_Half.l0, if_neg (by omega)]
      exact ⟨_, rfl⟩
    | succ j ih =>
      intro k v hv hj hk
      obtain ⟨k, rfl⟩ : ∃ n, k = n + 1 := ⟨k - 1, by omega⟩
      rw [headroomref10_Half.l0]
      by_cases c : v < n
      · rw [if_pos c]
        by_cases c2 : h = v
        · rw [if_pos c2]; exact ⟨_, rfl⟩
        · rw [if_neg c2, show wrap64 (2 * v) = 2 * v from wrap64_id (by omega) (by omega)]
          exact ih k (2 * v) (by omega) (by omega) (by omega)
      · rw [if_neg c]
        exact ⟨_, rfl⟩
  exact run 80 k 1 (by omega) (by omega) (by omega)
theorem passes_true (x w : List S43) (h a3 a4 a5 : Int) (inv : Bool) (hx : x.length ≤ 70) (hw : w.length ≤ 70) :
    ((two_Pass.f x w h a3 a4 a5 inv).bind fun bt109 => ((headroomref10_Half.f 2000 h (x.length : Int)).bind fun t113 => ((headroomref10_May.f 2000 x w t113 a3 a4 a5).bind fun t114 => (if t114 = 0 then ((headroomlaw10_alive.f).bind fun t115 => (if t115 = true then (if bt109.2 = 0 then ((headroomref10_Pass.f 2000 x w h a3 a4 a5 inv).bind fun t116 => ((headroomref03_Same.f 2000 bt109.1 t116).bind fun t119 => (some t119))) else (some false)) else (some false))) else ((headroomlaw10_alive.f).bind fun t120 => (if t120 = true then (if bt109.2 = t114 then (some ((bt109.1.length : Int) == 0)) else (some false)) else (some false))))))) = some true := by
  obtain ⟨part, hp⟩ := half_any 2000 (by omega) h x.length hx
  rw [pass_val, hp]
  simp only [Option.bind_some]
  rw [may_is2 2000 x w part a3 a4 a5 (by omega) (by omega) (by omega), twoalive]
  simp only [Option.bind_some, if_true]
  cases h0 : sizeB x.length with
  | false => simp
  | true =>
    have h0' := h0
    unfold sizeB at h0'
    rw [decide_eq_true_eq] at h0'
    have hpart : part = partB x.length h := by
      have := half_is2 2000 (by omega) h x.length (by omega)
      rw [hp] at this
      exact Option.some.inj this
    subst hpart
    have etf : ¬ (true = false) := by simp
    rw [if_neg etf, if_neg etf]
    by_cases h1 : w.length = x.length
    · rw [if_neg (not_not_intro h1), if_neg (not_not_intro h1)]
      by_cases h2 : partB x.length h = false ∨ setB a3 a4 a5 = false
      · rw [if_pos h2, if_pos h2]; simp
      · rw [if_neg h2, if_neg h2]
        by_cases h3 : x.any farB = true ∨ w.any (greatB a3.toNat) = true
        · rw [if_pos h3, if_pos h3]; simp
        · rw [if_neg h3, if_neg h3]
          have hpt : partB x.length h = true := by cases hq : partB x.length h with | true => rfl | false => exact absurd (.inl hq) h2
          have hst : setB a3 a4 a5 = true := by cases hq : setB a3 a4 a5 with | true => rfl | false => exact absurd (.inr hq) h2
          unfold setB at hst
          rw [decide_eq_true_eq] at hst
          obtain ⟨m, rfl, hm, hlt⟩ := half_six x.length h (by omega) hpt
          obtain ⟨b, rfl⟩ : ∃ b : Nat, a3 = b := ⟨a3.toNat, by omega⟩
          obtain ⟨s, rfl⟩ : ∃ s : Nat, a4 = s := ⟨a4.toNat, by omega⟩
          rw [Int.toNat_natCast, any_far, any_great] at h3
          have hxa : x.all (narrowB 2147483648) = true := by cases hq : x.all (narrowB 2147483648) with | true => rfl | false => exact absurd (.inl (by rw [hq]; rfl)) h3
          have hwa : w.all (narrowB (2 ^ b)) = true := by cases hq : w.all (narrowB (2 ^ b)) with | true => rfl | false => exact absurd (.inr (by rw [hq]; rfl)) h3
          rw [two_is_ref 2000 x w m b s a5 inv h0' h1 hm (by omega) (by omega) (by omega) (by omega) hxa hwa (by omega)]
          simp only [Option.bind_some, if_true]
          have hlen : (two_Pass.out x w m b s a5 inv).length = x.length := two_fold_len _ _ _ _ _ _ _ _ _
          rw [same_is 2000 _ (by omega) (by omega)]
          rfl
    · rw [if_pos h1, if_pos h1]; simp
theorem headroomlaw10_TwoPasses.law (a0 : Option Addr) (c0 : Nat) (l0 : List S43) (a1 : Option Addr) (c1 : Nat) (l1 : List S43) (a2 a3 a4 a5 : Int) (a6 : Bool) (w : World) (hr0 : Kd.C k43 w a0 l0.length l0) (hc0 : l0.length ≤ c0) (hm0 : c0 ≤ maxLen) (hw0 : ∀ x ∈ l0, wfCx x) (hr1 : Kd.C k43 w a1 l1.length l1) (hc1 : l1.length ≤ c1) (hm1 : c1 ≤ maxLen) (hw1 : ∀ x ∈ l1, wfCx x)
    (w2 : (Lit.int .i64 a2).wf = true) (w3 : (Lit.int .i64 a3).wf = true) (w4 : (Lit.int .i64 a4).wf = true) (w5 : (Lit.int .i64 a5).wf = true) :
    Calls Try.prog 4 #[.slice a0 l0.length c0, .slice a1 l1.length c1, .int .i64 a2, .int .i64 a3, .int .i64 a4, .int .i64 a5, .bool a6] w fun e w' => e = .returned (.bool true) ∧ Below w.heap.size w w' := by
  refine headroomlaw10_TwoPasses.calls 2000 a0 c0 l0 a1 c1 l1 a2 a3 a4 a5 a6 true w hr0 hc0 hr1 hc1 ?_
  have m0 : mn (l0.length : Int) 70 = ((min l0.length 70 : Nat) : Int) := by unfold mn; split <;> omega
  have m1 : mn (l1.length : Int) 70 = ((min l1.length 70 : Nat) : Int) := by unfold mn; split <;> omega
  unfold headroomlaw10_TwoPasses.f
  rw [m0, m1, if_pos (by omega), if_pos (by omega)]
  simp only [Option.bind_some]
  rw [if_pos (by omega), if_pos (by omega)]
  exact passes_true (l0.take _) (l1.take _) a2 a3 a4 a5 a6 (by simp; omega) (by simp; omega)
end Go.Proofs.Ytmglkelmdcpinaa.G
