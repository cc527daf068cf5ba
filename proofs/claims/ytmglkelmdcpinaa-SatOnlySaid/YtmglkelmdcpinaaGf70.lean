/- The contract of the function sat_done (number 70 of the translation): what its call computes, as a plain Lean function; memory that was there stays as it was. Conditions: none beyond the theorem's own. Written by a program (gprint.py). -/
import Derived.Test.YtmglkelmdcpinaaG0
import Derived.Test.YtmglkelmdcpinaaGf20
import Derived.Test.YtmglkelmdcpinaaGf133
import Derived.Test.YtmglkelmdcpinaaGf134
import Derived.Test.YtmglkelmdcpinaaGf132
namespace Go.Proofs.Ytmglkelmdcpinaa.G
open Go.RowKit Go.Proofs.YtmglkelmdcpinaaW.PrintWords Go.Proofs.YtmglkelmdcpinaaW.PrintLast Go.Proofs.YtmglkelmdcpinaaW.PrintMore
attribute [local go_sem] max2_int min2_int max_two min_two max_three min_three max_four min_four   -- for this text's walks alone
set_option linter.unusedVariables false
set_option linter.unusedSimpArgs false

/-! ### sat_done: function 70 -/
def sat_done.f (a0 : Int) (l : List Int) (x : Int) : Option (Int × Bool × Int) :=
  if a0 = 0 then (if l.any (sat_done.odd 15) = true then some (0, false, 2) else sat_Clamp.f x 0)
  else if a0 = 1 then (if l.any (sat_done.odd 31) = true then some (0, false, 2) else sat_Clamp.f x 1)
  else some (0, false, 1)
def RetI (g : Nat) (lb : Array Value) (x : Int) (w : World) : Prop :=
  ∀ (W : World), Below w.heap.size w W → Calls Try.prog g lb W fun e w' => e = .returned (.int .i64 x) ∧ Below w.heap.size w w'
set_option maxHeartbeats 2000000 in
theorem sat_done.c0 (g : Nat) (lb : Array Value) (x : Int) (eg : ∀ args w, (callFunc g args).run Try.prog w = .ok (.enter g args) w) (A : Option Addr) (c : Nat) (l : List Int) (r1 : Int) (r2 : Bool) (r3 : Int) (w : World)
    (hm : RetI g lb x w) (hr : Kd.C (Kd.int .i64) w A l.length l) (hbig : l.length ≤ 9223372036854775807) (h : sat_done.f 0 l x = some (r1, r2, r3)) :
    Calls Try.prog 70 #[.int .i64 0, .func (.func g) #[] lb, .slice A l.length c] w fun e w' => e = .returned (.tuple #[.int .i64 r1, .bool r2, .int .i64 r3]) ∧ Below w.heap.size w w' := by
  have HM := Aside0.mk hm
  have HR := Aside0.mk hr
  have H : (if l.any (sat_done.odd 15) = true then some (0, false, 2) else sat_Clamp.f x 0) = some (r1, r2, r3) := h
  clear hm hr h
  have H1 := Aside0.mk H
  clear H
  go_enter Try.func70, Try.ntmps70
  go_wp2_with (fail)
  refine (sat_Bits.calls 0 15 0 _ rfl).mono ?_
  rintro e w1 ⟨rfl, hd⟩
  have HB1 := Aside0.mk hd.below
  clear hd
  go_wp2_with (fail)
  refine (containsFuncI (sat_done.odd 15) 132 #[.pointer (some ⟨w1.heap.size, 0, none⟩)] (enters_of Try.func132 (by kernel_rfl) rfl) A c l _ ?_ ?_ hbig).mono ?_
  · intro W y hW
    have hcell : W.cell? ⟨w1.heap.size, 0, none⟩ = some (.int .i64 15) := (hW.cell (p := ⟨w1.heap.size, 0, none⟩) (by simp)).trans (by simp)
    refine (sat_done.odd15 w1.heap.size y W hcell).mono ?_
    rintro e w' ⟨rfl, rfl⟩
    exact ⟨rfl, hW⟩
  · exact Kd.C_below HR.out (below_alloc HB1.out _)
  rintro e w2 ⟨rfl, hb⟩
  have hb0 : Below w.heap.size w w2 := below_then (below_alloc HB1.out _) (below_alloc HB1.out _).size hb
  have HB := Aside0.mk hb0
  clear hb hb0 HB1
  cases hq : l.any (sat_done.odd 15) with
  | true =>
    have H2 := H1.out
    rw [hq] at H2
    simp only [if_true, Option.some.injEq, Prod.mk.injEq] at H2
    obtain ⟨rfl, rfl, rfl⟩ := H2
    clear H1 hq
    go_wp2
    go_ret3
    exact ⟨rfl, HB.out⟩
  | false =>
    have H2 := H1.out
    rw [hq] at H2
    simp only [Bool.false_eq_true, if_false] at H2
    clear H1 hq
    have H3 := Aside0.mk H2
    clear H2
    go_wp2_with (fail)
    refine (HM.out _ HB.out).mono ?_
    rintro e w3 ⟨rfl, hb3⟩
    have HB3 := Aside0.mk hb3
    clear hb3 HB
    go_wp2_with (fail)
    refine (sat_Clamp.calls x 0 r1 r2 r3 _ H3.out).mono ?_
    rintro e w4 ⟨rfl, hb4⟩
    have HB4 := Aside0.mk (below_then HB3.out HB3.out.size hb4)
    clear hb4
    go_wp2
    go_ret3
    exact ⟨rfl, HB4.out⟩
set_option maxHeartbeats 2000000 in
theorem sat_done.c1 (g : Nat) (lb : Array Value) (x : Int) (eg : ∀ args w, (callFunc g args).run Try.prog w = .ok (.enter g args) w) (A : Option Addr) (c : Nat) (l : List Int) (r1 : Int) (r2 : Bool) (r3 : Int) (w : World)
    (hm : RetI g lb x w) (hr : Kd.C (Kd.int .i64) w A l.length l) (hbig : l.length ≤ 9223372036854775807) (h : sat_done.f 1 l x = some (r1, r2, r3)) :
    Calls Try.prog 70 #[.int .i64 1, .func (.func g) #[] lb, .slice A l.length c] w fun e w' => e = .returned (.tuple #[.int .i64 r1, .bool r2, .int .i64 r3]) ∧ Below w.heap.size w w' := by
  have HM := Aside0.mk hm
  have HR := Aside0.mk hr
  have H : (if l.any (sat_done.odd 31) = true then some (0, false, 2) else sat_Clamp.f x 1) = some (r1, r2, r3) := h
  clear hm hr h
  have H1 := Aside0.mk H
  clear H
  go_enter Try.func70, Try.ntmps70
  go_wp2_with (fail)
  refine (sat_Bits.calls 1 31 0 _ rfl).mono ?_
  rintro e w1 ⟨rfl, hd⟩
  have HB1 := Aside0.mk hd.below
  clear hd
  go_wp2_with (fail)
  refine (containsFuncI (sat_done.odd 31) 132 #[.pointer (some ⟨w1.heap.size, 0, none⟩)] (enters_of Try.func132 (by kernel_rfl) rfl) A c l _ ?_ ?_ hbig).mono ?_
  · intro W y hW
    have hcell : W.cell? ⟨w1.heap.size, 0, none⟩ = some (.int .i64 31) := (hW.cell (p := ⟨w1.heap.size, 0, none⟩) (by simp)).trans (by simp)
    refine (sat_done.odd31 w1.heap.size y W hcell).mono ?_
    rintro e w' ⟨rfl, rfl⟩
    exact ⟨rfl, hW⟩
  · exact Kd.C_below HR.out (below_alloc HB1.out _)
  rintro e w2 ⟨rfl, hb⟩
  have hb0 : Below w.heap.size w w2 := below_then (below_alloc HB1.out _) (below_alloc HB1.out _).size hb
  have HB := Aside0.mk hb0
  clear hb hb0 HB1
  cases hq : l.any (sat_done.odd 31) with
  | true =>
    have H2 := H1.out
    rw [hq] at H2
    simp only [if_true, Option.some.injEq, Prod.mk.injEq] at H2
    obtain ⟨rfl, rfl, rfl⟩ := H2
    clear H1 hq
    go_wp2
    go_ret3
    exact ⟨rfl, HB.out⟩
  | false =>
    have H2 := H1.out
    rw [hq] at H2
    simp only [Bool.false_eq_true, if_false] at H2
    clear H1 hq
    have H3 := Aside0.mk H2
    clear H2
    go_wp2_with (fail)
    refine (HM.out _ HB.out).mono ?_
    rintro e w3 ⟨rfl, hb3⟩
    have HB3 := Aside0.mk hb3
    clear hb3 HB
    go_wp2_with (fail)
    refine (sat_Clamp.calls x 1 r1 r2 r3 _ H3.out).mono ?_
    rintro e w4 ⟨rfl, hb4⟩
    have HB4 := Aside0.mk (below_then HB3.out HB3.out.size hb4)
    clear hb4
    go_wp2
    go_ret3
    exact ⟨rfl, HB4.out⟩
set_option maxHeartbeats 2000000 in
theorem sat_done.calls (a0 : Int) (g : Nat) (lb : Array Value) (x : Int) (eg : ∀ args w, (callFunc g args).run Try.prog w = .ok (.enter g args) w) (A : Option Addr) (c : Nat) (l : List Int) (r1 : Int) (r2 : Bool) (r3 : Int) (w : World)
    (hm : a0 = 0 ∨ a0 = 1 → RetI g lb x w) (hr : Kd.C (Kd.int .i64) w A l.length l) (hbig : l.length ≤ 9223372036854775807) (h : sat_done.f a0 l x = some (r1, r2, r3)) :
    Calls Try.prog 70 #[.int .i64 a0, .func (.func g) #[] lb, .slice A l.length c] w fun e w' => e = .returned (.tuple #[.int .i64 r1, .bool r2, .int .i64 r3]) ∧ Below w.heap.size w w' := by
  by_cases h0 : a0 = 0
  · subst h0
    exact sat_done.c0 g lb x eg A c l r1 r2 r3 w (hm (.inl rfl)) hr hbig h
  by_cases h1 : a0 = 1
  · subst h1
    exact sat_done.c1 g lb x eg A c l r1 r2 r3 w (hm (.inr rfl)) hr hbig h
  have hb : sat_Bits.f a0 = some (0, 1) := by unfold sat_Bits.f; rw [if_neg h0, if_neg h1]
  have HB := Aside0.mk hb
  unfold sat_done.f at h
  rw [if_neg h0, if_neg h1] at h
  simp only [Option.some.injEq, Prod.mk.injEq] at h
  obtain ⟨rfl, rfl, rfl⟩ := h
  clear hb h0 h1 hm hr hbig
  go_enter Try.func70, Try.ntmps70
  go_wp2_with (fail)
  refine (sat_Bits.calls a0 0 1 _ HB.out).mono ?_
  rintro e w1 ⟨rfl, hd⟩
  have HB1 := Aside0.mk hd.below
  clear hd
  go_wp2
  go_ret3
  exact ⟨rfl, by repeat (first | exact HB1.out | apply below_alloc | apply pw_below_drewN | apply Below.setCell)⟩

end Go.Proofs.Ytmglkelmdcpinaa.G
