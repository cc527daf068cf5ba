/- The contract of the function sat_Mul (number 22 of the translation): what its call computes, as a plain Lean function; memory that was there stays as it was. Conditions: none beyond the theorem's own. Written by a program (gprint.py). -/
import Derived.Test.YtmglkelmdcpinaaG0
import Derived.Test.YtmglkelmdcpinaaGf70
import Derived.Test.YtmglkelmdcpinaaGf21
import Derived.Test.YtmglkelmdcpinaaGf72
import Derived.Test.YtmglkelmdcpinaaGf73
namespace Go.Proofs.Ytmglkelmdcpinaa.G
open Go.RowKit Go.Proofs.YtmglkelmdcpinaaW.PrintWords Go.Proofs.YtmglkelmdcpinaaW.PrintLast Go.Proofs.YtmglkelmdcpinaaW.PrintMore
attribute [local go_sem] max2_int min2_int max_two min_two max_three min_three max_four min_four   -- for this text's walks alone
set_option linter.unusedVariables false
set_option linter.unusedSimpArgs false

/-! ### sat_Mul: function 22 -/
def sat_Mul.f (a0 a1 a2 a3 : Int) : Option (Int × Bool × Int) :=
  if a3 < 0 ∨ 3 ≤ a3 then some (0, false, 1)
  else sat_done.f a2 [a0, a1] (round_Shift.q (wrap64 (a0 * a1)) (if a2 = 0 then 15 else 31) a3)
set_option maxHeartbeats 2000000 in
theorem sat_Mul.calls (a0 : Int) (a1 : Int) (a2 : Int) (a3 : Int) (r1 : Int) (r2 : Bool) (r3 : Int) (w : World) (h : sat_Mul.f a0 a1 a2 a3 = some (r1, r2, r3)) :
    Calls Try.prog 22 #[.int .i64 a0, .int .i64 a1, .int .i64 a2, .int .i64 a3] w fun e w' => e = .returned (.tuple #[.int .i64 r1, .bool r2, .int .i64 r3]) ∧ Below w.heap.size w w' := by
  unfold sat_Mul.f at h
  by_cases hm : a3 < 0 ∨ 3 ≤ a3
  · rw [if_pos hm] at h
    simp only [Option.some.injEq, Prod.mk.injEq] at h
    obtain ⟨rfl, rfl, rfl⟩ := h
    have HS : Aside0 (round_Shift.f 0 0 a3 = some (0, 1)) := ⟨by unfold round_Shift.f; rw [if_pos (by omega)]⟩
    clear hm
    go_enter Try.func22, Try.ntmps22
    go_wp2_with (fail)
    refine (round_Shift.calls 0 0 a3 0 1 _ HS.out).mono ?_
    rintro e w2 ⟨rfl, hb2⟩
    have HB2 := Aside0.mk (below_then (below_alloc (below_alloc (below_alloc (below_alloc (Below.refl _ _) _) _) _) _) (by simp <;> omega) hb2 : Below w.heap.size w w2)
    clear hb2
    go_wp2
    go_ret3
    exact ⟨rfl, HB2.out⟩
  · rw [if_neg hm] at h
    have HS : Aside0 (round_Shift.f 0 0 a3 = some (0, 0)) := ⟨by unfold round_Shift.f; rw [if_neg (by omega), if_pos rfl]⟩
    have H := Aside0.mk h
    have HMM := Aside0.mk hm
    clear hm h
    go_enter Try.func22, Try.ntmps22
    go_wp2_with (fail)
    refine (round_Shift.calls 0 0 a3 0 0 _ HS.out).mono ?_
    rintro e w2 ⟨rfl, hb2⟩
    have c0 : w2.cell? ⟨w.heap.size, 0, none⟩ = some (.int .i64 a0) := (hb2.cell (p := ⟨w.heap.size, 0, none⟩) (by simp <;> omega)).trans (by simp [go_sem])
    have c1 : w2.cell? ⟨w.heap.size + 1, 0, none⟩ = some (.int .i64 a1) := (hb2.cell (p := ⟨w.heap.size + 1, 0, none⟩) (by simp <;> omega)).trans (by simp [go_sem])
    have c2 : w2.cell? ⟨w.heap.size + 1 + 1, 0, none⟩ = some (.int .i64 a2) := (hb2.cell (p := ⟨w.heap.size + 1 + 1, 0, none⟩) (by simp)).trans (by simp [go_sem])
    have c3 : w2.cell? ⟨w.heap.size + 1 + 1 + 1, 0, none⟩ = some (.int .i64 a3) := (hb2.cell (p := ⟨w.heap.size + 1 + 1 + 1, 0, none⟩) (by simp)).trans (by simp [go_sem])
    have HZ : Aside0 (w.heap.size + 4 ≤ w2.heap.size) := ⟨by have := hb2.size; simp at this; omega⟩
    have HB2 := Aside0.mk (below_then (below_alloc (below_alloc (below_alloc (below_alloc (Below.refl _ _) _) _) _) _) (by simp <;> omega) hb2 : Below w.heap.size w w2)
    clear hb2
    go_wp2_with (fail)
    refine (sat_done.calls a2 73 #[.pointer (some ⟨w.heap.size + 1 + 1, 0, none⟩), .pointer (some ⟨w.heap.size, 0, none⟩), .pointer (some ⟨w.heap.size + 1, 0, none⟩), .pointer (some ⟨w.heap.size + 1 + 1 + 1, 0, none⟩)] _ (enters_of Try.func73 (by kernel_rfl) rfl) (some ⟨w2.heap.size, 0, none⟩) 2 [a0, a1] r1 r2 r3 _ ?_ ?_ (by simp) H.out).mono ?_
    · intro hf W hW
      have hz := HZ.out
      have k0 : W.cell? ⟨w.heap.size, 0, none⟩ = some (.int .i64 a0) := ((hW.cell (p := ⟨w.heap.size, 0, none⟩) (by simp <;> omega))).trans (pw_cell_below (below_alloc (Below.refl _ _) _) c0)
      have k1 : W.cell? ⟨w.heap.size + 1, 0, none⟩ = some (.int .i64 a1) := ((hW.cell (p := ⟨w.heap.size + 1, 0, none⟩) (by simp <;> omega))).trans (pw_cell_below (below_alloc (Below.refl _ _) _) c1)
      have k2 : W.cell? ⟨w.heap.size + 1 + 1, 0, none⟩ = some (.int .i64 a2) := ((hW.cell (p := ⟨w.heap.size + 1 + 1, 0, none⟩) (by simp <;> omega))).trans (pw_cell_below (below_alloc (Below.refl _ _) _) c2)
      have k3 : W.cell? ⟨w.heap.size + 1 + 1 + 1, 0, none⟩ = some (.int .i64 a3) := ((hW.cell (p := ⟨w.heap.size + 1 + 1 + 1, 0, none⟩) (by simp <;> omega))).trans (pw_cell_below (below_alloc (Below.refl _ _) _) c3)
      refine (sat_Mul1.calls _ _ _ _ a0 a1 a2 a3 (if a2 = 0 then 15 else 31) (round_Shift.q (wrap64 (a0 * a1)) (if a2 = 0 then 15 else 31) a3) W k2 k0 k1 k3 ?_ ?_).mono ?_
      · rcases hf with rfl | rfl <;> rfl
      · unfold round_Shift.f
        have := HMM.out
        rw [if_neg (by split <;> omega), if_neg (by split <;> omega)]
      rintro e w' ⟨rfl, hb⟩
      exact ⟨rfl, below_then hW hW.size hb⟩
    · refine C_lit _ [a0, a1] (by simp) ?_
      intro j hj
      match j, hj with
      | 0, _ => simp [go_sem]
      | 1, _ => simp [go_sem]
    rintro e w3 ⟨rfl, hb⟩
    have HB := Aside0.mk (below_then (below_alloc HB2.out _) (below_alloc HB2.out _).size hb : Below w.heap.size w w3)
    clear hb
    go_wp2
    go_ret3
    exact ⟨rfl, HB.out⟩

end Go.Proofs.Ytmglkelmdcpinaa.G
