/- The contract of the function sat_Add (number 23 of the translation): what its call computes, as a plain Lean function; memory that was there stays as it was. Conditions: none beyond the theorem's own. Written by a program (gprint.py). -/
import Derived.Test.YtmglkelmdcpinaaG0
import Derived.Test.YtmglkelmdcpinaaGf70
import Derived.Test.YtmglkelmdcpinaaGf21
import Derived.Test.YtmglkelmdcpinaaGf74
namespace Go.Proofs.Ytmglkelmdcpinaa.G
open Go.RowKit Go.Proofs.YtmglkelmdcpinaaW.PrintWords Go.Proofs.YtmglkelmdcpinaaW.PrintLast Go.Proofs.YtmglkelmdcpinaaW.PrintMore
attribute [local go_sem] max2_int min2_int max_two min_two max_three min_three max_four min_four   -- for this text's walks alone
set_option linter.unusedVariables false
set_option linter.unusedSimpArgs false

/-! ### sat_Add: function 23 -/
def sat_Add.f (a0 a1 a2 : Int) : Option (Int × Bool × Int) := sat_done.f a2 [a0, a1] (wrap64 (a0 + a1))
set_option maxHeartbeats 2000000 in
theorem sat_Add.calls (a0 : Int) (a1 : Int) (a2 : Int) (r1 : Int) (r2 : Bool) (r3 : Int) (w : World) (h : sat_Add.f a0 a1 a2 = some (r1, r2, r3)) :
    Calls Try.prog 23 #[.int .i64 a0, .int .i64 a1, .int .i64 a2] w fun e w' => e = .returned (.tuple #[.int .i64 r1, .bool r2, .int .i64 r3]) ∧ Below w.heap.size w w' := by
  have H := Aside0.mk h
  clear h
  go_enter Try.func23, Try.ntmps23
  go_wp2_with (fail)
  refine (sat_done.calls a2 74 #[.pointer (some ⟨w.heap.size, 0, none⟩), .pointer (some ⟨w.heap.size + 1, 0, none⟩)] (wrap64 (a0 + a1)) (enters_of Try.func74 (by kernel_rfl) rfl) (some ⟨w.heap.size + 1 + 1, 0, none⟩) 2 [a0, a1] r1 r2 r3 _ ?_ ?_ (by simp) H.out).mono ?_
  · intro _ W hW
    have hcell : W.cell? ⟨w.heap.size, 0, none⟩ = some (.int .i64 a0) := (hW.cell (p := ⟨w.heap.size, 0, none⟩) (by simp <;> omega)).trans (by simp [go_sem])
    have hcell' : W.cell? ⟨w.heap.size + 1, 0, none⟩ = some (.int .i64 a1) := (hW.cell (p := ⟨w.heap.size + 1, 0, none⟩) (by simp)).trans (by simp [go_sem])
    refine (sat_Add1.calls w.heap.size (w.heap.size + 1) a0 a1 W hcell hcell').mono ?_
    rintro e w' ⟨rfl, rfl⟩
    exact ⟨rfl, hW⟩
  · refine C_lit _ [a0, a1] (by simp) ?_
    intro j hj
    match j, hj with
    | 0, _ => simp [go_sem]
    | 1, _ => simp [go_sem]
  rintro e w2 ⟨rfl, hb⟩
  have HB := Aside0.mk (below_then (below_alloc (below_alloc (below_alloc (Below.refl _ _) _) _) _) (by simp <;> omega) hb : Below w.heap.size w w2)
  clear hb
  go_wp2
  go_ret3
  exact ⟨rfl, HB.out⟩

end Go.Proofs.Ytmglkelmdcpinaa.G
