/- The contract of the function sat_Mul_1 (number 73 of the translation): what its call computes, as a plain Lean function; memory that was there stays as it was. Conditions: none beyond the theorem's own. Written by a program (gprint.py). -/
import Derived.Test.YtmglkelmdcpinaaG0
import Derived.Test.YtmglkelmdcpinaaGf20
import Derived.Test.YtmglkelmdcpinaaGf72
namespace Go.Proofs.Ytmglkelmdcpinaa.G
open Go.RowKit Go.Proofs.YtmglkelmdcpinaaW.PrintWords Go.Proofs.YtmglkelmdcpinaaW.PrintLast Go.Proofs.YtmglkelmdcpinaaW.PrintMore
attribute [local go_sem] max2_int min2_int max_two min_two max_three min_three max_four min_four   -- for this text's walks alone
set_option linter.unusedVariables false
set_option linter.unusedSimpArgs false

/-! ### sat_Mul_1: function 73 -/
set_option maxHeartbeats 2000000 in
theorem sat_Mul1.calls (B0 B1 B2 B3 : Nat) (a b fmt m bits x : Int) (w : World) (h0 : w.cell? ⟨B0, 0, none⟩ = some (.int .i64 fmt)) (h1 : w.cell? ⟨B1, 0, none⟩ = some (.int .i64 a)) (h2 : w.cell? ⟨B2, 0, none⟩ = some (.int .i64 b)) (h3 : w.cell? ⟨B3, 0, none⟩ = some (.int .i64 m))
    (hb : sat_Bits.f fmt = some (bits, 0)) (hx : round_Shift.f (wrap64 (a * b)) bits m = some (x, 0)) :
    Calls Try.prog 73 #[.pointer (some ⟨B0, 0, none⟩), .pointer (some ⟨B1, 0, none⟩), .pointer (some ⟨B2, 0, none⟩), .pointer (some ⟨B3, 0, none⟩)] w fun e w' => e = .returned (.int .i64 x) ∧ Below w.heap.size w w' := by
  have HB := Aside0.mk hb
  have HX := Aside0.mk hx
  clear hb hx
  have l1 := World.block_lt_of_cell? w _ h1
  have l2 := World.block_lt_of_cell? w _ h2
  have l3 := World.block_lt_of_cell? w _ h3
  go_enter Try.func73, Try.ntmps73
  go_wp2_with (fail)
  refine (sat_Bits.calls fmt bits 0 _ HB.out).mono ?_
  rintro e w1 ⟨rfl, hd⟩
  have HB1 := Aside0.mk hd.below
  clear hd
  have h1' := (HB1.out.cell l1).trans h1
  have h2' := (HB1.out.cell l2).trans h2
  have h3' := (HB1.out.cell l3).trans h3
  clear h1 h2 h3 h0 l1 l2 l3
  go_wp2_with (fail)
  refine (round_Shift.calls _ bits m x 0 _ HX.out).mono ?_
  rintro e w2 ⟨rfl, hb2⟩
  have HB2 := Aside0.mk (below_then HB1.out HB1.out.size hb2)
  clear hb2
  go_wp2
  go_ret
  exact ⟨rfl, HB2.out⟩

end Go.Proofs.Ytmglkelmdcpinaa.G
