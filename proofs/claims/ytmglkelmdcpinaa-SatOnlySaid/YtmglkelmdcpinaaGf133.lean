/- The contract of the function slices_ContainsFunc_int_int (number 133 of the translation): what its call computes, as a plain Lean function; memory that was there stays as it was. Conditions: none beyond the theorem's own. Written by a program (gprint.py). -/
import Derived.Test.YtmglkelmdcpinaaG0
import Derived.Test.YtmglkelmdcpinaaGf171
namespace Go.Proofs.Ytmglkelmdcpinaa.G
open Go.RowKit Go.Proofs.YtmglkelmdcpinaaW.PrintWords Go.Proofs.YtmglkelmdcpinaaW.PrintLast Go.Proofs.YtmglkelmdcpinaaW.PrintMore
attribute [local go_sem] max2_int min2_int max_two min_two max_three min_three max_four min_four   -- for this text's walks alone
set_option linter.unusedVariables false
set_option linter.unusedSimpArgs false

/-! ### slices_ContainsFunc_int_int: function 133 -/
set_option maxHeartbeats 2000000 in
theorem containsFuncI (p : Int → Bool) (g : Nat) (lb : Array Value) (eg : ∀ args w, (callFunc g args).run Try.prog w = .ok (.enter g args) w) (A : Option Addr) (c : Nat) (l : List Int) (w : World)
    (hp : PredI g lb p w) (hr : Kd.C (Kd.int .i64) w A l.length l) (hbig : l.length ≤ 9223372036854775807) :
    Calls Try.prog 133 #[.slice A l.length c, .func (.func g) #[] lb] w fun e w' => e = .returned (.bool (l.any p)) ∧ Below w.heap.size w w' := by
  go_enter Try.func133, Try.ntmps133
  have HP := Aside0.mk hp
  have HR := Aside0.mk hr
  clear hp hr
  go_wp2_with (fail)
  refine (indexFuncI p g lb eg A c l _ HP.out HR.out hbig).mono ?_
  rintro e w' ⟨i, rfl, hi, hb'⟩
  have HI := Aside0.mk hi
  clear hi
  go_wp2
  go_ret
  exact ⟨by simp [← HI.out], hb'⟩

end Go.Proofs.Ytmglkelmdcpinaa.G
