/- Laws for a region that draws its order: taken operation by operation; in a round of a loop over a function; and small facts on new blocks. Conditions: each theorem's own. -/
import Derived.Deep.RegionHeld3
import Derived.OrdersIn
import Derived.RangeFuncCalls
import Derived.Test.YtmglkelmdcpinaaWWords
import Derived.Test.YtmglkelmdcpinaaWMore
namespace Go.Proofs.Ytmglkelmdcpinaa.G
open Go.RowKit Go.Proofs.YtmglkelmdcpinaaW.PrintWords Go.Proofs.YtmglkelmdcpinaaW.PrintLast Go.Proofs.YtmglkelmdcpinaaW.PrintMore
set_option linter.unusedVariables false
theorem wpOpIn_of_wpOp {l n : Nat} {P : Program} {ops : Array Oper} {Q : Exit → Act → World → Prop} {i : Nat} {K K' : Act → World → Prop} {a : Act} {w : World}
    (hno : ¬ LetsOut Q) (hnd : ∀ o ∈ ops, ∀ c, o.op ≠ .defer c) (hk : ∀ a w, K a w → K' a w) (h : wpOp P ops Q i K a w) : wpOpIn (Fence.wide.inRound l) n P ops Q i K' a w := by
  unfold wpOp at h
  unfold wpOpIn
  cases ho : ops[i]? with
  | none => rw [ho] at h; exact hk _ _ h
  | some o =>
    rw [ho] at h
    dsimp only at h ⊢
    split at h
    · rename_i hw
      rw [if_pos hw]
      rcases h with h | ⟨_, h⟩
      · refine ⟨fun _ _ => trivial, ?_⟩
        rw [Oper.semAt_eq _ _ _ (hnd o (Array.mem_of_getElem? ho))]
        unfold Oper.wp at h
        generalize (execOp a.eval o).run P w = r at h ⊢
        cases r with
        | ok x w' =>
          cases x <;> simp only [Oper.upon, Oper.uponIn] at h ⊢
          case value v => exact hk _ _ h
          case skip => exact hk _ _ h
          case defer d => exact hk _ _ h
          case enter f args =>
            refine ⟨(fun h => by cases h), ((callsIn_wide.2 h).inRound l).mono fun e w'' he => ?_⟩
            cases e with
            | returned v => exact hk _ _ he
            | panicked c => exact he
            | outgrown => exact he
          case row rw args => exact ⟨(fun h => by cases h), fun c cs _ => let ⟨v, w', r, s⟩ := h c cs; ⟨v, w', hk _ _ r, (stepsIn_wide (m := _)).2 s⟩⟩
        | halt x w' => cases x <;> simp only [Oper.upon, Oper.uponIn] at h ⊢ <;> exact h
      · exact absurd h hno
    · rename_i hw
      rw [if_neg hw]
      exact ⟨fun _ _ => trivial, hk _ _ h⟩
theorem wpAnyIn_of_wpAny {l n : Nat} {P : Program} {md : Region.Mode} {ops : Array Oper} {Q : Exit → Act → World → Prop} (hno : ¬ LetsOut Q) (hnd : ∀ o ∈ ops, ∀ c, o.op ≠ .defer c) :
    ∀ (fuel : Nat) (listed : Array Bool) (a : Act) (w : World), wpAny P md ops Q fuel listed a w → wpAnyIn (Fence.wide.inRound l) n P md ops Q fuel listed a w
  | 0, _, _, _, h => h
  | fuel + 1, _, _, _, h => ⟨h.1, fun i hi => wpOpIn_of_wpOp hno hnd (fun a w h => wpAnyIn_of_wpAny hno hnd fuel _ a w h) (h.2 i hi)⟩
def noDefer (ops : Array Oper) : Bool := ops.all fun o => match o.op with | .defer _ => false | _ => true
/-- A region that draws its order, in a round of a loop over a function: by the laws of a region anywhere. -/
theorem wpIn_round_held {l n id : Nat} {P : Program} {ops : Array Oper} {Q : Exit → Act → World → Prop} {S : World → Prop} {a : Act} {w : World} (hm : P.follows .mixedOrders = true) (hno : ¬ LetsOut Q) (hnd : noDefer ops = true) (hS : S w.drew)
    (h : S w.drew → wpAnyH P .any ops Q S ops.size (Array.replicate ops.size false) a w.drew) : (Code.region id ops true).wpIn (Fence.wide.inRound l) n P Q a w := by
  refine wpIn_region_any hm ?_
  refine wpAnyIn_of_wpAny hno ?_ _ _ _ _ (wpAny_of_held _ _ _ _ (h hS))
  intro o ho c e
  unfold noDefer at hnd
  have := Array.all_eq_true'.1 hnd o ho
  rw [e] at this
  cases this
theorem takeH {P : Program} {md : Region.Mode} {ops : Array Oper} {Q : Exit → Act → World → Prop} {S : World → Prop} {i : Nat} {oi : Oper} {d : Tmp} {v : Value} {fuel : Nat} {listed : Array Bool} {a : Act} {w : World} (hi : ops[i]? = some oi) (hd : oi.dst = some d)
    (hs : Region.noSelect ops = true) (hf : Region.free md ops listed i = true) (hr : (Region.ready md ops listed).contains i = true) (hQ : ∀ c a w, Q (.panic c) (a.put oi.dst v) w → Q (.panic c) a w)
    (hS : S w) (hw : Region.wanted oi (yielded ops a.tmps) = true) (hy : ∀ w, S w → (execOp a.eval oi).run P w = .ok (.value v) w)
    (h : wpAnyH P md ops Q S fuel (listed.setIfInBounds i true) { tmps := a.tmps.setIfInBounds d v, defers := a.defers } w) : wpAnyH P md ops Q S (fuel + 1) listed a w := by
  refine wpAnyH_take hi hs hf hr hQ (.inl ⟨hw, hy⟩) hS ?_
  rw [hd]
  exact h
theorem blk_new' (w : World) (o : Obj) : (w.alloc o).heap[w.heap.size]? = some o := World.alloc_heap_new w o
theorem alloc_keeps {w : World} {i : Nat} {o : Obj} (h : w.heap[i]? = some o) (o' : Obj) : (w.alloc o').heap[i]? = some o := (Below.heap_alloc w o' i (Array.getElem?_eq_some_iff.1 h).1).trans h
theorem grownBy_drew_ (w : World) (row : Option Nat) : w.grownBy w.drew row := ⟨rfl, rfl, rfl, Nat.le_refl _, fun _ _ _ => rfl⟩
/-- All orders come to one end: it is walked once. -/
theorem region_cut {Goal : Prop} {R : Act → World → Prop} (A : Nat → Act) (F : Nat → World → Prop) (walk : (∀ U X, F U X → R (A U) X) → Goal) (tail : ∀ U X, F U X → R (A U) X) : Goal := walk tail
theorem region_cut2 {Goal : Prop} {R : Act → World → Prop} (A : Nat → Nat → Act) (F : Nat → Nat → World → Prop) (walk : (∀ U D X, F U D X → R (A U D) X) → Goal) (tail : ∀ U D X, F U D X → R (A U D) X) : Goal := walk tail
theorem boxes2 (w : World) (o0 o1 : Obj) : ((w.alloc o0).alloc o1).heap[w.heap.size]? = some o0 ∧ ((w.alloc o0).alloc o1).heap[w.heap.size + 1]? = some o1 ∧ Below w.heap.size w ((w.alloc o0).alloc o1) ∧ w.heap.size + 2 ≤ ((w.alloc o0).alloc o1).heap.size := by
  have n1 := blk_new' (w.alloc o0) o1
  simp only [World.size_alloc] at n1
  exact ⟨(alloc_keeps (blk_new' w o0) _), n1, (below_alloc (below_alloc (Below.refl _ _) _) _), by simp⟩
theorem boxes3 (w : World) (o0 o1 o2 : Obj) : (((w.alloc o0).alloc o1).alloc o2).heap[w.heap.size]? = some o0 ∧ (((w.alloc o0).alloc o1).alloc o2).heap[w.heap.size + 1]? = some o1 ∧ (((w.alloc o0).alloc o1).alloc o2).heap[w.heap.size + 1 + 1]? = some o2 ∧ Below w.heap.size w (((w.alloc o0).alloc o1).alloc o2) ∧ w.heap.size + 3 ≤ (((w.alloc o0).alloc o1).alloc o2).heap.size := by
  have n1 := blk_new' (w.alloc o0) o1
  have n2 := blk_new' ((w.alloc o0).alloc o1) o2
  simp only [World.size_alloc] at n1 n2
  exact ⟨(alloc_keeps (alloc_keeps (blk_new' w o0) _) _), (alloc_keeps n1 _), n2, (below_alloc (below_alloc (below_alloc (Below.refl _ _) _) _) _), by simp⟩
theorem boxes4 (w : World) (o0 o1 o2 o3 : Obj) : ((((w.alloc o0).alloc o1).alloc o2).alloc o3).heap[w.heap.size]? = some o0 ∧ ((((w.alloc o0).alloc o1).alloc o2).alloc o3).heap[w.heap.size + 1]? = some o1 ∧ ((((w.alloc o0).alloc o1).alloc o2).alloc o3).heap[w.heap.size + 1 + 1]? = some o2 ∧ ((((w.alloc o0).alloc o1).alloc o2).alloc o3).heap[w.heap.size + 1 + 1 + 1]? = some o3 ∧ Below w.heap.size w ((((w.alloc o0).alloc o1).alloc o2).alloc o3) ∧ w.heap.size + 4 ≤ ((((w.alloc o0).alloc o1).alloc o2).alloc o3).heap.size := by
  have n1 := blk_new' (w.alloc o0) o1
  have n2 := blk_new' ((w.alloc o0).alloc o1) o2
  have n3 := blk_new' (((w.alloc o0).alloc o1).alloc o2) o3
  simp only [World.size_alloc] at n1 n2 n3
  exact ⟨(alloc_keeps (alloc_keeps (alloc_keeps (blk_new' w o0) _) _) _), (alloc_keeps (alloc_keeps n1 _) _), (alloc_keeps n2 _), n3, (below_alloc (below_alloc (below_alloc (below_alloc (Below.refl _ _) _) _) _) _), by simp⟩
theorem boxes5 (w : World) (o0 o1 o2 o3 o4 : Obj) : (((((w.alloc o0).alloc o1).alloc o2).alloc o3).alloc o4).heap[w.heap.size]? = some o0 ∧ (((((w.alloc o0).alloc o1).alloc o2).alloc o3).alloc o4).heap[w.heap.size + 1]? = some o1 ∧ (((((w.alloc o0).alloc o1).alloc o2).alloc o3).alloc o4).heap[w.heap.size + 1 + 1]? = some o2 ∧ (((((w.alloc o0).alloc o1).alloc o2).alloc o3).alloc o4).heap[w.heap.size + 1 + 1 + 1]? = some o3 ∧ (((((w.alloc o0).alloc o1).alloc o2).alloc o3).alloc o4).heap[w.heap.size + 1 + 1 + 1 + 1]? = some o4 ∧ Below w.heap.size w (((((w.alloc o0).alloc o1).alloc o2).alloc o3).alloc o4) ∧ w.heap.size + 5 ≤ (((((w.alloc o0).alloc o1).alloc o2).alloc o3).alloc o4).heap.size := by
  have n1 := blk_new' (w.alloc o0) o1
  have n2 := blk_new' ((w.alloc o0).alloc o1) o2
  have n3 := blk_new' (((w.alloc o0).alloc o1).alloc o2) o3
  have n4 := blk_new' ((((w.alloc o0).alloc o1).alloc o2).alloc o3) o4
  simp only [World.size_alloc] at n1 n2 n3 n4
  exact ⟨(alloc_keeps (alloc_keeps (alloc_keeps (alloc_keeps (blk_new' w o0) _) _) _) _), (alloc_keeps (alloc_keeps (alloc_keeps n1 _) _) _), (alloc_keeps (alloc_keeps n2 _) _), (alloc_keeps n3 _), n4, (below_alloc (below_alloc (below_alloc (below_alloc (below_alloc (Below.refl _ _) _) _) _) _) _), by simp⟩
theorem boxes6 (w : World) (o0 o1 o2 o3 o4 o5 : Obj) : ((((((w.alloc o0).alloc o1).alloc o2).alloc o3).alloc o4).alloc o5).heap[w.heap.size]? = some o0 ∧ ((((((w.alloc o0).alloc o1).alloc o2).alloc o3).alloc o4).alloc o5).heap[w.heap.size + 1]? = some o1 ∧ ((((((w.alloc o0).alloc o1).alloc o2).alloc o3).alloc o4).alloc o5).heap[w.heap.size + 1 + 1]? = some o2 ∧ ((((((w.alloc o0).alloc o1).alloc o2).alloc o3).alloc o4).alloc o5).heap[w.heap.size + 1 + 1 + 1]? = some o3 ∧ ((((((w.alloc o0).alloc o1).alloc o2).alloc o3).alloc o4).alloc o5).heap[w.heap.size + 1 + 1 + 1 + 1]? = some o4 ∧ ((((((w.alloc o0).alloc o1).alloc o2).alloc o3).alloc o4).alloc o5).heap[w.heap.size + 1 + 1 + 1 + 1 + 1]? = some o5 ∧ Below w.heap.size w ((((((w.alloc o0).alloc o1).alloc o2).alloc o3).alloc o4).alloc o5) ∧ w.heap.size + 6 ≤ ((((((w.alloc o0).alloc o1).alloc o2).alloc o3).alloc o4).alloc o5).heap.size := by
  have n1 := blk_new' (w.alloc o0) o1
  have n2 := blk_new' ((w.alloc o0).alloc o1) o2
  have n3 := blk_new' (((w.alloc o0).alloc o1).alloc o2) o3
  have n4 := blk_new' ((((w.alloc o0).alloc o1).alloc o2).alloc o3) o4
  have n5 := blk_new' (((((w.alloc o0).alloc o1).alloc o2).alloc o3).alloc o4) o5
  simp only [World.size_alloc] at n1 n2 n3 n4 n5
  exact ⟨(alloc_keeps (alloc_keeps (alloc_keeps (alloc_keeps (alloc_keeps (blk_new' w o0) _) _) _) _) _), (alloc_keeps (alloc_keeps (alloc_keeps (alloc_keeps n1 _) _) _) _), (alloc_keeps (alloc_keeps (alloc_keeps n2 _) _) _), (alloc_keeps (alloc_keeps n3 _) _), (alloc_keeps n4 _), n5, (below_alloc (below_alloc (below_alloc (below_alloc (below_alloc (below_alloc (Below.refl _ _) _) _) _) _) _) _), by simp⟩
end Go.Proofs.Ytmglkelmdcpinaa.G
