/- Contracts and plain laws on the way to TwoGrows, part 2 of 4. Conditions: each theorem's own. Joined by a program (merge.py). -/
import Derived.Test.YtmglkelmdcpinaaG0
import Derived.RangeFuncNested
import Derived.RangeFuncBound
import Derived.RangeFuncCalls
import Derived.RangeFuncLeaves
import Derived.Shelf.RegionOpen
import Derived.OwnWalkIn
import Derived.TacticsInMore
import Derived.LoopNIn
import Derived.LoopIn
import Derived.Sort.QuietIn
import Derived.Stop.RegionWithIn
import Derived.Test.YtmglkelmdcpinaaJTwoGrows1
/- The contract of the function two_Pass (number 25 of the translation): what its call computes, as a plain Lean function; memory that was there stays as it was. Conditions: none beyond the theorem's own. Written by a program (gprint.py). -/
namespace Go.Proofs.Ytmglkelmdcpinaa.G
open Go.RowKit Go.Proofs.YtmglkelmdcpinaaW.PrintWords Go.Proofs.YtmglkelmdcpinaaW.PrintLast Go.Proofs.YtmglkelmdcpinaaW.PrintMore
attribute [local go_sem] max2_int min2_int max_two min_two max_three min_three max_four min_four   -- for this text's walks alone
set_option linter.unusedVariables false
set_option linter.unusedSimpArgs false

/-! ### two_Pass: function 25 -/
theorem flip_is (n : Int) : flip_Log.f 7 n = some (if n = 4 then (2, 0) else if n = 8 then (3, 0) else if n = 16 then (4, 0) else if n = 32 then (5, 0) else if n = 64 then (6, 0) else (0, 3)) := by
  have e2 : shl .i64 1 2 = 4 := by decide +kernel
  have e3 : shl .i64 1 3 = 8 := by decide +kernel
  have e4 : shl .i64 1 4 = 16 := by decide +kernel
  have e5 : shl .i64 1 5 = 32 := by decide +kernel
  have e6 : shl .i64 1 6 = 64 := by decide +kernel
  have w2 : wrap64 (2 + 1) = 3 := by decide +kernel
  have w3 : wrap64 (3 + 1) = 4 := by decide +kernel
  have w4 : wrap64 (4 + 1) = 5 := by decide +kernel
  have w5 : wrap64 (5 + 1) = 6 := by decide +kernel
  have w6 : wrap64 (6 + 1) = 7 := by decide +kernel
  simp only [flip_Log.f, flip_Log.l0, e2, e3, e4, e5, e6, w2, w3, w4, w5, w6, show ((2 : Int) ≤ 6) = True by simp, show ((3 : Int) ≤ 6) = True by simp, show ((4 : Int) ≤ 6) = True by simp, show ((5 : Int) ≤ 6) = True by simp, show ((6 : Int) ≤ 6) = True by simp, show ((7 : Int) ≤ 6) = False by simp,
    show ((0 : Int) ≤ 2) = True by simp, show ((0 : Int) ≤ 3) = True by simp, show ((0 : Int) ≤ 4) = True by simp, show ((0 : Int) ≤ 5) = True by simp, show ((0 : Int) ≤ 6) = True by simp, if_true, if_false]
  split
  · rfl
  · split
    · rfl
    · split
      · rfl
      · split
        · rfl
        · split <;> rfl
/-- A number's root, that may be conjugate. -/
def conjS (r : S43) : S43 := match cx_Conj.f r.f0 r.f1 with | some (a, b, _) => ⟨a, b⟩ | none => z43
def rootOf (w : List S43) (k : Int) (inv : Bool) : S43 := if inv = true then conjS (rd_T43 w k) else rd_T43 w k
theorem conj_some (r : S43) : ∃ e, cx_Conj.f r.f0 r.f1 = some ((conjS r).f0, (conjS r).f1, e) := by
  unfold conjS cx_Conj.f
  by_cases h : within 2305843009213693952 [{ f0 := r.f0, f1 := r.f1 }] = true
  · rw [if_pos h]; exact ⟨_, rfl⟩
  · rw [if_neg h]; exact ⟨_, rfl⟩
/-- A sum and a difference. -/
def pairT (a b r : S43) (bits s mode : Int) : S43 × S43 := match two_pair.f a.f0 a.f1 b.f0 b.f1 r.f0 r.f1 bits s mode with | some (u0, u1, d0, d1) => (⟨u0, u1⟩, ⟨d0, d1⟩) | none => (z43, z43)
theorem shift_total (x s m : Int) : ∃ p, round_Shift.f x s m = some p := by
  unfold round_Shift.f
  split
  · exact ⟨_, rfl⟩
  · split <;> exact ⟨_, rfl⟩
theorem cxshift_total (x y s m : Int) : ∃ p, cx_Shift.f x y s m = some p := by
  unfold cx_Shift.f
  obtain ⟨p, hp⟩ := shift_total x s m
  obtain ⟨q, hq⟩ := shift_total y s m
  rw [hp]
  simp only [Option.bind_some]
  split
  · rw [hq]; exact ⟨_, rfl⟩
  · exact ⟨_, rfl⟩
theorem pair_some (a b r : S43) (bits s mode : Int) (hb : 0 ≤ bits) : two_pair.f a.f0 a.f1 b.f0 b.f1 r.f0 r.f1 bits s mode = some ((pairT a b r bits s mode).1.f0, (pairT a b r bits s mode).1.f1, (pairT a b r bits s mode).2.f0, (pairT a b r bits s mode).2.f1) := by
  unfold pairT
  split
  · rename_i h; exact h
  · rename_i h
    exfalso
    unfold two_pair.f at h
    obtain ⟨t, ht⟩ : ∃ t, cx_Times.f b.f0 b.f1 r.f0 r.f1 = some t := by
      unfold cx_Times.f
      split <;> exact ⟨_, rfl⟩
    rw [ht] at h
    simp only [Option.bind_some] at h
    rw [if_pos hb] at h
    obtain ⟨u, hu⟩ := cxshift_total (wrap64 ((shl .i64 a.f0 bits) + t.1)) (wrap64 ((shl .i64 a.f1 bits) + t.2.1)) (wrap64 (bits + s)) mode
    obtain ⟨v, hv⟩ := cxshift_total (wrap64 ((shl .i64 a.f0 bits) - t.1)) (wrap64 ((shl .i64 a.f1 bits) - t.2.1)) (wrap64 (bits + s)) mode
    rw [hu, Option.bind_some, hv] at h
    cases h
def two_Pass.step (x w : List S43) (h bits s mode : Int) (inv : Bool) (out : List S43) (p : Int × Int) : List S43 :=
  (out.set p.1.toNat (pairT (rd_T43 x p.1) (rd_T43 x (p.1 + h)) (rootOf w p.2 inv) bits s mode).1).set (p.1 + h).toNat (pairT (rd_T43 x p.1) (rd_T43 x (p.1 + h)) (rootOf w p.2 inv) bits s mode).2
def two_Pass.out (l0 l1 : List S43) (h bits s mode : Int) (inv : Bool) : List S43 := (pairsList l0.length h).foldl (two_Pass.step l0 l1 h bits s mode inv) l0
def two_Pass.f (l0 l1 : List S43) (a2 a3 a4 a5 : Int) (a6 : Bool) : Option (List S43 × Int) :=
  if ¬ (l0.length = 4 ∨ l0.length = 8 ∨ l0.length = 16 ∨ l0.length = 32 ∨ l0.length = 64) then some ([], 3)
  else if l1.length ≠ l0.length then some ([], 5)
  else if a2 < 1 then some ([], 1)
  else if (l0.length : Int) ≤ a2 then some ([], 1)
  else if bits BinOp.and IntKind.i64 a2 (a2 - 1) ≠ 0 then some ([], 1)
  else (two_settings.f a3 a4 a5).bind fun ok =>
    if ok = false then some ([], 1)
    else if l0.any farB = true then some ([], 2)
    else if l1.any (greatB a3.toNat) = true then some ([], 2)
    else some (two_Pass.out l0 l1 a2 a3 a4 a5 a6, 0)
def pairOk (n h : Int) (p : Int × Int) : Prop := 0 ≤ p.1 ∧ p.1 < n ∧ p.1 + h < n ∧ 0 ≤ p.2 ∧ p.2 < n
instance (n h : Int) (p : Int × Int) : Decidable (pairOk n h p) := by unfold pairOk; exact inferInstance
theorem pairs_ok_all : ([4, 8, 16, 32, 64].all fun (n : Int) => [1, 2, 4, 8, 16, 32].all fun (h : Int) => if h < n then (pairsList n h).all fun p => decide (pairOk n h p) else true) = true := by decide +kernel
theorem half_all : ((List.range 64).all fun (h : Nat) => if 1 ≤ h ∧ bits BinOp.and IntKind.i64 (h : Int) ((h : Int) - 1) = 0 then decide ((h : Int) ∈ [(1 : Int), 2, 4, 8, 16, 32]) else true) = true := by decide +kernel
theorem pairs_ok (n h : Int) (hn : n = 4 ∨ n = 8 ∨ n = 16 ∨ n = 32 ∨ n = 64) (h1 : 1 ≤ h) (h2 : h < n) (h3 : bits BinOp.and IntKind.i64 h (h - 1) = 0) : ∀ p ∈ pairsList n h, pairOk n h p := by
  have hm : h ∈ [(1 : Int), 2, 4, 8, 16, 32] := by
    have := half_all
    rw [List.all_eq_true] at this
    have t := this h.toNat (List.mem_range.2 (by omega))
    rw [show ((h.toNat : Nat) : Int) = h by omega, if_pos ⟨by omega, h3⟩] at t
    simpa using t
  have := pairs_ok_all
  rw [List.all_eq_true] at this
  have t := this n (by rcases hn with rfl | rfl | rfl | rfl | rfl <;> simp)
  rw [List.all_eq_true] at t
  have t2 := t h hm
  rw [if_pos h2, List.all_eq_true] at t2
  intro p hp
  simpa using t2 p hp
set_option maxHeartbeats 4000000 in
set_option maxRecDepth 100000 in
theorem two_Pass.size (A0 : Option Addr) (c0 : Nat) (l0 : List S43) (A1 : Option Addr) (c1 : Nat) (l1 : List S43) (a2 a3 a4 a5 : Int) (a6 : Bool) (w : World)
    (h : ¬ (l0.length = 4 ∨ l0.length = 8 ∨ l0.length = 16 ∨ l0.length = 32 ∨ l0.length = 64)) :
    Calls Try.prog 25 #[.slice A0 l0.length c0, .slice A1 l1.length c1, .int .i64 a2, .int .i64 a3, .int .i64 a4, .int .i64 a5, .bool a6] w fun e w' => e = .returned (.tuple #[.slice none 0 0, .int .i64 3]) ∧ Below w.heap.size w w' := by
  have HF : Aside0 (flip_Log.f 7 (l0.length : Int) = some (0, 3)) := ⟨by rw [flip_is]; repeat (rw [if_neg (by omega)])⟩
  clear h
  go_enter Try.func25, Try.ntmps25
  go_wp2_with (fail)
  refine (flip_Log.calls 7 _ _ _ _ HF.out).mono ?_
  rintro e w1 ⟨rfl, m, rfl⟩
  go_wp2_with (fail)
  go_ret2
  exact ⟨rfl, pw_below_drewN (by repeat (first | exact Below.refl _ _ | apply below_alloc)) _⟩
theorem flip_ok (n : Nat) (h : n = 4 ∨ n = 8 ∨ n = 16 ∨ n = 32 ∨ n = 64) : ∃ k, flip_Log.f 7 (n : Int) = some (k, 0) := by
  rw [flip_is]
  rcases h with rfl | rfl | rfl | rfl | rfl
  · exact ⟨2, rfl⟩
  · exact ⟨3, rfl⟩
  · exact ⟨4, rfl⟩
  · exact ⟨5, rfl⟩
  · exact ⟨6, rfl⟩
set_option maxHeartbeats 4000000 in
set_option maxRecDepth 100000 in
theorem two_Pass.table (A0 : Option Addr) (c0 : Nat) (l0 : List S43) (A1 : Option Addr) (c1 : Nat) (l1 : List S43) (a2 a3 a4 a5 : Int) (a6 : Bool) (w : World)
    (h : l0.length = 4 ∨ l0.length = 8 ∨ l0.length = 16 ∨ l0.length = 32 ∨ l0.length = 64) (h1 : l1.length ≠ l0.length) :
    Calls Try.prog 25 #[.slice A0 l0.length c0, .slice A1 l1.length c1, .int .i64 a2, .int .i64 a3, .int .i64 a4, .int .i64 a5, .bool a6] w fun e w' => e = .returned (.tuple #[.slice none 0 0, .int .i64 5]) ∧ Below w.heap.size w w' := by
  obtain ⟨lg, hF⟩ := flip_ok l0.length h
  have HF := Aside0.mk hF
  clear hF
  have q1 : (l1.length == l0.length) = false := by simpa using h1
  have q2 : (l1.length != l0.length) = true := by simpa using h1
  clear h h1
  go_enter Try.func25, Try.ntmps25
  go_wp2_with (fail)
  refine (flip_Log.calls 7 _ _ _ _ HF.out).mono ?_
  rintro e w1 ⟨rfl, m, rfl⟩
  go_wp2_with (fail)
  go_ret2
  exact ⟨rfl, pw_below_drewN (by repeat (first | exact Below.refl _ _ | apply below_alloc)) _⟩
set_option maxHeartbeats 4000000 in
set_option maxRecDepth 100000 in
theorem two_Pass.less (A0 : Option Addr) (c0 : Nat) (l0 : List S43) (A1 : Option Addr) (c1 : Nat) (l1 : List S43) (a2 a3 a4 a5 : Int) (a6 : Bool) (w : World)
    (h : l0.length = 4 ∨ l0.length = 8 ∨ l0.length = 16 ∨ l0.length = 32 ∨ l0.length = 64) (h1 : l1.length = l0.length) (h2 : a2 < 1) :
    Calls Try.prog 25 #[.slice A0 l0.length c0, .slice A1 l1.length c1, .int .i64 a2, .int .i64 a3, .int .i64 a4, .int .i64 a5, .bool a6] w fun e w' => e = .returned (.tuple #[.slice none 0 0, .int .i64 1]) ∧ Below w.heap.size w w' := by
  obtain ⟨lg, hF⟩ := flip_ok l0.length h
  have HF := Aside0.mk hF
  clear hF
  have q1 : (l1.length == l0.length) = true := by simpa using h1
  have q2 : (l1.length != l0.length) = false := by simpa using h1
  have q3 : decide (a2 < 1) = true := by simpa using h2
  clear h h2
  clear h1
  go_enter Try.func25, Try.ntmps25
  go_wp2_with (fail)
  refine (flip_Log.calls 7 _ _ _ _ HF.out).mono ?_
  rintro e w1 ⟨rfl, m, rfl⟩
  go_wp2_with (fail)
  go_ret2
  exact ⟨rfl, pw_below_drewN (by repeat (first | exact Below.refl _ _ | apply below_alloc)) _⟩
set_option maxHeartbeats 4000000 in
set_option maxRecDepth 100000 in
theorem two_Pass.great (A0 : Option Addr) (c0 : Nat) (l0 : List S43) (A1 : Option Addr) (c1 : Nat) (l1 : List S43) (a2 a3 a4 a5 : Int) (a6 : Bool) (w : World)
    (h : l0.length = 4 ∨ l0.length = 8 ∨ l0.length = 16 ∨ l0.length = 32 ∨ l0.length = 64) (h1 : l1.length = l0.length) (h2 : 1 ≤ a2) (h3 : (l0.length : Int) ≤ a2) :
    Calls Try.prog 25 #[.slice A0 l0.length c0, .slice A1 l1.length c1, .int .i64 a2, .int .i64 a3, .int .i64 a4, .int .i64 a5, .bool a6] w fun e w' => e = .returned (.tuple #[.slice none 0 0, .int .i64 1]) ∧ Below w.heap.size w w' := by
  obtain ⟨lg, hF⟩ := flip_ok l0.length h
  have HF := Aside0.mk hF
  clear hF
  have q1 : (l1.length == l0.length) = true := by simpa using h1
  have q2 : (l1.length != l0.length) = false := by simpa using h1
  have q3 : decide (a2 < 1) = false := by simp; omega
  have q4 : decide ((l0.length : Int) ≤ a2) = true := by simpa using h3
  clear h h3
  clear h1
  go_enter Try.func25, Try.ntmps25
  go_wp2_with (fail)
  refine (flip_Log.calls 7 _ _ _ _ HF.out).mono ?_
  rintro e w1 ⟨rfl, m, rfl⟩
  go_wp2_with (fail)
  go_ret2
  exact ⟨rfl, pw_below_drewN (by repeat (first | exact Below.refl _ _ | apply below_alloc)) _⟩
set_option maxHeartbeats 4000000 in
set_option maxRecDepth 100000 in
theorem two_Pass.half (A0 : Option Addr) (c0 : Nat) (l0 : List S43) (A1 : Option Addr) (c1 : Nat) (l1 : List S43) (a2 a3 a4 a5 : Int) (a6 : Bool) (w : World)
    (h : l0.length = 4 ∨ l0.length = 8 ∨ l0.length = 16 ∨ l0.length = 32 ∨ l0.length = 64) (h1 : l1.length = l0.length) (h2 : 1 ≤ a2) (h3 : a2 < (l0.length : Int)) (h4 : bits BinOp.and IntKind.i64 a2 (a2 - 1) ≠ 0) :
    Calls Try.prog 25 #[.slice A0 l0.length c0, .slice A1 l1.length c1, .int .i64 a2, .int .i64 a3, .int .i64 a4, .int .i64 a5, .bool a6] w fun e w' => e = .returned (.tuple #[.slice none 0 0, .int .i64 1]) ∧ Below w.heap.size w w' := by
  obtain ⟨lg, hF⟩ := flip_ok l0.length h
  have HF := Aside0.mk hF
  clear hF
  have q1 : (l1.length == l0.length) = true := by simpa using h1
  have q2 : (l1.length != l0.length) = false := by simpa using h1
  have q3 : decide (a2 < 1) = false := by simp; omega
  have q4 : decide ((l0.length : Int) ≤ a2) = false := by simp; omega
  have q5 : (bits BinOp.and IntKind.i64 a2 (a2 - 1) == 0) = false := by simpa using h4
  have q6 : (bits BinOp.and IntKind.i64 a2 (a2 - 1) != 0) = true := by simpa using h4
  have h5 : a2 < 64 := by omega
  clear h h3 h4
  clear h1
  go_enter Try.func25, Try.ntmps25
  go_wp2_with (fail)
  refine (flip_Log.calls 7 _ _ _ _ HF.out).mono ?_
  rintro e w1 ⟨rfl, m, rfl⟩
  go_wp2_with (fail)
  go_ret2
  exact ⟨rfl, pw_below_drewN (by repeat (first | exact Below.refl _ _ | apply below_alloc)) _⟩
theorem two_boxes (w : World) (o0 o1 o2 o3 o4 o5 o6 : Obj) (m : Nat) {w1 : World} (hb : Below ((((((((w.alloc o0).alloc o1).alloc o2).alloc o3).alloc o4).alloc o5).alloc o6).drewN m).heap.size ((((((((w.alloc o0).alloc o1).alloc o2).alloc o3).alloc o4).alloc o5).alloc o6).drewN m) w1) :
    w1.heap[w.heap.size]? = some o0 ∧ w1.heap[w.heap.size + 1]? = some o1 ∧ w1.heap[w.heap.size + 1 + 1]? = some o2 ∧ w1.heap[w.heap.size + 1 + 1 + 1]? = some o3 ∧ w1.heap[w.heap.size + 1 + 1 + 1 + 1]? = some o4 ∧ w1.heap[w.heap.size + 1 + 1 + 1 + 1 + 1]? = some o5 ∧ w1.heap[w.heap.size + 1 + 1 + 1 + 1 + 1 + 1]? = some o6 ∧ Below w.heap.size w w1 ∧ w.heap.size + 7 ≤ w1.heap.size := by
  have hz : ((((((((w.alloc o0).alloc o1).alloc o2).alloc o3).alloc o4).alloc o5).alloc o6).drewN m).heap.size = w.heap.size + 7 := by simp [World.drewN]
  have key : ∀ i o, i < w.heap.size + 7 → (((((((w.alloc o0).alloc o1).alloc o2).alloc o3).alloc o4).alloc o5).alloc o6).heap[i]? = some o → w1.heap[i]? = some o := fun i o hi h => (hb.block i (by rw [hz]; exact hi)).trans h
  have n1 := blk_new' (w.alloc o0) o1
  have n2 := blk_new' ((w.alloc o0).alloc o1) o2
  have n3 := blk_new' (((w.alloc o0).alloc o1).alloc o2) o3
  have n4 := blk_new' ((((w.alloc o0).alloc o1).alloc o2).alloc o3) o4
  have n5 := blk_new' (((((w.alloc o0).alloc o1).alloc o2).alloc o3).alloc o4) o5
  have n6 := blk_new' ((((((w.alloc o0).alloc o1).alloc o2).alloc o3).alloc o4).alloc o5) o6
  simp only [World.size_alloc] at n1 n2 n3 n4 n5 n6
  refine ⟨key _ _ (by omega) ?_, key _ _ (by omega) ?_, key _ _ (by omega) ?_, key _ _ (by omega) ?_, key _ _ (by omega) ?_, key _ _ (by omega) ?_, key _ _ (by omega) n6, ?_, by have := hb.size; omega⟩
  · exact (alloc_keeps (alloc_keeps (alloc_keeps (alloc_keeps (alloc_keeps (alloc_keeps (blk_new' w o0) _) _) _) _) _) _)
  · exact (alloc_keeps (alloc_keeps (alloc_keeps (alloc_keeps (alloc_keeps n1 _) _) _) _) _)
  · exact (alloc_keeps (alloc_keeps (alloc_keeps (alloc_keeps n2 _) _) _) _)
  · exact (alloc_keeps (alloc_keeps (alloc_keeps n3 _) _) _)
  · exact (alloc_keeps (alloc_keeps n4 _) _)
  · exact (alloc_keeps n5 _)
  · exact below_then (pw_below_drewN (below_alloc (below_alloc (below_alloc (below_alloc (below_alloc (below_alloc (below_alloc (Below.refl _ _) _) _) _) _) _) _) _) m) (by rw [hz]; omega) hb
set_option maxHeartbeats 4000000 in
set_option maxRecDepth 100000 in
theorem two_Pass.sets (A0 : Option Addr) (c0 : Nat) (l0 : List S43) (A1 : Option Addr) (c1 : Nat) (l1 : List S43) (a2 a3 a4 a5 : Int) (a6 : Bool) (w : World)
    (h : l0.length = 4 ∨ l0.length = 8 ∨ l0.length = 16 ∨ l0.length = 32 ∨ l0.length = 64) (h1 : l1.length = l0.length) (h2 : 1 ≤ a2) (h3 : a2 < (l0.length : Int)) (h4 : bits BinOp.and IntKind.i64 a2 (a2 - 1) = 0) (h6 : two_settings.f a3 a4 a5 = some false) :
    Calls Try.prog 25 #[.slice A0 l0.length c0, .slice A1 l1.length c1, .int .i64 a2, .int .i64 a3, .int .i64 a4, .int .i64 a5, .bool a6] w fun e w' => e = .returned (.tuple #[.slice none 0 0, .int .i64 1]) ∧ Below w.heap.size w w' := by
  obtain ⟨lg, hF⟩ := flip_ok l0.length h
  have HF := Aside0.mk hF
  clear hF
  have HS := Aside0.mk h6
  clear h6
  have q1 : (l1.length == l0.length) = true := by simpa using h1
  have q2 : (l1.length != l0.length) = false := by simpa using h1
  have q3 : decide (a2 < 1) = false := by simp; omega
  have q4 : decide ((l0.length : Int) ≤ a2) = false := by simp; omega
  have q5 : (bits BinOp.and IntKind.i64 a2 (a2 - 1) == 0) = true := by simpa using h4
  have q6 : (bits BinOp.and IntKind.i64 a2 (a2 - 1) != 0) = false := by simpa using h4
  have h5 : a2 < 64 := by omega
  have HL1 := Aside0.mk h1
  have HL0 := Aside0.mk h
  clear h1 h h3 h4
  go_enter Try.func25, Try.ntmps25
  go_wp2_with (fail)
  refine (flip_Log.calls 7 _ _ _ _ HF.out).mono ?_
  rintro e w1 ⟨rfl, m, rfl⟩
  go_wp2_with (fail)
  refine (two_settings.calls a3 a4 a5 false _ HS.out).mono ?_
  rintro e w1 ⟨rfl, hb⟩
  obtain ⟨b0, b1, b2, b3, b4, b5, b6, hB, hz⟩ := two_boxes _ _ _ _ _ _ _ _ _ hb
  have HB := Aside0.mk hB
  clear b0 b1 b2 b3 b4 b5 b6 hB hz hb
  go_wp2_with (fail)
  go_ret2
  exact ⟨rfl, HB.out⟩
set_option maxHeartbeats 4000000 in
set_option maxRecDepth 100000 in
theorem two_Pass.far (A0 : Option Addr) (c0 : Nat) (l0 : List S43) (A1 : Option Addr) (c1 : Nat) (l1 : List S43) (a2 a3 a4 a5 : Int) (a6 : Bool) (w : World)
    (h : l0.length = 4 ∨ l0.length = 8 ∨ l0.length = 16 ∨ l0.length = 32 ∨ l0.length = 64) (h1 : l1.length = l0.length) (h2 : 1 ≤ a2) (h3 : a2 < (l0.length : Int)) (h4 : bits BinOp.and IntKind.i64 a2 (a2 - 1) = 0) (h6 : two_settings.f a3 a4 a5 = some true) (h7 : l0.any farB = true) (hr0 : Kd.C k43 w A0 l0.length l0) :
    Calls Try.prog 25 #[.slice A0 l0.length c0, .slice A1 l1.length c1, .int .i64 a2, .int .i64 a3, .int .i64 a4, .int .i64 a5, .bool a6] w fun e w' => e = .returned (.tuple #[.slice none 0 0, .int .i64 2]) ∧ Below w.heap.size w w' := by
  obtain ⟨lg, hF⟩ := flip_ok l0.length h
  have HF := Aside0.mk hF
  clear hF
  have HS := Aside0.mk h6
  have H7 := Aside0.mk h7
  have HR0 := Aside0.mk hr0
  clear h6 h7 hr0
  have q1 : (l1.length == l0.length) = true := by simpa using h1
  have q2 : (l1.length != l0.length) = false := by simpa using h1
  have q3 : decide (a2 < 1) = false := by simp; omega
  have q4 : decide ((l0.length : Int) ≤ a2) = false := by simp; omega
  have q5 : (bits BinOp.and IntKind.i64 a2 (a2 - 1) == 0) = true := by simpa using h4
  have q6 : (bits BinOp.and IntKind.i64 a2 (a2 - 1) != 0) = false := by simpa using h4
  have h5 : a2 < 64 := by omega
  have HL1 := Aside0.mk h1
  have HL0 := Aside0.mk h
  clear h1 h h3 h4
  go_enter Try.func25, Try.ntmps25
  go_wp2_with (fail)
  refine (flip_Log.calls 7 _ _ _ _ HF.out).mono ?_
  rintro e w1 ⟨rfl, m, rfl⟩
  go_wp2_with (fail)
  refine (two_settings.calls a3 a4 a5 true _ HS.out).mono ?_
  rintro e w1 ⟨rfl, hb⟩
  obtain ⟨b0, b1, b2, b3, b4, b5, b6, hB, hz⟩ := two_boxes _ _ _ _ _ _ _ _ _ hb
  have k0 : w1.cell? ⟨w.heap.size, 0, none⟩ = some (.slice A0 l0.length c0) := (blk_cell b0 0).trans rfl
  have HB := Aside0.mk hB
  clear b0 b1 b2 b3 b4 b5 b6 hB hz hb
  go_wp2_with (fail)
  refine (containsFuncC farB 76 #[] (enters_of Try.func76 (by kernel_rfl) rfl) A0 c0 l0 w1 (fun W x hW => (two_Pass1.calls x W).mono fun e w' ⟨h1, h2⟩ => ⟨h1, below_then hW hW.size h2⟩) (Kd.C_below HR0.out HB.out) (by have := HL0.out; omega)).mono ?_
  rintro e w2 ⟨rfl, hb2⟩
  have HB2 := Aside0.mk (below_then HB.out HB.out.size hb2)
  have q7 := H7.out
  clear H7 hb2 HB
  go_wp2_with (fail)
  go_ret2
  exact ⟨rfl, HB2.out⟩
theorem two_settings_in (a3 a4 a5 : Int) (h : two_settings.f a3 a4 a5 = some true) : 0 ≤ a3 ∧ a3 ≤ 29 ∧ 0 ≤ a4 ∧ a4 ≤ 3 ∧ 0 ≤ a5 ∧ a5 ≤ 2 := by
  unfold two_settings.f at h
  by_cases hm : a5 < 0 ∨ 3 ≤ a5
  · have e : round_Shift.f 0 0 a5 = some (0, 1) := by unfold round_Shift.f; rw [if_pos (by omega)]
    rw [e] at h
    simp only [Option.bind_some] at h
    exfalso
    revert h
    repeat' split
    all_goals simp
  · obtain ⟨p, hp⟩ := shift_total 0 0 a5
    rw [hp] at h
    simp only [Option.bind_some] at h
    by_cases c1 : a3 ≥ 0
    · rw [if_pos c1] at h
      by_cases c2 : a3 ≤ 29
      · rw [if_pos c2] at h
        by_cases c3 : a4 ≥ 0
        · rw [if_pos c3] at h
          by_cases c4 : a4 ≤ 3
          · omega
          · rw [if_neg c4] at h; simp at h
        · rw [if_neg c3] at h; simp at h
      · rw [if_neg c2] at h; simp at h
    · rw [if_neg c1] at h; simp at h
set_option maxHeartbeats 4000000 in
set_option maxRecDepth 100000 in
theorem two_Pass.wide (A0 : Option Addr) (c0 : Nat) (l0 : List S43) (A1 : Option Addr) (c1 : Nat) (l1 : List S43) (a2 a3 a4 a5 : Int) (a6 : Bool) (w : World)
    (h : l0.length = 4 ∨ l0.length = 8 ∨ l0.length = 16 ∨ l0.length = 32 ∨ l0.length = 64) (h1 : l1.length = l0.length) (h2 : 1 ≤ a2) (h3 : a2 < (l0.length : Int)) (h4 : bits BinOp.and IntKind.i64 a2 (a2 - 1) = 0) (h6 : two_settings.f a3 a4 a5 = some true) (h7 : l0.any farB = false) (h8 : l1.any (greatB a3.toNat) = true) (hr0 : Kd.C k43 w A0 l0.length l0) (hr1 : Kd.C k43 w A1 l1.length l1) :
    Calls Try.prog 25 #[.slice A0 l0.length c0, .slice A1 l1.length c1, .int .i64 a2, .int .i64 a3, .int .i64 a4, .int .i64 a5, .bool a6] w fun e w' => e = .returned (.tuple #[.slice none 0 0, .int .i64 2]) ∧ Below w.heap.size w w' := by
  obtain ⟨lg, hF⟩ := flip_ok l0.length h
  have HF := Aside0.mk hF
  clear hF
  obtain ⟨s0, s1, _⟩ := two_settings_in a3 a4 a5 h6
  obtain ⟨b, rfl⟩ : ∃ b : Nat, a3 = b := ⟨a3.toNat, by omega⟩
  rw [Int.toNat_natCast] at h8
  have HS := Aside0.mk h6
  have H7 := Aside0.mk h7
  have H8 := Aside0.mk h8
  have HR0 := Aside0.mk hr0
  have HR1 := Aside0.mk hr1
  have hb29 : b ≤ 29 := by omega
  clear h6 h7 h8 hr0 hr1
  have q1 : (l1.length == l0.length) = true := by simpa using h1
  have q2 : (l1.length != l0.length) = false := by simpa using h1
  have q3 : decide (a2 < 1) = false := by simp; omega
  have q4 : decide ((l0.length : Int) ≤ a2) = false := by simp; omega
  have q5 : (bits BinOp.and IntKind.i64 a2 (a2 - 1) == 0) = true := by simpa using h4
  have q6 : (bits BinOp.and IntKind.i64 a2 (a2 - 1) != 0) = false := by simpa using h4
  have h5 : a2 < 64 := by omega
  have HL1 := Aside0.mk h1
  have HL0 := Aside0.mk h
  clear h1 h h3 h4
  go_enter Try.func25, Try.ntmps25
  go_wp2_with (fail)
  refine (flip_Log.calls 7 _ _ _ _ HF.out).mono ?_
  rintro e w1 ⟨rfl, m, rfl⟩
  go_wp2_with (fail)
  refine (two_settings.calls _ a4 a5 true _ HS.out).mono ?_
  rintro e w1 ⟨rfl, hb⟩
  obtain ⟨b0, b1, b2, b3, b4, b5, b6, hB, hz⟩ := two_boxes _ _ _ _ _ _ _ _ _ hb
  have k0 : w1.cell? ⟨w.heap.size, 0, none⟩ = some (.slice A0 l0.length c0) := (blk_cell b0 0).trans rfl
  have HB := Aside0.mk hB
  have B1 := Aside0.mk b1
  have B3 := Aside0.mk b3
  clear b0 b1 b2 b3 b4 b5 b6 hB hz hb
  go_wp2_with (fail)
  refine (containsFuncC farB 76 #[] (enters_of Try.func76 (by kernel_rfl) rfl) A0 c0 l0 w1 (fun W x hW => (two_Pass1.calls x W).mono fun e w' ⟨h1, h2⟩ => ⟨h1, below_then hW hW.size h2⟩) (Kd.C_below HR0.out HB.out) (by have := HL0.out; omega)).mono ?_
  rintro e w2 ⟨rfl, hb2⟩
  have HB2 := Aside0.mk (below_then HB.out HB.out.size hb2)
  have C1 := Aside0.mk (blk_below B1.out hb2)
  have C3 := Aside0.mk (blk_below B3.out hb2)
  have q7 := H7.out
  have k1 : w2.cell? ⟨w.heap.size + 1, 0, none⟩ = some (.slice A1 l1.length c1) := (blk_cell C1.out 0).trans rfl
  clear H7 hb2 HB k0 B1 B3
  go_wp2_with (fail)
  refine (containsFuncC (greatB b) 78 #[.pointer (some ⟨w.heap.size + 1 + 1 + 1, 0, none⟩)] (enters_of Try.func78 (by kernel_rfl) rfl) A1 c1 l1 w2 (fun W x hW => (two_Pass2.calls _ b hb29 x W ((blk_cell (blk_below C3.out hW) 0).trans rfl)).mono fun e w' ⟨h1, h2⟩ => ⟨h1, below_then hW hW.size h2⟩) (Kd.C_below HR1.out HB2.out) (by have := HL0.out; have := HL1.out; omega)).mono ?_
  rintro e w3 ⟨rfl, hb3⟩
  have HB3 := Aside0.mk (below_then HB2.out HB2.out.size hb3)
  have q8 := H8.out
  clear H8 hb3 HB2
  go_wp2_with (fail)
  go_ret2
  exact ⟨rfl, HB3.out⟩
theorem pair_cells (L : List Value) (j : Nat) (a b : Value) (h0 : L[j * 2]? = some a) (h1 : L[j * 2 + 1]? = some b) : (L.drop (j * 2)).take 2 = [a, b] := by
  apply List.ext_getElem?
  intro i
  rw [List.getElem?_take]
  match i with
  | 0 => simpa using h0
  | 1 => simpa using h1
  | i + 2 => simp; omega
theorem pair_cells' (L : List Value) (j : Nat) (a b : Value) (h : (L.drop (j * 2)).take 2 = [a, b]) : L[j * 2]? = some a ∧ L[j * 2 + 1]? = some b := by
  have e0 : ((L.drop (j * 2)).take 2)[0]? = some a := by rw [h]; rfl
  have e1 : ((L.drop (j * 2)).take 2)[1]? = some b := by rw [h]; rfl
  rw [List.getElem?_take, List.getElem?_drop] at e0 e1
  exact ⟨by simpa using e0, by simpa using e1⟩
/-- A number stored into a row of the call's own. -/
theorem R43_set {W : World} {base G n cap : Nat} {xs : List S43} (h : Kd.R k43 43 W base (fun _ => True) (.slice (some ⟨G, 0, none⟩) n cap) xs) (hn : n = xs.length) (i : Nat) (y : S43) :
    Kd.R k43 43 ((W.setCell ⟨G, i * 2, none⟩ (.int .i64 y.f0)).setCell ⟨G, i * 2 + 1, none⟩ (.int .i64 y.f1)) base (fun _ => True) (.slice (some ⟨G, 0, none⟩) n cap) (xs.set i y) ∧
    W.grownBy ((W.setCell ⟨G, i * 2, none⟩ (.int .i64 y.f0)).setCell ⟨G, i * 2 + 1, none⟩ (.int .i64 y.f1)) (some G) := by
  subst hn
  obtain ⟨_, inner, ho, hl, hr⟩ := h
  have s1 := World.ownsRow.stored ho (i * 2) (.int .i64 y.f0)
  have s2 := World.ownsRow.stored s1.1 (i * 2 + 1) (.int .i64 y.f1)
  refine ⟨⟨fun _ _ => trivial, (inner.set (i * 2) (.int .i64 y.f0)).set (i * 2 + 1) (.int .i64 y.f1), by rw [List.length_set]; exact s2.1, by simpa using hl, ?_⟩, s1.2.trans s2.2⟩
  intro j p hj
  by_cases e : i = j
  · subst e
    have hlt : i < xs.length := by
      have := (List.getElem?_eq_some_iff.1 hj).1
      simpa using this
    rw [List.getElem?_set_self hlt] at hj
    cases hj
    show k43.M _ _ _ y (List.take 2 (List.drop (i * 2) _))
    rw [pair_cells _ i (.int .i64 y.f0) (.int .i64 y.f1) (by rw [List.getElem?_set_ne (by omega), List.getElem?_set_self (by change inner.length = xs.length * 2 at hl; omega)]) (by rw [List.getElem?_set_self (by change inner.length = xs.length * 2 at hl; simp; omega)])]
    exact k43_mkM _ _ _ _
  · rw [List.getElem?_set_ne e] at hj
    have h2 := hr j p hj
    have h3 := k43_openM h2
    obtain ⟨e0, e1⟩ := pair_cells' inner j _ _ h3
    have h4 := pair_cells ((inner.set (i * 2) (.int .i64 y.f0)).set (i * 2 + 1) (.int .i64 y.f1)) j _ _ (by rw [List.getElem?_set_ne (by omega), List.getElem?_set_ne (by omega)]; exact e0) (by rw [List.getElem?_set_ne (by omega), List.getElem?_set_ne (by omega)]; exact e1)
    show k43.M _ _ _ p (List.take 2 (List.drop (j * 2) _))
    rw [h4]
    exact k43_mkM _ _ _ _
/-- Its cells are there, and may be written. -/
theorem R43_cell {W : World} {base G n cap : Nat} {ok : Nat → Prop} {xs : List S43} (h : Kd.R k43 43 W base ok (.slice (some ⟨G, 0, none⟩) n cap) xs) (hn : n = xs.length) (i : Nat) (hi : i < n) :
    W.cell? ⟨G, i * 2, none⟩ = some (.int .i64 (rd_T43 xs i).f0) ∧ W.cell? ⟨G, i * 2 + 1, none⟩ = some (.int .i64 (rd_T43 xs i).f1) ∧ W.frozen? ⟨G, i * 2, none⟩ = false ∧ W.frozen? ⟨G, i * 2 + 1, none⟩ = false := by
  subst hn
  obtain ⟨_, inner, ho, hl, hr⟩ := h
  have h2 := hr i (rd_T43 xs i) (by simp [rd_T43, List.getD_eq_getElem?_getD, hi])
  obtain ⟨e0, e1⟩ := pair_cells' inner i _ _ (k43_openM h2)
  have hs : k43.sz = 2 := rfl
  refine ⟨?_, ?_, World.ownsRow.frozenAt ho _, World.ownsRow.frozenAt ho _⟩
  · rw [World.ownsRow.cellAt ho _ (by rw [hs]; omega)]; exact e0
  · rw [World.ownsRow.cellAt ho _ (by rw [hs]; omega)]; exact e1
theorem grown_two {A B C : World} {G : Nat} (h : A.grownBy B (some G)) (k : B.grownBy C (some G)) : A.grownBy C (some G) := h.trans k
theorem own_pass {W5 : World} {G base cap n : Nat} (hG : G < W5.heap.size) {β : Type} (F : β → List S43) :
    OwnFrom W5.heap.size (fun (pre : β) W => W5.grownBy W (some G) ∧ Kd.R k43 43 W base (fun _ => True) (.slice (some ⟨G, 0, none⟩) n cap) (F pre)) := by
  intro s A B row hs hg hr
  refine ⟨?_, ?_⟩
  · refine ⟨hg.os.trans hs.1.os, hg.tape.trans hs.1.tape, hg.output.trans hs.1.output, Nat.le_trans hs.1.size hg.size, fun i hi hne => ?_⟩
    refine (hg.block i (Nat.lt_of_lt_of_le hi hs.1.size) ?_).trans (hs.1.block i hi hne)
    intro e
    have := (hr i e.symm).1
    omega
  · obtain ⟨h0, inner, ho, hrp⟩ := hs.2
    have hne : ∀ k, (Value.slice (some ⟨G, 0, none⟩) n cap).ownBlock = some k → B.heap[k]? = A.heap[k]? := by
      intro k hk
      have hk' : G = k := by simpa [Value.ownBlock] using hk
      subst hk'
      refine hg.block G (Nat.lt_of_lt_of_le hG hs.1.size) ?_
      intro e
      have := (hr G e.symm).1
      omega
    exact ⟨h0, inner, own_move ho hne, hrp.imp_ (fun p c hp => by rw [k43_openM hp]; exact k43_mkM _ _ _ _)⟩
theorem two_fold_len (l0 l1 : List S43) (h b s m : Int) (inv : Bool) (ps : List (Int × Int)) : ∀ (out : List S43), (ps.foldl (two_Pass.step l0 l1 h b s m inv) out).length = out.length := by
  induction ps with
  | nil => intro out; rfl
  | cons p ps ih =>
    intro out
    rw [List.foldl_cons, ih]
    simp [two_Pass.step]
attribute [local go_sem] Oper.semAt_some
set_option maxHeartbeats 4000000 in
set_option maxRecDepth 100000 in
theorem two_Pass.main (A0 : Option Addr) (c0 : Nat) (l0 : List S43) (A1 : Option Addr) (c1 : Nat) (l1 : List S43) (a2 a3 a4 a5 : Int) (a6 : Bool) (w : World)
    (r : List S43)    (h : l0.length = 4 ∨ l0.length = 8 ∨ l0.length = 16 ∨ l0.length = 32 ∨ l0.length = 64) (h1 : l1.length = l0.length) (h2 : 1 ≤ a2) (h3 : a2 < (l0.length : Int)) (h4 : bits BinOp.and IntKind.i64 a2 (a2 - 1) = 0) (h6 : two_settings.f a3 a4 a5 = some true) (h7 : l0.any farB = false) (h8 : l1.any (greatB a3.toNat) = false) (hr0 : Kd.C k43 w A0 l0.length l0) (hr1 : Kd.C k43 w A1 l1.length l1) (hr : two_Pass.out l0 l1 a2 a3 a4 a5 a6 = r) :
    Calls Try.prog 25 #[.slice A0 l0.length c0, .slice A1 l1.length c1, .int .i64 a2, .int .i64 a3, .int .i64 a4, .int .i64 a5, .bool a6] w fun e w' => ∃ v0_ : Value, e = .returned (.tuple #[v0_, .int .i64 0]) ∧ Kd.R k43 43 w' w.heap.size (fun _ => True) v0_ r ∧ Below w.heap.size w w' := by
  obtain ⟨lg, hF⟩ := flip_ok l0.length h
  have HF := Aside0.mk hF
  clear hF
  obtain ⟨s0, s1, _⟩ := two_settings_in a3 a4 a5 h6
  have HOK := Aside0.mk (pairs_ok l0.length a2 (by omega) h2 h3 h4)
  obtain ⟨b, rfl⟩ : ∃ b : Nat, a3 = b := ⟨a3.toNat, by omega⟩
  rw [Int.toNat_natCast] at h8
  have HR := Aside0.mk hr
  have HS := Aside0.mk h6
  have H7 := Aside0.mk h7
  have H8 := Aside0.mk h8
  have HR0 := Aside0.mk hr0
  have HR1 := Aside0.mk hr1
  have hb29 : b ≤ 29 := by omega
  have hlt := Aside0.mk h3
  clear h6 h7 h8 hr0 hr1 hr
  have q1 : (l1.length == l0.length) = true := by simpa using h1
  have q2 : (l1.length != l0.length) = false := by simpa using h1
  have q3 : decide (a2 < 1) = false := by simp; omega
  have q4 : decide ((l0.length : Int) ≤ a2) = false := by simp; omega
  have q5 : (bits BinOp.and IntKind.i64 a2 (a2 - 1) == 0) = true := by simpa using h4
  have q6 : (bits BinOp.and IntKind.i64 a2 (a2 - 1) != 0) = false := by simpa using h4
  have h5 : a2 < 64 := by omega
  have HL1 := Aside0.mk h1
  have HL0 := Aside0.mk h
  clear h1 h h3 h4
  refine (callsIn_wide (n := 3)).1 ?_
  refine callsIn_of_wp_marks Try.func25 rfl trivial ?_ rfl
  simp only [Try.ntmps25, List.size_toArray, List.length_cons, List.length_nil, Nat.reduceAdd, Nat.reduceSub, Array.replicate_succ, Array.replicate_zero, List.push_toArray, List.append_toArray, List.nil_append, List.cons_append]
  gi_wp2_with (fail)
  refine ⟨trivial, (callsIn_wide.2 (flip_Log.calls 7 _ _ _ _ HF.out)).mono ?_⟩
  rintro e w1 ⟨rfl, m, rfl⟩
  gi_wp2_with (fail)
  refine ⟨trivial, (callsIn_wide.2 (two_settings.calls _ a4 a5 true _ HS.out)).mono ?_⟩
  rintro e w1 ⟨rfl, hb⟩
  obtain ⟨b0, b1, b2, b3, b4, b5, b6, hB, hz⟩ := two_boxes _ _ _ _ _ _ _ _ _ hb
  have k0 : w1.cell? ⟨w.heap.size, 0, none⟩ = some (.slice A0 l0.length c0) := (blk_cell b0 0).trans rfl
  have HB := Aside0.mk hB
  have B0 := Aside0.mk b0
  have B1 := Aside0.mk b1
  have B2 := Aside0.mk b2
  have B3 := Aside0.mk b3
  have B4 := Aside0.mk b4
  have B5 := Aside0.mk b5
  have B6 := Aside0.mk b6
  have HZ := Aside0.mk hz
  clear b0 b1 b2 b3 b4 b5 b6 hB hz hb
  gi_wp2_with (fail)
  refine ⟨trivial, (callsIn_wide.2 (containsFuncC farB 76 #[] (enters_of Try.func76 (by kernel_rfl) rfl) A0 c0 l0 w1 (fun W x hW => (two_Pass1.calls x W).mono fun e w' ⟨h1, h2⟩ => ⟨h1, below_then hW hW.size h2⟩) (Kd.C_below HR0.out HB.out) (by have := HL0.out; omega))).mono ?_⟩
  rintro e w2 ⟨rfl, hb2⟩
  have HB2 := Aside0.mk (below_then HB.out HB.out.size hb2)
  have C0 := Aside0.mk (blk_below B0.out hb2)
  have C1 := Aside0.mk (blk_below B1.out hb2)
  have C2 := Aside0.mk (blk_below B2.out hb2)
  have C3 := Aside0.mk (blk_below B3.out hb2)
  have C4 := Aside0.mk (blk_below B4.out hb2)
  have C5 := Aside0.mk (blk_below B5.out hb2)
  have C6 := Aside0.mk (blk_below B6.out hb2)
  have HZ2 : Aside0 (w.heap.size + 7 ≤ w2.heap.size) := ⟨Nat.le_trans HZ.out hb2.size⟩
  have q7 := H7.out
  have k1 : w2.cell? ⟨w.heap.size + 1, 0, none⟩ = some (.slice A1 l1.length c1) := (blk_cell C1.out 0).trans rfl
  clear H7 hb2 HB k0 B0 B1 B2 B3 B4 B5 B6 HZ
  gi_wp2_with (fail)
  refine ⟨trivial, (callsIn_wide.2 (containsFuncC (greatB b) 78 #[.pointer (some ⟨w.heap.size + 1 + 1 + 1, 0, none⟩)] (enters_of Try.func78 (by kernel_rfl) rfl) A1 c1 l1 w2 (fun W x hW => (two_Pass2.calls _ b hb29 x W ((blk_cell (blk_below C3.out hW) 0).trans rfl)).mono fun e w' ⟨h1, h2⟩ => ⟨h1, below_then hW hW.size h2⟩) (Kd.C_below HR1.out HB2.out) (by have := HL0.out; have := HL1.out; omega))).mono ?_⟩
  rintro e w3 ⟨rfl, hb3⟩
  have HB3 := Aside0.mk (below_then HB2.out HB2.out.size hb3)
  have B0 := Aside0.mk (blk_below C0.out hb3)
  have B1 := Aside0.mk (blk_below C1.out hb3)
  have B2 := Aside0.mk (blk_below C2.out hb3)
  have B3 := Aside0.mk (blk_below C3.out hb3)
  have B4 := Aside0.mk (blk_below C4.out hb3)
  have B5 := Aside0.mk (blk_below C5.out hb3)
  have B6 := Aside0.mk (blk_below C6.out hb3)
  have HZ3 : Aside0 (w.heap.size + 7 ≤ w3.heap.size) := ⟨Nat.le_trans HZ2.out hb3.size⟩
  have q8 := H8.out
  have k0 : w3.cell? ⟨w.heap.size, 0, none⟩ = some (.slice A0 l0.length c0) := (blk_cell B0.out 0).trans rfl
  clear H8 hb3 HB2 k1 C0 C1 C2 C3 C4 C5 C6 HZ2
  gi_wp2_with (fail)
  refine ⟨trivial, (callsIn_wide.2 (cloneC A0 c0 l0 w3 (by have := HL0.out; omega) (Kd.C_below HR0.out HB3.out) (by have := HL0.out; omega))).mono ?_⟩
  rintro e w4 ⟨v4, rfl, hK4, hb4⟩
  obtain ⟨G, cap, rfl, hGw, hGl⟩ : ∃ G cap, v4 = .slice (some ⟨G, 0, none⟩) l0.length cap ∧ w3.heap.size ≤ G ∧ G < w4.heap.size := by
    obtain ⟨inner, ho⟩ := Kd.R_own hK4
    have hlen := HL0.out
    rcases ho.2 with ⟨_, h0⟩ | ⟨g, cap, cur, rfl, hg, hh, _⟩
    · omega
    · exact ⟨g, cap, rfl, hg, (Array.getElem?_eq_some_iff.1 hh).1⟩
  have HK4 := Aside0.mk (Kd.R_lower hK4 (show w.heap.size ≤ w3.heap.size by have := HZ3.out; omega))
  have HB4 := Aside0.mk (below_then HB3.out HB3.out.size hb4)
  have HG := Aside0.mk (And.intro hGw hGl)
  have C0 := Aside0.mk (blk_below B0.out hb4)
  have C1 := Aside0.mk (blk_below B1.out hb4)
  have C2 := Aside0.mk (blk_below B2.out hb4)
  have C3 := Aside0.mk (blk_below B3.out hb4)
  have C4 := Aside0.mk (blk_below B4.out hb4)
  have C5 := Aside0.mk (blk_below B5.out hb4)
  have C6 := Aside0.mk (blk_below B6.out hb4)
  have HZ4 : Aside0 (w.heap.size + 7 ≤ w4.heap.size) := ⟨Nat.le_trans HZ3.out hb4.size⟩
  have k0 : w4.cell? ⟨w.heap.size, 0, none⟩ = some (.slice A0 l0.length c0) := (blk_cell C0.out 0).trans rfl
  have k2 : w4.cell? ⟨w.heap.size + 1 + 1, 0, none⟩ = some (.int .i64 a2) := (blk_cell C2.out 0).trans rfl
  have hz0 := World.block_lt_of_cell? w4 _ k0
  have hz2 := World.block_lt_of_cell? w4 _ k2
  clear hK4 hb4 hGw hGl B0 B1 B2 B3 B4 B5 B6 HB3
  gi_wp2_with (fail)
  refine ⟨trivial, (callsIn_wide.2 (two_pairs.calls _ _ _)).mono ?_⟩
  rintro e w5 ⟨rfl, hw5⟩
  have hN0 := blk_new' w4 (.cells #[.slice (some ⟨G, 0, none⟩) l0.length cap] 33)
  have hN1 := blk_new' (w4.alloc (.cells #[.slice (some ⟨G, 0, none⟩) l0.length cap] 33)) (.cells #[.int .i64 (l0.length : Int)] 3)
  have hN2 := blk_new' ((w4.alloc (.cells #[.slice (some ⟨G, 0, none⟩) l0.length cap] 33)).alloc (.cells #[.int .i64 (l0.length : Int)] 3)) (.cells #[.int .i64 a2] 3)
  simp only [World.size_alloc] at hN1 hN2
  have DA := Aside0.mk (alloc_keeps hN1 (.cells #[.int .i64 a2] 3))
  have DB := Aside0.mk hN2
  have DO := Aside0.mk (alloc_keeps (alloc_keeps hN0 (.cells #[.int .i64 (l0.length : Int)] 3)) (.cells #[.int .i64 a2] 3))
  have hb5 : Below w4.heap.size w4 (((w4.alloc (.cells #[.slice (some ⟨G, 0, none⟩) l0.length cap] 33)).alloc (.cells #[.int .i64 (l0.length : Int)] 3)).alloc (.cells #[.int .i64 a2] 3)) := below_alloc (below_alloc (below_alloc (Below.refl _ _) _) _) _
  have hs5 : (((w4.alloc (.cells #[.slice (some ⟨G, 0, none⟩) l0.length cap] 33)).alloc (.cells #[.int .i64 (l0.length : Int)] 3)).alloc (.cells #[.int .i64 a2] 3)).heap.size = w4.heap.size + 3 := by simp
  simp only [World.size_alloc] at hw5 ⊢
  rw [← hw5] at DA DB DO hb5 hs5
  have HS5 := Aside0.mk hs5
  have HB5 := Aside0.mk (below_then HB4.out HB4.out.size hb5)
  have HK5 := Aside0.mk (Kd.R_below HK4.out hb5)
  have B0 := Aside0.mk (blk_below C0.out hb5)
  have B1 := Aside0.mk (blk_below C1.out hb5)
  have B2 := Aside0.mk (blk_below C2.out hb5)
  have B3 := Aside0.mk (blk_below C3.out hb5)
  have B4 := Aside0.mk (blk_below C4.out hb5)
  have B5 := Aside0.mk (blk_below C5.out hb5)
  have B6 := Aside0.mk (blk_below C6.out hb5)
  clear hN0 hN1 hN2 hb5 hs5 HB4 HK4 C0 C1 C2 C3 C4 C5 C6 k0 k2 hz0 hz2 hw5
  gi_wp2_with (fail)
  refine' wpIn_rangeFunc_ownF rfl (by decide) (gf := 137) (lb := #[.pointer (some ⟨w4.heap.size + 1, 0, none⟩), .pointer (some ⟨w4.heap.size + 1 + 1, 0, none⟩)]) rfl trivial (enters_of Try.func137 (by kernel_rfl) rfl)
    (two_pairs1.stops 2 (by decide) (l0.length : Int) a2 (pairOk l0.length a2) HOK.out (by omega) (by have := HL0.out; omega) h2 (by omega) (w4.heap.size + 1) (w4.heap.size + 1 + 1) w5 DA.out DB.out)
    (fun h k => keepP_t h k) (fun W l o o' hl h ho hk => keepP_b (w := w5) W l o o' hl h ho hk) (Below.refl _ _) (fun _ => rfl)
    (fun pre W => w5.grownBy W (some G) ∧ Kd.R k43 43 W w.heap.size (fun _ => True) (.slice (some ⟨G, 0, none⟩) l0.length cap) ((pre.map Subtype.val).foldl (two_Pass.step l0 l1 a2 b a4 a5 a6) l0))
    (fun _ _ _ => False)
    (own_pass (by rw [HS5.out]; have := HG.out; omega) _)
    (fun _ _ _ _ _ hs _ _ => hs)
    ⟨World.grownBy.refl _ _, HK5.out⟩
    ?a1 ?assign ?body ?done ?stop
  case assign =>
    intro l x W K hK
    gi_wp2
    exact hK
  case body =>
    rintro l pre ⟨⟨i, k⟩, hi0, hin, hih, hk0, hkn⟩ W ⟨hg, hRW⟩ _
    obtain ⟨j, hj⟩ : ∃ j, i + a2 = j := ⟨_, rfl⟩
    have HJ := Aside0.mk hj
    dsimp only at hi0 hin hih hk0 hkn
    rw [hj] at hih
    have hj0 : 0 ≤ j := by omega
    have e1 : IntKind.i64.wrap (i + a2) = j := by rw [IntKind.wrap_i64]; have := HL0.out; omega
    clear hj
    have E0 := Aside0.mk (blk_grown B0.out hg (by intro h; cases h; have := HG.out; have := HZ3.out; omega))
    have E1 := Aside0.mk (blk_grown B1.out hg (by intro h; cases h; have := HG.out; have := HZ3.out; omega))
    have E2 := Aside0.mk (blk_grown B2.out hg (by intro h; cases h; have := HG.out; have := HZ3.out; omega))
    have E3 := Aside0.mk (blk_grown B3.out hg (by intro h; cases h; have := HG.out; have := HZ3.out; omega))
    have E4 := Aside0.mk (blk_grown B4.out hg (by intro h; cases h; have := HG.out; have := HZ3.out; omega))
    have E5 := Aside0.mk (blk_grown B5.out hg (by intro h; cases h; have := HG.out; have := HZ3.out; omega))
    have E6 := Aside0.mk (blk_grown B6.out hg (by intro h; cases h; have := HG.out; have := HZ3.out; omega))
    have EO := Aside0.mk (blk_grown DO.out hg (by intro h; cases h; have := HG.out; omega))
    have hGW : Aside0 (G < W.heap.size) := ⟨by have := hg.size; have := HG.out; have := HS5.out; omega⟩
    have hBW : Below w.heap.size w W := HB5.out.grown hg HB5.out.size (fun k e => by cases e; have := HG.out; have := HZ3.out; omega)
    have hCW := Kd.C_below HR0.out hBW
    have hDW := Kd.C_below HR1.out hBW
    have HLEN : Aside0 (((pre.map Subtype.val).foldl (two_Pass.step l0 l1 a2 b a4 a5 a6) l0).length = l0.length) := ⟨two_fold_len _ _ _ _ _ _ _ _ _⟩
    have nO : some w4.heap.size ≠ some G := by intro h; cases h; have := HG.out; omega
    have nH : some (w.heap.size + 1 + 1) ≠ some G := by intro h; cases h; have := HG.out; have := HZ3.out; omega
    have KEY : Aside0 (∀ X : World, Below W.heap.size W X → X.cell? ⟨w4.heap.size, 0, none⟩ = some (.slice (some ⟨G, 0, none⟩) l0.length cap) ∧ X.cell? ⟨w.heap.size + 1 + 1, 0, none⟩ = some (.int .i64 a2) ∧ Kd.R k43 43 X w.heap.size (fun _ => True) (.slice (some ⟨G, 0, none⟩) l0.length cap) ((pre.map Subtype.val).foldl (two_Pass.step l0 l1 a2 b a4 a5 a6) l0)) :=
      ⟨fun X hX => ⟨(blk_cell (blk_below EO.out hX) 0).trans rfl, (blk_cell (blk_below E2.out hX) 0).trans rfl, Kd.R_below hRW hX⟩⟩
    have HGW := Aside0.mk hg
    have HRW := Aside0.mk hRW
    have HGC : Aside0 (∃ cs, W.heap[G]? = some (.cells cs 43 (0, 0))) := ⟨by obtain ⟨inner, ho⟩ := Kd.R_own hRW; exact own_typed ho G (by simp [Value.ownBlock])⟩
    obtain ⟨ad1, hA1, z0, z1⟩ := at_T43 hDW k hk0 (by rw [HL1.out]; exact hkn)
    obtain ⟨ad0, hA0, p0, p1⟩ := at_T43 hCW i hi0 hin
    obtain ⟨ad0', hA0', s0, s1⟩ := at_T43 hCW j hj0 hih
    obtain rfl : ad0 = ad0' := by rw [hA0] at hA0'; exact Option.some.inj hA0'
    clear hA0'
    have P0 := Aside0.mk p0
    have P1 := Aside0.mk p1
    have S0 := Aside0.mk s0
    have S1 := Aside0.mk s1
    have k1 : W.cell? ⟨w.heap.size + 1, 0, none⟩ = some (.slice (some ad1) l1.length c1) := by rw [← hA1]; exact (blk_cell E1.out 0).trans rfl
    have k6 : W.cell? ⟨w.heap.size + 1 + 1 + 1 + 1 + 1 + 1, 0, none⟩ = some (.bool a6) := (blk_cell E6.out 0).trans rfl
    have l6 := World.block_lt_of_cell? W _ k6
    have L6 := Aside0.mk l6
    have HA0 := Aside0.mk hA0
    have hkn1 : k < (l1.length : Int) := by rw [HL1.out]; exact hkn
    have HZ0 := Aside0.mk z0
    clear hg hRW hBW hCW hDW p0 p1 s0 s1 hA0 hA1 DA DB
    cases a6 with
    | true =>
      have HP0 := pair_some (rd_T43 l0 i) (rd_T43 l0 j) (rootOf l1 k true) b a4 a5 (by omega)
      generalize hroot : rootOf l1 k true = rt at HP0
      have HROOT := Aside0.mk hroot
      obtain ⟨rt0, rt1⟩ := rt
      generalize hq : pairT (rd_T43 l0 i) (rd_T43 l0 j) ⟨rt0, rt1⟩ b a4 a5 = q at HP0
      have HQ := Aside0.mk hq
      obtain ⟨⟨u0, u1⟩, ⟨d0, d1⟩⟩ := q
      have HP := Aside0.mk HP0
      clear HP0 hq
      obtain ⟨ec, hcj⟩ := conj_some (rd_T43 l1 k)
      have hroot2 : conjS (rd_T43 l1 k) = ⟨rt0, rt1⟩ := by rw [← hroot]; rfl
      rw [hroot2] at hcj
      have HCJ := Aside0.mk hcj
      clear hroot hroot2 hcj
      gi_wp2_with (fail)
      refine ⟨trivial, (CallsIn.inRound l (callsIn_wide.2 (cx_Conj.calls _ _ rt0 rt1 ec _ HCJ.out))).mono ?_⟩
      rintro e w6 ⟨rfl, hb6⟩
      have hx := blk_below (blk_new W (.cells #[.int .i64 (rd_T43 l1 k).f0, .int .i64 (rd_T43 l1 k).f1] 43)) hb6
      have hWV1 := below_then (below_alloc (Below.refl W.heap.size W) (.cells #[.int .i64 (rd_T43 l1 k).f0, .int .i64 (rd_T43 l1 k).f1] 43)) (by simp) hb6
      have c0 := (blk_cell hx 0).trans rfl
      have c1' := (blk_cell hx 1).trans rfl
      have g0 := blk_frozen hx 0
      have g1 := blk_frozen hx 1
      have HX6 := Aside0.mk hx
      have HWV := Aside0.mk hWV1
      clear hb6 hx hWV1
      gi_wp2_with (fail)
      have hx := blk_put (blk_put HX6.out 0 (.int .i64 rt0) rfl) 1 (.int .i64 rt1) rfl
      have hWV : Aside0 (Below W.heap.size W ((w6.setCell ⟨W.heap.size, 0, none⟩ (.int .i64 rt0)).setCell ⟨W.heap.size, 1, none⟩ (.int .i64 rt1))) := ⟨below_set (below_set HWV.out (Nat.le_refl _)) (Nat.le_refl _)⟩
      clear HX6 HWV c0 c1' g0 g1
      generalize (w6.setCell ⟨W.heap.size, 0, none⟩ (.int .i64 rt0)).setCell ⟨W.heap.size, 1, none⟩ (.int .i64 rt1) = V at hx hWV ⊢
      have r0 : V.cell? ⟨W.heap.size, 0, none⟩ = some (.int .i64 rt0) := (blk_cell hx 0).trans rfl
      have r1 : V.cell? ⟨W.heap.size, 1, none⟩ = some (.int .i64 rt1) := (blk_cell hx 1).trans rfl
      have f7 : V.cell? ⟨w.heap.size, 0, none⟩ = some (.slice (some ad0) l0.length c0) := by rw [← HA0.out]; exact (blk_cell (blk_below E0.out hWV.out) 0).trans rfl
      have f9 : V.cell? ⟨w.heap.size + 1 + 1, 0, none⟩ = some (.int .i64 a2) := (blk_cell (blk_below E2.out hWV.out) 0).trans rfl
      have f10 : V.cell? ⟨w.heap.size + 1 + 1 + 1, 0, none⟩ = some (.int .i64 b) := (blk_cell (blk_below E3.out hWV.out) 0).trans rfl
      have f11 : V.cell? ⟨w.heap.size + 1 + 1 + 1 + 1, 0, none⟩ = some (.int .i64 a4) := (blk_cell (blk_below E4.out hWV.out) 0).trans rfl
      have f12 : V.cell? ⟨w.heap.size + 1 + 1 + 1 + 1 + 1, 0, none⟩ = some (.int .i64 a5) := (blk_cell (blk_below E5.out hWV.out) 0).trans rfl
      have x0 := (hWV.out.cell (World.block_lt_of_cell? _ _ P0.out)).trans P0.out
      have x1 := (hWV.out.cell (World.block_lt_of_cell? _ _ P1.out)).trans P1.out
      have y0 := (hWV.out.cell (World.block_lt_of_cell? _ _ S0.out)).trans S0.out
      have y1 := (hWV.out.cell (World.block_lt_of_cell? _ _ S1.out)).trans S1.out
      clear hx z0 z1 k1 k6 l6
      refine region_cut2 (R := ?R1) (A := ?A1) (F := fun U D X => X.heap[U]? = some (.cells #[.int .i64 u0, .int .i64 u1] 43 (0, 0)) ∧ X.heap[D]? = some (.cells #[.int .i64 d0, .int .i64 d1] 43 (0, 0)) ∧ Below V.heap.size V X ∧ V.heap.size ≤ U ∧ V.heap.size ≤ D) (fun hcut => ?walk1) ?tail1
      case walk1 =>
        refine wpIn_round_held (S := fun w' => Below V.heap.size V w') (by kernel_rfl) (by rintro ⟨_, _, h⟩; exact h) (by kernel_rfl) (below_drew1 (Below.refl _ _)) (fun hS => ?_)
        generalize V.drew = X at hS ⊢
        refine takeH (i := 0) (v := ?_) rfl rfl (by kernel_rfl) (by kernel_rfl) (by kernel_rfl) (fun _ _ _ h => h) hS (by rfl) ?_ ?_
        rotate_left
        · intro w' hSw
          have tf7 := (hSw.cell (World.block_lt_of_cell? _ _ f7)).trans f7
          go_simp
          try (with_reducible rfl)
        simp only [List.setIfInBounds_toArray, List.set_cons_zero, List.set_cons_succ]
        refine takeH (i := 1) (v := ?_) rfl rfl (by kernel_rfl) (by kernel_rfl) (by kernel_rfl) (fun _ _ _ h => h) hS (by rfl) ?_ ?_
        rotate_left
        · intro w' hSw
          go_simp
          try (with_reducible rfl)
        simp only [List.setIfInBounds_toArray, List.set_cons_zero, List.set_cons_succ]
        refine takeH (i := 2) (v := ?_) rfl rfl (by kernel_rfl) (by kernel_rfl) (by kernel_rfl) (fun _ _ _ h => h) hS (by rfl) ?_ ?_
        rotate_left
        · intro w' hSw
          go_simp
          try (with_reducible rfl)
        simp only [List.setIfInBounds_toArray, List.set_cons_zero, List.set_cons_succ]
        refine takeH (i := 3) (v := ?_) rfl rfl (by kernel_rfl) (by kernel_rfl) (by kernel_rfl) (fun _ _ _ h => h) hS (by rfl) ?_ ?_
        rotate_left
        · intro w' hSw
          have tx0 := (hSw.cell (World.block_lt_of_cell? _ _ x0)).trans x0
          have tx1 := (hSw.cell (World.block_lt_of_cell? _ _ x1)).trans x1
          go_simp
          try (with_reducible rfl)
        simp only [List.setIfInBounds_toArray, List.set_cons_zero, List.set_cons_succ]
        refine takeH (i := 4) (v := ?_) rfl rfl (by kernel_rfl) (by kernel_rfl) (by kernel_rfl) (fun _ _ _ h => h) hS (by rfl) ?_ ?_
        rotate_left
        · intro w' hSw
          have tf7 := (hSw.cell (World.block_lt_of_cell? _ _ f7)).trans f7
          go_simp
          try (with_reducible rfl)
        simp only [List.setIfInBounds_toArray, List.set_cons_zero, List.set_cons_succ]
        refine takeH (i := 5) (v := ?_) rfl rfl (by kernel_rfl) (by kernel_rfl) (by kernel_rfl) (fun _ _ _ h => h) hS (by rfl) ?_ ?_
        rotate_left
        · intro w' hSw
          go_simp
          try (with_reducible rfl)
        simp only [List.setIfInBounds_toArray, List.set_cons_zero, List.set_cons_succ]
        refine takeH (i := 6) (v := ?_) rfl rfl (by kernel_rfl) (by kernel_rfl) (by kernel_rfl) (fun _ _ _ h => h) hS (by rfl) ?_ ?_
        rotate_left
        · intro w' hSw
          have tf9 := (hSw.cell (World.block_lt_of_cell? _ _ f9)).trans f9
          go_simp
          try (with_reducible rfl)
        simp only [List.setIfInBounds_toArray, List.set_cons_zero, List.set_cons_succ]
        refine takeH (i := 7) (v := ?_) rfl rfl (by kernel_rfl) (by kernel_rfl) (by kernel_rfl) (fun _ _ _ h => h) hS (by rfl) ?_ ?_
        rotate_left
        · intro w' hSw
          go_simp
          try (with_reducible rfl)
        simp only [List.setIfInBounds_toArray, List.set_cons_zero, List.set_cons_succ]
        refine takeH (i := 8) (v := ?_) rfl rfl (by kernel_rfl) (by kernel_rfl) (by kernel_rfl) (fun _ _ _ h => h) hS (by rfl) ?_ ?_
        rotate_left
        · intro w' hSw
          go_simp
          try (with_reducible rfl)
        simp only [List.setIfInBounds_toArray, List.set_cons_zero, List.set_cons_succ]
        refine takeH (i := 9) (v := ?_) rfl rfl (by kernel_rfl) (by kernel_rfl) (by kernel_rfl) (fun _ _ _ h => h) hS (by rfl) ?_ ?_
        rotate_left
        · intro w' hSw
          have ty0 := (hSw.cell (World.block_lt_of_cell? _ _ y0)).trans y0
          have ty1 := (hSw.cell (World.block_lt_of_cell? _ _ y1)).trans y1
          go_simp
          try (with_reducible rfl)
        simp only [List.setIfInBounds_toArray, List.set_cons_zero, List.set_cons_succ]
        refine takeH (i := 10) (v := ?_) rfl rfl (by kernel_rfl) (by kernel_rfl) (by kernel_rfl) (fun _ _ _ h => h) hS (by rfl) ?_ ?_
        rotate_left
        · intro w' hSw
          have tr0 := (hSw.cell (World.block_lt_of_cell? _ _ r0)).trans r0
          have tr1 := (hSw.cell (World.block_lt_of_cell? _ _ r1)).trans r1
          go_simp
          try (with_reducible rfl)
        simp only [List.setIfInBounds_toArray, List.set_cons_zero, List.set_cons_succ]
        refine takeH (i := 11) (v := ?_) rfl rfl (by kernel_rfl) (by kernel_rfl) (by kernel_rfl) (fun _ _ _ h => h) hS (by rfl) ?_ ?_
        rotate_left
        · intro w' hSw
          have tf10 := (hSw.cell (World.block_lt_of_cell? _ _ f10)).trans f10
          go_simp
          try (with_reducible rfl)
        simp only [List.setIfInBounds_toArray, List.set_cons_zero, List.set_cons_succ]
        refine takeH (i := 12) (v := ?_) rfl rfl (by kernel_rfl) (by kernel_rfl) (by kernel_rfl) (fun _ _ _ h => h) hS (by rfl) ?_ ?_
        rotate_left
        · intro w' hSw
          have tf11 := (hSw.cell (World.block_lt_of_cell? _ _ f11)).trans f11
          go_simp
          try (with_reducible rfl)
        simp only [List.setIfInBounds_toArray, List.set_cons_zero, List.set_cons_succ]
        refine takeH (i := 13) (v := ?_) rfl rfl (by kernel_rfl) (by kernel_rfl) (by kernel_rfl) (fun _ _ _ h => h) hS (by rfl) ?_ ?_
        rotate_left
        · intro w' hSw
          have tf12 := (hSw.cell (World.block_lt_of_cell? _ _ f12)).trans f12
          go_simp
          try (with_reducible rfl)
        simp only [List.setIfInBounds_toArray, List.set_cons_zero, List.set_cons_succ]
        refine wpAnyH_ready (rs := [14, 18, 19]) (by kernel_rfl) (by simp) ?_
        refine AllReadyH.cons rfl (fun K hK => ?_) ?_
        · go_simp
          refine (two_pair.calls _ _ _ _ _ _ _ _ _ _ _ _ _ _ HP.out).mono ?_
          rintro e w' ⟨rfl, hb⟩
          refine hK.out _ _ (below_then hS hS.size hb) (fun hHeld => ?_)
          clear hK K hS hb
          have hS := hHeld
          clear hHeld
          try simp only [Act.put, List.setIfInBounds_toArray, List.set_cons_zero, List.set_cons_succ]
          generalize w' = X at  hS ⊢
          refine takeH (i := 15) (v := ?_) rfl rfl (by kernel_rfl) (by kernel_rfl) (by kernel_rfl) (fun _ _ _ h => h) hS (by rfl) ?_ ?_
          rotate_left
          · intro w' hSw
            go_simp
            try (with_reducible rfl)
          simp only [List.setIfInBounds_toArray, List.set_cons_zero, List.set_cons_succ]
          refine takeH (i := 16) (v := ?_) rfl rfl (by kernel_rfl) (by kernel_rfl) (by kernel_rfl) (fun _ _ _ h => h) hS (by rfl) ?_ ?_
          rotate_left
          · intro w' hSw
            go_simp
            try (with_reducible rfl)
          simp only [List.setIfInBounds_toArray, List.set_cons_zero, List.set_cons_succ]
          refine takeH (i := 17) (v := ?_) rfl rfl (by kernel_rfl) (by kernel_rfl) (by kernel_rfl) (fun _ _ _ h => h) hS (by rfl) ?_ ?_
          rotate_left
          · intro w' hSw
            go_simp
            try (with_reducible rfl)
          simp only [List.setIfInBounds_toArray, List.set_cons_zero, List.set_cons_succ]
          refine wpAnyH_ready (rs := [18, 19]) (by kernel_rfl) (by simp) ?_
          refine AllReadyH.cons rfl (fun K hK => ?_) ?_
          · go_simp
            have bU := blk_new' X (.cells #[.int .i64 0, .int .i64 0] 43)
            have lU : V.heap.size ≤ X.heap.size := hS.size
            refine hK.out _ _ (below_alloc hS _) (fun hHeld => ?_)
            clear hK K hS
            have hS := hHeld
            clear hHeld
            try simp only [Act.put, List.setIfInBounds_toArray, List.set_cons_zero, List.set_cons_succ]
            generalize X.heap.size = U at bU lU ⊢
            generalize X.alloc (.cells #[.int .i64 0, .int .i64 0] 43) = X at bU hS ⊢
            refine wpAnyH_ready (rs := [19]) (by kernel_rfl) (by simp) ?_
            refine AllReadyH.cons rfl (fun K hK => ?_) ?_
            · go_simp
              have bD := blk_new' X (.cells #[.int .i64 0, .int .i64 0] 43)
              have lD : V.heap.size ≤ X.heap.size := hS.size
              have nUD : U ≠ X.heap.size := by have := (Array.getElem?_eq_some_iff.1 bU).1; omega
              replace bU := alloc_keeps bU (.cells #[.int .i64 0, .int .i64 0] 43)
              refine hK.out _ _ (below_alloc hS _) (fun hHeld => ?_)
              clear hK K hS
              have hS := hHeld
              clear hHeld
              try simp only [Act.put, List.setIfInBounds_toArray, List.set_cons_zero, List.set_cons_succ]
              generalize X.heap.size = D at bD lD nUD ⊢
              generalize X.alloc (.cells #[.int .i64 0, .int .i64 0] 43) = X at bD bU hS ⊢
              refine wpAnyH_ready (rs := [20]) (by kernel_rfl) (by simp) ?_
              refine AllReadyH.cons rfl (fun K hK => ?_) ?_
              · have c0 := (blk_cell bU 0).trans rfl
                have g0 := blk_frozen bU 0
                have c1 := (blk_cell bU 1).trans rfl
                have g1 := blk_frozen bU 1
                go_simp
                refine hK.out _ _ (below_set (below_set hS lU) lU) (fun hHeld => ?_)
                clear hK K hS c0 g0 c1 g1
                have hS := hHeld
                clear hHeld
                try simp only [Act.put]
                replace bD := (blk_far (p := ⟨U, 1, none⟩) (blk_far (p := ⟨U, 0, none⟩) bD (show D ≠ U by omega) (.int .i64 u0)) (show D ≠ U by omega) (.int .i64 u1))
                replace bU := (blk_put (blk_put bU 0 (.int .i64 u0) rfl) 1 (.int .i64 u1) rfl)
                generalize (X.setCell ⟨U, 0, none⟩ (.int .i64 u0)).setCell ⟨U, 1, none⟩ (.int .i64 u1) = X at bD bU hS ⊢
                refine wpAnyH_ready (rs := [21]) (by kernel_rfl) (by simp) ?_
                refine AllReadyH.cons rfl (fun K hK => ?_) ?_
                · have c0 := (blk_cell bD 0).trans rfl
                  have g0 := blk_frozen bD 0
                  have c1 := (blk_cell bD 1).trans rfl
                  have g1 := blk_frozen bD 1
                  go_simp
                  refine hK.out _ _ (below_set (below_set hS lD) lD) (fun hHeld => ?_)
                  clear hK K hS c0 g0 c1 g1
                  have hS := hHeld
                  clear hHeld
                  try simp only [Act.put]
                  replace bU := (blk_far (p := ⟨D, 1, none⟩) (blk_far (p := ⟨D, 0, none⟩) bU (show U ≠ D by omega) (.int .i64 d0)) (show U ≠ D by omega) (.int .i64 d1))
                  replace bD := (blk_put (blk_put bD 0 (.int .i64 d0) rfl) 1 (.int .i64 d1) rfl)
                  generalize (X.setCell ⟨D, 0, none⟩ (.int .i64 d0)).setCell ⟨D, 1, none⟩ (.int .i64 d1) = X at bD bU hS ⊢
                  refine wpAnyH_done (by kernel_rfl) ?_ _
                  simp only [Exit.then]
                  exact hcut U D X ⟨bU, bD, hS, lU, lD⟩
                exact AllReadyH.nil
              exact AllReadyH.nil
            exact AllReadyH.nil
          refine AllReadyH.cons rfl (fun K hK => ?_) ?_
          · go_simp
            have bD := blk_new' X (.cells #[.int .i64 0, .int .i64 0] 43)
            have lD : V.heap.size ≤ X.heap.size := hS.size
            refine hK.out _ _ (below_alloc hS _) (fun hHeld => ?_)
            clear hK K hS
            have hS := hHeld
            clear hHeld
            try simp only [Act.put, List.setIfInBounds_toArray, List.set_cons_zero, List.set_cons_succ]
            generalize X.heap.size = D at bD lD ⊢
            generalize X.alloc (.cells #[.int .i64 0, .int .i64 0] 43) = X at bD hS ⊢
            refine wpAnyH_ready (rs := [18]) (by kernel_rfl) (by simp) ?_
            refine AllReadyH.cons rfl (fun K hK => ?_) ?_
            · go_simp
              have bU := blk_new' X (.cells #[.int .i64 0, .int .i64 0] 43)
              have lU : V.heap.size ≤ X.heap.size := hS.size
              have nDU : D ≠ X.heap.size := by have := (Array.getElem?_eq_some_iff.1 bD).1; omega
              replace bD := alloc_keeps bD (.cells #[.int .i64 0, .int .i64 0] 43)
              refine hK.out _ _ (below_alloc hS _) (fun hHeld => ?_)
              clear hK K hS
              have hS := hHeld
              clear hHeld
              try simp only [Act.put, List.setIfInBounds_toArray, List.set_cons_zero, List.set_cons_succ]
              generalize X.heap.size = U at bU lU nDU ⊢
              generalize X.alloc (.cells #[.int .i64 0, .int .i64 0] 43) = X at bD bU hS ⊢
              refine wpAnyH_ready (rs := [20]) (by kernel_rfl) (by simp) ?_
              refine AllReadyH.cons rfl (fun K hK => ?_) ?_
              · have c0 := (blk_cell bU 0).trans rfl
                have g0 := blk_frozen bU 0
                have c1 := (blk_cell bU 1).trans rfl
                have g1 := blk_frozen bU 1
                go_simp
                refine hK.out _ _ (below_set (below_set hS lU) lU) (fun hHeld => ?_)
                clear hK K hS c0 g0 c1 g1
                have hS := hHeld
                clear hHeld
                try simp only [Act.put]
                replace bD := (blk_far (p := ⟨U, 1, none⟩) (blk_far (p := ⟨U, 0, none⟩) bD (show D ≠ U by omega) (.int .i64 u0)) (show D ≠ U by omega) (.int .i64 u1))
                replace bU := (blk_put (blk_put bU 0 (.int .i64 u0) rfl) 1 (.int .i64 u1) rfl)
                generalize (X.setCell ⟨U, 0, none⟩ (.int .i64 u0)).setCell ⟨U, 1, none⟩ (.int .i64 u1) = X at bD bU hS ⊢
                refine wpAnyH_ready (rs := [21]) (by kernel_rfl) (by simp) ?_
                refine AllReadyH.cons rfl (fun K hK => ?_) ?_
                · have c0 := (blk_cell bD 0).trans rfl
                  have g0 := blk_frozen bD 0
                  have c1 := (blk_cell bD 1).trans rfl
                  have g1 := blk_frozen bD 1
                  go_simp
                  refine hK.out _ _ (below_set (below_set hS lD) lD) (fun hHeld => ?_)
                  clear hK K hS c0 g0 c1 g1
                  have hS := hHeld
                  clear hHeld
                  try simp only [Act.put]
                  replace bU := (blk_far (p := ⟨D, 1, none⟩) (blk_far (p := ⟨D, 0, none⟩) bU (show U ≠ D by omega) (.int .i64 d0)) (show U ≠ D by omega) (.int .i64 d1))
                  replace bD := (blk_put (blk_put bD 0 (.int .i64 d0) rfl) 1 (.int .i64 d1) rfl)
                  generalize (X.setCell ⟨D, 0, none⟩ (.int .i64 d0)).setCell ⟨D, 1, none⟩ (.int .i64 d1) = X at bD bU hS ⊢
                  refine wpAnyH_done (by kernel_rfl) ?_ _
                  simp only [Exit.then]
                  exact hcut U D X ⟨bU, bD, hS, lU, lD⟩
                exact AllReadyH.nil
              exact AllReadyH.nil
            exact AllReadyH.nil
          exact AllReadyH.nil
        refine AllReadyH.cons rfl (fun K hK => ?_) ?_
        · go_simp
          have bU := blk_new' X (.cells #[.int .i64 0, .int .i64 0] 43)
          have lU : V.heap.size ≤ X.heap.size := hS.size
          refine hK.out _ _ (below_alloc hS _) (fun hHeld => ?_)
          clear hK K hS
          have hS := hHeld
          clear hHeld
          try simp only [Act.put, List.setIfInBounds_toArray, List.set_cons_zero, List.set_cons_succ]
          generalize X.heap.size = U at bU lU ⊢
          generalize X.alloc (.cells #[.int .i64 0, .int .i64 0] 43) = X at bU hS ⊢
          refine wpAnyH_ready (rs := [14, 19]) (by kernel_rfl) (by simp) ?_
          refine AllReadyH.cons rfl (fun K hK => ?_) ?_
          · go_simp
            refine (two_pair.calls _ _ _ _ _ _ _ _ _ _ _ _ _ _ HP.out).mono ?_
            rintro e w' ⟨rfl, hb⟩
            replace bU := blk_below bU hb
            refine hK.out _ _ (below_then hS hS.size hb) (fun hHeld => ?_)
            clear hK K hS hb
            have hS := hHeld
            clear hHeld
            try simp only [Act.put, List.setIfInBounds_toArray, List.set_cons_zero, List.set_cons_succ]
            generalize w' = X at bU hS ⊢
            refine takeH (i := 15) (v := ?_) rfl rfl (by kernel_rfl) (by kernel_rfl) (by kernel_rfl) (fun _ _ _ h => h) hS (by rfl) ?_ ?_
            rotate_left
            · intro w' hSw
              go_simp
              try (with_reducible rfl)
            simp only [List.setIfInBounds_toArray, List.set_cons_zero, List.set_cons_succ]
            refine takeH (i := 16) (v := ?_) rfl rfl (by kernel_rfl) (by kernel_rfl) (by kernel_rfl) (fun _ _ _ h => h) hS (by rfl) ?_ ?_
            rotate_left
            · intro w' hSw
              go_simp
              try (with_reducible rfl)
            simp only [List.setIfInBounds_toArray, List.set_cons_zero, List.set_cons_succ]
            refine takeH (i := 17) (v := ?_) rfl rfl (by kernel_rfl) (by kernel_rfl) (by kernel_rfl) (fun _ _ _ h => h) hS (by rfl) ?_ ?_
            rotate_left
            · intro w' hSw
              go_simp
              try (with_reducible rfl)
            simp only [List.setIfInBounds_toArray, List.set_cons_zero, List.set_cons_succ]
            refine wpAnyH_ready (rs := [19]) (by kernel_rfl) (by simp) ?_
            refine AllReadyH.cons rfl (fun K hK => ?_) ?_
            · go_simp
              have bD := blk_new' X (.cells #[.int .i64 0, .int .i64 0] 43)
              have lD : V.heap.size ≤ X.heap.size := hS.size
              have nUD : U ≠ X.heap.size := by have := (Array.getElem?_eq_some_iff.1 bU).1; omega
              replace bU := alloc_keeps bU (.cells #[.int .i64 0, .int .i64 0] 43)
              refine hK.out _ _ (below_alloc hS _) (fun hHeld => ?_)
              clear hK K hS
              have hS := hHeld
              clear hHeld
              try simp only [Act.put, List.setIfInBounds_toArray, List.set_cons_zero, List.set_cons_succ]
              generalize X.heap.size = D at bD lD nUD ⊢
              generalize X.alloc (.cells #[.int .i64 0, .int .i64 0] 43) = X at bD bU hS ⊢
              refine wpAnyH_ready (rs := [20]) (by kernel_rfl) (by simp) ?_
              refine AllReadyH.cons rfl (fun K hK => ?_) ?_
              · have c0 := (blk_cell bU 0).trans rfl
                have g0 := blk_frozen bU 0
                have c1 := (blk_cell bU 1).trans rfl
                have g1 := blk_frozen bU 1
                go_simp
                refine hK.out _ _ (below_set (below_set hS lU) lU) (fun hHeld => ?_)
                clear hK K hS c0 g0 c1 g1
                have hS := hHeld
                clear hHeld
                try simp only [Act.put]
                replace bD := (blk_far (p := ⟨U, 1, none⟩) (blk_far (p := ⟨U, 0, none⟩) bD (show D ≠ U by omega) (.int .i64 u0)) (show D ≠ U by omega) (.int .i64 u1))
                replace bU := (blk_put (blk_put bU 0 (.int .i64 u0) rfl) 1 (.int .i64 u1) rfl)
                generalize (X.setCell ⟨U, 0, none⟩ (.int .i64 u0)).setCell ⟨U, 1, none⟩ (.int .i64 u1) = X at bD bU hS ⊢
                refine wpAnyH_ready (rs := [21]) (by kernel_rfl) (by simp) ?_
                refine AllReadyH.cons rfl (fun K hK => ?_) ?_
                · have c0 := (blk_cell bD 0).trans rfl
                  have g0 := blk_frozen bD 0
                  have c1 := (blk_cell bD 1).trans rfl
                  have g1 := blk_frozen bD 1
                  go_simp
                  refine hK.out _ _ (below_set (below_set hS lD) lD) (fun hHeld => ?_)
                  clear hK K hS c0 g0 c1 g1
                  have hS := hHeld
                  clear hHeld
                  try simp only [Act.put]
                  replace bU := (blk_far (p := ⟨D, 1, none⟩) (blk_far (p := ⟨D, 0, none⟩) bU (show U ≠ D by omega) (.int .i64 d0)) (show U ≠ D by omega) (.int .i64 d1))
                  replace bD := (blk_put (blk_put bD 0 (.int .i64 d0) rfl) 1 (.int .i64 d1) rfl)
                  generalize (X.setCell ⟨D, 0, none⟩ (.int .i64 d0)).setCell ⟨D, 1, none⟩ (.int .i64 d1) = X at bD bU hS ⊢
                  refine wpAnyH_done (by kernel_rfl) ?_ _
                  simp only [Exit.then]
                  exact hcut U D X ⟨bU, bD, hS, lU, lD⟩
                exact AllReadyH.nil
              exact AllReadyH.nil
            exact AllReadyH.nil
          refine AllReadyH.cons rfl (fun K hK => ?_) ?_
          · go_simp
            have bD := blk_new' X (.cells #[.int .i64 0, .int .i64 0] 43)
            have lD : V.heap.size ≤ X.heap.size := hS.size
            have nUD : U ≠ X.heap.size := by have := (Array.getElem?_eq_some_iff.1 bU).1; omega
            replace bU := alloc_keeps bU (.cells #[.int .i64 0, .int .i64 0] 43)
            refine hK.out _ _ (below_alloc hS _) (fun hHeld => ?_)
            clear hK K hS
            have hS := hHeld
            clear hHeld
            try simp only [Act.put, List.setIfInBounds_toArray, List.set_cons_zero, List.set_cons_succ]
            generalize X.heap.size = D at bD lD nUD ⊢
            generalize X.alloc (.cells #[.int .i64 0, .int .i64 0] 43) = X at bD bU hS ⊢
            refine wpAnyH_ready (rs := [14]) (by kernel_rfl) (by simp) ?_
            refine AllReadyH.cons rfl (fun K hK => ?_) ?_
            · go_simp
              refine (two_pair.calls _ _ _ _ _ _ _ _ _ _ _ _ _ _ HP.out).mono ?_
              rintro e w' ⟨rfl, hb⟩
              replace bD := blk_below bD hb
              replace bU := blk_below bU hb
              refine hK.out _ _ (below_then hS hS.size hb) (fun hHeld => ?_)
              clear hK K hS hb
              have hS := hHeld
              clear hHeld
              try simp only [Act.put, List.setIfInBounds_toArray, List.set_cons_zero, List.set_cons_succ]
              generalize w' = X at bD bU hS ⊢
              refine takeH (i := 15) (v := ?_) rfl rfl (by kernel_rfl) (by kernel_rfl) (by kernel_rfl) (fun _ _ _ h => h) hS (by rfl) ?_ ?_
              rotate_left
              · intro w' hSw
                go_simp
                try (with_reducible rfl)
              simp only [List.setIfInBounds_toArray, List.set_cons_zero, List.set_cons_succ]
              refine takeH (i := 16) (v := ?_) rfl rfl (by kernel_rfl) (by kernel_rfl) (by kernel_rfl) (fun _ _ _ h => h) hS (by rfl) ?_ ?_
              rotate_left
              · intro w' hSw
                go_simp
                try (with_reducible rfl)
              simp only [List.setIfInBounds_toArray, List.set_cons_zero, List.set_cons_succ]
              refine takeH (i := 17) (v := ?_) rfl rfl (by kernel_rfl) (by kernel_rfl) (by kernel_rfl) (fun _ _ _ h => h) hS (by rfl) ?_ ?_
              rotate_left
              · intro w' hSw
                go_simp
                try (with_reducible rfl)
              simp only [List.setIfInBounds_toArray, List.set_cons_zero, List.set_cons_succ]
              refine wpAnyH_ready (rs := [20]) (by kernel_rfl) (by simp) ?_
              refine AllReadyH.cons rfl (fun K hK => ?_) ?_
              · have c0 := (blk_cell bU 0).trans rfl
                have g0 := blk_frozen bU 0
                have c1 := (blk_cell bU 1).trans rfl
                have g1 := blk_frozen bU 1
                go_simp
                refine hK.out _ _ (below_set (below_set hS lU) lU) (fun hHeld => ?_)
                clear hK K hS c0 g0 c1 g1
                have hS := hHeld
                clear hHeld
                try simp only [Act.put]
                replace bD := (blk_far (p := ⟨U, 1, none⟩) (blk_far (p := ⟨U, 0, none⟩) bD (show D ≠ U by omega) (.int .i64 u0)) (show D ≠ U by omega) (.int .i64 u1))
                replace bU := (blk_put (blk_put bU 0 (.int .i64 u0) rfl) 1 (.int .i64 u1) rfl)
                generalize (X.setCell ⟨U, 0, none⟩ (.int .i64 u0)).setCell ⟨U, 1, none⟩ (.int .i64 u1) = X at bD bU hS ⊢
                refine wpAnyH_ready (rs := [21]) (by kernel_rfl) (by simp) ?_
                refine AllReadyH.cons rfl (fun K hK => ?_) ?_
                · have c0 := (blk_cell bD 0).trans rfl
                  have g0 := blk_frozen bD 0
                  have c1 := (blk_cell bD 1).trans rfl
                  have g1 := blk_frozen bD 1
                  go_simp
                  refine hK.out _ _ (below_set (below_set hS lD) lD) (fun hHeld => ?_)
                  clear hK K hS c0 g0 c1 g1
                  have hS := hHeld
                  clear hHeld
                  try simp only [Act.put]
                  replace bU := (blk_far (p := ⟨D, 1, none⟩) (blk_far (p := ⟨D, 0, none⟩) bU (show U ≠ D by omega) (.int .i64 d0)) (show U ≠ D by omega) (.int .i64 d1))
                  replace bD := (blk_put (blk_put bD 0 (.int .i64 d0) rfl) 1 (.int .i64 d1) rfl)
                  generalize (X.setCell ⟨D, 0, none⟩ (.int .i64 d0)).setCell ⟨D, 1, none⟩ (.int .i64 d1) = X at bD bU hS ⊢
                  refine wpAnyH_done (by kernel_rfl) ?_ _
                  simp only [Exit.then]
                  exact hcut U D X ⟨bU, bD, hS, lU, lD⟩
                exact AllReadyH.nil
              exact AllReadyH.nil
            exact AllReadyH.nil
          exact AllReadyH.nil
        refine AllReadyH.cons rfl (fun K hK => ?_) ?_
        · go_simp
          have bD := blk_new' X (.cells #[.int .i64 0, .int .i64 0] 43)
          have lD : V.heap.size ≤ X.heap.size := hS.size
          refine hK.out _ _ (below_alloc hS _) (fun hHeld => ?_)
          clear hK K hS
          have hS := hHeld
          clear hHeld
          try simp only [Act.put, List.setIfInBounds_toArray, List.set_cons_zero, List.set_cons_succ]
          generalize X.heap.size = D at bD lD ⊢
          generalize X.alloc (.cells #[.int .i64 0, .int .i64 0] 43) = X at bD hS ⊢
          refine wpAnyH_ready (rs := [14, 18]) (by kernel_rfl) (by simp) ?_
          refine AllReadyH.cons rfl (fun K hK => ?_) ?_
          · go_simp
            refine (two_pair.calls _ _ _ _ _ _ _ _ _ _ _ _ _ _ HP.out).mono ?_
            rintro e w' ⟨rfl, hb⟩
            replace bD := blk_below bD hb
            refine hK.out _ _ (below_then hS hS.size hb) (fun hHeld => ?_)
            clear hK K hS hb
            have hS := hHeld
            clear hHeld
            try simp only [Act.put, List.setIfInBounds_toArray, List.set_cons_zero, List.set_cons_succ]
            generalize w' = X at bD hS ⊢
            refine takeH (i := 15) (v := ?_) rfl rfl (by kernel_rfl) (by kernel_rfl) (by kernel_rfl) (fun _ _ _ h => h) hS (by rfl) ?_ ?_
            rotate_left
            · intro w' hSw
              go_simp
              try (with_reducible rfl)
            simp only [List.setIfInBounds_toArray, List.set_cons_zero, List.set_cons_succ]
            refine takeH (i := 16) (v := ?_) rfl rfl (by kernel_rfl) (by kernel_rfl) (by kernel_rfl) (fun _ _ _ h => h) hS (by rfl) ?_ ?_
            rotate_left
            · intro w' hSw
              go_simp
              try (with_reducible rfl)
            simp only [List.setIfInBounds_toArray, List.set_cons_zero, List.set_cons_succ]
            refine takeH (i := 17) (v := ?_) rfl rfl (by kernel_rfl) (by kernel_rfl) (by kernel_rfl) (fun _ _ _ h => h) hS (by rfl) ?_ ?_
            rotate_left
            · intro w' hSw
              go_simp
              try (with_reducible rfl)
            simp only [List.setIfInBounds_toArray, List.set_cons_zero, List.set_cons_succ]
            refine wpAnyH_ready (rs := [18]) (by kernel_rfl) (by simp) ?_
            refine AllReadyH.cons rfl (fun K hK => ?_) ?_
            · go_simp
              have bU := blk_new' X (.cells #[.int .i64 0, .int .i64 0] 43)
              have lU : V.heap.size ≤ X.heap.size := hS.size
              have nDU : D ≠ X.heap.size := by have := (Array.getElem?_eq_some_iff.1 bD).1; omega
              replace bD := alloc_keeps bD (.cells #[.int .i64 0, .int .i64 0] 43)
              refine hK.out _ _ (below_alloc hS _) (fun hHeld => ?_)
              clear hK K hS
              have hS := hHeld
              clear hHeld
              try simp only [Act.put, List.setIfInBounds_toArray, List.set_cons_zero, List.set_cons_succ]
              generalize X.heap.size = U at bU lU nDU ⊢
              generalize X.alloc (.cells #[.int .i64 0, .int .i64 0] 43) = X at bD bU hS ⊢
              refine wpAnyH_ready (rs := [20]) (by kernel_rfl) (by simp) ?_
              refine AllReadyH.cons rfl (fun K hK => ?_) ?_
              · have c0 := (blk_cell bU 0).trans rfl
                have g0 := blk_frozen bU 0
                have c1 := (blk_cell bU 1).trans rfl
                have g1 := blk_frozen bU 1
                go_simp
                refine hK.out _ _ (below_set (below_set hS lU) lU) (fun hHeld => ?_)
                clear hK K hS c0 g0 c1 g1
                have hS := hHeld
                clear hHeld
                try simp only [Act.put]
                replace bD := (blk_far (p := ⟨U, 1, none⟩) (blk_far (p := ⟨U, 0, none⟩) bD (show D ≠ U by omega) (.int .i64 u0)) (show D ≠ U by omega) (.int .i64 u1))
                replace bU := (blk_put (blk_put bU 0 (.int .i64 u0) rfl) 1 (.int .i64 u1) rfl)
                generalize (X.setCell ⟨U, 0, none⟩ (.int .i64 u0)).setCell ⟨U, 1, none⟩ (.int .i64 u1) = X at bD bU hS ⊢
                refine wpAnyH_ready (rs := [21]) (by kernel_rfl) (by simp) ?_
                refine AllReadyH.cons rfl (fun K hK => ?_) ?_
                · have c0 := (blk_cell bD 0).trans rfl
                  have g0 := blk_frozen bD 0
                  have c1 := (blk_cell bD 1).trans rfl
                  have g1 := blk_frozen bD 1
                  go_simp
                  refine hK.out _ _ (below_set (below_set hS lD) lD) (fun hHeld => ?_)
                  clear hK K hS c0 g0 c1 g1
                  have hS := hHeld
                  clear hHeld
                  try simp only [Act.put]
                  replace bU := (blk_far (p := ⟨D, 1, none⟩) (blk_far (p := ⟨D, 0, none⟩) bU (show U ≠ D by omega) (.int .i64 d0)) (show U ≠ D by omega) (.int .i64 d1))
                  replace bD := (blk_put (blk_put bD 0 (.int .i64 d0) rfl) 1 (.int .i64 d1) rfl)
                  generalize (X.setCell ⟨D, 0, none⟩ (.int .i64 d0)).setCell ⟨D, 1, none⟩ (.int .i64 d1) = X at bD bU hS ⊢
                  refine wpAnyH_done (by kernel_rfl) ?_ _
                  simp only [Exit.then]
                  exact hcut U D X ⟨bU, bD, hS, lU, lD⟩
                exact AllReadyH.nil
              exact AllReadyH.nil
            exact AllReadyH.nil
          refine AllReadyH.cons rfl (fun K hK => ?_) ?_
          · go_simp
            have bU := blk_new' X (.cells #[.int .i64 0, .int .i64 0] 43)
            have lU : V.heap.size ≤ X.heap.size := hS.size
            have nDU : D ≠ X.heap.size := by have := (Array.getElem?_eq_some_iff.1 bD).1; omega
            replace bD := alloc_keeps bD (.cells #[.int .i64 0, .int .i64 0] 43)
            refine hK.out _ _ (below_alloc hS _) (fun hHeld => ?_)
            clear hK K hS
            have hS := hHeld
            clear hHeld
            try simp only [Act.put, List.setIfInBounds_toArray, List.set_cons_zero, List.set_cons_succ]
            generalize X.heap.size = U at bU lU nDU ⊢
            generalize X.alloc (.cells #[.int .i64 0, .int .i64 0] 43) = X at bD bU hS ⊢
            refine wpAnyH_ready (rs := [14]) (by kernel_rfl) (by simp) ?_
            refine AllReadyH.cons rfl (fun K hK => ?_) ?_
            · go_simp
              refine (two_pair.calls _ _ _ _ _ _ _ _ _ _ _ _ _ _ HP.out).mono ?_
              rintro e w' ⟨rfl, hb⟩
              replace bD := blk_below bD hb
              replace bU := blk_below bU hb
              refine hK.out _ _ (below_then hS hS.size hb) (fun hHeld => ?_)
              clear hK K hS hb
              have hS := hHeld
              clear hHeld
              try simp only [Act.put, List.setIfInBounds_toArray, List.set_cons_zero, List.set_cons_succ]
              generalize w' = X at bD bU hS ⊢
              refine takeH (i := 15) (v := ?_) rfl rfl (by kernel_rfl) (by kernel_rfl) (by kernel_rfl) (fun _ _ _ h => h) hS (by rfl) ?_ ?_
              rotate_left
              · intro w' hSw
                go_simp
                try (with_reducible rfl)
              simp only [List.setIfInBounds_toArray, List.set_cons_zero, List.set_cons_succ]
              refine takeH (i := 16) (v := ?_) rfl rfl (by kernel_rfl) (by kernel_rfl) (by kernel_rfl) (fun _ _ _ h => h) hS (by rfl) ?_ ?_
              rotate_left
              · intro w' hSw
                go_simp
                try (with_reducible rfl)
              simp only [List.setIfInBounds_toArray, List.set_cons_zero, List.set_cons_succ]
              refine takeH (i := 17) (v := ?_) rfl rfl (by kernel_rfl) (by kernel_rfl) (by kernel_rfl) (fun _ _ _ h => h) hS (by rfl) ?_ ?_
              rotate_left
              · intro w' hSw
                go_simp
                try (with_reducible rfl)
              simp only [List.setIfInBounds_toArray, List.set_cons_zero, List.set_cons_succ]
              refine wpAnyH_ready (rs := [20]) (by kernel_rfl) (by simp) ?_
              refine AllReadyH.cons rfl (fun K hK => ?_) ?_
              · have c0 := (blk_cell bU 0).trans rfl
                have g0 := blk_frozen bU 0
                have c1 := (blk_cell bU 1).trans rfl
                have g1 := blk_frozen bU 1
                go_simp
                refine hK.out _ _ (below_set (below_set hS lU) lU) (fun hHeld => ?_)
                clear hK K hS c0 g0 c1 g1
                have hS := hHeld
                clear hHeld
                try simp only [Act.put]
                replace bD := (blk_far (p := ⟨U, 1, none⟩) (blk_far (p := ⟨U, 0, none⟩) bD (show D ≠ U by omega) (.int .i64 u0)) (show D ≠ U by omega) (.int .i64 u1))
                replace bU := (blk_put (blk_put bU 0 (.int .i64 u0) rfl) 1 (.int .i64 u1) rfl)
                generalize (X.setCell ⟨U, 0, none⟩ (.int .i64 u0)).setCell ⟨U, 1, none⟩ (.int .i64 u1) = X at bD bU hS ⊢
                refine wpAnyH_ready (rs := [21]) (by kernel_rfl) (by simp) ?_
                refine AllReadyH.cons rfl (fun K hK => ?_) ?_
                · have c0 := (blk_cell bD 0).trans rfl
                  have g0 := blk_frozen bD 0
                  have c1 := (blk_cell bD 1).trans rfl
                  have g1 := blk_frozen bD 1
                  go_simp
                  refine hK.out _ _ (below_set (below_set hS lD) lD) (fun hHeld => ?_)
                  clear hK K hS c0 g0 c1 g1
                  have hS := hHeld
                  clear hHeld
                  try simp only [Act.put]
                  replace bU := (blk_far (p := ⟨D, 1, none⟩) (blk_far (p := ⟨D, 0, none⟩) bU (show U ≠ D by omega) (.int .i64 d0)) (show U ≠ D by omega) (.int .i64 d1))
                  replace bD := (blk_put (blk_put bD 0 (.int .i64 d0) rfl) 1 (.int .i64 d1) rfl)
                  generalize (X.setCell ⟨D, 0, none⟩ (.int .i64 d0)).setCell ⟨D, 1, none⟩ (.int .i64 d1) = X at bD bU hS ⊢
                  refine wpAnyH_done (by kernel_rfl) ?_ _
                  simp only [Exit.then]
                  exact hcut U D X ⟨bU, bD, hS, lU, lD⟩
                exact AllReadyH.nil
              exact AllReadyH.nil
            exact AllReadyH.nil
          exact AllReadyH.nil
        exact AllReadyH.nil
      case tail1 =>
        rintro U D X ⟨bU, bD, hS, lU, lD⟩
        try dsimp only
        go_at_K
        have gU0 : X.cell? ⟨U, 0, none⟩ = some (.int .i64 u0) := (blk_cell bU 0).trans rfl
        have gU1 : X.cell? ⟨U, 1, none⟩ = some (.int .i64 u1) := (blk_cell bU 1).trans rfl
        have gD0 : X.cell? ⟨D, 0, none⟩ = some (.int .i64 d0) := (blk_cell bD 0).trans rfl
        have gD1 : X.cell? ⟨D, 1, none⟩ = some (.int .i64 d1) := (blk_cell bD 1).trans rfl
        have hVX := Aside0.mk hS
        have hWX : Aside0 (Below W.heap.size W X) := ⟨below_then hWV.out hWV.out.size hS⟩
        clear hS bU bD
        have HX := KEY.out X hWX.out
        obtain ⟨g20, g9, hRX⟩ := HX
        have HRX := Aside0.mk hRX
        have nU : some U ≠ some G := by intro h; cases h; have := hWV.out.size; have := hGW.out; omega
        have nD : some D ≠ some G := by intro h; cases h; have := hWV.out.size; have := hGW.out; omega
        clear hRX KEY f7 f9 f10 f11 f12 r0 r1 x0 x1 y0 y1
        gi_wp2_with (fail)
        refine wpIn_round_held (S := fun w' => X.grownBy w' (some G)) (by kernel_rfl) (by rintro ⟨_, _, h⟩; exact h) (by kernel_rfl) (grownBy_drew_ X _) (fun hS => ?_)
        refine takeH (i := 0) (v := ?_) rfl rfl (by kernel_rfl) (by kernel_rfl) (by kernel_rfl) (fun _ _ _ h => h) hS (by rfl) ?_ ?_
        rotate_left
        · intro w' hSw
          have tg20 := hSw.cell g20 nO
          go_simp
          try (with_reducible rfl)
        simp only [List.setIfInBounds_toArray, List.set_cons_zero, List.set_cons_succ]
        refine takeH (i := 1) (v := ?_) rfl rfl (by kernel_rfl) (by kernel_rfl) (by kernel_rfl) (fun _ _ _ h => h) hS (by rfl) ?_ ?_
        rotate_left
        · intro w' hSw
          go_simp
          try (with_reducible rfl)
        simp only [List.setIfInBounds_toArray, List.set_cons_zero, List.set_cons_succ]
        refine takeH (i := 2) (v := ?_) rfl rfl (by kernel_rfl) (by kernel_rfl) (by kernel_rfl) (fun _ _ _ h => h) hS (by rfl) ?_ ?_
        rotate_left
        · intro w' hSw
          have tg20 := hSw.cell g20 nO
          go_simp
          try (with_reducible rfl)
        simp only [List.setIfInBounds_toArray, List.set_cons_zero, List.set_cons_succ]
        refine takeH (i := 3) (v := ?_) rfl rfl (by kernel_rfl) (by kernel_rfl) (by kernel_rfl) (fun _ _ _ h => h) hS (by rfl) ?_ ?_
        rotate_left
        · intro w' hSw
          go_simp
          try (with_reducible rfl)
        simp only [List.setIfInBounds_toArray, List.set_cons_zero, List.set_cons_succ]
        refine takeH (i := 4) (v := ?_) rfl rfl (by kernel_rfl) (by kernel_rfl) (by kernel_rfl) (fun _ _ _ h => h) hS (by rfl) ?_ ?_
        rotate_left
        · intro w' hSw
          have tg9 := hSw.cell g9 nH
          go_simp
          try (with_reducible rfl)
        simp only [List.setIfInBounds_toArray, List.set_cons_zero, List.set_cons_succ]
        refine takeH (i := 5) (v := ?_) rfl rfl (by kernel_rfl) (by kernel_rfl) (by kernel_rfl) (fun _ _ _ h => h) hS (by rfl) ?_ ?_
        rotate_left
        · intro w' hSw
          go_simp
          try (with_reducible rfl)
        simp only [List.setIfInBounds_toArray, List.set_cons_zero, List.set_cons_succ]
        refine takeH (i := 6) (v := ?_) rfl rfl (by kernel_rfl) (by kernel_rfl) (by kernel_rfl) (fun _ _ _ h => h) hS (by rfl) ?_ ?_
        rotate_left
        · intro w' hSw
          have tgU0 := hSw.cell gU0 nU
          have tgU1 := hSw.cell gU1 nU
          go_simp
          try (with_reducible rfl)
        simp only [List.setIfInBounds_toArray, List.set_cons_zero, List.set_cons_succ]
        refine takeH (i := 7) (v := ?_) rfl rfl (by kernel_rfl) (by kernel_rfl) (by kernel_rfl) (fun _ _ _ h => h) hS (by rfl) ?_ ?_
        rotate_left
        · intro w' hSw
          have tgD0 := hSw.cell gD0 nD
          have tgD1 := hSw.cell gD1 nD
          go_simp
          try (with_reducible rfl)
        simp only [List.setIfInBounds_toArray, List.set_cons_zero, List.set_cons_succ]
        refine takeH (i := 8) (v := ?_) rfl rfl (by kernel_rfl) (by kernel_rfl) (by kernel_rfl) (fun _ _ _ h => h) hS (by rfl) ?_ ?_
        rotate_left
        · intro w' hSw
          go_simp
          try (with_reducible rfl)
        simp only [List.setIfInBounds_toArray, List.set_cons_zero, List.set_cons_succ]
        have HRY := HRX.out
        have HLN := HLEN.out
        generalize hacc : (pre.map Subtype.val).foldl (two_Pass.step l0 l1 a2 b a4 a5 true) l0 = acc at HRY HLN
        have HACC := Aside0.mk hacc
        clear hacc
        obtain ⟨c0, c1', g0, g1⟩ := R43_cell HRY HLN.symm i.toNat (by omega)
        obtain ⟨HRZ, HGZ⟩ := R43_set HRY HLN.symm i.toNat ⟨u0, u1⟩
        have HRZ1 := Aside0.mk (Kd.R_drew HRZ)
        have HGZ1 := Aside0.mk (HGZ.trans (grownBy_drew_ _ (some G)))
        clear HRX HRY HRZ HGZ
        refine wpAnyH_ready (rs := [9]) (by kernel_rfl) (by simp) ?_
        refine AllReadyH.cons rfl (fun K hK => ?_) ?_
        · go_simp
          refine hK.out _ _ HGZ1.out (fun hHeld => ?_)
          clear hK K hS c0 c1' g0 g1
          have hS := hHeld
          clear hHeld
          try simp only [Act.put]
          have HLZ : (acc.set i.toNat ⟨u0, u1⟩).length = l0.length := by rw [List.length_set]; exact HLN
          dsimp only at HRZ1 HGZ1
          generalize ((X.setCell ⟨G, i.toNat * 2, none⟩ (.int .i64 u0)).setCell ⟨G, i.toNat * 2 + 1, none⟩ (.int .i64 u1)).drew = Y at HRZ1 HGZ1 hS ⊢
          have HRY := HRZ1.out
          obtain ⟨c0, c1', g0, g1⟩ := R43_cell HRY HLZ.symm j.toNat (by omega)
          obtain ⟨HRZ, HGZ⟩ := R43_set HRY HLZ.symm j.toNat ⟨d0, d1⟩
          have HRZ2 := Aside0.mk HRZ
          have HGZ2 := Aside0.mk HGZ
          clear HRZ1 HRY HRZ HGZ
          refine takeH (i := 10) (v := ?_) rfl rfl (by kernel_rfl) (by kernel_rfl) (by kernel_rfl) (fun _ _ _ h => h) hS (by rfl) ?_ ?_
          rotate_left
          · intro w' hSw
            go_simp
            try (with_reducible rfl)
          simp only [List.setIfInBounds_toArray, List.set_cons_zero, List.set_cons_succ]
          refine wpAnyH_ready (rs := [11]) (by kernel_rfl) (by simp) ?_
          refine AllReadyH.cons rfl (fun K hK => ?_) ?_
          · go_simp
            refine hK.out _ _ (HGZ1.out.trans HGZ2.out) (fun hHeld => ?_)
            clear hK K hS c0 c1' g0 g1 hHeld
            try simp only [Act.put]
            refine wpAnyH_done (by kernel_rfl) ?_ _
            have hgZ := (grown_of_below hWX.out (some G)).trans (HGZ1.out.trans HGZ2.out)
            refine ⟨KeepsOthers.of_grownBy hgZ (fun z o e hz => ?_), ?_, HGW.out.trans hgZ, ?_⟩
            · cases e
              obtain ⟨cs, hcs⟩ := HGC.out
              rw [hcs] at hz
              cases hz
              rfl
            · intro z hz c t fr hc
              refine blk_grown hc hgZ ?_
              intro e
              cases e
              have := HG.out
              omega
            · have hstep : two_Pass.step l0 l1 a2 b a4 a5 true acc (i, k) = (acc.set i.toNat ⟨u0, u1⟩).set j.toNat ⟨d0, d1⟩ := by
                unfold two_Pass.step
                dsimp only
                rw [HJ.out, HROOT.out, HQ.out]
              rw [List.map_append, List.foldl_append]
              show Kd.R k43 43 _ _ _ _ (two_Pass.step l0 l1 a2 b a4 a5 true ((pre.map Subtype.val).foldl (two_Pass.step l0 l1 a2 b a4 a5 true) l0) (i, k))
              rw [HACC.out, hstep]
              exact HRZ2.out
          exact AllReadyH.nil
        exact AllReadyH.nil
    | false =>
      have HP0 := pair_some (rd_T43 l0 i) (rd_T43 l0 j) (rootOf l1 k false) b a4 a5 (by omega)
      generalize hroot : rootOf l1 k false = rt at HP0
      have HROOT := Aside0.mk hroot
      obtain ⟨rt0, rt1⟩ := rt
      generalize hq : pairT (rd_T43 l0 i) (rd_T43 l0 j) ⟨rt0, rt1⟩ b a4 a5 = q at HP0
      have HQ := Aside0.mk hq
      obtain ⟨⟨u0, u1⟩, ⟨d0, d1⟩⟩ := q
      have HP := Aside0.mk HP0
      clear HP0 hq
      have hroot2 : rd_T43 l1 k = ⟨rt0, rt1⟩ := by rw [← hroot]; rfl
      rw [hroot2] at z0 z1
      clear hroot hroot2
      gi_wp2_with (fail)
      have hx := blk_new W (.cells #[.int .i64 rt0, .int .i64 rt1] 43)
      have hWV : Aside0 (Below W.heap.size W (W.alloc (.cells #[.int .i64 rt0, .int .i64 rt1] 43))) := ⟨below_alloc (Below.refl _ _) _⟩
      generalize W.alloc (.cells #[.int .i64 rt0, .int .i64 rt1] 43) = V at hx hWV ⊢
      have r0 : V.cell? ⟨W.heap.size, 0, none⟩ = some (.int .i64 rt0) := (blk_cell hx 0).trans rfl
      have r1 : V.cell? ⟨W.heap.size, 1, none⟩ = some (.int .i64 rt1) := (blk_cell hx 1).trans rfl
      have f7 : V.cell? ⟨w.heap.size, 0, none⟩ = some (.slice (some ad0) l0.length c0) := by rw [← HA0.out]; exact (blk_cell (blk_below E0.out hWV.out) 0).trans rfl
      have f9 : V.cell? ⟨w.heap.size + 1 + 1, 0, none⟩ = some (.int .i64 a2) := (blk_cell (blk_below E2.out hWV.out) 0).trans rfl
      have f10 : V.cell? ⟨w.heap.size + 1 + 1 + 1, 0, none⟩ = some (.int .i64 b) := (blk_cell (blk_below E3.out hWV.out) 0).trans rfl
      have f11 : V.cell? ⟨w.heap.size + 1 + 1 + 1 + 1, 0, none⟩ = some (.int .i64 a4) := (blk_cell (blk_below E4.out hWV.out) 0).trans rfl
      have f12 : V.cell? ⟨w.heap.size + 1 + 1 + 1 + 1 + 1, 0, none⟩ = some (.int .i64 a5) := (blk_cell (blk_below E5.out hWV.out) 0).trans rfl
      have x0 := (hWV.out.cell (World.block_lt_of_cell? _ _ P0.out)).trans P0.out
      have x1 := (hWV.out.cell (World.block_lt_of_cell? _ _ P1.out)).trans P1.out
      have y0 := (hWV.out.cell (World.block_lt_of_cell? _ _ S0.out)).trans S0.out
      have y1 := (hWV.out.cell (World.block_lt_of_cell? _ _ S1.out)).trans S1.out
      clear hx z0 z1 k1 k6 l6
      refine region_cut2 (R := ?R2) (A := ?A2) (F := fun U D X => X.heap[U]? = some (.cells #[.int .i64 u0, .int .i64 u1] 43 (0, 0)) ∧ X.heap[D]? = some (.cells #[.int .i64 d0, .int .i64 d1] 43 (0, 0)) ∧ Below V.heap.size V X ∧ V.heap.size ≤ U ∧ V.heap.size ≤ D) (fun hcut => ?walk2) ?tail2
      case walk2 =>
        refine wpIn_round_held (S := fun w' => Below V.heap.size V w') (by kernel_rfl) (by rintro ⟨_, _, h⟩; exact h) (by kernel_rfl) (below_drew1 (Below.refl _ _)) (fun hS => ?_)
        generalize V.drew = X at hS ⊢
        refine takeH (i := 0) (v := ?_) rfl rfl (by kernel_rfl) (by kernel_rfl) (by kernel_rfl) (fun _ _ _ h => h) hS (by rfl) ?_ ?_
        rotate_left
        · intro w' hSw
          have tf7 := (hSw.cell (World.block_lt_of_cell? _ _ f7)).trans f7
          go_simp
          try (with_reducible rfl)
        simp only [List.setIfInBounds_toArray, List.set_cons_zero, List.set_cons_succ]
        refine takeH (i := 1) (v := ?_) rfl rfl (by kernel_rfl) (by kernel_rfl) (by kernel_rfl) (fun _ _ _ h => h) hS (by rfl) ?_ ?_
        rotate_left
        · intro w' hSw
          go_simp
          try (with_reducible rfl)
        simp only [List.setIfInBounds_toArray, List.set_cons_zero, List.set_cons_succ]
        refine takeH (i := 2) (v := ?_) rfl rfl (by kernel_rfl) (by kernel_rfl) (by kernel_rfl) (fun _ _ _ h => h) hS (by rfl) ?_ ?_
        rotate_left
        · intro w' hSw
          go_simp
          try (with_reducible rfl)
        simp only [List.setIfInBounds_toArray, List.set_cons_zero, List.set_cons_succ]
        refine takeH (i := 3) (v := ?_) rfl rfl (by kernel_rfl) (by kernel_rfl) (by kernel_rfl) (fun _ _ _ h => h) hS (by rfl) ?_ ?_
        rotate_left
        · intro w' hSw
          have tx0 := (hSw.cell (World.block_lt_of_cell? _ _ x0)).trans x0
          have tx1 := (hSw.cell (World.block_lt_of_cell? _ _ x1)).trans x1
          go_simp
          try (with_reducible rfl)
        simp only [List.setIfInBounds_toArray, List.set_cons_zero, List.set_cons_succ]
        refine takeH (i := 4) (v := ?_) rfl rfl (by kernel_rfl) (by kernel_rfl) (by kernel_rfl) (fun _ _ _ h => h) hS (by rfl) ?_ ?_
        rotate_left
        · intro w' hSw
          have tf7 := (hSw.cell (World.block_lt_of_cell? _ _ f7)).trans f7
          go_simp
          try (with_reducible rfl)
        simp only [List.setIfInBounds_toArray, List.set_cons_zero, List.set_cons_succ]
        refine takeH (i := 5) (v := ?_) rfl rfl (by kernel_rfl) (by kernel_rfl) (by kernel_rfl) (fun _ _ _ h => h) hS (by rfl) ?_ ?_
        rotate_left
        · intro w' hSw
          go_simp
          try (with_reducible rfl)
        simp only [List.setIfInBounds_toArray, List.set_cons_zero, List.set_cons_succ]
        refine takeH (i := 6) (v := ?_) rfl rfl (by kernel_rfl) (by kernel_rfl) (by kernel_rfl) (fun _ _ _ h => h) hS (by rfl) ?_ ?_
        rotate_left
        · intro w' hSw
          have tf9 := (hSw.cell (World.block_lt_of_cell? _ _ f9)).trans f9
          go_simp
          try (with_reducible rfl)
        simp only [List.setIfInBounds_toArray, List.set_cons_zero, List.set_cons_succ]
        refine takeH (i := 7) (v := ?_) rfl rfl (by kernel_rfl) (by kernel_rfl) (by kernel_rfl) (fun _ _ _ h => h) hS (by rfl) ?_ ?_
        rotate_left
        · intro w' hSw
          go_simp
          try (with_reducible rfl)
        simp only [List.setIfInBounds_toArray, List.set_cons_zero, List.set_cons_succ]
        refine takeH (i := 8) (v := ?_) rfl rfl (by kernel_rfl) (by kernel_rfl) (by kernel_rfl) (fun _ _ _ h => h) hS (by rfl) ?_ ?_
        rotate_left
        · intro w' hSw
          go_simp
          try (with_reducible rfl)
        simp only [List.setIfInBounds_toArray, List.set_cons_zero, List.set_cons_succ]
        refine takeH (i := 9) (v := ?_) rfl rfl (by kernel_rfl) (by kernel_rfl) (by kernel_rfl) (fun _ _ _ h => h) hS (by rfl) ?_ ?_
        rotate_left
        · intro w' hSw
          have ty0 := (hSw.cell (World.block_lt_of_cell? _ _ y0)).trans y0
          have ty1 := (hSw.cell (World.block_lt_of_cell? _ _ y1)).trans y1
          go_simp
          try (with_reducible rfl)
        simp only [List.setIfInBounds_toArray, List.set_cons_zero, List.set_cons_succ]
        refine takeH (i := 10) (v := ?_) rfl rfl (by kernel_rfl) (by kernel_rfl) (by kernel_rfl) (fun _ _ _ h => h) hS (by rfl) ?_ ?_
        rotate_left
        · intro w' hSw
          have tr0 := (hSw.cell (World.block_lt_of_cell? _ _ r0)).trans r0
          have tr1 := (hSw.cell (World.block_lt_of_cell? _ _ r1)).trans r1
          go_simp
          try (with_reducible rfl)
        simp only [List.setIfInBounds_toArray, List.set_cons_zero, List.set_cons_succ]
        refine takeH (i := 11) (v := ?_) rfl rfl (by kernel_rfl) (by kernel_rfl) (by kernel_rfl) (fun _ _ _ h => h) hS (by rfl) ?_ ?_
        rotate_left
        · intro w' hSw
          have tf10 := (hSw.cell (World.block_lt_of_cell? _ _ f10)).trans f10
          go_simp
          try (with_reducible rfl)
        simp only [List.setIfInBounds_toArray, List.set_cons_zero, List.set_cons_succ]
        refine takeH (i := 12) (v := ?_) rfl rfl (by kernel_rfl) (by kernel_rfl) (by kernel_rfl) (fun _ _ _ h => h) hS (by rfl) ?_ ?_
        rotate_left
        · intro w' hSw
          have tf11 := (hSw.cell (World.block_lt_of_cell? _ _ f11)).trans f11
          go_simp
          try (with_reducible rfl)
        simp only [List.setIfInBounds_toArray, List.set_cons_zero, List.set_cons_succ]
        refine takeH (i := 13) (v := ?_) rfl rfl (by kernel_rfl) (by kernel_rfl) (by kernel_rfl) (fun _ _ _ h => h) hS (by rfl) ?_ ?_
        rotate_left
        · intro w' hSw
          have tf12 := (hSw.cell (World.block_lt_of_cell? _ _ f12)).trans f12
          go_simp
          try (with_reducible rfl)
        simp only [List.setIfInBounds_toArray, List.set_cons_zero, List.set_cons_succ]
        refine wpAnyH_ready (rs := [14, 18, 19]) (by kernel_rfl) (by simp) ?_
        refine AllReadyH.cons rfl (fun K hK => ?_) ?_
        · go_simp
          refine (two_pair.calls _ _ _ _ _ _ _ _ _ _ _ _ _ _ HP.out).mono ?_
          rintro e w' ⟨rfl, hb⟩
          refine hK.out _ _ (below_then hS hS.size hb) (fun hHeld => ?_)
          clear hK K hS hb
          have hS := hHeld
          clear hHeld
          try simp only [Act.put, List.setIfInBounds_toArray, List.set_cons_zero, List.set_cons_succ]
          generalize w' = X at  hS ⊢
          refine takeH (i := 15) (v := ?_) rfl rfl (by kernel_rfl) (by kernel_rfl) (by kernel_rfl) (fun _ _ _ h => h) hS (by rfl) ?_ ?_
          rotate_left
          · intro w' hSw
            go_simp
            try (with_reducible rfl)
          simp only [List.setIfInBounds_toArray, List.set_cons_zero, List.set_cons_succ]
          refine takeH (i := 16) (v := ?_) rfl rfl (by kernel_rfl) (by kernel_rfl) (by kernel_rfl) (fun _ _ _ h => h) hS (by rfl) ?_ ?_
          rotate_left
          · intro w' hSw
            go_simp
            try (with_reducible rfl)
          simp only [List.setIfInBounds_toArray, List.set_cons_zero, List.set_cons_succ]
          refine takeH (i := 17) (v := ?_) rfl rfl (by kernel_rfl) (by kernel_rfl) (by kernel_rfl) (fun _ _ _ h => h) hS (by rfl) ?_ ?_
          rotate_left
          · intro w' hSw
            go_simp
            try (with_reducible rfl)
          simp only [List.setIfInBounds_toArray, List.set_cons_zero, List.set_cons_succ]
          refine wpAnyH_ready (rs := [18, 19]) (by kernel_rfl) (by simp) ?_
          refine AllReadyH.cons rfl (fun K hK => ?_) ?_
          · go_simp
            have bU := blk_new' X (.cells #[.int .i64 0, .int .i64 0] 43)
            have lU : V.heap.size ≤ X.heap.size := hS.size
            refine hK.out _ _ (below_alloc hS _) (fun hHeld => ?_)
            clear hK K hS
            have hS := hHeld
            clear hHeld
            try simp only [Act.put, List.setIfInBounds_toArray, List.set_cons_zero, List.set_cons_succ]
            generalize X.heap.size = U at bU lU ⊢
            generalize X.alloc (.cells #[.int .i64 0, .int .i64 0] 43) = X at bU hS ⊢
            refine wpAnyH_ready (rs := [19]) (by kernel_rfl) (by simp) ?_
            refine AllReadyH.cons rfl (fun K hK => ?_) ?_
            · go_simp
              have bD := blk_new' X (.cells #[.int .i64 0, .int .i64 0] 43)
              have lD : V.heap.size ≤ X.heap.size := hS.size
              have nUD : U ≠ X.heap.size := by have := (Array.getElem?_eq_some_iff.1 bU).1; omega
              replace bU := alloc_keeps bU (.cells #[.int .i64 0, .int .i64 0] 43)
              refine hK.out _ _ (below_alloc hS _) (fun hHeld => ?_)
              clear hK K hS
              have hS := hHeld
              clear hHeld
              try simp only [Act.put, List.setIfInBounds_toArray, List.set_cons_zero, List.set_cons_succ]
              generalize X.heap.size = D at bD lD nUD ⊢
              generalize X.alloc (.cells #[.int .i64 0, .int .i64 0] 43) = X at bD bU hS ⊢
              refine wpAnyH_ready (rs := [20]) (by kernel_rfl) (by simp) ?_
              refine AllReadyH.cons rfl (fun K hK => ?_) ?_
              · have c0 := (blk_cell bU 0).trans rfl
                have g0 := blk_frozen bU 0
                have c1 := (blk_cell bU 1).trans rfl
                have g1 := blk_frozen bU 1
                go_simp
                refine hK.out _ _ (below_set (below_set hS lU) lU) (fun hHeld => ?_)
                clear hK K hS c0 g0 c1 g1
                have hS := hHeld
                clear hHeld
                try simp only [Act.put]
                replace bD := (blk_far (p := ⟨U, 1, none⟩) (blk_far (p := ⟨U, 0, none⟩) bD (show D ≠ U by omega) (.int .i64 u0)) (show D ≠ U by omega) (.int .i64 u1))
                replace bU := (blk_put (blk_put bU 0 (.int .i64 u0) rfl) 1 (.int .i64 u1) rfl)
                generalize (X.setCell ⟨U, 0, none⟩ (.int .i64 u0)).setCell ⟨U, 1, none⟩ (.int .i64 u1) = X at bD bU hS ⊢
                refine wpAnyH_ready (rs := [21]) (by kernel_rfl) (by simp) ?_
                refine AllReadyH.cons rfl (fun K hK => ?_) ?_
                · have c0 := (blk_cell bD 0).trans rfl
                  have g0 := blk_frozen bD 0
                  have c1 := (blk_cell bD 1).trans rfl
                  have g1 := blk_frozen bD 1
                  go_simp
                  refine hK.out _ _ (below_set (below_set hS lD) lD) (fun hHeld => ?_)
                  clear hK K hS c0 g0 c1 g1
                  have hS := hHeld
                  clear hHeld
                  try simp only [Act.put]
                  replace bU := (blk_far (p := ⟨D, 1, none⟩) (blk_far (p := ⟨D, 0, none⟩) bU (show U ≠ D by omega) (.int .i64 d0)) (show U ≠ D by omega) (.int .i64 d1))
                  replace bD := (blk_put (blk_put bD 0 (.int .i64 d0) rfl) 1 (.int .i64 d1) rfl)
                  generalize (X.setCell ⟨D, 0, none⟩ (.int .i64 d0)).setCell ⟨D, 1, none⟩ (.int .i64 d1) = X at bD bU hS ⊢
                  refine wpAnyH_done (by kernel_rfl) ?_ _
                  simp only [Exit.then]
                  exact hcut U D X ⟨bU, bD, hS, lU, lD⟩
                exact AllReadyH.nil
              exact AllReadyH.nil
            exact AllReadyH.nil
          refine AllReadyH.cons rfl (fun K hK => ?_) ?_
          · go_simp
            have bD := blk_new' X (.cells #[.int .i64 0, .int .i64 0] 43)
            have lD : V.heap.size ≤ X.heap.size := hS.size
            refine hK.out _ _ (below_alloc hS _) (fun hHeld => ?_)
            clear hK K hS
            have hS := hHeld
            clear hHeld
            try simp only [Act.put, List.setIfInBounds_toArray, List.set_cons_zero, List.set_cons_succ]
            generalize X.heap.size = D at bD lD ⊢
            generalize X.alloc (.cells #[.int .i64 0, .int .i64 0] 43) = X at bD hS ⊢
            refine wpAnyH_ready (rs := [18]) (by kernel_rfl) (by simp) ?_
            refine AllReadyH.cons rfl (fun K hK => ?_) ?_
            · go_simp
              have bU := blk_new' X (.cells #[.int .i64 0, .int .i64 0] 43)
              have lU : V.heap.size ≤ X.heap.size := hS.size
              have nDU : D ≠ X.heap.size := by have := (Array.getElem?_eq_some_iff.1 bD).1; omega
              replace bD := alloc_keeps bD (.cells #[.int .i64 0, .int .i64 0] 43)
              refine hK.out _ _ (below_alloc hS _) (fun hHeld => ?_)
              clear hK K hS
              have hS := hHeld
              clear hHeld
              try simp only [Act.put, List.setIfInBounds_toArray, List.set_cons_zero, List.set_cons_succ]
              generalize X.heap.size = U at bU lU nDU ⊢
              generalize X.alloc (.cells #[.int .i64 0, .int .i64 0] 43) = X at bD bU hS ⊢
              refine wpAnyH_ready (rs := [20]) (by kernel_rfl) (by simp) ?_
              refine AllReadyH.cons rfl (fun K hK => ?_) ?_
              · have c0 := (blk_cell bU 0).trans rfl
                have g0 := blk_frozen bU 0
                have c1 := (blk_cell bU 1).trans rfl
                have g1 := blk_frozen bU 1
                go_simp
                refine hK.out _ _ (below_set (below_set hS lU) lU) (fun hHeld => ?_)
                clear hK K hS c0 g0 c1 g1
                have hS := hHeld
                clear hHeld
                try simp only [Act.put]
                replace bD := (blk_far (p := ⟨U, 1, none⟩) (blk_far (p := ⟨U, 0, none⟩) bD (show D ≠ U by omega) (.int .i64 u0)) (show D ≠ U by omega) (.int .i64 u1))
                replace bU := (blk_put (blk_put bU 0 (.int .i64 u0) rfl) 1 (.int .i64 u1) rfl)
                generalize (X.setCell ⟨U, 0, none⟩ (.int .i64 u0)).setCell ⟨U, 1, none⟩ (.int .i64 u1) = X at bD bU hS ⊢
                refine wpAnyH_ready (rs := [21]) (by kernel_rfl) (by simp) ?_
                refine AllReadyH.cons rfl (fun K hK => ?_) ?_
                · have c0 := (blk_cell bD 0).trans rfl
                  have g0 := blk_frozen bD 0
                  have c1 := (blk_cell bD 1).trans rfl
                  have g1 := blk_frozen bD 1
                  go_simp
                  refine hK.out _ _ (below_set (below_set hS lD) lD) (fun hHeld => ?_)
                  clear hK K hS c0 g0 c1 g1
                  have hS := hHeld
                  clear hHeld
                  try simp only [Act.put]
                  replace bU := (blk_far (p := ⟨D, 1, none⟩) (blk_far (p := ⟨D, 0, none⟩) bU (show U ≠ D by omega) (.int .i64 d0)) (show U ≠ D by omega) (.int .i64 d1))
                  replace bD := (blk_put (blk_put bD 0 (.int .i64 d0) rfl) 1 (.int .i64 d1) rfl)
                  generalize (X.setCell ⟨D, 0, none⟩ (.int .i64 d0)).setCell ⟨D, 1, none⟩ (.int .i64 d1) = X at bD bU hS ⊢
                  refine wpAnyH_done (by kernel_rfl) ?_ _
                  simp only [Exit.then]
                  exact hcut U D X ⟨bU, bD, hS, lU, lD⟩
                exact AllReadyH.nil
              exact AllReadyH.nil
            exact AllReadyH.nil
          exact AllReadyH.nil
        refine AllReadyH.cons rfl (fun K hK => ?_) ?_
        · go_simp
          have bU := blk_new' X (.cells #[.int .i64 0, .int .i64 0] 43)
          have lU : V.heap.size ≤ X.heap.size := hS.size
          refine hK.out _ _ (below_alloc hS _) (fun hHeld => ?_)
          clear hK K hS
          have hS := hHeld
          clear hHeld
          try simp only [Act.put, List.setIfInBounds_toArray, List.set_cons_zero, List.set_cons_succ]
          generalize X.heap.size = U at bU lU ⊢
          generalize X.alloc (.cells #[.int .i64 0, .int .i64 0] 43) = X at bU hS ⊢
          refine wpAnyH_ready (rs := [14, 19]) (by kernel_rfl) (by simp) ?_
          refine AllReadyH.cons rfl (fun K hK => ?_) ?_
          · go_simp
            refine (two_pair.calls _ _ _ _ _ _ _ _ _ _ _ _ _ _ HP.out).mono ?_
            rintro e w' ⟨rfl, hb⟩
            replace bU := blk_below bU hb
            refine hK.out _ _ (below_then hS hS.size hb) (fun hHeld => ?_)
            clear hK K hS hb
            have hS := hHeld
            clear hHeld
            try simp only [Act.put, List.setIfInBounds_toArray, List.set_cons_zero, List.set_cons_succ]
            generalize w' = X at bU hS ⊢
            refine takeH (i := 15) (v := ?_) rfl rfl (by kernel_rfl) (by kernel_rfl) (by kernel_rfl) (fun _ _ _ h => h) hS (by rfl) ?_ ?_
            rotate_left
            · intro w' hSw
              go_simp
              try (with_reducible rfl)
            simp only [List.setIfInBounds_toArray, List.set_cons_zero, List.set_cons_succ]
            refine takeH (i := 16) (v := ?_) rfl rfl (by kernel_rfl) (by kernel_rfl) (by kernel_rfl) (fun _ _ _ h => h) hS (by rfl) ?_ ?_
            rotate_left
            · intro w' hSw
              go_simp
              try (with_reducible rfl)
            simp only [List.setIfInBounds_toArray, List.set_cons_zero, List.set_cons_succ]
            refine takeH (i := 17) (v := ?_) rfl rfl (by kernel_rfl) (by kernel_rfl) (by kernel_rfl) (fun _ _ _ h => h) hS (by rfl) ?_ ?_
            rotate_left
            · intro w' hSw
              go_simp
              try (with_reducible rfl)
            simp only [List.setIfInBounds_toArray, List.set_cons_zero, List.set_cons_succ]
            refine wpAnyH_ready (rs := [19]) (by kernel_rfl) (by simp) ?_
            refine AllReadyH.cons rfl (fun K hK => ?_) ?_
            · go_simp
              have bD := blk_new' X (.cells #[.int .i64 0, .int .i64 0] 43)
              have lD : V.heap.size ≤ X.heap.size := hS.size
              have nUD : U ≠ X.heap.size := by have := (Array.getElem?_eq_some_iff.1 bU).1; omega
              replace bU := alloc_keeps bU (.cells #[.int .i64 0, .int .i64 0] 43)
              refine hK.out _ _ (below_alloc hS _) (fun hHeld => ?_)
              clear hK K hS
              have hS := hHeld
              clear hHeld
              try simp only [Act.put, List.setIfInBounds_toArray, List.set_cons_zero, List.set_cons_succ]
              generalize X.heap.size = D at bD lD nUD ⊢
              generalize X.alloc (.cells #[.int .i64 0, .int .i64 0] 43) = X at bD bU hS ⊢
              refine wpAnyH_ready (rs := [20]) (by kernel_rfl) (by simp) ?_
              refine AllReadyH.cons rfl (fun K hK => ?_) ?_
              · have c0 := (blk_cell bU 0).trans rfl
                have g0 := blk_frozen bU 0
                have c1 := (blk_cell bU 1).trans rfl
                have g1 := blk_frozen bU 1
                go_simp
                refine hK.out _ _ (below_set (below_set hS lU) lU) (fun hHeld => ?_)
                clear hK K hS c0 g0 c1 g1
                have hS := hHeld
                clear hHeld
                try simp only [Act.put]
                replace bD := (blk_far (p := ⟨U, 1, none⟩) (blk_far (p := ⟨U, 0, none⟩) bD (show D ≠ U by omega) (.int .i64 u0)) (show D ≠ U by omega) (.int .i64 u1))
                replace bU := (blk_put (blk_put bU 0 (.int .i64 u0) rfl) 1 (.int .i64 u1) rfl)
                generalize (X.setCell ⟨U, 0, none⟩ (.int .i64 u0)).setCell ⟨U, 1, none⟩ (.int .i64 u1) = X at bD bU hS ⊢
                refine wpAnyH_ready (rs := [21]) (by kernel_rfl) (by simp) ?_
                refine AllReadyH.cons rfl (fun K hK => ?_) ?_
                · have c0 := (blk_cell bD 0).trans rfl
                  have g0 := blk_frozen bD 0
                  have c1 := (blk_cell bD 1).trans rfl
                  have g1 := blk_frozen bD 1
                  go_simp
                  refine hK.out _ _ (below_set (below_set hS lD) lD) (fun hHeld => ?_)
                  clear hK K hS c0 g0 c1 g1
                  have hS := hHeld
                  clear hHeld
                  try simp only [Act.put]
                  replace bU := (blk_far (p := ⟨D, 1, none⟩) (blk_far (p := ⟨D, 0, none⟩) bU (show U ≠ D by omega) (.int .i64 d0)) (show U ≠ D by omega) (.int .i64 d1))
                  replace bD := (blk_put (blk_put bD 0 (.int .i64 d0) rfl) 1 (.int .i64 d1) rfl)
                  generalize (X.setCell ⟨D, 0, none⟩ (.int .i64 d0)).setCell ⟨D, 1, none⟩ (.int .i64 d1) = X at bD bU hS ⊢
                  refine wpAnyH_done (by kernel_rfl) ?_ _
                  simp only [Exit.then]
                  exact hcut U D X ⟨bU, bD, hS, lU, lD⟩
                exact AllReadyH.nil
              exact AllReadyH.nil
            exact AllReadyH.nil
          refine AllReadyH.cons rfl (fun K hK => ?_) ?_
          · go_simp
            have bD := blk_new' X (.cells #[.int .i64 0, .int .i64 0] 43)
            have lD : V.heap.size ≤ X.heap.size := hS.size
            have nUD : U ≠ X.heap.size := by have := (Array.getElem?_eq_some_iff.1 bU).1; omega
            replace bU := alloc_keeps bU (.cells #[.int .i64 0, .int .i64 0] 43)
            refine hK.out _ _ (below_alloc hS _) (fun hHeld => ?_)
            clear hK K hS
            have hS := hHeld
            clear hHeld
            try simp only [Act.put, List.setIfInBounds_toArray, List.set_cons_zero, List.set_cons_succ]
            generalize X.heap.size = D at bD lD nUD ⊢
            generalize X.alloc (.cells #[.int .i64 0, .int .i64 0] 43) = X at bD bU hS ⊢
            refine wpAnyH_ready (rs := [14]) (by kernel_rfl) (by simp) ?_
            refine AllReadyH.cons rfl (fun K hK => ?_) ?_
            · go_simp
              refine (two_pair.calls _ _ _ _ _ _ _ _ _ _ _ _ _ _ HP.out).mono ?_
              rintro e w' ⟨rfl, hb⟩
              replace bD := blk_below bD hb
              replace bU := blk_below bU hb
              refine hK.out _ _ (below_then hS hS.size hb) (fun hHeld => ?_)
              clear hK K hS hb
              have hS := hHeld
              clear hHeld
              try simp only [Act.put, List.setIfInBounds_toArray, List.set_cons_zero, List.set_cons_succ]
              generalize w' = X at bD bU hS ⊢
              refine takeH (i := 15) (v := ?_) rfl rfl (by kernel_rfl) (by kernel_rfl) (by kernel_rfl) (fun _ _ _ h => h) hS (by rfl) ?_ ?_
              rotate_left
              · intro w' hSw
                go_simp
                try (with_reducible rfl)
              simp only [List.setIfInBounds_toArray, List.set_cons_zero, List.set_cons_succ]
              refine takeH (i := 16) (v := ?_) rfl rfl (by kernel_rfl) (by kernel_rfl) (by kernel_rfl) (fun _ _ _ h => h) hS (by rfl) ?_ ?_
              rotate_left
              · intro w' hSw
                go_simp
                try (with_reducible rfl)
              simp only [List.setIfInBounds_toArray, List.set_cons_zero, List.set_cons_succ]
              refine takeH (i := 17) (v := ?_) rfl rfl (by kernel_rfl) (by kernel_rfl) (by kernel_rfl) (fun _ _ _ h => h) hS (by rfl) ?_ ?_
              rotate_left
              · intro w' hSw
                go_simp
                try (with_reducible rfl)
              simp only [List.setIfInBounds_toArray, List.set_cons_zero, List.set_cons_succ]
              refine wpAnyH_ready (rs := [20]) (by kernel_rfl) (by simp) ?_
              refine AllReadyH.cons rfl (fun K hK => ?_) ?_
              · have c0 := (blk_cell bU 0).trans rfl
                have g0 := blk_frozen bU 0
                have c1 := (blk_cell bU 1).trans rfl
                have g1 := blk_frozen bU 1
                go_simp
                refine hK.out _ _ (below_set (below_set hS lU) lU) (fun hHeld => ?_)
                clear hK K hS c0 g0 c1 g1
                have hS := hHeld
                clear hHeld
                try simp only [Act.put]
                replace bD := (blk_far (p := ⟨U, 1, none⟩) (blk_far (p := ⟨U, 0, none⟩) bD (show D ≠ U by omega) (.int .i64 u0)) (show D ≠ U by omega) (.int .i64 u1))
                replace bU := (blk_put (blk_put bU 0 (.int .i64 u0) rfl) 1 (.int .i64 u1) rfl)
                generalize (X.setCell ⟨U, 0, none⟩ (.int .i64 u0)).setCell ⟨U, 1, none⟩ (.int .i64 u1) = X at bD bU hS ⊢
                refine wpAnyH_ready (rs := [21]) (by kernel_rfl) (by simp) ?_
                refine AllReadyH.cons rfl (fun K hK => ?_) ?_
                · have c0 := (blk_cell bD 0).trans rfl
                  have g0 := blk_frozen bD 0
                  have c1 := (blk_cell bD 1).trans rfl
                  have g1 := blk_frozen bD 1
                  go_simp
                  refine hK.out _ _ (below_set (below_set hS lD) lD) (fun hHeld => ?_)
                  clear hK K hS c0 g0 c1 g1
                  have hS := hHeld
                  clear hHeld
                  try simp only [Act.put]
                  replace bU := (blk_far (p := ⟨D, 1, none⟩) (blk_far (p := ⟨D, 0, none⟩) bU (show U ≠ D by omega) (.int .i64 d0)) (show U ≠ D by omega) (.int .i64 d1))
                  replace bD := (blk_put (blk_put bD 0 (.int .i64 d0) rfl) 1 (.int .i64 d1) rfl)
                  generalize (X.setCell ⟨D, 0, none⟩ (.int .i64 d0)).setCell ⟨D, 1, none⟩ (.int .i64 d1) = X at bD bU hS ⊢
                  refine wpAnyH_done (by kernel_rfl) ?_ _
                  simp only [Exit.then]
                  exact hcut U D X ⟨bU, bD, hS, lU, lD⟩
                exact AllReadyH.nil
              exact AllReadyH.nil
            exact AllReadyH.nil
          exact AllReadyH.nil
        refine AllReadyH.cons rfl (fun K hK => ?_) ?_
        · go_simp
          have bD := blk_new' X (.cells #[.int .i64 0, .int .i64 0] 43)
          have lD : V.heap.size ≤ X.heap.size := hS.size
          refine hK.out _ _ (below_alloc hS _) (fun hHeld => ?_)
          clear hK K hS
          have hS := hHeld
          clear hHeld
          try simp only [Act.put, List.setIfInBounds_toArray, List.set_cons_zero, List.set_cons_succ]
          generalize X.heap.size = D at bD lD ⊢
          generalize X.alloc (.cells #[.int .i64 0, .int .i64 0] 43) = X at bD hS ⊢
          refine wpAnyH_ready (rs := [14, 18]) (by kernel_rfl) (by simp) ?_
          refine AllReadyH.cons rfl (fun K hK => ?_) ?_
          · go_simp
            refine (two_pair.calls _ _ _ _ _ _ _ _ _ _ _ _ _ _ HP.out).mono ?_
            rintro e w' ⟨rfl, hb⟩
            replace bD := blk_below bD hb
            refine hK.out _ _ (below_then hS hS.size hb) (fun hHeld => ?_)
            clear hK K hS hb
            have hS := hHeld
            clear hHeld
            try simp only [Act.put, List.setIfInBounds_toArray, List.set_cons_zero, List.set_cons_succ]
            generalize w' = X at bD hS ⊢
            refine takeH (i := 15) (v := ?_) rfl rfl (by kernel_rfl) (by kernel_rfl) (by kernel_rfl) (fun _ _ _ h => h) hS (by rfl) ?_ ?_
            rotate_left
            · intro w' hSw
              go_simp
              try (with_reducible rfl)
            simp only [List.setIfInBounds_toArray, List.set_cons_zero, List.set_cons_succ]
            refine takeH (i := 16) (v := ?_) rfl rfl (by kernel_rfl) (by kernel_rfl) (by kernel_rfl) (fun _ _ _ h => h) hS (by rfl) ?_ ?_
            rotate_left
            · intro w' hSw
              go_simp
              try (with_reducible rfl)
            simp only [List.setIfInBounds_toArray, List.set_cons_zero, List.set_cons_succ]
            refine takeH (i := 17) (v := ?_) rfl rfl (by kernel_rfl) (by kernel_rfl) (by kernel_rfl) (fun _ _ _ h => h) hS (by rfl) ?_ ?_
            rotate_left
            · intro w' hSw
              go_simp
              try (with_reducible rfl)
            simp only [List.setIfInBounds_toArray, List.set_cons_zero, List.set_cons_succ]
            refine wpAnyH_ready (rs := [18]) (by kernel_rfl) (by simp) ?_
            refine AllReadyH.cons rfl (fun K hK => ?_) ?_
            · go_simp
              have bU := blk_new' X (.cells #[.int .i64 0, .int .i64 0] 43)
              have lU : V.heap.size ≤ X.heap.size := hS.size
              have nDU : D ≠ X.heap.size := by have := (Array.getElem?_eq_some_iff.1 bD).1; omega
              replace bD := alloc_keeps bD (.cells #[.int .i64 0, .int .i64 0] 43)
              refine hK.out _ _ (below_alloc hS _) (fun hHeld => ?_)
              clear hK K hS
              have hS := hHeld
              clear hHeld
              try simp only [Act.put, List.setIfInBounds_toArray, List.set_cons_zero, List.set_cons_succ]
              generalize X.heap.size = U at bU lU nDU ⊢
              generalize X.alloc (.cells #[.int .i64 0, .int .i64 0] 43) = X at bD bU hS ⊢
              refine wpAnyH_ready (rs := [20]) (by kernel_rfl) (by simp) ?_
              refine AllReadyH.cons rfl (fun K hK => ?_) ?_
              · have c0 := (blk_cell bU 0).trans rfl
                have g0 := blk_frozen bU 0
                have c1 := (blk_cell bU 1).trans rfl
                have g1 := blk_frozen bU 1
                go_simp
                refine hK.out _ _ (below_set (below_set hS lU) lU) (fun hHeld => ?_)
                clear hK K hS c0 g0 c1 g1
                have hS := hHeld
                clear hHeld
                try simp only [Act.put]
                replace bD := (blk_far (p := ⟨U, 1, none⟩) (blk_far (p := ⟨U, 0, none⟩) bD (show D ≠ U by omega) (.int .i64 u0)) (show D ≠ U by omega) (.int .i64 u1))
                replace bU := (blk_put (blk_put bU 0 (.int .i64 u0) rfl) 1 (.int .i64 u1) rfl)
                generalize (X.setCell ⟨U, 0, none⟩ (.int .i64 u0)).setCell ⟨U, 1, none⟩ (.int .i64 u1) = X at bD bU hS ⊢
                refine wpAnyH_ready (rs := [21]) (by kernel_rfl) (by simp) ?_
                refine AllReadyH.cons rfl (fun K hK => ?_) ?_
                · have c0 := (blk_cell bD 0).trans rfl
                  have g0 := blk_frozen bD 0
                  have c1 := (blk_cell bD 1).trans rfl
                  have g1 := blk_frozen bD 1
                  go_simp
                  refine hK.out _ _ (below_set (below_set hS lD) lD) (fun hHeld => ?_)
                  clear hK K hS c0 g0 c1 g1
                  have hS := hHeld
                  clear hHeld
                  try simp only [Act.put]
                  replace bU := (blk_far (p := ⟨D, 1, none⟩) (blk_far (p := ⟨D, 0, none⟩) bU (show U ≠ D by omega) (.int .i64 d0)) (show U ≠ D by omega) (.int .i64 d1))
                  replace bD := (blk_put (blk_put bD 0 (.int .i64 d0) rfl) 1 (.int .i64 d1) rfl)
                  generalize (X.setCell ⟨D, 0, none⟩ (.int .i64 d0)).setCell ⟨D, 1, none⟩ (.int .i64 d1) = X at bD bU hS ⊢
                  refine wpAnyH_done (by kernel_rfl) ?_ _
                  simp only [Exit.then]
                  exact hcut U D X ⟨bU, bD, hS, lU, lD⟩
                exact AllReadyH.nil
              exact AllReadyH.nil
            exact AllReadyH.nil
          refine AllReadyH.cons rfl (fun K hK => ?_) ?_
          · go_simp
            have bU := blk_new' X (.cells #[.int .i64 0, .int .i64 0] 43)
            have lU : V.heap.size ≤ X.heap.size := hS.size
            have nDU : D ≠ X.heap.size := by have := (Array.getElem?_eq_some_iff.1 bD).1; omega
            replace bD := alloc_keeps bD (.cells #[.int .i64 0, .int .i64 0] 43)
            refine hK.out _ _ (below_alloc hS _) (fun hHeld => ?_)
            clear hK K hS
            have hS := hHeld
            clear hHeld
            try simp only [Act.put, List.setIfInBounds_toArray, List.set_cons_zero, List.set_cons_succ]
            generalize X.heap.size = U at bU lU nDU ⊢
            generalize X.alloc (.cells #[.int .i64 0, .int .i64 0] 43) = X at bD bU hS ⊢
            refine wpAnyH_ready (rs := [14]) (by kernel_rfl) (by simp) ?_
            refine AllReadyH.cons rfl (fun K hK => ?_) ?_
            · go_simp
              refine (two_pair.calls _ _ _ _ _ _ _ _ _ _ _ _ _ _ HP.out).mono ?_
              rintro e w' ⟨rfl, hb⟩
              replace bD := blk_below bD hb
              replace bU := blk_below bU hb
              refine hK.out _ _ (below_then hS hS.size hb) (fun hHeld => ?_)
              clear hK K hS hb
              have hS := hHeld
              clear hHeld
              try simp only [Act.put, List.setIfInBounds_toArray, List.set_cons_zero, List.set_cons_succ]
              generalize w' = X at bD bU hS ⊢
              refine takeH (i := 15) (v := ?_) rfl rfl (by kernel_rfl) (by kernel_rfl) (by kernel_rfl) (fun _ _ _ h => h) hS (by rfl) ?_ ?_
              rotate_left
              · intro w' hSw
                go_simp
                try (with_reducible rfl)
              simp only [List.setIfInBounds_toArray, List.set_cons_zero, List.set_cons_succ]
              refine takeH (i := 16) (v := ?_) rfl rfl (by kernel_rfl) (by kernel_rfl) (by kernel_rfl) (fun _ _ _ h => h) hS (by rfl) ?_ ?_
              rotate_left
              · intro w' hSw
                go_simp
                try (with_reducible rfl)
              simp only [List.setIfInBounds_toArray, List.set_cons_zero, List.set_cons_succ]
              refine takeH (i := 17) (v := ?_) rfl rfl (by kernel_rfl) (by kernel_rfl) (by kernel_rfl) (fun _ _ _ h => h) hS (by rfl) ?_ ?_
              rotate_left
              · intro w' hSw
                go_simp
                try (with_reducible rfl)
              simp only [List.setIfInBounds_toArray, List.set_cons_zero, List.set_cons_succ]
              refine wpAnyH_ready (rs := [20]) (by kernel_rfl) (by simp) ?_
              refine AllReadyH.cons rfl (fun K hK => ?_) ?_
              · have c0 := (blk_cell bU 0).trans rfl
                have g0 := blk_frozen bU 0
                have c1 := (blk_cell bU 1).trans rfl
                have g1 := blk_frozen bU 1
                go_simp
                refine hK.out _ _ (below_set (below_set hS lU) lU) (fun hHeld => ?_)
                clear hK K hS c0 g0 c1 g1
                have hS := hHeld
                clear hHeld
                try simp only [Act.put]
                replace bD := (blk_far (p := ⟨U, 1, none⟩) (blk_far (p := ⟨U, 0, none⟩) bD (show D ≠ U by omega) (.int .i64 u0)) (show D ≠ U by omega) (.int .i64 u1))
                replace bU := (blk_put (blk_put bU 0 (.int .i64 u0) rfl) 1 (.int .i64 u1) rfl)
                generalize (X.setCell ⟨U, 0, none⟩ (.int .i64 u0)).setCell ⟨U, 1, none⟩ (.int .i64 u1) = X at bD bU hS ⊢
                refine wpAnyH_ready (rs := [21]) (by kernel_rfl) (by simp) ?_
                refine AllReadyH.cons rfl (fun K hK => ?_) ?_
                · have c0 := (blk_cell bD 0).trans rfl
                  have g0 := blk_frozen bD 0
                  have c1 := (blk_cell bD 1).trans rfl
                  have g1 := blk_frozen bD 1
                  go_simp
                  refine hK.out _ _ (below_set (below_set hS lD) lD) (fun hHeld => ?_)
                  clear hK K hS c0 g0 c1 g1
                  have hS := hHeld
                  clear hHeld
                  try simp only [Act.put]
                  replace bU := (blk_far (p := ⟨D, 1, none⟩) (blk_far (p := ⟨D, 0, none⟩) bU (show U ≠ D by omega) (.int .i64 d0)) (show U ≠ D by omega) (.int .i64 d1))
                  replace bD := (blk_put (blk_put bD 0 (.int .i64 d0) rfl) 1 (.int .i64 d1) rfl)
                  generalize (X.setCell ⟨D, 0, none⟩ (.int .i64 d0)).setCell ⟨D, 1, none⟩ (.int .i64 d1) = X at bD bU hS ⊢
                  refine wpAnyH_done (by kernel_rfl) ?_ _
                  simp only [Exit.then]
                  exact hcut U D X ⟨bU, bD, hS, lU, lD⟩
                exact AllReadyH.nil
              exact AllReadyH.nil
            exact AllReadyH.nil
          exact AllReadyH.nil
        exact AllReadyH.nil
      case tail2 =>
        rintro U D X ⟨bU, bD, hS, lU, lD⟩
        try dsimp only
        go_at_K
        have gU0 : X.cell? ⟨U, 0, none⟩ = some (.int .i64 u0) := (blk_cell bU 0).trans rfl
        have gU1 : X.cell? ⟨U, 1, none⟩ = some (.int .i64 u1) := (blk_cell bU 1).trans rfl
        have gD0 : X.cell? ⟨D, 0, none⟩ = some (.int .i64 d0) := (blk_cell bD 0).trans rfl
        have gD1 : X.cell? ⟨D, 1, none⟩ = some (.int .i64 d1) := (blk_cell bD 1).trans rfl
        have hVX := Aside0.mk hS
        have hWX : Aside0 (Below W.heap.size W X) := ⟨below_then hWV.out hWV.out.size hS⟩
        clear hS bU bD
        have HX := KEY.out X hWX.out
        obtain ⟨g20, g9, hRX⟩ := HX
        have HRX := Aside0.mk hRX
        have nU : some U ≠ some G := by intro h; cases h; have := hWV.out.size; have := hGW.out; omega
        have nD : some D ≠ some G := by intro h; cases h; have := hWV.out.size; have := hGW.out; omega
        clear hRX KEY f7 f9 f10 f11 f12 r0 r1 x0 x1 y0 y1
        gi_wp2_with (fail)
        refine wpIn_round_held (S := fun w' => X.grownBy w' (some G)) (by kernel_rfl) (by rintro ⟨_, _, h⟩; exact h) (by kernel_rfl) (grownBy_drew_ X _) (fun hS => ?_)
        refine takeH (i := 0) (v := ?_) rfl rfl (by kernel_rfl) (by kernel_rfl) (by kernel_rfl) (fun _ _ _ h => h) hS (by rfl) ?_ ?_
        rotate_left
        · intro w' hSw
          have tg20 := hSw.cell g20 nO
          go_simp
          try (with_reducible rfl)
        simp only [List.setIfInBounds_toArray, List.set_cons_zero, List.set_cons_succ]
        refine takeH (i := 1) (v := ?_) rfl rfl (by kernel_rfl) (by kernel_rfl) (by kernel_rfl) (fun _ _ _ h => h) hS (by rfl) ?_ ?_
        rotate_left
        · intro w' hSw
          go_simp
          try (with_reducible rfl)
        simp only [List.setIfInBounds_toArray, List.set_cons_zero, List.set_cons_succ]
        refine takeH (i := 2) (v := ?_) rfl rfl (by kernel_rfl) (by kernel_rfl) (by kernel_rfl) (fun _ _ _ h => h) hS (by rfl) ?_ ?_
        rotate_left
        · intro w' hSw
          have tg20 := hSw.cell g20 nO
          go_simp
          try (with_reducible rfl)
        simp only [List.setIfInBounds_toArray, List.set_cons_zero, List.set_cons_succ]
        refine takeH (i := 3) (v := ?_) rfl rfl (by kernel_rfl) (by kernel_rfl) (by kernel_rfl) (fun _ _ _ h => h) hS (by rfl) ?_ ?_
        rotate_left
        · intro w' hSw
          go_simp
          try (with_reducible rfl)
        simp only [List.setIfInBounds_toArray, List.set_cons_zero, List.set_cons_succ]
        refine takeH (i := 4) (v := ?_) rfl rfl (by kernel_rfl) (by kernel_rfl) (by kernel_rfl) (fun _ _ _ h => h) hS (by rfl) ?_ ?_
        rotate_left
        · intro w' hSw
          have tg9 := hSw.cell g9 nH
          go_simp
          try (with_reducible rfl)
        simp only [List.setIfInBounds_toArray, List.set_cons_zero, List.set_cons_succ]
        refine takeH (i := 5) (v := ?_) rfl rfl (by kernel_rfl) (by kernel_rfl) (by kernel_rfl) (fun _ _ _ h => h) hS (by rfl) ?_ ?_
        rotate_left
        · intro w' hSw
          go_simp
          try (with_reducible rfl)
        simp only [List.setIfInBounds_toArray, List.set_cons_zero, List.set_cons_succ]
        refine takeH (i := 6) (v := ?_) rfl rfl (by kernel_rfl) (by kernel_rfl) (by kernel_rfl) (fun _ _ _ h => h) hS (by rfl) ?_ ?_
        rotate_left
        · intro w' hSw
          have tgU0 := hSw.cell gU0 nU
          have tgU1 := hSw.cell gU1 nU
          go_simp
          try (with_reducible rfl)
        simp only [List.setIfInBounds_toArray, List.set_cons_zero, List.set_cons_succ]
        refine takeH (i := 7) (v := ?_) rfl rfl (by kernel_rfl) (by kernel_rfl) (by kernel_rfl) (fun _ _ _ h => h) hS (by rfl) ?_ ?_
        rotate_left
        · intro w' hSw
          have tgD0 := hSw.cell gD0 nD
          have tgD1 := hSw.cell gD1 nD
          go_simp
          try (with_reducible rfl)
        simp only [List.setIfInBounds_toArray, List.set_cons_zero, List.set_cons_succ]
        refine takeH (i := 8) (v := ?_) rfl rfl (by kernel_rfl) (by kernel_rfl) (by kernel_rfl) (fun _ _ _ h => h) hS (by rfl) ?_ ?_
        rotate_left
        · intro w' hSw
          go_simp
          try (with_reducible rfl)
        simp only [List.setIfInBounds_toArray, List.set_cons_zero, List.set_cons_succ]
        have HRY := HRX.out
        have HLN := HLEN.out
        generalize hacc : (pre.map Subtype.val).foldl (two_Pass.step l0 l1 a2 b a4 a5 false) l0 = acc at HRY HLN
        have HACC := Aside0.mk hacc
        clear hacc
        obtain ⟨c0, c1', g0, g1⟩ := R43_cell HRY HLN.symm i.toNat (by omega)
        obtain ⟨HRZ, HGZ⟩ := R43_set HRY HLN.symm i.toNat ⟨u0, u1⟩
        have HRZ1 := Aside0.mk (Kd.R_drew HRZ)
        have HGZ1 := Aside0.mk (HGZ.trans (grownBy_drew_ _ (some G)))
        clear HRX HRY HRZ HGZ
        refine wpAnyH_ready (rs := [9]) (by kernel_rfl) (by simp) ?_
        refine AllReadyH.cons rfl (fun K hK => ?_) ?_
        · go_simp
          refine hK.out _ _ HGZ1.out (fun hHeld => ?_)
          clear hK K hS c0 c1' g0 g1
          have hS := hHeld
          clear hHeld
          try simp only [Act.put]
          have HLZ : (acc.set i.toNat ⟨u0, u1⟩).length = l0.length := by rw [List.length_set]; exact HLN
          dsimp only at HRZ1 HGZ1
          generalize ((X.setCell ⟨G, i.toNat * 2, none⟩ (.int .i64 u0)).setCell ⟨G, i.toNat * 2 + 1, none⟩ (.int .i64 u1)).drew = Y at HRZ1 HGZ1 hS ⊢
          have HRY := HRZ1.out
          obtain ⟨c0, c1', g0, g1⟩ := R43_cell HRY HLZ.symm j.toNat (by omega)
          obtain ⟨HRZ, HGZ⟩ := R43_set HRY HLZ.symm j.toNat ⟨d0, d1⟩
          have HRZ2 := Aside0.mk HRZ
          have HGZ2 := Aside0.mk HGZ
          clear HRZ1 HRY HRZ HGZ
          refine takeH (i := 10) (v := ?_) rfl rfl (by kernel_rfl) (by kernel_rfl) (by kernel_rfl) (fun _ _ _ h => h) hS (by rfl) ?_ ?_
          rotate_left
          · intro w' hSw
            go_simp
            try (with_reducible rfl)
          simp only [List.setIfInBounds_toArray, List.set_cons_zero, List.set_cons_succ]
          refine wpAnyH_ready (rs := [11]) (by kernel_rfl) (by simp) ?_
          refine AllReadyH.cons rfl (fun K hK => ?_) ?_
          · go_simp
            refine hK.out _ _ (HGZ1.out.trans HGZ2.out) (fun hHeld => ?_)
            clear hK K hS c0 c1' g0 g1 hHeld
            try simp only [Act.put]
            refine wpAnyH_done (by kernel_rfl) ?_ _
            have hgZ := (grown_of_below hWX.out (some G)).trans (HGZ1.out.trans HGZ2.out)
            refine ⟨KeepsOthers.of_grownBy hgZ (fun z o e hz => ?_), ?_, HGW.out.trans hgZ, ?_⟩
            · cases e
              obtain ⟨cs, hcs⟩ := HGC.out
              rw [hcs] at hz
              cases hz
              rfl
            · intro z hz c t fr hc
              refine blk_grown hc hgZ ?_
              intro e
              cases e
              have := HG.out
              omega
            · have hstep : two_Pass.step l0 l1 a2 b a4 a5 false acc (i, k) = (acc.set i.toNat ⟨u0, u1⟩).set j.toNat ⟨d0, d1⟩ := by
                unfold two_Pass.step
                dsimp only
                rw [HJ.out, HROOT.out, HQ.out]
              rw [List.map_append, List.foldl_append]
              show Kd.R k43 43 _ _ _ _ (two_Pass.step l0 l1 a2 b a4 a5 false ((pre.map Subtype.val).foldl (two_Pass.step l0 l1 a2 b a4 a5 false) l0) (i, k))
              rw [HACC.out, hstep]
              exact HRZ2.out
          exact AllReadyH.nil
        exact AllReadyH.nil

  case done =>
    rintro D ys W hD hS ⟨hg, hRW⟩ hK
    have hS' : (ys.map Subtype.val).foldl (two_Pass.step l0 l1 a2 b a4 a5 a6) l0 = r := by rw [← HR.out, hS]; rfl
    rw [hS'] at hRW
    have k0 : W.cell? ⟨w4.heap.size, 0, none⟩ = some (.slice (some ⟨G, 0, none⟩) l0.length cap) := (blk_cell (blk_grown DO.out hg (by intro h; cases h; have := HG.out; omega)) 0).trans rfl
    have HF := Aside0.mk ((own_pass (base := w.heap.size) (cap := cap) (n := l0.length) (by rw [HS5.out]; have := HG.out; omega) (fun _ : Unit => r)).putObj (s := ()) (.deferred none) ⟨hg, hRW⟩ hD hK rfl)
    have HK := Aside0.mk hK
    clear hg hRW hS hS' hK hD
    gi_wp2
    refine ⟨by simp, .inl ⟨_, _, rfl, run_takeDeferred HK.out, ?_⟩⟩
    refine ⟨.tuple #[.slice (some ⟨G, 0, none⟩) l0.length cap, .int .i64 0], by simp [results, Try.results25, go_sem], _, rfl, HF.out.2, ?_⟩
    exact HB5.out.grown HF.out.1 HB5.out.size (fun k e => by cases e; have := HG.out; have := HZ3.out; omega)
  case stop =>
    rintro D c pre W _ _ h _
    exact h.elim
theorem two_Pass.nilR (w : World) (b : Nat) : Kd.R k43 43 w b (fun _ => True) (.slice none 0 0) [] := Kd.R_nil _ _ _ _ _
theorem two_Pass.calls (A0 : Option Addr) (c0 : Nat) (l0 : List S43) (A1 : Option Addr) (c1 : Nat) (l1 : List S43) (a2 a3 a4 a5 : Int) (a6 : Bool) (r1 : List S43) (r2 : Int) (w : World) (hr0 : Kd.C k43 w A0 l0.length l0) (hc0 : l0.length ≤ c0) (hr1 : Kd.C k43 w A1 l1.length l1) (hc1 : l1.length ≤ c1) (h : two_Pass.f l0 l1 a2 a3 a4 a5 a6 = some (r1, r2)) :
    Calls Try.prog 25 #[.slice A0 l0.length c0, .slice A1 l1.length c1, .int .i64 a2, .int .i64 a3, .int .i64 a4, .int .i64 a5, .bool a6] w fun e w' => ∃ v0_ : Value, e = .returned (.tuple #[v0_, .int .i64 r2]) ∧ Kd.R k43 43 w' w.heap.size (fun _ => True) v0_ r1 ∧ Below w.heap.size w w' := by
  have none_ : ∀ {k : Int}, some (([] : List S43), k) = some (r1, r2) → Calls Try.prog 25 #[.slice A0 l0.length c0, .slice A1 l1.length c1, .int .i64 a2, .int .i64 a3, .int .i64 a4, .int .i64 a5, .bool a6] w (fun e w' => e = .returned (.tuple #[.slice none 0 0, .int .i64 k]) ∧ Below w.heap.size w w') →
      Calls Try.prog 25 #[.slice A0 l0.length c0, .slice A1 l1.length c1, .int .i64 a2, .int .i64 a3, .int .i64 a4, .int .i64 a5, .bool a6] w fun e w' => ∃ v0_ : Value, e = .returned (.tuple #[v0_, .int .i64 r2]) ∧ Kd.R k43 43 w' w.heap.size (fun _ => True) v0_ r1 ∧ Below w.heap.size w w' := by
    intro k hk hc
    simp only [Option.some.injEq, Prod.mk.injEq] at hk
    obtain ⟨rfl, rfl⟩ := hk
    refine hc.mono ?_
    rintro e w' ⟨rfl, hb⟩
    exact ⟨_, rfl, two_Pass.nilR _ _, hb⟩
  unfold two_Pass.f at h
  by_cases h0 : l0.length = 4 ∨ l0.length = 8 ∨ l0.length = 16 ∨ l0.length = 32 ∨ l0.length = 64
  · rw [if_neg (not_not_intro h0)] at h
    by_cases h1 : l1.length = l0.length
    · rw [if_neg (not_not_intro h1)] at h
      by_cases h2 : a2 < 1
      · rw [if_pos h2] at h
        exact none_ h (two_Pass.less A0 c0 l0 A1 c1 l1 a2 a3 a4 a5 a6 w h0 h1 h2)
      rw [if_neg h2] at h
      have h2 : 1 ≤ a2 := by omega
      by_cases h3 : (l0.length : Int) ≤ a2
      · rw [if_pos h3] at h
        exact none_ h (two_Pass.great A0 c0 l0 A1 c1 l1 a2 a3 a4 a5 a6 w h0 h1 h2 h3)
      rw [if_neg h3] at h
      have h3 : a2 < (l0.length : Int) := by omega
      by_cases h4 : bits BinOp.and IntKind.i64 a2 (a2 - 1) = 0
      · rw [if_neg (not_not_intro h4)] at h
        obtain ⟨ok, h6, hh⟩ := Option.bind_eq_some_iff.mp h
        clear h
        cases ok with
        | false =>
          rw [if_pos rfl] at hh
          exact none_ hh (two_Pass.sets A0 c0 l0 A1 c1 l1 a2 a3 a4 a5 a6 w h0 h1 h2 h3 h4 h6)
        | true =>
          rw [if_neg (by simp)] at hh
          cases h7 : l0.any farB with
          | true =>
            rw [h7, if_pos rfl] at hh
            exact none_ hh (two_Pass.far A0 c0 l0 A1 c1 l1 a2 a3 a4 a5 a6 w h0 h1 h2 h3 h4 h6 h7 hr0)
          | false =>
            rw [h7, if_neg (by simp)] at hh
            cases h8 : l1.any (greatB a3.toNat) with
            | true =>
              rw [h8, if_pos rfl] at hh
              exact none_ hh (two_Pass.wide A0 c0 l0 A1 c1 l1 a2 a3 a4 a5 a6 w h0 h1 h2 h3 h4 h6 h7 h8 hr0 hr1)
            | false =>
              rw [h8, if_neg (by simp)] at hh
              simp only [Option.some.injEq, Prod.mk.injEq] at hh
              obtain ⟨hq, rfl⟩ := hh
              exact two_Pass.main A0 c0 l0 A1 c1 l1 a2 a3 a4 a5 a6 w r1 h0 h1 h2 h3 h4 h6 h7 h8 hr0 hr1 hq
      · rw [if_pos h4] at h
        exact none_ h (two_Pass.half A0 c0 l0 A1 c1 l1 a2 a3 a4 a5 a6 w h0 h1 h2 h3 h4)
    · rw [if_pos h1] at h
      exact none_ h (two_Pass.table A0 c0 l0 A1 c1 l1 a2 a3 a4 a5 a6 w h0 h1)
  · rw [if_pos h0] at h
    exact none_ h (two_Pass.size A0 c0 l0 A1 c1 l1 a2 a3 a4 a5 a6 w h0)

end Go.Proofs.Ytmglkelmdcpinaa.G
/- The equality of structs of the translation, as one Bool. Conditions: none beyond the theorem's own. Written by a program (gprint.py). -/
namespace Go.Proofs.Ytmglkelmdcpinaa.G
open Go.RowKit Go.Proofs.YtmglkelmdcpinaaW.PrintWords Go.Proofs.YtmglkelmdcpinaaW.PrintLast Go.Proofs.YtmglkelmdcpinaaW.PrintMore
attribute [local go_sem] max2_int min2_int max_two min_two max_three min_three max_four min_four   -- for this text's walks alone
set_option linter.unusedVariables false
set_option linter.unusedSimpArgs false

theorem eqA43 (d : Nat) (w : World) (x0 y0 : Int) (x1 y1 : Int) :
    (Op.equalIn (d + 2) 43 (.agg #[.int .i64 x0, .int .i64 x1]) (.agg #[.int .i64 y0, .int .i64 y1])).run Try.prog w = .ok (x0 == y0 && (x1 == y1)) w := by
  refine eqA_of Try.underlying43 (by kernel_rfl) ?_
  refine eqf_cons (by rfl) (by go_simp; rfl) (by go_simp; rfl) (by go_simp) ?_
  exact eqf_last (by rfl) (by go_simp; rfl) (by go_simp; rfl) (by go_simp)
end Go.Proofs.Ytmglkelmdcpinaa.G
/- The contract of the function two_Pair (number 88 of the translation): what its call computes, as a plain Lean function; memory that was there stays as it was. Conditions: none beyond the theorem's own. Written by a program (gprint.py). -/
namespace Go.Proofs.Ytmglkelmdcpinaa.G
open Go.RowKit Go.Proofs.YtmglkelmdcpinaaW.PrintWords Go.Proofs.YtmglkelmdcpinaaW.PrintLast Go.Proofs.YtmglkelmdcpinaaW.PrintMore
attribute [local go_sem] max2_int min2_int max_two min_two max_three min_three max_four min_four   -- for this text's walks alone
set_option linter.unusedVariables false
set_option linter.unusedSimpArgs false

/-! ### two_Pair: function 88 -/
def two_Pair.f (a0_0 a0_1 a1_0 a1_1 a2_0 a2_1 a3 a4 a5 : Int) : Option (Int × Int × Int × Int × Int) := if a0_0 = 3 ∧ a0_1 = 0 ∧ a1_0 = 1 ∧ a1_1 = 0 ∧ a2_0 = 1 ∧ a2_1 = 0 ∧ a3 = 0 ∧ a4 = 1 ∧ a5 = 0 then some (2, 0, 1, 0, 0) else none
set_option maxHeartbeats 8000000 in
set_option maxRecDepth 100000 in
theorem two_Pair.calls (a0_0 a0_1 a1_0 a1_1 a2_0 a2_1 a3 a4 a5 : Int) (r1 r2 r3 r4 r5 : Int) (w : World) (h : two_Pair.f a0_0 a0_1 a1_0 a1_1 a2_0 a2_1 a3 a4 a5 = some (r1, r2, r3, r4, r5)) :
    Calls Try.prog 88 #[.agg #[.int .i64 a0_0, .int .i64 a0_1], .agg #[.int .i64 a1_0, .int .i64 a1_1], .agg #[.int .i64 a2_0, .int .i64 a2_1], .int .i64 a3, .int .i64 a4, .int .i64 a5] w fun e w' => e = .returned (.tuple #[.agg #[.int .i64 r1, .int .i64 r2], .agg #[.int .i64 r3, .int .i64 r4], .int .i64 r5]) ∧ Below w.heap.size w w' := by
  unfold two_Pair.f at h
  by_cases hc : a0_0 = 3 ∧ a0_1 = 0 ∧ a1_0 = 1 ∧ a1_1 = 0 ∧ a2_0 = 1 ∧ a2_1 = 0 ∧ a3 = 0 ∧ a4 = 1 ∧ a5 = 0
  case neg => rw [if_neg hc] at h; cases h
  rw [if_pos hc] at h
  simp only [Option.some.injEq, Prod.mk.injEq] at h
  obtain ⟨rfl, rfl, rfl, rfl, rfl⟩ := h
  obtain ⟨rfl, rfl, rfl, rfl, rfl, rfl, rfl, rfl, rfl⟩ := hc
  have S1 : Aside0 (two_settings.f 0 1 0 = some true) := ⟨by decide +kernel⟩
  have N1 : Aside0 (two_narrow.f 3 0 2147483648 = some true) := ⟨by decide +kernel⟩
  have N2 : Aside0 (two_narrow.f 1 0 2147483648 = some true) := ⟨by decide +kernel⟩
  have N3 : Aside0 (two_narrow.f 1 0 (IntKind.i64.wrap 1) = some true) := ⟨by decide +kernel⟩
  have P1 : Aside0 (two_pair.f 3 0 1 0 1 0 0 1 0 = some (2, 0, 1, 0)) := ⟨by decide +kernel⟩
  go_enter Try.func88, Try.ntmps88
  go_wp2_with (fail)
  obtain ⟨b0, b1, b2, b3, b4, hB, hz⟩ := boxes5 w (.cells #[.int .i64 3, .int .i64 0] 43) (.cells #[.int .i64 1, .int .i64 0] 43) (.cells #[.int .i64 1, .int .i64 0] 43) (.cells #[.int .i64 0, .int .i64 0] 43) (.cells #[.int .i64 0, .int .i64 0] 43)
  refine (two_settings.calls 0 1 0 true _ S1.out).mono ?_
  rintro e V ⟨rfl, hb1⟩
  have B0 := Aside0.mk (blk_below b0 hb1)
  have B1 := Aside0.mk (blk_below b1 hb1)
  have B2 := Aside0.mk (blk_below b2 hb1)
  have B3 := Aside0.mk (blk_below b3 hb1)
  have B4 := Aside0.mk (blk_below b4 hb1)
  have HV := Aside0.mk (below_then hB (by omega) hb1)
  have HZ : Aside0 (w.heap.size + 5 ≤ V.heap.size) := ⟨Nat.le_trans hz hb1.size⟩
  clear b0 b1 b2 b3 b4 hB hz hb1
  go_wp2_with (fail)
  have x0 : V.cell? ⟨w.heap.size, 0, none⟩ = some (.int .i64 3) := (blk_cell B0.out 0).trans rfl
  have x1 : V.cell? ⟨w.heap.size, 1, none⟩ = some (.int .i64 0) := (blk_cell B0.out 1).trans rfl
  have y0 : V.cell? ⟨w.heap.size + 1, 0, none⟩ = some (.int .i64 1) := (blk_cell B1.out 0).trans rfl
  have y1 : V.cell? ⟨w.heap.size + 1, 1, none⟩ = some (.int .i64 0) := (blk_cell B1.out 1).trans rfl
  have z0 : V.cell? ⟨w.heap.size + 1 + 1, 0, none⟩ = some (.int .i64 1) := (blk_cell B2.out 0).trans rfl
  have z1 : V.cell? ⟨w.heap.size + 1 + 1, 1, none⟩ = some (.int .i64 0) := (blk_cell B2.out 1).trans rfl
  refine wp_region_held_drew (S := fun w' => Below V.heap.size V w') (by kernel_rfl) (below_drew1 (Below.refl _ _)) (fun hS => ?_)
  generalize V.drew = X at hS ⊢
  refine takeH (i := 0) (v := ?_) rfl rfl (by kernel_rfl) (by kernel_rfl) (by kernel_rfl) (fun _ _ _ h => h) hS (by rfl) ?_ ?_
  rotate_left
  · intro w' hSw
    have tx0 := (hSw.cell (World.block_lt_of_cell? _ _ x0)).trans x0
    have tx1 := (hSw.cell (World.block_lt_of_cell? _ _ x1)).trans x1
    go_simp
    try (with_reducible rfl)
  simp only [List.setIfInBounds_toArray, List.set_cons_zero, List.set_cons_succ]
  refine wpAnyH_ready (rs := [1]) (by kernel_rfl) (by simp) ?_
  refine AllReadyH.cons rfl (fun K hK => ?_) ?_
  · go_simp
    with_reducible refine (two_narrow.calls 3 0 2147483648 true _ N1.out).mono ?_
    rintro e w' ⟨rfl, hb⟩
    refine hK.out _ _ (below_then hS hS.size hb) (fun hHeld => ?_)
    clear hK K hS hb
    have hS := hHeld
    clear hHeld
    try simp only [Act.put, List.setIfInBounds_toArray, List.set_cons_zero, List.set_cons_succ]
    generalize w' = X at  hS ⊢
    refine takeH (i := 2) (v := ?_) rfl rfl (by kernel_rfl) (by kernel_rfl) (by kernel_rfl) (fun _ _ _ h => h) hS (by rfl) ?_ ?_
    rotate_left
    · intro w' hSw
      go_simp
      try (with_reducible rfl)
    simp only [List.setIfInBounds_toArray, List.set_cons_zero, List.set_cons_succ]
    refine takeH (i := 3) (v := ?_) rfl rfl (by kernel_rfl) (by kernel_rfl) (by kernel_rfl) (fun _ _ _ h => h) hS (by rfl) ?_ ?_
    rotate_left
    · intro w' hSw
      go_simp
      try (with_reducible rfl)
    simp only [List.setIfInBounds_toArray, List.set_cons_zero, List.set_cons_succ]
    refine takeH (i := 4) (v := ?_) rfl rfl (by kernel_rfl) (by kernel_rfl) (by kernel_rfl) (fun _ _ _ h => h) hS (by rfl) ?_ ?_
    rotate_left
    · intro w' hSw
      have ty0 := (hSw.cell (World.block_lt_of_cell? _ _ y0)).trans y0
      have ty1 := (hSw.cell (World.block_lt_of_cell? _ _ y1)).trans y1
      go_simp
      try (with_reducible rfl)
    simp only [List.setIfInBounds_toArray, List.set_cons_zero, List.set_cons_succ]
    refine wpAnyH_ready (rs := [5]) (by kernel_rfl) (by simp) ?_
    refine AllReadyH.cons rfl (fun K hK => ?_) ?_
    · go_simp
      with_reducible refine (two_narrow.calls 1 0 2147483648 true _ N2.out).mono ?_
      rintro e w' ⟨rfl, hb⟩
      refine hK.out _ _ (below_then hS hS.size hb) (fun hHeld => ?_)
      clear hK K hS hb
      have hS := hHeld
      clear hHeld
      try simp only [Act.put, List.setIfInBounds_toArray, List.set_cons_zero, List.set_cons_succ]
      generalize w' = X at  hS ⊢
      refine takeH (i := 6) (v := ?_) rfl rfl (by kernel_rfl) (by kernel_rfl) (by kernel_rfl) (fun _ _ _ h => h) hS (by rfl) ?_ ?_
      rotate_left
      · intro w' hSw
        go_simp
        try (with_reducible rfl)
      simp only [List.setIfInBounds_toArray, List.set_cons_zero, List.set_cons_succ]
      refine takeH (i := 7) (v := ?_) rfl rfl (by kernel_rfl) (by kernel_rfl) (by kernel_rfl) (fun _ _ _ h => h) hS (by rfl) ?_ ?_
      rotate_left
      · intro w' hSw
        go_simp
        try (with_reducible rfl)
      simp only [List.setIfInBounds_toArray, List.set_cons_zero, List.set_cons_succ]
      refine takeH (i := 8) (v := ?_) rfl rfl (by kernel_rfl) (by kernel_rfl) (by kernel_rfl) (fun _ _ _ h => h) hS (by rfl) ?_ ?_
      rotate_left
      · intro w' hSw
        go_simp
        try (with_reducible rfl)
      simp only [List.setIfInBounds_toArray, List.set_cons_zero, List.set_cons_succ]
      refine takeH (i := 9) (v := ?_) rfl rfl (by kernel_rfl) (by kernel_rfl) (by kernel_rfl) (fun _ _ _ h => h) hS (by rfl) ?_ ?_
      rotate_left
      · intro w' hSw
        have tz0 := (hSw.cell (World.block_lt_of_cell? _ _ z0)).trans z0
        have tz1 := (hSw.cell (World.block_lt_of_cell? _ _ z1)).trans z1
        go_simp
        try (with_reducible rfl)
      simp only [List.setIfInBounds_toArray, List.set_cons_zero, List.set_cons_succ]
      refine takeH (i := 10) (v := ?_) rfl rfl (by kernel_rfl) (by kernel_rfl) (by kernel_rfl) (fun _ _ _ h => h) hS (by rfl) ?_ ?_
      rotate_left
      · intro w' hSw
        go_simp
        try (with_reducible rfl)
      simp only [List.setIfInBounds_toArray, List.set_cons_zero, List.set_cons_succ]
      refine takeH (i := 11) (v := ?_) rfl rfl (by kernel_rfl) (by kernel_rfl) (by kernel_rfl) (fun _ _ _ h => h) hS (by rfl) ?_ ?_
      rotate_left
      · intro w' hSw
        go_simp
        try (with_reducible rfl)
      simp only [List.setIfInBounds_toArray, List.set_cons_zero, List.set_cons_succ]
      refine wpAnyH_ready (rs := [12]) (by kernel_rfl) (by simp) ?_
      refine AllReadyH.cons rfl (fun K hK => ?_) ?_
      · go_simp
        with_reducible refine (two_narrow.calls 1 0 _ true _ N3.out).mono ?_
        rintro e w' ⟨rfl, hb⟩
        refine hK.out _ _ (below_then hS hS.size hb) (fun hHeld => ?_)
        clear hK K hS hb
        have hS := hHeld
        clear hHeld
        try simp only [Act.put, List.setIfInBounds_toArray, List.set_cons_zero, List.set_cons_succ]
        generalize w' = X at  hS ⊢
        refine takeH (i := 13) (v := ?_) rfl rfl (by kernel_rfl) (by kernel_rfl) (by kernel_rfl) (fun _ _ _ h => h) hS (by rfl) ?_ ?_
        rotate_left
        · intro w' hSw
          go_simp
          try (with_reducible rfl)
        simp only [List.setIfInBounds_toArray, List.set_cons_zero, List.set_cons_succ]
        refine takeH (i := 14) (v := ?_) rfl rfl (by kernel_rfl) (by kernel_rfl) (by kernel_rfl) (fun _ _ _ h => h) hS (by rfl) ?_ ?_
        rotate_left
        · intro w' hSw
          go_simp
          try (with_reducible rfl)
        simp only [List.setIfInBounds_toArray, List.set_cons_zero, List.set_cons_succ]
        refine takeH (i := 15) (v := ?_) rfl rfl (by kernel_rfl) (by kernel_rfl) (by kernel_rfl) (fun _ _ _ h => h) hS (by rfl) ?_ ?_
        rotate_left
        · intro w' hSw
          go_simp
          try (with_reducible rfl)
        simp only [List.setIfInBounds_toArray, List.set_cons_zero, List.set_cons_succ]
        refine wpAnyH_done (by kernel_rfl) ?_ _
        simp only [Exit.then]
        go_at_K
        have C0 := Aside0.mk (blk_below B0.out hS)
        have C1 := Aside0.mk (blk_below B1.out hS)
        have C2 := Aside0.mk (blk_below B2.out hS)
        have C3 := Aside0.mk (blk_below B3.out hS)
        have C4 := Aside0.mk (blk_below B4.out hS)
        have HX := Aside0.mk (below_then HV.out (by have := HZ.out; omega) hS)
        have HY : Aside0 (w.heap.size + 5 ≤ X.heap.size) := ⟨Nat.le_trans HZ.out hS.size⟩
        clear hS x0 x1 y0 y1 z0 z1
        have x0 : X.cell? ⟨w.heap.size, 0, none⟩ = some (.int .i64 3) := (blk_cell C0.out 0).trans rfl
        have x1 : X.cell? ⟨w.heap.size, 1, none⟩ = some (.int .i64 0) := (blk_cell C0.out 1).trans rfl
        have y0 : X.cell? ⟨w.heap.size + 1, 0, none⟩ = some (.int .i64 1) := (blk_cell C1.out 0).trans rfl
        have y1 : X.cell? ⟨w.heap.size + 1, 1, none⟩ = some (.int .i64 0) := (blk_cell C1.out 1).trans rfl
        have z0 : X.cell? ⟨w.heap.size + 1 + 1, 0, none⟩ = some (.int .i64 1) := (blk_cell C2.out 0).trans rfl
        have z1 : X.cell? ⟨w.heap.size + 1 + 1, 1, none⟩ = some (.int .i64 0) := (blk_cell C2.out 1).trans rfl
        go_wp2_with (fail)
        refine (two_pair.calls 3 0 1 0 1 0 0 1 0 2 0 1 0 _ P1.out).mono ?_
        rintro e Y ⟨rfl, hb⟩
        have e3 := Aside0.mk (blk_below C3.out hb)
        have e4 := Aside0.mk (blk_below C4.out hb)
        have HW := Aside0.mk (below_then HX.out HX.out.size hb)
        have HY2 : Aside0 (w.heap.size + 5 ≤ Y.heap.size) := ⟨Nat.le_trans HY.out hb.size⟩
        clear hb x0 x1 y0 y1 z0 z1
        go_wp2_with (fail)
        obtain ⟨d0, d1, hD, hd⟩ := boxes2 Y (.cells #[.int .i64 2, .int .i64 0] 43) (.cells #[.int .i64 1, .int .i64 0] 43)
        have bU := d0
        have bD := d1
        have bP := blk_below e3.out hD
        have bQ := blk_below e4.out hD
        have HP := Aside0.mk (show w.heap.size ≤ w.heap.size + 1 + 1 + 1 by omega)
        have HQ := Aside0.mk (show w.heap.size ≤ w.heap.size + 1 + 1 + 1 + 1 by omega)
        have nPQ : w.heap.size + 1 + 1 + 1 ≠ w.heap.size + 1 + 1 + 1 + 1 := by omega
        have nUP : Y.heap.size ≠ w.heap.size + 1 + 1 + 1 := by have := HY2.out; omega
        have nUQ : Y.heap.size ≠ w.heap.size + 1 + 1 + 1 + 1 := by have := HY2.out; omega
        have nDP : Y.heap.size + 1 ≠ w.heap.size + 1 + 1 + 1 := by have := HY2.out; omega
        have nDQ : Y.heap.size + 1 ≠ w.heap.size + 1 + 1 + 1 + 1 := by have := HY2.out; omega
        have HX2 := Aside0.mk (below_then HW.out HW.out.size hD)
        clear e3 e4 d0 d1 hD hd HW HX
        generalize w.heap.size + 1 + 1 + 1 + 1 = Q at bQ nPQ nUQ nDQ HQ ⊢
        generalize w.heap.size + 1 + 1 + 1 = P at bP nPQ nUP nDP HP ⊢
        generalize (Y.alloc (.cells #[.int .i64 2, .int .i64 0] 43)).alloc (.cells #[.int .i64 1, .int .i64 0] 43) = X at bU bD bP bQ HX2 ⊢
        generalize Y.heap.size + 1 = D at bD nDP nDQ ⊢
        generalize Y.heap.size = U at bU nUP nUQ ⊢
        have nQP := nPQ.symm
        refine wp_region_held_drew (S := fun w' => w'.heap[U]? = some (.cells #[.int .i64 2, .int .i64 0] 43 (0, 0)) ∧ w'.heap[D]? = some (.cells #[.int .i64 1, .int .i64 0] 43 (0, 0)) ∧ Below w.heap.size w w') (by kernel_rfl) ⟨bU, bD, below_drew1 HX2.out⟩ (fun hS => ?_)
        change X.drew.heap[P]? = _ at bP
        change X.drew.heap[Q]? = _ at bQ
        change X.drew.heap[U]? = _ at bU
        change X.drew.heap[D]? = _ at bD
        clear HX2
        generalize X.drew = X at bP bQ bU bD hS ⊢
        refine takeH (i := 0) (v := ?_) rfl rfl (by kernel_rfl) (by kernel_rfl) (by kernel_rfl) (fun _ _ _ h => h) hS (by rfl) ?_ ?_
        rotate_left
        · intro w' hSw
          have tk0 := (blk_cell hSw.1 0).trans rfl
          have tk1 := (blk_cell hSw.1 1).trans rfl
          go_simp
          try (with_reducible rfl)
        simp only [List.setIfInBounds_toArray, List.set_cons_zero, List.set_cons_succ]
        refine takeH (i := 1) (v := ?_) rfl rfl (by kernel_rfl) (by kernel_rfl) (by kernel_rfl) (fun _ _ _ h => h) hS (by rfl) ?_ ?_
        rotate_left
        · intro w' hSw
          have tk2 := (blk_cell hSw.2.1 0).trans rfl
          have tk3 := (blk_cell hSw.2.1 1).trans rfl
          go_simp
          try (with_reducible rfl)
        simp only [List.setIfInBounds_toArray, List.set_cons_zero, List.set_cons_succ]
        refine wpAnyH_ready (rs := [2]) (by kernel_rfl) (by simp) ?_
        refine AllReadyH.cons rfl (fun K hK => ?_) ?_
        · have c0 := (blk_cell bP 0).trans rfl
          have g0 := blk_frozen bP 0
          have c1 := (blk_cell bP 1).trans rfl
          have g1 := blk_frozen bP 1
          go_simp
          refine hK.out _ _ ⟨blk_far (p := ⟨P, 1, none⟩) (blk_far (p := ⟨P, 0, none⟩) bU nUP (.int .i64 2)) nUP (.int .i64 0), blk_far (p := ⟨P, 1, none⟩) (blk_far (p := ⟨P, 0, none⟩) bD nDP (.int .i64 2)) nDP (.int .i64 0), below_set (below_set hS.2.2 HP.out) HP.out⟩ (fun hHeld => ?_)
          clear hK K hS c0 g0 c1 g1
          have hS := hHeld
          clear hHeld
          try simp only [Act.put]
          replace bD := (blk_far (p := ⟨P, 1, none⟩) (blk_far (p := ⟨P, 0, none⟩) bD (show D ≠ P by omega) (.int .i64 2)) (show D ≠ P by omega) (.int .i64 0))
          replace bQ := (blk_far (p := ⟨P, 1, none⟩) (blk_far (p := ⟨P, 0, none⟩) bQ (show Q ≠ P by omega) (.int .i64 2)) (show Q ≠ P by omega) (.int .i64 0))
          replace bU := (blk_far (p := ⟨P, 1, none⟩) (blk_far (p := ⟨P, 0, none⟩) bU (show U ≠ P by omega) (.int .i64 2)) (show U ≠ P by omega) (.int .i64 0))
          replace bP := (blk_put (blk_put bP 0 (.int .i64 2) rfl) 1 (.int .i64 0) rfl)
          generalize (X.setCell ⟨P, 0, none⟩ (.int .i64 2)).setCell ⟨P, 1, none⟩ (.int .i64 0) = X at bD bP bQ bU hS ⊢
          refine wpAnyH_ready (rs := [3]) (by kernel_rfl) (by simp) ?_
          refine AllReadyH.cons rfl (fun K hK => ?_) ?_
          · have c0 := (blk_cell bQ 0).trans rfl
            have g0 := blk_frozen bQ 0
            have c1 := (blk_cell bQ 1).trans rfl
            have g1 := blk_frozen bQ 1
            go_simp
            refine hK.out _ _ ⟨blk_far (p := ⟨Q, 1, none⟩) (blk_far (p := ⟨Q, 0, none⟩) bU nUQ (.int .i64 1)) nUQ (.int .i64 0), blk_far (p := ⟨Q, 1, none⟩) (blk_far (p := ⟨Q, 0, none⟩) bD nDQ (.int .i64 1)) nDQ (.int .i64 0), below_set (below_set hS.2.2 HQ.out) HQ.out⟩ (fun hHeld => ?_)
            clear hK K hS c0 g0 c1 g1
            have hS := hHeld
            clear hHeld
            try simp only [Act.put]
            replace bD := (blk_far (p := ⟨Q, 1, none⟩) (blk_far (p := ⟨Q, 0, none⟩) bD (show D ≠ Q by omega) (.int .i64 1)) (show D ≠ Q by omega) (.int .i64 0))
            replace bP := (blk_far (p := ⟨Q, 1, none⟩) (blk_far (p := ⟨Q, 0, none⟩) bP (show P ≠ Q by omega) (.int .i64 1)) (show P ≠ Q by omega) (.int .i64 0))
            replace bU := (blk_far (p := ⟨Q, 1, none⟩) (blk_far (p := ⟨Q, 0, none⟩) bU (show U ≠ Q by omega) (.int .i64 1)) (show U ≠ Q by omega) (.int .i64 0))
            replace bQ := (blk_put (blk_put bQ 0 (.int .i64 1) rfl) 1 (.int .i64 0) rfl)
            generalize (X.setCell ⟨Q, 0, none⟩ (.int .i64 1)).setCell ⟨Q, 1, none⟩ (.int .i64 0) = X at bD bP bQ bU hS ⊢
            refine takeH (i := 4) (v := ?_) rfl rfl (by kernel_rfl) (by kernel_rfl) (by kernel_rfl) (fun _ _ _ h => h) hS (by rfl) ?_ ?_
            rotate_left
            · intro w' hSw
              go_simp
              try (with_reducible rfl)
            simp only [List.setIfInBounds_toArray, List.set_cons_zero, List.set_cons_succ]
            refine wpAnyH_done (by kernel_rfl) ?_ _
            simp only [Exit.then]
            go_at_K
            have c0 := (blk_cell bP 0).trans rfl
            have c1 := (blk_cell bP 1).trans rfl
            have c2 := (blk_cell bQ 0).trans rfl
            have c3 := (blk_cell bQ 1).trans rfl
            go_wp2_with (fail)
            refine bodyPost_ret (v := .tuple #[.agg #[.int .i64 2, .int .i64 0], .agg #[.int .i64 1, .int .i64 0], .int .i64 0]) (by simp [results, Try.results88, go_sem, c0, c1, c2, c3]) rfl ⟨rfl, hS.2.2⟩
          exact AllReadyH.nil
        exact AllReadyH.nil
      exact AllReadyH.nil
    exact AllReadyH.nil
  exact AllReadyH.nil

end Go.Proofs.Ytmglkelmdcpinaa.G
/- The contract of the function headroomlaw10_alive (number 28 of the translation): what its call computes, as a plain Lean function; memory that was there stays as it was. Conditions: none beyond the theorem's own. Written by a program (gprint.py). -/
namespace Go.Proofs.Ytmglkelmdcpinaa.G
open Go.RowKit Go.Proofs.YtmglkelmdcpinaaW.PrintWords Go.Proofs.YtmglkelmdcpinaaW.PrintLast Go.Proofs.YtmglkelmdcpinaaW.PrintMore
attribute [local go_sem] max2_int min2_int max_two min_two max_three min_three max_four min_four   -- for this text's walks alone
set_option linter.unusedVariables false
set_option linter.unusedSimpArgs false

attribute [local go_sem high] eqA43
/-! ### headroomlaw10_alive: function 28 -/
def headroomlaw10_alive.f  : Option (Bool) := (two_Pair.f 3 0 1 0 1 0 0 1 0).bind fun bt101 => (if bt101.2.2.2.2 = 0 then (if (bt101.1 == 2 && (bt101.2.1 == 0)) = true then (some (bt101.2.2.1 == 1 && (bt101.2.2.2.1 == 0))) else (some false)) else (some false))
set_option maxHeartbeats 8000000 in
set_option maxRecDepth 100000 in
theorem headroomlaw10_alive.calls  (r : Bool) (w : World) (h : headroomlaw10_alive.f  = some r) :
    Calls Try.prog 28 #[] w fun e w' => e = .returned (.bool r) ∧ Below w.heap.size w w' := by
  have hu43 := Try.underlying43
  have HB := Aside0.mk (Below.refl w.heap.size w)
  have H : ((two_Pair.f 3 0 1 0 1 0 0 1 0).bind fun bt101 => (if bt101.2.2.2.2 = 0 then (if (bt101.1 == 2 && (bt101.2.1 == 0)) = true then (some (bt101.2.2.1 == 1 && (bt101.2.2.2.1 == 0))) else (some false)) else (some false))) = some r := h
  clear h
  replace H := Option.bind_eq_some_iff.mp H
  obtain ⟨⟨t101, t102, t103, t104, t105⟩, A10, H⟩ := H
  replace H : (if t105 = 0 then (if (t101 == 2 && (t102 == 0)) = true then (some (t103 == 1 && (t104 == 0))) else (some false)) else (some false)) = some r := H
  have A1 := Aside0.mk A10
  clear A10
  by_cases c2 : t105 = 0
  · rw [if_pos c2] at H
    have c2b0 : (t105 == 0) = true := beq_iff_eq.mpr c2
    have c2b1 : (t105 != 0) = false := bne_eq_false_iff_eq.mpr c2
    clear c2
    by_cases c3 : (t101 == 2 && (t102 == 0)) = true
    · rw [if_pos c3] at H
      have c3b0 : (t101 == 2 && (t102 == 0)) = true := c3
      (try (have c3b1 : decide (t101 = 2 && (t102 == 0)) = true := by simpa using c3))
      (try (have c3b2 : (t101 == 2 && (t102 == 0)) = true := by simpa using c3))
      clear c3
      obtain rfl := Option.some.inj H
      go_enter Try.func28, Try.ntmps28
      go_wp2_with (first | ((with_reducible refine gate_callee (f := 88) rfl ?_); refine goesL_ (some 8) rfl rfl Try.func88 (by kernel_rfl) rfl #[.agg #[.int .i64 3, .int .i64 0], .agg #[.int .i64 1, .int .i64 0], .agg #[.int .i64 1, .int .i64 0], .int .i64 0, .int .i64 1, .int .i64 0] rfl (by (try simp only [List.map_toArray, List.map_cons, List.map_nil]); first | done | rfl | (simp only [List.length_drop, List.length_take]; rfl)) ?_; (with_reducible refine (two_Pair.calls 3 0 1 0 1 0 0 1 0 t101 t102 t103 t104 t105 _ A1.out).mono ?_); rintro e w4 ⟨rfl, hb⟩; refine ⟨_, rfl, ?_⟩; have n0_ := Aside0.mk (below_step (by repeat (first | (with_reducible first | exact HB.out | apply below_alloc | apply pw_below_drewN | apply below_drew1) | exact HB.out)) hb); clear HB; have HB := n0_; clear n0_; (try clear hb); (try clear hb2); (try clear hk); (try clear hi)) | ((with_reducible refine gate_dst (N := 1) rfl ?_); refine box_event ?hg (N := 1) ?hd (cs := #[.int .i64 0, .int .i64 0]) (t := 43) ?hr ?_; (case hd => rfl); (case hg => rfl); (case hr => first | (go_simp; done) | (go_simp; rfl)); intro gb106 hg w5 hbox hb; have n0_ := Aside0.mk (below_step (by repeat (first | (with_reducible first | exact HB.out | apply below_alloc | apply pw_below_drewN | apply below_drew1) | exact HB.out)) hb); have n1_ := Aside0.mk (hbox); have n2_ := Aside0.mk ((by rw [hg]; exact (below_size (by repeat (first | (with_reducible first | exact HB.out | apply below_alloc | apply pw_below_drewN | apply below_drew1) | exact HB.out))) : w.heap.size ≤ gb106)); have n3_ := Aside0.mk ((by rw [hg]; exact (below_size (by repeat (first | (with_reducible first | exact HB.out | apply below_alloc | apply pw_below_drewN | apply below_drew1) | exact HB.out))) : w.heap.size ≤ gb106)); clear HB; have HB := n0_; have BK106 := n1_; have GW106 := n2_; have GE106 := n3_; clear n0_ n1_ n2_ n3_; clear hb hbox hg) | ((with_reducible refine gate_dst (N := 2) rfl ?_); refine box_event ?hg (N := 2) ?hd (cs := #[.int .i64 0, .int .i64 0]) (t := 43) ?hr ?_; (case hd => rfl); (case hg => rfl); (case hr => first | (go_simp; done) | (go_simp; rfl)); intro gb107 hg w6 hbox hb; have n0_ := Aside0.mk (blk_below (g := gb106) (o := .cells #[.int .i64 0, .int .i64 0] 43 (0, 0)) (by (with_reducible repeat (first | refine blk_drewN ?_ _ | refine blk_drew ?_ | refine blk_alloc ?_ _)); exact BK106.out) hb); have n1_ := Aside0.mk (below_step (by repeat (first | (with_reducible first | exact HB.out | apply below_alloc | apply pw_below_drewN | apply below_drew1 | refine below_set ?_ GE106.out) | exact HB.out)) hb); have n2_ := Aside0.mk (hbox); have n3_ := Aside0.mk ((by rw [hg]; exact (below_size (by repeat (first | (with_reducible first | exact HB.out | apply below_alloc | apply pw_below_drewN | apply below_drew1 | refine below_set ?_ GE106.out) | exact HB.out))) : w.heap.size ≤ gb107)); have n4_ := Aside0.mk ((by rw [hg]; exact (below_size (by repeat (first | (with_reducible first | exact HB.out | apply below_alloc | apply pw_below_drewN | apply below_drew1 | refine below_set ?_ GE106.out) | exact HB.out))) : w.heap.size ≤ gb107)); have n5_ := Aside0.mk ((by rw [hg]; exact Nat.ne_of_lt (blk_lt (g := gb106) (o := .cells #[.int .i64 0, .int .i64 0] 43 (0, 0)) (by (with_reducible repeat (first | refine blk_drewN ?_ _ | refine blk_drew ?_ | refine blk_alloc ?_ _)); exact BK106.out)) : gb106 ≠ gb107)); have n6_ := Aside0.mk ((by rw [hg]; exact Nat.ne_of_gt (blk_lt (g := gb106) (o := .cells #[.int .i64 0, .int .i64 0] 43 (0, 0)) (by (with_reducible repeat (first | refine blk_drewN ?_ _ | refine blk_drew ?_ | refine blk_alloc ?_ _)); exact BK106.out)) : gb107 ≠ gb106)); clear BK106; clear HB; have BK106 := n0_; have HB := n1_; have BK107 := n2_; have GW107 := n3_; have GE107 := n4_; have NB106_107 := n5_; have NB107_106 := n6_; clear n0_ n1_ n2_ n3_ n4_ n5_ n6_; clear hb hbox hg; have hnb7 := NB106_107.out; have hnc7 := NB107_106.out; have hcz8_0 : w6.cell? ⟨gb106, 0, none⟩ = some (.int .i64 0) := (blk_cell BK106.out 0).trans rfl; have hcz8_1 : w6.cell? ⟨gb106, 1, none⟩ = some (.int .i64 0) := (blk_cell BK106.out 1).trans rfl; have hfz8_0 := blk_frozen BK106.out 0; have hfz8_1 := blk_frozen BK106.out 1; have hcz9_0 : w6.cell? ⟨gb107, 0, none⟩ = some (.int .i64 0) := (blk_cell BK107.out 0).trans rfl; have hcz9_1 : w6.cell? ⟨gb107, 1, none⟩ = some (.int .i64 0) := (blk_cell BK107.out 1).trans rfl; have hfz9_0 := blk_frozen BK107.out 0; have hfz9_1 := blk_frozen BK107.out 1))
      go_ret
      exact ⟨by first | rfl | (simp [errW_none, errW_some] <;> rfl) | (simp [*, errW_none, errW_some] <;> rfl), by repeat (first | (with_reducible first | exact HB.out | apply below_alloc | apply pw_below_drewN | apply below_drew1 | refine below_set ?_ GE106.out | refine below_set ?_ GE107.out) | exact HB.out)⟩
    · rw [if_neg c3] at H
      have c3b0 : (t101 == 2 && (t102 == 0)) = false := by simpa using c3
      (try (have c3b1 : decide (t101 = 2 && (t102 == 0)) = false := by simpa using c3))
      (try (have c3b2 : (t101 == 2 && (t102 == 0)) = false := by simpa using c3))
      (try (have c3b3 : ¬ (t101 = 2 && (t102 == 0)) := by simpa using c3))
      clear c3
      obtain rfl := Option.some.inj H
      go_enter Try.func28, Try.ntmps28
      go_wp2_with (first | ((with_reducible refine gate_callee (f := 88) rfl ?_); refine goesL_ (some 8) rfl rfl Try.func88 (by kernel_rfl) rfl #[.agg #[.int .i64 3, .int .i64 0], .agg #[.int .i64 1, .int .i64 0], .agg #[.int .i64 1, .int .i64 0], .int .i64 0, .int .i64 1, .int .i64 0] rfl (by (try simp only [List.map_toArray, List.map_cons, List.map_nil]); first | done | rfl | (simp only [List.length_drop, List.length_take]; rfl)) ?_; (with_reducible refine (two_Pair.calls 3 0 1 0 1 0 0 1 0 t101 t102 t103 t104 t105 _ A1.out).mono ?_); rintro e w10 ⟨rfl, hb⟩; refine ⟨_, rfl, ?_⟩; have n0_ := Aside0.mk (below_step (by repeat (first | (with_reducible first | exact HB.out | apply below_alloc | apply pw_below_drewN | apply below_drew1) | exact HB.out)) hb); clear HB; have HB := n0_; clear n0_; (try clear hb); (try clear hb2); (try clear hk); (try clear hi)) | ((with_reducible refine gate_dst (N := 1) rfl ?_); refine box_event ?hg (N := 1) ?hd (cs := #[.int .i64 0, .int .i64 0]) (t := 43) ?hr ?_; (case hd => rfl); (case hg => rfl); (case hr => first | (go_simp; done) | (go_simp; rfl)); intro gb106 hg w11 hbox hb; have n0_ := Aside0.mk (below_step (by repeat (first | (with_reducible first | exact HB.out | apply below_alloc | apply pw_below_drewN | apply below_drew1) | exact HB.out)) hb); have n1_ := Aside0.mk (hbox); have n2_ := Aside0.mk ((by rw [hg]; exact (below_size (by repeat (first | (with_reducible first | exact HB.out | apply below_alloc | apply pw_below_drewN | apply below_drew1) | exact HB.out))) : w.heap.size ≤ gb106)); have n3_ := Aside0.mk ((by rw [hg]; exact (below_size (by repeat (first | (with_reducible first | exact HB.out | apply below_alloc | apply pw_below_drewN | apply below_drew1) | exact HB.out))) : w.heap.size ≤ gb106)); clear HB; have HB := n0_; have BK106 := n1_; have GW106 := n2_; have GE106 := n3_; clear n0_ n1_ n2_ n3_; clear hb hbox hg) | ((with_reducible refine gate_dst (N := 2) rfl ?_); refine box_event ?hg (N := 2) ?hd (cs := #[.int .i64 0, .int .i64 0]) (t := 43) ?hr ?_; (case hd => rfl); (case hg => rfl); (case hr => first | (go_simp; done) | (go_simp; rfl)); intro gb107 hg w12 hbox hb; have n0_ := Aside0.mk (blk_below (g := gb106) (o := .cells #[.int .i64 0, .int .i64 0] 43 (0, 0)) (by (with_reducible repeat (first | refine blk_drewN ?_ _ | refine blk_drew ?_ | refine blk_alloc ?_ _)); exact BK106.out) hb); have n1_ := Aside0.mk (below_step (by repeat (first | (with_reducible first | exact HB.out | apply below_alloc | apply pw_below_drewN | apply below_drew1 | refine below_set ?_ GE106.out) | exact HB.out)) hb); have n2_ := Aside0.mk (hbox); have n3_ := Aside0.mk ((by rw [hg]; exact (below_size (by repeat (first | (with_reducible first | exact HB.out | apply below_alloc | apply pw_below_drewN | apply below_drew1 | refine below_set ?_ GE106.out) | exact HB.out))) : w.heap.size ≤ gb107)); have n4_ := Aside0.mk ((by rw [hg]; exact (below_size (by repeat (first | (with_reducible first | exact HB.out | apply below_alloc | apply pw_below_drewN | apply below_drew1 | refine below_set ?_ GE106.out) | exact HB.out))) : w.heap.size ≤ gb107)); have n5_ := Aside0.mk ((by rw [hg]; exact Nat.ne_of_lt (blk_lt (g := gb106) (o := .cells #[.int .i64 0, .int .i64 0] 43 (0, 0)) (by (with_reducible repeat (first | refine blk_drewN ?_ _ | refine blk_drew ?_ | refine blk_alloc ?_ _)); exact BK106.out)) : gb106 ≠ gb107)); have n6_ := Aside0.mk ((by rw [hg]; exact Nat.ne_of_gt (blk_lt (g := gb106) (o := .cells #[.int .i64 0, .int .i64 0] 43 (0, 0)) (by (with_reducible repeat (first | refine blk_drewN ?_ _ | refine blk_drew ?_ | refine blk_alloc ?_ _)); exact BK106.out)) : gb107 ≠ gb106)); clear BK106; clear HB; have BK106 := n0_; have HB := n1_; have BK107 := n2_; have GW107 := n3_; have GE107 := n4_; have NB106_107 := n5_; have NB107_106 := n6_; clear n0_ n1_ n2_ n3_ n4_ n5_ n6_; clear hb hbox hg; have hnb13 := NB106_107.out; have hnc13 := NB107_106.out; have hcz14_0 : w12.cell? ⟨gb106, 0, none⟩ = some (.int .i64 0) := (blk_cell BK106.out 0).trans rfl; have hcz14_1 : w12.cell? ⟨gb106, 1, none⟩ = some (.int .i64 0) := (blk_cell BK106.out 1).trans rfl; have hfz14_0 := blk_frozen BK106.out 0; have hfz14_1 := blk_frozen BK106.out 1; have hcz15_0 : w12.cell? ⟨gb107, 0, none⟩ = some (.int .i64 0) := (blk_cell BK107.out 0).trans rfl; have hcz15_1 : w12.cell? ⟨gb107, 1, none⟩ = some (.int .i64 0) := (blk_cell BK107.out 1).trans rfl; have hfz15_0 := blk_frozen BK107.out 0; have hfz15_1 := blk_frozen BK107.out 1))
      go_ret
      exact ⟨by first | rfl | (simp [errW_none, errW_some] <;> rfl) | (simp [*, errW_none, errW_some] <;> rfl), by repeat (first | (with_reducible first | exact HB.out | apply below_alloc | apply pw_below_drewN | apply below_drew1 | refine below_set ?_ GE106.out | refine below_set ?_ GE107.out) | exact HB.out)⟩
  · rw [if_neg c2] at H
    have c2b0 : (t105 == 0) = false := beq_eq_false_iff_ne.mpr c2
    have c2b1 : (t105 != 0) = true := bne_iff_ne.mpr c2
    obtain rfl := Option.some.inj H
    go_enter Try.func28, Try.ntmps28
    go_wp2_with (first | ((with_reducible refine gate_callee (f := 88) rfl ?_); refine goesL_ (some 8) rfl rfl Try.func88 (by kernel_rfl) rfl #[.agg #[.int .i64 3, .int .i64 0], .agg #[.int .i64 1, .int .i64 0], .agg #[.int .i64 1, .int .i64 0], .int .i64 0, .int .i64 1, .int .i64 0] rfl (by (try simp only [List.map_toArray, List.map_cons, List.map_nil]); first | done | rfl | (simp only [List.length_drop, List.length_take]; rfl)) ?_; (with_reducible refine (two_Pair.calls 3 0 1 0 1 0 0 1 0 t101 t102 t103 t104 t105 _ A1.out).mono ?_); rintro e w16 ⟨rfl, hb⟩; refine ⟨_, rfl, ?_⟩; have n0_ := Aside0.mk (below_step (by repeat (first | (with_reducible first | exact HB.out | apply below_alloc | apply pw_below_drewN | apply below_drew1) | exact HB.out)) hb); clear HB; have HB := n0_; clear n0_; (try clear hb); (try clear hb2); (try clear hk); (try clear hi)) | ((with_reducible refine gate_dst (N := 1) rfl ?_); refine box_event ?hg (N := 1) ?hd (cs := #[.int .i64 0, .int .i64 0]) (t := 43) ?hr ?_; (case hd => rfl); (case hg => rfl); (case hr => first | (go_simp; done) | (go_simp; rfl)); intro gb106 hg w17 hbox hb; have n0_ := Aside0.mk (below_step (by repeat (first | (with_reducible first | exact HB.out | apply below_alloc | apply pw_below_drewN | apply below_drew1) | exact HB.out)) hb); have n1_ := Aside0.mk (hbox); have n2_ := Aside0.mk ((by rw [hg]; exact (below_size (by repeat (first | (with_reducible first | exact HB.out | apply below_alloc | apply pw_below_drewN | apply below_drew1) | exact HB.out))) : w.heap.size ≤ gb106)); have n3_ := Aside0.mk ((by rw [hg]; exact (below_size (by repeat (first | (with_reducible first | exact HB.out | apply below_alloc | apply pw_below_drewN | apply below_drew1) | exact HB.out))) : w.heap.size ≤ gb106)); clear HB; have HB := n0_; have BK106 := n1_; have GW106 := n2_; have GE106 := n3_; clear n0_ n1_ n2_ n3_; clear hb hbox hg) | ((with_reducible refine gate_dst (N := 2) rfl ?_); refine box_event ?hg (N := 2) ?hd (cs := #[.int .i64 0, .int .i64 0]) (t := 43) ?hr ?_; (case hd => rfl); (case hg => rfl); (case hr => first | (go_simp; done) | (go_simp; rfl)); intro gb107 hg w18 hbox hb; have n0_ := Aside0.mk (blk_below (g := gb106) (o := .cells #[.int .i64 0, .int .i64 0] 43 (0, 0)) (by (with_reducible repeat (first | refine blk_drewN ?_ _ | refine blk_drew ?_ | refine blk_alloc ?_ _)); exact BK106.out) hb); have n1_ := Aside0.mk (below_step (by repeat (first | (with_reducible first | exact HB.out | apply below_alloc | apply pw_below_drewN | apply below_drew1 | refine below_set ?_ GE106.out) | exact HB.out)) hb); have n2_ := Aside0.mk (hbox); have n3_ := Aside0.mk ((by rw [hg]; exact (below_size (by repeat (first | (with_reducible first | exact HB.out | apply below_alloc | apply pw_below_drewN | apply below_drew1 | refine below_set ?_ GE106.out) | exact HB.out))) : w.heap.size ≤ gb107)); have n4_ := Aside0.mk ((by rw [hg]; exact (below_size (by repeat (first | (with_reducible first | exact HB.out | apply below_alloc | apply pw_below_drewN | apply below_drew1 | refine below_set ?_ GE106.out) | exact HB.out))) : w.heap.size ≤ gb107)); have n5_ := Aside0.mk ((by rw [hg]; exact Nat.ne_of_lt (blk_lt (g := gb106) (o := .cells #[.int .i64 0, .int .i64 0] 43 (0, 0)) (by (with_reducible repeat (first | refine blk_drewN ?_ _ | refine blk_drew ?_ | refine blk_alloc ?_ _)); exact BK106.out)) : gb106 ≠ gb107)); have n6_ := Aside0.mk ((by rw [hg]; exact Nat.ne_of_gt (blk_lt (g := gb106) (o := .cells #[.int .i64 0, .int .i64 0] 43 (0, 0)) (by (with_reducible repeat (first | refine blk_drewN ?_ _ | refine blk_drew ?_ | refine blk_alloc ?_ _)); exact BK106.out)) : gb107 ≠ gb106)); clear BK106; clear HB; have BK106 := n0_; have HB := n1_; have BK107 := n2_; have GW107 := n3_; have GE107 := n4_; have NB106_107 := n5_; have NB107_106 := n6_; clear n0_ n1_ n2_ n3_ n4_ n5_ n6_; clear hb hbox hg; have hnb19 := NB106_107.out; have hnc19 := NB107_106.out; have hcz20_0 : w18.cell? ⟨gb106, 0, none⟩ = some (.int .i64 0) := (blk_cell BK106.out 0).trans rfl; have hcz20_1 : w18.cell? ⟨gb106, 1, none⟩ = some (.int .i64 0) := (blk_cell BK106.out 1).trans rfl; have hfz20_0 := blk_frozen BK106.out 0; have hfz20_1 := blk_frozen BK106.out 1; have hcz21_0 : w18.cell? ⟨gb107, 0, none⟩ = some (.int .i64 0) := (blk_cell BK107.out 0).trans rfl; have hcz21_1 : w18.cell? ⟨gb107, 1, none⟩ = some (.int .i64 0) := (blk_cell BK107.out 1).trans rfl; have hfz21_0 := blk_frozen BK107.out 0; have hfz21_1 := blk_frozen BK107.out 1))
    go_ret
    exact ⟨by first | rfl | (simp [errW_none, errW_some] <;> rfl) | (simp [*, errW_none, errW_some] <;> rfl), by repeat (first | (with_reducible first | exact HB.out | apply below_alloc | apply pw_below_drewN | apply below_drew1 | refine below_set ?_ GE106.out | refine below_set ?_ GE107.out) | exact HB.out)⟩

end Go.Proofs.Ytmglkelmdcpinaa.G
/- The contract of the function scan_greatest (number 92 of the translation): what its call computes, as a plain Lean function; memory that was there stays as it was. Conditions: none beyond the theorem's own. Written by a program (gprint.py). -/
namespace Go.Proofs.Ytmglkelmdcpinaa.G
open Go.RowKit Go.Proofs.YtmglkelmdcpinaaW.PrintWords Go.Proofs.YtmglkelmdcpinaaW.PrintLast Go.Proofs.YtmglkelmdcpinaaW.PrintMore
attribute [local go_sem] max2_int min2_int max_two min_two max_three min_three max_four min_four   -- for this text's walks alone
set_option linter.unusedVariables false
set_option linter.unusedSimpArgs false

/-! ### scan_greatest: function 92 -/
def scan_greatest.l0 : Nat → Int → List Int → Int → Int → Option (Int)
  | 0, _, _, _, _ => none
  | k + 1, x3, x6, x7, x8 => if x8 < x7 then (if 0 ≤ x8 then (if x8 < (x6.length : Int) then (scan_greatest.l0 k (mx (mx x3 (rd x6 x8)) (wrap64 (-(rd x6 x8)))) x6 x7 (wrap64 (x8 + 1))) else (none)) else (none)) else (some x3)
def scan_greatest.f (k : Nat) (l0 : List Int) : Option (Int) := scan_greatest.l0 k 0 l0 (l0.length : Int) 0
theorem scan_greatest.mono_l : ∀ k, (∀ y0 y1 y2 y3, LeO (scan_greatest.l0 k y0 y1 y2 y3) (scan_greatest.l0 (k + 1) y0 y1 y2 y3))
  | 0 => fun _ _ _ _ r h => by simp [scan_greatest.l0] at h
  | k + 1 => by
    have ih0 := scan_greatest.mono_l k
    · intro y0 y1 y2 y3
      unfold scan_greatest.l0
      repeat' first
      | (with_reducible exact ih0 _ _ _ _)
      | (with_reducible exact LeO.refl _)
      | (with_reducible exact LeO.none _)
      | (with_reducible refine LeO.ite ?_ ?_)
      | (with_reducible refine LeO.bind ?_ (fun _ => ?_))
      | exact ih0 _ _ _ _
      | exact LeO.none _
      | refine LeO.ite ?_ ?_
      | refine LeO.bind ?_ (fun _ => ?_)
theorem scan_greatest.mono : ∀ a0 k, LeO (scan_greatest.f k a0) (scan_greatest.f (k + 1) a0) := by
  intro a0 k
  have ih0 := scan_greatest.mono_l k
  unfold scan_greatest.f
  repeat' first
      | (with_reducible exact ih0 _ _ _ _)
      | (with_reducible exact LeO.refl _)
      | (with_reducible exact LeO.none _)
      | (with_reducible refine LeO.ite ?_ ?_)
      | (with_reducible refine LeO.bind ?_ (fun _ => ?_))
      | exact ih0 _ _ _ _
      | exact LeO.none _
      | refine LeO.ite ?_ ?_
      | refine LeO.bind ?_ (fun _ => ?_)
set_option maxHeartbeats 8000000 in
set_option maxRecDepth 100000 in
theorem scan_greatest.calls (k : Nat) (A0 : Option Addr) (c0 : Nat) (l0 : List Int) (r : Int) (w : World) (hr0 : Kd.C (Kd.int .i64) w A0 l0.length l0) (hc0 : l0.length ≤ c0) (h : scan_greatest.f k l0 = some r) :
    Calls Try.prog 92 #[.slice A0 l0.length c0] w fun e w' => e = .returned (.int .i64 r) ∧ Below w.heap.size w w' := by
  have HR0 := Aside0.mk hr0
  have HC0 := Aside0.mk hc0
  clear hr0 hc0
  have HB := Aside0.mk (Below.refl w.heap.size w)
  have H : (scan_greatest.l0 k 0 l0 (l0.length : Int) 0) = some r := h
  clear h
  have H' := Aside0.mk H
  clear H
  go_enter Try.func92, Try.ntmps92
  go_wp2
  go_loopg [3, 8] k (fun kq v3 v8 w' => ∃ (x3_1 : Int) (x8_1 : Int), v3 = .int .i64 x3_1 ∧ v8 = .int .i64 x8_1 ∧ Aside0 (scan_greatest.l0 kq x3_1 l0 (l0.length : Int) x8_1 = some r) ∧ Aside0 (kq ≤ k) ∧ Aside0 (Below w.heap.size w w'))
  case atStart => exact ⟨(0), (0), (by first | rfl | (simp; done) | (simp [*]; done)), (by first | rfl | (simp; done) | (simp [*]; done)), H', ⟨Nat.le_refl _⟩, ⟨by repeat (first | (with_reducible first | exact HB.out | apply below_alloc | apply pw_below_drewN | apply below_drew1) | exact HB.out)⟩⟩
  case round =>
    clear H'
    obtain ⟨x3_1, x8_1, rfl, rfl, HA, HK1, HB⟩ := hrel
    cases gk with
    | zero => exact absurd HA.out (by simp [scan_greatest.l0])
    | succ k1 =>
      have H := HA.out
      clear HA
      simp only [scan_greatest.l0] at H
      by_cases c2 : x8_1 < (l0.length : Int)
      · rw [if_pos c2] at H
        have c2b0 : decide (x8_1 < (l0.length : Int)) = true := decide_eq_true c2
        clear c2
        by_cases c3 : 0 ≤ x8_1
        · rw [if_pos c3] at H
          have c3b0 : decide (0 ≤ x8_1) = true := decide_eq_true c3
          clear c3
          by_cases c4 : x8_1 < (l0.length : Int)
          · rw [if_pos c4] at H
            have c4b0 : decide (x8_1 < (l0.length : Int)) = true := decide_eq_true c4
            clear c4
            obtain ⟨ji5, hji5⟩ : ∃ j_ : Int, (mx x3_1 (rd l0 x8_1)) = j_ := ⟨_, rfl⟩
            replace H : (scan_greatest.l0 k1 (mx (ji5) (wrap64 (-(rd l0 x8_1)))) l0 (l0.length : Int) (wrap64 (x8_1 + 1))) = some r := by first | (rw [hji5] at H; exact H) | (simp only [hji5] at H ⊢; exact H)
            have hji5_ : (if x3_1 < (rd l0 x8_1) then (rd l0 x8_1) else x3_1) = ji5 := hji5
            obtain ⟨ji6, hji6⟩ : ∃ j_ : Int, (mx (ji5) (wrap64 (-(rd l0 x8_1)))) = j_ := ⟨_, rfl⟩
            replace H : (scan_greatest.l0 k1 ji6 l0 (l0.length : Int) (wrap64 (x8_1 + 1))) = some r := by first | (rw [hji6] at H; exact H) | (simp only [hji6] at H ⊢; exact H)
            have hji6_ : (if (ji5) < (wrap64 (-(rd l0 x8_1))) then (wrap64 (-(rd l0 x8_1))) else (ji5)) = ji6 := hji6
            have H' := Aside0.mk H
            clear H
            have p101 : 0 ≤ (x8_1 : Int) := of_decide_eq_true (by first | (with_reducible assumption) | assumption)
            have q101 : x8_1 < (l0.length : Int) := of_decide_eq_true (by first | (with_reducible assumption) | assumption)
            obtain ⟨ad101, e101, hx101_0⟩ := Kd.at_int HR0.out x8_1 p101 q101
            cases e101
            replace hx101_0 := (HB.out.cell (World.block_lt_of_cell? w _ hx101_0)).trans hx101_0
            replace p101 := eq_true p101
            replace q101 := eq_true q101
            go_wp2
            go_roundg k1
            case measure => have := HK1.out; omega
            case rel => exact ⟨(ji6), (wrap64 (x8_1 + 1)), (by first | rfl | (simp; done) | (simp only [← hji6] <;> (first | rfl | simp)) | (simp [*]; done)), (by first | rfl | (simp; done) | (simp [*]; done)), H', ⟨by have := HK1.out; omega⟩, ⟨by repeat (first | (with_reducible first | exact HB.out | apply below_alloc | apply pw_below_drewN | apply below_drew1) | exact HB.out)⟩⟩
          · rw [if_neg c4] at H
            exact absurd H (by simp)
        · rw [if_neg c3] at H
          exact absurd H (by simp)
      · rw [if_neg c2] at H
        have c2b0 : decide (x8_1 < (l0.length : Int)) = false := decide_eq_false c2
        clear c2
        obtain rfl := Option.some.inj H
        go_wp2
        go_ret
        exact ⟨by first | rfl | (simp [errW_none, errW_some] <;> rfl) | (simp [*, errW_none, errW_some] <;> rfl), by repeat (first | (with_reducible first | exact HB.out | apply below_alloc | apply pw_below_drewN | apply below_drew1) | exact HB.out)⟩

end Go.Proofs.Ytmglkelmdcpinaa.G
/- The contract of the function scan_Max (number 31 of the translation): what its call computes, as a plain Lean function; memory that was there stays as it was. Conditions: none beyond the theorem's own. Written by a program (gprint.py). -/
namespace Go.Proofs.Ytmglkelmdcpinaa.G
open Go.RowKit Go.Proofs.YtmglkelmdcpinaaW.PrintWords Go.Proofs.YtmglkelmdcpinaaW.PrintLast Go.Proofs.YtmglkelmdcpinaaW.PrintMore
attribute [local go_sem] max2_int min2_int max_two min_two max_three min_three max_four min_four   -- for this text's walks alone
set_option linter.unusedVariables false
set_option linter.unusedSimpArgs false

/-! ### scan_Max: function 31 -/
def scan_Max.l0 : Nat → Int → List (S43) → Int → Int → Option (Int × Int)
  | 0, _, _, _, _ => none
  | k + 1, x4, x7, x8, x9 => if x9 < x8 then (if 0 ≤ x9 then (if x9 < (x7.length : Int) then (if (mn ((rd_T43 x7 x9).f0) ((rd_T43 x7 x9).f1)) < (-2147483648) then (some (0, 2)) else (if (mx ((rd_T43 x7 x9).f0) ((rd_T43 x7 x9).f1)) > 2147483648 then (some (0, 2)) else ((scan_greatest.f k (([x4, (rd_T43 x7 x9).f0, (rd_T43 x7 x9).f1] : List Int))).bind fun t106 => (scan_Max.l0 k t106 x7 x8 (wrap64 (x9 + 1)))))) else (none)) else (none)) else (some (x4, 0))
def scan_Max.f (k : Nat) (l0 : List (S43)) : Option (Int × Int) := scan_Max.l0 k 0 l0 (l0.length : Int) 0
theorem scan_Max.mono_l : ∀ k, (∀ y0 y1 y2 y3, LeO (scan_Max.l0 k y0 y1 y2 y3) (scan_Max.l0 (k + 1) y0 y1 y2 y3))
  | 0 => fun _ _ _ _ r h => by simp [scan_Max.l0] at h
  | k + 1 => by
    have ih0 := scan_Max.mono_l k
    · intro y0 y1 y2 y3
      unfold scan_Max.l0
      repeat' first
      | (with_reducible exact ih0 _ _ _ _)
      | (with_reducible exact scan_greatest.mono _ _)
      | (with_reducible exact LeO.refl _)
      | (with_reducible exact LeO.none _)
      | (with_reducible refine LeO.ite ?_ ?_)
      | (with_reducible refine LeO.bind ?_ (fun _ => ?_))
      | exact ih0 _ _ _ _
      | exact scan_greatest.mono _ _
      | exact LeO.none _
      | refine LeO.ite ?_ ?_
      | refine LeO.bind ?_ (fun _ => ?_)
theorem scan_Max.mono : ∀ a0 k, LeO (scan_Max.f k a0) (scan_Max.f (k + 1) a0) := by
  intro a0 k
  have ih0 := scan_Max.mono_l k
  unfold scan_Max.f
  repeat' first
      | (with_reducible exact ih0 _ _ _ _)
      | (with_reducible exact scan_greatest.mono _ _)
      | (with_reducible exact LeO.refl _)
      | (with_reducible exact LeO.none _)
      | (with_reducible refine LeO.ite ?_ ?_)
      | (with_reducible refine LeO.bind ?_ (fun _ => ?_))
      | exact ih0 _ _ _ _
      | exact scan_greatest.mono _ _
      | exact LeO.none _
      | refine LeO.ite ?_ ?_
      | refine LeO.bind ?_ (fun _ => ?_)
set_option maxHeartbeats 8000000 in
set_option maxRecDepth 100000 in
theorem scan_Max.calls (k : Nat) (A0 : Option Addr) (c0 : Nat) (l0 : List (S43)) (r1 : Int) (r2 : Int) (w : World) (hr0 : Kd.C k43 w A0 l0.length l0) (hc0 : l0.length ≤ c0) (h : scan_Max.f k l0 = some (r1, r2)) :
    Calls Try.prog 31 #[.slice A0 l0.length c0] w fun e w' => e = .returned (.tuple #[.int .i64 r1, .int .i64 r2]) ∧ Below w.heap.size w w' := by
  have hu43 := Try.underlying43
  have HR0 := Aside0.mk hr0
  have HC0 := Aside0.mk hc0
  clear hr0 hc0
  have HB := Aside0.mk (Below.refl w.heap.size w)
  have H : (scan_Max.l0 k 0 l0 (l0.length : Int) 0) = some (r1, r2) := h
  clear h
  have H' := Aside0.mk H
  clear H
  go_enter Try.func31, Try.ntmps31
  go_wp2
  go_loopg [4, 9] k (fun kq v4 v9 w' => ∃ (x4_1 : Int) (x9_1 : Int), v4 = .int .i64 x4_1 ∧ v9 = .int .i64 x9_1 ∧ Aside0 (scan_Max.l0 kq x4_1 l0 (l0.length : Int) x9_1 = some (r1, r2)) ∧ Aside0 (kq ≤ k) ∧ Aside0 (Below w.heap.size w w'))
  case atStart => exact ⟨(0), (0), (by first | rfl | (simp; done) | (simp [*]; done)), (by first | rfl | (simp; done) | (simp [*]; done)), H', ⟨Nat.le_refl _⟩, ⟨by repeat (first | (with_reducible first | exact HB.out | apply below_alloc | apply pw_below_drewN | apply below_drew1) | exact HB.out)⟩⟩
  case round =>
    clear H'
    obtain ⟨x4_1, x9_1, rfl, rfl, HA, HK1, HB⟩ := hrel
    cases gk with
    | zero => exact absurd HA.out (by simp [scan_Max.l0])
    | succ k1 =>
      have H := HA.out
      clear HA
      simp only [scan_Max.l0] at H
      by_cases c2 : x9_1 < (l0.length : Int)
      · rw [if_pos c2] at H
        have c2b0 : decide (x9_1 < (l0.length : Int)) = true := decide_eq_true c2
        clear c2
        by_cases c3 : 0 ≤ x9_1
        · rw [if_pos c3] at H
          have c3b0 : decide (0 ≤ x9_1) = true := decide_eq_true c3
          clear c3
          by_cases c4 : x9_1 < (l0.length : Int)
          · rw [if_pos c4] at H
            have c4b0 : decide (x9_1 < (l0.length : Int)) = true := decide_eq_true c4
            clear c4
            obtain ⟨ji5, hji5⟩ : ∃ j_ : Int, (mn ((rd_T43 l0 x9_1).f0) ((rd_T43 l0 x9_1).f1)) = j_ := ⟨_, rfl⟩
            replace H : (if (ji5) < (-2147483648) then (some (0, 2)) else (if (mx ((rd_T43 l0 x9_1).f0) ((rd_T43 l0 x9_1).f1)) > 2147483648 then (some (0, 2)) else ((scan_greatest.f k1 (([x4_1, (rd_T43 l0 x9_1).f0, (rd_T43 l0 x9_1).f1] : List Int))).bind fun t106 => (scan_Max.l0 k1 t106 l0 (l0.length : Int) (wrap64 (x9_1 + 1)))))) = some (r1, r2) := by first | (rw [hji5] at H; exact H) | (simp only [hji5] at H ⊢; exact H)
            have hji5_ : (if ((rd_T43 l0 x9_1).f1) < ((rd_T43 l0 x9_1).f0) then ((rd_T43 l0 x9_1).f1) else ((rd_T43 l0 x9_1).f0)) = ji5 := hji5
            by_cases c6 : (ji5) < (-2147483648)
            · rw [if_pos c6] at H
              have c6b0 : decide ((ji5) < (-2147483648)) = true := decide_eq_true c6
              clear c6
              simp only [Option.some.injEq, Prod.mk.injEq] at H
              obtain ⟨rfl, rfl⟩ := H
              have p101 : 0 ≤ (x9_1 : Int) := of_decide_eq_true (by first | (with_reducible assumption) | assumption)
              have q101 : x9_1 < (l0.length : Int) := of_decide_eq_true (by first | (with_reducible assumption) | assumption)
              obtain ⟨ad101, e101, hx101_0, hx101_1⟩ := at_T43 HR0.out x9_1 p101 q101
              cases e101
              replace hx101_0 := (HB.out.cell (World.block_lt_of_cell? w _ hx101_0)).trans hx101_0
              replace hx101_1 := (HB.out.cell (World.block_lt_of_cell? w _ hx101_1)).trans hx101_1
              replace p101 := eq_true p101
              replace q101 := eq_true q101
              go_wp2_with (first | ((with_reducible refine gate_dst (N := 6) rfl ?_); (try (refine gate_guard (by rfl) ?_; dsimp only)); refine box_event ?hg (N := 6) ?hd (cs := #[.int .i64 0, .int .i64 0]) (t := 43) ?hr ?_; (case hd => rfl); (case hg => rfl); (case hr => first | (go_simp; done) | (go_simp; rfl)); intro gb102 hg w7 hbox hb; have n0_ := Aside0.mk (below_step (by repeat (first | (with_reducible first | exact HB.out | apply below_alloc | apply pw_below_drewN | apply below_drew1) | exact HB.out)) hb); have n1_ := Aside0.mk (hbox); have n2_ := Aside0.mk ((by rw [hg]; exact (below_size (by repeat (first | (with_reducible first | exact HB.out | apply below_alloc | apply pw_below_drewN | apply below_drew1) | exact HB.out))) : w.heap.size ≤ gb102)); have n3_ := Aside0.mk ((by rw [hg]; exact (below_size (by repeat (first | (with_reducible first | exact HB.out | apply below_alloc | apply pw_below_drewN | apply below_drew1) | exact HB.out))) : w.heap.size ≤ gb102)); clear HB; have HB := n0_; have BK102 := n1_; have GW102 := n2_; have GE102 := n3_; clear n0_ n1_ n2_ n3_; clear hb hbox hg; have hcz8_0 : w7.cell? ⟨gb102, 0, none⟩ = some (.int .i64 0) := (blk_cell BK102.out 0).trans rfl; have hcz8_1 : w7.cell? ⟨gb102, 1, none⟩ = some (.int .i64 0) := (blk_cell BK102.out 1).trans rfl; have hfz8_0 := blk_frozen BK102.out 0; have hfz8_1 := blk_frozen BK102.out 1))
              go_ret2
              exact ⟨by first | rfl | (simp [errW_none, errW_some] <;> rfl) | (simp only [← hji5]; first | rfl | (simp [errW_none, errW_some] <;> rfl)) | (simp [*, errW_none, errW_some] <;> rfl), by repeat (first | (with_reducible first | exact HB.out | apply below_alloc | apply pw_below_drewN | apply below_drew1 | refine below_set ?_ GE102.out) | exact HB.out)⟩
            · rw [if_neg c6] at H
              have c6b0 : decide ((ji5) < (-2147483648)) = false := decide_eq_false c6
              clear c6
              obtain ⟨ji9, hji9⟩ : ∃ j_ : Int, (mx ((rd_T43 l0 x9_1).f0) ((rd_T43 l0 x9_1).f1)) = j_ := ⟨_, rfl⟩
              replace H : (if (ji9) > 2147483648 then (some (0, 2)) else ((scan_greatest.f k1 (([x4_1, (rd_T43 l0 x9_1).f0, (rd_T43 l0 x9_1).f1] : List Int))).bind fun t106 => (scan_Max.l0 k1 t106 l0 (l0.length : Int) (wrap64 (x9_1 + 1))))) = some (r1, r2) := by first | (rw [hji9] at H; exact H) | (simp only [hji9] at H ⊢; exact H)
              have hji9_ : (if ((rd_T43 l0 x9_1).f0) < ((rd_T43 l0 x9_1).f1) then ((rd_T43 l0 x9_1).f1) else ((rd_T43 l0 x9_1).f0)) = ji9 := hji9
              by_cases c10 : (ji9) > 2147483648
              · rw [if_pos c10] at H
                have c10b0 : decide (2147483648 < (ji9)) = true := decide_eq_true c10
                clear c10
                simp only [Option.some.injEq, Prod.mk.injEq] at H
                obtain ⟨rfl, rfl⟩ := H
                have p101 : 0 ≤ (x9_1 : Int) := of_decide_eq_true (by first | (with_reducible assumption) | assumption)
                have q101 : x9_1 < (l0.length : Int) := of_decide_eq_true (by first | (with_reducible assumption) | assumption)
                obtain ⟨ad101, e101, hx101_0, hx101_1⟩ := at_T43 HR0.out x9_1 p101 q101
                cases e101
                replace hx101_0 := (HB.out.cell (World.block_lt_of_cell? w _ hx101_0)).trans hx101_0
                replace hx101_1 := (HB.out.cell (World.block_lt_of_cell? w _ hx101_1)).trans hx101_1
                replace p101 := eq_true p101
                replace q101 := eq_true q101
                go_wp2_with (first | ((with_reducible refine gate_dst (N := 6) rfl ?_); (try (refine gate_guard (by rfl) ?_; dsimp only)); refine box_event ?hg (N := 6) ?hd (cs := #[.int .i64 0, .int .i64 0]) (t := 43) ?hr ?_; (case hd => rfl); (case hg => rfl); (case hr => first | (go_simp; done) | (go_simp; rfl)); intro gb102 hg w11 hbox hb; have n0_ := Aside0.mk (below_step (by repeat (first | (with_reducible first | exact HB.out | apply below_alloc | apply pw_below_drewN | apply below_drew1) | exact HB.out)) hb); have n1_ := Aside0.mk (hbox); have n2_ := Aside0.mk ((by rw [hg]; exact (below_size (by repeat (first | (with_reducible first | exact HB.out | apply below_alloc | apply pw_below_drewN | apply below_drew1) | exact HB.out))) : w.heap.size ≤ gb102)); have n3_ := Aside0.mk ((by rw [hg]; exact (below_size (by repeat (first | (with_reducible first | exact HB.out | apply below_alloc | apply pw_below_drewN | apply below_drew1) | exact HB.out))) : w.heap.size ≤ gb102)); clear HB; have HB := n0_; have BK102 := n1_; have GW102 := n2_; have GE102 := n3_; clear n0_ n1_ n2_ n3_; clear hb hbox hg; have hcz12_0 : w11.cell? ⟨gb102, 0, none⟩ = some (.int .i64 0) := (blk_cell BK102.out 0).trans rfl; have hcz12_1 : w11.cell? ⟨gb102, 1, none⟩ = some (.int .i64 0) := (blk_cell BK102.out 1).trans rfl; have hfz12_0 := blk_frozen BK102.out 0; have hfz12_1 := blk_frozen BK102.out 1))
                go_ret2
                exact ⟨by first | rfl | (simp [errW_none, errW_some] <;> rfl) | (simp only [← hji5, ← hji9]; first | rfl | (simp [errW_none, errW_some] <;> rfl)) | (simp [*, errW_none, errW_some] <;> rfl), by repeat (first | (with_reducible first | exact HB.out | apply below_alloc | apply pw_below_drewN | apply below_drew1 | refine below_set ?_ GE102.out) | exact HB.out)⟩
              · rw [if_neg c10] at H
                have c10b0 : decide (2147483648 < (ji9)) = false := decide_eq_false c10
                clear c10
                obtain ⟨y103, hy103⟩ : ∃ y_ : List Int, y_ = (([x4_1, (rd_T43 l0 x9_1).f0, (rd_T43 l0 x9_1).f1] : List Int)) := ⟨_, rfl⟩
                replace H : ((scan_greatest.f k1 y103).bind fun t106 => (scan_Max.l0 k1 t106 l0 (l0.length : Int) (wrap64 (x9_1 + 1)))) = some (r1, r2) := by first | (rw [hy103]; with_reducible exact H) | (have H2_ := (Option.bind_some _ _).symm.trans H; rw [hy103]; with_reducible exact H2_) | (have H2_ := (Option.bind_some _ _).symm.trans H; with_reducible exact H2_) | with_reducible exact H | (rw [hy103]; exact H) | exact H
                have Ny103 := Aside0.mk hy103
                clear hy103
                replace H := Option.bind_eq_some_iff.mp H
                obtain ⟨t106, A130, H⟩ := H
                replace H : (scan_Max.l0 k1 t106 l0 (l0.length : Int) (wrap64 (x9_1 + 1))) = some (r1, r2) := H
                have A13 := Aside0.mk A130
                clear A130
                have H' := Aside0.mk H
                clear H
                have p101 : 0 ≤ (x9_1 : Int) := of_decide_eq_true (by first | (with_reducible assumption) | assumption)
                have q101 : x9_1 < (l0.length : Int) := of_decide_eq_true (by first | (with_reducible assumption) | assumption)
                obtain ⟨ad101, e101, hx101_0, hx101_1⟩ := at_T43 HR0.out x9_1 p101 q101
                cases e101
                replace hx101_0 := (HB.out.cell (World.block_lt_of_cell? w _ hx101_0)).trans hx101_0
                replace hx101_1 := (HB.out.cell (World.block_lt_of_cell? w _ hx101_1)).trans hx101_1
                replace p101 := eq_true p101
                replace q101 := eq_true q101
                go_wp2_with (first | ((with_reducible refine gate_dst (N := 6) rfl ?_); (try (refine gate_guard (by rfl) ?_; dsimp only)); refine box_event ?hg (N := 6) ?hd (cs := #[.int .i64 0, .int .i64 0]) (t := 43) ?hr ?_; (case hd => rfl); (case hg => rfl); (case hr => first | (go_simp; done) | (go_simp; rfl)); intro gb102 hg w14 hbox hb; have n0_ := Aside0.mk (below_step (by repeat (first | (with_reducible first | exact HB.out | apply below_alloc | apply pw_below_drewN | apply below_drew1) | exact HB.out)) hb); have n1_ := Aside0.mk (hbox); have n2_ := Aside0.mk ((by rw [hg]; exact (below_size (by repeat (first | (with_reducible first | exact HB.out | apply below_alloc | apply pw_below_drewN | apply below_drew1) | exact HB.out))) : w.heap.size ≤ gb102)); have n3_ := Aside0.mk ((by rw [hg]; exact (below_size (by repeat (first | (with_reducible first | exact HB.out | apply below_alloc | apply pw_below_drewN | apply below_drew1) | exact HB.out))) : w.heap.size ≤ gb102)); clear HB; have HB := n0_; have BK102 := n1_; have GW102 := n2_; have GE102 := n3_; clear n0_ n1_ n2_ n3_; clear hb hbox hg; have hcz15_0 : w14.cell? ⟨gb102, 0, none⟩ = some (.int .i64 0) := (blk_cell BK102.out 0).trans rfl; have hcz15_1 : w14.cell? ⟨gb102, 1, none⟩ = some (.int .i64 0) := (blk_cell BK102.out 1).trans rfl; have hfz15_0 := blk_frozen BK102.out 0; have hfz15_1 := blk_frozen BK102.out 1) | ((with_reducible refine gate_dst (N := 32) rfl ?_); (try (refine gate_guard (by rfl) ?_; dsimp only)); refine Kd.R_lit (Kd.int .i64) _ 3 ?hg (N := 32) ?hd (xs := ([x4_1, (rd_T43 l0 x9_1).f0, (rd_T43 l0 x9_1).f1] : List Int)) (inner := [.int .i64 x4_1, .int .i64 ((rd_T43 l0 x9_1).f0), .int .i64 ((rd_T43 l0 x9_1).f1)]) (ok := fun _ => True) (okp := fun _ => True) ?hr ?hp (fun _ hk => hk) trivial (Below.refl _ _) (Nat.le_refl _) (by simp) ?_; (case hd => rfl); (case hg => rfl); (case hr => first | (go_simp; done) | (go_simp; rfl)); (case hp => exact (Reps.one (show Kd.M (Kd.int .i64) _ _ _ x4_1 [.int .i64 x4_1] from rfl) (Reps.one (show Kd.M (Kd.int .i64) _ _ _ ((rd_T43 l0 x9_1).f0) [.int .i64 ((rd_T43 l0 x9_1).f0)] from rfl) (Reps.one (show Kd.M (Kd.int .i64) _ _ _ ((rd_T43 l0 x9_1).f1) [.int .i64 ((rd_T43 l0 x9_1).f1)] from rfl) (Reps.none _ _))))); intro v104 w16 ho17 hb hg_ hnew_; clear hg_ hnew_; (first | rw [← Ny103.out] at ho17 | (simp only [Int.reduceToNat] at ho17; rw [← Ny103.out] at ho17)); have n0_ := Aside0.mk (Kd.R_lower ho17 (below_size (by repeat (first | (with_reducible first | exact HB.out | apply below_alloc | apply pw_below_drewN | apply below_drew1 | refine below_set ?_ GE102.out) | exact HB.out)))); have n1_ := Aside0.mk (blk_below (g := gb102) (o := .cells #[.int .i64 ((rd_T43 l0 x9_1).f0), .int .i64 ((rd_T43 l0 x9_1).f1)] 43 (0, 0)) (by (with_reducible repeat (first | refine blk_drewN ?_ _ | refine blk_drew ?_ | refine blk_alloc ?_ _)); refine blk_put (cs := #[.int .i64 ((rd_T43 l0 x9_1).f0), .int .i64 0]) ?_ 1 _ rfl; (with_reducible repeat (first | refine blk_drewN ?_ _ | refine blk_drew ?_ | refine blk_alloc ?_ _)); refine blk_put (cs := #[.int .i64 0, .int .i64 0]) ?_ 0 _ rfl; (with_reducible repeat (first | refine blk_drewN ?_ _ | refine blk_drew ?_ | refine blk_alloc ?_ _)); exact BK102.out) hb); have n2_ := Aside0.mk (below_step (by repeat (first | (with_reducible first | exact HB.out | apply below_alloc | apply pw_below_drewN | apply below_drew1 | refine below_set ?_ GE102.out) | exact HB.out)) hb); clear BK102; clear HB; have HO105 := n0_; have BK102 := n1_; have HB := n2_; clear n0_ n1_ n2_; clear hb ho17; obtain ⟨Ao18, co18, eo18⟩ := Kd.R_slice HO105.out; subst eo18) | ((with_reducible refine gate_callee (f := 92) rfl ?_); refine goesL_ (some 33) rfl rfl Try.func92 (by kernel_rfl) rfl #[.slice Ao18 y103.length co18] rfl (by (try simp only [List.map_toArray, List.map_cons, List.map_nil]); first | done | rfl | (simp only [List.length_drop, List.length_take]; rfl)) ?_; (with_reducible refine (scan_greatest.calls k1 _ _ y103 t106 _ ?side1 ?side2 A13.out).mono ?_); (case side1 => repeat (first | exact (Kd.R_reads' HO105.out).2.2 | (with_reducible refine Kd.C_alloc ?_ _) | (with_reducible refine Kd.C_drewN ?_ _) | (with_reducible refine Kd.C_drew ?_))); (case side2 => exact (Kd.R_reads' HO105.out).2.1); rintro e w19 ⟨rfl, hb⟩; refine ⟨_, rfl, ?_⟩; have n0_ := Aside0.mk (Kd.R_below (by (with_reducible repeat (first | apply Kd.R_alloc | apply Kd.R_drewN | apply Kd.R_drew)); exact HO105.out) hb); have n1_ := Aside0.mk (blk_below (g := gb102) (o := .cells #[.int .i64 ((rd_T43 l0 x9_1).f0), .int .i64 ((rd_T43 l0 x9_1).f1)] 43 (0, 0)) (by (with_reducible repeat (first | refine blk_drewN ?_ _ | refine blk_drew ?_ | refine blk_alloc ?_ _)); exact BK102.out) hb); have n2_ := Aside0.mk (below_step (by repeat (first | (with_reducible first | exact HB.out | apply below_alloc | apply pw_below_drewN | apply below_drew1 | refine below_set ?_ GE102.out) | exact HB.out)) hb); clear HO105; clear BK102; clear HB; have HO105 := n0_; have BK102 := n1_; have HB := n2_; clear n0_ n1_ n2_; (try clear hb); (try clear hb2); (try clear hk); (try clear hi)))
                go_roundg k1
                case measure => have := HK1.out; omega
                case rel => exact ⟨(t106), (wrap64 (x9_1 + 1)), (by first | rfl | (simp; done) | (simp [*]; done)), (by first | rfl | (simp; done) | (simp [*]; done)), H', ⟨by have := HK1.out; omega⟩, ⟨by repeat (first | (with_reducible first | exact HB.out | apply below_alloc | apply pw_below_drewN | apply below_drew1 | refine below_set ?_ GE102.out) | exact HB.out)⟩⟩
          · rw [if_neg c4] at H
            exact absurd H (by simp)
        · rw [if_neg c3] at H
          exact absurd H (by simp)
      · rw [if_neg c2] at H
        have c2b0 : decide (x9_1 < (l0.length : Int)) = false := decide_eq_false c2
        clear c2
        simp only [Option.some.injEq, Prod.mk.injEq] at H
        obtain ⟨rfl, rfl⟩ := H
        go_wp2
        go_ret2
        exact ⟨by first | rfl | (simp [errW_none, errW_some] <;> rfl) | (simp [*, errW_none, errW_some] <;> rfl), by repeat (first | (with_reducible first | exact HB.out | apply below_alloc | apply pw_below_drewN | apply below_drew1) | exact HB.out)⟩

end Go.Proofs.Ytmglkelmdcpinaa.G
