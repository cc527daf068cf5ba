/- Contracts and plain laws on the way to DftTurns, part 2 of 2. Conditions: each theorem's own. Joined by a program (merge.py). -/
import Derived.Test.YtmglkelmdcpinaaG0
import Derived.Test.YtmglkelmdcpinaaM1
import Derived.Deep.SlicePairs
import Derived.ProofKit
import Derived.OpenShut
import Derived.Test.YtmglkelmdcpinaaJDftTurns1
/- The contract of the function dft_bin (number 125 of the translation): what its call computes, as a plain Lean function; memory that was there stays as it was. Conditions: none beyond the theorem's own. Written by a program (gprint.py). -/
namespace Go.Proofs.Ytmglkelmdcpinaa.G
open Go.RowKit Go.Proofs.YtmglkelmdcpinaaW.PrintWords Go.Proofs.YtmglkelmdcpinaaW.PrintLast Go.Proofs.YtmglkelmdcpinaaW.PrintMore
attribute [local go_sem] max2_int min2_int max_two min_two max_three min_three max_four min_four   -- for this text's walks alone
set_option linter.unusedVariables false
set_option linter.unusedSimpArgs false

/-! ### dft_bin: function 125 -/
/-- A sum's two parts, one product more. -/
def dft_bin.put (s : Int × Int) (a b : Int) : Int × Int := (wrap64 (s.1 + wrap64 (a / 65536 * b)), wrap64 (s.2 + wrap64 (bits .and .i64 a 65535 * b)))
def dft_bin.root (n : Nat) (l : List S43) (k : Int) (inv : Bool) (j : Nat) : Option (Int × Int) :=
  if 0 ≤ bits .and .i64 (wrap64 (j * k)) (wrap64 ((n : Int) - 1)) then (if bits .and .i64 (wrap64 (j * k)) (wrap64 ((n : Int) - 1)) < (l.length : Int) then
    (if inv = true then (cx_Conj.f (rd_T43 l (bits .and .i64 (wrap64 (j * k)) (wrap64 ((n : Int) - 1)))).f0 (rd_T43 l (bits .and .i64 (wrap64 (j * k)) (wrap64 ((n : Int) - 1)))).f1).bind fun p => some (p.1, p.2.1)
     else some ((rd_T43 l (bits .and .i64 (wrap64 (j * k)) (wrap64 ((n : Int) - 1)))).f0, (rd_T43 l (bits .and .i64 (wrap64 (j * k)) (wrap64 ((n : Int) - 1)))).f1)) else none) else none
def dft_bin.go (x l : List S43) (k : Int) (inv : Bool) : Nat → Option ((Int × Int) × (Int × Int))
  | 0 => some ((0, 0), (0, 0))
  | j + 1 => (dft_bin.go x l k inv j).bind fun s => (dft_bin.root x.length l k inv j).bind fun r =>
    some (dft_bin.put (dft_bin.put s.1 (rd_T43 x j).f0 r.1) (wrap64 (-(rd_T43 x j).f1)) r.2, dft_bin.put (dft_bin.put s.2 (rd_T43 x j).f0 r.2) (rd_T43 x j).f1 r.1)
def dft_bin.f (x l : List S43) (k : Int) (inv : Bool) : Option (Int × Int) := if x.length < 4294967296 then ((dft_bin.go x l k inv x.length).bind fun s => (dft_down.f s.1.1 s.1.2).bind fun a => (dft_down.f s.2.1 s.2.2).bind fun b => some (a, b)) else none
theorem dft_bin.go_some (x l : List S43) (k : Int) (inv : Bool) : ∀ (n : Nat) (s : (Int × Int) × (Int × Int)), dft_bin.go x l k inv n = some s → ∀ j, j ≤ n → ∃ s, dft_bin.go x l k inv j = some s
  | 0, s, h, j, hj => ⟨s, by rw [show j = 0 by omega]; exact h⟩
  | n + 1, s, h, j, hj => by
    by_cases e : j = n + 1
    · exact ⟨s, by rw [e]; exact h⟩
    · rw [dft_bin.go] at h
      obtain ⟨s', h', _⟩ := Option.bind_eq_some_iff.mp h
      exact dft_bin.go_some x l k inv n s' h' j (by omega)
theorem intOf_int (k : IntKind) (n : Int) : intOf (.int k n) = n := rfl
theorem dft_less (j n : Nat) (h : j < n) : n - ((j : Int) + 1).toNat < n - (j : Int).toNat := by omega
theorem dft_wrap (j n : Nat) (h : j < n) (hn : n < 4294967296) : wrap64 ((j : Int) + 1) = (j : Int) + 1 := M.wrap64_id (by omega) (by omega)
set_option maxHeartbeats 8000000 in
set_option maxRecDepth 100000 in
theorem dft_bin.calls (A0 : Option Addr) (c0 : Nat) (x : List S43) (A1 : Option Addr) (c1 : Nat) (l : List S43) (k : Int) (inv : Bool) (r1 r2 : Int) (w : World) (hr0 : Kd.C k43 w A0 x.length x) (hc0 : x.length ≤ c0) (hr1 : Kd.C k43 w A1 l.length l) (hc1 : l.length ≤ c1) (h : dft_bin.f x l k inv = some (r1, r2)) :
    Calls Try.prog 125 #[.slice A0 x.length c0, .slice A1 l.length c1, .int .i64 k, .bool inv] w fun e w' => e = .returned (.agg #[.int .i64 r1, .int .i64 r2]) ∧ Below w.heap.size w w' := by
  unfold dft_bin.f at h
  by_cases hx : x.length < 4294967296
  case neg => rw [if_neg hx] at h; cases h
  rw [if_pos hx] at h
  obtain ⟨s, hs, h⟩ := Option.bind_eq_some_iff.mp h
  obtain ⟨re, hre, h⟩ := Option.bind_eq_some_iff.mp h
  obtain ⟨im, him, h⟩ := Option.bind_eq_some_iff.mp h
  simp only [Option.some.injEq, Prod.mk.injEq] at h
  obtain ⟨rfl, rfl⟩ := h
  have HS := Aside0.mk hs
  have HRe := Aside0.mk hre
  have HIm := Aside0.mk him
  have HX := Aside0.mk hr0
  have HL := Aside0.mk hr1
  have HN := Aside0.mk hx
  have HC0 := Aside0.mk hc0
  have HC1 := Aside0.mk hc1
  clear hs hre him hr0 hr1 hx hc0 hc1
  obtain ⟨b0, b1, b2, hB, hz⟩ := boxes3 w (.cells #[.int .i64 0, .int .i64 0] 43) (.cells #[.int .i64 0, .int .i64 0] 150) (.cells #[.int .i64 0, .int .i64 0] 150)
  go_enter Try.func125, Try.ntmps125
  go_wp2_with (fail)
  have HE := Aside0.mk b0
  have HR := Aside0.mk b1
  have HI := Aside0.mk b2
  have HB := Aside0.mk hB
  clear b0 b1 b2 hB hz
  generalize ((w.alloc (.cells #[.int .i64 0, .int .i64 0] 43)).alloc (.cells #[.int .i64 0, .int .i64 0] 150)).alloc (.cells #[.int .i64 0, .int .i64 0] 150) = V at HE HR HI HB ⊢
  go_loopw [16] (fun v wr => ∃ (j : Nat) (s : (Int × Int) × (Int × Int)), j ≤ x.length ∧ v = .int .i64 j ∧ Aside0 (dft_bin.go x l k inv j = some s) ∧ Aside0 (wr.heap[w.heap.size]? = some (.cells #[.int .i64 0, .int .i64 0] 43 (0, 0))) ∧ Aside0 (wr.heap[w.heap.size + 1]? = some (.cells #[.int .i64 s.1.1, .int .i64 s.1.2] 150 (0, 0))) ∧ Aside0 (wr.heap[w.heap.size + 1 + 1]? = some (.cells #[.int .i64 s.2.1, .int .i64 s.2.2] 150 (0, 0))) ∧ Aside0 (Below w.heap.size w wr)) (fun v _ => x.length - (intOf v).toNat)
  case atStart => exact ⟨0, ((0, 0), (0, 0)), by omega, rfl, ⟨rfl⟩, HE, HR, HI, HB⟩
  case round =>
    clear HE HR HI HB
    obtain ⟨j, st, hj, rfl, HG, HE, HR, HI, HB⟩ := hrel
    by_cases hlt : j < x.length
    · have g0 : (j : Int) < (x.length : Int) := by omega
      have g00 : (0 : Int) ≤ (j : Int) := by omega
      obtain ⟨sn, hsn⟩ := dft_bin.go_some x l k inv x.length s HS.out (j + 1) (by omega)
      have hsn' := hsn
      rw [dft_bin.go, HG.out] at hsn'
      simp only [Option.bind_some] at hsn'
      obtain ⟨r, hroot, hsn'⟩ := Option.bind_eq_some_iff.mp hsn'
      have HSN := Aside0.mk hsn
      have hsn2 := Aside0.mk (Option.some.inj hsn')
      clear hsn hsn'
      unfold dft_bin.root at hroot
      obtain ⟨i, hi⟩ : ∃ i : Int, bits .and .i64 (wrap64 (j * k)) (wrap64 ((x.length : Int) - 1)) = i := ⟨_, rfl⟩
      rw [hi] at hroot
      by_cases gi0 : 0 ≤ i
      case neg => rw [if_neg gi0] at hroot; cases hroot
      rw [if_pos gi0] at hroot
      by_cases gi1 : i < (l.length : Int)
      case neg => rw [if_neg gi1] at hroot; cases hroot
      rw [if_pos gi1] at hroot
      obtain ⟨ad0, rfl, x0, x1⟩ := at_T43 HX.out j g00 g0
      obtain ⟨ad1, rfl, y0, y1⟩ := at_T43 HL.out i gi0 gi1
      rw [Int.toNat_natCast] at x0 x1
      replace x0 := pw_cell_below HB.out x0
      replace x1 := pw_cell_below HB.out x1
      have by0 := Aside0.mk (pw_cell_below HB.out y0)
      have by1 := Aside0.mk (pw_cell_below HB.out y1)
      clear y0 y1
      generalize rd_T43 l i = rt at by0 by1 hroot
      generalize rd_T43 x j = av at x0 x1 hsn2
      obtain ⟨a0, a1⟩ := av
      obtain ⟨u0, u1⟩ := rt
      dsimp only at x0 x1 by0 by1 hroot hsn2
      have HRT := Aside0.mk hroot
      clear hroot
      have y0 : (wr.alloc (.cells #[.int .i64 a0, .int .i64 a1] 43)).cell? (ad1.add (i.toNat * 2)) = some (.int .i64 u0) := pw_cell_below (below_alloc (Below.refl _ _) _) by0.out
      have y1 : (wr.alloc (.cells #[.int .i64 a0, .int .i64 a1] 43)).cell? ⟨(ad1.add (i.toNat * 2)).block, (ad1.add (i.toNat * 2)).off + 1, none⟩ = some (.int .i64 u1) := pw_cell_below (below_alloc (Below.refl _ _) _) by1.out
      clear by0 by1
      obtain ⟨bN, bM, hBN, hzN⟩ := boxes2 wr (.cells #[.int .i64 a0, .int .i64 a1] 43) (.cells #[.int .i64 u0, .int .i64 u1] 43)
      have BN := Aside0.mk bN
      have BM := Aside0.mk bM
      have HE2 := Aside0.mk (blk_below HE.out hBN)
      have HR2 := Aside0.mk (blk_below HR.out hBN)
      have HI2 := Aside0.mk (blk_below HI.out hBN)
      have HB2 := Aside0.mk (below_then HB.out HB.out.size hBN)
      have HZ := Aside0.mk (blk_lt HI.out)
      clear bN bM hBN hzN HE HR HI HB
      cases inv with
      | false =>
        simp only [Bool.false_eq_true, if_false, Option.some.injEq] at HRT
        obtain rfl := HRT.out
        clear HRT
        have m0 := (blk_cell BN.out 0).trans rfl
        have m1 := (blk_cell BN.out 1).trans rfl
        have n0 := (blk_cell BM.out 0).trans rfl
        have n1 := (blk_cell BM.out 1).trans rfl
        go_wp2_with (fail)
        clear m0 m1 n0 n1 x0 x1 y0 y1
        generalize (wr.alloc (.cells #[.int .i64 a0, .int .i64 a1] 43)).alloc (.cells #[.int .i64 u0, .int .i64 u1] 43) = W0 at BN BM HE2 HR2 HI2 HB2 ⊢
        generalize wr.heap.size = nn at BN BM HZ ⊢
        with_reducible refine (dft_add.calls _ _ _ _ _ _ HR2.out).mono ?_
        rintro e w5 ⟨rfl, hc, hg⟩
        replace HR2 : Aside0 (w5.heap[w.heap.size + 1]? = some (.cells #[.int .i64 (dft_bin.put st.1 a0 u0).1, .int .i64 (dft_bin.put st.1 a0 u0).2] 150 (0, 0))) := ⟨hc⟩
        replace HI2 := Aside0.mk (blk_grown HI2.out hg (fun h => by have := HZ.out; have h := Option.some.inj h; omega))
        replace HE2 := Aside0.mk (blk_grown HE2.out hg (fun h => by have := HZ.out; have h := Option.some.inj h; omega))
        replace BN := Aside0.mk (blk_grown BN.out hg (fun h => by have := HZ.out; have h := Option.some.inj h; omega))
        replace BM := Aside0.mk (blk_grown BM.out hg (fun h => by have := HZ.out; have h := Option.some.inj h; omega))
        replace HB2 := Aside0.mk (pw_below_grown HB2.out _ HB2.out.size hg (fun k hk => by have hk := Option.some.inj hk; omega))
        clear hc hg
        have m0 := (blk_cell BN.out 0).trans rfl
        have m1 := (blk_cell BN.out 1).trans rfl
        have n0 := (blk_cell BM.out 0).trans rfl
        have n1 := (blk_cell BM.out 1).trans rfl
        go_wp2_with (fail)
        clear m0 m1 n0 n1
        with_reducible refine (dft_add.calls _ _ _ _ _ _ HR2.out).mono ?_
        rintro e w6 ⟨rfl, hc, hg⟩
        replace HR2 : Aside0 (w6.heap[w.heap.size + 1]? = some (.cells #[.int .i64 (dft_bin.put (dft_bin.put st.1 a0 u0) (wrap64 (-a1)) u1).1, .int .i64 (dft_bin.put (dft_bin.put st.1 a0 u0) (wrap64 (-a1)) u1).2] 150 (0, 0))) := ⟨hc⟩
        replace HI2 := Aside0.mk (blk_grown HI2.out hg (fun h => by have := HZ.out; have h := Option.some.inj h; omega))
        replace HE2 := Aside0.mk (blk_grown HE2.out hg (fun h => by have := HZ.out; have h := Option.some.inj h; omega))
        replace BN := Aside0.mk (blk_grown BN.out hg (fun h => by have := HZ.out; have h := Option.some.inj h; omega))
        replace BM := Aside0.mk (blk_grown BM.out hg (fun h => by have := HZ.out; have h := Option.some.inj h; omega))
        replace HB2 := Aside0.mk (pw_below_grown HB2.out _ HB2.out.size hg (fun k hk => by have hk := Option.some.inj hk; omega))
        clear hc hg
        have m0 := (blk_cell BN.out 0).trans rfl
        have m1 := (blk_cell BN.out 1).trans rfl
        have n0 := (blk_cell BM.out 0).trans rfl
        have n1 := (blk_cell BM.out 1).trans rfl
        go_wp2_with (fail)
        clear m0 m1 n0 n1
        with_reducible refine (dft_add.calls _ _ _ _ _ _ HI2.out).mono ?_
        rintro e w7 ⟨rfl, hc, hg⟩
        replace HI2 : Aside0 (w7.heap[w.heap.size + 1 + 1]? = some (.cells #[.int .i64 (dft_bin.put st.2 a0 u1).1, .int .i64 (dft_bin.put st.2 a0 u1).2] 150 (0, 0))) := ⟨hc⟩
        replace HR2 := Aside0.mk (blk_grown HR2.out hg (fun h => by have := HZ.out; have h := Option.some.inj h; omega))
        replace HE2 := Aside0.mk (blk_grown HE2.out hg (fun h => by have := HZ.out; have h := Option.some.inj h; omega))
        replace BN := Aside0.mk (blk_grown BN.out hg (fun h => by have := HZ.out; have h := Option.some.inj h; omega))
        replace BM := Aside0.mk (blk_grown BM.out hg (fun h => by have := HZ.out; have h := Option.some.inj h; omega))
        replace HB2 := Aside0.mk (pw_below_grown HB2.out _ HB2.out.size hg (fun k hk => by have hk := Option.some.inj hk; omega))
        clear hc hg
        have m0 := (blk_cell BN.out 0).trans rfl
        have m1 := (blk_cell BN.out 1).trans rfl
        have n0 := (blk_cell BM.out 0).trans rfl
        have n1 := (blk_cell BM.out 1).trans rfl
        go_wp2_with (fail)
        clear m0 m1 n0 n1
        with_reducible refine (dft_add.calls _ _ _ _ _ _ HI2.out).mono ?_
        rintro e w8 ⟨rfl, hc, hg⟩
        replace HI2 : Aside0 (w8.heap[w.heap.size + 1 + 1]? = some (.cells #[.int .i64 (dft_bin.put (dft_bin.put st.2 a0 u1) a1 u0).1, .int .i64 (dft_bin.put (dft_bin.put st.2 a0 u1) a1 u0).2] 150 (0, 0))) := ⟨hc⟩
        replace HR2 := Aside0.mk (blk_grown HR2.out hg (fun h => by have := HZ.out; have h := Option.some.inj h; omega))
        replace HE2 := Aside0.mk (blk_grown HE2.out hg (fun h => by have := HZ.out; have h := Option.some.inj h; omega))
        replace BN := Aside0.mk (blk_grown BN.out hg (fun h => by have := HZ.out; have h := Option.some.inj h; omega))
        replace BM := Aside0.mk (blk_grown BM.out hg (fun h => by have := HZ.out; have h := Option.some.inj h; omega))
        replace HB2 := Aside0.mk (pw_below_grown HB2.out _ HB2.out.size hg (fun k hk => by have hk := Option.some.inj hk; omega))
        clear hc hg
        have hw := dft_wrap j x.length hlt HN.out
        go_wp2_with (fail)
        refine ⟨⟨j + 1, sn, by omega, by first | rfl | (rw [hw]; rfl) | go_num, HSN, HE2, ?_, ?_, HB2⟩, ?_⟩
        · obtain rfl := hsn2.out
          exact HR2
        · obtain rfl := hsn2.out
          exact HI2
        · rw [intOf_int, intOf_int, hw]
          exact dft_less j x.length hlt
      | true =>
        simp only [if_true] at HRT
        obtain ⟨⟨v0, v1, ve⟩, hcj, hr⟩ := Option.bind_eq_some_iff.mp HRT.out
        obtain rfl := Option.some.inj hr
        have HCJ := Aside0.mk hcj
        clear HRT hcj hr
        have n0 := (blk_cell BM.out 0).trans rfl
        have n1 := (blk_cell BM.out 1).trans rfl
        go_wp2_with (fail)
        clear n0 n1 x0 x1 y0 y1
        generalize (wr.alloc (.cells #[.int .i64 a0, .int .i64 a1] 43)).alloc (.cells #[.int .i64 u0, .int .i64 u1] 43) = W0 at BN BM HE2 HR2 HI2 HB2 ⊢
        generalize wr.heap.size = nn at BN BM HZ ⊢
        with_reducible refine (cx_Conj.calls _ _ v0 v1 ve _ HCJ.out).mono ?_
        rintro e w1 ⟨rfl, hb⟩
        replace BN := Aside0.mk (blk_below BN.out hb)
        replace BM := Aside0.mk (blk_below BM.out hb)
        replace HE2 := Aside0.mk (blk_below HE2.out hb)
        replace HR2 := Aside0.mk (blk_below HR2.out hb)
        replace HI2 := Aside0.mk (blk_below HI2.out hb)
        replace HB2 := Aside0.mk (below_then HB2.out HB2.out.size hb)
        clear hb
        have m0 := (blk_cell BN.out 0).trans rfl
        have m1 := (blk_cell BN.out 1).trans rfl
        have n0 := (blk_cell BM.out 0).trans rfl
        have n1 := (blk_cell BM.out 1).trans rfl
        have f0 := blk_frozen BM.out 0
        have f1 := blk_frozen BM.out 1
        go_wp2_with (fail)
        have hzz := HZ.out
        have hsz := HB2.out.size
        replace BM := Aside0.mk (blk_put (blk_put BM.out 0 (.int .i64 v0) rfl) 1 (.int .i64 v1) rfl)
        replace BN := Aside0.mk (blk_far (p := ⟨nn + 1, 1, none⟩) (blk_far (p := ⟨nn + 1, 0, none⟩) BN.out (show nn ≠ nn + 1 by omega) (.int .i64 v0)) (show nn ≠ nn + 1 by omega) (.int .i64 v1))
        replace HE2 := Aside0.mk (blk_far (p := ⟨nn + 1, 1, none⟩) (blk_far (p := ⟨nn + 1, 0, none⟩) HE2.out (show w.heap.size ≠ nn + 1 by omega) (.int .i64 v0)) (show w.heap.size ≠ nn + 1 by omega) (.int .i64 v1))
        replace HR2 := Aside0.mk (blk_far (p := ⟨nn + 1, 1, none⟩) (blk_far (p := ⟨nn + 1, 0, none⟩) HR2.out (show w.heap.size + 1 ≠ nn + 1 by omega) (.int .i64 v0)) (show w.heap.size + 1 ≠ nn + 1 by omega) (.int .i64 v1))
        replace HI2 := Aside0.mk (blk_far (p := ⟨nn + 1, 1, none⟩) (blk_far (p := ⟨nn + 1, 0, none⟩) HI2.out (show w.heap.size + 1 + 1 ≠ nn + 1 by omega) (.int .i64 v0)) (show w.heap.size + 1 + 1 ≠ nn + 1 by omega) (.int .i64 v1))
        replace HB2 := Aside0.mk (below_set (j := 1) (v := .int .i64 v1) (below_set (j := 0) (v := .int .i64 v0) HB2.out (show w.heap.size ≤ nn + 1 by omega)) (show w.heap.size ≤ nn + 1 by omega))
        clear n0 n1 m0 m1 f0 f1 hzz hsz
        generalize (w1.setCell ⟨nn + 1, 0, none⟩ (.int .i64 v0)).setCell ⟨nn + 1, 1, none⟩ (.int .i64 v1) = W0 at BN BM HE2 HR2 HI2 HB2 ⊢
        with_reducible refine (dft_add.calls _ _ _ _ _ _ HR2.out).mono ?_
        rintro e w5 ⟨rfl, hc, hg⟩
        replace HR2 : Aside0 (w5.heap[w.heap.size + 1]? = some (.cells #[.int .i64 (dft_bin.put st.1 a0 v0).1, .int .i64 (dft_bin.put st.1 a0 v0).2] 150 (0, 0))) := ⟨hc⟩
        replace HI2 := Aside0.mk (blk_grown HI2.out hg (fun h => by have := HZ.out; have h := Option.some.inj h; omega))
        replace HE2 := Aside0.mk (blk_grown HE2.out hg (fun h => by have := HZ.out; have h := Option.some.inj h; omega))
        replace BN := Aside0.mk (blk_grown BN.out hg (fun h => by have := HZ.out; have h := Option.some.inj h; omega))
        replace BM := Aside0.mk (blk_grown BM.out hg (fun h => by have := HZ.out; have h := Option.some.inj h; omega))
        replace HB2 := Aside0.mk (pw_below_grown HB2.out _ HB2.out.size hg (fun k hk => by have hk := Option.some.inj hk; omega))
        clear hc hg
        have m0 := (blk_cell BN.out 0).trans rfl
        have m1 := (blk_cell BN.out 1).trans rfl
        have n0 := (blk_cell BM.out 0).trans rfl
        have n1 := (blk_cell BM.out 1).trans rfl
        go_wp2_with (fail)
        clear m0 m1 n0 n1
        with_reducible refine (dft_add.calls _ _ _ _ _ _ HR2.out).mono ?_
        rintro e w6 ⟨rfl, hc, hg⟩
        replace HR2 : Aside0 (w6.heap[w.heap.size + 1]? = some (.cells #[.int .i64 (dft_bin.put (dft_bin.put st.1 a0 v0) (wrap64 (-a1)) v1).1, .int .i64 (dft_bin.put (dft_bin.put st.1 a0 v0) (wrap64 (-a1)) v1).2] 150 (0, 0))) := ⟨hc⟩
        replace HI2 := Aside0.mk (blk_grown HI2.out hg (fun h => by have := HZ.out; have h := Option.some.inj h; omega))
        replace HE2 := Aside0.mk (blk_grown HE2.out hg (fun h => by have := HZ.out; have h := Option.some.inj h; omega))
        replace BN := Aside0.mk (blk_grown BN.out hg (fun h => by have := HZ.out; have h := Option.some.inj h; omega))
        replace BM := Aside0.mk (blk_grown BM.out hg (fun h => by have := HZ.out; have h := Option.some.inj h; omega))
        replace HB2 := Aside0.mk (pw_below_grown HB2.out _ HB2.out.size hg (fun k hk => by have hk := Option.some.inj hk; omega))
        clear hc hg
        have m0 := (blk_cell BN.out 0).trans rfl
        have m1 := (blk_cell BN.out 1).trans rfl
        have n0 := (blk_cell BM.out 0).trans rfl
        have n1 := (blk_cell BM.out 1).trans rfl
        go_wp2_with (fail)
        clear m0 m1 n0 n1
        with_reducible refine (dft_add.calls _ _ _ _ _ _ HI2.out).mono ?_
        rintro e w7 ⟨rfl, hc, hg⟩
        replace HI2 : Aside0 (w7.heap[w.heap.size + 1 + 1]? = some (.cells #[.int .i64 (dft_bin.put st.2 a0 v1).1, .int .i64 (dft_bin.put st.2 a0 v1).2] 150 (0, 0))) := ⟨hc⟩
        replace HR2 := Aside0.mk (blk_grown HR2.out hg (fun h => by have := HZ.out; have h := Option.some.inj h; omega))
        replace HE2 := Aside0.mk (blk_grown HE2.out hg (fun h => by have := HZ.out; have h := Option.some.inj h; omega))
        replace BN := Aside0.mk (blk_grown BN.out hg (fun h => by have := HZ.out; have h := Option.some.inj h; omega))
        replace BM := Aside0.mk (blk_grown BM.out hg (fun h => by have := HZ.out; have h := Option.some.inj h; omega))
        replace HB2 := Aside0.mk (pw_below_grown HB2.out _ HB2.out.size hg (fun k hk => by have hk := Option.some.inj hk; omega))
        clear hc hg
        have m0 := (blk_cell BN.out 0).trans rfl
        have m1 := (blk_cell BN.out 1).trans rfl
        have n0 := (blk_cell BM.out 0).trans rfl
        have n1 := (blk_cell BM.out 1).trans rfl
        go_wp2_with (fail)
        clear m0 m1 n0 n1
        with_reducible refine (dft_add.calls _ _ _ _ _ _ HI2.out).mono ?_
        rintro e w8 ⟨rfl, hc, hg⟩
        replace HI2 : Aside0 (w8.heap[w.heap.size + 1 + 1]? = some (.cells #[.int .i64 (dft_bin.put (dft_bin.put st.2 a0 v1) a1 v0).1, .int .i64 (dft_bin.put (dft_bin.put st.2 a0 v1) a1 v0).2] 150 (0, 0))) := ⟨hc⟩
        replace HR2 := Aside0.mk (blk_grown HR2.out hg (fun h => by have := HZ.out; have h := Option.some.inj h; omega))
        replace HE2 := Aside0.mk (blk_grown HE2.out hg (fun h => by have := HZ.out; have h := Option.some.inj h; omega))
        replace BN := Aside0.mk (blk_grown BN.out hg (fun h => by have := HZ.out; have h := Option.some.inj h; omega))
        replace BM := Aside0.mk (blk_grown BM.out hg (fun h => by have := HZ.out; have h := Option.some.inj h; omega))
        replace HB2 := Aside0.mk (pw_below_grown HB2.out _ HB2.out.size hg (fun k hk => by have hk := Option.some.inj hk; omega))
        clear hc hg
        have hw := dft_wrap j x.length hlt HN.out
        go_wp2_with (fail)
        refine ⟨⟨j + 1, sn, by omega, by first | rfl | (rw [hw]; rfl) | go_num, HSN, HE2, ?_, ?_, HB2⟩, ?_⟩
        · obtain rfl := hsn2.out
          exact HR2
        · obtain rfl := hsn2.out
          exact HI2
        · rw [intOf_int, intOf_int, hw]
          exact dft_less j x.length hlt
    · have g0 : ¬ (j : Int) < (x.length : Int) := by omega
      obtain rfl : j = x.length := by omega
      obtain rfl := Option.some.inj (HG.out.symm.trans HS.out)
      clear HG HX HL
      have hsz := HB.out.size
      go_wp2_with (fail)
      have bE := HE.out
      clear HE
      refine wp_region_held_drew (S := fun w' => wr.grownBy w' (some w.heap.size)) (by kernel_rfl) (grownBy_drew_ _ _) (fun hS => ?_)
      replace bE : wr.drew.heap[w.heap.size]? = _ := bE
      generalize wr.drew = X at hS bE ⊢
      refine takeH (i := 0) (v := ?_) rfl rfl (by kernel_rfl) (by kernel_rfl) (by kernel_rfl) (fun _ _ _ h => h) hS (by rfl) ?_ ?_
      rotate_left
      · intro w' hSw
        have tc0 := (blk_cell (blk_grown HR.out hSw (fun h => by have h := Option.some.inj h; omega)) 0).trans rfl
        have tc1 := (blk_cell (blk_grown HR.out hSw (fun h => by have h := Option.some.inj h; omega)) 1).trans rfl
        go_simp
        try (with_reducible rfl)
      simp only [List.setIfInBounds_toArray, List.set_cons_zero, List.set_cons_succ]
      refine takeH (i := 2) (v := ?_) rfl rfl (by kernel_rfl) (by kernel_rfl) (by kernel_rfl) (fun _ _ _ h => h) hS (by rfl) ?_ ?_
      rotate_left
      · intro w' hSw
        have tc0 := (blk_cell (blk_grown HI.out hSw (fun h => by have h := Option.some.inj h; omega)) 0).trans rfl
        have tc1 := (blk_cell (blk_grown HI.out hSw (fun h => by have h := Option.some.inj h; omega)) 1).trans rfl
        go_simp
        try (with_reducible rfl)
      simp only [List.setIfInBounds_toArray, List.set_cons_zero, List.set_cons_succ]
      refine wpAnyH_ready (rs := [1]) (by kernel_rfl) (by simp) ?_
      refine AllReadyH.cons rfl (fun K hK => ?_) ?_
      · go_simp
        refine (dft_down.calls _ _ re _ HRe.out).mono ?_
        rintro e w' ⟨rfl, hb⟩
        replace bE := blk_below bE hb
        refine hK.out _ _ (hS.trans (grown_of_below hb _)) (fun hHeld => ?_)
        clear hK K hS hb
        have hS := hHeld
        clear hHeld
        try simp only [Act.put, List.setIfInBounds_toArray, List.set_cons_zero, List.set_cons_succ]
        generalize w' = X at bE hS ⊢
        refine wpAnyH_ready (rs := [3]) (by kernel_rfl) (by simp) ?_
        refine AllReadyH.cons rfl (fun K hK => ?_) ?_
        · go_simp
          refine (dft_down.calls _ _ im _ HIm.out).mono ?_
          rintro e w' ⟨rfl, hb⟩
          replace bE := blk_below bE hb
          refine hK.out _ _ (hS.trans (grown_of_below hb _)) (fun hHeld => ?_)
          clear hK K hS hb
          have hS := hHeld
          clear hHeld
          try simp only [Act.put, List.setIfInBounds_toArray, List.set_cons_zero, List.set_cons_succ]
          generalize w' = X at bE hS ⊢
          refine takeH (i := 4) (v := ?_) rfl rfl (by kernel_rfl) (by kernel_rfl) (by kernel_rfl) (fun _ _ _ h => h) hS (by rfl) ?_ ?_
          rotate_left
          · intro w' hSw
            go_simp
            try (with_reducible rfl)
          simp only [List.setIfInBounds_toArray, List.set_cons_zero, List.set_cons_succ]
          refine wpAnyH_ready (rs := [5]) (by kernel_rfl) (by simp) ?_
          refine AllReadyH.cons rfl (fun K hK => ?_) ?_
          · have c0 := (blk_cell bE 0).trans rfl
            have g0 := blk_frozen bE 0
            have c1 := (blk_cell bE 1).trans rfl
            have g1 := blk_frozen bE 1
            go_simp
            refine hK.out _ _ (grown_on (p := ⟨w.heap.size, 1, none⟩) (grown_on (p := ⟨w.heap.size, 0, none⟩) hS rfl (.int .i64 re)) rfl (.int .i64 im)) (fun hHeld => ?_)
            clear hK K hS c0 g0 c1 g1
            have hS := hHeld
            clear hHeld
            try simp only [Act.put]
            replace bE := (blk_put (blk_put bE 0 (.int .i64 re) rfl) 1 (.int .i64 im) rfl)
            generalize (X.setCell ⟨w.heap.size, 0, none⟩ (.int .i64 re)).setCell ⟨w.heap.size, 1, none⟩ (.int .i64 im) = X at bE hS ⊢
            refine wpAnyH_done (by kernel_rfl) ?_ _
            simp only [Exit.then]
            go_at_K
            have e0 := (blk_cell bE 0).trans rfl
            have e1 := (blk_cell bE 1).trans rfl
            try go_wp2_with (fail)
            exact bodyPost_ret (v := .agg #[.int .i64 re, .int .i64 im]) (by simp [results, Try.results125, go_sem, e0, e1]) rfl ⟨rfl, pw_below_grown HB.out _ HB.out.size hS (fun k hk => by have hk := Option.some.inj hk; omega)⟩
          exact AllReadyH.nil
        exact AllReadyH.nil
      exact AllReadyH.nil

end Go.Proofs.Ytmglkelmdcpinaa.G
/- The contract of the function dft_Bin (number 62 of the translation): what its call computes, as a plain Lean function; memory that was there stays as it was. Conditions: none beyond the theorem's own. Written by a program (gprint.py). -/
namespace Go.Proofs.Ytmglkelmdcpinaa.G
open Go.RowKit Go.Proofs.YtmglkelmdcpinaaW.PrintWords Go.Proofs.YtmglkelmdcpinaaW.PrintLast Go.Proofs.YtmglkelmdcpinaaW.PrintMore
attribute [local go_sem] max2_int min2_int max_two min_two max_three min_three max_four min_four   -- for this text's walks alone
set_option linter.unusedVariables false
set_option linter.unusedSimpArgs false

/-! ### dft_Bin: function 62 -/
def dft_Bin.f (k : Nat) (l0 : List (S43)) (a1 : Int) (a2 : Bool) : Option (Int × Int × Int) := (dft_may.f k l0).bind fun bt102 => (if bt102.2 = 0 then ((dft_bin.f l0 bt102.1 (Go.bits .and .i64 a1 (wrap64 ((l0.length : Int) - 1))) a2).bind fun bt106 => (some (bt106.1, bt106.2, 0))) else (some (0, 0, bt102.2)))
theorem dft_Bin.mono : ∀ a0 a1 a2 k, LeO (dft_Bin.f k a0 a1 a2) (dft_Bin.f (k + 1) a0 a1 a2) := by
  intro a0 a1 a2 k
  unfold dft_Bin.f
  repeat' first
      | (with_reducible exact dft_may.mono _ _)
      | (with_reducible exact LeO.refl _)
      | (with_reducible exact LeO.none _)
      | (with_reducible refine LeO.ite ?_ ?_)
      | (with_reducible refine LeO.bind ?_ (fun _ => ?_))
      | exact dft_may.mono _ _
      | exact LeO.none _
      | refine LeO.ite ?_ ?_
      | refine LeO.bind ?_ (fun _ => ?_)
set_option maxHeartbeats 8000000 in
set_option maxRecDepth 100000 in
theorem dft_Bin.calls (k : Nat) (A0 : Option Addr) (c0 : Nat) (l0 : List (S43)) (a1 : Int) (a2 : Bool) (r1 : Int) (r2 : Int) (r3 : Int) (w : World) (hr0 : Kd.C k43 w A0 l0.length l0) (hc0 : l0.length ≤ c0) (h : dft_Bin.f k l0 a1 a2 = some (r1, r2, r3)) :
    Calls Try.prog 62 #[.slice A0 l0.length c0, .int .i64 a1, .bool a2] w fun e w' => e = .returned (.tuple #[.agg #[.int .i64 r1, .int .i64 r2], .int .i64 r3]) ∧ Below w.heap.size w w' := by
  have hu43 := Try.underlying43
  have HR0 := Aside0.mk hr0
  have HC0 := Aside0.mk hc0
  clear hr0 hc0
  have HB := Aside0.mk (Below.refl w.heap.size w)
  have H : ((dft_may.f k l0).bind fun bt102 => (if bt102.2 = 0 then ((dft_bin.f l0 bt102.1 (Go.bits .and .i64 a1 (wrap64 ((l0.length : Int) - 1))) a2).bind fun bt106 => (some (bt106.1, bt106.2, 0))) else (some (0, 0, bt102.2)))) = some (r1, r2, r3) := h
  clear h
  replace H := Option.bind_eq_some_iff.mp H
  obtain ⟨⟨t102, t103⟩, A40, H⟩ := H
  replace H : (if t103 = 0 then ((dft_bin.f l0 t102 (Go.bits .and .i64 a1 (wrap64 ((l0.length : Int) - 1))) a2).bind fun bt106 => (some (bt106.1, bt106.2, 0))) else (some (0, 0, t103))) = some (r1, r2, r3) := H
  have A4 := Aside0.mk A40
  clear A40
  by_cases c5 : t103 = 0
  · rw [if_pos c5] at H
    have c5b0 : (t103 == 0) = true := beq_iff_eq.mpr c5
    have c5b1 : (t103 != 0) = false := bne_eq_false_iff_eq.mpr c5
    clear c5
    replace H := Option.bind_eq_some_iff.mp H
    obtain ⟨⟨t106, t107⟩, A60, H⟩ := H
    replace H : (some (t106, t107, 0)) = some (r1, r2, r3) := H
    have A6 := Aside0.mk A60
    clear A60
    simp only [Option.some.injEq, Prod.mk.injEq] at H
    obtain ⟨rfl, rfl, rfl⟩ := H
    go_enter Try.func62, Try.ntmps62
    go_wp2_with (first | ((with_reducible refine gate_dst (N := 6) rfl ?_); refine box_event ?hg (N := 6) ?hd (cs := #[.int .i64 0, .int .i64 0]) (t := 43) ?hr ?_; (case hd => rfl); (case hg => rfl); (case hr => first | (go_simp; done) | (go_simp; rfl)); intro gb101 hg w7 hbox hb; have n0_ := Aside0.mk (below_step (by repeat (first | (with_reducible first | exact HB.out | apply below_alloc | apply pw_below_drewN | apply below_drew1) | exact HB.out)) hb); have n1_ := Aside0.mk (hbox); have n2_ := Aside0.mk ((by rw [hg]; exact (below_size (by repeat (first | (with_reducible first | exact HB.out | apply below_alloc | apply pw_below_drewN | apply below_drew1) | exact HB.out))) : w.heap.size ≤ gb101)); have n3_ := Aside0.mk ((by rw [hg]; exact (below_size (by repeat (first | (with_reducible first | exact HB.out | apply below_alloc | apply pw_below_drewN | apply below_drew1) | exact HB.out))) : w.heap.size ≤ gb101)); clear HB; have HB := n0_; have BK101 := n1_; have GW101 := n2_; have GE101 := n3_; clear n0_ n1_ n2_ n3_; clear hb hbox hg) | ((with_reducible refine gate_callee (f := 124) rfl ?_); refine goesL_ (some 12) rfl rfl Try.func124 (by kernel_rfl) rfl #[.slice A0 l0.length c0] rfl (by (try simp only [List.map_toArray, List.map_cons, List.map_nil]); first | done | rfl | (simp only [List.length_drop, List.length_take]; rfl)) ?_; (with_reducible refine (dft_may.calls k _ _ l0 t102 t103 _ ?side1 ?side2 A4.out).mono ?_); (case side1 => repeat (first | exact (Kd.C_below HR0.out HB.out) | (with_reducible refine Kd.C_alloc ?_ _) | (with_reducible refine Kd.C_drewN ?_ _) | (with_reducible refine Kd.C_drew ?_))); (case side2 => exact HC0.out); rintro e w8 ⟨v104, rfl, ho0, hb⟩; refine ⟨_, rfl, ?_⟩; have n0_ := Aside0.mk (Kd.R_lower (Kd.R_newB ho0 (g := gb101) (o := .cells #[.int .i64 0, .int .i64 0] 43 (0, 0)) (by (with_reducible repeat (first | refine blk_drewN ?_ _ | refine blk_drew ?_ | refine blk_alloc ?_ _)); exact BK101.out)) (below_size (by repeat (first | (with_reducible first | exact HB.out | apply below_alloc | apply pw_below_drewN | apply below_drew1 | refine below_set ?_ GE101.out) | exact HB.out)))); have n1_ := Aside0.mk (blk_below (g := gb101) (o := .cells #[.int .i64 0, .int .i64 0] 43 (0, 0)) (by (with_reducible repeat (first | refine blk_drewN ?_ _ | refine blk_drew ?_ | refine blk_alloc ?_ _)); exact BK101.out) hb); have n2_ := Aside0.mk (below_step (by repeat (first | (with_reducible first | exact HB.out | apply below_alloc | apply pw_below_drewN | apply below_drew1 | refine below_set ?_ GE101.out) | exact HB.out)) hb); clear BK101; clear HB; have HO105 := n0_; have BK101 := n1_; have HB := n2_; clear n0_ n1_ n2_; (try clear hb); (try clear hb2); (try clear hk); (try clear hi); (try clear ho0); obtain ⟨Ao9, co9, eo9⟩ := Kd.R_slice HO105.out; subst eo9) | ((with_reducible refine gate_callee (f := 125) rfl ?_); refine goesL_ (some 27) rfl rfl Try.func125 (by kernel_rfl) rfl #[.slice A0 l0.length c0, .slice Ao9 t102.length co9, .int .i64 (Go.bits .and .i64 a1 (wrap64 ((l0.length : Int) - 1))), .bool a2] rfl (by (try simp only [List.map_toArray, List.map_cons, List.map_nil]); first | done | rfl | (simp only [List.length_drop, List.length_take]; rfl)) ?_; (with_reducible refine (dft_bin.calls _ _ l0 _ _ t102 (Go.bits .and .i64 a1 (wrap64 ((l0.length : Int) - 1))) a2 t106 t107 _ ?side1 ?side2 ?side3 ?side4 A6.out).mono ?_); (case side1 => repeat (first | exact (Kd.C_below HR0.out HB.out) | (with_reducible refine Kd.C_alloc ?_ _) | (with_reducible refine Kd.C_drewN ?_ _) | (with_reducible refine Kd.C_drew ?_))); (case side2 => exact HC0.out); (case side3 => repeat (first | exact (Kd.R_reads' HO105.out).2.2 | (with_reducible refine Kd.C_alloc ?_ _) | (with_reducible refine Kd.C_drewN ?_ _) | (with_reducible refine Kd.C_drew ?_))); (case side4 => exact (Kd.R_reads' HO105.out).2.1); rintro e w10 ⟨rfl, hb⟩; refine ⟨_, rfl, ?_⟩; have n0_ := Aside0.mk (Kd.R_below (by (with_reducible repeat (first | apply Kd.R_alloc | apply Kd.R_drewN | apply Kd.R_drew)); exact HO105.out) hb); have n1_ := Aside0.mk (blk_below (g := gb101) (o := .cells #[.int .i64 0, .int .i64 0] 43 (0, 0)) (by (with_reducible repeat (first | refine blk_drewN ?_ _ | refine blk_drew ?_ | refine blk_alloc ?_ _)); exact BK101.out) hb); have n2_ := Aside0.mk (below_step (by repeat (first | (with_reducible first | exact HB.out | apply below_alloc | apply pw_below_drewN | apply below_drew1 | refine below_set ?_ GE101.out) | exact HB.out)) hb); clear HO105; clear BK101; clear HB; have HO105 := n0_; have BK101 := n1_; have HB := n2_; clear n0_ n1_ n2_; (try clear hb); (try clear hb2); (try clear hk); (try clear hi); have hcz11_0 : w10.cell? ⟨gb101, 0, none⟩ = some (.int .i64 0) := (blk_cell BK101.out 0).trans rfl; have hcz11_1 : w10.cell? ⟨gb101, 1, none⟩ = some (.int .i64 0) := (blk_cell BK101.out 1).trans rfl; have hfz11_0 := blk_frozen BK101.out 0; have hfz11_1 := blk_frozen BK101.out 1))
    refine bodyPost_ret (results_ct rfl _ _ gb101 43 #[.int .i64 t106, .int .i64 t107] (0, 0) _ rfl (by (with_reducible repeat (first | refine blk_drewN ?_ _ | refine blk_drew ?_ | refine blk_alloc ?_ _)); refine blk_put (cs := #[.int .i64 t106, .int .i64 0]) ?_ 1 _ rfl; (with_reducible repeat (first | refine blk_drewN ?_ _ | refine blk_drew ?_ | refine blk_alloc ?_ _)); refine blk_put (cs := #[.int .i64 0, .int .i64 0]) ?_ 0 _ rfl; (with_reducible repeat (first | refine blk_drewN ?_ _ | refine blk_drew ?_ | refine blk_alloc ?_ _)); exact BK101.out) Try.underlying43 rfl (by kernel_rfl)) rfl ?_
    exact ⟨by first | rfl | (simp [errW_none, errW_some] <;> rfl) | (simp [*, errW_none, errW_some] <;> rfl), by repeat (first | (with_reducible first | exact HB.out | apply below_alloc | apply pw_below_drewN | apply below_drew1 | refine below_set ?_ GE101.out) | exact HB.out)⟩
  · rw [if_neg c5] at H
    have c5b0 : (t103 == 0) = false := beq_eq_false_iff_ne.mpr c5
    have c5b1 : (t103 != 0) = true := bne_iff_ne.mpr c5
    simp only [Option.some.injEq, Prod.mk.injEq] at H
    obtain ⟨rfl, rfl, rfl⟩ := H
    go_enter Try.func62, Try.ntmps62
    go_wp2_with (first | ((with_reducible refine gate_dst (N := 6) rfl ?_); refine box_event ?hg (N := 6) ?hd (cs := #[.int .i64 0, .int .i64 0]) (t := 43) ?hr ?_; (case hd => rfl); (case hg => rfl); (case hr => first | (go_simp; done) | (go_simp; rfl)); intro gb101 hg w12 hbox hb; have n0_ := Aside0.mk (below_step (by repeat (first | (with_reducible first | exact HB.out | apply below_alloc | apply pw_below_drewN | apply below_drew1) | exact HB.out)) hb); have n1_ := Aside0.mk (hbox); have n2_ := Aside0.mk ((by rw [hg]; exact (below_size (by repeat (first | (with_reducible first | exact HB.out | apply below_alloc | apply pw_below_drewN | apply below_drew1) | exact HB.out))) : w.heap.size ≤ gb101)); have n3_ := Aside0.mk ((by rw [hg]; exact (below_size (by repeat (first | (with_reducible first | exact HB.out | apply below_alloc | apply pw_below_drewN | apply below_drew1) | exact HB.out))) : w.heap.size ≤ gb101)); clear HB; have HB := n0_; have BK101 := n1_; have GW101 := n2_; have GE101 := n3_; clear n0_ n1_ n2_ n3_; clear hb hbox hg) | ((with_reducible refine gate_callee (f := 124) rfl ?_); refine goesL_ (some 12) rfl rfl Try.func124 (by kernel_rfl) rfl #[.slice A0 l0.length c0] rfl (by (try simp only [List.map_toArray, List.map_cons, List.map_nil]); first | done | rfl | (simp only [List.length_drop, List.length_take]; rfl)) ?_; (with_reducible refine (dft_may.calls k _ _ l0 t102 t103 _ ?side1 ?side2 A4.out).mono ?_); (case side1 => repeat (first | exact (Kd.C_below HR0.out HB.out) | (with_reducible refine Kd.C_alloc ?_ _) | (with_reducible refine Kd.C_drewN ?_ _) | (with_reducible refine Kd.C_drew ?_))); (case side2 => exact HC0.out); rintro e w13 ⟨v104, rfl, ho0, hb⟩; refine ⟨_, rfl, ?_⟩; have n0_ := Aside0.mk (Kd.R_lower (Kd.R_newB ho0 (g := gb101) (o := .cells #[.int .i64 0, .int .i64 0] 43 (0, 0)) (by (with_reducible repeat (first | refine blk_drewN ?_ _ | refine blk_drew ?_ | refine blk_alloc ?_ _)); exact BK101.out)) (below_size (by repeat (first | (with_reducible first | exact HB.out | apply below_alloc | apply pw_below_drewN | apply below_drew1 | refine below_set ?_ GE101.out) | exact HB.out)))); have n1_ := Aside0.mk (blk_below (g := gb101) (o := .cells #[.int .i64 0, .int .i64 0] 43 (0, 0)) (by (with_reducible repeat (first | refine blk_drewN ?_ _ | refine blk_drew ?_ | refine blk_alloc ?_ _)); exact BK101.out) hb); have n2_ := Aside0.mk (below_step (by repeat (first | (with_reducible first | exact HB.out | apply below_alloc | apply pw_below_drewN | apply below_drew1 | refine below_set ?_ GE101.out) | exact HB.out)) hb); clear BK101; clear HB; have HO105 := n0_; have BK101 := n1_; have HB := n2_; clear n0_ n1_ n2_; (try clear hb); (try clear hb2); (try clear hk); (try clear hi); (try clear ho0); have hcz14_0 : w13.cell? ⟨gb101, 0, none⟩ = some (.int .i64 0) := (blk_cell BK101.out 0).trans rfl; have hcz14_1 : w13.cell? ⟨gb101, 1, none⟩ = some (.int .i64 0) := (blk_cell BK101.out 1).trans rfl; have hfz14_0 := blk_frozen BK101.out 0; have hfz14_1 := blk_frozen BK101.out 1))
    refine bodyPost_ret (results_ct rfl _ _ gb101 43 #[.int .i64 0, .int .i64 0] (0, 0) _ rfl (by (with_reducible repeat (first | refine blk_drewN ?_ _ | refine blk_drew ?_ | refine blk_alloc ?_ _)); refine blk_put (cs := #[.int .i64 0, .int .i64 0]) ?_ 1 _ rfl; (with_reducible repeat (first | refine blk_drewN ?_ _ | refine blk_drew ?_ | refine blk_alloc ?_ _)); refine blk_put (cs := #[.int .i64 0, .int .i64 0]) ?_ 0 _ rfl; (with_reducible repeat (first | refine blk_drewN ?_ _ | refine blk_drew ?_ | refine blk_alloc ?_ _)); exact BK101.out) Try.underlying43 rfl (by kernel_rfl)) rfl ?_
    exact ⟨by first | rfl | (simp [errW_none, errW_some] <;> rfl) | (simp [*, errW_none, errW_some] <;> rfl), by repeat (first | (with_reducible first | exact HB.out | apply below_alloc | apply pw_below_drewN | apply below_drew1 | refine below_set ?_ GE101.out) | exact HB.out)⟩

end Go.Proofs.Ytmglkelmdcpinaa.G
/- The contract of the function headroomlaw16_alive (number 63 of the translation): what its call computes, as a plain Lean function; memory that was there stays as it was. Conditions: none beyond the theorem's own. Written by a program (gprint.py). -/
namespace Go.Proofs.Ytmglkelmdcpinaa.G
open Go.RowKit Go.Proofs.YtmglkelmdcpinaaW.PrintWords Go.Proofs.YtmglkelmdcpinaaW.PrintLast Go.Proofs.YtmglkelmdcpinaaW.PrintMore
attribute [local go_sem] max2_int min2_int max_two min_two max_three min_three max_four min_four   -- for this text's walks alone
set_option linter.unusedVariables false
set_option linter.unusedSimpArgs false

attribute [local go_sem high] eqA43
/-! ### headroomlaw16_alive: function 63 -/
def headroomlaw16_alive.f (k : Nat)  : Option (Bool) := (dft_Bin.f k (([(⟨1, 0⟩ : S43), (⟨2, 0⟩ : S43), (⟨3, 0⟩ : S43), (⟨4, 0⟩ : S43)] : List (S43))) 1 false).bind fun bt104 => (if bt104.2.2 = 0 then (some (bt104.1 == (-512) && (bt104.2.1 == 512))) else (some false))
theorem headroomlaw16_alive.mono : ∀ k, LeO (headroomlaw16_alive.f k ) (headroomlaw16_alive.f (k + 1) ) := by
  intro  k
  unfold headroomlaw16_alive.f
  repeat' first
      | (with_reducible exact dft_Bin.mono _ _ _ _)
      | (with_reducible exact LeO.refl _)
      | (with_reducible exact LeO.none _)
      | (with_reducible refine LeO.ite ?_ ?_)
      | (with_reducible refine LeO.bind ?_ (fun _ => ?_))
      | exact dft_Bin.mono _ _ _ _
      | exact LeO.none _
      | refine LeO.ite ?_ ?_
      | refine LeO.bind ?_ (fun _ => ?_)
set_option maxHeartbeats 8000000 in
set_option maxRecDepth 100000 in
theorem headroomlaw16_alive.calls (k : Nat)  (r : Bool) (w : World) (h : headroomlaw16_alive.f k  = some r) :
    Calls Try.prog 63 #[] w fun e w' => e = .returned (.bool r) ∧ Below w.heap.size w w' := by
  have hu43 := Try.underlying43
  have HB := Aside0.mk (Below.refl w.heap.size w)
  have H : ((dft_Bin.f k (([(⟨1, 0⟩ : S43), (⟨2, 0⟩ : S43), (⟨3, 0⟩ : S43), (⟨4, 0⟩ : S43)] : List (S43))) 1 false).bind fun bt104 => (if bt104.2.2 = 0 then (some (bt104.1 == (-512) && (bt104.2.1 == 512))) else (some false))) = some r := h
  clear h
  obtain ⟨y101, hy101⟩ : ∃ y_ : List (S43), y_ = (([(⟨1, 0⟩ : S43), (⟨2, 0⟩ : S43), (⟨3, 0⟩ : S43), (⟨4, 0⟩ : S43)] : List (S43))) := ⟨_, rfl⟩
  replace H : ((dft_Bin.f k y101 1 false).bind fun bt104 => (if bt104.2.2 = 0 then (some (bt104.1 == (-512) && (bt104.2.1 == 512))) else (some false))) = some r := by first | (rw [hy101]; with_reducible exact H) | (have H2_ := (Option.bind_some _ _).symm.trans H; rw [hy101]; with_reducible exact H2_) | (have H2_ := (Option.bind_some _ _).symm.trans H; with_reducible exact H2_) | with_reducible exact H | (rw [hy101]; exact H) | exact H
  have Ny101 := Aside0.mk hy101
  clear hy101
  replace H := Option.bind_eq_some_iff.mp H
  obtain ⟨⟨t104, t105, t106⟩, A10, H⟩ := H
  replace H : (if t106 = 0 then (some (t104 == (-512) && (t105 == 512))) else (some false)) = some r := H
  have A1 := Aside0.mk A10
  clear A10
  by_cases c2 : t106 = 0
  · rw [if_pos c2] at H
    have c2b0 : (t106 == 0) = true := beq_iff_eq.mpr c2
    have c2b1 : (t106 != 0) = false := bne_eq_false_iff_eq.mpr c2
    clear c2
    obtain rfl := Option.some.inj H
    go_enter Try.func63, Try.ntmps63
    go_wp2_with (first | ((with_reducible refine gate_dst (N := 8) rfl ?_); refine Kd.R_lit k43 _ 43 ?hg (N := 8) ?hd (xs := ([(⟨1, 0⟩ : S43), (⟨2, 0⟩ : S43), (⟨3, 0⟩ : S43), (⟨4, 0⟩ : S43)] : List (S43))) (inner := [.int .i64 1, .int .i64 0, .int .i64 2, .int .i64 0, .int .i64 3, .int .i64 0, .int .i64 4, .int .i64 0]) (ok := fun _ => True) (okp := fun _ => True) ?hr ?hp (fun _ hk => hk) trivial (Below.refl _ _) (Nat.le_refl _) (by simp) ?_; (case hd => rfl); (case hg => rfl); (case hr => first | (go_simp; done) | (go_simp; rfl)); (case hp => exact (Reps.c2 (show Kd.M k43 _ _ _ (⟨1, 0⟩ : S43) [.int .i64 1, .int .i64 0] from (k43_mkM _ _ _ (⟨1, 0⟩ : S43) )) (Reps.c2 (show Kd.M k43 _ _ _ (⟨2, 0⟩ : S43) [.int .i64 2, .int .i64 0] from (k43_mkM _ _ _ (⟨2, 0⟩ : S43) )) (Reps.c2 (show Kd.M k43 _ _ _ (⟨3, 0⟩ : S43) [.int .i64 3, .int .i64 0] from (k43_mkM _ _ _ (⟨3, 0⟩ : S43) )) (Reps.c2 (show Kd.M k43 _ _ _ (⟨4, 0⟩ : S43) [.int .i64 4, .int .i64 0] from (k43_mkM _ _ _ (⟨4, 0⟩ : S43) )) (Reps.none _ _)))))); intro v102 w3 ho4 hb hg_ hnew_; clear hg_ hnew_; (first | rw [← Ny101.out] at ho4 | (simp only [Int.reduceToNat] at ho4; rw [← Ny101.out] at ho4)); have n0_ := Aside0.mk (Kd.R_lower ho4 (below_size (by repeat (first | (with_reducible first | exact HB.out | apply below_alloc | apply pw_below_drewN | apply below_drew1) | exact HB.out)))); have n1_ := Aside0.mk (below_step (by repeat (first | (with_reducible first | exact HB.out | apply below_alloc | apply pw_below_drewN | apply below_drew1) | exact HB.out)) hb); clear HB; have HO103 := n0_; have HB := n1_; clear n0_ n1_; clear hb ho4; obtain ⟨Ao5, co5, eo5⟩ := Kd.R_slice HO103.out; subst eo5) | ((with_reducible refine gate_callee (f := 62) rfl ?_); refine goesL_ (some 9) rfl rfl Try.func62 (by kernel_rfl) rfl #[.slice Ao5 y101.length co5, .int .i64 1, .bool false] rfl (by (try simp only [List.map_toArray, List.map_cons, List.map_nil]); first | done | rfl | (simp only [List.length_drop, List.length_take]; rfl)) ?_; (with_reducible refine (dft_Bin.calls k _ _ y101 1 false t104 t105 t106 _ ?side1 ?side2 A1.out).mono ?_); (case side1 => repeat (first | exact (Kd.R_reads' HO103.out).2.2 | (with_reducible refine Kd.C_alloc ?_ _) | (with_reducible refine Kd.C_drewN ?_ _) | (with_reducible refine Kd.C_drew ?_))); (case side2 => exact (Kd.R_reads' HO103.out).2.1); rintro e w6 ⟨rfl, hb⟩; refine ⟨_, rfl, ?_⟩; have n0_ := Aside0.mk (Kd.R_below (by (with_reducible repeat (first | apply Kd.R_alloc | apply Kd.R_drewN | apply Kd.R_drew)); exact HO103.out) hb); have n1_ := Aside0.mk (below_step (by repeat (first | (with_reducible first | exact HB.out | apply below_alloc | apply pw_below_drewN | apply below_drew1) | exact HB.out)) hb); clear HO103; clear HB; have HO103 := n0_; have HB := n1_; clear n0_ n1_; (try clear hb); (try clear hb2); (try clear hk); (try clear hi)) | ((with_reducible refine gate_dst (N := 1) rfl ?_); refine box_event ?hg (N := 1) ?hd (cs := #[.int .i64 0, .int .i64 0]) (t := 43) ?hr ?_; (case hd => rfl); (case hg => rfl); (case hr => first | (go_simp; done) | (go_simp; rfl)); intro gb107 hg w7 hbox hb; have n0_ := Aside0.mk (Kd.R_below (Kd.R_elderB (by (with_reducible repeat (first | apply Kd.R_alloc | apply Kd.R_drewN | apply Kd.R_drew)); exact HO103.out) gb107 (Nat.le_of_eq hg.symm)) hb); have n1_ := Aside0.mk (below_step (by repeat (first | (with_reducible first | exact HB.out | apply below_alloc | apply pw_below_drewN | apply below_drew1) | exact HB.out)) hb); have n2_ := Aside0.mk (hbox); have n3_ := Aside0.mk ((by rw [hg]; exact (below_size (by repeat (first | (with_reducible first | exact HB.out | apply below_alloc | apply pw_below_drewN | apply below_drew1) | exact HB.out))) : w.heap.size ≤ gb107)); have n4_ := Aside0.mk ((by rw [hg]; exact (below_size (by repeat (first | (with_reducible first | exact HB.out | apply below_alloc | apply pw_below_drewN | apply below_drew1) | exact HB.out))) : w.heap.size ≤ gb107)); clear HO103; clear HB; have HO103 := n0_; have HB := n1_; have BK107 := n2_; have GW107 := n3_; have GE107 := n4_; clear n0_ n1_ n2_ n3_ n4_; clear hb hbox hg; have hcz8_0 : w7.cell? ⟨gb107, 0, none⟩ = some (.int .i64 0) := (blk_cell BK107.out 0).trans rfl; have hcz8_1 : w7.cell? ⟨gb107, 1, none⟩ = some (.int .i64 0) := (blk_cell BK107.out 1).trans rfl; have hfz8_0 := blk_frozen BK107.out 0; have hfz8_1 := blk_frozen BK107.out 1))
    go_ret
    exact ⟨by first | rfl | (simp [errW_none, errW_some] <;> rfl) | (simp [*, errW_none, errW_some] <;> rfl), by repeat (first | (with_reducible first | exact HB.out | apply below_alloc | apply pw_below_drewN | apply below_drew1 | refine below_set ?_ GE107.out) | exact HB.out)⟩
  · rw [if_neg c2] at H
    have c2b0 : (t106 == 0) = false := beq_eq_false_iff_ne.mpr c2
    have c2b1 : (t106 != 0) = true := bne_iff_ne.mpr c2
    obtain rfl := Option.some.inj H
    go_enter Try.func63, Try.ntmps63
    go_wp2_with (first | ((with_reducible refine gate_dst (N := 8) rfl ?_); refine Kd.R_lit k43 _ 43 ?hg (N := 8) ?hd (xs := ([(⟨1, 0⟩ : S43), (⟨2, 0⟩ : S43), (⟨3, 0⟩ : S43), (⟨4, 0⟩ : S43)] : List (S43))) (inner := [.int .i64 1, .int .i64 0, .int .i64 2, .int .i64 0, .int .i64 3, .int .i64 0, .int .i64 4, .int .i64 0]) (ok := fun _ => True) (okp := fun _ => True) ?hr ?hp (fun _ hk => hk) trivial (Below.refl _ _) (Nat.le_refl _) (by simp) ?_; (case hd => rfl); (case hg => rfl); (case hr => first | (go_simp; done) | (go_simp; rfl)); (case hp => exact (Reps.c2 (show Kd.M k43 _ _ _ (⟨1, 0⟩ : S43) [.int .i64 1, .int .i64 0] from (k43_mkM _ _ _ (⟨1, 0⟩ : S43) )) (Reps.c2 (show Kd.M k43 _ _ _ (⟨2, 0⟩ : S43) [.int .i64 2, .int .i64 0] from (k43_mkM _ _ _ (⟨2, 0⟩ : S43) )) (Reps.c2 (show Kd.M k43 _ _ _ (⟨3, 0⟩ : S43) [.int .i64 3, .int .i64 0] from (k43_mkM _ _ _ (⟨3, 0⟩ : S43) )) (Reps.c2 (show Kd.M k43 _ _ _ (⟨4, 0⟩ : S43) [.int .i64 4, .int .i64 0] from (k43_mkM _ _ _ (⟨4, 0⟩ : S43) )) (Reps.none _ _)))))); intro v102 w9 ho10 hb hg_ hnew_; clear hg_ hnew_; (first | rw [← Ny101.out] at ho10 | (simp only [Int.reduceToNat] at ho10; rw [← Ny101.out] at ho10)); have n0_ := Aside0.mk (Kd.R_lower ho10 (below_size (by repeat (first | (with_reducible first | exact HB.out | apply below_alloc | apply pw_below_drewN | apply below_drew1) | exact HB.out)))); have n1_ := Aside0.mk (below_step (by repeat (first | (with_reducible first | exact HB.out | apply below_alloc | apply pw_below_drewN | apply below_drew1) | exact HB.out)) hb); clear HB; have HO103 := n0_; have HB := n1_; clear n0_ n1_; clear hb ho10; obtain ⟨Ao11, co11, eo11⟩ := Kd.R_slice HO103.out; subst eo11) | ((with_reducible refine gate_callee (f := 62) rfl ?_); refine goesL_ (some 9) rfl rfl Try.func62 (by kernel_rfl) rfl #[.slice Ao11 y101.length co11, .int .i64 1, .bool false] rfl (by (try simp only [List.map_toArray, List.map_cons, List.map_nil]); first | done | rfl | (simp only [List.length_drop, List.length_take]; rfl)) ?_; (with_reducible refine (dft_Bin.calls k _ _ y101 1 false t104 t105 t106 _ ?side1 ?side2 A1.out).mono ?_); (case side1 => repeat (first | exact (Kd.R_reads' HO103.out).2.2 | (with_reducible refine Kd.C_alloc ?_ _) | (with_reducible refine Kd.C_drewN ?_ _) | (with_reducible refine Kd.C_drew ?_))); (case side2 => exact (Kd.R_reads' HO103.out).2.1); rintro e w12 ⟨rfl, hb⟩; refine ⟨_, rfl, ?_⟩; have n0_ := Aside0.mk (Kd.R_below (by (with_reducible repeat (first | apply Kd.R_alloc | apply Kd.R_drewN | apply Kd.R_drew)); exact HO103.out) hb); have n1_ := Aside0.mk (below_step (by repeat (first | (with_reducible first | exact HB.out | apply below_alloc | apply pw_below_drewN | apply below_drew1) | exact HB.out)) hb); clear HO103; clear HB; have HO103 := n0_; have HB := n1_; clear n0_ n1_; (try clear hb); (try clear hb2); (try clear hk); (try clear hi)) | ((with_reducible refine gate_dst (N := 1) rfl ?_); refine box_event ?hg (N := 1) ?hd (cs := #[.int .i64 0, .int .i64 0]) (t := 43) ?hr ?_; (case hd => rfl); (case hg => rfl); (case hr => first | (go_simp; done) | (go_simp; rfl)); intro gb107 hg w13 hbox hb; have n0_ := Aside0.mk (Kd.R_below (Kd.R_elderB (by (with_reducible repeat (first | apply Kd.R_alloc | apply Kd.R_drewN | apply Kd.R_drew)); exact HO103.out) gb107 (Nat.le_of_eq hg.symm)) hb); have n1_ := Aside0.mk (below_step (by repeat (first | (with_reducible first | exact HB.out | apply below_alloc | apply pw_below_drewN | apply below_drew1) | exact HB.out)) hb); have n2_ := Aside0.mk (hbox); have n3_ := Aside0.mk ((by rw [hg]; exact (below_size (by repeat (first | (with_reducible first | exact HB.out | apply below_alloc | apply pw_below_drewN | apply below_drew1) | exact HB.out))) : w.heap.size ≤ gb107)); have n4_ := Aside0.mk ((by rw [hg]; exact (below_size (by repeat (first | (with_reducible first | exact HB.out | apply below_alloc | apply pw_below_drewN | apply below_drew1) | exact HB.out))) : w.heap.size ≤ gb107)); clear HO103; clear HB; have HO103 := n0_; have HB := n1_; have BK107 := n2_; have GW107 := n3_; have GE107 := n4_; clear n0_ n1_ n2_ n3_ n4_; clear hb hbox hg; have hcz14_0 : w13.cell? ⟨gb107, 0, none⟩ = some (.int .i64 0) := (blk_cell BK107.out 0).trans rfl; have hcz14_1 : w13.cell? ⟨gb107, 1, none⟩ = some (.int .i64 0) := (blk_cell BK107.out 1).trans rfl; have hfz14_0 := blk_frozen BK107.out 0; have hfz14_1 := blk_frozen BK107.out 1))
    go_ret
    exact ⟨by first | rfl | (simp [errW_none, errW_some] <;> rfl) | (simp [*, errW_none, errW_some] <;> rfl), by repeat (first | (with_reducible first | exact HB.out | apply below_alloc | apply pw_below_drewN | apply below_drew1 | refine below_set ?_ GE107.out) | exact HB.out)⟩

end Go.Proofs.Ytmglkelmdcpinaa.G
/- The contract of the function headroomlaw16_DftTurns (number 18 of the translation): what its call computes, as a plain Lean function; memory that was there stays as it was. Conditions: none beyond the theorem's own. Written by a program (gprint.py). -/
namespace Go.Proofs.Ytmglkelmdcpinaa.G
open Go.RowKit Go.Proofs.YtmglkelmdcpinaaW.PrintWords Go.Proofs.YtmglkelmdcpinaaW.PrintLast Go.Proofs.YtmglkelmdcpinaaW.PrintMore
attribute [local go_sem] max2_int min2_int max_two min_two max_three min_three max_four min_four   -- for this text's walks alone
set_option linter.unusedVariables false
set_option linter.unusedSimpArgs false

attribute [local go_sem high] eqA43
/-! ### headroomlaw16_DftTurns: function 18 -/
def headroomlaw16_DftTurns.l0 : Nat → Int → Int → Int → List (S43) → Int → Int → Int → Int → Int → Int → Int → Int → Int → Int → Int → Int → Option (Bool)
  | 0, _, _, _, _, _, _, _, _, _, _, _, _, _, _, _, _ => none
  | k + 1, x9, x11, x13, x60, x61, x62, x109000, x109001, x114000, x114001, x118000, x118001, x122000, x122001, x123000, x123001 => if x62 < x61 then (if 0 ≤ x62 then (if x62 < (x60.length : Int) then (headroomlaw16_DftTurns.l0 k x9 x11 x13 x60 x61 (wrap64 (x62 + 1)) x109000 x109001 x114000 x114001 x118000 x118001 x122000 x122001 (wrap64 (x123000 + ((rd_T43 x60 x62).f0))) (wrap64 (x123001 + ((rd_T43 x60 x62).f1)))) else (none)) else (none)) else ((headroomlaw16_alive.f k).bind fun t125 => (if t125 = true then (if x9 = 0 then (if x11 = 0 then (if x13 = 0 then (if (x114000 == x109000 && (x114001 == x109001)) = true then (if (x118000 == x109000 && (x118001 == x109001)) = true then (some (x122000 == (wrap64 (x123000 * 256)) && (x122001 == (wrap64 (x123001 * 256))))) else (some false)) else (some false)) else (some false)) else (some false)) else (some false)) else (some false)))
def headroomlaw16_DftTurns.f (k : Nat) (l0 : List (S43)) (a1 : Int) : Option (Bool) := if 0 ≤ (mn (l0.length : Int) 70) then (if (mn (l0.length : Int) 70) ≤ (l0.length : Int) then ((some (l0.take ((mn (l0.length : Int) 70) : Int).toNat : List (S43))).bind fun y101 => ((dft_Bin.f k y101 (Int.tmod a1 1099511627776) false).bind fun bt105 => (if bt105.2.2 = 0 then ((dft_Bin.f k y101 (wrap64 ((Int.tmod a1 1099511627776) + (y101.length : Int))) false).bind fun bt110 => ((dft_Bin.f k y101 (wrap64 (-(Int.tmod a1 1099511627776))) true).bind fun bt114 => ((dft_Bin.f k y101 0 false).bind fun bt118 => (headroomlaw16_DftTurns.l0 k bt110.2.2 bt114.2.2 bt118.2.2 y101 (y101.length : Int) 0 bt105.1 bt105.2.1 bt110.1 bt110.2.1 bt114.1 bt114.2.1 bt118.1 bt118.2.1 0 0)))) else ((headroomlaw16_alive.f k).bind fun t109 => (if t109 = true then (some (bt105.1 == 0 && (bt105.2.1 == 0))) else (some false)))))) else (none)) else (none)
theorem headroomlaw16_DftTurns.mono_l : ∀ k, (∀ y0 y1 y2 y3 y4 y5 y6 y7 y8 y9 y10 y11 y12 y13 y14 y15, LeO (headroomlaw16_DftTurns.l0 k y0 y1 y2 y3 y4 y5 y6 y7 y8 y9 y10 y11 y12 y13 y14 y15) (headroomlaw16_DftTurns.l0 (k + 1) y0 y1 y2 y3 y4 y5 y6 y7 y8 y9 y10 y11 y12 y13 y14 y15))
  | 0 => fun _ _ _ _ _ _ _ _ _ _ _ _ _ _ _ _ r h => by simp [headroomlaw16_DftTurns.l0] at h
  | k + 1 => by
    have ih0 := headroomlaw16_DftTurns.mono_l k
    · intro y0 y1 y2 y3 y4 y5 y6 y7 y8 y9 y10 y11 y12 y13 y14 y15
      unfold headroomlaw16_DftTurns.l0
      repeat' first
      | (with_reducible exact ih0 _ _ _ _ _ _ _ _ _ _ _ _ _ _ _ _)
      | (with_reducible exact dft_Bin.mono _ _ _ _)
      | (with_reducible exact headroomlaw16_alive.mono _)
      | (with_reducible exact LeO.refl _)
      | (with_reducible exact LeO.none _)
      | (with_reducible refine LeO.ite ?_ ?_)
      | (with_reducible refine LeO.bind ?_ (fun _ => ?_))
      | exact ih0 _ _ _ _ _ _ _ _ _ _ _ _ _ _ _ _
      | exact dft_Bin.mono _ _ _ _
      | exact headroomlaw16_alive.mono _
      | exact LeO.none _
      | refine LeO.ite ?_ ?_
      | refine LeO.bind ?_ (fun _ => ?_)
theorem headroomlaw16_DftTurns.mono : ∀ a0 a1 k, LeO (headroomlaw16_DftTurns.f k a0 a1) (headroomlaw16_DftTurns.f (k + 1) a0 a1) := by
  intro a0 a1 k
  have ih0 := headroomlaw16_DftTurns.mono_l k
  unfold headroomlaw16_DftTurns.f
  repeat' first
      | (with_reducible exact ih0 _ _ _ _ _ _ _ _ _ _ _ _ _ _ _ _)
      | (with_reducible exact dft_Bin.mono _ _ _ _)
      | (with_reducible exact headroomlaw16_alive.mono _)
      | (with_reducible exact LeO.refl _)
      | (with_reducible exact LeO.none _)
      | (with_reducible refine LeO.ite ?_ ?_)
      | (with_reducible refine LeO.bind ?_ (fun _ => ?_))
      | exact ih0 _ _ _ _ _ _ _ _ _ _ _ _ _ _ _ _
      | exact dft_Bin.mono _ _ _ _
      | exact headroomlaw16_alive.mono _
      | exact LeO.none _
      | refine LeO.ite ?_ ?_
      | refine LeO.bind ?_ (fun _ => ?_)
set_option maxHeartbeats 8000000 in
set_option maxRecDepth 100000 in
theorem headroomlaw16_DftTurns.calls (k : Nat) (A0 : Option Addr) (c0 : Nat) (l0 : List (S43)) (a1 : Int) (r : Bool) (w : World) (hr0 : Kd.C k43 w A0 l0.length l0) (hc0 : l0.length ≤ c0) (h : headroomlaw16_DftTurns.f k l0 a1 = some r) :
    Calls Try.prog 18 #[.slice A0 l0.length c0, .int .i64 a1] w fun e w' => e = .returned (.bool r) ∧ Below w.heap.size w w' := by
  have hu43 := Try.underlying43
  have HR0 := Aside0.mk hr0
  have HC0 := Aside0.mk hc0
  clear hr0 hc0
  have HB := Aside0.mk (Below.refl w.heap.size w)
  have H : (if 0 ≤ (mn (l0.length : Int) 70) then (if (mn (l0.length : Int) 70) ≤ (l0.length : Int) then ((some (l0.take ((mn (l0.length : Int) 70) : Int).toNat : List (S43))).bind fun y101 => ((dft_Bin.f k y101 (Int.tmod a1 1099511627776) false).bind fun bt105 => (if bt105.2.2 = 0 then ((dft_Bin.f k y101 (wrap64 ((Int.tmod a1 1099511627776) + (y101.length : Int))) false).bind fun bt110 => ((dft_Bin.f k y101 (wrap64 (-(Int.tmod a1 1099511627776))) true).bind fun bt114 => ((dft_Bin.f k y101 0 false).bind fun bt118 => (headroomlaw16_DftTurns.l0 k bt110.2.2 bt114.2.2 bt118.2.2 y101 (y101.length : Int) 0 bt105.1 bt105.2.1 bt110.1 bt110.2.1 bt114.1 bt114.2.1 bt118.1 bt118.2.1 0 0)))) else ((headroomlaw16_alive.f k).bind fun t109 => (if t109 = true then (some (bt105.1 == 0 && (bt105.2.1 == 0))) else (some false)))))) else (none)) else (none)) = some r := h
  clear h
  obtain ⟨ji3, hji3⟩ : ∃ j_ : Int, (mn (l0.length : Int) 70) = j_ := ⟨_, rfl⟩
  replace H : (if 0 ≤ (ji3) then (if (ji3) ≤ (l0.length : Int) then ((some (l0.take ((ji3) : Int).toNat : List (S43))).bind fun y101 => ((dft_Bin.f k y101 (Int.tmod a1 1099511627776) false).bind fun bt105 => (if bt105.2.2 = 0 then ((dft_Bin.f k y101 (wrap64 ((Int.tmod a1 1099511627776) + (y101.length : Int))) false).bind fun bt110 => ((dft_Bin.f k y101 (wrap64 (-(Int.tmod a1 1099511627776))) true).bind fun bt114 => ((dft_Bin.f k y101 0 false).bind fun bt118 => (headroomlaw16_DftTurns.l0 k bt110.2.2 bt114.2.2 bt118.2.2 y101 (y101.length : Int) 0 bt105.1 bt105.2.1 bt110.1 bt110.2.1 bt114.1 bt114.2.1 bt118.1 bt118.2.1 0 0)))) else ((headroomlaw16_alive.f k).bind fun t109 => (if t109 = true then (some (bt105.1 == 0 && (bt105.2.1 == 0))) else (some false)))))) else (none)) else (none)) = some r := by first | (rw [hji3] at H; exact H) | (simp only [hji3] at H ⊢; exact H)
  (try (have hji3h : ji3 ≤ 70 := by (rw [← hji3]; unfold mn; (repeat' split) <;> omega)))
  (try (have hji3g : ji3 ≤ 64 := by omega))
  (try (have hji3l : 0 ≤ ji3 := by (rw [← hji3]; unfold mn; (repeat' split) <;> omega)))
  (try (have hji3m : 0 ≤ ji3 := by omega))
  have hji3_ : (if 70 < (l0.length : Int) then 70 else (l0.length : Int)) = ji3 := hji3
  by_cases c4 : 0 ≤ (ji3)
  · rw [if_pos c4] at H
    have c4b0 := eq_true c4
    have c4b1 : decide (0 ≤ (ji3)) = true := decide_eq_true c4
    clear c4
    by_cases c5 : (ji3) ≤ (l0.length : Int)
    · rw [if_pos c5] at H
      have c5b0 := eq_true c5
      have c5b1 : decide ((ji3) ≤ (l0.length : Int)) = true := decide_eq_true c5
      clear c5
      obtain ⟨y101, hy101⟩ : ∃ y_ : List (S43), y_ = (l0.take ((ji3) : Int).toNat) := ⟨_, rfl⟩
      replace H : ((dft_Bin.f k y101 (Int.tmod a1 1099511627776) false).bind fun bt105 => (if bt105.2.2 = 0 then ((dft_Bin.f k y101 (wrap64 ((Int.tmod a1 1099511627776) + (y101.length : Int))) false).bind fun bt110 => ((dft_Bin.f k y101 (wrap64 (-(Int.tmod a1 1099511627776))) true).bind fun bt114 => ((dft_Bin.f k y101 0 false).bind fun bt118 => (headroomlaw16_DftTurns.l0 k bt110.2.2 bt114.2.2 bt118.2.2 y101 (y101.length : Int) 0 bt105.1 bt105.2.1 bt110.1 bt110.2.1 bt114.1 bt114.2.1 bt118.1 bt118.2.1 0 0)))) else ((headroomlaw16_alive.f k).bind fun t109 => (if t109 = true then (some (bt105.1 == 0 && (bt105.2.1 == 0))) else (some false))))) = some r := by first | (rw [hy101]; with_reducible exact H) | (have H2_ := (Option.bind_some _ _).symm.trans H; rw [hy101]; with_reducible exact H2_) | (have H2_ := (Option.bind_some _ _).symm.trans H; with_reducible exact H2_) | with_reducible exact H | (rw [hy101]; exact H) | exact H
      have Ny101 := Aside0.mk hy101
      clear hy101
      replace H := Option.bind_eq_some_iff.mp H
      obtain ⟨⟨t105, t106, t107⟩, A60, H⟩ := H
      replace H : (if t107 = 0 then ((dft_Bin.f k y101 (wrap64 ((Int.tmod a1 1099511627776) + (y101.length : Int))) false).bind fun bt110 => ((dft_Bin.f k y101 (wrap64 (-(Int.tmod a1 1099511627776))) true).bind fun bt114 => ((dft_Bin.f k y101 0 false).bind fun bt118 => (headroomlaw16_DftTurns.l0 k bt110.2.2 bt114.2.2 bt118.2.2 y101 (y101.length : Int) 0 t105 t106 bt110.1 bt110.2.1 bt114.1 bt114.2.1 bt118.1 bt118.2.1 0 0)))) else ((headroomlaw16_alive.f k).bind fun t109 => (if t109 = true then (some (t105 == 0 && (t106 == 0))) else (some false)))) = some r := H
      have A6 := Aside0.mk A60
      clear A60
      by_cases c7 : t107 = 0
      · rw [if_pos c7] at H
        have c7b0 : (t107 == 0) = true := beq_iff_eq.mpr c7
        have c7b1 : (t107 != 0) = false := bne_eq_false_iff_eq.mpr c7
        clear c7
        replace H := Option.bind_eq_some_iff.mp H
        obtain ⟨⟨t110, t111, t112⟩, A80, H⟩ := H
        replace H : ((dft_Bin.f k y101 (wrap64 (-(Int.tmod a1 1099511627776))) true).bind fun bt114 => ((dft_Bin.f k y101 0 false).bind fun bt118 => (headroomlaw16_DftTurns.l0 k t112 bt114.2.2 bt118.2.2 y101 (y101.length : Int) 0 t105 t106 t110 t111 bt114.1 bt114.2.1 bt118.1 bt118.2.1 0 0))) = some r := H
        have A8 := Aside0.mk A80
        clear A80
        replace H := Option.bind_eq_some_iff.mp H
        obtain ⟨⟨t114, t115, t116⟩, A90, H⟩ := H
        replace H : ((dft_Bin.f k y101 0 false).bind fun bt118 => (headroomlaw16_DftTurns.l0 k t112 t116 bt118.2.2 y101 (y101.length : Int) 0 t105 t106 t110 t111 t114 t115 bt118.1 bt118.2.1 0 0)) = some r := H
        have A9 := Aside0.mk A90
        clear A90
        replace H := Option.bind_eq_some_iff.mp H
        obtain ⟨⟨t118, t119, t120⟩, A100, H⟩ := H
        replace H : (headroomlaw16_DftTurns.l0 k t112 t116 t120 y101 (y101.length : Int) 0 t105 t106 t110 t111 t114 t115 t118 t119 0 0) = some r := H
        have A10 := Aside0.mk A100
        clear A100
        have H' := Aside0.mk H
        clear H
        have q11 : ((ji3) : Int) ≤ ((l0.length : Int) : Int) := of_decide_eq_true (by first | (with_reducible assumption) | assumption)
        obtain ⟨i011, hi011, _, hsz11, _⟩ := info_parts info43
        have hroom11 : l0.length ≤ c0 := HC0.out
        have hC11 : Kd.C k43 _ A0 l0.length l0 := HR0.out
        have hcut11 := cut_to (P := Try.prog) 33 43 .i64 Try.underlying33 hi011 A0 l0.length c0 (ji3) (of_decide_eq_true (by first | (with_reducible assumption) | assumption)) q11 hroom11
        have hr11 := Kd.C_take (m := ((ji3) : Int).toNat) hC11 (by omega)
        have hy11 : y101.length = ((ji3) : Int).toNat := (by rw [Ny101.out, List.length_take]; omega)
        rw [← Ny101.out] at hr11
        rw [← hy11] at hcut11
        have HR104 := Aside0.mk hr11
        have HC104 := Aside0.mk (show y101.length ≤ c0 from by omega)
        clear hr11 hC11 hroom11 hi011 hsz11
        have KY11 := Aside0.mk hy11
        clear hy11
        replace q11 := eq_true q11
        go_enter Try.func18, Try.ntmps18
        go_wp2_with (first | ((with_reducible refine gate_callee (f := 62) rfl ?_); refine goesL_ (some 27) rfl rfl Try.func62 (by kernel_rfl) rfl #[.slice A0 y101.length c0, .int .i64 (Int.tmod a1 1099511627776), .bool false] rfl (by (try simp only [List.map_toArray, List.map_cons, List.map_nil]); first | done | rfl | (simp only [List.length_drop, List.length_take]; rfl)) ?_; (with_reducible refine (dft_Bin.calls k _ _ y101 (Int.tmod a1 1099511627776) false t105 t106 t107 _ ?side1 ?side2 A6.out).mono ?_); (case side1 => repeat (first | exact HR104.out | (with_reducible refine Kd.C_alloc ?_ _) | (with_reducible refine Kd.C_drewN ?_ _) | (with_reducible refine Kd.C_drew ?_))); (case side2 => exact HC104.out); rintro e w12 ⟨rfl, hb⟩; refine ⟨_, rfl, ?_⟩; have n0_ := Aside0.mk (below_step (by repeat (first | (with_reducible first | exact HB.out | apply below_alloc | apply pw_below_drewN | apply below_drew1) | exact HB.out)) hb); clear HB; have HB := n0_; clear n0_; (try clear hb); (try clear hb2); (try clear hk); (try clear hi)) | ((with_reducible refine gate_dst (N := 5) rfl ?_); refine box_event ?hg (N := 5) ?hd (cs := #[.int .i64 0, .int .i64 0]) (t := 43) ?hr ?_; (case hd => rfl); (case hg => rfl); (case hr => first | (go_simp; done) | (go_simp; rfl)); intro gb108 hg w13 hbox hb; have n0_ := Aside0.mk (below_step (by repeat (first | (with_reducible first | exact HB.out | apply below_alloc | apply pw_below_drewN | apply below_drew1) | exact HB.out)) hb); have n1_ := Aside0.mk (hbox); have n2_ := Aside0.mk ((by rw [hg]; exact (below_size (by repeat (first | (with_reducible first | exact HB.out | apply below_alloc | apply pw_below_drewN | apply below_drew1) | exact HB.out))) : w.heap.size ≤ gb108)); have n3_ := Aside0.mk ((by rw [hg]; exact (below_size (by repeat (first | (with_reducible first | exact HB.out | apply below_alloc | apply pw_below_drewN | apply below_drew1) | exact HB.out))) : w.heap.size ≤ gb108)); clear HB; have HB := n0_; have BK108 := n1_; have GW108 := n2_; have GE108 := n3_; clear n0_ n1_ n2_ n3_; clear hb hbox hg; have hcz14_0 : w13.cell? ⟨gb108, 0, none⟩ = some (.int .i64 0) := (blk_cell BK108.out 0).trans rfl; have hcz14_1 : w13.cell? ⟨gb108, 1, none⟩ = some (.int .i64 0) := (blk_cell BK108.out 1).trans rfl; have hfz14_0 := blk_frozen BK108.out 0; have hfz14_1 := blk_frozen BK108.out 1) | ((with_reducible refine gate_callee (f := 62) rfl ?_); refine goesL_ (some 45) rfl rfl Try.func62 (by kernel_rfl) rfl #[.slice A0 y101.length c0, .int .i64 (wrap64 ((Int.tmod a1 1099511627776) + (y101.length : Int))), .bool false] rfl (by (try simp only [List.map_toArray, List.map_cons, List.map_nil]); first | done | rfl | (simp only [List.length_drop, List.length_take]; rfl)) ?_; (with_reducible refine (dft_Bin.calls k _ _ y101 (wrap64 ((Int.tmod a1 1099511627776) + (y101.length : Int))) false t110 t111 t112 _ ?side1 ?side2 A8.out).mono ?_); (case side1 => exact Kd.C_below HR104.out (by repeat (first | (with_reducible first | exact HB.out | apply below_alloc | apply pw_below_drewN | apply below_drew1 | refine below_set ?_ GE108.out) | exact HB.out))); (case side2 => exact HC104.out); rintro e w15 ⟨rfl, hb⟩; refine ⟨_, rfl, ?_⟩; have n0_ := Aside0.mk (blk_below (g := gb108) (o := .cells #[.int .i64 t105, .int .i64 t106] 43 (0, 0)) (by (with_reducible repeat (first | refine blk_drewN ?_ _ | refine blk_drew ?_ | refine blk_alloc ?_ _)); refine blk_put (cs := #[.int .i64 t105, .int .i64 0]) ?_ 1 _ rfl; (with_reducible repeat (first | refine blk_drewN ?_ _ | refine blk_drew ?_ | refine blk_alloc ?_ _)); refine blk_put (cs := #[.int .i64 0, .int .i64 0]) ?_ 0 _ rfl; (with_reducible repeat (first | refine blk_drewN ?_ _ | refine blk_drew ?_ | refine blk_alloc ?_ _)); exact BK108.out) hb); have n1_ := Aside0.mk (below_step (by repeat (first | (with_reducible first | exact HB.out | apply below_alloc | apply pw_below_drewN | apply below_drew1 | refine below_set ?_ GE108.out) | exact HB.out)) hb); clear BK108; clear HB; have BK108 := n0_; have HB := n1_; clear n0_ n1_; (try clear hb); (try clear hb2); (try clear hk); (try clear hi)) | ((with_reducible refine gate_dst (N := 8) rfl ?_); refine box_event ?hg (N := 8) ?hd (cs := #[.int .i64 0, .int .i64 0]) (t := 43) ?hr ?_; (case hd => rfl); (case hg => rfl); (case hr => first | (go_simp; done) | (go_simp; rfl)); intro gb113 hg w16 hbox hb; have n0_ := Aside0.mk (blk_below (g := gb108) (o := .cells #[.int .i64 t105, .int .i64 t106] 43 (0, 0)) (by (with_reducible repeat (first | refine blk_drewN ?_ _ | refine blk_drew ?_ | refine blk_alloc ?_ _)); exact BK108.out) hb); have n1_ := Aside0.mk (below_step (by repeat (first | (with_reducible first | exact HB.out | apply below_alloc | apply pw_below_drewN | apply below_drew1 | refine below_set ?_ GE108.out) | exact HB.out)) hb); have n2_ := Aside0.mk (hbox); have n3_ := Aside0.mk ((by rw [hg]; exact (below_size (by repeat (first | (with_reducible first | exact HB.out | apply below_alloc | apply pw_below_drewN | apply below_drew1 | refine below_set ?_ GE108.out) | exact HB.out))) : w.heap.size ≤ gb113)); have n4_ := Aside0.mk ((by rw [hg]; exact (below_size (by repeat (first | (with_reducible first | exact HB.out | apply below_alloc | apply pw_below_drewN | apply below_drew1 | refine below_set ?_ GE108.out) | exact HB.out))) : w.heap.size ≤ gb113)); have n5_ := Aside0.mk ((by rw [hg]; exact Nat.ne_of_lt (blk_lt (g := gb108) (o := .cells #[.int .i64 t105, .int .i64 t106] 43 (0, 0)) (by (with_reducible repeat (first | refine blk_drewN ?_ _ | refine blk_drew ?_ | refine blk_alloc ?_ _)); exact BK108.out)) : gb108 ≠ gb113)); have n6_ := Aside0.mk ((by rw [hg]; exact Nat.ne_of_gt (blk_lt (g := gb108) (o := .cells #[.int .i64 t105, .int .i64 t106] 43 (0, 0)) (by (with_reducible repeat (first | refine blk_drewN ?_ _ | refine blk_drew ?_ | refine blk_alloc ?_ _)); exact BK108.out)) : gb113 ≠ gb108)); clear BK108; clear HB; have BK108 := n0_; have HB := n1_; have BK113 := n2_; have GW113 := n3_; have GE113 := n4_; have NB108_113 := n5_; have NB113_108 := n6_; clear n0_ n1_ n2_ n3_ n4_ n5_ n6_; clear hb hbox hg; have hnb17 := NB113_108.out; have hnc17 := NB108_113.out; have hcz18_0 : w16.cell? ⟨gb113, 0, none⟩ = some (.int .i64 0) := (blk_cell BK113.out 0).trans rfl; have hcz18_1 : w16.cell? ⟨gb113, 1, none⟩ = some (.int .i64 0) := (blk_cell BK113.out 1).trans rfl; have hfz18_0 := blk_frozen BK113.out 0; have hfz18_1 := blk_frozen BK113.out 1) | ((with_reducible refine gate_callee (f := 62) rfl ?_); refine goesL_ (some 52) rfl rfl Try.func62 (by kernel_rfl) rfl #[.slice A0 y101.length c0, .int .i64 (wrap64 (-(Int.tmod a1 1099511627776))), .bool true] rfl (by (try simp only [List.map_toArray, List.map_cons, List.map_nil]); first | done | rfl | (simp only [List.length_drop, List.length_take]; rfl)) ?_; (with_reducible refine (dft_Bin.calls k _ _ y101 (wrap64 (-(Int.tmod a1 1099511627776))) true t114 t115 t116 _ ?side1 ?side2 A9.out).mono ?_); (case side1 => exact Kd.C_below HR104.out (by repeat (first | (with_reducible first | exact HB.out | apply below_alloc | apply pw_below_drewN | apply below_drew1 | refine below_set ?_ GE108.out | refine below_set ?_ GE113.out) | exact HB.out))); (case side2 => exact HC104.out); rintro e w19 ⟨rfl, hb⟩; refine ⟨_, rfl, ?_⟩; have n0_ := Aside0.mk (blk_below (g := gb108) (o := .cells #[.int .i64 t105, .int .i64 t106] 43 (0, 0)) (by (with_reducible repeat (first | refine blk_drewN ?_ _ | refine blk_drew ?_ | refine blk_alloc ?_ _)); refine blk_far ?_ NB108_113.out _; (with_reducible repeat (first | refine blk_drewN ?_ _ | refine blk_drew ?_ | refine blk_alloc ?_ _)); refine blk_far ?_ NB108_113.out _; (with_reducible repeat (first | refine blk_drewN ?_ _ | refine blk_drew ?_ | refine blk_alloc ?_ _)); exact BK108.out) hb); have n1_ := Aside0.mk (blk_below (g := gb113) (o := .cells #[.int .i64 t110, .int .i64 t111] 43 (0, 0)) (by (with_reducible repeat (first | refine blk_drewN ?_ _ | refine blk_drew ?_ | refine blk_alloc ?_ _)); refine blk_put (cs := #[.int .i64 t110, .int .i64 0]) ?_ 1 _ rfl; (with_reducible repeat (first | refine blk_drewN ?_ _ | refine blk_drew ?_ | refine blk_alloc ?_ _)); refine blk_put (cs := #[.int .i64 0, .int .i64 0]) ?_ 0 _ rfl; (with_reducible repeat (first | refine blk_drewN ?_ _ | refine blk_drew ?_ | refine blk_alloc ?_ _)); exact BK113.out) hb); have n2_ := Aside0.mk (below_step (by repeat (first | (with_reducible first | exact HB.out | apply below_alloc | apply pw_below_drewN | apply below_drew1 | refine below_set ?_ GE108.out | refine below_set ?_ GE113.out) | exact HB.out)) hb); clear BK108; clear BK113; clear HB; have BK108 := n0_; have BK113 := n1_; have HB := n2_; clear n0_ n1_ n2_; (try clear hb); (try clear hb2); (try clear hk); (try clear hi)) | ((with_reducible refine gate_dst (N := 10) rfl ?_); refine box_event ?hg (N := 10) ?hd (cs := #[.int .i64 0, .int .i64 0]) (t := 43) ?hr ?_; (case hd => rfl); (case hg => rfl); (case hr => first | (go_simp; done) | (go_simp; rfl)); intro gb117 hg w20 hbox hb; have n0_ := Aside0.mk (blk_below (g := gb108) (o := .cells #[.int .i64 t105, .int .i64 t106] 43 (0, 0)) (by (with_reducible repeat (first | refine blk_drewN ?_ _ | refine blk_drew ?_ | refine blk_alloc ?_ _)); exact BK108.out) hb); have n1_ := Aside0.mk (blk_below (g := gb113) (o := .cells #[.int .i64 t110, .int .i64 t111] 43 (0, 0)) (by (with_reducible repeat (first | refine blk_drewN ?_ _ | refine blk_drew ?_ | refine blk_alloc ?_ _)); exact BK113.out) hb); have n2_ := Aside0.mk (below_step (by repeat (first | (with_reducible first | exact HB.out | apply below_alloc | apply pw_below_drewN | apply below_drew1 | refine below_set ?_ GE108.out | refine below_set ?_ GE113.out) | exact HB.out)) hb); have n3_ := Aside0.mk (hbox); have n4_ := Aside0.mk ((by rw [hg]; exact (below_size (by repeat (first | (with_reducible first | exact HB.out | apply below_alloc | apply pw_below_drewN | apply below_drew1 | refine below_set ?_ GE108.out | refine below_set ?_ GE113.out) | exact HB.out))) : w.heap.size ≤ gb117)); have n5_ := Aside0.mk ((by rw [hg]; exact (below_size (by repeat (first | (with_reducible first | exact HB.out | apply below_alloc | apply pw_below_drewN | apply below_drew1 | refine below_set ?_ GE108.out | refine below_set ?_ GE113.out) | exact HB.out))) : w.heap.size ≤ gb117)); have n6_ := Aside0.mk ((by rw [hg]; exact Nat.ne_of_lt (blk_lt (g := gb108) (o := .cells #[.int .i64 t105, .int .i64 t106] 43 (0, 0)) (by (with_reducible repeat (first | refine blk_drewN ?_ _ | refine blk_drew ?_ | refine blk_alloc ?_ _)); exact BK108.out)) : gb108 ≠ gb117)); have n7_ := Aside0.mk ((by rw [hg]; exact Nat.ne_of_gt (blk_lt (g := gb108) (o := .cells #[.int .i64 t105, .int .i64 t106] 43 (0, 0)) (by (with_reducible repeat (first | refine blk_drewN ?_ _ | refine blk_drew ?_ | refine blk_alloc ?_ _)); exact BK108.out)) : gb117 ≠ gb108)); have n8_ := Aside0.mk ((by rw [hg]; exact Nat.ne_of_lt (blk_lt (g := gb113) (o := .cells #[.int .i64 t110, .int .i64 t111] 43 (0, 0)) (by (with_reducible repeat (first | refine blk_drewN ?_ _ | refine blk_drew ?_ | refine blk_alloc ?_ _)); exact BK113.out)) : gb113 ≠ gb117)); have n9_ := Aside0.mk ((by rw [hg]; exact Nat.ne_of_gt (blk_lt (g := gb113) (o := .cells #[.int .i64 t110, .int .i64 t111] 43 (0, 0)) (by (with_reducible repeat (first | refine blk_drewN ?_ _ | refine blk_drew ?_ | refine blk_alloc ?_ _)); exact BK113.out)) : gb117 ≠ gb113)); clear BK108; clear BK113; clear HB; have BK108 := n0_; have BK113 := n1_; have HB := n2_; have BK117 := n3_; have GW117 := n4_; have GE117 := n5_; have NB108_117 := n6_; have NB117_108 := n7_; have NB113_117 := n8_; have NB117_113 := n9_; clear n0_ n1_ n2_ n3_ n4_ n5_ n6_ n7_ n8_ n9_; clear hb hbox hg; have hnb21 := NB117_108.out; have hnc21 := NB108_117.out; have hnb22 := NB117_113.out; have hnc22 := NB113_117.out; have hcz23_0 : w20.cell? ⟨gb117, 0, none⟩ = some (.int .i64 0) := (blk_cell BK117.out 0).trans rfl; have hcz23_1 : w20.cell? ⟨gb117, 1, none⟩ = some (.int .i64 0) := (blk_cell BK117.out 1).trans rfl; have hfz23_0 := blk_frozen BK117.out 0; have hfz23_1 := blk_frozen BK117.out 1) | ((with_reducible refine gate_callee (f := 62) rfl ?_); refine goesL_ (some 57) rfl rfl Try.func62 (by kernel_rfl) rfl #[.slice A0 y101.length c0, .int .i64 0, .bool false] rfl (by (try simp only [List.map_toArray, List.map_cons, List.map_nil]); first | done | rfl | (simp only [List.length_drop, List.length_take]; rfl)) ?_; (with_reducible refine (dft_Bin.calls k _ _ y101 0 false t118 t119 t120 _ ?side1 ?side2 A10.out).mono ?_); (case side1 => exact Kd.C_below HR104.out (by repeat (first | (with_reducible first | exact HB.out | apply below_alloc | apply pw_below_drewN | apply below_drew1 | refine below_set ?_ GE108.out | refine below_set ?_ GE113.out | refine below_set ?_ GE117.out) | exact HB.out))); (case side2 => exact HC104.out); rintro e w24 ⟨rfl, hb⟩; refine ⟨_, rfl, ?_⟩; have n0_ := Aside0.mk (blk_below (g := gb108) (o := .cells #[.int .i64 t105, .int .i64 t106] 43 (0, 0)) (by (with_reducible repeat (first | refine blk_drewN ?_ _ | refine blk_drew ?_ | refine blk_alloc ?_ _)); refine blk_far ?_ NB108_117.out _; (with_reducible repeat (first | refine blk_drewN ?_ _ | refine blk_drew ?_ | refine blk_alloc ?_ _)); refine blk_far ?_ NB108_117.out _; (with_reducible repeat (first | refine blk_drewN ?_ _ | refine blk_drew ?_ | refine blk_alloc ?_ _)); exact BK108.out) hb); have n1_ := Aside0.mk (blk_below (g := gb113) (o := .cells #[.int .i64 t110, .int .i64 t111] 43 (0, 0)) (by (with_reducible repeat (first | refine blk_drewN ?_ _ | refine blk_drew ?_ | refine blk_alloc ?_ _)); refine blk_far ?_ NB113_117.out _; (with_reducible repeat (first | refine blk_drewN ?_ _ | refine blk_drew ?_ | refine blk_alloc ?_ _)); refine blk_far ?_ NB113_117.out _; (with_reducible repeat (first | refine blk_drewN ?_ _ | refine blk_drew ?_ | refine blk_alloc ?_ _)); exact BK113.out) hb); have n2_ := Aside0.mk (blk_below (g := gb117) (o := .cells #[.int .i64 t114, .int .i64 t115] 43 (0, 0)) (by (with_reducible repeat (first | refine blk_drewN ?_ _ | refine blk_drew ?_ | refine blk_alloc ?_ _)); refine blk_put (cs := #[.int .i64 t114, .int .i64 0]) ?_ 1 _ rfl; (with_reducible repeat (first | refine blk_drewN ?_ _ | refine blk_drew ?_ | refine blk_alloc ?_ _)); refine blk_put (cs := #[.int .i64 0, .int .i64 0]) ?_ 0 _ rfl; (with_reducible repeat (first | refine blk_drewN ?_ _ | refine blk_drew ?_ | refine blk_alloc ?_ _)); exact BK117.out) hb); have n3_ := Aside0.mk (below_step (by repeat (first | (with_reducible first | exact HB.out | apply below_alloc | apply pw_below_drewN | apply below_drew1 | refine below_set ?_ GE108.out | refine below_set ?_ GE113.out | refine below_set ?_ GE117.out) | exact HB.out)) hb); clear BK108; clear BK113; clear BK117; clear HB; have BK108 := n0_; have BK113 := n1_; have BK117 := n2_; have HB := n3_; clear n0_ n1_ n2_ n3_; (try clear hb); (try clear hb2); (try clear hk); (try clear hi)) | ((with_reducible refine gate_dst (N := 12) rfl ?_); refine box_event ?hg (N := 12) ?hd (cs := #[.int .i64 0, .int .i64 0]) (t := 43) ?hr ?_; (case hd => rfl); (case hg => rfl); (case hr => first | (go_simp; done) | (go_simp; rfl)); intro gb121 hg w25 hbox hb; have n0_ := Aside0.mk (blk_below (g := gb108) (o := .cells #[.int .i64 t105, .int .i64 t106] 43 (0, 0)) (by (with_reducible repeat (first | refine blk_drewN ?_ _ | refine blk_drew ?_ | refine blk_alloc ?_ _)); exact BK108.out) hb); have n1_ := Aside0.mk (blk_below (g := gb113) (o := .cells #[.int .i64 t110, .int .i64 t111] 43 (0, 0)) (by (with_reducible repeat (first | refine blk_drewN ?_ _ | refine blk_drew ?_ | refine blk_alloc ?_ _)); exact BK113.out) hb); have n2_ := Aside0.mk (blk_below (g := gb117) (o := .cells #[.int .i64 t114, .int .i64 t115] 43 (0, 0)) (by (with_reducible repeat (first | refine blk_drewN ?_ _ | refine blk_drew ?_ | refine blk_alloc ?_ _)); exact BK117.out) hb); have n3_ := Aside0.mk (below_step (by repeat (first | (with_reducible first | exact HB.out | apply below_alloc | apply pw_below_drewN | apply below_drew1 | refine below_set ?_ GE108.out | refine below_set ?_ GE113.out | refine below_set ?_ GE117.out) | exact HB.out)) hb); have n4_ := Aside0.mk (hbox); have n5_ := Aside0.mk ((by rw [hg]; exact (below_size (by repeat (first | (with_reducible first | exact HB.out | apply below_alloc | apply pw_below_drewN | apply below_drew1 | refine below_set ?_ GE108.out | refine below_set ?_ GE113.out | refine below_set ?_ GE117.out) | exact HB.out))) : w.heap.size ≤ gb121)); have n6_ := Aside0.mk ((by rw [hg]; exact (below_size (by repeat (first | (with_reducible first | exact HB.out | apply below_alloc | apply pw_below_drewN | apply below_drew1 | refine below_set ?_ GE108.out | refine below_set ?_ GE113.out | refine below_set ?_ GE117.out) | exact HB.out))) : w.heap.size ≤ gb121)); have n7_ := Aside0.mk ((by rw [hg]; exact Nat.ne_of_lt (blk_lt (g := gb108) (o := .cells #[.int .i64 t105, .int .i64 t106] 43 (0, 0)) (by (with_reducible repeat (first | refine blk_drewN ?_ _ | refine blk_drew ?_ | refine blk_alloc ?_ _)); exact BK108.out)) : gb108 ≠ gb121)); have n8_ := Aside0.mk ((by rw [hg]; exact Nat.ne_of_gt (blk_lt (g := gb108) (o := .cells #[.int .i64 t105, .int .i64 t106] 43 (0, 0)) (by (with_reducible repeat (first | refine blk_drewN ?_ _ | refine blk_drew ?_ | refine blk_alloc ?_ _)); exact BK108.out)) : gb121 ≠ gb108)); have n9_ := Aside0.mk ((by rw [hg]; exact Nat.ne_of_lt (blk_lt (g := gb113) (o := .cells #[.int .i64 t110, .int .i64 t111] 43 (0, 0)) (by (with_reducible repeat (first | refine blk_drewN ?_ _ | refine blk_drew ?_ | refine blk_alloc ?_ _)); exact BK113.out)) : gb113 ≠ gb121)); have n10_ := Aside0.mk ((by rw [hg]; exact Nat.ne_of_gt (blk_lt (g := gb113) (o := .cells #[.int .i64 t110, .int .i64 t111] 43 (0, 0)) (by (with_reducible repeat (first | refine blk_drewN ?_ _ | refine blk_drew ?_ | refine blk_alloc ?_ _)); exact BK113.out)) : gb121 ≠ gb113)); have n11_ := Aside0.mk ((by rw [hg]; exact Nat.ne_of_lt (blk_lt (g := gb117) (o := .cells #[.int .i64 t114, .int .i64 t115] 43 (0, 0)) (by (with_reducible repeat (first | refine blk_drewN ?_ _ | refine blk_drew ?_ | refine blk_alloc ?_ _)); exact BK117.out)) : gb117 ≠ gb121)); have n12_ := Aside0.mk ((by rw [hg]; exact Nat.ne_of_gt (blk_lt (g := gb117) (o := .cells #[.int .i64 t114, .int .i64 t115] 43 (0, 0)) (by (with_reducible repeat (first | refine blk_drewN ?_ _ | refine blk_drew ?_ | refine blk_alloc ?_ _)); exact BK117.out)) : gb121 ≠ gb117)); clear BK108; clear BK113; clear BK117; clear HB; have BK108 := n0_; have BK113 := n1_; have BK117 := n2_; have HB := n3_; have BK121 := n4_; have GW121 := n5_; have GE121 := n6_; have NB108_121 := n7_; have NB121_108 := n8_; have NB113_121 := n9_; have NB121_113 := n10_; have NB117_121 := n11_; have NB121_117 := n12_; clear n0_ n1_ n2_ n3_ n4_ n5_ n6_ n7_ n8_ n9_ n10_ n11_ n12_; clear hb hbox hg; have hnb26 := NB121_108.out; have hnc26 := NB108_121.out; have hnb27 := NB121_113.out; have hnc27 := NB113_121.out; have hnb28 := NB121_117.out; have hnc28 := NB117_121.out; have hcz29_0 : w25.cell? ⟨gb121, 0, none⟩ = some (.int .i64 0) := (blk_cell BK121.out 0).trans rfl; have hcz29_1 : w25.cell? ⟨gb121, 1, none⟩ = some (.int .i64 0) := (blk_cell BK121.out 1).trans rfl; have hfz29_0 := blk_frozen BK121.out 0; have hfz29_1 := blk_frozen BK121.out 1) | ((with_reducible refine gate_dst (N := 14) rfl ?_); refine box_event ?hg (N := 14) ?hd (cs := #[.int .i64 0, .int .i64 0]) (t := 43) ?hr ?_; (case hd => rfl); (case hg => rfl); (case hr => first | (go_simp; done) | (go_simp; rfl)); intro gb122 hg w30 hbox hb; have n0_ := Aside0.mk (blk_below (g := gb108) (o := .cells #[.int .i64 t105, .int .i64 t106] 43 (0, 0)) (by (with_reducible repeat (first | refine blk_drewN ?_ _ | refine blk_drew ?_ | refine blk_alloc ?_ _)); refine blk_far ?_ NB108_121.out _; (with_reducible repeat (first | refine blk_drewN ?_ _ | refine blk_drew ?_ | refine blk_alloc ?_ _)); refine blk_far ?_ NB108_121.out _; (with_reducible repeat (first | refine blk_drewN ?_ _ | refine blk_drew ?_ | refine blk_alloc ?_ _)); exact BK108.out) hb); have n1_ := Aside0.mk (blk_below (g := gb113) (o := .cells #[.int .i64 t110, .int .i64 t111] 43 (0, 0)) (by (with_reducible repeat (first | refine blk_drewN ?_ _ | refine blk_drew ?_ | refine blk_alloc ?_ _)); refine blk_far ?_ NB113_121.out _; (with_reducible repeat (first | refine blk_drewN ?_ _ | refine blk_drew ?_ | refine blk_alloc ?_ _)); refine blk_far ?_ NB113_121.out _; (with_reducible repeat (first | refine blk_drewN ?_ _ | refine blk_drew ?_ | refine blk_alloc ?_ _)); exact BK113.out) hb); have n2_ := Aside0.mk (blk_below (g := gb117) (o := .cells #[.int .i64 t114, .int .i64 t115] 43 (0, 0)) (by (with_reducible repeat (first | refine blk_drewN ?_ _ | refine blk_drew ?_ | refine blk_alloc ?_ _)); refine blk_far ?_ NB117_121.out _; (with_reducible repeat (first | refine blk_drewN ?_ _ | refine blk_drew ?_ | refine blk_alloc ?_ _)); refine blk_far ?_ NB117_121.out _; (with_reducible repeat (first | refine blk_drewN ?_ _ | refine blk_drew ?_ | refine blk_alloc ?_ _)); exact BK117.out) hb); have n3_ := Aside0.mk (blk_below (g := gb121) (o := .cells #[.int .i64 t118, .int .i64 t119] 43 (0, 0)) (by (with_reducible repeat (first | refine blk_drewN ?_ _ | refine blk_drew ?_ | refine blk_alloc ?_ _)); refine blk_put (cs := #[.int .i64 t118, .int .i64 0]) ?_ 1 _ rfl; (with_reducible repeat (first | refine blk_drewN ?_ _ | refine blk_drew ?_ | refine blk_alloc ?_ _)); refine blk_put (cs := #[.int .i64 0, .int .i64 0]) ?_ 0 _ rfl; (with_reducible repeat (first | refine blk_drewN ?_ _ | refine blk_drew ?_ | refine blk_alloc ?_ _)); exact BK121.out) hb); have n4_ := Aside0.mk (below_step (by repeat (first | (with_reducible first | exact HB.out | apply below_alloc | apply pw_below_drewN | apply below_drew1 | refine below_set ?_ GE108.out | refine below_set ?_ GE113.out | refine below_set ?_ GE117.out | refine below_set ?_ GE121.out) | exact HB.out)) hb); have n5_ := Aside0.mk (hbox); have n6_ := Aside0.mk ((by rw [hg]; exact (below_size (by repeat (first | (with_reducible first | exact HB.out | apply below_alloc | apply pw_below_drewN | apply below_drew1 | refine below_set ?_ GE108.out | refine below_set ?_ GE113.out | refine below_set ?_ GE117.out | refine below_set ?_ GE121.out) | exact HB.out))) : w.heap.size ≤ gb122)); have n7_ := Aside0.mk ((by rw [hg]; exact (below_size (by repeat (first | (with_reducible first | exact HB.out | apply below_alloc | apply pw_below_drewN | apply below_drew1 | refine below_set ?_ GE108.out | refine below_set ?_ GE113.out | refine below_set ?_ GE117.out | refine below_set ?_ GE121.out) | exact HB.out))) : w.heap.size ≤ gb122)); have n8_ := Aside0.mk ((by rw [hg]; exact Nat.ne_of_lt (blk_lt (g := gb108) (o := .cells #[.int .i64 t105, .int .i64 t106] 43 (0, 0)) (by (with_reducible repeat (first | refine blk_drewN ?_ _ | refine blk_drew ?_ | refine blk_alloc ?_ _)); refine blk_far ?_ NB108_121.out _; (with_reducible repeat (first | refine blk_drewN ?_ _ | refine blk_drew ?_ | refine blk_alloc ?_ _)); refine blk_far ?_ NB108_121.out _; (with_reducible repeat (first | refine blk_drewN ?_ _ | refine blk_drew ?_ | refine blk_alloc ?_ _)); exact BK108.out)) : gb108 ≠ gb122)); have n9_ := Aside0.mk ((by rw [hg]; exact Nat.ne_of_gt (blk_lt (g := gb108) (o := .cells #[.int .i64 t105, .int .i64 t106] 43 (0, 0)) (by (with_reducible repeat (first | refine blk_drewN ?_ _ | refine blk_drew ?_ | refine blk_alloc ?_ _)); refine blk_far ?_ NB108_121.out _; (with_reducible repeat (first | refine blk_drewN ?_ _ | refine blk_drew ?_ | refine blk_alloc ?_ _)); refine blk_far ?_ NB108_121.out _; (with_reducible repeat (first | refine blk_drewN ?_ _ | refine blk_drew ?_ | refine blk_alloc ?_ _)); exact BK108.out)) : gb122 ≠ gb108)); have n10_ := Aside0.mk ((by rw [hg]; exact Nat.ne_of_lt (blk_lt (g := gb113) (o := .cells #[.int .i64 t110, .int .i64 t111] 43 (0, 0)) (by (with_reducible repeat (first | refine blk_drewN ?_ _ | refine blk_drew ?_ | refine blk_alloc ?_ _)); refine blk_far ?_ NB113_121.out _; (with_reducible repeat (first | refine blk_drewN ?_ _ | refine blk_drew ?_ | refine blk_alloc ?_ _)); refine blk_far ?_ NB113_121.out _; (with_reducible repeat (first | refine blk_drewN ?_ _ | refine blk_drew ?_ | refine blk_alloc ?_ _)); exact BK113.out)) : gb113 ≠ gb122)); have n11_ := Aside0.mk ((by rw [hg]; exact Nat.ne_of_gt (blk_lt (g := gb113) (o := .cells #[.int .i64 t110, .int .i64 t111] 43 (0, 0)) (by (with_reducible repeat (first | refine blk_drewN ?_ _ | refine blk_drew ?_ | refine blk_alloc ?_ _)); refine blk_far ?_ NB113_121.out _; (with_reducible repeat (first | refine blk_drewN ?_ _ | refine blk_drew ?_ | refine blk_alloc ?_ _)); refine blk_far ?_ NB113_121.out _; (with_reducible repeat (first | refine blk_drewN ?_ _ | refine blk_drew ?_ | refine blk_alloc ?_ _)); exact BK113.out)) : gb122 ≠ gb113)); have n12_ := Aside0.mk ((by rw [hg]; exact Nat.ne_of_lt (blk_lt (g := gb117) (o := .cells #[.int .i64 t114, .int .i64 t115] 43 (0, 0)) (by (with_reducible repeat (first | refine blk_drewN ?_ _ | refine blk_drew ?_ | refine blk_alloc ?_ _)); refine blk_far ?_ NB117_121.out _; (with_reducible repeat (first | refine blk_drewN ?_ _ | refine blk_drew ?_ | refine blk_alloc ?_ _)); refine blk_far ?_ NB117_121.out _; (with_reducible repeat (first | refine blk_drewN ?_ _ | refine blk_drew ?_ | refine blk_alloc ?_ _)); exact BK117.out)) : gb117 ≠ gb122)); have n13_ := Aside0.mk ((by rw [hg]; exact Nat.ne_of_gt (blk_lt (g := gb117) (o := .cells #[.int .i64 t114, .int .i64 t115] 43 (0, 0)) (by (with_reducible repeat (first | refine blk_drewN ?_ _ | refine blk_drew ?_ | refine blk_alloc ?_ _)); refine blk_far ?_ NB117_121.out _; (with_reducible repeat (first | refine blk_drewN ?_ _ | refine blk_drew ?_ | refine blk_alloc ?_ _)); refine blk_far ?_ NB117_121.out _; (with_reducible repeat (first | refine blk_drewN ?_ _ | refine blk_drew ?_ | refine blk_alloc ?_ _)); exact BK117.out)) : gb122 ≠ gb117)); have n14_ := Aside0.mk ((by rw [hg]; exact Nat.ne_of_lt (blk_lt (g := gb121) (o := .cells #[.int .i64 t118, .int .i64 t119] 43 (0, 0)) (by (with_reducible repeat (first | refine blk_drewN ?_ _ | refine blk_drew ?_ | refine blk_alloc ?_ _)); refine blk_put (cs := #[.int .i64 t118, .int .i64 0]) ?_ 1 _ rfl; (with_reducible repeat (first | refine blk_drewN ?_ _ | refine blk_drew ?_ | refine blk_alloc ?_ _)); refine blk_put (cs := #[.int .i64 0, .int .i64 0]) ?_ 0 _ rfl; (with_reducible repeat (first | refine blk_drewN ?_ _ | refine blk_drew ?_ | refine blk_alloc ?_ _)); exact BK121.out)) : gb121 ≠ gb122)); have n15_ := Aside0.mk ((by rw [hg]; exact Nat.ne_of_gt (blk_lt (g := gb121) (o := .cells #[.int .i64 t118, .int .i64 t119] 43 (0, 0)) (by (with_reducible repeat (first | refine blk_drewN ?_ _ | refine blk_drew ?_ | refine blk_alloc ?_ _)); refine blk_put (cs := #[.int .i64 t118, .int .i64 0]) ?_ 1 _ rfl; (with_reducible repeat (first | refine blk_drewN ?_ _ | refine blk_drew ?_ | refine blk_alloc ?_ _)); refine blk_put (cs := #[.int .i64 0, .int .i64 0]) ?_ 0 _ rfl; (with_reducible repeat (first | refine blk_drewN ?_ _ | refine blk_drew ?_ | refine blk_alloc ?_ _)); exact BK121.out)) : gb122 ≠ gb121)); clear BK108; clear BK113; clear BK117; clear BK121; clear HB; have BK108 := n0_; have BK113 := n1_; have BK117 := n2_; have BK121 := n3_; have HB := n4_; have BK122 := n5_; have GW122 := n6_; have GE122 := n7_; have NB108_122 := n8_; have NB122_108 := n9_; have NB113_122 := n10_; have NB122_113 := n11_; have NB117_122 := n12_; have NB122_117 := n13_; have NB121_122 := n14_; have NB122_121 := n15_; clear n0_ n1_ n2_ n3_ n4_ n5_ n6_ n7_ n8_ n9_ n10_ n11_ n12_ n13_ n14_ n15_; clear hb hbox hg))
        go_loopg [62] k (fun kq v62 w' => ∃ (x62_1 : Int) (x123000_1 : Int) (x123001_1 : Int), v62 = .int .i64 x62_1 ∧ Aside0 (headroomlaw16_DftTurns.l0 kq t112 t116 t120 y101 (y101.length : Int) x62_1 t105 t106 t110 t111 t114 t115 t118 t119 x123000_1 x123001_1 = some r) ∧ Aside0 (kq ≤ k) ∧ Aside0 (w'.heap[gb108]? = some (.cells #[.int .i64 t105, .int .i64 t106] 43 (0, 0))) ∧ Aside0 (w'.heap[gb113]? = some (.cells #[.int .i64 t110, .int .i64 t111] 43 (0, 0))) ∧ Aside0 (w'.heap[gb117]? = some (.cells #[.int .i64 t114, .int .i64 t115] 43 (0, 0))) ∧ Aside0 (w'.heap[gb121]? = some (.cells #[.int .i64 t118, .int .i64 t119] 43 (0, 0))) ∧ Aside0 (w'.heap[gb122]? = some (.cells #[.int .i64 x123000_1, .int .i64 x123001_1] 43 (0, 0))) ∧ Aside0 (Below w.heap.size w w'))
        case atStart => exact ⟨(0), (0), (0), (by first | rfl | (simp; done) | (simp [*]; done)), H', ⟨Nat.le_refl _⟩, ⟨by (with_reducible repeat (first | refine blk_drewN ?_ _ | refine blk_drew ?_ | refine blk_alloc ?_ _)); exact BK108.out⟩, ⟨by (with_reducible repeat (first | refine blk_drewN ?_ _ | refine blk_drew ?_ | refine blk_alloc ?_ _)); exact BK113.out⟩, ⟨by (with_reducible repeat (first | refine blk_drewN ?_ _ | refine blk_drew ?_ | refine blk_alloc ?_ _)); exact BK117.out⟩, ⟨by (with_reducible repeat (first | refine blk_drewN ?_ _ | refine blk_drew ?_ | refine blk_alloc ?_ _)); exact BK121.out⟩, ⟨by (with_reducible repeat (first | refine blk_drewN ?_ _ | refine blk_drew ?_ | refine blk_alloc ?_ _)); exact BK122.out⟩, ⟨by repeat (first | (with_reducible first | exact HB.out | apply below_alloc | apply pw_below_drewN | apply below_drew1 | refine below_set ?_ GE108.out | refine below_set ?_ GE113.out | refine below_set ?_ GE117.out | refine below_set ?_ GE121.out | refine below_set ?_ GE122.out) | exact HB.out)⟩⟩
        case round =>
          clear H'
          try clear c1
          try clear q1
          try clear c2
          try clear p2
          try clear c4
          try clear c4b0
          try clear c4b1
          try clear c5
          try clear c5b0
          try clear c5b1
          try clear c6
          try clear p6
          try clear c7
          try clear c7b0
          try clear c7b1
          try clear q11
          try clear c17
          try clear c18
          try clear c21
          try clear c22
          try clear c26
          try clear c27
          try clear c28
          try clear hcz14_0
          try clear hcz14_1
          try clear hcz18_0
          try clear hcz18_1
          try clear hcz23_0
          try clear hcz23_1
          try clear hcz29_0
          try clear hcz29_1
          try clear hfz14_0
          try clear hfz14_1
          try clear hfz18_0
          try clear hfz18_1
          try clear hfz23_0
          try clear hfz23_1
          try clear hfz29_0
          try clear hfz29_1
          try clear q11
          obtain ⟨x62_1, x123000_1, x123001_1, rfl, HA, HK1, BK108, BK113, BK117, BK121, BK122, HB⟩ := hrel
          cases gk with
          | zero => exact absurd HA.out (by simp [headroomlaw16_DftTurns.l0])
          | succ k1 =>
            have H := HA.out
            clear HA
            simp only [headroomlaw16_DftTurns.l0] at H
            by_cases c31 : x62_1 < (y101.length : Int)
            · rw [if_pos c31] at H
              have c31b0 : decide (x62_1 < (y101.length : Int)) = true := decide_eq_true c31
              clear c31
              by_cases c32 : 0 ≤ x62_1
              · rw [if_pos c32] at H
                have c32b0 : decide (0 ≤ x62_1) = true := decide_eq_true c32
                clear c32
                by_cases c33 : x62_1 < (y101.length : Int)
                · rw [if_pos c33] at H
                  have c33b0 : decide (x62_1 < (y101.length : Int)) = true := decide_eq_true c33
                  clear c33
                  have H' := Aside0.mk H
                  clear H
                  have p123 : 0 ≤ (x62_1 : Int) := of_decide_eq_true (by first | (with_reducible assumption) | assumption)
                  have q123 : x62_1 < (y101.length : Int) := of_decide_eq_true (by first | (with_reducible assumption) | assumption)
                  obtain ⟨ad123, e123, hx123_0, hx123_1⟩ := at_T43 HR104.out x62_1 p123 q123
                  cases e123
                  replace hx123_0 := (HB.out.cell (World.block_lt_of_cell? w _ hx123_0)).trans hx123_0
                  replace hx123_1 := (HB.out.cell (World.block_lt_of_cell? w _ hx123_1)).trans hx123_1
                  replace p123 := eq_true p123
                  replace q123 := eq_true q123
                  go_wp2_with (first | ((with_reducible refine gate_dst (N := 16) rfl ?_); refine box_event ?hg (N := 16) ?hd (cs := #[.int .i64 0, .int .i64 0]) (t := 43) ?hr ?_; (case hd => rfl); (case hg => rfl); (case hr => first | (go_simp; done) | (go_simp; rfl)); intro gb124 hg w34 hbox hb; have n0_ := Aside0.mk (blk_below (g := gb108) (o := .cells #[.int .i64 t105, .int .i64 t106] 43 (0, 0)) (by (with_reducible repeat (first | refine blk_drewN ?_ _ | refine blk_drew ?_ | refine blk_alloc ?_ _)); exact BK108.out) hb); have n1_ := Aside0.mk (blk_below (g := gb113) (o := .cells #[.int .i64 t110, .int .i64 t111] 43 (0, 0)) (by (with_reducible repeat (first | refine blk_drewN ?_ _ | refine blk_drew ?_ | refine blk_alloc ?_ _)); exact BK113.out) hb); have n2_ := Aside0.mk (blk_below (g := gb117) (o := .cells #[.int .i64 t114, .int .i64 t115] 43 (0, 0)) (by (with_reducible repeat (first | refine blk_drewN ?_ _ | refine blk_drew ?_ | refine blk_alloc ?_ _)); exact BK117.out) hb); have n3_ := Aside0.mk (blk_below (g := gb121) (o := .cells #[.int .i64 t118, .int .i64 t119] 43 (0, 0)) (by (with_reducible repeat (first | refine blk_drewN ?_ _ | refine blk_drew ?_ | refine blk_alloc ?_ _)); exact BK121.out) hb); have n4_ := Aside0.mk (blk_below (g := gb122) (o := .cells #[.int .i64 x123000_1, .int .i64 x123001_1] 43 (0, 0)) (by (with_reducible repeat (first | refine blk_drewN ?_ _ | refine blk_drew ?_ | refine blk_alloc ?_ _)); exact BK122.out) hb); have n5_ := Aside0.mk (below_step (by repeat (first | (with_reducible first | exact HB.out | apply below_alloc | apply pw_below_drewN | apply below_drew1 | refine below_set ?_ GE108.out | refine below_set ?_ GE113.out | refine below_set ?_ GE117.out | refine below_set ?_ GE121.out | refine below_set ?_ GE122.out) | exact HB.out)) hb); have n6_ := Aside0.mk (hbox); have n7_ := Aside0.mk ((by rw [hg]; exact (below_size (by repeat (first | (with_reducible first | exact HB.out | apply below_alloc | apply pw_below_drewN | apply below_drew1 | refine below_set ?_ GE108.out | refine below_set ?_ GE113.out | refine below_set ?_ GE117.out | refine below_set ?_ GE121.out | refine below_set ?_ GE122.out) | exact HB.out))) : w.heap.size ≤ gb124)); have n8_ := Aside0.mk ((by rw [hg]; exact (below_size (by repeat (first | (with_reducible first | exact HB.out | apply below_alloc | apply pw_below_drewN | apply below_drew1 | refine below_set ?_ GE108.out | refine below_set ?_ GE113.out | refine below_set ?_ GE117.out | refine below_set ?_ GE121.out | refine below_set ?_ GE122.out) | exact HB.out))) : w.heap.size ≤ gb124)); have n9_ := Aside0.mk ((by rw [hg]; exact Nat.ne_of_lt (blk_lt (g := gb108) (o := .cells #[.int .i64 t105, .int .i64 t106] 43 (0, 0)) (by (with_reducible repeat (first | refine blk_drewN ?_ _ | refine blk_drew ?_ | refine blk_alloc ?_ _)); exact BK108.out)) : gb108 ≠ gb124)); have n10_ := Aside0.mk ((by rw [hg]; exact Nat.ne_of_gt (blk_lt (g := gb108) (o := .cells #[.int .i64 t105, .int .i64 t106] 43 (0, 0)) (by (with_reducible repeat (first | refine blk_drewN ?_ _ | refine blk_drew ?_ | refine blk_alloc ?_ _)); exact BK108.out)) : gb124 ≠ gb108)); have n11_ := Aside0.mk ((by rw [hg]; exact Nat.ne_of_lt (blk_lt (g := gb113) (o := .cells #[.int .i64 t110, .int .i64 t111] 43 (0, 0)) (by (with_reducible repeat (first | refine blk_drewN ?_ _ | refine blk_drew ?_ | refine blk_alloc ?_ _)); exact BK113.out)) : gb113 ≠ gb124)); have n12_ := Aside0.mk ((by rw [hg]; exact Nat.ne_of_gt (blk_lt (g := gb113) (o := .cells #[.int .i64 t110, .int .i64 t111] 43 (0, 0)) (by (with_reducible repeat (first | refine blk_drewN ?_ _ | refine blk_drew ?_ | refine blk_alloc ?_ _)); exact BK113.out)) : gb124 ≠ gb113)); have n13_ := Aside0.mk ((by rw [hg]; exact Nat.ne_of_lt (blk_lt (g := gb117) (o := .cells #[.int .i64 t114, .int .i64 t115] 43 (0, 0)) (by (with_reducible repeat (first | refine blk_drewN ?_ _ | refine blk_drew ?_ | refine blk_alloc ?_ _)); exact BK117.out)) : gb117 ≠ gb124)); have n14_ := Aside0.mk ((by rw [hg]; exact Nat.ne_of_gt (blk_lt (g := gb117) (o := .cells #[.int .i64 t114, .int .i64 t115] 43 (0, 0)) (by (with_reducible repeat (first | refine blk_drewN ?_ _ | refine blk_drew ?_ | refine blk_alloc ?_ _)); exact BK117.out)) : gb124 ≠ gb117)); have n15_ := Aside0.mk ((by rw [hg]; exact Nat.ne_of_lt (blk_lt (g := gb121) (o := .cells #[.int .i64 t118, .int .i64 t119] 43 (0, 0)) (by (with_reducible repeat (first | refine blk_drewN ?_ _ | refine blk_drew ?_ | refine blk_alloc ?_ _)); exact BK121.out)) : gb121 ≠ gb124)); have n16_ := Aside0.mk ((by rw [hg]; exact Nat.ne_of_gt (blk_lt (g := gb121) (o := .cells #[.int .i64 t118, .int .i64 t119] 43 (0, 0)) (by (with_reducible repeat (first | refine blk_drewN ?_ _ | refine blk_drew ?_ | refine blk_alloc ?_ _)); exact BK121.out)) : gb124 ≠ gb121)); have n17_ := Aside0.mk ((by rw [hg]; exact Nat.ne_of_lt (blk_lt (g := gb122) (o := .cells #[.int .i64 x123000_1, .int .i64 x123001_1] 43 (0, 0)) (by (with_reducible repeat (first | refine blk_drewN ?_ _ | refine blk_drew ?_ | refine blk_alloc ?_ _)); exact BK122.out)) : gb122 ≠ gb124)); have n18_ := Aside0.mk ((by rw [hg]; exact Nat.ne_of_gt (blk_lt (g := gb122) (o := .cells #[.int .i64 x123000_1, .int .i64 x123001_1] 43 (0, 0)) (by (with_reducible repeat (first | refine blk_drewN ?_ _ | refine blk_drew ?_ | refine blk_alloc ?_ _)); exact BK122.out)) : gb124 ≠ gb122)); clear BK108; clear BK113; clear BK117; clear BK121; clear BK122; clear HB; have BK108 := n0_; have BK113 := n1_; have BK117 := n2_; have BK121 := n3_; have BK122 := n4_; have HB := n5_; have BK124 := n6_; have GW124 := n7_; have GE124 := n8_; have NB108_124 := n9_; have NB124_108 := n10_; have NB113_124 := n11_; have NB124_113 := n12_; have NB117_124 := n13_; have NB124_117 := n14_; have NB121_124 := n15_; have NB124_121 := n16_; have NB122_124 := n17_; have NB124_122 := n18_; clear n0_ n1_ n2_ n3_ n4_ n5_ n6_ n7_ n8_ n9_ n10_ n11_ n12_ n13_ n14_ n15_ n16_ n17_ n18_; clear hb hbox hg; have hnb35 := NB124_108.out; have hnc35 := NB108_124.out; have hnb36 := NB124_113.out; have hnc36 := NB113_124.out; have hnb37 := NB124_117.out; have hnc37 := NB117_124.out; have hnb38 := NB124_121.out; have hnc38 := NB121_124.out; have hnb39 := NB124_122.out; have hnc39 := NB122_124.out; have hcz40_0 : w34.cell? ⟨gb124, 0, none⟩ = some (.int .i64 0) := (blk_cell BK124.out 0).trans rfl; have hcz40_1 : w34.cell? ⟨gb124, 1, none⟩ = some (.int .i64 0) := (blk_cell BK124.out 1).trans rfl; have hfz40_0 := blk_frozen BK124.out 0; have hfz40_1 := blk_frozen BK124.out 1; have hnb41 := NB122_108.out; have hnc41 := NB108_122.out; have hnb42 := NB122_113.out; have hnc42 := NB113_122.out; have hnb43 := NB122_117.out; have hnc43 := NB117_122.out; have hnb44 := NB122_121.out; have hnc44 := NB121_122.out; have hcz45_0 : w34.cell? ⟨gb122, 0, none⟩ = some (.int .i64 x123000_1) := (blk_cell BK122.out 0).trans rfl; have hcz45_1 : w34.cell? ⟨gb122, 1, none⟩ = some (.int .i64 x123001_1) := (blk_cell BK122.out 1).trans rfl; have hfz45_0 := blk_frozen BK122.out 0; have hfz45_1 := blk_frozen BK122.out 1))
                  go_roundg k1
                  case measure => have := HK1.out; omega
                  case rel => exact ⟨(wrap64 (x62_1 + 1)), (wrap64 (x123000_1 + ((rd_T43 y101 x62_1).f0))), (wrap64 (x123001_1 + ((rd_T43 y101 x62_1).f1))), (by first | rfl | (simp; done) | (simp [*]; done)), H', ⟨by have := HK1.out; omega⟩, ⟨by (with_reducible repeat (first | refine blk_drewN ?_ _ | refine blk_drew ?_ | refine blk_alloc ?_ _)); refine blk_far ?_ NB108_122.out _; (with_reducible repeat (first | refine blk_drewN ?_ _ | refine blk_drew ?_ | refine blk_alloc ?_ _)); refine blk_far ?_ NB108_122.out _; (with_reducible repeat (first | refine blk_drewN ?_ _ | refine blk_drew ?_ | refine blk_alloc ?_ _)); refine blk_far ?_ NB108_124.out _; (with_reducible repeat (first | refine blk_drewN ?_ _ | refine blk_drew ?_ | refine blk_alloc ?_ _)); refine blk_far ?_ NB108_124.out _; (with_reducible repeat (first | refine blk_drewN ?_ _ | refine blk_drew ?_ | refine blk_alloc ?_ _)); exact BK108.out⟩, ⟨by (with_reducible repeat (first | refine blk_drewN ?_ _ | refine blk_drew ?_ | refine blk_alloc ?_ _)); refine blk_far ?_ NB113_122.out _; (with_reducible repeat (first | refine blk_drewN ?_ _ | refine blk_drew ?_ | refine blk_alloc ?_ _)); refine blk_far ?_ NB113_122.out _; (with_reducible repeat (first | refine blk_drewN ?_ _ | refine blk_drew ?_ | refine blk_alloc ?_ _)); refine blk_far ?_ NB113_124.out _; (with_reducible repeat (first | refine blk_drewN ?_ _ | refine blk_drew ?_ | refine blk_alloc ?_ _)); refine blk_far ?_ NB113_124.out _; (with_reducible repeat (first | refine blk_drewN ?_ _ | refine blk_drew ?_ | refine blk_alloc ?_ _)); exact BK113.out⟩, ⟨by (with_reducible repeat (first | refine blk_drewN ?_ _ | refine blk_drew ?_ | refine blk_alloc ?_ _)); refine blk_far ?_ NB117_122.out _; (with_reducible repeat (first | refine blk_drewN ?_ _ | refine blk_drew ?_ | refine blk_alloc ?_ _)); refine blk_far ?_ NB117_122.out _; (with_reducible repeat (first | refine blk_drewN ?_ _ | refine blk_drew ?_ | refine blk_alloc ?_ _)); refine blk_far ?_ NB117_124.out _; (with_reducible repeat (first | refine blk_drewN ?_ _ | refine blk_drew ?_ | refine blk_alloc ?_ _)); refine blk_far ?_ NB117_124.out _; (with_reducible repeat (first | refine blk_drewN ?_ _ | refine blk_drew ?_ | refine blk_alloc ?_ _)); exact BK117.out⟩, ⟨by (with_reducible repeat (first | refine blk_drewN ?_ _ | refine blk_drew ?_ | refine blk_alloc ?_ _)); refine blk_far ?_ NB121_122.out _; (with_reducible repeat (first | refine blk_drewN ?_ _ | refine blk_drew ?_ | refine blk_alloc ?_ _)); refine blk_far ?_ NB121_122.out _; (with_reducible repeat (first | refine blk_drewN ?_ _ | refine blk_drew ?_ | refine blk_alloc ?_ _)); refine blk_far ?_ NB121_124.out _; (with_reducible repeat (first | refine blk_drewN ?_ _ | refine blk_drew ?_ | refine blk_alloc ?_ _)); refine blk_far ?_ NB121_124.out _; (with_reducible repeat (first | refine blk_drewN ?_ _ | refine blk_drew ?_ | refine blk_alloc ?_ _)); exact BK121.out⟩, ⟨by (with_reducible repeat (first | refine blk_drewN ?_ _ | refine blk_drew ?_ | refine blk_alloc ?_ _)); refine blk_put (cs := #[.int .i64 (wrap64 (x123000_1 + ((rd_T43 y101 x62_1).f0))), .int .i64 x123001_1]) ?_ 1 _ rfl; (with_reducible repeat (first | refine blk_drewN ?_ _ | refine blk_drew ?_ | refine blk_alloc ?_ _)); refine blk_put (cs := #[.int .i64 x123000_1, .int .i64 x123001_1]) ?_ 0 _ rfl; (with_reducible repeat (first | refine blk_drewN ?_ _ | refine blk_drew ?_ | refine blk_alloc ?_ _)); refine blk_far ?_ NB122_124.out _; (with_reducible repeat (first | refine blk_drewN ?_ _ | refine blk_drew ?_ | refine blk_alloc ?_ _)); refine blk_far ?_ NB122_124.out _; (with_reducible repeat (first | refine blk_drewN ?_ _ | refine blk_drew ?_ | refine blk_alloc ?_ _)); exact BK122.out⟩, ⟨by repeat (first | (with_reducible first | exact HB.out | apply below_alloc | apply pw_below_drewN | apply below_drew1 | refine below_set ?_ GE108.out | refine below_set ?_ GE113.out | refine below_set ?_ GE117.out | refine below_set ?_ GE121.out | refine below_set ?_ GE122.out | refine below_set ?_ GE124.out) | exact HB.out)⟩⟩
                · rw [if_neg c33] at H
                  exact absurd H (by simp)
              · rw [if_neg c32] at H
                exact absurd H (by simp)
            · rw [if_neg c31] at H
              have c31b0 : decide (x62_1 < (y101.length : Int)) = false := decide_eq_false c31
              clear c31
              replace H := Option.bind_eq_some_iff.mp H
              obtain ⟨t125, A460, H⟩ := H
              replace H : (if t125 = true then (if t112 = 0 then (if t116 = 0 then (if t120 = 0 then (if (t110 == t105 && (t111 == t106)) = true then (if (t114 == t105 && (t115 == t106)) = true then (some (t118 == (wrap64 (x123000_1 * 256)) && (t119 == (wrap64 (x123001_1 * 256))))) else (some false)) else (some false)) else (some false)) else (some false)) else (some false)) else (some false)) = some r := H
              have A46 := Aside0.mk A460
              clear A460
              by_cases c47 : t125 = true
              · subst c47
                have H1 : (if t112 = 0 then (if t116 = 0 then (if t120 = 0 then (if (t110 == t105 && (t111 == t106)) = true then (if (t114 == t105 && (t115 == t106)) = true then (some (t118 == (wrap64 (x123000_1 * 256)) && (t119 == (wrap64 (x123001_1 * 256))))) else (some false)) else (some false)) else (some false)) else (some false)) else (some false)) = some r := by rw [if_pos rfl] at H; exact H
                clear H
                have H := H1
                clear H1
                by_cases c48 : t112 = 0
                · rw [if_pos c48] at H
                  have c48b0 : (t112 == 0) = true := beq_iff_eq.mpr c48
                  have c48b1 : (t112 != 0) = false := bne_eq_false_iff_eq.mpr c48
                  clear c48
                  by_cases c49 : t116 = 0
                  · rw [if_pos c49] at H
                    have c49b0 : (t116 == 0) = true := beq_iff_eq.mpr c49
                    have c49b1 : (t116 != 0) = false := bne_eq_false_iff_eq.mpr c49
                    clear c49
                    by_cases c50 : t120 = 0
                    · rw [if_pos c50] at H
                      have c50b0 : (t120 == 0) = true := beq_iff_eq.mpr c50
                      have c50b1 : (t120 != 0) = false := bne_eq_false_iff_eq.mpr c50
                      clear c50
                      by_cases c51 : (t110 == t105 && (t111 == t106)) = true
                      · rw [if_pos c51] at H
                        have c51b0 : (t110 == t105 && (t111 == t106)) = true := c51
                        (try (have c51b1 : decide (t110 = t105 && (t111 == t106)) = true := by simpa using c51))
                        (try (have c51b2 : (t110 == t105 && (t111 == t106)) = true := by simpa using c51))
                        clear c51
                        by_cases c52 : (t114 == t105 && (t115 == t106)) = true
                        · rw [if_pos c52] at H
                          have c52b0 : (t114 == t105 && (t115 == t106)) = true := c52
                          (try (have c52b1 : decide (t114 = t105 && (t115 == t106)) = true := by simpa using c52))
                          (try (have c52b2 : (t114 == t105 && (t115 == t106)) = true := by simpa using c52))
                          clear c52
                          obtain rfl := Option.some.inj H
                          go_wp2_with (first | ((with_reducible refine gate_callee (f := 63) rfl ?_); refine goesL_ (some 78) rfl rfl Try.func63 (by kernel_rfl) rfl #[] rfl (by (try simp only [List.map_toArray, List.map_cons, List.map_nil]); first | done | rfl | (simp only [List.length_drop, List.length_take]; rfl)) ?_; (with_reducible refine (headroomlaw16_alive.calls k1  true _ A46.out).mono ?_); rintro e w53 ⟨rfl, hb⟩; refine ⟨_, rfl, ?_⟩; have n0_ := Aside0.mk (blk_below (g := gb108) (o := .cells #[.int .i64 t105, .int .i64 t106] 43 (0, 0)) (by (with_reducible repeat (first | refine blk_drewN ?_ _ | refine blk_drew ?_ | refine blk_alloc ?_ _)); exact BK108.out) hb); have n1_ := Aside0.mk (blk_below (g := gb113) (o := .cells #[.int .i64 t110, .int .i64 t111] 43 (0, 0)) (by (with_reducible repeat (first | refine blk_drewN ?_ _ | refine blk_drew ?_ | refine blk_alloc ?_ _)); exact BK113.out) hb); have n2_ := Aside0.mk (blk_below (g := gb117) (o := .cells #[.int .i64 t114, .int .i64 t115] 43 (0, 0)) (by (with_reducible repeat (first | refine blk_drewN ?_ _ | refine blk_drew ?_ | refine blk_alloc ?_ _)); exact BK117.out) hb); have n3_ := Aside0.mk (blk_below (g := gb121) (o := .cells #[.int .i64 t118, .int .i64 t119] 43 (0, 0)) (by (with_reducible repeat (first | refine blk_drewN ?_ _ | refine blk_drew ?_ | refine blk_alloc ?_ _)); exact BK121.out) hb); have n4_ := Aside0.mk (blk_below (g := gb122) (o := .cells #[.int .i64 x123000_1, .int .i64 x123001_1] 43 (0, 0)) (by (with_reducible repeat (first | refine blk_drewN ?_ _ | refine blk_drew ?_ | refine blk_alloc ?_ _)); exact BK122.out) hb); have n5_ := Aside0.mk (below_step (by repeat (first | (with_reducible first | exact HB.out | apply below_alloc | apply pw_below_drewN | apply below_drew1 | refine below_set ?_ GE108.out | refine below_set ?_ GE113.out | refine below_set ?_ GE117.out | refine below_set ?_ GE121.out | refine below_set ?_ GE122.out) | exact HB.out)) hb); clear BK108; clear BK113; clear BK117; clear BK121; clear BK122; clear HB; have BK108 := n0_; have BK113 := n1_; have BK117 := n2_; have BK121 := n3_; have BK122 := n4_; have HB := n5_; clear n0_ n1_ n2_ n3_ n4_ n5_; (try clear hb); (try clear hb2); (try clear hk); (try clear hi); have hnb54 := NB113_108.out; have hnc54 := NB108_113.out; have hnb55 := NB113_117.out; have hnc55 := NB117_113.out; have hnb56 := NB113_121.out; have hnc56 := NB121_113.out; have hnb57 := NB113_122.out; have hnc57 := NB122_113.out; have hcz58_0 : w53.cell? ⟨gb113, 0, none⟩ = some (.int .i64 t110) := (blk_cell BK113.out 0).trans rfl; have hcz58_1 : w53.cell? ⟨gb113, 1, none⟩ = some (.int .i64 t111) := (blk_cell BK113.out 1).trans rfl; have hfz58_0 := blk_frozen BK113.out 0; have hfz58_1 := blk_frozen BK113.out 1; have hnb59 := NB108_117.out; have hnc59 := NB117_108.out; have hnb60 := NB108_121.out; have hnc60 := NB121_108.out; have hnb61 := NB108_122.out; have hnc61 := NB122_108.out; have hcz62_0 : w53.cell? ⟨gb108, 0, none⟩ = some (.int .i64 t105) := (blk_cell BK108.out 0).trans rfl; have hcz62_1 : w53.cell? ⟨gb108, 1, none⟩ = some (.int .i64 t106) := (blk_cell BK108.out 1).trans rfl; have hfz62_0 := blk_frozen BK108.out 0; have hfz62_1 := blk_frozen BK108.out 1; have hnb63 := NB117_121.out; have hnc63 := NB121_117.out; have hnb64 := NB117_122.out; have hnc64 := NB122_117.out; have hcz65_0 : w53.cell? ⟨gb117, 0, none⟩ = some (.int .i64 t114) := (blk_cell BK117.out 0).trans rfl; have hcz65_1 : w53.cell? ⟨gb117, 1, none⟩ = some (.int .i64 t115) := (blk_cell BK117.out 1).trans rfl; have hfz65_0 := blk_frozen BK117.out 0; have hfz65_1 := blk_frozen BK117.out 1; have hnb66 := NB121_122.out; have hnc66 := NB122_121.out; have hcz67_0 : w53.cell? ⟨gb121, 0, none⟩ = some (.int .i64 t118) := (blk_cell BK121.out 0).trans rfl; have hcz67_1 : w53.cell? ⟨gb121, 1, none⟩ = some (.int .i64 t119) := (blk_cell BK121.out 1).trans rfl; have hfz67_0 := blk_frozen BK121.out 0; have hfz67_1 := blk_frozen BK121.out 1; have hcz68_0 : w53.cell? ⟨gb122, 0, none⟩ = some (.int .i64 x123000_1) := (blk_cell BK122.out 0).trans rfl; have hcz68_1 : w53.cell? ⟨gb122, 1, none⟩ = some (.int .i64 x123001_1) := (blk_cell BK122.out 1).trans rfl; have hfz68_0 := blk_frozen BK122.out 0; have hfz68_1 := blk_frozen BK122.out 1))
                          go_ret
                          exact ⟨by first | rfl | (simp [errW_none, errW_some] <;> rfl) | (simp only [← hji3]; first | rfl | (simp [errW_none, errW_some] <;> rfl)) | (simp [*, errW_none, errW_some] <;> rfl), by repeat (first | (with_reducible first | exact HB.out | apply below_alloc | apply pw_below_drewN | apply below_drew1 | refine below_set ?_ GE108.out | refine below_set ?_ GE113.out | refine below_set ?_ GE117.out | refine below_set ?_ GE121.out | refine below_set ?_ GE122.out) | exact HB.out)⟩
                        · rw [if_neg c52] at H
                          have c52b0 : (t114 == t105 && (t115 == t106)) = false := by simpa using c52
                          (try (have c52b1 : decide (t114 = t105 && (t115 == t106)) = false := by simpa using c52))
                          (try (have c52b2 : (t114 == t105 && (t115 == t106)) = false := by simpa using c52))
                          (try (have c52b3 : ¬ (t114 = t105 && (t115 == t106)) := by simpa using c52))
                          clear c52
                          obtain rfl := Option.some.inj H
                          go_wp2_with (first | ((with_reducible refine gate_callee (f := 63) rfl ?_); refine goesL_ (some 78) rfl rfl Try.func63 (by kernel_rfl) rfl #[] rfl (by (try simp only [List.map_toArray, List.map_cons, List.map_nil]); first | done | rfl | (simp only [List.length_drop, List.length_take]; rfl)) ?_; (with_reducible refine (headroomlaw16_alive.calls k1  true _ A46.out).mono ?_); rintro e w69 ⟨rfl, hb⟩; refine ⟨_, rfl, ?_⟩; have n0_ := Aside0.mk (blk_below (g := gb108) (o := .cells #[.int .i64 t105, .int .i64 t106] 43 (0, 0)) (by (with_reducible repeat (first | refine blk_drewN ?_ _ | refine blk_drew ?_ | refine blk_alloc ?_ _)); exact BK108.out) hb); have n1_ := Aside0.mk (blk_below (g := gb113) (o := .cells #[.int .i64 t110, .int .i64 t111] 43 (0, 0)) (by (with_reducible repeat (first | refine blk_drewN ?_ _ | refine blk_drew ?_ | refine blk_alloc ?_ _)); exact BK113.out) hb); have n2_ := Aside0.mk (blk_below (g := gb117) (o := .cells #[.int .i64 t114, .int .i64 t115] 43 (0, 0)) (by (with_reducible repeat (first | refine blk_drewN ?_ _ | refine blk_drew ?_ | refine blk_alloc ?_ _)); exact BK117.out) hb); have n3_ := Aside0.mk (blk_below (g := gb121) (o := .cells #[.int .i64 t118, .int .i64 t119] 43 (0, 0)) (by (with_reducible repeat (first | refine blk_drewN ?_ _ | refine blk_drew ?_ | refine blk_alloc ?_ _)); exact BK121.out) hb); have n4_ := Aside0.mk (blk_below (g := gb122) (o := .cells #[.int .i64 x123000_1, .int .i64 x123001_1] 43 (0, 0)) (by (with_reducible repeat (first | refine blk_drewN ?_ _ | refine blk_drew ?_ | refine blk_alloc ?_ _)); exact BK122.out) hb); have n5_ := Aside0.mk (below_step (by repeat (first | (with_reducible first | exact HB.out | apply below_alloc | apply pw_below_drewN | apply below_drew1 | refine below_set ?_ GE108.out | refine below_set ?_ GE113.out | refine below_set ?_ GE117.out | refine below_set ?_ GE121.out | refine below_set ?_ GE122.out) | exact HB.out)) hb); clear BK108; clear BK113; clear BK117; clear BK121; clear BK122; clear HB; have BK108 := n0_; have BK113 := n1_; have BK117 := n2_; have BK121 := n3_; have BK122 := n4_; have HB := n5_; clear n0_ n1_ n2_ n3_ n4_ n5_; (try clear hb); (try clear hb2); (try clear hk); (try clear hi); have hnb70 := NB113_108.out; have hnc70 := NB108_113.out; have hnb71 := NB113_117.out; have hnc71 := NB117_113.out; have hnb72 := NB113_121.out; have hnc72 := NB121_113.out; have hnb73 := NB113_122.out; have hnc73 := NB122_113.out; have hcz74_0 : w69.cell? ⟨gb113, 0, none⟩ = some (.int .i64 t110) := (blk_cell BK113.out 0).trans rfl; have hcz74_1 : w69.cell? ⟨gb113, 1, none⟩ = some (.int .i64 t111) := (blk_cell BK113.out 1).trans rfl; have hfz74_0 := blk_frozen BK113.out 0; have hfz74_1 := blk_frozen BK113.out 1; have hnb75 := NB108_117.out; have hnc75 := NB117_108.out; have hnb76 := NB108_121.out; have hnc76 := NB121_108.out; have hnb77 := NB108_122.out; have hnc77 := NB122_108.out; have hcz78_0 : w69.cell? ⟨gb108, 0, none⟩ = some (.int .i64 t105) := (blk_cell BK108.out 0).trans rfl; have hcz78_1 : w69.cell? ⟨gb108, 1, none⟩ = some (.int .i64 t106) := (blk_cell BK108.out 1).trans rfl; have hfz78_0 := blk_frozen BK108.out 0; have hfz78_1 := blk_frozen BK108.out 1; have hnb79 := NB117_121.out; have hnc79 := NB121_117.out; have hnb80 := NB117_122.out; have hnc80 := NB122_117.out; have hcz81_0 : w69.cell? ⟨gb117, 0, none⟩ = some (.int .i64 t114) := (blk_cell BK117.out 0).trans rfl; have hcz81_1 : w69.cell? ⟨gb117, 1, none⟩ = some (.int .i64 t115) := (blk_cell BK117.out 1).trans rfl; have hfz81_0 := blk_frozen BK117.out 0; have hfz81_1 := blk_frozen BK117.out 1))
                          go_ret
                          exact ⟨by first | rfl | (simp [errW_none, errW_some] <;> rfl) | (simp only [← hji3]; first | rfl | (simp [errW_none, errW_some] <;> rfl)) | (simp [*, errW_none, errW_some] <;> rfl), by repeat (first | (with_reducible first | exact HB.out | apply below_alloc | apply pw_below_drewN | apply below_drew1 | refine below_set ?_ GE108.out | refine below_set ?_ GE113.out | refine below_set ?_ GE117.out | refine below_set ?_ GE121.out | refine below_set ?_ GE122.out) | exact HB.out)⟩
                      · rw [if_neg c51] at H
                        have c51b0 : (t110 == t105 && (t111 == t106)) = false := by simpa using c51
                        (try (have c51b1 : decide (t110 = t105 && (t111 == t106)) = false := by simpa using c51))
                        (try (have c51b2 : (t110 == t105 && (t111 == t106)) = false := by simpa using c51))
                        (try (have c51b3 : ¬ (t110 = t105 && (t111 == t106)) := by simpa using c51))
                        clear c51
                        obtain rfl := Option.some.inj H
                        go_wp2_with (first | ((with_reducible refine gate_callee (f := 63) rfl ?_); refine goesL_ (some 78) rfl rfl Try.func63 (by kernel_rfl) rfl #[] rfl (by (try simp only [List.map_toArray, List.map_cons, List.map_nil]); first | done | rfl | (simp only [List.length_drop, List.length_take]; rfl)) ?_; (with_reducible refine (headroomlaw16_alive.calls k1  true _ A46.out).mono ?_); rintro e w82 ⟨rfl, hb⟩; refine ⟨_, rfl, ?_⟩; have n0_ := Aside0.mk (blk_below (g := gb108) (o := .cells #[.int .i64 t105, .int .i64 t106] 43 (0, 0)) (by (with_reducible repeat (first | refine blk_drewN ?_ _ | refine blk_drew ?_ | refine blk_alloc ?_ _)); exact BK108.out) hb); have n1_ := Aside0.mk (blk_below (g := gb113) (o := .cells #[.int .i64 t110, .int .i64 t111] 43 (0, 0)) (by (with_reducible repeat (first | refine blk_drewN ?_ _ | refine blk_drew ?_ | refine blk_alloc ?_ _)); exact BK113.out) hb); have n2_ := Aside0.mk (blk_below (g := gb117) (o := .cells #[.int .i64 t114, .int .i64 t115] 43 (0, 0)) (by (with_reducible repeat (first | refine blk_drewN ?_ _ | refine blk_drew ?_ | refine blk_alloc ?_ _)); exact BK117.out) hb); have n3_ := Aside0.mk (blk_below (g := gb121) (o := .cells #[.int .i64 t118, .int .i64 t119] 43 (0, 0)) (by (with_reducible repeat (first | refine blk_drewN ?_ _ | refine blk_drew ?_ | refine blk_alloc ?_ _)); exact BK121.out) hb); have n4_ := Aside0.mk (blk_below (g := gb122) (o := .cells #[.int .i64 x123000_1, .int .i64 x123001_1] 43 (0, 0)) (by (with_reducible repeat (first | refine blk_drewN ?_ _ | refine blk_drew ?_ | refine blk_alloc ?_ _)); exact BK122.out) hb); have n5_ := Aside0.mk (below_step (by repeat (first | (with_reducible first | exact HB.out | apply below_alloc | apply pw_below_drewN | apply below_drew1 | refine below_set ?_ GE108.out | refine below_set ?_ GE113.out | refine below_set ?_ GE117.out | refine below_set ?_ GE121.out | refine below_set ?_ GE122.out) | exact HB.out)) hb); clear BK108; clear BK113; clear BK117; clear BK121; clear BK122; clear HB; have BK108 := n0_; have BK113 := n1_; have BK117 := n2_; have BK121 := n3_; have BK122 := n4_; have HB := n5_; clear n0_ n1_ n2_ n3_ n4_ n5_; (try clear hb); (try clear hb2); (try clear hk); (try clear hi); have hnb83 := NB113_108.out; have hnc83 := NB108_113.out; have hnb84 := NB113_117.out; have hnc84 := NB117_113.out; have hnb85 := NB113_121.out; have hnc85 := NB121_113.out; have hnb86 := NB113_122.out; have hnc86 := NB122_113.out; have hcz87_0 : w82.cell? ⟨gb113, 0, none⟩ = some (.int .i64 t110) := (blk_cell BK113.out 0).trans rfl; have hcz87_1 : w82.cell? ⟨gb113, 1, none⟩ = some (.int .i64 t111) := (blk_cell BK113.out 1).trans rfl; have hfz87_0 := blk_frozen BK113.out 0; have hfz87_1 := blk_frozen BK113.out 1; have hnb88 := NB108_117.out; have hnc88 := NB117_108.out; have hnb89 := NB108_121.out; have hnc89 := NB121_108.out; have hnb90 := NB108_122.out; have hnc90 := NB122_108.out; have hcz91_0 : w82.cell? ⟨gb108, 0, none⟩ = some (.int .i64 t105) := (blk_cell BK108.out 0).trans rfl; have hcz91_1 : w82.cell? ⟨gb108, 1, none⟩ = some (.int .i64 t106) := (blk_cell BK108.out 1).trans rfl; have hfz91_0 := blk_frozen BK108.out 0; have hfz91_1 := blk_frozen BK108.out 1))
                        go_ret
                        exact ⟨by first | rfl | (simp [errW_none, errW_some] <;> rfl) | (simp only [← hji3]; first | rfl | (simp [errW_none, errW_some] <;> rfl)) | (simp [*, errW_none, errW_some] <;> rfl), by repeat (first | (with_reducible first | exact HB.out | apply below_alloc | apply pw_below_drewN | apply below_drew1 | refine below_set ?_ GE108.out | refine below_set ?_ GE113.out | refine below_set ?_ GE117.out | refine below_set ?_ GE121.out | refine below_set ?_ GE122.out) | exact HB.out)⟩
                    · rw [if_neg c50] at H
                      have c50b0 : (t120 == 0) = false := beq_eq_false_iff_ne.mpr c50
                      have c50b1 : (t120 != 0) = true := bne_iff_ne.mpr c50
                      obtain rfl := Option.some.inj H
                      go_wp2_with (first | ((with_reducible refine gate_callee (f := 63) rfl ?_); refine goesL_ (some 78) rfl rfl Try.func63 (by kernel_rfl) rfl #[] rfl (by (try simp only [List.map_toArray, List.map_cons, List.map_nil]); first | done | rfl | (simp only [List.length_drop, List.length_take]; rfl)) ?_; (with_reducible refine (headroomlaw16_alive.calls k1  true _ A46.out).mono ?_); rintro e w92 ⟨rfl, hb⟩; refine ⟨_, rfl, ?_⟩; have n0_ := Aside0.mk (blk_below (g := gb108) (o := .cells #[.int .i64 t105, .int .i64 t106] 43 (0, 0)) (by (with_reducible repeat (first | refine blk_drewN ?_ _ | refine blk_drew ?_ | refine blk_alloc ?_ _)); exact BK108.out) hb); have n1_ := Aside0.mk (blk_below (g := gb113) (o := .cells #[.int .i64 t110, .int .i64 t111] 43 (0, 0)) (by (with_reducible repeat (first | refine blk_drewN ?_ _ | refine blk_drew ?_ | refine blk_alloc ?_ _)); exact BK113.out) hb); have n2_ := Aside0.mk (blk_below (g := gb117) (o := .cells #[.int .i64 t114, .int .i64 t115] 43 (0, 0)) (by (with_reducible repeat (first | refine blk_drewN ?_ _ | refine blk_drew ?_ | refine blk_alloc ?_ _)); exact BK117.out) hb); have n3_ := Aside0.mk (blk_below (g := gb121) (o := .cells #[.int .i64 t118, .int .i64 t119] 43 (0, 0)) (by (with_reducible repeat (first | refine blk_drewN ?_ _ | refine blk_drew ?_ | refine blk_alloc ?_ _)); exact BK121.out) hb); have n4_ := Aside0.mk (blk_below (g := gb122) (o := .cells #[.int .i64 x123000_1, .int .i64 x123001_1] 43 (0, 0)) (by (with_reducible repeat (first | refine blk_drewN ?_ _ | refine blk_drew ?_ | refine blk_alloc ?_ _)); exact BK122.out) hb); have n5_ := Aside0.mk (below_step (by repeat (first | (with_reducible first | exact HB.out | apply below_alloc | apply pw_below_drewN | apply below_drew1 | refine below_set ?_ GE108.out | refine below_set ?_ GE113.out | refine below_set ?_ GE117.out | refine below_set ?_ GE121.out | refine below_set ?_ GE122.out) | exact HB.out)) hb); clear BK108; clear BK113; clear BK117; clear BK121; clear BK122; clear HB; have BK108 := n0_; have BK113 := n1_; have BK117 := n2_; have BK121 := n3_; have BK122 := n4_; have HB := n5_; clear n0_ n1_ n2_ n3_ n4_ n5_; (try clear hb); (try clear hb2); (try clear hk); (try clear hi)))
                      go_ret
                      exact ⟨by first | rfl | (simp [errW_none, errW_some] <;> rfl) | (simp only [← hji3]; first | rfl | (simp [errW_none, errW_some] <;> rfl)) | (simp [*, errW_none, errW_some] <;> rfl), by repeat (first | (with_reducible first | exact HB.out | apply below_alloc | apply pw_below_drewN | apply below_drew1 | refine below_set ?_ GE108.out | refine below_set ?_ GE113.out | refine below_set ?_ GE117.out | refine below_set ?_ GE121.out | refine below_set ?_ GE122.out) | exact HB.out)⟩
                  · rw [if_neg c49] at H
                    have c49b0 : (t116 == 0) = false := beq_eq_false_iff_ne.mpr c49
                    have c49b1 : (t116 != 0) = true := bne_iff_ne.mpr c49
                    obtain rfl := Option.some.inj H
                    go_wp2_with (first | ((with_reducible refine gate_callee (f := 63) rfl ?_); refine goesL_ (some 78) rfl rfl Try.func63 (by kernel_rfl) rfl #[] rfl (by (try simp only [List.map_toArray, List.map_cons, List.map_nil]); first | done | rfl | (simp only [List.length_drop, List.length_take]; rfl)) ?_; (with_reducible refine (headroomlaw16_alive.calls k1  true _ A46.out).mono ?_); rintro e w93 ⟨rfl, hb⟩; refine ⟨_, rfl, ?_⟩; have n0_ := Aside0.mk (blk_below (g := gb108) (o := .cells #[.int .i64 t105, .int .i64 t106] 43 (0, 0)) (by (with_reducible repeat (first | refine blk_drewN ?_ _ | refine blk_drew ?_ | refine blk_alloc ?_ _)); exact BK108.out) hb); have n1_ := Aside0.mk (blk_below (g := gb113) (o := .cells #[.int .i64 t110, .int .i64 t111] 43 (0, 0)) (by (with_reducible repeat (first | refine blk_drewN ?_ _ | refine blk_drew ?_ | refine blk_alloc ?_ _)); exact BK113.out) hb); have n2_ := Aside0.mk (blk_below (g := gb117) (o := .cells #[.int .i64 t114, .int .i64 t115] 43 (0, 0)) (by (with_reducible repeat (first | refine blk_drewN ?_ _ | refine blk_drew ?_ | refine blk_alloc ?_ _)); exact BK117.out) hb); have n3_ := Aside0.mk (blk_below (g := gb121) (o := .cells #[.int .i64 t118, .int .i64 t119] 43 (0, 0)) (by (with_reducible repeat (first | refine blk_drewN ?_ _ | refine blk_drew ?_ | refine blk_alloc ?_ _)); exact BK121.out) hb); have n4_ := Aside0.mk (blk_below (g := gb122) (o := .cells #[.int .i64 x123000_1, .int .i64 x123001_1] 43 (0, 0)) (by (with_reducible repeat (first | refine blk_drewN ?_ _ | refine blk_drew ?_ | refine blk_alloc ?_ _)); exact BK122.out) hb); have n5_ := Aside0.mk (below_step (by repeat (first | (with_reducible first | exact HB.out | apply below_alloc | apply pw_below_drewN | apply below_drew1 | refine below_set ?_ GE108.out | refine below_set ?_ GE113.out | refine below_set ?_ GE117.out | refine below_set ?_ GE121.out | refine below_set ?_ GE122.out) | exact HB.out)) hb); clear BK108; clear BK113; clear BK117; clear BK121; clear BK122; clear HB; have BK108 := n0_; have BK113 := n1_; have BK117 := n2_; have BK121 := n3_; have BK122 := n4_; have HB := n5_; clear n0_ n1_ n2_ n3_ n4_ n5_; (try clear hb); (try clear hb2); (try clear hk); (try clear hi)))
                    go_ret
                    exact ⟨by first | rfl | (simp [errW_none, errW_some] <;> rfl) | (simp only [← hji3]; first | rfl | (simp [errW_none, errW_some] <;> rfl)) | (simp [*, errW_none, errW_some] <;> rfl), by repeat (first | (with_reducible first | exact HB.out | apply below_alloc | apply pw_below_drewN | apply below_drew1 | refine below_set ?_ GE108.out | refine below_set ?_ GE113.out | refine below_set ?_ GE117.out | refine below_set ?_ GE121.out | refine below_set ?_ GE122.out) | exact HB.out)⟩
                · rw [if_neg c48] at H
                  have c48b0 : (t112 == 0) = false := beq_eq_false_iff_ne.mpr c48
                  have c48b1 : (t112 != 0) = true := bne_iff_ne.mpr c48
                  obtain rfl := Option.some.inj H
                  go_wp2_with (first | ((with_reducible refine gate_callee (f := 63) rfl ?_); refine goesL_ (some 78) rfl rfl Try.func63 (by kernel_rfl) rfl #[] rfl (by (try simp only [List.map_toArray, List.map_cons, List.map_nil]); first | done | rfl | (simp only [List.length_drop, List.length_take]; rfl)) ?_; (with_reducible refine (headroomlaw16_alive.calls k1  true _ A46.out).mono ?_); rintro e w94 ⟨rfl, hb⟩; refine ⟨_, rfl, ?_⟩; have n0_ := Aside0.mk (blk_below (g := gb108) (o := .cells #[.int .i64 t105, .int .i64 t106] 43 (0, 0)) (by (with_reducible repeat (first | refine blk_drewN ?_ _ | refine blk_drew ?_ | refine blk_alloc ?_ _)); exact BK108.out) hb); have n1_ := Aside0.mk (blk_below (g := gb113) (o := .cells #[.int .i64 t110, .int .i64 t111] 43 (0, 0)) (by (with_reducible repeat (first | refine blk_drewN ?_ _ | refine blk_drew ?_ | refine blk_alloc ?_ _)); exact BK113.out) hb); have n2_ := Aside0.mk (blk_below (g := gb117) (o := .cells #[.int .i64 t114, .int .i64 t115] 43 (0, 0)) (by (with_reducible repeat (first | refine blk_drewN ?_ _ | refine blk_drew ?_ | refine blk_alloc ?_ _)); exact BK117.out) hb); have n3_ := Aside0.mk (blk_below (g := gb121) (o := .cells #[.int .i64 t118, .int .i64 t119] 43 (0, 0)) (by (with_reducible repeat (first | refine blk_drewN ?_ _ | refine blk_drew ?_ | refine blk_alloc ?_ _)); exact BK121.out) hb); have n4_ := Aside0.mk (blk_below (g := gb122) (o := .cells #[.int .i64 x123000_1, .int .i64 x123001_1] 43 (0, 0)) (by (with_reducible repeat (first | refine blk_drewN ?_ _ | refine blk_drew ?_ | refine blk_alloc ?_ _)); exact BK122.out) hb); have n5_ := Aside0.mk (below_step (by repeat (first | (with_reducible first | exact HB.out | apply below_alloc | apply pw_below_drewN | apply below_drew1 | refine below_set ?_ GE108.out | refine below_set ?_ GE113.out | refine below_set ?_ GE117.out | refine below_set ?_ GE121.out | refine below_set ?_ GE122.out) | exact HB.out)) hb); clear BK108; clear BK113; clear BK117; clear BK121; clear BK122; clear HB; have BK108 := n0_; have BK113 := n1_; have BK117 := n2_; have BK121 := n3_; have BK122 := n4_; have HB := n5_; clear n0_ n1_ n2_ n3_ n4_ n5_; (try clear hb); (try clear hb2); (try clear hk); (try clear hi)))
                  go_ret
                  exact ⟨by first | rfl | (simp [errW_none, errW_some] <;> rfl) | (simp only [← hji3]; first | rfl | (simp [errW_none, errW_some] <;> rfl)) | (simp [*, errW_none, errW_some] <;> rfl), by repeat (first | (with_reducible first | exact HB.out | apply below_alloc | apply pw_below_drewN | apply below_drew1 | refine below_set ?_ GE108.out | refine below_set ?_ GE113.out | refine below_set ?_ GE117.out | refine below_set ?_ GE121.out | refine below_set ?_ GE122.out) | exact HB.out)⟩
              · replace c47 := Bool.eq_false_iff.mpr c47
                subst c47
                have H1 : (some false) = some r := by rw [if_neg (show ¬ (false = true) by decide)] at H; exact H
                clear H
                have H := H1
                clear H1
                obtain rfl := Option.some.inj H
                go_wp2_with (first | ((with_reducible refine gate_callee (f := 63) rfl ?_); refine goesL_ (some 78) rfl rfl Try.func63 (by kernel_rfl) rfl #[] rfl (by (try simp only [List.map_toArray, List.map_cons, List.map_nil]); first | done | rfl | (simp only [List.length_drop, List.length_take]; rfl)) ?_; (with_reducible refine (headroomlaw16_alive.calls k1  false _ A46.out).mono ?_); rintro e w95 ⟨rfl, hb⟩; refine ⟨_, rfl, ?_⟩; have n0_ := Aside0.mk (blk_below (g := gb108) (o := .cells #[.int .i64 t105, .int .i64 t106] 43 (0, 0)) (by (with_reducible repeat (first | refine blk_drewN ?_ _ | refine blk_drew ?_ | refine blk_alloc ?_ _)); exact BK108.out) hb); have n1_ := Aside0.mk (blk_below (g := gb113) (o := .cells #[.int .i64 t110, .int .i64 t111] 43 (0, 0)) (by (with_reducible repeat (first | refine blk_drewN ?_ _ | refine blk_drew ?_ | refine blk_alloc ?_ _)); exact BK113.out) hb); have n2_ := Aside0.mk (blk_below (g := gb117) (o := .cells #[.int .i64 t114, .int .i64 t115] 43 (0, 0)) (by (with_reducible repeat (first | refine blk_drewN ?_ _ | refine blk_drew ?_ | refine blk_alloc ?_ _)); exact BK117.out) hb); have n3_ := Aside0.mk (blk_below (g := gb121) (o := .cells #[.int .i64 t118, .int .i64 t119] 43 (0, 0)) (by (with_reducible repeat (first | refine blk_drewN ?_ _ | refine blk_drew ?_ | refine blk_alloc ?_ _)); exact BK121.out) hb); have n4_ := Aside0.mk (blk_below (g := gb122) (o := .cells #[.int .i64 x123000_1, .int .i64 x123001_1] 43 (0, 0)) (by (with_reducible repeat (first | refine blk_drewN ?_ _ | refine blk_drew ?_ | refine blk_alloc ?_ _)); exact BK122.out) hb); have n5_ := Aside0.mk (below_step (by repeat (first | (with_reducible first | exact HB.out | apply below_alloc | apply pw_below_drewN | apply below_drew1 | refine below_set ?_ GE108.out | refine below_set ?_ GE113.out | refine below_set ?_ GE117.out | refine below_set ?_ GE121.out | refine below_set ?_ GE122.out) | exact HB.out)) hb); clear BK108; clear BK113; clear BK117; clear BK121; clear BK122; clear HB; have BK108 := n0_; have BK113 := n1_; have BK117 := n2_; have BK121 := n3_; have BK122 := n4_; have HB := n5_; clear n0_ n1_ n2_ n3_ n4_ n5_; (try clear hb); (try clear hb2); (try clear hk); (try clear hi)))
                go_ret
                exact ⟨by first | rfl | (simp [errW_none, errW_some] <;> rfl) | (simp only [← hji3]; first | rfl | (simp [errW_none, errW_some] <;> rfl)) | (simp [*, errW_none, errW_some] <;> rfl), by repeat (first | (with_reducible first | exact HB.out | apply below_alloc | apply pw_below_drewN | apply below_drew1 | refine below_set ?_ GE108.out | refine below_set ?_ GE113.out | refine below_set ?_ GE117.out | refine below_set ?_ GE121.out | refine below_set ?_ GE122.out) | exact HB.out)⟩
      · rw [if_neg c7] at H
        have c7b0 : (t107 == 0) = false := beq_eq_false_iff_ne.mpr c7
        have c7b1 : (t107 != 0) = true := bne_iff_ne.mpr c7
        replace H := Option.bind_eq_some_iff.mp H
        obtain ⟨t109, A960, H⟩ := H
        replace H : (if t109 = true then (some (t105 == 0 && (t106 == 0))) else (some false)) = some r := H
        have A96 := Aside0.mk A960
        clear A960
        by_cases c97 : t109 = true
        · subst c97
          have H1 : (some (t105 == 0 && (t106 == 0))) = some r := by rw [if_pos rfl] at H; exact H
          clear H
          have H := H1
          clear H1
          obtain rfl := Option.some.inj H
          have q98 : ((ji3) : Int) ≤ ((l0.length : Int) : Int) := of_decide_eq_true (by first | (with_reducible assumption) | assumption)
          obtain ⟨i098, hi098, _, hsz98, _⟩ := info_parts info43
          have hroom98 : l0.length ≤ c0 := HC0.out
          have hC98 : Kd.C k43 _ A0 l0.length l0 := HR0.out
          have hcut98 := cut_to (P := Try.prog) 33 43 .i64 Try.underlying33 hi098 A0 l0.length c0 (ji3) (of_decide_eq_true (by first | (with_reducible assumption) | assumption)) q98 hroom98
          have hr98 := Kd.C_take (m := ((ji3) : Int).toNat) hC98 (by omega)
          have hy98 : y101.length = ((ji3) : Int).toNat := (by rw [Ny101.out, List.length_take]; omega)
          rw [← Ny101.out] at hr98
          rw [← hy98] at hcut98
          have HR104 := Aside0.mk hr98
          have HC104 := Aside0.mk (show y101.length ≤ c0 from by omega)
          clear hr98 hC98 hroom98 hi098 hsz98
          have KY98 := Aside0.mk hy98
          clear hy98
          replace q98 := eq_true q98
          go_enter Try.func18, Try.ntmps18
          go_wp2_with (first | ((with_reducible refine gate_callee (f := 62) rfl ?_); refine goesL_ (some 27) rfl rfl Try.func62 (by kernel_rfl) rfl #[.slice A0 y101.length c0, .int .i64 (Int.tmod a1 1099511627776), .bool false] rfl (by (try simp only [List.map_toArray, List.map_cons, List.map_nil]); first | done | rfl | (simp only [List.length_drop, List.length_take]; rfl)) ?_; (with_reducible refine (dft_Bin.calls k _ _ y101 (Int.tmod a1 1099511627776) false t105 t106 t107 _ ?side1 ?side2 A6.out).mono ?_); (case side1 => repeat (first | exact HR104.out | (with_reducible refine Kd.C_alloc ?_ _) | (with_reducible refine Kd.C_drewN ?_ _) | (with_reducible refine Kd.C_drew ?_))); (case side2 => exact HC104.out); rintro e w99 ⟨rfl, hb⟩; refine ⟨_, rfl, ?_⟩; have n0_ := Aside0.mk (below_step (by repeat (first | (with_reducible first | exact HB.out | apply below_alloc | apply pw_below_drewN | apply below_drew1) | exact HB.out)) hb); clear HB; have HB := n0_; clear n0_; (try clear hb); (try clear hb2); (try clear hk); (try clear hi)) | ((with_reducible refine gate_dst (N := 5) rfl ?_); refine box_event ?hg (N := 5) ?hd (cs := #[.int .i64 0, .int .i64 0]) (t := 43) ?hr ?_; (case hd => rfl); (case hg => rfl); (case hr => first | (go_simp; done) | (go_simp; rfl)); intro gb108 hg w100 hbox hb; have n0_ := Aside0.mk (below_step (by repeat (first | (with_reducible first | exact HB.out | apply below_alloc | apply pw_below_drewN | apply below_drew1) | exact HB.out)) hb); have n1_ := Aside0.mk (hbox); have n2_ := Aside0.mk ((by rw [hg]; exact (below_size (by repeat (first | (with_reducible first | exact HB.out | apply below_alloc | apply pw_below_drewN | apply below_drew1) | exact HB.out))) : w.heap.size ≤ gb108)); have n3_ := Aside0.mk ((by rw [hg]; exact (below_size (by repeat (first | (with_reducible first | exact HB.out | apply below_alloc | apply pw_below_drewN | apply below_drew1) | exact HB.out))) : w.heap.size ≤ gb108)); clear HB; have HB := n0_; have BK108 := n1_; have GW108 := n2_; have GE108 := n3_; clear n0_ n1_ n2_ n3_; clear hb hbox hg; have hcz101_0 : w100.cell? ⟨gb108, 0, none⟩ = some (.int .i64 0) := (blk_cell BK108.out 0).trans rfl; have hcz101_1 : w100.cell? ⟨gb108, 1, none⟩ = some (.int .i64 0) := (blk_cell BK108.out 1).trans rfl; have hfz101_0 := blk_frozen BK108.out 0; have hfz101_1 := blk_frozen BK108.out 1) | ((with_reducible refine gate_callee (f := 63) rfl ?_); refine goesL_ (some 32) rfl rfl Try.func63 (by kernel_rfl) rfl #[] rfl (by (try simp only [List.map_toArray, List.map_cons, List.map_nil]); first | done | rfl | (simp only [List.length_drop, List.length_take]; rfl)) ?_; (with_reducible refine (headroomlaw16_alive.calls k  true _ A96.out).mono ?_); rintro e w102 ⟨rfl, hb⟩; refine ⟨_, rfl, ?_⟩; have n0_ := Aside0.mk (blk_below (g := gb108) (o := .cells #[.int .i64 t105, .int .i64 t106] 43 (0, 0)) (by (with_reducible repeat (first | refine blk_drewN ?_ _ | refine blk_drew ?_ | refine blk_alloc ?_ _)); refine blk_put (cs := #[.int .i64 t105, .int .i64 0]) ?_ 1 _ rfl; (with_reducible repeat (first | refine blk_drewN ?_ _ | refine blk_drew ?_ | refine blk_alloc ?_ _)); refine blk_put (cs := #[.int .i64 0, .int .i64 0]) ?_ 0 _ rfl; (with_reducible repeat (first | refine blk_drewN ?_ _ | refine blk_drew ?_ | refine blk_alloc ?_ _)); exact BK108.out) hb); have n1_ := Aside0.mk (below_step (by repeat (first | (with_reducible first | exact HB.out | apply below_alloc | apply pw_below_drewN | apply below_drew1 | refine below_set ?_ GE108.out) | exact HB.out)) hb); clear BK108; clear HB; have BK108 := n0_; have HB := n1_; clear n0_ n1_; (try clear hb); (try clear hb2); (try clear hk); (try clear hi); have hcz103_0 : w102.cell? ⟨gb108, 0, none⟩ = some (.int .i64 t105) := (blk_cell BK108.out 0).trans rfl; have hcz103_1 : w102.cell? ⟨gb108, 1, none⟩ = some (.int .i64 t106) := (blk_cell BK108.out 1).trans rfl; have hfz103_0 := blk_frozen BK108.out 0; have hfz103_1 := blk_frozen BK108.out 1))
          go_ret
          exact ⟨by first | rfl | (simp [errW_none, errW_some] <;> rfl) | (simp only [← hji3]; first | rfl | (simp [errW_none, errW_some] <;> rfl)) | (simp [*, errW_none, errW_some] <;> rfl), by repeat (first | (with_reducible first | exact HB.out | apply below_alloc | apply pw_below_drewN | apply below_drew1 | refine below_set ?_ GE108.out) | exact HB.out)⟩
        · replace c97 := Bool.eq_false_iff.mpr c97
          subst c97
          have H1 : (some false) = some r := by rw [if_neg (show ¬ (false = true) by decide)] at H; exact H
          clear H
          have H := H1
          clear H1
          obtain rfl := Option.some.inj H
          have q104 : ((ji3) : Int) ≤ ((l0.length : Int) : Int) := of_decide_eq_true (by first | (with_reducible assumption) | assumption)
          obtain ⟨i0104, hi0104, _, hsz104, _⟩ := info_parts info43
          have hroom104 : l0.length ≤ c0 := HC0.out
          have hC104 : Kd.C k43 _ A0 l0.length l0 := HR0.out
          have hcut104 := cut_to (P := Try.prog) 33 43 .i64 Try.underlying33 hi0104 A0 l0.length c0 (ji3) (of_decide_eq_true (by first | (with_reducible assumption) | assumption)) q104 hroom104
          have hr104 := Kd.C_take (m := ((ji3) : Int).toNat) hC104 (by omega)
          have hy104 : y101.length = ((ji3) : Int).toNat := (by rw [Ny101.out, List.length_take]; omega)
          rw [← Ny101.out] at hr104
          rw [← hy104] at hcut104
          have HR104 := Aside0.mk hr104
          have HC104 := Aside0.mk (show y101.length ≤ c0 from by omega)
          clear hr104 hC104 hroom104 hi0104 hsz104
          have KY104 := Aside0.mk hy104
          clear hy104
          replace q104 := eq_true q104
          go_enter Try.func18, Try.ntmps18
          go_wp2_with (first | ((with_reducible refine gate_callee (f := 62) rfl ?_); refine goesL_ (some 27) rfl rfl Try.func62 (by kernel_rfl) rfl #[.slice A0 y101.length c0, .int .i64 (Int.tmod a1 1099511627776), .bool false] rfl (by (try simp only [List.map_toArray, List.map_cons, List.map_nil]); first | done | rfl | (simp only [List.length_drop, List.length_take]; rfl)) ?_; (with_reducible refine (dft_Bin.calls k _ _ y101 (Int.tmod a1 1099511627776) false t105 t106 t107 _ ?side1 ?side2 A6.out).mono ?_); (case side1 => repeat (first | exact HR104.out | (with_reducible refine Kd.C_alloc ?_ _) | (with_reducible refine Kd.C_drewN ?_ _) | (with_reducible refine Kd.C_drew ?_))); (case side2 => exact HC104.out); rintro e w105 ⟨rfl, hb⟩; refine ⟨_, rfl, ?_⟩; have n0_ := Aside0.mk (below_step (by repeat (first | (with_reducible first | exact HB.out | apply below_alloc | apply pw_below_drewN | apply below_drew1) | exact HB.out)) hb); clear HB; have HB := n0_; clear n0_; (try clear hb); (try clear hb2); (try clear hk); (try clear hi)) | ((with_reducible refine gate_dst (N := 5) rfl ?_); refine box_event ?hg (N := 5) ?hd (cs := #[.int .i64 0, .int .i64 0]) (t := 43) ?hr ?_; (case hd => rfl); (case hg => rfl); (case hr => first | (go_simp; done) | (go_simp; rfl)); intro gb108 hg w106 hbox hb; have n0_ := Aside0.mk (below_step (by repeat (first | (with_reducible first | exact HB.out | apply below_alloc | apply pw_below_drewN | apply below_drew1) | exact HB.out)) hb); have n1_ := Aside0.mk (hbox); have n2_ := Aside0.mk ((by rw [hg]; exact (below_size (by repeat (first | (with_reducible first | exact HB.out | apply below_alloc | apply pw_below_drewN | apply below_drew1) | exact HB.out))) : w.heap.size ≤ gb108)); have n3_ := Aside0.mk ((by rw [hg]; exact (below_size (by repeat (first | (with_reducible first | exact HB.out | apply below_alloc | apply pw_below_drewN | apply below_drew1) | exact HB.out))) : w.heap.size ≤ gb108)); clear HB; have HB := n0_; have BK108 := n1_; have GW108 := n2_; have GE108 := n3_; clear n0_ n1_ n2_ n3_; clear hb hbox hg; have hcz107_0 : w106.cell? ⟨gb108, 0, none⟩ = some (.int .i64 0) := (blk_cell BK108.out 0).trans rfl; have hcz107_1 : w106.cell? ⟨gb108, 1, none⟩ = some (.int .i64 0) := (blk_cell BK108.out 1).trans rfl; have hfz107_0 := blk_frozen BK108.out 0; have hfz107_1 := blk_frozen BK108.out 1) | ((with_reducible refine gate_callee (f := 63) rfl ?_); refine goesL_ (some 32) rfl rfl Try.func63 (by kernel_rfl) rfl #[] rfl (by (try simp only [List.map_toArray, List.map_cons, List.map_nil]); first | done | rfl | (simp only [List.length_drop, List.length_take]; rfl)) ?_; (with_reducible refine (headroomlaw16_alive.calls k  false _ A96.out).mono ?_); rintro e w108 ⟨rfl, hb⟩; refine ⟨_, rfl, ?_⟩; have n0_ := Aside0.mk (blk_below (g := gb108) (o := .cells #[.int .i64 t105, .int .i64 t106] 43 (0, 0)) (by (with_reducible repeat (first | refine blk_drewN ?_ _ | refine blk_drew ?_ | refine blk_alloc ?_ _)); refine blk_put (cs := #[.int .i64 t105, .int .i64 0]) ?_ 1 _ rfl; (with_reducible repeat (first | refine blk_drewN ?_ _ | refine blk_drew ?_ | refine blk_alloc ?_ _)); refine blk_put (cs := #[.int .i64 0, .int .i64 0]) ?_ 0 _ rfl; (with_reducible repeat (first | refine blk_drewN ?_ _ | refine blk_drew ?_ | refine blk_alloc ?_ _)); exact BK108.out) hb); have n1_ := Aside0.mk (below_step (by repeat (first | (with_reducible first | exact HB.out | apply below_alloc | apply pw_below_drewN | apply below_drew1 | refine below_set ?_ GE108.out) | exact HB.out)) hb); clear BK108; clear HB; have BK108 := n0_; have HB := n1_; clear n0_ n1_; (try clear hb); (try clear hb2); (try clear hk); (try clear hi)))
          go_ret
          exact ⟨by first | rfl | (simp [errW_none, errW_some] <;> rfl) | (simp only [← hji3]; first | rfl | (simp [errW_none, errW_some] <;> rfl)) | (simp [*, errW_none, errW_some] <;> rfl), by repeat (first | (with_reducible first | exact HB.out | apply below_alloc | apply pw_below_drewN | apply below_drew1 | refine below_set ?_ GE108.out) | exact HB.out)⟩
    · rw [if_neg c5] at H
      exact absurd H (by simp)
  · rw [if_neg c4] at H
    exact absurd H (by simp)

end Go.Proofs.Ytmglkelmdcpinaa.G
/- The contract of the function roots_Root (number 36 of the translation): what its call computes, as a plain Lean function; memory that was there stays as it was. Conditions: none beyond the theorem's own. Written by a program (gprint.py). -/
namespace Go.Proofs.Ytmglkelmdcpinaa.G
open Go.RowKit Go.Proofs.YtmglkelmdcpinaaW.PrintWords Go.Proofs.YtmglkelmdcpinaaW.PrintLast Go.Proofs.YtmglkelmdcpinaaW.PrintMore
attribute [local go_sem] max2_int min2_int max_two min_two max_three min_three max_four min_four   -- for this text's walks alone
set_option linter.unusedVariables false
set_option linter.unusedSimpArgs false

/-! ### roots_Root: function 36 -/
def roots_Root.f (a0 : Int) (a1 : Int) (a2 : Int) : Option (Int × Int × Int) := (roots_may.f a0 a2).bind fun t102 => (if t102 = true then ((roots_root.f a0 a1 a2).bind fun bt103 => (some (bt103.1, bt103.2, 0))) else (some (0, 0, 1)))
set_option maxHeartbeats 8000000 in
set_option maxRecDepth 100000 in
theorem roots_Root.calls (a0 : Int) (a1 : Int) (a2 : Int) (r1 : Int) (r2 : Int) (r3 : Int) (w : World) (h : roots_Root.f a0 a1 a2 = some (r1, r2, r3)) :
    Calls Try.prog 36 #[.int .i64 a0, .int .i64 a1, .int .i64 a2] w fun e w' => e = .returned (.tuple #[.agg #[.int .i64 r1, .int .i64 r2], .int .i64 r3]) ∧ Below w.heap.size w w' := by
  have hu43 := Try.underlying43
  have HB := Aside0.mk (Below.refl w.heap.size w)
  have H : ((roots_may.f a0 a2).bind fun t102 => (if t102 = true then ((roots_root.f a0 a1 a2).bind fun bt103 => (some (bt103.1, bt103.2, 0))) else (some (0, 0, 1)))) = some (r1, r2, r3) := h
  clear h
  replace H := Option.bind_eq_some_iff.mp H
  obtain ⟨t102, A40, H⟩ := H
  replace H : (if t102 = true then ((roots_root.f a0 a1 a2).bind fun bt103 => (some (bt103.1, bt103.2, 0))) else (some (0, 0, 1))) = some (r1, r2, r3) := H
  have A4 := Aside0.mk A40
  clear A40
  by_cases c5 : t102 = true
  · subst c5
    have H1 : ((roots_root.f a0 a1 a2).bind fun bt103 => (some (bt103.1, bt103.2, 0))) = some (r1, r2, r3) := by rw [if_pos rfl] at H; exact H
    clear H
    have H := H1
    clear H1
    replace H := Option.bind_eq_some_iff.mp H
    obtain ⟨⟨t103, t104⟩, A60, H⟩ := H
    replace H : (some (t103, t104, 0)) = some (r1, r2, r3) := H
    have A6 := Aside0.mk A60
    clear A60
    simp only [Option.some.injEq, Prod.mk.injEq] at H
    obtain ⟨rfl, rfl, rfl⟩ := H
    go_enter Try.func36, Try.ntmps36
    go_wp2_with (first | ((with_reducible refine gate_dst (N := 6) rfl ?_); refine box_event ?hg (N := 6) ?hd (cs := #[.int .i64 0, .int .i64 0]) (t := 43) ?hr ?_; (case hd => rfl); (case hg => rfl); (case hr => first | (go_simp; done) | (go_simp; rfl)); intro gb101 hg w7 hbox hb; have n0_ := Aside0.mk (below_step (by repeat (first | (with_reducible first | exact HB.out | apply below_alloc | apply pw_below_drewN | apply below_drew1) | exact HB.out)) hb); have n1_ := Aside0.mk (hbox); have n2_ := Aside0.mk ((by rw [hg]; exact (below_size (by repeat (first | (with_reducible first | exact HB.out | apply below_alloc | apply pw_below_drewN | apply below_drew1) | exact HB.out))) : w.heap.size ≤ gb101)); have n3_ := Aside0.mk ((by rw [hg]; exact (below_size (by repeat (first | (with_reducible first | exact HB.out | apply below_alloc | apply pw_below_drewN | apply below_drew1) | exact HB.out))) : w.heap.size ≤ gb101)); clear HB; have HB := n0_; have BK101 := n1_; have GW101 := n2_; have GE101 := n3_; clear n0_ n1_ n2_ n3_; clear hb hbox hg) | ((with_reducible refine gate_callee (f := 101) rfl ?_); refine goesL_ (some 10) rfl rfl Try.func101 (by kernel_rfl) rfl #[.int .i64 a0, .int .i64 a2] rfl (by (try simp only [List.map_toArray, List.map_cons, List.map_nil]); first | done | rfl | (simp only [List.length_drop, List.length_take]; rfl)) ?_; (with_reducible refine (roots_may.calls a0 a2 true _ A4.out).mono ?_); rintro e w8 ⟨rfl, hb⟩; refine ⟨_, rfl, ?_⟩; have n0_ := Aside0.mk (blk_below (g := gb101) (o := .cells #[.int .i64 0, .int .i64 0] 43 (0, 0)) (by (with_reducible repeat (first | refine blk_drewN ?_ _ | refine blk_drew ?_ | refine blk_alloc ?_ _)); exact BK101.out) hb); have n1_ := Aside0.mk (below_step (by repeat (first | (with_reducible first | exact HB.out | apply below_alloc | apply pw_below_drewN | apply below_drew1 | refine below_set ?_ GE101.out) | exact HB.out)) hb); clear BK101; clear HB; have BK101 := n0_; have HB := n1_; clear n0_ n1_; (try clear hb); (try clear hb2); (try clear hk); (try clear hi)) | ((with_reducible refine gate_callee (f := 102) rfl ?_); refine goesL_ (some 16) rfl rfl Try.func102 (by kernel_rfl) rfl #[.int .i64 a0, .int .i64 a1, .int .i64 a2] rfl (by (try simp only [List.map_toArray, List.map_cons, List.map_nil]); first | done | rfl | (simp only [List.length_drop, List.length_take]; rfl)) ?_; (with_reducible refine (roots_root.calls a0 a1 a2 t103 t104 _ A6.out).mono ?_); rintro e w9 ⟨rfl, hb⟩; refine ⟨_, rfl, ?_⟩; have n0_ := Aside0.mk (blk_below (g := gb101) (o := .cells #[.int .i64 0, .int .i64 0] 43 (0, 0)) (by (with_reducible repeat (first | refine blk_drewN ?_ _ | refine blk_drew ?_ | refine blk_alloc ?_ _)); exact BK101.out) hb); have n1_ := Aside0.mk (below_step (by repeat (first | (with_reducible first | exact HB.out | apply below_alloc | apply pw_below_drewN | apply below_drew1 | refine below_set ?_ GE101.out) | exact HB.out)) hb); clear BK101; clear HB; have BK101 := n0_; have HB := n1_; clear n0_ n1_; (try clear hb); (try clear hb2); (try clear hk); (try clear hi); have hcz10_0 : w9.cell? ⟨gb101, 0, none⟩ = some (.int .i64 0) := (blk_cell BK101.out 0).trans rfl; have hcz10_1 : w9.cell? ⟨gb101, 1, none⟩ = some (.int .i64 0) := (blk_cell BK101.out 1).trans rfl; have hfz10_0 := blk_frozen BK101.out 0; have hfz10_1 := blk_frozen BK101.out 1))
    refine bodyPost_ret (results_ct rfl _ _ gb101 43 #[.int .i64 t103, .int .i64 t104] (0, 0) _ rfl (by (with_reducible repeat (first | refine blk_drewN ?_ _ | refine blk_drew ?_ | refine blk_alloc ?_ _)); refine blk_put (cs := #[.int .i64 t103, .int .i64 0]) ?_ 1 _ rfl; (with_reducible repeat (first | refine blk_drewN ?_ _ | refine blk_drew ?_ | refine blk_alloc ?_ _)); refine blk_put (cs := #[.int .i64 0, .int .i64 0]) ?_ 0 _ rfl; (with_reducible repeat (first | refine blk_drewN ?_ _ | refine blk_drew ?_ | refine blk_alloc ?_ _)); exact BK101.out) Try.underlying43 rfl (by kernel_rfl)) rfl ?_
    exact ⟨by first | rfl | (simp [errW_none, errW_some] <;> rfl) | (simp [*, errW_none, errW_some] <;> rfl), by repeat (first | (with_reducible first | exact HB.out | apply below_alloc | apply pw_below_drewN | apply below_drew1 | refine below_set ?_ GE101.out) | exact HB.out)⟩
  · replace c5 := Bool.eq_false_iff.mpr c5
    subst c5
    have H1 : (some (0, 0, 1)) = some (r1, r2, r3) := by rw [if_neg (show ¬ (false = true) by decide)] at H; exact H
    clear H
    have H := H1
    clear H1
    simp only [Option.some.injEq, Prod.mk.injEq] at H
    obtain ⟨rfl, rfl, rfl⟩ := H
    go_enter Try.func36, Try.ntmps36
    go_wp2_with (first | ((with_reducible refine gate_dst (N := 6) rfl ?_); refine box_event ?hg (N := 6) ?hd (cs := #[.int .i64 0, .int .i64 0]) (t := 43) ?hr ?_; (case hd => rfl); (case hg => rfl); (case hr => first | (go_simp; done) | (go_simp; rfl)); intro gb101 hg w11 hbox hb; have n0_ := Aside0.mk (below_step (by repeat (first | (with_reducible first | exact HB.out | apply below_alloc | apply pw_below_drewN | apply below_drew1) | exact HB.out)) hb); have n1_ := Aside0.mk (hbox); have n2_ := Aside0.mk ((by rw [hg]; exact (below_size (by repeat (first | (with_reducible first | exact HB.out | apply below_alloc | apply pw_below_drewN | apply below_drew1) | exact HB.out))) : w.heap.size ≤ gb101)); have n3_ := Aside0.mk ((by rw [hg]; exact (below_size (by repeat (first | (with_reducible first | exact HB.out | apply below_alloc | apply pw_below_drewN | apply below_drew1) | exact HB.out))) : w.heap.size ≤ gb101)); clear HB; have HB := n0_; have BK101 := n1_; have GW101 := n2_; have GE101 := n3_; clear n0_ n1_ n2_ n3_; clear hb hbox hg) | ((with_reducible refine gate_callee (f := 101) rfl ?_); refine goesL_ (some 10) rfl rfl Try.func101 (by kernel_rfl) rfl #[.int .i64 a0, .int .i64 a2] rfl (by (try simp only [List.map_toArray, List.map_cons, List.map_nil]); first | done | rfl | (simp only [List.length_drop, List.length_take]; rfl)) ?_; (with_reducible refine (roots_may.calls a0 a2 false _ A4.out).mono ?_); rintro e w12 ⟨rfl, hb⟩; refine ⟨_, rfl, ?_⟩; have n0_ := Aside0.mk (blk_below (g := gb101) (o := .cells #[.int .i64 0, .int .i64 0] 43 (0, 0)) (by (with_reducible repeat (first | refine blk_drewN ?_ _ | refine blk_drew ?_ | refine blk_alloc ?_ _)); exact BK101.out) hb); have n1_ := Aside0.mk (below_step (by repeat (first | (with_reducible first | exact HB.out | apply below_alloc | apply pw_below_drewN | apply below_drew1 | refine below_set ?_ GE101.out) | exact HB.out)) hb); clear BK101; clear HB; have BK101 := n0_; have HB := n1_; clear n0_ n1_; (try clear hb); (try clear hb2); (try clear hk); (try clear hi); have hcz13_0 : w12.cell? ⟨gb101, 0, none⟩ = some (.int .i64 0) := (blk_cell BK101.out 0).trans rfl; have hcz13_1 : w12.cell? ⟨gb101, 1, none⟩ = some (.int .i64 0) := (blk_cell BK101.out 1).trans rfl; have hfz13_0 := blk_frozen BK101.out 0; have hfz13_1 := blk_frozen BK101.out 1))
    refine bodyPost_ret (results_ct rfl _ _ gb101 43 #[.int .i64 0, .int .i64 0] (0, 0) _ rfl (by (with_reducible repeat (first | refine blk_drewN ?_ _ | refine blk_drew ?_ | refine blk_alloc ?_ _)); refine blk_put (cs := #[.int .i64 0, .int .i64 0]) ?_ 1 _ rfl; (with_reducible repeat (first | refine blk_drewN ?_ _ | refine blk_drew ?_ | refine blk_alloc ?_ _)); refine blk_put (cs := #[.int .i64 0, .int .i64 0]) ?_ 0 _ rfl; (with_reducible repeat (first | refine blk_drewN ?_ _ | refine blk_drew ?_ | refine blk_alloc ?_ _)); exact BK101.out) Try.underlying43 rfl (by kernel_rfl)) rfl ?_
    exact ⟨by first | rfl | (simp [errW_none, errW_some] <;> rfl) | (simp [*, errW_none, errW_some] <;> rfl), by repeat (first | (with_reducible first | exact HB.out | apply below_alloc | apply pw_below_drewN | apply below_drew1 | refine below_set ?_ GE101.out) | exact HB.out)⟩

end Go.Proofs.Ytmglkelmdcpinaa.G
/- round.Shift's value, as the plain rounded quotient; and when it is refused. Conditions: a number of 64 bits, a shift of 1 to 62, a mode of 0 to 2. -/
namespace Go.Proofs.Ytmglkelmdcpinaa.G
open Go.RowKit Go.Proofs.Ytmglkelmdcpinaa.M

theorem q_eq (x s m : Int) (hx0 : -9223372036854775808 ≤ x) (hx1 : x < 9223372036854775808) (h1 : 1 ≤ s) (h2 : s ≤ 62) (hm : m = 0 ∨ m = 1 ∨ m = 2) : round_Shift.q x s m = rsh x s.toNat m := by
  obtain ⟨n, rfl⟩ := Int.eq_ofNat_of_zero_le (show 0 ≤ s by omega)
  simp only [Int.toNat_natCast]
  have hn1 : 1 ≤ n := by omega
  have hn2 : n ≤ 62 := by omega
  have hp := pow_pos n
  have hle := pow_le (s := n) (t := 62) hn2
  have h62 : (2 : Int) ^ 62 = 4611686018427387904 := by decide
  have hp' := pow_pos (n - 1)
  have hle' := pow_le (s := n - 1) (t := 62) (by omega)
  have two : (2 : Int) ≤ 2 ^ n := by have := pow_le (s := 1) (t := n) hn1; simpa using this
  have w1 : wrap64 (2 ^ n) = 2 ^ n := wrap64_id (by omega) (by omega)
  have w2 : wrap64 (wrap64 (2 ^ n) - 1) = 2 ^ n - 1 := by rw [w1]; exact wrap64_id (by omega) (by omega)
  have w3 : wrap64 (2 ^ (n - 1)) = 2 ^ (n - 1) := wrap64_id (by omega) (by omega)
  have hd := Int.mul_ediv_add_emod x (2 ^ n)
  have r0 : (0 : Int) ≤ x % 2 ^ n := Int.emod_nonneg _ (by omega)
  have r1 : x % 2 ^ n < 2 ^ n := Int.emod_lt_of_pos _ hp
  have b0 : -4611686018427387904 ≤ x / 2 ^ n := by
    apply Int.le_ediv_of_mul_le hp
    have : (-4611686018427387904 : Int) * 2 ^ n ≤ -4611686018427387904 * 2 := by omega
    omega
  have b1 : x / 2 ^ n < 4611686018427387904 := by
    apply Int.ediv_lt_of_lt_mul hp
    omega
  have w4 : wrap64 (x / 2 ^ n + 1) = x / 2 ^ n + 1 := wrap64_id (by omega) (by omega)
  unfold round_Shift.q round_Shift.up rsh
  rw [if_neg (show ¬ n = 0 by omega)]
  simp only [Int.toNat_natCast]
  rw [w2, w3, w4, and_mask _ _ hn2, and_one]
  rcases hm with rfl | rfl | rfl
  · simp
  · simp only [round_modes.u2]
    simp
  · simp only [round_modes.u3]
    simp

theorem shift_some (x s m : Int) (hx0 : -9223372036854775808 ≤ x) (hx1 : x < 9223372036854775808) (h1 : 0 ≤ s) (h2 : s ≤ 62) (hm : m = 0 ∨ m = 1 ∨ m = 2) : round_Shift.f x s m = some (rsh x s.toNat m, 0) := by
  unfold round_Shift.f
  rw [if_neg (by omega)]
  by_cases h : s = 0
  · subst h
    simp [rsh]
  · rw [if_neg h, q_eq x s m hx0 hx1 (by omega) h2 hm]
theorem shift_none (x s m : Int) (h : s < 0 ∨ 62 < s ∨ m < 0 ∨ 3 ≤ m) : round_Shift.f x s m = some (0, 1) := by
  unfold round_Shift.f
  rw [if_pos h]
end Go.Proofs.Ytmglkelmdcpinaa.G
/- A root of 1, as a plain value: the point of a part of a quarter turn (kernel-reckoned at the lengths 4 to 64), shifted, turned, conjugate. Conditions: a length's log of 2 to 6, bits of 0 to 40. -/
namespace Go.Proofs.Ytmglkelmdcpinaa.G
open Go.RowKit Go.Proofs.YtmglkelmdcpinaaW.PrintWords Go.Proofs.Ytmglkelmdcpinaa.M
set_option linter.unusedVariables false

/-- The point of a part u of a quarter turn, at a length's log. -/
def pointV (L : Nat) (u : Int) : Int × Int := (roots_point.f L u).getD (0, 0)
def pointOk (L : Nat) (u : Nat) : Bool := match roots_point.f L u with
  | some p => decide (0 ≤ p.1) && decide (p.1 ≤ 72057594037927940) && decide (0 ≤ p.2) && decide (p.2 ≤ 72057594037927940)
  | none => false
theorem point_all : ([2, 3, 4, 5, 6].all fun L => (List.range (2 ^ L)).all fun u => pointOk L u) = true := by decide +kernel
theorem point_is (L u : Nat) (h2 : 2 ≤ L) (h6 : L ≤ 6) (hu : u < 2 ^ L) : roots_point.f L u = some (pointV L u) ∧ 0 ≤ (pointV L u).1 ∧ (pointV L u).1 ≤ 72057594037927940 ∧ 0 ≤ (pointV L u).2 ∧ (pointV L u).2 ≤ 72057594037927940 := by
  have h := point_all
  rw [List.all_eq_true] at h
  have h1 := h L (by rcases (by omega : L = 2 ∨ L = 3 ∨ L = 4 ∨ L = 5 ∨ L = 6) with rfl | rfl | rfl | rfl | rfl <;> simp)
  rw [List.all_eq_true] at h1
  have h3 := h1 u (List.mem_range.2 hu)
  unfold pointOk at h3
  unfold pointV
  cases hp : roots_point.f L u with
  | none => rw [hp] at h3; cases h3
  | some p =>
    rw [hp] at h3
    simp only [Bool.and_eq_true, decide_eq_true_eq] at h3
    simp only [Option.getD_some]
    exact ⟨trivial, by omega, by omega, by omega, by omega⟩

/-- A root's parts, of a remainder of a place. -/
def shiftV (L : Nat) (r : Int) (B : Nat) : Int × Int := (rsh (pointV L (4 * r % 2 ^ L)).1 (56 - B) 1, rsh (pointV L (4 * r % 2 ^ L)).2 (56 - B) 1)
def rootV (L : Nat) (r : Int) (B : Nat) : Int × Int :=
  ((turnIt (4 * r / 2 ^ L).toNat (shiftV L r B).1 (shiftV L r B).2).1, wrap64 (-(turnIt (4 * r / 2 ^ L).toNat (shiftV L r B).1 (shiftV L r B).2).2))

theorem rsh_small (x : Int) (s : Nat) (m : Int) (h0 : 0 ≤ x) (h1 : x ≤ 72057594037927940) : 0 ≤ rsh x s m ∧ rsh x s m ≤ 72057594037927940 := by
  have hp := pow_pos s
  have hq0 : 0 ≤ x / 2 ^ s := Int.ediv_nonneg h0 (by omega)
  have hq1 : x / 2 ^ s ≤ x := Int.ediv_le_self _ h0
  unfold rsh
  split
  · omega
  rename_i hs
  have hq2 : x / 2 ^ s ≤ x / 2 := by
    have hh : (2 : Int) ≤ 2 ^ s := by
      have := pow_le (s := 1) (t := s) (by omega)
      simpa using this
    exact Int.le_ediv_of_mul_le (by decide) (Int.le_trans (Int.mul_le_mul_of_nonneg_left hh hq0) (Int.ediv_mul_le x (by omega)))
  repeat' split
  all_goals omega

theorem shiftV_bound (L : Nat) (r : Int) (B : Nat) (h2 : 2 ≤ L) (h6 : L ≤ 6) : 0 ≤ (shiftV L r B).1 ∧ (shiftV L r B).1 ≤ 72057594037927940 ∧ 0 ≤ (shiftV L r B).2 ∧ (shiftV L r B).2 ≤ 72057594037927940 := by
  have hp := pow_pos L
  obtain ⟨u, hu⟩ : ∃ u : Nat, 4 * r % 2 ^ L = u := ⟨(4 * r % 2 ^ L).toNat, (Int.toNat_of_nonneg (Int.emod_nonneg _ (by omega))).symm⟩
  have hlt : u < 2 ^ L := by
    have := Int.emod_lt_of_pos (4 * r) hp
    rw [hu] at this
    exact_mod_cast this
  have h := point_is L u h2 h6 hlt
  unfold shiftV
  rw [hu]
  have := rsh_small (pointV L u).1 (56 - B) 1 h.2.1 h.2.2.1
  have := rsh_small (pointV L u).2 (56 - B) 1 h.2.2.2.1 h.2.2.2.2
  omega

theorem turn_small (c : Nat) (x y : Int) (hc : c ≤ 3) (h0 : 0 ≤ x) (h1 : x ≤ 72057594037927940) (h2 : 0 ≤ y) (h3 : y ≤ 72057594037927940) :
    -72057594037927940 ≤ (turnIt c x y).1 ∧ (turnIt c x y).1 ≤ 72057594037927940 ∧ -72057594037927940 ≤ (turnIt c x y).2 ∧ (turnIt c x y).2 ≤ 72057594037927940 := by
  rcases (by omega : c = 0 ∨ c = 1 ∨ c = 2 ∨ c = 3) with rfl | rfl | rfl | rfl
  · simp only [turnIt]; omega
  · simp only [turnIt]; rw [wrap64_id (by omega) (by omega)]; omega
  · simp only [turnIt]; rw [wrap64_id (x := -y) (by omega) (by omega), wrap64_id (by omega) (by omega)]; omega
  · simp only [turnIt]; rw [wrap64_id (x := -y) (by omega) (by omega), wrap64_id (x := -x) (by omega) (by omega), wrap64_id (by omega) (by omega)]; omega

theorem within_small (x y : Int) (h : -72057594037927940 ≤ x ∧ x ≤ 72057594037927940 ∧ -72057594037927940 ≤ y ∧ y ≤ 72057594037927940) : within 2305843009213693952 [⟨x, y⟩] = true := by
  unfold within
  simp only [List.all_cons, List.all_nil, Bool.and_true, Bool.and_eq_true, decide_eq_true_eq, mx, mn]
  omega

theorem root_is (L : Nat) (k : Int) (B : Nat) (h2 : 2 ≤ L) (h6 : L ≤ 6) (hB : B ≤ 40) : roots_root.f L k B = some (rootV L (k % 2 ^ L) B) := by
  have hp := pow_pos L
  have h64 := pow_le h6
  have hc : (2 : Int) ^ 6 = 64 := by decide
  have hr0 : 0 ≤ k % 2 ^ L := Int.emod_nonneg _ (by omega)
  have hr1 : k % 2 ^ L < 2 ^ L := Int.emod_lt_of_pos _ hp
  have hs : wrap64 (shl .i64 1 L - 1) = 2 ^ L - 1 := by
    rcases (by omega : L = 2 ∨ L = 3 ∨ L = 4 ∨ L = 5 ∨ L = 6) with rfl | rfl | rfl | rfl | rfl <;> decide +kernel
  have hsr : ∀ x : Int, shr .i64 x L = x / 2 ^ L := by
    intro x
    rcases (by omega : L = 2 ∨ L = 3 ∨ L = 4 ∨ L = 5 ∨ L = 6) with rfl | rfl | rfl | rfl | rfl <;> rfl
  unfold roots_root.f
  rw [if_pos (by omega), hs, and_mask k L (by omega)]
  generalize hk : k % 2 ^ L = r at hr0 hr1
  rw [wrap64_id (x := 4 * r) (by omega) (by omega), and_mask _ L (by omega), hsr]
  obtain ⟨u, hu⟩ : ∃ u : Nat, 4 * r % 2 ^ L = u := ⟨(4 * r % 2 ^ L).toNat, (Int.toNat_of_nonneg (Int.emod_nonneg _ (by omega))).symm⟩
  have hlt : u < 2 ^ L := by
    have := Int.emod_lt_of_pos (4 * r) hp
    rw [hu] at this
    exact_mod_cast this
  have hP := point_is L u h2 h6 hlt
  rw [hu, hP.1]
  simp only [Option.bind_some]
  have hw : wrap64 (56 - (B : Int)) = ((56 - B : Nat) : Int) := by rw [wrap64_id (by omega) (by omega)]; omega
  have hS : cx_Shift.f (pointV L u).1 (pointV L u).2 (wrap64 (56 - (B : Int))) 1 = some ((shiftV L r B).1, (shiftV L r B).2, 0) := by
    unfold cx_Shift.f shiftV
    rw [hw, shift_some _ _ _ (by omega) (by omega) (by omega) (by omega) (by simp), hu]
    simp only [Option.bind_some, if_true, Int.toNat_natCast]
    rw [shift_some _ _ _ (by omega) (by omega) (by omega) (by omega) (by simp)]
    simp
  rw [hS]
  simp only [Option.bind_some]
  have hb := shiftV_bound L r B h2 h6
  have hq0 : 0 ≤ 4 * r / 2 ^ L := Int.ediv_nonneg (by omega) (by omega)
  have hq1 : 4 * r / 2 ^ L < 4 := Int.ediv_lt_of_lt_mul hp (by omega)
  have hcc : cx_Turn.c (4 * r / 2 ^ L) = (4 * r / 2 ^ L).toNat := by unfold cx_Turn.c; congr 1; omega
  unfold cx_Turn.f
  rw [if_pos (within_small _ _ (by omega)), hcc]
  have ht := turn_small (4 * r / 2 ^ L).toNat (shiftV L r B).1 (shiftV L r B).2 (by omega) hb.1 hb.2.1 hb.2.2.1 hb.2.2.2
  simp only [Option.bind_some]
  unfold cx_Conj.f
  rw [if_pos (within_small _ _ ht)]
  rfl
end Go.Proofs.Ytmglkelmdcpinaa.G
/- The plain facts of layer 16: tables of roots, the opposite place, why numbers may not be, a bin's sums. Conditions: each theorem's own. Parts are L09's and L12's own lines (mk16.py). -/
namespace Go.Proofs.Ytmglkelmdcpinaa.G
open Go.RowKit Go.Proofs.YtmglkelmdcpinaaW.PrintWords Go.Proofs.Ytmglkelmdcpinaa.M
set_option linter.unusedVariables false
set_option linter.unusedSimpArgs false
def mayB (L B : Int) : Bool := decide (2 ≤ L ∧ L ≤ 6 ∧ 0 ≤ B ∧ B ≤ 40)
theorem may_is (L B : Int) : roots_may.f L B = some (mayB L B) := by
  unfold roots_may.f mayB
  by_cases h : 0 ≤ B ∧ B ≤ 62
  · rw [shift_some 0 B 1 (by decide) (by decide) h.1 h.2 (by simp)]
    simp only [Option.bind_some, if_true]
    by_cases h1 : L ≥ 2
    · rw [if_pos h1]
      by_cases h2 : L ≤ 6
      · rw [if_pos h2]; congr 1; apply decide_eq_decide.2; omega
      · rw [if_neg h2]; congr 1; symm; apply decide_eq_false; omega
    · rw [if_neg h1]; congr 1; symm; apply decide_eq_false; omega
  · rw [shift_none 0 B 1 (by omega)]
    simp only [Option.bind_some]
    by_cases h1 : L ≥ 2
    · rw [if_pos h1]
      by_cases h2 : L ≤ 6
      · rw [if_pos h2, if_neg (by decide)]; congr 1; symm; apply decide_eq_false; omega
      · rw [if_neg h2]; congr 1; symm; apply decide_eq_false; omega
    · rw [if_neg h1]; congr 1; symm; apply decide_eq_false; omega
/-- A table of roots, as the document has it. -/
def tabV (L B : Nat) (k : Nat) : S43 := ⟨(rootV L k B).1, (rootV L k B).2⟩
def tabR (L B : Nat) : List S43 := (List.range (2 ^ L)).map (tabV L B)
theorem small_mod (L k : Nat) (hk : k < 2 ^ L) : (k : Int) % 2 ^ L = k := by
  have : (k : Int) < 2 ^ L := by exact_mod_cast hk
  exact Int.emod_eq_of_lt (by omega) this
theorem table_is (L B : Int) : roots_Table.f L B = some (if mayB L B = true then (tabR L.toNat B.toNat, 0) else ([], 1)) := by
  unfold roots_Table.f
  rw [may_is]
  simp only [Option.bind_some]
  by_cases h : mayB L B = true
  · rw [if_pos h, if_pos h]
    simp only [mayB, decide_eq_true_eq] at h
    obtain ⟨L, rfl⟩ : ∃ l : Nat, L = l := ⟨L.toNat, by omega⟩
    obtain ⟨B, rfl⟩ : ∃ b : Nat, B = b := ⟨B.toNat, by omega⟩
    simp only [Int.toNat_natCast]
    have hk : ∀ k : Nat, k < 2 ^ L → roots_root.f (L : Int) k B = some (rootV L k B) := by
      intro k hk
      rw [root_is L k B (by omega) (by omega) (by omega), small_mod L k hk]
    rw [if_pos ?_]
    · congr 2
      unfold tabR
      apply List.map_congr_left
      intro k hm
      have := hk k (List.mem_range.1 hm)
      unfold tabS roots_Table.at tabV
      rw [this]
      rfl
    · rw [List.all_eq_true]
      intro k hm
      rw [hk k (List.mem_range.1 hm)]
      rfl
  · rw [if_neg h, if_neg h]
/-- A part's point, turned by quarters, conjugate. -/
def plainT (c : Nat) (x y : Int) : Int × Int := match c with | 0 => (x, -y) | 1 => (-y, -x) | 2 => (-x, y) | _ => (y, x)
theorem rootV_plain (L : Nat) (r : Int) (B : Nat) (h2 : 2 ≤ L) (h6 : L ≤ 6) (h0 : 0 ≤ r) (h1 : r < 2 ^ L) :
    rootV L r B = plainT (4 * r / 2 ^ L).toNat (shiftV L r B).1 (shiftV L r B).2 ∧ 0 ≤ 4 * r / 2 ^ L ∧ 4 * r / 2 ^ L < 4 := by
  have hb := shiftV_bound L r B h2 h6
  have hp := Go.Proofs.Ytmglkelmdcpinaa.M.pow_pos L
  have hq0 : 0 ≤ 4 * r / 2 ^ L := Int.ediv_nonneg (by omega) (by omega)
  have hq1 : 4 * r / 2 ^ L < 4 := Int.ediv_lt_of_lt_mul hp (by omega)
  refine ⟨?_, hq0, hq1⟩
  unfold rootV
  generalize (shiftV L r B).1 = x at hb ⊢
  generalize (shiftV L r B).2 = y at hb ⊢
  generalize 4 * r / 2 ^ L = c at hq0 hq1 ⊢
  have w0 : wrap64 (-x) = -x := wrap64_id (by omega) (by omega)
  have w1 : wrap64 (-y) = -y := wrap64_id (by omega) (by omega)
  have w2 : wrap64 (-(-x)) = x := by rw [Int.neg_neg]; exact wrap64_id (by omega) (by omega)
  have w3 : wrap64 (-(-y)) = y := by rw [Int.neg_neg]; exact wrap64_id (by omega) (by omega)
  rcases (by omega : c = 0 ∨ c = 1 ∨ c = 2 ∨ c = 3) with rfl | rfl | rfl | rfl
  · simp only [Int.toNat_zero, turnIt, plainT, w1]
  · simp only [show (1 : Int).toNat = 1 from rfl, turnIt, plainT, w0, w1]
  · simp only [show (2 : Int).toNat = 2 from rfl, turnIt, plainT, w0, w1, w2, w3]
  · simp only [show (3 : Int).toNat = 3 from rfl, turnIt, plainT, w0, w1, w2, w3]
theorem one_all : ([2, 3, 4, 5, 6].all fun L => (List.range 41).all fun B => decide (rootV L 0 B = ((2 : Int) ^ B, 0))) = true := by decide +kernel
def pointL (L u : Nat) : Int × Int := pointV L (u : Int)
theorem swap_all : ([2, 3, 4, 5, 6].all fun L => (List.range (2 ^ L)).all fun u => u == 0 || decide (pointL L (2 ^ L - u) = ((pointL L u).2, (pointL L u).1))) = true := by decide +kernel
theorem one_is (L B : Nat) (h2 : 2 ≤ L) (h6 : L ≤ 6) (hB : B ≤ 40) : rootV L 0 B = ((2 : Int) ^ B, 0) := by
  have h := one_all
  rw [List.all_eq_true] at h
  have h1 := h L (by rcases (by omega : L = 2 ∨ L = 3 ∨ L = 4 ∨ L = 5 ∨ L = 6) with rfl | rfl | rfl | rfl | rfl <;> simp)
  rw [List.all_eq_true] at h1
  exact of_decide_eq_true (h1 B (List.mem_range.2 (by omega)))
theorem swap_is (L u : Nat) (h2 : 2 ≤ L) (h6 : L ≤ 6) (h0 : 0 < u) (hu : u < 2 ^ L) : pointL L (2 ^ L - u) = ((pointL L u).2, (pointL L u).1) := by
  have h := swap_all
  rw [List.all_eq_true] at h
  have h1 := h L (by rcases (by omega : L = 2 ∨ L = 3 ∨ L = 4 ∨ L = 5 ∨ L = 6) with rfl | rfl | rfl | rfl | rfl <;> simp)
  rw [List.all_eq_true] at h1
  have h3 := h1 u (List.mem_range.2 hu)
  rw [Bool.or_eq_true] at h3
  rcases h3 with h3 | h3
  · have := beq_iff_eq.1 h3
    omega
  · exact of_decide_eq_true h3
theorem shift_at (L : Nat) (r : Int) (B u : Nat) (h : 4 * r % 2 ^ L = u) : shiftV L r B = (rsh (pointL L u).1 (56 - B) 1, rsh (pointL L u).2 (56 - B) 1) := by
  unfold shiftV pointL
  rw [h]
theorem shift_zero (L B : Nat) (h2 : 2 ≤ L) (h6 : L ≤ 6) (hB : B ≤ 40) : rsh (pointL L 0).1 (56 - B) 1 = 2 ^ B ∧ rsh (pointL L 0).2 (56 - B) 1 = 0 := by
  have hp := Go.Proofs.Ytmglkelmdcpinaa.M.pow_pos L
  have h := (rootV_plain L 0 B h2 h6 (by omega) hp).1
  rw [one_is L B h2 h6 hB, shift_at L 0 B 0 (by simp)] at h
  simp only [Int.mul_zero, Int.zero_ediv, Int.toNat_zero, plainT, Prod.mk.injEq] at h
  omega
/-- The opposite place's root is the conjugate. -/
theorem back_is (L : Nat) (r : Int) (B : Nat) (h2 : 2 ≤ L) (h6 : L ≤ 6) (hB : B ≤ 40) (h0 : 0 ≤ r) (h1 : r < 2 ^ L) :
    rootV L ((-r) % 2 ^ L) B = ((rootV L r B).1, -(rootV L r B).2) := by
  have hp := Go.Proofs.Ytmglkelmdcpinaa.M.pow_pos L
  by_cases hr : r = 0
  · subst hr
    rw [show (-0 : Int) % 2 ^ L = 0 by simp, one_is L B h2 h6 hB]
    simp
  have hr' : (-r) % 2 ^ L = 2 ^ L - r := by
    rw [← Int.add_emod_right, Int.emod_eq_of_lt (by omega) (by omega)]
    omega
  rw [hr']
  obtain ⟨e1, c0, c1⟩ := rootV_plain L r B h2 h6 h0 h1
  obtain ⟨e2, d0, d1⟩ := rootV_plain L (2 ^ L - r) B h2 h6 (by omega) (by omega)
  rw [e1, e2]
  obtain ⟨u, hu⟩ : ∃ u : Nat, 4 * r % 2 ^ L = u := ⟨(4 * r % 2 ^ L).toNat, (Int.toNat_of_nonneg (Int.emod_nonneg _ (by omega))).symm⟩
  have hlt : u < 2 ^ L := by
    have := Int.emod_lt_of_pos (4 * r) hp
    rw [hu] at this
    exact_mod_cast this
  have hpn : (2 : Int) ^ L = ((2 ^ L : Nat) : Int) := by norm_cast
  have hdm := Int.mul_ediv_add_emod (4 * r) (2 ^ L)
  have hdm2 := Int.mul_ediv_add_emod (4 * (2 ^ L - r)) (2 ^ L)
  have hm0 : 0 ≤ 4 * (2 ^ L - r) % 2 ^ L := Int.emod_nonneg _ (by omega)
  have hm1 : 4 * (2 ^ L - r) % 2 ^ L < 2 ^ L := Int.emod_lt_of_pos _ hp
  rw [shift_at L r B u hu]
  rw [hu] at hdm
  by_cases hu0 : u = 0
  · subst hu0
    have hz := shift_zero L B h2 h6 hB
    have hc : 4 * (2 ^ L - r) / 2 ^ L = 4 - 4 * r / 2 ^ L ∧ 4 * (2 ^ L - r) % 2 ^ L = 0 := by
      have : 4 * (2 ^ L - r) = 0 + 2 ^ L * (4 - 4 * r / 2 ^ L) := by rw [Int.mul_sub (2 ^ L)]; omega
      rw [this, Int.add_mul_ediv_left _ _ (by omega), Int.add_mul_emod_self_left]
      simp
    rw [shift_at L (2 ^ L - r) B 0 (by rw [hc.2]; rfl), hz.1, hz.2]
    rw [hc.1] at d0 d1 ⊢
    generalize 4 * r / 2 ^ L = c at *
    rcases (by omega : c = 1 ∨ c = 2 ∨ c = 3) with rfl | rfl | rfl
    · simp [plainT]
    · simp [plainT]
    · simp [plainT]
  · have hc : 4 * (2 ^ L - r) / 2 ^ L = 3 - 4 * r / 2 ^ L ∧ 4 * (2 ^ L - r) % 2 ^ L = 2 ^ L - u := by
      have : 4 * (2 ^ L - r) = (2 ^ L - u) + 2 ^ L * (3 - 4 * r / 2 ^ L) := by rw [Int.mul_sub (2 ^ L)]; omega
      rw [this, Int.add_mul_ediv_left _ _ (by omega), Int.add_mul_emod_self_left]
      rw [Int.ediv_eq_zero_of_lt (by omega) (by omega), Int.emod_eq_of_lt (by omega) (by omega)]
      simp
    rw [shift_at L (2 ^ L - r) B (2 ^ L - u) (by rw [hc.2]; omega), swap_is L u h2 h6 (by omega) hlt]
    rw [hc.1] at d0 d1 ⊢
    generalize 4 * r / 2 ^ L = c at *
    dsimp only
    rcases (by omega : c = 0 ∨ c = 1 ∨ c = 2 ∨ c = 3) with rfl | rfl | rfl | rfl
    · simp [plainT]
    · simp [plainT]
    · simp [plainT]
    · simp [plainT]
theorem root_small (L : Nat) (r : Int) (B : Nat) (h2 : 2 ≤ L) (h6 : L ≤ 6) (h0 : 0 ≤ r) (h1 : r < 2 ^ L) : -72057594037927940 ≤ (rootV L r B).1 ∧ (rootV L r B).1 ≤ 72057594037927940 ∧ -72057594037927940 ≤ (rootV L r B).2 ∧ (rootV L r B).2 ≤ 72057594037927940 := by
  obtain ⟨e1, c0, c1⟩ := rootV_plain L r B h2 h6 h0 h1
  have hb := shiftV_bound L r B h2 h6
  rw [e1]
  generalize 4 * r / 2 ^ L = c at *
  generalize (shiftV L r B).1 = x at *
  generalize (shiftV L r B).2 = y at *
  rcases (by omega : c = 0 ∨ c = 1 ∨ c = 2 ∨ c = 3) with rfl | rfl | rfl | rfl <;> simp [plainT] <;> omega
theorem step_on (i : Nat) (h : i < 9223372036854775807) : wrap64 ((i : Int) + 1) = ((i + 1 : Nat) : Int) := by unfold wrap64; omega
theorem greatest3 (k : Nat) (m a b : Int) (hk : 10 ≤ k) (hm0 : 0 ≤ m) (hm1 : m ≤ 2147483648) (ha0 : -2147483648 ≤ a) (ha1 : a ≤ 2147483648) (hb0 : -2147483648 ≤ b) (hb1 : b ≤ 2147483648) :
    ∃ g, scan_greatest.f k [m, a, b] = some g ∧ m ≤ g ∧ g ≤ 2147483648 ∧ -g ≤ a ∧ a ≤ g ∧ -g ≤ b ∧ b ≤ g := by
  obtain ⟨k, rfl⟩ : ∃ n, k = n + 4 := ⟨k - 4, by omega⟩
  have e1 : wrap64 (0 + 1) = 1 := by decide +kernel
  have e2 : wrap64 (1 + 1) = 2 := by decide +kernel
  have e3 : wrap64 (2 + 1) = 3 := by decide +kernel
  have r0 : rd [m, a, b] 0 = m := rfl
  have r1 : rd [m, a, b] 1 = a := rfl
  have r2 : rd [m, a, b] 2 = b := rfl
  have w0 : wrap64 (-m) = -m := wrap64_id (by omega) (by omega)
  have w1 : wrap64 (-a) = -a := wrap64_id (by omega) (by omega)
  have w2 : wrap64 (-b) = -b := wrap64_id (by omega) (by omega)
  refine ⟨mx (mx (mx (mx (mx (mx 0 m) (-m)) a) (-a)) b) (-b), ?_, ?_⟩
  · unfold scan_greatest.f
    rw [scan_greatest.l0, if_pos (by simp), if_pos (by decide), if_pos (by simp), r0, w0, e1]
    rw [scan_greatest.l0, if_pos (by simp), if_pos (by decide), if_pos (by simp), r1, w1, e2]
    rw [scan_greatest.l0, if_pos (by simp), if_pos (by decide), if_pos (by simp), r2, w2, e3]
    rw [scan_greatest.l0, if_neg (by simp)]
  · unfold mx
    repeat' split
    all_goals omega
/-- Is a number narrow. -/
def nar (a : S43) : Bool := decide (-2147483648 ≤ a.f0 ∧ a.f0 ≤ 2147483648 ∧ -2147483648 ≤ a.f1 ∧ a.f1 ≤ 2147483648)
def nearB (M : Int) (a : S43) : Prop := -M ≤ a.f0 ∧ a.f0 ≤ M ∧ -M ≤ a.f1 ∧ a.f1 ≤ M
theorem rd_get (l : List S43) (i : Nat) (h : i < l.length) : rd_T43 l (i : Int) = l[i] := by
  unfold rd_T43
  rw [Int.toNat_natCast, List.getD_eq_getElem?_getD, List.getElem?_eq_getElem h]
  rfl
theorem smax_run (x : List S43) (hl : x.length < 100000) : ∀ (j k i : Nat) (m : Int), i + j = x.length → j + 20 < k → 0 ≤ m → m ≤ 2147483648 →
    ((x.drop i).all nar = true → ∃ M, scan_Max.l0 k m x (x.length : Int) i = some (M, 0) ∧ m ≤ M ∧ M ≤ 2147483648 ∧ ∀ a ∈ x.drop i, nearB M a) ∧ ((x.drop i).all nar = false → scan_Max.l0 k m x (x.length : Int) i = some (0, 2)) := by
  intro j
  induction j with
  | zero =>
    intro k i m hi hk h0 h1
    obtain ⟨k, rfl⟩ : ∃ n, k = n + 1 := ⟨k - 1, by omega⟩
    obtain rfl : i = x.length := by omega
    refine ⟨fun _ => ⟨m, by rw [scan_Max.l0, if_neg (by omega)], Int.le_refl _, h1, by simp⟩, fun h => ?_⟩
    simp at h
  | succ j ih =>
    intro k i m hi hk h0 h1
    obtain ⟨k, rfl⟩ : ∃ n, k = n + 1 := ⟨k - 1, by omega⟩
    have hlt : i < x.length := by omega
    rw [List.drop_eq_getElem_cons hlt, List.all_cons]
    rw [scan_Max.l0, if_pos (by omega), if_pos (by omega), if_pos (by omega), rd_get x i hlt]
    by_cases hn : nar x[i] = true
    · have hn' := hn
      simp only [nar, decide_eq_true_eq] at hn'
      obtain ⟨g, hg, g1, g2, g3, g4, g5, g6⟩ := greatest3 k m x[i].f0 x[i].f1 (by omega) h0 h1 hn'.1 hn'.2.1 hn'.2.2.1 hn'.2.2.2
      obtain ⟨ih1, ih2⟩ := ih k (i + 1) g (by omega) (by omega) (by omega) g2
      rw [if_neg (by unfold mn; split <;> omega), if_neg (by unfold mx; split <;> omega), hg]
      simp only [Option.bind_some]
      rw [step_on i (by omega), hn, Bool.true_and]
      refine ⟨fun h => ?_, ih2⟩
      obtain ⟨M, hM, m1, m2, m3⟩ := ih1 h
      refine ⟨M, hM, by omega, m2, fun a ha => ?_⟩
      rcases List.mem_cons.1 ha with rfl | ha
      · exact ⟨by omega, by omega, by omega, by omega⟩
      · exact m3 a ha
    · have hn' : ¬ (-2147483648 ≤ x[i].f0 ∧ x[i].f0 ≤ 2147483648 ∧ -2147483648 ≤ x[i].f1 ∧ x[i].f1 ≤ 2147483648) := by simpa [nar] using hn
      rw [Bool.eq_false_iff.2 hn, Bool.false_and]
      refine ⟨fun h => (by cases h), fun _ => ?_⟩
      by_cases h1 : mn x[i].f0 x[i].f1 < -2147483648
      · rw [if_pos h1]
      · rw [if_neg h1, if_pos]
        unfold mn at h1
        unfold mx
        split at h1 <;> split <;> omega
theorem smax_ok (k : Nat) (x : List S43) (hl : x.length < 100000) (hk : x.length + 30 < k) (hx : x.all nar = true) : ∃ M, scan_Max.f k x = some (M, 0) ∧ 0 ≤ M ∧ M ≤ 2147483648 ∧ ∀ a ∈ x, nearB M a := by
  obtain ⟨M, h1, h2, h3, h4⟩ := (smax_run x hl x.length k 0 0 (by omega) (by omega) (by omega) (by omega)).1 (by simpa using hx)
  exact ⟨M, by simpa [scan_Max.f] using h1, h2, h3, by simpa using h4⟩
theorem smax_bad (k : Nat) (x : List S43) (hl : x.length < 100000) (hk : x.length + 30 < k) (hx : x.all nar = false) : scan_Max.f k x = some (0, 2) := by
  have h := (smax_run x hl x.length k 0 0 (by omega) (by omega) (by omega) (by omega)).2 (by simpa using hx)
  simpa [scan_Max.f] using h
/-- A length's log, or that there is none. -/
theorem flog_is (k : Nat) (hk : 20 ≤ k) (n : Nat) : flip_Log.f k (n : Int) = some (if n = 4 then (2, 0) else if n = 8 then (3, 0) else if n = 16 then (4, 0) else if n = 32 then (5, 0) else if n = 64 then (6, 0) else (0, 3)) := by
  obtain ⟨k, rfl⟩ : ∃ m, k = m + 7 := ⟨k - 7, by omega⟩
  have w2 : wrap64 (2 + 1) = 3 := by decide +kernel
  have w3 : wrap64 (3 + 1) = 4 := by decide +kernel
  have w4 : wrap64 (4 + 1) = 5 := by decide +kernel
  have w5 : wrap64 (5 + 1) = 6 := by decide +kernel
  have w6 : wrap64 (6 + 1) = 7 := by decide +kernel
  have p2 : shl .i64 1 2 = 4 := by decide +kernel
  have p3 : shl .i64 1 3 = 8 := by decide +kernel
  have p4 : shl .i64 1 4 = 16 := by decide +kernel
  have p5 : shl .i64 1 5 = 32 := by decide +kernel
  have p6 : shl .i64 1 6 = 64 := by decide +kernel
  have l7 : flip_Log.l0 (k + 2) (n : Int) 7 = some (0, 3) := by rw [flip_Log.l0, if_neg (by decide)]
  have l6 : flip_Log.l0 (k + 3) (n : Int) 6 = some (if n = 64 then (6, 0) else (0, 3)) := by
    rw [flip_Log.l0, if_pos (by decide), if_pos (by decide), p6, w6, l7]
    by_cases h : n = 64
    · rw [if_pos (by omega), if_pos h]
    · rw [if_neg (by omega), if_neg h]
  have l5 : flip_Log.l0 (k + 4) (n : Int) 5 = some (if n = 32 then (5, 0) else if n = 64 then (6, 0) else (0, 3)) := by
    rw [flip_Log.l0, if_pos (by decide), if_pos (by decide), p5, w5, l6]
    by_cases h : n = 32
    · rw [if_pos (by omega), if_pos h]
    · rw [if_neg (by omega), if_neg h]
  have l4 : flip_Log.l0 (k + 5) (n : Int) 4 = some (if n = 16 then (4, 0) else if n = 32 then (5, 0) else if n = 64 then (6, 0) else (0, 3)) := by
    rw [flip_Log.l0, if_pos (by decide), if_pos (by decide), p4, w4, l5]
    by_cases h : n = 16
    · rw [if_pos (by omega), if_pos h]
    · rw [if_neg (by omega), if_neg h]
  have l3 : flip_Log.l0 (k + 6) (n : Int) 3 = some (if n = 8 then (3, 0) else if n = 16 then (4, 0) else if n = 32 then (5, 0) else if n = 64 then (6, 0) else (0, 3)) := by
    rw [flip_Log.l0, if_pos (by decide), if_pos (by decide), p3, w3, l4]
    by_cases h : n = 8
    · rw [if_pos (by omega), if_pos h]
    · rw [if_neg (by omega), if_neg h]
  have l2 : flip_Log.l0 (k + 7) (n : Int) 2 = some (if n = 4 then (2, 0) else if n = 8 then (3, 0) else if n = 16 then (4, 0) else if n = 32 then (5, 0) else if n = 64 then (6, 0) else (0, 3)) := by
    rw [flip_Log.l0, if_pos (by decide), if_pos (by decide), p2, w2, l3]
    by_cases h : n = 4
    · rw [if_pos (by omega), if_pos h]
    · rw [if_neg (by omega), if_neg h]
  exact l2
theorem flog_pow (k : Nat) (hk : 20 ≤ k) (n : Nat) : (∃ L : Nat, 2 ≤ L ∧ L ≤ 6 ∧ n = 2 ^ L ∧ flip_Log.f k (n : Int) = some ((L : Int), 0)) ∨ flip_Log.f k (n : Int) = some (0, 3) := by
  rw [flog_is k hk n]
  by_cases h4 : n = 4
  · exact .inl ⟨2, by omega, by omega, h4, by rw [if_pos h4]; rfl⟩
  by_cases h8 : n = 8
  · exact .inl ⟨3, by omega, by omega, h8, by rw [if_neg h4, if_pos h8]; rfl⟩
  by_cases h16 : n = 16
  · exact .inl ⟨4, by omega, by omega, h16, by rw [if_neg h4, if_neg h8, if_pos h16]; rfl⟩
  by_cases h32 : n = 32
  · exact .inl ⟨5, by omega, by omega, h32, by rw [if_neg h4, if_neg h8, if_neg h16, if_pos h32]; rfl⟩
  by_cases h64 : n = 64
  · exact .inl ⟨6, by omega, by omega, h64, by rw [if_neg h4, if_neg h8, if_neg h16, if_neg h32, if_pos h64]; rfl⟩
  · exact .inr (by rw [if_neg h4, if_neg h8, if_neg h16, if_neg h32, if_neg h64])
/-- Why numbers may not be, or their table of roots. -/
theorem may16 (k : Nat) (x : List S43) (hl : x.length < 1000) (hk : 1100 ≤ k) :
    (∃ e, (e = 3 ∨ e = 2) ∧ dft_may.f k x = some ([], e)) ∨ ∃ L : Nat, 2 ≤ L ∧ L ≤ 6 ∧ x.length = 2 ^ L ∧ x.all nar = true ∧ dft_may.f k x = some (tabR L 40, 0) := by
  unfold dft_may.f
  rcases flog_pow k (by omega) x.length with ⟨L, h2, h6, hn, h⟩ | h
  · rw [h]
    simp only [Option.bind_some, if_true]
    cases hx : x.all nar with
    | false =>
      rw [smax_bad k x (by omega) (by omega) hx]
      simp only [Option.bind_some]
      exact .inl ⟨2, .inr rfl, by rw [if_neg (by decide)]⟩
    | true =>
      obtain ⟨M, hM, _⟩ := smax_ok k x (by omega) (by omega) hx
      rw [hM]
      simp only [Option.bind_some, if_true]
      rw [table_is, if_pos (show mayB L 40 = true from decide_eq_true (by omega))]
      exact .inr ⟨L, h2, h6, hn, by simp, rfl⟩
  · rw [h]
    simp only [Option.bind_some]
    exact .inl ⟨3, .inl rfl, by rw [if_neg (by decide)]⟩
theorem alive16 : headroomlaw16_alive.f 100 = some true := by decide +kernel
theorem alive_up : ∀ j, headroomlaw16_alive.f (100 + j) = some true
  | 0 => alive16
  | j + 1 => headroomlaw16_alive.mono (100 + j) true (alive_up j)
theorem alive_at (k : Nat) (hk : 100 ≤ k) : headroomlaw16_alive.f k = some true := by
  have := alive_up (k - 100)
  rwa [show 100 + (k - 100) = k by omega] at this
/-- A number's place at the table, and the root there. -/
theorem root16 (L j : Nat) (k : Int) (inv : Bool) (h2 : 2 ≤ L) (h6 : L ≤ 6) (hj : j < 2 ^ L) (hk0 : 0 ≤ k) (hk1 : k < 2 ^ L) :
    dft_bin.root (2 ^ L) (tabR L 40) k inv j = some ((rootV L (j * k % 2 ^ L) 40).1, if inv = true then -(rootV L (j * k % 2 ^ L) 40).2 else (rootV L (j * k % 2 ^ L) 40).2) := by
  have hp := Go.Proofs.Ytmglkelmdcpinaa.M.pow_pos L
  have hp6 : (2 : Int) ^ L ≤ 64 := Go.Proofs.Ytmglkelmdcpinaa.M.pow_le (show L ≤ 6 by omega)
  have hpn : (2 : Int) ^ L = ((2 ^ L : Nat) : Int) := by norm_cast
  have hjk : 0 ≤ (j : Int) * k ∧ (j : Int) * k ≤ 64 * 64 := by
    refine ⟨Int.mul_nonneg (by omega) hk0, ?_⟩
    exact Int.mul_le_mul (by omega) (by omega) hk0 (by decide)
  have hi : bits .and .i64 (wrap64 ((j : Int) * k)) (wrap64 (((2 ^ L : Nat) : Int) - 1)) = (j : Int) * k % 2 ^ L := by
    rw [wrap64_id (x := (j : Int) * k) (by omega) (by omega), ← hpn, wrap64_id (x := (2 : Int) ^ L - 1) (by omega) (by omega), and_mask _ L (by omega)]
  have h0 : 0 ≤ (j : Int) * k % 2 ^ L := Int.emod_nonneg _ (by omega)
  have h1 : (j : Int) * k % 2 ^ L < 2 ^ L := Int.emod_lt_of_pos _ hp
  unfold dft_bin.root
  rw [hi]
  generalize (j : Int) * k % 2 ^ L = r at h0 h1
  obtain ⟨r, rfl⟩ : ∃ n : Nat, r = n := ⟨r.toNat, by omega⟩
  have hlen : (tabR L 40).length = 2 ^ L := by simp [tabR]
  have hr : r < 2 ^ L := by rw [hpn] at h1; exact_mod_cast h1
  rw [if_pos h0, hlen, if_pos (by rw [← hpn]; exact h1), rd_get _ r (by rw [hlen]; exact hr)]
  have hg : (tabR L 40)[r]'(by rw [hlen]; exact hr) = tabV L 40 r := by simp [tabR]
  rw [hg]
  cases inv with
  | false => rfl
  | true =>
    have hs := root_small L r 40 h2 h6 h0 h1
    simp only [if_true, tabV]
    unfold cx_Conj.f
    rw [if_pos (within_small _ _ hs)]
    simp only [Option.bind_some]
    rw [wrap64_id (by omega) (by omega)]
/-- Bins hang on their roots alone. -/
theorem go_same (x l : List S43) (k k' : Int) (inv inv' : Bool) (n : Nat) (h : ∀ j, j < n → dft_bin.root x.length l k inv j = dft_bin.root x.length l k' inv' j) : dft_bin.go x l k inv n = dft_bin.go x l k' inv' n := by
  induction n with
  | zero => rfl
  | succ n ih => rw [dft_bin.go, dft_bin.go, ih (fun j hj => h j (by omega)), h n (by omega)]
theorem down_is (s0 s1 : Int) (h0 : -9223372036854775808 ≤ s1) (h1 : s1 < 9223372036854775808) : dft_down.f s0 s1 = some (rsh (wrap64 (s0 + rsh s1 16 0)) 16 0) := by
  unfold dft_down.f
  rw [shift_some s1 16 0 h0 h1 (by decide) (by decide) (by simp)]
  simp only [Option.bind_some]
  have hw : -9223372036854775808 ≤ wrap64 (s0 + rsh s1 16 0) ∧ wrap64 (s0 + rsh s1 16 0) < 9223372036854775808 := by unfold wrap64; omega
  rw [show (16 : Int).toNat = 16 from rfl, shift_some _ 16 0 hw.1 hw.2 (by decide) (by decide) (by simp)]
  rfl
/-- A product's parts at a root of 2^40, and of 0: exactly. -/
theorem put_one (s : Int × Int) (a : Int) (ha : -2147483648 ≤ a ∧ a ≤ 2147483648) (h0 : -2305843009213693952 ≤ s.1 ∧ s.1 ≤ 2305843009213693952) (h1 : 0 ≤ s.2 ∧ s.2 ≤ 4611686018427387904) : dft_bin.put s a 1099511627776 = (s.1 + a / 65536 * 1099511627776, s.2 + a % 65536 * 1099511627776) := by
  have hb : bits .and .i64 a 65535 = a % 65536 := and_mask a 16 (by decide)
  unfold dft_bin.put
  rw [hb, wrap64_id (x := a / 65536 * 1099511627776) (by omega) (by omega), wrap64_id (x := a % 65536 * 1099511627776) (by omega) (by omega), wrap64_id (by omega) (by omega), wrap64_id (by omega) (by omega)]
theorem put_none (s : Int × Int) (a : Int) (h0 : -4611686018427387904 ≤ s.1 ∧ s.1 ≤ 4611686018427387904) (h1 : 0 ≤ s.2 ∧ s.2 ≤ 6917529027641081856) : dft_bin.put s a 0 = s := by
  unfold dft_bin.put
  rw [Int.mul_zero, Int.mul_zero, show wrap64 0 = 0 by decide +kernel, Int.add_zero, Int.add_zero, wrap64_id (by omega) (by omega), wrap64_id (by omega) (by omega)]
def sumS (x : List S43) : Nat → Int × Int
  | 0 => (0, 0)
  | m + 1 => ((sumS x m).1 + (rd_T43 x m).f0, (sumS x m).2 + (rd_T43 x m).f1)
theorem nar_get (x : List S43) (hx : x.all nar = true) (j : Nat) (hj : j < x.length) : (-2147483648 ≤ (rd_T43 x (j : Int)).f0 ∧ (rd_T43 x (j : Int)).f0 ≤ 2147483648) ∧ -2147483648 ≤ (rd_T43 x (j : Int)).f1 ∧ (rd_T43 x (j : Int)).f1 ≤ 2147483648 := by
  have h := (List.all_eq_true.1 hx) _ (List.getElem_mem hj)
  simp only [nar, decide_eq_true_eq] at h
  rw [rd_get x j hj]
  omega
theorem zero_go (x l : List S43) (hn : x.length ≤ 64) (hx : x.all nar = true) (hr : ∀ j, j < x.length → dft_bin.root x.length l 0 false j = some (1099511627776, 0)) : ∀ m : Nat, m ≤ x.length →
    ∃ s, dft_bin.go x l 0 false m = some s ∧ (s.1.1 * 65536 + s.1.2 = 1099511627776 * (sumS x m).1 ∧ -((m : Int) * 36028797018963968) ≤ s.1.1 ∧ s.1.1 ≤ (m : Int) * 36028797018963968 ∧ 0 ≤ s.1.2 ∧ s.1.2 ≤ (m : Int) * 72057594037927936) ∧
      (s.2.1 * 65536 + s.2.2 = 1099511627776 * (sumS x m).2 ∧ -((m : Int) * 36028797018963968) ≤ s.2.1 ∧ s.2.1 ≤ (m : Int) * 36028797018963968 ∧ 0 ≤ s.2.2 ∧ s.2.2 ≤ (m : Int) * 72057594037927936) := by
  intro m
  induction m with
  | zero => intro _; exact ⟨((0, 0), (0, 0)), rfl, by simp [sumS], by simp [sumS]⟩
  | succ m ih =>
    intro hm
    obtain ⟨⟨⟨p, q⟩, ⟨u, v⟩⟩, hs, ⟨e1, e2, e3, e4, e5⟩, f1, f2, f3, f4, f5⟩ := ih (by omega)
    have ha := nar_get x hx m (by omega)
    dsimp only at e1 e2 e3 e4 e5 f1 f2 f3 f4 f5
    rw [dft_bin.go, hs]
    simp only [Option.bind_some]
    rw [hr m (by omega)]
    simp only [Option.bind_some]
    simp only [sumS]
    generalize rd_T43 x (m : Int) = a at *
    generalize sumS x m = T at *
    obtain ⟨a0, a1⟩ := a
    obtain ⟨T0, T1⟩ := T
    dsimp only at *
    rw [put_one (p, q) a0 ha.1 ⟨by dsimp only; omega, by dsimp only; omega⟩ ⟨by dsimp only; omega, by dsimp only; omega⟩]
    rw [put_none _ _ ⟨by dsimp only; omega, by dsimp only; omega⟩ ⟨by dsimp only; omega, by dsimp only; omega⟩]
    rw [put_none (u, v) a0 ⟨by dsimp only; omega, by dsimp only; omega⟩ ⟨by dsimp only; omega, by dsimp only; omega⟩]
    rw [put_one (u, v) a1 ha.2 ⟨by dsimp only; omega, by dsimp only; omega⟩ ⟨by dsimp only; omega, by dsimp only; omega⟩]
    refine ⟨_, rfl, ?_, ?_⟩
    · dsimp only
      omega
    · dsimp only
      omega
theorem down_zero (s0 s1 T : Int) (h : s0 * 65536 + s1 = 1099511627776 * T) (h0 : -2305843009213693952 ≤ s0 ∧ s0 ≤ 2305843009213693952) (h1 : 0 ≤ s1 ∧ s1 ≤ 4611686018427387904) : dft_down.f s0 s1 = some (256 * T) := by
  have hr : ∀ y : Int, rsh y 16 0 = y / 65536 := fun y => by
    unfold rsh
    rw [if_neg (by decide), if_pos rfl]
    rfl
  rw [down_is s0 s1 (by omega) (by omega), hr, hr, wrap64_id (by omega) (by omega)]
  congr 1
  omega
end Go.Proofs.Ytmglkelmdcpinaa.G
/- A slice of complex numbers that comes in, read as a list of pairs of whole numbers of 64 bits. Conditions: it reads as data. -/
namespace Go.Proofs.Ytmglkelmdcpinaa.G
open Go.RowKit Go.ChangeShapes Go.WideShapes Go.Proofs.YtmglkelmdcpinaaW.PrintWords

def wfCx (x : S43) : Prop := (Lit.int .i64 x.f0).wf = true ∧ (Lit.int .i64 x.f1).wf = true
theorem C_of_cells {w : World} {A : Option Addr} (l : List S43) (hb : l.length ≤ 9223372036854775807) (h : 0 < l.length → ∃ ad, A = some ad ∧ ∀ i, i < l.length → w.cell? (ad.add (i * 2)) = some (.int .i64 (l.getD i z43).f0) ∧ w.cell? (ad.add (i * 2 + 1)) = some (.int .i64 (l.getD i z43).f1)) :
    Kd.C k43 w A l.length l := by
  refine ⟨rfl, hb, fun hn => ?_⟩
  obtain ⟨ad, e, hc⟩ := h hn
  refine ⟨ad, e, fun j p hj => ?_⟩
  obtain ⟨hj', rfl⟩ := List.getElem?_eq_some_iff.1 hj
  refine ⟨[.int .i64 l[j].f0, .int .i64 l[j].f1], rfl, k43_mk w l[j], fun i u hu => ?_⟩
  have hg : l.getD j z43 = l[j] := by rw [List.getD_eq_getElem?_getD, List.getElem?_eq_getElem hj']; rfl
  obtain ⟨h0, h1⟩ := hc j hj'
  rw [hg] at h0 h1
  match i, hu with
  | 0, hu => simp at hu; subst hu; exact h0
  | 1, hu => simp at hu; subst hu; exact h1

theorem open_cx {H : Type} {enc : TypeId × Value → H} {W : World} {spare : Nat → Bool} {held : Bool} {a : Option Addr} {len cap : Nat} {d : DataW H} {ps : List MemPlace}
    (h : DataW.Trod enc Try.prog W 0 spare held 33 (.slice a len cap) d ps) :
    ∃ l : List S43, l.length = len ∧ len ≤ cap ∧ cap ≤ maxLen ∧ Kd.C k43 W a l.length l ∧ ∀ x ∈ l, wfCx x := by
  obtain ⟨fuel, hf⟩ := h
  rcases Go.Deep.open_slice_pairs Try.underlying33 Try.underlying43 (by kernel_rfl) rfl rfl (by kernel_rfl) (by kernel_rfl) hf with ⟨hcs, _⟩ | ⟨ad, len', cap', m, n, V0, V1, D0, D1, P0, P1, hcs, _, hl, hm, hmm, _, hc⟩
  · simp [Value.cells] at hcs
    obtain ⟨rfl, rfl, rfl⟩ := hcs
    exact ⟨[], rfl, Nat.le_refl _, by unfold maxLen; omega, C_of_cells [] (by simp) (by simp), by simp⟩
  · simp [Value.cells] at hcs
    obtain ⟨rfl, rfl, rfl⟩ := hcs
    have hlm : len ≤ m := by rw [hmm]; split <;> omega
    have hV : ∀ i, i < len → ∃ x : S43, V0 i = .int .i64 x.f0 ∧ V1 i = .int .i64 x.f1 ∧ wfCx x := by
      intro i hi
      obtain ⟨_, _, g0, g1⟩ := hc i (by omega)
      obtain ⟨n0, e0, _, w0⟩ := DataW.trod_int Try.underlying3 g0
      obtain ⟨n1, e1, _, w1⟩ := DataW.trod_int Try.underlying3 g1
      simp at e0 e1
      exact ⟨⟨n0, n1⟩, e0, e1, w0, w1⟩
    obtain ⟨f, hf⟩ : ∃ f : Nat → S43, ∀ i, i < len → V0 i = .int .i64 (f i).f0 ∧ V1 i = .int .i64 (f i).f1 ∧ wfCx (f i) := by
      refine ⟨fun i => if hi : i < len then Classical.choose (hV i hi) else z43, fun i hi => ?_⟩
      simp only [dif_pos hi]
      exact Classical.choose_spec (hV i hi)
    have hlen : ((List.range len).map f).length = len := by simp
    have hmax : len ≤ 9223372036854775807 := by unfold maxLen at hm; omega
    refine ⟨(List.range len).map f, hlen, hl, hm, C_of_cells _ (by rw [hlen]; exact hmax) (fun hn => ⟨ad, rfl, fun i hi => ?_⟩), ?_⟩
    · rw [hlen] at hi
      have hg : ((List.range len).map f).getD i z43 = f i := by simp [List.getD_eq_getElem?_getD, hi]
      obtain ⟨c0, c1, _, _⟩ := hc i (by omega)
      obtain ⟨e0, e1, _⟩ := hf i hi
      rw [hg, c0, c1, e0, e1]
      exact ⟨rfl, rfl⟩
    · intro x hx
      obtain ⟨i, hi, rfl⟩ := List.mem_map.1 hx
      exact (hf i (List.mem_range.1 hi)).2.2
end Go.Proofs.Ytmglkelmdcpinaa.G
/- DftTurns' call answers true at any numbers of 64 bits, and leaves memory that was there as it was. Conditions: none. -/
namespace Go.Proofs.Ytmglkelmdcpinaa.G
open Go.RowKit Go.Proofs.YtmglkelmdcpinaaW.PrintWords Go.Proofs.Ytmglkelmdcpinaa.M
set_option linter.unusedVariables false
set_option linter.unusedSimpArgs false
theorem sumS_small (x : List S43) (hx : x.all nar = true) (hn : x.length ≤ 64) : ∀ m : Nat, m ≤ x.length → (-((m : Int) * 2147483648) ≤ (sumS x m).1 ∧ (sumS x m).1 ≤ (m : Int) * 2147483648) ∧ -((m : Int) * 2147483648) ≤ (sumS x m).2 ∧ (sumS x m).2 ≤ (m : Int) * 2147483648
  | 0, _ => by simp [sumS]
  | m + 1, h => by
    have ih := sumS_small x hx hn m (by omega)
    have ha := nar_get x hx m (by omega)
    simp only [sumS]
    omega
theorem turns_l0 (x : List S43) (hx : x.all nar = true) (hn : x.length ≤ 64) (b0 b1 : Int) : ∀ (j K i : Nat), i + j = x.length → 200 + j < K →
    headroomlaw16_DftTurns.l0 K 0 0 0 x (x.length : Int) i b0 b1 b0 b1 b0 b1 (256 * (sumS x x.length).1) (256 * (sumS x x.length).2) (sumS x i).1 (sumS x i).2 = some true := by
  intro j
  induction j with
  | zero =>
    intro K i hi hK
    obtain ⟨K, rfl⟩ : ∃ k, K = k + 1 := ⟨K - 1, by omega⟩
    obtain rfl : i = x.length := by omega
    have hs := sumS_small x hx hn x.length (by omega)
    rw [headroomlaw16_DftTurns.l0, if_neg (by omega), alive_at K (by omega)]
    simp only [Option.bind_some, if_true, beq_self_eq_true, Bool.and_self]
    rw [wrap64_id (x := (sumS x x.length).1 * 256) (by omega) (by omega), wrap64_id (x := (sumS x x.length).2 * 256) (by omega) (by omega), Int.mul_comm 256, Int.mul_comm 256]
    simp
  | succ j ih =>
    intro K i hi hK
    obtain ⟨K, rfl⟩ : ∃ k, K = k + 1 := ⟨K - 1, by omega⟩
    have hs := sumS_small x hx hn (i + 1) (by omega)
    have h := ih K (i + 1) (by omega) (by omega)
    simp only [sumS] at hs h
    rw [headroomlaw16_DftTurns.l0, if_pos (by omega), if_pos (by omega), if_pos (by omega), step_on i (by omega), wrap64_id (x := (sumS x i).1 + (rd_T43 x i).f0) (by omega) (by omega), wrap64_id (x := (sumS x i).2 + (rd_T43 x i).f1) (by omega) (by omega)]
    exact h
theorem and_len (L : Nat) (k : Int) (h2 : 2 ≤ L) (h6 : L ≤ 6) : bits .and .i64 k (wrap64 (((2 ^ L : Nat) : Int) - 1)) = k % 2 ^ L := by
  have hp := Go.Proofs.Ytmglkelmdcpinaa.M.pow_pos L
  have hp6 : (2 : Int) ^ L ≤ 64 := Go.Proofs.Ytmglkelmdcpinaa.M.pow_le (show L ≤ 6 by omega)
  have hpn : (2 : Int) ^ L = ((2 ^ L : Nat) : Int) := by norm_cast
  rw [← hpn, wrap64_id (x := (2 : Int) ^ L - 1) (by omega) (by omega), and_mask _ L (by omega)]
theorem wrap_in (x : Int) : -9223372036854775808 ≤ wrap64 x ∧ wrap64 x < 9223372036854775808 := by unfold wrap64; omega
theorem go_total (x l : List S43) (k : Int) (inv : Bool) (h : ∀ j, j < x.length → ∃ r, dft_bin.root x.length l k inv j = some r) : ∀ m : Nat, m ≤ x.length → ∃ s, dft_bin.go x l k inv m = some s ∧ (-9223372036854775808 ≤ s.1.2 ∧ s.1.2 < 9223372036854775808) ∧ -9223372036854775808 ≤ s.2.2 ∧ s.2.2 < 9223372036854775808
  | 0, _ => ⟨((0, 0), (0, 0)), rfl, by decide, by decide⟩
  | m + 1, hm => by
    obtain ⟨s, hs, _⟩ := go_total x l k inv h m (by omega)
    obtain ⟨r, hr⟩ := h m (by omega)
    rw [dft_bin.go, hs]
    simp only [Option.bind_some]
    rw [hr]
    simp only [Option.bind_some]
    refine ⟨_, rfl, ?_, ?_⟩
    · simp only [dft_bin.put]
      exact ⟨(wrap_in _).1, (wrap_in _).2⟩
    · simp only [dft_bin.put]
      exact ⟨(wrap_in _).1, (wrap_in _).2⟩
theorem bin_total (L : Nat) (h2 : 2 ≤ L) (h6 : L ≤ 6) (x : List S43) (hn : x.length = 2 ^ L) (k : Int) (hk0 : 0 ≤ k) (hk1 : k < 2 ^ L) (inv : Bool) : ∃ p, dft_bin.f x (tabR L 40) k inv = some p := by
  have hp6 : 2 ^ L ≤ 64 := by
    have := Nat.pow_le_pow_right (n := 2) (by decide) h6
    simpa using this
  obtain ⟨s, hs, b1, b2⟩ := go_total x (tabR L 40) k inv (fun j hj => ⟨_, by rw [hn] at hj ⊢; exact root16 L j k inv h2 h6 hj hk0 hk1⟩) x.length (Nat.le_refl _)
  unfold dft_bin.f
  rw [if_pos (by omega), hs]
  simp only [Option.bind_some]
  rw [down_is _ _ b1.1 b1.2, down_is _ _ b2.1 b2.2]
  exact ⟨_, rfl⟩
/-- The opposite place's inverse bin is the bin. -/
theorem back_bin (L : Nat) (h2 : 2 ≤ L) (h6 : L ≤ 6) (x : List S43) (hn : x.length = 2 ^ L) (k : Int) : dft_bin.f x (tabR L 40) ((-k) % 2 ^ L) true = dft_bin.f x (tabR L 40) (k % 2 ^ L) false := by
  have hp := Go.Proofs.Ytmglkelmdcpinaa.M.pow_pos L
  unfold dft_bin.f
  rw [go_same x (tabR L 40) ((-k) % 2 ^ L) (k % 2 ^ L) true false x.length ?_]
  intro j hj
  rw [hn] at hj ⊢
  rw [root16 L j _ true h2 h6 hj (Int.emod_nonneg _ (by omega)) (Int.emod_lt_of_pos _ hp), root16 L j _ false h2 h6 hj (Int.emod_nonneg _ (by omega)) (Int.emod_lt_of_pos _ hp)]
  have e1 : (j : Int) * ((-k) % 2 ^ L) % 2 ^ L = (-((j : Int) * (k % 2 ^ L) % 2 ^ L)) % 2 ^ L := by
    have a : (j : Int) * ((-k) % 2 ^ L) % 2 ^ L = ((j : Int) * (-k)) % 2 ^ L := by rw [Int.mul_emod, Int.emod_emod, ← Int.mul_emod]
    have b : (j : Int) * (k % 2 ^ L) % 2 ^ L = ((j : Int) * k) % 2 ^ L := by rw [Int.mul_emod, Int.emod_emod, ← Int.mul_emod]
    rw [a, b, Int.mul_neg]
    generalize (j : Int) * k = y
    have h := Int.mul_ediv_add_emod y (2 ^ L)
    have : -y = -(y % 2 ^ L) + 2 ^ L * (-(y / 2 ^ L)) := by rw [Int.mul_neg]; omega
    rw [this, Int.add_mul_emod_self_left]
  rw [e1, back_is L _ 40 h2 h6 (by decide) (Int.emod_nonneg _ (by omega)) (Int.emod_lt_of_pos _ hp)]
  simp
theorem zero_bin (L : Nat) (h2 : 2 ≤ L) (h6 : L ≤ 6) (x : List S43) (hn : x.length = 2 ^ L) (hx : x.all nar = true) : dft_bin.f x (tabR L 40) 0 false = some (256 * (sumS x x.length).1, 256 * (sumS x x.length).2) := by
  have hp := Go.Proofs.Ytmglkelmdcpinaa.M.pow_pos L
  have hp6 : 2 ^ L ≤ 64 := by
    have := Nat.pow_le_pow_right (n := 2) (by decide) h6
    simpa using this
  have hr : ∀ j, j < x.length → dft_bin.root x.length (tabR L 40) 0 false j = some (1099511627776, 0) := by
    intro j hj
    rw [hn] at hj ⊢
    rw [root16 L j 0 false h2 h6 hj (by decide) hp, Int.mul_zero, Int.zero_emod, one_is L 40 h2 h6 (by decide)]
    rfl
  obtain ⟨⟨⟨p, q⟩, ⟨u, v⟩⟩, hs, ⟨e1, e2, e3, e4, e5⟩, f1, f2, f3, f4, f5⟩ := zero_go x (tabR L 40) (by omega) hx hr x.length (Nat.le_refl _)
  dsimp only at e1 e2 e3 e4 e5 f1 f2 f3 f4 f5
  unfold dft_bin.f
  rw [if_pos (by omega), hs]
  simp only [Option.bind_some]
  rw [down_zero p q _ e1 (by omega) (by omega), down_zero u v _ f1 (by omega) (by omega)]
  rfl
theorem headroomlaw16_DftTurns.pure (l0 : List S43) (a1 : Int) : headroomlaw16_DftTurns.f 2000 l0 a1 = some true := by
  have m0 : mn (l0.length : Int) 70 = ((min l0.length 70 : Nat) : Int) := by unfold mn; split <;> omega
  unfold headroomlaw16_DftTurns.f
  rw [m0, if_pos (by omega), if_pos (by omega)]
  simp only [Option.bind_some, Int.toNat_natCast]
  have hlen : (l0.take (min l0.length 70)).length ≤ 70 := by simp; omega
  generalize l0.take (min l0.length 70) = x at hlen
  have k0 := tmod_range a1 1099511627776 (by decide)
  generalize a1.tmod 1099511627776 = k at k0
  rcases may16 2000 x (by omega) (by omega) with ⟨e, he, hm⟩ | ⟨L, h2, h6, hn, hx, hm⟩
  · unfold dft_Bin.f
    rw [hm]
    simp only [Option.bind_some]
    rw [if_neg (by omega)]
    simp only [Option.bind_some]
    rw [if_neg (by omega), alive_at 2000 (by decide)]
    rfl
  · have hp := Go.Proofs.Ytmglkelmdcpinaa.M.pow_pos L
    have hp6 : (2 : Int) ^ L ≤ 64 := Go.Proofs.Ytmglkelmdcpinaa.M.pow_le (show L ≤ 6 by omega)
    have hpn : (2 : Int) ^ L = ((2 ^ L : Nat) : Int) := by norm_cast
    have hn64 : x.length ≤ 64 := by rw [hpn] at hp6; omega
    obtain ⟨⟨b0, b1⟩, hb⟩ := bin_total L h2 h6 x hn (k % 2 ^ L) (Int.emod_nonneg _ (by omega)) (Int.emod_lt_of_pos _ hp) false
    have hz := zero_bin L h2 h6 x hn hx
    have hback := (back_bin L h2 h6 x hn k).trans hb
    have hB : ∀ (k' : Int) (inv : Bool) (p : Int × Int), dft_bin.f x (tabR L 40) (k' % 2 ^ L) inv = some p → dft_Bin.f 2000 x k' inv = some (p.1, p.2, 0) := by
      intro k' inv p h
      unfold dft_Bin.f
      rw [hm]
      simp only [Option.bind_some, if_true]
      rw [hn, and_len L k' h2 h6, h]
      rfl
    have w1 : wrap64 (k + (x.length : Int)) = k + 2 ^ L := by rw [hn, ← hpn]; exact wrap64_id (by omega) (by omega)
    have w2 : wrap64 (-k) = -k := wrap64_id (by omega) (by omega)
    rw [hB k false (b0, b1) hb]
    simp only [Option.bind_some, if_true]
    rw [w1, w2, hB (k + 2 ^ L) false (b0, b1) (by rw [Int.add_emod_right]; exact hb), hB (-k) true (b0, b1) hback, hB 0 false _ (by rw [Int.zero_emod]; exact hz)]
    simp only [Option.bind_some]
    exact turns_l0 x hx hn64 b0 b1 x.length 2000 0 (by omega) (by omega)
theorem headroomlaw16_DftTurns.law (a0 : Option Addr) (c0 : Nat) (l0 : List S43) (a1 : Int) (w : World) (hr0 : Kd.C k43 w a0 l0.length l0) (hc0 : l0.length ≤ c0) (hm0 : c0 ≤ maxLen) (hw0 : ∀ x ∈ l0, wfCx x) (w1 : (Lit.int .i64 a1).wf = true) :
    Calls Try.prog 18 #[.slice a0 l0.length c0, .int .i64 a1] w fun e w' => e = .returned (.bool true) ∧ Below w.heap.size w w' :=
  headroomlaw16_DftTurns.calls 2000 a0 c0 l0 a1 true w hr0 hc0 (headroomlaw16_DftTurns.pure l0 a1)
end Go.Proofs.Ytmglkelmdcpinaa.G
